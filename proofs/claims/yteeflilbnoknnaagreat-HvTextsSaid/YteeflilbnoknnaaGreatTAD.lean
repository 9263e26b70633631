import Derived.Test.YteeflilbnoknnaaGreatTAC
/-! What the statement leans on: texts joined and shortened by a program of mine. -/
set_option linter.unusedVariables false
set_option linter.unusedSimpArgs false
open Go renaming World->A1,Addr->A3,Value->A9,MapEntry->AC
open Go.Proofs.Tryz renaming prog->A2
open Eq renaming mpr->A_
open Go.IntKind renaming i64->AX
open List renaming range->B1,getElem?_eq_some_iff->B3,getElem?_set_ne->B4,length_set->B5,length_cons->Bc,mem_append_right->Bg,getElem?_set_self->Bo,mem_of_getElem?->Bp,getElem?_eq_getElem->Bq,replicate->C7,sublist_cons_self->DB,length_map->DS,getD_eq_getElem?_getD->Di,perm_middle->Do,append_assoc->E4,mem_cons->E5,getElem?_append_left->EA,append_nil->EB,mem_or_eq_of_mem_set->Eo,length_append->Es,mem_cons_self->Et,mem_append_left->Ev,not_mem_nil->FS,mem_singleton->GS,length_take->Gi,drop_of_length_le->H2,take_add_one->H4,sublist_append_left->H5,flatMap_append->H6,length_range->H7,mem_cons_of_mem->H9,drop_eq_getElem_cons->HB,length_eq_zero_iff->HT,findIdx?_eq_some_iff_getElem->Hb,ext_getElem?->Hc,length_pos_iff->Hf,length_drop->Ho,getElem?_map->Hq,getElem?_take_of_lt->Hr,getElem?_drop->Ht,take_of_length_le->Hu,all_eq_false->Hz,all_eq_true->I1,getElem?_of_mem->I2,mem_append->I_,take_append_drop->IG,range_succ->IR,foldl_cons->Ia,length_reverse->Ib,getElem?_append_right->Ic,findIdx?_eq_none_iff->Ih,eq_of_mem_replicate->In
open Int renaming toNat->B2,le_refl->ED,eq_ofNat_of_zero_le->Ix
open Nat renaming le_refl->BA,mul_one->Dn,eq_of_beq_eq_true->EE,ne_of_beq_eq_false->EF,zero_add->HH
open Prod.mk renaming injEq->Bb
open Option.some renaming injEq->Bd
open List.Sublist renaming refl->Br
open Decidable renaming rec->DA
open Go.Value renaming func->EH,nilFunc->HL,pointer->J3
open Bool renaming or_eq_true->Ey,or_eq_false_iff->HO,and_eq_true->K1
open List.Perm renaming swap->HP,cons->HQ
namespace Go.Proofs.YteeflilbnoknnaaGreat
set_option maxRecDepth 100000
open Go.RX
abbrev TQ:Sh:= .el (.one (.qq 311 2))
abbrev BK:Sh:= .el (.one (.qq 362 3))
noncomputable def N0:dn A2:={M0 with sh:=[(251,TQ),(334,BK)],quiet:=[17,339,78,123,166,81,288,168,338]}
theorem FP (p:Option A3) (w:A1) (a:Int->A1->Prop):(aJ N0 (λ_=>[]) 166 [ah p] w a)=(
 ((!p.isNone)=true->p.isSome=true)/\((!p.isNone)=true->p.isSome=true)/\aj w (some !p.isNone) (ae p 0) jW λx=>aF (p.isNone||x.isNone) (ak w (a 10)) (XM p 4 w λx=>aF x (ak w (a 6)) (ak w (a 0)))):=by kernel_rfl
theorem K4 (p:Option A3) (w:A1) (a:Int->A1->Prop):(aJ N0 (λ_=>[]) 81 [ah p] w a)=(
 ∃(x:Int),ag A2 166 [ah p] w (aa x)/\aF (x != 0) (ak w (a (-1))) (ee p 3 w λx=>ak w (a x))):=by kernel_rfl
theorem FQ (p f r:Int) (w:A1) (a:Int->A1->Prop):(aJ N0 (λ_=>[]) 288 [aa p,aa f,aa r] w a)=(
 aF (decide (p<0)||decide (p>=65536)||decide (f<0)||decide (f>=4096)) (ak w (a 2)) (aF (decide (r<1)||decide (r>7)) (ak w (a 7)) (ak w (a 0)))):=by kernel_rfl
theorem FR (f:Int) (w:A1) (c:(Bool×Int×Bool×Int×Unit)->A1->Prop):(bO N0 (λ_=>[]) 338 [aa f] w c)=(
 aA w ⟨[.bool false,aa 0,.bool false,aa 0]⟩ 301 λb a=>aw a (ad b) [.bool true,aa 0,.bool false,aa f] λa=>ak a λw1=>aj w1 none (ad b) fW λ(x:Bool×Int×Bool×Int×Unit)=>c (x.1,x.2.1,x.2.2.1,x.2.2.2.1,()) w1):=by kernel_rfl
theorem FU (p d e f:Int) (ep:Bool) (er:Int) (el:Bool) (ef:Int) (w:A1) (c:Int->A1->Prop):(aJ N0 (λ_=>[]) 168 [aa p,.agg ⟨[aa d,aa e,aa f]⟩,.agg ⟨[.bool ep,aa er,.bool el,aa ef]⟩] w c)=(
 aA w ⟨[aa d,aa e,aa f]⟩ 299 λb a=>aA a ⟨[.bool ep,aa er,.bool el,aa ef]⟩ 301 λg a=>true=true/\aQ a (ae (ad b) 1) λx=>aF (x==1) (true=true/\aQ a (ae (ad g) 3) λx=>True/\ff 1≠0/\ak a λw1=>c (aC .i64 x (gu p (ff 1))) w1) (true=true/\aQ a (ae (ad g) 3) λx=>ak a (c x))):=by kernel_rfl
theorem I4 (p:Option A3) (i:Int) (w:A1) (c:(Bool×Int×Bool×Int×Unit)->A1->Prop):(bO N0 (λ_=>[]) 252 [ah p,aa i] w c)=(
 aA w ⟨[.bool false,aa 0,.bool false,aa 0]⟩ 301 λb a=>cb p 0 a λx=>aB A2 221 (.bH [.one (.int .u64),.one (.int .i64)]) [ah x,aa i] a λ(x:Int×Int×Unit) a=>U (B x.1)=x.1/\aA a ⟨[.bool false,aa 0,.bool false,aa 0]⟩ 301 λd a=>aw a (ad d) [.bool (vY (B x.1).toNat),aa (xI (B x.1).toNat),.bool (xJ (B x.1).toNat),aa (vt (B x.1).toNat)] λa=>aj a none (ad d) fW λ(x:Bool×Int×Bool×Int×Unit)=>aw a (ad b) [.bool x.1,aa x.2.1,.bool x.2.2.1,.int
 .i64 x.2.2.2.1] λa=>ak a λw1=>aj w1 none (ad b) fW λ(x:Bool×Int×Bool×Int×Unit)=>c (x.1,x.2.1,x.2.2.1,x.2.2.2.1,()) w1):=by kernel_rfl
theorem NW (p:Option A3) (i:Int) (ep:Bool) (er:Int) (el:Bool) (ef:Int) (w:A1) (c:Unit->A1->Prop):(aJ N0 (λ_=>[]) 294 [ah p,aa i,.agg ⟨[.bool ep,aa er,.bool el,aa ef]⟩] w c)=(
 aA w ⟨[.bool ep,aa er,.bool el,aa ef]⟩ 301 λb a=>aj a none (ad b) fW λ(x:Bool×Int×Bool×Int×Unit)=>True/\cb p 0 a λd=>aB A2 216 (.el aT) [ah d,aa i,aq (tu x.1 x.2.1 x.2.2.1 x.2.2.2.1)] a λ(x:Int) a=>ak a (c ())):=by kernel_rfl
theorem NX (p:Option A3) (pg:Int) (w:A1) (c:Option A3×Option A3×Unit->A1->Prop):(aJ N0 (λ_=>[]) 251 [ah p,aa pg] w c)=(
 aA w ⟨[ah p]⟩ 171 λb a=>aA a ⟨[aa pg]⟩ 3 λd a=>ak a (c (some ⟨b,0,none⟩,some ⟨d,0,none⟩,()))):=by kernel_rfl
def qj:Nat->aV:=(λ|2=>[(4,Go.RX.El.one (Go.RX.Sc.int AX)),(5,Go.RX.El.one (Go.RX.Sc.int AX))]| _=>[])
theorem K5 (y:Nat) (p c:Option A3) (w:A1) (d:Unit->A1->Prop):(aJ N0 qj 311 [.func (.yield y) #[] #[],ah p,ah c] w d)=(
 fQ w p λx=>ee x 3 w λx=> ∃(I:Nat->Int×Int×Unit->A1->Prop),(∃n, ∀w1,Ext w w1->I n (x,3,()) w1)/\ ∀(n:Nat) (s:Int×Int×Unit) (w1:A1),I n s w1->aF (decide (s.2.1>=0)) (aQ w1 c λx=>True/\aA w1 ⟨[aa 0,aa 0,aa 0]⟩ 299 λb a=>aw a (ad b) [aa s.1,aa s.2.1,aa (dN s.1 x s.2.1)] λa=>fQ a p λx=>true=true/\aQ a (ae (ad b) 2) λh=>aB A2 252 (.el fW) [ah x,aa h] a λ(x:Bool×Int×Bool×Int×Unit) a=>aA a ⟨[.bool false,
 aa 0,.bool false,aa 0]⟩ 301 λe a=>aw a (ad e) [.bool x.1,aa x.2.1,.bool x.2.2.1,aa x.2.2.2.1] λa=>aj a none (ad b) zt λ(x:Int×Int×Int×Unit)=> ∀w1,Ext a w1->jZ A2 y [.agg ⟨[aa x.1,aa x.2.1,aa x.2.2.1]⟩] w1 λ(b:Bool) a=>aj a (some !!b) (ad e) fW λ(x:Bool×Int×Bool×Int×Unit)=>((!!b)=true->True)/\aF (!b|| !fa x.1 x.2.1 x.2.2.1 x.2.2.2.1) (ak a (d ())) (true=true/\aQ a (ae (ad e) 3) λx=> ∀f,Ext a f-> ∃(g:Nat),g<n/\
 I g (x,bK .i64 s.2.1 1,()) f)) (ak w1 (d ()))):=by kernel_rfl
def qk:Nat->aV:=(λ|4=>[(6,.agg [.int .i64,.int .i64,.int .i64])]| _=>[])
theorem K6 (p c:Option A3) (w:A1) (e:Option A3×Nat×Nat->A1->Prop):(bO N0 qk 250 [.func (.func 311) #[] #[ah p,ah c]] w e)=(
 aA w ⟨[.slice none 0 0]⟩ 349 λb a=>vr A2 311 (λ(y:Nat)=>[.func (Fn.yield y) ⟨[]⟩ ⟨[]⟩,ah p,ah c]) ⟨[6]⟩ a (λ(x:(Int×Int×Int×Unit)×Unit)=>[.agg ⟨[aa x.1.1,aa x.1.2.1,aa x.1.2.2.1]⟩]) (λ(l:Nat) (rec:Loop) (x:(Int×Int×Int×Unit)×Unit) g (R:Bool->A1->Prop)=>zd l rec [Value.agg ⟨[aa x.1.1,aa x.1.2.1,aa x.1.2.2.1]⟩].length 1 g (aA g ⟨[aa 0,aa 0,aa 0]⟩ 299 λi a=>aw a (ad i) [aa x.1.1,aa x.1.2.1,.int .i64
 x.1.2.2.1] λa=>xG l rec a λd=>tC d (ad b) λx=>aj d none (ad i) zt λ(f:Int×Int×Int×Unit)=>aA d ⟨[aa f.1,aa f.2.1,aa f.2.2.1]⟩ 299 λj a=> ∀w1,Ext a w1->vp w1 299 3 24 ⟨[aa 0,aa 0,aa 0]⟩ (x.1,x.2.1,x.2.2) (some ⟨j,0,none⟩,1,1) λ(r:Option A3×Nat×Nat) a=>aw a (ad b) [.slice r.1 r.2.1 r.2.2] λa=>oJ l rec none a R)) λ(r:Nat) (rec:Loop) k=>c9 (r+1) rec
 k (λd=>tC d (ad b) λx=>oN [r] d λw1=>e (x.1,x.2.1,x.2.2) w1) (λ(id:Nat) d=>DA (λ(h:id=0->False)=>False) (λ(h:id=0)=>tC d (ad b) λx=>oN [r] d λw1=>e (x.1,x.2.1,x.2.2) w1) (match h:id.beq 0 with|true=>isTrue (EE h)|false=>isFalse (EF h))) λd=>oN [r] d λw1=>e (none,0,0) w1):=by kernel_rfl
theorem NY (p:Option A3) (pg:Int) (w:A1) (f:(Int×Int×Int×Unit)×(Bool×Int×Bool×Int×Unit)×Unit->A1->Prop):(bO N0 (λ_=>[]) 167 [ah p,aa pg] w f)=(
 aA w ⟨[aa 0,aa 0,aa 0]⟩ 299 λb a=>aA a ⟨[.bool false,aa 0,.bool false,aa 0]⟩ 301 λg a=>aB A2 251 (.el (.one (.qq 311 2))) [ah p,aa pg] a λx a=>aB A2 250 (.el jD) [.func (.func 311) ⟨[]⟩ ⟨[ah x.1,ah x.2.1]⟩] a λx a=>(x.1.isSome=true/\0<=bK .i64 (↑x.2.1:Int) 1/\bK .i64 (↑x.2.1:Int) 1<(↑x.2.1:Int))/\aj a none (ae x.1 ((bK .i64 (↑x.2.1:Int) 1).toNat*3)) zt λ(x:Int×Int×Int×Unit)=>aA a ⟨[aa 0,aa 0,aa 0]⟩ 299 λc
 a=>aw a (ad c) [aa x.1,aa x.2.1,aa x.2.2.1] λa=>aj a none (ad c) zt λ(x:Int×Int×Int×Unit)=>true=true/\aQ a (ae (ad c) 2) λh=>aB A2 252 (.el fW) [ah p,aa h] a λ(d:Bool×Int×Bool×Int×Unit) a=>cI a (ad c) zt x/\aw a (ad b) [aa x.1,aa x.2.1,aa x.2.2.1] λa=>aw a (ad g) [.bool d.1,aa d.2.1,.bool d.2.2.1,aa d.2.2.2.1] λa=>ak a λw1=>aj w1 none (ad b) zt λ(x:Int×Int×Int×Unit)=>aj w1
 none (ad g) fW λ(e:Bool×Int×Bool×Int×Unit)=>f ((x.1,x.2.1,x.2.2.1,()),(e.1,e.2.1,e.2.2.1,e.2.2.2.1,()),()) w1):=by kernel_rfl
def nM:Nat->aV:=(λ|5=>[(24,Go.RX.El.one (Go.RX.Sc.int AX))]| _=>[])
theorem FV (p:Option A3) (w:A1) (b:Int×Int×Unit->A1->Prop):(aJ N0 nM 279 [ah p,.func (.func 280) #[] #[]] w b)=(
 cb p 1 w λx=>ee p 2 w λf=>aB A2 213 (.bH [.one (.int .i64),.one (.int .i64)]) [ah x,aa 3,aa f] w λ(x:Int×Int×Unit) a=>aF (x.2.1 != 0) (ak a (b (0,x.2.1,()))) (∃(I:Nat->Int×Unit->A1->Prop),(∃n, ∀w1,Ext a w1->I n (0,()) w1)/\ ∀(n:Nat) (s:Int×Unit) (w1:A1),I n s w1->aF (decide (s.1<16)) (cb p 0 w1 λc=>aB A2 280 (.el oT) [aa s.1] w1 λ(g:Int) a=>True/\True/\cI a (ae p 0) jW c/\True/\True/\aB A2 216 (.el aT) [ah c,
 aa (aC .i64 (dO .i64 16 x.1) s.1),aq g] a λ(x:Int) a=> ∀d,Ext a d-> ∃(e:Nat),e<n/\I e (aC .i64 s.1 1,()) d) (ak w1 (b (x.1,0,()))))):=by kernel_rfl
def nN:Nat->aV:=(λ|5=>[(24,Go.RX.El.one (Go.RX.Sc.int AX))]| _=>[])
theorem FW (p:Option A3) (w:A1) (b:Int×Int×Unit->A1->Prop):(aJ N0 nN 279 [ah p,.func (.func 337) #[] #[]] w b)=(
 cb p 1 w λx=>ee p 2 w λf=>aB A2 213 (.bH [.one (.int .i64),.one (.int .i64)]) [ah x,aa 3,aa f] w λ(x:Int×Int×Unit) a=>aF (x.2.1 != 0) (ak a (b (0,x.2.1,()))) (∃(I:Nat->Int×Unit->A1->Prop),(∃n, ∀w1,Ext a w1->I n (0,()) w1)/\ ∀(n:Nat) (s:Int×Unit) (w1:A1),I n s w1->aF (decide (s.1<16)) (cb p 0 w1 λc=>aB A2 337 (.el oT) [aa s.1] w1 λ(g:Int) a=>True/\True/\cI a (ae p 0) jW c/\True/\True/\aB A2 216 (.el aT) [ah c,
 aa (aC .i64 (dO .i64 16 x.1) s.1),aq g] a λ(x:Int) a=> ∀d,Ext a d-> ∃(e:Nat),e<n/\I e (aC .i64 s.1 1,()) d) (ak w1 (b (x.1,0,()))))):=by kernel_rfl
def nO:Nat->aV:=(λ|5=>[(24,Go.RX.El.one (Go.RX.Sc.int AX))]| _=>[])
theorem FX (p e:Option A3) (w:A1) (b:Int×Int×Unit->A1->Prop):(aJ N0 nO 279 [ah p,.func (.func 340) #[] #[ah e]] w b)=(
 cb p 1 w λx=>ee p 2 w λg=>aB A2 213 (.bH [.one (.int .i64),.one (.int .i64)]) [ah x,aa 3,aa g] w λ(x:Int×Int×Unit) a=>aF (x.2.1 != 0) (ak a (b (0,x.2.1,()))) (∃(I:Nat->Int×Unit->A1->Prop),(∃n, ∀w1,Ext a w1->I n (0,()) w1)/\ ∀(n:Nat) (s:Int×Unit) (w1:A1),I n s w1->aF (decide (s.1<16)) (cb p 0 w1 λc=>aB A2 340 (.el oT) [aa s.1,ah e] w1 λ(h:Int) a=>True/\True/\cI a (ae p 0) jW c/\True/\True/\aB A2 216 (.el aT)
 [ah c,aa (aC .i64 (dO .i64 16 x.1) s.1),aq h] a λ(x:Int) a=> ∀d,Ext a d-> ∃(f:Nat),f<n/\I f (aC .i64 s.1 1,()) d) (ak w1 (b (x.1,0,()))))):=by kernel_rfl
theorem K7 (i:Int) (w:A1) (a:Int->A1->Prop):(aJ N0 (λ_=>[]) 280 [aa i] w a)=(
 ak w (a 0)):=by kernel_rfl
theorem K8 (i:Int) (w:A1) (a:Int->A1->Prop):(aJ N0 (λ_=>[]) 337 [aa i] w a)=(
 ak w (a 0)):=by kernel_rfl
theorem Cy (i:Int) (e:Option A3) (w:A1) (a:Int->A1->Prop):(aJ N0 (λ_=>[]) 340 [aa i,ah e] w a)=(
 e.isSome=true/\aQ w (ae e 1) λx=>e.isSome=true/\aQ w (ae e 3) λb=>True/\ak w (a (tu true x false (aC .i64 b i)))):=by kernel_rfl
def sf:Nat->aV:=(λ|6=>[]| _=>[])
theorem NZ (p:Option A3) (pg lv:Int) (ep:Bool) (er:Int) (el:Bool) (ef:Int) (w:A1) (f:Int->A1->Prop):(aJ N0 sf 289 [ah p,aa pg,aa lv,.agg ⟨[.bool ep,aa er,.bool el,aa ef]⟩] w f)=(
 aA w ⟨[.bool ep,aa er,.bool el,aa ef]⟩ 301 λb a=>aB A2 167 (.bH [.agg [.int .i64,.int .i64,.int .i64],.agg [.bool,.int .i64,.bool,.int .i64]]) [ah p,aa pg] a λ(x:(Int×Int×Int×Unit)×(Bool×Int×Bool×Int×Unit)×Unit) a=>aA a ⟨[aa 0,aa 0,aa 0]⟩ 299 λc a=>aA a ⟨[.bool false,aa 0,.bool false,aa 0]⟩ 301 λg a=>aw a (ad c) [aa x.1.1,aa x.1.2.1,aa x.1.2.2.1] λa=>aw a (ad g) [.bool x.2.1.1,aa x.2.1.2.1,.bool
 x.2.1.2.2.1,aa x.2.1.2.2.2.1] λa=>true=true/\jE a (ae (ad g) 0) λx=>((!x)=true->true=true)/\aj a (some !x) (ae (ad c) 1) aT λ(k:Int)=>aF (x||decide (k<lv)) (ak a (f 5)) (cb p 1 a λx=> ∃(h:Int),ag A2 123 [ah x,aa 0] a (aa h)/\true=true/\aQ a (ae (ad c) 1) λx=>aF (decide (h<bK .i64 x lv)) (ak a (f 12)) (∃(I:Nat->Unit->A1->Prop),(∃n, ∀w1,Ext a w1->I n () w1)/\ ∀(n:Nat) (s:Unit) (w1:A1),I n s w1->true=true/\aQ w1 (ae
 (ad c) 1) λx=>aF (decide (x>lv)) (aB A2 279 (.bH [.one (.int .i64),.one (.int .i64)]) [ah p,.func (.func 337) ⟨[]⟩ ⟨[]⟩] w1 λ(x:Int×Int×Unit) a=>true=true/\aQ a (ae (ad c) 2) λe=> ∃(d:Bool×Int×Bool×Int×Unit),ag A2 338 [aa x.1] a (.agg ⟨[.bool d.1,aa d.2.1,.bool d.2.2.1,aa d.2.2.2.1]⟩)/\aB A2 294 (.bH []) [ah p,aa e,.agg ⟨[.bool d.1,aa d.2.1,.bool d.2.2.1,aa d.2.2.2.1]⟩] a λo a=>true=true/\aQ a (ae (ad c) 1)
 λl=>true=true/\aQ a (ae (ad c) 1) λm=>True/\aw a (ad c) [aa x.1,aa (bK .i64 l 1),aa (dN x.1 pg (bK .i64 m 1))] λa=> ∀i,Ext a i-> ∃(j:Nat),j<n/\I j () i) (true=true/\aQ w1 (ae (ad c) 2) λx=>aj w1 none (ad b) fW λ(e:Bool×Int×Bool×Int×Unit)=>aB A2 294 (.bH []) [ah p,aa x,.agg ⟨[.bool e.1,aa e.2.1,.bool e.2.2.1,aa e.2.2.2.1]⟩] w1 λx a=>ak a (f 0))))):=by kernel_rfl
theorem N2 (p:Option A3) (pg f r:Int) (w:A1) (a:Int->A1->Prop):(aJ N0 (λ_=>[]) 214 [ah p,aa pg,aa f,aa r] w a)=(
 ∃(x:Int),ag A2 166 [ah p] w (aa x)/\aF (x != 0) (ak w (a x)) (∃(x:Int),ag A2 288 [aa pg,aa f,aa r] w (aa x)/\aF (x != 0) (ak w (a x)) (aB A2 289 (.el aT) [ah p,aa pg,aa 0,.agg ⟨[.bool true,aa r,.bool false,aa f]⟩] w λ(x:Int) b=>ak b (a x)))):=by kernel_rfl
theorem FY (p:Option A3) (pg:Int) (w:A1) (c:Int×Int×Int×Unit->A1->Prop):(aJ N0 (λ_=>[]) 83 [ah p,aa pg] w c)=(
 ∃(x:Int),ag A2 166 [ah p] w (aa x)/\aF (x != 0) (ak w (c (0,0,x,()))) (aF (decide (pg<0)||decide (pg>=65536)) (ak w (c (0,0,2,()))) (aB A2 167 (.bH [.agg [.int .i64,.int .i64,.int .i64],.agg [.bool,.int .i64,.bool,.int .i64]]) [ah p,aa pg] w λ(x:(Int×Int×Int×Unit)×(Bool×Int×Bool×Int×Unit)×Unit) a=>aA a ⟨[aa 0,aa 0,aa 0]⟩ 299 λb a=>aA a ⟨[.bool false,aa 0,.bool false,aa 0]⟩ 301 λd a=>aw a (ad b) [aa x.1.1,.int
 .i64 x.1.2.1,aa x.1.2.2.1] λa=>aw a (ad d) [.bool x.2.1.1,aa x.2.1.2.1,.bool x.2.1.2.2.1,aa x.2.1.2.2.2.1] λa=>true=true/\jE a (ae (ad d) 0) λx=>aF (!x) (ak a (c (0,0,4,()))) (aj a none (ad b) zt λ(x:Int×Int×Int×Unit)=>aj a none (ad d) fW λ(e:Bool×Int×Bool×Int×Unit)=> ∃(f:Int),ag A2 168 [aa pg,.agg ⟨[aa x.1,aa x.2.1,aa x.2.2.1]⟩,.agg ⟨[.bool e.1,aa e.2.1,.bool e.2.2.1,aa e.2.2.2.1]⟩] a (aa f)/\
 true=true/\aQ a (ae (ad d) 1) λx=>ak a (c (f,x,0,())))))):=by kernel_rfl
theorem FZ (p:Option A3) (pg:Int) (w:A1) (d:Int->A1->Prop):(aJ N0 (λ_=>[]) 291 [ah p,aa pg] w d)=(
 aB A2 167 (.bH [.agg [.int .i64,.int .i64,.int .i64],.agg [.bool,.int .i64,.bool,.int .i64]]) [ah p,aa pg] w λ(x:(Int×Int×Int×Unit)×(Bool×Int×Bool×Int×Unit)×Unit) a=>aA a ⟨[aa 0,aa 0,aa 0]⟩ 299 λb a=>aA a ⟨[.bool false,aa 0,.bool false,aa 0]⟩ 301 λe a=>aw a (ad b) [aa x.1.1,aa x.1.2.1,aa x.1.2.2.1] λa=>aw a (ad e) [.bool x.2.1.1,aa x.2.1.2.1,.bool x.2.1.2.2.1,aa x.2.1.2.2.2.1] λa=>true=true/\aQ a (ae (ad b) 1)
 λx=>aF (x==0) (ak a (d 0)) (aB A2 279 (.bH [.one (.int .i64),.one (.int .i64)]) [ah p,.func (.func 340) ⟨[]⟩ {toList:=[ah (ad e)]}] a λ(x:Int×Int×Unit) a=>aF (x.2.1==0) (true=true/\aQ a (ae (ad b) 2) λf=> ∃(c:Bool×Int×Bool×Int×Unit),ag A2 338 [aa x.1] a (.agg ⟨[.bool c.1,aa c.2.1,.bool c.2.2.1,aa c.2.2.2.1]⟩)/\aB A2 294 (.bH []) [ah p,aa f,.agg ⟨[.bool c.1,aa c.2.1,.bool c.2.2.1,aa c.2.2.2.1]⟩] a λg a=>
 ak a (d x.2.1)) (ak a (d x.2.1)))):=by kernel_rfl
def ql:Nat->aV:=(λ|1=>[(4,Go.RX.El.one (Go.RX.Sc.int AX))]|4=>[(26,Go.RX.El.one (Go.RX.Sc.int AX))]| _=>[])
theorem K9 (p q:Option A3) (n c:Nat) (w:A1) (g:Unit->A1->Prop):(aJ N0 ql 292 [ah p,.slice q n c] w g)=(
 ∃(I:Nat->Int×Unit->A1->Prop),(∃f, ∀w1,Ext w w1->I f (bK .i64 (↑n:Int) 1,()) w1)/\ ∀(f:Nat) (s:Int×Unit) (w1:A1),I f s w1->aF (decide (s.1>0)) (cb p 0 w1 λx=>(q.isSome=true/\0<=s.1/\s.1<(↑n:Int))/\(ae q (B2 s.1*3)).isSome=true/\aj w1 none (ae (ae q (B2 s.1*3)) 0) aT λ(j:Int)=>aB A2 16 (.el jD) [ah x,aa (dO .i64 16 j),aa 16] w1 λx a=> ∃(h:Nat->Int×Unit->A1->Prop),(∃n, ∀w1,Ext a w1->h n (0,()) w1)/\ ∀(i:Nat) (b
 :Int×Unit) (w1:A1),h i b w1->aF (decide (b.1<(↑x.2.1:Int))) ((x.1.isSome=true/\0<=b.1/\b.1<(↑x.2.1:Int))/\cg w1 (ae x.1 (B2 b.1*1)) λx=>aF (x != 0) (ak w1 (g ())) (∀d,Ext w1 d-> ∃(e:Nat),e<i/\h e (aC .i64 b.1 1,()) d)) (cb p 0 w1 λx=>(q.isSome=true/\0<=bK .i64 s.1 1/\bK .i64 s.1 1<(↑n:Int))/\(ae q ((bK .i64 s.1 1).toNat*3)).isSome=true/\aj w1 none (ae (ae q ((bK .i64 s.1 1).toNat*3)) 2) aT λ(k:Int)=>aB A2 216 (.el aT) [ah x,.int
 .i64 k,aq 0] w1 λ(x:Int) a=>cb p 1 a λx=>(q.isSome=true/\0<=s.1/\s.1<(↑n:Int))/\(ae q (B2 s.1*3)).isSome=true/\aj a none (ae (ae q (B2 s.1*3)) 0) aT λ(l:Int)=>aB A2 211 (.el aT) [ah x,aa l,aa 5,aa 0] a λ(x:Int) a=> ∀d,Ext a d-> ∃(e:Nat),e<f/\I e (bK .i64 s.1 1,()) d)) (ak w1 (g ()))):=by kernel_rfl
theorem F1 (p:Option A3) (pg:Int) (w:A1) (c:Int×Int×Unit->A1->Prop):(aJ N0 (λ_=>[]) 217 [ah p,aa pg] w c)=(
 aB A2 83 (.bH [.one (.int .i64),.one (.int .i64),.one (.int .i64)]) [ah p,aa pg] w λ(x:Int×Int×Int×Unit) a=>aF (x.2.2.1 != 0) (ak a (c (0,x.2.2.1,()))) (aB A2 291 (.el aT) [ah p,aa pg] a λ(d:Int) a=>aF (d != 0) (ak a (c (0,d,()))) (aB A2 251 (.el (.one (.qq 311 2))) [ah p,aa pg] a λe a=>aB A2 250 (.el jD) [.func (.func 311) ⟨[]⟩ ⟨[ah e.1,ah e.2.1]⟩] a λb a=>cb p 0 a λf=>(b.1.isSome=true/\0<=bK .i64
 (↑b.2.1:Int) 1/\bK .i64 (↑b.2.1:Int) 1<(↑b.2.1:Int))/\(ae b.1 ((bK .i64 (↑b.2.1:Int) 1).toNat*3)).isSome=true/\aj a none (ae (ae b.1 ((bK .i64 (↑b.2.1:Int) 1).toNat*3)) 2) aT λ(g:Int)=>aB A2 216 (.el aT) [ah f,aa g,aq 0] a λ(h:Int) a=>aB A2 292 (.bH []) [ah p,.slice b.1 b.2.1 b.2.2] a λi a=>ak a (c (x.1,0,()))))):=by kernel_rfl
theorem K_ (p:Option A3) (pg r:Int) (w:A1) (c:Int->A1->Prop):(aJ N0 (λ_=>[]) 219 [ah p,aa pg,aa r] w c)=(
 ∃(x:Int),ag A2 166 [ah p] w (aa x)/\aF (x != 0) (ak w (c x)) (∃(x:Int),ag A2 288 [aa pg,aa 0,aa r] w (aa x)/\aF (x != 0) (ak w (c x)) (aB A2 167 (.bH [.agg [.int .i64,.int .i64,.int .i64],.agg [.bool,.int .i64,.bool,.int .i64]]) [ah p,aa pg] w λ(x:(Int×Int×Int×Unit)×(Bool×Int×Bool×Int×Unit)×Unit) a=>aA a ⟨[aa 0,aa 0,aa 0]⟩ 299 λb a=>aA a ⟨[.bool false,aa 0,.bool false,aa 0]⟩ 301 λd a=>aw a (ad b)
 [aa x.1.1,aa x.1.2.1,aa x.1.2.2.1] λa=>aw a (ad d) [.bool x.2.1.1,aa x.2.1.2.1,.bool x.2.1.2.2.1,aa x.2.1.2.2.2.1] λa=>true=true/\jE a (ae (ad d) 0) λx=>aF (!x) (ak a (c 4)) (true=true/\jE a (ae (ad d) 2) λx=>(x=true->true=true)/\aj a (some x) (ae (ad d) 1) aT λ(g:Int)=>aF (x&&g==r) (ak a (c 0)) (aj a none (ad b) zt λ(x:Int×Int×Int×Unit)=>aj a none (ad d) fW λ(e:Bool×Int×Bool×Int×Unit)=> ∃(f:Int),ag A2 168
 [aa pg,.agg ⟨[aa x.1,aa x.2.1,aa x.2.2.1]⟩,.agg ⟨[.bool e.1,aa e.2.1,.bool e.2.2.1,aa e.2.2.2.1]⟩] a (aa f)/\aB A2 291 (.el aT) [ah p,aa pg] a λ(x:Int) a=>aF (x != 0) (ak a (c x)) (aB A2 167 (.bH [.agg [.int .i64,.int .i64,.int .i64],.agg [.bool,.int .i64,.bool,.int .i64]]) [ah p,aa pg] a λ(x:(Int×Int×Int×Unit)×(Bool×Int×Bool×Int×Unit)×Unit) a=>aw a (ad b) [aa x.1.1,aa x.1.2.1,aa x.1.2.2.1] λa=>true=
 true/\aQ a (ae (ad b) 2) λx=>aB A2 294 (.bH []) [ah p,aa x,.agg ⟨[.bool true,aa r,.bool false,aa f]⟩] a λx a=>ak a (c 0))))))):=by kernel_rfl
theorem wU (p:Option A3) (f lv:Int) (w:A1) (c:Option A3×Option A3×Option A3×Unit->A1->Prop):(aJ N0 (λ_=>[]) 334 [ah p,aa f,aa lv] w c)=(
 aA w ⟨[ah p]⟩ 171 λb a=>aA a ⟨[aa f]⟩ 3 λd a=>aA a ⟨[aa lv]⟩ 3 λe a=>ak a (c (some ⟨d,0,none⟩,some ⟨b,0,none⟩,some ⟨e,0,none⟩,()))):=by kernel_rfl
def nP:Nat->aV:=(λ|4=>[(6,.one (.int .i64))]| _=>[])
theorem F2 (p c d:Option A3) (w:A1) (f:Option A3×Nat×Nat->A1->Prop):(bO N0 nP 333 [.func (.func 362) #[] #[ah p,ah c,ah d]] w f)=(
 aA w ⟨[.slice none 0 0]⟩ 30 λb e=>vr A2 362 (λ(y:Nat)=>[.func (Fn.yield y) ⟨[]⟩ ⟨[]⟩,ah p,ah c,ah d]) ⟨[6]⟩ e (λ(x:Int×Unit)=>[aa x.1]) (λ(l:Nat) (rec:Loop) (x:Int×Unit) i (R:Bool->A1->Prop)=>zd l rec [aa x.1].length 1 i (xG l rec i λa=>tC a (ad b) λg=>aA a ⟨[aa x.1]⟩ 3 λj e=> ∀w1,Ext e w1->vp w1 3 1 8 ⟨[aa 0]⟩ (g.1,g.2.1,g.2.2) (some ⟨j,0,none⟩,1,1) λ(r:Option A3×Nat×Nat) e=>aw e (some ⟨b,0,
 none⟩) [.slice r.1 r.2.1 r.2.2] λe=>oJ l rec none e R)) λ(r:Nat) (rec:Loop) k=>c9 (r+1) rec k (λa=>tC a (ad b) λx=>oN [r] a λw1=>f (x.1,x.2.1,x.2.2) w1) (λ(id:Nat) a=>DA (λ(h:id=0->False)=>False) (λ(h:id=0)=>tC a (ad b) λx=>oN [r] a λw1=>f (x.1,x.2.1,x.2.2) w1) (match h:id.beq 0 with|true=>isTrue (EE h)|false=>isFalse (EF h))) λa=>oN [r] a λw1=>f (none,0,0)
 w1):=by kernel_rfl
def sg:Nat->aV:=(λ|5=>[(18,Go.RX.El.one (Go.RX.Sc.int AX))]|8=>[(5,Go.RX.El.one (Go.RX.Sc.int AX))]| _=>[])
theorem N3 (p:Option A3) (w:A1) (e:Option A3×Nat×Nat->A1->Prop):(aJ N0 sg 284 [ah p] w e)=(
 ∃(x:Int),ag A2 166 [ah p] w (aa x)/\aF (x != 0) (ak w (e (none,0,0))) (ee p 3 w λx=>aB A2 334 (.el (.one (.qq 362 3))) [ah p,aa x,aa 3] w λx b=>aB A2 333 (.el jD) [.func (.func 362) ⟨[]⟩ ⟨[ah x.1,ah x.2.1,ah x.2.2.1]⟩] b λx b=> ∃(I:Nat->Int×Unit->A1->Prop),(∃n, ∀w1,Ext b w1->I n (0,()) w1)/\ ∀(n:Nat) (s:Int×Unit) (w1:A1),I n s w1->aF (decide (s.1<(↑x.2.1:Int))) (∃(f:Nat->Int×Unit->A1->Prop),(∃n, ∀g,Ext w1 g->f
 n (s.1,()) g)/\ ∀(h:Nat) (a:Int×Unit) (w1:A1),f h a w1->(decide (a.1>0)=true->x.1.isSome=true/\0<=bK .i64 a.1 1/\bK .i64 a.1 1<(↑x.2.1:Int))/\aj w1 (some (decide (a.1>0))) (ae x.1 ((bK .i64 a.1 1).toNat*1)) aT λ(i:Int)=>(decide (a.1>0)=true->x.1.isSome=true/\0<=a.1/\a.1<(↑x.2.1:Int))/\aj w1 (some (decide (a.1>0))) (ae x.1 (B2 a.1*1)) aT λ(j:Int)=>aF (decide (a.1>0)&&decide (i>j)) ((x.1.isSome=true/\0<=a.1/\a.1<(↑x.2.1:Int))/\aQ w1
 (ae x.1 (B2 a.1*1)) λk=>(x.1.isSome=true/\0<=bK .i64 a.1 1/\bK .i64 a.1 1<(↑x.2.1:Int))/\aj w1 none (ae x.1 ((bK .i64 a.1 1).toNat*1)) aT λ(l:Int)=>(x.1.isSome=true/\0<=bK .i64 a.1 1/\bK .i64 a.1 1<(↑x.2.1:Int))/\aw w1 (ae x.1 ((bK .i64 a.1 1).toNat*1)) [aa k] λb=>(x.1.isSome=true/\0<=a.1/\a.1<(↑x.2.1:Int))/\aw b (ae x.1 (B2 a.1*1)) [aa l] λb=> ∀c,Ext b c-> ∃(d:Nat),d<h/\f d (bK .i64 a.1 1,()) c) (∀c,Ext w1 c-> ∃(d
 :Nat),d<n/\I d (aC .i64 s.1 1,()) c)) (ak w1 (e (x.1,x.2.1,x.2.2))))):=by kernel_rfl
def qm:Nat->aV:=(λ|5=>[(13,Go.RX.El.one (Go.RX.Sc.int AX))]| _=>[])
theorem K' (p:Option A3) (w:A1) (b:Option A3×Nat×Nat->A1->Prop):(aJ N0 qm 210 [ah p] w b)=(
 ∃(x:Int),ag A2 166 [ah p] w (aa x)/\aF (x != 0) (ak w (b (none,0,0))) (aB A2 284 (.el jD) [ah p] w λx a=> ∃(I:Nat->Int×Unit->A1->Prop),(∃n, ∀w1,Ext a w1->I n (0,()) w1)/\ ∀(n:Nat) (s:Int×Unit) (w1:A1),I n s w1->aF (decide (s.1<(↑x.2.1:Int))) ((x.1.isSome=true/\0<=s.1/\s.1<(↑x.2.1:Int))/\aQ w1 (ae x.1 (B2 s.1*1)) λx=>cb p 1 w1 λe=>aB A2 211 (.el aT) [ah e,aa x,aa 5,aa 0] w1 λ(x:Int) a=> ∀c,Ext a c-> ∃(d
 :Nat),d<n/\I d (aC .i64 s.1 1,()) c) (p.isSome=true/\p.isSome=true/\aw w1 (ae p 4) [.bool true] λa=>ak a (b (x.1,x.2.1,x.2.2))))):=by kernel_rfl
theorem N4 (m p:Option A3) (o:Int) (w:A1) (c:Option A3×Int×Unit->A1->Prop):(aJ N0 (λ_=>[]) 203 [ah m,ah p,aa o] w c)=(
 ∃(x:Int),ag A2 17 [ah m] w (aa x)/\ ∃(d:Int),((!x==0)=true->ag A2 78 [ah p] w (aa d))/\ ∃(e:Int),((!(x==0||d==0))=true->ag A2 17 [ah m] w (aa e))/\ ∃(f:Int),((!(x==0||d==0))=true->ag A2 78 [ah p] w (aa f))/\aF (x==0||d==0||decide (e<dO .i64 16 f)) (ak w (c (none,1,()))) (aA w ⟨[ah m,ah p,aa o,aa 0,.bool false]⟩ 295 λb a=>aB A2 279 (.bH [.one (.int .i64),.one (.int
 .i64)]) [ah (ad b),.func (.func 280) ⟨[]⟩ ⟨[]⟩] a λ(x:Int×Int×Unit) a=>aF (x.2.1 != 0) (ak a (c (none,x.2.1,()))) (true=true/\true=true/\aw a (ae (ad b) 3) [aa x.1] λa=>ak a (c (some ⟨b,0,none⟩,0,()))))):=by kernel_rfl
theorem F3 (p:Option A3) (i n:Int) (w:A1) (a:Option A3×Nat×Nat->A1->Prop):(aJ N0 (λ_=>[]) 16 [ah p,aa i,aa n] w a)=(
 aF p.isNone (ak w (a (none,0,0))) (p.isSome=true/\p.isSome=true/\aj w none (ae p 0) (.agg [.slice]) λx=>aB A2 80 (.el jD) [.agg ⟨[.slice x.1.1 x.1.2.1 x.1.2.2]⟩,aa i,aa n] w λx b=>ak b (a (x.1,x.2.1,x.2.2)))):=by kernel_rfl
theorem N5 (p:Option A3) (n c:Nat) (i k:Int) (w:A1) (Post:Option A3×Nat×Nat->A1->Prop):(aJ N0 (λ_=>[]) 80 [.agg ⟨[.slice p n c]⟩,aa i,aa k] w Post)=(
 aA w ⟨[.slice p n c]⟩ 168 λb a=>((!(decide (k<1)||decide (i<0)))=true->true=true)/\aj a (some !(decide (k<1)||decide (i<0))) (ae (ad b) 0) (.one .slice) λx=>((!(decide (k<1)||decide (i<0)||decide (i>(↑x.2.1:Int))))=true->true=true)/\aj a (some !(decide (k<1)||decide (i<0)||decide (i>(↑x.2.1:Int)))) (ae (ad b) 0) (.one .slice) λe=>aF (decide (k<1)||decide (i<0)||decide (i>(↑x.2.1:Int))||decide (k>bK .i64 (↑e.2.1:Int) i)) (ak a λw1=>Post (none,0,0) w1) (Hp a 8
 1 k k ⟨[aq 0]⟩ 32 λd a=>true=true/\aj a none (ae (ad b) 0) (.one .slice) λx=>(0<=i/\i<=(↑x.2.1:Int)/\(↑x.2.1:Int)<=(↑x.2.2:Int)/\(↑x.2.2:Int)<=(↑x.2.2:Int))/\ ∀w1,Ext a w1->VY w1 1 (some ⟨d,0,none⟩,k.toNat) (DA (λ(h:(↑x.2.2:Int).toNat=i.toNat->False)=>ae x.1 (i.toNat*1)) (λ(h:(↑x.2.2:Int).toNat=i.toNat)=>x.1) (instDecidableEqNat (↑x.2.2:Int).toNat i.toNat),(↑x.2.1:Int).toNat - i.toNat) λ(r:Int) a=>ak a λw1=>Post (some ⟨d,0,none⟩,k.toNat,k.toNat) w1)):=by
 kernel_rfl
end Go.Proofs.YteeflilbnoknnaaGreat
namespace Go.Proofs.YteeflilbnoknnaaGreat.D
set_option maxRecDepth 100000
open Go.RX
noncomputable def E3:dn A2:={E0 with quiet:=[78,123,309,32]}
section
variable {D G:List Nat} {w0 w:A1} {L:List (Nat×List A9)}
theorem N6 (H:aH D G w0 w L) (i j:Nat) {bp bf n c:Nat} {ds:List DT} {rest:List A9} (b:L[i]? =some (bp,[.slice (ad bf) n c])) (a:L[j]? =some (bf,flat eD ds++rest)) (e:i≠j) (g:n=ds.length) (l:0<n) (h:n<=4096) (f y o:Int) {K:Int->A1->Prop}
 (k: ∀d,aH D G w0 d (L.set j (bf,flat eD (fC ds f (aE y o))++rest))->K (rq ds f (aE y o)) d):aB A2 211 (.el (.one (.int .i64))) [ah (ad bp),aa f,aa y,aa o] w K:=by
 subst g;exact aB.zv H j a (λw1 H=>yz (H.get b) (H.get a) (H.ne b a e) h f y o) k
theorem N7 (H:aH D G w0 w L) (i j:Nat) {bp bf n c:Nat} {ds:List DT} {rest:List A9} (b:L[i]? =some (bp,[.slice (ad bf) n c])) (a:L[j]? =some (bf,flat eD ds++rest)) (e:i≠j) (g:n=ds.length) (l:0<n) (h:n<=4096) (f x:Int) (hi: -9223372036854775808<=x/\x<9223372036854775808) {K:Int->A1->Prop}
 (k: ∀d,aH D G w0 d (L.set j (bf,flat eD (fC ds f (gE x))++rest))->K (rq ds f (gE x)) d):aB A2 226 (.el (.one (.int .i64))) [ah (ad bp),aa f,aa x] w K:=by
 subst g;exact aB.zv H j a (λw1 H=>NQ (H.get b) (H.get a) (H.ne b a e) h f x hi) k
theorem N8 (H:aH D G w0 w L) (i j:Nat) {bp bf n c:Nat} {ds:List DT} {rest:List A9} (b:L[i]? =some (bp,[.slice (ad bf) n c])) (a:L[j]? =some (bf,flat eD ds++rest)) (e:i≠j) (g:n=ds.length) (l:0<n) (h:n<=4096) (f:Int) {K:Int->A1->Prop}
 (k: ∀d,aH D G w0 d (L.set j (bf,flat eD (fC ds f (aE 0 0))++rest))->K (rq ds f (aE 0 0)) d):aB A2 215 (.el (.one (.int .i64))) [ah (ad bp),aa f] w K:=by
 subst g;exact aB.zv H j a (λw1 H=>NR (H.get b) (H.get a) (H.ne b a e) h f) k
theorem N9 (H:aH D G w0 w L) (i j:Nat) {bp bf n c:Nat} {ds:List DT} {rest:List A9} (b:L[i]? =some (bp,[.slice (ad bf) n c])) (a:L[j]? =some (bf,flat eD ds++rest)) (e:i≠j) (f:n=ds.length) (h:0<n) (g:n<=4096) (y o:Int) {K:Int×Int×Unit->A1->Prop}
 (k: ∀d,aH D G w0 d (L.set j (bf,flat eD (dD ds y o)++rest))->K (dY ds y o,dk ds y o,()) d):aB A2 213 (.bH [.one (.int .i64),.one (.int .i64)]) [ah (ad bp),aa y,aa o] w K:=by
 subst f;exact aB.zv H j a (λw1 H=>NV (H.get b) (H.get a) (H.ne b a e) rfl g y o) k
theorem UF (H:aH D G w0 w L) (i:Nat) {bp n c:Nat} {a:Option A3} (b:L[i]? =some (bp,[.slice a n c])):ag A2 78 [ah (ad bp)] w (aa (n:Int)):=
 ag.of (s:= .el (.one (.int .i64))) λw' h=>qN ((H.get b).ext h)
theorem N_ (H:aH D G w0 w L) (i j:Nat) {bp bf n c:Nat} {ds:List DT} {rest:List A9} (a:L[i]? =some (bp,[.slice (ad bf) n c])) (b:L[j]? =some (bf,flat eD ds++rest)) (d:n=ds.length) (e:n<=4096) (v:Int):
 ag A2 123 [ah (ad bp),aa v] w (aa (cz ds v:Nat)):=
 ag.of (s:= .el (.one (.int .i64))) λw' h=>KZ ((H.get a).ext h) ((H.get b).ext h) d e v
theorem MF (H:aH D G w0 w L) (i j:Nat) {bp bf n c:Nat} {ds:List DT} {rest:List A9} (a:L[i]? =some (bp,[.slice (ad bf) n c])) (b:L[j]? =some (bf,flat eD ds++rest)) (d:n=ds.length) (f:Int):
 ag A2 32 [ah (ad bp),aa f] w ((Sh.bH [eD,.one .bool]).gj (oK ds f,vJ ds f,())):=by
 subst d;exact ag.of (s:= .bH [eD,.one .bool]) λw' h=>I3 ((H.get a).ext h) ((H.get b).ext h) f
theorem La (H:aH D G w0 w L) (i j:Nat) {bp bf n c:Nat} {ds:List DT} {rest:List A9} (b:L[i]? =some (bp,[.slice (ad bf) n c])) (d:L[j]? =some (bf,flat eD ds++rest)) (e:n=ds.length) (f:n<=4096) (v:Int) {K:Option A3×Nat×Nat->A1->Prop}
 (k: ∀r rows a,aH D G w0 a (L++rows)->jh eI rows r ((fi ds v).map λi=>((i:Nat):Int))->K r a):aB A2 205 (.el (.one .slice)) [ah (ad bp),aa v] w K:=
 aB.QF H (λw1 H=>K3 (H.get b) (H.get d) e f v) k
end
end Go.Proofs.YteeflilbnoknnaaGreat.D
namespace Go.Proofs.YteeflilbnoknnaaGreat
set_option maxRecDepth 100000
open Go.RX D
abbrev ET:Type:=Bool×Int×Bool×Int×Unit
abbrev PT:Type:=Int×Int×Int×Unit
abbrev VI:List Sc:=[.bool,.int .i64,.bool,.int .i64]
abbrev Mn:List Sc:=[.int .i64,.int .i64,.int .i64]
def zE:ET:=(false,0,false,0,())
def dP (v:Int):ET:=(vY (B v).toNat,xI (B v).toNat,xJ (B v).toNat,vt (B v).toNat,())
def dv (e:ET):Bool:=fa e.1 e.2.1 e.2.2.1 e.2.2.2.1
def Hi (e:ET):Int:=tu e.1 e.2.1 e.2.2.1 e.2.2.2.1
def bP (f:Int):ET:=(true,0,false,f,())
def az (ws:List Int) (i:Int):ET:=dP (dB ws i)
def cJ (ws:List Int) (pg:Int):Nat->Int->List PT
 |0,f=>[(f,0,dN f pg 0,())]
 |l+1,f=>(f,((l+1:Nat):Int),dN f pg ((l+1:Nat):Int),())::if dv (az ws (dN f pg ((l+1:Nat):Int)))=true then cJ ws pg l (az ws (dN f pg ((l+1:Nat):Int))).2.2.2.1 else[]
theorem s6 (ws:List Int) (pg:Int) (l:Nat) (f:Int):cJ ws pg l f≠[]:=by cases l<;>simp[cJ]
theorem pL (ws:List Int) (pg:Int): ∀(l:Nat) (f:Int),(cJ ws pg l f).length<=l+1
 |0,f=>by simp[cJ]
 |l+1,f=>by
  rw[cJ];split
  ·have:=pL ws pg l (az ws (dN f pg ((l+1:Nat):Int))).2.2.2.1;simp only[Bc];omega
  ·simp
def dh (ws:List Int) (r pg:Int):PT:=(cJ ws pg 3 r).getLastD (0,0,0,())
def cK (ws:List Int) (r pg:Int):ET:=az ws (dh ws r pg).2.2.1
def dS (ws:List Int) (f:Int) (g:Int->Int):Nat->List Int
 |0=>ws
 |i+1=>cW (dS ws f g i) (16*f+(i:Int)) (g i)
theorem fM (ws:List Int) (f:Int) (g:Int->Int): ∀n,(dS ws f g n).length=ws.length
 |0=>rfl
 |n+1=>by rw[dS,cu,fM ws f g n]
abbrev WD:Type:=List Int×List DT
def dJ (s:WD) (o:Int):Int:=dY s.2 3 o
def oO (s:WD) (o:Int):Int:=dk s.2 3 o
def gD (s:WD) (o:Int) (g:Int->Int):WD:=(if oO s o=0 then dS s.1 (dJ s o) g 16 else s.1,dD s.2 3 o)
def du (s:WD) (i:Int) (e:ET):WD:=(cW s.1 i (Hi e),s.2)
def pn (o pg:Int):Nat->WD×PT->WD×PT
 |0,x=>x
 |n+1,x=>pn o pg n (du (gD x.1 o λ_=>0) x.2.2.2.1 (bP (dJ x.1 o)),(dJ x.1 o,x.2.2.1 - 1,dN (dJ x.1 o) pg (x.2.2.1 - 1),()))
def jV (s:WD) (r pg lv:Int):Int:=
 if((cK s.1 r pg).1||decide ((dh s.1 r pg).2.1<lv))=true then 5
 else if(cz s.2 0:Int)<(dh s.1 r pg).2.1 - lv then 12 else 0
def oV (s:WD) (o r pg lv:Int) (e:ET):WD:=
 if jV s r pg lv=0 then du (pn o pg ((dh s.1 r pg).2.1 - lv).toNat (s,dh s.1 r pg)).1 (pn o pg ((dh s.1 r pg).2.1 - lv).toNat (s,dh s.1 r pg)).2.2.2.1 e else s
def jX (pg f rt:Int):Int:=if pg<0\/pg>=65536\/f<0\/f>=4096 then 2 else if rt<1\/rt>7 then 7 else 0
def iw (s:WD) (r:Int) (gone:Bool) (pg f rt:Int):Int:=if gone=true then 6 else if jX pg f rt=0 then jV s r pg 0 else jX pg f rt
def ik (s:WD) (o r:Int) (gone:Bool) (pg f rt:Int):WD:=if gone=true then s else if jX pg f rt=0 then oV s o r pg 0 (true,rt,false,f,()) else s
def np (pg:Int) (x:PT) (e:ET):Int:=if x.2.1=1 then e.2.2.2.1+pg % 16 else e.2.2.2.1
def a_ (s:WD) (r:Int) (gone:Bool) (pg:Int):Int×Int×Int×Unit:=
 if gone=true then(0,0,6,()) else if pg<0\/pg>=65536 then(0,0,2,())
 else if(cK s.1 r pg).1=true then(np pg (dh s.1 r pg) (cK s.1 r pg),(cK s.1 r pg).2.1,0,()) else(0,0,4,())
def lQ (e:ET) (i:Int):Int:=Hi (true,e.2.1,false,e.2.2.2.1+i,())
def jY (s:WD) (o r pg:Int):Int:=if(dh s.1 r pg).2.1=0 then 0 else oO s o
def ew (s:WD) (o r pg:Int):WD:=
 if(dh s.1 r pg).2.1=0 then s
 else if oO s o=0 then du (gD s o (lQ (cK s.1 r pg))) (dh s.1 r pg).2.2.1 (bP (dJ s o)) else gD s o (lQ (cK s.1 r pg))
def fX (ws:List Int) (i n:Int):List Int:=if n<1\/i<0\/i>ws.length\/n>ws.length - i then[] else(ws.drop i.toNat).take n.toNat
def sI (ws:List Int) (f:Int):Bool:=(fX ws (16*f) 16).all λv=>v==0
def gT:List PT->WD->WD
 |x::y::l,s=>if sI s.1 x.1=true then gT (y::l) (cW s.1 y.2.2.1 0,fC s.2 x.1 (aE 5 0)) else s
 | _,s=>s
def x9 (s:WD) (o r:Int) (gone:Bool) (pg:Int):Int:=if(a_ s r gone pg).2.2.1=0 then jY s o r pg else(a_ s r gone pg).2.2.1
def Bs (s:WD) (o r:Int) (gone:Bool) (pg:Int):Int:=if x9 s o r gone pg=0 then(a_ s r gone pg).1 else 0
def kR (s:WD) (o r:Int) (gone:Bool) (pg:Int):WD:=
 if(a_ s r gone pg).2.2.1=0 then
  if jY s o r pg=0 then gT (cJ (ew s o r pg).1 pg 3 r).reverse (cW (ew s o r pg).1 (dh (ew s o r pg).1 r pg).2.2.1 0,(ew s o r pg).2)
  else ew s o r pg
 else s
def Bt (s:WD) (o r:Int) (gone:Bool) (pg rt:Int):Int:=
 if gone=true then 6 else if jX pg 0 rt=0 then(if(cK s.1 r pg).1=true then(if((cK s.1 r pg).2.2.1&&(cK s.1 r pg).2.1==rt)=true then 0 else jY s o r pg) else 4) else jX pg 0 rt
def n6 (s:WD) (o r:Int) (gone:Bool) (pg rt:Int):WD:=
 if gone=true then s else if jX pg 0 rt=0 then(if(cK s.1 r pg).1=true then(if((cK s.1 r pg).2.2.1&&(cK s.1 r pg).2.1==rt)=true then s
  else if jY s o r pg=0 then du (ew s o r pg) (dh (ew s o r pg).1 r pg).2.2.1 (true,rt,false,np pg (dh s.1 r pg) (cK s.1 r pg),()) else ew s o r pg) else s) else s
def cA (ws:List Int):Nat->Int->List Int
 |0,f=>[f]
 |l+1,f=>f::(B1 16).flatMap λ(i:Nat)=>if dv (az ws (16*f+(i:Int)))=true then cA ws l (az ws (16*f+(i:Int))).2.2.2.1 else[]
def iS (x:Int):List Int->List Int
 |[]=>[x]
 |y::l=>if y>x then y::iS x l else x::y::l
def pq (l:List Int):List Int:=(l.foldl (λa x=>iS x a) []).reverse
def kv (s:WD) (r:Int) (gone:Bool):List Int:=if gone=true then[] else pq (cA s.1 3 r)
def bY (s:WD) (r:Int) (gone:Bool):WD:=if gone=true then s else(s.1,(kv s r gone).foldl (λds f=>fC ds f (aE 5 0)) s.2)
structure Sys where
 bm:Nat
 bw:Nat
 bf:Nat
 bp:Nat
 c:Nat
 cp:Nat
 rw:List A9
 rf:List A9
def Sys.L (Q:Sys) (ca la:Int) (s:WD) (L0:List (Nat×List A9)):List (Nat×List A9):=
 (Q.bm,kh Q.bw s.1.length Q.c ca la)::(Q.bw,flat eW s.1++Q.rw)::(Q.bf,flat eD s.2++Q.rf)::(Q.bp,[.slice (ad Q.bf) s.2.length Q.cp])::L0
structure a7 (Q:Sys) (D G:List Nat) (w0 w:A1) (s:WD) (L0:List (Nat×List A9)):Prop where
 pos:0<s.1.length
 zw:0<s.2.length
 le:s.2.length<=4096
 P5:okW s.1
 kn: ∃ca la,aH D G w0 w (Q.L ca la s L0)
abbrev lX (Q:Sys) (o r:Int) (gone:Bool):List A9:=[ah (ad Q.bm),ah (ad Q.bp),aa o,aa r,.bool gone]
theorem RO {ws:List Int} (h:okW ws) (i v:Int) (hv:0<=v/\v<18446744073709551616):okW (cW ws i v):=by
 intro x a;unfold cW at a;split at a
 ·rcases Eo a with a|rfl
  ·exact h x a
  ·exact hv
 ·exact h x a
theorem I5 (p:Bool) (r:Int) (l:Bool) (f:Int):0<=tu p r l f/\tu p r l f<18446744073709551616:=by
 unfold tu;split
 ·rename_i h;unfold lC;cases p with
  |false=>
   unfold aP at h;simp at h;obtain⟨⟨a,h2⟩,b⟩:=h;subst a;subst h2;subst b;decide
  |true=>
   unfold aP at h;simp at h;have d:(nB l:Int)<=1:=by cases l<;>decide
   have e:0<=(nB l:Int):=by omega
   have c:(nB true:Int)=1:=rfl;rw[c];omega
 ·exact⟨by decide,by decide⟩
theorem DJ (n:Nat):0<=vt n/\vt n<4096:=by
 unfold vt;split<;>omega
section
variable {Q:Sys} {D G:List Nat} {w0 w w1:A1} {s:WD} {L0 L1:List (Nat×List A9)}
namespace a7
theorem ext (S:a7 Q D G w0 w s L0) (h:Ext w w1):a7 Q D G w0 w1 s L0:=by
 obtain⟨a,h2,b,c,ca,la,H⟩:=S;exact⟨a,h2,b,c,ca,la,H.ext h⟩
theorem al (S:a7 Q D G w0 w s L0) {cs:List A9} {e:TypeId} {K:Nat->A1->Prop} (k: ∀b w1,a7 Q D G w0 w1 s ((b,cs)::L0)->K b w1):aA w ⟨cs⟩ e K:=by
 obtain⟨a,h2,c,d,ca,la,H⟩:=S;exact aA.go H λb w1 H=>k b w1 ⟨a,h2,c,d,ca,la,H.perm (Do (l₁:=[_, _, _, _]))⟩
theorem en (S:a7 Q D G w0 w s L0) {K:A1->Prop} (k: ∀w1,a7 Q D G w0 w1 s L0->K w1):ak w K:=λ_ h=>k _ (S.ext h)
theorem get (S:a7 Q D G w0 w s L0) {i b:Nat} {l:List A9} (h:L0[i]? =some (b,l)):bh w b l:=by
 obtain⟨a,h2,c,d,ca,la,H⟩:=S;exact H.get (i:=i+4) h
theorem ld (i:Nat) (S:a7 Q D G w0 w s L0) {g:Option Bool} {el:El} {K:el.T->Prop} {b o:Nat} {l:List A9} {x:el.T} (a:L0[i]? =some (b,l)) (hv:l5 l o el=some x) (k:K x):aj w g (some ⟨b,o,none⟩) el K:=
 .of x (bI (S.get a) hv) k
theorem bW (i:Nat) (S:a7 Q D G w0 w s L0) {g:Option Bool} {el:El} {K:el.T->Prop} {b o n:Nat} {l:List A9} {x:el.T} (a:L0[i]? =some (b,l)) (hv:l5 l (o+n) el=some x) (k:K x):aj w g (ae (some ⟨b,o,none⟩) n) el K:=by
 rw[aL];exact .of x (bI (S.get a) hv) k
theorem dx (i:Nat) (S:a7 Q D G w0 w s L0) {b:Nat} {l a:List A9} {K:A1->Prop} (c:L0[i]? =some (b,l)) (d:a.all (·.oneCell')=true) (e:a.length=l.length)
 (k: ∀w1,a7 Q D G w0 w1 s (L0.set i (b,a))->K w1):aw w (ad b) a K:=by
 obtain⟨f,h2,g,h,ca,la,H⟩:=S;exact aw.all (i+4) H c d e λw1 H=>k w1 ⟨f,h2,g,h,ca,la,H⟩
theorem UG (i:Nat) (S:a7 Q D G w0 w s L0) {b o:Nat} {l:List A9} {x:A9} {K:A1->Prop} (a:L0[i]? =some (b,l)) (c:x.oneCell'=true) (d:Nat.blt o l.length=true)
 (k: ∀w1,a7 Q D G w0 w1 s (L0.set i (b,l.set o x))->K w1):aw w (some ⟨b,o,none⟩) [x] K:=by
 obtain⟨e,h2,f,g,ca,la,H⟩:=S;exact aw.one (i+4) H a c d λw1 H=>k w1 ⟨e,h2,f,g,ca,la,H⟩
theorem yk (i:Nat) (S:a7 Q D G w0 w s L0) {b o n:Nat} {l:List A9} {x:A9} {K:A1->Prop} (a:L0[i]? =some (b,l)) (c:x.oneCell'=true) (d:Nat.blt (o+n) l.length=true)
 (k: ∀w1,a7 Q D G w0 w1 s (L0.set i (b,l.set (o+n) x))->K w1):aw w (ae (some ⟨b,o,none⟩) n) [x] K:=by
 rw[aL];exact S.UG i a c d k
theorem go (S:a7 Q D G w0 w s L0) {P:Program} {f:FuncId} {sh:Sh} {args:List A9} {K:sh.T->A1->Prop} (k: ∀w1,a7 Q D G w0 w1 s L0->ar P f sh args w1 K):aB P f sh args w K:=λ_ h=>k _ (S.ext h)
theorem sub (S:a7 Q D G w0 w s L0) (h:L1.Sublist L0):a7 Q D G w0 w s L1:=by
 obtain⟨a,h2,b,c,ca,la,H⟩:=S;exact⟨a,h2,b,c,ca,la,H.sub (((((h.cons_cons _).cons_cons _).cons_cons _).cons_cons _))⟩
theorem tail {x:Nat×List A9} (S:a7 Q D G w0 w s (x::L0)):a7 Q D G w0 w s L0:=S.sub (DB _ _)
theorem perm (S:a7 Q D G w0 w s L0) (h:L1.Perm L0):a7 Q D G w0 w s L1:=by
 obtain⟨a,h2,b,c,ca,la,H⟩:=S;exact⟨a,h2,b,c,ca,la,H.perm ((((h.cons _).cons _).cons _).cons _)⟩
theorem load (S:a7 Q D G w0 w s L0) (i:Int) {K:Int×Int×Unit->A1->Prop} (k: ∀a,a7 Q D G w0 a s L0->K (dB s.1 i,yX s.1 i,()) a):
 aB A2 221 (.bH [.one (.int .u64),.one (.int .i64)]) [ah (ad Q.bm),aa i] w K:=by
 obtain⟨b,h2,c,d,ca,la,H⟩:=S;exact Ae H 0 1 rfl rfl (by decide) rfl b i λa H=>k a ⟨b,h2,c,d, _, _,H⟩
theorem store (S:a7 Q D G w0 w s L0) (i v:Int) (hv:0<=v/\v<18446744073709551616) {K:Int->A1->Prop} (k: ∀a,a7 Q D G w0 a (cW s.1 i v,s.2) L0->K (yX s.1 i) a):
 aB A2 216 (.el (.one (.int .i64))) [ah (ad Q.bm),aa i,aq v] w K:=by
 obtain⟨b,h2,d,e,ca,la,H⟩:=S;refine Fm H 0 1 rfl rfl (by decide) rfl b i v λa H=>k a ⟨?_,h2,d,RO e i v hv,sw s.1 i ca,sw s.1 i la,?_⟩
 ·show 0<(cW s.1 i v).length;rw[cu];exact b
 ·unfold Sys.L;show aH D G w0 a ((Q.bm,kh Q.bw (cW s.1 i v).length Q.c _ _):: _);rw[cu];exact H
theorem take (S:a7 Q D G w0 w s L0) (y o:Int) {K:Int×Int×Unit->A1->Prop} (k: ∀a,a7 Q D G w0 a (s.1,dD s.2 y o) L0->K (dY s.2 y o,dk s.2 y o,()) a):
 aB A2 213 (.bH [.one (.int .i64),.one (.int .i64)]) [ah (ad Q.bp),aa y,aa o] w K:=by
 obtain⟨c,h2,b,d,ca,la,H⟩:=S;refine N9 H 3 2 rfl rfl (by decide) rfl h2 b y o λa H=>k a ⟨c,?_,?_,d,ca,la,?_⟩
 ·show 0<(dD s.2 y o).length;rw[qZ];exact h2
 ·show(dD s.2 y o).length<=4096;rw[qZ];exact b
 ·unfold Sys.L;show aH D G w0 a (_:: _:: _::(Q.bp,[.slice _ (dD s.2 y o).length _]):: _);rw[qZ];exact H
theorem MG (S:a7 Q D G w0 w s L0) (f y o:Int) {K:Int->A1->Prop} (k: ∀a,a7 Q D G w0 a (s.1,fC s.2 f (aE y o)) L0->K (rq s.2 f (aE y o)) a):
 aB A2 211 (.el (.one (.int .i64))) [ah (ad Q.bp),aa f,aa y,aa o] w K:=by
 obtain⟨c,h2,b,d,ca,la,H⟩:=S;refine N6 H 3 2 rfl rfl (by decide) rfl h2 b f y o λa H=>k a ⟨c,?_,?_,d,ca,la,?_⟩
 ·show 0<(fC s.2 f (aE y o)).length;rw[gO];exact h2
 ·show(fC s.2 f (aE y o)).length<=4096;rw[gO];exact b
 ·unfold Sys.L;show aH D G w0 a (_:: _:: _::(Q.bp,[.slice _ (fC s.2 f (aE y o)).length _]):: _);rw[gO];exact H
theorem cnt (S:a7 Q D G w0 w s L0) (v:Int):ag A2 123 [ah (ad Q.bp),aa v] w (aa (cz s.2 v:Nat)):=by
 obtain⟨b,h2,a,c,ca,la,H⟩:=S;exact N_ H 3 2 rfl rfl rfl a v
theorem TR (S:a7 Q D G w0 w s L0):ag A2 17 [ah (ad Q.bm)] w (aa (s.1.length:Nat)):=by
 obtain⟨a,h2,b,c,ca,la,H⟩:=S;exact ag.of (s:= .el (.one (.int .i64))) λw' h'=>DE ((H.get (i:=0) rfl).ext h')
theorem QI (S:a7 Q D G w0 w s L0):ag A2 78 [ah (ad Q.bp)] w (aa (s.2.length:Nat)):=by
 obtain⟨a,h2,b,c,ca,la,H⟩:=S;exact UF H 3 rfl
end a7
end
set_option maxRecDepth 100000
open Go.RX D
def stE (gone:Bool):Int:=if gone=true then 6 else 0
def UH (r:Int) (gone:Bool):Int:=if gone=true then -1 else r
theorem DK (pg f rt:Int) (w:A1):ag A2 288 [aa pg,aa f,aa rt] w (aa (jX pg f rt)):=by
 refine ag.of (s:= .el (.one (.int .i64))) λw' _=>ai (C:=N0) (aM:=λ_=>[]) (A_ (FQ _ _ _ w' _) ?_);unfold jX;refine ab (λc=>λw1 a=>⟨?_,a⟩) (λc=>ab (λd=>λw1 a=>⟨?_,a⟩) (λd=>λw1 a=>⟨?_,a⟩))
 ·simp at c;rw[ax (by omega)]
 ·simp at c d;rw[ao (by omega),ax (by omega)]
 ·simp at c d;rw[ao (by omega),ao (by omega)]
theorem DL (f:Int) (w:A1):ag A2 338 [aa f] w (.agg ⟨[.bool true,aa 0,.bool false,aa f]⟩):=by
 refine ag.of (s:= .el (.agg VI)) (v:=bP f) λw' _=>aO (C:=N0) (aM:=λ_=>[]) (A_ (FR f w' _) ?_);have H:=At.start [] w';exact aA.go H λb a H=>aw.all 0 H rfl rfl rfl λc H=>ak.go H λd H=>aj.at 0 H rfl rfl ⟨rfl,H.all⟩
theorem DM {pg:Int} (a:0<=pg) (x:PT) (e:ET) (g:0<=e.2.2.2.1/\e.2.2.2.1<4096) (w:A1):ag A2 168 [aa pg,.agg ⟨[aa x.1,aa x.2.1,aa x.2.2.1]⟩,.agg ⟨[.bool e.1,aa e.2.1,.bool e.2.2.1,aa e.2.2.2.1]⟩] w (aa (np pg x e)):=by
 refine ag.of (s:= .el (.one (.int .i64))) λw' _=>ai (C:=N0) (aM:=λ_=>[]) (A_ (FU pg x.1 x.2.1 x.2.2.1 e.1 e.2.1 e.2.2.1 e.2.2.2.1 w' _) ?_);have H:=At.start [] w';unfold np;refine aA.go H λb h H=>aA.go H λi j H=>⟨rfl,aj.bN 1 H rfl rfl (ab (λc=>⟨rfl,aj.bN 0 H rfl rfl ⟨trivial,by decide,ak.go H λd H=>⟨?_,H.all⟩⟩⟩) (λc=>⟨rfl,aj.bN 0 H rfl rfl (ak.go H λd H=>⟨?_,H.all⟩)⟩))⟩
 ·have c:x.2.1=1:=by simpa using c
  rw[ax c];have f:gu pg (ff 1)=pg % 16:=by
   have:ff 1=16:=rfl;rw[this];exact Int.tmod_eq_emod_of_nonneg a
  rw[f,av (by omega) (by omega)]
 ·have c: ¬ x.2.1=1:=by simpa using c
  rw[ao c]
section
variable {Q:Sys} {D G:List Nat} {w0 w:A1} {s:WD} {L0:List (Nat×List A9)} {bt:Nat} {o r:Int} {gone:Bool}
namespace a7
theorem state (S:a7 Q D G w0 w s L0) (i:Nat) (b:L0[i]? =some (bt,lX Q o r gone)):ag A2 166 [ah (ad bt)] w (aa (stE gone)):=by
 have hb:=S.get b;refine ag.of (s:= .el (.one (.int .i64))) λw' h'=>ai (C:=N0) (aM:=λ_=>[]) (A_ (FP _ w' _) ?_);have hb:=hb.ext h';refine⟨λ_=>rfl,λ_=>rfl,aj.of (ad Q.bm) (by rw[aL];exact hb.lJ rfl) (an rfl ⟨rfl,rfl,aj.of gone (by rw[aL];exact hb.lJ rfl) ?_⟩)⟩;cases gone with
 |true=>exact ay rfl λw1 a=>⟨rfl,a⟩
 |false=>exact an rfl λw1 a=>⟨rfl,a⟩
theorem root (S:a7 Q D G w0 w s L0) (i:Nat) (b:L0[i]? =some (bt,lX Q o r gone)):ag A2 81 [ah (ad bt)] w (aa (UH r gone)):=by
 refine ag.of (s:= .el (.one (.int .i64))) λw' h'=>ai (C:=N0) (aM:=λ_=>[]) (A_ (K4 _ w' _) ?_);have S:=S.ext h';refine⟨_,S.state i b,?_⟩;cases gone with
 |true=>exact ay rfl λw1 a=>⟨rfl,a⟩
 |false=>exact an rfl ⟨rfl,rfl,S.bW i b rfl λw1 a=>⟨rfl,a⟩⟩
theorem at_ (S:a7 Q D G w0 w s L0) (k:Nat) (d:L0[k]? =some (bt,lX Q o r gone)) (i:Int) {K:ET->A1->Prop} (c: ∀a,a7 Q D G w0 a s L0->K (az s.1 i) a):
 aB A2 252 (.el (.agg VI)) [ah (ad bt),aa i] w K:=by
 refine S.go λw1 S=>aO (C:=N0) (aM:=λ_=>[]) (A_ (I4 _ i w1 K) ?_);refine S.al λb a S=>⟨rfl,rfl,S.bW (k+1) d rfl (S.load i λf S=>⟨?_,S.al λg j S=>S.dx 0 rfl rfl rfl λl S=>S.ld 0 rfl rfl (S.dx 1 rfl rfl rfl λm S=>S.en λe S=>S.ld 1 rfl rfl (c e S.tail.tail))⟩)⟩;have h:=BH S.P5 i;exact xR h.1 h.2
theorem lay (S:a7 Q D G w0 w s L0) (k:Nat) (d:L0[k]? =some (bt,lX Q o r gone)) (i:Int) (e:ET) {K:Unit->A1->Prop} (c: ∀a,a7 Q D G w0 a (du s i e) L0->K () a):
 aB A2 294 (.bH []) [ah (ad bt),aa i,.agg ⟨[.bool e.1,aa e.2.1,.bool e.2.2.1,aa e.2.2.2.1]⟩] w K:=by
 refine S.go λw1 S=>ai (C:=N0) (aM:=λ_=>[]) (A_ (NW _ i e.1 e.2.1 e.2.2.1 e.2.2.2.1 w1 K) ?_);exact S.al λb a S=>S.ld 0 rfl rfl ⟨trivial,rfl,rfl,S.bW (k+1) d rfl (S.store i _ (I5 _ _ _ _) λg S=>S.en λf S=>c f S.tail)⟩
end a7
theorem BL {ds:List DT} {y o:Int} (h: ¬ dk ds y o=0):dY ds y o=0:=by
 unfold dk at h;unfold dY;cases a:gx ds with
 |none=>rfl
 |some n=>
  have b: ¬ ds.length=0:=λe=>by
   have:ds=[]:=HT.1 e;subst this;cases a
  rw[ao b,a] at h;exact ao h
theorem q_ (ds:List DT) (y o:Int) (h0:0<ds.length):0<=dY ds y o/\dY ds y o<ds.length:=by
 unfold dY;cases a:gx ds with
 |none=>exact⟨ED 0,by show(0:Int)< _;omega⟩
 |some n=>
  unfold gx at a;rw[Hb] at a;have b:=a.1;dsimp only;split<;>omega
end
set_option maxRecDepth 100000
open Go.RX D
section
variable {Q:Sys} {D G:List Nat} {w0 w:A1} {s:WD} {L0:List (Nat×List A9)} {bt:Nat} {o r:Int} {gone:Bool}
namespace a7
theorem UI (S:a7 Q D G w0 w s L0) (i:Nat) (b:L0[i]? =some (bt,lX Q o r gone)) {K:Int×Int×Unit->A1->Prop} (k: ∀d,a7 Q D G w0 d (gD s o (λ_=>0)) L0->K (dJ s o,oO s o,()) d):
 aB A2 279 (.bH [.one (.int .i64),.one (.int .i64)]) [ah (ad bt),.func (.func 280) #[] #[]] w K:=by
 refine S.go λw1 S=>ai (C:=N0) (aM:=nM) (A_ (FV _ w1 K) ?_);have A:=q_ s.2 3 o S.zw;have B:=S.le;refine⟨rfl,rfl,S.bW i b rfl ⟨rfl,rfl,S.bW i b rfl (S.take 3 o λd S=>?_)⟩⟩;by_cases a:oO s o=0
 ·have f:gD s o (λ_=>0)=(dS s.1 (dJ s o) (λ_=>0) 16,dD s.2 3 o):=by unfold gD;rw[ax a]
  rw[f,a] at k;have g:dk s.2 3 o=0:=a;refine an (by simp[g]) ⟨λn v w'=> ∃m:Nat,n=16 - m/\m<=16/\v.1=(m:Int)/\a7 Q D G w0 w' (dS s.1 (dJ s o) (λ_=>0) m,dD s.2 3 o) L0,⟨16,λj h=>⟨0,rfl,by omega,rfl,S.ext h⟩⟩,?_⟩;rintro n ⟨v,u⟩ j ⟨m,rfl,E,e,S⟩;dsimp only at e ⊢;subst e;refine ab (λc=>⟨rfl,rfl,S.bW i b rfl ?_⟩) (λc=>S.en λl S=>k l ?_)
  ·have c:m<16:=by simp at c;omega
   refine λl p=>ai (C:=N0) (aM:=λ_=>[]) (A_ (K7 _ l _) λF q=>?_);have S:=(S.ext p).ext q;have t:(0:Int)<=0/\(0:Int)<18446744073709551616:=by decide
   refine⟨trivial,trivial,by rw[aL];exact(S.get b).lJ rfl,trivial,trivial,?_⟩;have x:aC .i64 (dO .i64 16 (dY s.2 3 o)) (m:Int)=16*dJ s o+(m:Int):=by
    have:dJ s o=dY s.2 3 o:=rfl;rw[dI (by omega) (by omega),av (by omega) (by omega),this]
   rw[x];refine S.store _ _ t λH S=>λI y=>⟨16 - (m+1),by omega,m+1,rfl,by omega,?_,S.ext y⟩;rw[av (by omega) (by omega)];omega
  ·have c: ¬ m<16:=by simp at c;omega
   have:m=16:=by omega
   subst this;exact S
 ·have f:gD s o (λ_=>0)=(s.1,dD s.2 3 o):=by unfold gD;rw[ao a]
  have z:dJ s o=0:=BL a;rw[f,z] at k;have g: ¬ dk s.2 3 o=0:=a;exact ay (by simp[g]) (S.en λj S=>k j S)
theorem UJ (S:a7 Q D G w0 w s L0) (i:Nat) (b:L0[i]? =some (bt,lX Q o r gone)) {K:Int×Int×Unit->A1->Prop} (k: ∀d,a7 Q D G w0 d (gD s o (λ_=>0)) L0->K (dJ s o,oO s o,()) d):
 aB A2 279 (.bH [.one (.int .i64),.one (.int .i64)]) [ah (ad bt),.func (.func 337) #[] #[]] w K:=by
 refine S.go λw1 S=>ai (C:=N0) (aM:=nN) (A_ (FW _ w1 K) ?_);have A:=q_ s.2 3 o S.zw;have B:=S.le;refine⟨rfl,rfl,S.bW i b rfl ⟨rfl,rfl,S.bW i b rfl (S.take 3 o λd S=>?_)⟩⟩;by_cases a:oO s o=0
 ·have f:gD s o (λ_=>0)=(dS s.1 (dJ s o) (λ_=>0) 16,dD s.2 3 o):=by unfold gD;rw[ax a]
  rw[f,a] at k;have g:dk s.2 3 o=0:=a;refine an (by simp[g]) ⟨λn v w'=> ∃m:Nat,n=16 - m/\m<=16/\v.1=(m:Int)/\a7 Q D G w0 w' (dS s.1 (dJ s o) (λ_=>0) m,dD s.2 3 o) L0,⟨16,λj h=>⟨0,rfl,by omega,rfl,S.ext h⟩⟩,?_⟩;rintro n ⟨v,u⟩ j ⟨m,rfl,E,e,S⟩;dsimp only at e ⊢;subst e;refine ab (λc=>⟨rfl,rfl,S.bW i b rfl ?_⟩) (λc=>S.en λl S=>k l ?_)
  ·have c:m<16:=by simp at c;omega
   refine λl p=>ai (C:=N0) (aM:=λ_=>[]) (A_ (K8 _ l _) λF q=>?_);have S:=(S.ext p).ext q;have t:(0:Int)<=0/\(0:Int)<18446744073709551616:=by decide
   refine⟨trivial,trivial,by rw[aL];exact(S.get b).lJ rfl,trivial,trivial,?_⟩;have x:aC .i64 (dO .i64 16 (dY s.2 3 o)) (m:Int)=16*dJ s o+(m:Int):=by
    have:dJ s o=dY s.2 3 o:=rfl;rw[dI (by omega) (by omega),av (by omega) (by omega),this]
   rw[x];refine S.store _ _ t λH S=>λI y=>⟨16 - (m+1),by omega,m+1,rfl,by omega,?_,S.ext y⟩;rw[av (by omega) (by omega)];omega
  ·have c: ¬ m<16:=by simp at c;omega
   have:m=16:=by omega
   subst this;exact S
 ·have f:gD s o (λ_=>0)=(s.1,dD s.2 3 o):=by unfold gD;rw[ao a]
  have z:dJ s o=0:=BL a;rw[f,z] at k;have g: ¬ dk s.2 3 o=0:=a;exact ay (by simp[g]) (S.en λj S=>k j S)
theorem UK (S:a7 Q D G w0 w s L0) (i:Nat) (b:L0[i]? =some (bt,lX Q o r gone)) (j:Nat) {be:Nat} {e:ET} (hb:L0[j]? =some (be,[.bool e.1,aa e.2.1,.bool e.2.2.1,aa e.2.2.2.1])) (B:0<=e.2.2.2.1/\e.2.2.2.1<4096) {K:Int×Int×Unit->A1->Prop} (k: ∀d,a7 Q D G w0 d (gD s o (lQ e)) L0->K (dJ s o,oO s o,()) d):
 aB A2 279 (.bH [.one (.int .i64),.one (.int .i64)]) [ah (ad bt),.func (.func 340) #[] #[ah (ad be)]] w K:=by
 refine S.go λw1 S=>ai (C:=N0) (aM:=nO) (A_ (FX _ _ w1 K) ?_);have E:=q_ s.2 3 o S.zw;have F:=S.le;refine⟨rfl,rfl,S.bW i b rfl ⟨rfl,rfl,S.bW i b rfl (S.take 3 o λd S=>?_)⟩⟩;by_cases a:oO s o=0
 ·have f:gD s o (lQ e)=(dS s.1 (dJ s o) (lQ e) 16,dD s.2 3 o):=by unfold gD;rw[ax a]
  rw[f,a] at k;have g:dk s.2 3 o=0:=a;refine an (by simp[g]) ⟨λn v w'=> ∃m:Nat,n=16 - m/\m<=16/\v.1=(m:Int)/\a7 Q D G w0 w' (dS s.1 (dJ s o) (lQ e) m,dD s.2 3 o) L0,⟨16,λl h=>⟨0,rfl,by omega,rfl,S.ext h⟩⟩,?_⟩;rintro n ⟨v,u⟩ l ⟨m,rfl,H,ev,S⟩;dsimp only at ev ⊢;subst ev;refine ab (λc=>⟨rfl,rfl,S.bW i b rfl ?_⟩) (λc=>S.en λp S=>k p ?_)
  ·have c:m<16:=by simp at c;omega
   refine λp q=>ai (C:=N0) (aM:=λ_=>[]) (A_ (Cy _ _ p _) ?_);have S:=S.ext q;refine⟨rfl,S.bW j hb rfl ⟨rfl,S.bW j hb rfl ⟨trivial,S.en λI S=>?_⟩⟩⟩;have t:tu true e.2.1 false (aC .i64 e.2.2.2.1 (m:Int))=lQ e (m:Int):=by
    rw[av (by omega) (by omega)];rfl
   rw[t];have x:0<=lQ e (m:Int)/\lQ e (m:Int)<18446744073709551616:=I5 _ _ _ _;refine⟨trivial,trivial,by rw[aL];exact(S.get b).lJ rfl,trivial,trivial,?_⟩;have y:aC .i64 (dO .i64 16 (dY s.2 3 o)) (m:Int)=16*dJ s o+(m:Int):=by
    have:dJ s o=dY s.2 3 o:=rfl;rw[dI (by omega) (by omega),av (by omega) (by omega),this]
   rw[y];refine S.store _ _ x λJ S=>λL z=>⟨16 - (m+1),by omega,m+1,rfl,by omega,?_,S.ext z⟩;rw[av (by omega) (by omega)];omega
  ·have c: ¬ m<16:=by simp at c;omega
   have:m=16:=by omega
   subst this;exact S
 ·have f:gD s o (lQ e)=(s.1,dD s.2 3 o):=by unfold gD;rw[ao a]
  have A:dJ s o=0:=BL a;rw[f,A] at k;have g: ¬ dk s.2 3 o=0:=a;exact ay (by simp[g]) (S.en λl S=>k l S)
end a7
end
set_option maxRecDepth 100000
open Go.RX D
section
variable {D G:List Nat} {w0 w:A1} {L:List (Nat×List A9)}
def P6 (e:El) (b:Nat) (xs:List e.T) (a:List (Nat×List A9)):Prop:=
 (xs=[]/\a=[(b,[.slice none 0 0])])\/ ∃bs c rest,a=[(b,[.slice (ad bs) xs.length c]),(bs,flat e xs++rest)]/\(flat e xs++rest).length=c*aK e/\xs.length<=c
theorem P6.head {e:El} {b:Nat} {xs:List e.T} {a:List (Nat×List A9)} (h:P6 e b xs a): ∃s:Option A3×Nat×Nat,a[0]? =some (b,[.slice s.1 s.2.1 s.2.2]):=by
 rcases h with ⟨_,rfl⟩|⟨bs,c,rest,rfl, _⟩
 ·exact⟨(none,0,0),rfl⟩
 ·exact⟨(_, _, _),rfl⟩
theorem P6.push {e:El} {b d:Nat} {xs:List e.T} {x:e.T} {f Z:List (Nat×List A9)} {s:Option A3×Nat×Nat} (v:P6 e b xs f) (i:f[0]? =some (b,[.slice s.1 s.2.1 s.2.2])) (H:aH D G w0 w ((d,cellsOf e x)::(f++Z)))
 (j:j8 e=true) {t:TypeId} {size bytes:Nat} {z:Array A9} (l:size=aK e) (m:z.size=aK e) (hb:(xs.length+1)*bytes<=140737488355328) {K:A1->Prop}
 (k: ∀o w',P6 e b (xs++[x]) o->aH D G w0 w' (o++Z)->K w'):
 vp w t size bytes z (s.1,s.2.1,s.2.2) (some ⟨d,0,none⟩,1,1) λr a=>aw a (ad b) [.slice r.1 r.2.1 r.2.2] K:=by
 obtain⟨p,n,c⟩:=s;rcases v with ⟨rfl,rfl⟩|⟨bs,B,rest,rfl,y,h2⟩
 ·cases i;refine aH.grow (Ls:=[]) (L0:=(b,[.slice none 0 0])::Z) (xs:=[]) H (.inl ⟨rfl,rfl,rfl⟩) j l m hb λbs c rest w' g1 g H=>?_;refine aw.all 1 H rfl rfl rfl λa H=>k [(b,[.slice (ad bs) 1 c]),(bs,flat e [x]++rest)] a (.inr ⟨bs,c,rest,rfl,g1,g⟩) ?_;exact H.perm (HP _ _ _)
 ·cases i;have A:aH D G w0 w ((d,cellsOf e x)::([(bs,flat e xs++rest)]++((b,[.slice (ad bs) xs.length c])::Z))):=H.perm (HQ _ (HP _ _ _));refine aH.grow A (.inr ⟨bs,c,rest,rfl,rfl,y,h2⟩) j l m hb λh q u w' g1 g H=>?_;refine aw.all 1 H rfl rfl rfl λa H=>k [(b,[.slice (ad h) (xs.length+1) q]),(h,flat e (xs++[x])++u)] a (.inr ⟨h,q,u,?_,g1,by simpa using g⟩) ?_
  ·rw[Es];rfl
  ·exact H.perm (HP _ _ _)
theorem tr.new {l:Nat} {rec:Loop} {w':A1} {b:Nat} {cs:List A9} (h:tr D G w0 w L l rec) (H:At [] w w' [(b,cs)]):tr D G w0 w' ((b,cs)::L) l rec/\Ob l w w':=by
 have a:Ext w w':=H.all;have hb:w.heap.size<=b:=by
  rcases H.own (b,cs) Et with h|h
  ·exact h
  ·cases h
 exact⟨⟨h.1,h.2.1.more a hb (H.cX (b,cs) Et),h.2.2.ext a⟩,Ob.qH a⟩
theorem F4 {bm bw n c:Nat} {ca la:Int} {ws:List Int} {rest:List A9} (H:aH D G w0 w L) (j:Nat) (b:L[j]? =some (bm,kh bw n c ca la)) (f:bh w0 bw (flat eW ws++rest)) (g:bw∉G) (h:n=ws.length) (h0:0<n) (i:Int) {K:Int×Int×Unit->A1->Prop}
 (k: ∀a,aH D G w0 a (L.set j (bm,kh bw n c (sw ws i ca) la))->K (dB ws i,yX ws i,()) a):
 aB A2 221 (.bH [.one (.int .u64),.one (.int .i64)]) [ah (ad bm),aa i] w K:=by
 refine aB.go H λw1 H=>ai (C:=M0) (aM:=λ_=>[]) (A_ (Ad _ i w1 K) ?_);refine uD H j b h h0 i (λhi a H=>?_) (λhi a H=>?_)
 ·unfold sw dB yX at k;rw[hi,ax rfl,ax rfl,ax rfl] at k;have l:=gM.1 hi;refine an rfl ⟨rfl,?_⟩;rw[aL];have e:=TN (ws:=ws) (rest:=rest) (i:=i.toNat) (by omega);rw[Dn] at e;exact aj.gm H f g e (ak.go H λd H=>k d H)
 ·unfold sw dB yX at k;rw[hi,ao (by decide),ao (by decide),ao (by decide)] at k;refine ay rfl (ak.go H λd H=>k d ?_);rw[show L.set j (bm,kh bw n c ca la)=L from Hc λm=>by
   by_cases e:j=m
   ·subst e;rw[Bo (B3.1 b).1,b]
   ·rw[B4 e]]
  exact H
structure WM (Q:Sys) (ws:List Int) (w:A1) (bt:Nat) (o r:Int) (gone:Bool):Prop where
 tb:bh w bt (lX Q o r gone)
 wd:bh w Q.bw (flat eW ws++Q.rw)
 tne:bt≠Q.bm
 wne:Q.bw≠Q.bm
 P5:okW ws
 pos:0<ws.length
abbrev Mc (Q:Sys) (n:Nat) (l:List A9):Prop:= ∃ca la,l=kh Q.bw n Q.c ca la
theorem I6 {Q:Sys} {ws:List Int} {bt:Nat} {o r:Int} {gone:Bool} {D:List Nat} {L:List (Nat×List A9)} {ca la:Int} (R:WM Q ws w0 bt o r gone) (H:aH D [Q.bm] w0 w L) (j:Nat) (d:L[j]? =some (Q.bm,kh Q.bw ws.length Q.c ca la)) (i:Int) {K:ET->A1->Prop}
 (k: ∀ca a,aH D [Q.bm] w0 a (L.set j (Q.bm,kh Q.bw ws.length Q.c ca la))->K (az ws i) a):
 aB A2 252 (.el (.agg VI)) [ah (ad bt),aa i] w K:=by
 have t1:bt∉[Q.bm]:=by simpa using R.tne
 have t2:Q.bw∉[Q.bm]:=by simpa using R.wne
 refine aB.go H λw1 H=>aO (C:=N0) (aM:=λ_=>[]) (A_ (I4 _ i w1 K) ?_);refine aA.go H λb a H=>⟨rfl,rfl,aj.iQ H R.tb t1 rfl (F4 H (j+1) d R.wd t2 rfl R.pos i λf H=>⟨?_,aA.go H λg l H=>aw.all 0 H rfl rfl rfl λm H=>aj.at 0 H rfl rfl (aw.all 1 H rfl rfl rfl λn H=>ak.go H λe H=>aj.at 1 H rfl rfl (k (sw ws i ca) e (H.sub ?_)))⟩)⟩
 ·have h:=BH R.P5 i;exact xR h.1 h.2
 ·exact(DB _ _).trans (DB _ _)
end
abbrev emP (x:PT×Unit):List A9:=[.agg ⟨[aa x.1.1,aa x.1.2.1,aa x.1.2.2.1]⟩]
abbrev P7 (x:PT):PT×Unit:=(x,())
def HY (ws:List Int) (pg:Int):Nat->Int->List PT
 |0, _=>[]
 |l+1,f=>if dv (az ws (dN f pg ((l+1:Nat):Int)))=true then cJ ws pg l (az ws (dN f pg ((l+1:Nat):Int))).2.2.2.1 else[]
theorem F5 (ws:List Int) (pg:Int): ∀(l:Nat) (f:Int),cJ ws pg l f=(f,(l:Int),dN f pg (l:Int),())::HY ws pg l f
 |0, _=>rfl
 | _+1, _=>rfl
theorem Lc {ws:List Int} {pg:Int} {l:Nat} {f:Int} (h:dv (az ws (dN f pg (l:Int)))=false):HY ws pg l f=[]:=by
 cases l with
 |zero=>rfl
 |succ l=>rw[HY,h,ao (by decide)]
theorem RP {Q:Sys} {ws:List Int} {bt b c:Nat} {o r pg:Int} {gone:Bool} {N:Nat} (F:okW ws) (G:0<ws.length):
 VB A2 311 (λy=>[.func (.yield y) #[] #[],ah (ad b),ah (ad c)]) emP N Q.bm (Mc Q ws.length)
  [(bt,lX Q o r gone),(Q.bw,flat eW ws++Q.rw),(b,[ah (ad bt)]),(c,[aa pg])] ((cJ ws pg 3 r).map P7):=by
 intro y J K I a X O w z i j;refine Calls.mono (ai (C:=N0) (aM:=qj) (Post:=λ_ w'=>J (a++(cJ ws pg 3 r).map P7) X O w') (A_ (K5 y _ _ w _) ?_)) ?_
 rotate_left
 ·rintro e w' ⟨x,rfl,h⟩;exact⟨_,rfl,h⟩
 have m:=i (bt,lX Q o r gone) (by simp);have A:=i (Q.bw,flat eW ws++Q.rw) (by simp);have B:=i (b,[ah (ad bt)]) (by simp);have L:=i (c,[aa pg]) (by simp);refine aj.of (ad bt) ((K.cX j B).2.lJ rfl) ⟨rfl,rfl,aj.of r (by rw[aL];exact(K.cX j m).2.lJ rfl) ⟨λn v w'=>(∃l:Nat,v.2.1=(l:Int)/\n=l+1/\l<=3/\ ∃pre,cJ ws pg 3 r=pre++cJ ws pg l v.1/\J (a++pre.map P7) X O w')\/(v.2.1= -1/\J (a++(cJ ws pg 3 r).map P7) X O w'),
  ⟨4,λw1 M=> .inl ⟨3,rfl,rfl,BA _,[],rfl,by simpa using K.ext j M⟩⟩,?_⟩⟩
 rintro n ⟨f,lv,u⟩ w1 (⟨l,g,rfl,hl,pre,d,j⟩|⟨g,j⟩)
 ·dsimp only at g d ⊢;subst g;refine ay (by simp) (aj.of pg ((K.cX j L).2.lJ rfl) ⟨trivial,?_⟩);obtain⟨lm,⟨ca,la,rfl⟩,H⟩:=K.VC j;have R:WM Q ws w1 bt o r gone:=⟨(K.cX j m).2,(K.cX j A).2,(K.cX j m).1,(K.cX j A).1,F,G⟩;have hb:=K.cX j B;have P:b∉[Q.bm]:=by simpa using hb.1
  refine aA.go H λS T H=>aw.all 0 H rfl rfl rfl λw3 H=>aj.gm H hb.2 P rfl ⟨rfl,aj.bN 0 H rfl rfl (I6 R H 1 rfl _ λvK w4 H=>aA.go H λD w5 H=>aw.all 0 H rfl rfl rfl λw6 H=>aj.at 1 H rfl rfl λU V=>?_)⟩;have H:=H.ext V;rw[F5 ws pg l f] at d;have W:(a++pre.map P7).length<N:=by
   rw[d] at z;simp only[List.map_append,Es,DS,Bc] at z ⊢;omega
  have Z:=K.pf (Y:=[(D, _),(S, _)]) j H ⟨_, _,rfl⟩;refine I _ (P7 (f,(l:Int),dN f pg (l:Int),())) _ _ U _ W Z λw8 p=>?_;have E:=(K.cX p (x:=(D, _)) (Et)).2;refine aj.of (az ws (dN f pg (l:Int))) (bI E rfl) ⟨λ_=>trivial,ab (λq w9 s=>?_) (λq=>⟨rfl,aj.of (az ws (dN f pg (l:Int))).2.2.2.1 (by rw[aL];exact E.lJ rfl) λw9 s=>?_⟩)⟩
  ·have t:dv (az ws (dN f pg (l:Int)))=false:=by simpa[dv] using q
   have k:=K.sub (K.ext p s) (X':=X) (λx h=>by simp[h]) (Br _);rw[Lc t] at d;rw[d];simpa using k
  ·have t:dv (az ws (dN f pg (l:Int)))=true:=by simpa[dv] using q
   have k:=K.sub (K.ext p s) (X':=X) (λx h=>by simp[h]) (Br _);rcases l with _|l
   ·refine⟨0,by omega,.inr ⟨rfl,?_⟩⟩;rw[d];simpa[HY] using k
   ·refine⟨l+1,by omega,.inl ⟨l,?_,rfl,by omega,pre++[(f,((l+1:Nat):Int),dN f pg ((l+1:Nat):Int),())],?_,by simpa using k⟩⟩
    ·show bK .i64 ((l+1:Nat):Int) 1=(l:Int);rw[bU (by omega) (by omega)];omega
    ·rw[d,HY,ax t,E4];rfl
 ·dsimp only at g ⊢;subst g;exact an rfl λT h2=>K.ext j h2
section
variable {Q:Sys} {D G:List Nat} {w0 w:A1} {s:WD} {L0:List (Nat×List A9)} {bt:Nat} {o r:Int} {gone:Bool}
namespace a7
theorem YX (S:a7 Q D G w0 w s L0) (pg:Int) {K:Option A3×Option A3×Unit->A1->Prop} (k: ∀b c a,a7 Q D G w0 a s ((c,[aa pg])::(b,[ah (ad bt)])::L0)->K (some ⟨b,0,none⟩,some ⟨c,0,none⟩,()) a):
 aB A2 251 TQ [ah (ad bt),aa pg] w K:=by
 refine S.go λw1 S=>ai (C:=N0) (aM:=λ_=>[]) (A_ (NX _ pg w1 K) ?_);exact S.al λb a S=>S.al λc e S=>S.en λd S=>k b c d S
theorem HU (S:a7 Q D G w0 w s L0) (k0:Nat) (t:L0[k0]? =some (bt,lX Q o r gone)) {b c:Nat} {pg:Int} (hb:(b,[J3 (ad bt)])∈L0) (hc:(c,[aa pg])∈L0)
 {K:Option A3×Nat×Nat->A1->Prop} (k: ∀bs cs rest g,a7 Q D G w0 g s ((bs,flat (.agg Mn) (cJ s.1 pg 3 r)++rest)::L0)->K (some ⟨bs,0,none⟩,(cJ s.1 pg 3 r).length,cs) g):
 aB A2 250 (.el (.one .slice)) [.func (.func 311) #[] #[ah (ad b),ah (ad c)]] w K:=by
 refine S.go λw1 S=>aO (C:=N0) (aM:=qk) (A_ (K6 _ _ w1 K) ?_);obtain⟨m,h2,u,n,ca,la,H0⟩:=S;have H:=H0.again;refine aA.go H λp g H=>?_;have v:(cJ s.1 pg 3 r).length<=4:=pL s.1 pg 3 r;refine vr.HU (N:=4) (bm:=Q.bm) (mc:=Mc Q s.1.length) (SF:=[(p,[.slice none 0 0])]) (Lb:=(Q.bw,flat eW s.1++Q.rw)::(Q.bf,flat eD s.2++Q.rf)::(Q.bp,[.slice (ad Q.bf) s.2.length Q.cp])::L0) H ⟨_, _,rfl⟩
  (RP (o:=o) (r:=r) (gone:=gone) (bt:=bt) (pg:=pg) n m) ?_ (by simpa using v) (λxs d=>P6 (.agg Mn) p (xs.map (·.1)) d) (.inl ⟨rfl,rfl⟩) ?_ ?_
 ·intro x e;simp only[E5,FS,or_false] at e;rcases e with rfl|rfl|rfl|rfl
  ·simp[Bp t]
  ·simp
  ·simp[hb]
  ·simp[hc]
 ·intro b0 x d Z rr l rec y R hN a f z;refine zd.go f rfl ?_;refine aA.go (At.start [] y) λA B i=>aw.all 0 i rfl rfl rfl λE i=>?_;obtain⟨F,I⟩:=tr.new f i;obtain⟨sl,j⟩:=a.head;refine xG.YI F λwb H J L=>aj.at 1 H (by rw[List.getElem?_cons_succ,EA (B3.1 j).1];exact j) rfl (aj.at 0 H rfl rfl (aA.go H λM q H=>λO P=>?_));have H:=H.ext P;have T:aH [] _ wb O ((M,cellsOf (.agg Mn) x.1)::(d++((A,[aa x.1.1,aa x.1.2.1,aa x.1.2.2.1])::Z))):=H.perm (HQ _ Do);refine a.push j T rfl rfl rfl (by simp only[DS];omega) λU w8 V W=>oJ.fZ J (W.sub (List.Sublist.append (Br _) (DB _ _))) λX Y WQ=>z U X (by simpa using V) Y ((I.trans L).trans WQ)
 ·rintro rr rec B l' d ⟨vK,xL,rfl⟩ a f;refine c9.none f λE H=>?_;have P3:((cJ s.1 pg 3 r).map P7).map (·.1)=cJ s.1 pg 3 r:=by
   rw[List.map_map];exact List.map_id _
  rw[P3] at a;rcases a with ⟨h, _⟩|⟨bs,cs,rest,rfl,g1,g2⟩
  ·exact absurd h (s6 _ _ _ _)
  ·refine aj.at 0 H rfl rfl (oN.go H λq H=>k bs cs rest q ⟨m,h2,u,n,vK,xL,H0.join (λx e=>e) ?_⟩);refine(H.sub (DB _ _)).perm ?_;exact Do (l₁:=[_, _, _, _])
end a7
end
set_option maxRecDepth 100000
open Go.RX D
theorem yB (ws:List Int) (r pg:Int):(cJ ws pg 3 r)[(cJ ws pg 3 r).length - 1]? =some (dh ws r pg):=by
 have a:=s6 ws pg 3 r;unfold dh;rw[List.getLastD_eq_getLast?, <-List.getLast?_eq_getElem?,List.getLast?_eq_some_getLast a];rfl
theorem mv (ws:List Int) (a:Int):0<=(az ws a).2.2.2.1/\(az ws a).2.2.2.1<4096:=DJ _
section
variable {Q:Sys} {D G:List Nat} {w0 w:A1} {s:WD} {L0:List (Nat×List A9)} {bt:Nat} {o r:Int} {gone:Bool}
namespace a7
theorem end_ (S:a7 Q D G w0 w s L0) (k0:Nat) (c:L0[k0]? =some (bt,lX Q o r gone)) (pg:Int) {K:PT×ET×Unit->A1->Prop} (k: ∀a,a7 Q D G w0 a s L0->K (dh s.1 r pg,cK s.1 r pg,()) a):
 aB A2 167 (.bH [.agg Mn,.agg VI]) [ah (ad bt),aa pg] w K:=by
 refine S.go λw1 S=>aO (C:=N0) (aM:=λ_=>[]) (A_ (NY _ pg w1 K) ?_);refine S.al λb a S=>S.al λg h S=>S.YX pg λj bc l S=>S.HU (pg:=pg) (k0+4) c (by simp) (by simp) λbs cs rest m S=>?_;have n:(cJ s.1 pg 3 r).length<=4:=pL s.1 pg 3 r;have p:0<(cJ s.1 pg 3 r).length:=Hf.2 (s6 s.1 pg 3 r);have d:bK .i64 (((cJ s.1 pg 3 r).length:Nat):Int) 1=(((cJ s.1 pg 3 r).length - 1:Nat):Int):=by rw[bU (by omega) (by omega)];omega
 have e:=eC (S.get (i:=0) rfl) (yB s.1 r pg);dsimp only;rw[d];refine⟨⟨rfl,by omega,by omega⟩,aj.of (dh s.1 r pg) e ?_⟩;refine S.al λq t S=>S.dx 0 rfl rfl rfl λu S=>S.ld 0 rfl rfl ⟨rfl,S.bW 0 rfl rfl (S.at_ (k0+6) c _ λv S=>⟨bI (S.get (i:=0) rfl) rfl,S.dx 5 rfl rfl rfl λx S=>S.dx 4 rfl rfl rfl λy S=>S.en λf S=>S.ld 5 rfl rfl (S.ld 4 rfl rfl (k f S.tail.tail.tail.tail.tail.tail))⟩)⟩
theorem query (S:a7 Q D G w0 w s L0) (k0:Nat) (f:L0[k0]? =some (bt,lX Q o r gone)) (pg:Int) {K:Int×Int×Int×Unit->A1->Prop} (k: ∀a,a7 Q D G w0 a s L0->K (a_ s r gone pg) a):
 aB A2 83 (.bH [.one (.int .i64),.one (.int .i64),.one (.int .i64)]) [ah (ad bt),aa pg] w K:=by
 refine S.go λw1 S=>ai (C:=N0) (aM:=λ_=>[]) (A_ (FY _ pg w1 K) ?_);refine⟨_,S.state k0 f,?_⟩;unfold a_ at k;cases gone with
 |true=>
  rw[ax rfl] at k;exact ay rfl (S.en λa S=>k a S)
 |false=>
  rw[ao (by decide)] at k;refine an rfl (ab (λc=>S.en λa S=>?_) (λc=>?_))
  ·simp only[Ey,decide_eq_true_eq] at c;rw[ax c] at k;exact k a S
  ·simp only[HO,decide_eq_false_iff_not] at c;rw[ao (by omega)] at k;refine S.end_ k0 f pg λa S=>S.al λb g S=>S.al λh i S=>S.dx 1 rfl rfl rfl λj S=>S.dx 0 rfl rfl rfl λl S=>⟨rfl,S.bW 0 rfl rfl (ab (λd=>S.en λe S=>?_) (λd=>S.ld 1 rfl rfl (S.ld 0 rfl rfl ⟨_,DM (by omega) (dh s.1 r pg) (cK s.1 r pg) (mv _ _) _,rfl,S.bW 0 rfl rfl (S.en λe S=>?_)⟩)))⟩
   ·have d:(cK s.1 r pg).1=false:=by simpa using d
    rw[d,ao (by decide)] at k;exact k e S.tail.tail
   ·have d:(cK s.1 r pg).1=true:=by simpa using d
    rw[d,ax rfl] at k;exact k e S.tail.tail
theorem split (S:a7 Q D G w0 w s L0) (k0:Nat) (d:L0[k0]? =some (bt,lX Q o r gone)) (pg:Int) {K:Int->A1->Prop} (k: ∀f,a7 Q D G w0 f (ew s o r pg) L0->K (jY s o r pg) f):
 aB A2 291 (.el (.one (.int .i64))) [ah (ad bt),aa pg] w K:=by
 refine S.go λw1 S=>ai (C:=N0) (aM:=λ_=>[]) (A_ (FZ _ pg w1 K) ?_);unfold ew jY at k;refine S.end_ k0 d pg λf S=>S.al λb l S=>S.al λi m S=>S.dx 1 rfl rfl rfl λn S=>S.dx 0 rfl rfl rfl λp S=>⟨rfl,S.bW 1 rfl rfl (ab (λc=>S.en λg S=>?_) (λc=>?_))⟩
 ·have c:(dh s.1 r pg).2.1=0:=by simpa using c
  rw[ax c,ax c] at k;exact k g S.tail.tail
 ·have c: ¬ (dh s.1 r pg).2.1=0:=by simpa using c
  rw[ao c,ao c] at k;refine S.UK (k0+2) d 0 (be:=i) (e:=cK s.1 r pg) rfl (mv _ _) λg S=>ab (λa=>⟨rfl,S.bW 1 rfl rfl ⟨bP (dJ s o),DL _ _,S.lay (k0+2) d _ (bP (dJ s o)) λh S=>S.en λj S=>?_⟩⟩) (λa=>S.en λh S=>?_)
  ·have a:oO s o=0:=by simpa using a
   rw[ax a] at k;exact k j S.tail.tail
  ·have a: ¬ oO s o=0:=by simpa using a
   rw[ao a] at k;exact k h S.tail.tail
end a7
end
set_option maxRecDepth 100000
open Go.RX D
theorem DN (ws:List Int) (pg:Int): ∀(l:Nat) (f:Int) (x:PT),x∈cJ ws pg l f->0<=x.2.1/\x.2.1<=(l:Int)
 |0,f,x,h=>by
  rw[cJ,GS] at h;subst h;exact⟨ED _,ED _⟩
 |l+1,f,x,h=>by
  rw[cJ] at h;rcases E5.1 h with rfl|h
  ·exact⟨by show(0:Int)<=((l+1:Nat):Int);omega,ED _⟩
  ·split at h
   ·have:=DN ws pg l _ x h;omega
   ·cases h
theorem N' (ws:List Int) (r pg:Int):0<=(dh ws r pg).2.1/\(dh ws r pg).2.1<=3:=by
 have:=DN ws pg 3 r _ (Bp (yB ws r pg));omega
section
variable {Q:Sys} {D G:List Nat} {w0 w:A1} {s:WD} {L0:List (Nat×List A9)} {bt:Nat} {o r:Int} {gone:Bool}
namespace a7
theorem put (S:a7 Q D G w0 w s L0) (k0:Nat) (c:L0[k0]? =some (bt,lX Q o r gone)) (pg lv:Int) (H:0<=lv/\lv<=3) (e:ET) {K:Int->A1->Prop} (k: ∀g,a7 Q D G w0 g (oV s o r pg lv e) L0->K (jV s r pg lv) g):
 aB A2 289 (.el (.one (.int .i64))) [ah (ad bt),aa pg,aa lv,.agg ⟨[.bool e.1,aa e.2.1,.bool e.2.2.1,aa e.2.2.2.1]⟩] w K:=by
 refine S.go λw1 S=>ai (C:=N0) (aM:=sf) (A_ (NZ _ pg lv e.1 e.2.1 e.2.2.1 e.2.2.2.1 w1 K) ?_);have I:=N' s.1 r pg;unfold oV at k;refine S.al λb g S=>S.end_ (k0+1) c pg λg S=>S.al λm J S=>S.al λp L S=>S.dx 1 rfl rfl rfl λM S=>S.dx 0 rfl rfl rfl λN S=>⟨rfl,S.bW 0 rfl rfl ⟨λ_=>rfl,S.bW 1 rfl rfl ?_⟩⟩;by_cases a:((cK s.1 r pg).1||decide ((dh s.1 r pg).2.1<lv))=true
 ·have d:jV s r pg lv=5:=by unfold jV;rw[ax a]
  rw[d,ao (by decide)] at k;exact ay a (S.en λf S=>k f S.tail.tail.tail)
 have q:=a;simp only[Ey,decide_eq_true_eq,not_or] at q;refine an (by simpa using a) ⟨rfl,rfl,S.bW (k0+3) c rfl ⟨_,S.cnt 0,rfl,S.bW 1 rfl rfl ?_⟩⟩;have v:bK .i64 (dh s.1 r pg).2.1 lv=(dh s.1 r pg).2.1 - lv:=bU (by omega) (by omega);dsimp only;rw[v];by_cases h:(cz s.2 0:Int)<(dh s.1 r pg).2.1 - lv
 ·have d:jV s r pg lv=12:=by unfold jV;rw[ao a,ax h]
  rw[d,ao (by decide)] at k;exact ay (by simpa using h) (S.en λf S=>k f S.tail.tail.tail)
 have d:jV s r pg lv=0:=by unfold jV;rw[ao a,ao h]
 rw[d,ax rfl] at k;obtain⟨n0,y⟩: ∃n0,n0=((dh s.1 r pg).2.1 - lv).toNat:=⟨_,rfl⟩;rw[<-y] at k;obtain⟨z,i⟩: ∃z,z=pn o pg n0 (s,dh s.1 r pg):=⟨_,rfl⟩;rw[<-i] at k;refine an (by simpa using h) ⟨λn _ w'=> ∃t:WD, ∃x:PT,pn o pg n (t,x)=z/\x.2.1=lv+(n:Int)/\n<=3/\a7 Q D G w0 w' t ((p,[.bool (cK s.1 r pg).1,aa (cK s.1 r pg).2.1,.bool (cK s.1 r pg).2.2.1,aa (cK s.1 r pg).2.2.2.1])::(m,[aa x.1,aa x.2.1,aa x.2.2.1])::(b,[.bool e.1,aa e.2.1,.bool e.2.2.1,aa e.2.2.2.1])::L0),
  ⟨n0,λf A=>⟨s,dh s.1 r pg,i.symm,by omega,by omega,S.ext A⟩⟩,?_⟩
 rintro n u f ⟨t,x,j,O,P,S⟩;refine⟨rfl,S.bW 1 rfl rfl ?_⟩;rcases n with _|n
 ·refine an (by simp;omega) ⟨rfl,S.bW 1 rfl rfl (S.ld 2 rfl rfl (S.lay (k0+3) c _ e λB S=>S.en λl S=>k l ?_))⟩;have:z=(t,x):=j.symm;rw[this];exact S.tail.tail.tail
 ·refine ay (by simp;omega) (S.UJ (k0+3) c λB S=>⟨rfl,S.bW 1 rfl rfl ⟨bP (dJ t o),DL _ _,S.lay (k0+3) c _ (bP (dJ t o)) λl S=>⟨rfl,S.bW 1 rfl rfl ⟨rfl,S.bW 1 rfl rfl ⟨trivial,S.dx 1 rfl rfl rfl λR S=>λT E=>⟨n,by omega,du (gD t o λ_=>0) x.2.2.1 (bP (dJ t o)),(dJ t o,x.2.1 - 1,dN (dJ t o) pg (x.2.1 - 1),()),j,by show x.2.1 - 1= _;omega,by omega,?_⟩⟩⟩⟩⟩⟩);have F:bK .i64 x.2.1 1=x.2.1 - 1:=bU (by omega) (by omega);have S:=S.ext E;rw[F] at S;exact S
theorem map (S:a7 Q D G w0 w s L0) (k0:Nat) (b:L0[k0]? =some (bt,lX Q o r gone)) (pg f rt:Int) {K:Int->A1->Prop} (k: ∀a,a7 Q D G w0 a (ik s o r gone pg f rt) L0->K (iw s r gone pg f rt) a):
 aB A2 214 (.el (.one (.int .i64))) [ah (ad bt),aa pg,aa f,aa rt] w K:=by
 refine S.go λw1 S=>ai (C:=N0) (aM:=λ_=>[]) (A_ (N2 _ pg f rt w1 K) ?_);unfold ik iw at k;refine⟨_,S.state k0 b,?_⟩;cases gone with
 |true=>
  rw[ax rfl,ax rfl] at k;exact ay rfl (S.en λa S=>k a S)
 |false=>
  have d: ¬ (false=true):=by decide
  rw[ao d,ao d] at k;refine an rfl ⟨_,DK _ _ _ _,ab (λc=>S.en λa S=>?_) (λc=>S.put k0 b pg 0 ⟨by decide,by decide⟩ (true,rt,false,f,()) λa S=>S.en λe S=>?_)⟩
  ·have c: ¬ jX pg f rt=0:=by simpa using c
   rw[ao c,ao c] at k;exact k a S
  ·have c:jX pg f rt=0:=by simpa using c
   rw[ax c,ax c] at k;exact k e S
end a7
end
set_option maxRecDepth 100000
open Go.RX D
theorem Oa {p:Prop} {α:Type} (d:Decidable p) (c: ¬ p) (a b:α):(DA (λ_=>a) (λ_=>b) d:α)=a:=by
 cases d with
 |isFalse h=>rfl
 |isTrue h=>exact absurd h c
theorem DO {ws:List Int} {i n:Int} (h: ¬ (n<1\/i<0\/i>ws.length\/n>ws.length - i)):(fX ws i n).length=n.toNat:=by
 unfold fX;rw[ao h,Gi,Ho];omega
section
variable {D G:List Nat} {w0 w:A1} {L:List (Nat×List A9)}
theorem RQ {bw n c:Nat} {ws:List Int} {rest:List A9} (q:bh w bw (flat eW ws++rest)) (K:n=ws.length) (hc:n<=c) (hb:n<=1048576) (i k:Int):
 ar A2 80 (.el (.one .slice)) [.agg ⟨[.slice (ad bw) n c]⟩,aa i,aa k] w (λr w'=>jz w w' eW r (fX ws i k)/\Ext w w'):=by
 refine ai (C:=N0) (aM:=λ_=>[]) (A_ (N5 _ n c i k w _) ?_);have H:=At.start [] w;refine aA.go H λb L H=>⟨λ_=>rfl,aj.bN 0 H rfl rfl ⟨λ_=>rfl,aj.bN 0 H rfl rfl ?_⟩⟩;by_cases f:k<1\/i<0\/i>ws.length\/k>ws.length - i
 ·have s:fX ws i k=[]:=ax f;rw[s];refine ay ?_ (ak.go H λm H=>⟨jz.nil w m eW,H.all⟩);dsimp only;simp only[Ey,decide_eq_true_eq];by_cases t:k<1
  ·exact .inl (.inl (.inl t))
  ·by_cases h2:i<0
   ·exact .inl (.inl (.inr h2))
   ·by_cases u:i>(n:Int)
    ·exact .inl (.inr u)
    ·refine .inr ?_;rw[bU (by omega) (by omega)];omega
 ·have M:1<=k/\0<=i/\i+k<=n:=by omega
  have v:bK .i64 (n:Int) i=(n:Int) - i:=bU (by omega) (by omega);refine an ?_ ?_
  ·dsimp only;rw[v];simp only[HO,decide_eq_false_iff_not];omega
  refine Hp.go H (z:=[aq 0]) rfl (by omega) (ED _) (by omega) (by omega) λd m H=>⟨rfl,aj.bN 1 H rfl rfl ⟨by dsimp only;omega,λx y=>?_⟩⟩;have H:=H.ext y;have A:=q.ext H.all;dsimp only;rw[Oa _ (by show ¬ (((c:Nat):Int).toNat=i.toNat);omega)];have e:(fX ws i k).length=k.toNat:=DO f;have B:fX ws i k=(ws.drop i.toNat).take k.toNat:=ao f;have a:(flat eW (fX ws i k)).length=k.toNat:=by rw[aN,e];exact Dn _
  have D:Nat.min (((n:Nat):Int).toNat - i.toNat) k.toNat=k.toNat:=Nat.min_eq_right (by omega);have g:(C7 k.toNat [aq 0]).flatten.length=k.toNat:=by simp
  refine⟨flat eW (fX ws i k),?_,.inr (.inr ⟨?_,?_⟩),?_⟩
  ·show xD x (ae (ad bw) (i.toNat*1)) (Nat.min (((n:Nat):Int).toNat - i.toNat) k.toNat*1) _;rw[D,aL,Dn,Dn];refine A.xD a λj E=>?_;have F:=Db ws;have G:=Db (fX ws i k);rw[HH,F,G,EA (by rw[DS];omega),Hq,Hq,B,Hr E,Ht]
  ·rw[a];exact(H.get (i:=0) rfl).st (by rw[g];omega)
  ·have:=kf eW (fX ws i k) rfl;exact this
  ·have p:=H.put 0 (b:=d) (o:=0) rfl (flat eW (fX ws i k)) (by rw[a,g];omega);have I:List.drop k.toNat (C7 k.toNat [aq 0]).flatten=[]:=H2 (Nat.le_of_eq g);rw[HH,a,I,EB,List.take_zero,List.nil_append] at p;refine ak.go p λN l=>⟨?_,l.all⟩;have J:w.heap.size<=d:=by
    rcases l.own (d,flat eW (fX ws i k)) Et with h|h
    ·exact h
    ·cases h
   refine⟨e.symm,by rw[e];exact BA _,.inr ⟨d, _,rfl,J,l.get (i:=0) rfl,by rw[a];exact(Dn _).symm,?_⟩⟩;rw[e];exact Hu (by rw[a];exact Nat.le_of_eq (Dn _).symm)
theorem F6 {e:El} {xs:List e.T} {rest:List A9} {i:Nat} {x:e.T} (a:xs[i]? =some x) {j:Nat} (b:j<aK e):(flat e xs++rest)[i*aK e+j]? =(cellsOf e x)[j]? :=by
 have hi:i<xs.length:=(B3.1 a).1;have c:i*aK e+j<(flat e xs).length:=by
  rw[aN];have:(i+1)*aK e<=xs.length*aK e:=Nat.mul_le_mul_right _ hi;rw[Nat.add_mul] at this;omega
 rw[EA c];exact uz e xs i x a j b
end
section
variable {Q:Sys} {D G:List Nat} {w0 w:A1} {s:WD} {L0:List (Nat×List A9)} {bt:Nat} {o r:Int} {gone:Bool}
abbrev EC (Q:Sys) (s:WD):Prop:=s.1.length<=Q.c/\s.1.length<=1048576
namespace a7
theorem words (S:a7 Q D G w0 w s L0) (hc:EC Q s) (i n:Int) {K:Option A3×Nat×Nat->A1->Prop} (k: ∀x rows a,a7 Q D G w0 a s (L0++rows)->jh eW rows x (fX s.1 i n)->K x a):
 aB A2 16 (.el (.one .slice)) [ah (ad Q.bm),aa i,aa n] w K:=by
 refine S.go λw1 S=>ai (C:=N0) (aM:=λ_=>[]) (A_ (F3 _ i n w1 K) ?_);obtain⟨b,h2,c,d,ca,la,H⟩:=S;refine an rfl ⟨rfl,rfl,aj.bN 0 H rfl rfl ?_⟩;refine aB.QF H (λa H=>RQ (H.get (i:=1) rfl) rfl hc.1 hc.2 i n) λx rows a H e=>ak.go H λf H=>k x rows f ⟨b,h2,c,d,ca,la,H⟩ e
theorem pM (S:a7 Q D G w0 w s L0) {j bs:Nat} {l:List PT} {rest:List A9} (hb:L0[j]? =some (bs,flat (.agg Mn) l++rest)) {i:Nat} {x:PT} (a:l[i]? =some x) (q:Nat) {K:Int->Prop} {v:Int} (b:q<3) (hv:(cellsOf (.agg Mn) x)[q]? =some (aa v)) (k:K v):
 aj w none (ae (ae (ad bs) (i*3)) q) (.one (.int .i64)) K:=by
 rw[aL,aL,HH];refine aj.of v ((S.get hb).lJ ?_) k;have:=F6 (e:= .agg Mn) (rest:=rest) a (j:=q) b;rw[show i*3+q=i*aK (.agg Mn)+q from rfl,this,hv];rfl
end a7
end
set_option maxRecDepth 100000
open Go.RX D
theorem UL (x:PT) (t:WD):gT [x] t=t:=rfl
theorem UM (x y:PT) (l:List PT) (t:WD):gT (x::y::l) t=if sI t.1 x.1=true then gT (y::l) (cW t.1 y.2.2.1 0,fC t.2 x.1 (aE 5 0)) else t:=rfl
theorem F7 {l:List PT} {q:Nat} {x y:PT} (b:l[q]? =some y) (c:l[q+1]? =some x):(l.take (q+2)).reverse=x::y::(l.take q).reverse/\(l.take (q+1)).reverse=y::(l.take q).reverse:=by
 have a:l.take (q+1)=l.take q++[y]:=by rw[H4,b];rfl
 have d:l.take (q+2)=l.take q++[y]++[x]:=by rw[H4,c,a];rfl
 exact⟨by rw[d];simp,by rw[a];simp⟩
theorem DP {ws:List Int} (pg:Int): ∀(l:Nat) (f:Int),(0<=f/\f<4096)-> ∀x∈cJ ws pg l f,0<=x.1/\x.1<4096
 |0,f,a,x,h=>by
  rw[cJ,GS] at h;subst h;exact a
 |l+1,f,a,x,h=>by
  rw[cJ] at h;rcases E5.1 h with rfl|h
  ·exact a
  ·split at h
   ·exact DP pg l _ (mv _ _) x h
   ·cases h
section
variable {Q:Sys} {D G:List Nat} {w0 w:A1} {s:WD} {L0:List (Nat×List A9)} {bt:Nat} {o r:Int} {gone:Bool}
namespace a7
theorem thin (S:a7 Q D G w0 w s L0) (hc:EC Q s) (k0:Nat) (A:L0[k0]? =some (bt,lX Q o r gone)) {j bs c:Nat} {l:List PT} {rest:List A9} (hb:L0[j]? =some (bs,flat (.agg Mn) l++rest)) (hl:l.length<=4) (U: ∀x∈l,0<=x.1/\x.1<4096)
 {K:Unit->A1->Prop} (k: ∀g,a7 Q D G w0 g (gT l.reverse s) L0->K () g):
 aB A2 292 (.bH []) [ah (ad bt),.slice (ad bs) l.length c] w K:=by
 refine S.go λw1 S=>ai (C:=N0) (aM:=ql) (A_ (K9 _ _ _ c w1 K) ?_);obtain⟨z,L⟩: ∃z,z=gT l.reverse s:=⟨_,rfl⟩;rw[<-L] at k;refine⟨λn v w'=> ∃t:WD,v.1+1=(n:Int)/\n<=l.length/\t.1.length=s.1.length/\gT (l.take n).reverse t=z/\a7 Q D G w0 w' t L0,
  ⟨l.length,λg h2=>⟨s,?_,BA _,rfl,by rw[List.take_length];exact L.symm,S.ext h2⟩⟩,?_⟩
 ·show bK .i64 ((l.length:Nat):Int) 1+1= _;rw[bU (by omega) (by omega)];omega
 rintro n ⟨v,u⟩ g ⟨t,h,hn,B,a,S⟩;dsimp only at h ⊢;rcases n with _| _|q
 ·refine an (by simp;omega) (S.en λp S=>k p ?_);rw[<-a];exact S
 ·refine an (by simp;omega) (S.en λp S=>k p ?_);have:gT (l.take (0+1)).reverse t=t:=by
   cases l with
   |nil=>rfl
   |cons x l=>exact UL x t
  rw[<-a,this];exact S
 ·obtain rfl:v=((q+1:Nat):Int):=by omega
  have b:l[q+1]? =some l[q+1]:=Bq (by omega);have E:l[q]? =some l[q]:=Bq (by omega);generalize l[q+1]=x at b;generalize l[q]=y at E;obtain⟨t2,t1⟩:=F7 E b;rw[t2,UM, <-t1] at a;have hfx:=U x (Bp b);have V:dO .i64 16 x.1=16*x.1:=dI (by omega) (by omega);have es:bK .i64 ((q+1:Nat):Int) 1=(q:Int):=by rw[bU (by omega) (by omega)];omega
  refine ay (by simp) ⟨rfl,rfl,S.bW k0 A rfl ⟨⟨rfl,by omega,by omega⟩,rfl,S.pM hb b 0 (by decide) rfl ?_⟩⟩;rw[V];refine S.words ⟨by rw[B];exact hc.1,by rw[B];exact hc.2⟩ (16*x.1) 16 λrr rows p S M=>?_;have P2:(fX t.1 (16*x.1) 16).length<=16:=by
   by_cases N:(16:Int)<1\/16*x.1<0\/16*x.1>t.1.length\/16>t.1.length - 16*x.1
   ·rw[show fX t.1 (16*x.1) 16=[] from ax N];simp
   ·rw[DO N];decide
  have W:rr.2.1=(fX t.1 (16*x.1) 16).length:=M.1;refine⟨λn v w'=> ∃m:Nat,v.1=(m:Int)/\n+m=(fX t.1 (16*x.1) 16).length/\(∀i,i<m->(fX t.1 (16*x.1) 16)[i]? =some 0)/\a7 Q D G w0 w' t (L0++rows),⟨(fX t.1 (16*x.1) 16).length,λO X=>⟨0,rfl,rfl,λi hi=>by omega,S.ext X⟩⟩,?_⟩;rintro n ⟨v,u2⟩ O ⟨m,h,PL,P,S⟩;dsimp only at h ⊢;subst h;rw[W];refine ab (λF=>?_) (λF=>?_)
  ·have R:m<(fX t.1 (16*x.1) 16).length:=by simpa using F
   have hv:=Bq R;generalize (fX t.1 (16*x.1) 16)[m]=f at hv;obtain⟨g1,Y,Z,g4,ca,la,H⟩:=S;have T:=M.sl H (λx b=>by
    show x∈ _:: _:: _:: _::(L0++rows);simp[b]) m f hv
   have S:a7 Q D G w0 O t (L0++rows):=⟨g1,Y,Z,g4,ca,la,H⟩;refine⟨⟨T.1,by omega,by omega⟩,aj.of f T.2 (ab (λd=>S.en λI S=>k I ?_) (λd=>λI h5=>⟨n - 1,by omega,m+1,?_,by omega,λi hi=>?_,S.ext h5⟩))⟩
   ·have d: ¬ f=0:=by simpa using d
    have J:sI t.1 x.1=false:=by
     unfold sI;rw[Hz];exact⟨f,Bp hv,by simpa using d⟩
    rw[J,ao (by decide)] at a;rw[<-a];exact S.sub (H5 _ _)
   ·rw[av (by omega) (by omega)];omega
   ·have d:f=0:=by simpa using d
    by_cases e:i=m
    ·subst e;rw[hv,d]
    ·exact P i (by omega)
  ·have R: ¬ m<(fX t.1 (16*x.1) 16).length:=by simpa using F
   have J:sI t.1 x.1=true:=by
    unfold sI;rw[I1];intro f P_;obtain⟨i,hi⟩:=I2 P_;have:=P i (by have:=(B3.1 hi).1;omega);rw[hi] at this;cases this;rfl
   rw[J,ax rfl] at a;have S:=S.sub (H5 L0 rows);refine⟨rfl,rfl,S.bW k0 A rfl ?_⟩;rw[es];refine⟨⟨rfl,by omega,by omega⟩,rfl,S.pM hb E 2 (by decide) rfl (S.store _ 0 ⟨by decide,by decide⟩ λI S=>⟨rfl,rfl,S.bW k0 A rfl ⟨⟨rfl,by omega,by omega⟩,rfl,S.pM hb b 0 (by decide) rfl (S.MG x.1 5 0 λw6 S=>λw7 h7=>⟨q+1,by omega, _,by show(q:Int)+1= _;omega,by omega,?_,a,S.ext h7⟩)⟩⟩)⟩;show(cW t.1 y.2.2.1 0).length=s.1.length;rw[cu];exact B
theorem zN (S:a7 Q D G w0 w s L0) (hc:EC Q s) (k0:Nat) (b:L0[k0]? =some (bt,lX Q o r gone)) (m:0<=r/\r<4096) (pg:Int) {K:Int×Int×Unit->A1->Prop} (k: ∀g,a7 Q D G w0 g (kR s o r gone pg) L0->K (Bs s o r gone pg,x9 s o r gone pg,()) g):
 aB A2 217 (.bH [.one (.int .i64),.one (.int .i64)]) [ah (ad bt),aa pg] w K:=by
 refine S.go λw1 S=>ai (C:=N0) (aM:=λ_=>[]) (A_ (F1 _ pg w1 K) ?_);refine S.query k0 b pg λg S=>ab (λc=>S.en λh S=>?_) (λc=>?_)
 ·have c: ¬ (a_ s r gone pg).2.2.1=0:=by simpa using c
  have a:x9 s o r gone pg=(a_ s r gone pg).2.2.1:=ao c;have e:Bs s o r gone pg=0:=by unfold Bs;rw[a,ao c]
  have f:kR s o r gone pg=s:=ao c;rw[a,e,f] at k;exact k h S
 have c:(a_ s r gone pg).2.2.1=0:=by simpa using c
 have a:x9 s o r gone pg=jY s o r pg:=ax c;have f:kR s o r gone pg=if jY s o r pg=0 then gT (cJ (ew s o r pg).1 pg 3 r).reverse (cW (ew s o r pg).1 (dh (ew s o r pg).1 r pg).2.2.1 0,(ew s o r pg).2) else ew s o r pg:=ax c;refine S.split k0 b pg λh S=>ab (λd=>S.en λi S=>?_) (λd=>?_)
 ·have d: ¬ jY s o r pg=0:=by simpa using d
  have e:Bs s o r gone pg=0:=by unfold Bs;rw[a,ao d]
  rw[a,e,f,ao d] at k;exact k i S
 have d:jY s o r pg=0:=by simpa using d
 have e:Bs s o r gone pg=(a_ s r gone pg).1:=by unfold Bs;rw[a,ax d]
 rw[e,a,f,ax d,d] at k;have l:(ew s o r pg).1.length=s.1.length:=by
  unfold ew gD du;split
  ·rfl
  ·split
   ·show(cW _ _ _).length= _;rw[cu,fM]
   ·rfl
 generalize ew s o r pg=t at*
 refine S.YX pg λq bc i S=>S.HU (pg:=pg) (k0+2) b (by simp) (by simp) λbs cs rest u S=>⟨rfl,rfl,S.bW (k0+3) b rfl ?_⟩;have n:(cJ t.1 pg 3 r).length<=4:=pL t.1 pg 3 r;have v:0<(cJ t.1 pg 3 r).length:=Hf.2 (s6 t.1 pg 3 r);have es:bK .i64 (((cJ t.1 pg 3 r).length:Nat):Int) 1=(((cJ t.1 pg 3 r).length - 1:Nat):Int):=by rw[bU (by omega) (by omega)];omega
 dsimp only;rw[es];refine⟨⟨rfl,by omega,by omega⟩,rfl,S.pM (j:=0) rfl (yB t.1 r pg) 2 (by decide) rfl (S.store _ 0 ⟨by decide,by decide⟩ λx S=>S.thin ⟨by show(cW _ _ _).length<= _;rw[cu,l];exact hc.1,by show(cW _ _ _).length<= _;rw[cu,l];exact hc.2⟩ (k0+3) b (j:=0) rfl n (DP pg 3 r m) λy S=>S.en λp S=>k p S.tail.tail.tail)⟩
theorem pz (S:a7 Q D G w0 w s L0) (k0:Nat) (g:L0[k0]? =some (bt,lX Q o r gone)) (pg rt:Int) {K:Int->A1->Prop} (k: ∀a,a7 Q D G w0 a (n6 s o r gone pg rt) L0->K (Bt s o r gone pg rt) a):
 aB A2 219 (.el (.one (.int .i64))) [ah (ad bt),aa pg,aa rt] w K:=by
 refine S.go λw1 S=>ai (C:=N0) (aM:=λ_=>[]) (A_ (K_ _ pg rt w1 K) ?_);unfold n6 Bt at k;refine⟨_,S.state k0 g,?_⟩;cases gone with
 |true=>
  rw[ax rfl,ax rfl] at k;exact ay rfl (S.en λa S=>k a S)
 |false=>
  have j: ¬ (false=true):=by decide
  rw[ao j,ao j] at k;refine an rfl ⟨_,DK _ _ _ _,ab (λc=>S.en λa S=>?_) (λc=>?_)⟩
  ·have c: ¬ jX pg 0 rt=0:=by simpa using c
   rw[ao c,ao c] at k;exact k a S
  have c:jX pg 0 rt=0:=by simpa using c
  rw[ax c,ax c] at k;have m:0<=pg:=by
   unfold jX at c;by_cases h:pg<0\/pg>=65536\/(0:Int)<0\/(0:Int)>=4096
   ·rw[ax h] at c;cases c
   ·omega
  refine S.end_ k0 g pg λa S=>S.al λb q S=>S.al λt u S=>S.dx 1 rfl rfl rfl λv S=>S.dx 0 rfl rfl rfl λx S=>⟨rfl,S.bW 0 rfl rfl (ab (λd=>S.en λi S=>?_) (λd=>⟨rfl,S.bW 0 rfl rfl ⟨λ_=>rfl,S.bW 0 rfl rfl (ab (λe=>S.en λi S=>?_) (λe=>?_))⟩⟩))⟩
  ·have d: ¬ (cK s.1 r pg).1=true:=by simpa using d
   rw[ao d,ao d] at k;exact k i S.tail.tail
  ·have d:(cK s.1 r pg).1=true:=by simpa using d
   rw[ax d,ax d] at k;have e:((cK s.1 r pg).2.2.1&&(cK s.1 r pg).2.1==rt)=true:=e;rw[ax e,ax e] at k;exact k i S.tail.tail
  have d:(cK s.1 r pg).1=true:=by simpa using d
  rw[ax d,ax d] at k;have e: ¬ ((cK s.1 r pg).2.2.1&&(cK s.1 r pg).2.1==rt)=true:=by
   have n:((cK s.1 r pg).2.2.1&&(cK s.1 r pg).2.1==rt)=false:=e;rw[n];decide
  rw[ao e,ao e] at k;refine S.ld 1 rfl rfl (S.ld 0 rfl rfl ⟨_,DM m (dh s.1 r pg) (cK s.1 r pg) (mv _ _) _,S.split (k0+2) g pg λi S=>ab (λf=>S.en λl S=>?_) (λf=>S.end_ (k0+2) g pg λl S=>S.dx 1 rfl rfl rfl λy S=>⟨rfl,S.bW 1 rfl rfl (S.lay (k0+2) g _ (true,rt,false,np pg (dh s.1 r pg) (cK s.1 r pg),()) λz S=>S.en λp S=>?_)⟩)⟩)
  ·have f: ¬ jY s o r pg=0:=by simpa using f
   rw[ao f] at k;exact k l S.tail.tail
  ·have f:jY s o r pg=0:=by simpa using f
   rw[ax f,f] at k;exact k p S.tail.tail
end a7
end
set_option maxRecDepth 100000
open Go.RX
noncomputable def N1:dn A2:={N0 with cl:=[(65,.Py)]}
def mH:Nat->aV:=(λ|3=>[(12,Go.RX.El.one (Go.RX.Sc.int AX))]|9=>[(34,.one (.int .i64))]| _=>[])
theorem Cz (y:Nat) (p c d:Option A3) (w:A1) (i:Unit->A1->Prop):(bO N1 mH 362 [.func (.yield y) #[] #[],ah p,ah c,ah d] w i)=(
 aA w {toList:=[.func (Fn.yield y) ⟨[]⟩ ⟨[]⟩]} 65 λb a=>aj a none (ad b) (.one .Py) λx=>aQ a p λm=> ∀w1,Ext a w1->jZ A2 x [aa m] w1 λ(o:Bool) a=>aF (!o) (ak a (i ())) (∃(I:Nat->Int×Unit->List Nat->A1->Prop),(∃n, ∀w1,Ext a w1->I n (0,()) [] w1)/\ ∀(n:Nat) (s:Int×Unit) (D1:List Nat) (w1:A1),I n s D1 w1->aF (decide (s.1<16)) (fQ w1 c λx=>aQ w1 p λq=>aB
 A2 252 (.el fW) [ah x,aa (aC .i64 (dO .i64 16 q) s.1)] w1 λ(x:Bool×Int×Bool×Int×Unit) a=>aA a ⟨[.bool false,aa 0,.bool false,aa 0]⟩ 301 λk a=>aw a (ad k) [.bool x.1,aa x.2.1,.bool x.2.2.1,aa x.2.2.2.1] λa=>aQ a d λx=>aj a (some !x==0) (ad k) fW λ(j:Bool×Int×Bool×Int×Unit)=>((!x==0)=true->True)/\aF (x==0|| !fa j.1
 j.2.1 j.2.2.1 j.2.2.2.1) (∀e,Ext a e-> ∃(f:Nat),f<n/\I f (aC .i64 s.1 1,()) D1 e) (fQ a c λx=>true=true/\aQ a (ae (ad k) 3) λt=>aQ a d λu=>aB A2 334 (.el (.one (.qq 362 3))) [ah x,aa t,aa (bK .i64 u 1)] a λx a=>vr A2 362 (λ(y:Nat)=>[.func (Fn.yield y) ⟨[]⟩ ⟨[]⟩,ah x.1,ah x.2.1,ah x.2.2.1]) ⟨[34]⟩ a (λ(x:Int×Unit)=>[aa x.1]) (λ(l:Nat)
 (rec:Loop) (x:Int×Unit) e (R:Bool->A1->Prop)=>zd l rec [aa x.1].length 1 e (xG l rec e λg=>aj g none (ad b) (.one .Py) λv=> ∀w1,Ext g w1->jZ A2 v [aa x.1] w1 λ(b:Bool) a=>aF (!b) (oJ l rec (some Code.ret) a R) (oJ l rec none a R))) λ(r:Nat) (rec:Loop) z=>c9 (r+1) rec z (λg=> ∀e,Ext g e-> ∃(f:Nat),f<n/\I f (aC .i64 s.1 1,()) (r::D1) e) (λ(id:Nat) g=>DA (λ(h:id=2->False)=>DA (λ(h:id=1->False)=>
 DA (λ(h:id=0->False)=>False) (λ(h:id=0)=>oN (r::D1) g λw1=>i () w1) (match h:id.beq 0 with|true=>isTrue (EE h)|false=>isFalse (EF h))) (λ(h:id=1)=> ∀e,Ext g e-> ∃(f:Nat),f<n/\I f (aC .i64 s.1 1,()) (r::D1) e) (match h:id.beq 1 with|true=>isTrue (EE h)|false=>isFalse (EF h))) (λ(h:id=2)=> ∀e,Ext g e-> ∃(f:Nat),f<n/\I f (aC .i64 s.1 1,()) (r::D1) e)
 (match h:id.beq 2 with|true=>isTrue (EE h)|false=>isFalse (EF h))) λg=>oN (r::D1) g λw1=>i () w1)) (YB D1 (ak w1 (i ())) λ(r:Nat) (D:List Nat)=>oN (r::D) w1 λw1=>i () w1))):=by kernel_rfl
open Go.RX D
section
variable {T:Type} {bm:Nat} {mc:List A9->Prop} {J:List T->List (Nat×List A9)->List (Nat×Obj)->A1->Prop} {a:List T} {X:List (Nat×List A9)} {O:List (Nat×Obj)} {w w':A1}
theorem vr.inX (K:JK bm mc J) {P:Program} {k:FuncId} {args:Nat->List A9} {ps:Array Nat} {f:T->List A9} {m:Nat->Loop->T->A1->(Bool->A1->Prop)->Prop} {n:Nat->Loop->A1->Prop} {N:Nat} {p:List (Nat×List A9)} {xs:List T}
 (j:J a X O w) (t:VB P k args f N bm mc p xs) (u: ∀x∈p,x∈X) (y:a.length+xs.length<=N)
 (z: ∀b x X' O' l rec c (R:Bool->A1->Prop),b.length<N->J b (X'++X) ((l,Ex rec)::O') c->(∀w',J (b++[x]) (X'++X) ((l,Ex rec)::O') w'->R true w')->m l rec x c R)
 (A: ∀r rec g,J (a++xs) X ((r+1,Ex rec)::(r,.deferred (some []))::O) g->n r rec g):vr P k args ps w f m n:=by
 intro w1 B rec _ _ C D E;have F:rec={rec with state:= .ready,pending:= .none}:=by rw[<-C, <-D]
 have sz:(w1.alloc (.deferred (some []))).heap.size=w1.heap.size+1:=jt _ _;have j1:J a X ((w1.heap.size,.deferred (some []))::O) (w1.alloc (.deferred (some []))):=K.VA (K.ext j B) (λ_ _ _ e=>by cases e);have q:=K.VA (o:=Ex rec) j1 (C' rec _ _);rw[sz] at q
 let Z:List (Nat×Obj):=(w1.heap.size+1,Ex rec)::(w1.heap.size,.deferred (some []))::O
 let i:List T->List (Nat×List A9)->List (Nat×Obj)->A1->Prop:=λb X' O' w=>J b (X'++X) (O'++Z) w
 have G:JK bm mc i:=
  {step:=λ{H X' O' w2 c l' Y} h I hb L M Q=>by
    have:=K.step h I hb L M Q;show J H ((Y++X')++X) (O'++Z) c;rw[E4];exact this
   mem:=λh=>K.mem h
   cX:=λh hm=>K.cX h (Ev _ hm)
   obj:=λh hm=>K.obj h (Ev _ hm)
   VA:=λh d=>K.VA h d
   SE:=λh d=>K.SE h d
   sub:=λh S d=>K.sub h (λx hm=>by
    rcases I_.1 hm with hm|hm
    ·exact Ev _ (S x hm)
    ·exact Bg _ hm) (d.append_right Z)
   perm:=λh d=>K.perm h (d.append_right Z)}
 have U:Yd P (w1.heap.size+1) f N i:=λb x X' O' c R hb h V=>by
  refine E x c R ?_;have s:((w1.heap.size+1,Ex rec)::(O'++((w1.heap.size,.deferred (some []))::O))).Perm (O'++Z):=(Do (l₁:=O') (a:=(w1.heap.size+1,Ex rec)) (l₂:=(w1.heap.size,.deferred (some []))::O)).symm;exact z b x X' (O'++((w1.heap.size,.deferred (some []))::O)) _ rec c R hb (K.perm h s) (λw' h'=>V w' (K.perm h' s.symm))
 have W:(w1.alloc (.deferred (some []))).alloc (.loop rec)=(w1.alloc (.deferred (some []))).alloc (Ex rec):=by
  show _=(w1.alloc (.deferred (some []))).alloc (.loop {rec with state:= .ready,pending:=none});rw[<-F]
 rw[W];have j3:J a (X++X) Z ((w1.alloc (.deferred (some []))).alloc (Ex rec)):=K.sub q (λx hm=>by
  rcases I_.1 hm with hm|hm<;>exact hm) (Br _)
 refine Calls.mono (t (w1.heap.size+1) i G U a X [] _ y u j3) ?_;rintro e g ⟨v,he,h⟩;exact⟨v,he,A _ _ _ (K.sub h (λx hm=>Bg _ hm) (Br _))⟩
end
def lR (ws:List Int) (l:Nat) (f:Int) (i:Nat):List Int:=match l with
 |0=>[]
 |l+1=>if dv (az ws (16*f+(i:Int)))=true then cA ws l (az ws (16*f+(i:Int))).2.2.2.1 else[]
theorem jb (ws:List Int): ∀(l:Nat) (f:Int),cA ws l f=f::(B1 16).flatMap (lR ws l f)
 |0,f=>by
  rw[cA];have:(B1 16).flatMap (lR ws 0 f)=[]:=by
   rw[List.flatMap_eq_nil_iff];intro i _;rfl
  rw[this]
 |l+1,f=>rfl
theorem F8 {m:Nat} (a:m<16) (g:Nat->List Int): ∃z,(B1 16).flatMap g=(B1 m).flatMap g++(g m++z):=by
 obtain⟨z,e⟩: ∃z,B1 16=B1 (m+1)++z:=by
  refine⟨(B1 16).drop (m+1),?_⟩
  conv=>lhs;rw[<-IG (m+1) (B1 16)]
  rw[List.take_range,Nat.min_eq_left (by omega)]
 refine⟨z.flatMap g,?_⟩;rw[e,H6,IR,H6,E4];simp
abbrev emI (x:Int×Unit):List A9:=[aa x.1]
abbrev Mo (x:Int):Int×Unit:=(x,())
abbrev VJ (bt a b c:Nat) (f:Int) (l:Nat):List (Nat×List A9):=[(a,[aa f]),(b,[ah (ad bt)]),(c,[aa (l:Int)])]
theorem F9 {D G:List Nat} {w0 w:A1} {L:List (Nat×List A9)} (H:aH D G w0 w L) (p:Option A3) (f lv:Int) {K:Option A3×Option A3×Option A3×Unit->A1->Prop}
 (k: ∀b a c d,aH D G w0 d ((c,[aa lv])::(a,[aa f])::(b,[ah p])::L)->K (some ⟨a,0,none⟩,some ⟨b,0,none⟩,some ⟨c,0,none⟩,()) d):
 aB A2 334 BK [ah p,aa f,aa lv] w K:=
 aB.go H λw1 H=>ai (C:=N0) (aM:=λ_=>[]) (A_ (wU p f lv w1 K) (aA.go H λb d H=>aA.go H λa g H=>aA.go H λc h H=>ak.go H λe H=>k b a c e H))
abbrev WR (Q:Sys) (ws:List Int) (bt:Nat) (o r:Int) (gone:Bool) (N lv:Nat):Prop:= ∀(f:Int) (d:0<=f/\f<4096) (a b c:Nat),
 VB A2 362 (λy=>[.func (.yield y) #[] #[],ah (ad a),ah (ad b),ah (ad c)]) emI N Q.bm (Mc Q ws.length)
  ((bt,lX Q o r gone)::(Q.bw,flat eW ws++Q.rw)::VJ bt a b c f lv) ((cA ws lv f).map Mo)
theorem vc {Q:Sys} {ws:List Int} {bt:Nat} {o r:Int} {gone:Bool} {N:Nat} (ia:okW ws) (qz:0<ws.length) (lv:Nat) (Tn:lv<=3) (ih: ∀l',lv=l'+1->WR Q ws bt o r gone N l'):WR Q ws bt o r gone N lv:=by
 intro f hf M q s y J K P a X O w k hX j;refine Calls.mono (aO (C:=N1) (aM:=mH) (Post:=λ_ w'=>J (a++(cA ws lv f).map Mo) X O w') (A_ (Cz y _ _ _ w _) ?_)) ?_
 rotate_left
 ·rintro e w' ⟨x,rfl,h⟩;exact⟨_,rfl,h⟩
 rw[jb] at k ⊢;simp only[List.map_cons,Bc,DS] at k;obtain⟨lm,⟨ca,la,rfl⟩,H⟩:=K.VC j;refine aA.go H λb w2 H=>?_;have j:=K.pf (Y:=[(b, _)]) j H ⟨_, _,rfl⟩;have g: ∀x∈(bt,lX Q o r gone)::(Q.bw,flat eW ws++Q.rw)::VJ bt M q s f lv,x∈[(b,[EH (.yield y) #[] #[]])]++X:=λx i=>Bg _ (hX x i);have t:(b,[EH (.yield y) #[] #[]])∈[(b,[EH (.yield y) #[] #[]])]++X:=Ev _ (GS.2 rfl);have back: ∀{S:List (Int×Unit)} {w':A1},J S ([(b,[EH (.yield y) #[] #[]])]++X) O w'->J S X O w':=λh=>K.sub h (λx i=>Bg _ i) (Br _);generalize [(b,[EH (.yield y) #[] #[]])]++X=p at j g t back;have A:=g (bt,lX Q o r gone) (by simp);have B:=g (Q.bw,flat eW ws++Q.rw) (by simp);have T:=g (M,[aa f]) (by simp);have U:=g (q,[ah (ad bt)]) (by simp);have x5:=g (s,[aa (lv:Int)]) (by simp);refine aj.of y ((K.cX j t).2.lJ rfl) (aj.of f ((K.cX j T).2.lJ rfl) λw3 h3=>P a (Mo f) p O w3 _ (by omega) (K.ext j h3) λw4 j=>?_);refine an rfl ⟨λn v D1 w'=> ∃m:Nat,v.1=(m:Int)/\n+m=16/\J (a++Mo f::((B1 m).flatMap (lR ws lv f)).map Mo) p (D1.map (λr=>(r,Obj.deferred (some [])))++O) w',⟨16,λV h5=>⟨0,rfl,rfl,by simpa using K.ext j h5⟩⟩,?_⟩;rintro n ⟨v,u⟩ D1 V ⟨m,W,PL,j⟩;dsimp only at W ⊢;subst W;refine ab (λD=>?_) (λD=>?_)
 ·have E:m<16:=by simp at D;omega
  obtain⟨z,hz⟩:=F8 E (lR ws lv f);have Z:(a++Mo f::((B1 m).flatMap (lR ws lv f)).map Mo).length+((lR ws lv f m).map Mo).length<=N:=by
   rw[hz] at k;simp only[Es,Bc,DS] at k ⊢;omega
  have F:(B1 (m+1)).flatMap (lR ws lv f)=(B1 m).flatMap (lR ws lv f)++lR ws lv f m:=by
   rw[IR,H6];simp
  have XV:aC .i64 (dO .i64 16 f) (m:Int)=16*f+(m:Int):=by rw[dI (by omega) (by omega),av (by omega) (by omega)]
  have XW:aC .i64 (m:Int) 1=((m+1:Nat):Int):=by rw[av (by omega) (by omega)];omega
  refine aj.of (ad bt) ((K.cX j U).2.lJ rfl) (aj.of f ((K.cX j T).2.lJ rfl) ?_);rw[XV,XW];obtain⟨lm,⟨ca,la,rfl⟩,H⟩:=K.VC j;have R:WM Q ws V bt o r gone:=⟨(K.cX j A).2,(K.cX j B).2,(K.cX j A).1,(K.cX j B).1,ia,qz⟩;have G:=K.cX j x5;have b4:=K.cX j U;have n3:s∉[Q.bm]:=by simpa using G.1
  have n4:q∉[Q.bm]:=by simpa using b4.1
  refine I6 R H 0 rfl _ λvK w6 H=>aA.go H λb2 w7 H=>aw.all 0 H rfl rfl rfl λw8 H=>aj.gm H G.2 n3 rfl (aj.at 0 H rfl rfl ⟨λ_=>trivial,ab (λc=>λw9 h9=>?_) (λc=>?_)⟩)
  ·have I:=K.sub (K.ext (K.pf (Y:=[(b2, _)]) j H ⟨_, _,rfl⟩) h9) (X':=p) (λx h=>Bg _ h) (Br _);refine⟨n - 1,by omega,m+1,rfl,by omega,?_⟩;have L:lR ws lv f m=[]:=by
    cases lv with
    |zero=>rfl
    |succ l=>
     have c:dv (az ws (16*f+(m:Int)))=false:=by
      have h0:((((l+1:Nat):Int))==0)=false:=by simp;omega
      simp only[h0,Bool.false_or,Bool.not_eq_true'] at c;exact c
     exact ao (by rw[c];decide)
   rw[F,L,EB];exact I
  ·have c0: ¬ lv=0/\dv (az ws (16*f+(m:Int)))=true:=by
    simp only[HO,Bool.not_eq_false'] at c;refine⟨λe=>?_,c.2⟩;subst e;simp at c
   obtain⟨l,rfl⟩: ∃l,lv=l+1:=⟨lv - 1,by omega⟩;have L:lR ws (l+1) f m=cA ws l (az ws (16*f+(m:Int))).2.2.2.1:=ax c0.2;have elv:bK .i64 ((l+1:Nat):Int) 1=(l:Int):=by rw[bU (by omega) (by omega)];omega
   refine aj.gm H b4.2 n4 rfl ⟨rfl,aj.bN 0 H rfl rfl (aj.gm H G.2 n3 rfl ?_)⟩;rw[elv];refine F9 H _ _ _ λd d1 d2 w9 H=>?_;have I:=K.pf (Y:=[(d2, _),(d1, _),(d, _),(b2, _)]) j H ⟨_, _,rfl⟩;rw[L] at Z F;refine vr.inX K I (ih l rfl _ (mv _ _) d1 d d2) ?_ Z ?_ ?_
   ·intro x i;simp only[VJ,E5,FS,or_false] at i;rcases i with rfl|rfl|rfl|rfl|rfl
    ·exact Bg _ A
    ·exact Bg _ B
    ·simp
    ·simp
    ·simp
   ·intro b0 x X' O' l' rec lU R hb j hR;refine zd.PW K j rfl (xG.PW K j λwb j=>aj.of y ((K.cX j (Bg _ (Bg _ t))).2.lJ rfl) λlL vw=>P b0 x _ _ lL _ hb (K.ext j vw) λAZ j=>an rfl (oJ.PW K j λMl j=>hR Ml j))
   ·intro r' rec lU j;refine c9.PW K j λlL j=>λAZ Hy=>⟨n - 1,by omega,m+1,rfl,by omega,?_⟩;have j3:=K.sub (K.ext j Hy) (X':=p) (λx h=>Bg _ h) (Br _);rw[F];simpa using j3
 ·have E:m=16:=by simp at D;omega
  subst E;cases D1 with
  |nil=>exact λw6 h6=>back (K.ext j h6)
  |cons r' D1=>exact K.oN (r'::D1) j λw6 j=>back j
theorem Ld {Q:Sys} {ws:List Int} {bt:Nat} {o r:Int} {gone:Bool} {N:Nat} (a:okW ws) (b:0<ws.length): ∀lv:Nat,lv<=3->WR Q ws bt o r gone N lv:=by
 intro lv
 induction lv with
 |zero=>intro h;exact vc a b 0 h (λl' e=>by omega)
 |succ lv c=>
  intro h;refine vc a b (lv+1) h (λl' e=>?_);obtain rfl:lv=l':=by omega
  exact c (by omega)
abbrev eN:El:= .one (.int .i64)
theorem vd (ws:List Int): ∀(l:Nat) (f:Int),(cA ws l f).length<=(match l with|0=>1|1=>17|2=>273| _=>4369)\/3<l
 |0,f=> .inl (by simp[cA])
 |l+1,f=>by
  by_cases d:3<l+1
  ·exact .inr d
  refine .inl ?_;have step: ∀(c:Nat) (a:List Nat),(∀i,(lR ws (l+1) f i).length<=c)->(a.flatMap (lR ws (l+1) f)).length<=a.length*c:=by
   intro c a h
   induction a with
   |nil=>simp
   |cons i a b=>
    rw[List.flatMap_cons,Es,Bc,Nat.add_mul];have:=h i;omega
  have sub: ∀(c:Nat),(∀g,(cA ws l g).length<=c)-> ∀i,(lR ws (l+1) f i).length<=c:=by
   intro c h i;unfold lR;dsimp only;split
   ·exact h _
   ·exact Nat.zero_le _
  rw[jb,Bc];have b:=vd ws l;rcases l with _| _| _|l
  ·have:=step 1 (B1 16) (sub 1 λg=>by rcases b g with h|h;exact h;omega);simp only[H7] at this ⊢;omega
  ·have:=step 17 (B1 16) (sub 17 λg=>by rcases b g with h|h;exact h;omega);simp only[H7] at this ⊢;omega
  ·have:=step 273 (B1 16) (sub 273 λg=>by rcases b g with h|h;exact h;omega);simp only[H7] at this ⊢;omega
  ·omega
theorem mC (ws:List Int) (f:Int):(cA ws 3 f).length<=4369:=by
 rcases vd ws 3 f with h|h
 ·exact h
 ·omega
theorem wV (ws:List Int) (l:Nat) (f:Int):cA ws l f≠[]:=by rw[jb];simp
theorem Ap (x:Int): ∀l:List Int,(iS x l).length=l.length+1
 |[]=>rfl
 |y::l=>by
  rw[iS];split
  ·rw[Bc,Ap x l];rfl
  ·rfl
theorem uG: ∀(l a:List Int),(l.foldl (λa x=>iS x a) a).length=a.length+l.length
 |[],a=>rfl
 |x::l,a=>by
  rw[Ia,uG l,Ap,Bc];omega
theorem wW (l:List Int):(pq l).length=l.length:=by unfold pq;rw[Ib,uG];simp
theorem RR (p z:List Int) (a c:Int):(p++a::z).set p.length c=p++c::z:=by simp
section
variable {Q:Sys} {D G:List Nat} {w0 w:A1} {s:WD} {L0:List (Nat×List A9)} {bt:Nat} {o r:Int} {gone:Bool}
namespace a7
theorem under (S:a7 Q D G w0 w s L0) (f lv:Int) {K:Option A3×Option A3×Option A3×Unit->A1->Prop} (k: ∀b a c d,a7 Q D G w0 d s ((c,[aa lv])::(a,[aa f])::(b,[ah (ad bt)])::L0)->K (some ⟨a,0,none⟩,some ⟨b,0,none⟩,some ⟨c,0,none⟩,()) d):
 aB A2 334 BK [ah (ad bt),aa f,aa lv] w K:=by
 refine S.go λw1 S=>ai (C:=N0) (aM:=λ_=>[]) (A_ (wU _ f lv w1 K) ?_);exact S.al λb d S=>S.al λa g S=>S.al λc h S=>S.en λe S=>k b a c e S
theorem UN (S:a7 Q D G w0 w s L0) (k0:Nat) (t:L0[k0]? =some (bt,lX Q o r gone)) {d e g:Nat} {f:Int} (u:0<=f/\f<4096) (v:(d,[aa f])∈L0) (h2:(e,[J3 (ad bt)])∈L0) (y:(g,[aa 3])∈L0)
 {K:Option A3×Nat×Nat->A1->Prop} (k: ∀bs cs rest i,a7 Q D G w0 i s ((bs,flat eN (cA s.1 3 f)++rest)::L0)->K (some ⟨bs,0,none⟩,(cA s.1 3 f).length,cs) i):
 aB A2 333 (.el (.one .slice)) [.func (.func 362) #[] #[ah (ad d),ah (ad e),ah (ad g)]] w K:=by
 refine S.go λw1 S=>aO (C:=N0) (aM:=nP) (A_ (F2 _ _ _ w1 K) ?_);obtain⟨g1,z,A,n,ca,la,H0⟩:=S;have H:=H0.again;refine aA.go H λp i H=>?_;have B:=mC s.1 f;refine vr.HU (N:=4369) (bm:=Q.bm) (mc:=Mc Q s.1.length) (SF:=[(p,[.slice none 0 0])]) (Lb:=(Q.bw,flat eW s.1++Q.rw)::(Q.bf,flat eD s.2++Q.rf)::(Q.bp,[.slice (ad Q.bf) s.2.length Q.cp])::L0) H ⟨_, _,rfl⟩
  (Ld (o:=o) (r:=r) (gone:=gone) (bt:=bt) n g1 3 (BA _) f u d e g) ?_ (by simpa using B) (λxs j=>P6 eN p (xs.map (·.1)) j) (.inl ⟨rfl,rfl⟩) ?_ ?_
 ·intro x b;simp only[VJ,E5,FS,or_false] at b;rcases b with rfl|rfl|rfl|rfl|rfl
  ·simp[Bp t]
  ·simp
  ·simp[v]
  ·simp[h2]
  ·exact H9 _ (H9 _ (H9 _ y))
 ·intro Y x j Z rr l rec w3 R hN a c E;obtain⟨sl,m⟩:=a.head;refine zd.go c rfl (xG.YI c λwb H F I=>aj.at 0 H (by rw[EA (B3.1 m).1];exact m) rfl (aA.go H λb2 q H=>λw7 J=>?_));have H:=H.ext J;exact a.push m (x:=x.1) H rfl rfl rfl (by simp only[DS];omega) λL w8 M O=>oJ.fZ F O λP T U=>E L P (by simpa using M) T (I.trans U)
 ·rintro rr rec w4 l' j ⟨V,W,rfl⟩ a c;refine c9.none c λw5 H=>?_;have X:((cA s.1 3 f).map Mo).map (·.1)=cA s.1 3 f:=by
   rw[List.map_map];exact List.map_id _
  rw[X] at a;rcases a with ⟨h, _⟩|⟨bs,cs,rest,rfl,q1,q2⟩
  ·exact absurd h (wV _ _ _)
  ·refine aj.at 0 H rfl rfl (oN.go H λq H=>k bs cs rest q ⟨g1,z,A,n,V,W,H0.join (λx b=>b) ?_⟩);refine(H.sub (DB _ _)).perm ?_;exact Do (l₁:=[_, _, _, _])
theorem Dd (S:a7 Q D G w0 w s L0) {j bs:Nat} {xs:List Int} {rest:List A9} (a:L0[j]? =some (bs,flat eN xs++rest)) {i:Nat} {x:Int} (b:xs[i]? =some x):cI w (ae (ad bs) (i*1)) eN x:=eC (e:=eN) (S.get a) b
theorem Pm (S:a7 Q D G w0 w s L0) (j:Nat) {bs:Nat} {xs:List Int} {rest:List A9} (a:L0[j]? =some (bs,flat eN xs++rest)) {i:Nat} (hi:i<xs.length) (v:Int) {K:A1->Prop} (k: ∀w1,a7 Q D G w0 w1 s (L0.set j (bs,flat eN (xs.set i v)++rest))->K w1):aw w (ae (ad bs) (i*1)) [aa v] K:=by
 obtain⟨b,h2,c,d,ca,la,H⟩:=S;exact aw.flat (e:=eN) (j+4) H v a rfl rfl hi λw1 H=>k w1 ⟨b,h2,c,d,ca,la,H⟩
theorem all (S:a7 Q D G w0 w s L0) (k0:Nat) (t:L0[k0]? =some (bt,lX Q o r gone)) (W:0<=r/\r<4096) {K:Option A3×Nat×Nat->A1->Prop} (k: ∀x rows d,a7 Q D G w0 d s (L0++rows)->jh eN rows x (kv s r gone)->K x d):
 aB A2 284 (.el (.one .slice)) [ah (ad bt)] w K:=by
 refine S.go λw1 S=>ai (C:=N0) (aM:=sg) (A_ (N3 _ w1 K) ?_);refine⟨_,S.state k0 t,?_⟩;cases gone with
 |true=>exact ay rfl (S.en λd S=>k (none,0,0) [] d (by rw[EB];exact S) ⟨rfl,.inl ⟨rfl,rfl⟩⟩)
 |false=>
  refine an rfl ⟨rfl,rfl,S.bW k0 t rfl (S.under r 3 λf X Y d S=>S.UN (k0+3) t W (by simp) (by simp) (by simp) λbs cs rest p S=>?_)⟩;have S:=S.perm (L1:=(bs,flat eN (cA s.1 3 r)++rest)::(L0++[(Y,[aa 3]),(X,[aa r]),(f,[ah (ad bt)])])) (HQ _ (by exact List.perm_append_comm (l₂:=[_, _, _])));have S:=S.sub (List.Sublist.cons_cons _ (H5 _ _));have hlen:=mC s.1 r;have ha:kv s r false=pq (cA s.1 3 r):=ao (by decide);rw[ha] at k;have cx:=wV s.1 3 r;generalize cA s.1 3 r=l at*
  refine⟨λn v w'=> ∃m:Nat,v.1=(m:Int)/\n+m=l.length/\a7 Q D G w0 w' s ((bs,flat eN (((l.take m).foldl (λa x=>iS x a) []).reverse++l.drop m)++rest)::L0),⟨l.length,λw4 h4=>⟨0,rfl,rfl,by simpa using S.ext h4⟩⟩,?_⟩;rintro n ⟨v,u⟩ w4 ⟨m,b,PL,S⟩;dsimp only at b ⊢;subst b;refine ab (λz=>?_) (λz=>?_)
  ·have E:m<l.length:=by simpa using z
   obtain⟨R,F⟩: ∃R,R=(l.take m).foldl (λa x=>iS x a) []:=⟨_,rfl⟩;have H:R.length=m:=by rw[F,uG,Gi];simp;omega
   have M:=Bq E;obtain⟨x,N⟩: ∃x,x=l[m]:=⟨_,rfl⟩;rw[<-N] at M;have hd:l.drop m=x::l.drop (m+1):=by rw[HB E,N]
   have UO:(l.take (m+1)).foldl (λa x=>iS x a) []=iS x R:=by
    rw[H4,M,Option.toList_some,List.foldl_append, <-F];rfl
   obtain⟨Z,O⟩: ∃Z,Z=l.drop (m+1):=⟨_,rfl⟩;rw[<-F,hd, <-O] at S;refine⟨λP v w'=> ∃A B:List Int,v.1=(A.length:Int)/\P=A.length/\A.length+B.length=m/\B++iS x A=iS x R/\a7 Q D G w0 w' s ((bs,flat eN (A.reverse++x::(B.reverse++Z))++rest)::L0),⟨m,λg h5=>⟨R,[],by rw[H],H.symm,by simp[H],rfl,by simpa using S.ext h5⟩⟩,?_⟩;rintro P ⟨v,u2⟩ g ⟨A,B,b,rfl,hAB,I,S⟩;dsimp only at b ⊢;subst b;have T: ∀(C:List Int),C=iS x R-> ∀{w':A1},a7 Q D G w0 w' s ((bs,flat eN (C.reverse++Z)++rest)::L0)-> ∀p,Ext w' p-> ∃U,U<n/\ ∃q:Nat,aC .i64 (m:Int) 1=(q:Int)/\U+q=l.length/\a7 Q D G w0 p s ((bs,flat eN (((l.take q).foldl (λa x=>iS x a) []).reverse++l.drop q)++rest)::L0):=by
    intro C hC w' S p h3;refine⟨n - 1,by omega,m+1,by rw[av (by omega) (by omega)];omega,by omega,?_⟩;rw[UO, <-hC, <-O];exact S.ext h3
   cases A with
   |nil=>
    refine⟨λh=>by simp at h,0,λh=>by simp at h,λh=>by simp at h,0,λh=>by simp at h,an rfl (T (B++iS x []) I (w':=g) ?_)⟩;have e:(B++iS x []).reverse++Z=[].reverse++x::(B.reverse++Z):=by simp[iS]
    rw[e];exact S
   |cons y A=>
    have e:(y::A).reverse++x::(B.reverse++Z)=A.reverse++y::x::(B.reverse++Z):=by simp
    rw[e] at S;simp only[Bc] at hAB;have es:bK .i64 (((y::A).length:Nat):Int) 1=(A.length:Int):=by rw[Bc,bU (by omega) (by omega)];omega
    rw[es];have J:(A.reverse++y::x::(B.reverse++Z))[A.length]? =some y:=by rw[Ic (by simp)];simp
    have V:(A.reverse++y::x::(B.reverse++Z))[A.length+1]? =some x:=by rw[Ic (by simp)];simp
    have Hx:A.length<(A.reverse++y::x::(B.reverse++Z)).length:=(B3.1 J).1;have s1:(A.reverse++y::x::(B.reverse++Z)).set A.length x=A.reverse++x::x::(B.reverse++Z):=by
     have:=RR A.reverse (x::(B.reverse++Z)) y x;rwa[Ib] at this
    have s2:(A.reverse++x::x::(B.reverse++Z)).set (A.length+1) y=A.reverse++x::y::(B.reverse++Z):=by
     simp
    have L8:A.length+1<(A.reverse++x::x::(B.reverse++Z)).length:=by simp
    have t1:((A.length:Nat):Int).toNat=A.length:=rfl;have t2:(((y::A).length:Nat):Int).toNat=A.length+1:=rfl;rw[t1,t2];have g1:(some (⟨bs,0,none⟩:A3)).isSome=true/\0<=(A.length:Int)/\(A.length:Int)<(l.length:Int):=⟨rfl,by omega,by omega⟩;have L:(some (⟨bs,0,none⟩:A3)).isSome=true/\0<=(((y::A).length:Nat):Int)/\(((y::A).length:Nat):Int)<(l.length:Int):=⟨rfl,by omega,by rw[Bc];omega⟩;refine⟨λ_=>g1,aj.of y (S.Dd (j:=0) rfl J) ⟨λ_=>L,aj.of x (S.Dd (j:=0) rfl V) (ab (λc=>⟨L,aj.of x (S.Dd (j:=0) rfl V) ⟨g1,aj.of y (S.Dd (j:=0) rfl J) ⟨g1,S.Pm 0 rfl Hx x λw6 S=>⟨L,?_⟩⟩⟩⟩) (λc=>T (B++iS x (y::A)) I (w':=g) ?_))⟩⟩
    ·rw[s1] at S;refine S.Pm 0 rfl L8 y λw7 S=>λw8 h8=>⟨A.length,Nat.lt_succ_self _,A,B++[y],rfl,rfl,by simp;omega,?_,?_⟩
     ·have f:y>x:=by simpa using c
      rw[<-I,iS,ax f,E4];rfl
     ·rw[s2] at S;have i:A.reverse++x::((B++[y]).reverse++Z)=A.reverse++x::y::(B.reverse++Z):=by simp
      rw[i];exact S.ext h8
    ·have f: ¬ y>x:=by simpa using c
     have i:(B++iS x (y::A)).reverse++Z=A.reverse++y::x::(B.reverse++Z):=by rw[iS,ao f];simp
     rw[i];exact S
  ·have E: ¬ m<l.length:=by simpa using z
   have b:l.take m=l:=Hu (by omega);have i:l.drop m=[]:=H2 (by omega);rw[b,i,EB] at S;refine S.en λg S=>k (some ⟨bs,0,none⟩,l.length,cs) [(bs,flat eN (pq l)++rest)] g (S.perm (List.perm_append_singleton _ _)) ⟨(wW l).symm,.inr ⟨bs,rest,rfl,rfl⟩⟩
theorem drop (S:a7 Q D G w0 w s L0) (k0:Nat) (b:L0[k0]? =some (bt,lX Q o r gone)) (I:0<=r/\r<4096) {K:Option A3×Nat×Nat->A1->Prop} (k: ∀x rows c,a7 Q D G w0 c (bY s r gone) (L0.set k0 (bt,lX Q o r true)++rows)->jh eN rows x (kv s r gone)->K x c):
 aB A2 210 (.el (.one .slice)) [ah (ad bt)] w K:=by
 refine S.go λw1 S=>ai (C:=N0) (aM:=qm) (A_ (K' _ w1 K) ?_);refine⟨_,S.state k0 b,?_⟩;have g:k0<L0.length:=(B3.1 b).1;cases gone with
 |true=>
  have e:L0.set k0 (bt,lX Q o r true)=L0:=Hc λq=>by
   by_cases e:k0=q
   ·subst e;rw[Bo g,b]
   ·rw[B4 e]
  exact ay rfl (S.en λc S=>k (none,0,0) [] c (by rw[EB,e];exact S) ⟨rfl,.inl ⟨rfl,rfl⟩⟩)
 |false=>
  refine an rfl (S.all k0 b I λx rows c S h=>?_);have J:bY s r false=(s.1,(kv s r false).foldl (λds f=>fC ds f (aE 5 0)) s.2):=ao (by decide);rw[J] at k;have Y:(kv s r false).length<=4369:=by
   rw[show kv s r false=pq (cA s.1 3 r) from ao (by decide),wW];exact mC _ _
  generalize kv s r false=l at*
  obtain⟨L,M,N⟩:=x;have O:M=l.length:=h.1;subst O;obtain⟨d,p⟩: ∃d,d=l.foldl (λds f=>fC ds f (aE 5 0)) s.2:=⟨_,rfl⟩;rw[<-p] at k;have t:(L0++rows)[k0]? =some (bt,lX Q o r false):=by rw[EA g];exact b
  refine⟨λn v w'=> ∃(m:Nat) (ds:List DT),v.1=(m:Int)/\n+m=l.length/\(l.drop m).foldl (λds f=>fC ds f (aE 5 0)) ds=d/\a7 Q D G w0 w' (s.1,ds) (L0++rows),⟨l.length,λy P=>⟨0,s.2,rfl,rfl,p.symm,S.ext P⟩⟩,?_⟩;rintro n ⟨v,u⟩ y ⟨m,ds,z,Z,a,S⟩;dsimp only at z ⊢;subst z;refine ab (λi=>?_) (λi=>?_)
  ·have j:m<l.length:=by simpa using i
   have A:=Bq j;obtain⟨f,B⟩: ∃f,f=l[m]:=⟨_,rfl⟩;rw[<-B] at A;rw[HB j, <-B,Ia] at a;obtain⟨g1,R,T,U,ca,la,H⟩:=S;have E:=h.sl H (λx V=>by
    show x∈ _:: _:: _:: _::(L0++rows);simp[V]) m f A
   have S:a7 Q D G w0 y (s.1,ds) (L0++rows):=⟨g1,R,T,U,ca,la,H⟩;refine⟨⟨E.1,by omega,by omega⟩,aj.of f E.2 ⟨rfl,rfl,S.bW k0 t rfl (S.MG f 5 0 λW S=>λF X=>⟨n - 1,by omega,m+1, _,?_,by omega,a,S.ext X⟩)⟩⟩;rw[av (by omega) (by omega)];omega
  ·have j: ¬ m<l.length:=by simpa using i
   rw[H2 (by omega)] at a;have a:ds=d:=a;subst a;refine⟨rfl,rfl,S.yk k0 t rfl rfl λW S=>S.en λF S=>k (L,l.length,N) rows F ?_ h⟩;rw[List.set_append_left _ _ g] at S;exact S
theorem new (S:a7 Q D G w0 w s L0) (o:Int) {K:Option A3×Int×Unit->A1->Prop}
 (f:(s.1.length:Int)<16*(s.2.length:Int)-> ∀a,a7 Q D G w0 a s L0->K (none,1,()) a)
 (g: ¬ (s.1.length:Int)<16*(s.2.length:Int)-> ¬ oO s o=0-> ∀a,a7 Q D G w0 a (gD s o λ_=>0) L0->K (none,oO s o,()) a)
 (h: ¬ (s.1.length:Int)<16*(s.2.length:Int)->oO s o=0-> ∀b a,a7 Q D G w0 a (gD s o λ_=>0) ((b,lX Q o (dJ s o) false)::L0)->K (some ⟨b,0,none⟩,0,()) a):
 aB A2 203 (.bH [.one .ptr,.one (.int .i64)]) [ah (ad Q.bm),ah (ad Q.bp),aa o] w K:=by
 refine S.go λw1 S=>ai (C:=N0) (aM:=λ_=>[]) (A_ (N4 _ _ o w1 K) ?_);have m:=S.pos;have h2:=S.zw;have n:=S.le;have i:(((s.1.length:Nat):Int)==0)=false:=by rw[beq_eq_false_iff_ne];omega
 have j:(((s.2.length:Nat):Int)==0)=false:=by rw[beq_eq_false_iff_ne];omega
 have k:dO .i64 16 ((s.2.length:Nat):Int)=16*(s.2.length:Int):=dI (by omega) (by omega);refine⟨_,S.TR, _,λ_=>S.QI, _,λ_=>S.TR, _,λ_=>S.QI,?_⟩;rw[i,j,k];refine ab (λc=>S.en λa S=>f (by simpa using c) a S) (λc=>S.al λb a S=>S.UI (r:=0) (gone:=false) 0 rfl λp S=>ab (λd=>S.en λe S=>?_) (λd=>⟨rfl,rfl,S.yk 0 rfl rfl rfl λe S=>S.en λl S=>h (by simpa using c) (by simpa using d) b l S⟩));exact g (by simpa using c) (by simpa using d) e S.tail
end a7
end
set_option maxRecDepth 100000
open Go.RX
abbrev gY:List Sc:=[.int .u64,.int .i64]
abbrev RS:Type:=Int×Int×Unit
noncomputable def B0:dn A2:={N0 with quiet:=[]}
theorem Oc (e:Int) (w:A1) (c:RS->A1->Prop):(bO B0 (λ_=>[]) 62 [aa e] w c)=(
 aA w ⟨[aq 0,aa 0]⟩ 38 λb a=>aw a (ad b) [aq 0,aa e] λa=>ak a λw1=>aj w1 none (ad b) aY λ(x:Int×Int×Unit)=>c (x.1,x.2.1,()) w1):=by kernel_rfl
theorem Od (e:Int) (w:A1):ar A2 62 (.el (.agg gY)) [aa e] w (λx w'=>x=(0,e,())/\Ext w w'):=by
 refine aO (C:=B0) (aM:=λ_=>[]) (A_ (Oc e w _) ?_);have H:=At.start [] w;exact aA.go H λb a H=>aw.all 0 H rfl rfl rfl λc H=>ak.go H λd H=>aj.at 0 H rfl (show _=some (0,e,()) from rfl) ⟨rfl,H.all⟩
noncomputable def UP:Entry A2 where
 f:=62
 fn l:=match l with
  |[.int .i64 e]=>some (True,.agg ⟨[.int .u64 0,.int .i64 e]⟩)
  | _=>none
 ok args pre v h a w:=by
  split at h
  ·rename_i e;cases h;exact aS (Od e w)
  ·cases h
noncomputable def V0:dn A2:={N0 with oG:=UP::N0.oG,quiet:=[61,18,204,20,222,24,29,63,218,87,88,32,78,17,81]}
noncomputable def V1:dn A2:={V0 with So:=some (.el (.agg gY))}
noncomputable def V2:dn A2:={V0 with cl:=[(183,.qq 86 3)]}
theorem F_ (p:Option A3) (w:A1) (a:Bool->A1->Prop):(aJ V0 (λ_=>[]) 61 [ah p] w a)=(
 ((!p.isNone)=true->p.isSome=true)/\((!p.isNone)=true->p.isSome=true)/\aj w (some !p.isNone) (ae p 0) jW λx=>ak w (a (!p.isNone&& !x.isNone))):=by kernel_rfl
theorem Le (p:Option A3) (v:Int) (w:A1) (a:Bool->A1->Prop):(aJ V0 (λ_=>[]) 18 [ah p,aa v] w a)=(
 ∃x,ag A2 61 [ah p] w (.bool x)/\((x&&decide (v>=1)&&decide (v<=16))=true->p.isSome=true)/\((x&&decide (v>=1)&&decide (v<=16))=true->p.isSome=true)/\((x&&decide (v>=1)&&decide (v<=16))=true->(ae p 4).isSome=true/\0<=v/\v<(↑17:Int))/\aj w (some (x&&decide (v>=1)&&decide (v<=16))) (ae (ae p 4) (v.toNat*1)) jW λb=>ak w (a (x&&decide (v>=1)&&decide (v<=16)&& !b.isNone))):=by kernel_rfl
theorem F' (p:Option A3) (a:Int) (w:A1) (b:Bool->A1->Prop):(aJ V0 (λ_=>[]) 204 [ah p,aq a] w b)=(
 ∃x,(decide (a<=16)=true->ag A2 18 [ah p,aa (aD .i64 a)] w (.bool x))/\ak w (b (decide (a<=16)&&x))):=by kernel_rfl
theorem Lf (p:Option A3) (v:Int) (w:A1) (a:Int->A1->Prop):(aJ V0 (λ_=>[]) 20 [ah p,aa v] w a)=(
 ∃x,ag A2 18 [ah p,aa v] w (.bool x)/\aF (!x) (ak w (a (-1))) (p.isSome=true/\p.isSome=true/\((ae p 4).isSome=true/\0<=v/\v<(↑17:Int))/\fQ w (ae (ae p 4) (v.toNat*1)) λx=>cb x 0 w λx=> ∃(b:Int),ag A2 81 [ah x] w (aa b)/\ak w (a b))):=by kernel_rfl
theorem Ga (p:Option A3) (v g:Int) (w:A1) (a:Int×Int×Int×Unit->A1->Prop):(aJ V0 (λ_=>[]) 22 [ah p,aa v,aa g] w a)=(
 ∃x,ag A2 61 [ah p] w (.bool x)/\aF (!x) (ak w (a (0,0,10,()))) (∃x,ag A2 18 [ah p,aa v] w (.bool x)/\aF (!x) (ak w (a (0,0,4,()))) (p.isSome=true/\p.isSome=true/\((ae p 4).isSome=true/\0<=v/\v<(↑17:Int))/\fQ w (ae (ae p 4) (v.toNat*1)) λx=>cb x 0 w λx=>aB A2 83 (.bH [.one (.int .i64),.one (.int .i64),.one (.int .i64)]) [ah x,aa g] w λ(x:Int×Int×Int×Unit) b=>ak b (a (x.1,x.2.1,x.2.2.1,()))))):=by kernel_rfl
theorem Gb (p:Option A3) (v g:Int) (w:A1) (d:Int×Bool×Unit->A1->Prop):(aJ V0 (λ_=>[]) 24 [ah p,aa v,aa g] w d)=(
 ∃x,ag A2 18 [ah p,aa v] w (.bool x)/\aF (!x) (ak w (d (0,false,()))) (p.isSome=true/\p.isSome=true/\((ae p 4).isSome=true/\0<=v/\v<(↑17:Int))/\fQ w (ae (ae p 4) (v.toNat*1)) λx=>Bk x 1 w λx=> ∃(a:Int×Int×Unit), ∃(b:Bool),kV w x .i64 g (.agg ⟨[aa 0,aa 0]⟩) (.agg ⟨[aa a.1,aa a.2.1]⟩) b/\aA w ⟨[aa 0,aa 0]⟩ 177 λe c=>aw c (ad e) [aa a.1,aa a.2.1] λc=>true=true/\aQ c (ae (ad e) 0) λx=>ak c (d (x,
 b,())))):=by kernel_rfl
theorem CA (p:Option A3) (w:A1) (a:Option A3->A1->Prop):(aJ V0 (λ_=>[]) 14 [ah p] w a)=(
 ∃x,ag A2 61 [ah p] w (.bool x)/\aF (!x) (ak w (a none)) (cb p 1 w λx=>aB A2 79 (.el jW) [ah x] w λx b=>ak b (a x))):=by kernel_rfl
theorem CB (p:Option A3) (w:A1) (a:Option A3->A1->Prop):(aJ V0 (λ_=>[]) 12 [ah p] w a)=(
 ∃x,ag A2 61 [ah p] w (.bool x)/\aF (!x) (ak w (a none)) (cb p 0 w λx=>ak w (a x))):=by kernel_rfl
theorem Lg (p:Option A3) (f:Int) (w:A1) (d:Int->A1->Prop):(aJ V0 (λ_=>[]) 212 [ah p,aa f] w d)=(
 ∃x,ag A2 61 [ah p] w (.bool x)/\aF (!x) (ak w (d 10)) (cb p 1 w λx=> ∃(a:(Int×Int×Int×Int×Unit)×Bool×Unit),ag A2 32 [ah x,aa f] w (.tuple {toList:=[.agg ⟨[aa a.1.1,aa a.1.2.1,aa a.1.2.2.1,aa a.1.2.2.2.1]⟩,.bool a.2.1]})/\aA w ⟨[aa 0,aa 0,aa 0,aa 0]⟩ 79 λb c=>aw c (ad b) [aa a.1.1,aa a.1.2.1,aa a.1.2.2.1,aa a.1.2.2.2.1] λc=>aF (!a.2.1) (ak c (d 2)) (true=true/\aQ c (ae (ad
 b) 0) λx=>aF (x != 5) (ak c (d 6)) (cb p 1 c λx=>aB A2 215 (.el aT) [ah x,aa f] c λ(x:Int) c=>ak c (d x))))):=by kernel_rfl
theorem Gc (p:Option A3) (v a:Int) (w:A1) (b:Int->A1->Prop):(aJ V0 (λ_=>[]) 222 [ah p,aa v,aq a] w b)=(
 aF (decide (a<1)||decide (a>16)||aD .i64 a==v) (ak w (b 1)) (∃x,ag A2 204 [ah p,aq a] w (.bool x)/\aF (!x) (ak w (b 4)) (ak w (b 0)))):=by kernel_rfl
theorem Lh (p:Option A3) (v a t:Int) (w:A1) (d:Int×Int×Unit->A1->Prop):(aJ V0 (λ_=>[]) 220 [ah p,aa v,aq a,aa t] w d)=(
 aF (decide (a>=1048576)) (ak w (d (0,2,()))) (cb p 0 w λx=> ∃(e:Int),ag A2 20 [ah p,aa v] w (aa e)/\(aB A2 295 (.el cY) [ah x,aa e,aa (aD .i64 (nh .u64 a 16)),aa t] w λ(x:Int×Int×Int×Int×Unit) c=>aA c ⟨[aa 0,aa 0,aa 0,aa 0]⟩ 361 λb c=>aw c (ad b) [aa x.1,aa x.2.1,aa x.2.2.1,aa x.2.2.2.1] λc=>true=true/\aQ c (ae (ad b) 0) λx=>true=true/\aQ c (ae (ad b) 3) λf=>ak
 c λw1=>d (aC .i64 (dO .i64 16 x) (aD .i64 (gu a 16)),f,()) w1)/\aA w ⟨[aa 0,aa 0,aa 0,aa 0]⟩ 361 λb c=>aB A2 295 (.el cY) [ah x,aa e,aa (aD .i64 (nh .u64 a 16)),aa t] c λ(x:Int×Int×Int×Int×Unit) c=>aw c (ad b) [aa x.1,aa x.2.1,aa x.2.2.1,aa x.2.2.2.1] λc=>true=true/\aQ c (ae (ad b) 0) λx=>true=true/\aQ c (ae (ad b) 3) λf=>ak c λw1=>d (aC .i64 (dO .i64 16 x) (aD .i64 (gu a 16)),
 f,()) w1)):=by kernel_rfl
def nQ:Nat->aV:=(λ|3=>[(3,Go.RX.El.one (Go.RX.Sc.int AX))]| _=>[])
theorem Gd (p:Option A3) (w:A1) (c:Int->A1->Prop):(aJ V0 nQ 207 [ah p] w c)=(
 Bk p 1 w λx=>VZ w x λb a=> ∃(I:Nat->Int×Unit->A1->Prop),(∃n, ∀w1,Ext a w1->I n (65536,()) w1)/\ ∀(n:Nat) (s:Int×Unit) (w1:A1),I n s w1->V3 w1 (ad b) (λa=>ak a (c s.1)) λ(k v:A9) a=> ∃(x:Int), ∃(v:A9),zm a (ad b) (aa x) v/\ ∀d,Ext a d-> ∃(e:Nat),e<n/\I e (iO s.1 x,()) d):=by kernel_rfl
def qn:Nat->aV:=(λ_=>[])
theorem Li (p:Option A3) (v g:Int) (w:A1) (d:Unit->A1->Prop):(aJ V0 qn 206 [ah p,aa v,aa g] w d)=(
 p.isSome=true/\p.isSome=true/\((ae p 4).isSome=true/\0<=v/\v<(↑17:Int))/\fQ w (ae (ae p 4) (v.toNat*1)) λx=>Bk x 1 w λf=> ∃(c:Int×Int×Unit),jg w f .i64 g (.agg ⟨[aa 0,aa 0]⟩) (.agg ⟨[aa c.1,aa c.2.1]⟩)/\aA w ⟨[aa 0,aa 0]⟩ 177 λb a=>aw a (ad b) [aa c.1,aa c.2.1] λa=>Bk x 1 a λh=> ∀w1,Ext a w1-> ∃(r:Nat), ∃(es:Array AC), ∃(e:Nat),h=some r/\bE w1 r es e/\HF w1 r .i64 g es e λa=>cb x 0 a λx=>aB
 A2 217 (.bH [.one (.int .i64),.one (.int .i64)]) [ah x,aa g] a λ(x:Int×Int×Unit) a=>cb p 1 a λx=>true=true/\aQ a (ae (ad b) 1) λi=>aB A2 226 (.el aT) [ah x,aa i,aa (-1)] a λ(x:Int) a=>cb p 2 a λx=>true=true/\aQ a (ae (ad b) 0) λj=>aB A2 225 (.el aT) [ah x,aa j,aa v] a λ(x:Int) a=>ak a (d ())):=by kernel_rfl
theorem DQ (n:Int) (w:A1) (c:Option A3×Int×Unit->A1->Prop):(aJ V0 (λ_=>[]) 6 [aa n] w c)=(
 aF (decide (n<4)||decide (n>4096)) (ak w (c (none,1,()))) (aA w {toList:=[ah none,ah none,ah none,ah none,ah none,ah none,ah none,ah none,ah none,ah none,ah none,ah none,ah none,ah none,ah none,ah none,ah none,ah none,ah none,ah none,ah none]} 131 λb a=>aB A2 53 (.bH [.one .ptr,.one (.int .i64)]) [aa (dO .i64 16 n)] a λ(x:Option A3×Int×Unit) a=>true=true/\true=true/\aw a (ae
 (ad b) 0) [ah x.1] λa=>aB A2 54 (.bH [.one .ptr,.one (.int .i64)]) [aa n] a λ(x:Option A3×Int×Unit) a=>true=true/\true=true/\aw a (ae (ad b) 1) [ah x.1] λa=>aB A2 55 (.bH [.one .ptr,.one (.int .i64)]) [aa 16] a λ(x:Option A3×Int×Unit) a=>true=true/\true=true/\aw a (ae (ad b) 2) [ah x.1] λa=>aB A2 56 (.bH [.one .ptr,.one (.int .i64)]) [aa 4] a λ(x:Option A3×Int×Unit) a=>true=true/\true=true/\aw a (ae (ad b) 3) [ah x.1] λ
 a=>ak a (c (some ⟨b,0,none⟩,0,())))):=by kernel_rfl
theorem Ge (w:A1) (u:Option Nat->A1->Prop):(aJ V0 (λ_=>[]) 64 [] w u)=(
 ∀w1,Ext w w1-> ∀c,Ext (w1.alloc (Obj.map ⟨[]⟩ 0)) c-> ∃(r:Nat), ∃(es:Array AC), ∃(a:Nat),some w1.heap.size=some r/\bE c r es a/\gz c r .i64 1 (.func (.func 124) ⟨[]⟩ ⟨[]⟩) es a λb=> ∀d,Ext b d-> ∃(r:Nat), ∃(es:Array AC), ∃(a:Nat),some w1.heap.size=some r/\bE d r es a/\gz d r .i64 2 (.func (.func 125) ⟨[]⟩ ⟨[]⟩) es a λb=> ∀e,Ext b e-> ∃(r:Nat), ∃(es:Array AC), ∃(a:Nat),some w1.heap.size=some r/\bE e r es a/\gz e r .i64 17 (.func (.func
 126) ⟨[]⟩ ⟨[]⟩) es a λb=> ∀f,Ext b f-> ∃(r:Nat), ∃(es:Array AC), ∃(a:Nat),some w1.heap.size=some r/\bE f r es a/\gz f r .i64 3 (.func (.func 127) ⟨[]⟩ ⟨[]⟩) es a λb=> ∀g,Ext b g-> ∃(r:Nat), ∃(es:Array AC), ∃(a:Nat),some w1.heap.size=some r/\bE g r es a/\gz g r .i64 4 (.func (.func 128) ⟨[]⟩ ⟨[]⟩) es a λb=> ∀h,Ext b h-> ∃(r:Nat), ∃(es:Array AC), ∃(a:Nat),some w1.heap.size=some r/\bE h r es a/\gz h r .i64 5 (.func (.func 129) ⟨[]⟩
 ⟨[]⟩) es a λb=> ∀i,Ext b i-> ∃(r:Nat), ∃(es:Array AC), ∃(a:Nat),some w1.heap.size=some r/\bE i r es a/\gz i r .i64 6 (.func (.func 130) ⟨[]⟩ ⟨[]⟩) es a λb=> ∀j,Ext b j-> ∃(r:Nat), ∃(es:Array AC), ∃(a:Nat),some w1.heap.size=some r/\bE j r es a/\gz j r .i64 7 (.func (.func 131) ⟨[]⟩ ⟨[]⟩) es a λb=> ∀k,Ext b k-> ∃(r:Nat), ∃(es:Array AC), ∃(a:Nat),some w1.heap.size=some r/\bE k r es a/\gz k r .i64 8 (.func (.func 132) ⟨[]⟩ ⟨[]⟩) es
 a λb=> ∀l,Ext b l-> ∃(r:Nat), ∃(es:Array AC), ∃(a:Nat),some w1.heap.size=some r/\bE l r es a/\gz l r .i64 9 (.func (.func 133) ⟨[]⟩ ⟨[]⟩) es a λb=> ∀m,Ext b m-> ∃(r:Nat), ∃(es:Array AC), ∃(a:Nat),some w1.heap.size=some r/\bE m r es a/\gz m r .i64 10 (.func (.func 134) ⟨[]⟩ ⟨[]⟩) es a λb=> ∀n,Ext b n-> ∃(r:Nat), ∃(es:Array AC), ∃(a:Nat),some w1.heap.size=some r/\bE n r es a/\gz n r .i64 11 (.func (.func 135) ⟨[]⟩ ⟨[]⟩)
 es a λb=> ∀o,Ext b o-> ∃(r:Nat), ∃(es:Array AC), ∃(a:Nat),some w1.heap.size=some r/\bE o r es a/\gz o r .i64 12 (.func (.func 136) ⟨[]⟩ ⟨[]⟩) es a λb=> ∀p,Ext b p-> ∃(r:Nat), ∃(es:Array AC), ∃(a:Nat),some w1.heap.size=some r/\bE p r es a/\gz p r .i64 13 (.func (.func 137) ⟨[]⟩ ⟨[]⟩) es a λb=> ∀q,Ext b q-> ∃(r:Nat), ∃(es:Array AC), ∃(a:Nat),some w1.heap.size=some r/\bE q r es a/\gz q r .i64 14 (.func (.func 138) ⟨[]⟩
 ⟨[]⟩) es a λb=> ∀s,Ext b s-> ∃(r:Nat), ∃(es:Array AC), ∃(a:Nat),some w1.heap.size=some r/\bE s r es a/\gz s r .i64 15 (.func (.func 139) ⟨[]⟩ ⟨[]⟩) es a λb=> ∀t,Ext b t-> ∃(r:Nat), ∃(es:Array AC), ∃(a:Nat),some w1.heap.size=some r/\bE t r es a/\gz t r .i64 16 (.func (.func 140) ⟨[]⟩ ⟨[]⟩) es a λb=>ak b (u (some w1.heap.size))):=by kernel_rfl
def lG:Nat->aV:=(λ|2=>[(7,Go.RX.El.one (Go.RX.Sc.int AX))]| _=>[])
theorem AS (p:Option A3) (v k a b c:Int) (w:A1) (e:RS->A1->Prop):(bO V0 lG 124 [ah p,aa v,.agg ⟨[aa k,aq a,aq b,aq c]⟩] w e)=(
 aA w ⟨[aa k,aq a,aq b,aq c]⟩ 34 λb d=>aA d ⟨[aq 0,aa 0]⟩ 38 λb d=> ∃(I:Nat->Int×Unit->A1->Prop),(∃n, ∀w1,Ext d w1->I n (1,()) w1)/\ ∀(n:Nat) (s:Int×Unit) (w1:A1),I n s w1->aF (decide (s.1<=16)) (p.isSome=true/\p.isSome=true/\((ae p 4).isSome=true/\0<=s.1/\s.1<(↑17:Int))/\fQ w1 (ae (ae p 4) (B2 s.1*1)) λx=>aF (!x.isNone) (∀f,Ext w1 f-> ∃(g:Nat),g<n/\I g (aC .i64 s.1 1,()) f) (cb p 0 w1 λx=>cb p 1 w1 λh=>aB
 A2 203 (.bH [.one .ptr,.one (.int .i64)]) [ah x,ah h,aa s.1] w1 λ(x:Option A3×Int×Unit) d=>aF (x.2.1==0) (∀w1,Ext d w1->aA (w1.alloc (Obj.map ⟨[]⟩ 0)) ⟨[ah x.1,.map (some w1.heap.size)]⟩ 174 λi d=>p.isSome=true/\p.isSome=true/\((ae p 4).isSome=true/\0<=s.1/\s.1<(↑17:Int))/\aw d (ae (ae p 4) (B2 s.1*1)) [ah (ad i)] λd=>aw d (ad b) [aq (aD .u64 s.1),aa x.2.1] λd=>ak d λw1=>aj w1 none (ad b) aY λ(x:Int×Int×Unit)=>e (x.1,x.2.1,
 ()) w1) (aw d (ad b) [aq (aD .u64 s.1),aa x.2.1] λd=>ak d λw1=>aj w1 none (ad b) aY λ(x:Int×Int×Unit)=>e (x.1,x.2.1,()) w1))) (True/\aw w1 (ad b) [aq 0,aa 3] λd=>ak d λw1=>aj w1 none (ad b) aY λ(x:Int×Int×Unit)=>e (x.1,x.2.1,()) w1)):=by kernel_rfl
def kM:Nat->aV:=(λ|5=>[(34,Go.RX.El.one (Go.RX.Sc.int AX))]|12=>[]|19=>[(13,Go.RX.El.one (Go.RX.Sc.int AX)),(93,Go.RX.El.one (Go.RX.Sc.int AX))]| _=>[])
theorem yR (p:Option A3) (v k a b c:Int) (w:A1) (l:RS->A1->Prop):(bO V0 kM 125 [ah p,aa v,.agg ⟨[aa k,aq a,aq b,aq c]⟩] w l)=(
 aA w ⟨[aa k,aq a,aq b,aq c]⟩ 34 λb d=>aA d ⟨[aq 0,aa 0]⟩ 38 λi d=>true=true/\cg d (ae (ad b) 1) λx=> ∃r,ag A2 204 [ah p,aq x] d (.bool r)/\aF (!r) (True/\aw d (ad i) [aq 0,aa 4] λd=>ak d λw1=>aj w1 none (ad i) aY λ(x:Int×Int×Unit)=>l (x.1,x.2.1,()) w1) (true=true/\cg d (ae (ad b) 1) λx=>cb p 1 d λz=>aB A2 205 (.el jD) [ah z,aa (aD .i64 x)] d λm d=> ∃(I:Nat->
 Int×Unit->A1->Prop),(∃n, ∀w1,Ext d w1->I n (0,()) w1)/\ ∀(n:Nat) (s:Int×Unit) (w1:A1),I n s w1->aF (decide (s.1<(↑m.2.1:Int))) ((m.1.isSome=true/\0<=s.1/\s.1<(↑m.2.1:Int))/\aQ w1 (ae m.1 (B2 s.1*1)) λx=>cb p 1 w1 λj=> ∃(e:(Int×Int×Int×Int×Unit)×Bool×Unit),ag A2 32 [ah j,aa x] w1 (.tuple {toList:=[.agg ⟨[aa e.1.1,aa e.1.2.1,aa e.1.2.2.1,aa e.1.2.2.2.1]⟩,.bool e.2.1]})/\aA w1 ⟨[aa 0,aa 0,aa 0,.int
 .i64 0]⟩ 79 λb d=>aw d (ad b) [aa e.1.1,aa e.1.2.1,aa e.1.2.2.1,aa e.1.2.2.2.1] λd=>true=true/\aQ d (ae (ad b) 2) λx=>aF (decide (x>0)) (True/\aw d (ad i) [aq 0,aa 9] λd=>ak d λw1=>aj w1 none (ad i) aY λ(x:Int×Int×Unit)=>l (x.1,x.2.1,()) w1) (∀f,Ext d f-> ∃(g:Nat),g<n/\I g (aC .i64 s.1 1,()) f)) (p.isSome=true/\p.isSome=true/\((ae p 4).isSome=true/\0<=aD .i64 x/\aD .i64 x<(↑17:Int))/\aj w1 none (ae (ae p 4)
 ((aD .i64 x).toNat*1)) jW λj=> ∃(I:Nat->Unit->A1->Prop),(∃n, ∀t,Ext w1 t->I n () t)/\ ∀(n:Nat) (s:Unit) (w1:A1),I n s w1->Bk j 1 w1 λe=> ∃u,Mv w1 e u/\aF (decide ((↑u:Int)>0)) (aB A2 207 (.el aT) [ah j] w1 λ(q:Int) d=>aB A2 206 (.bH []) [ah p,aa (aD .i64 x),aa q] d λx d=> ∀f,Ext d f-> ∃(g:Nat),g<n/\I g () f) (cb p 2 w1 λq=>aB A2 208 (.el aT) [ah q,aa (aD .i64 x)] w1 λ(G:Int)
 d=>cb p 3 d λA=>aB A2 209 (.el aT) [ah A,aa (aD .i64 x)] d λ(H:Int) d=>cb j 0 d λB=>aB A2 210 (.el jD) [ah B] d λJ d=>cb p 1 d λC=>aB A2 205 (.el jD) [ah C,aa (aD .i64 x)] d λo d=> ∃(I:Nat->Int×Int×Unit->A1->Prop),(∃n, ∀w1,Ext d w1->I n (0,0,()) w1)/\ ∀(n:Nat) (s:Int×Int×Unit) (w1:A1),I n s w1->aF (decide (s.2.1<(↑o.2.1:Int))) ((o.1.isSome=true/\0<=s.2.1/\s.2.1<(↑o.2.1:Int))/\aQ w1
 (ae o.1 (B2 s.2.1*1)) λy=>cb p 1 w1 λD=> ∃(h:(Int×Int×Int×Int×Unit)×Bool×Unit),ag A2 32 [ah D,aa y] w1 (.tuple {toList:=[.agg ⟨[aa h.1.1,aa h.1.2.1,aa h.1.2.2.1,aa h.1.2.2.2.1]⟩,.bool h.2.1]})/\aA w1 ⟨[aa 0,aa 0,aa 0,aa 0]⟩ 79 λb d=>aw d (ad b) [aa h.1.1,aa h.1.2.1,aa h.1.2.2.1,aa h.1.2.2.2.1] λd=>true=true/\aQ d (ae (ad b) 0) λE=>aF (E==4) (cb p 1
 d λF=>aB A2 211 (.el aT) [ah F,aa y,aa 5,aa (aD .i64 x)] d λ(x:Int) d=> ∀f,Ext d f-> ∃(g:Nat),g<n/\I g (aC .i64 s.1 1,aC .i64 s.2.1 1,()) f) (∀f,Ext d f-> ∃(g:Nat),g<n/\I g (s.1,aC .i64 s.2.1 1,()) f)) (p.isSome=true/\p.isSome=true/\((ae p 4).isSome=true/\0<=aD .i64 x/\aD .i64 x<(↑17:Int))/\aw w1 (ae (ae p 4) ((aD .i64 x).toNat*1)) [ah none] λd=>aw d (ad i) [aq (aD .u64 s.1),aa 0] λd=>ak d λw1
 =>aj w1 none (ad i) aY λ(x:Int×Int×Unit)=>l (x.1,x.2.1,()) w1))))):=by kernel_rfl
def mI:Nat->aV:=(λ|3=>[(7,Go.RX.El.one (Go.RX.Sc.int AX)),(14,Go.RX.El.one (Go.RX.Sc.int AX))]| _=>[])
theorem CC (p:Option A3) (v k a b c:Int) (w:A1) (g:RS->A1->Prop):(bO V0 mI 126 [ah p,aa v,.agg ⟨[aa k,aq a,aq b,aq c]⟩] w g)=(
 aA w ⟨[aa k,aq a,aq b,aq c]⟩ 34 λb d=>aA d ⟨[aq 0,aa 0]⟩ 38 λb d=>cb p 1 d λx=> ∃(h:Int),ag A2 78 [ah x] d (aa h)/\ ∃(I:Nat->Int×Int×Unit->A1->Prop),(∃n, ∀w1,Ext d w1->I n (0,0,()) w1)/\ ∀(n:Nat) (s:Int×Int×Unit) (w1:A1),I n s w1->aF (decide (s.2.1<h)) (aB A2 212 (.el aT) [ah p,aa s.2.1] w1 λ(x:Int) d=>aF (x==0) (∀e,Ext d e-> ∃(f:Nat),f<n/\I f (aC .i64 s.1 1,aC .i64 s.2.1 1,()) e)
 (∀e,Ext d e-> ∃(f:Nat),f<n/\I f (s.1,aC .i64 s.2.1 1,()) e)) (aw w1 (ad b) [aq (aD .u64 s.1),aa 0] λd=>ak d λw1=>aj w1 none (ad b) aY λ(x:Int×Int×Unit)=>g (x.1,x.2.1,()) w1)):=by kernel_rfl
def lH:Nat->aV:=(λ|13=>[(66,Go.RX.El.one (Go.RX.Sc.int AX))]| _=>[])
theorem AT (p:Option A3) (v k a b c:Int) (w:A1) (f:RS->A1->Prop):(bO V0 lH 127 [ah p,aa v,.agg ⟨[aa k,aq a,aq b,aq c]⟩] w f)=(
 aA w ⟨[aa k,aq a,aq b,aq c]⟩ 34 λb d=>aA d ⟨[aq 0,aa 0]⟩ 38 λe d=>true=true/\cg d (ae (ad b) 1) λx=>aF (decide (x>=65536)) (True/\aw d (ad e) [aq 0,aa 2] λd=>ak d λw1=>aj w1 none (ad e) aY λ(x:Int×Int×Unit)=>f (x.1,x.2.1,()) w1) (true=true/\cg d (ae (ad b) 2) λx=>((!decide (x<1))=true->true=true)/\aj d (some !decide (x<1)) (ae (ad b) 2) oT λ(l:Int)=>aF (decide (x<1)||decide (l>7)) (True/\aw d (ad e)
 [aq 0,aa 7] λd=>ak d λw1=>aj w1 none (ad e) aY λ(x:Int×Int×Unit)=>f (x.1,x.2.1,()) w1) (cb p 1 d λx=>aB A2 213 (.bH [.one (.int .i64),.one (.int .i64)]) [ah x,aa 4,aa v] d λ(x:Int×Int×Unit) d=>aF (x.2.1 != 0) (True/\aw d (ad e) [aq 0,aa x.2.1] λd=>ak d λw1=>aj w1 none (ad e) aY λ(x:Int×Int×Unit)=>f (x.1,x.2.1,()) w1) (p.isSome=true/\p.isSome=true/\((ae p 4).isSome=true/\0<=v/\v<(↑17:Int))/\fQ d (ae
 (ae p 4) (v.toNat*1)) λm=>cb m 0 d λo=>true=true/\cg d (ae (ad b) 1) λq=>true=true/\cg d (ae (ad b) 2) λr=>aB A2 214 (.el aT) [ah o,aa (aD .i64 q),aa x.1,aa (aD .i64 r)] d λ(h:Int) d=>aF (h != 0) (cb p 1 d λg=>aB A2 215 (.el aT) [ah g,aa x.1] d λ(x:Int) d=>True/\aw d (ad e) [aq 0,aa h] λd=>ak d λw1=>aj w1 none (ad e) aY λ(x:Int×Int×Unit)=>f (x.1,x.2.1,()) w1) (∃(I:
 Nat->Int×Unit->A1->Prop),(∃n, ∀w1,Ext d w1->I n (0,()) w1)/\ ∀(n:Nat) (s:Int×Unit) (w1:A1),I n s w1->aF (decide (s.1<16)) (cb p 0 w1 λg=>aB A2 216 (.el aT) [ah g,aa (aC .i64 (dO .i64 16 x.1) s.1),aq 0] w1 λ(x:Int) d=> ∀i,Ext d i-> ∃(j:Nat),j<n/\I j (aC .i64 s.1 1,()) i) (aw w1 (ad e) [aq (aD .u64 x.1),aa 0] λd=>ak d λw1=>aj w1 none (ad e) aY λ(x:Int×Int×Unit)=>f (x.1,x.2.1,()) w1)))))):=by kernel_rfl
theorem yS (p:Option A3) (v k a b c:Int) (w:A1) (g:RS->A1->Prop):(bO V0 (λ_=>[]) 128 [ah p,aa v,.agg ⟨[aa k,aq a,aq b,aq c]⟩] w g)=(
 aA w ⟨[aa k,aq a,aq b,aq c]⟩ 34 λb d=>aA d ⟨[aq 0,aa 0]⟩ 38 λe d=>true=true/\cg d (ae (ad b) 1) λx=>aF (decide (x>=65536)) (True/\aw d (ad e) [aq 0,aa 2] λd=>ak d λw1=>aj w1 none (ad e) aY λ(x:Int×Int×Unit)=>g (x.1,x.2.1,()) w1) (true=true/\cg d (ae (ad b) 1) λx=>aB A2 22 (.bH [.one (.int .i64),.one (.int .i64),.one (.int .i64)]) [ah p,aa v,aa (aD .i64 x)] d λ(h:Int×Int×Int×Unit) d=>aF
 (h.2.2.1 != 0) (True/\aw d (ad e) [aq 0,aa h.2.2.1] λd=>ak d λw1=>aj w1 none (ad e) aY λ(x:Int×Int×Unit)=>g (x.1,x.2.1,()) w1) (∃(i:Int×Bool×Unit),ag A2 24 [ah p,aa v,aa (aD .i64 x)] d (.tuple ⟨[aa i.1,.bool i.2.1]⟩)/\aF i.2.1 (True/\aw d (ad e) [aq 0,aa 7] λd=>ak d λw1=>aj w1 none (ad e) aY λ(x:Int×Int×Unit)=>g (x.1,x.2.1,()) w1) (cb p 1 d λj=> ∃(f:(Int×Int×Int×Int×Unit)×Bool×
 Unit),ag A2 32 [ah j,aa h.1] d (.tuple {toList:=[.agg ⟨[aa f.1.1,aa f.1.2.1,aa f.1.2.2.1,aa f.1.2.2.2.1]⟩,.bool f.2.1]})/\aA d ⟨[aa 0,aa 0,aa 0,aa 0]⟩ 79 λb d=>aw d (ad b) [aa f.1.1,aa f.1.2.1,aa f.1.2.2.1,aa f.1.2.2.2.1] λd=>true=true/\aQ d (ae (ad b) 2) λl=>aF (decide (l>0)) (True/\aw d (ad e) [aq 0,aa 9] λd=>ak d λw1=>aj w1 none (ad e) aY λ(x:Int×Int×Unit)=>
 g (x.1,x.2.1,()) w1) (p.isSome=true/\p.isSome=true/\((ae p 4).isSome=true/\0<=v/\v<(↑17:Int))/\fQ d (ae (ae p 4) (v.toNat*1)) λm=>cb m 0 d λn=>aB A2 217 (.bH [.one (.int .i64),.one (.int .i64)]) [ah n,aa (aD .i64 x)] d λ(x:Int×Int×Unit) d=>cb p 1 d λx=>aB A2 211 (.el aT) [ah x,aa h.1,aa 5,aa v] d λ(x:Int) d=>aw d (ad e) [aq (aD .u64 h.1),aa 0] λd=>ak d λw1=>aj w1 none (ad e) aY λ(x:Int×
 Int×Unit)=>g (x.1,x.2.1,()) w1))))):=by kernel_rfl
theorem yT (p:Option A3) (v k a b c:Int) (w:A1) (g:RS->A1->Prop):(bO V0 (λ_=>[]) 129 [ah p,aa v,.agg ⟨[aa k,aq a,aq b,aq c]⟩] w g)=(
 aA w ⟨[aa k,aq a,aq b,aq c]⟩ 34 λb d=>aA d ⟨[aq 0,aa 0]⟩ 38 λf d=>true=true/\cg d (ae (ad b) 1) λx=>aF (decide (x>=65536)) (True/\aw d (ad f) [aq 0,aa 2] λd=>ak d λw1=>aj w1 none (ad f) aY λ(x:Int×Int×Unit)=>g (x.1,x.2.1,()) w1) (true=true/\cg d (ae (ad b) 2) λx=>((!decide (x<1))=true->true=true)/\aj d (some !decide (x<1)) (ae (ad b) 2) oT λ(l:Int)=>aF (decide (x<1)||decide (l>7)) (True/\aw d (ad f)
 [aq 0,aa 7] λd=>ak d λw1=>aj w1 none (ad f) aY λ(x:Int×Int×Unit)=>g (x.1,x.2.1,()) w1) (true=true/\cg d (ae (ad b) 1) λx=> ∃(h:Int×Bool×Unit),ag A2 24 [ah p,aa v,aa (aD .i64 x)] d (.tuple ⟨[aa h.1,.bool h.2.1]⟩)/\(h.2.1=true->true=true)/\aj d (some h.2.1) (ae (ad b) 2) oT λ(x:Int)=>aF (h.2.1&&decide (lY .u64 x 2>0)) (cb p 2 d λx=> ∃(e:(Int×Int×Int×Bool×Int×Unit)×Bool×Unit),ag A2 218 [ah x,
 aa h.1] d (.tuple {toList:=[.agg ⟨[aa e.1.1,aa e.1.2.1,aa e.1.2.2.1,.bool e.1.2.2.2.1,aa e.1.2.2.2.2.1]⟩,.bool e.2.1]})/\aA d ⟨[aa 0,aa 0,aa 0,.bool false,aa 0]⟩ 308 λj d=>aw d (ad j) [aa e.1.1,aa e.1.2.1,aa e.1.2.2.1,.bool e.1.2.2.2.1,aa e.1.2.2.2.2.1] λd=>true=true/\jE d (ae (ad j) 3) λx=>aF (!x) (True/\aw d (ad f) [aq 0,aa 7] λd=>ak d λw1=>aj w1 none (ad f) aY λ(x:Int×Int×
 Unit)=>g (x.1,x.2.1,()) w1) (p.isSome=true/\p.isSome=true/\((ae p 4).isSome=true/\0<=v/\v<(↑17:Int))/\fQ d (ae (ae p 4) (v.toNat*1)) λx=>cb x 0 d λx=>true=true/\cg d (ae (ad b) 1) λi=>true=true/\cg d (ae (ad b) 2) λm=>aB A2 219 (.el aT) [ah x,aa (aD .i64 i),aa (aD .i64 m)] d λ(x:Int) d=>True/\aw d (ad f) [aq 0,aa x] λd=>ak d λw1=>aj w1 none (ad f) aY λ(x:Int×Int×Unit)=>g (x.1,x.2.1,()) w1))
 (p.isSome=true/\p.isSome=true/\((ae p 4).isSome=true/\0<=v/\v<(↑17:Int))/\fQ d (ae (ae p 4) (v.toNat*1)) λx=>cb x 0 d λx=>true=true/\cg d (ae (ad b) 1) λe=>true=true/\cg d (ae (ad b) 2) λi=>aB A2 219 (.el aT) [ah x,aa (aD .i64 e),aa (aD .i64 i)] d λ(x:Int) d=>True/\aw d (ad f) [aq 0,aa x] λd=>ak d λw1=>aj w1 none (ad f) aY λ(x:Int×Int×Unit)=>g (x.1,x.2.1,()) w1)))):=by kernel_rfl
theorem Gf (p:Option A3) (v k a b c:Int) (w:A1) (f:RS->A1->Prop):(bO V0 (λ_=>[]) 130 [ah p,aa v,.agg ⟨[aa k,aq a,aq b,aq c]⟩] w f)=(
 aA w ⟨[aa k,aq a,aq b,aq c]⟩ 34 λb d=>aA d ⟨[aq 0,aa 0]⟩ 38 λe d=>true=true/\cg d (ae (ad b) 1) λx=>aB A2 220 (.bH [.one (.int .i64),.one (.int .i64)]) [ah p,aa v,aq x,aa 1] d λ(x:Int×Int×Unit) d=>aF (x.2.1 != 0) (True/\aw d (ad e) [aq 0,aa x.2.1] λd=>ak d λw1=>aj w1 none (ad e) aY λ(x:Int×Int×Unit)=>f (x.1,x.2.1,()) w1) (cb p 0 d λg=>aB A2 221 (.bH [.one (.int .u64),.one (.int
 .i64)]) [ah g,aa x.1] d λ(x:Int×Int×Unit) d=>aw d (ad e) [aq x.1,aa x.2.1] λd=>ak d λw1=>aj w1 none (ad e) aY λ(x:Int×Int×Unit)=>f (x.1,x.2.1,()) w1)):=by kernel_rfl
theorem CD (p:Option A3) (v k a b c:Int) (w:A1) (f:RS->A1->Prop):(bO V0 (λ_=>[]) 131 [ah p,aa v,.agg ⟨[aa k,aq a,aq b,aq c]⟩] w f)=(
 aA w ⟨[aa k,aq a,aq b,aq c]⟩ 34 λb d=>aA d ⟨[aq 0,aa 0]⟩ 38 λe d=>true=true/\cg d (ae (ad b) 1) λx=>aB A2 220 (.bH [.one (.int .i64),.one (.int .i64)]) [ah p,aa v,aq x,aa 2] d λ(x:Int×Int×Unit) d=>aF (x.2.1 != 0) (True/\aw d (ad e) [aq 0,aa x.2.1] λd=>ak d λw1=>aj w1 none (ad e) aY λ(x:Int×Int×Unit)=>f (x.1,x.2.1,()) w1) (cb p 0 d λg=>true=true/\cg d (ae (ad b) 2) λh=>aB
 A2 216 (.el aT) [ah g,aa x.1,aq h] d λ(x:Int) d=>True/\aw d (ad e) [aq 0,aa x] λd=>ak d λw1=>aj w1 none (ad e) aY λ(x:Int×Int×Unit)=>f (x.1,x.2.1,()) w1)):=by kernel_rfl
theorem CE (p:Option A3) (v k a b c:Int) (w:A1) (f:RS->A1->Prop):(bO V0 (λ_=>[]) 132 [ah p,aa v,.agg ⟨[aa k,aq a,aq b,aq c]⟩] w f)=(
 aA w ⟨[aa k,aq a,aq b,aq c]⟩ 34 λb d=>aA d ⟨[aq 0,aa 0]⟩ 38 λe d=>true=true/\cg d (ae (ad b) 2) λx=> ∃(g:Int),ag A2 222 [ah p,aa v,aq x] d (aa g)/\true=true/\cg d (ae (ad b) 1) λx=>aF (decide (x>=65536)) (True/\aw d (ad e) [aq 0,aa 2] λd=>ak d λw1=>aj w1 none (ad e) aY λ(x:Int×Int×Unit)=>f (x.1,x.2.1,()) w1) (((!g==1)=true->true=true)/\aj d (some !g==1) (ae (ad b) 3) oT
 λ(x:Int)=>aF (g==1||decide (x>1)) (True/\aw d (ad e) [aq 0,aa 1] λd=>ak d λw1=>aj w1 none (ad e) aY λ(x:Int×Int×Unit)=>f (x.1,x.2.1,()) w1) (true=true/\cg d (ae (ad b) 1) λx=>aB A2 22 (.bH [.one (.int .i64),.one (.int .i64),.one (.int .i64)]) [ah p,aa v,aa (aD .i64 x)] d λ(x:Int×Int×Int×Unit) d=>aF (x.2.2.1 != 0||g != 0) (True/\aw d (ad e) [aq 0,aa 4] λd=>ak d λw1=>aj w1 none (ad e) aY λ(x:Int×Int×
 Unit)=>f (x.1,x.2.1,()) w1) (true=true/\cg d (ae (ad b) 1) λx=> ∃(h:Int×Bool×Unit),ag A2 24 [ah p,aa v,aa (aD .i64 x)] d (.tuple ⟨[aa h.1,.bool h.2.1]⟩)/\aF h.2.1 (True/\aw d (ad e) [aq 0,aa 7] λd=>ak d λw1=>aj w1 none (ad e) aY λ(x:Int×Int×Unit)=>f (x.1,x.2.1,()) w1) (cb p 2 d λx=>true=true/\cg d (ae (ad b) 1) λi=>true=true/\cg d (ae (ad b) 2) λj=>true=true/\cg d (ae (ad b) 3) λl=>aB
 A2 223 (.bH [.one (.int .i64),.one (.int .i64)]) [ah x,aa v,aa (aD .i64 i),aa (aD .i64 j),.bool (l==1)] d λ(x:Int×Int×Unit) d=>aw d (ad e) [aq (aD .u64 x.1),aa x.2.1] λd=>ak d λw1=>aj w1 none (ad e) aY λ(x:Int×Int×Unit)=>f (x.1,x.2.1,()) w1))))):=by kernel_rfl
theorem Gg (p:Option A3) (v k a b c:Int) (w:A1) (f:RS->A1->Prop):(bO V0 (λ_=>[]) 133 [ah p,aa v,.agg ⟨[aa k,aq a,aq b,aq c]⟩] w f)=(
 aA w ⟨[aa k,aq a,aq b,aq c]⟩ 34 λb d=>aA d ⟨[aq 0,aa 0]⟩ 38 λe d=>true=true/\cg d (ae (ad b) 2) λx=>aF (decide (x>=65536)) (True/\aw d (ad e) [aq 0,aa 2] λd=>ak d λw1=>aj w1 none (ad e) aY λ(x:Int×Int×Unit)=>f (x.1,x.2.1,()) w1) (true=true/\cg d (ae (ad b) 1) λx=>((!decide (x>=16))=true->true=true)/\aj d (some !decide (x>=16)) (ae (ad b) 3) oT λ(A:Int)=>aF (decide (x>=16)||decide (A>1)) (True/\aw d (ad
 e) [aq 0,aa 1] λd=>ak d λw1=>aj w1 none (ad e) aY λ(x:Int×Int×Unit)=>f (x.1,x.2.1,()) w1) (true=true/\cg d (ae (ad b) 1) λx=>true=true/\cg d (ae (ad b) 2) λn=>true=true/\cg d (ae (ad b) 3) λj=>cb p 2 d λB=> ∃(g:(Int×Int×Int×Bool×Int×Unit)×Bool×Unit),ag A2 218 [ah B,aa (aD .i64 x)] d (.tuple {toList:=[.agg ⟨[aa g.1.1,aa g.1.2.1,aa g.1.2.2.1,.bool g.1.2.2.2.1,aa g.1.2.2.2.2.1]⟩,.bool
 g.2.1]})/\aA d ⟨[aa 0,aa 0,aa 0,.bool false,aa 0]⟩ 308 λb d=>aw d (ad b) [aa g.1.1,aa g.1.2.1,aa g.1.2.2.1,.bool g.1.2.2.2.1,aa g.1.2.2.2.2.1] λd=>aF (!g.2.1) (True/\aw d (ad e) [aq 0,aa 4] λd=>ak d λw1=>aj w1 none (ad e) aY λ(x:Int×Int×Unit)=>f (x.1,x.2.1,()) w1) (true=true/\aQ d (ae (ad b) 2) λo=>((!o != v&&j==1)=true->true=true)/\aj d (some (!o != v&&j==1)) (ae (ad b) 3) nk λC=>aF
 (o != v||j==1&& !C) (True/\aw d (ad e) [aq 0,aa 7] λd=>ak d λw1=>aj w1 none (ad e) aY λ(x:Int×Int×Unit)=>f (x.1,x.2.1,()) w1) (true=true/\aQ d (ae (ad b) 0) λD=>true=true/\aQ d (ae (ad b) 1) λE=>aB A2 22 (.bH [.one (.int .i64),.one (.int .i64),.one (.int .i64)]) [ah p,aa D,aa E] d λ(h:Int×Int×Int×Unit) d=>aF (h.2.2.1 != 0) (True/\aw d (ad e) [aq 0,aa 4] λd=>ak d λw1=>aj w1 none (ad e) aY λ
 (x:Int×Int×Unit)=>f (x.1,x.2.1,()) w1) (true=true/\aQ d (ae (ad b) 0) λF=>true=true/\aQ d (ae (ad b) 1) λG=> ∃(q:Int×Bool×Unit),ag A2 24 [ah p,aa F,aa G] d (.tuple ⟨[aa q.1,.bool q.2.1]⟩)/\aF q.2.1 (True/\aw d (ad e) [aq 0,aa 7] λd=>ak d λw1=>aj w1 none (ad e) aY λ(x:Int×Int×Unit)=>f (x.1,x.2.1,()) w1) (cb p 2 d λH=>aB A2 224 (.el aT) [ah H,aa (aD .i64 x),aa v,
 .bool (j==1)] d λ(z:Int) d=>aF (z != 0) (True/\aw d (ad e) [aq 0,aa z] λd=>ak d λw1=>aj w1 none (ad e) aY λ(x:Int×Int×Unit)=>f (x.1,x.2.1,()) w1) (aF (j==1) (p.isSome=true/\p.isSome=true/\((ae p 4).isSome=true/\0<=v/\v<(↑17:Int))/\fQ d (ae (ae p 4) (v.toNat*1)) λs=>cb s 0 d λt=>aB A2 214 (.el aT) [ah t,aa (aD .i64 n),aa h.1,aa (Pz .i64 1 2)] d λ(l:Int) d=>aF (l != 0) (cb p 2 d λi
 =>aB A2 225 (.el aT) [ah i,aa (aD .i64 x),aa v] d λ(x:Int) d=>True/\aw d (ad e) [aq 0,aa l] λd=>ak d λw1=>aj w1 none (ad e) aY λ(x:Int×Int×Unit)=>f (x.1,x.2.1,()) w1) (cb p 1 d λi=>aB A2 226 (.el aT) [ah i,aa h.1,aa 1] d λ(I:Int) d=>p.isSome=true/\p.isSome=true/\((ae p 4).isSome=true/\0<=v/\v<(↑17:Int))/\fQ d (ae (ae p 4) (v.toNat*1)) λu=>Bk u 1 d λy=> ∀w1,Ext d w1-> ∃(r
 :Nat), ∃(es:Array AC), ∃(m:Nat),y=some r/\bE w1 r es m/\gz w1 r .i64 (aD .i64 n) (.agg ⟨[aa (aD .i64 x),aa h.1]⟩) es m λd=>aw d (ad e) [aq 0,aa 0] λd=>ak d λw1=>aj w1 none (ad e) aY λ(x:Int×Int×Unit)=>f (x.1,x.2.1,()) w1)) (p.isSome=true/\p.isSome=true/\((ae p 4).isSome=true/\0<=v/\v<(↑17:Int))/\fQ d (ae (ae p 4) (v.toNat*1)) λs=>cb s 0 d λt=>aB A2 214 (.el aT) [ah t,aa (aD .i64 n),
 aa h.1,aa 1] d λ(l:Int) d=>aF (l != 0) (cb p 2 d λi=>aB A2 225 (.el aT) [ah i,aa (aD .i64 x),aa v] d λ(x:Int) d=>True/\aw d (ad e) [aq 0,aa l] λd=>ak d λw1=>aj w1 none (ad e) aY λ(x:Int×Int×Unit)=>f (x.1,x.2.1,()) w1) (cb p 1 d λi=>aB A2 226 (.el aT) [ah i,aa h.1,aa 1] d λ(I:Int) d=>p.isSome=true/\p.isSome=true/\((ae p 4).isSome=true/\0<=v/\v<(↑17:Int))/\fQ
 d (ae (ae p 4) (v.toNat*1)) λu=>Bk u 1 d λy=> ∀w1,Ext d w1-> ∃(r:Nat), ∃(es:Array AC), ∃(m:Nat),y=some r/\bE w1 r es m/\gz w1 r .i64 (aD .i64 n) (.agg ⟨[aa (aD .i64 x),aa h.1]⟩) es m λd=>aw d (ad e) [aq 0,aa 0] λd=>ak d λw1=>aj w1 none (ad e) aY λ(x:Int×Int×Unit)=>f (x.1,x.2.1,()) w1)))))))))):=by kernel_rfl
theorem Gj (p:Option A3) (v k a b c:Int) (w:A1) (f:RS->A1->Prop):(bO V0 (λ_=>[]) 134 [ah p,aa v,.agg ⟨[aa k,aq a,aq b,aq c]⟩] w f)=(
 aA w ⟨[aa k,aq a,aq b,aq c]⟩ 34 λb d=>aA d ⟨[aq 0,aa 0]⟩ 38 λe d=>true=true/\cg d (ae (ad b) 1) λx=>aF (decide (x>=65536)) (True/\aw d (ad e) [aq 0,aa 2] λd=>ak d λw1=>aj w1 none (ad e) aY λ(x:Int×Int×Unit)=>f (x.1,x.2.1,()) w1) (true=true/\cg d (ae (ad b) 1) λx=> ∃(g:Int×Bool×Unit),ag A2 24 [ah p,aa v,aa (aD .i64 x)] d (.tuple ⟨[aa g.1,.bool g.2.1]⟩)/\aF (!g.2.1) (True/\aw d
 (ad e) [aq 0,aa 4] λd=>ak d λw1=>aj w1 none (ad e) aY λ(x:Int×Int×Unit)=>f (x.1,x.2.1,()) w1) (true=true/\cg d (ae (ad b) 1) λx=>aB A2 206 (.bH []) [ah p,aa v,aa (aD .i64 x)] d λx d=>aw d (ad e) [aq 0,aa 0] λd=>ak d λw1=>aj w1 none (ad e) aY λ(x:Int×Int×Unit)=>f (x.1,x.2.1,()) w1))):=by kernel_rfl
theorem AU (p:Option A3) (v k a b c:Int) (w:A1) (f:RS->A1->Prop):(bO V0 (λ_=>[]) 135 [ah p,aa v,.agg ⟨[aa k,aq a,aq b,aq c]⟩] w f)=(
 aA w ⟨[aa k,aq a,aq b,aq c]⟩ 34 λb d=>aA d ⟨[aq 0,aa 0]⟩ 38 λe d=>true=true/\cg d (ae (ad b) 1) λx=>aF (decide (x>=16)) (True/\aw d (ad e) [aq 0,aa 1] λd=>ak d λw1=>aj w1 none (ad e) aY λ(x:Int×Int×Unit)=>f (x.1,x.2.1,()) w1) (cb p 2 d λx=>true=true/\cg d (ae (ad b) 1) λg=>aB A2 227 (.el aT) [ah x,aa (aD .i64 g),aa v] d λ(x:Int) d=>True/\aw d (ad e) [aq 0,aa x]
 λd=>ak d λw1=>aj w1 none (ad e) aY λ(x:Int×Int×Unit)=>f (x.1,x.2.1,()) w1)):=by kernel_rfl
theorem Gl (p:Option A3) (v k a b c:Int) (w:A1) (f:RS->A1->Prop):(bO V0 (λ_=>[]) 136 [ah p,aa v,.agg ⟨[aa k,aq a,aq b,aq c]⟩] w f)=(
 aA w ⟨[aa k,aq a,aq b,aq c]⟩ 34 λb d=>aA d ⟨[aq 0,aa 0]⟩ 38 λe d=>true=true/\cg d (ae (ad b) 1) λx=> ∃(g:Int),ag A2 222 [ah p,aa v,aq x] d (aa g)/\aF (g != 0) (True/\aw d (ad e) [aq 0,aa g] λd=>ak d λw1=>aj w1 none (ad e) aY λ(x:Int×Int×Unit)=>f (x.1,x.2.1,()) w1) (cb p 3 d λx=>true=true/\cg d (ae (ad b) 1) λh=>aB A2 228 (.bH [.one (.int .i64),.one (.int .i64)])
 [ah x,aa v,aa (aD .i64 h)] d λ(x:Int×Int×Unit) d=>aw d (ad e) [aq (aD .u64 x.1),aa x.2.1] λd=>ak d λw1=>aj w1 none (ad e) aY λ(x:Int×Int×Unit)=>f (x.1,x.2.1,()) w1)):=by kernel_rfl
theorem Gm (p:Option A3) (v k a b c:Int) (w:A1) (g:RS->A1->Prop):(bO V0 (λ_=>[]) 137 [ah p,aa v,.agg ⟨[aa k,aq a,aq b,aq c]⟩] w g)=(
 aA w ⟨[aa k,aq a,aq b,aq c]⟩ 34 λb d=>aA d ⟨[aq 0,aa 0]⟩ 38 λe d=>true=true/\cg d (ae (ad b) 1) λx=> ∃(f:Int),ag A2 222 [ah p,aa v,aq x] d (aa f)/\((!f==1)=true->true=true)/\aj d (some !f==1) (ae (ad b) 2) oT λ(x:Int)=>aF (f==1||decide (x>=4)) (True/\aw d (ad e) [aq 0,aa 1] λd=>ak d λw1=>aj w1 none (ad e) aY λ(x:Int×Int×Unit)=>g (x.1,x.2.1,()) w1) (aF (f != 0) (True/\
 aw d (ad e) [aq 0,aa f] λd=>ak d λw1=>aj w1 none (ad e) aY λ(x:Int×Int×Unit)=>g (x.1,x.2.1,()) w1) (cb p 3 d λx=>true=true/\cg d (ae (ad b) 1) λh=>true=true/\cg d (ae (ad b) 2) λi=>aB A2 229 (.bH [.one (.int .i64),.one (.int .i64)]) [ah x,aa v,aa (aD .i64 h),aa (aD .i64 i)] d λ(x:Int×Int×Unit) d=>aw d (ad e) [aq (aD .u64 x.1),aa x.2.1] λd=>ak d λw1=>aj w1 none (ad e) aY λ(x:Int×Int
 ×Unit)=>g (x.1,x.2.1,()) w1))):=by kernel_rfl
theorem Gn (p:Option A3) (v k a b c:Int) (w:A1) (f:RS->A1->Prop):(bO V0 (λ_=>[]) 138 [ah p,aa v,.agg ⟨[aa k,aq a,aq b,aq c]⟩] w f)=(
 aA w ⟨[aa k,aq a,aq b,aq c]⟩ 34 λb d=>aA d ⟨[aq 0,aa 0]⟩ 38 λe d=>true=true/\cg d (ae (ad b) 1) λx=>aF (decide (x>=4)) (True/\aw d (ad e) [aq 0,aa 1] λd=>ak d λw1=>aj w1 none (ad e) aY λ(x:Int×Int×Unit)=>f (x.1,x.2.1,()) w1) (cb p 3 d λx=>true=true/\cg d (ae (ad b) 1) λg=>aB A2 230 (.el aT) [ah x,aa v,aa (aD .i64 g)] d λ(x:Int) d=>True/\aw d (ad e) [aq 0,aa x] λ
 d=>ak d λw1=>aj w1 none (ad e) aY λ(x:Int×Int×Unit)=>f (x.1,x.2.1,()) w1)):=by kernel_rfl
theorem Gp (p:Option A3) (v k a b c:Int) (w:A1) (e:RS->A1->Prop):(bO V0 (λ_=>[]) 139 [ah p,aa v,.agg ⟨[aa k,aq a,aq b,aq c]⟩] w e)=(
 aA w ⟨[aa k,aq a,aq b,aq c]⟩ 34 λb d=>aA d ⟨[aq 0,aa 0]⟩ 38 λb d=>cb p 3 d λx=>aB A2 231 (.bH [.one (.int .i64),.one .bool]) [ah x,aa v] d λ(x:Int×Bool×Unit) d=>aF (!x.2.1) (aw d (ad b) [aq 0,aa 0] λd=>ak d λw1=>aj w1 none (ad b) aY λ(x:Int×Int×Unit)=>e (x.1,x.2.1,()) w1) (aw d (ad b) [aq (aD .u64 (aC .i64 x.1 1)),aa 0] λd=>ak d λw1=>aj w1 none (ad b) aY λ(x:Int×Int×Unit)=>e
 (x.1,x.2.1,()) w1)):=by kernel_rfl
theorem CF (p:Option A3) (v k a b c:Int) (w:A1) (f:RS->A1->Prop):(bO V0 (λ_=>[]) 140 [ah p,aa v,.agg ⟨[aa k,aq a,aq b,aq c]⟩] w f)=(
 aA w ⟨[aa k,aq a,aq b,aq c]⟩ 34 λb d=>aA d ⟨[aq 0,aa 0]⟩ 38 λe d=>true=true/\cg d (ae (ad b) 1) λx=>aF (decide (x>=4)) (True/\aw d (ad e) [aq 0,aa 1] λd=>ak d λw1=>aj w1 none (ad e) aY λ(x:Int×Int×Unit)=>f (x.1,x.2.1,()) w1) (cb p 3 d λx=>true=true/\cg d (ae (ad b) 1) λg=>aB A2 232 (.el aT) [ah x,aa v,aa (aD .i64 g)] d λ(x:Int) d=>True/\aw d (ad e) [aq 0,aa x] λ
 d=>ak d λw1=>aj w1 none (ad e) aY λ(x:Int×Int×Unit)=>f (x.1,x.2.1,()) w1)):=by kernel_rfl
theorem RU (p:Option A3) (v k a b c:Int) (w:A1) (g:RS->A1->Prop):(bO V1 (λ_=>[]) 9 [ah p,aa v,.agg ⟨[aa k,aq a,aq b,aq c]⟩] w g)=(
 aA w ⟨[aa k,aq a,aq b,aq c]⟩ 34 λb d=>aA d ⟨[aq 0,aa 0]⟩ 38 λe d=> ∃x,ag A2 61 [ah p] d (.bool x)/\aF (!x) (True/\aw d (ad e) [aq 0,aa 10] λd=>ak d λw1=>aj w1 none (ad e) aY λ(x:Int×Int×Unit)=>g (x.1,x.2.1,()) w1) (aj d (some !(decide (v<0)||decide (v>16))) (ad b) nm λ(x:Int×Int×Int×Int×Unit)=> ∃l,((!(decide (v<0)||decide (v>16)))=true->ag A2 29 [.agg ⟨[aa x.1,aq x.2.1,.int .u64
 x.2.2.1,aq x.2.2.2.1]⟩] d (.bool l))/\aF (decide (v<0)||decide (v>16)|| !l) (True/\aw d (ad e) [aq 0,aa 1] λd=>ak d λw1=>aj w1 none (ad e) aY λ(x:Int×Int×Unit)=>g (x.1,x.2.1,()) w1) (true=true/\aQ d (ae (ad b) 0) λx=> ∃m,ag A2 63 [aa x] d (.bool m)/\aF (!(v==0)==m) (True/\aw d (ad e) [aq 0,aa 7] λd=>ak d λw1=>aj w1 none (ad e) aY λ(x:Int×Int×Unit)=>g (x.1,x.2.1,()) w1) (∃x,(decide (v>0)=true->
 ag A2 18 [ah p,aa v] d (.bool x))/\aF (decide (v>0)&& !x) (True/\aw d (ad e) [aq 0,aa 4] λd=>ak d λw1=>aj w1 none (ad e) aY λ(x:Int×Int×Unit)=>g (x.1,x.2.1,()) w1) (true=true/\aQ d (ae (ad b) 0) λx=>aj d none (ad b) nm λ(f:Int×Int×Int×Int×Unit)=>(aB A2 64 (.el EG) [] d λj d=>cI d (ad b) nm f/\cI d (ae (ad b) 0) aT x/\True/\ ∃(h:A9),jg d j .i64 x HL h/\(A7 A2 h (.el aY) [ah p,.int
 .i64 v,.agg ⟨[aa f.1,aq f.2.1,aq f.2.2.1,aq f.2.2.2.1]⟩] d λ(x:Int×Int×Unit) d=>aA d ⟨[aq 0,aa 0]⟩ 38 λb d=>aw d (ad b) [aq x.1,aa x.2.1] λd=>true=true/\aQ d (ae (ad b) 1) λx=>aF (x != 0) (true=true/\aQ d (ae (ad b) 1) λx=>True/\aw d (ad e) [aq 0,aa x] λd=>ak d λw1=>aj w1 none (ad e) aY λ(x:Int×Int×Unit)=>g (x.1,x.2.1,()) w1) (aj d none (ad b) aY λ(x:Int×Int×Unit)=>aw d (ad e) [.int
 .u64 x.1,aa x.2.1] λd=>ak d λw1=>aj w1 none (ad e) aY λ(x:Int×Int×Unit)=>g (x.1,x.2.1,()) w1))/\aA d ⟨[aq 0,aa 0]⟩ 38 λb d=>A7 A2 h (.el aY) [ah p,aa v,.agg ⟨[aa f.1,aq f.2.1,aq f.2.2.1,aq f.2.2.2.1]⟩] d λ(x:Int×Int×Unit) d=>aw d (ad b) [aq x.1,aa x.2.1] λd=>true=true/\aQ d (ae (ad b) 1) λx=>aF (x != 0) (true=true/\aQ d (ae (ad b) 1) λx=>True/\aw d (ad e) [aq 0,aa x] λ
 d=>ak d λw1=>aj w1 none (ad e) aY λ(x:Int×Int×Unit)=>g (x.1,x.2.1,()) w1) (aj d none (ad b) aY λ(x:Int×Int×Unit)=>aw d (ad e) [aq x.1,aa x.2.1] λd=>ak d λw1=>aj w1 none (ad e) aY λ(x:Int×Int×Unit)=>g (x.1,x.2.1,()) w1))/\aA d ⟨[aq 0,aa 0]⟩ 38 λi d=>aB A2 64 (.el EG) [] d λj d=>cI d (ad b) nm f/\cI d (ae (ad b) 0) aT x/\True/\ ∃(h:A9),jg d j .i64 x HL h/\A7 A2 h (.el aY)
 [ah p,aa v,.agg ⟨[aa f.1,aq f.2.1,aq f.2.2.1,aq f.2.2.2.1]⟩] d λ(x:Int×Int×Unit) d=>aw d (ad i) [aq x.1,aa x.2.1] λd=>true=true/\aQ d (ae (ad i) 1) λx=>aF (x != 0) (true=true/\aQ d (ae (ad i) 1) λx=>True/\aw d (ad e) [aq 0,aa x] λd=>ak d λw1=>aj w1 none (ad e) aY λ(x:Int×Int×Unit)=>g (x.1,x.2.1,()) w1) (aj d none (ad i) aY λ(x:Int×Int×Unit)=>aw d (ad e) [aq x.1,aa x.2.1]
 λd=>ak d λw1=>aj w1 none (ad e) aY λ(x:Int×Int×Unit)=>g (x.1,x.2.1,()) w1)))))):=by kernel_rfl
theorem CG (p:Option A3) (a b:Int) (w:A1) (d:Bool->A1->Prop):(aJ V2 (λ_=>[]) 26 [ah p,aa a,aa b] w d)=(
 aA w ⟨[ah p]⟩ 23 λf c=>fQ c (ad f) λx=> ∃g,ag A2 61 [ah x] c (.bool g)/\aF (!g||decide (a<1)||decide (a>16)||decide (b<1)||decide (b>16)) (ak c (d false)) (aA c {toList:=[.bool false,.bool false,.bool false,.bool false,.bool false,.bool false,.bool false,.bool false,.bool false,.bool false,.bool false,.bool false,.bool false,.bool false,.bool false,.bool false,.bool false]} 182 λh c=>aA c ⟨[HL]⟩ 183 λe c=>aw c (ad e) [.func (.func 86) ⟨[]⟩ {toList:=[.pointer
 (ad h),ah (ad f),ah (ad e)]}] λc=>aj c none (ad e) (.one (.qq 86 3)) λx=>aB A2 86 (.bH []) [aa a,ah x.1,ah x.2.1,ah x.2.2.1] c λx c=>(true=true/\0<=b/\b<(↑17:Int))/\jE c (ae (ad h) (b.toNat*1)) λx=>ak c (d x))):=by kernel_rfl
def lI:Nat->aV:=(λ|2=>[(5,Go.RX.El.one (Go.RX.Sc.int AX))]| _=>[])
theorem AV (n:Int) (c d e:Option A3) (w:A1) (k:Unit->A1->Prop):(aJ V2 lI 86 [aa n,ah c,ah d,ah e] w k)=(
 (c.isSome=true/\0<=n/\n<(↑17:Int))/\aw w (ae c (n.toNat*1)) [.bool true] λg=> ∃(I:Nat->Int×Unit->A1->Prop),(∃n, ∀w1,Ext g w1->I n (1,()) w1)/\ ∀(h:Nat) (s:Int×Unit) (w1:A1),I h s w1->aF (decide (s.1<=16)) ((c.isSome=true/\0<=s.1/\s.1<(↑17:Int))/\jE w1 (ae c (B2 s.1*1)) λx=>aj w1 (some !x) d jW λi=>((!x)=true->i.isSome=true)/\((!x)=true->i.isSome=true)/\aj w1 (some !x) (ae i 2) jW λm=> ∃a,((!x)=true->ag A2 87 [ah m,aa n,.int
 .i64 s.1] w1 (.bool a))/\aj w1 (some (!x&& !a)) d jW λj=>((!x&& !a)=true->j.isSome=true)/\((!x&& !a)=true->j.isSome=true)/\aj w1 (some (!x&& !a)) (ae j 3) jW λo=> ∃l,((!x&& !a)=true->ag A2 88 [ah o,aa n,aa s.1] w1 (.bool l))/\aF (!x&&(a||l)) (aj w1 none e (.one (.qq 86 3)) λx=>aB A2 86 (.bH []) [aa s.1,ah x.1,ah x.2.1,ah x.2.2.1] w1 λx g=> ∀b,Ext g b-> ∃(f:Nat),f<h/\I f (aC .i64 s.1 1,()) b) (∀b,Ext w1 b
 -> ∃(f:Nat),f<h/\I f (aC .i64 s.1 1,()) b)) (ak w1 (k ()))):=by kernel_rfl
open Go.RX D
def px:Nat->Int->Int
 |0,p=>p
 |l+1,p=>px l p / 16
theorem Tq {p:Int} (h:0<=p/\p<65536):px 4 p=0:=by simp only[px];omega
theorem mT (p:Int) (l:Nat):px l p=16*px (l+1) p+px l p % 16:=by simp only[px];omega
theorem dR (p:Int) (l:Nat):0<=px l p % 16/\px l p % 16<16:=by omega
theorem RV {p:Int} (h:0<=p/\p<65536) {l:Nat} (a:l<=3):eB p (l:Int)=px l p % 16:=by
 unfold eB;rw[ax (by omega)];congr 1;rcases l with _| _| _| _|l
 ·show p / 1=p;omega
 ·rfl
 ·show p / 256=p / 16 / 16;omega
 ·show p / 4096=p / 16 / 16 / 16;omega
 ·omega
theorem nF {f p:Int} (b:0<=f/\f<4096) (h:0<=p/\p<65536) {l:Nat} (a:l<=3):dN f p (l:Int)=16*f+px l p % 16:=by
 unfold dN;rw[RV h a,ao (by omega)]
theorem mh:dP 0=zE:=by decide+kernel
theorem EJ:dv zE=false:=by decide
theorem CH (v:Int):aP (dP v).1 (dP v).2.1 (dP v).2.2.1 (dP v).2.2.2.1=true:=by
 unfold dP vY xI xJ vt;cases h:mK (B v).toNat with
 |false=>simp;decide
 |true=>
  unfold mK at h;simp only[K1] at h;simpa using h.2
theorem s7 {p:Bool} {r:Int} {l:Bool} {f:Int} (h:aP p r l f=true):dP (tu p r l f)=(p,r,l,f,()):=by
 have hb:=mu h;unfold tu;rw[ax h];obtain⟨k,h2,m,w,o⟩:=hb;obtain⟨r,rfl⟩:=Ix k;obtain⟨f,rfl⟩:=Ix m;have key: ∀n:Nat,lC p (r:Int) l (f:Int)=(n:Int)->n<18446744073709551616->(n % 2==1)=p->n / 2 % 8=r->(n / 16 % 2==1)=l->n / 32 % 128=0->n / 4096 % 4096=f->n / 16777216 % 1099511627776=0->dP (lC p (r:Int) l (f:Int))=(p,(r:Int),l,(f:Int),()):=by
  intro n e x d g i q j s;have t:(B (lC p (r:Int) l (f:Int))).toNat=n:=by rw[e,Da (by omega) (by omega)];omega
  have ok:mK n=true:=by
   unfold mK;rw[q,s,d,g,i,j,h];decide
  unfold dP vY xI xJ vt;rw[t,ok,d,g,i,j];simp
 cases p with
 |false=>
  obtain⟨a,b,c⟩:=o rfl;subst b;have u:r=0:=by omega
  have v:f=0:=by omega
  subst u;subst v;exact key 0 rfl (by decide) rfl rfl rfl rfl rfl rfl
 |true=>
  have y:nB l<=1:=zL l;refine key (1+2*r+16*nB l+4096*f) ?_ (by omega) ?_ (by omega) ?_ (by omega) (by omega) (by omega)
  ·unfold lC;have:nB true=1:=rfl;rw[this];omega
  ·have:(1+2*r+16*nB l+4096*f) % 2=1:=by omega
   rw[this];rfl
  ·have:(1+2*r+16*nB l+4096*f) / 16 % 2=nB l:=by omega
   rw[this];cases l<;>rfl
theorem lr (ws:List Int) (a:Int):aP (az ws a).1 (az ws a).2.1 (az ws a).2.2.1 (az ws a).2.2.2.1=true:=CH _
theorem dy {f:Int} (h:0<=f/\f<4096):dv (bP f)=true:=by
 unfold dv bP fa aP;simp;omega
theorem CI {f:Int} (h:0<=f/\f<4096):aP true 0 false f=true:=by
 unfold aP;simp;omega
theorem Lj {f:Int} (h:0<=f/\f<4096):dP (Hi (bP f))=bP f:=s7 (CI h)
theorem lc {ws:List Int} {i:Int} (h:0<=i) (h':i<ws.length):vu ws i=true:=gM.2 ⟨h,h'⟩
theorem s8 {ws:List Int} {a v:Int} (h:vu ws a=true):dB (cW ws a v) a=v:=by
 have hi:=gM.1 h;have h2:vu (cW ws a v) a=true:=gM.2 ⟨hi.1,by rw[cu];exact hi.2⟩;unfold dB;rw[ax h2];unfold cW;rw[ax h,Di,Bo (by omega)];rfl
theorem mi {ws:List Int} {a b v:Int} (h:a≠b):dB (cW ws a v) b=dB ws b:=by
 have e:vu (cW ws a v) b=vu ws b:=by unfold vu;rw[cu]
 unfold dB;rw[e];by_cases hb:vu ws b=true
 ·rw[ax hb,ax hb];unfold cW;split
  ·rename_i c;have d:=gM.1 c;have h2:=gM.1 hb;rw[Di,Di,B4 (by omega)]
  ·rfl
 ·rw[ao hb,ao hb]
theorem pA {ws:List Int} {f:Int} {G:Int->Int} (a:0<=f) (c:16*f+16<=ws.length): ∀n:Nat,n<=16-> ∀b,dB (dS ws f G n) b=if 16*f<=b/\b<16*f+(n:Int) then G (b - 16*f) else dB ws b
 |0, _,b=>by rw[ao (by omega)];rfl
 |n+1,d,b=>by
  rw[dS];by_cases e:16*f+(n:Int)=b
  ·subst e;rw[s8 (lc (by omega) (by rw[fM];omega)),ax (by omega)];congr 1;omega
  ·rw[mi e,pA a c n (by omega) b];by_cases h:16*f<=b/\b<16*f+(n:Int)
   ·rw[ax h,ax (by omega)]
   ·rw[ao h,ao (by omega)]
theorem Aq {ds:List DT} (h:0<cz ds 0): ∃i d,gx ds=some i/\i<ds.length/\ds[i]? =some d/\d.1=0:=by
 unfold cz at h;rw[List.countP_pos_iff] at h;obtain⟨a,e,h0⟩:=h;cases b:gx ds with
 |none=>
  unfold gx at b;rw[Ih] at b;have:=b a e;rw[this] at h0;cases h0
 |some i=>
  unfold gx at b;rw[Hb] at b;obtain⟨c,h2, _⟩:=b;exact⟨i,ds[i],rfl,c,Bq c,by simpa using h2⟩
theorem wX {o:Int} (h:1<=o/\o<=16):aE 3 o zD=((3,o,0,0,()),0):=by
 have e:dM 0 0 0 0 3 o=0:=by
  unfold dM;rw[ao (by decide),ao (by decide),ax (by decide),ao ?_];unfold cj fb;simp;omega
 unfold aE zD gS fZ;dsimp only;rw[e];simp
theorem rb {ds:List DT} {o:Int} (h:0<cz ds 0) (g: ∀d∈ds,d.1=0->d=zD) (c:1<=o/\o<=16): ∃i:Nat,i<ds.length/\ds[i]? =some zD/\dY ds 3 o=(i:Int)/\dk ds 3 o=0/\dD ds 3 o=ds.set i (3,o,0,0,()):=by
 obtain⟨i,d,a,h2,b,j⟩:=Aq h;have k:d=zD:=g d (Bp b) j;subst k;have e:ds.getD i zD=zD:=by rw[Di,b];rfl
 have f:rq ds (i:Int) (aE 3 o)=0:=by
  rw[ui (by omega)];show(aE 3 o (ds.getD i zD)).2=0;rw[e,wX c]
 have l:fC ds (i:Int) (aE 3 o)=ds.set i (3,o,0,0,()):=by
  rw[oh (by omega)];show(if(aE 3 o (ds.getD i zD)).2=0 then ds.set i (aE 3 o (ds.getD i zD)).1 else ds)= _;rw[e,wX c,ax rfl]
 refine⟨i,h2,b,?_,?_,?_⟩
 ·unfold dY;rw[a];dsimp only;rw[ax f]
 ·unfold dk;rw[ao (by omega),a];exact f
 ·unfold dD;rw[a];exact l
theorem s9 {ds:List DT} {i:Nat} {d d':DT} (h:ds[i]? =some d) (v:Int):cz (ds.set i d') v+(if d.1=v then 1 else 0)=cz ds v+(if d'.1=v then 1 else 0):=by
 have hi:i<ds.length:=(B3.1 h).1;have a:ds=ds.take i++d::ds.drop (i+1):=by
  have:=(IG i ds).symm;rw[HB hi,(B3.1 h).2] at this;exact this
 have b:ds.set i d'=ds.take i++d'::ds.drop (i+1):=by rw[List.set_eq_take_append_cons_drop,ax hi]
 unfold cz;rw[b]
 conv=>rhs;rw[a]
 simp only[List.countP_append,List.countP_cons];by_cases c:d.1=v<;>by_cases h2:d'.1=v<;>simp[c,h2]<;>omega
theorem Ar {o:Int} (h:1<=o/\o<=16):aE 5 0 (3,o,0,0,())=((5,o,0,0,()),0):=by
 have a:cj 3 o 0 0=true:=by unfold cj fb;simp;omega
 have b:cj 5 o 0 0=true:=by unfold cj fb;simp;omega
 have e:dM 3 o 0 0 5 0=0:=by
  unfold dM;rw[a,ao (by decide),ao (by decide),ax (by decide),ax rfl,b,ao (by decide)]
 unfold aE gS fZ;dsimp only;rw[e];simp
abbrev Gh:Type:=Int->Option (Int×Nat×Int)
def jF (g:Gh) (f:Int) (v:Option (Int×Nat×Int)):Gh:=λx=>if x=f then v else g x
theorem bu (g:Gh) (f:Int) (v:Option (Int×Nat×Int)):jF g f v f=v:=ax rfl
theorem aR {g:Gh} {f x:Int} (h:x≠f) (v:Option (Int×Nat×Int)):jF g f v x=g x:=ao h
def iE (l:Nat) (e:ET):Prop:=e.1=true->dv e=false->(l=0/\e.2.2.1=false)\/(l=1/\e.2.2.1=true/\e.2.2.2.1 % 16=0)
theorem zO (l:Nat):iE l zE:=λh=>by cases h
theorem UQ (l:Nat) {e:ET} (h:dv e=true):iE l e:=λ_ h'=>by rw[h] at h';cases h'
structure Inv (g:Gh) (s:WD):Prop where
 len:16*s.2.length<=s.1.length
 le:s.2.length<=4096
 fz: ∀d∈s.2,d.1=0->d=zD
 kd: ∀{f o l x},g f=some (o,l,x)->0<=f/\f<s.2.length/\s.2[f.toNat]? =some (3,o,0,0,())/\1<=o/\o<=16/\l<=3
 inj: ∀{f f' v},g f=some v->g f'=some v->f=f'
 oG: ∀{f o l x i},g f=some (o,l,x)->0<=i->i<16->dv (az s.1 (16*f+i))=true-> ∃m,l=m+1/\g (az s.1 (16*f+i)).2.2.2.1=some (o,m,16*x+i)
 leaf: ∀{f o l x i},g f=some (o,l,x)->0<=i->i<16->iE l (az s.1 (16*f+i))
 A4: ∀{f o l x},g f=some (o,l,x)->l<3-> ∃f',g f'=some (o,l+1,x / 16)/\az s.1 (16*f'+x % 16)=bP f
 wf: ∀{f o l x i},g f=some (o,l,x)->0<=i->i<16->(az s.1 (16*f+i)).1=false->dB s.1 (16*f+i)=0
 tb: ∀{n:Nat} {d},s.2[n]? =some d->d.1=3-> ∃v,g (n:Int)=some v
def dm (g:Gh) (s:WD) (o p f:Int) (j:Nat):Prop:=g f=some (o,j,px (j+1) p)/\dv (az s.1 (16*f+px j p % 16))=false
theorem ft {ws:List Int} {a v b:Int} (h:a≠b):az (cW ws a v) b=az ws b:=by unfold az;rw[mi h]
theorem uH {ws:List Int} {a v:Int} (h:vu ws a=true):az (cW ws a v) a=dP v:=by unfold az;rw[s8 h]
namespace Inv
variable {g:Gh} {s:WD}
theorem sS (I:Inv g s) {f o:Int} {l:Nat} {x:Int} (h:g f=some (o,l,x)):0<=f/\f<4096/\16*f+16<=s.1.length:=by
 have:=I.kd h;have:=I.len;have:=I.le;omega
theorem reach (I:Inv g s) {o r p:Int} (c:g r=some (o,3,0)) (b:0<=p/\p<65536): ∀(n:Nat) {f:Int} {j:Nat},j+n=3->g f=some (o,j,px (j+1) p)-> ∃a,cJ s.1 p 3 r=a++cJ s.1 p j f
 |0,f,j,i,h=>by
  have:j=3:=by omega
  subst this;rw[Tq b] at h;rw[I.inj h c];exact⟨[],rfl⟩
 |n+1,f,j,i,h=>by
  obtain⟨f',d,h2⟩:=I.A4 h (by omega);have k:g f'=some (o,j+1,px (j+1+1) p):=d;obtain⟨a,l⟩:=I.reach c b n (by omega) k;obtain⟨m,q, _⟩:=I.sS d;refine⟨a++[(f',((j+1:Nat):Int),dN f' p ((j+1:Nat):Int),())],?_⟩;have t:j+1<=3:=by omega
  have e:cJ s.1 p (j+1) f'=(f',((j+1:Nat):Int),dN f' p ((j+1:Nat):Int),())::cJ s.1 p j f:=by
   rw[cJ];congr 1;have u:az s.1 (dN f' p ((j+1:Nat):Int))=bP f:=by rw[nF ⟨m,q⟩ b t];exact h2
   obtain⟨v,w, _⟩:=I.sS h;rw[u,ax (dy ⟨v,w⟩)];rfl
  rw[l,e,E4];rfl
theorem XX {ws:List Int} {p f:Int} {j:Nat} (h:dv (az ws (dN f p (j:Int)))=false):cJ ws p j f=[(f,(j:Int),dN f p (j:Int),())]:=by
 cases j with
 |zero=>rfl
 |succ j=>rw[cJ,h,ao (by decide)]
theorem lf (I:Inv g s) {o r p:Int} (e:g r=some (o,3,0)) (b:0<=p/\p<65536) {f:Int} {j:Nat} (h:dm g s o p f j):
 dh s.1 r p=(f,(j:Int),16*f+px j p % 16,())/\cK s.1 r p=az s.1 (16*f+px j p % 16):=by
 have i:=I.kd h.1;obtain⟨k,l, _⟩:=I.sS h.1;obtain⟨a,m⟩:=I.reach e b (3 - j) (by omega) h.1;have c:=nF ⟨k,l⟩ b i.2.2.2.2.2;have d:dh s.1 r p=(f,(j:Int),16*f+px j p % 16,()):=by
  unfold dh;rw[m,XX (by rw[c];exact h.2),c,List.getLastD_concat]
 exact⟨d,by unfold cK;rw[d]⟩
theorem I7 (I:Inv g s) {o p:Int}: ∀(l:Nat) {f:Int},g f=some (o,l,px (l+1) p)-> ∃f' j,j<=l/\dm g s o p f' j
 |l,f,h=>by
  cases a:dv (az s.1 (16*f+px l p % 16)) with
  |false=>exact⟨f,l,BA _,h,a⟩
  |true=>
   obtain⟨m,rfl,b⟩:=I.oG h (dR p l).1 (dR p l).2 a;rw[<-mT] at b;obtain⟨f',j,d,c⟩:=I.I7 m b;exact⟨f',j,by omega,c⟩
theorem kZ (I:Inv g s) {o r p:Int} (a:g r=some (o,3,0)) (b:0<=p/\p<65536): ∃f j,j<=3/\dm g s o p f j:=I.I7 3 (by rw[Tq b];exact a)
theorem grow (I:Inv g s) {f o x i:Int} {m:Nat} (w:g f=some (o,m+1,x)) (vG:0<=i) (xK:i<16) (q:dv (az s.1 (16*f+i))=false) (hc:0<cz s.2 0) (G:Int->Int)
 (P: ∀k,0<=k->k<16->dv (dP (G k))=false/\iE m (dP (G k))/\((dP (G k)).1=false->G k=0)):
 oO s o=0/\g (dJ s o)=none/\0<=dJ s o/\dJ s o<s.2.length/\(du (gD s o G) (16*f+i) (bP (dJ s o))).2=s.2.set (dJ s o).toNat (3,o,0,0,())/\s.2[(dJ s o).toNat]? =some zD/\
 (∀b,b≠16*f+i->(b<16*dJ s o\/16*dJ s o+16<=b)->az (du (gD s o G) (16*f+i) (bP (dJ s o))).1 b=az s.1 b)/\
 (∀k,0<=k->k<16->az (du (gD s o G) (16*f+i) (bP (dJ s o))).1 (16*dJ s o+k)=dP (G k))/\
 az (du (gD s o G) (16*f+i) (bP (dJ s o))).1 (16*f+i)=bP (dJ s o)/\
 Inv (jF g (dJ s o) (some (o,m,16*x+i))) (du (gD s o G) (16*f+i) (bP (dJ s o))):=by
 have H:=I.kd w;obtain⟨n,vq,S,j,J,T⟩:=rb hc I.fz ⟨H.2.2.2.1,H.2.2.2.2.1⟩;have U:dJ s o=(n:Int):=j;have V:oO s o=0:=J;have hlen:=I.len;have hle:=I.le;have zQ:16*(n:Int)+16<=s.1.length:=by omega
 obtain⟨W,K⟩: ∃W,W=dS s.1 (n:Int) G 16:=⟨_,rfl⟩;have X:W.length=s.1.length:=by rw[K,fM]
 have Hj: ∀b,dB W b=if 16*(n:Int)<=b/\b<16*(n:Int)+16 then G (b - 16*(n:Int)) else dB s.1 b:=λb=>by
  rw[K];exact pA (by omega) zQ 16 (BA _) b
 have eS:gD s o G=(W,s.2.set n (3,o,0,0,())):=by unfold gD;rw[ax V,U,T,K]
 clear K;have gA:=I.sS w;have Y:g (n:Int)=none:=by
  cases hg:g (n:Int) with
  |none=>rfl
  |some v=>
   obtain⟨a,b,c⟩:=v;have:=(I.kd hg).2.2.1;rw[show((n:Int)).toNat=n from rfl,S] at this;cases this
 have L: ∀{f':Int} {v},g f'=some v->f'≠(n:Int):=λh e=>by rw[e,Y] at h;cases h
 have sO:f≠(n:Int):=L w;rw[eS,U];have Qc:vu (W) (16*f+i)=true:=lc (by omega) (by rw[X];omega);have Q: ∀b,b≠16*f+i->dB (cW (W) (16*f+i) (Hi (bP (n:Int)))) b=if 16*(n:Int)<=b/\b<16*(n:Int)+16 then G (b - 16*(n:Int)) else dB s.1 b:=λb hb=>by
  rw[mi (λe=>hb e.symm),Hj b]
 have w0: ∀b,b≠16*f+i->az (cW (W) (16*f+i) (Hi (bP (n:Int)))) b=if 16*(n:Int)<=b/\b<16*(n:Int)+16 then dP (G (b - 16*(n:Int))) else az s.1 b:=λb hb=>by
  unfold az;rw[Q b hb];split<;>rfl
 have w1: ∀b,b≠16*f+i->(b<16*(n:Int)\/16*(n:Int)+16<=b)->az (du (W,s.2.set n (3,o,0,0,())) (16*f+i) (bP (n:Int))).1 b=az s.1 b:=λb hb h=>by
  show az (cW _ _ _) b= _;rw[w0 b hb,ao (by omega)]
 have M: ∀k,0<=k->k<16->az (du (W,s.2.set n (3,o,0,0,())) (16*f+i) (bP (n:Int))).1 (16*(n:Int)+k)=dP (G k):=λk h0 l=>by
  show az (cW _ _ _) _= _;rw[w0 _ (by omega),ax (by omega)];congr 2;omega
 have B:az (du (W,s.2.set n (3,o,0,0,())) (16*f+i) (bP (n:Int))).1 (16*f+i)=bP (n:Int):=by
  show az (cW _ _ _) _= _;rw[uH Qc,Lj (by omega)]
 refine⟨V,Y,by omega,by omega,rfl,by rw[show((n:Int)).toNat=n from rfl];exact S,w1,M,B,?_⟩;have gm: ∀{f0 y t k:Int} {z:Nat},g f0=some (y,z,t)->0<=k->k<16->(16*f0+k=16*f+i/\f0=f/\k=i)\/az (du (W,s.2.set n (3,o,0,0,())) (16*f+i) (bP (n:Int))).1 (16*f0+k)=az s.1 (16*f0+k):=λ{f0 y t k z} h h0 l=>by
  by_cases e:16*f0+k=16*f+i
  ·exact .inl ⟨e,by omega,by omega⟩
  ·have:=L h;exact .inr (w1 _ e (by omega))
 refine⟨?_,?_,?_,?_,?_,?_,?_,?_,?_,?_⟩
 ·show 16*(s.2.set n _).length<=(cW W _ _).length;rw[cu,X,B5];exact hlen
 ·show(s.2.set n _).length<=4096;rw[B5];exact hle
 ·intro d R h0;rcases Eo R with R|rfl
  ·exact I.fz d R h0
  ·cases h0
 ·intro f0 y z t h;show _/\ _<((s.2.set n (3,o,0,0,())).length:Int)/\(s.2.set n (3,o,0,0,()))[f0.toNat]? = _/\ _;rw[B5];by_cases e:f0=(n:Int)
  ·subst e;rw[bu] at h;cases h;refine⟨by omega,by omega,?_,H.2.2.2.1,H.2.2.2.2.1,by omega⟩;rw[show((n:Int)).toNat=n from rfl,Bo vq]
  ·rw[aR e] at h;obtain⟨a1,a2,a3,a4⟩:=I.kd h;refine⟨a1,a2,?_,a4⟩;rw[B4 (by omega)];exact a3
 ·intro a b v A hb;by_cases e:a=(n:Int)<;>by_cases N:b=(n:Int)
  ·rw[e,N]
  ·subst e;rw[bu] at A;rw[aR N] at hb;cases A;exfalso;obtain⟨f',r,p⟩:=I.A4 hb (by omega);have C:(16*x+i) / 16=x:=by omega
   have D:(16*x+i) % 16=i:=by omega
   rw[C] at r;rw[D] at p;rw[I.inj r w, ] at p;rw[p] at q;obtain⟨E,F, _⟩:=I.sS hb;rw[dy ⟨E,F⟩] at q;cases q
  ·subst N;rw[bu] at hb;rw[aR e] at A;cases hb;exfalso;obtain⟨f',r,p⟩:=I.A4 A (by omega);have C:(16*x+i) / 16=x:=by omega
   have D:(16*x+i) % 16=i:=by omega
   rw[C] at r;rw[D] at p;rw[I.inj r w, ] at p;rw[p] at q;obtain⟨E,F, _⟩:=I.sS A;rw[dy ⟨E,F⟩] at q;cases q
  ·rw[aR e] at A;rw[aR N] at hb;exact I.inj A hb
 ·intro f0 y z t k h h0 l O;by_cases e:f0=(n:Int)
  ·subst e;rw[M k h0 l,(P k h0 l).1] at O;cases O
  ·rw[aR e] at h;rcases gm h h0 l with ⟨j,rfl,rfl⟩|j
   ·rw[j,B];rw[w] at h;cases h;exact⟨m,rfl,bu _ _ _⟩
   ·rw[j] at O ⊢;obtain⟨m',q1,Z⟩:=I.oG h h0 l O;exact⟨m',q1,by rw[aR (L Z)];exact Z⟩
 ·intro f0 y z t k h h0 l;by_cases e:f0=(n:Int)
  ·subst e;rw[bu] at h;cases h;rw[M k h0 l];exact(P k h0 l).2.1
  ·rw[aR e] at h;rcases gm h h0 l with ⟨j,rfl,rfl⟩|j
   ·rw[j,B];exact UQ _ (dy (by omega))
   ·rw[j];exact I.leaf h h0 l
 ·intro f0 y z t h hl;by_cases e:f0=(n:Int)
  ·subst e;rw[bu] at h;cases h;have C:(16*x+i) / 16=x:=by omega
   have D:(16*x+i) % 16=i:=by omega
   exact⟨f,by rw[aR sO,C];exact w,by rw[D];exact B⟩
  ·rw[aR e] at h;obtain⟨f',r,p⟩:=I.A4 h hl;refine⟨f',by rw[aR (L r)];exact r,?_⟩;rcases gm r (by omega:0<=t % 16) (by omega) with ⟨j,rfl,T⟩|j
   ·exfalso;rw[j] at p;rw[p] at q;obtain⟨E,F, _⟩:=I.sS h;rw[dy ⟨E,F⟩] at q;cases q
   ·rw[j];exact p
 ·intro f0 y z t k h h0 l u;by_cases e:f0=(n:Int)
  ·subst e;rw[M k h0 l] at u;show dB (cW _ _ _) _=0;rw[Q _ (by omega),ax (by omega),show 16*(n:Int)+k - 16*(n:Int)=k from by omega];exact(P k h0 l).2.2 u
  ·rw[aR e] at h;rcases gm h h0 l with ⟨j,rfl,rfl⟩|j
   ·rw[j,B] at u;cases u
   ·rw[j] at u;have hb:16*f0+k≠16*f+i:=λJ=>by
     rw[J,B] at j;rw[J, <-j] at u;cases u
    show dB (cW _ _ _) _=0;rw[Q _ hb,ao (by omega)];exact I.wf h h0 l u
 ·intro n' d Tr h3;by_cases e:n'=n
  ·subst e;exact⟨_,bu _ _ _⟩
  ·have h':(s.2.set n (3,o,0,0,()))[n']? =some d:=Tr;rw[B4 (by omega)] at h';obtain⟨v,hv⟩:=I.tb h' h3;exact⟨v,by rw[aR (by omega)];exact hv⟩
theorem Oe (I:Inv g s) {f o x i v:Int} {l:Nat} (y:g f=some (o,l,x)) (G:0<=i) (H:i<16) (q:dv (az s.1 (16*f+i))=false) (hv:dv (dP v)=false) (r:iE l (dP v)) (A:(dP v).1=false->v=0):
 az (cW s.1 (16*f+i) v) (16*f+i)=dP v/\Inv g (cW s.1 (16*f+i) v,s.2):=by
 have J:=I.sS y;have z:vu s.1 (16*f+i)=true:=lc (by omega) (by omega);have n:=uH (v:=v) z;have gm: ∀{f0 k:Int},0<=k->k<16->(16*f0+k=16*f+i/\f0=f/\k=i)\/az (cW s.1 (16*f+i) v) (16*f0+k)=az s.1 (16*f0+k):=λ{f0 k} h0 b=>by
  by_cases e:16*f0+k=16*f+i
  ·exact .inl ⟨e,by omega,by omega⟩
  ·exact .inr (ft (λc=>e c.symm))
 refine⟨n,by show 16*s.2.length<=(cW _ _ _).length;rw[cu];exact I.len,I.le,I.fz,I.kd,I.inj,?_,?_,?_,?_,I.tb⟩
 ·intro f0 t d j k h h0 b u;rcases gm (f0:=f0) h0 b with ⟨a,rfl,rfl⟩|a
  ·rw[n,hv] at u;cases u
  ·have B:dv (az s.1 (16*f0+k))=true:=by rw[<-a];exact u
   show∃m,d=m+1/\g (az (cW s.1 (16*f+i) v) (16*f0+k)).2.2.2.1= _;rw[a];exact I.oG h h0 b B
 ·intro f0 t d j k h h0 b;show iE d (az (cW s.1 (16*f+i) v) (16*f0+k));rcases gm (f0:=f0) h0 b with ⟨a,rfl,rfl⟩|a
  ·rw[n];rw[y] at h;cases h;exact r
  ·rw[a];exact I.leaf h h0 b
 ·intro f0 t d j h r;obtain⟨f',C,w⟩:=I.A4 h r;refine⟨f',C,?_⟩;show az (cW s.1 (16*f+i) v) (16*f'+j % 16)= _;rcases gm (f0:=f') (by omega:0<=j % 16) (by omega) with ⟨a,rfl,K⟩|a
  ·exfalso;rw[a] at w;rw[w] at q;obtain⟨D,E, _⟩:=I.sS h;rw[dy ⟨D,E⟩] at q;cases q
  ·rw[a];exact w
 ·intro f0 t d j k h h0 b F;show dB (cW s.1 (16*f+i) v) (16*f0+k)=0;have p:(az (cW s.1 (16*f+i) v) (16*f0+k)).1=false:=F;by_cases e:16*f0+k=16*f+i
  ·rw[e,n] at p;rw[e,s8 z];exact A p
  ·rw[ft (λc=>e c.symm)] at p;rw[mi (λc=>e c.symm)];exact I.wf h h0 b p
theorem UR (I:Inv g s) {f o x i f2:Int} {m:Nat} (z:g f=some (o,m+1,x)) (vG:0<=i) (xK:i<16) (F:g f2=some (o,m,16*x+i)) (P:az s.1 (16*f+i)=bP f2) (Q: ∀k,0<=k->k<16->az s.1 (16*f2+k)=zE):
 az (cW s.1 (16*f+i) 0) (16*f+i)=zE/\fC s.2 f2 (aE 5 0)=s.2.set f2.toNat (5,o,0,0,())/\Inv (jF g f2 none) (cW s.1 (16*f+i) 0,fC s.2 f2 (aE 5 0)):=by
 have gA:=I.sS z;have G:=I.kd z;have A:=I.kd F;have H:vu s.1 (16*f+i)=true:=lc (by omega) (by omega);have u:az (cW s.1 (16*f+i) 0) (16*f+i)=zE:=by rw[uH H];exact mh
 have J:fC s.2 f2 (aE 5 0)=s.2.set f2.toNat (5,o,0,0,()):=by
  rw[oh ⟨A.1,A.2.1⟩,Di,A.2.2.1];show(if(aE 5 0 (3,o,0,0,())).2=0 then s.2.set f2.toNat (aE 5 0 (3,o,0,0,())).1 else _)= _;rw[Ar ⟨G.2.2.2.1,G.2.2.2.2.1⟩,ax rfl]
 have l: ∀{f0 v},jF g f2 none f0=some v->f0≠f2/\g f0=some v:=λ{f0 v} h=>by
  by_cases e:f0=f2
  ·rw[e,bu] at h;cases h
  ·rw[aR e] at h;exact⟨e,h⟩
 have gm: ∀{f0 k:Int},0<=k->k<16->(16*f0+k=16*f+i/\f0=f/\k=i)\/az (cW s.1 (16*f+i) 0) (16*f0+k)=az s.1 (16*f0+k):=λ{f0 k} h0 j=>by
  by_cases e:16*f0+k=16*f+i
  ·exact .inl ⟨e,by omega,by omega⟩
  ·exact .inr (ft (λr=>e r.symm))
 refine⟨u,J,?_⟩;rw[J];refine⟨?_,?_,?_,?_,?_,?_,?_,?_,?_,?_⟩
 ·show 16*(s.2.set _ _).length<=(cW _ _ _).length;rw[cu,B5];exact I.len
 ·show(s.2.set _ _).length<=4096;rw[B5];exact I.le
 ·intro d B h0;rcases Eo B with B|rfl
  ·exact I.fz d B h0
  ·cases h0
 ·intro f0 w q n h;obtain⟨t,h⟩:=l h;show _/\ _<((s.2.set f2.toNat (5,o,0,0,())).length:Int)/\(s.2.set f2.toNat (5,o,0,0,()))[f0.toNat]? = _/\ _;rw[B5];obtain⟨a1,C,K,R⟩:=I.kd h;refine⟨a1,C,?_,R⟩;rw[B4 (by omega)];exact K
 ·intro a b v S hb;exact I.inj (l S).2 (l hb).2
 ·intro f0 w q n k h h0 j D;obtain⟨t,h⟩:=l h;rcases gm (f0:=f0) h0 j with ⟨c,rfl,rfl⟩|c
  ·rw[u] at D;cases D
  ·have E:dv (az s.1 (16*f0+k))=true:=by rw[<-c];exact D
   show∃m,q=m+1/\jF g f2 none (az (cW s.1 (16*f+i) 0) (16*f0+k)).2.2.2.1= _;rw[c];obtain⟨T,L,y⟩:=I.oG h h0 j E;refine⟨T,L,?_⟩;rw[aR]
   ·exact y
   ·intro e;rw[e,F] at y;simp only[Bd,Bb] at y;obtain⟨a1,C,K⟩:=y;have U:k=i:=by omega
    have V:n=x:=by omega
    subst U;subst V;subst a1;subst C;subst L;have:=I.inj h z;subst this;rw[u] at c;rw[<-c] at E;cases E
 ·intro f0 w q n k h h0 j;obtain⟨t,h⟩:=l h;show iE q (az (cW s.1 (16*f+i) 0) (16*f0+k));rcases gm (f0:=f0) h0 j with ⟨c,rfl,rfl⟩|c
  ·rw[u];exact zO _
  ·rw[c];exact I.leaf h h0 j
 ·intro f0 w q n h W;obtain⟨t,h⟩:=l h;obtain⟨f',X,p⟩:=I.A4 h W;have Y:f'≠f2:=λe=>by
   rw[e,Q _ (by omega) (by omega)] at p;cases p
  refine⟨f',by rw[aR Y];exact X,?_⟩;show az (cW s.1 (16*f+i) 0) (16*f'+n % 16)= _;rcases gm (f0:=f') (by omega:0<=n % 16) (by omega) with ⟨c,rfl,e3⟩|c
  ·exfalso;rw[c,P] at p;unfold bP at p;simp only[Bb,and_true,true_and] at p;exact t p.symm
  ·rw[c];exact p
 ·intro f0 w q n k h h0 j Z;obtain⟨t,h⟩:=l h;show dB (cW s.1 (16*f+i) 0) (16*f0+k)=0;have M:(az (cW s.1 (16*f+i) 0) (16*f0+k)).1=false:=Z;by_cases e:16*f0+k=16*f+i
  ·rw[e,s8 H]
  ·rw[ft (λr=>e r.symm)] at M;rw[mi (λr=>e r.symm)];exact I.wf h h0 j M
 ·intro N d Tr O;have h':(s.2.set f2.toNat (5,o,0,0,()))[N]? =some d:=Tr;by_cases e:N=f2.toNat
  ·subst e;rw[Bo (by omega)] at h';cases h';exact absurd (show(5:Int)=3 from O) (by decide)
  ·rw[B4 (by omega)] at h';obtain⟨v,hv⟩:=I.tb h' O;exact⟨v,by rw[aR (by omega)];exact hv⟩
end Inv
set_option maxRecDepth 100000
open Go.RX D
def l6 (p:Int) (j:Nat) (e:ET):Int×Int×Int×Unit:=if e.1=true then(if j=1 then e.2.2.2.1+p % 16 else e.2.2.2.1,e.2.1,0,()) else(0,0,4,())
theorem Bx (p:Int) (j:Nat) {e:ET} (h:e.1=false):l6 p j e=(0,0,4,()):=by unfold l6;rw[h,ao (by decide)]
def kx (g g':Gh):Prop:= ∀o r x,g' r=some (o,3,x)<->g r=some (o,3,x)
theorem kx.refl (g:Gh):kx g g:=λ_ _ _=>Iff.rfl
theorem kx.trans {a b c:Gh} (h:kx a b) (k:kx b c):kx a c:=λo r x=>(k o r x).trans (h o r x)
theorem kx.to {g g':Gh} {o r x:Int} (h:kx g g') (k:g r=some (o,3,x)):g' r=some (o,3,x):=(h _ _ _).2 k
def vP (o:Int) (g g':Gh) (s s':WD):Prop:= ∀ ⦃f o' l x⦄,o'≠o->g f=some (o',l,x)->g' f=some (o',l,x)/\ ∀k,0<=k->k<16->az s'.1 (16*f+k)=az s.1 (16*f+k)
theorem vP.refl (o:Int) (g:Gh) (s:WD):vP o g g s s:=λ_ _ _ _ _ h=>⟨h,λ_ _ _=>rfl⟩
theorem vP.trans {o:Int} {a b c:Gh} {s t u:WD} (h:vP o a b s t) (k:vP o b c t u):vP o a c s u:=λ_ _ _ _ d f=>by
 obtain⟨g,h2⟩:=h d f;obtain⟨j,l⟩:=k d g;exact⟨j,λi h0 e=>(l i h0 e).trans (h2 i h0 e)⟩
def oW (P:Int->Int->Prop) (g g':Gh) (s s':WD):Prop:= ∀ ⦃o p f j⦄,¬ P o p->dm g s o p f j-> ∃f' a,dm g' s' o p f' a/\l6 p a (az s'.1 (16*f'+px a p % 16))=l6 p j (az s.1 (16*f+px j p % 16))
theorem oW.refl (P:Int->Int->Prop) (g:Gh) (s:WD):oW P g g s s:=λ_ _ _ _ _ h=>⟨_, _,h,rfl⟩
theorem oW.trans {P:Int->Int->Prop} {a b c:Gh} {s t u:WD} (h:oW P a b s t) (k:oW P b c t u):oW P a c s u:=λ_ _ _ _ d e=>by
 obtain⟨f1,j1,f,h2⟩:=h d e;obtain⟨f2,g,i,j⟩:=k d f;exact⟨f2,g,i,j.trans h2⟩
theorem oW.mono {P d:Int->Int->Prop} {a b:Gh} {s t:WD} (h:oW P a b s t) (e: ∀o p,P o p->d o p):oW d a b s t:=λ_ _ _ _ f g=>h (λc=>f (e _ _ c)) g
def Qe:Int->Int->Prop:=λ_ _=>False
def lE (o:Int) (l:Nat) (p:Int):Int->Int->Prop:=λo' q=>o'=o/\px l q=px l p
namespace Inv
variable {g:Gh} {s:WD}
theorem fT (I:Inv g s) {o r p:Int} (b:g r=some (o,3,0)) (c:0<=p/\p<65536) {f:Int} {j:Nat} (h:dm g s o p f j):a_ s r false p=l6 p j (az s.1 (16*f+px j p % 16)):=by
 obtain⟨d,e⟩:=I.lf b c h;unfold a_ l6;rw[ao (by decide),ao (by omega),e,d];unfold np;cases hb:(az s.1 (16*f+px j p % 16)).1 with
 |false=>rw[ao (by decide),ao (by decide)]
 |true=>
  rw[ax rfl,ax rfl];by_cases a:j=1
  ·subst a;rfl
  ·rw[ao a,ao (by show ¬ ((j:Int)=1);omega)]
theorem uI (I:Inv g s) {g':Gh} {s':WD} (c:Inv g' s') {P:Int->Int->Prop} (d:oW P g g' s s') (i:kx g g') {o r p:Int} (a:g r=some (o,3,0)) (k: ¬ P o p):a_ s' r false p=a_ s r false p:=by
 by_cases h:0<=p/\p<65536
 ·obtain⟨f,j, _,b⟩:=I.kZ a h;obtain⟨f',m,l,h2⟩:=d k b;rw[I.fT a h b,c.fT (i.to a) h l,h2]
 ·have e: ∀t:WD,a_ t r false p=(0,0,2,()):=λt=>by
   unfold a_;rw[ao (by decide),ax (by omega)]
  rw[e,e]
theorem As (I:Inv g s) {f o x i:Int} {m:Nat} (c:g f=some (o,m+1,x)) (y:0<=i) (z:i<16) (A:dv (az s.1 (16*f+i))=false) (hc:0<cz s.2 0) (G:Int->Int)
 (r: ∀k,0<=k->k<16->dv (dP (G k))=false/\iE m (dP (G k))/\((dP (G k)).1=false->G k=0))
 (B: ∀p,0<=px m p % 16->px (m+1) p % 16=i->l6 p m (dP (G (px m p % 16)))=l6 p (m+1) (az s.1 (16*f+i))):
 let n:=dJ s o
 let s':=du (gD s o G) (16*f+i) (bP n)
 let g':=jF g n (some (o,m,16*x+i))
 oO s o=0/\Inv g' s'/\kx g g'/\vP o g g' s s'/\oW Qe g g' s s'/\s'.2=s.2.set n.toNat (3,o,0,0,())/\s.2[n.toNat]? =some zD/\
 (∀p,dm g s o p f (m+1)->px (m+1) p % 16=i->dm g' s' o p n m/\az s'.1 (16*n+px m p % 16)=dP (G (px m p % 16)))/\0<=n/\n<4096:=by
 obtain⟨C,t,D,N,E,F,u,H,O,J⟩:=I.grow c y z A hc G r;dsimp only;have q: ∀{f':Int} {v},g f'=some v->f'≠dJ s o:=λh e=>by rw[e,t] at h;cases h
 have Ez: ∀p,dm g s o p f (m+1)->px (m+1) p % 16=i->dm (jF g (dJ s o) (some (o,m,16*x+i))) (du (gD s o G) (16*f+i) (bP (dJ s o))) o p (dJ s o) m/\az (du (gD s o G) (16*f+i) (bP (dJ s o))).1 (16*dJ s o+px m p % 16)=dP (G (px m p % 16)):=λp a d=>by
  have e:=H (px m p % 16) (dR p m).1 (dR p m).2;refine⟨⟨?_,by rw[e];exact(r _ (dR p m).1 (dR p m).2).1⟩,e⟩;rw[bu];have b:=a.1;rw[c] at b;simp only[Bd,Bb,true_and] at b;rw[b, <-d, <-mT]
 refine⟨C,J,λo' r' P=>?_,λ⦃f0 o' l Q⦄ K h=>⟨?_,λk h0 b=>?_⟩,λ⦃o' p f' j⦄ _ a=>?_,E,F,Ez,D,by have:=I.le;omega⟩
 ·by_cases e:r'=dJ s o
  ·rw[e,bu,t];refine⟨λh=>?_,λh=>by cases h⟩;have:=(I.kd c).2.2.2.2.2;simp only[Bd,Bb] at h;omega
  ·rw[aR e]
 ·rw[aR (q h)];exact h
 ·have:=q h;refine u _ (λe=>?_) (by omega);have:f0=f:=by omega
  subst this;rw[c] at h;cases h;exact K rfl
 ·by_cases w:f'=f/\px j p % 16=i
  ·obtain⟨rfl,d⟩:=w;have b:=a.1;rw[c] at b;simp only[Bd,Bb] at b;obtain⟨rfl,rfl,rfl⟩:=b;obtain⟨L,M⟩:=Ez p a d;refine⟨_, _,L,?_⟩;rw[M,d];exact B p (dR p m).1 d
  ·have e:az (du (gD s o G) (16*f+i) (bP (dJ s o))).1 (16*f'+px j p % 16)=az s.1 (16*f'+px j p % 16):=by
    have:=q a.1;have:=dR p j;refine u _ (λe=>w ?_) (by omega);omega
   refine⟨f',j,⟨by rw[aR (q a.1)];exact a.1,by rw[e];exact a.2⟩,by rw[e]⟩
theorem uJ (I:Inv g s) {f o x i v:Int} {l:Nat} (b:g f=some (o,l,x)) (u:0<=i) (w:i<16) (r:dv (az s.1 (16*f+i))=false) (hv:dv (dP v)=false) (y:iE l (dP v)) (z:(dP v).1=false->v=0) {q:Int} (d:dm g s o q f l) (A:px l q % 16=i):
 Inv g (cW s.1 (16*f+i) v,s.2)/\vP o g g s (cW s.1 (16*f+i) v,s.2)/\oW (lE o l q) g g s (cW s.1 (16*f+i) v,s.2)/\
 (∀p,px l p=px l q->dm g (cW s.1 (16*f+i) v,s.2) o p f l/\dm g s o p f l)/\az (cW s.1 (16*f+i) v) (16*f+i)=dP v:=by
 obtain⟨t,B⟩:=I.Oe b u w r hv y z;have m:=d.1;rw[b] at m;simp only[Bd,Bb,true_and] at m;refine⟨B,λ⦃f0 o' E F⦄ C h=>⟨h,λk h0 a=>?_⟩,λ⦃o' p f' j⦄ c n=>?_,λp c=>?_,t⟩
 ·refine ft (λe=>C ?_);have:f0=f:=by omega
  subst this;rw[b] at h;cases h;rfl
 ·have e:az (cW s.1 (16*f+i) v) (16*f'+px j p % 16)=az s.1 (16*f'+px j p % 16):=by
   refine ft (λe=>c ?_);have h2:=dR p j;have:f'=f:=by omega
   subst this;have a:=n.1;rw[b] at a;simp only[Bd,Bb] at a;obtain⟨rfl,rfl,D⟩:=a;refine⟨rfl,?_⟩;rw[mT p,mT q, <-D, <-m];omega
  exact⟨f',j,⟨n.1,by show dv (az (cW s.1 (16*f+i) v) _)=false;rw[e];exact n.2⟩,by show l6 p j (az (cW s.1 (16*f+i) v) _)= _;rw[e]⟩
 ·have a:px (l+1) p=px (l+1) q:=by simp only[px];rw[c]
  have h2:px l p % 16=i:=by rw[c];exact A
  refine⟨⟨by rw[a];exact d.1,?_⟩,⟨by rw[a];exact d.1,by rw[h2];exact r⟩⟩;show dv (az (cW s.1 (16*f+i) v) (16*f+px l p % 16))=false;rw[h2,t];exact hv
theorem Gq (I:Inv g s) {f o x i f2:Int} {m:Nat} (c:g f=some (o,m+1,x)) (w:0<=i) (y:i<16) (a:g f2=some (o,m,16*x+i)) (q:az s.1 (16*f+i)=bP f2) (r: ∀k,0<=k->k<16->az s.1 (16*f2+k)=zE):
 let s':WD:=(cW s.1 (16*f+i) 0,fC s.2 f2 (aE 5 0))
 let g':=jF g f2 none
 Inv g' s'/\kx g g'/\vP o g g' s s'/\oW Qe g g' s s'/\s'.2=s.2.set f2.toNat (5,o,0,0,())/\s.2[f2.toNat]? =some (3,o,0,0,())/\(∀p,dm g s o p f2 m->dm g' s' o p f (m+1))/\az s'.1 (16*f+i)=zE:=by
 obtain⟨n,z,A⟩:=I.UR c w y a q r;dsimp only;have t:=I.sS a;have B:f≠f2:=λe=>by
  subst e;rw[c] at a;simp at a
 have C:dv (az s.1 (16*f+i))=true:=by rw[q];exact dy ⟨t.1,t.2.1⟩
 have Ez: ∀p,dm g s o p f2 m->dm (jF g f2 none) (cW s.1 (16*f+i) 0,fC s.2 f2 (aE 5 0)) o p f (m+1)/\px (m+1) p % 16=i:=λp h=>by
  have b:=h.1;rw[a] at b;simp only[Bd,Bb,true_and] at b;have h2:=mT p (m+1);have F:=dR p (m+1);have d:px (m+1+1) p=x:=by omega
  have u:px (m+1) p % 16=i:=by omega
  refine⟨⟨by rw[aR B,d];exact c,?_⟩,u⟩;show dv (az (cW s.1 (16*f+i) 0) (16*f+px (m+1) p % 16))=false;rw[u,n];exact EJ
 refine⟨A,λo' r' G=>?_,λ⦃f0 o' l H⦄ v h=>⟨?_,λk h0 b=>?_⟩,λ⦃o' p f' j⦄ _ h=>?_,z,(I.kd a).2.2.1,λp h=>(Ez p h).1,n⟩
 ·by_cases e:r'=f2
  ·subst e;rw[bu,a];refine⟨λh=>(by cases h),λh=>?_⟩;simp only[Bd,Bb] at h;have:=(I.kd c).2.2.2.2.2;omega
  ·rw[aR e]
 ·rw[aR]
  ·exact h
  ·intro e;subst e;rw[a] at h;cases h;exact v rfl
 ·refine ft (λe=>v ?_);have:f0=f:=by omega
  subst this;rw[c] at h;cases h;rfl
 ·by_cases e:f'=f2
  ·subst e;have b:=h.1;rw[a] at b;simp only[Bd,Bb] at b;obtain⟨rfl,rfl,b⟩:=b;obtain⟨D,E⟩:=Ez p h;refine⟨_, _,D,?_⟩;show l6 p _ (az (cW s.1 (16*f+i) 0) _)= _;rw[E,n,r _ (dR p m).1 (dR p m).2,Bx _ _ rfl,Bx _ _ rfl]
  ·have d:az (cW s.1 (16*f+i) 0) (16*f'+px j p % 16)=az s.1 (16*f'+px j p % 16):=by
    refine ft (λe=>?_);have h2:=h.2;rw[<-e,C] at h2;cases h2
   refine⟨f',j,⟨by rw[aR e];exact h.1,?_⟩,?_⟩
   ·show dv (az (cW s.1 (16*f+i) 0) _)=false;rw[d];exact h.2
   ·show l6 p j (az (cW s.1 (16*f+i) 0) _)= _;rw[d]
end Inv
set_option maxRecDepth 100000
open Go.RX D
structure Kept (s s':WD):Prop where
 Ts: ∀{n:Nat} {d:DT},s.2[n]? =some d->d.1=4\/d.1=5->s'.2[n]? =some d
 VK: ∀{n:Nat} {d:DT},s.2[n]? =some d->d.1=4\/d.1=5-> ∀k:Int,0<=k->k<16->dB s'.1 (16*(n:Int)+k)=dB s.1 (16*(n:Int)+k)
 nw: ∀{n:Nat} {d:DT},s'.2[n]? =some d->s.2[n]? =some d\/((d.1=3\/d.1=5)/\d.2.2=(0,0,())/\1<=d.2.1/\d.2.1<=16)
theorem Kept.ks {s s':WD} (K:Kept s s') {n:Nat} {d:DT} (h:s.2[n]? =some d) (a:d.1=4):s'.2[n]? =some d:=K.Ts h (.inl a)
theorem Kept.ws {s s':WD} (K:Kept s s') {n:Nat} {d:DT} (h:s.2[n]? =some d) (a:d.1=4) (k:Int) (k0:0<=k) (b:k<16):dB s'.1 (16*(n:Int)+k)=dB s.1 (16*(n:Int)+k):=K.VK h (.inl a) k k0 b
theorem Kept.refl (s:WD):Kept s s:=⟨λh _=>h,λ_ _ _ _ _=>rfl,λh=> .inl h⟩
theorem Kept.trans {s t u:WD} (h:Kept s t) (k:Kept t u):Kept s u:=
 ⟨λa h2=>k.Ts (h.Ts a h2) h2,λa h2 i i0 i1=>(k.VK (h.Ts a h2) h2 i i0 i1).trans (h.VK a h2 i i0 i1),λa=>(k.nw a).elim h.nw .inr⟩
theorem Kept.set {s:WD} {W:List Int} {n:Nat} {d0 d1:DT} (h0:s.2[n]? =some d0) (b:d0.1≠4/\d0.1≠5) (c:(d1.1=3\/d1.1=5)/\d1.2.2=(0,0,())/\1<=d1.2.1/\d1.2.1<=16) (f: ∀{m:Nat} {d:DT},s.2[m]? =some d->d.1=4\/d.1=5-> ∀k:Int,0<=k->k<16->dB W (16*(m:Int)+k)=dB s.1 (16*(m:Int)+k)):Kept s (W,s.2.set n d1):=by
 have g:n<s.2.length:=(B3.1 h0).1;refine⟨λ{m d} a h=>?_,f,λ{m d} a=>?_⟩
 ·have e:n≠m:=λe=>by subst e;rw[h0] at a;cases a;exact h.elim b.1 b.2
  show(s.2.set n d1)[m]? = _;rw[B4 e];exact a
 ·have a:(s.2.set n d1)[m]? =some d:=a;by_cases e:n=m
  ·subst e;rw[Bo g] at a;cases a;exact .inr c
  ·rw[B4 e] at a;exact .inl a
def jl (s:WD) (f:Int):Prop:=0<=f/\ ∃d,s.2[f.toNat]? =some d/\d.1=5/\ ∀k:Int,0<=k->k<16->dB s.1 (16*f+k)=0
theorem jl.kept {s s':WD} {f:Int} (h:jl s f) (K:Kept s s'):jl s' f:=by
 obtain⟨h0,d,a,h2,c⟩:=h;refine⟨h0,d,K.Ts a (.inr h2),h2,λk k0 b=>?_⟩;have:=K.VK a (.inr h2) k k0 b;rw[show((f.toNat:Nat):Int)=f by omega] at this;rw[this];exact c k k0 b
theorem Inv.off {g:Gh} {s:WD} (I:Inv g s) {f o x i:Int} {l:Nat} (b:g f=some (o,l,x)) (h0:0<=i) (p:i<16) {n:Nat} {d:DT} (c:s.2[n]? =some d) (h:d.1=4\/d.1=5) {k:Int} (k0:0<=k) (q:k<16):16*f+i≠16*(n:Int)+k:=by
 intro e;have j:=I.kd b;have m:f.toNat=n:=by omega
 have a:=j.2.2.1;rw[m,c] at a;cases a;exact absurd h (show ¬ ((3:Int)=4\/(3:Int)=5) by decide)
theorem Inv.yC {g:Gh} {s:WD} (I:Inv g s) {f o x i:Int} {l:Nat} (a:g f=some (o,l,x)) (h0:0<=i) (b:i<16) (v:Int):Kept s (cW s.1 (16*f+i) v,s.2):=
 ⟨λh _=>h,λ{n d} c e k k0 j=>by show dB (cW _ _ _) _= _;exact mi (I.off a h0 b c e k0 j),λh=> .inl h⟩
theorem Inv.wY {g:Gh} {s:WD} (I:Inv g s) {f o x i:Int} {m:Nat} (j:g f=some (o,m+1,x)) (r:0<=i) (t:i<16) (hc:0<cz s.2 0) (G:Int->Int) (e:ET):Kept s (du (gD s o G) (16*f+i) e):=by
 have a:=I.kd j;obtain⟨n,E,l,u,v,w⟩:=rb hc I.fz ⟨a.2.2.2.1,a.2.2.2.2.1⟩;have y:dJ s o=(n:Int):=u;have z:oO s o=0:=v;have F:=I.len;have H:=I.le;have A:16*(n:Int)+16<=s.1.length:=by omega
 have p:gD s o G=(dS s.1 (n:Int) G 16,s.2.set n (3,o,0,0,())):=by unfold gD;rw[ax z,y,w]
 obtain⟨W,c⟩: ∃W,W=dS s.1 (n:Int) G 16:=⟨_,rfl⟩;have B: ∀b,dB W b=if 16*(n:Int)<=b/\b<16*(n:Int)+16 then G (b - 16*(n:Int)) else dB s.1 b:=λb=>by
  rw[c];exact pA (by omega) A 16 (BA _) b
 rw[<-c] at p;clear c;have C:du (W,s.2.set n (3,o,0,0,())) (16*f+i) e=(cW W (16*f+i) (Hi e),s.2.set n (3,o,0,0,())):=rfl;rw[p,C];refine Kept.set l (by decide) ⟨.inl rfl,rfl,a.2.2.2.1,a.2.2.2.2.1⟩ λ{m d} h q k k0 D=>?_;have J:n≠m:=λe=>by subst e;rw[l] at h;cases h;exact absurd q (by decide)
 rw[mi (I.off j r t h q k0 D),B,ao (by omega)]
def v_ (g:Gh) (s:WD):Prop:= ∀ ⦃f o l x i⦄,g f=some (o,l,x)->0<=i->i<16->(az s.1 (16*f+i)).1=true->dv (az s.1 (16*f+i))=false->l=0
theorem v_.upd {g:Gh} {s s':WD} (h:v_ g s) {f o x i:Int} {l:Nat} (j:g f=some (o,l,x)) (h0:0<=i) (q:i<16) (m: ∀b,b≠16*f+i->az s'.1 b=az s.1 b)
 (n:(az s'.1 (16*f+i)).1=true->dv (az s'.1 (16*f+i))=false->l=0):v_ g s':=λf2 r l2 t k d k0 p a c=>by
 by_cases e:16*f2+k=16*f+i
 ·have ef:f2=f:=by omega
  subst ef;rw[j] at d;cases d;rw[e] at a c;exact n a c
 ·rw[m _ e] at a c;exact h d k0 p a c
theorem v_.grow {g:Gh} {s s':WD} (h:v_ g s) {f i F o x a:Int} {m:Nat} (p: ∀b,b≠a->(b<16*F\/16*F+16<=b)->az s'.1 b=az s.1 b)
 (q: ∀k,0<=k->k<16->(az s'.1 (16*F+k)).1=true->m=0) (r:dv (az s'.1 a)=true):v_ (jF g F (some (o,m,x))) s':=λf2 t l2 u k c k0 l j d=>by
 by_cases e:f2=F
 ·subst e;rw[bu] at c;cases c;exact q k k0 l j
 ·rw[aR e] at c;by_cases n:16*f2+k=a
  ·rw[n,r] at d;cases d
  ·rw[p _ n (by omega)] at j d;exact h c k0 l j d
theorem v_.del {g:Gh} {s:WD} (h:v_ g s) (F:Int):v_ (jF g F none) s:=λf2 f l2 i k a k0 b c d=>by
 by_cases e:f2=F
 ·subst e;rw[bu] at a;cases a
 ·rw[aR e] at a;exact h a k0 b c d
def QL (P:Int->Int->Prop):Prop:= ∀o q a,P o q->P o a->q=a
theorem I8 (l:Nat) (p:Int):px (l+1) p=px l (p / 16):=by
 induction l with
 |zero=>rfl
 |succ l a=>rw[px,a];rfl
theorem QL.lv {o p:Int} {lv:Nat} (h:QL (λo' q=>o'=o/\px lv q=px lv p)):lv=0:=by
 cases lv with
 |zero=>rfl
 |succ l=>
  have a:(16*(p / 16)+(p % 16+1) % 16) / 16=p / 16:=by omega
  have:=h o p (16*(p / 16)+(p % 16+1) % 16) ⟨rfl,rfl⟩ ⟨rfl,by rw[I8,I8,a]⟩;omega
structure oQ (P:Int->Int->Prop) (o:Int) (g g':Gh) (s s':WD):Prop where
 inv:Inv g' s'
 root:kx g g'
 HZ:vP o g g' s s'
 zy:oW P g g' s s'
 kk: ∀{n:Nat} {d:DT},s.2[n]? =some d->d.1=3\/d.1=5-> ∃d':DT,s'.2[n]? =some d'/\(d'.1=5\/(d'.1=3/\d.1=3))
 len:s'.1.length=s.1.length/\s'.2.length=s.2.length
 kp:Kept s s'
 lg:QL P->v_ g s->v_ g' s'
 gk: ∀{f:Int} {v:Int×Nat×Int},g f=some v->g' f=some v\/jl s' f
theorem oQ.refl {g:Gh} {s:WD} (I:Inv g s) (P:Int->Int->Prop) (o:Int):oQ P o g g s s:=
 ⟨I,.refl g,.refl o g s,.refl P g s,λ{n d} h k=>⟨d,h,k.elim (λe=> .inr ⟨e,e⟩) .inl⟩,⟨rfl,rfl⟩,.refl s,λ_ h=>h,λh=> .inl h⟩
theorem oQ.trans {P:Int->Int->Prop} {o:Int} {a b c:Gh} {s t u:WD} (h:oQ P o a b s t) (k:oQ P o b c t u):oQ P o a c s u where
 inv:=k.inv
 root:=h.root.trans k.root
 HZ:=h.HZ.trans k.HZ
 zy:=h.zy.trans k.zy
 kk:=λ{n d} g i=>by
  obtain⟨d1,f,h2⟩:=h.kk g i;obtain⟨d2,j,l⟩:=k.kk f (h2.elim .inr λe=> .inl e.1);refine⟨d2,j,?_⟩;rcases l with e|⟨m,p⟩
  ·exact .inl e
  ·rcases h2 with e|⟨_,q⟩
   ·rw[p] at e;exact absurd e (by decide)
   ·exact .inr ⟨m,q⟩
 len:=⟨k.len.1.trans h.len.1,k.len.2.trans h.len.2⟩
 kp:=h.kp.trans k.kp
 lg:=λo n=>k.lg o (h.lg o n)
 gk:=λf=>(h.gk f).elim (λe=>k.gk e) (λe=> .inr (e.kept k.kp))
theorem oQ.mono {P d:Int->Int->Prop} {o:Int} {a b:Gh} {s t:WD} (h:oQ P o a b s t) (c: ∀o p,P o p->d o p):oQ d o a b s t:=⟨h.inv,h.root,h.HZ,h.zy.mono c,h.kk,h.len,h.kp,λe n=>h.lg (λo q f a b=>e o q f (c _ _ a) (c _ _ b)) n,h.gk⟩
theorem BM {ds:List DT} {i:Nat} {d0 d1:DT} (h0:ds[i]? =some d0) (a:d0.1=3\/d0.1=5->d1.1=5) {n:Nat} {d:DT} (h:ds[n]? =some d) (k:d.1=3\/d.1=5): ∃d':DT,(ds.set i d1)[n]? =some d'/\(d'.1=5\/(d'.1=3/\d.1=3)):=by
 have hi:i<ds.length:=(B3.1 h0).1;by_cases e:i=n
 ·subst e;rw[h0] at h;cases h;exact⟨d1,Bo hi,.inl (a k)⟩
 ·exact⟨d,by rw[B4 e];exact h,k.elim (λe=> .inr ⟨e,e⟩) .inl⟩
theorem s_ (s:WD) (o:Int) (G:Int->Int) (i:Int) (e:ET):(du (gD s o G) i e).1.length=s.1.length:=by
 unfold du gD;show(cW _ _ _).length= _;rw[cu];split
 ·exact fM _ _ _ _
 ·rfl
def zh (g:Gh) (s:WD) (e:Option Int):Prop:= ∀ ⦃f o l x⦄,g f=some (o,l,x)->l<3->some f≠e-> ∃k,0<=k/\k<16/\(az s.1 (16*f+k)).1=true
theorem zh.some {g:Gh} {s:WD} (h:zh g s none) (f:Int):zh g s (some f):=λ_ _ _ _ a b _=>h a b (by simp)
namespace Inv
variable {g:Gh} {s:WD}
theorem down {o p:Int} (b:0<=p/\p<65536) (lv:Nat): ∀(n:Nat) {g:Gh} {s:WD} {f:Int},Inv g s->dm g s o p f (lv+n)->(az s.1 (16*f+px (lv+n) p % 16)).1=false->n<=cz s.2 0->
 ∃g' s' f',pn o p n (s,(f,((lv+n:Nat):Int),16*f+px (lv+n) p % 16,()))=(s',(f',(lv:Int),16*f'+px lv p % 16,()))/\oQ Qe o g g' s s'/\dm g' s' o p f' lv/\(az s'.1 (16*f'+px lv p % 16)).1=false/\cz s'.2 0+n=cz s.2 0/\(zh g s (some f)->zh g' s' (some f'))
 |0,g,s,f,I,a,c, _=>⟨g,s,f,rfl,.refl I _ _,a,c,rfl,λh=>h⟩
 |n+1,g,s,f,I,a,c,hc=>by
  have j:=I.kd a.1;have y:lv+n<=3:=by have:=j.2.2.2.2.2;omega
  have hi:=dR p (lv+n+1);obtain⟨q0,t,z,A,B,l,q,C,D,E⟩:=I.As (m:=lv+n) a.1 hi.1 hi.2 a.2 (by omega) (λ_=>0) (λk _ _=>by
   rw[mh];exact⟨EJ,zO _,λ_=>rfl⟩) (λp' _ nf=>by
   rw[mh,Bx _ _ rfl,Bx];exact c)
  obtain⟨F,G⟩:=C p a rfl;have u:0<=dJ s o/\dJ s o<4096:=⟨D,E⟩;have H:=s9 (d':=(3,o,0,0,())) q 0;have Hw:cz (du (gD s o λ_=>0) (16*f+px (lv+n+1) p % 16) (bP (dJ s o))).2 0+1=cz s.2 0:=by
   rw[l];simpa[zD] using H
  obtain⟨_,u1, _, _, _, _,v,J,w, _⟩:=I.grow (m:=lv+n) a.1 hi.1 hi.2 a.2 (by omega) (λ_=>0) (λk _ _=>by
   rw[mh];exact⟨EJ,zO _,λ_=>rfl⟩)
  have K:oQ Qe o g (jF g (dJ s o) (some (o,lv+n,16*px (lv+n+1+1) p+px (lv+n+1) p % 16))) s (du (gD s o λ_=>0) (16*f+px (lv+n+1) p % 16) (bP (dJ s o))):=
   ⟨t,z,A,B,λ{m d} L j=>by rw[l];exact BM q (λh=>by rcases h with h|h<;>exact absurd h (by decide)) L j,⟨s_ _ _ _ _ _,by rw[l,B5]⟩,I.wY (m:=lv+n) a.1 hi.1 hi.2 (by omega) _ _,λ_ nl=>nl.grow (f:=f) (i:=0) v (λk k0 r b=>by rw[J k k0 r,mh] at b;cases b) (by rw[w];exact dy u),λ{f0 M} x=> .inl (by
    rw[aR (λe=>?_)]
    ·exact x
    ·obtain⟨N,O,P⟩:=M;have:=(I.kd x).2.2.1;rw[e,q] at this;cases this)⟩
  have Q:zh g s (some f)->zh (jF g (dJ s o) (some (o,lv+n,16*px (lv+n+1+1) p+px (lv+n+1) p % 16))) (du (gD s o λ_=>0) (16*f+px (lv+n+1) p % 16) (bP (dJ s o))) (some (dJ s o)):=λh f0 N O P h0 R S=>by
   have T:f0≠dJ s o:=λe=>S (by rw[e]);rw[aR T] at h0;by_cases e:f0=f
   ·subst e;exact⟨_,hi.1,hi.2,by rw[w];rfl⟩
   ·obtain⟨k,r,U,V⟩:=h h0 R (by simpa using e);exact⟨k,r,U,by rw[v _ (by omega) (by omega)];exact V⟩
  obtain⟨g',s',f',W,X,Y,Z,r5,r6⟩:=down b lv n t F (by rw[G,mh];rfl) (by omega);refine⟨g',s',f',?_,K.trans X,Y,Z,by omega,λh=>r6 (Q h)⟩;rw[<-W];show pn o p n (du (gD s o λ_=>0) (16*f+px (lv+(n+1)) p % 16) (bP (dJ s o)),(dJ s o,((lv+(n+1):Nat):Int) - 1,dN (dJ s o) p (((lv+(n+1):Nat):Int) - 1),()))= _;have el:((lv+(n+1):Nat):Int) - 1=((lv+n:Nat):Int):=by omega
  rw[el,nF u b y];rfl
end Inv
set_option maxRecDepth 100000
open Go.RX D
theorem Pn {ds:List DT} (h:cz ds 0=0):gx ds=none:=by
 unfold cz at h;unfold gx;rw[Ih];intro d a;have:=List.countP_eq_zero.1 h d a;simpa using this
theorem wZ {ds:List DT} {y o:Int} (h: ¬ dk ds y o=0):dD ds y o=ds:=by
 unfold dk at h;unfold dD;cases a:gx ds with
 |none=>rfl
 |some n=>
  have b: ¬ ds.length=0:=λe=>by
   have:ds=[]:=HT.1 e;subst this;cases a
  rw[ao b,a] at h;dsimp only at h ⊢;by_cases c:(n:Int)<0\/(n:Int)>=ds.length
  ·exact yy c _
  ·rw[ui (by omega)] at h;rw[oh (by omega),ao h]
theorem DR {s:WD} {o:Int} {G:Int->Int} (h: ¬ oO s o=0):gD s o G=s:=by
 unfold gD;rw[ao h,wZ h]
theorem Ll {s:WD} {o:Int} (h:cz s.2 0=0) (a:0<s.2.length): ¬ oO s o=0:=by
 unfold oO dk;rw[ao (by omega),Pn h];show ¬ (12:Int)=0;decide
theorem yD {p:Int} {j:Nat} {e:ET} (h:(l6 p j e).2.2.1=0):e.1=true:=by
 cases a:e.1 with
 |true=>rfl
 |false=>
  rw[Bx p j a] at h;exact absurd h (by decide)
theorem I9 {ws:List Int} {f:Int} (c:0<=f) (d:16*f+16<=ws.length) {k:Nat} (a:k<16):(fX ws (16*f) 16)[k]? =some (dB ws (16*f+(k:Int))):=by
 have e:fX ws (16*f) 16=(ws.drop (16*f).toNat).take 16:=ao (by omega);rw[e,Hr a,Ht];unfold dB;have hi:(16*f).toNat+k<ws.length:=by omega
 rw[ax (lc (by omega) (by omega)),Bq hi,Di];have b:(16*f+(k:Int)).toNat=(16*f).toNat+k:=by omega
 rw[b,Bq hi];rfl
theorem Au {ws:List Int} {f:Int} (a:0<=f) (b:16*f+16<=ws.length) (h:sI ws f=true) (k:Int) (h0:0<=k) (d:k<16):dB ws (16*f+k)=0:=by
 have c:=I9 a b (k:=k.toNat) (by omega);unfold sI at h;rw[I1] at h;have:=h _ (Bp c);rw[show((k.toNat:Nat):Int)=k from by omega] at this;simpa using this
theorem Lm {ws:List Int} {f:Int} (b:0<=f) (c:16*f+16<=ws.length) (h:sI ws f=false): ∃k:Int,0<=k/\k<16/\dB ws (16*f+k)≠0:=by
 unfold sI at h;rw[Hz] at h;obtain⟨v,hv,d⟩:=h;obtain⟨k,a⟩:=I2 hv;have i:(fX ws (16*f) 16).length=16:=by
  have e:fX ws (16*f) 16=(ws.drop (16*f).toNat).take 16:=ao (by omega);rw[e,Gi,Ho];omega
 have g:k<16:=by have:=(B3.1 a).1;omega
 have:=I9 b c g;rw[a] at this;refine⟨(k:Int),by omega,by omega,λe=>d ?_⟩;cases this;simpa using e
def OZ (F:Nat->Int) (p:Int):Nat->Nat->List PT
 |j,0=>[(F j,(j:Int),16*F j+px j p % 16,())]
 |j,n+1=>(F j,(j:Int),16*F j+px j p % 16,())::OZ F p (j+1) n
structure Up (g:Gh) (s:WD) (o p:Int) (F:Nat->Int) (j:Nat):Prop where
 gh: ∀i,j<=i->i<=3->g (F i)=some (o,i,px (i+1) p)
 ld: ∀i,j<=i->i<3->az s.1 (16*F (i+1)+px (i+1) p % 16)=bP (F i)
theorem Ln (F:Nat->Int) (p:Int) (j n:Nat): ∃l,OZ F p j n=(F j,(j:Int),16*F j+px j p % 16,())::l:=by cases n<;>exact⟨_,rfl⟩
namespace Inv
theorem put {g:Gh} {s:WD} (I:Inv g s) {o r p:Int} (t:g r=some (o,3,0)) (i:0<=p/\p<65536) {lv:Nat} {e:ET} (u:e.1=true) (z:aP e.1 e.2.1 e.2.2.1 e.2.2.2.1=true) (A:dv e=false) (B:iE lv e) (h0:jV s r p lv=0):
 ∃g',oQ (lE o lv p) o g g' s (oV s o r p lv e)/\(∀q,px lv q=px lv p-> ∃f,dm g' (oV s o r p lv e) o q f lv/\az (oV s o r p lv e).1 (16*f+px lv q % 16)=e)/\
  (∃f j,lv<=j/\dm g s o p f j/\(az s.1 (16*f+px j p % 16)).1=false/\cz (oV s o r p lv e).2 0+(j - lv)=cz s.2 0)/\(zh g s none->zh g' (oV s o r p lv e) none):=by
 obtain⟨f,j,P,l⟩:=I.kZ t i;obtain⟨w,eP⟩:=I.lf t i l;have a:=h0;unfold jV at a;rw[w,eP] at a;dsimp only at a;by_cases c:((az s.1 (16*f+px j p % 16)).1||decide (((j:Nat):Int)<((lv:Nat):Int)))=true
 ·rw[ax c] at a;exact absurd a (by decide)
 rw[ao c] at a;by_cases C:(cz s.2 0:Int)<((j:Nat):Int) - ((lv:Nat):Int)
 ·rw[ax C] at a;exact absurd a (by decide)
 simp only[Ey,decide_eq_true_eq,not_or,Bool.not_eq_true] at c;obtain⟨n,rfl⟩: ∃n,j=lv+n:=⟨j - lv,by omega⟩;obtain⟨g1,s1,f1,d1,C1,E1,Q,R,D⟩:=down i lv n I l c.1 (by omega);have E:oV s o r p lv e=(cW s1.1 (16*f1+px lv p % 16) (Hi e),s1.2):=by
  unfold oV;rw[ax h0,w];have en:(((lv+n:Nat):Int) - ((lv:Nat):Int)).toNat=n:=by omega
  dsimp only;rw[en,d1];rfl
 rw[E];have hv:dP (Hi e)=e:=s7 z;have hi:=dR p lv;obtain⟨F,G,H,J,x⟩:=C1.inv.uJ (v:=Hi e) E1.1 hi.1 hi.2 E1.2 (by rw[hv];exact A) (by rw[hv];exact B) (λh=>by rw[hv,u] at h;cases h) E1 rfl;refine⟨g1,(C1.mono λ_ _ h=>h.elim).trans ⟨F,.refl _,G,H,λ{m d} h k=>⟨d,h,k.elim (λe=> .inr ⟨e,e⟩) .inl⟩,⟨cu _ _ _,rfl⟩,C1.inv.yC E1.1 hi.1 hi.2 _,λK nl=>nl.upd E1.1 hi.1 hi.2 (λb hb=>ft (λe=>hb e.symm)) λ_ _=>K.lv,λh=> .inl h⟩,λq y=>⟨f1,(J q y).1,?_⟩,⟨f,lv+n,by omega,l,c.1,?_⟩,λh=>?_⟩
 ·show az (cW s1.1 _ _) _= _;rw[y,x,hv]
 ·show cz s1.2 0+ _= _;omega
 ·intro f0 S T U h0 L _;by_cases ef:f0=f1
  ·subst ef;exact⟨_,hi.1,hi.2,by show(az (cW s1.1 _ _) _).1=true;rw[x,hv];exact u⟩
  ·obtain⟨k,M,N,O⟩:=D (h.some f) h0 L (by simpa using ef);exact⟨k,M,N,by show(az (cW s1.1 _ _) _).1=true;rw[ft (by omega)];exact O⟩
end Inv
set_option maxRecDepth 100000
open Go.RX D
theorem RW (x y:PT) (l:List PT) (t:WD):gT (x::y::l) t=if sI t.1 x.1=true then gT (y::l) (cW t.1 y.2.2.1 0,fC t.2 x.1 (aE 5 0)) else t:=rfl
theorem TT {ws:List Int} {a:Int} (h:dB ws a=0):az ws a=zE:=by unfold az;rw[h];exact mh
theorem Up.ne {g:Gh} {s:WD} {o p:Int} {F:Nat->Int} {j:Nat} (U:Up g s o p F j) {a b:Nat} (d:j<=a) (f:a<=3) (hb:j<=b) (i:b<=3) (h:a≠b):F a≠F b:=λe=>by
 have c:=U.gh a d f;rw[e,U.gh b hb i] at c;simp only[Bd,Bb,true_and] at c;exact h c.1.symm
theorem lh {r:Int} {l:Bool} {f:Int}:aP true r l f=true<->(0<=r/\r<=7/\0<=f/\f<4096/\(r>0\/l=false)):=by
 unfold aP;cases l<;>simp<;>omega
theorem Ir {p:Bool} {r:Int} {l:Bool} {f:Int} (h:r≠0):dv (p,r,l,f,())=false:=by
 unfold dv fa;simp[h]
namespace Inv
theorem split {g:Gh} {s:WD} (I:Inv g s) {o r p:Int} (F:g r=some (o,3,0)) (G:0<=p/\p<65536) {f:Int} {j:Nat} (a:dm g s o p f j) (b:(az s.1 (16*f+px j p % 16)).1=true) (h0:jY s o r p=0):
 ∃g' f',oQ Qe o g g' s (ew s o r p)/\dm g' (ew s o r p) o p f' 0/\cz (ew s o r p).2 0+j=cz s.2 0/\(zh g s none->zh g' (ew s o r p) none):=by
 obtain⟨l,eP⟩:=I.lf F G a;have hi:=dR p j;rcases I.leaf a.1 hi.1 hi.2 b a.2 with ⟨rfl, _⟩|⟨rfl,n,x⟩
 ·have q:ew s o r p=s:=by unfold ew;rw[l];exact ax rfl
  rw[q];exact⟨g,f,.refl I _ _,a,rfl,λh=>h⟩
 ·have H:jY s o r p=oO s o:=by unfold jY;rw[l];exact ao (by show ¬ ((1:Int)=0);decide)
  rw[H] at h0;have q:ew s o r p=du (gD s o (lQ (az s.1 (16*f+px 1 p % 16)))) (16*f+px 1 p % 16) (bP (dJ s o)):=by
   unfold ew;rw[l,eP];rw[ao (by show ¬ ((1:Int)=0);decide),ax h0]
  have y:=I.kd a.1;have hc:0<cz s.2 0:=by
   rcases Nat.eq_zero_or_pos (cz s.2 0) with e|e
   ·exact absurd h0 (Ll e (by omega))
   ·exact e
  have t:=lr s.1 (16*f+px 1 p % 16);rw[q];have J:=a.2;generalize K:az s.1 (16*f+px 1 p % 16)=e at n x t b J ⊢;obtain⟨ep,er,el,ef,eu⟩:=e;dsimp only at n x t b;subst n;subst b;obtain⟨L,M,b3,b4,z⟩:=lh.1 t;have z:er>0:=z.elim id (λh=>by cases h);have u: ∀k:Int,0<=k->k<16->dP (lQ (true,er,true,ef,()) k)=(true,er,false,ef+k,()):=λk k0 c=>by
   show dP (tu true er false (ef+k))= _;exact s7 (lh.2 ⟨L,M,by omega,by omega,.inr rfl⟩)
  have A: ∀k,0<=k->k<16->dv (dP (lQ (true,er,true,ef,()) k))=false/\iE 0 (dP (lQ (true,er,true,ef,()) k))/\((dP (lQ (true,er,true,ef,()) k)).1=false->lQ (true,er,true,ef,()) k=0):=λk k0 c=>by
   rw[u k k0 c];exact⟨Ir (by omega),λ_ _=> .inl ⟨rfl,rfl⟩,λh=>by cases h⟩
  obtain⟨q0,N,O,P,Q,v,w,R,S,T⟩:=I.As (m:=0) a.1 hi.1 hi.2 a.2 hc (lQ (true,er,true,ef,())) A (λp' hp0 nf=>by
   rw[u _ (dR p' 0).1 (dR p' 0).2,K];rfl)
  obtain⟨_,u1, _, _, _, _,B,U,C, _⟩:=I.grow (m:=0) a.1 hi.1 hi.2 a.2 hc (lQ (true,er,true,ef,())) A;obtain⟨V,e2⟩:=R p a rfl;have W:=s9 (d':=(3,o,0,0,())) w 0;refine⟨_,dJ s o,⟨N,O,P,Q,λ{m d} X y=>by rw[v];exact BM w (λh=>by rcases h with h|h<;>exact absurd h (by decide)) X y,⟨s_ _ _ _ _ _,by rw[v,B5]⟩,I.wY (m:=0) a.1 hi.1 hi.2 hc _ _,λ_ nl=>nl.grow (f:=f) (i:=0) B (λ_ _ _ _=>rfl) (by rw[C];exact dy ⟨S,T⟩),λ{f0 Y} D=> .inl (by
   rw[aR (λe=>?_)]
   ·exact D
   ·obtain⟨Z,l0,x0⟩:=Y;have:=(I.kd D).2.2.1;rw[e,w] at this;cases this)⟩,V,?_,?_⟩
  ·rw[v];simpa[zD] using W
  ·intro h f0 Z l0 x0 h0 C5 _;by_cases E:f0=dJ s o
   ·subst E;exact⟨0,by decide,by decide,by rw[U 0 (by decide) (by decide),u 0 (by decide) (by decide)]⟩
   ·rw[aR E] at h0;by_cases e:f0=f
    ·subst e;exact⟨_,hi.1,hi.2,by rw[C];rfl⟩
    ·obtain⟨k,c,k2,k3⟩:=h h0 C5 (by simp);exact⟨k,c,k2,by rw[B _ (by omega) (by omega)];exact k3⟩
theorem thin {o p:Int} (t:0<=p/\p<65536) {F:Nat->Int}: ∀(n:Nat) {j:Nat} {g:Gh} {s:WD},j+n=3->Inv g s->Up g s o p F j->
 ∃g',oQ Qe o g g' s (gT (OZ F p j n) s)/\cz (gT (OZ F p j n) s).2 0=cz s.2 0/\(zh g s (some (F j))->zh g' (gT (OZ F p j n) s) none)
 |0,j,g,s,O,I,U=>by
  refine⟨g,.refl I _ _,rfl,λh f0 z A B h0 q _=>h h0 q (λe=>?_)⟩;have C:=U.gh j (BA _) (by omega);cases e;rw[h0] at C;simp only[Bd,Bb] at C;omega
 |n+1,j,g,s,O,I,U=>by
  obtain⟨l',D⟩:=Ln F p (j+1) n;have P:OZ F p j (n+1)=(F j,(j:Int),16*F j+px j p % 16,())::(F (j+1),((j+1:Nat):Int),16*F (j+1)+px (j+1) p % 16,())::l':=by rw[OZ,D]
  have u:=U.gh j (BA _) (by omega);have g1:=U.gh (j+1) (by omega) (by omega);have Q:=U.ld j (BA _) (by omega);have hi:=dR p (j+1);have f:=I.sS u;rw[P,RW];cases v:sI s.1 (F j) with
  |false=>
   rw[ao (by decide)];refine⟨g,.refl I _ _,rfl,λh f0 z A B h0 q _=>?_⟩;by_cases e:f0=F j
   ·subst e;obtain⟨k,k0,c,w⟩:=Lm f.1 f.2.2 v;refine⟨k,k0,c,?_⟩;cases hb:(az s.1 (16*F j+k)).1 with
    |true=>rfl
    |false=>exact absurd (I.wf u k0 c hb) w
   ·exact h h0 q (by simpa using e)
  |true=>
   rw[ax rfl];dsimp only;have R:g (F j)=some (o,j,16*px (j+1+1) p+px (j+1) p % 16):=by rw[<-mT];exact u
   obtain⟨x,E,G,H,l,r,S,J⟩:=I.Gq g1 hi.1 hi.2 R Q (λk k0 c=>TT (Au f.1 f.2.2 v k k0 c));dsimp only at x E G H l r S J;have C1:oQ Qe o g (jF g (F j) none) s (cW s.1 (16*F (j+1)+px (j+1) p % 16) 0,fC s.2 (F j) (aE 5 0)):=
    ⟨x,E,G,H,λ{m d} y T=>by rw[l];exact BM r (λ_=>rfl) y T,⟨cu _ _ _,by rw[l,B5]⟩,by rw[l];exact Kept.set r (show ¬ (3:Int)=4/\ ¬ (3:Int)=5 by decide) ⟨.inr rfl,rfl,(I.kd g1).2.2.2.1,(I.kd g1).2.2.2.2.1⟩ λ{m d} y V k k0 c=>by rw[mi (I.off g1 hi.1 hi.2 y V k0 c)],λ_ nl=>(nl.upd (s':=(cW s.1 (16*F (j+1)+px (j+1) p % 16) 0,fC s.2 (F j) (aE 5 0))) g1 hi.1 hi.2 (λb hb=>ft (λe=>hb e.symm)) λt _=>by rw[J] at t;cases t).del _,λ{f0 v0} W=>by
     by_cases e:f0=F j
     ·subst e;have X:=U.ne (a:=j) (b:=j+1) (by omega) (by omega) (by omega) (by omega) (by omega);refine .inr ⟨f.1, _,by rw[l];exact Bo (B3.1 r).1,rfl,λk k0 c=>?_⟩;show dB (cW s.1 _ _) _=0;rw[mi (by omega)];exact Au f.1 f.2.2 v k k0 c
     ·exact .inl (by rw[aR e];exact W)⟩
   have Y:Up (jF g (F j) none) (cW s.1 (16*F (j+1)+px (j+1) p % 16) 0,fC s.2 (F j) (aE 5 0)) o p F (j+1):=by
    refine⟨λi Z h2=>?_,λi Z h2=>?_⟩
    ·rw[aR (U.ne (by omega) h2 (BA _) (by omega) (by omega))];exact U.gh i (by omega) h2
    ·have X:=U.ne (a:=i+1) (b:=j+1) (by omega) (by omega) (by omega) (by omega) (by omega);have Tt:=dR p (i+1);show az (cW _ _ _) _= _;rw[ft (by omega)];exact U.ld i (by omega) h2
   obtain⟨g',K,L,M⟩:=thin t n (by omega) x Y;rw[D] at K L M;refine⟨g',C1.trans K,L.trans ?_,λh=>M λf0 z A B h0 q P9=>?_⟩
   ·have:=s9 (d':=(5,o,0,0,())) r 0;rw[l];simpa using this
   ·have N:f0≠F j:=λe=>by rw[e,bu] at h0;cases h0
    have n2:f0≠F (j+1):=λe=>P9 (by rw[e]);rw[aR N] at h0;obtain⟨k,k0,c,w⟩:=h h0 q (by simpa using N);exact⟨k,k0,c,by show(az (cW _ _ _) _).1=true;rw[ft (by omega)];exact w⟩
end Inv
set_option maxRecDepth 100000
open Go.RX D
namespace Inv
variable {g:Gh} {s:WD}
theorem X3 (I:Inv g s) {o r p f0:Int} (v:g r=some (o,3,0)) (a:0<=p/\p<65536) (E:dm g s o p f0 0):
 ∃F:Nat->Int,F 0=f0/\Up g s o p F 0/\(cJ s.1 p 3 r).reverse=OZ F p 0 3:=by
 obtain⟨f1,a1,j⟩:=I.A4 E.1 (by decide);obtain⟨f2,e,k⟩:=I.A4 a1 (by decide);obtain⟨f3,f,m⟩:=I.A4 e (by decide);have w:f3=r:=by
  refine I.inj f ?_;rw[v];have:=Tq a;simp only[px] at this ⊢;rw[this]
 subst w;have b:=I.sS E.1;have c:=I.sS a1;have d:=I.sS e;have n:=I.sS f;refine⟨λi=>match i with|0=>f0|1=>f1|2=>f2| _=>f3,rfl,⟨λi _ h=>?_,λi _ h=>?_⟩,?_⟩
 ·rcases i with _| _| _| _|i
  ·exact E.1
  ·exact a1
  ·exact e
  ·exact f
  ·omega
 ·rcases i with _| _| _|i
  ·exact j
  ·exact k
  ·exact m
  ·omega
 ·have q:=nF ⟨n.1,n.2.1⟩ a (l:=3) (by omega);have t:=nF ⟨d.1,d.2.1⟩ a (l:=2) (by omega);have u:=nF ⟨c.1,c.2.1⟩ a (l:=1) (by omega);have x:=nF ⟨b.1,b.2.1⟩ a (l:=0) (by omega);have t2:=dy ⟨d.1,d.2.1⟩;have t1:=dy ⟨c.1,c.2.1⟩;have t0:=dy ⟨b.1,b.2.1⟩;have y:az s.1 (dN f3 p ((2+1:Nat):Int))=bP f2:=by rw[q];exact m
  have z:az s.1 (dN f2 p ((1+1:Nat):Int))=bP f1:=by rw[t];exact k
  have A:az s.1 (dN f1 p ((0+1:Nat):Int))=bP f0:=by rw[u];exact j
  have w0:cJ s.1 p 0 f0=[(f0,0,dN f0 p 0,())]:=rfl;have w1:cJ s.1 p 1 f1=[(f1,((0+1:Nat):Int),dN f1 p ((0+1:Nat):Int),()),(f0,0,dN f0 p 0,())]:=by rw[cJ,A,ax t0];rfl
  have B:cJ s.1 p 2 f2=[(f2,((1+1:Nat):Int),dN f2 p ((1+1:Nat):Int),()),(f1,((0+1:Nat):Int),dN f1 p ((0+1:Nat):Int),()),(f0,0,dN f0 p 0,())]:=by
   rw[cJ,z,ax t1];show _::cJ s.1 p 1 f1= _;rw[w1]
  have C:cJ s.1 p 3 f3=[(f3,((2+1:Nat):Int),dN f3 p ((2+1:Nat):Int),()),(f2,((1+1:Nat):Int),dN f2 p ((1+1:Nat):Int),()),(f1,((0+1:Nat):Int),dN f1 p ((0+1:Nat):Int),()),(f0,0,dN f0 p 0,())]:=by
   rw[cJ,y,ax t2];show _::cJ s.1 p 2 f2= _;rw[B]
  have D:dN f0 p 0=16*f0+px 0 p % 16:=x;have G:dN f1 p ((0+1:Nat):Int)=16*f1+px 1 p % 16:=u;have H:dN f2 p ((1+1:Nat):Int)=16*f2+px 2 p % 16:=t;have J:dN f3 p ((2+1:Nat):Int)=16*f3+px 3 p % 16:=q;rw[C,D,G,H,J];rfl
theorem DU {s:WD} {n:Nat} {d:DT} (h:s.2[n]? =some d) (k:d.1=3\/d.1=5): ∃d':DT,s.2[n]? =some d'/\(d'.1=5\/(d'.1=3/\d.1=3)):=⟨d,h,k.elim (λe=> .inr ⟨e,e⟩) .inl⟩
theorem zN (I:Inv g s) {o r p:Int} (m:g r=some (o,3,0)) (c:0<=p/\p<65536) (h0:x9 s o r false p=0):
 ∃g',oQ (lE o 0 p) o g g' s (kR s o r false p)/\a_ (kR s o r false p) r false p=(0,0,4,())/\(a_ s r false p).2.2.1=0/\
  (∃f j,j<=1/\dm g s o p f j/\(az s.1 (16*f+px j p % 16)).1=true/\cz (kR s o r false p).2 0+j=cz s.2 0)/\(zh g s none->zh g' (kR s o r false p) none):=by
 have n:(a_ s r false p).2.2.1=0:=by
  unfold x9 at h0;by_cases h:(a_ s r false p).2.2.1=0
  ·exact h
  ·rw[ao h] at h0;exact h0
 have w:jY s o r p=0:=by unfold x9 at h0;rw[ax n] at h0;exact h0
 obtain⟨f,j,W,d⟩:=I.kZ m c;have x:=n;rw[I.fT m c d] at x;have q:=yD x;have B:j<=1:=by
  rcases I.leaf d.1 (dR p j).1 (dR p j).2 q d.2 with h|h<;>omega
 obtain⟨g1,f0,C1,E1,C,D⟩:=I.split m c d q w;have E:kR s o r false p=gT (cJ (ew s o r p).1 p 3 r).reverse (cW (ew s o r p).1 (dh (ew s o r p).1 r p).2.2.1 0,(ew s o r p).2):=by
  unfold kR;rw[ax n,ax w]
 have u:=C1.root.to m;have G:=(C1.inv.lf u c E1).1;rw[E,G];generalize ew s o r p=t at*
 have hi:=dR p 0;obtain⟨y,H,J,K,L⟩:=C1.inv.uJ (v:=0) E1.1 hi.1 hi.2 E1.2 (by rw[mh];exact EJ) (by rw[mh];exact zO _) (λ_=>rfl) E1 rfl;obtain⟨F,z,U,M⟩:=C1.inv.X3 u c E1;rw[M];dsimp only;have N:Up g1 (cW t.1 (16*f0+px 0 p % 16) 0,t.2) o p F 0:=by
  refine⟨U.gh,λi l h2=>?_⟩;have O:=U.ne (a:=i+1) (b:=0) (by omega) (by omega) (by omega) (by omega) (by omega);have X:=dR p (i+1);rw[z] at O;show az (cW _ _ _) _= _;rw[ft (by omega)];exact U.ld i l h2
 obtain⟨P,C3,Q,R⟩:=thin c 3 rfl y N;have C2:oQ (lE o 0 p) o g1 g1 t (cW t.1 (16*f0+px 0 p % 16) 0,t.2):=⟨y,.refl _,H,J,λh k=>DU h k,⟨cu _ _ _,rfl⟩,C1.inv.yC E1.1 hi.1 hi.2 _,λ_ nl=>nl.upd E1.1 hi.1 hi.2 (λb hb=>ft (λe=>hb e.symm)) λ_ _=>rfl,λh=> .inl h⟩;refine⟨P,((C1.mono λ_ _ h=>h.elim).trans C2).trans (C3.mono λ_ _ h=>h.elim),?_,n,⟨f,j,B,d,q,?_⟩,λh=>?_⟩
 ·obtain⟨f',Y,l,h2⟩:=C3.zy (λh=>h) (K p rfl).1;rw[C3.inv.fT (C3.root.to u) c l,h2];show l6 p 0 (az (cW t.1 _ _) _)= _;rw[L,mh];rfl
 ·show cz _ 0+j= _;rw[Q];exact C
 ·refine R λf1 Z l1 x1 l S A=>?_;rw[z] at A;have tl:f1≠f0:=λe=>A (by rw[e]);obtain⟨k,k0,T,V⟩:=D h l S (by simp);exact⟨k,k0,T,by show(az (cW _ _ _) _).1=true;rw[ft (by omega)];exact V⟩
theorem pz (I:Inv g s) {o r p rt:Int} (i:g r=some (o,3,0)) (h0:Bt s o r false p rt=0):
 (0<=p/\p<65536)/\ ∃g',oQ (lE o 0 p) o g g' s (n6 s o r false p rt)/\(a_ s r false p).2.2.1=0/\a_ (n6 s o r false p rt) r false p=((a_ s r false p).1,rt,0,())/\
  cz s.2 0<=cz (n6 s o r false p rt).2 0+1:=by
 have u: ¬ (false=true):=by decide
 unfold Bt at h0;rw[ao u] at h0;have a:jX p 0 rt=0:=by
  by_cases h:jX p 0 rt=0
  ·exact h
  ·rw[ao h] at h0;exact h0
 rw[ax a] at h0;have C:(0<=p/\p<65536)/\1<=rt/\rt<=7:=by
  unfold jX at a;by_cases w:p<0\/p>=65536\/(0:Int)<0\/(0:Int)>=4096
  ·rw[ax w] at a;exact absurd a (by decide)
  ·rw[ao w] at a;by_cases h2:rt<1\/rt>7
   ·rw[ax h2] at a;exact absurd a (by decide)
   ·omega
 obtain⟨c,O⟩:=C;refine⟨c,?_⟩;obtain⟨f,j,P,d⟩:=I.kZ i c;obtain⟨D,eP⟩:=I.lf i c d;have Q:=I.fT i c d;by_cases l:(cK s.1 r p).1=true
 ·rw[ax l] at h0;have E:n6 s o r false p rt=(if((cK s.1 r p).2.2.1&&(cK s.1 r p).2.1==rt)=true then s
   else if jY s o r p=0 then du (ew s o r p) (dh (ew s o r p).1 r p).2.2.1 (true,rt,false,np p (dh s.1 r p) (cK s.1 r p),()) else ew s o r p):=by
   unfold n6;rw[ao u,ax a,ax l]
  rw[E];have m:(az s.1 (16*f+px j p % 16)).1=true:=by rw[<-eP];exact l
  have q:a_ s r false p=(np p (dh s.1 r p) (cK s.1 r p),(cK s.1 r p).2.1,0,()):=by
   unfold a_;rw[ao u,ao (by omega),ax l]
  by_cases n:((cK s.1 r p).2.2.1&&(cK s.1 r p).2.1==rt)=true
  ·rw[ax n];refine⟨g,.refl I _ _,by rw[q],?_,by omega⟩;rw[q];simp only[K1,beq_iff_eq] at n;rw[n.2]
  ·rw[ao n] at h0;rw[ao n,ax h0];obtain⟨g1,f0,C1,E1,d1,R⟩:=I.split i c d m h0;have x:=C1.root.to i;have F:=(C1.inv.lf x c E1).1;rw[F];have y:0<=np p (dh s.1 r p) (cK s.1 r p)/\np p (dh s.1 r p) (cK s.1 r p)<4096:=by
    have z:=lr s.1 (16*f+px j p % 16);have A:=I.leaf d.1 (dR p j).1 (dR p j).2 m d.2;rw[eP,D];generalize az s.1 (16*f+px j p % 16)=e at*
    obtain⟨ep,er,el,ef,S⟩:=e;dsimp only at m z A;subst m;obtain⟨T,U,G,H,V⟩:=lh.1 z;unfold np;dsimp only;rcases A with ⟨rfl, _⟩|⟨rfl, _,W⟩
    ·rw[ao (by decide)];exact⟨G,H⟩
    ·rw[ax (by decide)];omega
   have X:j<=1:=by
    rcases I.leaf d.1 (dR p j).1 (dR p j).2 m d.2 with h|h<;>omega
   have J:(a_ s r false p).1=np p (dh s.1 r p) (cK s.1 r p):=by rw[q]
   rw[J];generalize np p (dh s.1 r p) (cK s.1 r p)=fr at*
   generalize ew s o r p=t at*
   have hv:dP (Hi (true,rt,false,fr,()))=(true,rt,false,fr,()):=by
    show dP (tu true rt false fr)= _;exact s7 (lh.2 ⟨by omega,by omega,y.1,y.2,.inr rfl⟩)
   have hi:=dR p 0;obtain⟨B,K,L,M,N⟩:=C1.inv.uJ (v:=Hi (true,rt,false,fr,())) E1.1 hi.1 hi.2 E1.2 (by rw[hv];exact Ir (by omega)) (by rw[hv];exact λ_ _=> .inl ⟨rfl,rfl⟩) (λh=>by rw[hv] at h;cases h) E1 rfl;have C2:oQ (lE o 0 p) o g1 g1 t (cW t.1 (16*f0+px 0 p % 16) (Hi (true,rt,false,fr,())),t.2):=⟨B,.refl _,K,L,λh k=>DU h k,⟨cu _ _ _,rfl⟩,C1.inv.yC E1.1 hi.1 hi.2 _,λ_ nl=>nl.upd E1.1 hi.1 hi.2 (λb hb=>ft (λe=>hb e.symm)) λ_ _=>rfl,λh=> .inl h⟩;refine⟨g1,(C1.mono λ_ _ h=>h.elim).trans C2,by rw[q],?_,?_⟩
   ·show a_ (cW t.1 (16*f0+px 0 p % 16) _,t.2) r false p= _;rw[B.fT x c (M p rfl).1];show l6 p 0 (az (cW t.1 _ _) _)= _;rw[N,hv];rfl
   ·show _<=cz t.2 0+1;omega
 ·rw[ao l] at h0;exact absurd h0 (by decide)
theorem map (I:Inv g s) {o r p f rt:Int} (c:g r=some (o,3,0)) (h0:iw s r false p f rt=0):
 (0<=p/\p<65536)/\ ∃g',oQ (lE o 0 p) o g g' s (ik s o r false p f rt)/\a_ (ik s o r false p f rt) r false p=(f,rt,0,())/\1<=rt/\(a_ s r false p).2.2.1=4/\
  (∃f0,dm g' (ik s o r false p f rt) o p f0 0)/\
  (∃f0 j,dm g s o p f0 j/\cz (ik s o r false p f rt).2 0+j=cz s.2 0)/\(zh g s none->zh g' (ik s o r false p f rt) none):=by
 have d: ¬ (false=true):=by decide
 unfold iw at h0;rw[ao d] at h0;have a:jX p f rt=0:=by
  by_cases h:jX p f rt=0
  ·exact h
  ·rw[ao h] at h0;exact h0
 rw[ax a] at h0;have m:(0<=p/\p<65536)/\(0<=f/\f<4096)/\1<=rt/\rt<=7:=by
  unfold jX at a;by_cases i:p<0\/p>=65536\/f<0\/f>=4096
  ·rw[ax i] at a;exact absurd a (by decide)
  ·rw[ao i] at a;by_cases h2:rt<1\/rt>7
   ·rw[ax h2] at a;exact absurd a (by decide)
   ·omega
 obtain⟨b,k,n⟩:=m;have q:ik s o r false p f rt=oV s o r p 0 (true,rt,false,f,()):=by unfold ik;rw[ao d,ax a]
 rw[q];have t:aP true rt false f=true:=lh.2 ⟨by omega,by omega,k.1,k.2,.inr rfl⟩;obtain⟨g',C,A,⟨f1,j,x,l,u,hc⟩,v⟩:=I.put c b (lv:=0) (e:=(true,rt,false,f,())) rfl t (Ir (by omega)) (λ_ _=> .inl ⟨rfl,rfl⟩) h0;obtain⟨f2,E2,w⟩:=A p rfl;refine⟨b,g',C,?_,n.1,?_,⟨f2,E2⟩,⟨f1,j,l,hc⟩,v⟩
 ·have h:=C.inv.fT (C.root.to c) b E2;rw[w] at h;exact h
 ·rw[I.fT c b l,Bx _ _ u]
end Inv
set_option maxRecDepth 100000
open Go.RX D
def fresh (n m:Nat):WD:=(C7 n 0,C7 m zD)
abbrev Y1:Gh:=λ_=>none
theorem Gr {n m:Nat} (h:16*m<=n) (b:m<=4096):Inv Y1 (fresh n m) where
 len:=by
  show 16*(C7 m zD).length<=(C7 n (0:Int)).length;simpa using h
 le:=by
  show(C7 m zD).length<=4096;simpa using b
 fz:=λd a _=>In a
 kd:=by intro f o l x h;cases h
 inj:=by intro f o l h;cases h
 oG:=by intro f o l x i h;cases h
 leaf:=by intro f o l x i h;cases h
 A4:=by intro f o l x h;cases h
 wf:=by intro f o l x i h;cases h
 tb:=by
  intro k d a c;have:d=zD:=In (Bp a);subst this;cases c
namespace Inv
variable {g:Gh} {s:WD}
theorem born (I:Inv g s) {o:Int} (y:1<=o/\o<=16) (D: ∀f,g f≠some (o,3,0)) (hc:0<cz s.2 0):
 oO s o=0/\g (dJ s o)=none/\0<=dJ s o/\dJ s o<s.2.length/\(gD s o λ_=>0).2=s.2.set (dJ s o).toNat (3,o,0,0,())/\s.2[(dJ s o).toNat]? =some zD/\
 (∀b,(b<16*dJ s o\/16*dJ s o+16<=b)->dB (gD s o λ_=>0).1 b=dB s.1 b)/\
 (∀k,0<=k->k<16->dB (gD s o λ_=>0).1 (16*dJ s o+k)=0)/\(gD s o λ_=>0).1.length=s.1.length/\
 Inv (jF g (dJ s o) (some (o,3,0))) (gD s o λ_=>0):=by
 obtain⟨n,O,E,P,Q,R⟩:=rb hc I.fz y;have F:dJ s o=(n:Int):=P;have G:oO s o=0:=Q;have S:=I.len;have T:=I.le;have U:16*(n:Int)+16<=s.1.length:=by omega
 obtain⟨W,t⟩: ∃W,W=dS s.1 (n:Int) (λ_=>0) 16:=⟨_,rfl⟩;have H:W.length=s.1.length:=by rw[t,fM]
 have J: ∀b,dB W b=if 16*(n:Int)<=b/\b<16*(n:Int)+16 then 0 else dB s.1 b:=λb=>by
  rw[t];exact pA (by omega) U 16 (BA _) b
 have V:gD s o (λ_=>0)=(W,s.2.set n (3,o,0,0,())):=by unfold gD;rw[ax G,F,R,t]
 clear t;have K:g (n:Int)=none:=by
  cases X:g (n:Int) with
  |none=>rfl
  |some v=>
   obtain⟨a,b,c⟩:=v;have:=(I.kd X).2.2.1;rw[show((n:Int)).toNat=n from rfl,E] at this;cases this
 have u: ∀{f':Int} {v},g f'=some v->f'≠(n:Int):=λh e=>by rw[e,K] at h;cases h
 rw[V,F];have z: ∀b,(b<16*(n:Int)\/16*(n:Int)+16<=b)->dB W b=dB s.1 b:=λb h=>by rw[J b,ao (by omega)]
 have A: ∀k,0<=k->k<16->dB W (16*(n:Int)+k)=0:=λk h0 i=>by rw[J,ax (by omega)]
 have w1: ∀b,(b<16*(n:Int)\/16*(n:Int)+16<=b)->az W b=az s.1 b:=λb h=>by unfold az;rw[z b h]
 have L: ∀k,0<=k->k<16->az W (16*(n:Int)+k)=zE:=λk h0 i=>by unfold az;rw[A k h0 i];exact mh
 have gm: ∀{f0 p q k:Int} {j:Nat},g f0=some (p,j,q)->0<=k->k<16->az W (16*f0+k)=az s.1 (16*f0+k):=λ{f0 p q k j} h h0 i=>by
  have:=u h;exact w1 _ (by omega)
 refine⟨G,K,by omega,by omega,rfl,by rw[show((n:Int)).toNat=n from rfl];exact E,z,A,H,?_⟩;refine⟨?_,?_,?_,?_,?_,?_,?_,?_,?_,?_⟩
 ·show 16*(s.2.set n _).length<=W.length;rw[H,B5];exact S
 ·show(s.2.set n _).length<=4096;rw[B5];exact T
 ·intro d B h0;rcases Eo B with B|rfl
  ·exact I.fz d B h0
  ·cases h0
 ·intro f0 p j q h;show _/\ _<((s.2.set n (3,o,0,0,())).length:Int)/\(s.2.set n (3,o,0,0,()))[f0.toNat]? = _/\ _;rw[B5];by_cases e:f0=(n:Int)
  ·subst e;rw[bu] at h;cases h;refine⟨by omega,by omega,?_,y.1,y.2,by omega⟩;rw[show((n:Int)).toNat=n from rfl,Bo O]
  ·rw[aR e] at h;obtain⟨a1,Y,Z,a4⟩:=I.kd h;refine⟨a1,Y,?_,a4⟩;rw[B4 (by omega)];exact Z
 ·intro a b v r hb;by_cases e:a=(n:Int)<;>by_cases w:b=(n:Int)
  ·rw[e,w]
  ·subst e;rw[bu] at r;rw[aR w] at hb;cases r;exact absurd hb (D b)
  ·subst w;rw[bu] at hb;rw[aR e] at r;cases hb;exact absurd r (D a)
  ·rw[aR e] at r;rw[aR w] at hb;exact I.inj r hb
 ·intro f0 p j q k h h0 i l;by_cases e:f0=(n:Int)
  ·subst e;have l:dv (az W (16*(n:Int)+k))=true:=l;rw[L k h0 i,EJ] at l;cases l
  ·rw[aR e] at h;have l:dv (az W (16*f0+k))=true:=l;show∃m,j=m+1/\jF g n _ (az W (16*f0+k)).2.2.2.1= _;rw[gm h h0 i] at l ⊢;obtain⟨m',q1,M⟩:=I.oG h h0 i l;exact⟨m',q1,by rw[aR (u M)];exact M⟩
 ·intro f0 p j q k h h0 i;show iE j (az W (16*f0+k));by_cases e:f0=(n:Int)
  ·subst e;rw[L k h0 i];exact zO _
  ·rw[aR e] at h;rw[gm h h0 i];exact I.leaf h h0 i
 ·intro f0 p j q h hl;by_cases e:f0=(n:Int)
  ·subst e;rw[bu] at h;cases h;omega
  ·rw[aR e] at h;obtain⟨f',C,p2⟩:=I.A4 h hl;refine⟨f',by rw[aR (u C)];exact C,?_⟩;show az W _= _;rw[gm C (by omega) (by omega)];exact p2
 ·intro f0 p j q k h h0 i x;show dB W (16*f0+k)=0;by_cases e:f0=(n:Int)
  ·subst e;exact A k h0 i
  ·rw[aR e] at h;have x:(az W (16*f0+k)).1=false:=x;rw[gm h h0 i] at x;have:=u h;rw[z _ (by omega)];exact I.wf h h0 i x
 ·intro N d Tr h3;by_cases e:N=n
  ·subst e;exact⟨_,bu _ _ _⟩
  ·have h':(s.2.set n (3,o,0,0,()))[N]? =some d:=Tr;rw[B4 (by omega)] at h';obtain⟨v,hv⟩:=I.tb h' h3;exact⟨v,by rw[aR (by omega)];exact hv⟩
end Inv
end Go.Proofs.YteeflilbnoknnaaGreat
