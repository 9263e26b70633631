import Derived.Test.YtlcenllcmeebhaaGreatPCC
/-! What the statement leans on: texts joined and shortened by a program of mine. -/
set_option linter.unusedVariables false
set_option linter.unusedSimpArgs false
open Go renaming World->A2,Addr->AC,Value->AR,MapEntry->Ax
open Go.Proofs.Tryz renaming prog->AB
open Eq renaming mpr->Ab
open Go.IntKind renaming i64->Az
open List renaming range->B1,length_set->B3,getElem?_eq_some_iff->B4,length_cons->B9,getElem?_set_ne->BT,replicate->Bs,getElem?_eq_getElem->Bx,mem_of_getElem?->C6,sublist_cons_self->DA,mem_append_right->DB,getD_eq_getElem?_getD->DG,perm_middle->DM,getElem?_set_self->DU,length_map->DY,append_nil->Db,mem_or_eq_of_mem_set->Dl,length_append->Dn,mem_cons_self->Do,getElem?_append_left->Ds,mem_cons->Dy,mem_singleton->E4,length_take->E5,drop_of_length_le->F5,take_add_one->FC,sublist_append_left->FG,drop_eq_getElem_cons->FS,length_eq_zero_iff->Fo,findIdx?_eq_some_iff_getElem->Ft,ext_getElem?->Fw,append_assoc->Fy,length_pos_iff->G1,length_drop->GS,getElem?_map->Ga,getElem?_take_of_lt->Gd,getElem?_drop->Gi,take_of_length_le->H4,all_eq_false->H5,all_eq_true->H6,getElem?_of_mem->H7,take_append_drop->HB,range_succ->HZ,foldl_cons->Hb,getElem?_append_right->Hr,findIdx?_eq_none_iff->I1,eq_of_mem_replicate->I2
open Int renaming toNat->B2,le_refl->Dc,eq_ofNat_of_zero_le->IR
open Prod.mk renaming injEq->B5
open Nat renaming le_refl->B_,mul_one->DJ,eq_of_beq_eq_true->Dd,ne_of_beq_eq_false->Df,zero_add->FV
open Option.some renaming injEq->BN
open Decidable renaming rec->C8
open List.Sublist renaming refl->Ca
open Go.Value renaming func->Dj,pointer->If,nilFunc->Ij
open Bool renaming or_eq_true->Dt,or_eq_false_iff->FW
open List.Perm renaming swap->FX,cons->FY
namespace Go.Proofs.YtlcenllcmeebhaaGreat
set_option maxRecDepth 100000
open Go.RX
abbrev aap:Sh:= .el (.one (.z7 244 2))
abbrev Gn:Sh:= .el (.one (.z7 247 3))
noncomputable def N0:dH AB:={M0 with sh:=[(219,aap),(239,Gn)],quiet:=[117,118,62,30,88,56,215,194,241]}
theorem Lh (p:Option AC) (w:A2) (a:Int->A2->Prop):(aM N0 (λ_=>[]) 88 [ag p] w a)=(
 ((!p.isNone)=true->p.isSome=true)/\((!p.isNone)=true->p.isSome=true)/\aj w (some !p.isNone) (ad p 0) jQ λx=>aJ (p.isNone||x.isNone) (au w (a 10)) (abZ p 4 w λx=>aJ x (au w (a 6)) (au w (a 0)))):=by kernel_rfl
theorem Rj (p:Option AC) (w:A2) (a:Int->A2->Prop):(aM N0 (λ_=>[]) 56 [ag p] w a)=(
 ∃(x:Int),af AB 88 [ag p] w (aa x)/\aJ (x != 0) (au w (a (-1))) (cR p 3 w λx=>au w (a x))):=by kernel_rfl
theorem Li (p f r:Int) (w:A2) (a:Int->A2->Prop):(aM N0 (λ_=>[]) 215 [aa p,aa f,aa r] w a)=(
 aJ (decide (p<0)||decide (p>=65536)||decide (f<0)||decide (f>=4096)) (au w (a 2)) (aJ (decide (r<1)||decide (r>7)) (au w (a 7)) (au w (a 0)))):=by kernel_rfl
theorem Lj (f:Int) (w:A2) (c:(Bool×Int×Bool×Int×Unit)->A2->Prop):(bT N0 (λ_=>[]) 241 [aa f] w c)=(
 aL w ⟨[.bool false,aa 0,.bool false,aa 0]⟩ 130 λb a=>az a (ae b) [.bool true,aa 0,.bool false,aa f] λa=>au a λw1=>aj w1 none (ae b) ka λ(x:Bool×Int×Bool×Int×Unit)=>c (x.1,x.2.1,x.2.2.1,x.2.2.2.1,()) w1):=by kernel_rfl
theorem Ll (p d e f:Int) (ep:Bool) (er:Int) (el:Bool) (ef:Int) (w:A2) (c:Int->A2->Prop):(aM N0 (λ_=>[]) 194 [aa p,.agg ⟨[aa d,aa e,aa f]⟩,.agg ⟨[.bool ep,aa er,.bool el,aa ef]⟩] w c)=(
 aL w ⟨[aa d,aa e,aa f]⟩ 270 λb a=>aL a ⟨[.bool ep,aa er,.bool el,aa ef]⟩ 130 λg a=>true=true/\aT a (ad (ae b) 1) λx=>aJ (x==1) (true=true/\aT a (ad (ae g) 3) λx=>True/\gL 1≠0/\au a λw1=>c (aI .i64 x (fb p (gL 1))) w1) (true=true/\aT a (ad (ae g) 3) λx=>au a (c x))):=by kernel_rfl
theorem O3 (p:Option AC) (i:Int) (w:A2) (c:(Bool×Int×Bool×Int×Unit)->A2->Prop):(bT N0 (λ_=>[]) 235 [ag p,aa i] w c)=(
 aL w ⟨[.bool false,aa 0,.bool false,aa 0]⟩ 130 λb a=>bI p 0 a λx=>aB AB 37 (.bG [.one (.int .u64),.one (.int .i64)]) [ag x,aa i] a λ(x:Int×Int×Unit) a=>U (B x.1)=x.1/\aL a ⟨[.bool false,aa 0,.bool false,aa 0]⟩ 130 λd a=>az a (ae d) [.bool (HV (B x.1).toNat),aa (FF (B x.1).toNat),.bool (JS (B x.1).toNat),aa (Fq (B x.1).toNat)] λa=>aj a none (ae d) ka λ(x:Bool×Int×Bool×Int×Unit)=>az a (ae b) [.bool x.1,aa x.2.1,.bool x.2.2.1,.int
 .i64 x.2.2.2.1] λa=>au a λw1=>aj w1 none (ae b) ka λ(x:Bool×Int×Bool×Int×Unit)=>c (x.1,x.2.1,x.2.2.1,x.2.2.2.1,()) w1):=by kernel_rfl
theorem Vb (p:Option AC) (i:Int) (ep:Bool) (er:Int) (el:Bool) (ef:Int) (w:A2) (c:Unit->A2->Prop):(aM N0 (λ_=>[]) 222 [ag p,aa i,.agg ⟨[.bool ep,aa er,.bool el,aa ef]⟩] w c)=(
 aL w ⟨[.bool ep,aa er,.bool el,aa ef]⟩ 130 λb a=>aj a none (ae b) ka λ(x:Bool×Int×Bool×Int×Unit)=>True/\bI p 0 a λd=>aB AB 38 (.el aU) [ag d,aa i,ay (FE x.1 x.2.1 x.2.2.1 x.2.2.2.1)] a λ(x:Int) a=>au a (c ())):=by kernel_rfl
theorem Vc (p:Option AC) (pg:Int) (w:A2) (c:Option AC×Option AC×Unit->A2->Prop):(aM N0 (λ_=>[]) 219 [ag p,aa pg] w c)=(
 aL w ⟨[ag p]⟩ 118 λb a=>aL a ⟨[aa pg]⟩ 3 λd a=>au a (c (some ⟨b,0,none⟩,some ⟨d,0,none⟩,()))):=by kernel_rfl
def uf:Nat->a7:=(λ|2=>[(4,Go.RX.El.one (Go.RX.Sc.int Az)),(5,Go.RX.El.one (Go.RX.Sc.int Az))]| _=>[])
theorem Rk (y:Nat) (p c:Option AC) (w:A2) (d:Unit->A2->Prop):(aM N0 uf 244 [.func (.yield y) #[] #[],ag p,ag c] w d)=(
 f_ w p λx=>cR x 3 w λx=> ∃(I:Nat->Int×Int×Unit->A2->Prop),(∃n, ∀w1,Ext w w1->I n (x,3,()) w1)/\ ∀(n:Nat) (s:Int×Int×Unit) (w1:A2),I n s w1->aJ (decide (s.2.1>=0)) (aT w1 c λx=>True/\aL w1 ⟨[aa 0,aa 0,aa 0]⟩ 270 λb a=>az a (ae b) [aa s.1,aa s.2.1,aa (dW s.1 x s.2.1)] λa=>f_ a p λx=>true=true/\aT a (ad (ae b) 2) λh=>aB AB 235 (.el ka) [ag x,aa h] a λ(x:Bool×Int×Bool×Int×Unit) a=>aL a ⟨[.bool false,
 aa 0,.bool false,aa 0]⟩ 130 λe a=>az a (ae e) [.bool x.1,aa x.2.1,.bool x.2.2.1,aa x.2.2.2.1] λa=>aj a none (ae b) wW λ(x:Int×Int×Int×Unit)=> ∀w1,Ext a w1->mh AB y [.agg ⟨[aa x.1,aa x.2.1,aa x.2.2.1]⟩] w1 λ(b:Bool) a=>aj a (some !!b) (ae e) ka λ(x:Bool×Int×Bool×Int×Unit)=>((!!b)=true->True)/\aJ (!b|| !fM x.1 x.2.1 x.2.2.1 x.2.2.2.1) (au a (d ())) (true=true/\aT a (ad (ae e) 3) λx=> ∀f,Ext a f-> ∃(g:Nat),g<n/\
 I g (x,aZ .i64 s.2.1 1,()) f)) (au w1 (d ()))):=by kernel_rfl
def ug:Nat->a7:=(λ|4=>[(6,.agg [.int .i64,.int .i64,.int .i64])]| _=>[])
theorem Rl (p c:Option AC) (w:A2) (e:Option AC×Nat×Nat->A2->Prop):(bT N0 ug 218 [.func (.func 244) #[] #[ag p,ag c]] w e)=(
 aL w ⟨[.slice none 0 0]⟩ 285 λb a=>zZ AB 244 (λ(y:Nat)=>[.func (Fn.yield y) ⟨[]⟩ ⟨[]⟩,ag p,ag c]) ⟨[6]⟩ a (λ(x:(Int×Int×Int×Unit)×Unit)=>[.agg ⟨[aa x.1.1,aa x.1.2.1,aa x.1.2.2.1]⟩]) (λ(l:Nat) (rec:Loop) (x:(Int×Int×Int×Unit)×Unit) g (R:Bool->A2->Prop)=>Dg l rec [Value.agg ⟨[aa x.1.1,aa x.1.2.1,aa x.1.2.2.1]⟩].length 1 g (aL g ⟨[aa 0,aa 0,aa 0]⟩ 270 λi a=>az a (ae i) [aa x.1.1,aa x.1.2.1,.int .i64
 x.1.2.2.1] λa=>BR l rec a λd=>sJ d (ae b) λx=>aj d none (ae i) wW λ(f:Int×Int×Int×Unit)=>aL d ⟨[aa f.1,aa f.2.1,aa f.2.2.1]⟩ 270 λj a=> ∀w1,Ext a w1->nb w1 270 3 24 ⟨[aa 0,aa 0,aa 0]⟩ (x.1,x.2.1,x.2.2) (some ⟨j,0,none⟩,1,1) λ(r:Option AC×Nat×Nat) a=>az a (ae b) [.slice r.1 r.2.1 r.2.2] λa=>sk l rec none a R)) λ(r:Nat) (rec:Loop) k=>dx (r+1) rec
 k (λd=>sJ d (ae b) λx=>sq [r] d λw1=>e (x.1,x.2.1,x.2.2) w1) (λ(id:Nat) d=>C8 (λ(h:id=0->False)=>False) (λ(h:id=0)=>sJ d (ae b) λx=>sq [r] d λw1=>e (x.1,x.2.1,x.2.2) w1) (match h:id.beq 0 with|true=>isTrue (Dd h)|false=>isFalse (Df h))) λd=>sq [r] d λw1=>e (none,0,0) w1):=by kernel_rfl
theorem Vd (p:Option AC) (pg:Int) (w:A2) (f:(Int×Int×Int×Unit)×(Bool×Int×Bool×Int×Unit)×Unit->A2->Prop):(bT N0 (λ_=>[]) 193 [ag p,aa pg] w f)=(
 aL w ⟨[aa 0,aa 0,aa 0]⟩ 270 λb a=>aL a ⟨[.bool false,aa 0,.bool false,aa 0]⟩ 130 λg a=>aB AB 219 (.el (.one (.z7 244 2))) [ag p,aa pg] a λx a=>aB AB 218 (.el fZ) [.func (.func 244) ⟨[]⟩ ⟨[ag x.1,ag x.2.1]⟩] a λx a=>(x.1.isSome=true/\0<=aZ .i64 (↑x.2.1:Int) 1/\aZ .i64 (↑x.2.1:Int) 1<(↑x.2.1:Int))/\aj a none (ad x.1 ((aZ .i64 (↑x.2.1:Int) 1).toNat*3)) wW λ(x:Int×Int×Int×Unit)=>aL a ⟨[aa 0,aa 0,aa 0]⟩ 270 λc
 a=>az a (ae c) [aa x.1,aa x.2.1,aa x.2.2.1] λa=>aj a none (ae c) wW λ(x:Int×Int×Int×Unit)=>true=true/\aT a (ad (ae c) 2) λh=>aB AB 235 (.el ka) [ag p,aa h] a λ(d:Bool×Int×Bool×Int×Unit) a=>cH a (ae c) wW x/\az a (ae b) [aa x.1,aa x.2.1,aa x.2.2.1] λa=>az a (ae g) [.bool d.1,aa d.2.1,.bool d.2.2.1,aa d.2.2.2.1] λa=>au a λw1=>aj w1 none (ae b) wW λ(x:Int×Int×Int×Unit)=>aj w1
 none (ae g) ka λ(e:Bool×Int×Bool×Int×Unit)=>f ((x.1,x.2.1,x.2.2.1,()),(e.1,e.2.1,e.2.2.1,e.2.2.2.1,()),()) w1):=by kernel_rfl
def rb:Nat->a7:=(λ|5=>[(24,Go.RX.El.one (Go.RX.Sc.int Az))]| _=>[])
theorem Ln (p:Option AC) (w:A2) (b:Int×Int×Unit->A2->Prop):(aM N0 rb 205 [ag p,.func (.func 206) #[] #[]] w b)=(
 bI p 1 w λx=>cR p 2 w λf=>aB AB 172 (.bG [.one (.int .i64),.one (.int .i64)]) [ag x,aa 3,aa f] w λ(x:Int×Int×Unit) a=>aJ (x.2.1 != 0) (au a (b (0,x.2.1,()))) (∃(I:Nat->Int×Unit->A2->Prop),(∃n, ∀w1,Ext a w1->I n (0,()) w1)/\ ∀(n:Nat) (s:Int×Unit) (w1:A2),I n s w1->aJ (decide (s.1<16)) (bI p 0 w1 λc=>aB AB 206 (.el rD) [aa s.1] w1 λ(g:Int) a=>True/\True/\cH a (ad p 0) jQ c/\True/\True/\aB AB 38 (.el aU) [ag c,
 aa (aI .i64 (iD .i64 16 x.1) s.1),ay g] a λ(x:Int) a=> ∀d,Ext a d-> ∃(e:Nat),e<n/\I e (aI .i64 s.1 1,()) d) (au w1 (b (x.1,0,()))))):=by kernel_rfl
def rh:Nat->a7:=(λ|5=>[(24,Go.RX.El.one (Go.RX.Sc.int Az))]| _=>[])
theorem Lu (p:Option AC) (w:A2) (b:Int×Int×Unit->A2->Prop):(aM N0 rh 205 [ag p,.func (.func 240) #[] #[]] w b)=(
 bI p 1 w λx=>cR p 2 w λf=>aB AB 172 (.bG [.one (.int .i64),.one (.int .i64)]) [ag x,aa 3,aa f] w λ(x:Int×Int×Unit) a=>aJ (x.2.1 != 0) (au a (b (0,x.2.1,()))) (∃(I:Nat->Int×Unit->A2->Prop),(∃n, ∀w1,Ext a w1->I n (0,()) w1)/\ ∀(n:Nat) (s:Int×Unit) (w1:A2),I n s w1->aJ (decide (s.1<16)) (bI p 0 w1 λc=>aB AB 240 (.el rD) [aa s.1] w1 λ(g:Int) a=>True/\True/\cH a (ad p 0) jQ c/\True/\True/\aB AB 38 (.el aU) [ag c,
 aa (aI .i64 (iD .i64 16 x.1) s.1),ay g] a λ(x:Int) a=> ∀d,Ext a d-> ∃(e:Nat),e<n/\I e (aI .i64 s.1 1,()) d) (au w1 (b (x.1,0,()))))):=by kernel_rfl
def ri:Nat->a7:=(λ|5=>[(24,Go.RX.El.one (Go.RX.Sc.int Az))]| _=>[])
theorem Lv (p e:Option AC) (w:A2) (b:Int×Int×Unit->A2->Prop):(aM N0 ri 205 [ag p,.func (.func 242) #[] #[ag e]] w b)=(
 bI p 1 w λx=>cR p 2 w λg=>aB AB 172 (.bG [.one (.int .i64),.one (.int .i64)]) [ag x,aa 3,aa g] w λ(x:Int×Int×Unit) a=>aJ (x.2.1 != 0) (au a (b (0,x.2.1,()))) (∃(I:Nat->Int×Unit->A2->Prop),(∃n, ∀w1,Ext a w1->I n (0,()) w1)/\ ∀(n:Nat) (s:Int×Unit) (w1:A2),I n s w1->aJ (decide (s.1<16)) (bI p 0 w1 λc=>aB AB 242 (.el rD) [aa s.1,ag e] w1 λ(h:Int) a=>True/\True/\cH a (ad p 0) jQ c/\True/\True/\aB AB 38 (.el aU)
 [ag c,aa (aI .i64 (iD .i64 16 x.1) s.1),ay h] a λ(x:Int) a=> ∀d,Ext a d-> ∃(f:Nat),f<n/\I f (aI .i64 s.1 1,()) d) (au w1 (b (x.1,0,()))))):=by kernel_rfl
theorem Rm (i:Int) (w:A2) (a:Int->A2->Prop):(aM N0 (λ_=>[]) 206 [aa i] w a)=(
 au w (a 0)):=by kernel_rfl
theorem Rn (i:Int) (w:A2) (a:Int->A2->Prop):(aM N0 (λ_=>[]) 240 [aa i] w a)=(
 au w (a 0)):=by kernel_rfl
theorem Hg (i:Int) (e:Option AC) (w:A2) (a:Int->A2->Prop):(aM N0 (λ_=>[]) 242 [aa i,ag e] w a)=(
 e.isSome=true/\aT w (ad e 1) λx=>e.isSome=true/\aT w (ad e 3) λb=>True/\au w (a (FE true x false (aI .i64 b i)))):=by kernel_rfl
def wq:Nat->a7:=(λ|6=>[]| _=>[])
theorem Ve (p:Option AC) (pg lv:Int) (ep:Bool) (er:Int) (el:Bool) (ef:Int) (w:A2) (f:Int->A2->Prop):(aM N0 wq 216 [ag p,aa pg,aa lv,.agg ⟨[.bool ep,aa er,.bool el,aa ef]⟩] w f)=(
 aL w ⟨[.bool ep,aa er,.bool el,aa ef]⟩ 130 λb a=>aB AB 193 (.bG [.agg [.int .i64,.int .i64,.int .i64],.agg [.bool,.int .i64,.bool,.int .i64]]) [ag p,aa pg] a λ(x:(Int×Int×Int×Unit)×(Bool×Int×Bool×Int×Unit)×Unit) a=>aL a ⟨[aa 0,aa 0,aa 0]⟩ 270 λc a=>aL a ⟨[.bool false,aa 0,.bool false,aa 0]⟩ 130 λg a=>az a (ae c) [aa x.1.1,aa x.1.2.1,aa x.1.2.2.1] λa=>az a (ae g) [.bool x.2.1.1,aa x.2.1.2.1,.bool
 x.2.1.2.2.1,aa x.2.1.2.2.2.1] λa=>true=true/\sK a (ad (ae g) 0) λx=>((!x)=true->true=true)/\aj a (some !x) (ad (ae c) 1) aU λ(k:Int)=>aJ (x||decide (k<lv)) (au a (f 5)) (bI p 1 a λx=> ∃(h:Int),af AB 30 [ag x,aa 0] a (aa h)/\true=true/\aT a (ad (ae c) 1) λx=>aJ (decide (h<aZ .i64 x lv)) (au a (f 12)) (∃(I:Nat->Unit->A2->Prop),(∃n, ∀w1,Ext a w1->I n () w1)/\ ∀(n:Nat) (s:Unit) (w1:A2),I n s w1->true=true/\aT w1 (ad
 (ae c) 1) λx=>aJ (decide (x>lv)) (aB AB 205 (.bG [.one (.int .i64),.one (.int .i64)]) [ag p,.func (.func 240) ⟨[]⟩ ⟨[]⟩] w1 λ(x:Int×Int×Unit) a=>true=true/\aT a (ad (ae c) 2) λe=> ∃(d:Bool×Int×Bool×Int×Unit),af AB 241 [aa x.1] a (.agg ⟨[.bool d.1,aa d.2.1,.bool d.2.2.1,aa d.2.2.2.1]⟩)/\aB AB 222 (.bG []) [ag p,aa e,.agg ⟨[.bool d.1,aa d.2.1,.bool d.2.2.1,aa d.2.2.2.1]⟩] a λo a=>true=true/\aT a (ad (ae c) 1)
 λl=>true=true/\aT a (ad (ae c) 1) λm=>True/\az a (ae c) [aa x.1,aa (aZ .i64 l 1),aa (dW x.1 pg (aZ .i64 m 1))] λa=> ∀i,Ext a i-> ∃(j:Nat),j<n/\I j () i) (true=true/\aT w1 (ad (ae c) 2) λx=>aj w1 none (ae b) ka λ(e:Bool×Int×Bool×Int×Unit)=>aB AB 222 (.bG []) [ag p,aa x,.agg ⟨[.bool e.1,aa e.2.1,.bool e.2.2.1,aa e.2.2.2.1]⟩] w1 λx a=>au a (f 0))))):=by kernel_rfl
theorem Vf (p:Option AC) (pg f r:Int) (w:A2) (a:Int->A2->Prop):(aM N0 (λ_=>[]) 173 [ag p,aa pg,aa f,aa r] w a)=(
 ∃(x:Int),af AB 88 [ag p] w (aa x)/\aJ (x != 0) (au w (a x)) (∃(x:Int),af AB 215 [aa pg,aa f,aa r] w (aa x)/\aJ (x != 0) (au w (a x)) (aB AB 216 (.el aU) [ag p,aa pg,aa 0,.agg ⟨[.bool true,aa r,.bool false,aa f]⟩] w λ(x:Int) b=>au b (a x)))):=by kernel_rfl
theorem Lx (p:Option AC) (pg:Int) (w:A2) (c:Int×Int×Int×Unit->A2->Prop):(aM N0 (λ_=>[]) 139 [ag p,aa pg] w c)=(
 ∃(x:Int),af AB 88 [ag p] w (aa x)/\aJ (x != 0) (au w (c (0,0,x,()))) (aJ (decide (pg<0)||decide (pg>=65536)) (au w (c (0,0,2,()))) (aB AB 193 (.bG [.agg [.int .i64,.int .i64,.int .i64],.agg [.bool,.int .i64,.bool,.int .i64]]) [ag p,aa pg] w λ(x:(Int×Int×Int×Unit)×(Bool×Int×Bool×Int×Unit)×Unit) a=>aL a ⟨[aa 0,aa 0,aa 0]⟩ 270 λb a=>aL a ⟨[.bool false,aa 0,.bool false,aa 0]⟩ 130 λd a=>az a (ae b) [aa x.1.1,.int
 .i64 x.1.2.1,aa x.1.2.2.1] λa=>az a (ae d) [.bool x.2.1.1,aa x.2.1.2.1,.bool x.2.1.2.2.1,aa x.2.1.2.2.2.1] λa=>true=true/\sK a (ad (ae d) 0) λx=>aJ (!x) (au a (c (0,0,4,()))) (aj a none (ae b) wW λ(x:Int×Int×Int×Unit)=>aj a none (ae d) ka λ(e:Bool×Int×Bool×Int×Unit)=> ∃(f:Int),af AB 194 [aa pg,.agg ⟨[aa x.1,aa x.2.1,aa x.2.2.1]⟩,.agg ⟨[.bool e.1,aa e.2.1,.bool e.2.2.1,aa e.2.2.2.1]⟩] a (aa f)/\
 true=true/\aT a (ad (ae d) 1) λx=>au a (c (f,x,0,())))))):=by kernel_rfl
theorem Ly (p:Option AC) (pg:Int) (w:A2) (d:Int->A2->Prop):(aM N0 (λ_=>[]) 217 [ag p,aa pg] w d)=(
 aB AB 193 (.bG [.agg [.int .i64,.int .i64,.int .i64],.agg [.bool,.int .i64,.bool,.int .i64]]) [ag p,aa pg] w λ(x:(Int×Int×Int×Unit)×(Bool×Int×Bool×Int×Unit)×Unit) a=>aL a ⟨[aa 0,aa 0,aa 0]⟩ 270 λb a=>aL a ⟨[.bool false,aa 0,.bool false,aa 0]⟩ 130 λe a=>az a (ae b) [aa x.1.1,aa x.1.2.1,aa x.1.2.2.1] λa=>az a (ae e) [.bool x.2.1.1,aa x.2.1.2.1,.bool x.2.1.2.2.1,aa x.2.1.2.2.2.1] λa=>true=true/\aT a (ad (ae b) 1)
 λx=>aJ (x==0) (au a (d 0)) (aB AB 205 (.bG [.one (.int .i64),.one (.int .i64)]) [ag p,.func (.func 242) ⟨[]⟩ {toList:=[ag (ae e)]}] a λ(x:Int×Int×Unit) a=>aJ (x.2.1==0) (true=true/\aT a (ad (ae b) 2) λf=> ∃(c:Bool×Int×Bool×Int×Unit),af AB 241 [aa x.1] a (.agg ⟨[.bool c.1,aa c.2.1,.bool c.2.2.1,aa c.2.2.2.1]⟩)/\aB AB 222 (.bG []) [ag p,aa f,.agg ⟨[.bool c.1,aa c.2.1,.bool c.2.2.1,aa c.2.2.2.1]⟩] a λg a=>
 au a (d x.2.1)) (au a (d x.2.1)))):=by kernel_rfl
def uh:Nat->a7:=(λ|1=>[(4,Go.RX.El.one (Go.RX.Sc.int Az))]|4=>[(26,Go.RX.El.one (Go.RX.Sc.int Az))]| _=>[])
theorem Ro (p q:Option AC) (n c:Nat) (w:A2) (g:Unit->A2->Prop):(aM N0 uh 220 [ag p,.slice q n c] w g)=(
 ∃(I:Nat->Int×Unit->A2->Prop),(∃f, ∀w1,Ext w w1->I f (aZ .i64 (↑n:Int) 1,()) w1)/\ ∀(f:Nat) (s:Int×Unit) (w1:A2),I f s w1->aJ (decide (s.1>0)) (bI p 0 w1 λx=>(q.isSome=true/\0<=s.1/\s.1<(↑n:Int))/\(ad q (B2 s.1*3)).isSome=true/\aj w1 none (ad (ad q (B2 s.1*3)) 0) aU λ(j:Int)=>aB AB 45 (.el fZ) [ag x,aa (iD .i64 16 j),aa 16] w1 λx a=> ∃(h:Nat->Int×Unit->A2->Prop),(∃n, ∀w1,Ext a w1->h n (0,()) w1)/\ ∀(i:Nat) (b
 :Int×Unit) (w1:A2),h i b w1->aJ (decide (b.1<(↑x.2.1:Int))) ((x.1.isSome=true/\0<=b.1/\b.1<(↑x.2.1:Int))/\cK w1 (ad x.1 (B2 b.1*1)) λx=>aJ (x != 0) (au w1 (g ())) (∀d,Ext w1 d-> ∃(e:Nat),e<i/\h e (aI .i64 b.1 1,()) d)) (bI p 0 w1 λx=>(q.isSome=true/\0<=aZ .i64 s.1 1/\aZ .i64 s.1 1<(↑n:Int))/\(ad q ((aZ .i64 s.1 1).toNat*3)).isSome=true/\aj w1 none (ad (ad q ((aZ .i64 s.1 1).toNat*3)) 2) aU λ(k:Int)=>aB AB 38 (.el aU) [ag x,.int
 .i64 k,ay 0] w1 λ(x:Int) a=>bI p 1 a λx=>(q.isSome=true/\0<=s.1/\s.1<(↑n:Int))/\(ad q (B2 s.1*3)).isSome=true/\aj a none (ad (ad q (B2 s.1*3)) 0) aU λ(l:Int)=>aB AB 138 (.el aU) [ag x,aa l,aa 5,aa 0] a λ(x:Int) a=> ∀d,Ext a d-> ∃(e:Nat),e<f/\I e (aZ .i64 s.1 1,()) d)) (au w1 (g ()))):=by kernel_rfl
theorem Lz (p:Option AC) (pg:Int) (w:A2) (c:Int×Int×Unit->A2->Prop):(aM N0 (λ_=>[]) 175 [ag p,aa pg] w c)=(
 aB AB 139 (.bG [.one (.int .i64),.one (.int .i64),.one (.int .i64)]) [ag p,aa pg] w λ(x:Int×Int×Int×Unit) a=>aJ (x.2.2.1 != 0) (au a (c (0,x.2.2.1,()))) (aB AB 217 (.el aU) [ag p,aa pg] a λ(d:Int) a=>aJ (d != 0) (au a (c (0,d,()))) (aB AB 219 (.el (.one (.z7 244 2))) [ag p,aa pg] a λe a=>aB AB 218 (.el fZ) [.func (.func 244) ⟨[]⟩ ⟨[ag e.1,ag e.2.1]⟩] a λb a=>bI p 0 a λf=>(b.1.isSome=true/\0<=aZ .i64
 (↑b.2.1:Int) 1/\aZ .i64 (↑b.2.1:Int) 1<(↑b.2.1:Int))/\(ad b.1 ((aZ .i64 (↑b.2.1:Int) 1).toNat*3)).isSome=true/\aj a none (ad (ad b.1 ((aZ .i64 (↑b.2.1:Int) 1).toNat*3)) 2) aU λ(g:Int)=>aB AB 38 (.el aU) [ag f,aa g,ay 0] a λ(h:Int) a=>aB AB 220 (.bG []) [ag p,.slice b.1 b.2.1 b.2.2] a λi a=>au a (c (x.1,0,()))))):=by kernel_rfl
theorem Rq (p:Option AC) (pg r:Int) (w:A2) (c:Int->A2->Prop):(aM N0 (λ_=>[]) 177 [ag p,aa pg,aa r] w c)=(
 ∃(x:Int),af AB 88 [ag p] w (aa x)/\aJ (x != 0) (au w (c x)) (∃(x:Int),af AB 215 [aa pg,aa 0,aa r] w (aa x)/\aJ (x != 0) (au w (c x)) (aB AB 193 (.bG [.agg [.int .i64,.int .i64,.int .i64],.agg [.bool,.int .i64,.bool,.int .i64]]) [ag p,aa pg] w λ(x:(Int×Int×Int×Unit)×(Bool×Int×Bool×Int×Unit)×Unit) a=>aL a ⟨[aa 0,aa 0,aa 0]⟩ 270 λb a=>aL a ⟨[.bool false,aa 0,.bool false,aa 0]⟩ 130 λd a=>az a (ae b)
 [aa x.1.1,aa x.1.2.1,aa x.1.2.2.1] λa=>az a (ae d) [.bool x.2.1.1,aa x.2.1.2.1,.bool x.2.1.2.2.1,aa x.2.1.2.2.2.1] λa=>true=true/\sK a (ad (ae d) 0) λx=>aJ (!x) (au a (c 4)) (true=true/\sK a (ad (ae d) 2) λx=>(x=true->true=true)/\aj a (some x) (ad (ae d) 1) aU λ(g:Int)=>aJ (x&&g==r) (au a (c 0)) (aj a none (ae b) wW λ(x:Int×Int×Int×Unit)=>aj a none (ae d) ka λ(e:Bool×Int×Bool×Int×Unit)=> ∃(f:Int),af AB 194
 [aa pg,.agg ⟨[aa x.1,aa x.2.1,aa x.2.2.1]⟩,.agg ⟨[.bool e.1,aa e.2.1,.bool e.2.2.1,aa e.2.2.2.1]⟩] a (aa f)/\aB AB 217 (.el aU) [ag p,aa pg] a λ(x:Int) a=>aJ (x != 0) (au a (c x)) (aB AB 193 (.bG [.agg [.int .i64,.int .i64,.int .i64],.agg [.bool,.int .i64,.bool,.int .i64]]) [ag p,aa pg] a λ(x:(Int×Int×Int×Unit)×(Bool×Int×Bool×Int×Unit)×Unit) a=>az a (ae b) [aa x.1.1,aa x.1.2.1,aa x.1.2.2.1] λa=>true=
 true/\aT a (ad (ae b) 2) λx=>aB AB 222 (.bG []) [ag p,aa x,.agg ⟨[.bool true,aa r,.bool false,aa f]⟩] a λx a=>au a (c 0))))))):=by kernel_rfl
theorem Bi (p:Option AC) (f lv:Int) (w:A2) (c:Option AC×Option AC×Option AC×Unit->A2->Prop):(aM N0 (λ_=>[]) 239 [ag p,aa f,aa lv] w c)=(
 aL w ⟨[ag p]⟩ 118 λb a=>aL a ⟨[aa f]⟩ 3 λd a=>aL a ⟨[aa lv]⟩ 3 λe a=>au a (c (some ⟨d,0,none⟩,some ⟨b,0,none⟩,some ⟨e,0,none⟩,()))):=by kernel_rfl
def rj:Nat->a7:=(λ|4=>[(6,.one (.int .i64))]| _=>[])
theorem LA (p c d:Option AC) (w:A2) (f:Option AC×Nat×Nat->A2->Prop):(bT N0 rj 238 [.func (.func 247) #[] #[ag p,ag c,ag d]] w f)=(
 aL w ⟨[.slice none 0 0]⟩ 39 λb e=>zZ AB 247 (λ(y:Nat)=>[.func (Fn.yield y) ⟨[]⟩ ⟨[]⟩,ag p,ag c,ag d]) ⟨[6]⟩ e (λ(x:Int×Unit)=>[aa x.1]) (λ(l:Nat) (rec:Loop) (x:Int×Unit) i (R:Bool->A2->Prop)=>Dg l rec [aa x.1].length 1 i (BR l rec i λa=>sJ a (ae b) λg=>aL a ⟨[aa x.1]⟩ 3 λj e=> ∀w1,Ext e w1->nb w1 3 1 8 ⟨[aa 0]⟩ (g.1,g.2.1,g.2.2) (some ⟨j,0,none⟩,1,1) λ(r:Option AC×Nat×Nat) e=>az e (some ⟨b,0,
 none⟩) [.slice r.1 r.2.1 r.2.2] λe=>sk l rec none e R)) λ(r:Nat) (rec:Loop) k=>dx (r+1) rec k (λa=>sJ a (ae b) λx=>sq [r] a λw1=>f (x.1,x.2.1,x.2.2) w1) (λ(id:Nat) a=>C8 (λ(h:id=0->False)=>False) (λ(h:id=0)=>sJ a (ae b) λx=>sq [r] a λw1=>f (x.1,x.2.1,x.2.2) w1) (match h:id.beq 0 with|true=>isTrue (Dd h)|false=>isFalse (Df h))) λa=>sq [r] a λw1=>f (none,0,0)
 w1):=by kernel_rfl
def ww:Nat->a7:=(λ|5=>[(18,Go.RX.El.one (Go.RX.Sc.int Az))]|8=>[(5,Go.RX.El.one (Go.RX.Sc.int Az))]| _=>[])
theorem Vg (p:Option AC) (w:A2) (e:Option AC×Nat×Nat->A2->Prop):(aM N0 ww 214 [ag p] w e)=(
 ∃(x:Int),af AB 88 [ag p] w (aa x)/\aJ (x != 0) (au w (e (none,0,0))) (cR p 3 w λx=>aB AB 239 (.el (.one (.z7 247 3))) [ag p,aa x,aa 3] w λx b=>aB AB 238 (.el fZ) [.func (.func 247) ⟨[]⟩ ⟨[ag x.1,ag x.2.1,ag x.2.2.1]⟩] b λx b=> ∃(I:Nat->Int×Unit->A2->Prop),(∃n, ∀w1,Ext b w1->I n (0,()) w1)/\ ∀(n:Nat) (s:Int×Unit) (w1:A2),I n s w1->aJ (decide (s.1<(↑x.2.1:Int))) (∃(f:Nat->Int×Unit->A2->Prop),(∃n, ∀g,Ext w1 g->f
 n (s.1,()) g)/\ ∀(h:Nat) (a:Int×Unit) (w1:A2),f h a w1->(decide (a.1>0)=true->x.1.isSome=true/\0<=aZ .i64 a.1 1/\aZ .i64 a.1 1<(↑x.2.1:Int))/\aj w1 (some (decide (a.1>0))) (ad x.1 ((aZ .i64 a.1 1).toNat*1)) aU λ(i:Int)=>(decide (a.1>0)=true->x.1.isSome=true/\0<=a.1/\a.1<(↑x.2.1:Int))/\aj w1 (some (decide (a.1>0))) (ad x.1 (B2 a.1*1)) aU λ(j:Int)=>aJ (decide (a.1>0)&&decide (i>j)) ((x.1.isSome=true/\0<=a.1/\a.1<(↑x.2.1:Int))/\aT w1
 (ad x.1 (B2 a.1*1)) λk=>(x.1.isSome=true/\0<=aZ .i64 a.1 1/\aZ .i64 a.1 1<(↑x.2.1:Int))/\aj w1 none (ad x.1 ((aZ .i64 a.1 1).toNat*1)) aU λ(l:Int)=>(x.1.isSome=true/\0<=aZ .i64 a.1 1/\aZ .i64 a.1 1<(↑x.2.1:Int))/\az w1 (ad x.1 ((aZ .i64 a.1 1).toNat*1)) [aa k] λb=>(x.1.isSome=true/\0<=a.1/\a.1<(↑x.2.1:Int))/\az b (ad x.1 (B2 a.1*1)) [aa l] λb=> ∀c,Ext b c-> ∃(d:Nat),d<h/\f d (aZ .i64 a.1 1,()) c) (∀c,Ext w1 c-> ∃(d
 :Nat),d<n/\I d (aI .i64 s.1 1,()) c)) (au w1 (e (x.1,x.2.1,x.2.2))))):=by kernel_rfl
def ui:Nat->a7:=(λ|5=>[(13,Go.RX.El.one (Go.RX.Sc.int Az))]| _=>[])
theorem Rs (p:Option AC) (w:A2) (b:Option AC×Nat×Nat->A2->Prop):(aM N0 ui 171 [ag p] w b)=(
 ∃(x:Int),af AB 88 [ag p] w (aa x)/\aJ (x != 0) (au w (b (none,0,0))) (aB AB 214 (.el fZ) [ag p] w λx a=> ∃(I:Nat->Int×Unit->A2->Prop),(∃n, ∀w1,Ext a w1->I n (0,()) w1)/\ ∀(n:Nat) (s:Int×Unit) (w1:A2),I n s w1->aJ (decide (s.1<(↑x.2.1:Int))) ((x.1.isSome=true/\0<=s.1/\s.1<(↑x.2.1:Int))/\aT w1 (ad x.1 (B2 s.1*1)) λx=>bI p 1 w1 λe=>aB AB 138 (.el aU) [ag e,aa x,aa 5,aa 0] w1 λ(x:Int) a=> ∀c,Ext a c-> ∃(d
 :Nat),d<n/\I d (aI .i64 s.1 1,()) c) (p.isSome=true/\p.isSome=true/\az w1 (ad p 4) [.bool true] λa=>au a (b (x.1,x.2.1,x.2.2))))):=by kernel_rfl
theorem Vh (m p:Option AC) (o:Int) (w:A2) (c:Option AC×Int×Unit->A2->Prop):(aM N0 (λ_=>[]) 164 [ag m,ag p,aa o] w c)=(
 ∃(x:Int),af AB 117 [ag m] w (aa x)/\ ∃(d:Int),((!x==0)=true->af AB 62 [ag p] w (aa d))/\ ∃(e:Int),((!(x==0||d==0))=true->af AB 117 [ag m] w (aa e))/\ ∃(f:Int),((!(x==0||d==0))=true->af AB 62 [ag p] w (aa f))/\aJ (x==0||d==0||decide (e<iD .i64 16 f)) (au w (c (none,1,()))) (aL w ⟨[ag m,ag p,aa o,aa 0,.bool false]⟩ 188 λb a=>aB AB 205 (.bG [.one (.int .i64),.one (.int
 .i64)]) [ag (ae b),.func (.func 206) ⟨[]⟩ ⟨[]⟩] a λ(x:Int×Int×Unit) a=>aJ (x.2.1 != 0) (au a (c (none,x.2.1,()))) (true=true/\true=true/\az a (ad (ae b) 3) [aa x.1] λa=>au a (c (some ⟨b,0,none⟩,0,()))))):=by kernel_rfl
theorem LB (p:Option AC) (i n:Int) (w:A2) (a:Option AC×Nat×Nat->A2->Prop):(aM N0 (λ_=>[]) 45 [ag p,aa i,aa n] w a)=(
 aJ p.isNone (au w (a (none,0,0))) (p.isSome=true/\p.isSome=true/\aj w none (ad p 0) (.agg [.slice]) λx=>aB AB 80 (.el fZ) [.agg ⟨[.slice x.1.1 x.1.2.1 x.1.2.2]⟩,aa i,aa n] w λx b=>au b (a (x.1,x.2.1,x.2.2)))):=by kernel_rfl
theorem Vi (p:Option AC) (n c:Nat) (i k:Int) (w:A2) (Post:Option AC×Nat×Nat->A2->Prop):(aM N0 (λ_=>[]) 80 [.agg ⟨[.slice p n c]⟩,aa i,aa k] w Post)=(
 aL w ⟨[.slice p n c]⟩ 157 λb a=>((!(decide (k<1)||decide (i<0)))=true->true=true)/\aj a (some !(decide (k<1)||decide (i<0))) (ad (ae b) 0) (.one .slice) λx=>((!(decide (k<1)||decide (i<0)||decide (i>(↑x.2.1:Int))))=true->true=true)/\aj a (some !(decide (k<1)||decide (i<0)||decide (i>(↑x.2.1:Int)))) (ad (ae b) 0) (.one .slice) λe=>aJ (decide (k<1)||decide (i<0)||decide (i>(↑x.2.1:Int))||decide (k>aZ .i64 (↑e.2.1:Int) i)) (au a λw1=>Post (none,0,0) w1) (Nr a 8
 1 k k ⟨[ay 0]⟩ 29 λd a=>true=true/\aj a none (ad (ae b) 0) (.one .slice) λx=>(0<=i/\i<=(↑x.2.1:Int)/\(↑x.2.1:Int)<=(↑x.2.2:Int)/\(↑x.2.2:Int)<=(↑x.2.2:Int))/\ ∀w1,Ext a w1->cpR w1 1 (some ⟨d,0,none⟩,k.toNat) (C8 (λ(h:(↑x.2.2:Int).toNat=i.toNat->False)=>ad x.1 (i.toNat*1)) (λ(h:(↑x.2.2:Int).toNat=i.toNat)=>x.1) (instDecidableEqNat (↑x.2.2:Int).toNat i.toNat),(↑x.2.1:Int).toNat - i.toNat) λ(r:Int) a=>au a λw1=>Post (some ⟨d,0,none⟩,k.toNat,k.toNat) w1)):=by
 kernel_rfl
end Go.Proofs.YtlcenllcmeebhaaGreat
namespace Go.Proofs.YtlcenllcmeebhaaGreat.D
set_option maxRecDepth 100000
open Go.RX
noncomputable def E3:dH AB:={E0 with quiet:=[62,30,25]}
section
variable {D G:List Nat} {w0 w:A2} {L:List (Nat×List AR)}
theorem Vj (H:aK D G w0 w L) (i j:Nat) {bp bf n c:Nat} {ds:List DT} {rest:List AR} (b:L[i]? =some (bp,[.slice (ae bf) n c])) (a:L[j]? =some (bf,flat eD ds++rest)) (e:i≠j) (g:n=ds.length) (l:0<n) (h:n<=4096) (f y o:Int) {K:Int->A2->Prop}
 (k: ∀d,aK D G w0 d (L.set j (bf,flat eD (dI ds f (aP y o))++rest))->K (uz ds f (aP y o)) d):aB AB 138 (.el (.one (.int .i64))) [ag (ae bp),aa f,aa y,aa o] w K:=by
 subst g;exact aB.Dv H j a (λw1 H=>Cx (H.get b) (H.get a) (H.ne b a e) h f y o) k
theorem Vk (H:aK D G w0 w L) (i j:Nat) {bp bf n c:Nat} {ds:List DT} {rest:List AR} (b:L[i]? =some (bp,[.slice (ae bf) n c])) (a:L[j]? =some (bf,flat eD ds++rest)) (e:i≠j) (g:n=ds.length) (l:0<n) (h:n<=4096) (f x:Int) (hi: -9223372036854775808<=x/\x<9223372036854775808) {K:Int->A2->Prop}
 (k: ∀d,aK D G w0 d (L.set j (bf,flat eD (dI ds f (ia x))++rest))->K (uz ds f (ia x)) d):aB AB 183 (.el (.one (.int .i64))) [ag (ae bp),aa f,aa x] w K:=by
 subst g;exact aB.Dv H j a (λw1 H=>U8 (H.get b) (H.get a) (H.ne b a e) h f x hi) k
theorem Vl (H:aK D G w0 w L) (i j:Nat) {bp bf n c:Nat} {ds:List DT} {rest:List AR} (b:L[i]? =some (bp,[.slice (ae bf) n c])) (a:L[j]? =some (bf,flat eD ds++rest)) (e:i≠j) (g:n=ds.length) (l:0<n) (h:n<=4096) (f:Int) {K:Int->A2->Prop}
 (k: ∀d,aK D G w0 d (L.set j (bf,flat eD (dI ds f (aP 0 0))++rest))->K (uz ds f (aP 0 0)) d):aB AB 79 (.el (.one (.int .i64))) [ag (ae bp),aa f] w K:=by
 subst g;exact aB.Dv H j a (λw1 H=>U9 (H.get b) (H.get a) (H.ne b a e) h f) k
theorem Vm (H:aK D G w0 w L) (i j:Nat) {bp bf n c:Nat} {ds:List DT} {rest:List AR} (b:L[i]? =some (bp,[.slice (ae bf) n c])) (a:L[j]? =some (bf,flat eD ds++rest)) (e:i≠j) (f:n=ds.length) (h:0<n) (g:n<=4096) (y o:Int) {K:Int×Int×Unit->A2->Prop}
 (k: ∀d,aK D G w0 d (L.set j (bf,flat eD (di ds y o)++rest))->K (fc ds y o,dC ds y o,()) d):aB AB 172 (.bG [.one (.int .i64),.one (.int .i64)]) [ag (ae bp),aa y,aa o] w K:=by
 subst f;exact aB.Dv H j a (λw1 H=>Va (H.get b) (H.get a) (H.ne b a e) rfl g y o) k
theorem aa5 (H:aK D G w0 w L) (i:Nat) {bp n c:Nat} {a:Option AC} (b:L[i]? =some (bp,[.slice a n c])):af AB 62 [ag (ae bp)] w (aa (n:Int)):=
 af.of (s:= .el (.one (.int .i64))) λw' h=>rP ((H.get b).ext h)
theorem Vn (H:aK D G w0 w L) (i j:Nat) {bp bf n c:Nat} {ds:List DT} {rest:List AR} (a:L[i]? =some (bp,[.slice (ae bf) n c])) (b:L[j]? =some (bf,flat eD ds++rest)) (d:n=ds.length) (e:n<=4096) (v:Int):
 af AB 30 [ag (ae bp),aa v] w (aa (bu ds v:Nat)):=
 af.of (s:= .el (.one (.int .i64))) λw' h=>Ep ((H.get a).ext h) ((H.get b).ext h) d e v
theorem ab9 (H:aK D G w0 w L) (i j:Nat) {bp bf n c:Nat} {ds:List DT} {rest:List AR} (a:L[i]? =some (bp,[.slice (ae bf) n c])) (b:L[j]? =some (bf,flat eD ds++rest)) (d:n=ds.length) (f:Int):
 af AB 25 [ag (ae bp),aa f] w ((Sh.bG [eD,.one .bool]).gz (mz ds f,xq ds f,())):=by
 subst d;exact af.of (s:= .bG [eD,.one .bool]) λw' h=>Gm ((H.get a).ext h) ((H.get b).ext h) f
theorem Ru (H:aK D G w0 w L) (i j:Nat) {bp bf n c:Nat} {ds:List DT} {rest:List AR} (b:L[i]? =some (bp,[.slice (ae bf) n c])) (d:L[j]? =some (bf,flat eD ds++rest)) (e:n=ds.length) (f:n<=4096) (v:Int) {K:Option AC×Nat×Nat->A2->Prop}
 (k: ∀r rows a,aK D G w0 a (L++rows)->oq eI rows r ((fW ds v).map λi=>((i:Nat):Int))->K r a):aB AB 166 (.el (.one .slice)) [ag (ae bp),aa v] w K:=
 aB.Yr H (λw1 H=>Ri (H.get b) (H.get d) e f v) k
end
end Go.Proofs.YtlcenllcmeebhaaGreat.D
namespace Go.Proofs.YtlcenllcmeebhaaGreat
set_option maxRecDepth 100000
open Go.RX D
abbrev ET:Type:=Bool×Int×Bool×Int×Unit
abbrev PT:Type:=Int×Int×Int×Unit
abbrev sEn:List Sc:=[.bool,.int .i64,.bool,.int .i64]
abbrev Ty:List Sc:=[.int .i64,.int .i64,.int .i64]
def zE:ET:=(false,0,false,0,())
def eY (v:Int):ET:=(HV (B v).toNat,FF (B v).toNat,JS (B v).toNat,Fq (B v).toNat,())
def dJ (e:ET):Bool:=fM e.1 e.2.1 e.2.2.1 e.2.2.2.1
def Tc (e:ET):Int:=FE e.1 e.2.1 e.2.2.1 e.2.2.2.1
def cv (f:Int):ET:=(true,0,false,f,())
def aN (ws:List Int) (i:Int):ET:=eY (dL ws i)
def dk (ws:List Int) (pg:Int):Nat->Int->List PT
 |0,f=>[(f,0,dW f pg 0,())]
 |l+1,f=>(f,((l+1:Nat):Int),dW f pg ((l+1:Nat):Int),())::if dJ (aN ws (dW f pg ((l+1:Nat):Int)))=true then dk ws pg l (aN ws (dW f pg ((l+1:Nat):Int))).2.2.2.1 else[]
theorem xE (ws:List Int) (pg:Int) (l:Nat) (f:Int):dk ws pg l f≠[]:=by cases l<;>simp[dk]
theorem tB (ws:List Int) (pg:Int): ∀(l:Nat) (f:Int),(dk ws pg l f).length<=l+1
 |0,f=>by simp[dk]
 |l+1,f=>by
  rw[dk];split
  ·have:=tB ws pg l (aN ws (dW f pg ((l+1:Nat):Int))).2.2.2.1;simp only[B9];omega
  ·simp
def dA (ws:List Int) (r pg:Int):PT:=(dk ws pg 3 r).getLastD (0,0,0,())
def da (ws:List Int) (r pg:Int):ET:=aN ws (dA ws r pg).2.2.1
def eZ (ws:List Int) (f:Int) (g:Int->Int):Nat->List Int
 |0=>ws
 |i+1=>dO (eZ ws f g i) (16*f+(i:Int)) (g i)
theorem gJ (ws:List Int) (f:Int) (g:Int->Int): ∀n,(eZ ws f g n).length=ws.length
 |0=>rfl
 |n+1=>by rw[eZ,cF,gJ ws f g n]
abbrev WD:Type:=List Int×List DT
def eK (s:WD) (o:Int):Int:=fc s.2 3 o
def rA (s:WD) (o:Int):Int:=dC s.2 3 o
def iW (s:WD) (o:Int) (g:Int->Int):WD:=(if rA s o=0 then eZ s.1 (eK s o) g 16 else s.1,di s.2 3 o)
def dN (s:WD) (i:Int) (e:ET):WD:=(dO s.1 i (Tc e),s.2)
def qS (o pg:Int):Nat->WD×PT->WD×PT
 |0,x=>x
 |n+1,x=>qS o pg n (dN (iW x.1 o λ_=>0) x.2.2.2.1 (cv (eK x.1 o)),(eK x.1 o,x.2.2.1 - 1,dW (eK x.1 o) pg (x.2.2.1 - 1),()))
def lQ (s:WD) (r pg lv:Int):Int:=
 if((da s.1 r pg).1||decide ((dA s.1 r pg).2.1<lv))=true then 5
 else if(bu s.2 0:Int)<(dA s.1 r pg).2.1 - lv then 12 else 0
def rG (s:WD) (o r pg lv:Int) (e:ET):WD:=
 if lQ s r pg lv=0 then dN (qS o pg ((dA s.1 r pg).2.1 - lv).toNat (s,dA s.1 r pg)).1 (qS o pg ((dA s.1 r pg).2.1 - lv).toNat (s,dA s.1 r pg)).2.2.2.1 e else s
def l9 (pg f rt:Int):Int:=if pg<0\/pg>=65536\/f<0\/f>=4096 then 2 else if rt<1\/rt>7 then 7 else 0
def kJ (s:WD) (r:Int) (gone:Bool) (pg f rt:Int):Int:=if gone=true then 6 else if l9 pg f rt=0 then lQ s r pg 0 else l9 pg f rt
def jy (s:WD) (o r:Int) (gone:Bool) (pg f rt:Int):WD:=if gone=true then s else if l9 pg f rt=0 then rG s o r pg 0 (true,rt,false,f,()) else s
def qD (pg:Int) (x:PT) (e:ET):Int:=if x.2.1=1 then e.2.2.2.1+pg % 16 else e.2.2.2.1
def bC (s:WD) (r:Int) (gone:Bool) (pg:Int):Int×Int×Int×Unit:=
 if gone=true then(0,0,6,()) else if pg<0\/pg>=65536 then(0,0,2,())
 else if(da s.1 r pg).1=true then(qD pg (dA s.1 r pg) (da s.1 r pg),(da s.1 r pg).2.1,0,()) else(0,0,4,())
def oN (e:ET) (i:Int):Int:=Tc (true,e.2.1,false,e.2.2.2.1+i,())
def lR (s:WD) (o r pg:Int):Int:=if(dA s.1 r pg).2.1=0 then 0 else rA s o
def fl (s:WD) (o r pg:Int):WD:=
 if(dA s.1 r pg).2.1=0 then s
 else if rA s o=0 then dN (iW s o (oN (da s.1 r pg))) (dA s.1 r pg).2.2.1 (cv (eK s o)) else iW s o (oN (da s.1 r pg))
def jz (ws:List Int) (i n:Int):List Int:=if n<1\/i<0\/i>ws.length\/n>ws.length - i then[] else(ws.drop i.toNat).take n.toNat
def w_ (ws:List Int) (f:Int):Bool:=(jz ws (16*f) 16).all λv=>v==0
def jt:List PT->WD->WD
 |x::y::l,s=>if w_ s.1 x.1=true then jt (y::l) (dO s.1 y.2.2.1 0,dI s.2 x.1 (aP 5 0)) else s
 | _,s=>s
def B7 (s:WD) (o r:Int) (gone:Bool) (pg:Int):Int:=if(bC s r gone pg).2.2.1=0 then lR s o r pg else(bC s r gone pg).2.2.1
def FZ (s:WD) (o r:Int) (gone:Bool) (pg:Int):Int:=if B7 s o r gone pg=0 then(bC s r gone pg).1 else 0
def nq (s:WD) (o r:Int) (gone:Bool) (pg:Int):WD:=
 if(bC s r gone pg).2.2.1=0 then
  if lR s o r pg=0 then jt (dk (fl s o r pg).1 pg 3 r).reverse (dO (fl s o r pg).1 (dA (fl s o r pg).1 r pg).2.2.1 0,(fl s o r pg).2)
  else fl s o r pg
 else s
def B8 (s:WD) (o r:Int) (gone:Bool) (pg rt:Int):Int:=
 if gone=true then 6 else if l9 pg 0 rt=0 then(if(da s.1 r pg).1=true then(if((da s.1 r pg).2.2.1&&(da s.1 r pg).2.1==rt)=true then 0 else lR s o r pg) else 4) else l9 pg 0 rt
def rH (s:WD) (o r:Int) (gone:Bool) (pg rt:Int):WD:=
 if gone=true then s else if l9 pg 0 rt=0 then(if(da s.1 r pg).1=true then(if((da s.1 r pg).2.2.1&&(da s.1 r pg).2.1==rt)=true then s
  else if lR s o r pg=0 then dN (fl s o r pg) (dA (fl s o r pg).1 r pg).2.2.1 (true,rt,false,qD pg (dA s.1 r pg) (da s.1 r pg),()) else fl s o r pg) else s) else s
def cU (ws:List Int):Nat->Int->List Int
 |0,f=>[f]
 |l+1,f=>f::(B1 16).flatMap λ(i:Nat)=>if dJ (aN ws (16*f+(i:Int)))=true then cU ws l (aN ws (16*f+(i:Int))).2.2.2.1 else[]
def jA (x:Int):List Int->List Int
 |[]=>[x]
 |y::l=>if y>x then y::jA x l else x::y::l
def lx (l:List Int):List Int:=(l.foldl (λa x=>jA x a) []).reverse
def mG (s:WD) (r:Int) (gone:Bool):List Int:=if gone=true then[] else lx (cU s.1 3 r)
def cG (s:WD) (r:Int) (gone:Bool):WD:=if gone=true then s else(s.1,(mG s r gone).foldl (λds f=>dI ds f (aP 5 0)) s.2)
structure Sys where
 bm:Nat
 bw:Nat
 bf:Nat
 bp:Nat
 c:Nat
 cp:Nat
 rw:List AR
 rf:List AR
def Sys.L (Q:Sys) (ca la:Int) (s:WD) (L0:List (Nat×List AR)):List (Nat×List AR):=
 (Q.bm,kY Q.bw s.1.length Q.c ca la)::(Q.bw,flat eW s.1++Q.rw)::(Q.bf,flat eD s.2++Q.rf)::(Q.bp,[.slice (ae Q.bf) s.2.length Q.cp])::L0
structure bq (Q:Sys) (D G:List Nat) (w0 w:A2) (s:WD) (L0:List (Nat×List AR)):Prop where
 pos:0<s.1.length
 F1:0<s.2.length
 le:s.2.length<=4096
 okw:okW s.1
 kn: ∃ca la,aK D G w0 w (Q.L ca la s L0)
abbrev oV (Q:Sys) (o r:Int) (gone:Bool):List AR:=[ag (ae Q.bm),ag (ae Q.bp),aa o,aa r,.bool gone]
theorem Zu {ws:List Int} (h:okW ws) (i v:Int) (hv:0<=v/\v<18446744073709551616):okW (dO ws i v):=by
 intro x a;unfold dO at a;split at a
 ·rcases Dl a with a|rfl
  ·exact h x a
  ·exact hv
 ·exact h x a
theorem O4 (p:Bool) (r:Int) (l:Bool) (f:Int):0<=FE p r l f/\FE p r l f<18446744073709551616:=by
 unfold FE;split
 ·rename_i h;unfold vG;cases p with
  |false=>
   unfold bU at h;simp at h;obtain⟨⟨h1,a⟩,b⟩:=h;subst h1;subst a;subst b;decide
  |true=>
   unfold bU at h;simp at h;have d:(nB l:Int)<=1:=by cases l<;>decide
   have e:0<=(nB l:Int):=by omega
   have c:(nB true:Int)=1:=rfl;rw[c];omega
 ·exact⟨by decide,by decide⟩
theorem I4 (n:Nat):0<=Fq n/\Fq n<4096:=by
 unfold Fq;split<;>omega
section
variable {Q:Sys} {D G:List Nat} {w0 w w1:A2} {s:WD} {L0 L1:List (Nat×List AR)}
namespace bq
theorem ext (S:bq Q D G w0 w s L0) (h:Ext w w1):bq Q D G w0 w1 s L0:=by
 obtain⟨h1,a,b,c,ca,la,H⟩:=S;exact⟨h1,a,b,c,ca,la,H.ext h⟩
theorem al (S:bq Q D G w0 w s L0) {cs:List AR} {e:TypeId} {K:Nat->A2->Prop} (k: ∀b w1,bq Q D G w0 w1 s ((b,cs)::L0)->K b w1):aL w ⟨cs⟩ e K:=by
 obtain⟨h1,a,c,d,ca,la,H⟩:=S;exact aL.go H λb w1 H=>k b w1 ⟨h1,a,c,d,ca,la,H.perm (DM (l₁:=[_, _, _, _]))⟩
theorem en (S:bq Q D G w0 w s L0) {K:A2->Prop} (k: ∀w1,bq Q D G w0 w1 s L0->K w1):au w K:=λ_ h=>k _ (S.ext h)
theorem get (S:bq Q D G w0 w s L0) {i b:Nat} {l:List AR} (h:L0[i]? =some (b,l)):bN w b l:=by
 obtain⟨h1,a,c,d,ca,la,H⟩:=S;exact H.get (i:=i+4) h
theorem ld (i:Nat) (S:bq Q D G w0 w s L0) {g:Option Bool} {el:El} {K:el.T->Prop} {b o:Nat} {l:List AR} {x:el.T} (a:L0[i]? =some (b,l)) (hv:kH l o el=some x) (k:K x):aj w g (some ⟨b,o,none⟩) el K:=
 .of x (dV (S.get a) hv) k
theorem cm (i:Nat) (S:bq Q D G w0 w s L0) {g:Option Bool} {el:El} {K:el.T->Prop} {b o n:Nat} {l:List AR} {x:el.T} (a:L0[i]? =some (b,l)) (hv:kH l (o+n) el=some x) (k:K x):aj w g (ad (some ⟨b,o,none⟩) n) el K:=by
 rw[aX];exact .of x (dV (S.get a) hv) k
theorem ff (i:Nat) (S:bq Q D G w0 w s L0) {b:Nat} {l vs:List AR} {K:A2->Prop} (a:L0[i]? =some (b,l)) (c:vs.all (·.oneCell')=true) (d:vs.length=l.length)
 (k: ∀w1,bq Q D G w0 w1 s (L0.set i (b,vs))->K w1):az w (ae b) vs K:=by
 obtain⟨h1,e,f,g,ca,la,H⟩:=S;exact az.all (i+4) H a c d λw1 H=>k w1 ⟨h1,e,f,g,ca,la,H⟩
theorem aa6 (i:Nat) (S:bq Q D G w0 w s L0) {b o:Nat} {l:List AR} {x:AR} {K:A2->Prop} (a:L0[i]? =some (b,l)) (c:x.oneCell'=true) (d:Nat.blt o l.length=true)
 (k: ∀w1,bq Q D G w0 w1 s (L0.set i (b,l.set o x))->K w1):az w (some ⟨b,o,none⟩) [x] K:=by
 obtain⟨h1,e,f,g,ca,la,H⟩:=S;exact az.one (i+4) H a c d λw1 H=>k w1 ⟨h1,e,f,g,ca,la,H⟩
theorem Co (i:Nat) (S:bq Q D G w0 w s L0) {b o n:Nat} {l:List AR} {x:AR} {K:A2->Prop} (a:L0[i]? =some (b,l)) (c:x.oneCell'=true) (d:Nat.blt (o+n) l.length=true)
 (k: ∀w1,bq Q D G w0 w1 s (L0.set i (b,l.set (o+n) x))->K w1):az w (ad (some ⟨b,o,none⟩) n) [x] K:=by
 rw[aX];exact S.aa6 i a c d k
theorem go (S:bq Q D G w0 w s L0) {P:Program} {f:FuncId} {sh:Sh} {args:List AR} {K:sh.T->A2->Prop} (k: ∀w1,bq Q D G w0 w1 s L0->aE P f sh args w1 K):aB P f sh args w K:=λ_ h=>k _ (S.ext h)
theorem sub (S:bq Q D G w0 w s L0) (h:L1.Sublist L0):bq Q D G w0 w s L1:=by
 obtain⟨h1,a,b,c,ca,la,H⟩:=S;exact⟨h1,a,b,c,ca,la,H.sub (((((h.cons_cons _).cons_cons _).cons_cons _).cons_cons _))⟩
theorem tail {x:Nat×List AR} (S:bq Q D G w0 w s (x::L0)):bq Q D G w0 w s L0:=S.sub (DA _ _)
theorem perm (S:bq Q D G w0 w s L0) (h:L1.Perm L0):bq Q D G w0 w s L1:=by
 obtain⟨h1,a,b,c,ca,la,H⟩:=S;exact⟨h1,a,b,c,ca,la,H.perm ((((h.cons _).cons _).cons _).cons _)⟩
theorem load (S:bq Q D G w0 w s L0) (i:Int) {K:Int×Int×Unit->A2->Prop} (k: ∀a,bq Q D G w0 a s L0->K (dL s.1 i,Aa s.1 i,()) a):
 aB AB 37 (.bG [.one (.int .u64),.one (.int .i64)]) [ag (ae Q.bm),aa i] w K:=by
 obtain⟨h1,b,c,d,ca,la,H⟩:=S;exact Ef H 0 1 rfl rfl (by decide) rfl h1 i λa H=>k a ⟨h1,b,c,d, _, _,H⟩
theorem store (S:bq Q D G w0 w s L0) (i v:Int) (hv:0<=v/\v<18446744073709551616) {K:Int->A2->Prop} (k: ∀a,bq Q D G w0 a (dO s.1 i v,s.2) L0->K (Aa s.1 i) a):
 aB AB 38 (.el (.one (.int .i64))) [ag (ae Q.bm),aa i,ay v] w K:=by
 obtain⟨h1,b,d,e,ca,la,H⟩:=S;refine KK H 0 1 rfl rfl (by decide) rfl h1 i v λa H=>k a ⟨?_,b,d,Zu e i v hv,vu s.1 i ca,vu s.1 i la,?_⟩
 ·show 0<(dO s.1 i v).length;rw[cF];exact h1
 ·unfold Sys.L;show aK D G w0 a ((Q.bm,kY Q.bw (dO s.1 i v).length Q.c _ _):: _);rw[cF];exact H
theorem take (S:bq Q D G w0 w s L0) (y o:Int) {K:Int×Int×Unit->A2->Prop} (k: ∀a,bq Q D G w0 a (s.1,di s.2 y o) L0->K (fc s.2 y o,dC s.2 y o,()) a):
 aB AB 172 (.bG [.one (.int .i64),.one (.int .i64)]) [ag (ae Q.bp),aa y,aa o] w K:=by
 obtain⟨h1,b,c,d,ca,la,H⟩:=S;refine Vm H 3 2 rfl rfl (by decide) rfl b c y o λa H=>k a ⟨h1,?_,?_,d,ca,la,?_⟩
 ·show 0<(di s.2 y o).length;rw[vb];exact b
 ·show(di s.2 y o).length<=4096;rw[vb];exact c
 ·unfold Sys.L;show aK D G w0 a (_:: _:: _::(Q.bp,[.slice _ (di s.2 y o).length _]):: _);rw[vb];exact H
theorem TR (S:bq Q D G w0 w s L0) (f y o:Int) {K:Int->A2->Prop} (k: ∀a,bq Q D G w0 a (s.1,dI s.2 f (aP y o)) L0->K (uz s.2 f (aP y o)) a):
 aB AB 138 (.el (.one (.int .i64))) [ag (ae Q.bp),aa f,aa y,aa o] w K:=by
 obtain⟨h1,b,c,d,ca,la,H⟩:=S;refine Vj H 3 2 rfl rfl (by decide) rfl b c f y o λa H=>k a ⟨h1,?_,?_,d,ca,la,?_⟩
 ·show 0<(dI s.2 f (aP y o)).length;rw[iB];exact b
 ·show(dI s.2 f (aP y o)).length<=4096;rw[iB];exact c
 ·unfold Sys.L;show aK D G w0 a (_:: _:: _::(Q.bp,[.slice _ (dI s.2 f (aP y o)).length _]):: _);rw[iB];exact H
theorem cnt (S:bq Q D G w0 w s L0) (v:Int):af AB 30 [ag (ae Q.bp),aa v] w (aa (bu s.2 v:Nat)):=by
 obtain⟨h1,b,a,c,ca,la,H⟩:=S;exact Vn H 3 2 rfl rfl rfl a v
theorem aaq (S:bq Q D G w0 w s L0):af AB 117 [ag (ae Q.bm)] w (aa (s.1.length:Nat)):=by
 obtain⟨h1,a,b,c,ca,la,H⟩:=S;exact af.of (s:= .el (.one (.int .i64))) λw' h'=>IV ((H.get (i:=0) rfl).ext h')
theorem Yw (S:bq Q D G w0 w s L0):af AB 62 [ag (ae Q.bp)] w (aa (s.2.length:Nat)):=by
 obtain⟨h1,a,b,c,ca,la,H⟩:=S;exact aa5 H 3 rfl
end bq
end
set_option maxRecDepth 100000
open Go.RX D
def stE (gone:Bool):Int:=if gone=true then 6 else 0
def aa7 (r:Int) (gone:Bool):Int:=if gone=true then -1 else r
theorem I5 (pg f rt:Int) (w:A2):af AB 215 [aa pg,aa f,aa rt] w (aa (l9 pg f rt)):=by
 refine af.of (s:= .el (.one (.int .i64))) λw' _=>ai (C:=N0) (aS:=λ_=>[]) (Ab (Li _ _ _ w' _) ?_);unfold l9;refine ab (λc=>λw1 h1=>⟨?_,h1⟩) (λc=>ab (λd=>λw1 h1=>⟨?_,h1⟩) (λd=>λw1 h1=>⟨?_,h1⟩))
 ·simp at c;rw[ax (by omega)]
 ·simp at c d;rw[ao (by omega),ax (by omega)]
 ·simp at c d;rw[ao (by omega),ao (by omega)]
theorem I6 (f:Int) (w:A2):af AB 241 [aa f] w (.agg ⟨[.bool true,aa 0,.bool false,aa f]⟩):=by
 refine af.of (s:= .el (.agg sEn)) (v:=cv f) λw' _=>aR (C:=N0) (aS:=λ_=>[]) (Ab (Lj f w' _) ?_);have H:=At.start [] w';exact aL.go H λb a H=>az.all 0 H rfl rfl rfl λc H=>au.go H λd H=>aj.at 0 H rfl rfl ⟨rfl,H.all⟩
theorem I7 {pg:Int} (a:0<=pg) (x:PT) (e:ET) (g:0<=e.2.2.2.1/\e.2.2.2.1<4096) (w:A2):af AB 194 [aa pg,.agg ⟨[aa x.1,aa x.2.1,aa x.2.2.1]⟩,.agg ⟨[.bool e.1,aa e.2.1,.bool e.2.2.1,aa e.2.2.2.1]⟩] w (aa (qD pg x e)):=by
 refine af.of (s:= .el (.one (.int .i64))) λw' _=>ai (C:=N0) (aS:=λ_=>[]) (Ab (Ll pg x.1 x.2.1 x.2.2.1 e.1 e.2.1 e.2.2.1 e.2.2.2.1 w' _) ?_);have H:=At.start [] w';unfold qD;refine aL.go H λb h H=>aL.go H λi j H=>⟨rfl,aj.cq 1 H rfl rfl (ab (λc=>⟨rfl,aj.cq 0 H rfl rfl ⟨trivial,by decide,au.go H λd H=>⟨?_,H.all⟩⟩⟩) (λc=>⟨rfl,aj.cq 0 H rfl rfl (au.go H λd H=>⟨?_,H.all⟩)⟩))⟩
 ·have c:x.2.1=1:=by simpa using c
  rw[ax c];have f:fb pg (gL 1)=pg % 16:=by
   have:gL 1=16:=rfl;rw[this];exact Int.tmod_eq_emod_of_nonneg a
  rw[f,av (by omega) (by omega)]
 ·have c: ¬ x.2.1=1:=by simpa using c
  rw[ao c]
section
variable {Q:Sys} {D G:List Nat} {w0 w:A2} {s:WD} {L0:List (Nat×List AR)} {bt:Nat} {o r:Int} {gone:Bool}
namespace bq
theorem state (S:bq Q D G w0 w s L0) (i:Nat) (a:L0[i]? =some (bt,oV Q o r gone)):af AB 88 [ag (ae bt)] w (aa (stE gone)):=by
 have hb:=S.get a;refine af.of (s:= .el (.one (.int .i64))) λw' h'=>ai (C:=N0) (aS:=λ_=>[]) (Ab (Lh _ w' _) ?_);have hb:=hb.ext h';refine⟨λ_=>rfl,λ_=>rfl,aj.of (ae Q.bm) (by rw[aX];exact hb.oI rfl) (an rfl ⟨rfl,rfl,aj.of gone (by rw[aX];exact hb.oI rfl) ?_⟩)⟩;cases gone with
 |true=>exact aD rfl λw1 h1=>⟨rfl,h1⟩
 |false=>exact an rfl λw1 h1=>⟨rfl,h1⟩
theorem root (S:bq Q D G w0 w s L0) (i:Nat) (a:L0[i]? =some (bt,oV Q o r gone)):af AB 56 [ag (ae bt)] w (aa (aa7 r gone)):=by
 refine af.of (s:= .el (.one (.int .i64))) λw' h'=>ai (C:=N0) (aS:=λ_=>[]) (Ab (Rj _ w' _) ?_);have S:=S.ext h';refine⟨_,S.state i a,?_⟩;cases gone with
 |true=>exact aD rfl λw1 h1=>⟨rfl,h1⟩
 |false=>exact an rfl ⟨rfl,rfl,S.cm i a rfl λw1 h1=>⟨rfl,h1⟩⟩
theorem at_ (S:bq Q D G w0 w s L0) (k:Nat) (d:L0[k]? =some (bt,oV Q o r gone)) (i:Int) {K:ET->A2->Prop} (c: ∀a,bq Q D G w0 a s L0->K (aN s.1 i) a):
 aB AB 235 (.el (.agg sEn)) [ag (ae bt),aa i] w K:=by
 refine S.go λw1 S=>aR (C:=N0) (aS:=λ_=>[]) (Ab (O3 _ i w1 K) ?_);refine S.al λb a S=>⟨rfl,rfl,S.cm (k+1) d rfl (S.load i λf S=>⟨?_,S.al λg j S=>S.ff 0 rfl rfl rfl λl S=>S.ld 0 rfl rfl (S.ff 1 rfl rfl rfl λm S=>S.en λe S=>S.ld 1 rfl rfl (c e S.tail.tail))⟩)⟩;have h:=Gg S.okw i;exact BW h.1 h.2
theorem lay (S:bq Q D G w0 w s L0) (k:Nat) (d:L0[k]? =some (bt,oV Q o r gone)) (i:Int) (e:ET) {K:Unit->A2->Prop} (c: ∀a,bq Q D G w0 a (dN s i e) L0->K () a):
 aB AB 222 (.bG []) [ag (ae bt),aa i,.agg ⟨[.bool e.1,aa e.2.1,.bool e.2.2.1,aa e.2.2.2.1]⟩] w K:=by
 refine S.go λw1 S=>ai (C:=N0) (aS:=λ_=>[]) (Ab (Vb _ i e.1 e.2.1 e.2.2.1 e.2.2.2.1 w1 K) ?_);exact S.al λb a S=>S.ld 0 rfl rfl ⟨trivial,rfl,rfl,S.cm (k+1) d rfl (S.store i _ (O4 _ _ _ _) λg S=>S.en λf S=>c f S.tail)⟩
end bq
theorem Gp {ds:List DT} {y o:Int} (h: ¬ dC ds y o=0):fc ds y o=0:=by
 unfold dC at h;unfold fc;cases a:ik ds with
 |none=>rfl
 |some n=>
  have b: ¬ ds.length=0:=λe=>by
   have:ds=[]:=Fo.1 e;subst this;cases a
  rw[ao b,a] at h;exact ao h
theorem vd (ds:List DT) (y o:Int) (h0:0<ds.length):0<=fc ds y o/\fc ds y o<ds.length:=by
 unfold fc;cases a:ik ds with
 |none=>exact⟨Dc 0,by show(0:Int)< _;omega⟩
 |some n=>
  unfold ik at a;rw[Ft] at a;have h1:=a.1;dsimp only;split<;>omega
end
set_option maxRecDepth 100000
open Go.RX D
section
variable {Q:Sys} {D G:List Nat} {w0 w:A2} {s:WD} {L0:List (Nat×List AR)} {bt:Nat} {o r:Int} {gone:Bool}
namespace bq
theorem aa8 (S:bq Q D G w0 w s L0) (i:Nat) (b:L0[i]? =some (bt,oV Q o r gone)) {K:Int×Int×Unit->A2->Prop} (k: ∀d,bq Q D G w0 d (iW s o (λ_=>0)) L0->K (eK s o,rA s o,()) d):
 aB AB 205 (.bG [.one (.int .i64),.one (.int .i64)]) [ag (ae bt),.func (.func 206) #[] #[]] w K:=by
 refine S.go λw1 S=>ai (C:=N0) (aS:=rb) (Ab (Ln _ w1 K) ?_);have A:=vd s.2 3 o S.F1;have B:=S.le;refine⟨rfl,rfl,S.cm i b rfl ⟨rfl,rfl,S.cm i b rfl (S.take 3 o λd S=>?_)⟩⟩;by_cases a:rA s o=0
 ·have f:iW s o (λ_=>0)=(eZ s.1 (eK s o) (λ_=>0) 16,di s.2 3 o):=by unfold iW;rw[ax a]
  rw[f,a] at k;have g:dC s.2 3 o=0:=a;refine an (by simp[g]) ⟨λn v w'=> ∃m:Nat,n=16 - m/\m<=16/\v.1=(m:Int)/\bq Q D G w0 w' (eZ s.1 (eK s o) (λ_=>0) m,di s.2 3 o) L0,⟨16,λj h=>⟨0,rfl,by omega,rfl,S.ext h⟩⟩,?_⟩;rintro n ⟨v,u⟩ j ⟨m,rfl,E,e,S⟩;dsimp only at e ⊢;subst e;refine ab (λc=>⟨rfl,rfl,S.cm i b rfl ?_⟩) (λc=>S.en λl S=>k l ?_)
  ·have c:m<16:=by simp at c;omega
   refine λl p=>ai (C:=N0) (aS:=λ_=>[]) (Ab (Rm _ l _) λF q=>?_);have S:=(S.ext p).ext q;have t:(0:Int)<=0/\(0:Int)<18446744073709551616:=by decide
   refine⟨trivial,trivial,by rw[aX];exact(S.get b).oI rfl,trivial,trivial,?_⟩;have x:aI .i64 (iD .i64 16 (fc s.2 3 o)) (m:Int)=16*eK s o+(m:Int):=by
    have:eK s o=fc s.2 3 o:=rfl;rw[eH (by omega) (by omega),av (by omega) (by omega),this]
   rw[x];refine S.store _ _ t λH S=>λI y=>⟨16 - (m+1),by omega,m+1,rfl,by omega,?_,S.ext y⟩;rw[av (by omega) (by omega)];omega
  ·have c: ¬ m<16:=by simp at c;omega
   have:m=16:=by omega
   subst this;exact S
 ·have f:iW s o (λ_=>0)=(s.1,di s.2 3 o):=by unfold iW;rw[ao a]
  have z:eK s o=0:=Gp a;rw[f,z] at k;have g: ¬ dC s.2 3 o=0:=a;exact aD (by simp[g]) (S.en λj S=>k j S)
theorem aa9 (S:bq Q D G w0 w s L0) (i:Nat) (b:L0[i]? =some (bt,oV Q o r gone)) {K:Int×Int×Unit->A2->Prop} (k: ∀d,bq Q D G w0 d (iW s o (λ_=>0)) L0->K (eK s o,rA s o,()) d):
 aB AB 205 (.bG [.one (.int .i64),.one (.int .i64)]) [ag (ae bt),.func (.func 240) #[] #[]] w K:=by
 refine S.go λw1 S=>ai (C:=N0) (aS:=rh) (Ab (Lu _ w1 K) ?_);have A:=vd s.2 3 o S.F1;have B:=S.le;refine⟨rfl,rfl,S.cm i b rfl ⟨rfl,rfl,S.cm i b rfl (S.take 3 o λd S=>?_)⟩⟩;by_cases a:rA s o=0
 ·have f:iW s o (λ_=>0)=(eZ s.1 (eK s o) (λ_=>0) 16,di s.2 3 o):=by unfold iW;rw[ax a]
  rw[f,a] at k;have g:dC s.2 3 o=0:=a;refine an (by simp[g]) ⟨λn v w'=> ∃m:Nat,n=16 - m/\m<=16/\v.1=(m:Int)/\bq Q D G w0 w' (eZ s.1 (eK s o) (λ_=>0) m,di s.2 3 o) L0,⟨16,λj h=>⟨0,rfl,by omega,rfl,S.ext h⟩⟩,?_⟩;rintro n ⟨v,u⟩ j ⟨m,rfl,E,e,S⟩;dsimp only at e ⊢;subst e;refine ab (λc=>⟨rfl,rfl,S.cm i b rfl ?_⟩) (λc=>S.en λl S=>k l ?_)
  ·have c:m<16:=by simp at c;omega
   refine λl p=>ai (C:=N0) (aS:=λ_=>[]) (Ab (Rn _ l _) λF q=>?_);have S:=(S.ext p).ext q;have t:(0:Int)<=0/\(0:Int)<18446744073709551616:=by decide
   refine⟨trivial,trivial,by rw[aX];exact(S.get b).oI rfl,trivial,trivial,?_⟩;have x:aI .i64 (iD .i64 16 (fc s.2 3 o)) (m:Int)=16*eK s o+(m:Int):=by
    have:eK s o=fc s.2 3 o:=rfl;rw[eH (by omega) (by omega),av (by omega) (by omega),this]
   rw[x];refine S.store _ _ t λH S=>λI y=>⟨16 - (m+1),by omega,m+1,rfl,by omega,?_,S.ext y⟩;rw[av (by omega) (by omega)];omega
  ·have c: ¬ m<16:=by simp at c;omega
   have:m=16:=by omega
   subst this;exact S
 ·have f:iW s o (λ_=>0)=(s.1,di s.2 3 o):=by unfold iW;rw[ao a]
  have z:eK s o=0:=Gp a;rw[f,z] at k;have g: ¬ dC s.2 3 o=0:=a;exact aD (by simp[g]) (S.en λj S=>k j S)
theorem aa_ (S:bq Q D G w0 w s L0) (i:Nat) (b:L0[i]? =some (bt,oV Q o r gone)) (j:Nat) {be:Nat} {e:ET} (hb:L0[j]? =some (be,[.bool e.1,aa e.2.1,.bool e.2.2.1,aa e.2.2.2.1])) (B:0<=e.2.2.2.1/\e.2.2.2.1<4096) {K:Int×Int×Unit->A2->Prop} (k: ∀d,bq Q D G w0 d (iW s o (oN e)) L0->K (eK s o,rA s o,()) d):
 aB AB 205 (.bG [.one (.int .i64),.one (.int .i64)]) [ag (ae bt),.func (.func 242) #[] #[ag (ae be)]] w K:=by
 refine S.go λw1 S=>ai (C:=N0) (aS:=ri) (Ab (Lv _ _ w1 K) ?_);have E:=vd s.2 3 o S.F1;have F:=S.le;refine⟨rfl,rfl,S.cm i b rfl ⟨rfl,rfl,S.cm i b rfl (S.take 3 o λd S=>?_)⟩⟩;by_cases a:rA s o=0
 ·have f:iW s o (oN e)=(eZ s.1 (eK s o) (oN e) 16,di s.2 3 o):=by unfold iW;rw[ax a]
  rw[f,a] at k;have g:dC s.2 3 o=0:=a;refine an (by simp[g]) ⟨λn v w'=> ∃m:Nat,n=16 - m/\m<=16/\v.1=(m:Int)/\bq Q D G w0 w' (eZ s.1 (eK s o) (oN e) m,di s.2 3 o) L0,⟨16,λl h=>⟨0,rfl,by omega,rfl,S.ext h⟩⟩,?_⟩;rintro n ⟨v,u⟩ l ⟨m,rfl,H,ev,S⟩;dsimp only at ev ⊢;subst ev;refine ab (λc=>⟨rfl,rfl,S.cm i b rfl ?_⟩) (λc=>S.en λp S=>k p ?_)
  ·have c:m<16:=by simp at c;omega
   refine λp q=>ai (C:=N0) (aS:=λ_=>[]) (Ab (Hg _ _ p _) ?_);have S:=S.ext q;refine⟨rfl,S.cm j hb rfl ⟨rfl,S.cm j hb rfl ⟨trivial,S.en λI S=>?_⟩⟩⟩;have t:FE true e.2.1 false (aI .i64 e.2.2.2.1 (m:Int))=oN e (m:Int):=by
    rw[av (by omega) (by omega)];rfl
   rw[t];have x:0<=oN e (m:Int)/\oN e (m:Int)<18446744073709551616:=O4 _ _ _ _;refine⟨trivial,trivial,by rw[aX];exact(S.get b).oI rfl,trivial,trivial,?_⟩;have y:aI .i64 (iD .i64 16 (fc s.2 3 o)) (m:Int)=16*eK s o+(m:Int):=by
    have:eK s o=fc s.2 3 o:=rfl;rw[eH (by omega) (by omega),av (by omega) (by omega),this]
   rw[y];refine S.store _ _ x λJ S=>λL z=>⟨16 - (m+1),by omega,m+1,rfl,by omega,?_,S.ext z⟩;rw[av (by omega) (by omega)];omega
  ·have c: ¬ m<16:=by simp at c;omega
   have:m=16:=by omega
   subst this;exact S
 ·have f:iW s o (oN e)=(s.1,di s.2 3 o):=by unfold iW;rw[ao a]
  have A:eK s o=0:=Gp a;rw[f,A] at k;have g: ¬ dC s.2 3 o=0:=a;exact aD (by simp[g]) (S.en λl S=>k l S)
end bq
end
set_option maxRecDepth 100000
open Go.RX D
section
variable {D G:List Nat} {w0 w:A2} {L:List (Nat×List AR)}
def XG (e:El) (b:Nat) (xs:List e.T) (a:List (Nat×List AR)):Prop:=
 (xs=[]/\a=[(b,[.slice none 0 0])])\/ ∃bs c rest,a=[(b,[.slice (ae bs) xs.length c]),(bs,flat e xs++rest)]/\(flat e xs++rest).length=c*aF e/\xs.length<=c
theorem XG.head {e:El} {b:Nat} {xs:List e.T} {a:List (Nat×List AR)} (h:XG e b xs a): ∃s:Option AC×Nat×Nat,a[0]? =some (b,[.slice s.1 s.2.1 s.2.2]):=by
 rcases h with ⟨_,rfl⟩|⟨bs,c,rest,rfl, _⟩
 ·exact⟨(none,0,0),rfl⟩
 ·exact⟨(_, _, _),rfl⟩
theorem XG.push {e:El} {b d:Nat} {xs:List e.T} {x:e.T} {f Z:List (Nat×List AR)} {s:Option AC×Nat×Nat} (u:XG e b xs f) (i:f[0]? =some (b,[.slice s.1 s.2.1 s.2.2])) (H:aK D G w0 w ((d,cellsOf e x)::(f++Z)))
 (j:gY e=true) {t:TypeId} {size bytes:Nat} {z:Array AR} (l:size=aF e) (m:z.size=aF e) (hb:(xs.length+1)*bytes<=140737488355328) {K:A2->Prop}
 (k: ∀o w',XG e b (xs++[x]) o->aK D G w0 w' (o++Z)->K w'):
 nb w t size bytes z (s.1,s.2.1,s.2.2) (some ⟨d,0,none⟩,1,1) λr a=>az a (ae b) [.slice r.1 r.2.1 r.2.2] K:=by
 obtain⟨p,n,c⟩:=s;rcases u with ⟨rfl,rfl⟩|⟨bs,A,rest,rfl,h1,v⟩
 ·cases i;refine aK.grow (Ls:=[]) (L0:=(b,[.slice none 0 0])::Z) (xs:=[]) H (.inl ⟨rfl,rfl,rfl⟩) j l m hb λbs c rest w' g1 g H=>?_;refine az.all 1 H rfl rfl rfl λa H=>k [(b,[.slice (ae bs) 1 c]),(bs,flat e [x]++rest)] a (.inr ⟨bs,c,rest,rfl,g1,g⟩) ?_;exact H.perm (FX _ _ _)
 ·cases i;have y:aK D G w0 w ((d,cellsOf e x)::([(bs,flat e xs++rest)]++((b,[.slice (ae bs) xs.length c])::Z))):=H.perm (FY _ (FX _ _ _));refine aK.grow y (.inr ⟨bs,c,rest,rfl,rfl,h1,v⟩) j l m hb λh c2 q w' g1 g H=>?_;refine az.all 1 H rfl rfl rfl λa H=>k [(b,[.slice (ae h) (xs.length+1) c2]),(h,flat e (xs++[x])++q)] a (.inr ⟨h,c2,q,?_,g1,by simpa using g⟩) ?_
  ·rw[Dn];rfl
  ·exact H.perm (FX _ _ _)
theorem xW.new {l:Nat} {rec:Loop} {w':A2} {b:Nat} {cs:List AR} (h:xW D G w0 w L l rec) (H:At [] w w' [(b,cs)]):xW D G w0 w' ((b,cs)::L) l rec/\Ob l w w':=by
 have a:Ext w w':=H.all;have hb:w.heap.size<=b:=by
  rcases H.own (b,cs) Do with h|h
  ·exact h
  ·cases h
 exact⟨⟨h.1,h.2.1.more a hb (H.cZ (b,cs) Do),h.2.2.ext a⟩,Ob.uY a⟩
theorem LC {bm bw n c:Nat} {ca la:Int} {ws:List Int} {rest:List AR} (H:aK D G w0 w L) (j:Nat) (b:L[j]? =some (bm,kY bw n c ca la)) (f:bN w0 bw (flat eW ws++rest)) (g:bw∉G) (h:n=ws.length) (h0:0<n) (i:Int) {K:Int×Int×Unit->A2->Prop}
 (k: ∀a,aK D G w0 a (L.set j (bm,kY bw n c (vu ws i ca) la))->K (dL ws i,Aa ws i,()) a):
 aB AB 37 (.bG [.one (.int .u64),.one (.int .i64)]) [ag (ae bm),aa i] w K:=by
 refine aB.go H λw1 H=>ai (C:=M0) (aS:=λ_=>[]) (Ab (Ee _ i w1 K) ?_);refine yZ H j b h h0 i (λhi a H=>?_) (λhi a H=>?_)
 ·unfold vu dL Aa at k;rw[hi,ax rfl,ax rfl,ax rfl] at k;have l:=jc.1 hi;refine an rfl ⟨rfl,?_⟩;rw[aX];have e:=aal (ws:=ws) (rest:=rest) (i:=i.toNat) (by omega);rw[DJ] at e;exact aj.fQ H f g e (au.go H λd H=>k d H)
 ·unfold vu dL Aa at k;rw[hi,ao (by decide),ao (by decide),ao (by decide)] at k;refine aD rfl (au.go H λd H=>k d ?_);rw[show L.set j (bm,kY bw n c ca la)=L from Fw λm=>by
   by_cases e:j=m
   ·subst e;rw[DU (B4.1 b).1,b]
   ·rw[BT e]]
  exact H
structure TbR (Q:Sys) (ws:List Int) (w:A2) (bt:Nat) (o r:Int) (gone:Bool):Prop where
 tb:bN w bt (oV Q o r gone)
 wd:bN w Q.bw (flat eW ws++Q.rw)
 tne:bt≠Q.bm
 wne:Q.bw≠Q.bm
 okw:okW ws
 pos:0<ws.length
abbrev Mc (Q:Sys) (n:Nat) (l:List AR):Prop:= ∃ca la,l=kY Q.bw n Q.c ca la
theorem O5 {Q:Sys} {ws:List Int} {bt:Nat} {o r:Int} {gone:Bool} {D:List Nat} {L:List (Nat×List AR)} {ca la:Int} (R:TbR Q ws w0 bt o r gone) (H:aK D [Q.bm] w0 w L) (j:Nat) (d:L[j]? =some (Q.bm,kY Q.bw ws.length Q.c ca la)) (i:Int) {K:ET->A2->Prop}
 (k: ∀ca a,aK D [Q.bm] w0 a (L.set j (Q.bm,kY Q.bw ws.length Q.c ca la))->K (aN ws i) a):
 aB AB 235 (.el (.agg sEn)) [ag (ae bt),aa i] w K:=by
 have t1:bt∉[Q.bm]:=by simpa using R.tne
 have t2:Q.bw∉[Q.bm]:=by simpa using R.wne
 refine aB.go H λw1 H=>aR (C:=N0) (aS:=λ_=>[]) (Ab (O3 _ i w1 K) ?_);refine aL.go H λb a H=>⟨rfl,rfl,aj.k8 H R.tb t1 rfl (LC H (j+1) d R.wd t2 rfl R.pos i λf H=>⟨?_,aL.go H λg l H=>az.all 0 H rfl rfl rfl λm H=>aj.at 0 H rfl rfl (az.all 1 H rfl rfl rfl λn H=>au.go H λe H=>aj.at 1 H rfl rfl (k (vu ws i ca) e (H.sub ?_)))⟩)⟩
 ·have h:=Gg R.okw i;exact BW h.1 h.2
 ·exact(DA _ _).trans (DA _ _)
end
abbrev emP (x:PT×Unit):List AR:=[.agg ⟨[aa x.1.1,aa x.1.2.1,aa x.1.2.2.1]⟩]
abbrev XH (x:PT):PT×Unit:=(x,())
def N3 (ws:List Int) (pg:Int):Nat->Int->List PT
 |0, _=>[]
 |l+1,f=>if dJ (aN ws (dW f pg ((l+1:Nat):Int)))=true then dk ws pg l (aN ws (dW f pg ((l+1:Nat):Int))).2.2.2.1 else[]
theorem LD (ws:List Int) (pg:Int): ∀(l:Nat) (f:Int),dk ws pg l f=(f,(l:Int),dW f pg (l:Int),())::N3 ws pg l f
 |0, _=>rfl
 | _+1, _=>rfl
theorem Rv {ws:List Int} {pg:Int} {l:Nat} {f:Int} (h:dJ (aN ws (dW f pg (l:Int)))=false):N3 ws pg l f=[]:=by
 cases l with
 |zero=>rfl
 |succ l=>rw[N3,h,ao (by decide)]
theorem Zv {Q:Sys} {ws:List Int} {bt b c:Nat} {o r pg:Int} {gone:Bool} {N:Nat} (E:okW ws) (F:0<ws.length):
 ItJ AB 244 (λy=>[.func (.yield y) #[] #[],ag (ae b),ag (ae c)]) emP N Q.bm (Mc Q ws.length)
  [(bt,oV Q o r gone),(Q.bw,flat eW ws++Q.rw),(b,[ag (ae bt)]),(c,[aa pg])] ((dk ws pg 3 r).map XH):=by
 intro y J K G a X O w t i j;refine Calls.mono (ai (C:=N0) (aS:=uf) (Post:=λ_ w'=>J (a++(dk ws pg 3 r).map XH) X O w') (Ab (Rk y _ _ w _) ?_)) ?_
 rotate_left
 ·rintro e w' ⟨x,rfl,h⟩;exact⟨_,rfl,h⟩
 have x1:=i (bt,oV Q o r gone) (by simp);have z:=i (Q.bw,flat eW ws++Q.rw) (by simp);have A:=i (b,[ag (ae bt)]) (by simp);have I:=i (c,[aa pg]) (by simp);refine aj.of (ae bt) ((K.cZ j A).2.oI rfl) ⟨rfl,rfl,aj.of r (by rw[aX];exact(K.cZ j x1).2.oI rfl) ⟨λn v w'=>(∃l:Nat,v.2.1=(l:Int)/\n=l+1/\l<=3/\ ∃pre,dk ws pg 3 r=pre++dk ws pg l v.1/\J (a++pre.map XH) X O w')\/(v.2.1= -1/\J (a++(dk ws pg 3 r).map XH) X O w'),
  ⟨4,λw1 h1=> .inl ⟨3,rfl,rfl,B_ _,[],rfl,by simpa using K.ext j h1⟩⟩,?_⟩⟩
 rintro n ⟨f,lv,u⟩ w1 (⟨l,g,rfl,hl,pre,d,j⟩|⟨g,j⟩)
 ·dsimp only at g d ⊢;subst g;refine aD (by simp) (aj.of pg ((K.cZ j I).2.oI rfl) ⟨trivial,?_⟩);obtain⟨lm,⟨ca,la,rfl⟩,H⟩:=K.at0 j;have R:TbR Q ws w1 bt o r gone:=⟨(K.cZ j x1).2,(K.cZ j z).2,(K.cZ j x1).1,(K.cZ j z).1,E,F⟩;have hb:=K.cZ j A;have L:b∉[Q.bm]:=by simpa using hb.1
  refine aL.go H λM P H=>az.all 0 H rfl rfl rfl λw3 H=>aj.fQ H hb.2 L rfl ⟨rfl,aj.cq 0 H rfl rfl (O5 R H 1 rfl _ λca2 w4 H=>aL.go H λB w5 H=>az.all 0 H rfl rfl rfl λw6 H=>aj.at 1 H rfl rfl λS T=>?_)⟩;have H:=H.ext T;rw[LD ws pg l f] at d;have U:(a++pre.map XH).length<N:=by
   rw[d] at t;simp only[List.map_append,Dn,DY,B9] at t ⊢;omega
  have V:=K.s6 (Y:=[(B, _),(M, _)]) j H ⟨_, _,rfl⟩;refine G _ (XH (f,(l:Int),dW f pg (l:Int),())) _ _ S _ U V λw8 m=>?_;have D:=(K.cZ m (x:=(B, _)) (Do)).2;refine aj.of (aN ws (dW f pg (l:Int))) (dV D rfl) ⟨λ_=>trivial,ab (λp W q=>?_) (λp=>⟨rfl,aj.of (aN ws (dW f pg (l:Int))).2.2.2.1 (by rw[aX];exact D.oI rfl) λW q=>?_⟩)⟩
  ·have s:dJ (aN ws (dW f pg (l:Int)))=false:=by simpa[dJ] using p
   have k:=K.sub (K.ext m q) (X':=X) (λx h=>by simp[h]) (Ca _);rw[Rv s] at d;rw[d];simpa using k
  ·have s:dJ (aN ws (dW f pg (l:Int)))=true:=by simpa[dJ] using p
   have k:=K.sub (K.ext m q) (X':=X) (λx h=>by simp[h]) (Ca _);rcases l with _|l
   ·refine⟨0,by omega,.inr ⟨rfl,?_⟩⟩;rw[d];simpa[N3] using k
   ·refine⟨l+1,by omega,.inl ⟨l,?_,rfl,by omega,pre++[(f,((l+1:Nat):Int),dW f pg ((l+1:Nat):Int),())],?_,by simpa using k⟩⟩
    ·show aZ .i64 ((l+1:Nat):Int) 1=(l:Int);rw[bD (by omega) (by omega)];omega
    ·rw[d,N3,ax s,Fy];rfl
 ·dsimp only at g ⊢;subst g;exact an rfl λP Z=>K.ext j Z
section
variable {Q:Sys} {D G:List Nat} {w0 w:A2} {s:WD} {L0:List (Nat×List AR)} {bt:Nat} {o r:Int} {gone:Bool}
namespace bq
theorem way (S:bq Q D G w0 w s L0) (pg:Int) {K:Option AC×Option AC×Unit->A2->Prop} (k: ∀b c a,bq Q D G w0 a s ((c,[aa pg])::(b,[ag (ae bt)])::L0)->K (some ⟨b,0,none⟩,some ⟨c,0,none⟩,()) a):
 aB AB 219 aap [ag (ae bt),aa pg] w K:=by
 refine S.go λw1 S=>ai (C:=N0) (aS:=λ_=>[]) (Ab (Vc _ pg w1 K) ?_);exact S.al λb a S=>S.al λc e S=>S.en λd S=>k b c d S
theorem NV (S:bq Q D G w0 w s L0) (k0:Nat) (p:L0[k0]? =some (bt,oV Q o r gone)) {b c:Nat} {pg:Int} (hb:(b,[If (ae bt)])∈L0) (hc:(c,[aa pg])∈L0)
 {K:Option AC×Nat×Nat->A2->Prop} (k: ∀bs cs rest g,bq Q D G w0 g s ((bs,flat (.agg Ty) (dk s.1 pg 3 r)++rest)::L0)->K (some ⟨bs,0,none⟩,(dk s.1 pg 3 r).length,cs) g):
 aB AB 218 (.el (.one .slice)) [.func (.func 244) #[] #[ag (ae b),ag (ae c)]] w K:=by
 refine S.go λw1 S=>aR (C:=N0) (aS:=ug) (Ab (Rl _ _ w1 K) ?_);obtain⟨h1,q,t,m,ca,la,H0⟩:=S;have H:=H0.again;refine aL.go H λbl g H=>?_;have u:(dk s.1 pg 3 r).length<=4:=tB s.1 pg 3 r;refine zZ.NV (N:=4) (bm:=Q.bm) (mc:=Mc Q s.1.length) (Rg0:=[(bl,[.slice none 0 0])]) (Lb:=(Q.bw,flat eW s.1++Q.rw)::(Q.bf,flat eD s.2++Q.rf)::(Q.bp,[.slice (ae Q.bf) s.2.length Q.cp])::L0) H ⟨_, _,rfl⟩
  (Zv (o:=o) (r:=r) (gone:=gone) (bt:=bt) (pg:=pg) m h1) ?_ (by simpa using u) (λxs d=>XG (.agg Ty) bl (xs.map (·.1)) d) (.inl ⟨rfl,rfl⟩) ?_ ?_
 ·intro x e;simp only[Dy,List.not_mem_nil,or_false] at e;rcases e with rfl|rfl|rfl|rfl
  ·simp[C6 p]
  ·simp
  ·simp[hb]
  ·simp[hc]
 ·intro b0 x d Z rr l rec v R hN a f y;refine Dg.go f rfl ?_;refine aL.go (At.start [] v) λz A i=>az.all 0 i rfl rfl rfl λB i=>?_;obtain⟨E,F⟩:=xW.new f i;obtain⟨sl,j⟩:=a.head;refine BR.goO E λwb H I J=>aj.at 1 H (by rw[List.getElem?_cons_succ,Ds (B4.1 j).1];exact j) rfl (aj.at 0 H rfl rfl (aL.go H λL n H=>λM O=>?_));have H:=H.ext O;have P:aK [] _ wb M ((L,cellsOf (.agg Ty) x.1)::(d++((z,[aa x.1.1,aa x.1.2.1,aa x.1.2.2.1])::Z))):=H.perm (FY _ DM);refine a.push j P rfl rfl rfl (by simp only[DY];omega) λT w8 U V=>sk.lq I (V.sub (List.Sublist.append (Ca _) (DA _ _))) λW X Y=>y T W (by simpa using U) X ((F.trans J).trans Y)
 ·rintro rr rec A l' d ⟨ca2,la2,rfl⟩ a f;refine dx.none f λB H=>?_;have Wl:((dk s.1 pg 3 r).map XH).map (·.1)=dk s.1 pg 3 r:=by
   rw[List.map_map];exact List.map_id _
  rw[Wl] at a;rcases a with ⟨h, _⟩|⟨bs,cs,rest,rfl,g1,g2⟩
  ·exact absurd h (xE _ _ _ _)
  ·refine aj.at 0 H rfl rfl (sq.go H λn H=>k bs cs rest n ⟨h1,q,t,m,ca2,la2,H0.join (λx e=>e) ?_⟩);refine(H.sub (DA _ _)).perm ?_;exact DM (l₁:=[_, _, _, _])
end bq
end
set_option maxRecDepth 100000
open Go.RX D
theorem CB (ws:List Int) (r pg:Int):(dk ws pg 3 r)[(dk ws pg 3 r).length - 1]? =some (dA ws r pg):=by
 have a:=xE ws pg 3 r;unfold dA;rw[List.getLastD_eq_getLast?, <-List.getLast?_eq_getElem?,List.getLast?_eq_some_getLast a];rfl
theorem pJ (ws:List Int) (a:Int):0<=(aN ws a).2.2.2.1/\(aN ws a).2.2.2.1<4096:=I4 _
section
variable {Q:Sys} {D G:List Nat} {w0 w:A2} {s:WD} {L0:List (Nat×List AR)} {bt:Nat} {o r:Int} {gone:Bool}
namespace bq
theorem end_ (S:bq Q D G w0 w s L0) (k0:Nat) (c:L0[k0]? =some (bt,oV Q o r gone)) (pg:Int) {K:PT×ET×Unit->A2->Prop} (k: ∀a,bq Q D G w0 a s L0->K (dA s.1 r pg,da s.1 r pg,()) a):
 aB AB 193 (.bG [.agg Ty,.agg sEn]) [ag (ae bt),aa pg] w K:=by
 refine S.go λw1 S=>aR (C:=N0) (aS:=λ_=>[]) (Ab (Vd _ pg w1 K) ?_);refine S.al λb a S=>S.al λg h S=>S.way pg λj bc l S=>S.NV (pg:=pg) (k0+4) c (by simp) (by simp) λbs cs rest m S=>?_;have n:(dk s.1 pg 3 r).length<=4:=tB s.1 pg 3 r;have p:0<(dk s.1 pg 3 r).length:=G1.2 (xE s.1 pg 3 r);have d:aZ .i64 (((dk s.1 pg 3 r).length:Nat):Int) 1=(((dk s.1 pg 3 r).length - 1:Nat):Int):=by rw[bD (by omega) (by omega)];omega
 have e:=fU (S.get (i:=0) rfl) (CB s.1 r pg);dsimp only;rw[d];refine⟨⟨rfl,by omega,by omega⟩,aj.of (dA s.1 r pg) e ?_⟩;refine S.al λq t S=>S.ff 0 rfl rfl rfl λu S=>S.ld 0 rfl rfl ⟨rfl,S.cm 0 rfl rfl (S.at_ (k0+6) c _ λv S=>⟨dV (S.get (i:=0) rfl) rfl,S.ff 5 rfl rfl rfl λx S=>S.ff 4 rfl rfl rfl λy S=>S.en λf S=>S.ld 5 rfl rfl (S.ld 4 rfl rfl (k f S.tail.tail.tail.tail.tail.tail))⟩)⟩
theorem query (S:bq Q D G w0 w s L0) (k0:Nat) (e:L0[k0]? =some (bt,oV Q o r gone)) (pg:Int) {K:Int×Int×Int×Unit->A2->Prop} (k: ∀a,bq Q D G w0 a s L0->K (bC s r gone pg) a):
 aB AB 139 (.bG [.one (.int .i64),.one (.int .i64),.one (.int .i64)]) [ag (ae bt),aa pg] w K:=by
 refine S.go λw1 S=>ai (C:=N0) (aS:=λ_=>[]) (Ab (Lx _ pg w1 K) ?_);refine⟨_,S.state k0 e,?_⟩;unfold bC at k;cases gone with
 |true=>
  rw[ax rfl] at k;exact aD rfl (S.en λa S=>k a S)
 |false=>
  rw[ao (by decide)] at k;refine an rfl (ab (λc=>S.en λa S=>?_) (λc=>?_))
  ·simp only[Dt,decide_eq_true_eq] at c;rw[ax c] at k;exact k a S
  ·simp only[FW,decide_eq_false_iff_not] at c;rw[ao (by omega)] at k;refine S.end_ k0 e pg λa S=>S.al λb f S=>S.al λg h S=>S.ff 1 rfl rfl rfl λi S=>S.ff 0 rfl rfl rfl λj S=>⟨rfl,S.cm 0 rfl rfl (ab (λc2=>S.en λd S=>?_) (λc2=>S.ld 1 rfl rfl (S.ld 0 rfl rfl ⟨_,I7 (by omega) (dA s.1 r pg) (da s.1 r pg) (pJ _ _) _,rfl,S.cm 0 rfl rfl (S.en λd S=>?_)⟩)))⟩
   ·have c2:(da s.1 r pg).1=false:=by simpa using c2
    rw[c2,ao (by decide)] at k;exact k d S.tail.tail
   ·have c2:(da s.1 r pg).1=true:=by simpa using c2
    rw[c2,ax rfl] at k;exact k d S.tail.tail
theorem split (S:bq Q D G w0 w s L0) (k0:Nat) (a:L0[k0]? =some (bt,oV Q o r gone)) (pg:Int) {K:Int->A2->Prop} (k: ∀d,bq Q D G w0 d (fl s o r pg) L0->K (lR s o r pg) d):
 aB AB 217 (.el (.one (.int .i64))) [ag (ae bt),aa pg] w K:=by
 refine S.go λw1 S=>ai (C:=N0) (aS:=λ_=>[]) (Ab (Ly _ pg w1 K) ?_);unfold fl lR at k;refine S.end_ k0 a pg λd S=>S.al λb j S=>S.al λh l S=>S.ff 1 rfl rfl rfl λm S=>S.ff 0 rfl rfl rfl λn S=>⟨rfl,S.cm 1 rfl rfl (ab (λc=>S.en λf S=>?_) (λc=>?_))⟩
 ·have c:(dA s.1 r pg).2.1=0:=by simpa using c
  rw[ax c,ax c] at k;exact k f S.tail.tail
 ·have c: ¬ (dA s.1 r pg).2.1=0:=by simpa using c
  rw[ao c,ao c] at k;refine S.aa_ (k0+2) a 0 (be:=h) (e:=da s.1 r pg) rfl (pJ _ _) λf S=>ab (λc2=>⟨rfl,S.cm 1 rfl rfl ⟨cv (eK s o),I6 _ _,S.lay (k0+2) a _ (cv (eK s o)) λg S=>S.en λi S=>?_⟩⟩) (λc2=>S.en λg S=>?_)
  ·have c2:rA s o=0:=by simpa using c2
   rw[ax c2] at k;exact k i S.tail.tail
  ·have c2: ¬ rA s o=0:=by simpa using c2
   rw[ao c2] at k;exact k g S.tail.tail
end bq
end
set_option maxRecDepth 100000
open Go.RX D
theorem I8 (ws:List Int) (pg:Int): ∀(l:Nat) (f:Int) (x:PT),x∈dk ws pg l f->0<=x.2.1/\x.2.1<=(l:Int)
 |0,f,x,h=>by
  rw[dk,E4] at h;subst h;exact⟨Dc _,Dc _⟩
 |l+1,f,x,h=>by
  rw[dk] at h;rcases Dy.1 h with rfl|h
  ·exact⟨by show(0:Int)<=((l+1:Nat):Int);omega,Dc _⟩
  ·split at h
   ·have:=I8 ws pg l _ x h;omega
   ·cases h
theorem I9 (ws:List Int) (r pg:Int):0<=(dA ws r pg).2.1/\(dA ws r pg).2.1<=3:=by
 have:=I8 ws pg 3 r _ (C6 (CB ws r pg));omega
section
variable {Q:Sys} {D G:List Nat} {w0 w:A2} {s:WD} {L0:List (Nat×List AR)} {bt:Nat} {o r:Int} {gone:Bool}
namespace bq
theorem put (S:bq Q D G w0 w s L0) (k0:Nat) (a:L0[k0]? =some (bt,oV Q o r gone)) (pg lv:Int) (E:0<=lv/\lv<=3) (e:ET) {K:Int->A2->Prop} (k: ∀f,bq Q D G w0 f (rG s o r pg lv e) L0->K (lQ s r pg lv) f):
 aB AB 216 (.el (.one (.int .i64))) [ag (ae bt),aa pg,aa lv,.agg ⟨[.bool e.1,aa e.2.1,.bool e.2.2.1,aa e.2.2.2.1]⟩] w K:=by
 refine S.go λw1 S=>ai (C:=N0) (aS:=wq) (Ab (Ve _ pg lv e.1 e.2.1 e.2.2.1 e.2.2.2.1 w1 K) ?_);have F:=I9 s.1 r pg;unfold rG at k;refine S.al λb f S=>S.end_ (k0+1) a pg λf S=>S.al λj H S=>S.al λl I S=>S.ff 1 rfl rfl rfl λJ S=>S.ff 0 rfl rfl rfl λL S=>⟨rfl,S.cm 0 rfl rfl ⟨λ_=>rfl,S.cm 1 rfl rfl ?_⟩⟩;by_cases c1:((da s.1 r pg).1||decide ((dA s.1 r pg).2.1<lv))=true
 ·have c:lQ s r pg lv=5:=by unfold lQ;rw[ax c1]
  rw[c,ao (by decide)] at k;exact aD c1 (S.en λd S=>k d S.tail.tail.tail)
 have m:=c1;simp only[Dt,decide_eq_true_eq,not_or] at m;refine an (by simpa using c1) ⟨rfl,rfl,S.cm (k0+3) a rfl ⟨_,S.cnt 0,rfl,S.cm 1 rfl rfl ?_⟩⟩;have p:aZ .i64 (dA s.1 r pg).2.1 lv=(dA s.1 r pg).2.1 - lv:=bD (by omega) (by omega);dsimp only;rw[p];by_cases c2:(bu s.2 0:Int)<(dA s.1 r pg).2.1 - lv
 ·have c:lQ s r pg lv=12:=by unfold lQ;rw[ao c1,ax c2]
  rw[c,ao (by decide)] at k;exact aD (by simpa using c2) (S.en λd S=>k d S.tail.tail.tail)
 have c:lQ s r pg lv=0:=by unfold lQ;rw[ao c1,ao c2]
 rw[c,ax rfl] at k;obtain⟨n0,q⟩: ∃n0,n0=((dA s.1 r pg).2.1 - lv).toNat:=⟨_,rfl⟩;rw[<-q] at k;obtain⟨z,g⟩: ∃z,z=qS o pg n0 (s,dA s.1 r pg):=⟨_,rfl⟩;rw[<-g] at k;refine an (by simpa using c2) ⟨λn _ w'=> ∃t:WD, ∃x:PT,qS o pg n (t,x)=z/\x.2.1=lv+(n:Int)/\n<=3/\bq Q D G w0 w' t ((l,[.bool (da s.1 r pg).1,aa (da s.1 r pg).2.1,.bool (da s.1 r pg).2.2.1,aa (da s.1 r pg).2.2.2.1])::(j,[aa x.1,aa x.2.1,aa x.2.2.1])::(b,[.bool e.1,aa e.2.1,.bool e.2.2.1,aa e.2.2.2.1])::L0),
  ⟨n0,λd v=>⟨s,dA s.1 r pg,g.symm,by omega,by omega,S.ext v⟩⟩,?_⟩
 rintro n u d ⟨t,x,h,M,N,S⟩;refine⟨rfl,S.cm 1 rfl rfl ?_⟩;rcases n with _|n
 ·refine an (by simp;omega) ⟨rfl,S.cm 1 rfl rfl (S.ld 2 rfl rfl (S.lay (k0+3) a _ e λy S=>S.en λi S=>k i ?_))⟩;have:z=(t,x):=h.symm;rw[this];exact S.tail.tail.tail
 ·refine aD (by simp;omega) (S.aa9 (k0+3) a λy S=>⟨rfl,S.cm 1 rfl rfl ⟨cv (eK t o),I6 _ _,S.lay (k0+3) a _ (cv (eK t o)) λi S=>⟨rfl,S.cm 1 rfl rfl ⟨rfl,S.cm 1 rfl rfl ⟨trivial,S.ff 1 rfl rfl rfl λO S=>λP A=>⟨n,by omega,dN (iW t o λ_=>0) x.2.2.1 (cv (eK t o)),(eK t o,x.2.1 - 1,dW (eK t o) pg (x.2.1 - 1),()),h,by show x.2.1 - 1= _;omega,by omega,?_⟩⟩⟩⟩⟩⟩);have B:aZ .i64 x.2.1 1=x.2.1 - 1:=bD (by omega) (by omega);have S:=S.ext A;rw[B] at S;exact S
theorem map (S:bq Q D G w0 w s L0) (k0:Nat) (b:L0[k0]? =some (bt,oV Q o r gone)) (pg f rt:Int) {K:Int->A2->Prop} (k: ∀a,bq Q D G w0 a (jy s o r gone pg f rt) L0->K (kJ s r gone pg f rt) a):
 aB AB 173 (.el (.one (.int .i64))) [ag (ae bt),aa pg,aa f,aa rt] w K:=by
 refine S.go λw1 S=>ai (C:=N0) (aS:=λ_=>[]) (Ab (Vf _ pg f rt w1 K) ?_);unfold jy kJ at k;refine⟨_,S.state k0 b,?_⟩;cases gone with
 |true=>
  rw[ax rfl,ax rfl] at k;exact aD rfl (S.en λa S=>k a S)
 |false=>
  have d: ¬ (false=true):=by decide
  rw[ao d,ao d] at k;refine an rfl ⟨_,I5 _ _ _ _,ab (λc=>S.en λa S=>?_) (λc=>S.put k0 b pg 0 ⟨by decide,by decide⟩ (true,rt,false,f,()) λa S=>S.en λe S=>?_)⟩
  ·have c: ¬ l9 pg f rt=0:=by simpa using c
   rw[ao c,ao c] at k;exact k a S
  ·have c:l9 pg f rt=0:=by simpa using c
   rw[ax c,ax c] at k;exact k e S
end bq
end
set_option maxRecDepth 100000
open Go.RX D
theorem Vo {p:Prop} {α:Type} (d:Decidable p) (c: ¬ p) (a b:α):(C8 (λ_=>a) (λ_=>b) d:α)=a:=by
 cases d with
 |isFalse h=>rfl
 |isTrue h=>exact absurd h c
theorem I_ {ws:List Int} {i n:Int} (h: ¬ (n<1\/i<0\/i>ws.length\/n>ws.length - i)):(jz ws i n).length=n.toNat:=by
 unfold jz;rw[ao h,E5,GS];omega
section
variable {D G:List Nat} {w0 w:A2} {L:List (Nat×List AR)}
theorem Zw {bw n c:Nat} {ws:List Int} {rest:List AR} (q:bN w bw (flat eW ws++rest)) (K:n=ws.length) (hc:n<=c) (hb:n<=1048576) (i k:Int):
 aE AB 80 (.el (.one .slice)) [.agg ⟨[.slice (ae bw) n c]⟩,aa i,aa k] w (λr w'=>lM w w' eW r (jz ws i k)/\Ext w w'):=by
 refine ai (C:=N0) (aS:=λ_=>[]) (Ab (Vi _ n c i k w _) ?_);have H:=At.start [] w;refine aL.go H λb L H=>⟨λ_=>rfl,aj.cq 0 H rfl rfl ⟨λ_=>rfl,aj.cq 0 H rfl rfl ?_⟩⟩;by_cases f:k<1\/i<0\/i>ws.length\/k>ws.length - i
 ·have s:jz ws i k=[]:=ax f;rw[s];refine aD ?_ (au.go H λm H=>⟨lM.nil w m eW,H.all⟩);dsimp only;simp only[Dt,decide_eq_true_eq];by_cases h1:k<1
  ·exact .inl (.inl (.inl h1))
  ·by_cases t:i<0
   ·exact .inl (.inl (.inr t))
   ·by_cases u:i>(n:Int)
    ·exact .inl (.inr u)
    ·refine .inr ?_;rw[bD (by omega) (by omega)];omega
 ·have M:1<=k/\0<=i/\i+k<=n:=by omega
  have v:aZ .i64 (n:Int) i=(n:Int) - i:=bD (by omega) (by omega);refine an ?_ ?_
  ·dsimp only;rw[v];simp only[FW,decide_eq_false_iff_not];omega
  refine Nr.go H (z:=[ay 0]) rfl (by omega) (Dc _) (by omega) (by omega) λd m H=>⟨rfl,aj.cq 1 H rfl rfl ⟨by dsimp only;omega,λx y=>?_⟩⟩;have H:=H.ext y;have A:=q.ext H.all;dsimp only;rw[Vo _ (by show ¬ (((c:Nat):Int).toNat=i.toNat);omega)];have e:(jz ws i k).length=k.toNat:=I_ f;have B:jz ws i k=(ws.drop i.toNat).take k.toNat:=ao f;have a:(flat eW (jz ws i k)).length=k.toNat:=by rw[aH,e];exact DJ _
  have D:Nat.min (((n:Nat):Int).toNat - i.toNat) k.toNat=k.toNat:=Nat.min_eq_right (by omega);have g:(Bs k.toNat [ay 0]).flatten.length=k.toNat:=by simp
  refine⟨flat eW (jz ws i k),?_,.inr (.inr ⟨?_,?_⟩),?_⟩
  ·show pX x (ad (ae bw) (i.toNat*1)) (Nat.min (((n:Nat):Int).toNat - i.toNat) k.toNat*1) _;rw[D,aX,DJ,DJ];refine A.pX a λj E=>?_;have F:=Iu ws;have G:=Iu (jz ws i k);rw[FV,F,G,Ds (by rw[DY];omega),Ga,Ga,B,Gd E,Gi]
  ·rw[a];exact(H.get (i:=0) rfl).st (by rw[g];omega)
  ·have:=jN eW (jz ws i k) rfl;exact this
  ·have p:=H.put 0 (b:=d) (o:=0) rfl (flat eW (jz ws i k)) (by rw[a,g];omega);have I:List.drop k.toNat (Bs k.toNat [ay 0]).flatten=[]:=F5 (Nat.le_of_eq g);rw[FV,a,I,Db,List.take_zero,List.nil_append] at p;refine au.go p λN l=>⟨?_,l.all⟩;have J:w.heap.size<=d:=by
    rcases l.own (d,flat eW (jz ws i k)) Do with h|h
    ·exact h
    ·cases h
   refine⟨e.symm,by rw[e];exact B_ _,.inr ⟨d, _,rfl,J,l.get (i:=0) rfl,by rw[a];exact(DJ _).symm,?_⟩⟩;rw[e];exact H4 (by rw[a];exact Nat.le_of_eq (DJ _).symm)
theorem LF {e:El} {xs:List e.T} {rest:List AR} {i:Nat} {x:e.T} (a:xs[i]? =some x) {j:Nat} (b:j<aF e):(flat e xs++rest)[i*aF e+j]? =(cellsOf e x)[j]? :=by
 have hi:i<xs.length:=(B4.1 a).1;have c:i*aF e+j<(flat e xs).length:=by
  rw[aH];have:(i+1)*aF e<=xs.length*aF e:=Nat.mul_le_mul_right _ hi;rw[Nat.add_mul] at this;omega
 rw[Ds c];exact yU e xs i x a j b
end
section
variable {Q:Sys} {D G:List Nat} {w0 w:A2} {s:WD} {L0:List (Nat×List AR)} {bt:Nat} {o r:Int} {gone:Bool}
abbrev ND (Q:Sys) (s:WD):Prop:=s.1.length<=Q.c/\s.1.length<=1048576
namespace bq
theorem words (S:bq Q D G w0 w s L0) (hc:ND Q s) (i n:Int) {K:Option AC×Nat×Nat->A2->Prop} (k: ∀x rows a,bq Q D G w0 a s (L0++rows)->oq eW rows x (jz s.1 i n)->K x a):
 aB AB 45 (.el (.one .slice)) [ag (ae Q.bm),aa i,aa n] w K:=by
 refine S.go λw1 S=>ai (C:=N0) (aS:=λ_=>[]) (Ab (LB _ i n w1 K) ?_);obtain⟨h1,b,c,d,ca,la,H⟩:=S;refine an rfl ⟨rfl,rfl,aj.cq 0 H rfl rfl ?_⟩;refine aB.Yr H (λa H=>Zw (H.get (i:=1) rfl) rfl hc.1 hc.2 i n) λx rows a H e=>au.go H λf H=>k x rows f ⟨h1,b,c,d,ca,la,H⟩ e
theorem tC (S:bq Q D G w0 w s L0) {j bs:Nat} {l:List PT} {rest:List AR} (hb:L0[j]? =some (bs,flat (.agg Ty) l++rest)) {i:Nat} {x:PT} (a:l[i]? =some x) (q:Nat) {K:Int->Prop} {v:Int} (b:q<3) (hv:(cellsOf (.agg Ty) x)[q]? =some (aa v)) (k:K v):
 aj w none (ad (ad (ae bs) (i*3)) q) (.one (.int .i64)) K:=by
 rw[aX,aX,FV];refine aj.of v ((S.get hb).oI ?_) k;have:=LF (e:= .agg Ty) (rest:=rest) a (j:=q) b;rw[show i*3+q=i*aF (.agg Ty)+q from rfl,this,hv];rfl
end bq
end
set_option maxRecDepth 100000
open Go.RX D
theorem aa' (x:PT) (t:WD):jt [x] t=t:=rfl
theorem aba (x y:PT) (l:List PT) (t:WD):jt (x::y::l) t=if w_ t.1 x.1=true then jt (y::l) (dO t.1 y.2.2.1 0,dI t.2 x.1 (aP 5 0)) else t:=rfl
theorem LG {l:List PT} {q:Nat} {x y:PT} (b:l[q]? =some y) (c:l[q+1]? =some x):(l.take (q+2)).reverse=x::y::(l.take q).reverse/\(l.take (q+1)).reverse=y::(l.take q).reverse:=by
 have a:l.take (q+1)=l.take q++[y]:=by rw[FC,b];rfl
 have d:l.take (q+2)=l.take q++[y]++[x]:=by rw[FC,c,a];rfl
 exact⟨by rw[d];simp,by rw[a];simp⟩
theorem Ja {ws:List Int} (pg:Int): ∀(l:Nat) (f:Int),(0<=f/\f<4096)-> ∀x∈dk ws pg l f,0<=x.1/\x.1<4096
 |0,f,a,x,h=>by
  rw[dk,E4] at h;subst h;exact a
 |l+1,f,a,x,h=>by
  rw[dk] at h;rcases Dy.1 h with rfl|h
  ·exact a
  ·split at h
   ·exact Ja pg l _ (pJ _ _) x h
   ·cases h
section
variable {Q:Sys} {D G:List Nat} {w0 w:A2} {s:WD} {L0:List (Nat×List AR)} {bt:Nat} {o r:Int} {gone:Bool}
namespace bq
theorem thin (S:bq Q D G w0 w s L0) (hc:ND Q s) (k0:Nat) (p:L0[k0]? =some (bt,oV Q o r gone)) {j bs c:Nat} {l:List PT} {rest:List AR} (hb:L0[j]? =some (bs,flat (.agg Ty) l++rest)) (hl:l.length<=4) (T: ∀x∈l,0<=x.1/\x.1<4096)
 {K:Unit->A2->Prop} (k: ∀f,bq Q D G w0 f (jt l.reverse s) L0->K () f):
 aB AB 220 (.bG []) [ag (ae bt),.slice (ae bs) l.length c] w K:=by
 refine S.go λw1 S=>ai (C:=N0) (aS:=uh) (Ab (Ro _ _ _ c w1 K) ?_);obtain⟨z,J⟩: ∃z,z=jt l.reverse s:=⟨_,rfl⟩;rw[<-J] at k;refine⟨λn v w'=> ∃t:WD,v.1+1=(n:Int)/\n<=l.length/\t.1.length=s.1.length/\jt (l.take n).reverse t=z/\bq Q D G w0 w' t L0,
  ⟨l.length,λf U=>⟨s,?_,B_ _,rfl,by rw[List.take_length];exact J.symm,S.ext U⟩⟩,?_⟩
 ·show aZ .i64 ((l.length:Nat):Int) 1+1= _;rw[bD (by omega) (by omega)];omega
 rintro n ⟨v,u⟩ f ⟨t,g,hn,A,a,S⟩;dsimp only at g ⊢;rcases n with _| _|q
 ·refine an (by simp;omega) (S.en λh S=>k h ?_);rw[<-a];exact S
 ·refine an (by simp;omega) (S.en λh S=>k h ?_);have:jt (l.take (0+1)).reverse t=t:=by
   cases l with
   |nil=>rfl
   |cons x l=>exact aa' x t
  rw[<-a,this];exact S
 ·obtain rfl:v=((q+1:Nat):Int):=by omega
  have b:l[q+1]? =some l[q+1]:=Bx (by omega);have B:l[q]? =some l[q]:=Bx (by omega);generalize l[q+1]=x at b;generalize l[q]=y at B;obtain⟨t2,t1⟩:=LG B b;rw[t2,aba, <-t1] at a;have hfx:=T x (C6 b);have V:iD .i64 16 x.1=16*x.1:=eH (by omega) (by omega);have es:aZ .i64 ((q+1:Nat):Int) 1=(q:Int):=by rw[bD (by omega) (by omega)];omega
  refine aD (by simp) ⟨rfl,rfl,S.cm k0 p rfl ⟨⟨rfl,by omega,by omega⟩,rfl,S.tC hb b 0 (by decide) rfl ?_⟩⟩;rw[V];refine S.words ⟨by rw[A];exact hc.1,by rw[A];exact hc.2⟩ (16*x.1) 16 λrr rows h S L=>?_;have hll:(jz t.1 (16*x.1) 16).length<=16:=by
   by_cases M:(16:Int)<1\/16*x.1<0\/16*x.1>t.1.length\/16>t.1.length - 16*x.1
   ·rw[show jz t.1 (16*x.1) 16=[] from ax M];simp
   ·rw[I_ M];decide
  have W:rr.2.1=(jz t.1 (16*x.1) 16).length:=L.1;refine⟨λn v w'=> ∃m:Nat,v.1=(m:Int)/\n+m=(jz t.1 (16*x.1) 16).length/\(∀i,i<m->(jz t.1 (16*x.1) 16)[i]? =some 0)/\bq Q D G w0 w' t (L0++rows),⟨(jz t.1 (16*x.1) 16).length,λN X=>⟨0,rfl,rfl,λi hi=>by omega,S.ext X⟩⟩,?_⟩;rintro n ⟨v,u2⟩ N ⟨m,g,hnm,O,S⟩;dsimp only at g ⊢;subst g;rw[W];refine ab (λE=>?_) (λE=>?_)
  ·have P:m<(jz t.1 (16*x.1) 16).length:=by simpa using E
   have hv:=Bx P;generalize (jz t.1 (16*x.1) 16)[m]=d at hv;obtain⟨g1,Y,Z,g4,ca,la,H⟩:=S;have R:=L.sl H (λx b=>by
    show x∈ _:: _:: _:: _::(L0++rows);simp[b]) m d hv
   have S:bq Q D G w0 N t (L0++rows):=⟨g1,Y,Z,g4,ca,la,H⟩;refine⟨⟨R.1,by omega,by omega⟩,aj.of d R.2 (ab (λc2=>S.en λF S=>k F ?_) (λc2=>λF h5=>⟨n - 1,by omega,m+1,?_,by omega,λi hi=>?_,S.ext h5⟩))⟩
   ·have c2: ¬ d=0:=by simpa using c2
    have I:w_ t.1 x.1=false:=by
     unfold w_;rw[H5];exact⟨d,C6 hv,by simpa using c2⟩
    rw[I,ao (by decide)] at a;rw[<-a];exact S.sub (FG _ _)
   ·rw[av (by omega) (by omega)];omega
   ·have c2:d=0:=by simpa using c2
    by_cases e:i=m
    ·subst e;rw[hv,c2]
    ·exact O i (by omega)
  ·have P: ¬ m<(jz t.1 (16*x.1) 16).length:=by simpa using E
   have I:w_ t.1 x.1=true:=by
    unfold w_;rw[H6];intro d XJ;obtain⟨i,hi⟩:=H7 XJ;have:=O i (by have:=(B4.1 hi).1;omega);rw[hi] at this;cases this;rfl
   rw[I,ax rfl] at a;have S:=S.sub (FG L0 rows);refine⟨rfl,rfl,S.cm k0 p rfl ?_⟩;rw[es];refine⟨⟨rfl,by omega,by omega⟩,rfl,S.tC hb B 2 (by decide) rfl (S.store _ 0 ⟨by decide,by decide⟩ λF S=>⟨rfl,rfl,S.cm k0 p rfl ⟨⟨rfl,by omega,by omega⟩,rfl,S.tC hb b 0 (by decide) rfl (S.TR x.1 5 0 λw6 S=>λw7 h7=>⟨q+1,by omega, _,by show(q:Int)+1= _;omega,by omega,?_,a,S.ext h7⟩)⟩⟩)⟩;show(dO t.1 y.2.2.1 0).length=s.1.length;rw[cF];exact A
theorem DQ (S:bq Q D G w0 w s L0) (hc:ND Q s) (k0:Nat) (b:L0[k0]? =some (bt,oV Q o r gone)) (m:0<=r/\r<4096) (pg:Int) {K:Int×Int×Unit->A2->Prop} (k: ∀g,bq Q D G w0 g (nq s o r gone pg) L0->K (FZ s o r gone pg,B7 s o r gone pg,()) g):
 aB AB 175 (.bG [.one (.int .i64),.one (.int .i64)]) [ag (ae bt),aa pg] w K:=by
 refine S.go λw1 S=>ai (C:=N0) (aS:=λ_=>[]) (Ab (Lz _ pg w1 K) ?_);refine S.query k0 b pg λg S=>ab (λc=>S.en λh S=>?_) (λc=>?_)
 ·have c: ¬ (bC s r gone pg).2.2.1=0:=by simpa using c
  have a:B7 s o r gone pg=(bC s r gone pg).2.2.1:=ao c;have e:FZ s o r gone pg=0:=by unfold FZ;rw[a,ao c]
  have f:nq s o r gone pg=s:=ao c;rw[a,e,f] at k;exact k h S
 have c:(bC s r gone pg).2.2.1=0:=by simpa using c
 have a:B7 s o r gone pg=lR s o r pg:=ax c;have f:nq s o r gone pg=if lR s o r pg=0 then jt (dk (fl s o r pg).1 pg 3 r).reverse (dO (fl s o r pg).1 (dA (fl s o r pg).1 r pg).2.2.1 0,(fl s o r pg).2) else fl s o r pg:=ax c;refine S.split k0 b pg λh S=>ab (λd=>S.en λi S=>?_) (λd=>?_)
 ·have d: ¬ lR s o r pg=0:=by simpa using d
  have e:FZ s o r gone pg=0:=by unfold FZ;rw[a,ao d]
  rw[a,e,f,ao d] at k;exact k i S
 have d:lR s o r pg=0:=by simpa using d
 have e:FZ s o r gone pg=(bC s r gone pg).1:=by unfold FZ;rw[a,ax d]
 rw[e,a,f,ax d,d] at k;have l:(fl s o r pg).1.length=s.1.length:=by
  unfold fl iW dN;split
  ·rfl
  ·split
   ·show(dO _ _ _).length= _;rw[cF,gJ]
   ·rfl
 generalize fl s o r pg=t at*
 refine S.way pg λq bc i S=>S.NV (pg:=pg) (k0+2) b (by simp) (by simp) λbs cs rest u S=>⟨rfl,rfl,S.cm (k0+3) b rfl ?_⟩;have n:(dk t.1 pg 3 r).length<=4:=tB t.1 pg 3 r;have v:0<(dk t.1 pg 3 r).length:=G1.2 (xE t.1 pg 3 r);have es:aZ .i64 (((dk t.1 pg 3 r).length:Nat):Int) 1=(((dk t.1 pg 3 r).length - 1:Nat):Int):=by rw[bD (by omega) (by omega)];omega
 dsimp only;rw[es];refine⟨⟨rfl,by omega,by omega⟩,rfl,S.tC (j:=0) rfl (CB t.1 r pg) 2 (by decide) rfl (S.store _ 0 ⟨by decide,by decide⟩ λx S=>S.thin ⟨by show(dO _ _ _).length<= _;rw[cF,l];exact hc.1,by show(dO _ _ _).length<= _;rw[cF,l];exact hc.2⟩ (k0+3) b (j:=0) rfl n (Ja pg 3 r m) λy S=>S.en λp S=>k p S.tail.tail.tail)⟩
theorem s9 (S:bq Q D G w0 w s L0) (k0:Nat) (g:L0[k0]? =some (bt,oV Q o r gone)) (pg rt:Int) {K:Int->A2->Prop} (k: ∀a,bq Q D G w0 a (rH s o r gone pg rt) L0->K (B8 s o r gone pg rt) a):
 aB AB 177 (.el (.one (.int .i64))) [ag (ae bt),aa pg,aa rt] w K:=by
 refine S.go λw1 S=>ai (C:=N0) (aS:=λ_=>[]) (Ab (Rq _ pg rt w1 K) ?_);unfold rH B8 at k;refine⟨_,S.state k0 g,?_⟩;cases gone with
 |true=>
  rw[ax rfl,ax rfl] at k;exact aD rfl (S.en λa S=>k a S)
 |false=>
  have j: ¬ (false=true):=by decide
  rw[ao j,ao j] at k;refine an rfl ⟨_,I5 _ _ _ _,ab (λc=>S.en λa S=>?_) (λc=>?_)⟩
  ·have c: ¬ l9 pg 0 rt=0:=by simpa using c
   rw[ao c,ao c] at k;exact k a S
  have c:l9 pg 0 rt=0:=by simpa using c
  rw[ax c,ax c] at k;have m:0<=pg:=by
   unfold l9 at c;by_cases h:pg<0\/pg>=65536\/(0:Int)<0\/(0:Int)>=4096
   ·rw[ax h] at c;cases c
   ·omega
  refine S.end_ k0 g pg λa S=>S.al λb p S=>S.al λq t S=>S.ff 1 rfl rfl rfl λu S=>S.ff 0 rfl rfl rfl λv S=>⟨rfl,S.cm 0 rfl rfl (ab (λd=>S.en λi S=>?_) (λd=>⟨rfl,S.cm 0 rfl rfl ⟨λ_=>rfl,S.cm 0 rfl rfl (ab (λe=>S.en λi S=>?_) (λe=>?_))⟩⟩))⟩
  ·have d: ¬ (da s.1 r pg).1=true:=by simpa using d
   rw[ao d,ao d] at k;exact k i S.tail.tail
  ·have d:(da s.1 r pg).1=true:=by simpa using d
   rw[ax d,ax d] at k;have e:((da s.1 r pg).2.2.1&&(da s.1 r pg).2.1==rt)=true:=e;rw[ax e,ax e] at k;exact k i S.tail.tail
  have d:(da s.1 r pg).1=true:=by simpa using d
  rw[ax d,ax d] at k;have e: ¬ ((da s.1 r pg).2.2.1&&(da s.1 r pg).2.1==rt)=true:=by
   have e':((da s.1 r pg).2.2.1&&(da s.1 r pg).2.1==rt)=false:=e;rw[e'];decide
  rw[ao e,ao e] at k;refine S.ld 1 rfl rfl (S.ld 0 rfl rfl ⟨_,I7 m (dA s.1 r pg) (da s.1 r pg) (pJ _ _) _,S.split (k0+2) g pg λi S=>ab (λf=>S.en λl S=>?_) (λf=>S.end_ (k0+2) g pg λl S=>S.ff 1 rfl rfl rfl λx S=>⟨rfl,S.cm 1 rfl rfl (S.lay (k0+2) g _ (true,rt,false,qD pg (dA s.1 r pg) (da s.1 r pg),()) λy S=>S.en λn S=>?_)⟩)⟩)
  ·have f: ¬ lR s o r pg=0:=by simpa using f
   rw[ao f] at k;exact k l S.tail.tail
  ·have f:lR s o r pg=0:=by simpa using f
   rw[ax f,f] at k;exact k n S.tail.tail
end bq
end
set_option maxRecDepth 100000
open Go.RX
noncomputable def N1:dH AB:={N0 with cl:=[(38,.Xh)]}
def pV:Nat->a7:=(λ|3=>[(12,Go.RX.El.one (Go.RX.Sc.int Az))]|9=>[(34,.one (.int .i64))]| _=>[])
theorem Hh (y:Nat) (p c d:Option AC) (w:A2) (i:Unit->A2->Prop):(bT N1 pV 247 [.func (.yield y) #[] #[],ag p,ag c,ag d] w i)=(
 aL w {toList:=[.func (Fn.yield y) ⟨[]⟩ ⟨[]⟩]} 38 λb a=>aj a none (ae b) (.one .Xh) λx=>aT a p λm=> ∀w1,Ext a w1->mh AB x [aa m] w1 λ(o:Bool) a=>aJ (!o) (au a (i ())) (∃(I:Nat->Int×Unit->List Nat->A2->Prop),(∃n, ∀w1,Ext a w1->I n (0,()) [] w1)/\ ∀(n:Nat) (s:Int×Unit) (D1:List Nat) (w1:A2),I n s D1 w1->aJ (decide (s.1<16)) (f_ w1 c λx=>aT w1 p λq=>aB
 AB 235 (.el ka) [ag x,aa (aI .i64 (iD .i64 16 q) s.1)] w1 λ(x:Bool×Int×Bool×Int×Unit) a=>aL a ⟨[.bool false,aa 0,.bool false,aa 0]⟩ 130 λk a=>az a (ae k) [.bool x.1,aa x.2.1,.bool x.2.2.1,aa x.2.2.2.1] λa=>aT a d λx=>aj a (some !x==0) (ae k) ka λ(j:Bool×Int×Bool×Int×Unit)=>((!x==0)=true->True)/\aJ (x==0|| !fM j.1
 j.2.1 j.2.2.1 j.2.2.2.1) (∀e,Ext a e-> ∃(f:Nat),f<n/\I f (aI .i64 s.1 1,()) D1 e) (f_ a c λx=>true=true/\aT a (ad (ae k) 3) λt=>aT a d λu=>aB AB 239 (.el (.one (.z7 247 3))) [ag x,aa t,aa (aZ .i64 u 1)] a λx a=>zZ AB 247 (λ(y:Nat)=>[.func (Fn.yield y) ⟨[]⟩ ⟨[]⟩,ag x.1,ag x.2.1,ag x.2.2.1]) ⟨[34]⟩ a (λ(x:Int×Unit)=>[aa x.1]) (λ(l:Nat)
 (rec:Loop) (x:Int×Unit) e (R:Bool->A2->Prop)=>Dg l rec [aa x.1].length 1 e (BR l rec e λg=>aj g none (ae b) (.one .Xh) λv=> ∀w1,Ext g w1->mh AB v [aa x.1] w1 λ(b:Bool) a=>aJ (!b) (sk l rec (some Code.ret) a R) (sk l rec none a R))) λ(r:Nat) (rec:Loop) z=>dx (r+1) rec z (λg=> ∀e,Ext g e-> ∃(f:Nat),f<n/\I f (aI .i64 s.1 1,()) (r::D1) e) (λ(id:Nat) g=>C8 (λ(h:id=2->False)=>C8 (λ(h:id=1->False)=>
 C8 (λ(h:id=0->False)=>False) (λ(h:id=0)=>sq (r::D1) g λw1=>i () w1) (match h:id.beq 0 with|true=>isTrue (Dd h)|false=>isFalse (Df h))) (λ(h:id=1)=> ∀e,Ext g e-> ∃(f:Nat),f<n/\I f (aI .i64 s.1 1,()) (r::D1) e) (match h:id.beq 1 with|true=>isTrue (Dd h)|false=>isFalse (Df h))) (λ(h:id=2)=> ∀e,Ext g e-> ∃(f:Nat),f<n/\I f (aI .i64 s.1 1,()) (r::D1) e)
 (match h:id.beq 2 with|true=>isTrue (Dd h)|false=>isFalse (Df h))) λg=>sq (r::D1) g λw1=>i () w1)) (byD D1 (au w1 (i ())) λ(r:Nat) (D:List Nat)=>sq (r::D) w1 λw1=>i () w1))):=by kernel_rfl
open Go.RX D
section
variable {T:Type} {bm:Nat} {mc:List AR->Prop} {J:List T->List (Nat×List AR)->List (Nat×Obj)->A2->Prop} {a:List T} {X:List (Nat×List AR)} {O:List (Nat×Obj)} {w w':A2}
theorem zZ.inX (K:JK bm mc J) {P:Program} {k:FuncId} {args:Nat->List AR} {ps:Array Nat} {f:T->List AR} {m:Nat->Loop->T->A2->(Bool->A2->Prop)->Prop} {n:Nat->Loop->A2->Prop} {N:Nat} {p:List (Nat×List AR)} {xs:List T}
 (j:J a X O w) (t:ItJ P k args f N bm mc p xs) (u: ∀x∈p,x∈X) (y:a.length+xs.length<=N)
 (z: ∀b x X' O' l rec d (R:Bool->A2->Prop),b.length<N->J b (X'++X) ((l,Nx rec)::O') d->(∀w',J (b++[x]) (X'++X) ((l,Nx rec)::O') w'->R true w')->m l rec x d R)
 (A: ∀r rec g,J (a++xs) X ((r+1,Nx rec)::(r,.deferred (some []))::O) g->n r rec g):zZ P k args ps w f m n:=by
 intro w1 h1 rec _ _ B C D;have V:rec={rec with state:= .ready,pending:= .none}:=by rw[<-B, <-C]
 have sz:(w1.alloc (.deferred (some []))).heap.size=w1.heap.size+1:=lE _ _;have j1:J a X _ (w1.alloc (.deferred (some []))):=K.alO (K.ext j h1) (λ_ _ _ e=>by cases e);have q:=K.alO (o:=Nx rec) j1 (Iq rec _ _);rw[sz] at q
 let Z:=(w1.heap.size+1,Nx rec)::(w1.heap.size,.deferred (some []))::O
 let i:=λb X' O' w=>J b (X'++X) (O'++Z) w
 have E:JK bm mc i:=
  {step:=λ{a' X' O' W d l' Y} h F hb G H I=>by
    have:=K.step h F hb G H I
    grind
   mem:=λh=>K.mem h
   cZ:=λh hm=>K.cZ h (by grind)
   obj:=λh hm=>K.obj h (by grind)
   alO:=λh c=>K.alO h c
   puO:=λh c=>K.puO h c
   sub:=λh hx c=>K.sub h (by grind) (c.append_right Z)
   perm:=λh c=>K.perm h (c.append_right Z)}
 have L:Yd P (w1.heap.size+1) f N i:=λb x X' O' d R hb h M=>by
  refine D x d R ?_;have s:((w1.heap.size+1,Nx rec)::(O'++((w1.heap.size,.deferred (some []))::O))).Perm (O'++Z):=(DM).symm;exact z b x X' _ _ rec d R hb (K.perm h s) (λw' h'=>M w' (K.perm h' s.symm))
 have Q:(w1.alloc (.deferred (some []))).alloc (.loop rec)=(w1.alloc (.deferred (some []))).alloc (Nx rec):=by
  grind
 rw[Q];have S:=K.sub q (λx hm=>by
  rcases List.mem_append.1 hm with hm|hm<;>exact hm) (Ca _)
 refine Calls.mono (t (w1.heap.size+1) i E L a X [] _ y u S) ?_;rintro e g ⟨v,U,h⟩;exact⟨v,U,A _ _ _ (K.sub h (by grind) (by grind))⟩
end
def oO (ws:List Int) (l:Nat) (f:Int) (i:Nat):List Int:=match l with
 |0=>[]
 |l+1=>if dJ (aN ws (16*f+(i:Int)))=true then cU ws l (aN ws (16*f+(i:Int))).2.2.2.1 else[]
theorem m5 (ws:List Int): ∀(l:Nat) (f:Int),cU ws l f=f::(B1 16).flatMap (oO ws l f)
 |0,f=>by
  simp[cU,oO]
 |l+1,f=>rfl
theorem LH {m:Nat} (a:m<16) (g:Nat->List Int): ∃z,(B1 16).flatMap g=(B1 m).flatMap g++(g m++z):=by
 obtain⟨z,e⟩: ∃z,B1 _=B1 (m+1)++z:=by
  refine⟨(B1 16).drop (m+1),?_⟩
  conv=>rw[<-HB (m+1) (B1 16)]
  grind
 rw[e,HZ];simp
abbrev emI (x:Int×Unit):List AR:=[aa x.1]
abbrev Tz (x:Int):Int×Unit:=(x,())
abbrev ucs (bt c1 c2 c3:Nat) (f:Int) (l:Nat):List (Nat×List AR):=[(c1,[aa f]),(c2,[ag (ae bt)]),(c3,[aa (l:Int)])]
theorem LI {D G:List Nat} {w0 w:A2} {L:List (Nat×List AR)} (H:aK D G w0 w L) (p:Option AC) (f lv:Int) {K:Option AC×Option AC×Option AC×Unit->A2->Prop}
 (k: ∀b a c d,aK D G w0 d ((c,[aa lv])::(a,[aa f])::(b,[ag p])::L)->K (some ⟨a,0,none⟩,some ⟨b,0,none⟩,some ⟨c,0,none⟩,()) d):
 aB AB 239 Gn [ag p,aa f,aa lv] w K:=
 aB.go H λw1 H=>ai (Ab (Bi p f lv w1 K) (aL.go H λb d H=>aL.go H λa e H=>aL.go H λc g H=>au.go H (by grind)))
abbrev UIt (Q:Sys) (ws:List Int) (bt:Nat) (o r:Int) (gone:Bool) (N lv:Nat):Prop:= ∀(f:Int) (a:0<=f/\f<4096) (c1 c2 c3:Nat),
 ItJ AB 247 (λy=>[.func (.yield y) #[] #[],ag (ae c1),ag (ae c2),ag (ae c3)]) emI N Q.bm (Mc Q ws.length)
  ((bt,oV Q o r gone)::(Q.bw,flat eW ws++Q.rw)::ucs bt c1 c2 c3 f lv) ((cU ws lv f).map Tz)
theorem Hi {Q:Sys} {ws:List Int} {bt:Nat} {o r:Int} {gone:Bool} {N:Nat} (jn:okW ws) (oZ:0<ws.length) (lv:Nat) (Ac:lv<=3) (ih: ∀l',lv=l'+1->UIt Q ws bt o r gone N l'):UIt Q ws bt o r gone N lv:=by
 intro f hf c1 c2 c3 y J K F a X O w i hX j;refine Calls.mono (aR (C:=N1) (aS:=pV) (Post:=λ_ w'=>J (a++(cU ws lv f).map Tz) X O w') (Ab (Hh y _ _ _ w _) ?_)) ?_
 rotate_left
 ·rintro e w' ⟨x,rfl,h⟩;exact⟨_,rfl,h⟩
 rw[m5] at i ⊢;simp only[List.map_cons,B9,DY] at i;obtain⟨lm,⟨ca,la,rfl⟩,H⟩:=K.at0 j;refine aL.go H λb w2 H=>?_;have j:=K.s6 (Y:=[(b, _)]) j H ⟨_, _,rfl⟩;have g: ∀x∈(bt,oV Q o r gone)::(Q.bw,flat eW ws++Q.rw)::ucs bt c1 c2 c3 f lv,x∈[(b,[Dj (.yield y) #[] #[]])]++X:=λx p=>DB _ (hX x p);have q:(b,[Dj (.yield y) #[] #[]])∈[(b,[Dj (.yield y) #[] #[]])]++X:=List.mem_append_left _ (E4.2 rfl);have back: ∀{a':List (Int×Unit)} {w':A2},J a' ([(b,[Dj (.yield y) #[] #[]])]++X) O w'->J a' X O w':=λh=>K.sub h (λx p=>DB _ p) (Ca _);generalize [(b,[Dj (.yield y) #[] #[]])]++X=k at j g q back;have x1:=g (bt,oV Q o r gone) (by simp);have G:=g (Q.bw,flat eW ws++Q.rw) (by simp);have I:=g (c1,[aa f]) (by simp);have L:=g (c2,[ag (ae bt)]) (by simp);have x5:=g (c3,[aa (lv:Int)]) (by simp);refine aj.of y ((K.cZ j q).2.oI rfl) (aj.of f ((K.cZ j I).2.oI rfl) λw3 h3=>F a (Tz f) k O w3 _ (by omega) (K.ext j h3) λw4 j=>?_);refine an rfl ⟨λn v D1 w'=> ∃m:Nat,v.1=(m:Int)/\n+m=16/\J (a++Tz f::((B1 m).flatMap (oO ws lv f)).map Tz) k (D1.map (λr=>(r,Obj.deferred (some [])))++O) w',⟨16,λM h5=>⟨0,rfl,rfl,by simpa using K.ext j h5⟩⟩,?_⟩;rintro n ⟨v,u⟩ D1 M ⟨m,P,hnm,j⟩;dsimp only at P ⊢;subst P;refine ab (λs=>?_) (λs=>?_)
 ·have t:m<16:=by simp at s;omega
  obtain⟨z,hz⟩:=LH t (oO ws lv f);have S:(a++Tz f::((B1 m).flatMap (oO ws lv f)).map Tz).length+((oO ws lv f m).map Tz).length<=N:=by
   rw[hz] at i;simp only[Dn,B9,DY] at i ⊢;omega
  have A:(B1 (m+1)).flatMap (oO ws lv f)=(B1 m).flatMap (oO ws lv f)++oO ws lv f m:=by
   rw[HZ,List.flatMap_append];simp
  have ab_:aI .i64 (iD .i64 16 f) (m:Int)=16*f+(m:Int):=by rw[eH (by omega) (by omega),av (by omega) (by omega)]
  have ab':aI .i64 (m:Int) 1=((m+1:Nat):Int):=by rw[av (by omega) (by omega)];omega
  refine aj.of (ae bt) ((K.cZ j L).2.oI rfl) (aj.of f ((K.cZ j I).2.oI rfl) ?_);rw[ab_,ab'];obtain⟨lm,⟨ca,la,rfl⟩,H⟩:=K.at0 j;have R:TbR Q ws M bt o r gone:=⟨(K.cZ j x1).2,(K.cZ j G).2,(K.cZ j x1).1,(K.cZ j G).1,jn,oZ⟩;have B:=K.cZ j x5;have T:=K.cZ j L;have U:c3∉[Q.bm]:=by simpa using B.1
  have n4:c2∉[Q.bm]:=by simpa using T.1
  refine O5 R H 0 rfl _ λca2 V H=>aL.go H λW w7 H=>az.all 0 H rfl rfl rfl λw8 H=>aj.fQ H B.2 U rfl (aj.at 0 H rfl rfl ⟨λ_=>trivial,ab (λc=>λw9 h9=>?_) (λc=>?_)⟩)
  ·have D:=K.sub (K.ext (K.s6 (Y:=[(W, _)]) j H ⟨_, _,rfl⟩) h9) (X':=k) (λx h=>DB _ h) (Ca _);refine⟨n - 1,by omega,m+1,rfl,by omega,?_⟩;have E:oO ws lv f m=[]:=by
    cases lv with
    |zero=>rfl
    |succ l=>
     have c:dJ (aN ws (16*f+(m:Int)))=false:=by
      have h0:((((l+1:Nat):Int))==0)=false:=by simp;omega
      simp only[h0,Bool.false_or,Bool.not_eq_true'] at c;exact c
     exact ao (by rw[c];decide)
   rw[A,E,Db];exact D
  ·have c0: ¬ lv=0/\dJ (aN ws (16*f+(m:Int)))=true:=by
    simp only[FW,Bool.not_eq_false'] at c;refine⟨λe=>?_,c.2⟩;subst e;simp at c
   obtain⟨l,rfl⟩: ∃l,lv=l+1:=⟨lv - 1,by omega⟩;have E:oO ws (l+1) f m=cU ws l (aN ws (16*f+(m:Int))).2.2.2.1:=ax c0.2;have elv:aZ .i64 ((l+1:Nat):Int) 1=(l:Int):=by rw[bD (by omega) (by omega)];omega
   refine aj.fQ H T.2 n4 rfl ⟨rfl,aj.cq 0 H rfl rfl (aj.fQ H B.2 U rfl ?_)⟩;rw[elv];refine LI H _ _ _ λd d1 d2 w9 H=>?_;have D:=K.s6 (Y:=[(d2, _),(d1, _),(d, _),(W, _)]) j H ⟨_, _,rfl⟩;rw[E] at S A;refine zZ.inX K D (ih l rfl _ (pJ _ _) d1 d d2) ?_ S ?_ ?_
   grind
   ·intro b0 x X' O' l' rec oh R hb j hR;refine Dg.XA K j rfl (BR.XA K j λwb j=>aj.of y ((K.cZ j (DB _ (DB _ q))).2.oI rfl) λZ HW=>F b0 x _ _ Z _ hb (K.ext j HW) λC9 j=>an rfl (sk.XA K j λNh j=>hR Nh j))
   ·intro r' rec oh j;refine dx.XA K j λZ j=>λC9 Tv=>⟨n - 1,by omega,m+1,rfl,by omega,?_⟩;have j3:=K.sub (K.ext j Tv) (X':=k) (λx h=>DB _ h) (Ca _);rw[A];simpa using j3
 ·have t:m=16:=by simp at s;omega
  subst t;cases D1 with
  |nil=>exact λV h6=>back (K.ext j h6)
  |cons r' D1=>exact K.sq (r'::D1) j λV j=>back j
theorem Rw {Q:Sys} {ws:List Int} {bt:Nat} {o r:Int} {gone:Bool} {N:Nat} (a:okW ws) (b:0<ws.length): ∀lv:Nat,lv<=3->UIt Q ws bt o r gone N lv:=by
 intro lv
 induction lv with
 |zero
 |succ=>
  intro h;refine Hi a b _ h λe=>?_
  grind
abbrev eN:El:= .one (.int .i64)
theorem zH (ws:List Int): ∀(l:Nat) (f:Int),(cU ws l f).length<=(match l with|0=>1|1=>17|2=>273| _=>4369)\/3<l
 |0,f=> .inl (by simp[cU])
 |l+1,f=>by
  by_cases a:3<l+1
  ·exact .inr a
  refine .inl ?_;have step: ∀(c:Nat) (is:List Nat),(∀i,(oO ws (l+1) f i).length<=c)->(is.flatMap (oO ws (l+1) f)).length<=is.length*c:=by
   intro c is h
   induction is with
   |nil=>simp
   |cons i is b=>
    rw[List.flatMap_cons,Dn,B9,Nat.add_mul];have:=h i;omega
  have sub: ∀(c:Nat),(∀g,(cU ws l g).length<=c)-> ∀i,(oO ws (l+1) f i).length<=c:=by
   intro c h i;unfold oO
   grind
  rw[m5];have b:=zH ws l;rcases l with _| _| _|l
  ·have:=step 1 (B1 16) (sub 1 (by grind))
   grind
  ·have:=step 17 (B1 16) (sub 17 (by grind))
   grind
  ·have:=step 273 (B1 16) (sub 273 (by grind))
   grind
  ·omega
theorem pP (ws:List Int) (f:Int):(cU ws 3 f).length<=4369:=by grind[zH]
theorem Bj (ws:List Int) (l:Nat) (f:Int):cU ws l f≠[]:=by simp[m5]
theorem Es (x:Int): ∀l:List Int,(jA x l).length=l.length+1
 |[]=>rfl
 |y::l=>by
  rw[jA];split
  ·rw[B9,Es];rfl
  ·rfl
theorem y8: ∀(l a:List Int),(l.foldl (λa x=>jA x a) a).length=a.length+l.length
 |[],a=>rfl
 |x::l,a=>by
  rw[Hb,y8,Es,B9];omega
theorem kS (l:List Int):(lx l).length=l.length:=by simp[lx,y8]
theorem Zx (p z:List Int) (a c:Int):(p++a::z).set p.length c=p++c::z:=by simp
section
variable {Q:Sys} {D G:List Nat} {w0 w:A2} {s:WD} {L0:List (Nat×List AR)} {bt:Nat} {o r:Int} {gone:Bool}
namespace bq
theorem under (S:bq Q D G w0 w s L0) (f lv:Int) {K:Option AC×Option AC×Option AC×Unit->A2->Prop} (k: ∀b a c d,bq Q D G w0 d s ((c,[aa lv])::(a,[aa f])::(b,[ag (ae bt)])::L0)->K (some ⟨a,0,none⟩,some ⟨b,0,none⟩,some ⟨c,0,none⟩,()) d):
 aB AB 239 Gn [ag (ae bt),aa f,aa lv] w K:=by
 refine S.go λw1 S=>ai (Ab (Bi _ f lv w1 K) ?_);exact S.al λb d S=>S.al λa e S=>S.al λc g S=>S.en (by grind)
theorem abb (S:bq Q D G w0 w s L0) (k0:Nat) (O:L0[k0]? =some (bt,oV Q o r gone)) {c1 c2 c3:Nat} {f:Int} (j:0<=f/\f<4096) (h1:(c1,[aa f])∈L0) (P:(c2,[If (ae bt)])∈L0) (T:(c3,[aa 3])∈L0)
 {K:Option AC×Nat×Nat->A2->Prop} (k: ∀bs cs rest c,bq Q D G w0 c s ((bs,flat eN (cU s.1 3 f)++rest)::L0)->K (some ⟨bs,0,none⟩,(cU s.1 3 f).length,cs) c):
 aB AB 238 (.el (.one .slice)) [.func (.func 247) #[] #[ag (ae c1),ag (ae c2),ag (ae c3)]] w K:=by
 refine S.go λw1 S=>aR (C:=N0) (aS:=rj) (Ab (LA _ _ _ w1 K) ?_);obtain⟨g1,m,n,g,ca,la,H0⟩:=S;have H:=H0.again;refine aL.go H λbl c H=>?_;have p:=pP s.1 f;refine zZ.NV (N:=4369) (bm:=Q.bm) (mc:=Mc Q s.1.length) (Rg0:=[(bl,[.slice none 0 0])]) H ⟨_, _,rfl⟩
  (Rw (o:=o) (r:=r) (gone:=gone) (bt:=bt) g g1 3 (B_ _) f j c1 c2 c3) ?_ (by simpa using p) (λxs d=>XG eN bl (xs.map (·.1)) d) (.inl ⟨rfl,rfl⟩) ?_ ?_
 grind
 ·intro U x d Z rr l rec V R W a b q;obtain⟨sl,e⟩:=a.head;refine Dg.go b rfl (BR.goO b λwb H t u=>aj.at 0 H (by rw[Ds (B4.1 e).1];exact e) rfl (aL.go H λX i H=>λY v=>?_));have H:=H.ext v;exact a.push e (x:=x.1) H rfl rfl rfl (by grind) λy w8 z A=>sk.lq t A λB E F=>q y B (by simpa using z) E (u.trans F)
 ·rintro rr rec w4 l' d ⟨I,J,rfl⟩ a b;refine dx.none b λw5 H=>?_;have L:((cU s.1 3 f).map Tz).map (·.1)=cU s.1 3 f:=by
   rw[List.map_map];exact List.map_id _
  rw[L] at a;rcases a with ⟨h, _⟩|⟨bs,cs,rest,rfl,q1,q2⟩
  ·exact absurd h (Bj _ _ _)
  ·refine aj.at 0 H rfl rfl (sq.go H λi H=>k bs cs rest i ⟨g1,m,n,g,I,J,H0.join (λx M=>M) ?_⟩);refine(H.sub (DA _ _)).perm ?_;exact DM (l₁:=[_, _, _, _])
theorem Iw (S:bq Q D G w0 w s L0) {j bs:Nat} {xs:List Int} {rest:List AR} (a:L0[j]? =some (bs,flat eN xs++rest)) {i:Nat} {x:Int} (b:xs[i]? =some x):cH w (ad (ae bs) (i*1)) eN x:=fU (S.get a) b
theorem WX (S:bq Q D G w0 w s L0) (j:Nat) {bs:Nat} {xs:List Int} {rest:List AR} (a:L0[j]? =some (bs,flat eN xs++rest)) {i:Nat} (hi:i<xs.length) (v:Int) {K:A2->Prop} (k: ∀w1,bq Q D G w0 w1 s (L0.set j (bs,flat eN (xs.set i v)++rest))->K w1):az w (ad (ae bs) (i*1)) [aa v] K:=by
 obtain⟨h1,b,c,d,ca,la,H⟩:=S;exact az.flat (e:=eN) (j+4) H v a rfl rfl hi λw1 H=>k w1 ⟨h1,b,c,d,ca,la,H⟩
theorem all (S:bq Q D G w0 w s L0) (k0:Nat) (q:L0[k0]? =some (bt,oV Q o r gone)) (V:0<=r/\r<4096) {K:Option AC×Nat×Nat->A2->Prop} (k: ∀x rows d,bq Q D G w0 d s (L0++rows)->oq eN rows x (mG s r gone)->K x d):
 aB AB 214 (.el (.one .slice)) [ag (ae bt)] w K:=by
 refine S.go λw1 S=>ai (C:=N0) (aS:=ww) (Ab (Vg _ w1 K) ?_);refine⟨_,S.state k0 q,?_⟩;cases gone with
 |true=>exact aD rfl (S.en λd S=>k (none,0,0) [] d (by rw[Db];exact S) ⟨rfl,.inl ⟨rfl,rfl⟩⟩)
 |false=>
  refine an rfl ⟨rfl,rfl,S.cm k0 q rfl (S.under r 3 λc2 c1 c3 d S=>S.abb (k0+3) q V (by simp) (by simp) (by simp) λbs cs rest i S=>?_)⟩;have S:=S.perm (L1:=(bs,flat eN (cU s.1 3 r)++rest)::(L0++[(c3,[aa 3]),(c1,[aa r]),(c2,[ag (ae bt)])])) (FY _ (by exact List.perm_append_comm (l₂:=[_, _, _])));have S:=S.sub (List.Sublist.cons_cons _ (FG _ _));have hlen:=pP s.1 r;have W:mG s r false=lx (cU s.1 3 r):=ao (by decide);rw[W] at k;have dg:=Bj s.1 3 r;generalize cU s.1 3 r=l at*
  refine⟨λn v w'=> ∃m:Nat,v.1=(m:Int)/\n+m=l.length/\bq Q D G w0 w' s ((bs,flat eN (((l.take m).foldl (λa x=>jA x a) []).reverse++l.drop m)++rest)::L0),⟨l.length,λX Y=>⟨0,rfl,rfl,by simpa using S.ext Y⟩⟩,?_⟩;rintro n ⟨v,u⟩ X ⟨m,b,hnm,S⟩;dsimp only at b ⊢;subst b;refine ab (λt=>?_) (λt=>?_)
  ·have z:m<l.length:=by simpa using t
   obtain⟨R,E⟩: ∃R,R=(l.take m).foldl (λa x=>jA x a) []:=⟨_,rfl⟩;have F:R.length=m:=by rw[E,y8,E5];simp;omega
   have L:=Bx z;obtain⟨x,M⟩: ∃x,x=l[m]:=⟨_,rfl⟩;rw[<-M] at L;have hd:l.drop m=x::l.drop (m+1):=by rw[FS z,M]
   have abc:(l.take (m+1)).foldl (λa x=>jA x a) []=jA x R:=by
    rw[FC,L,Option.toList_some,List.foldl_append, <-E];rfl
   obtain⟨Z,N⟩: ∃Z,Z=l.drop (m+1):=⟨_,rfl⟩;rw[<-E,hd, <-N] at S;refine⟨λO v w'=> ∃A B:List Int,v.1=(A.length:Int)/\O=A.length/\A.length+B.length=m/\B++jA x A=jA x R/\bq Q D G w0 w' s ((bs,flat eN (A.reverse++x::(B.reverse++Z))++rest)::L0),⟨m,λf h5=>⟨R,[],by rw[F],F.symm,by simp[F],rfl,by simpa using S.ext h5⟩⟩,?_⟩;rintro O ⟨v,u2⟩ f ⟨A,B,b,rfl,hAB,H,S⟩;dsimp only at b ⊢;subst b;have P: ∀(C:List Int),C=jA x R-> ∀{w':A2},bq Q D G w0 w' s ((bs,flat eN (C.reverse++Z)++rest)::L0)-> ∀i,Ext w' i-> ∃T,T<n/\ ∃p:Nat,aI .i64 (m:Int) 1=(p:Int)/\T+p=l.length/\bq Q D G w0 i s ((bs,flat eN (((l.take p).foldl (λa x=>jA x a) []).reverse++l.drop p)++rest)::L0):=by
    intro C hC w' S i h3;refine⟨n - 1,by omega,m+1,by rw[av (by omega) (by omega)];omega,by omega,?_⟩;rw[abc, <-hC, <-N];exact S.ext h3
   cases A with
   |nil=>
    refine⟨λh=>by simp at h,0,λh=>by simp at h,λh=>by simp at h,0,λh=>by simp at h,an rfl (P (B++jA x []) H (w':=f) ?_)⟩;have e:(B++jA x []).reverse++Z=[].reverse++x::(B.reverse++Z):=by simp[jA]
    rw[e];exact S
   |cons y A=>
    have e:(y::A).reverse++x::(B.reverse++Z)=A.reverse++y::x::(B.reverse++Z):=by simp
    rw[e] at S;simp only[B9] at hAB;have es:aZ .i64 (((y::A).length:Nat):Int) 1=(A.length:Int):=by rw[B9,bD (by omega) (by omega)];omega
    rw[es];have I:(A.reverse++y::x::(B.reverse++Z))[A.length]? =some y:=by rw[Hr (by simp)];simp
    have U:(A.reverse++y::x::(B.reverse++Z))[A.length+1]? =some x:=by rw[Hr (by simp)];simp
    have Wo:A.length<(A.reverse++y::x::(B.reverse++Z)).length:=(B4.1 I).1;have s1:(A.reverse++y::x::(B.reverse++Z)).set A.length x=A.reverse++x::x::(B.reverse++Z):=by
     have:=Zx A.reverse (x::(B.reverse++Z)) y x;rwa[List.length_reverse] at this
    have s2:(A.reverse++x::x::(B.reverse++Z)).set (A.length+1) y=A.reverse++x::y::(B.reverse++Z):=by
     simp
    have Ie:A.length+1<(A.reverse++x::x::(B.reverse++Z)).length:=by simp
    have t1:((A.length:Nat):Int).toNat=A.length:=rfl;have t2:(((y::A).length:Nat):Int).toNat=A.length+1:=rfl;rw[t1,t2];have g1:(some (⟨bs,0,none⟩:AC)).isSome=true/\0<=(A.length:Int)/\(A.length:Int)<(l.length:Int):=⟨rfl,by omega,by omega⟩;have J:(some (⟨bs,0,none⟩:AC)).isSome=true/\0<=(((y::A).length:Nat):Int)/\(((y::A).length:Nat):Int)<(l.length:Int):=⟨rfl,by omega,by rw[B9];omega⟩;refine⟨λ_=>g1,aj.of y (S.Iw (j:=0) rfl I) ⟨λ_=>J,aj.of x (S.Iw (j:=0) rfl U) (ab (λc=>⟨J,aj.of x (S.Iw (j:=0) rfl U) ⟨g1,aj.of y (S.Iw (j:=0) rfl I) ⟨g1,S.WX 0 rfl Wo x λw6 S=>⟨J,?_⟩⟩⟩⟩) (λc=>P (B++jA x (y::A)) H (w':=f) ?_))⟩⟩
    ·rw[s1] at S;refine S.WX 0 rfl Ie y λw7 S=>λw8 h8=>⟨A.length,Nat.lt_succ_self _,A,B++[y],rfl,rfl,by simp;omega,?_,?_⟩
     ·have c2:y>x:=by simpa using c
      rw[<-H,jA,ax c2,Fy];rfl
     ·rw[s2] at S;have g:A.reverse++x::((B++[y]).reverse++Z)=A.reverse++x::y::(B.reverse++Z):=by simp
      rw[g];exact S.ext h8
    ·have c2: ¬ y>x:=by simpa using c
     have g:(B++jA x (y::A)).reverse++Z=A.reverse++y::x::(B.reverse++Z):=by rw[jA,ao c2];simp
     rw[g];exact S
  ·have z: ¬ m<l.length:=by simpa using t
   have b:l.take m=l:=H4 (by omega);have g:l.drop m=[]:=F5 (by omega);rw[b,g,Db] at S;refine S.en λf S=>k (some ⟨bs,0,none⟩,l.length,cs) [(bs,flat eN (lx l)++rest)] f (S.perm (List.perm_append_singleton _ _)) ⟨(kS l).symm,.inr ⟨bs,rest,rfl,rfl⟩⟩
theorem drop (S:bq Q D G w0 w s L0) (k0:Nat) (d:L0[k0]? =some (bt,oV Q o r gone)) (E:0<=r/\r<4096) {K:Option AC×Nat×Nat->A2->Prop} (k: ∀x rows b,bq Q D G w0 b (cG s r gone) (L0.set k0 (bt,oV Q o r true)++rows)->oq eN rows x (mG s r gone)->K x b):
 aB AB 171 (.el (.one .slice)) [ag (ae bt)] w K:=by
 refine S.go λw1 S=>ai (C:=N0) (aS:=ui) (Ab (Rs _ w1 K) ?_);refine⟨_,S.state k0 d,?_⟩;have F:k0<L0.length:=(B4.1 d).1;cases gone with
 |true=>
  have e:L0.set k0 (bt,oV Q o r true)=L0:=Fw (by grind);exact aD rfl (S.en λb S=>k (none,0,0) [] b (by rw[Db,e];exact S) ⟨rfl,.inl ⟨rfl,rfl⟩⟩)
 |false=>
  refine an rfl (S.all k0 d E λx rows b S g=>?_);have I:cG s r false=(s.1,(mG s r false).foldl (λds f=>dI ds f (aP 5 0)) s.2):=ao (by decide);rw[I] at k;have X:(mG s r false).length<=4369:=by
   rw[show mG s r false=lx (cU s.1 3 r) from ao (by decide),kS];exact pP _ _
  generalize mG s r false=l at*
  obtain⟨J,L,M⟩:=x;have N:L=l.length:=g.1;subst N;obtain⟨c,j⟩: ∃c,c=l.foldl (λds f=>dI ds f (aP 5 0)) s.2:=⟨_,rfl⟩;rw[<-j] at k;have p:(L0++rows)[k0]? =some (bt,oV Q o r false):=by grind
  refine⟨λn v w'=> ∃(m:Nat) (ds:List DT),v.1=(m:Int)/\n+m=l.length/\(l.drop m).foldl (λds f=>dI ds f (aP 5 0)) ds=c/\bq Q D G w0 w' (s.1,ds) (L0++rows),⟨l.length,λq O=>⟨0,s.2,rfl,rfl,j.symm,S.ext O⟩⟩,?_⟩;rintro n ⟨v,u⟩ q ⟨m,ds,t,Y,a,S⟩;dsimp only at t ⊢;subst t;refine ab (λh=>?_) (λh=>?_)
  ·have i:m<l.length:=by simpa using h
   have y:=Bx i;obtain⟨f,z⟩: ∃f,f=l[m]:=⟨_,rfl⟩;rw[<-z] at y;rw[FS i, <-z,Hb] at a;obtain⟨g1,P,R,T,ca,la,H⟩:=S;have A:=g.sl H (λx U=>by
    show x∈ _:: _:: _:: _::(L0++rows);simp[U]) m f y
   have S:bq Q D G w0 q (s.1,ds) (L0++rows):=⟨g1,P,R,T,ca,la,H⟩;refine⟨⟨A.1,by omega,by omega⟩,aj.of f A.2 ⟨rfl,rfl,S.cm k0 p rfl (S.TR f 5 0 λV S=>λB W=>⟨n - 1,by omega,m+1, _,?_,by omega,a,S.ext W⟩)⟩⟩;rw[av (by omega) (by omega)];omega
  ·have i: ¬ m<l.length:=by simpa using h
   rw[F5 (by omega)] at a;have a:ds=c:=a;subst a;refine⟨rfl,rfl,S.Co k0 p rfl rfl λV S=>S.en λB S=>k (J,l.length,M) rows B ?_ g⟩;rw[List.set_append_left _ _ F] at S;exact S
theorem new (S:bq Q D G w0 w s L0) (o:Int) {K:Option AC×Int×Unit->A2->Prop}
 (f:(s.1.length:Int)<16*(s.2.length:Int)-> ∀a,bq Q D G w0 a s L0->K (none,1,()) a)
 (g: ¬ (s.1.length:Int)<16*(s.2.length:Int)-> ¬ rA s o=0-> ∀a,bq Q D G w0 a (iW s o λ_=>0) L0->K (none,rA s o,()) a)
 (i: ¬ (s.1.length:Int)<16*(s.2.length:Int)->rA s o=0-> ∀b a,bq Q D G w0 a (iW s o λ_=>0) ((b,oV Q o (eK s o) false)::L0)->K (some ⟨b,0,none⟩,0,()) a):
 aB AB 164 (.bG [.one .ptr,.one (.int .i64)]) [ag (ae Q.bm),ag (ae Q.bp),aa o] w K:=by
 refine S.go λw1 S=>ai (C:=N0) (aS:=λ_=>[]) (Ab (Vh _ _ o w1 K) ?_);have h1:=S.pos;have j:=S.F1;have k:=S.le;have c1:(((s.1.length:Nat):Int)==0)=false:=by grind
 have c2:(((s.2.length:Nat):Int)==0)=false:=by grind
 have h:iD .i64 16 ((s.2.length:Nat):Int)=16*(s.2.length:Int):=eH (by omega) (by omega);refine⟨_,S.aaq, _,λ_=>S.Yw, _,λ_=>S.aaq, _,λ_=>S.Yw,?_⟩;rw[c1,c2,h];refine ab (λc=>S.en λa S=>f (by simpa using c) a S) (λc=>S.al λb a S=>S.aa8 (r:=0) (gone:=false) 0 rfl λl S=>ab (λd=>S.en λe S=>?_) (λd=>⟨rfl,rfl,S.Co 0 rfl rfl rfl λe S=>S.en (by grind)⟩));exact g (by simpa using c) (by simpa using d) e S.tail
end bq
end
set_option maxRecDepth 100000
open Go.RX
abbrev iS:List Sc:=[.int .u64,.int .i64]
abbrev RS:Type:=Int×Int×Unit
noncomputable def B0:dH AB:={N0 with quiet:=[]}
theorem Vp (e:Int) (w:A2) (c:RS->A2->Prop):(bT B0 (λ_=>[]) 75 [aa e] w c)=(
 aL w ⟨[ay 0,aa 0]⟩ 61 λb a=>az a (ae b) [ay 0,aa e] λa=>au a λw1=>aj w1 none (ae b) cI λ(x:Int×Int×Unit)=>c (x.1,x.2.1,()) w1):=by kernel_rfl
theorem Vq (e:Int) (w:A2):aE AB 75 (.el (.agg iS)) [aa e] w (λx w'=>x=(0,e,())/\Ext w w'):=by
 refine aR (C:=B0) (aS:=λ_=>[]) (Ab (Vp e w _) ?_);have H:=At.start [] w;exact aL.go H λb a H=>az.all 0 H rfl rfl rfl λc H=>au.go H λd H=>aj.at 0 H rfl (show _=some (0,e,()) from rfl) ⟨rfl,H.all⟩
noncomputable def abd:Entry AB where
 f:=75
 fn l:=match l with
  |[.int .i64 e]=>some (True,.agg ⟨[.int .u64 0,.int .i64 e]⟩)
  | _=>none
 ok args pre v h a w:=by
  split at h
  ·rename_i e;cases h;exact bW (Vq e w)
  ·cases h
noncomputable def V0:dH AB:={N0 with sj:=abd::N0.sj,quiet:=[53,19,165,21,179,174,76,77,176,25,62,117,56]}
noncomputable def V1:dH AB:={V0 with Z0:=some (.el (.agg iS))}
theorem LJ (p:Option AC) (w:A2) (a:Bool->A2->Prop):(aM V0 (λ_=>[]) 53 [ag p] w a)=(
 ((!p.isNone)=true->p.isSome=true)/\((!p.isNone)=true->p.isSome=true)/\aj w (some !p.isNone) (ad p 0) jQ λx=>au w (a (!p.isNone&& !x.isNone))):=by kernel_rfl
theorem Rx (p:Option AC) (v:Int) (w:A2) (a:Bool->A2->Prop):(aM V0 (λ_=>[]) 19 [ag p,aa v] w a)=(
 ∃x,af AB 53 [ag p] w (.bool x)/\((x&&decide (v>=1)&&decide (v<=16))=true->p.isSome=true)/\((x&&decide (v>=1)&&decide (v<=16))=true->p.isSome=true)/\((x&&decide (v>=1)&&decide (v<=16))=true->(ad p 4).isSome=true/\0<=v/\v<(↑17:Int))/\aj w (some (x&&decide (v>=1)&&decide (v<=16))) (ad (ad p 4) (v.toNat*1)) jQ λb=>au w (a (x&&decide (v>=1)&&decide (v<=16)&& !b.isNone))):=by kernel_rfl
theorem LK (p:Option AC) (a:Int) (w:A2) (b:Bool->A2->Prop):(aM V0 (λ_=>[]) 165 [ag p,ay a] w b)=(
 ∃x,(decide (a<=16)=true->af AB 19 [ag p,aa (aG .i64 a)] w (.bool x))/\au w (b (decide (a<=16)&&x))):=by kernel_rfl
theorem Ry (p:Option AC) (v:Int) (w:A2) (a:Int->A2->Prop):(aM V0 (λ_=>[]) 21 [ag p,aa v] w a)=(
 ∃x,af AB 19 [ag p,aa v] w (.bool x)/\aJ (!x) (au w (a (-1))) (p.isSome=true/\p.isSome=true/\((ad p 4).isSome=true/\0<=v/\v<(↑17:Int))/\f_ w (ad (ad p 4) (v.toNat*1)) λx=>bI x 0 w λx=> ∃(b:Int),af AB 56 [ag x] w (aa b)/\au w (a b))):=by kernel_rfl
theorem LM (p:Option AC) (v g:Int) (w:A2) (a:Int×Int×Int×Unit->A2->Prop):(aM V0 (λ_=>[]) 81 [ag p,aa v,aa g] w a)=(
 ∃x,af AB 53 [ag p] w (.bool x)/\aJ (!x) (au w (a (0,0,10,()))) (∃x,af AB 19 [ag p,aa v] w (.bool x)/\aJ (!x) (au w (a (0,0,4,()))) (p.isSome=true/\p.isSome=true/\((ad p 4).isSome=true/\0<=v/\v<(↑17:Int))/\f_ w (ad (ad p 4) (v.toNat*1)) λx=>bI x 0 w λx=>aB AB 139 (.bG [.one (.int .i64),.one (.int .i64),.one (.int .i64)]) [ag x,aa g] w λ(x:Int×Int×Int×Unit) b=>au b (a (x.1,x.2.1,x.2.2.1,()))))):=by kernel_rfl
theorem LN (p:Option AC) (v g:Int) (w:A2) (d:Int×Bool×Unit->A2->Prop):(aM V0 (λ_=>[]) 174 [ag p,aa v,aa g] w d)=(
 ∃x,af AB 19 [ag p,aa v] w (.bool x)/\aJ (!x) (au w (d (0,false,()))) (p.isSome=true/\p.isSome=true/\((ad p 4).isSome=true/\0<=v/\v<(↑17:Int))/\f_ w (ad (ad p 4) (v.toNat*1)) λx=>sL x 1 w λx=> ∃(a:Int×Int×Unit), ∃(b:Bool),mi w x .i64 g (.agg ⟨[aa 0,aa 0]⟩) (.agg ⟨[aa a.1,aa a.2.1]⟩) b/\aL w ⟨[aa 0,aa 0]⟩ 263 λe c=>az c (ae e) [aa a.1,aa a.2.1] λc=>true=true/\aT c (ad (ae e) 0) λx=>au c (d (x,
 b,())))):=by kernel_rfl
theorem Hj (p:Option AC) (w:A2) (a:Option AC->A2->Prop):(aM V0 (λ_=>[]) 18 [ag p] w a)=(
 ∃x,af AB 53 [ag p] w (.bool x)/\aJ (!x) (au w (a none)) (bI p 1 w λx=>aB AB 54 (.el jQ) [ag x] w λx b=>au b (a x))):=by kernel_rfl
theorem Hk (p:Option AC) (w:A2) (a:Option AC->A2->Prop):(aM V0 (λ_=>[]) 23 [ag p] w a)=(
 ∃x,af AB 53 [ag p] w (.bool x)/\aJ (!x) (au w (a none)) (bI p 0 w λx=>au w (a x))):=by kernel_rfl
theorem RA (p:Option AC) (f:Int) (w:A2) (d:Int->A2->Prop):(aM V0 (λ_=>[]) 43 [ag p,aa f] w d)=(
 ∃x,af AB 53 [ag p] w (.bool x)/\aJ (!x) (au w (d 10)) (bI p 1 w λx=> ∃(a:(Int×Int×Int×Int×Unit)×Bool×Unit),af AB 25 [ag x,aa f] w (.tuple {toList:=[.agg ⟨[aa a.1.1,aa a.1.2.1,aa a.1.2.2.1,aa a.1.2.2.2.1]⟩,.bool a.2.1]})/\aL w ⟨[aa 0,aa 0,aa 0,aa 0]⟩ 52 λb c=>az c (ae b) [aa a.1.1,aa a.1.2.1,aa a.1.2.2.1,aa a.1.2.2.2.1] λc=>aJ (!a.2.1) (au c (d 2)) (true=true/\aT c (ad (ae
 b) 0) λx=>aJ (x != 5) (au c (d 6)) (bI p 1 c λx=>aB AB 79 (.el aU) [ag x,aa f] c λ(x:Int) c=>au c (d x))))):=by kernel_rfl
theorem LO (p:Option AC) (v a:Int) (w:A2) (b:Int->A2->Prop):(aM V0 (λ_=>[]) 179 [ag p,aa v,ay a] w b)=(
 aJ (decide (a<1)||decide (a>16)||aG .i64 a==v) (au w (b 1)) (∃x,af AB 165 [ag p,ay a] w (.bool x)/\aJ (!x) (au w (b 4)) (au w (b 0)))):=by kernel_rfl
theorem RB (p:Option AC) (v a t:Int) (w:A2) (d:Int×Int×Unit->A2->Prop):(aM V0 (λ_=>[]) 178 [ag p,aa v,ay a,aa t] w d)=(
 aJ (decide (a>=1048576)) (au w (d (0,2,()))) (bI p 0 w λx=> ∃(e:Int),af AB 21 [ag p,aa v] w (aa e)/\(aB AB 223 (.el dR) [ag x,aa e,aa (aG .i64 (wT .u64 a 16)),aa t] w λ(x:Int×Int×Int×Int×Unit) c=>aL c ⟨[aa 0,aa 0,aa 0,aa 0]⟩ 48 λb c=>az c (ae b) [aa x.1,aa x.2.1,aa x.2.2.1,aa x.2.2.2.1] λc=>true=true/\aT c (ad (ae b) 0) λx=>true=true/\aT c (ad (ae b) 3) λf=>au
 c λw1=>d (aI .i64 (iD .i64 16 x) (aG .i64 (fb a 16)),f,()) w1)/\aL w ⟨[aa 0,aa 0,aa 0,aa 0]⟩ 48 λb c=>aB AB 223 (.el dR) [ag x,aa e,aa (aG .i64 (wT .u64 a 16)),aa t] c λ(x:Int×Int×Int×Int×Unit) c=>az c (ae b) [aa x.1,aa x.2.1,aa x.2.2.1,aa x.2.2.2.1] λc=>true=true/\aT c (ad (ae b) 0) λx=>true=true/\aT c (ad (ae b) 3) λf=>au c λw1=>d (aI .i64 (iD .i64 16 x) (aG .i64 (fb a 16)),
 f,()) w1)):=by kernel_rfl
def rk:Nat->a7:=(λ|3=>[(3,Go.RX.El.one (Go.RX.Sc.int Az))]| _=>[])
theorem LP (p:Option AC) (w:A2) (c:Int->A2->Prop):(aM V0 rk 168 [ag p] w c)=(
 sL p 1 w λx=>RgP w x λb a=> ∃(I:Nat->Int×Unit->A2->Prop),(∃n, ∀w1,Ext a w1->I n (65536,()) w1)/\ ∀(n:Nat) (s:Int×Unit) (w1:A2),I n s w1->NxP w1 (ae b) (λa=>au a (c s.1)) λ(k v:AR) a=> ∃(x:Int), ∃(v:AR),Ah a (ae b) (aa x) v/\ ∀d,Ext a d-> ∃(e:Nat),e<n/\I e (kF s.1 x,()) d):=by kernel_rfl
def uj:Nat->a7:=(λ_=>[])
theorem RC (p:Option AC) (v g:Int) (w:A2) (d:Unit->A2->Prop):(aM V0 uj 167 [ag p,aa v,aa g] w d)=(
 p.isSome=true/\p.isSome=true/\((ad p 4).isSome=true/\0<=v/\v<(↑17:Int))/\f_ w (ad (ad p 4) (v.toNat*1)) λx=>sL x 1 w λf=> ∃(c:Int×Int×Unit),jT w f .i64 g (.agg ⟨[aa 0,aa 0]⟩) (.agg ⟨[aa c.1,aa c.2.1]⟩)/\aL w ⟨[aa 0,aa 0]⟩ 263 λb a=>az a (ae b) [aa c.1,aa c.2.1] λa=>sL x 1 a λh=> ∀w1,Ext a w1-> ∃(r:Nat), ∃(es:Array Ax), ∃(e:Nat),h=some r/\bH w1 r es e/\Ag w1 r .i64 g es e λa=>bI x 0 a λx=>aB
 AB 175 (.bG [.one (.int .i64),.one (.int .i64)]) [ag x,aa g] a λ(x:Int×Int×Unit) a=>bI p 1 a λx=>true=true/\aT a (ad (ae b) 1) λi=>aB AB 183 (.el aU) [ag x,aa i,aa (-1)] a λ(x:Int) a=>bI p 2 a λx=>true=true/\aT a (ad (ae b) 0) λj=>aB AB 182 (.el aU) [ag x,aa j,aa v] a λ(x:Int) a=>au a (d ())):=by kernel_rfl
theorem Vr (n:Int) (w:A2) (c:Option AC×Int×Unit->A2->Prop):(aM V0 (λ_=>[]) 40 [aa n] w c)=(
 aJ (decide (n<4)||decide (n>4096)) (au w (c (none,1,()))) (aL w {toList:=[ag none,ag none,ag none,ag none,ag none,ag none,ag none,ag none,ag none,ag none,ag none,ag none,ag none,ag none,ag none,ag none,ag none,ag none,ag none,ag none,ag none]} 115 λb a=>aB AB 33 (.bG [.one .ptr,.one (.int .i64)]) [aa (iD .i64 16 n)] a λ(x:Option AC×Int×Unit) a=>true=true/\true=true/\az a (ad
 (ae b) 0) [ag x.1] λa=>aB AB 72 (.bG [.one .ptr,.one (.int .i64)]) [aa n] a λ(x:Option AC×Int×Unit) a=>true=true/\true=true/\az a (ad (ae b) 1) [ag x.1] λa=>aB AB 73 (.bG [.one .ptr,.one (.int .i64)]) [aa 16] a λ(x:Option AC×Int×Unit) a=>true=true/\true=true/\az a (ad (ae b) 2) [ag x.1] λa=>aB AB 74 (.bG [.one .ptr,.one (.int .i64)]) [aa 4] a λ(x:Option AC×Int×Unit) a=>true=true/\true=true/\az a (ad (ae b) 3) [ag x.1] λ
 a=>au a (c (some ⟨b,0,none⟩,0,())))):=by kernel_rfl
theorem LQ (w:A2) (u:Option Nat->A2->Prop):(aM V0 (λ_=>[]) 78 [] w u)=(
 ∀w1,Ext w w1-> ∀c,Ext (w1.alloc (Obj.map ⟨[]⟩ 0)) c-> ∃(r:Nat), ∃(es:Array Ax), ∃(a:Nat),some w1.heap.size=some r/\bH c r es a/\gU c r .i64 1 (.func (.func 121) ⟨[]⟩ ⟨[]⟩) es a λb=> ∀d,Ext b d-> ∃(r:Nat), ∃(es:Array Ax), ∃(a:Nat),some w1.heap.size=some r/\bH d r es a/\gU d r .i64 2 (.func (.func 122) ⟨[]⟩ ⟨[]⟩) es a λb=> ∀e,Ext b e-> ∃(r:Nat), ∃(es:Array Ax), ∃(a:Nat),some w1.heap.size=some r/\bH e r es a/\gU e r .i64 17 (.func (.func
 123) ⟨[]⟩ ⟨[]⟩) es a λb=> ∀f,Ext b f-> ∃(r:Nat), ∃(es:Array Ax), ∃(a:Nat),some w1.heap.size=some r/\bH f r es a/\gU f r .i64 3 (.func (.func 124) ⟨[]⟩ ⟨[]⟩) es a λb=> ∀g,Ext b g-> ∃(r:Nat), ∃(es:Array Ax), ∃(a:Nat),some w1.heap.size=some r/\bH g r es a/\gU g r .i64 4 (.func (.func 125) ⟨[]⟩ ⟨[]⟩) es a λb=> ∀h,Ext b h-> ∃(r:Nat), ∃(es:Array Ax), ∃(a:Nat),some w1.heap.size=some r/\bH h r es a/\gU h r .i64 5 (.func (.func 126) ⟨[]⟩
 ⟨[]⟩) es a λb=> ∀i,Ext b i-> ∃(r:Nat), ∃(es:Array Ax), ∃(a:Nat),some w1.heap.size=some r/\bH i r es a/\gU i r .i64 6 (.func (.func 127) ⟨[]⟩ ⟨[]⟩) es a λb=> ∀j,Ext b j-> ∃(r:Nat), ∃(es:Array Ax), ∃(a:Nat),some w1.heap.size=some r/\bH j r es a/\gU j r .i64 7 (.func (.func 128) ⟨[]⟩ ⟨[]⟩) es a λb=> ∀k,Ext b k-> ∃(r:Nat), ∃(es:Array Ax), ∃(a:Nat),some w1.heap.size=some r/\bH k r es a/\gU k r .i64 8 (.func (.func 129) ⟨[]⟩ ⟨[]⟩) es
 a λb=> ∀l,Ext b l-> ∃(r:Nat), ∃(es:Array Ax), ∃(a:Nat),some w1.heap.size=some r/\bH l r es a/\gU l r .i64 9 (.func (.func 130) ⟨[]⟩ ⟨[]⟩) es a λb=> ∀m,Ext b m-> ∃(r:Nat), ∃(es:Array Ax), ∃(a:Nat),some w1.heap.size=some r/\bH m r es a/\gU m r .i64 10 (.func (.func 131) ⟨[]⟩ ⟨[]⟩) es a λb=> ∀n,Ext b n-> ∃(r:Nat), ∃(es:Array Ax), ∃(a:Nat),some w1.heap.size=some r/\bH n r es a/\gU n r .i64 11 (.func (.func 132) ⟨[]⟩ ⟨[]⟩)
 es a λb=> ∀o,Ext b o-> ∃(r:Nat), ∃(es:Array Ax), ∃(a:Nat),some w1.heap.size=some r/\bH o r es a/\gU o r .i64 12 (.func (.func 133) ⟨[]⟩ ⟨[]⟩) es a λb=> ∀p,Ext b p-> ∃(r:Nat), ∃(es:Array Ax), ∃(a:Nat),some w1.heap.size=some r/\bH p r es a/\gU p r .i64 13 (.func (.func 134) ⟨[]⟩ ⟨[]⟩) es a λb=> ∀q,Ext b q-> ∃(r:Nat), ∃(es:Array Ax), ∃(a:Nat),some w1.heap.size=some r/\bH q r es a/\gU q r .i64 14 (.func (.func 135) ⟨[]⟩
 ⟨[]⟩) es a λb=> ∀s,Ext b s-> ∃(r:Nat), ∃(es:Array Ax), ∃(a:Nat),some w1.heap.size=some r/\bH s r es a/\gU s r .i64 15 (.func (.func 136) ⟨[]⟩ ⟨[]⟩) es a λb=> ∀t,Ext b t-> ∃(r:Nat), ∃(es:Array Ax), ∃(a:Nat),some w1.heap.size=some r/\bH t r es a/\gU t r .i64 16 (.func (.func 137) ⟨[]⟩ ⟨[]⟩) es a λb=>au b (u (some w1.heap.size))):=by kernel_rfl
def oC:Nat->a7:=(λ|2=>[(7,Go.RX.El.one (Go.RX.Sc.int Az))]| _=>[])
theorem Fc (p:Option AC) (v k a b c:Int) (w:A2) (e:RS->A2->Prop):(bT V0 oC 121 [ag p,aa v,.agg ⟨[aa k,ay a,ay b,ay c]⟩] w e)=(
 aL w ⟨[aa k,ay a,ay b,ay c]⟩ 31 λb d=>aL d ⟨[ay 0,aa 0]⟩ 61 λb d=> ∃(I:Nat->Int×Unit->A2->Prop),(∃n, ∀w1,Ext d w1->I n (1,()) w1)/\ ∀(n:Nat) (s:Int×Unit) (w1:A2),I n s w1->aJ (decide (s.1<=16)) (p.isSome=true/\p.isSome=true/\((ad p 4).isSome=true/\0<=s.1/\s.1<(↑17:Int))/\f_ w1 (ad (ad p 4) (B2 s.1*1)) λx=>aJ (!x.isNone) (∀f,Ext w1 f-> ∃(g:Nat),g<n/\I g (aI .i64 s.1 1,()) f) (bI p 0 w1 λx=>bI p 1 w1 λh=>aB
 AB 164 (.bG [.one .ptr,.one (.int .i64)]) [ag x,ag h,aa s.1] w1 λ(x:Option AC×Int×Unit) d=>aJ (x.2.1==0) (∀w1,Ext d w1->aL (w1.alloc (Obj.map ⟨[]⟩ 0)) ⟨[ag x.1,.map (some w1.heap.size)]⟩ 121 λi d=>p.isSome=true/\p.isSome=true/\((ad p 4).isSome=true/\0<=s.1/\s.1<(↑17:Int))/\az d (ad (ad p 4) (B2 s.1*1)) [ag (ae i)] λd=>az d (ae b) [ay (aG .u64 s.1),aa x.2.1] λd=>au d λw1=>aj w1 none (ae b) cI λ(x:Int×Int×Unit)=>e (x.1,x.2.1,
 ()) w1) (az d (ae b) [ay (aG .u64 s.1),aa x.2.1] λd=>au d λw1=>aj w1 none (ae b) cI λ(x:Int×Int×Unit)=>e (x.1,x.2.1,()) w1))) (True/\az w1 (ae b) [ay 0,aa 3] λd=>au d λw1=>aj w1 none (ae b) cI λ(x:Int×Int×Unit)=>e (x.1,x.2.1,()) w1)):=by kernel_rfl
def na:Nat->a7:=(λ|5=>[(34,Go.RX.El.one (Go.RX.Sc.int Az))]|12=>[]|19=>[(13,Go.RX.El.one (Go.RX.Sc.int Az)),(93,Go.RX.El.one (Go.RX.Sc.int Az))]| _=>[])
theorem CY (p:Option AC) (v k a b c:Int) (w:A2) (l:RS->A2->Prop):(bT V0 na 122 [ag p,aa v,.agg ⟨[aa k,ay a,ay b,ay c]⟩] w l)=(
 aL w ⟨[aa k,ay a,ay b,ay c]⟩ 31 λb d=>aL d ⟨[ay 0,aa 0]⟩ 61 λi d=>true=true/\cK d (ad (ae b) 1) λx=> ∃r,af AB 165 [ag p,ay x] d (.bool r)/\aJ (!r) (True/\az d (ae i) [ay 0,aa 4] λd=>au d λw1=>aj w1 none (ae i) cI λ(x:Int×Int×Unit)=>l (x.1,x.2.1,()) w1) (true=true/\cK d (ad (ae b) 1) λx=>bI p 1 d λz=>aB AB 166 (.el fZ) [ag z,aa (aG .i64 x)] d λm d=> ∃(I:Nat->
 Int×Unit->A2->Prop),(∃n, ∀w1,Ext d w1->I n (0,()) w1)/\ ∀(n:Nat) (s:Int×Unit) (w1:A2),I n s w1->aJ (decide (s.1<(↑m.2.1:Int))) ((m.1.isSome=true/\0<=s.1/\s.1<(↑m.2.1:Int))/\aT w1 (ad m.1 (B2 s.1*1)) λx=>bI p 1 w1 λj=> ∃(e:(Int×Int×Int×Int×Unit)×Bool×Unit),af AB 25 [ag j,aa x] w1 (.tuple {toList:=[.agg ⟨[aa e.1.1,aa e.1.2.1,aa e.1.2.2.1,aa e.1.2.2.2.1]⟩,.bool e.2.1]})/\aL w1 ⟨[aa 0,aa 0,aa 0,.int
 .i64 0]⟩ 52 λb d=>az d (ae b) [aa e.1.1,aa e.1.2.1,aa e.1.2.2.1,aa e.1.2.2.2.1] λd=>true=true/\aT d (ad (ae b) 2) λx=>aJ (decide (x>0)) (True/\az d (ae i) [ay 0,aa 9] λd=>au d λw1=>aj w1 none (ae i) cI λ(x:Int×Int×Unit)=>l (x.1,x.2.1,()) w1) (∀f,Ext d f-> ∃(g:Nat),g<n/\I g (aI .i64 s.1 1,()) f)) (p.isSome=true/\p.isSome=true/\((ad p 4).isSome=true/\0<=aG .i64 x/\aG .i64 x<(↑17:Int))/\aj w1 none (ad (ad p 4)
 ((aG .i64 x).toNat*1)) jQ λj=> ∃(I:Nat->Unit->A2->Prop),(∃n, ∀t,Ext w1 t->I n () t)/\ ∀(n:Nat) (s:Unit) (w1:A2),I n s w1->sL j 1 w1 λe=> ∃u,TL w1 e u/\aJ (decide ((↑u:Int)>0)) (aB AB 168 (.el aU) [ag j] w1 λ(q:Int) d=>aB AB 167 (.bG []) [ag p,aa (aG .i64 x),aa q] d λx d=> ∀f,Ext d f-> ∃(g:Nat),g<n/\I g () f) (bI p 2 w1 λq=>aB AB 169 (.el aU) [ag q,aa (aG .i64 x)] w1 λ(G:Int)
 d=>bI p 3 d λA=>aB AB 170 (.el aU) [ag A,aa (aG .i64 x)] d λ(H:Int) d=>bI j 0 d λB=>aB AB 171 (.el fZ) [ag B] d λJ d=>bI p 1 d λC=>aB AB 166 (.el fZ) [ag C,aa (aG .i64 x)] d λo d=> ∃(I:Nat->Int×Int×Unit->A2->Prop),(∃n, ∀w1,Ext d w1->I n (0,0,()) w1)/\ ∀(n:Nat) (s:Int×Int×Unit) (w1:A2),I n s w1->aJ (decide (s.2.1<(↑o.2.1:Int))) ((o.1.isSome=true/\0<=s.2.1/\s.2.1<(↑o.2.1:Int))/\aT w1
 (ad o.1 (B2 s.2.1*1)) λy=>bI p 1 w1 λD=> ∃(h:(Int×Int×Int×Int×Unit)×Bool×Unit),af AB 25 [ag D,aa y] w1 (.tuple {toList:=[.agg ⟨[aa h.1.1,aa h.1.2.1,aa h.1.2.2.1,aa h.1.2.2.2.1]⟩,.bool h.2.1]})/\aL w1 ⟨[aa 0,aa 0,aa 0,aa 0]⟩ 52 λb d=>az d (ae b) [aa h.1.1,aa h.1.2.1,aa h.1.2.2.1,aa h.1.2.2.2.1] λd=>true=true/\aT d (ad (ae b) 0) λE=>aJ (E==4) (bI p 1
 d λF=>aB AB 138 (.el aU) [ag F,aa y,aa 5,aa (aG .i64 x)] d λ(x:Int) d=> ∀f,Ext d f-> ∃(g:Nat),g<n/\I g (aI .i64 s.1 1,aI .i64 s.2.1 1,()) f) (∀f,Ext d f-> ∃(g:Nat),g<n/\I g (s.1,aI .i64 s.2.1 1,()) f)) (p.isSome=true/\p.isSome=true/\((ad p 4).isSome=true/\0<=aG .i64 x/\aG .i64 x<(↑17:Int))/\az w1 (ad (ad p 4) ((aG .i64 x).toNat*1)) [ag none] λd=>az d (ae i) [ay (aG .u64 s.1),aa 0] λd=>au d λw1
 =>aj w1 none (ae i) cI λ(x:Int×Int×Unit)=>l (x.1,x.2.1,()) w1))))):=by kernel_rfl
def pW:Nat->a7:=(λ|3=>[(7,Go.RX.El.one (Go.RX.Sc.int Az)),(14,Go.RX.El.one (Go.RX.Sc.int Az))]| _=>[])
theorem Hl (p:Option AC) (v k a b c:Int) (w:A2) (g:RS->A2->Prop):(bT V0 pW 123 [ag p,aa v,.agg ⟨[aa k,ay a,ay b,ay c]⟩] w g)=(
 aL w ⟨[aa k,ay a,ay b,ay c]⟩ 31 λb d=>aL d ⟨[ay 0,aa 0]⟩ 61 λb d=>bI p 1 d λx=> ∃(h:Int),af AB 62 [ag x] d (aa h)/\ ∃(I:Nat->Int×Int×Unit->A2->Prop),(∃n, ∀w1,Ext d w1->I n (0,0,()) w1)/\ ∀(n:Nat) (s:Int×Int×Unit) (w1:A2),I n s w1->aJ (decide (s.2.1<h)) (aB AB 43 (.el aU) [ag p,aa s.2.1] w1 λ(x:Int) d=>aJ (x==0) (∀e,Ext d e-> ∃(f:Nat),f<n/\I f (aI .i64 s.1 1,aI .i64 s.2.1 1,()) e)
 (∀e,Ext d e-> ∃(f:Nat),f<n/\I f (s.1,aI .i64 s.2.1 1,()) e)) (az w1 (ae b) [ay (aG .u64 s.1),aa 0] λd=>au d λw1=>aj w1 none (ae b) cI λ(x:Int×Int×Unit)=>g (x.1,x.2.1,()) w1)):=by kernel_rfl
def oD:Nat->a7:=(λ|13=>[(66,Go.RX.El.one (Go.RX.Sc.int Az))]| _=>[])
abbrev gx (a:RS->A2->Prop) (b:A2) (c:Nat):Prop:=
 au b λw1=>aj w1 none (ae c) cI λ(x:Int×Int×Unit)=>a (x.1,x.2.1,()) w1
theorem Fe (p:Option AC) (v k a b c:Int) (w:A2) (f:RS->A2->Prop):(bT V0 oD 124 [ag p,aa v,.agg ⟨[aa k,ay a,ay b,ay c]⟩] w f)=(
 aL w ⟨[aa k,ay a,ay b,ay c]⟩ 31 λb d=>aL d ⟨[ay 0,aa 0]⟩ 61 λe d=>true=true/\cK d (ad (ae b) 1) λx=>aJ (decide (x>=65536)) (True/\az d (ae e) [ay 0,aa 2] λd=>gx f d e) (true=true/\cK d (ad (ae b) 2) λx=>((!decide (x<1))=true->true=true)/\aj d (some !decide (x<1)) (ad (ae b) 2) rD λ(l:Int)=>aJ (decide (x<1)||decide (l>7)) (True/\az d (ae e) [ay 0,aa 7] λd=>gx f d e) (bI p 1 d
 λx=>aB AB 172 (.bG [.one (.int .i64),.one (.int .i64)]) [ag x,aa 4,aa v] d λ(x:Int×Int×Unit) d=>aJ (x.2.1 != 0) (True/\az d (ae e) [ay 0,aa x.2.1] λd=>gx f d e) (p.isSome=true/\p.isSome=true/\((ad p 4).isSome=true/\0<=v/\v<(↑17:Int))/\f_ d (ad (ad p 4) (v.toNat*1)) λm=>bI m 0 d λo=>true=true/\cK d (ad (ae b) 1) λq=>true=true/\cK d (ad (ae b) 2) λr=>aB AB 173 (.el aU) [ag o,aa (aG .i64 q),
 aa x.1,aa (aG .i64 r)] d λ(h:Int) d=>aJ (h != 0) (bI p 1 d λg=>aB AB 79 (.el aU) [ag g,aa x.1] d λ(x:Int) d=>True/\az d (ae e) [ay 0,aa h] λd=>gx f d e) (∃(I:Nat->Int×Unit->A2->Prop),(∃n, ∀w1,Ext d w1->I n (0,()) w1)/\ ∀(n:Nat) (s:Int×Unit) (w1:A2),I n s w1->aJ (decide (s.1<16)) (bI p 0 w1 λg=>aB AB 38 (.el aU) [ag g,aa (aI .i64 (iD .i64 16 x.1) s.1),ay 0] w1 λ(x:Int) d=> ∀
 i,Ext d i-> ∃(j:Nat),j<n/\I j (aI .i64 s.1 1,()) i) (az w1 (ae e) [ay (aG .u64 x.1),aa 0] λd=>gx f d e)))))):=by kernel_rfl
abbrev fD (a:RS->A2->Prop) (b:A2) (c:Nat):Prop:=
 au b λw1=>aj w1 none (ae c) cI λ(x:Int×Int×Unit)=>a (x.1,x.2.1,()) w1
theorem CZ (p:Option AC) (v k a b c:Int) (w:A2) (g:RS->A2->Prop):(bT V0 (λ_=>[]) 125 [ag p,aa v,.agg ⟨[aa k,ay a,ay b,ay c]⟩] w g)=(
 aL w ⟨[aa k,ay a,ay b,ay c]⟩ 31 λb d=>aL d ⟨[ay 0,aa 0]⟩ 61 λe d=>true=true/\cK d (ad (ae b) 1) λx=>aJ (decide (x>=65536)) (True/\az d (ae e) [ay 0,aa 2] λd=>fD g d e) (true=true/\cK d (ad (ae b) 1) λx=>aB AB 81 (.bG [.one (.int .i64),.one (.int .i64),.one (.int .i64)]) [ag p,aa v,aa (aG .i64 x)] d λ(h:Int×Int×Int×Unit) d=>aJ (h.2.2.1 != 0) (True/\az d (ae e) [ay 0,aa h.2.2.1]
 λd=>fD g d e) (∃(i:Int×Bool×Unit),af AB 174 [ag p,aa v,aa (aG .i64 x)] d (.tuple ⟨[aa i.1,.bool i.2.1]⟩)/\aJ i.2.1 (True/\az d (ae e) [ay 0,aa 7] λd=>fD g d e) (bI p 1 d λj=> ∃(f:(Int×Int×Int×Int×Unit)×Bool×Unit),af AB 25 [ag j,aa h.1] d (.tuple {toList:=[.agg ⟨[aa f.1.1,aa f.1.2.1,aa f.1.2.2.1,aa f.1.2.2.2.1]⟩,.bool f.2.1]})/\aL d ⟨[aa 0,aa 0,
 aa 0,aa 0]⟩ 52 λb d=>az d (ae b) [aa f.1.1,aa f.1.2.1,aa f.1.2.2.1,aa f.1.2.2.2.1] λd=>true=true/\aT d (ad (ae b) 2) λl=>aJ (decide (l>0)) (True/\az d (ae e) [ay 0,aa 9] λd=>fD g d e) (p.isSome=true/\p.isSome=true/\((ad p 4).isSome=true/\0<=v/\v<(↑17:Int))/\f_ d (ad (ad p 4) (v.toNat*1)) λm=>bI m 0 d λn=>aB AB 175 (.bG [.one (.int .i64),.one (.int .i64)]) [ag n,aa (aG .i64 x)] d λ(x
 :Int×Int×Unit) d=>bI p 1 d λx=>aB AB 138 (.el aU) [ag x,aa h.1,aa 5,aa v] d λ(x:Int) d=>az d (ae e) [ay (aG .u64 h.1),aa 0] λd=>fD g d e))))):=by kernel_rfl
abbrev ko (a:RS->A2->Prop) (b:A2) (c:Nat):Prop:=
 au b λw1=>aj w1 none (ae c) cI λ(x:Int×Int×Unit)=>a (x.1,x.2.1,()) w1
abbrev oE (p:Option AC) (v:Int) (e:RS->A2->Prop) (a:A2) (c:Nat) (d:Nat):Prop:=
 p.isSome=true/\p.isSome=true/\((ad p 4).isSome=true/\0<=v/\v<(↑17:Int))/\f_ a (ad (ad p 4) (v.toNat*1)) λx=>bI x 0 a λx=>true=true/\cK a (ad (ae c) 1) λf=>true=true/\cK a (ad (ae c) 2) λg=>aB AB 177 (.el aU) [ag x,aa (aG .i64 f),aa (aG .i64 g)] a λ(x:Int) b=>True/\az b (ae d) [ay 0,aa x] λb=>ko e b d
abbrev oF (b:RS->A2->Prop) (c:A2) (a:Nat):Prop:=
 True/\az c (ae a) [ay 0,aa 7] λd=>ko b d a
theorem C4 (p:Option AC) (v k a b c:Int) (w:A2) (f:RS->A2->Prop):(bT V0 (λ_=>[]) 126 [ag p,aa v,.agg ⟨[aa k,ay a,ay b,ay c]⟩] w f)=(
 aL w ⟨[aa k,ay a,ay b,ay c]⟩ 31 λb d=>aL d ⟨[ay 0,aa 0]⟩ 61 λg d=>true=true/\cK d (ad (ae b) 1) λx=>aJ (decide (x>=65536)) (True/\az d (ae g) [ay 0,aa 2] λd=>ko f d g) (true=true/\cK d (ad (ae b) 2) λx=>((!decide (x<1))=true->true=true)/\aj d (some !decide (x<1)) (ad (ae b) 2) rD λ(j:Int)=>aJ (decide (x<1)||decide (j>7)) (oF f d g) (true=true/\cK d (ad (ae b) 1) λx=> ∃(h:Int×Bool×
 Unit),af AB 174 [ag p,aa v,aa (aG .i64 x)] d (.tuple ⟨[aa h.1,.bool h.2.1]⟩)/\(h.2.1=true->true=true)/\aj d (some h.2.1) (ad (ae b) 2) rD λ(x:Int)=>aJ (h.2.1&&decide (wU .u64 x 2>0)) (bI p 2 d λx=> ∃(e:(Int×Int×Int×Bool×Int×Unit)×Bool×Unit),af AB 176 [ag x,aa h.1] d (.tuple {toList:=[.agg ⟨[aa e.1.1,aa e.1.2.1,aa e.1.2.2.1,.bool e.1.2.2.2.1,aa e.1.2.2.2.2.1]⟩,.bool e.2.1]})/\aL d ⟨[aa 0,.int .i64
 0,aa 0,.bool false,aa 0]⟩ 255 λi d=>az d (ae i) [aa e.1.1,aa e.1.2.1,aa e.1.2.2.1,.bool e.1.2.2.2.1,aa e.1.2.2.2.2.1] λd=>true=true/\sK d (ad (ae i) 3) λx=>aJ (!x) (oF f d g) (oE p v f d b g)) (oE p v f d b g)))):=by kernel_rfl
theorem LR (p:Option AC) (v k a b c:Int) (w:A2) (f:RS->A2->Prop):(bT V0 (λ_=>[]) 127 [ag p,aa v,.agg ⟨[aa k,ay a,ay b,ay c]⟩] w f)=(
 aL w ⟨[aa k,ay a,ay b,ay c]⟩ 31 λb d=>aL d ⟨[ay 0,aa 0]⟩ 61 λe d=>true=true/\cK d (ad (ae b) 1) λx=>aB AB 178 (.bG [.one (.int .i64),.one (.int .i64)]) [ag p,aa v,ay x,aa 1] d λ(x:Int×Int×Unit) d=>aJ (x.2.1 != 0) (True/\az d (ae e) [ay 0,aa x.2.1] λd=>au d λw1=>aj w1 none (ae e) cI λ(x:Int×Int×Unit)=>f (x.1,x.2.1,()) w1) (bI p 0 d λg=>aB AB 37 (.bG [.one (.int .u64),.one (.int
 .i64)]) [ag g,aa x.1] d λ(x:Int×Int×Unit) d=>az d (ae e) [ay x.1,aa x.2.1] λd=>au d λw1=>aj w1 none (ae e) cI λ(x:Int×Int×Unit)=>f (x.1,x.2.1,()) w1)):=by kernel_rfl
theorem Hm (p:Option AC) (v k a b c:Int) (w:A2) (f:RS->A2->Prop):(bT V0 (λ_=>[]) 128 [ag p,aa v,.agg ⟨[aa k,ay a,ay b,ay c]⟩] w f)=(
 aL w ⟨[aa k,ay a,ay b,ay c]⟩ 31 λb d=>aL d ⟨[ay 0,aa 0]⟩ 61 λe d=>true=true/\cK d (ad (ae b) 1) λx=>aB AB 178 (.bG [.one (.int .i64),.one (.int .i64)]) [ag p,aa v,ay x,aa 2] d λ(x:Int×Int×Unit) d=>aJ (x.2.1 != 0) (True/\az d (ae e) [ay 0,aa x.2.1] λd=>au d λw1=>aj w1 none (ae e) cI λ(x:Int×Int×Unit)=>f (x.1,x.2.1,()) w1) (bI p 0 d λg=>true=true/\cK d (ad (ae b) 2) λh=>aB
 AB 38 (.el aU) [ag g,aa x.1,ay h] d λ(x:Int) d=>True/\az d (ae e) [ay 0,aa x] λd=>au d λw1=>aj w1 none (ae e) cI λ(x:Int×Int×Unit)=>f (x.1,x.2.1,()) w1)):=by kernel_rfl
abbrev iy (a:RS->A2->Prop) (b:A2) (c:Nat):Prop:=
 au b λw1=>aj w1 none (ae c) cI λ(x:Int×Int×Unit)=>a (x.1,x.2.1,()) w1
theorem Hn (p:Option AC) (v k a b c:Int) (w:A2) (f:RS->A2->Prop):(bT V0 (λ_=>[]) 129 [ag p,aa v,.agg ⟨[aa k,ay a,ay b,ay c]⟩] w f)=(
 aL w ⟨[aa k,ay a,ay b,ay c]⟩ 31 λb d=>aL d ⟨[ay 0,aa 0]⟩ 61 λe d=>true=true/\cK d (ad (ae b) 2) λx=> ∃(g:Int),af AB 179 [ag p,aa v,ay x] d (aa g)/\true=true/\cK d (ad (ae b) 1) λx=>aJ (decide (x>=65536)) (True/\az d (ae e) [ay 0,aa 2] λd=>iy f d e) (((!g==1)=true->true=true)/\aj d (some !g==1) (ad (ae b) 3) rD λ(x:Int)=>aJ (g==1||decide (x>1)) (True/\az d (ae e) [.int
 .u64 0,aa 1] λd=>iy f d e) (true=true/\cK d (ad (ae b) 1) λx=>aB AB 81 (.bG [.one (.int .i64),.one (.int .i64),.one (.int .i64)]) [ag p,aa v,aa (aG .i64 x)] d λ(x:Int×Int×Int×Unit) d=>aJ (x.2.2.1 != 0||g != 0) (True/\az d (ae e) [ay 0,aa 4] λd=>iy f d e) (true=true/\cK d (ad (ae b) 1) λx=> ∃(h:Int×Bool×Unit),af AB 174 [ag p,aa v,aa (aG .i64 x)] d (.tuple ⟨[aa h.1,.bool h.2.1]⟩)/\
 aJ h.2.1 (True/\az d (ae e) [ay 0,aa 7] λd=>iy f d e) (bI p 2 d λx=>true=true/\cK d (ad (ae b) 1) λi=>true=true/\cK d (ad (ae b) 2) λj=>true=true/\cK d (ad (ae b) 3) λl=>aB AB 180 (.bG [.one (.int .i64),.one (.int .i64)]) [ag x,aa v,aa (aG .i64 i),aa (aG .i64 j),.bool (l==1)] d λ(x:Int×Int×Unit) d=>az d (ae e) [ay (aG .u64 x.1),aa x.2.1] λd=>iy f d e))))):=by kernel_rfl
theorem LU (p:Option AC) (v k a b c:Int) (w:A2) (f:RS->A2->Prop):(bT V0 (λ_=>[]) 130 [ag p,aa v,.agg ⟨[aa k,ay a,ay b,ay c]⟩] w f)=(
 aL w ⟨[aa k,ay a,ay b,ay c]⟩ 31 λb d=>aL d ⟨[ay 0,aa 0]⟩ 61 λe d=>true=true/\cK d (ad (ae b) 2) λx=>aJ (decide (x>=65536)) (True/\az d (ae e) [ay 0,aa 2] λd=>au d λw1=>aj w1 none (ae e) cI λ(x:Int×Int×Unit)=>f (x.1,x.2.1,()) w1) (true=true/\cK d (ad (ae b) 1) λx=>((!decide (x>=16))=true->true=true)/\aj d (some !decide (x>=16)) (ad (ae b) 3) rD λ(A:Int)=>aJ (decide (x>=16)||decide (A>1)) (True/\az d (ae
 e) [ay 0,aa 1] λd=>au d λw1=>aj w1 none (ae e) cI λ(x:Int×Int×Unit)=>f (x.1,x.2.1,()) w1) (true=true/\cK d (ad (ae b) 1) λx=>true=true/\cK d (ad (ae b) 2) λn=>true=true/\cK d (ad (ae b) 3) λj=>bI p 2 d λB=> ∃(g:(Int×Int×Int×Bool×Int×Unit)×Bool×Unit),af AB 176 [ag B,aa (aG .i64 x)] d (.tuple {toList:=[.agg ⟨[aa g.1.1,aa g.1.2.1,aa g.1.2.2.1,.bool g.1.2.2.2.1,aa g.1.2.2.2.2.1]⟩,.bool
 g.2.1]})/\aL d ⟨[aa 0,aa 0,aa 0,.bool false,aa 0]⟩ 255 λb d=>az d (ae b) [aa g.1.1,aa g.1.2.1,aa g.1.2.2.1,.bool g.1.2.2.2.1,aa g.1.2.2.2.2.1] λd=>aJ (!g.2.1) (True/\az d (ae e) [ay 0,aa 4] λd=>au d λw1=>aj w1 none (ae e) cI λ(x:Int×Int×Unit)=>f (x.1,x.2.1,()) w1) (true=true/\aT d (ad (ae b) 2) λo=>((!o != v&&j==1)=true->true=true)/\aj d (some (!o != v&&j==1)) (ad (ae b) 3) oY λC=>aJ
 (o != v||j==1&& !C) (True/\az d (ae e) [ay 0,aa 7] λd=>au d λw1=>aj w1 none (ae e) cI λ(x:Int×Int×Unit)=>f (x.1,x.2.1,()) w1) (true=true/\aT d (ad (ae b) 0) λD=>true=true/\aT d (ad (ae b) 1) λE=>aB AB 81 (.bG [.one (.int .i64),.one (.int .i64),.one (.int .i64)]) [ag p,aa D,aa E] d λ(h:Int×Int×Int×Unit) d=>aJ (h.2.2.1 != 0) (True/\az d (ae e) [ay 0,aa 4] λd=>au d λw1=>aj w1 none (ae e) cI λ
 (x:Int×Int×Unit)=>f (x.1,x.2.1,()) w1) (true=true/\aT d (ad (ae b) 0) λF=>true=true/\aT d (ad (ae b) 1) λG=> ∃(q:Int×Bool×Unit),af AB 174 [ag p,aa F,aa G] d (.tuple ⟨[aa q.1,.bool q.2.1]⟩)/\aJ q.2.1 (True/\az d (ae e) [ay 0,aa 7] λd=>au d λw1=>aj w1 none (ae e) cI λ(x:Int×Int×Unit)=>f (x.1,x.2.1,()) w1) (bI p 2 d λH=>aB AB 181 (.el aU) [ag H,aa (aG .i64 x),aa v,
 .bool (j==1)] d λ(z:Int) d=>aJ (z != 0) (True/\az d (ae e) [ay 0,aa z] λd=>au d λw1=>aj w1 none (ae e) cI λ(x:Int×Int×Unit)=>f (x.1,x.2.1,()) w1) (aJ (j==1) (p.isSome=true/\p.isSome=true/\((ad p 4).isSome=true/\0<=v/\v<(↑17:Int))/\f_ d (ad (ad p 4) (v.toNat*1)) λs=>bI s 0 d λt=>aB AB 173 (.el aU) [ag t,aa (aG .i64 n),aa h.1,aa (ZX .i64 1 2)] d λ(l:Int) d=>aJ (l != 0) (bI p 2 d λi
 =>aB AB 182 (.el aU) [ag i,aa (aG .i64 x),aa v] d λ(x:Int) d=>True/\az d (ae e) [ay 0,aa l] λd=>au d λw1=>aj w1 none (ae e) cI λ(x:Int×Int×Unit)=>f (x.1,x.2.1,()) w1) (bI p 1 d λi=>aB AB 183 (.el aU) [ag i,aa h.1,aa 1] d λ(I:Int) d=>p.isSome=true/\p.isSome=true/\((ad p 4).isSome=true/\0<=v/\v<(↑17:Int))/\f_ d (ad (ad p 4) (v.toNat*1)) λu=>sL u 1 d λy=> ∀w1,Ext d w1-> ∃(r
 :Nat), ∃(es:Array Ax), ∃(m:Nat),y=some r/\bH w1 r es m/\gU w1 r .i64 (aG .i64 n) (.agg ⟨[aa (aG .i64 x),aa h.1]⟩) es m λd=>az d (ae e) [ay 0,aa 0] λd=>au d λw1=>aj w1 none (ae e) cI λ(x:Int×Int×Unit)=>f (x.1,x.2.1,()) w1)) (p.isSome=true/\p.isSome=true/\((ad p 4).isSome=true/\0<=v/\v<(↑17:Int))/\f_ d (ad (ad p 4) (v.toNat*1)) λs=>bI s 0 d λt=>aB AB 173 (.el aU) [ag t,aa (aG .i64 n),
 aa h.1,aa 1] d λ(l:Int) d=>aJ (l != 0) (bI p 2 d λi=>aB AB 182 (.el aU) [ag i,aa (aG .i64 x),aa v] d λ(x:Int) d=>True/\az d (ae e) [ay 0,aa l] λd=>au d λw1=>aj w1 none (ae e) cI λ(x:Int×Int×Unit)=>f (x.1,x.2.1,()) w1) (bI p 1 d λi=>aB AB 183 (.el aU) [ag i,aa h.1,aa 1] d λ(I:Int) d=>p.isSome=true/\p.isSome=true/\((ad p 4).isSome=true/\0<=v/\v<(↑17:Int))/\f_
 d (ad (ad p 4) (v.toNat*1)) λu=>sL u 1 d λy=> ∀w1,Ext d w1-> ∃(r:Nat), ∃(es:Array Ax), ∃(m:Nat),y=some r/\bH w1 r es m/\gU w1 r .i64 (aG .i64 n) (.agg ⟨[aa (aG .i64 x),aa h.1]⟩) es m λd=>az d (ae e) [ay 0,aa 0] λd=>au d λw1=>aj w1 none (ae e) cI λ(x:Int×Int×Unit)=>f (x.1,x.2.1,()) w1)))))))))):=by kernel_rfl
abbrev n_ (a:RS->A2->Prop) (b:A2) (c:Nat):Prop:=
 au b λw1=>aj w1 none (ae c) cI λ(x:Int×Int×Unit)=>a (x.1,x.2.1,()) w1
theorem LV (p:Option AC) (v k a b c:Int) (w:A2) (f:RS->A2->Prop):(bT V0 (λ_=>[]) 131 [ag p,aa v,.agg ⟨[aa k,ay a,ay b,ay c]⟩] w f)=(
 aL w ⟨[aa k,ay a,ay b,ay c]⟩ 31 λb d=>aL d ⟨[ay 0,aa 0]⟩ 61 λe d=>true=true/\cK d (ad (ae b) 1) λx=>aJ (decide (x>=65536)) (True/\az d (ae e) [ay 0,aa 2] λd=>n_ f d e) (true=true/\cK d (ad (ae b) 1) λx=> ∃(g:Int×Bool×Unit),af AB 174 [ag p,aa v,aa (aG .i64 x)] d (.tuple ⟨[aa g.1,.bool g.2.1]⟩)/\aJ (!g.2.1) (True/\az d (ae e) [ay 0,aa 4] λd=>n_ f d e) (true=
 true/\cK d (ad (ae b) 1) λx=>aB AB 167 (.bG []) [ag p,aa v,aa (aG .i64 x)] d λx d=>az d (ae e) [ay 0,aa 0] λd=>n_ f d e))):=by kernel_rfl
theorem Ff (p:Option AC) (v k a b c:Int) (w:A2) (f:RS->A2->Prop):(bT V0 (λ_=>[]) 132 [ag p,aa v,.agg ⟨[aa k,ay a,ay b,ay c]⟩] w f)=(
 aL w ⟨[aa k,ay a,ay b,ay c]⟩ 31 λb d=>aL d ⟨[ay 0,aa 0]⟩ 61 λe d=>true=true/\cK d (ad (ae b) 1) λx=>aJ (decide (x>=16)) (True/\az d (ae e) [ay 0,aa 1] λd=>au d λw1=>aj w1 none (ae e) cI λ(x:Int×Int×Unit)=>f (x.1,x.2.1,()) w1) (bI p 2 d λx=>true=true/\cK d (ad (ae b) 1) λg=>aB AB 184 (.el aU) [ag x,aa (aG .i64 g),aa v] d λ(x:Int) d=>True/\az d (ae e) [ay 0,aa x]
 λd=>au d λw1=>aj w1 none (ae e) cI λ(x:Int×Int×Unit)=>f (x.1,x.2.1,()) w1)):=by kernel_rfl
theorem LW (p:Option AC) (v k a b c:Int) (w:A2) (f:RS->A2->Prop):(bT V0 (λ_=>[]) 133 [ag p,aa v,.agg ⟨[aa k,ay a,ay b,ay c]⟩] w f)=(
 aL w ⟨[aa k,ay a,ay b,ay c]⟩ 31 λb d=>aL d ⟨[ay 0,aa 0]⟩ 61 λe d=>true=true/\cK d (ad (ae b) 1) λx=> ∃(g:Int),af AB 179 [ag p,aa v,ay x] d (aa g)/\aJ (g != 0) (True/\az d (ae e) [ay 0,aa g] λd=>au d λw1=>aj w1 none (ae e) cI λ(x:Int×Int×Unit)=>f (x.1,x.2.1,()) w1) (bI p 3 d λx=>true=true/\cK d (ad (ae b) 1) λh=>aB AB 185 (.bG [.one (.int .i64),.one (.int .i64)])
 [ag x,aa v,aa (aG .i64 h)] d λ(x:Int×Int×Unit) d=>az d (ae e) [ay (aG .u64 x.1),aa x.2.1] λd=>au d λw1=>aj w1 none (ae e) cI λ(x:Int×Int×Unit)=>f (x.1,x.2.1,()) w1)):=by kernel_rfl
abbrev od (a:RS->A2->Prop) (b:A2) (c:Nat):Prop:=
 au b λw1=>aj w1 none (ae c) cI λ(x:Int×Int×Unit)=>a (x.1,x.2.1,()) w1
theorem LX (p:Option AC) (v k a b c:Int) (w:A2) (g:RS->A2->Prop):(bT V0 (λ_=>[]) 134 [ag p,aa v,.agg ⟨[aa k,ay a,ay b,ay c]⟩] w g)=(
 aL w ⟨[aa k,ay a,ay b,ay c]⟩ 31 λb d=>aL d ⟨[ay 0,aa 0]⟩ 61 λe d=>true=true/\cK d (ad (ae b) 1) λx=> ∃(f:Int),af AB 179 [ag p,aa v,ay x] d (aa f)/\((!f==1)=true->true=true)/\aj d (some !f==1) (ad (ae b) 2) rD λ(x:Int)=>aJ (f==1||decide (x>=4)) (True/\az d (ae e) [ay 0,aa 1] λd=>od g d e) (aJ (f != 0) (True/\az d (ae e) [ay 0,aa f] λd=>od g d e)
 (bI p 3 d λx=>true=true/\cK d (ad (ae b) 1) λh=>true=true/\cK d (ad (ae b) 2) λi=>aB AB 186 (.bG [.one (.int .i64),.one (.int .i64)]) [ag x,aa v,aa (aG .i64 h),aa (aG .i64 i)] d λ(x:Int×Int×Unit) d=>az d (ae e) [ay (aG .u64 x.1),aa x.2.1] λd=>od g d e))):=by kernel_rfl
theorem LY (p:Option AC) (v k a b c:Int) (w:A2) (f:RS->A2->Prop):(bT V0 (λ_=>[]) 135 [ag p,aa v,.agg ⟨[aa k,ay a,ay b,ay c]⟩] w f)=(
 aL w ⟨[aa k,ay a,ay b,ay c]⟩ 31 λb d=>aL d ⟨[ay 0,aa 0]⟩ 61 λe d=>true=true/\cK d (ad (ae b) 1) λx=>aJ (decide (x>=4)) (True/\az d (ae e) [ay 0,aa 1] λd=>au d λw1=>aj w1 none (ae e) cI λ(x:Int×Int×Unit)=>f (x.1,x.2.1,()) w1) (bI p 3 d λx=>true=true/\cK d (ad (ae b) 1) λg=>aB AB 187 (.el aU) [ag x,aa v,aa (aG .i64 g)] d λ(x:Int) d=>True/\az d (ae e) [ay 0,aa x] λ
 d=>au d λw1=>aj w1 none (ae e) cI λ(x:Int×Int×Unit)=>f (x.1,x.2.1,()) w1)):=by kernel_rfl
theorem LZ (p:Option AC) (v k a b c:Int) (w:A2) (e:RS->A2->Prop):(bT V0 (λ_=>[]) 136 [ag p,aa v,.agg ⟨[aa k,ay a,ay b,ay c]⟩] w e)=(
 aL w ⟨[aa k,ay a,ay b,ay c]⟩ 31 λb d=>aL d ⟨[ay 0,aa 0]⟩ 61 λb d=>bI p 3 d λx=>aB AB 188 (.bG [.one (.int .i64),.one .bool]) [ag x,aa v] d λ(x:Int×Bool×Unit) d=>aJ (!x.2.1) (az d (ae b) [ay 0,aa 0] λd=>au d λw1=>aj w1 none (ae b) cI λ(x:Int×Int×Unit)=>e (x.1,x.2.1,()) w1) (az d (ae b) [ay (aG .u64 (aI .i64 x.1 1)),aa 0] λd=>au d λw1=>aj w1 none (ae b) cI λ(x:Int×Int×Unit)=>e
 (x.1,x.2.1,()) w1)):=by kernel_rfl
theorem Ho (p:Option AC) (v k a b c:Int) (w:A2) (f:RS->A2->Prop):(bT V0 (λ_=>[]) 137 [ag p,aa v,.agg ⟨[aa k,ay a,ay b,ay c]⟩] w f)=(
 aL w ⟨[aa k,ay a,ay b,ay c]⟩ 31 λb d=>aL d ⟨[ay 0,aa 0]⟩ 61 λe d=>true=true/\cK d (ad (ae b) 1) λx=>aJ (decide (x>=4)) (True/\az d (ae e) [ay 0,aa 1] λd=>au d λw1=>aj w1 none (ae e) cI λ(x:Int×Int×Unit)=>f (x.1,x.2.1,()) w1) (bI p 3 d λx=>true=true/\cK d (ad (ae b) 1) λg=>aB AB 189 (.el aU) [ag x,aa v,aa (aG .i64 g)] d λ(x:Int) d=>True/\az d (ae e) [ay 0,aa x] λ
 d=>au d λw1=>aj w1 none (ae e) cI λ(x:Int×Int×Unit)=>f (x.1,x.2.1,()) w1)):=by kernel_rfl
abbrev kT (a:RS->A2->Prop) (b:A2) (c:Nat):Prop:=
 au b λw1=>aj w1 none (ae c) cI λ(x:Int×Int×Unit)=>a (x.1,x.2.1,()) w1
abbrev Bk (d:RS->A2->Prop) (f:A2) (b:Nat) (e:Int×Int×Unit) (c:Nat):Prop:=
 az f (ae b) [ay e.1,aa e.2.1] λa=>true=true/\aT a (ad (ae b) 1) λx=>aJ (x != 0) (true=true/\aT a (ad (ae b) 1) λx=>True/\az a (ae c) [ay 0,aa x] λa=>kT d a c) (aj a none (ae b) cI λ(x:Int×Int×Unit)=>az a (ae c) [ay x.1,aa x.2.1] λa=>kT d a c)
abbrev Bl (p:Option AC) (v:Int) (b:RS->A2->Prop) (c:AR) (a:Int×Int×Int×Int×Unit) (d:A2) (e:Nat) (f:Nat):Prop:=
 zX AB c (.el cI) [ag p,aa v,.agg ⟨[aa a.1,ay a.2.1,ay a.2.2.1,ay a.2.2.2.1]⟩] d λ(x:Int×Int×Unit) g=>Bk b g e x f
theorem Zy (p:Option AC) (v k a b c:Int) (w:A2) (f:RS->A2->Prop):(bT V1 (λ_=>[]) 42 [ag p,aa v,.agg ⟨[aa k,ay a,ay b,ay c]⟩] w f)=(
 aL w ⟨[aa k,ay a,ay b,ay c]⟩ 31 λb d=>aL d ⟨[ay 0,aa 0]⟩ 61 λe d=> ∃x,af AB 53 [ag p] d (.bool x)/\aJ (!x) (True/\az d (ae e) [ay 0,aa 10] λd=>kT f d e) (aj d (some !(decide (v<0)||decide (v>16))) (ae b) sM λ(x:Int×Int×Int×Int×Unit)=> ∃j,((!(decide (v<0)||decide (v>16)))=true->af AB 76 [.agg ⟨[aa x.1,ay x.2.1,ay x.2.2.1,ay x.2.2.2.1]⟩] d (.bool j))/\aJ (decide (v<0)||decide (v>16)
 || !j) (True/\az d (ae e) [ay 0,aa 1] λd=>kT f d e) (true=true/\aT d (ad (ae b) 0) λx=> ∃l,af AB 77 [aa x] d (.bool l)/\aJ (!(v==0)==l) (True/\az d (ae e) [ay 0,aa 7] λd=>kT f d e) (∃x,(decide (v>0)=true->af AB 19 [ag p,aa v] d (.bool x))/\aJ (decide (v>0)&& !x) (True/\az d (ae e) [ay 0,aa 4] λd=>kT f d e) (true=true/\aT d (ad (ae b) 0) λx=>aj d none (ae b) sM λ(g:Int
 ×Int×Int×Int×Unit)=>(aB AB 78 (.el NS) [] d λi d=>cH d (ae b) sM g/\cH d (ad (ae b) 0) aU x/\True/\ ∃(h:AR),jT d i .i64 x Ij h/\(zX AB h (.el cI) [ag p,aa v,.agg ⟨[aa g.1,ay g.2.1,ay g.2.2.1,ay g.2.2.2.1]⟩] d λ(x:Int×Int×Unit) d=>aL d ⟨[ay 0,aa 0]⟩ 61 λb d=>Bk f d b x e)/\aL d ⟨[ay 0,aa 0]⟩ 61 λb d=>Bl p v f h g d b e)/\aL d ⟨[ay 0,aa 0]⟩ 61 λm
 d=>aB AB 78 (.el NS) [] d λi d=>cH d (ae b) sM g/\cH d (ad (ae b) 0) aU x/\True/\ ∃(h:AR),jT d i .i64 x Ij h/\Bl p v f h g d m e))))):=by kernel_rfl
open Go.RX D
def px:Nat->Int->Int
 |0,p=>p
 |l+1,p=>px l p / 16
theorem XK {p:Int} (h:0<=p/\p<65536):px 4 p=0:=by simp only[px];omega
theorem nT (p:Int) (l:Nat):px l p=16*px (l+1) p+px l p % 16:=by simp only[px];omega
theorem ee (p:Int) (l:Nat):0<=px l p % 16/\px l p % 16<16:=by omega
theorem Zz {p:Int} (h:0<=p/\p<65536) {l:Nat} (a:l<=3):fo p (l:Int)=px l p % 16:=by
 unfold fo;rw[ax (by omega)];congr 1;rcases l with _| _| _| _|l
 ·show p / 1=p;omega
 ·rfl
 ·show p / 256=p / 16 / 16;omega
 ·show p / 4096=p / 16 / 16 / 16;omega
 ·omega
theorem ky {f p:Int} (b:0<=f/\f<4096) (h:0<=p/\p<65536) {l:Nat} (a:l<=3):dW f p (l:Int)=16*f+px l p % 16:=by
 unfold dW;rw[Zz h a,ao (by omega)]
theorem pA:eY 0=zE:=by decide+kernel
theorem J7:dJ zE=false:=by decide
theorem Hs (v:Int):bU (eY v).1 (eY v).2.1 (eY v).2.2.1 (eY v).2.2.2.1=true:=by
 unfold eY HV FF JS Fq;cases h:ux (B v).toNat with
 |false=>simp;decide
 |true=>
  unfold ux at h;simp only[Bool.and_eq_true] at h;simpa using h.2
theorem xF {p:Bool} {r:Int} {l:Bool} {f:Int} (h:bU p r l f=true):eY (FE p r l f)=(p,r,l,f,()):=by
 have hb:=yY h;unfold FE;rw[ax h];obtain⟨h1,v,k,w,m⟩:=hb;obtain⟨r,rfl⟩:=IR h1;obtain⟨f,rfl⟩:=IR k;have key: ∀n:Nat,vG p (r:Int) l (f:Int)=(n:Int)->n<18446744073709551616->(n % 2==1)=p->n / 2 % 8=r->(n / 16 % 2==1)=l->n / 32 % 128=0->n / 4096 % 4096=f->n / 16777216 % 1099511627776=0->eY (vG p (r:Int) l (f:Int))=(p,(r:Int),l,(f:Int),()):=by
  intro n e x d g i o j q;have s:(B (vG p (r:Int) l (f:Int))).toNat=n:=by rw[e,Is (by omega) (by omega)];omega
  have ok:ux n=true:=by
   unfold ux;rw[o,q,d,g,i,j,h];decide
  unfold eY HV FF JS Fq;rw[s,ok,d,g,i,j];simp
 cases p with
 |false=>
  obtain⟨a,b,c⟩:=m rfl;subst b;have t:r=0:=by omega
  have u:f=0:=by omega
  subst t;subst u;exact key 0 rfl (by decide) rfl rfl rfl rfl rfl rfl
 |true=>
  have y:nB l<=1:=Oi l;refine key (1+2*r+16*nB l+4096*f) ?_ (by omega) ?_ (by omega) ?_ (by omega) (by omega) (by omega)
  ·unfold vG;have:nB true=1:=rfl;rw[this];omega
  ·have:(1+2*r+16*nB l+4096*f) % 2=1:=by omega
   rw[this];rfl
  ·have:(1+2*r+16*nB l+4096*f) / 16 % 2=nB l:=by omega
   rw[this];cases l<;>rfl
theorem lG (ws:List Int) (a:Int):bU (aN ws a).1 (aN ws a).2.1 (aN ws a).2.2.1 (aN ws a).2.2.2.1=true:=Hs _
theorem dG {f:Int} (h:0<=f/\f<4096):dJ (cv f)=true:=by
 unfold dJ cv fM bU;simp;omega
theorem Ht {f:Int} (h:0<=f/\f<4096):bU true 0 false f=true:=by
 unfold bU;simp;omega
theorem RD {f:Int} (h:0<=f/\f<4096):eY (Tc (cv f))=cv f:=xF (Ht h)
theorem jd {ws:List Int} {i:Int} (h:0<=i) (h':i<ws.length):uy ws i=true:=jc.2 ⟨h,h'⟩
theorem xG {ws:List Int} {a v:Int} (h:uy ws a=true):dL (dO ws a v) a=v:=by
 have hi:=jc.1 h;have b:uy (dO ws a v) a=true:=jc.2 ⟨hi.1,by rw[cF];exact hi.2⟩;unfold dL;rw[ax b];unfold dO;rw[ax h,DG,DU (by omega)];rfl
theorem mH {ws:List Int} {a b v:Int} (h:a≠b):dL (dO ws a v) b=dL ws b:=by
 have e:uy (dO ws a v) b=uy ws b:=by unfold uy;rw[cF]
 unfold dL;rw[e];by_cases hb:uy ws b=true
 ·rw[ax hb,ax hb];unfold dO;split
  ·rename_i c;have h1:=jc.1 c;have d:=jc.1 hb;rw[DG,DG,BT (by omega)]
  ·rfl
 ·rw[ao hb,ao hb]
theorem s_ {ws:List Int} {f:Int} {G:Int->Int} (a:0<=f) (c:16*f+16<=ws.length): ∀n:Nat,n<=16-> ∀b,dL (eZ ws f G n) b=if 16*f<=b/\b<16*f+(n:Int) then G (b - 16*f) else dL ws b
 |0, _,b=>by rw[ao (by omega)];rfl
 |n+1,d,b=>by
  rw[eZ];by_cases e:16*f+(n:Int)=b
  ·subst e;rw[xG (jd (by omega) (by rw[gJ];omega)),ax (by omega)];congr 1;omega
  ·rw[mH e,s_ a c n (by omega) b];by_cases h:16*f<=b/\b<16*f+(n:Int)
   ·rw[ax h,ax (by omega)]
   ·rw[ao h,ao (by omega)]
theorem Et {ds:List DT} (h:0<bu ds 0): ∃i d,ik ds=some i/\i<ds.length/\ds[i]? =some d/\d.1=0:=by
 unfold bu at h;rw[List.countP_pos_iff] at h;obtain⟨a,c,h0⟩:=h;cases b:ik ds with
 |none=>
  unfold ik at b;rw[I1] at b;have:=b a c;rw[this] at h0;cases h0
 |some i=>
  unfold ik at b;rw[Ft] at b;obtain⟨h1,e, _⟩:=b;exact⟨i,ds[i],rfl,h1,Bx h1,by simpa using e⟩
theorem Bm {o:Int} (h:1<=o/\o<=16):aP 3 o zD=((3,o,0,0,()),0):=by
 have e:fS 0 0 0 0 3 o=0:=by
  unfold fS;rw[ao (by decide),ao (by decide),ax (by decide),ao ?_];unfold dT jH;simp;omega
 unfold aP zD mF lq;dsimp only;rw[e];simp
theorem m6 {ds:List DT} {o:Int} (h:0<bu ds 0) (f: ∀d∈ds,d.1=0->d=zD) (b:1<=o/\o<=16): ∃i:Nat,i<ds.length/\ds[i]? =some zD/\fc ds 3 o=(i:Int)/\dC ds 3 o=0/\di ds 3 o=ds.set i (3,o,0,0,()):=by
 obtain⟨i,d,h1,g,a,j⟩:=Et h;have k:d=zD:=f d (C6 a) j;subst k;have c:ds.getD i zD=zD:=by rw[DG,a];rfl
 have e:uz ds (i:Int) (aP 3 o)=0:=by
  rw[yH (by omega)];show(aP 3 o (ds.getD i zD)).2=0;rw[c,Bm b]
 have l:dI ds (i:Int) (aP 3 o)=ds.set i (3,o,0,0,()):=by
  rw[nJ (by omega)];show(if(aP 3 o (ds.getD i zD)).2=0 then ds.set i (aP 3 o (ds.getD i zD)).1 else ds)= _;rw[c,Bm b,ax rfl]
 refine⟨i,g,a,?_,?_,?_⟩
 ·unfold fc;rw[h1];dsimp only;rw[ax e]
 ·unfold dC;rw[ao (by omega),h1];exact e
 ·unfold di;rw[h1];exact l
theorem tc {ds:List DT} {i:Nat} {d d':DT} (h:ds[i]? =some d) (v:Int):bu (ds.set i d') v+(if d.1=v then 1 else 0)=bu ds v+(if d'.1=v then 1 else 0):=by
 have hi:i<ds.length:=(B4.1 h).1;have a:ds=ds.take i++d::ds.drop (i+1):=by
  have:=(HB i ds).symm;rw[FS hi,(B4.1 h).2] at this;exact this
 have b:ds.set i d'=ds.take i++d'::ds.drop (i+1):=by rw[List.set_eq_take_append_cons_drop,ax hi]
 unfold bu;rw[b]
 conv=>rhs;rw[a]
 simp only[List.countP_append,List.countP_cons];by_cases h1:d.1=v<;>by_cases c:d'.1=v<;>simp[h1,c]<;>omega
theorem Eu {o:Int} (h:1<=o/\o<=16):aP 5 0 (3,o,0,0,())=((5,o,0,0,()),0):=by
 have a:dT 3 o 0 0=true:=by unfold dT jH;simp;omega
 have b:dT 5 o 0 0=true:=by unfold dT jH;simp;omega
 have e:fS 3 o 0 0 5 0=0:=by
  unfold fS;rw[a,ao (by decide),ao (by decide),ax (by decide),ax rfl,b,ao (by decide)]
 unfold aP mF lq;dsimp only;rw[e];simp
abbrev Gh:Type:=Int->Option (Int×Nat×Int)
def mB (g:Gh) (f:Int) (v:Option (Int×Nat×Int)):Gh:=λx=>if x=f then v else g x
theorem bK (g:Gh) (f:Int) (v:Option (Int×Nat×Int)):mB g f v f=v:=ax rfl
theorem a6 {g:Gh} {f x:Int} (h:x≠f) (v:Option (Int×Nat×Int)):mB g f v x=g x:=ao h
def lA (l:Nat) (e:ET):Prop:=e.1=true->dJ e=false->(l=0/\e.2.2.1=false)\/(l=1/\e.2.2.1=true/\e.2.2.2.1 % 16=0)
theorem DR (l:Nat):lA l zE:=λh=>by cases h
theorem abe (l:Nat) {e:ET} (h:dJ e=true):lA l e:=λh'=>by grind
structure Inv (g:Gh) (s:WD):Prop where
 len:16*s.2.length<=s.1.length
 le:s.2.length<=4096
 fz: ∀d∈s.2,d.1=0->d=zD
 kd: ∀{f o l x},g f=some (o,l,x)->0<=f/\f<s.2.length/\s.2[f.toNat]? =some (3,o,0,0,())/\1<=o/\o<=16/\l<=3
 inj: ∀{f f' v},g f=some v->g f'=some v->f=f'
 sj: ∀{f o l x i},g f=some (o,l,x)->0<=i->i<16->dJ (aN s.1 (16*f+i))=true-> ∃m,l=m+1/\g (aN s.1 (16*f+i)).2.2.2.1=some (o,m,16*x+i)
 leaf: ∀{f o l x i},g f=some (o,l,x)->0<=i->i<16->lA l (aN s.1 (16*f+i))
 Fu: ∀{f o l x},g f=some (o,l,x)->l<3-> ∃f',g f'=some (o,l+1,x / 16)/\aN s.1 (16*f'+x % 16)=cv f
 wf: ∀{f o l x i},g f=some (o,l,x)->0<=i->i<16->(aN s.1 (16*f+i)).1=false->dL s.1 (16*f+i)=0
 tb: ∀{n:Nat} {d},s.2[n]? =some d->d.1=3-> ∃v,g (n:Int)=some v
def dD (g:Gh) (s:WD) (o p f:Int) (j:Nat):Prop:=g f=some (o,j,px (j+1) p)/\dJ (aN s.1 (16*f+px j p % 16))=false
theorem gg {ws:List Int} {a v b:Int} (h:a≠b):aN (dO ws a v) b=aN ws b:=by grind[aN,mH]
theorem y9 {ws:List Int} {a v:Int} (h:uy ws a=true):aN (dO ws a v) a=eY v:=by grind[aN,xG]
namespace Inv
variable {g:Gh} {s:WD}
theorem vx (I:Inv g s) {f o:Int} {l:Nat} {x:Int} (h:g f=some (o,l,x)):0<=f/\f<4096/\16*f+16<=s.1.length:=by
 have:=I.kd h;have:=I.len;have:=I.le;omega
theorem reach (I:Inv g s) {o r p:Int} (c:g r=some (o,3,0)) (b:0<=p/\p<65536): ∀(n:Nat) {f:Int} {j:Nat},j+n=3->g f=some (o,j,px (j+1) p)-> ∃a,dk s.1 p 3 r=a++dk s.1 p j f
 |0,f,j,d,h=>by
  have:j=3:=by omega
  subst this;rw[XK b] at h;rw[I.inj h c];simp
 |n+1,f,j,d,h=>by
  obtain⟨f',h1,i⟩:=I.Fu h (by omega);have k:=h1;obtain⟨a,u⟩:=I.reach c b n (by omega) k;obtain⟨l,m, _⟩:=I.vx h1;refine⟨a++[(f',(j+1:Int),dW f' p (j+1:Nat),())],?_⟩;have q:j+1<=3:=by omega
  have e:dk s.1 p (j+1) f'=(f',(j+1:Int),dW f' p (j+1:Nat),())::dk s.1 p j f:=by
   rw[dk];have t:aN s.1 (dW f' p (j+1:Nat))=cv f:=by rw[ky ⟨l,m⟩ b q];exact i
   obtain⟨c1,c2, _⟩:=I.vx h;rw[t,ax (dG ⟨c1,c2⟩)];rfl
  grind
theorem aca {ws:List Int} {p f:Int} {j:Nat} (h:dJ (aN ws (dW f p (j:Int)))=false):dk ws p j f=[(f,(j:Int),dW f p (j:Int),())]:=by
 cases j with
 |zero=>rfl
 |succ=>rw[dk,ao (by grind)]
theorem nU (I:Inv g s) {o r p:Int} (e:g r=some (o,3,0)) (b:0<=p/\p<65536) {f:Int} {j:Nat} (h:dD g s o p f j):
 dA s.1 r p=(f,(j:Int),16*f+px j p % 16,())/\da s.1 r p=aN s.1 (16*f+px j p % 16):=by
 have i:=I.kd h.1;obtain⟨k,l, _⟩:=I.vx h.1;obtain⟨a,m⟩:=I.reach e b (3 - j) (by omega) h.1;have c:=ky ⟨k,l⟩ b i.2.2.2.2.2;have d:dA s.1 r p=(f,(j:Int),16*f+px j p % 16,()):=by
  unfold dA;rw[m,aca (by rw[c];exact h.2),c,List.getLastD_concat]
 exact⟨d,by unfold da;rw[d]⟩
theorem O6 (I:Inv g s) {o p:Int}: ∀(l:Nat) {f:Int},g f=some (o,l,px (l+1) p)-> ∃f' j,j<=l/\dD g s o p f' j
 |l,f,h=>by
  cases a:dJ _ with
  |false=>exact⟨f,l,by simp,h,a⟩
  |true=>
   obtain⟨m,rfl,b⟩:=I.sj h (ee p l).1 (ee p l).2 a;rw[<-nT] at b;obtain:=I.O6 m b
   grind
theorem mq (I:Inv g s) {o r p:Int} (a:g r=some (o,3,0)) (b:0<=p/\p<65536): ∃f j,j<=3/\dD g s o p f j:=I.O6 3 (by rw[XK b];exact a)
theorem grow (I:Inv g s) {f o x i:Int} {m:Nat} (r:g f=some (o,m+1,x)) (H_:0<=i) (z4:i<16) (l:dJ (aN s.1 (16*f+i))=false) (hc:0<bu s.2 0) (G:Int->Int)
 (J: ∀k,0<=k->k<16->dJ (eY (G k))=false/\lA m (eY (G k))/\((eY (G k)).1=false->G k=0)):
 rA s o=0/\g (eK s o)=none/\0<=eK s o/\eK s o<s.2.length/\(dN (iW s o G) (16*f+i) (cv (eK s o))).2=s.2.set (eK s o).toNat (3,o,0,0,())/\s.2[(eK s o).toNat]? =some zD/\
 (∀b,b≠16*f+i->(b<16*eK s o\/16*eK s o+16<=b)->aN (dN (iW s o G) (16*f+i) (cv (eK s o))).1 b=aN s.1 b)/\
 (∀k,0<=k->k<16->aN (dN (iW s o G) (16*f+i) (cv (eK s o))).1 (16*eK s o+k)=eY (G k))/\
 aN (dN (iW s o G) (16*f+i) (cv (eK s o))).1 (16*f+i)=cv (eK s o)/\
 Inv (mB g (eK s o) (some (o,m,16*x+i))) (dN (iW s o G) (16*f+i) (cv (eK s o))):=by
 have B:=I.kd r;obtain⟨n,T,M,j,C,N⟩:=m6 hc I.fz ⟨B.2.2.2.1,B.2.2.2.2.1⟩;have O:eK s o=(n:Int):=j;have P:rA s o=0:=C;have U:=I.len;have V:=I.le;have X:16*(n:Int)+16<=s.1.length:=by omega
 obtain⟨W,D⟩: ∃W,W=eZ s.1 (n:Int) G 16:=⟨_,rfl⟩;have Q:W.length=s.1.length:=by rw[D,gJ]
 have Y: ∀b,dL W b=if 16*(n:Int)<=b/\b<16*(n:Int)+16 then G (b - 16*(n:Int)) else dL s.1 b:=λb=>by
  rw[D];exact s_ (by omega) X 16 (B_ _) b
 have Z:iW s o G=(W,s.2.set n (3,o,0,0,())):=by unfold iW;rw[ax P,O,N,D]
 clear D;have gV:=I.vx r;have gn:g (n:Int)=none:=by
  cases hg:g (n:Int) with
  |none=>rfl
  |some v=>
   obtain⟨a,b,c⟩:=v;have:=(I.kd hg).2.2.1;rw[show((n:Int)).toNat=n from rfl,M] at this;cases this
 have E: ∀{f':Int} {v},g f'=some v->f'≠(n:Int):=λh e=>by rw[e,gn] at h;cases h
 have ru:f≠(n:Int):=E r;rw[Z,O];have XL:uy (W) (16*f+i)=true:=jd (by omega) (by rw[Q];omega);have K: ∀b,b≠16*f+i->dL (dO (W) (16*f+i) (Tc (cv (n:Int)))) b=if 16*(n:Int)<=b/\b<16*(n:Int)+16 then G (b - 16*(n:Int)) else dL s.1 b:=λb hb=>by
  rw[mH (λe=>hb e.symm),Y b]
 have w0: ∀b,b≠16*f+i->aN (dO (W) (16*f+i) (Tc (cv (n:Int)))) b=if 16*(n:Int)<=b/\b<16*(n:Int)+16 then eY (G (b - 16*(n:Int))) else aN s.1 b:=λb hb=>by
  unfold aN;rw[K b hb];split<;>rfl
 have w1: ∀b,b≠16*f+i->(b<16*(n:Int)\/16*(n:Int)+16<=b)->aN (dN (W,s.2.set n (3,o,0,0,())) (16*f+i) (cv (n:Int))).1 b=aN s.1 b:=λb hb h=>by
  show aN (dO _ _ _) b= _;rw[w0 b hb,ao (by omega)]
 have F: ∀k,0<=k->k<16->aN (dN (W,s.2.set n (3,o,0,0,())) (16*f+i) (cv (n:Int))).1 (16*(n:Int)+k)=eY (G k):=λk h0 h1=>by
  show aN (dO _ _ _) _= _;rw[w0 _ (by omega),ax (by omega)];congr 2;omega
 have y:aN (dN (W,s.2.set n (3,o,0,0,())) (16*f+i) (cv (n:Int))).1 (16*f+i)=cv (n:Int):=by
  show aN (dO _ _ _) _= _;rw[y9 XL,RD (by omega)]
 refine⟨P,gn,by omega,by omega,rfl,by rw[show((n:Int)).toNat=n from rfl];exact M,w1,F,y,?_⟩;have fQ: ∀{f0 t p k:Int} {u:Nat},g f0=some (t,u,p)->0<=k->k<16->(16*f0+k=16*f+i/\f0=f/\k=i)\/aN (dN (W,s.2.set n (3,o,0,0,())) (16*f+i) (cv (n:Int))).1 (16*f0+k)=aN s.1 (16*f0+k):=λ{f0 t p k u} h h0 h1=>by
  by_cases e:16*f0+k=16*f+i
  ·exact .inl ⟨e,by omega,by omega⟩
  ·have:=E h;exact .inr (w1 _ e (by omega))
 refine⟨?_,?_,?_,?_,?_,?_,?_,?_,?_,?_⟩
 ·show 16*(s.2.set n _).length<=(dO W _ _).length;rw[cF,Q,B3];exact U
 ·show(s.2.set n _).length<=4096;rw[B3];exact V
 ·intro d L h0;rcases Dl L with L|rfl
  ·exact I.fz d L h0
  ·cases h0
 ·intro f0 t u p h;show _/\ _<((s.2.set n (3,o,0,0,())).length:Int)/\(s.2.set n (3,o,0,0,()))[f0.toNat]? = _/\ _;rw[B3];by_cases e:f0=(n:Int)
  ·subst e;rw[bK] at h;cases h;refine⟨by omega,by omega,?_,B.2.2.2.1,B.2.2.2.2.1,by omega⟩;rw[show((n:Int)).toNat=n from rfl,DU T]
  ·rw[a6 e] at h;obtain⟨a1,a2,a3,a4⟩:=I.kd h;refine⟨a1,a2,?_,a4⟩;rw[BT (by omega)];exact a3
 ·intro a b v w hb;by_cases e:a=(n:Int)<;>by_cases e':b=(n:Int)
  ·rw[e,e']
  ·subst e;rw[bK] at w;rw[a6 e'] at hb;cases w;exfalso;obtain⟨f',p1,p2⟩:=I.Fu hb (by omega);have z:(16*x+i) / 16=x:=by omega
   have A:(16*x+i) % 16=i:=by omega
   rw[z] at p1;rw[A] at p2;rw[I.inj p1 r, ] at p2;rw[p2] at l;obtain⟨c1,c2, _⟩:=I.vx hb;rw[dG ⟨c1,c2⟩] at l;cases l
  ·subst e';rw[bK] at hb;rw[a6 e] at w;cases hb;exfalso;obtain⟨f',p1,p2⟩:=I.Fu w (by omega);have z:(16*x+i) / 16=x:=by omega
   have A:(16*x+i) % 16=i:=by omega
   rw[z] at p1;rw[A] at p2;rw[I.inj p1 r, ] at p2;rw[p2] at l;obtain⟨c1,c2, _⟩:=I.vx w;rw[dG ⟨c1,c2⟩] at l;cases l
  ·rw[a6 e] at w;rw[a6 e'] at hb;exact I.inj w hb
 ·intro f0 t u p k h h0 h1 H;by_cases e:f0=(n:Int)
  ·subst e;rw[F k h0 h1,(J k h0 h1).1] at H;cases H
  ·rw[a6 e] at h;rcases fQ h h0 h1 with ⟨j,rfl,rfl⟩|j
   ·rw[j,y];rw[r] at h;cases h;exact⟨m,rfl,bK _ _ _⟩
   ·rw[j] at H ⊢;obtain⟨m',q1,R⟩:=I.sj h h0 h1 H;exact⟨m',q1,by rw[a6 (E R)];exact R⟩
 ·intro f0 t u p k h h0 h1;by_cases e:f0=(n:Int)
  ·subst e;rw[bK] at h;cases h;rw[F k h0 h1];exact(J k h0 h1).2.1
  ·rw[a6 e] at h;rcases fQ h h0 h1 with ⟨j,rfl,rfl⟩|j
   ·rw[j,y];exact abe _ (dG (by omega))
   ·rw[j];exact I.leaf h h0 h1
 ·intro f0 t u p h hl;by_cases e:f0=(n:Int)
  ·subst e;rw[bK] at h;cases h;have z:(16*x+i) / 16=x:=by omega
   have A:(16*x+i) % 16=i:=by omega
   exact⟨f,by rw[a6 ru,z];exact r,by rw[A];exact y⟩
  ·rw[a6 e] at h;obtain⟨f',p1,p2⟩:=I.Fu h hl;refine⟨f',by rw[a6 (E p1)];exact p1,?_⟩;rcases fQ p1 (by omega:0<=p % 16) (by omega) with ⟨j,rfl,N⟩|j
   ·exfalso;rw[j] at p2;rw[p2] at l;obtain⟨c1,c2, _⟩:=I.vx h;rw[dG ⟨c1,c2⟩] at l;cases l
   ·rw[j];exact p2
 ·intro f0 t u p k h h0 h1 q;by_cases e:f0=(n:Int)
  ·subst e;rw[F k h0 h1] at q;show dL (dO _ _ _) _=0;rw[K _ (by omega),ax (by omega),show 16*(n:Int)+k - 16*(n:Int)=k from by omega];exact(J k h0 h1).2.2 q
  ·rw[a6 e] at h;rcases fQ h h0 h1 with ⟨j,rfl,rfl⟩|j
   ·rw[j,y] at q;cases q
   ·rw[j] at q;have hb:16*f0+k≠16*f+i:=λC=>by
     rw[C,y] at j;rw[C, <-j] at q;cases q
    show dL (dO _ _ _) _=0;rw[K _ hb,ao (by omega)];exact I.wf h h0 h1 q
 ·intro S d rz h3;by_cases e:S=n
  ·subst e;exact⟨_,bK _ _ _⟩
  ·have h':(s.2.set n (3,o,0,0,()))[S]? =some d:=rz;rw[BT (by omega)] at h';obtain⟨v,hv⟩:=I.tb h' h3;exact⟨v,by rw[a6 (by omega)];exact hv⟩
theorem Vs (I:Inv g s) {f o x i v:Int} {l:Nat} (t:g f=some (o,l,x)) (z:0<=i) (A:i<16) (d:dJ (aN s.1 (16*f+i))=false) (hv:dJ (eY v)=false) (q:lA l (eY v)) (u:(eY v).1=false->v=0):
 aN (dO s.1 (16*f+i) v) (16*f+i)=eY v/\Inv g (dO s.1 (16*f+i) v,s.2):=by
 have B:=I.vx t;have r:uy s.1 (16*f+i)=true:=jd (by omega) (by omega);have j:=y9 (v:=v) r;have fQ: ∀{f0 k:Int},0<=k->k<16->(16*f0+k=16*f+i/\f0=f/\k=i)\/aN (dO s.1 (16*f+i) v) (16*f0+k)=aN s.1 (16*f0+k):=λ{f0 k} h0 h1=>by
  by_cases e:16*f0+k=16*f+i
  grind
  ·exact .inr (gg (λe'=>e e'.symm))
 refine⟨j,by rw[cF];exact I.len,I.le,I.fz,I.kd,I.inj,?_,?_,?_,?_,I.tb⟩
 ·intro f0 m n b k h h0 h1 p;rcases fQ (f0:=f0) h0 h1 with ⟨a,rfl,rfl⟩|a
  ·rw[j,hv] at p;cases p
  ·have w:dJ (aN s.1 (16*f0+k))=true:=by rw[<-a];exact p
   rw[a];exact I.sj h h0 h1 w
 ·intro f0 m n b k h h0 h1;rcases fQ (f0:=f0) h0 h1 with ⟨a,rfl,rfl⟩|a
  grind
  ·rw[a];exact I.leaf h h0 h1
 ·intro f0 m n b h q;obtain⟨f',p1,p2⟩:=I.Fu h q;refine⟨f',p1,?_⟩;rcases fQ (f0:=f') (by omega:0<=b % 16) (by omega) with ⟨a,rfl,C⟩|a
  ·exfalso;rw[a] at p2;rw[p2] at d;obtain⟨c1,c2, _⟩:=I.vx h;rw[dG ⟨c1,c2⟩] at d;cases d
  ·rw[a];exact p2
 ·intro f0 m n b k h h0 h1 y;have c:=y;by_cases e:16*f0+k=16*f+i
  ·rw[e,j] at c;rw[e,xG r];exact u c
  ·rw[gg (λe'=>e e'.symm)] at c;rw[mH (λe'=>e e'.symm)];exact I.wf h h0 h1 c
theorem abf (I:Inv g s) {f o x i f2:Int} {m:Nat} (u:g f=some (o,m+1,x)) (W:0<=i) (X:i<16) (B:g f2=some (o,m,16*x+i)) (K:aN s.1 (16*f+i)=cv f2) (L: ∀k,0<=k->k<16->aN s.1 (16*f2+k)=zE):
 aN (dO s.1 (16*f+i) 0) (16*f+i)=zE/\dI s.2 f2 (aP 5 0)=s.2.set f2.toNat (5,o,0,0,())/\Inv (mB g f2 none) (dO s.1 (16*f+i) 0,dI s.2 f2 (aP 5 0)):=by
 have Y:=I.vx u;have C:=I.kd u;have w:=I.kd B;have D:uy s.1 (16*f+i)=true:=jd (by omega) (by omega);have q:aN (dO s.1 (16*f+i) 0) (16*f+i)=zE:=by rw[y9 D];exact pA
 have E:dI s.2 f2 (aP 5 0)=s.2.set f2.toNat (5,o,0,0,()):=by
  rw[nJ ⟨w.1,w.2.1⟩,DG,w.2.2.1];show(if(aP 5 0 (3,o,0,0,())).2=0 then s.2.set f2.toNat (aP 5 0 (3,o,0,0,())).1 else _)= _;rw[Eu ⟨C.2.2.2.1,C.2.2.2.2.1⟩,ax rfl]
 have j: ∀{f0 v},mB g f2 none f0=some v->f0≠f2/\g f0=some v:=λ{f0 v} h=>by
  by_cases e:f0=f2
  ·rw[e,bK] at h;cases h
  ·rw[a6 e] at h;exact⟨e,h⟩
 have fQ: ∀{f0 k:Int},0<=k->k<16->(16*f0+k=16*f+i/\f0=f/\k=i)\/aN (dO s.1 (16*f+i) 0) (16*f0+k)=aN s.1 (16*f0+k):=λ{f0 k} h0 h1=>by
  by_cases e:16*f0+k=16*f+i
  ·exact .inl ⟨e,by omega,by omega⟩
  ·exact .inr (gg (λe'=>e e'.symm))
 refine⟨q,E,?_⟩;rw[E];refine⟨?_,?_,?_,?_,?_,?_,?_,?_,?_,?_⟩
 ·show 16*(s.2.set _ _).length<=(dO _ _ _).length;rw[cF,B3];exact I.len
 ·show(s.2.set _ _).length<=4096;rw[B3];exact I.le
 ·intro d y h0;rcases Dl y with y|rfl
  ·exact I.fz d y h0
  ·cases h0
 ·intro f0 r n l h;obtain⟨p,h⟩:=j h;rw[B3];obtain⟨a1,F,M,Z⟩:=I.kd h
  grind
 ·intro a b v N hb;exact I.inj (j N).2 (j hb).2
 ·intro f0 r n l k h h0 h1 z;obtain⟨p,h⟩:=j h;rcases fQ (f0:=f0) h0 h1 with ⟨c,rfl,rfl⟩|c
  ·rw[q] at z;cases z
  ·have A:dJ (aN s.1 (16*f0+k))=true:=by rw[<-c];exact z
   rw[c];obtain⟨O,G,t⟩:=I.sj h h0 h1 A;refine⟨O,G,?_⟩;rw[a6]
   ·exact t
   ·intro e;rw[e,B] at t;simp only[BN,B5] at t;obtain⟨a1,F,M⟩:=t;have P:k=i:=by omega
    have Q:l=x:=by omega
    subst P;subst Q;subst a1;subst F;subst G;have:=I.inj h u;subst this;rw[q] at c;rw[<-c] at A;cases A
 ·intro f0 r n l k h h0 h1;obtain⟨p,h⟩:=j h;show lA n (aN (dO s.1 (16*f+i) 0) (16*f0+k));rcases fQ (f0:=f0) h0 h1 with ⟨c,rfl,rfl⟩|c
  ·rw[q];exact DR _
  ·rw[c];exact I.leaf h h0 h1
 ·intro f0 r n l h R;obtain⟨p,h⟩:=j h;obtain⟨f',p1,p2⟩:=I.Fu h R;have S:f'≠f2:=λe=>by
   rw[e,L _ (by omega) (by omega)] at p2;cases p2
  refine⟨f',by rw[a6 S];exact p1,?_⟩;show aN (dO s.1 (16*f+i) 0) (16*f'+l % 16)= _;rcases fQ (f0:=f') (by omega:0<=l % 16) (by omega) with ⟨c,rfl,e3⟩|c
  ·exfalso;rw[c,K] at p2;unfold cv at p2;simp only[B5,and_true,true_and] at p2;exact p p2.symm
  ·rw[c];exact p2
 ·intro f0 r n l k h h0 h1 T;obtain⟨p,h⟩:=j h;show dL (dO s.1 (16*f+i) 0) (16*f0+k)=0;have H:(aN (dO s.1 (16*f+i) 0) (16*f0+k)).1=false:=T;by_cases e:16*f0+k=16*f+i
  ·rw[e,xG D]
  ·rw[gg (λe'=>e e'.symm)] at H;rw[mH (λe'=>e e'.symm)];exact I.wf h h0 h1 H
 ·intro J d U V;have h':(s.2.set f2.toNat (5,o,0,0,()))[J]? =some d:=U;by_cases e:J=f2.toNat
  grind
  ·rw[BT (by omega)] at h';obtain⟨v,hv⟩:=I.tb h' V;exact⟨v,by rw[a6 (by omega)];exact hv⟩
end Inv
set_option maxRecDepth 100000
open Go.RX D
def l_ (p:Int) (j:Nat) (e:ET):Int×Int×Int×Unit:=if e.1=true then(if j=1 then e.2.2.2.1+p % 16 else e.2.2.2.1,e.2.1,0,()) else(0,0,4,())
theorem F3 (p:Int) (j:Nat) {e:ET} (h:e.1=false):l_ p j e=(0,0,4,()):=by grind[l_]
def mI (g g':Gh):Prop:= ∀o r x,g' r=some (o,3,x)<->g r=some (o,3,x)
theorem mI.refl (g:Gh):mI g g:=λ_ _ _=>Iff.rfl
theorem mI.trans {a b c:Gh} (h:mI a b) (k:mI b c):mI a c:=λo r x=>(k o r x).trans (h o r x)
theorem mI.to {g g':Gh} {o r x:Int} (h:mI g g') (k:g r=some (o,3,x)):g' r=some (o,3,x):=(h _ _ _).2 k
def An (o:Int) (g g':Gh) (s s':WD):Prop:= ∀ ⦃f o' l x⦄,o'≠o->g f=some (o',l,x)->g' f=some (o',l,x)/\ ∀k,0<=k->k<16->aN s'.1 (16*f+k)=aN s.1 (16*f+k)
theorem An.refl (o:Int) (g:Gh) (s:WD):An o g g s s:=λ_ _ _ _ _ h=>⟨h,λ_ _ _=>rfl⟩
theorem An.trans {o:Int} {a b c:Gh} {s t u:WD} (h:An o a b s t) (k:An o b c t u):An o a c s u:=λ_ _ _ _ d e=>by
 obtain⟨h1⟩:=h d e;obtain:=k d h1
 grind
def sS (P:Int->Int->Prop) (g g':Gh) (s s':WD):Prop:= ∀ ⦃o p f j⦄,¬ P o p->dD g s o p f j-> ∃f' a,dD g' s' o p f' a/\l_ p a (aN s'.1 (16*f'+px a p % 16))=l_ p j (aN s.1 (16*f+px j p % 16))
theorem sS.refl (P:Int->Int->Prop) (g:Gh) (s:WD):sS P g g s s:=λ_ _ _ _ _ h=>⟨_, _,h,rfl⟩
theorem sS.trans {P:Int->Int->Prop} {a b c:Gh} {s t u:WD} (h:sS P a b s t) (k:sS P b c t u):sS P a c s u:=λ_ _ _ _ d e=>by
 obtain⟨f1,j1,h1,f⟩:=h d e;obtain:=k d h1
 grind
theorem sS.mono {P c:Int->Int->Prop} {a b:Gh} {s t:WD} (h:sS P a b s t) (e: ∀o p,P o p->c o p):sS c a b s t:=λ_ _ _ _ f d=>h (by grind) d
def XN:Int->Int->Prop:=λ_ _=>False
def ow (o:Int) (l:Nat) (p:Int):Int->Int->Prop:=λo' q=>o'=o/\px l q=px l p
namespace Inv
variable {g:Gh} {s:WD}
theorem fO (I:Inv g s) {o r p:Int} (a:g r=some (o,3,0)) (b:0<=p/\p<65536) {f:Int} {j:Nat} (h:dD g s o p f j):bC s r false p=l_ p j (aN s.1 (16*f+px j p % 16)):=by
 obtain:=I.nU a b h;unfold bC l_;unfold qD
 grind
theorem y_ (I:Inv g s) {g':Gh} {s':WD} (c:Inv g' s') {P:Int->Int->Prop} (d:sS P g g' s s') (i:mI g g') {o r p:Int} (a:g r=some (o,3,0)) (k: ¬ P o p):bC s' r false p=bC s r false p:=by
 by_cases h:0<=p/\p<65536
 ·obtain⟨f,j, _,b⟩:=I.mq a h;obtain⟨f',m,h1,l⟩:=d k b;rw[I.fO a h b,c.fO (i.to a) h h1,l]
 ·have e: ∀t,bC t r false p=(0,0,2,()):=λt=>by
   unfold bC
   grind
  grind
theorem Ev (I:Inv g s) {f o x i:Int} {m:Nat} (b:g f=some (o,m+1,x)) (w:0<=i) (y:i<16) (z:dJ (aN s.1 (16*f+i))=false) (hc:0<bu s.2 0) (G:Int->Int)
 (d: ∀k,0<=k->k<16->dJ (eY (G k))=false/\lA m (eY (G k))/\((eY (G k)).1=false->G k=0))
 (J: ∀p,0<=px m p % 16->px (m+1) p % 16=i->l_ p m (eY (G (px m p % 16)))=l_ p (m+1) (aN s.1 (16*f+i))):
 let n:=eK s o
 let s':=dN (iW s o G) (16*f+i) (cv n)
 let g':=mB g n (some (o,m,16*x+i))
 rA s o=0/\Inv g' s'/\mI g g'/\An o g g' s s'/\sS XN g g' s s'/\s'.2=s.2.set n.toNat (3,o,0,0,())/\s.2[n.toNat]? =some zD/\
 (∀p,dD g s o p f (m+1)->px (m+1) p % 16=i->dD g' s' o p n m/\aN s'.1 (16*n+px m p % 16)=eY (G (px m p % 16)))/\0<=n/\n<4096:=by
 obtain⟨A,q,B,K,C,D,r,E,L,F⟩:=I.grow b w y z hc G d;dsimp only;have c: ∀{f':Int} {v},g f'=some v->f'≠eK s o:=λh e=>by rw[e,q] at h;cases h
 have BS: ∀p,dD g s o p f (m+1)->px (m+1) p % 16=i->dD (mB g (eK s o) (some (o,m,16*x+i))) (dN (iW s o G) (16*f+i) (cv (eK s o))) o p (eK s o) m/\aN _ (16*eK s o+px m p % 16)=eY (G (px m p % 16)):=λp a t=>by
  have e:=E (px m p % 16) (ee p m).1 (ee p m).2;refine⟨⟨?_,by rw[e];exact(d _ (ee p m).1 (ee p m).2).1⟩,e⟩;rw[bK];have h1:=a.1;rw[b] at h1;simp only[BN,B5,true_and] at h1;rw[h1, <-t, <-nT]
 refine⟨A,F,λo' r' x'=>?_,λ⦃f0 o' l M⦄ H h=>⟨?_,λk h0 h1=>?_⟩,λ⦃o' p f' j⦄ _ a=>?_,C,D,BS,B,by have:=I.le;omega⟩
 ·by_cases e:r'=eK s o
  ·rw[e,bK,q];refine⟨λh=>?_,λh=>by cases h⟩;have:=(I.kd b).2.2.2.2.2;simp only[BN,B5] at h;omega
  ·rw[a6 e]
 ·rw[a6 (c h)];exact h
 ·have:=c h;refine r _ (λe=>?_) (by omega);have:f0=f:=by omega
  subst this;rw[b] at h;cases h;exact H rfl
 ·by_cases u:f'=f/\px j p % 16=i
  ·obtain⟨rfl,t⟩:=u;have h1:=a.1;rw[b] at h1
   grind
  ·have e:aN (dN (iW s o G) (16*f+i) (cv (eK s o))).1 (16*f'+px j p % 16)=aN s.1 (16*f'+px j p % 16):=by
    have:=c a.1;have:=ee p j;refine r _ (λe=>u ?_) (by omega);omega
   refine⟨f',j,⟨by rw[a6 (c a.1)];exact a.1,by rw[e];exact a.2⟩,by rw[e]⟩
theorem za (I:Inv g s) {f o x i v:Int} {l:Nat} (b:g f=some (o,l,x)) (n:0<=i) (r:i<16) (m:dJ (aN s.1 (16*f+i))=false) (hv:dJ (eY v)=false) (t:lA l (eY v)) (u:(eY v).1=false->v=0) {q:Int} (w:dD g s o q f l) (y:px l q % 16=i):
 Inv g (dO s.1 (16*f+i) v,s.2)/\An o g g s (dO s.1 (16*f+i) v,s.2)/\sS (ow o l q) g g s (dO s.1 (16*f+i) v,s.2)/\
 (∀p,px l p=px l q->dD g (dO s.1 (16*f+i) v,s.2) o p f l/\dD g s o p f l)/\aN (dO s.1 (16*f+i) v) (16*f+i)=eY v:=by
 obtain⟨z,A⟩:=I.Vs b n r m hv t u;have c:=w.1;rw[b] at c;simp only[BN,B5,true_and] at c;refine⟨A,λ⦃f0 o' E F⦄ B h=>⟨h,λk h0 h1=>?_⟩,λ⦃o' p f' j⦄ a d=>?_,λp a=>?_,z⟩
 ·refine gg (λe=>B ?_)
  grind
 ·have e:aN (dO s.1 (16*f+i) v) (16*f'+px j p % 16)=aN s.1 (16*f'+px j p % 16):=by
   refine gg (λe=>a ?_);have:f'=f:=by omega
   subst this;have h1:=d.1;rw[b] at h1;simp only[BN,B5] at h1;obtain⟨rfl,rfl,C⟩:=h1;refine⟨rfl,?_⟩;rw[nT p,nT q, <-C, <-c];omega
  exact⟨f',j,⟨d.1,by rw[e];exact d.2⟩,by grind⟩
 ·have h1:px (l+1) p=px (l+1) q:=by simp only[px];rw[a]
  have D:px l p % 16=i:=by rw[a];exact y
  refine⟨⟨by grind,?_⟩,⟨by grind,by rw[D];exact m⟩⟩
  grind
theorem L3 (I:Inv g s) {f o x i f2:Int} {m:Nat} (b:g f=some (o,m+1,x)) (v:0<=i) (w:i<16) (a:g f2=some (o,m,16*x+i)) (q:aN s.1 (16*f+i)=cv f2) (r: ∀k,0<=k->k<16->aN s.1 (16*f2+k)=zE):
 let s':WD:=(dO s.1 (16*f+i) 0,dI s.2 f2 (aP 5 0))
 let g':=mB g f2 none
 Inv g' s'/\mI g g'/\An o g g' s s'/\sS XN g g' s s'/\s'.2=s.2.set f2.toNat (5,o,0,0,())/\s.2[f2.toNat]? =some (3,o,0,0,())/\(∀p,dD g s o p f2 m->dD g' s' o p f (m+1))/\aN s'.1 (16*f+i)=zE:=by
 obtain⟨c,y,z⟩:=I.abf b v w a q r;dsimp only;have t:=I.vx a;have A:f≠f2:=λe=>by
  subst e;rw[b] at a;simp at a
 have B:dJ (aN s.1 (16*f+i))=true:=by rw[q];exact dG ⟨t.1,t.2.1⟩
 have BS: ∀p,dD g s o p f2 m->dD (mB g f2 none) (dO s.1 (16*f+i) 0,dI s.2 f2 (aP 5 0)) o p f (m+1)/\px (m+1) p % 16=i:=λp h=>by
  have h1:=h.1;rw[a] at h1;simp only[BN,B5,true_and] at h1;have d:=nT p (m+1);have F:=ee p (m+1);have n:px (m+1+1) p=x:=by omega
  have u:px (m+1) p % 16=i:=by omega
  refine⟨⟨by rw[a6 A,n];exact b,?_⟩,u⟩;rw[u,c];exact J7
 refine⟨z,λo' r' x'=>?_,λ⦃f0 o' l G⦄ C h=>⟨?_,λk h0 h1=>?_⟩,λ⦃o' p f' j⦄ _ h=>?_,y,(I.kd a).2.2.1,λp h=>(BS p h).1,c⟩
 ·by_cases e:r'=f2
  ·subst e;rw[bK,a];refine⟨λh=>(by cases h),λh=>?_⟩;simp only[BN,B5] at h;have:=(I.kd b).2.2.2.2.2;omega
  ·rw[a6 e]
 ·rw[a6]
  ·exact h
  grind
 ·refine gg (λe=>C ?_);have:f0=f:=by omega
  grind
 ·by_cases e:f'=f2
  ·subst e;have h1:=h.1;rw[a] at h1;simp only[BN,B5] at h1;obtain⟨rfl,rfl,h1⟩:=h1;obtain⟨D,E⟩:=BS p h;refine⟨_, _,D,?_⟩;rw[E,c,r _ (ee p m).1 (ee p m).2,F3 _ _ rfl,F3 _ _ rfl]
  ·have n:aN (dO s.1 (16*f+i) 0) (16*f'+px j p % 16)=aN s.1 (16*f'+px j p % 16):=by
    refine gg (λe=>?_);have d:=h.2;rw[<-e,B] at d;cases d
   refine⟨f',j,⟨by rw[a6 e];exact h.1,?_⟩,?_⟩
   ·rw[n];exact h.2
   grind
end Inv
set_option maxRecDepth 100000
open Go.RX D
structure Kept (s s':WD):Prop where
 ks5: ∀{n:Nat} {d:DT},s.2[n]? =some d->d.1=4\/d.1=5->s'.2[n]? =some d
 ws5: ∀{n:Nat} {d:DT},s.2[n]? =some d->d.1=4\/d.1=5-> ∀k:Int,0<=k->k<16->dL s'.1 (16*(n:Int)+k)=dL s.1 (16*(n:Int)+k)
 nw: ∀{n:Nat} {d:DT},s'.2[n]? =some d->s.2[n]? =some d\/((d.1=3\/d.1=5)/\d.2.2=(0,0,())/\1<=d.2.1/\d.2.1<=16)
theorem Kept.ks {s s':WD} (K:Kept s s') {n:Nat} {d:DT} (h:s.2[n]? =some d) (a:d.1=4):s'.2[n]? =some d:=K.ks5 h (.inl a)
theorem Kept.ws {s s':WD} (K:Kept s s') {n:Nat} {d:DT} (h:s.2[n]? =some d) (a:d.1=4) (k:Int) (k0:0<=k) (b:k<16):dL s'.1 (16*(n:Int)+k)=dL s.1 (16*(n:Int)+k):=K.ws5 h (.inl a) k k0 b
theorem Kept.refl (s:WD):Kept s s:=⟨λh _=>h,by simp,λh=> .inl h⟩
theorem Kept.trans {s t u:WD} (h:Kept s t) (k:Kept t u):Kept s u:=
 ⟨λh1 a=>k.ks5 (h.ks5 h1 a) a,λh1 a i i0 i1=>(k.ws5 (h.ks5 h1 a) a i i0 i1).trans (h.ws5 h1 a i i0 i1),λh1=>(k.nw h1).elim h.nw .inr⟩
theorem Kept.set {s:WD} {W:List Int} {n:Nat} {d0 d1:DT} (h0:s.2[n]? =some d0) (c:d0.1≠4/\d0.1≠5) (h1:(d1.1=3\/d1.1=5)/\d1.2.2=(0,0,())/\1<=d1.2.1/\d1.2.1<=16) (b: ∀{m:Nat} {d:DT},s.2[m]? =some d->d.1=4\/d.1=5-> ∀k:Int,0<=k->k<16->dL W (16*(m:Int)+k)=dL s.1 (16*(m:Int)+k)):Kept s (W,s.2.set n d1):=by
 refine⟨λ{m d} a f=>?_,b,λ{m d} a=>?_⟩
 ·have e:n≠m:=λe=>by grind
  rw[BT e];exact a
 grind
def iM (s:WD) (f:Int):Prop:=0<=f/\ ∃d,s.2[f.toNat]? =some d/\d.1=5/\ ∀k:Int,0<=k->k<16->dL s.1 (16*f+k)=0
theorem iM.kept {s s':WD} {f:Int} (h:iM s f) (K:Kept s s'):iM s' f:=by
 obtain⟨h0,d,h1,a,b⟩:=h;refine⟨h0,d,K.ks5 h1 (.inr a),a,λk k0 c=>?_⟩;have:=K.ws5 h1
 grind
theorem Inv.off {g:Gh} {s:WD} (I:Inv g s) {f o x i:Int} {l:Nat} (a:g f=some (o,l,x)) (h0:0<=i) (h1:i<16) {n:Nat} {d:DT} (b:s.2[n]? =some d) (c:d.1=4\/d.1=5) {k:Int} (k0:0<=k) (e:k<16):16*f+i≠16*(n:Int)+k:=by
 have h:=I.kd a
 grind
theorem Inv.CC {g:Gh} {s:WD} (I:Inv g s) {f o x i:Int} {l:Nat} (a:g f=some (o,l,x)) (h0:0<=i) (h1:i<16) (v:Int):Kept s (dO s.1 (16*f+i) v,s.2):=
 ⟨λh _=>h,λb c k k0 d=>by exact mH (I.off a h0 h1 b c k0 d),λh=> .inl h⟩
theorem Inv.Bo {g:Gh} {s:WD} (I:Inv g s) {f o x i:Int} {m:Nat} (h:g f=some (o,m+1,x)) (r:0<=i) (t:i<16) (hc:0<bu s.2 0) (G:Int->Int) (e:ET):Kept s (dN (iW s o G) (16*f+i) e):=by
 have j:=I.kd h;obtain⟨n,B,l,u,v,C⟩:=m6 hc I.fz ⟨j.2.2.2.1,j.2.2.2.2.1⟩;have D:eK s o=n:=u;have E:rA s o=0:=v;have F:=I.len;have w:16*(n:Int)+16<=s.1.length:=by omega
 have p:iW s o G=(eZ s.1 n G 16,s.2.set n (3,o,0,0,())):=by unfold iW;grind
 obtain⟨W,a⟩: ∃W,W=eZ s.1 n G 16:=⟨_,rfl⟩;have y: ∀b,dL W b=if 16*n<=b/\b<16*n+16 then G _ else dL s.1 b:=λb=>by
  rw[a];exact s_ (by omega) w 16 (by grind) b
 rw[<-a] at p;clear a;have z:dN (W,s.2.set n (3,o,0,0,())) _ e=(dO W (16*f+i) (Tc e),s.2.set n _):=rfl;rw[p,z];refine Kept.set l (by decide) (by grind) λ{m d} c q k k0 A=>?_;have H:n≠m:=λe=>by subst e;rw[l] at c;cases c;exact absurd q (by decide)
 rw[mH (I.off h r t c q k0 A),y,ao (by omega)]
def Ad (g:Gh) (s:WD):Prop:= ∀ ⦃f o l x i⦄,g f=some (o,l,x)->0<=i->i<16->(aN s.1 (16*f+i)).1=true->dJ (aN s.1 (16*f+i))=false->l=0
theorem Ad.upd {g:Gh} {s s':WD} (h:Ad g s) {f o x i:Int} {l:Nat} (n:g f=some (o,l,x)) (h0:0<=i) (h1:i<16) (d: ∀b,b≠16*f+i->aN s'.1 b=aN s.1 b)
 (p:(aN s'.1 (16*f+i)).1=true->dJ (aN s'.1 (16*f+i))=false->l=0):Ad g s':=λf2 q r t k j k0 m a c=>by
 by_cases e:16*f2+k=16*f+i
 grind
 ·rw[d _ e] at a c;exact h j k0 m a c
theorem Ad.grow {g:Gh} {s s':WD} (h:Ad g s) {f i F o x a:Int} {m:Nat} (l: ∀b,b≠a->(b<16*F\/16*F+16<=b)->aN s'.1 b=aN s.1 b)
 (q: ∀k,0<=k->k<16->(aN s'.1 (16*F+k)).1=true->m=0) (r:dJ (aN s'.1 a)=true):Ad (mB g F (some (o,m,x))) s':=λf2 t u v k c k0 n d j=>by
 by_cases e:f2=F
 ·subst e;rw[bK] at c
  grind
 ·rw[a6 e] at c;by_cases p:16*f2+k=a
  grind
  ·rw[l _ p (by omega)] at d j;exact h c k0 n d j
theorem Ad.del {g:Gh} {s:WD} (h:Ad g s) (F:Int):Ad (mB g F none) s:=λf2 f i j k a k0 b c d=>by
 by_cases e:f2=F
 ·subst e;rw[bK] at a;grind
 ·rw[a6 e] at a;exact h a k0 b c d
def Yz (P:Int->Int->Prop):Prop:= ∀o q a,P o q->P o a->q=a
theorem O7 (l:Nat) (p:Int):px (l+1) p=px l (p / 16):=by
 induction l with
 |zero=>rfl
 |succ l a=>rw[px,a];rfl
theorem Yz.lv {o p:Int} {lv:Nat} (h:Yz (λo' q=>o'=o/\px lv q=px lv p)):lv=0:=by
 cases lv with
 |zero=>rfl
 |succ=>
  have a:(16*(p / 16)+(p % 16+1) % 16) / 16=p / 16:=by omega
  have:=h o p (16*(p / 16)+(p % 16+1) % 16) (by grind) ⟨rfl,by rw[O7,O7,a]⟩;omega
structure sH (P:Int->Int->Prop) (o:Int) (g g':Gh) (s s':WD):Prop where
 inv:Inv g' s'
 root:mI g g'
 TS:An o g g' s s'
 Dx:sS P g g' s s'
 kk: ∀{n:Nat} {d:DT},s.2[n]? =some d->d.1=3\/d.1=5-> ∃d':DT,s'.2[n]? =some d'/\(d'.1=5\/(d'.1=3/\d.1=3))
 len:s'.1.length=s.1.length/\s'.2.length=s.2.length
 kp:Kept s s'
 lg:Yz P->Ad g s->Ad g' s'
 gk: ∀{f:Int} {v:Int×Nat×Int},g f=some v->g' f=some v\/iM s' f
theorem sH.refl {g:Gh} {s:WD} (I:Inv g s) (P:Int->Int->Prop) (o:Int):sH P o g g s s:=
 ⟨I,.refl g,.refl o g s,.refl P g s,by grind,by simp,.refl s,λ_ h=>h,λh=> .inl h⟩
theorem sH.trans {P:Int->Int->Prop} {o:Int} {a b c:Gh} {s t u:WD} (h:sH P o a b s t) (k:sH P o b c t u):sH P o a c s u where
 inv:=k.inv
 root:=h.root.trans k.root
 TS:=h.TS.trans k.TS
 Dx:=h.Dx.trans k.Dx
 kk:=λd f=>by
  obtain⟨d1,h1,g⟩:=h.kk d f;obtain:=k.kk h1
  grind
 len:=⟨k.len.1.trans h.len.1,k.len.2.trans h.len.2⟩
 kp:=h.kp.trans k.kp
 lg:=λo n=>k.lg o (h.lg o n)
 gk:=λh1=>(h.gk h1).elim (λe=>k.gk e) λe=> .inr (e.kept k.kp)
theorem sH.mono {P d:Int->Int->Prop} {o:Int} {a b:Gh} {s t:WD} (h:sH P o a b s t) (c: ∀o p,P o p->d o p):sH d o a b s t:=⟨h.inv,h.root,h.TS,h.Dx.mono c,h.kk,h.len,h.kp,λo1 n=>h.lg (λo q e a b=>o1 o q e (c _ _ a) (c _ _ b)) n,h.gk⟩
theorem O8 {ds:List DT} {i:Nat} {d0 d1:DT} (h0:ds[i]? =some d0) (a:d0.1=3\/d0.1=5->d1.1=5) {n:Nat} {d:DT} (h:ds[n]? =some d) (k:d.1=3\/d.1=5): ∃d':DT,(ds.set i d1)[n]? =some d'/\(d'.1=5\/(d'.1=3/\d.1=3)):=by
 grind
theorem xH (s:WD) (o:Int) (G:Int->Int) (i:Int) (e:ET):(dN (iW s o G) i e).1.length=s.1.length:=by grind[dN,iW,cF,gJ]
def Dk (g:Gh) (s:WD) (e:Option Int):Prop:= ∀ ⦃f o l x⦄,g f=some (o,l,x)->l<3->some f≠e-> ∃k,0<=k/\k<16/\(aN s.1 (16*f+k)).1=true
theorem Dk.some {g:Gh} {s:WD} (h:Dk g s none) (f:Int):Dk g s (some f):=λ_ _ _ _ a b _=>h a b (by simp)
namespace Inv
variable {g:Gh} {s:WD}
theorem down {o p:Int} (b:0<=p/\p<65536) (lv:Nat): ∀(n:Nat) {g:Gh} {s:WD} {f:Int},Inv g s->dD g s o p f (lv+n)->(aN s.1 (16*f+px (lv+n) p % 16)).1=false->n<=bu s.2 0->
 ∃g' s' f',qS o p n (s,(f,((lv+n:Nat):Int),16*f+px (lv+n) p % 16,()))=(s',(f',(lv:Int),16*f'+px lv p % 16,()))/\sH XN o g g' s s'/\dD g' s' o p f' lv/\(aN s'.1 (16*f'+px lv p % 16)).1=false/\bu s'.2 0+n=bu s.2 0/\(Dk g s (some f)->Dk g' s' (some f'))
 |0,g,s,f,I,a,c, _=>⟨g,s,f,rfl,.refl I _ _,a,c,rfl,λh=>h⟩
 |n+1,g,s,f,I,a,c,hc=>by
  have w:=I.kd a.1;have x:lv+n<=3:=by have:=w.2.2.2.2.2;omega
  have hi:=ee p (lv+n+1);obtain⟨Z,j,y,z,A,l,q,B,C,D⟩:=I.Ev (m:=lv+n) a.1 hi.1 hi.2 a.2 (by omega) (λ_=>0) (λk _ _=>by
   rw[pA];exact⟨J7,DR _,λ_=>rfl⟩) (λp' _ nf=>by
   rw[pA,F3 _ _ rfl,F3];exact c)
  obtain⟨E,F⟩:=B p a rfl;have r:0<=eK s o/\eK s o<4096:=⟨C,D⟩;have G:=tc (d':=(3,o,0,0,())) q 0;have NA:bu (dN (iW s o λ_=>0) (16*f+px (lv+n+1) p % 16) (cv (eK s o))).2 0+1=bu s.2 0:=by
   rw[l];simpa[zD] using G
  obtain⟨_,u1, _, _, _, _,t,H,u, _⟩:=I.grow (m:=lv+n) a.1 hi.1 hi.2 a.2 (by omega) (λ_=>0) (λk _ _=>by
   rw[pA];exact⟨J7,DR _,λ_=>rfl⟩)
  have J:sH XN o g _ s (dN (iW s o λ_=>0) (16*f+px (lv+n+1) p % 16) (cv (eK s o))):=
   ⟨j,y,z,A,by grind,⟨xH _ _ _ _ _,by rw[l,B3]⟩,I.Bo (m:=lv+n) a.1 hi.1 hi.2 (by omega) _ _,λ_ nl=>nl.grow (f:=f) (i:=0) t (λk k0 d b=>by rw[H k k0 d,pA] at b;cases b) (by rw[u];exact dG r),λ{f0 K} v=> .inl (by
    rw[a6 (λe=>?_)]
    ·exact v
    ·obtain⟨L,M,N⟩:=K;have:=(I.kd v).2.2.1;rw[e,q] at this;cases this)⟩
  have O:Dk g s (some f)->Dk (mB g (eK s o) (some (o,lv+n,16*px (lv+n+1+1) p+px (lv+n+1) p % 16))) (dN (iW s o λ_=>0) (16*f+px (lv+n+1) p % 16) (cv (eK s o))) (some (eK s o)):=λh f0 L M N h0 P Q=>by
   have R:f0≠eK s o:=λe=>Q (by rw[e]);rw[a6 R] at h0;by_cases e:f0=f
   ·subst e;exact⟨_,hi.1,hi.2,by rw[u];rfl⟩
   ·obtain⟨k,d,S,T⟩:=h h0 P (by simpa using e);exact⟨k,d,S,by rw[t _ (by omega) (by omega)];exact T⟩
  obtain⟨g',s',f',U,V,W,X,r5,Y⟩:=down b lv n j E (by rw[F,pA];rfl) (by omega);refine⟨g',s',f',?_,J.trans V,W,X,by omega,λh=>Y (O h)⟩;rw[<-U];show qS o p n _= _;have el:((lv+(n+1):Nat):Int) - 1=((lv+n:Nat):Int):=by omega
  rw[el,ky r b x];rfl
end Inv
set_option maxRecDepth 100000
open Go.RX D
theorem WY {ds:List DT} (h:bu ds 0=0):ik ds=none:=by
 unfold bu at h;unfold ik;rw[I1];intro d a;have:=List.countP_eq_zero.1 h d a;simpa using this
theorem Bp {ds:List DT} {y o:Int} (h: ¬ dC ds y o=0):di ds y o=ds:=by
 unfold dC at h;unfold di;cases a:ik ds with
 |none=>rfl
 |some n=>
  have b: ¬ ds.length=0:=λe=>by
   have:ds=[]:=Fo.1 e;subst this;cases a
  rw[ao b,a] at h;dsimp only at h ⊢;by_cases c:(n:Int)<0\/(n:Int)>=ds.length
  ·exact s8 c _
  ·rw[yH (by omega)] at h;rw[nJ (by omega),ao h]
theorem Jb {s:WD} {o:Int} {G:Int->Int} (h: ¬ rA s o=0):iW s o G=s:=by
 unfold iW;rw[ao h,Bp h]
theorem RE {s:WD} {o:Int} (h:bu s.2 0=0) (a:0<s.2.length): ¬ rA s o=0:=by
 unfold rA dC;rw[ao (by omega),WY h];show ¬ (12:Int)=0;decide
theorem CD {p:Int} {j:Nat} {e:ET} (h:(l_ p j e).2.2.1=0):e.1=true:=by
 cases a:e.1 with
 |true=>rfl
 |false=>
  rw[F3 p j a] at h;exact absurd h (by decide)
theorem O9 {ws:List Int} {f:Int} (c:0<=f) (d:16*f+16<=ws.length) {k:Nat} (a:k<16):(jz ws (16*f) 16)[k]? =some (dL ws (16*f+(k:Int))):=by
 have e:jz ws (16*f) 16=(ws.drop (16*f).toNat).take 16:=ao (by omega);rw[e,Gd a,Gi];unfold dL;have hi:(16*f).toNat+k<ws.length:=by omega
 rw[ax (jd (by omega) (by omega)),Bx hi,DG];have b:(16*f+(k:Int)).toNat=(16*f).toNat+k:=by omega
 rw[b,Bx hi];rfl
theorem Ew {ws:List Int} {f:Int} (a:0<=f) (b:16*f+16<=ws.length) (h:w_ ws f=true) (k:Int) (h0:0<=k) (h1:k<16):dL ws (16*f+k)=0:=by
 have c:=O9 a b (k:=k.toNat) (by omega);unfold w_ at h;rw[H6] at h;have:=h _ (C6 c);rw[show((k.toNat:Nat):Int)=k from by omega] at this;simpa using this
theorem RF {ws:List Int} {f:Int} (b:0<=f) (c:16*f+16<=ws.length) (h:w_ ws f=false): ∃k:Int,0<=k/\k<16/\dL ws (16*f+k)≠0:=by
 unfold w_ at h;rw[H5] at h;obtain⟨v,hv,d⟩:=h;obtain⟨k,a⟩:=H7 hv;have i:(jz ws (16*f) 16).length=16:=by
  have e:jz ws (16*f) 16=(ws.drop (16*f).toNat).take 16:=ao (by omega);rw[e,E5,GS];omega
 have g:k<16:=by have:=(B4.1 a).1;omega
 have:=O9 b c g;rw[a] at this;refine⟨(k:Int),by omega,by omega,λe=>d ?_⟩;cases this;simpa using e
def Wq (F:Nat->Int) (p:Int):Nat->Nat->List PT
 |j,0=>[(F j,(j:Int),16*F j+px j p % 16,())]
 |j,n+1=>(F j,(j:Int),16*F j+px j p % 16,())::Wq F p (j+1) n
structure Up (g:Gh) (s:WD) (o p:Int) (F:Nat->Int) (j:Nat):Prop where
 gh: ∀i,j<=i->i<=3->g (F i)=some (o,i,px (i+1) p)
 ld: ∀i,j<=i->i<3->aN s.1 (16*F (i+1)+px (i+1) p % 16)=cv (F i)
theorem RG (F:Nat->Int) (p:Int) (j n:Nat): ∃l,Wq F p j n=(F j,(j:Int),16*F j+px j p % 16,())::l:=by cases n<;>exact⟨_,rfl⟩
namespace Inv
theorem put {g:Gh} {s:WD} (I:Inv g s) {o r p:Int} (l:g r=some (o,3,0)) (c:0<=p/\p<65536) {lv:Nat} {e:ET} (t:e.1=true) (y:bU e.1 e.2.1 e.2.2.1 e.2.2.2.1=true) (z:dJ e=false) (A:lA lv e) (h0:lQ s r p lv=0):
 ∃g',sH (ow o lv p) o g g' s (rG s o r p lv e)/\(∀q,px lv q=px lv p-> ∃f,dD g' (rG s o r p lv e) o q f lv/\aN (rG s o r p lv e).1 (16*f+px lv q % 16)=e)/\
  (∃f j,lv<=j/\dD g s o p f j/\(aN s.1 (16*f+px j p % 16)).1=false/\bu (rG s o r p lv e).2 0+(j - lv)=bu s.2 0)/\(Dk g s none->Dk g' (rG s o r p lv e) none):=by
 obtain⟨f,j,L,i⟩:=I.mq l c;obtain⟨u,eP⟩:=I.nU l c i;have a:=h0;unfold lQ at a;rw[u,eP] at a;dsimp only at a;by_cases c1:((aN s.1 (16*f+px j p % 16)).1||decide (((j:Nat):Int)<((lv:Nat):Int)))=true
 ·rw[ax c1] at a;exact absurd a (by decide)
 rw[ao c1] at a;by_cases c2:(bu s.2 0:Int)<((j:Nat):Int) - ((lv:Nat):Int)
 ·rw[ax c2] at a;exact absurd a (by decide)
 simp only[Dt,decide_eq_true_eq,not_or,Bool.not_eq_true] at c1;obtain⟨n,rfl⟩: ∃n,j=lv+n:=⟨j - lv,by omega⟩;obtain⟨g1,s1,f1,d1,C1,E1,M,N,x1⟩:=down c lv n I i c1.1 (by omega);have B:rG s o r p lv e=(dO s1.1 (16*f1+px lv p % 16) (Tc e),s1.2):=by
  unfold rG;rw[ax h0,u];have en:(((lv+n:Nat):Int) - ((lv:Nat):Int)).toNat=n:=by omega
  dsimp only;rw[en,d1];rfl
 rw[B];have hv:eY (Tc e)=e:=xF y;have hi:=ee p lv;obtain⟨C,D,E,F,w⟩:=C1.inv.za (v:=Tc e) E1.1 hi.1 hi.2 E1.2 (by rw[hv];exact z) (by rw[hv];exact A) (λh=>by rw[hv,t] at h;cases h) E1 rfl;refine⟨g1,(C1.mono λ_ _ h=>h.elim).trans ⟨C,.refl _,D,E,λ{m d} h k=>⟨d,h,k.elim (λe=> .inr ⟨e,e⟩) .inl⟩,⟨cF _ _ _,rfl⟩,C1.inv.CC E1.1 hi.1 hi.2 _,λo1 nl=>nl.upd E1.1 hi.1 hi.2 (λb hb=>gg (λe=>hb e.symm)) λ_ _=>o1.lv,λh=> .inl h⟩,λq x=>⟨f1,(F q x).1,?_⟩,⟨f,lv+n,by omega,i,c1.1,?_⟩,λh=>?_⟩
 ·show aN (dO s1.1 _ _) _= _;rw[x,w,hv]
 ·show bu s1.2 0+ _= _;omega
 ·intro f0 O P Q h0 G _;by_cases ef:f0=f1
  ·subst ef;exact⟨_,hi.1,hi.2,by show(aN (dO s1.1 _ _) _).1=true;rw[w,hv];exact t⟩
  ·obtain⟨k,H,J,K⟩:=x1 (h.some f) h0 G (by simpa using ef);exact⟨k,H,J,by show(aN (dO s1.1 _ _) _).1=true;rw[gg (by omega)];exact K⟩
end Inv
set_option maxRecDepth 100000
open Go.RX D
theorem ZA (x y:PT) (l:List PT) (t:WD):jt (x::y::l) t=if w_ t.1 x.1=true then jt (y::l) (dO t.1 y.2.2.1 0,dI t.2 x.1 (aP 5 0)) else t:=rfl
theorem YA {ws:List Int} {a:Int} (h:dL ws a=0):aN ws a=zE:=by unfold aN;rw[h];exact pA
theorem Up.ne {g:Gh} {s:WD} {o p:Int} {F:Nat->Int} {j:Nat} (U:Up g s o p F j) {a b:Nat} (c:j<=a) (d:a<=3) (hb:j<=b) (f:b<=3) (h:a≠b):F a≠F b:=λe=>by
 have h1:=U.gh a c d;rw[e,U.gh b hb f] at h1;simp only[BN,B5,true_and] at h1;exact h h1.1.symm
theorem l5 {r:Int} {l:Bool} {f:Int}:bU true r l f=true<->(0<=r/\r<=7/\0<=f/\f<4096/\(r>0\/l=false)):=by
 unfold bU;cases l<;>simp<;>omega
theorem Oq {p:Bool} {r:Int} {l:Bool} {f:Int} (h:r≠0):dJ (p,r,l,f,())=false:=by
 unfold dJ fM;simp[h]
namespace Inv
theorem split {g:Gh} {s:WD} (I:Inv g s) {o r p:Int} (F:g r=some (o,3,0)) (G:0<=p/\p<65536) {f:Int} {j:Nat} (a:dD g s o p f j) (b:(aN s.1 (16*f+px j p % 16)).1=true) (h0:lR s o r p=0):
 ∃g' f',sH XN o g g' s (fl s o r p)/\dD g' (fl s o r p) o p f' 0/\bu (fl s o r p).2 0+j=bu s.2 0/\(Dk g s none->Dk g' (fl s o r p) none):=by
 obtain⟨l,eP⟩:=I.nU F G a;have hi:=ee p j;rcases I.leaf a.1 hi.1 hi.2 b a.2 with ⟨rfl, _⟩|⟨rfl,n,x⟩
 ·have q:fl s o r p=s:=by unfold fl;rw[l];exact ax rfl
  rw[q];exact⟨g,f,.refl I _ _,a,rfl,λh=>h⟩
 ·have H:lR s o r p=rA s o:=by unfold lR;rw[l];exact ao (by show ¬ ((1:Int)=0);decide)
  rw[H] at h0;have q:fl s o r p=dN (iW s o (oN (aN s.1 (16*f+px 1 p % 16)))) (16*f+px 1 p % 16) (cv (eK s o)):=by
   unfold fl;rw[l,eP];rw[ao (by show ¬ ((1:Int)=0);decide),ax h0]
  have y:=I.kd a.1;have hc:0<bu s.2 0:=by
   rcases Nat.eq_zero_or_pos (bu s.2 0) with e|e
   ·exact absurd h0 (RE e (by omega))
   ·exact e
  have t:=lG s.1 (16*f+px 1 p % 16);rw[q];have J:=a.2;generalize K:aN s.1 (16*f+px 1 p % 16)=e at n x t b J ⊢;obtain⟨ep,er,el,ef,eu⟩:=e;dsimp only at n x t b;subst n;subst b;obtain⟨L,M,b3,b4,z⟩:=l5.1 t;have z:er>0:=z.elim id (λh=>by cases h);have u: ∀k:Int,0<=k->k<16->eY (oN (true,er,true,ef,()) k)=(true,er,false,ef+k,()):=λk k0 c=>by
   show eY (FE true er false (ef+k))= _;exact xF (l5.2 ⟨L,M,by omega,by omega,.inr rfl⟩)
  have A: ∀k,0<=k->k<16->dJ (eY (oN (true,er,true,ef,()) k))=false/\lA 0 (eY (oN (true,er,true,ef,()) k))/\((eY (oN (true,er,true,ef,()) k)).1=false->oN (true,er,true,ef,()) k=0):=λk k0 c=>by
   rw[u k k0 c];exact⟨Oq (by omega),λ_ _=> .inl ⟨rfl,rfl⟩,λh=>by cases h⟩
  obtain⟨q0,N,O,P,Q,v,w,R,S,T⟩:=I.Ev (m:=0) a.1 hi.1 hi.2 a.2 hc (oN (true,er,true,ef,())) A (λp' hp0 nf=>by
   rw[u _ (ee p' 0).1 (ee p' 0).2,K];rfl)
  obtain⟨_,u1, _, _, _, _,B,U,C, _⟩:=I.grow (m:=0) a.1 hi.1 hi.2 a.2 hc (oN (true,er,true,ef,())) A;obtain⟨V,e2⟩:=R p a rfl;have W:=tc (d':=(3,o,0,0,())) w 0;refine⟨_,eK s o,⟨N,O,P,Q,λ{m d} X y=>by rw[v];exact O8 w (λh=>by rcases h with h|h<;>exact absurd h (by decide)) X y,⟨xH _ _ _ _ _,by rw[v,B3]⟩,I.Bo (m:=0) a.1 hi.1 hi.2 hc _ _,λ_ nl=>nl.grow (f:=f) (i:=0) B (λ_ _ _ _=>rfl) (by rw[C];exact dG ⟨S,T⟩),λ{f0 Y} D=> .inl (by
   rw[a6 (λe=>?_)]
   ·exact D
   ·obtain⟨Z,l0,x0⟩:=Y;have:=(I.kd D).2.2.1;rw[e,w] at this;cases this)⟩,V,?_,?_⟩
  ·rw[v];simpa[zD] using W
  ·intro h f0 Z l0 x0 h0 Ig _;by_cases E:f0=eK s o
   ·subst E;exact⟨0,by decide,by decide,by rw[U 0 (by decide) (by decide),u 0 (by decide) (by decide)]⟩
   ·rw[a6 E] at h0;by_cases e:f0=f
    ·subst e;exact⟨_,hi.1,hi.2,by rw[C];rfl⟩
    ·obtain⟨k,c,k2,k3⟩:=h h0 Ig (by simp);exact⟨k,c,k2,by rw[B _ (by omega) (by omega)];exact k3⟩
theorem thin {o p:Int} (t:0<=p/\p<65536) {F:Nat->Int}: ∀(n:Nat) {j:Nat} {g:Gh} {s:WD},j+n=3->Inv g s->Up g s o p F j->
 ∃g',sH XN o g g' s (jt (Wq F p j n) s)/\bu (jt (Wq F p j n) s).2 0=bu s.2 0/\(Dk g s (some (F j))->Dk g' (jt (Wq F p j n) s) none)
 |0,j,g,s,M,I,U=>by
  refine⟨g,.refl I _ _,rfl,λh f0 A B C h0 q _=>h h0 q (λe=>?_)⟩;have D:=U.gh j (B_ _) (by omega);cases e;rw[h0] at D;simp only[BN,B5] at D;omega
 |n+1,j,g,s,M,I,U=>by
  obtain⟨l',E⟩:=RG F p (j+1) n;have N:Wq F p j (n+1)=(F j,(j:Int),16*F j+px j p % 16,())::(F (j+1),((j+1:Nat):Int),16*F (j+1)+px (j+1) p % 16,())::l':=by rw[Wq,E]
  have v:=U.gh j (B_ _) (by omega);have g1:=U.gh (j+1) (by omega) (by omega);have O:=U.ld j (B_ _) (by omega);have hi:=ee p (j+1);have f:=I.vx v;rw[N,ZA];cases w:w_ s.1 (F j) with
  |false=>
   rw[ao (by decide)];refine⟨g,.refl I _ _,rfl,λh f0 A B C h0 q _=>?_⟩;by_cases e:f0=F j
   ·subst e;obtain⟨k,k0,c,x⟩:=RF f.1 f.2.2 w;refine⟨k,k0,c,?_⟩;cases hb:(aN s.1 (16*F j+k)).1 with
    |true=>rfl
    |false=>exact absurd (I.wf v k0 c hb) x
   ·exact h h0 q (by simpa using e)
  |true=>
   rw[ax rfl];dsimp only;have P:g (F j)=some (o,j,16*px (j+1+1) p+px (j+1) p % 16):=by rw[<-nT];exact v
   obtain⟨y,G,H,J,l,r,Q,K⟩:=I.L3 g1 hi.1 hi.2 P O (λk k0 c=>YA (Ew f.1 f.2.2 w k k0 c));dsimp only at y G H J l r Q K;have C1:sH XN o g (mB g (F j) none) s (dO s.1 (16*F (j+1)+px (j+1) p % 16) 0,dI s.2 (F j) (aP 5 0)):=
    ⟨y,G,H,J,λ{m d} z R=>by rw[l];exact O8 r (λ_=>rfl) z R,⟨cF _ _ _,by rw[l,B3]⟩,by rw[l];exact Kept.set r (show ¬ (3:Int)=4/\ ¬ (3:Int)=5 by decide) ⟨.inr rfl,rfl,(I.kd g1).2.2.2.1,(I.kd g1).2.2.2.2.1⟩ λ{m d} z S k k0 c=>by rw[mH (I.off g1 hi.1 hi.2 z S k0 c)],λ_ nl=>(nl.upd (s':=(dO s.1 (16*F (j+1)+px (j+1) p % 16) 0,dI s.2 (F j) (aP 5 0))) g1 hi.1 hi.2 (λb hb=>gg (λe=>hb e.symm)) λt _=>by rw[K] at t;cases t).del _,λ{f0 X} T=>by
     by_cases e:f0=F j
     ·subst e;have V:=U.ne (a:=j) (b:=j+1) (by omega) (by omega) (by omega) (by omega) (by omega);refine .inr ⟨f.1, _,by rw[l];exact DU (B4.1 r).1,rfl,λk k0 c=>?_⟩;show dL (dO s.1 _ _) _=0;rw[mH (by omega)];exact Ew f.1 f.2.2 w k k0 c
     ·exact .inl (by rw[a6 e];exact T)⟩
   have U1:Up (mB g (F j) none) (dO s.1 (16*F (j+1)+px (j+1) p % 16) 0,dI s.2 (F j) (aP 5 0)) o p F (j+1):=by
    refine⟨λi h1 u=>?_,λi h1 u=>?_⟩
    ·rw[a6 (U.ne (by omega) u (B_ _) (by omega) (by omega))];exact U.gh i (by omega) u
    ·have V:=U.ne (a:=i+1) (b:=j+1) (by omega) (by omega) (by omega) (by omega) (by omega);have Y:=ee p (i+1);show aN (dO _ _ _) _= _;rw[gg (by omega)];exact U.ld i (by omega) u
   obtain⟨g',c1,c2,c3⟩:=thin t n (by omega) y U1;rw[E] at c1 c2 c3;refine⟨g',C1.trans c1,c2.trans ?_,λh=>c3 λf0 A B C h0 q W=>?_⟩
   ·have:=tc (d':=(5,o,0,0,())) r 0;rw[l];simpa using this
   ·have L:f0≠F j:=λe=>by rw[e,bK] at h0;cases h0
    have Z:f0≠F (j+1):=λe=>W (by rw[e]);rw[a6 L] at h0;obtain⟨k,k0,c,x⟩:=h h0 q (by simpa using L);exact⟨k,k0,c,by show(aN (dO _ _ _) _).1=true;rw[gg (by omega)];exact x⟩
end Inv
set_option maxRecDepth 100000
open Go.RX D
namespace Inv
variable {g:Gh} {s:WD}
theorem acd (I:Inv g s) {o r p f0:Int} (t:g r=some (o,3,0)) (a:0<=p/\p<65536) (E:dD g s o p f0 0):
 ∃F:Nat->Int,F 0=f0/\Up g s o p F 0/\(dk s.1 p 3 r).reverse=Wq F p 0 3:=by
 obtain⟨f1,a1,u⟩:=I.Fu E.1 (by decide);obtain⟨f2,e,j⟩:=I.Fu a1 (by decide);obtain⟨f3,f,k⟩:=I.Fu e (by decide);have v:f3=r:=by
  refine I.inj f ?_;rw[t];have:=XK a;simp only[px] at this ⊢;rw[this]
 subst v;have b:=I.vx E.1;have c:=I.vx a1;have d:=I.vx e;have m:=I.vx f;refine⟨λi=>match i with|0=>f0|1=>f1|2=>f2| _=>f3,rfl,⟨λi _ h=>?_,λi _ h=>?_⟩,?_⟩
 ·rcases i with _| _| _| _|i
  ·exact E.1
  ·exact a1
  ·exact e
  ·exact f
  ·omega
 ·rcases i with _| _| _|i
  ·exact u
  ·exact j
  ·exact k
  ·omega
 ·have n:=ky ⟨m.1,m.2.1⟩ a (l:=3) (by omega);have q:=ky ⟨d.1,d.2.1⟩ a (l:=2) (by omega);have w:=ky ⟨c.1,c.2.1⟩ a (l:=1) (by omega);have x:=ky ⟨b.1,b.2.1⟩ a (l:=0) (by omega);have t2:=dG ⟨d.1,d.2.1⟩;have t1:=dG ⟨c.1,c.2.1⟩;have t0:=dG ⟨b.1,b.2.1⟩;have c3:aN s.1 (dW f3 p (2+1:Nat))=cv f2:=by rw[n];exact k
  have c2:aN s.1 (dW f2 p (1+1:Nat))=cv f1:=by rw[q];exact j
  have c1:aN s.1 (dW f1 p ((0+1:Nat):Int))=cv f0:=by grind
  have w1:dk s.1 p 1 f1=[(f1,((0+1:Nat):Int),dW f1 p ((0+1:Nat):Int),()),(f0,0,dW f0 p 0,())]:=by rw[dk,c1,ax t0];rfl
  have y:dk s.1 p 2 f2=[(f2,((1+1:Nat):Int),dW f2 p ((1+1:Nat):Int),()),(f1,((0+1:Nat):Int),dW f1 p ((0+1:Nat):Int),()),(f0,0,dW f0 p 0,())]:=by
   rw[dk,c2,ax t1];show _::dk s.1 p 1 f1= _;rw[w1]
  have z:dk s.1 p 3 f3=[(f3,((2+1:Nat):Int),dW f3 p ((2+1:Nat):Int),()),(f2,((1+1:Nat):Int),dW f2 p ((1+1:Nat):Int),()),(f1,((0+1:Nat):Int),dW f1 p ((0+1:Nat):Int),()),(f0,0,dW f0 p 0,())]:=by
   rw[dk,c3,ax t2];show _::dk s.1 p 2 f2= _;rw[y]
  have A:dW f0 p 0=16*f0+px 0 p % 16:=x;have B:=w;have C:=q;have D:=n;rw[z,A,B,C,D];rfl
theorem Jc {s:WD} {n:Nat} {d:DT} (h:s.2[n]? =some d) (k:d.1=3\/d.1=5): ∃d':DT,s.2[n]? =some d'/\(d'.1=5\/(d'.1=3/\d.1=3)):=by grind
theorem DQ (I:Inv g s) {o r p:Int} (l:g r=some (o,3,0)) (c:0<=p/\p<65536) (h0:B7 s o r false p=0):
 ∃g',sH (ow o 0 p) o g g' s (nq s o r false p)/\bC (nq s o r false p) r false p=(0,0,4,())/\(bC s r false p).2.2.1=0/\
  (∃f j,j<=1/\dD g s o p f j/\(aN s.1 (16*f+px j p % 16)).1=true/\bu (nq s o r false p).2 0+j=bu s.2 0)/\(Dk g s none->Dk g' (nq s o r false p) none):=by
 have u:(bC s r false p).2.2.1=0:=by
  unfold B7 at h0
  grind
 have A:lR s o r p=0:=by unfold B7 at h0;grind
 obtain⟨f,j,S,d⟩:=I.mq l c;have w:=u;rw[I.fO l c d] at w;have m:=CD w;have B:j<=1:=by
  rcases I.leaf d.1 (ee p j).1 (ee p j).2 m d.2 with h|h<;>omega
 obtain⟨g1,f0,C1,E1,c1,C⟩:=I.split l c d m A;have D:nq s o r false p=jt (dk (fl s o r p).1 p 3 r).reverse (dO (fl s o r p).1 (dA (fl s o r p).1 r p).2.2.1 0,(fl s o r p).2):=by
  unfold nq;grind
 have n:=C1.root.to l;have E:=(C1.inv.nU n c E1).1;rw[D,E];generalize fl s o r p=t at*
 have hi:=ee p 0;obtain⟨x,G,H,J,K⟩:=C1.inv.za (v:=0) E1.1 hi.1 hi.2 E1.2 (by rw[pA];exact J7) (by rw[pA];exact DR _) (λ_=>rfl) E1 rfl;obtain⟨F,y,U,L⟩:=C1.inv.acd n c E1;rw[L];dsimp only;have U2:Up g1 (dO t.1 (16*f0+px 0 p % 16) 0,t.2) o p F 0:=by
  refine⟨U.gh,λi h1 q=>?_⟩;have M:=U.ne (a:=i+1) (b:=0) (by omega) (by omega) (by omega) (by omega) (by omega);rw[y] at M;rw[gg (by omega)];exact U.ld i h1 q
 obtain⟨N,C3,c3,O⟩:=thin c 3 rfl x U2;have C2:sH (ow o 0 p) o g1 g1 t _:=⟨x,.refl _,G,H,λh k=>Jc h k,⟨cF _ _ _,rfl⟩,C1.inv.CC E1.1 hi.1 hi.2 _,λ_ nl=>nl.upd E1.1 hi.1 hi.2 (λb hb=>gg (λe=>hb e.symm)) λ_ _=>rfl,λh=> .inl h⟩;refine⟨N,((C1.mono λ_ _ h=>h.elim).trans C2).trans (C3.mono λ_ _ h=>h.elim),?_,u,⟨f,j,B,d,m,?_⟩,λh=>?_⟩
 ·obtain⟨f',T,h1,q⟩:=C3.Dx (λh=>h) (J p rfl).1;rw[C3.inv.fO (C3.root.to n) c h1,q];rw[K,pA];rfl
 grind
 ·refine O λf1 o1 V x1 h1 P z=>?_;rw[y] at z;have W:f1≠f0:=λe=>z (by rw[e]);obtain⟨k,k0,Q,R⟩:=C h h1 P (by simp);exact⟨k,k0,Q,by rw[gg (by omega)];exact R⟩
theorem s9 (I:Inv g s) {o r p rt:Int} (d:g r=some (o,3,0)) (h0:B8 s o r false p rt=0):
 (0<=p/\p<65536)/\ ∃g',sH (ow o 0 p) o g g' s (rH s o r false p rt)/\(bC s r false p).2.2.1=0/\bC (rH s o r false p rt) r false p=((bC s r false p).1,rt,0,())/\
  bu s.2 0<=bu (rH s o r false p rt).2 0+1:=by
 have n: ¬ (false=true):=by decide
 unfold B8 at h0;rw[ao n] at h0;have l:l9 p 0 rt=0:=by
  grind
 rw[ax l] at h0;have w:(0<=p/\p<65536)/\1<=rt/\rt<=7:=by
  unfold l9 at l
  grind
 obtain⟨a,G⟩:=w;refine⟨a,?_⟩;obtain⟨f,j,H,c⟩:=I.mq d a;obtain⟨x,eP⟩:=I.nU d a c;have J:=I.fO d a c;by_cases c1:(da s.1 r p).1=true
 ·rw[ax c1] at h0;have y:rH s o r false p rt=(if((da s.1 r p).2.2.1&&(da s.1 r p).2.1==rt)=true then s
   else if lR s o r p=0 then dN (fl s o r p) (dA (fl s o r p).1 r p).2.2.1 (true,rt,false,qD p (dA s.1 r p) (da s.1 r p),()) else fl s o r p):=by
   unfold rH;rw[ao n,ax l,ax c1]
  rw[y];have i:(aN s.1 (16*f+px j p % 16)).1=true:=by rw[<-eP];exact c1
  have m:bC s r false p=(qD p (dA s.1 r p) (da s.1 r p),(da s.1 r p).2.1,0,()):=by
   unfold bC
   grind
  by_cases c2:((da s.1 r p).2.2.1&&(da s.1 r p).2.1==rt)=true
  ·rw[ax c2];refine⟨g,.refl I _ _,by rw[m],?_,by omega⟩
   grind
  ·rw[ao c2] at h0;rw[ao c2,ax h0];obtain⟨g1,f0,C1,E1,d1,K⟩:=I.split d a c i h0;have q:=C1.root.to d;have z:=(C1.inv.nU q a E1).1;rw[z];have L:0<=qD p (dA s.1 r p) (da s.1 r p)/\qD p (dA s.1 r p) (da s.1 r p)<4096:=by
    have u:=lG s.1 (16*f+px j p % 16);have A:=I.leaf c.1 (ee p j).1 (ee p j).2 i c.2;rw[eP,x];generalize aN s.1 (16*f+px j p % 16)=e at*
    obtain⟨ep,er,el,ef,M⟩:=e;dsimp only at i u A;subst i;obtain⟨N,O,P,Q,R⟩:=l5.1 u;unfold qD
    grind
   have S:j<=1:=by
    rcases I.leaf c.1 (ee p j).1 (ee p j).2 i c.2 with h|h<;>omega
   have B:(bC s r false p).1=qD p (dA s.1 r p) (da s.1 r p):=by rw[m]
   rw[B];generalize qD p (dA s.1 r p) (da s.1 r p)=fr at*
   generalize fl s o r p=t at*
   have hv:eY (Tc (true,rt,false,fr,()))=(true,rt,false,fr,()):=by
    show eY (FE true rt false fr)= _;exact xF (l5.2 (by omega))
   have hi:=ee p 0;obtain⟨v,C,D,E,F⟩:=C1.inv.za E1.1 hi.1 hi.2 E1.2 (by rw[hv];exact Oq (by omega)) (by rw[hv];exact λ_ _=> .inl ⟨rfl,rfl⟩) (λh=>by rw[hv] at h;cases h) E1 rfl;have C2:sH (ow o 0 p) o g1 g1 t _:=⟨v,.refl _,C,D,λh k=>Jc h k,⟨cF _ _ _,rfl⟩,C1.inv.CC E1.1 hi.1 hi.2 _,λ_ nl=>nl.upd E1.1 hi.1 hi.2 (λb hb=>gg (λe=>hb e.symm)) λ_ _=>rfl,λh=> .inl h⟩;refine⟨g1,(C1.mono λ_ _ h=>h.elim).trans C2,by rw[m],?_,?_⟩
   ·show bC (dO t.1 (16*f0+px 0 p % 16) _,t.2) r false p= _;rw[v.fO q a (E p rfl).1];show l_ p 0 (aN (dO t.1 _ _) _)= _;rw[F,hv];rfl
   ·show _<=bu t.2 0+1;omega
 grind
theorem map (I:Inv g s) {o r p f rt:Int} (b:g r=some (o,3,0)) (h0:kJ s r false p f rt=0):
 (0<=p/\p<65536)/\ ∃g',sH (ow o 0 p) o g g' s (jy s o r false p f rt)/\bC (jy s o r false p f rt) r false p=(f,rt,0,())/\1<=rt/\(bC s r false p).2.2.1=4/\
  (∃f0,dD g' (jy s o r false p f rt) o p f0 0)/\
  (∃f0 j,dD g s o p f0 j/\bu (jy s o r false p f rt).2 0+j=bu s.2 0)/\(Dk g s none->Dk g' (jy s o r false p f rt) none):=by
 unfold kJ at h0;have c:l9 p f rt=0:=by
  grind
 rw[ax c] at h0;have d:(0<=p/\p<65536)/\(0<=f/\f<4096)/\1<=rt/\rt<=7:=by
  unfold l9 at c
  grind
 obtain⟨a,q,e⟩:=d;have i:jy s o r false p f rt=rG s o r p 0 (true,rt,false,f,()):=by unfold jy;grind
 rw[i];have k:bU _ rt false f=true:=l5.2 (by omega);obtain⟨g',C,A,⟨f1,j,t,l,m,hc⟩,u⟩:=I.put b a rfl k (Oq (by omega)) (λ_ _=> .inl (by grind)) h0;obtain⟨f2,E2,n⟩:=A p rfl;refine⟨a,g',C,?_,e.1,?_,⟨f2,E2⟩,by grind⟩
 ·have h:=C.inv.fO (C.root.to b) a E2;rw[n] at h;exact h
 ·rw[I.fO b a l,F3 _ _ m]
end Inv
set_option maxRecDepth 100000
open Go.RX D
def fresh (n m:Nat):WD:=(Bs n 0,Bs m zD)
abbrev noG:Gh:=λ_=>none
theorem Vt (m:Nat) (v:Int):bu (Bs m zD) v=if v=0 then m else 0:=by
 unfold bu;rw[List.countP_replicate];by_cases h:v=0
 ·subst h;rfl
 ·rw[ao h,ao];show ¬ (((0:Int)==v)=true);simp;omega
theorem L4 {n m:Nat} (h:16*m<=n) (b:m<=4096):Inv noG (fresh n m) where
 len:=by
  show 16*(Bs m zD).length<=(Bs n (0:Int)).length;simpa using h
 le:=by
  show(Bs m zD).length<=4096;simpa using b
 fz:=λd a _=>I2 a
 kd:=by intro f o l x h;cases h
 inj:=by intro f o l h;cases h
 sj:=by intro f o l x i h;cases h
 leaf:=by intro f o l x i h;cases h
 Fu:=by intro f o l x h;cases h
 wf:=by intro f o l x i h;cases h
 tb:=by
  intro k d a c;have:d=zD:=I2 (C6 a);subst this;cases c
namespace Inv
variable {g:Gh} {s:WD}
theorem born (I:Inv g s) {o:Int} (w:1<=o/\o<=16) (A: ∀f,g f≠some (o,3,0)) (hc:0<bu s.2 0):
 rA s o=0/\g (eK s o)=none/\0<=eK s o/\eK s o<s.2.length/\(iW s o λ_=>0).2=s.2.set (eK s o).toNat (3,o,0,0,())/\s.2[(eK s o).toNat]? =some zD/\
 (∀b,(b<16*eK s o\/16*eK s o+16<=b)->dL (iW s o λ_=>0).1 b=dL s.1 b)/\
 (∀k,0<=k->k<16->dL (iW s o λ_=>0).1 (16*eK s o+k)=0)/\(iW s o λ_=>0).1.length=s.1.length/\
 Inv (mB g (eK s o) (some (o,3,0))) (iW s o λ_=>0):=by
 obtain⟨n,K,B,L,M,N⟩:=m6 hc I.fz w;have C:eK s o=(n:Int):=L;have D:rA s o=0:=M;have O:=I.len;have P:=I.le;have Q:16*(n:Int)+16<=s.1.length:=by omega
 obtain⟨W,r⟩: ∃W,W=eZ s.1 (n:Int) (λ_=>0) 16:=⟨_,rfl⟩;have E:W.length=s.1.length:=by rw[r,gJ]
 have F: ∀b,dL W b=if 16*(n:Int)<=b/\b<16*(n:Int)+16 then 0 else dL s.1 b:=λb=>by
  rw[r];exact s_ (by omega) Q 16 (B_ _) b
 have R:iW s o (λ_=>0)=(W,s.2.set n (3,o,0,0,())):=by unfold iW;rw[ax D,C,N,r]
 clear r;have gn:g (n:Int)=none:=by
  cases S:g (n:Int) with
  |none=>rfl
  |some v=>
   obtain⟨a,b,c⟩:=v;have:=(I.kd S).2.2.1;rw[show((n:Int)).toNat=n from rfl,B] at this;cases this
 have t: ∀{f':Int} {v},g f'=some v->f'≠(n:Int):=λh e=>by rw[e,gn] at h;cases h
 rw[R,C];have x: ∀b,(b<16*(n:Int)\/16*(n:Int)+16<=b)->dL W b=dL s.1 b:=λb h=>by rw[F b,ao (by omega)]
 have y: ∀k,0<=k->k<16->dL W (16*(n:Int)+k)=0:=λk h0 h1=>by rw[F,ax (by omega)]
 have w1: ∀b,(b<16*(n:Int)\/16*(n:Int)+16<=b)->aN W b=aN s.1 b:=λb h=>by unfold aN;rw[x b h]
 have G: ∀k,0<=k->k<16->aN W (16*(n:Int)+k)=zE:=λk h0 h1=>by unfold aN;rw[y k h0 h1];exact pA
 have fQ: ∀{f0 l p k:Int} {i:Nat},g f0=some (l,i,p)->0<=k->k<16->aN W (16*f0+k)=aN s.1 (16*f0+k):=λ{f0 l p k i} h h0 h1=>by
  have:=t h;exact w1 _ (by omega)
 refine⟨D,gn,by omega,by omega,rfl,by rw[show((n:Int)).toNat=n from rfl];exact B,x,y,E,?_⟩;refine⟨?_,?_,?_,?_,?_,?_,?_,?_,?_,?_⟩
 ·show 16*(s.2.set n _).length<=W.length;rw[E,B3];exact O
 ·show(s.2.set n _).length<=4096;rw[B3];exact P
 ·intro d z h0;rcases Dl z with z|rfl
  ·exact I.fz d z h0
  ·cases h0
 ·intro f0 l i p h;show _/\ _<((s.2.set n (3,o,0,0,())).length:Int)/\(s.2.set n (3,o,0,0,()))[f0.toNat]? = _/\ _;rw[B3];by_cases e:f0=(n:Int)
  ·subst e;rw[bK] at h;cases h;refine⟨by omega,by omega,?_,w.1,w.2,by omega⟩;rw[show((n:Int)).toNat=n from rfl,DU K]
  ·rw[a6 e] at h;obtain⟨a1,T,U,V⟩:=I.kd h;refine⟨a1,T,?_,V⟩;rw[BT (by omega)];exact U
 ·intro a b v q hb;by_cases e:a=(n:Int)<;>by_cases e':b=(n:Int)
  ·rw[e,e']
  ·subst e;rw[bK] at q;rw[a6 e'] at hb;cases q;exact absurd hb (A b)
  ·subst e';rw[bK] at hb;rw[a6 e] at q;cases hb;exact absurd q (A a)
  ·rw[a6 e] at q;rw[a6 e'] at hb;exact I.inj q hb
 ·intro f0 l i p k h h0 h1 j;by_cases e:f0=(n:Int)
  ·subst e;have j:dJ (aN W (16*(n:Int)+k))=true:=j;rw[G k h0 h1,J7] at j;cases j
  ·rw[a6 e] at h;have j:dJ (aN W (16*f0+k))=true:=j;show∃m,i=m+1/\mB g n _ (aN W (16*f0+k)).2.2.2.1= _;rw[fQ h h0 h1] at j ⊢;obtain⟨X,Y,H⟩:=I.sj h h0 h1 j;exact⟨X,Y,by rw[a6 (t H)];exact H⟩
 ·intro f0 l i p k h h0 h1;show lA i (aN W (16*f0+k));by_cases e:f0=(n:Int)
  ·subst e;rw[G k h0 h1];exact DR _
  ·rw[a6 e] at h;rw[fQ h h0 h1];exact I.leaf h h0 h1
 ·intro f0 l i p h Z;by_cases e:f0=(n:Int)
  ·subst e;rw[bK] at h;cases h;omega
  ·rw[a6 e] at h;obtain⟨f',p1,p2⟩:=I.Fu h Z;refine⟨f',by rw[a6 (t p1)];exact p1,?_⟩;show aN W _= _;rw[fQ p1 (by omega) (by omega)];exact p2
 ·intro f0 l i p k h h0 h1 u;show dL W (16*f0+k)=0;by_cases e:f0=(n:Int)
  ·subst e;exact y k h0 h1
  ·rw[a6 e] at h;have u:(aN W (16*f0+k)).1=false:=u;rw[fQ h h0 h1] at u;have:=t h;rw[x _ (by omega)];exact I.wf h h0 h1 u
 ·intro J d rz h3;by_cases e:J=n
  ·subst e;exact⟨_,bK _ _ _⟩
  ·have h':(s.2.set n (3,o,0,0,()))[J]? =some d:=rz;rw[BT (by omega)] at h';obtain⟨v,hv⟩:=I.tb h' h3;exact⟨v,by rw[a6 (by omega)];exact hv⟩
end Inv
end Go.Proofs.YtlcenllcmeebhaaGreat
