import Derived.Test.YtlcenllcmeebhaaGreatPCE
/-! What the statement leans on: texts joined and shortened by a program of mine. -/
set_option linter.unusedVariables false
set_option linter.unusedSimpArgs false
open Go renaming World->A2,Addr->AC,Value->BT,MapEntry->Do
open Go.Proofs.Tryz renaming prog->AB
open List renaming getElem?_set_ne->AR,getElem?_eq_some_iff->Ab,getElem?_set_self->Ax,length_set->Az,getD_eq_getElem?_getD->B1,mem_map->B2,mem_filter->B4,mem_of_getElem?->B5,range->B9,getElem?_eq_getElem->B_,getElem?_of_mem->Bs,mem_cons_self->Bx,mem_cons_of_mem->C6,nodup_cons->C8,countP_cons->Ca,mem_cons->DA,replicate->DB,map_cons->DJ,filter_sublist->DM,length_map->DU,mem_append_left->DY,mem_range->Dc,length_cons->Dd,mem_append_right->Df,mem_singleton->Dj,countP_pos_iff->Ds,sum_cons->E5,getElem?_map->F5,ext_getElem?->FC,length_replicate->FG,mem_append->FS,countP_map->FV,map_append->FY,sum_append->Fo,filter_cons->Ft,filter_eq_self->Fw,nodup_range->Fy,any_eq_true->G1,eq_of_mem_replicate->GS,getElem?_set->Ga,any_eq_false->Gd,length_append->Gi,zipIdx_cons->H4,pairwise_map->H5,getElem?_zipIdx->H6
open Classical renaming byContradiction->B3
open Int.ofNat renaming inj->BN
open Nat renaming eq_zero_or_pos->DG,le_refl->Dt,zero_le->FW,lt_succ_self->H7
open Go.IntKind renaming i64->Db
open Go.Value renaming nilFunc->Dl
open Bool renaming and_eq_true->Dn
open BitVec renaming ofInt->Dy
open Int renaming toNat_of_nonneg->E4,toNat->FX
namespace Go.Proofs.YtlcenllcmeebhaaGreat.Mu
set_option maxRecDepth 100000
open Go.RX
abbrev sCl:List Sc:=[.int .i64,.int .u64,.int .u64,.int .u64]
abbrev sMk:List Sc:=[.int .i64,.int .i64,.int .i64,.int .i64,.int .u64,.int .u64,.int .u64,.int .u64,.int .i64]
noncomputable def U2:dH AB:={V0 with quiet:=[64,160,199,152,154,201,161,82,24]++V0.quiet}
noncomputable def U3:dH AB:={U2 with Z0:=some (.bG [.agg iS,.one .bool])}
theorem R5 (p:Option AC) (w:A2) (a:Int->A2->Prop):(aM U2 (λ_=>[]) 160 [ag p] w a)=(
 p.isSome=true/\p.isSome=true/\(ad p 4).isSome=true/\cK w (ad (ad p 4) 1) λx=>au w (a (aG .i64 (wT .u64 x 16)))):=by kernel_rfl
theorem R6 (p:Option AC) (w:A2) (e:Int->A2->Prop):(aM U2 (λ_=>[]) 199 [ag p] w e)=(
 ∀w1,Ext w w1-> ∀c,Ext (w1.alloc (Obj.map ⟨[]⟩ 0)) c-> ∃(r:Nat), ∃(es:Array Do), ∃(a:Nat),some w1.heap.size=some r/\bH c r es a/\gU c r .i64 6 (aa 1) es a λb=> ∀d,Ext b d-> ∃(r:Nat), ∃(es:Array Do), ∃(a:Nat),some w1.heap.size=some r/\bH d r es a/\gU d r .i64 7 (aa 2) es a λb=>p.isSome=true/\p.isSome=true/\(ad p 4).isSome=true/\aT b (ad (ad p 4) 0) λx=> ∃(f:Int),jT b (some w1.heap.size) .i64 x (aa 0) (aa f)/\au b (e
 f)):=by kernel_rfl
theorem ZI (p:Option AC) (n:Int) (w:A2) (a:Option AC->A2->Prop):(aM U2 (λ_=>[]) 64 [ag p,aa n] w a)=(
 ((!(p.isNone||decide (n<0)))=true->p.isSome=true)/\((!(p.isNone||decide (n<0)))=true->p.isSome=true)/\aj w (some !(p.isNone||decide (n<0))) (ad p 3) fZ λx=>aJ (p.isNone||decide (n<0)||decide (n>=(↑x.2.1:Int))) (au w (a none)) (fx p 3 w λx=>(x.1.isSome=true/\0<=n/\n<(↑x.2.1:Int))/\f_ w (ad x.1 (n.toNat*1)) λx=>au w (a x))):=by kernel_rfl
theorem VJ (p:Option AC) (n v k a b c:Int) (w:A2) (f:Int->A2->Prop):(aM U2 (λ_=>[]) 29 [ag p,aa n,aa v,.agg ⟨[aa k,ay a,ay b,ay c]⟩] w f)=(
 aL w ⟨[aa k,ay a,ay b,ay c]⟩ 31 λb d=> ∃(x:Option AC),af AB 64 [ag p,aa n] d (ag x)/\((!p.isNone)=true->p.isSome=true)/\((!p.isNone)=true->p.isSome=true)/\aj d (some !p.isNone) (ad p 0) jQ λg=>aJ (p.isNone||g.isNone) (au d (f 10)) (aJ x.isNone (au d (f 2)) (cR x 2 d λh=>aJ (h != 0) (au d (f 9)) (aj d none (ae b) sM λ(e:Int×Int×Int×Int×Unit)=>x.isSome=true/\x.isSome=true/\az d (ad x 2) [aa 1] λd=>cH d (ae b) sM
 e/\x.isSome=true/\x.isSome=true/\az d (ad x 3) [aa v] λd=>cH d (ae b) sM e/\x.isSome=true/\x.isSome=true/\az d (ad x 4) [aa e.1,ay e.2.1,ay e.2.2.1,ay e.2.2.2.1] λd=>au d (f 0))))):=by kernel_rfl
theorem R7 (p:Option AC) (f g h k a b c i j:Int) (w:A2) (l:Unit->A2->Prop):(aM U2 (λ_=>[]) 155 [ag p,.agg ⟨[aa f,aa g,aa h,aa k,ay a,ay b,ay c,ay i,aa j]⟩] w l)=(
 aL w ⟨[aa f,aa g,aa h,aa k,ay a,ay b,ay c,ay i,aa j]⟩ 86 λb d=>fx p 5 d λx=>aj d none (ae b) ab0 λ(e:Int×Int×Int×Int×Int×Int×Int×Int×Int×Unit)=>aL d {toList:=[aa e.1,aa e.2.1,aa e.2.2.1,aa e.2.2.2.1,ay e.2.2.2.2.1,ay e.2.2.2.2.2.1,ay e.2.2.2.2.2.2.1,ay e.2.2.2.2.2.2.2.1,aa e.2.2.2.2.2.2.2.2.1]} 86 λb d=> ∀w1,Ext d w1->nb w1 86 9 72 ⟨[aa 0,aa 0,.int .i64
 0,aa 0,ay 0,ay 0,ay 0,ay 0,aa 0]⟩ (x.1,x.2.1,x.2.2) (some ⟨b,0,none⟩,1,1) λ(r:Option AC×Nat×Nat) d=>p.isSome=true/\p.isSome=true/\az d (ad p 5) [.slice r.1 r.2.1 r.2.2] λd=>au d (l ())):=by kernel_rfl
abbrev pR (b:(Int×Int×Unit)×Bool×Unit->A2->Prop) (c:A2) (a:Nat):Prop:=
 az c (ae a) [ay 0,aa 0] λd=>au d λw1=>aj w1 none (ae a) cI λ(x:Int×Int×Unit)=>b ((x.1,x.2.1,()),false,()) w1
abbrev wC (a:Int):Prop:=
 0<=a/\a<(↑5:Int)
abbrev wD (n:Int) (e:(Int×Int×Unit)×Bool×Unit->A2->Prop) (g:A2) (f:Nat) (b:(Int×Int×Unit)×Bool×Unit) (c:Nat) (d:Option AC):Prop:=
 az g (ae f) [ay b.1.1,aa b.1.2.1] λa=>aJ (!b.2.1) (pR e a c) (bI d 1 a λx=>d.isSome=true/\az a d [aa n,ag x,aa 0,aa 0,aa 0,ay 0,ay 0,ay 0,ag none,aa 0,ay 0,aa 0,aa 0,.slice none 0 0] λa=>aj a none (ae f) cI λ(x:Int×Int×Unit)=>az a (ae c) [ay x.1,aa x.2.1] λa=>au a λw1=>aj w1 none (ae c) cI λ(x:Int×Int×Unit)=>e ((x.1,x.2.1,()),true,()) w1)
abbrev wE (n:Int) (c:(Int×Int×Unit)×Bool×Unit->A2->Prop) (a:BT×BT×BT×BT×BT×Unit) (d:Int) (b:Option AC) (e:A2) (f:Nat) (g:Nat):Prop:=
 zX AB (match [a.1,a.2.1,a.2.2.1,a.2.2.2.1,a.2.2.2.2.1].get?Internal d.toNat with|some x=>x|none=> .tuple ⟨[]⟩) (.bG [.agg [.int .u64,.int .i64],.one .bool]) [ag b] e λ(x:(Int×Int×Unit)×Bool×Unit) h=>wD n c h f x g b
abbrev wF (p:Option AC) (n:Int) (e:(Int×Int×Unit)×Bool×Unit->A2->Prop) (d:Option AC) (f:A2) (g:Nat):Prop:=
 cR d 2 f λx=>(aB AB 68 (.el (.agg [.func,.func,.func,.func,.func])) [ag p] f λc a=>cH a (ad d 2) aU x/\True/\True/\wC x/\(zX AB (match [c.1,c.2.1,c.2.2.1,c.2.2.2.1,c.2.2.2.2.1].get?Internal x.toNat with|some x=>x|none=> .tuple ⟨[]⟩) (.bG [.agg [.int .u64,.int .i64],.one .bool]) [ag d] a λ(x:(Int×Int×Unit)×Bool×Unit) a=>aL a ⟨[ay 0,aa 0]⟩ 61 λb a=>wD n e a b
 x g d)/\aL a ⟨[ay 0,aa 0]⟩ 61 λb a=>wE n e c x d a b g)/\aL f ⟨[ay 0,aa 0]⟩ 61 λb a=>aB AB 68 (.el (.agg [.func,.func,.func,.func,.func])) [ag p] a λc a=>cH a (ad d 2) aU x/\True/\True/\wC x/\wE n e c x d a b g
theorem R8 (p:Option AC) (n:Int) (w:A2) (c:(Int×Int×Unit)×Bool×Unit->A2->Prop):(bT U3 (λ_=>[]) 31 [ag p,aa n] w c)=(
 aL w ⟨[ay 0,aa 0]⟩ 61 λb a=> ∃(x:Option AC),af AB 64 [ag p,aa n] a (ag x)/\aJ x.isNone (pR c a b) (cR x 2 a λf=>aJ (f != 3) (bI p 2 a λg=>aB AB 66 (.bG [.agg [.int .i64,.int .i64,.int .i64],.one .bool]) [ag g,aa n] a λ(d:(Int×Int×Int×Unit)×Bool×Unit) a=>aL a ⟨[aa 0,aa 0,aa 0]⟩ 147 λe a=>az a (ae e) [aa d.1.1,aa d.1.2.1,aa d.1.2.2.1] λa=>aJ d.2.1 (true=true/\aT a (ad
 (ae e) 1) λh=>true=true/\aT a (ad (ae e) 2) λi=>aB AB 67 (.bG []) [ag x,aa h,aa i] a λx a=>pR c a b) (wF p n c x a b)) (wF p n c x a b))):=by kernel_rfl
theorem HF (p:Option AC) (w:A2) (c:BT×BT×BT×BT×BT×Unit->A2->Prop):(bT U2 (λ_=>[]) 68 [ag p] w c)=(
 aL w ⟨[Dl,Dl,Dl,Dl,Dl]⟩ 154 λb a=>az a (ae b) [.func (.func 109) ⟨[ag p]⟩ ⟨[]⟩,.func (.func 110) ⟨[ag p]⟩ ⟨[]⟩,.func (.func 111) ⟨[ag p]⟩ ⟨[]⟩,.func (.func 112) ⟨[ag p]⟩ ⟨[]⟩,.func (.func 113) ⟨[ag p]⟩ ⟨[]⟩] λa=>au a λw1=>aj w1 none (ae b) (.agg [.func,.func,.func,.func,.func]) λx=>c (x.1,x.2.1,x.2.2.1,x.2.2.2.1,x.2.2.2.2.1,()) w1):=by kernel_rfl
theorem HG (p:Option AC) (t g:Int) (w:A2) (a:Unit->A2->Prop):(aM U2 (λ_=>[]) 67 [ag p,aa t,aa g] w a)=(
 aJ (g== -1) (bI p 1 w λx=>aB AB 107 (.el aU) [ag x,aa t] w λ(x:Int) b=>au b (a ())) (bI p 1 w λx=>aB AB 108 (.el oY) [ag x,aa t,aa g] w λx b=>au b (a ()))):=by kernel_rfl
def uk:Nat->a7:=(λ|4=>[(18,Go.RX.El.one (Go.RX.Sc.int Db))]| _=>[])
theorem R9 (p:Option AC) (w:A2) (b:Int->A2->Prop):(aM U2 uk 151 [ag p] w b)=(
 bI p 1 w λx=>aB AB 197 (.el oY) [ag x] w λx a=>bI p 1 a λx=>aB AB 198 (.el fZ) [ag x] a λx a=> ∃(I:Nat->Int×Unit->A2->Prop),(∃n, ∀w1,Ext a w1->I n (0,()) w1)/\ ∀(n:Nat) (s:Int×Unit) (w1:A2),I n s w1->aJ (decide (s.1<(↑x.2.1:Int))) ((x.1.isSome=true/\0<=s.1/\s.1<(↑x.2.1:Int))/\aT w1 (ad x.1 (FX s.1*1)) λx=>bI p 0 w1 λf=>aB AB 43 (.el aU) [ag f,aa x] w1 λ(h:Int) a=>sL p 4 a λg=> ∀w1,Ext a w1-> ∃(r:Nat), ∃
 (es:Array Do), ∃(c:Nat),g=some r/\bH w1 r es c/\Ag w1 r .i64 x es c λa=>aB AB 155 (.bG []) [ag p,.agg {toList:=[aa 2,aa 0,aa x,aa 0,ay 0,ay 0,ay 0,ay 0,aa 0]}] a λx a=> ∀d,Ext a d-> ∃(e:Nat),e<n/\I e (aI .i64 s.1 1,()) d) (au w1 (b (↑x.2.1:Int)))):=by kernel_rfl
theorem R_ (p x:Option AC) (w:A2) (c:(Int×Int×Unit)×Bool×Unit->A2->Prop):(bT U2 (λ_=>[]) 109 [ag p,ag x] w c)=(
 aL w ⟨[ay 0,aa 0]⟩ 61 λb a=>aB AB 151 (.el aU) [ag p] a λ(x:Int) a=>az a (ae b) [ay 0,aa 0] λa=>au a λw1=>aj w1 none (ae b) cI λ(x:Int×Int×Unit)=>c ((x.1,x.2.1,()),false,()) w1):=by kernel_rfl
theorem Mq (p x:Option AC) (w:A2) (e:(Int×Int×Unit)×Bool×Unit->A2->Prop):(bT U2 (λ_=>[]) 112 [ag p,ag x] w e)=(
 aL w ⟨[ay 0,aa 0]⟩ 61 λb a=>cR x 9 a λc=>x.isSome=true/\x.isSome=true/\(ad x 4).isSome=true/\cK a (ad (ad x 4) 1) λd=>bI p 1 a λh=>cR x 0 a λi=>aB AB 158 (.el aU) [ag h,aa i] a λ(l:Int) a=>x.isSome=true/\x.isSome=true/\(ad x 4).isSome=true/\aT a (ad (ad x 4) 0) λj=>aJ (j==7) (bI p 0 a λf=>x.isSome=true/\x.isSome=true/\(ad x 4).isSome=true/\cK a (ad (ad x 4) 2) λg=>aB AB 23 (.el jQ) [ag f] a λ
 k a=>cH a (ad (ad x 4) 2) rD g/\True/\True/\True/\aB AB 38 (.el aU) [ag k,aa (aI .i64 (iD .i64 16 c) (aG .i64 (fb d 16))),ay g] a λ(m:Int) a=>x.isSome=true/\x.isSome=true/\(ad x 4).isSome=true/\cK a (ad (ad x 4) 2) λx=>aB AB 155 (.bG []) [ag p,.agg {toList:=[aa 4,aa 0,aa (aI .i64 (iD .i64 16 c) (aG .i64 (fb d 16))),aa 0,ay 0,ay 0,ay 0,ay x,aa 0]}] a λx a=>az a (ae b) [.int .u64
 0,aa 0] λa=>au a λw1=>aj w1 none (ae b) cI λ(x:Int×Int×Unit)=>e ((x.1,x.2.1,()),true,()) w1) (bI p 0 a λx=>aB AB 23 (.el jQ) [ag x] a λx a=>aB AB 37 (.bG [.one (.int .u64),.one (.int .i64)]) [ag x,aa (aI .i64 (iD .i64 16 c) (aG .i64 (fb d 16)))] a λ(x:Int×Int×Unit) a=>aB AB 155 (.bG []) [ag p,.agg {toList:=[aa 3,aa 0,aa (aI .i64 (iD .i64 16 c) (aG .i64 (fb d 16))),aa 0,ay 0,ay 0,
 ay 0,ay x.1,aa 0]}] a λf a=>az a (ae b) [ay x.1,aa 0] λa=>au a λw1=>aj w1 none (ae b) cI λ(x:Int×Int×Unit)=>e ((x.1,x.2.1,()),true,()) w1)):=by kernel_rfl
theorem Sa (p x:Option AC) (w:A2) (e:(Int×Int×Unit)×Bool×Unit->A2->Prop):(bT U2 (λ_=>[]) 111 [ag p,ag x] w e)=(
 aL w ⟨[ay 0,aa 0]⟩ 61 λb a=>bI x 8 a λg=>bI p 0 a λj=>aB AB 23 (.el jQ) [ag j] a λk a=>cH a (ad x 8) jQ g/\True/\True/\aB AB 22 (.el oY) [ag g,ag k] a λl a=>aJ (!l) (az a (ae b) [ay 0,aa 0] λa=>au a λw1=>aj w1 none (ae b) cI λ(x:Int×Int×Unit)=>e ((x.1,x.2.1,()),false,()) w1) (bI x 8 a λm=> ∃(c:(Int×Int×Int×Int×Unit)×Bool×Unit),af AB 24 [ag m] a (.tuple {toList
 :=[.agg ⟨[aa c.1.1,aa c.1.2.1,aa c.1.2.2.1,aa c.1.2.2.2.1]⟩,.bool c.2.1]})/\aL a ⟨[aa 0,aa 0,aa 0,aa 0]⟩ 48 λd a=>az a (ae d) [aa c.1.1,aa c.1.2.1,aa c.1.2.2.1,aa c.1.2.2.2.1] λa=>true=true/\aT a (ad (ae d) 3) λn=>aJ (n != 0) (bI p 1 a λf=>cR x 0 a λx=>aB AB 158 (.el aU) [ag f,aa x] a λ(x:Int) a=>true=true/\aT a (ad (ae d) 3) λx=>az a (ae b) [ay 0,aa x]
 λa=>au a λw1=>aj w1 none (ae b) cI λ(x:Int×Int×Unit)=>e ((x.1,x.2.1,()),true,()) w1) (bI x 1 a λf=>cR x 3 a λo=> ∃(h:Int),af AB 160 [ag x] a (aa h)/\true=true/\aT a (ad (ae d) 0) λq=>true=true/\aT a (ad (ae d) 1) λr=>aB AB 159 (.el aU) [ag f,.agg ⟨[aa o,aa h,aa q,aa r]⟩] a λ(s:Int) a=>true=true/\aT a (ad (ae d) 0) λi=>x.isSome=true/\x.isSome=true/\az a
 (ad x 2) [aa 3] λa=>cH a (ad (ae d) 0) aU i/\True/\x.isSome=true/\x.isSome=true/\az a (ad x 9) [aa i] λa=>az a (ae b) [ay 0,aa 0] λa=>au a λw1=>aj w1 none (ae b) cI λ(x:Int×Int×Unit)=>e ((x.1,x.2.1,()),false,()) w1))):=by kernel_rfl
def um:Nat->a7:=(λ|4=>[(24,Go.RX.El.one (Go.RX.Sc.int Db))]| _=>[])
theorem Sb (p x:Option AC) (w:A2) (d:(Int×Int×Unit)×Bool×Unit->A2->Prop):(bT U2 um 113 [ag p,ag x] w d)=(
 aL w ⟨[ay 0,aa 0]⟩ 61 λb a=>bI p 2 a λh=>cR x 12 a λi=> ∃e,af AB 161 [ag h,aa i] a (.bool e)/\aJ (!e) (az a (ae b) [ay 0,aa 0] λa=>au a λw1=>aj w1 none (ae b) cI λ(x:Int×Int×Unit)=>d ((x.1,x.2.1,()),false,()) w1) (fx x 13 a λc=> ∃(I:Nat->Int×Unit->A2->Prop),(∃n, ∀w1,Ext a w1->I n (0,()) w1)/\ ∀(n:Nat) (s:Int×Unit) (w1:A2),I n s w1->aJ (decide (s.1<(↑c.2.1:Int))) ((c.1.isSome=true/\0<=s.1
 /\s.1<(↑c.2.1:Int))/\aT w1 (ad c.1 (FX s.1*1)) λx=>bI p 1 w1 λj=>aB AB 162 (.el aU) [ag j,aa x] w1 λ(x:Int) a=> ∀f,Ext a f-> ∃(g:Nat),g<n/\I g (aI .i64 s.1 1,()) f) (x.isSome=true/\x.isSome=true/\aj w1 none (ad x 10) cI λ(x:Int×Int×Unit)=>az w1 (ae b) [ay x.1,aa x.2.1] λa=>au a λw1=>aj w1 none (ae b) cI λ(x:Int×Int×Unit)=>d ((x.1,x.2.1,()),true,()) w1))):=by kernel_rfl
theorem HJ (p x:Option AC) (w:A2) (e:Bool->A2->Prop):(aM U2 (λ_=>[]) 152 [ag p,ag x] w e)=(
 ∃(a:Int),af AB 199 [ag x] w (aa a)/\(decide (a>0)=true->p.isSome=true)/\(decide (a>0)=true->p.isSome=true)/\aj w (some (decide (a>0))) (ad p 0) jQ λf=>(decide (a>0)=true->x.isSome=true)/\(decide (a>0)=true->x.isSome=true)/\aj w (some (decide (a>0))) (ad x 3) aU λ(g:Int)=> ∃b,(decide (a>0)=true->af AB 19 [ag f,aa g] w (.bool b))/\((decide (a>0)&&b)=true->x.isSome=true)/\((decide (a>0)&&b)=true->x.isSome=true)/\aj w
 (some (decide (a>0)&&b)) (ad x 4) sM λ(d:Int×Int×Int×Int×Unit)=> ∃c,((decide (a>0)&&b)=true->af AB 76 [.agg ⟨[aa d.1,ay d.2.1,ay d.2.2.1,ay d.2.2.2.1]⟩] w (.bool c))/\((decide (a>0)&&b&&c)=true->x.isSome=true)/\((decide (a>0)&&b&&c)=true->x.isSome=true)/\((decide (a>0)&&b&&c)=true->(ad x 4).isSome=true)/\aj w (some (decide (a>0)&&b&&c)) (ad (ad x 4) 1) rD λ(x:Int)=>au w (e (decide (a>0)&&b&&c&&decide
 (x<1048576)))):=by kernel_rfl
def oG:Nat->a7:=(λ|2=>[(12,Go.RX.El.one (Go.RX.Sc.int Db))]| _=>[])
theorem Fg (p x:Option AC) (w:A2) (i:Bool->A2->Prop):(aM U2 oG 154 [ag p,ag x] w i)=(
 fx p 3 w λj=> ∃(I:Nat->Int×Unit->A2->Prop),(∃n, ∀w1,Ext w w1->I n (0,()) w1)/\ ∀(n:Nat) (s:Int×Unit) (w1:A2),I n s w1->aJ (decide (s.1<(↑j.2.1:Int))) ((j.1.isSome=true/\0<=s.1/\s.1<(↑j.2.1:Int))/\f_ w1 (ad j.1 (FX s.1*1)) λa=>Xi w1 a x/\((!decide (a=x))=true->x.isSome=true)/\((!decide (a=x))=true->x.isSome=true)/\aj w1 (some !decide (a=x)) (ad x 3) aU λ(k:Int)=>aJ (decide (a=x)||k != 0) (∀f,Ext w1 f-> ∃(g:Nat),g<n/\I g (aI .i64 s.1 1,
 ()) f) (x.isSome=true/\x.isSome=true/\(ad x 4).isSome=true/\aT w1 (ad (ad x 4) 0) λd=>((d==1)=true->a.isSome=true)/\((d==1)=true->a.isSome=true)/\aj w1 (some (d==1)) (ad a 2) aU λ(h:Int)=>((d==1&&h==4)=true->a.isSome=true)/\((d==1&&h==4)=true->a.isSome=true)/\((d==1&&h==4)=true->(ad a 4).isSome=true)/\aj w1 (some (d==1&&h==4)) (ad (ad a 4) 0) aU λ(l:Int)=>aJ (d==1&&h==4&&l==2) (au w1 (i true)) (x.isSome=true/\
 x.isSome=true/\(ad x 4).isSome=true/\aT w1 (ad (ad x 4) 0) λb=>((b==2)=true->a.isSome=true)/\((b==2)=true->a.isSome=true)/\aj w1 (some (b==2)) (ad a 2) aU λ(c:Int)=>((b==2&&decide (c>=2))=true->a.isSome=true)/\((b==2&&decide (c>=2))=true->a.isSome=true)/\aj w1 (some (b==2&&decide (c>=2))) (ad a 3) aU λ(e:Int)=>((b==2&&decide (c>=2)&&decide (e>0))=true->a.isSome=true)/\((b==2&&decide (c>=2)&&decide (e>0))=true->a.isSome=true)/\
 aj w1 (some (b==2&&decide (c>=2)&&decide (e>0))) (ad a 3) aU λ(m:Int)=>((b==2&&decide (c>=2)&&decide (e>0))=true->x.isSome=true)/\((b==2&&decide (c>=2)&&decide (e>0))=true->x.isSome=true)/\((b==2&&decide (c>=2)&&decide (e>0))=true->(ad x 4).isSome=true)/\aj w1 (some (b==2&&decide (c>=2)&&decide (e>0))) (ad (ad x 4) 1) rD λ(x:Int)=>aJ (b==2&&decide (c>=2)&&decide (e>0)&&aG .u64 m==x) (au w1 (i true)) (∀f,Ext w1 f-> ∃(g:Nat),g<n/\
 I g (aI .i64 s.1 1,()) f)))) (au w1 (i false))):=by kernel_rfl
def oH:Nat->a7:=(λ|4=>[(4,Go.RX.El.one Go.RX.Sc.slice),(15,Go.RX.El.one (Go.RX.Sc.int Db))]| _=>[])
theorem Fh (p:Option AC) (w:A2) (f:Option AC×Nat×Nat->A2->Prop):(aM U2 oH 156 [ag p] w f)=(
 bI p 0 w λx=>aB AB 18 (.el jQ) [ag x] w λx a=> ∃(g:Int),af AB 62 [ag x] a (aa g)/\ ∃(I:Nat->(Option AC×Nat×Nat)×Int×Unit->A2->Prop),(∃n, ∀w1,Ext a w1->I n ((none,0,0),0,()) w1)/\ ∀(n:Nat) (s:(Option AC×Nat×Nat)×Int×Unit) (w1:A2),I n s w1->aJ (decide (s.2.1<g)) (∃(c:(Int×Int×Int×Int×Unit)×Bool×Unit),af AB 25 [ag x,aa s.2.1] w1 (.tuple {toList:=[.agg ⟨[aa c.1.1,aa c.1.2.1,aa c.1.2.2.1,.int .i64
 c.1.2.2.2.1]⟩,.bool c.2.1]})/\aL w1 ⟨[aa 0,aa 0,aa 0,aa 0]⟩ 52 λb a=>az a (ae b) [aa c.1.1,aa c.1.2.1,aa c.1.2.2.1,aa c.1.2.2.2.1] λa=>true=true/\aT a (ad (ae b) 0) λx=>((x==5)=true->p.isSome=true)/\((x==5)=true->p.isSome=true)/\aj a (some (x==5)) (ad p 4) NS λj=> ∃h,((x==5)=true->jT a j .i64 s.2.1 (.bool false) (.bool h))/\aJ (x==5&& !h) (sL p 4 a λx=> ∀w1,Ext a w1-> ∃(r:Nat), ∃(es:Array Do), ∃(i:Nat),x
 =some r/\bH w1 r es i/\gU w1 r .i64 s.2.1 (.bool true) es i λa=>aL a ⟨[aa s.2.1]⟩ 3 λb a=> ∀w1,Ext a w1->nb w1 3 1 8 ⟨[aa 0]⟩ (s.1.1,s.1.2.1,s.1.2.2) (some ⟨b,0,none⟩,1,1) λ(r:Option AC×Nat×Nat) a=> ∀d,Ext a d-> ∃(e:Nat),e<n/\I e ((r.1,r.2.1,r.2.2),aI .i64 s.2.1 1,()) d) (∀d,Ext a d-> ∃(e:Nat),e<n/\I e ((s.1.1,s.1.2.1,s.1.2.2),aI .i64 s.2.1 1,()) d)) (au w1 (f (s.1.1,s.1.2.1,s.1.2.2)))):=by kernel_rfl
abbrev uo (b:(Int×Int×Unit)×Bool×Unit->A2->Prop) (c:A2) (a:Nat):Prop:=
 az c (ae a) [ay 0,aa 0] λd=>au d λw1=>aj w1 none (ae a) cI λ(x:Int×Int×Unit)=>b ((x.1,x.2.1,()),false,()) w1
abbrev oe (a:(Int×Int×Unit)×Bool×Unit->A2->Prop) (b:A2) (c:Nat):Prop:=
 au b λw1=>aj w1 none (ae c) cI λ(x:Int×Int×Unit)=>a ((x.1,x.2.1,()),true,()) w1
abbrev uq (x:Option AC) (a:Int):Prop:=
 (a==0)=true->x.isSome=true
abbrev jh (x:Option AC) (c:(Int×Int×Unit)×Bool×Unit->A2->Prop) (a:A2) (b:Nat):Prop:=
 x.isSome=true/\x.isSome=true/\aj a none (ad x 10) cI λ(x:Int×Int×Unit)=>az a (ae b) [ay x.1,aa x.2.1] λd=>oe c d b
abbrev ur (x:Option AC) (b:(Int×Int×Unit)×Bool×Unit->A2->Prop) (c:A2) (d:Int×Int×Unit) (e:Nat):Prop:=
 x.isSome=true/\x.isSome=true/\az c (ad x 12) [aa d.1] λa=>x.isSome=true/\x.isSome=true/\az a (ad x 2) [aa 4] λa=>uo b a e
abbrev og (p:Option AC) (x:Option AC) (c:(Int×Int×Unit)×Bool×Unit->A2->Prop) (b:A2) (d:Nat) (e:Int) (f:Int):Prop:=
 x.isSome=true/\x.isSome=true/\(ad x 10).isSome=true/\aT b (ad (ad x 10) 1) λg=>aJ (g != 0) (jh x c b d) (aB AB 67 (.bG []) [ag x,aa e,aa (aG .i64 f)] b λk a=>bI p 2 a λh=>cR x 0 a λi=>aB AB 157 (.bG [.one (.int .i64),.one (.int .i64)]) [ag h,aa i,aa e,aa (aG .i64 f)] a λ(j:Int×Int×Unit) a=>ur x c a j d)
theorem Ms (p x:Option AC) (w:A2) (c:(Int×Int×Unit)×Bool×Unit->A2->Prop):(bT U2 (λ_=>[]) 110 [ag p,ag x] w c)=(
 aL w ⟨[ay 0,aa 0]⟩ 61 λb a=> ∃l,af AB 152 [ag p,ag x] a (.bool l)/\aJ l (aB AB 153 (.bG []) [ag p,ag x] a λx a=>uo c a b) (∃m,af AB 154 [ag p,ag x] a (.bool m)/\aJ m (az a (ae b) [ay 0,aa 9] λa=>oe c a b) (cR x 3 a λe=>uq x e/\uq x e/\aj a (some (e==0)) (ad x 4) sM λ(f:Int×Int×Int×Int×Unit)=>aJ (e==0&&(f.1==17&&(f.2.1==0&&(f.2.2.1==0&&
 (f.2.2.2.1==0&&true))))) (aB AB 151 (.el aU) [ag p] a λ(x:Int) a=>az a (ae b) [ay (aG .u64 x),aa 0] λa=>oe c a b) (bI p 0 a λr=>cR x 3 a λs=>x.isSome=true/\x.isSome=true/\aj a none (ad x 4) sM λ(g:Int×Int×Int×Int×Unit)=>aB AB 42 (.el cI) [ag r,aa s,.agg ⟨[aa g.1,ay g.2.1,ay g.2.2.1,ay g.2.2.2.1]⟩] a λ(n:Int×Int×Unit) a=>x.isSome=true/\x.isSome=true/\az a (ad x 10) [ay n.1,
 aa n.2.1] λa=>cR x 3 a λt=>x.isSome=true/\x.isSome=true/\aj a none (ad x 4) sM λ(h:Int×Int×Int×Int×Unit)=>x.isSome=true/\x.isSome=true/\aj a none (ad x 10) cI λ(o:Int×Int×Unit)=>aB AB 155 (.bG []) [ag p,.agg {toList:=[aa 1,aa t,aa 0,aa h.1,ay h.2.1,ay h.2.2.1,ay h.2.2.2.1,ay o.1,aa o.2.1]}] a λA a=>aB AB 156 (.el fZ) [ag p] a λi a=>x.isSome=true/\x.isSome=true/\
 az a (ad x 13) [.slice i.1 i.2.1 i.2.2] λa=>cR x 3 a λj=>x.isSome=true/\x.isSome=true/\(ad x 4).isSome=true/\cK a (ad (ad x 4) 1) λk=>x.isSome=true/\x.isSome=true/\(ad x 4).isSome=true/\aT a (ad (ad x 4) 0) λd=>aJ (d==2) (x.isSome=true/\x.isSome=true/\(ad x 4).isSome=true/\cK a (ad (ad x 4) 1) λq=>x.isSome=true/\x.isSome=true/\(ad x 10).isSome=true/\aT a (ad (ad x 10) 1) λu=>aJ (u != 0) (jh x c a b) (aB AB 67 (.bG []) [.pointer
 x,aa (aG .i64 q),aa (-1)] a λB a=>bI p 2 a λv=>cR x 0 a λy=>aB AB 157 (.bG [.one (.int .i64),.one (.int .i64)]) [ag v,aa y,aa (aG .i64 q),aa (-1)] a λ(z:Int×Int×Unit) a=>ur x c a z b)) (aJ (d==4) (aJ (d==4) (og p x c a b j k) (jh x c a b)) (aJ (d==5) (aJ (d==5) (og p x c a b j k) (jh x c a b)) (aJ (d==10) (og p x c a b j k) (jh x c a
 b)))))))):=by kernel_rfl
theorem Se (p x:Option AC) (w:A2) (c:Unit->A2->Prop):(aM U2 (λ_=>[]) 153 [ag p,ag x] w c)=(
 bI p 1 w λi=>cR x 0 w λj=>aB AB 200 (.el aU) [ag i,aa j] w λ(q:Int) a=>bI x 1 a λk=>cR x 3 a λl=> ∃(d:Int),af AB 160 [ag x] a (aa d)/\ ∃(e:Int),af AB 199 [ag x] a (aa e)/\ ∃(b:Int×Int×Unit),af AB 201 [ag k,aa l,aa d,aa e] a (.tuple ⟨[aa b.1,aa b.2.1]⟩)/\aJ (b.2.1==0) (x.isSome=true/\x.isSome=true/\az a (ad x 2) [aa 3] λa=>x.isSome=true/\
 x.isSome=true/\az a (ad x 9) [aa b.1] λa=>au a (c ())) (bI p 0 a λm=>cR x 3 a λn=> ∃(f:Int),af AB 21 [ag m,aa n] a (aa f)/\ ∃(g:Int),af AB 160 [ag x] a (aa g)/\ ∃(h:Int),af AB 199 [ag x] a (aa h)/\aB AB 20 (.el jQ) [aa f,aa g,aa h] a λo a=>x.isSome=true/\x.isSome=true/\az a (ad x 2) [aa 2] λa=>x.isSome=true/\x.isSome=true/\az a (ad x 8)
 [ag o] λa=>au a (c ()))):=by kernel_rfl
theorem Mt (p:Option AC) (w:A2) (a:Option AC->A2->Prop):(aM U2 (λ_=>[]) 17 [ag p] w a)=(
 aJ p.isNone (au w (a none)) (bI p 0 w λx=>au w (a x))):=by kernel_rfl
theorem Fi (p:Option AC) (w:A2) (a:Option AC×Nat×Nat->A2->Prop):(aM U2 (λ_=>[]) 32 [ag p] w a)=(
 aJ p.isNone (au w (a (none,0,0))) (bI p 1 w λx=>aB AB 69 (.el fZ) [ag x] w λx b=>au b (a (x.1,x.2.1,x.2.2)))):=by kernel_rfl
def wG:Nat->a7:=(λ|10=>[(45,Go.RX.El.one (Go.RX.Sc.int Db))]| _=>[])
theorem VK (f c l:Int) (w:A2) (d:Option AC×Int×Unit->A2->Prop):(aM U2 wG 52 [aa f,aa c,aa l] w d)=(
 aB AB 40 (.bG [.one .ptr,.one (.int .i64)]) [aa f] w λ(x:Option AC×Int×Unit) a=>aJ (x.2.1 != 0) (au a (d (none,x.2.1,()))) (aB AB 84 (.bG [.one .ptr,.one (.int .i64)]) [aa c] a λ(e:Option AC×Int×Unit) a=>aJ (e.2.1 != 0) (au a (d (none,e.2.1,()))) (∀w1,Ext a w1->aL (w1.alloc (Obj.map ⟨[]⟩ 0)) ⟨[ag x.1,ag e.1,ag none,.slice none 0 0,.map (some w1.heap.size),.slice none 0 0]⟩ 103 λb a=>aB AB 85 (.bG [.one .ptr,.one (.int .i64)]) [aa c] a λ(x:
 Option AC×Int×Unit) a=>true=true/\true=true/\az a (ad (ae b) 2) [ag x.1] λa=> ∃(I:Nat->Int×Unit->A2->Prop),(∃n, ∀w1,Ext a w1->I n (0,()) w1)/\ ∀(n:Nat) (s:Int×Unit) (w1:A2),I n s w1->aJ (decide (s.1<c)) (aB AB 86 (.bG [.one .ptr,.one (.int .i64)]) [aa l] w1 λ(x:Option AC×Int×Unit) a=>aJ (x.2.1 != 0) (au a (d (none,x.2.1,()))) (true=true/\true=true/\sJ a (ad (ae b) 3) λg=>aL a {toList:=[aa s.1,ag x.1,aa 0,aa 0,aa 0,
 ay 0,ay 0,ay 0,ag none,aa 0,ay 0,aa 0,aa 0,.slice none 0 0]} 143 λj a=>aL a {toList:=[ag (ae j)]} 139 λk a=> ∀w1,Ext a w1->nb w1 139 1 8 ⟨[ag none]⟩ (g.1,g.2.1,g.2.2) (some ⟨k,0,none⟩,1,1) λ(r:Option AC×Nat×Nat) a=>true=true/\true=true/\az a (ad (ae b) 3) [.slice r.1 r.2.1 r.2.2] λa=> ∀h,Ext a h-> ∃(i:Nat),i<n/\I i (aI .i64 s.1 1,()) h)) (au w1 (d (some ⟨b,0,none⟩,0,())))))):=by kernel_rfl
end Go.Proofs.YtlcenllcmeebhaaGreat.Mu
namespace Go.Proofs.YtlcenllcmeebhaaGreat
set_option maxRecDepth 100000
open Go.RX D
namespace Inv
variable {g:Gh} {s s':WD}
structure fq (g:Gh) (s s':WD):Prop where
 len:s'.1.length=s.1.length/\s'.2.length=s.2.length
 ws: ∀{f o x k:Int} {l:Nat},g f=some (o,l,x)->0<=k->k<16->dL s'.1 (16*f+k)=dL s.1 (16*f+k)
 tb: ∀{n:Nat} {d:DT},s.2[n]? =some d->d.1=3->s'.2[n]? =some d
 bt: ∀{n:Nat} {d:DT},s'.2[n]? =some d->d.1=3->s.2[n]? =some d
 fz: ∀d∈s'.2,d.1=0->d=zD
theorem fq.XV (B:fq g s s') {f o x k:Int} {l:Nat} (h:g f=some (o,l,x)) (h0:0<=k) (h1:k<16):aN s'.1 (16*f+k)=aN s.1 (16*f+k):=by
 unfold aN;rw[B.ws h h0 h1]
theorem beside (I:Inv g s) (B:fq g s s'):Inv g s' where
 len:=by rw[B.len.1,B.len.2];exact I.len
 le:=by rw[B.len.2];exact I.le
 fz:=B.fz
 kd:=λ{f o l x} h=>by
  obtain⟨a,b,c,d⟩:=I.kd h;rw[B.len.2];exact⟨a,b,B.tb c rfl,d⟩
 inj:=I.inj
 sj:=λ{f o l x i} h h0 h1 e=>by
  rw[B.XV h h0 h1] at e ⊢;exact I.sj h h0 h1 e
 leaf:=λ{f o l x i} h h0 h1=>by
  rw[B.XV h h0 h1];exact I.leaf h h0 h1
 Fu:=λ{f o l x} h m=>by
  obtain⟨f',h1,p⟩:=I.Fu h m;refine⟨f',h1,?_⟩;rw[B.XV h1 (by omega) (by omega)];exact p
 wf:=λ{f o l x i} h h0 h1 j=>by
  rw[B.XV h h0 h1] at j;rw[B.ws h h0 h1];exact I.wf h h0 h1 j
 tb:=λ{n d} h k=>I.tb (B.bt h k) k
theorem HK (B:fq g s s') {o p f:Int} {j:Nat} (h:dD g s o p f j):dD g s' o p f j:=
 ⟨h.1,by rw[B.XV h.1 (ee p j).1 (ee p j).2];exact h.2⟩
theorem xK {r p:Int} (a: ¬ (0<=p/\p<65536)):bC s r false p=(0,0,2,()):=by
 unfold bC;rw[ao (by decide),ax (by omega)]
theorem dU (I:Inv g s) (B:fq g s s') {o r:Int} (b:g r=some (o,3,0)) (p:Int):bC s' r false p=bC s r false p:=by
 by_cases a:0<=p/\p<65536
 ·obtain⟨f,j, _,c⟩:=I.mq b a;rw[I.fO b a c,(I.beside B).fO b a (HK B c),B.XV c.1 (ee p j).1 (ee p j).2]
 ·rw[xK a,xK a]
theorem m8 (B:fq g s s') (h:Ad g s):Ad g s':=λf o l x i a h0 h1 b c=>by
 rw[B.XV a h0 h1] at b c;exact h a h0 h1 b c
theorem ZJ (s:WD) (r:Int) {p:Int} (a:0<=p/\p<65536):(bC s r false p).2.2.1=0\/bC s r false p=(0,0,4,()):=by
 unfold bC;rw[ao (by decide),ao (by omega)];split
 ·exact .inl rfl
 ·exact .inr rfl
theorem acj (I:Inv g s) (nl:Ad g s) {o r p:Int} (b:g r=some (o,3,0)) (c:0<=p/\p<65536) (h:(bC s r false p).2.2.1=0): ∃f,dD g s o p f 0/\(aN s.1 (16*f+px 0 p % 16)).1=true/\(dA s.1 r p).2.1=0:=by
 obtain⟨f,j, _,a⟩:=I.mq b c;rw[I.fO b c a] at h;have d:=CD h;have e:=nl a.1 (ee p j).1 (ee p j).2 d a.2;subst e;refine⟨f,a,d,?_⟩;rw[(I.nU b c a).1];rfl
theorem ack (I:Inv g s) (nl:Ad g s) {o r p:Int} (a:g r=some (o,3,0)) (b:0<=p/\p<65536) (h:(bC s r false p).2.2.1=0):lR s o r p=0:=by
 obtain⟨_, _, _,e⟩:=I.acj nl a b h;unfold lR;rw[ax e]
theorem aay (I:Inv g s) (nl:Ad g s) {o r p:Int} (a:g r=some (o,3,0)) (b:0<=p/\p<65536) (h:(bC s r false p).2.2.1=0):B7 s o r false p=0:=by
 unfold B7;rw[ax h];exact I.ack nl a b h
theorem Pf (I:Inv g s) {o r p:Int} (c:g r=some (o,3,0)) (h:(bC s r false p).2.2.1=0):(0<=p/\p<65536)/\0<=(bC s r false p).1:=by
 have a:0<=p/\p<65536:=by
  by_cases a:0<=p/\p<65536
  ·exact a
  ·rw[xK a] at h;exact absurd h (by decide)
 refine⟨a,?_⟩;obtain⟨f,j, _,i⟩:=I.mq c a;rw[I.fO c a i] at h ⊢;have b:=CD h;have d:=lG s.1 (16*f+px j p % 16);unfold l_;rw[ax b];generalize aN s.1 (16*f+px j p % 16)=e at*
 obtain⟨ep,er,el,ef,k⟩:=e;dsimp only at b d;subst b;obtain⟨l,m,n,q,t⟩:=l5.1 d;dsimp only;split<;>omega
end Inv
set_option maxRecDepth 100000
open Go.RX D
def lh {α:Type} (F:Nat->α) (v:Nat) (y:α):Nat->α:=λi=>if i=v then y else F i
theorem kU {α:Type} (F:Nat->α) (v:Nat) (y:α):lh F v y v=y:=ax rfl
theorem nW {α:Type} {F:Nat->α} {v i:Nat} (h:i≠v) (y:α):lh F v y i=F i:=ao h
theorem CH (F:Nat->Nat) (v y:Nat): ∀n,((B9 n).map (lh F v y)).sum+(if v<n then F v else 0)=((B9 n).map F).sum+(if v<n then y else 0)
 |0=>rfl
 |n+1=>by
  have b:=CH F v y n;rw[List.range_succ,FY,FY,Fo,Fo];simp only[DJ,List.map_nil,E5,List.sum_nil];by_cases h:v=n
  ·subst h;rw[kU];rw[ao (Nat.lt_irrefl _),ao (Nat.lt_irrefl _)] at b;rw[ax (H7 _),ax (H7 _)];omega
  ·rw[nW (λe=>h e.symm)];by_cases a:v<n
   ·rw[ax a,ax a] at b;rw[ax (by omega),ax (by omega)];omega
   ·rw[ao a,ao a] at b;rw[ao (by omega),ao (by omega)];omega
def nC (tk:Nat->List TK) (q:TK->Bool):Nat:=((B9 17).map λi=>(tk i).countP q).sum
theorem ze (tk:Nat->List TK) (q:TK->Bool) {v:Nat} (hv:v<17) (y:List TK):nC (lh tk v y) q+(tk v).countP q=nC tk q+y.countP q:=by
 have h:=CH (λi=>(tk i).countP q) v (y.countP q) 17;rw[ax hv,ax hv] at h;have e:(λi=>(lh tk v y i).countP q)=lh (λi=>(tk i).countP q) v (y.countP q):=by
  funext i;unfold lh;split<;>rfl
 unfold nC;rw[e];exact h
theorem zf {tk:Nat->List TK} {q:TK->Bool} (h:0<nC tk q): ∃i t,i<17/\t∈tk i/\q t=true:=by
 unfold nC at h;have: ∀l:List Nat,0<(l.map λi=>(tk i).countP q).sum-> ∃i t,i∈l/\t∈tk i/\q t=true:=by
  intro l
  induction l with
  |nil=>intro h;simp at h
  |cons i l b=>
   intro h;rw[DJ,E5] at h;by_cases h1:0<(tk i).countP q
   ·obtain⟨t,a,c⟩:=Ds.1 h1;exact⟨i,t,Bx,a,c⟩
   ·obtain⟨j,t,d,a⟩:=b (by omega);exact⟨j,t,C6 _ d,a⟩
 obtain⟨i,t,hi,a⟩:=this _ h;exact⟨i,t,Dc.1 hi,a⟩
theorem BB {tk:Nat->List TK} {q:TK->Bool} (h: ∀i t,t∈tk i->q t=false):nC tk q=0:=by
 rcases DG (nC tk q) with e|e
 ·exact e
 ·obtain⟨i,t, _,b,a⟩:=zf e;rw[h i t b] at a;cases a
theorem nX {tk:Nat->List TK} {q:TK->Bool} {i:Nat} {t:TK} (hi:i<17) (a:t∈tk i) (b:q t=true):0<nC tk q:=by
 have h:=ze tk q hi [];have c:0<(tk i).countP q:=Ds.2 ⟨t,a,b⟩;simp only[List.countP_nil] at h;omega
def eo (tk:Nat->List TK) (f:Int):Nat:=nC tk λt=>t.2.2==f
def mN (tk:Nat->List TK) (a:Int):Nat:=nC tk λt=>t.2.1==a
abbrev Ih:Type:=Nat->Int->Option Int
def nE (fr:Ih) (v:Nat) (p:Int) (y:Option Int):Ih:=λi q=>if i=v/\q=p then y else fr i q
theorem fJ (fr:Ih) (v:Nat) (p:Int) (y:Option Int):nE fr v p y v p=y:=ax ⟨rfl,rfl⟩
theorem bJ {fr:Ih} {v i:Nat} {p q:Int} (h: ¬ (i=v/\q=p)) (y:Option Int):nE fr v p y i q=fr i q:=ao h
def TC (gr:List GT) (fr:Ih) (tk:Nat->List TK) (a:Int) (i o:Nat) (f:Int):Prop:=
 ∃k x,lT gr a=some k/\gr[k]? =some x/\x.1=(o:Int)/\x.2.2.1=(i:Int)/\fr o x.2.1=some f/\cg (tk o) x.2.1=none
structure HC (fr:Ih) (tk:Nat->List TK) (ds:List DT) (gr:List GT):Prop where
 jj: ∀{i p f},fr i p=some f->1<=i/\i<=16/\0<=p/\p<65536
 kd: ∀{n:Nat} {d:DT},ds[n]? =some d->(d.1=0\/d.1=3\/d.1=4\/d.1=5)/\d.2.2.2.1=0/\0<=d.2.1/\d.2.1<=16
 Tf: ∀{n:Nat} {d:DT},ds[n]? =some d->d.1=4-> ∃(i:Nat) (p:Int),(i:Int)=d.2.1/\fr i p=some (n:Int)/\cg (tk i) p=none
 own: ∀{i p f},fr i p=some f->cg (tk i) p=none-> ∃(n:Nat) (d:DT),(n:Int)=f/\ds[n]? =some d/\d.1=4/\d.2.1=(i:Int)
 C': ∀{i p a f},cg (tk i) p=some (a,f)->fr i p=some f/\ ∃o:Nat,o≠i/\TC gr fr tk a i o f
 nd: ∀i,((tk i).map (·.1)).Nodup
 inj: ∀{i p p' f},fr i p=some f->fr i p'=some f->cg (tk i) p=none->cg (tk i) p'=none->p=p'
 refs: ∀{n:Nat} {d:DT},ds[n]? =some d->d.2.2.1=(eo tk (n:Int):Int)
 uU: ∀{n:Nat} {x:GT},gr[n]? =some x->x.2.2.2.2.1=(mN tk (n:Int):Int)
 gl:gr.length=16
 gk:om gr
theorem ft {gr:List GT} {a:Int} {k:Nat}:lT gr a=some k<->(k:Int)=a/\k<gr.length/\gr.getD k zG≠zG:=by
 unfold lT;constructor
 ·intro h;split at h
  ·rename_i c;cases h;exact⟨by omega,by omega,c.2.2⟩
  ·cases h
 ·rintro⟨rfl,h1,b⟩;rw[ax ⟨by omega,by omega,b⟩];rfl
theorem getD_some {gr:List GT} {k:Nat} {x:GT} (h:gr[k]? =some x):gr.getD k zG=x:=by
 rw[B1,h];rfl
namespace HC
variable {fr:Ih} {tk:Nat->List TK} {ds:List DT} {gr:List GT}
theorem N8 (H:HC fr tk ds gr) {i:Nat} {t:TK} (h:t∈tk i):cg (tk i) t.1=some t.2:=(jJ (a:=t.2.1) (b:=t.2.2) (H.nd i)).2 h
theorem J' (H:HC fr tk ds gr) {i:Nat} {p a f:Int} (h:cg (tk i) p=some (a,f)):(p,a,f)∈tk i:=(jJ (H.nd i)).1 h
theorem aaz (H:HC fr tk ds gr) {i:Nat} {p a f:Int} (h:cg (tk i) p=some (a,f)): ∃(n:Nat) (d:DT) (o:Nat),(n:Int)=f/\ds[n]? =some d/\d.1=4/\d.2.1=(o:Int)/\o≠i/\TC gr fr tk a i o f:=by
 obtain⟨_,o,e,g⟩:=H.C' h;obtain⟨k,x,h1,j,l,m,b,c⟩:=g;obtain⟨n,d,q,r,s,t⟩:=H.own b c;exact⟨n,d,o,q,r,s,t,e,k,x,h1,j,l,m,b,c⟩
theorem at4 (H:HC fr tk ds gr) {i:Nat} {p f:Int} (h:fr i p=some f): ∃(n:Nat) (d:DT),(n:Int)=f/\ds[n]? =some d/\d.1=4:=by
 cases b:cg (tk i) p with
 |none=>
  obtain⟨n,d,h1,c,e, _⟩:=H.own h b;exact⟨n,d,h1,c,e⟩
 |some y=>
  obtain⟨a,f'⟩:=y;obtain⟨n,d,o,h1,c,e, _⟩:=H.aaz b;have:=(H.C' b).1;rw[h] at this;cases this;exact⟨n,d,h1,c,e⟩
theorem Iy (H:HC fr tk ds gr) {n:Nat} (h:0<eo tk (n:Int)): ∃d,ds[n]? =some d/\d.1=4:=by
 obtain⟨i,t, _,a,b⟩:=zf h;obtain⟨m,d,o,h1,c,f, _⟩:=H.aaz (H.N8 a);have g:t.2.2=(n:Int):=by simpa using b
 have e:m=n:=BN (h1.trans g);subst e;exact⟨d,c,f⟩
theorem Gr (H:HC fr tk ds gr) {g:List DT} (k: ∀{n:Nat} {d:DT},ds[n]? =some d->d.1=4->g[n]? =some d) (j: ∀{n:Nat} {d:DT},g[n]? =some d->ds[n]? =some d\/((d.1=0\/d.1=3\/d.1=5)/\d.2.2=(0,0,())/\0<=d.2.1/\d.2.1<=16)):HC fr tk g gr:=by
 have l: ∀{n:Nat} {d:DT},g[n]? =some d->(d.1=0\/d.1=3\/d.1=5)->eo tk (n:Int)=0:=λ{n d} h a=>by
  rcases DG (eo tk (n:Int)) with e|e
  ·exact e
  ·obtain⟨d',b,c⟩:=H.Iy e;have:=k b c;rw[h] at this;cases this;omega
 refine⟨H.jj,λ{n d} h=>?_,λ{n d} h c=>?_,λ{i p f} h m=>?_,H.C',H.nd,H.inj,λ{n d} h=>?_,H.uU,H.gl,H.gk⟩
 ·rcases j h with h1|⟨h1,a,b⟩
  ·exact H.kd h1
  ·exact⟨by omega,by rw[a],b⟩
 ·rcases j h with h1|⟨h1,a⟩
  ·exact H.Tf h1 c
  ·omega
 ·obtain⟨n,d,h1,a,b,c⟩:=H.own h m;exact⟨n,d,h1,k a b,b,c⟩
 ·rcases j h with h1|⟨h1,a, _⟩
  ·exact H.refs h1
  ·rw[l h h1,a];rfl
theorem Ph (H:HC fr tk ds gr) {z6:List GT} (d:z6.length=gr.length) (m:om z6) (r: ∀{n:Nat} {x y:GT},gr[n]? =some x->z6[n]? =some y->y.2.2.2.2.1=x.2.2.2.2.1) (e: ∀{n:Nat} {x:GT},gr[n]? =some x->x.2.2.2.2.1>0->z6[n]? =some x):HC fr tk ds z6:=by
 refine⟨H.jj,H.kd,H.Tf,H.own,λ{i p a f} h=>?_,H.nd,H.inj,H.refs,λ{n y} h=>?_,d.trans H.gl,m⟩
 ·obtain⟨h1,o,s,k,x,g,b,u⟩:=H.C' h;refine⟨h1,o,s,k,x,?_,?_,u⟩
  ·obtain⟨c,z,j⟩:=ft.1 g;refine ft.2 ⟨c,by omega,?_⟩;have v:x.2.2.2.2.1>0:=by
    rw[H.uU b];have:=nX (q:=λt=>t.2.1==(k:Int)) (by have:=H.jj h1;omega:i<17) (H.J' h) (by simp[c]);unfold mN;omega
   rw[getD_some (e b v)];rw[getD_some b] at j;exact j
  ·refine e b ?_;obtain⟨c, _⟩:=ft.1 g;rw[H.uU b];have:=nX (q:=λt=>t.2.1==(k:Int)) (by have:=H.jj h1;omega:i<17) (H.J' h) (by simp[c]);unfold mN;omega
 ·have w:n<gr.length:=by rw[<-d];exact(Ab.1 h).1
  have l:gr[n]? =some gr[n]:=B_ w;rw[r l h];exact H.uU l
end HC
set_option maxRecDepth 100000
open Go.RX D
theorem m9 (t:TK) (l:List TK) (p:Int):cg (t::l) p=if t.1=p then some t.2 else cg l p:=by
 unfold cg;rw[List.find?_cons];by_cases e:t.1=p
 ·rw[ax e,show(t.1==p)=true by simpa using e];rfl
 ·rw[ao e,show(t.1==p)=false by simpa using e]
theorem Mv {l l':List TK} (h:l.Perm l') (nd:(l.map (·.1)).Nodup) (p:Int):cg l p=cg l' p:=by
 have c:(l'.map (·.1)).Nodup:=(h.map _).nodup_iff.1 nd;cases h1:cg l p with
 |some x=>
  have:=(jJ (a:=x.1) (b:=x.2) nd).1 h1;exact((jJ (a:=x.1) (b:=x.2) c).2 (h.mem_iff.1 this)).symm
 |none=>
  symm;rw[qs] at h1 ⊢;exact λt d=>h1 t (h.mem_iff.2 d)
theorem Pj {t:TK} {l:List TK} (a:cg l t.1=none) (nd:(l.map (·.1)).Nodup):((mC t l).map (·.1)).Nodup:=by
 refine((m7 t l).map _).nodup_iff.2 (C8.2 ⟨λb=>?_,nd⟩);obtain⟨x,c,e⟩:=B2.1 b;exact qs.1 a x c e
theorem Sf {t:TK} {l:List TK} (a:cg l t.1=none) (nd:(l.map (·.1)).Nodup) (p:Int):cg (mC t l) p=if t.1=p then some t.2 else cg l p:=by
 rw[Mv (m7 t l) (Pj a nd),m9]
theorem Mw (l:List TK) (b p:Int):cg (l.filter λt=> !(t.1==b)) p=if p=b then none else cg l p:=by
 induction l with
 |nil=>unfold cg;simp
 |cons t l c=>
  rw[Ft];by_cases e:t.1=b
  ·rw[ao (by simp[e]),c,m9];by_cases a:p=b
   ·rw[ax a,ax a]
   ·rw[ao a,ao a,ao (λh=>a (h.symm.trans e))]
  ·rw[ax (by simpa using e),m9,m9,c];by_cases a:t.1=p
   ·rw[ax a,ax a,ao (λh=>e (a.trans h))]
   ·rw[ao a,ao a]
theorem BC {l:List TK} {b:Int} {x:Int×Int} (nd:(l.map (·.1)).Nodup) (h:cg l b=some x):l.Perm ((b,x)::l.filter λt=> !(t.1==b)):=by
 induction l with
 |nil=>unfold cg at h;simp at h
 |cons t l a=>
  rw[DJ,C8] at nd;rw[m9] at h;rw[Ft];by_cases e:t.1=b
  ·rw[ax e] at h;cases h;rw[ao (by simp[e])];have c:l.filter (λt=> !(t.1==b))=l:=Fw.2 λu d=>by
    have:u.1≠b:=λf=>nd.1 (B2.2 ⟨u,d,f.trans e.symm⟩);simpa using this
   rw[c, <-e]
  ·rw[ao e] at h;rw[ax (by simpa using e)];exact((a nd.2 h).cons t).trans (.swap _ _ _)
theorem VL (q:TK->Bool) (t:TK) (l:List TK):(mC t l).countP q=l.countP q+(if q t=true then 1 else 0):=by
 rw[(m7 t l).countP_eq,Ca]
theorem Sg {l:List TK} {b:Int} {x:Int×Int} (nd:(l.map (·.1)).Nodup) (h:cg l b=some x) (q:TK->Bool):l.countP q=(l.filter λt=> !(t.1==b)).countP q+(if q (b,x)=true then 1 else 0):=by
 rw[(BC nd h).countP_eq,Ca]
theorem VM {l:List TK} (b:Int) (nd:(l.map (·.1)).Nodup):((l.filter λt=> !(t.1==b)).map (·.1)).Nodup:=(DM.map _).nodup nd
theorem CI {gr:List GT} {k j:Nat} {x y:GT} {a:Int} (f:gr[k]? =some x) (c:y≠zG) (h:lT gr a=some j):lT (gr.set k y) a=some j:=by
 obtain⟨h1,b,d⟩:=ft.1 h;refine ft.2 ⟨h1,by rw[Az];exact b,?_⟩;rw[B1];by_cases e:k=j
 ·subst e;rw[Ax b];exact c
 ·rw[AR e, <-B1];exact d
theorem xL {gr:List GT} (a:om gr) {k:Nat} {x:GT} (b:gr[k]? =some x) (c:x≠zG) (n:Int):fj x n≠zG:=λe=>by
 rcases(a x (B5 b)).1 with h|⟨h, _⟩
 ·exact c h
 ·have:(fj x n).1=zG.1:=congrArg (·.1) e;have:x.1=0:=this;omega
namespace HC
variable {fr:Ih} {tk:Nat->List TK} {ds:List DT} {gr:List GT}
theorem YE (H:HC fr tk ds gr) {i:Nat} {p:Int} (h:fr i p=none):cg (tk i) p=none:=by
 cases b:cg (tk i) p with
 |none=>rfl
 |some y=>
  have:=(H.C' (a:=y.1) (f:=y.2) b).1;rw[h] at this;cases this
theorem Gs (H:HC fr tk ds gr) {v n:Nat} {a:Int} {d0:DT} (hv:1<=v/\v<=16) (A:0<=a/\a<65536) (u:ds[n]? =some d0) (h0:d0.1=0) (w:fr v a=none):
 HC (nE fr v a (some (n:Int))) tk (ds.set n (4,(v:Int),0,0,())) gr:=by
 have q:n<ds.length:=(Ab.1 u).1;have r: ∀{d},ds[n]? =some d->d.1=4->False:=λ{d} h l=>by rw[u] at h;cases h;omega
 have B:eo tk (n:Int)=0:=by
  rcases DG (eo tk (n:Int)) with e|e
  ·exact e
  ·obtain⟨d,h1,g⟩:=H.Iy e;exact(r h1 g).elim
 have s: ∀{i p f},fr i p=some f-> ¬ (i=v/\p=a):=λ{i p f} h e=>by rw[e.1,e.2,w] at h;cases h
 have y: ∀{i p},fr i p=some (n:Int)->False:=λ{i p} h=>by
  obtain⟨m,d,h1,g,j⟩:=H.at4 h;have:m=n:=BN h1;subst this;exact r g j
 refine⟨λ{i p f} h=>?_,λ{m d} h=>?_,λ{m d} h l=>?_,λ{i p f} h t=>?_,λ{i p b f} h=>?_,H.nd,λ{i p p' f} h h' t C=>?_,λ{m d} h=>?_,H.uU,H.gl,H.gk⟩
 ·by_cases e:i=v/\p=a
  ·obtain⟨rfl,rfl⟩:=e;exact⟨hv.1,hv.2,A⟩
  ·rw[bJ e] at h;exact H.jj h
 ·by_cases e:n=m
  ·subst e;rw[Ax q] at h;cases h;exact⟨.inr (.inr (.inl rfl)),rfl,by show 0<=(v:Int);omega,by show(v:Int)<=16;omega⟩
  ·rw[AR e] at h;exact H.kd h
 ·by_cases e:n=m
  ·subst e;rw[Ax q] at h;cases h;exact⟨v,a,rfl,fJ _ _ _ _,H.YE w⟩
  ·rw[AR e] at h;obtain⟨i,p,h1,g,j⟩:=H.Tf h l;exact⟨i,p,h1,by rw[bJ (s g)];exact g,j⟩
 ·by_cases e:i=v/\p=a
  ·obtain⟨rfl,rfl⟩:=e;rw[fJ] at h;cases h;exact⟨n, _,rfl,Ax q,rfl,rfl⟩
  ·rw[bJ e] at h;obtain⟨m,d,h1,g,j,l⟩:=H.own h t;refine⟨m,d,h1,?_,j,l⟩;rw[AR (λe=>by subst e;exact r g j)];exact g
 ·obtain⟨h1,o,g,k,x,j,l,D,E,z,F⟩:=H.C' h;exact⟨by rw[bJ (s h1)];exact h1,o,g,k,x,j,l,D,E,by rw[bJ (s z)];exact z,F⟩
 ·by_cases e:i=v/\p=a
  ·obtain⟨rfl,rfl⟩:=e;rw[fJ] at h;cases h;by_cases e':p'=p
   ·exact e'.symm
   ·rw[bJ (λc=>e' c.2)] at h';exact(y h').elim
  ·rw[bJ e] at h;by_cases e':i=v/\p'=a
   ·obtain⟨rfl,rfl⟩:=e';rw[fJ] at h';cases h';exact(y h).elim
   ·rw[bJ e'] at h';exact H.inj h h' t C
 ·by_cases e:n=m
  ·subst e;rw[Ax q] at h;cases h;rw[B];rfl
  ·rw[AR e] at h;exact H.refs h
theorem CJ (H:HC fr tk ds gr) {v n:Nat} {a o:Int} (E:0<=o/\o<=16) (s:fr v a=some (n:Int)) (w:cg (tk v) a=none) (B:eo tk (n:Int)=0):
 HC (nE fr v a none) tk (ds.set n (5,o,0,0,())) gr:=by
 obtain⟨j,d0,y,C,M,F⟩:=H.own s w;have y:j=n:=BN y;subst y;have z:j<ds.length:=(Ab.1 C).1;have G: ∀{i p b f},cg (tk i) p=some (b,f)->f≠(j:Int):=λ{i p b f} h e=>by
  have N:=H.jj (H.C' h).1;have:=nX (q:=λt=>t.2.2==(j:Int)) (by omega:i<17) (H.J' h) (by simp[e]);unfold eo at B;omega
 refine⟨λ{i p f} h=>?_,λ{m d} h=>?_,λ{m d} h k4=>?_,λ{i p f} h u=>?_,λ{i p b f} h=>?_,H.nd,λ{i p p' f} h h' u I=>?_,λ{m d} h=>?_,H.uU,H.gl,H.gk⟩
 ·by_cases e:i=v/\p=a
  ·obtain⟨rfl,rfl⟩:=e;rw[fJ] at h;cases h
  ·rw[bJ e] at h;exact H.jj h
 ·by_cases e:j=m
  ·subst e;rw[Ax z] at h;cases h;exact⟨.inr (.inr (.inr rfl)),rfl,E⟩
  ·rw[AR e] at h;exact H.kd h
 ·by_cases e:j=m
  ·subst e;rw[Ax z] at h;cases h;exact absurd k4 (show ¬ (5:Int)=4 by decide)
  ·rw[AR e] at h;obtain⟨i,p,h1,g,l⟩:=H.Tf h k4;refine⟨i,p,h1,?_,l⟩;rw[bJ (λc=>?_)]
   ·exact g
   ·rw[c.1,c.2,s] at g;cases g;exact e rfl
 ·by_cases e:i=v/\p=a
  ·obtain⟨rfl,rfl⟩:=e;rw[fJ] at h;cases h
  ·rw[bJ e] at h;obtain⟨m,d,h1,g,l,r⟩:=H.own h u;refine⟨m,d,h1,?_,l,r⟩;by_cases D:j=m
   ·subst D;rw[C] at g;cases g;rw[F] at r;have ev:v=i:=BN r;subst ev;rw[<-h1] at h;exact absurd ⟨rfl,H.inj h s u w⟩ e
   ·rw[AR D];exact g
 ·obtain⟨h1,o',g,k,x,l,r,J,K,A,L⟩:=H.C' h;refine⟨?_,o',g,k,x,l,r,J,K,?_,L⟩
  ·rw[bJ (λc=>?_)]
   ·exact h1
   ·rw[c.1,c.2,w] at h;cases h
  ·rw[bJ (λc=>?_)]
   ·exact A
   ·rw[c.1,c.2,s] at A;cases A;exact G h rfl
 ·by_cases e:i=v/\p=a
  ·obtain⟨rfl,rfl⟩:=e;rw[fJ] at h;cases h
  ·rw[bJ e] at h;by_cases e':i=v/\p'=a
   ·obtain⟨rfl,rfl⟩:=e';rw[fJ] at h';cases h'
   ·rw[bJ e'] at h';exact H.inj h h' u I
 ·by_cases e:j=m
  ·subst e;rw[Ax z] at h;cases h;rw[B];rfl
  ·rw[AR e] at h;exact H.refs h
end HC
set_option maxRecDepth 100000
open Go.RX D
namespace HC
variable {fr:Ih} {tk:Nat->List TK} {ds:List DT} {gr:List GT}
theorem take (H:HC fr tk ds gr) {v o n k:Nat} {b:Int} {x:GT} {d0:DT} (hb:0<=b/\b<65536) (K:fr v b=none) (S:ds[n]? =some d0) (r:gr[k]? =some x) (C:x≠zG) (L:x.1=(o:Int)) (M:x.2.2.1=(v:Int)) (T:fr o x.2.1=some (n:Int)) (U:cg (tk o) x.2.1=none)
 (V:om (gr.set k (fj x 1))):
 HC (nE fr v b (some (n:Int))) (lh tk v (mC (b,(k:Int),(n:Int)) (tk v))) (ds.set n (d0.1,d0.2.1,d0.2.2.1+1,d0.2.2.2.1,())) (gr.set k (fj x 1)):=by
 have Z:n<ds.length:=(Ab.1 S).1;have D:k<gr.length:=(Ab.1 r).1;obtain⟨N,ro,F⟩:(1<=v/\v<=16)/\(1<=o/\o<=16)/\o≠v:=by
  rcases(H.gk x (B5 r)).1 with h|⟨h1,l,g, _⟩
  ·exact absurd h C
  ·rw[L] at h1 g;rw[M] at l g;exact⟨by omega,by omega,λe=>g (by rw[e])⟩
 have A: ∀{i p f},fr i p=some f-> ¬ (i=v/\p=b):=λ{i p f} h e=>by rw[e.1,e.2,K] at h;cases h
 have O:cg (tk v) b=none:=H.YE K;have s: ∀i p,cg (lh tk v (mC (b,(k:Int),(n:Int)) (tk v)) i) p=if i=v/\p=b then some ((k:Int),(n:Int)) else cg (tk i) p:=λi p=>by
  by_cases e:i=v
  ·subst e;rw[kU,Sf O (H.nd _)];by_cases w:p=b
   ·rw[ax w.symm,ax ⟨rfl,w⟩]
   ·rw[ao (λh=>w h.symm),ao (λh=>w h.2)]
  ·rw[nW e,ao (λh=>e h.1)]
 have W: ∀{m:Nat} {d:DT},ds[m]? =some d-> ∃d':DT,(ds.set n (d0.1,d0.2.1,d0.2.2.1+1,d0.2.2.2.1,()))[m]? =some d'/\d'.1=d.1/\d'.2.1=d.2.1:=λ{m d} h=>by
  grind
 have G: ∀{m:Nat} {d':DT},(ds.set n (d0.1,d0.2.1,d0.2.2.1+1,d0.2.2.2.1,()))[m]? =some d'-> ∃d:DT,ds[m]? =some d/\d'.1=d.1/\d'.2.1=d.2.1/\d'.2.2.2.1=d.2.2.2.1/\d'.2.2.1=d.2.2.1+(if m=n then 1 else 0):=λ{m d'} h=>by
  grind
 have X: ∀{a:Int} {i o':Nat} {f:Int},TC gr fr tk a i o' f->TC (gr.set k (fj x 1)) (nE fr v b (some (n:Int))) (lh tk v (mC (b,(k:Int),(n:Int)) (tk v))) a i o' f:=by
  rintro a i o' f ⟨j,y,h1,l,g,z,t,Y⟩;have P:=CI r (xL H.gk r C 1) h1;have Q:cg (lh tk v (mC (b,(k:Int),(n:Int)) (tk v)) o') y.2.1=none:=by
   rw[s,ao (A t)];exact Y
  by_cases e:k=j
  ·subst e;rw[r] at l;cases l;exact⟨k,fj x 1,P,Ax D,g,z,by show nE fr v b _ o' x.2.1= _;rw[bJ (A t)];exact t,Q⟩
  ·exact⟨j,y,P,by rw[AR e];exact l,g,z,by rw[bJ (A t)];exact t,Q⟩
 have R: ∀q:TK->Bool,nC (lh tk v (mC (b,(k:Int),(n:Int)) (tk v))) q=nC tk q+(if q (b,(k:Int),(n:Int))=true then 1 else 0):=λq=>by
  have h1:=ze tk q (by omega:v<17) (mC (b,(k:Int),(n:Int)) (tk v));rw[VL] at h1;omega
 refine⟨λ{i p f} h=>?_,λ{m d} h=>?_,λ{m d} h z=>?_,λ{i p f} h u=>?_,λ{i p c f} h=>?_,λi=>?_,λ{i p p' f} h h' u E=>?_,λ{m d} h=>?_,λ{m y} h=>?_,by rw[Az];exact H.gl,V⟩
 ·by_cases e:i=v/\p=b
  ·obtain⟨rfl,rfl⟩:=e;exact⟨N.1,N.2,hb⟩
  ·rw[bJ e] at h;exact H.jj h
 ·obtain⟨d',h1,l,g,t, _⟩:=G h;rw[l,t,g];exact H.kd h1
 ·obtain⟨d',h1,l,g, _⟩:=G h;obtain⟨i,p,I,B,J⟩:=H.Tf h1 (by rw[<-l];exact z);exact⟨i,p,by rw[g];exact I,by rw[bJ (A B)];exact B,by rw[s,ao (A B)];exact J⟩
 ·by_cases e:i=v/\p=b
  ·rw[s,ax e] at u;cases u
  ·rw[bJ e] at h;rw[s,ao e] at u;obtain⟨m,d,h1,l,g,z⟩:=H.own h u;obtain⟨d',I,B,J⟩:=W l;exact⟨m,d',h1,I,by rw[B];exact g,by rw[J];exact z⟩
 ·rw[s] at h;by_cases e:i=v/\p=b
  ·rw[ax e] at h;cases h;obtain⟨rfl,rfl⟩:=e;refine⟨fJ _ _ _ _,o,F,k,fj x 1,?_,Ax D,L,M,?_,?_⟩
   ·exact CI r (xL H.gk r C 1) (ft.2 ⟨rfl,D,by rw[getD_some r];exact C⟩)
   ·show nE fr i p _ o x.2.1= _;rw[bJ (λc=>F c.1)];exact T
   ·show cg (lh tk i _ o) x.2.1=none;rw[nW F];exact U
  ·rw[ao e] at h;obtain⟨h1,o',l,g⟩:=H.C' h;exact⟨by rw[bJ e];exact h1,o',l,X g⟩
 ·by_cases e:i=v
  ·subst e;rw[kU];exact Pj O (H.nd _)
  ·rw[nW e];exact H.nd i
 ·have e: ¬ (i=v/\p=b):=λc=>by rw[s,ax c] at u;cases u
  have e': ¬ (i=v/\p'=b):=λc=>by rw[s,ax c] at E;cases E
  rw[s,ao e] at u;rw[s,ao e'] at E;rw[bJ e] at h;rw[bJ e'] at h';exact H.inj h h' u E
 ·obtain⟨d',h1, _, _, _,t⟩:=G h;rw[t,H.refs h1];unfold eo;rw[R]
  grind
 ·have w:mN (lh tk v (mC (b,(k:Int),(n:Int)) (tk v))) (m:Int)=mN tk (m:Int)+(if k=m then 1 else 0):=by
   unfold mN;rw[R]
   grind
  rw[w];by_cases e:k=m
  ·subst e;rw[Ax D] at h;cases h;rw[ax rfl];have:=H.uU r;show x.2.2.2.2.1+1= _;omega
  ·rw[AR e] at h;rw[ao e];have:=H.uU h;omega
theorem F4 (H:HC fr tk ds gr) {v n k:Nat} {b:Int} {x:GT} {d0:DT} (D:cg (tk v) b=some ((k:Int),(n:Int))) (E:ds[n]? =some d0) (w:gr[k]? =some x) (P:x≠zG)
 (Q:om (gr.set k (fj x (-1)))):
 HC (nE fr v b none) (lh tk v ((tk v).filter λt=> !(t.1==b))) (ds.set n (d0.1,d0.2.1,d0.2.2.1 - 1,d0.2.2.2.1,())) (gr.set k (fj x (-1))):=by
 have J:n<ds.length:=(Ab.1 E).1;have K:k<gr.length:=(Ab.1 w).1;have T:=H.jj (H.C' D).1;have r: ∀i p,cg (lh tk v ((tk v).filter λt=> !(t.1==b)) i) p=if i=v/\p=b then none else cg (tk i) p:=λi p=>by
  by_cases e:i=v
  ·subst e;rw[kU,Mw];by_cases o:p=b
   ·rw[ax o,ax ⟨rfl,o⟩]
   ·rw[ao o,ao (λh=>o h.2)]
  ·rw[nW e,ao (λh=>e h.1)]
 have z: ∀{i p},cg (tk i) p=none-> ¬ (i=v/\p=b):=λ{i p} h e=>by rw[e.1,e.2,D] at h;cases h
 have R: ∀{m:Nat} {d:DT},ds[m]? =some d-> ∃d':DT,(ds.set n (d0.1,d0.2.1,d0.2.2.1 - 1,d0.2.2.2.1,()))[m]? =some d'/\d'.1=d.1/\d'.2.1=d.2.1:=λ{m d} h=>by
  by_cases e:n=m
  ·subst e;rw[E] at h;cases h;exact⟨_,Ax J,rfl,rfl⟩
  ·exact⟨d,by rw[AR e];exact h,rfl,rfl⟩
 have F: ∀{m:Nat} {d':DT},(ds.set n (d0.1,d0.2.1,d0.2.2.1 - 1,d0.2.2.2.1,()))[m]? =some d'-> ∃d:DT,ds[m]? =some d/\d'.1=d.1/\d'.2.1=d.2.1/\d'.2.2.2.1=d.2.2.2.1/\d'.2.2.1=d.2.2.1 - (if m=n then 1 else 0):=λ{m d'} h=>by
  by_cases e:n=m
  ·subst e;rw[Ax J] at h;cases h;exact⟨d0,E,rfl,rfl,rfl,by rw[ax rfl]⟩
  ·rw[AR e] at h;exact⟨d',h,rfl,rfl,rfl,by rw[ao (λc=>e c.symm)];omega⟩
 have S: ∀{a:Int} {i o':Nat} {f:Int},TC gr fr tk a i o' f->TC (gr.set k (fj x (-1))) (nE fr v b none) (lh tk v ((tk v).filter λt=> !(t.1==b))) a i o' f:=by
  rintro a i o' f ⟨j,y,h1,g,l,s,u,C⟩;have L:=CI w (xL H.gk w P (-1)) h1;have M:cg (lh tk v ((tk v).filter λt=> !(t.1==b)) o') y.2.1=none:=by
   rw[r,ao (z C)];exact C
  by_cases e:k=j
  ·subst e;rw[w] at g;cases g;exact⟨k,fj x (-1),L,Ax K,l,s,by show nE fr v b _ o' x.2.1= _;rw[bJ (z C)];exact u,M⟩
  ·exact⟨j,y,L,by rw[AR e];exact g,l,s,by rw[bJ (z C)];exact u,M⟩
 have N: ∀q:TK->Bool,nC (lh tk v ((tk v).filter λt=> !(t.1==b))) q+(if q (b,(k:Int),(n:Int))=true then 1 else 0)=nC tk q:=λq=>by
  have h1:=ze tk q (by omega:v<17) ((tk v).filter λt=> !(t.1==b));have g:=Sg (H.nd v) D q;omega
 refine⟨λ{i p f} h=>?_,λ{m d} h=>?_,λ{m d} h s=>?_,λ{i p f} h A=>?_,λ{i p c f} h=>?_,λi=>?_,λ{i p p' f} h h' A O=>?_,λ{m d} h=>?_,λ{m y} h=>?_,by rw[Az];exact H.gl,Q⟩
 ·by_cases e:i=v/\p=b
  ·rw[show nE fr v b none i p=none from ax e] at h;cases h
  ·rw[bJ e] at h;exact H.jj h
 ·obtain⟨d',h1,g,l,u, _⟩:=F h;rw[g,u,l];exact H.kd h1
 ·obtain⟨d',h1,g,l, _⟩:=F h;obtain⟨i,p,G,I,B⟩:=H.Tf h1 (by rw[<-g];exact s);exact⟨i,p,by rw[l];exact G,by rw[bJ (z B)];exact I,by rw[r,ao (z B)];exact B⟩
 ·by_cases e:i=v/\p=b
  ·rw[show nE fr v b none i p=none from ax e] at h;cases h
  ·rw[bJ e] at h;rw[r,ao e] at A;obtain⟨m,d,h1,g,l,s⟩:=H.own h A;obtain⟨d',G,I,B⟩:=R g;exact⟨m,d',h1,G,by rw[I];exact l,by rw[B];exact s⟩
 ·rw[r] at h;by_cases e:i=v/\p=b
  ·rw[ax e] at h;cases h
  ·rw[ao e] at h;obtain⟨h1,o',g,l⟩:=H.C' h;exact⟨by rw[bJ e];exact h1,o',g,S l⟩
 ·by_cases e:i=v
  ·subst e;rw[kU];exact VM _ (H.nd _)
  ·rw[nW e];exact H.nd i
 ·have e: ¬ (i=v/\p=b):=λc=>by rw[show nE fr v b none i p=none from ax c] at h;cases h
  have e': ¬ (i=v/\p'=b):=λc=>by rw[show nE fr v b none i p'=none from ax c] at h';cases h'
  rw[r,ao e] at A;rw[r,ao e'] at O;rw[bJ e] at h;rw[bJ e'] at h';exact H.inj h h' A O
 ·obtain⟨d',h1, _, _, _,u⟩:=F h;have:=N λt=>t.2.2==(m:Int);rw[u,H.refs h1];unfold eo;dsimp only at this;by_cases e:m=n
  ·subst e;rw[ax (by simp)] at this;rw[ax rfl];omega
  ·rw[ao (by simp;omega)] at this;rw[ao e];omega
 ·have o:mN (lh tk v ((tk v).filter λt=> !(t.1==b))) (m:Int)+(if k=m then 1 else 0)=mN tk (m:Int):=by
   have:=N λt=>t.2.1==(m:Int);dsimp only at this;unfold mN
   grind
  by_cases e:k=m
  ·subst e;rw[Ax K] at h;cases h;rw[ax rfl] at o;have:=H.uU w;show x.2.2.2.2.1+ -1= _;omega
  ·rw[AR e] at h;rw[ao e] at o;have:=H.uU h;omega
theorem gone (H:HC fr tk ds gr) {v:Nat} {z:List DT} (hv:1<=v/\v<=16) (Q:tk v=[]) (J: ∀{n:Nat} {d:DT},ds[n]? =some d->d.1=4->d.2.1=(v:Int)->d.2.2.1=0)
 (K: ∀{n:Nat} {d:DT},ds[n]? =some d->d.1=4->d.2.1≠(v:Int)->z[n]? =some d)
 (C: ∀{n:Nat} {d:DT},z[n]? =some d->(ds[n]? =some d/\ ¬ (d.1=4/\d.2.1=(v:Int)))\/((d.1=0\/d.1=3\/d.1=5)/\d.2.2=(0,0,())/\0<=d.2.1/\d.2.1<=16))
 (R:om (cM gr (v:Int))):
 HC (λi p=>if i=v then none else fr i p) tk z (cM gr (v:Int)):=by
 have D: ∀{i p b f},cg (tk i) p=some (b,f)->i≠v:=λ{i p b f} h e=>by
  subst e;rw[Q] at h;unfold cg at h;simp at h
 have L: ∀{a:Int} {i o:Nat} {f p:Int},cg (tk i) p=some (a,f)->TC gr fr tk a i o f->o≠v:=by
  rintro a i o f p l ⟨k,x,h1,g,j,r,M,E⟩ e;subst e;obtain⟨n,d,S,N,T,U⟩:=H.own M E;have h0:=J N T U;have F:=H.jj (H.C' l).1;have:=nX (q:=λt=>t.2.2==(n:Int)) (by omega:i<17) (H.J' l) (by simp[S]);have h1:=H.refs N;unfold eo at h1;omega
 have V: ∀{a:Int} {i o:Nat} {f p:Int},cg (tk i) p=some (a,f)->TC gr fr tk a i o f->TC (cM gr (v:Int)) (λi p=>if i=v then none else fr i p) tk a i o f:=by
  intro a i o f p l w;have W:=L l w;have X:=D l;obtain⟨k,x,h1,g,j,r,M,E⟩:=w;have hh:o7 (v:Int) x=false:=by
   unfold o7;rw[j,r]
   grind
  have F:(cM gr (v:Int))[k]? =some x:=by
   unfold cM
   grind
  obtain⟨s,u,A⟩:=ft.1 h1;refine⟨k,x,ft.2 ⟨s,by unfold cM;rw[DU];exact u,?_⟩,F,j,r,?_,E⟩
  ·rw[getD_some F];rw[getD_some g] at A;exact A
  grind
 have Y: ∀{n:Nat} {d:DT},z[n]? =some d->(d.1=0\/d.1=3\/d.1=5)->d.2.2=(0,0,())->eo tk (n:Int)=0:=λ{n d} h g j=>by
  rcases DG (eo tk (n:Int)) with e|e
  ·exact e
  ·obtain⟨d',s,u⟩:=H.Iy e;by_cases O:d'.2.1=(v:Int)
   ·have:=H.refs s;have:=J s u O;omega
   ·have:=K s u O;rw[h] at this;cases this;omega
 refine⟨λ{i p f} h=>?_,λ{m d} h=>?_,λ{m d} h r=>?_,λ{i p f} h l=>?_,λ{i p c f} h=>?_,H.nd,λ{i p p' f} h h' l Z=>?_,λ{m d} h=>?_,λ{m y} h=>?_,by unfold cM;rw[DU];exact H.gl,R⟩
 ·by_cases e:i=v
  ·rw[ax e] at h;cases h
  ·rw[ao e] at h;exact H.jj h
 ·rcases C h with ⟨h1, _⟩|⟨h1,g,j⟩
  ·exact H.kd h1
  ·exact⟨by omega,by rw[g],j⟩
 ·rcases C h with ⟨h1,g⟩|⟨h1, _⟩
  ·obtain⟨i,p,s,u,A⟩:=H.Tf h1 r;exact⟨i,p,s,by rw[ao (λe=>g ⟨r,by rw[<-s,e]⟩)];exact u,A⟩
  ·omega
 ·by_cases e:i=v
  ·rw[ax e] at h;cases h
  ·rw[ao e] at h;obtain⟨m,d,h1,g,j,r⟩:=H.own h l;exact⟨m,d,h1,K g j (λc=>e (BN (r.symm.trans c))),j,r⟩
 ·obtain⟨h1,o,g,j⟩:=H.C' h;exact⟨by rw[ao (D h)];exact h1,o,g,V h j⟩
 ·by_cases e:i=v
  ·rw[ax e] at h;cases h
  ·rw[ao e] at h h';exact H.inj h h' l Z
 ·rcases C h with ⟨h1, _⟩|⟨h1,g, _⟩
  ·exact H.refs h1
  ·rw[Y h h1 g,g];rfl
 ·unfold cM at h;rw[F5] at h;obtain⟨x,P,B⟩:=Option.map_eq_some_iff.1 h;by_cases e:o7 (v:Int) x=true
  ·rw[ax e] at B;subst B;have:mN tk (m:Int)=0:=by
    refine BB λi t l=>?_;cases G:t.2.1==(m:Int) with
    |false=>rfl
    |true=>
     have G:t.2.1=(m:Int):=by simpa using G
     have I:=H.N8 l;obtain⟨_,o, _,w⟩:=H.C' (a:=t.2.1) (f:=t.2.2) I;have W:=L (a:=t.2.1) (f:=t.2.2) I w;have X:=D (b:=t.2.1) (f:=t.2.2) I;obtain⟨k,x',h1,g,j,r, _⟩:=w;obtain⟨s, _⟩:=ft.1 h1;have ek:k=m:=BN (s.trans G);subst ek;rw[P] at g;cases g;unfold o7 at e;rw[j,r] at e
     grind
   rw[this];rfl
  ·rw[ao e] at B;subst B;exact H.uU P
end HC
set_option maxRecDepth 100000
open Go.RX D
def ni (h:HS):Ih:=λi p=>match h.g i with
 |some x=>if(bC h.s x.root false p).2.2.1=0 then some (bC h.s x.root false p).1 else none
 |none=>none
def lP (h:HS) (i:Nat):List TK:=match h.g i with
 |some x=>x.tk
 |none=>[]
def jP (h:HS) (i:Nat) (p:Int):Int×Int×Int×Unit:=match h.g i with
 |some x=>bC h.s x.root false p
 |none=>(0,0,4,())
theorem bS {h:HS} {i:Nat} {x:GV} (a:h.g i=some x) (p:Int):jP h i p=bC h.s x.root false p:=by grind[jP]
theorem gm {h:HS} {i:Nat} (a:h.g i=none) (p:Int):jP h i p=(0,0,4,()):=by grind[jP]
theorem rR (h:HS) (i:Nat) (p:Int):ni h i p=if(jP h i p).2.2.1=0 then some (jP h i p).1 else none:=by grind[ni,jP]
structure Ae (h h':HS) (P:Nat->Int->Prop):Prop where
 to: ∀{i:Nat} {q:Int},¬ P i q->jP h' i q=jP h i q
theorem Ae.refl (h:HS) (P:Nat->Int->Prop):Ae h h P:=⟨λ_=>rfl⟩
theorem Ae.of {h h':HS} (a:h'.s=h.s) (b:h'.g=h.g) (P:Nat->Int->Prop):Ae h h' P:=⟨by grind[jP]⟩
theorem Ae.trans {h1 c d:HS} {P:Nat->Int->Prop} (a:Ae h1 c P) (b:Ae c d P):Ae h1 d P:=⟨λe=>(b.to e).trans (a.to e)⟩
structure KD (s s':WD):Prop where
 k4: ∀{n:Nat} {d:DT},s.2[n]? =some d->d.1=4-> ∃d',s'.2[n]? =some d'/\(d'.1=4\/d'.1=5)
 k5: ∀{n:Nat} {d:DT},s.2[n]? =some d->d.1=5-> ∃d',s'.2[n]? =some d'/\d'.1=5
theorem KD.refl {s s':WD} (h:s'.2=s.2):KD s s':=⟨by grind,by grind⟩
theorem KD.trans {s t u:WD} (a:KD s t) (b:KD t u):KD s u:=by
 refine⟨λh1 e=>?_,λh1 f=>?_⟩
 ·obtain⟨d',d,c⟩:=a.k4 h1 e;rcases c with c|c
  ·exact b.k4 d c
  ·obtain:=b.k5 d
   grind
 ·obtain⟨d',d,c⟩:=a.k5 h1 f;exact b.k5 d c
theorem KD.set {s:WD} {W:List Int} {n:Nat} {d0 d1:DT} (h0:s.2[n]? =some d0) (a:d0.1=4->d1.1=4\/d1.1=5) (b:d0.1=5->d1.1=5):KD s (W,s.2.set n d1):=by
 refine⟨λh k=>?_,λh k=>?_⟩
 grind
 grind
theorem sH.kd {P:Int->Int->Prop} {o:Int} {g g':Gh} {s s':WD} (C:sH P o g g' s s'):KD s s':=by
 refine⟨λ{n d} h1 a=>⟨d,C.kp.ks h1 a,.inl a⟩,λh1=>?_⟩;obtain:=C.kk h1
 grind
def uE (gh dt:Gh) (s s':WD):Prop:=(∀(f:Int) (v:Int×Nat×Int),gh f=some v->dt f=some v\/iM s' f)/\ ∀f,iM s f->iM s' f
theorem uE.refl (gh:Gh) (s:WD):uE gh gh s s:=⟨by grind,λ_ h=>h⟩
theorem uE.trans {a b c:Gh} {s t u:WD} (h:uE a b s t) (k:uE b c t u):uE a c s u:=⟨λf v d=>(h.1 f v d).elim (k.1 f v) λc=> .inr (k.2 f c),λf c=>k.2 f (h.2 f c)⟩
theorem sH.gks {P:Int->Int->Prop} {o:Int} {g g':Gh} {s s':WD} (C:sH P o g g' s s'):uE g g' s s':=⟨λ_ _ h=>C.gk h,λ_ c=>c.kept C.kp⟩
theorem iM.kd {s s':WD} {f:Int} (h:iM s f) (K:KD s s') (b: ∀k:Int,0<=k->k<16->dL s'.1 (16*f+k)=dL s.1 (16*f+k)):iM s' f:=by
 obtain⟨h0,d,h1,a,c⟩:=h;obtain⟨d',e,g⟩:=K.k5 h1 a;exact⟨h0,by grind⟩
theorem uE.kd {g:Gh} {s s':WD} (K:KD s s') (a: ∀{n:Nat} {d:DT},s.2[n]? =some d->d.1=5-> ∀k:Int,0<=k->k<16->dL s'.1 (16*(n:Int)+k)=dL s.1 (16*(n:Int)+k)):uE g g s s':=⟨by grind,λf c=>by
 refine c.kd K λk0=>?_;obtain⟨⟩:=c
 grind⟩
structure uJ (h h':HS) (P:Nat->Int->Prop) (f:Int):Prop where
 pg:Ae h h' P
 ws: ∀{m:Nat} {d d':DT},h.s.2[m]? =some d->d.1=4->h'.s.2[m]? =some d'->d'.1=4->(m:Int)≠f-> ∀k:Int,0<=k->k<16->dL h'.s.1 (16*(m:Int)+k)=dL h.s.1 (16*(m:Int)+k)
 kd:KD h.s h'.s
theorem uJ.refl (h:HS) (P:Nat->Int->Prop) (f:Int):uJ h h P f:=⟨Ae.refl h P,by simp,.refl rfl⟩
theorem uJ.mono {h h':HS} {P b:Nat->Int->Prop} {f:Int} (a:uJ h h' P f) (d: ∀{i:Nat} {q:Int},P i q->b i q):uJ h h' b f:=⟨⟨λe=>a.pg.to λc=>e (d c)⟩,a.ws,a.kd⟩
theorem uJ.trans {h1 d e:HS} {P:Nat->Int->Prop} {f:Int} (a:uJ h1 d P f) (b:uJ d e P f):uJ h1 e P f:=by
 refine⟨Ae.trans a.pg b.pg,λg h l m i k k0 j=>?_,a.kd.trans b.kd⟩;obtain⟨d2,x1,c⟩:=a.kd.k4 g h;rcases c with c|c
 ·rw[b.ws x1 c l m i k k0 j,a.ws g h x1 c i k k0 j]
 ·obtain:=b.kd.k5 x1
  grind
structure HI (gh:Gh) (h:HS):Prop where
 inv:Inv gh h.s
 rt:Rt gh
 nl:Ad gh h.s
 sz:h.s.1.length=16*h.s.2.length
 jj: ∀{i:Nat} {x:GV},h.g i=some x->1<=i/\i<=16
 root: ∀{i:Nat} {x:GV},h.g i=some x->gh x.root=some ((i:Int),3,0)
 own: ∀{f o y:Int},gh f=some (o,3,y)-> ∃(i:Nat) (x:GV),(i:Int)=o/\h.g i=some x
 hc:HC (ni h) (lP h) h.s.2 h.gr
theorem cP {h:HS} {i:Nat} {x:GV} (a:h.g i=some x) (p:Int):ni h i p=if(bC h.s x.root false p).2.2.1=0 then some (bC h.s x.root false p).1 else none:=by grind[ni]
theorem gq {h:HS} {i:Nat} (a:h.g i=none) (p:Int):ni h i p=none:=by grind[ni]
theorem gu {h:HS} {i:Nat} {x:GV} (a:h.g i=some x):lP h i=x.tk:=by grind[lP]
theorem abt (h:HS) (v:Int):vA h v=lP h v.toNat:=rfl
section
variable {gh dt:Gh} {h:HS}
namespace HI
theorem rdy (H:HI gh h) {Q:Sys} (i:ND Q h.s):Cd Q h where
 No:=i
 sz:=by rw[H.sz];simp
 rr:=λv e=>by
  obtain⟨x,d,f⟩:=bR e;have:=H.inv.vx (H.root d)
  grind
 pg:=λv t j=>by
  have:=H.hc.jj (H.hc.C' (H.hc.N8 j)).1;omega
 new:=λv a b c x d e h0=>by
  obtain⟨x',g,f, _⟩:=bR e;rw[d] at g;cases g;rw[f] at h0;have k:=H.root d;have l:=(H.inv.map k h0).2;have:ni h v.toNat b=none:=by rw[cP d,ao (by grind)]
  have:=H.hc.YE this;rw[gu d] at this
  grind
theorem yJ (H:HI gh h) {v:Nat} {x:GV} (b:h.g v=some x) {p:Int} {s1 s':WD} (h1: ∀{i:Nat} {x:GV},h.g i=some x-> ∀q,bC s1 x.root false q=bC h.s x.root false q) (d:Inv gh s1) (C:sH (ow (v:Int) 0 p) (v:Int) gh dt s1 s') {y:Option Int}
 (f:(if(bC s' x.root false p).2.2.1=0 then some (bC s' x.root false p).1 else none)=y) {h':HS} (j:h'.s=s') (k: ∀i,(h'.g i).map GV.root=(h.g i).map GV.root):ni h'=nE (ni h) v p y:=by
 funext i q;have hi:=k i;cases a:h.g i with
 |none=>
  rw[a] at hi;have l:=by simpa using hi
  rw[gq l];have m: ¬ (i=v/\q=p):=λc=>by grind
  rw[bJ m,gq a]
 |some z=>
  obtain⟨z',n,o⟩: ∃z',h'.g i=some z'/\z'.root=z.root:=by
   cases hc:h'.g i with
   |none
   |some=>grind
  rw[cP n,j,o];by_cases e:i=v/\q=p
  ·obtain⟨rfl,rfl⟩:=e;rw[b] at a;cases a;rw[fJ,f]
  ·rw[bJ e,cP a];have r:bC s' z.root false q=bC h.s z.root false q:=by
    rw[<-h1 a];refine d.y_ C.inv C.Dx C.root (H.root a) λc=>e ?_;obtain⟨c1,c2⟩:=c;exact⟨by omega,c2⟩
   rw[r]
theorem Gt (H:HI gh h) {v:Nat} {p:Int} {s1 s':WD} (h1: ∀{i:Nat} {x:GV},h.g i=some x-> ∀q,bC s1 x.root false q=bC h.s x.root false q) (b:Inv gh s1) (C:sH (ow (v:Int) 0 p) (v:Int) gh dt s1 s') {h':HS} (d:h'.s=s') (k: ∀i,(h'.g i).map GV.root=(h.g i).map GV.root):Ae h h' (λi q=>i=v/\q=p):=by
 refine⟨λ{i q} e=>?_⟩;cases a:h.g i with
 |none=>
  unfold jP;grind
 |some z=>
  obtain⟨z',f,j⟩: ∃z',h'.g i=some z'/\z'.root=z.root:=by
   cases hc:h'.g i with
   |none
   |some=>grind
  rw[bS f,bS a,d,j, <-h1 a];refine b.y_ C.inv C.Dx C.root (H.root a) λc=>e ?_;obtain⟨c1,c2⟩:=c;exact⟨by omega,c2⟩
theorem base (H:HI gh h) {v:Nat} {p:Int} {s1 s':WD} (C:sH (ow (v:Int) 0 p) (v:Int) gh dt s1 s') (e:s1.1.length=h.s.1.length/\s1.2.length=h.s.2.length) (nl:Ad gh s1) {h':HS} (c:h'.s=s') (j: ∀i,(h'.g i).map GV.root=(h.g i).map GV.root)
 (hc:HC (ni h') (lP h') s'.2 h'.gr):HI dt h' where
 inv:=by rw[c];exact C.inv
 rt:=H.rt.du C.root
 nl:=by
  rw[c];exact C.lg (λo q m a b=>a.2.trans b.2.symm) nl
 sz:=by
  rw[c,C.len.1,C.len.2,e.1,e.2];exact H.sz
 jj:=λ{i x} d=>by
  have hi:=j i;rw[d] at hi;cases hc:h.g i with
  |none=>grind
  |some=>exact H.jj hc
 root:=λ{i x} d=>by
  have hi:=j i;rw[d] at hi;cases hc:h.g i with
  |none=>grind
  |some=>
   rw[hc] at hi;have k:=by simpa using hi
   rw[k];exact C.root.to (H.root hc)
 own:=λ{f o y} l=>by
  obtain⟨i⟩:=H.own ((C.root o f y).1 l);cases hc:h'.g i with
  |none
  |some z=>grind
 hc:=by grind
theorem CK (H:HI gh h) {s':WD} (B:Inv.fq gh h.s s') {h':HS} (a:h'.s=s') (b:h'.g=h.g) (P:Nat->Int->Prop):Ae h h' P:=by
 refine⟨λ{i q} _=>?_⟩;cases hi:h.g i with
 |none=>rw[gm hi,gm (by grind)]
 |some=>rw[bS hi,bS (by rw[b];exact hi),a];exact H.inv.dU B (H.root hi) q
theorem side (H:HI gh h) {s':WD} (B:Inv.fq gh h.s s') {z6:List GT} {Nn:List Po.PT} (hc:HC (ni h) (lP h) s'.2 z6):HI gh {s:=s',g:=h.g,gr:=z6,po:=Nn} where
 inv:=H.inv.beside B
 rt:=H.rt
 nl:=Inv.m8 B H.nl
 sz:=by
  rw[B.len.1,B.len.2];exact H.sz
 jj:=H.jj
 root:=H.root
 own:=H.own
 hc:=by
  have e:ni {s:=s',g:=h.g,gr:=z6,po:=Nn}=ni h:=by
   funext i p;cases a:h.g i with
   |none=>
    rw[gq a];exact gq (h:={s:=s',g:=h.g,gr:=z6,po:=Nn}) a p
   |some=>
    rw[cP a,cP (h:={s:=s',g:=h.g,gr:=z6,po:=Nn}) a];rw[H.inv.dU B (H.root a)]
  rw[e];exact hc
end HI
end
set_option maxRecDepth 100000
open Go.RX D
theorem rt4 {o r:Int} (a:1<=o/\o<=16) (b:0<=r/\r<=65535):dT 4 o r 0=true:=by unfold dT jH;simp;omega
theorem rt5 {o:Int} (a:0<=o/\o<=16):dT 5 o 0 0=true:=by unfold dT jH;simp;omega
theorem HL {o:Int} (a:1<=o/\o<=16):aP 4 o zD=((4,o,0,0,()),0):=by
 have b:dT 0 0 0 0=true:=by decide
 have e:fS 0 0 0 0 4 o=0:=by
  unfold fS;rw[b,ao (by decide),ao (by decide),ax (by decide),ao (show ¬ (4:Int)=5 by decide),rt4 a ⟨by decide,by decide⟩,ao (by decide)]
 unfold aP zD mF lq;dsimp only;rw[e];rfl
theorem Mx {o:Int} (a:1<=o/\o<=16):aP 0 0 (4,o,0,0,())=(zD,0):=by
 have e:fS 4 o 0 0 0 0=0:=by
  unfold fS;rw[rt4 a ⟨by decide,by decide⟩,ao (by decide),ao (by decide),ax (by decide),ao (show ¬ (0:Int)=5 by decide)];decide
 unfold aP mF lq;dsimp only;rw[e];rfl
theorem BD {o v:Int} (a:1<=o/\o<=16):aP 5 v (4,o,0,0,())=((5,o,0,0,()),0):=by
 have e:fS 4 o 0 0 5 v=0:=by
  unfold fS;rw[rt4 a ⟨by decide,by decide⟩,ao (by decide),ao (by decide),ax (by decide),ax rfl,rt5 ⟨by omega,a.2⟩,ao (by decide)]
 unfold aP mF lq;dsimp only;rw[e];rfl
theorem HM {o:Int} (a:0<=o/\o<=16):aP 0 0 (5,o,0,0,())=(zD,0):=by
 have e:fS 5 o 0 0 0 0=0:=by
  unfold fS;rw[rt5 a,ao (by decide),ao (by decide),ax (by decide),ao (show ¬ (0:Int)=5 by decide)];decide
 unfold aP mF lq;dsimp only;rw[e];rfl
theorem aaA {o r x:Int} (a:1<=o/\o<=16) (b:0<=r/\r<=65535) (c:0<=r+x/\r+x<=65535):ia x (4,o,r,0,())=((4,o,r+x,0,()),0):=by
 have e:wZ 4 o r 0 x=0:=by
  unfold wZ;rw[rt4 a b,ao (by decide),ax (.inr (.inr rfl)),ao (by omega)]
 unfold ia qC;dsimp only;rw[e];rfl
theorem yx {ds:List DT} {n:Nat} {d d':DT} {G:DT->DT×Int} (h:ds[n]? =some d) (a:G d=(d',0)):dI ds (n:Int) G=ds.set n d'/\uz ds (n:Int) G=0:=by
 have c:n<ds.length:=(Ab.1 h).1;have b:ds.getD n zD=d:=by rw[B1,h];rfl
 constructor
 ·rw[nJ (by omega)];show(if(G (ds.getD n zD)).2=0 then ds.set n (G (ds.getD n zD)).1 else ds)= _;rw[b,a,ax rfl]
 ·rw[yH (by omega)];show(G (ds.getD n zD)).2=0;rw[b,a]
theorem zM {ds:List DT} {o:Int} (h:0<bu ds 0) (c: ∀d∈ds,d.1=0->d=zD) (e:1<=o/\o<=16): ∃i:Nat,i<ds.length/\ds[i]? =some zD/\fc ds 4 o=(i:Int)/\dC ds 4 o=0/\di ds 4 o=ds.set i (4,o,0,0,()):=by
 obtain⟨i,d,h1,f,a,g⟩:=Et h;have j:d=zD:=c d (B5 a) g;subst j;obtain⟨k,b⟩:=yx a (HL e);refine⟨i,f,a,?_,?_,?_⟩
 ·unfold fc;rw[h1];dsimp only;rw[ax b]
 ·unfold dC;rw[ao (by omega),h1];exact b
 ·unfold di;rw[h1];exact k
theorem vi {ds:List DT} {y o:Int} (h:dC ds y o=0):0<bu ds 0:=by
 rcases DG (bu ds 0) with e|e
 ·unfold dC at h;rw[WY e] at h;dsimp only at h;split at h<;>exact absurd h (by decide)
 ·exact e
theorem Si {ds:List DT} {n:Nat} {d d':DT} (h:ds[n]? =some d):(ds.set n d').set n d=ds:=by
 apply FC;intro i;have a:n<ds.length:=(Ab.1 h).1;by_cases e:n=i
 ·subst e;rw[Ax (by rw[Az];exact a),h]
 ·rw[AR e,AR e]
theorem pE {ds:List DT} {n:Nat} {d:DT} (h:ds[n]? =some d):mz ds (n:Int)=d:=by
 have a:n<ds.length:=(Ab.1 h).1;unfold mz;rw[ao (by omega)];show ds.getD n zD=d;rw[B1,h];rfl
theorem Kept.hc {fr:Ih} {tk:Nat->List TK} {s s':WD} {gr:List GT} (H:HC fr tk s.2 gr) (K:Kept s s'):HC fr tk s'.2 gr:=
 H.Gr K.ks λ{n d} h=>(K.nw h).elim .inl λe=> .inr ⟨by omega,e.2.1,by omega,e.2.2.2⟩
theorem wH (r:Int):gF .i64 0 r=0:=by
 have h: ∀x:BitVec 64,(Dy 64 0) &&& x=0#64:=λx=>by
  rw[show Dy 64 0=0#64 from rfl,BitVec.zero_and]
 show Db.wrap (((Dy 64 0) &&& ~~~(Dy 64 r)).toNat:Int)=0;rw[h];rfl
theorem Cq {ws:List Int} {a:Int} (h:(aN ws a).1=true):ux (B (dL ws a)).toNat=true:=by
 unfold aN eY HV at h;cases b:ux (B (dL ws a)).toNat with
 |true=>rfl
 |false=>rw[b] at h;simp at h
theorem te {ws:List Int} {p t f:Int} {l:Nat} {fd:FT} (hi:uy ws (dW f p (l:Int))=true) (a:ux (B (dL ws (dW f p (l:Int)))).toNat=true):
 bj ws p t (f,(l:Int),fd)=tookS f p t (l:Int) fd (aN ws (dW f p (l:Int))).1 (aN ws (dW f p (l:Int))).2.1 (aN ws (dW f p (l:Int))).2.2.1 (aN ws (dW f p (l:Int))).2.2.2.1:=by
 unfold bj;dsimp only;rw[ao (by omega),a,ao ?_]
 ·rfl
 ·unfold Aa;rw[ax hi];decide
namespace Inv
variable {g:Gh} {s:WD}
theorem CL (I:Inv g s) {o r p t:Int} (d:g r=some (o,3,0)) (b:0<=p/\p<65536): ∀(n:Nat) {j:Nat} {f:Int},j+n=3->g f=some (o,j,px (j+1) p)->fX s.1 r p t n=(f,(j:Int),(0,0,0,0,()))
 |0,j,f,h,a=>by
  have:j=3:=by omega
  subst this;rw[XK b] at a;rw[I.inj a d];rfl
 |n+1,j,f,h,a=>by
  obtain⟨f',h1,e⟩:=I.Fu a (by omega);have i:g f'=some (o,j+1,px (j+1+1) p):=h1;obtain⟨k,m,u⟩:=I.vx h1;obtain⟨c1,c2, _⟩:=I.vx a;have q:=I.CL (t:=t) d b n (j:=j+1) (by omega) i;have c:=ky ⟨k,m⟩ b (l:=j+1) (by omega);have v:=ee p (j+1);rw[fX,q,te (by rw[c];exact jd (by omega) (by omega)) (by rw[c];exact Cq (by rw[e];rfl)),c,e];unfold tookS cv;dsimp only;rw[ao (by decide),ax ?_]
  ·congr 2;rw[bD (by omega) (by omega)];omega
  ·have:fM true 0 false f=true:=dG ⟨c1,c2⟩;rw[this];simp
   try omega
theorem VN (I:Inv g s) {o r p:Int} (u:g r=some (o,3,0)) (b:0<=p/\p<65536) {f:Int} {j:Nat} (a:dD g s o p f j):
 ((k_ s.1 r p 0).1=(l_ p j (aN s.1 (16*f+px j p % 16))).1/\(k_ s.1 r p 0).2.1=(l_ p j (aN s.1 (16*f+px j p % 16))).2.1/\((k_ s.1 r p 0).2.2.2.1=0<->(l_ p j (aN s.1 (16*f+px j p % 16))).2.2.1=0)):=by
 have A:=I.kd a.1;have C:=A.2.2.2.2.2;obtain⟨D,E,T⟩:=I.vx a.1;obtain⟨F,G,U⟩:=I.vx u;have hi:=ee p j;have d:=ky ⟨D,E⟩ b C;have v:=a.2;have H:=I.wf a.1 hi.1 hi.2;have J:=I.leaf a.1 hi.1 hi.2;have i:=lG s.1 (16*f+px j p % 16);have K:sP r p 0=false:=by
  unfold sP;have L:dW r p 3=16*r+px 3 p % 16:=ky ⟨F,G⟩ b (l:=3) (by omega);have V:=ee p 3;rw[L,decide_eq_false (by omega),decide_eq_false (by omega),decide_eq_false (by omega)];rfl
 have M:k_ s.1 r p 0=(fX s.1 r p 0 4).2.2:=ao (by rw[K];decide);have N:=I.CL (t:=0) u b (3 - j) (by omega) a.1;have O:uy s.1 (dW f p (j:Int))=true:=by rw[d];exact jd (by omega) (by omega)
 have P:ux (B (dL s.1 (dW f p (j:Int)))).toNat=true:=by
  rw[d];cases hb:(aN s.1 (16*f+px j p % 16)).1 with
  |true=>exact Cq hb
  |false=>rw[H hb];decide+kernel
 have w:fX s.1 r p 0 (3 - j+1)=tookS f p 0 (j:Int) (0,0,0,0,()) (aN s.1 (16*f+px j p % 16)).1 (aN s.1 (16*f+px j p % 16)).2.1 (aN s.1 (16*f+px j p % 16)).2.2.1 (aN s.1 (16*f+px j p % 16)).2.2.2.1:=by
  rw[fX,N,te O P,d]
 generalize aN s.1 (16*f+px j p % 16)=e at*
 obtain⟨ep,er,el,ef,W⟩:=e;dsimp only at*
 have k: ∀x:FT,tookS f p 0 (j:Int) (0,0,0,0,()) ep er el ef=(f,-1,x)->k_ s.1 r p 0=x:=λx y=>by
  rw[M];have h1:(fX s.1 r p 0 (3 - j+1)).2.1= -1:=by rw[w,y]
  have:=xD h1 j;rw[show 3 - j+1+j=4 by omega] at this;rw[this,w,y]
 cases ep with
 |false=>
  rw[k (wX (j:Int) 4) (by unfold tookS;rfl)];unfold l_ wX;simp
 |true=>
  have c:fM true er el ef=false:=v;obtain⟨X,Y,Q,k4,k5⟩:=l5.1 i;rcases J rfl v with ⟨rfl,m⟩|⟨rfl,m,z⟩
  ·subst m;have R:er>0:=by
    refine B3 λhc=>?_;have:er=0:=by omega
    subst this;have:=dG ⟨Q,k4⟩;unfold dJ cv at this;dsimp only at this;rw[this] at c;cases c
   have n:gH true er false ef 0=true:=by
    unfold gH;rw[i];have q:gF .i64 0 er=0:=wH er;rw[q];simp;omega
   rw[k (uI 0 0 ef true er false ef) (by
    unfold tookS;rw[ao (by decide),c,ao (by decide),ao (by decide),ax (by simp;omega)];rfl)]
   unfold l_ uI;rw[ao (by omega),ax n,ax rfl,ao (by decide)];simp
  ·have z:ef % 16=0:=z;subst m;have R:er>0:=by rcases k5 with h|h;exact h;cases h
   have n:gH true er true ef 0=true:=by
    unfold gH;rw[i];have q:gF .i64 0 er=0:=wH er;rw[q];simp;omega
   have S:aI .i64 ef (fb p 16)=ef+p % 16:=by
    have:fb p 16=p % 16:=by unfold fb;exact Int.tmod_eq_emod_of_nonneg b.1
    rw[this,av (by omega) (by omega)]
   rw[k (uI 1 0 (ef+p % 16) true er true ef) (by
    unfold tookS;rw[ao (by decide),c,ao (by decide),ax (by decide),S];rfl)]
   unfold l_ uI;rw[ao (by omega),ax n,ax rfl,ax rfl];simp
end Inv
set_option maxRecDepth 100000
open Go.RX D
theorem Inv.Pm {g:Gh} {s:WD} (I:Inv g s) (nl:Ad g s) {o r p t:Int} (c:g r=some (o,3,0)) (b:0<=p/\p<65536) (Q:0<=t/\t<=7):
 if(bC s r false p).2.2.1=0 then k_ s.1 r p t=((bC s r false p).1,(bC s r false p).2.1,0,(if gH true (bC s r false p).2.1 false (bC s r false p).1 t=true then 0 else 7),()) else(k_ s.1 r p t).2.2.2.1=4:=by
 obtain⟨f,j, _,a⟩:=I.mq c b;rw[I.fO c b a];have v:=I.kd a.1;have w:=v.2.2.2.2.2;obtain⟨y,z,R⟩:=I.vx a.1;obtain⟨A,C,S⟩:=I.vx c;have hi:=ee p j;have d:=ky ⟨y,z⟩ b w;have i:=a.2;have D:=I.wf a.1 hi.1 hi.2;have E:=nl a.1 hi.1 hi.2;have F:=I.leaf a.1 hi.1 hi.2;have G:=lG s.1 (16*f+px j p % 16);have H:sP r p t=false:=by
  unfold sP;have J:dW r p 3=16*r+px 3 p % 16:=ky ⟨A,C⟩ b (l:=3) (by omega);have T:=ee p 3;rw[J,decide_eq_false (by omega),decide_eq_false (by omega),decide_eq_false (by omega)];rfl
 have K:k_ s.1 r p t=(fX s.1 r p t 4).2.2:=ao (by rw[H];decide);have L:=I.CL (t:=t) c b (3 - j) (by omega) a.1;have M:uy s.1 (dW f p (j:Int))=true:=by rw[d];exact jd (by omega) (by omega)
 have N:ux (B (dL s.1 (dW f p (j:Int)))).toNat=true:=by
  rw[d];cases hb:(aN s.1 (16*f+px j p % 16)).1 with
  |true=>exact Cq hb
  |false=>rw[D hb];decide+kernel
 have n:fX s.1 r p t (3 - j+1)=tookS f p t (j:Int) (0,0,0,0,()) (aN s.1 (16*f+px j p % 16)).1 (aN s.1 (16*f+px j p % 16)).2.1 (aN s.1 (16*f+px j p % 16)).2.2.1 (aN s.1 (16*f+px j p % 16)).2.2.2.1:=by
  rw[fX,L,te M N,d]
 generalize aN s.1 (16*f+px j p % 16)=e at*
 obtain⟨ep,er,el,ef,U⟩:=e;dsimp only at*
 have q: ∀x:FT,tookS f p t (j:Int) (0,0,0,0,()) ep er el ef=(f,-1,x)->k_ s.1 r p t=x:=λx u=>by
  rw[K];have h1:(fX s.1 r p t (3 - j+1)).2.1= -1:=by rw[n,u]
  have:=xD h1 j;rw[show 3 - j+1+j=4 by omega] at this;rw[this,n,u]
 cases ep with
 |false=>
  rw[q (wX (j:Int) 4) (by unfold tookS;rfl)];unfold l_ wX;simp
 |true=>
  have k:fM true er el ef=false:=i;obtain⟨V,W,O,k4,k5⟩:=l5.1 G;have P:=E rfl i;subst P;have m:el=false:=by
   rcases F rfl i with ⟨_,m⟩|⟨h, _⟩
   ·exact m
   ·exact absurd h (by decide)
  subst m;have X:er>0:=by
   refine B3 λhc=>?_;have:er=0:=by omega
   subst this;have:=dG ⟨O,k4⟩;unfold dJ cv at this;dsimp only at this;rw[this] at k;cases k
  rw[q (uI 0 t ef true er false ef) (by
   unfold tookS;rw[ao (by decide),k,ao (by decide),ao (by decide),ax (by simp;omega)];rfl)]
  unfold l_ uI;rw[ax rfl,ao (show ¬ ((0:Nat)=1) by decide)];dsimp only;rw[ax rfl,ao (by omega)];split<;>rfl
theorem My {fr:Ih} {v:Nat} {p:Int} {y:Option Int} (h:fr v p=y):nE fr v p y=fr:=by
 funext i q;unfold nE;split
 ·rename_i c;rw[c.1,c.2,h]
 ·rfl
section
variable {gh:Gh} {h:HS}
namespace HI
theorem po (H:HI gh h) (Nn:List Po.PT):HI gh (AL h Nn):=
 ⟨H.inv,H.rt,H.nl,H.sz,H.jj,H.root,H.own,H.hc⟩
theorem grs (H:HI gh h) {z6:List GT} (hc:HC (ni h) (lP h) h.s.2 z6):HI gh (yr h z6):=
 ⟨H.inv,H.rt,H.nl,H.sz,H.jj,H.root,H.own,hc⟩
theorem ZK (H:HI gh h) (v a:Int):HI gh (fV h v a):=by
 unfold fV;split
 ·exact H
 ·refine H.grs (H.hc.Ph (zc _ _ _) (H.hc.gk.rev _ _) (λ{n x y} b c=>?_) λ{n x} b g=>?_)
  ·unfold lu at c;by_cases e:pk h.gr a v=0
   ·rw[ax e] at c;by_cases en:a.toNat=n
    ·subst en;rw[Ax (Ab.1 b).1] at c;cases c;unfold pk at e;cases d:lT h.gr a with
     |none=>rw[d] at e;exact absurd (show(4:Int)=0 from e) (by decide)
     |some k=>
      rw[d] at e;dsimp only at e;obtain⟨i,j,l⟩:=ft.1 d;have f:a.toNat=k:=by omega
      rw[f] at b;rw[getD_some b] at e;have:=(H.hc.gk x (B5 b)).2;split at e
      ·exact absurd e (by decide)
      ·split at e
       ·exact absurd e (by decide)
       ·show(0:Int)= _;omega
    ·rw[AR en,b] at c;cases c;rfl
   ·rw[ao e,b] at c;cases c;rfl
  ·unfold lu;by_cases e:pk h.gr a v=0
   ·rw[ax e];by_cases en:a.toNat=n
    ·subst en;unfold pk at e;cases d:lT h.gr a with
     |none=>rw[d] at e;exact absurd (show(4:Int)=0 from e) (by decide)
     |some k=>
      rw[d] at e;dsimp only at e;obtain⟨i,j,l⟩:=ft.1 d;have f:a.toNat=k:=by omega
      rw[f] at b;rw[getD_some b] at e;rw[ax g] at e;split at e
      ·exact absurd e (by decide)
      ·exact absurd e (by decide)
    ·rw[AR en];exact b
   ·rw[ao e];exact b
theorem offer (H:HI gh h) (v a b c:Int):HI gh (iH h v a b c):=by
 unfold iH;split
 ·have j: ∀{n:Nat} {x:GT},jU h.gr v a b=0->(kr h.gr v a b).toNat=n->h.gr[n]? =some x->x=zG:=λ{n x} e en d=>by
   unfold kr at en;rw[ax e] at en;have q:dh h.gr e8 h.gr.length≠[]:=λhc=>by
    unfold jU at e;split at e
    ·exact absurd e (by decide)
    ·split at e
     ·exact absurd e (by decide)
     ·exact absurd e (by decide)
   obtain⟨y,l,k⟩:=List.exists_cons_of_ne_nil q;have m:y∈dh h.gr e8 h.gr.length:=by rw[k];exact Bx
   rw[k] at en;have en:y.toNat=n:=en;unfold dh at m;obtain⟨i,hi,rfl⟩:=B2.1 m;have o:=(B4.1 hi).2;have r:i=n:=en;subst r;rw[getD_some d] at o;simpa[e8] using o
  have s:(jV h.gr v a b (c==1)).length=h.gr.length:=by
   unfold jV;split
   ·rw[Az]
   ·rfl
  refine H.grs (H.hc.Ph s (H.hc.gk.off _ _ _ _) (λ{n x y} d f=>?_) λ{n x} d p=>?_)
  ·unfold jV at f;by_cases e:jU h.gr v a b=0
   ·rw[ax e] at f;by_cases en:(kr h.gr v a b).toNat=n
    ·have g:=j e en d;subst en;rw[Ax (Ab.1 d).1] at f;cases f;rw[g];rfl
    ·rw[AR en,d] at f;cases f;rfl
   ·rw[ao e,d] at f;cases f;rfl
  ·unfold jV;by_cases e:jU h.gr v a b=0
   ·rw[ax e];by_cases en:(kr h.gr v a b).toNat=n
    ·have g:=j e en d;rw[g] at p;exact absurd p (by decide)
    ·rw[AR en];exact d
   ·rw[ao e];exact d
 ·exact H
theorem Jm (H:HI gh h) {v:Int} (l:aW h.g v=true) {a b:Int} (e:mJ h v a b=0): ∃dt,HI dt (jY h v a b)/\uJ h (jY h v a b) (λi q=>i=v.toNat/\q=a) (-1)/\(jP h v.toNat a).2.2.1=0/\jP (jY h v a b) v.toNat a=((jP h v.toNat a).1,b,0,())/\(jY h v a b).g=h.g/\uE gh dt h.s (jY h v a b).s:=by
 obtain⟨x,c,o,hv, _⟩:=bR l;unfold mJ at e;unfold jY;split at e
 ·exact absurd e (by decide)
 rename_i c1;rw[ao c1];split at e
 ·exact absurd e (by decide)
 rename_i c2;rw[ao c2];split at e
 ·exact absurd e (by decide)
 rename_i c3;rw[ao c3];rw[o] at e ⊢;obtain⟨n,rfl⟩: ∃n:Nat,v=(n:Int):=⟨v.toNat,hv.symm⟩;have c:h.g n=some x:=c;obtain⟨u,g',C,f,j, _⟩:=H.inv.s9 (H.root c) e;have p:ni h n a=some (bC h.s x.root false a).1:=by rw[cP c,ax f]
 have k:=H.yJ c (s1:=h.s) (λ_ _=>rfl) H.inv C (y:=some (bC h.s x.root false a).1) (by rw[j,ax rfl]) (h':=bF h (rH h.s (n:Int) x.root false a b)) rfl (λ_=>rfl);rw[My p] at k;rw[show((n:Int)).toNat=n from rfl];have r:(bF h (rH h.s (n:Int) x.root false a b)).g n=some x:=c;refine⟨g',H.base C ⟨rfl,rfl⟩ H.nl rfl (λ_=>rfl) ?_,⟨H.Gt (λ_ _=>rfl) H.inv C (h':=bF h (rH h.s (n:Int) x.root false a b)) rfl (λ_=>rfl),λ{m d d'} h1 t _ _ _=>C.kp.ws h1 t,C.kd⟩,by rw[bS c];exact f,by rw[bS c,bS r];exact j,rfl,C.gks⟩;rw[k];exact Kept.hc H.hc C.kp
theorem Jn {v a b:Int} (e:mJ h v a b≠0):jY h v a b=h:=by
 unfold mJ at e;unfold jY;split
 ·rfl
 rename_i c1;rw[ao c1] at e;split
 ·rfl
 rename_i c2;rw[ao c2] at e;split
 ·rfl
 rename_i c3;rw[ao c3] at e;rw[Vw e];rfl
theorem s9 (H:HI gh h) {v:Int} (c:aW h.g v=true) (a b:Int): ∃dt,HI dt (jY h v a b):=by
 by_cases e:mJ h v a b=0
 ·obtain⟨g',d, _⟩:=H.Jm c e;exact⟨g',d⟩
 ·rw[Jn e];exact⟨gh,H⟩
end HI
end
set_option maxRecDepth 100000
open Go.RX D
section
variable {gh:Gh} {h:HS}
theorem iP {gh:Gh} {s s':WD} (I:Inv gh s) (a:s'.1.length=s.1.length/\s'.2.length=s.2.length)
 (g: ∀b:Int,dL s'.1 b≠dL s.1 b-> ∃(n:Nat) (d:DT),s.2[n]? =some d/\d.1≠3/\16*(n:Int)<=b/\b<16*(n:Int)+16)
 (i: ∀{n:Nat} {d d':DT},s.2[n]? =some d->s'.2[n]? =some d'->(d'=d\/(d.1≠3/\d'.1≠3/\(d'.1=0->d'=zD)))):Inv.fq gh s s' where
 len:=a
 ws:=λ{f o x k l} j h0 h1=>by
  refine B3 λm=>?_;obtain⟨n,d,t,u,v,w⟩:=g _ m;have y:=I.kd j;have e:f.toNat=n:=by omega
  grind
 tb:=λ{n d} h p=>by
  grind
 bt:=λh p=>by
  grind
 fz:=λd q h0=>by
  obtain⟨n,c⟩:=Bs q;have r:n<s.2.length:=by rw[<-a.2];exact(Ab.1 c).1
  have h':=B_ r;rcases i h' c with e|⟨_, _,e⟩
  ·rw[e] at h0 ⊢;exact I.fz _ (B5 h') h0
  ·grind
theorem vj {ds:List DT} {n m:Nat} {d0 d1 d d':DT} (h0:ds[n]? =some d0) (h:ds[m]? =some d) (h':(ds.set n d1)[m]? =some d'):(m=n/\d=d0/\d'=d1)\/(m≠n/\d'=d):=by
 grind
namespace HI
theorem TF (H:HI gh h) {i:Nat} {p f:Int} (b:ni h i p=some f): ∃(n:Nat) (d:DT),f=(n:Int)/\h.s.2[n]? =some d/\d.1=4/\1<=d.2.1/\d.2.1<=16/\d=(4,d.2.1,(eo (lP h) (n:Int):Int),0,()):=by
 obtain⟨n,d,h1,a,c⟩:=H.hc.at4 b;obtain⟨j,q,g,e, _⟩:=H.hc.Tf a c;have:=H.hc.jj e;obtain:=H.hc.kd a;have k:=H.hc.refs a
 grind
structure abu (h h':HS) (v:Nat) (a b:Int) (f:Nat):Prop where
 g:h'.g=h.g
 gr:h'.gr=h.gr
 po:h'.po=h.po
 Wy:(jP h v a).2.2.1=4
 pg:jP h' v a=((f:Int),b,0,())
 fr:h.s.2[f]? =some zD
 f4:h'.s.2[f]? =some (4,(v:Int),0,0,())
 ef:uJ h h' (λi q=>i=v/\q=a) (f:Int)
 zr: ∀k:Int,0<=k->k<16->dL h'.s.1 (16*(f:Int)+k)=0
 ct:bu h.s.2 0<=bu h'.s.2 0+4
theorem Pn (H:HI gh h) {v:Int} (X:aW h.g v=true) {a b:Int} (o:oQ h v a b=0): ∃dt f,HI dt (jS h v a b)/\abu h (jS h v a b) v.toNat a b f/\jo h v=(f:Int)/\uE gh dt h.s (jS h v a b).s:=by
 obtain⟨x,p,K,hv,Y,Z⟩:=bR X;unfold oQ at o;unfold jS;by_cases L:a>=65536
 ·rw[ax L] at o;exact absurd o (by decide)
 rw[ao L] at o ⊢;by_cases M:b<1\/b>7
 ·rw[ax M] at o;exact absurd o (by decide)
 rw[ao M] at o ⊢;by_cases w:dC h.s.2 4 v=0
 case neg=>rw[ax w] at o;exact absurd o w
 rw[ao (λe=>e w)] at o ⊢;obtain⟨n,uH,u,t1,t2,t3⟩:=zM (vi w) H.inv.fz ⟨Y,Z⟩;have N:jo h v=(n:Int):=t1;have r:kf h v=(h.s.1,h.s.2.set n (4,v,0,0,())):=by unfold kf;rw[t3]
 have hM:qG h v a b=jy (kf h v) v (aY h.g v) false a (jo h v) b:=rfl;rw[ao (λe=>e o)];rw[hM,N,K];rw[N,K] at o;obtain⟨m,rfl⟩: ∃m:Nat,v=(m:Int):=⟨v.toNat,hv.symm⟩;have p:h.g m=some x:=p;have hlen:=H.sz;have B:Inv.fq gh h.s (kf h (m:Int)):=by
  rw[r];refine iP H.inv ⟨rfl,by rw[Az]⟩ (λb hb=>absurd rfl hb) λ{i d d'} h1 A=>?_;rcases vj u h1 A with ⟨_,e1,D⟩|⟨_,D⟩
  ·exact .inr ⟨by rw[e1];decide,by rw[D];exact(show ¬ (4:Int)=3 by decide),λc=>by rw[D] at c;exact absurd c (show ¬ (4:Int)=0 by decide)⟩
  ·exact .inl D
 have E:=H.inv.beside B;obtain⟨hp,g',C,O,q2,P, _,⟨f0,j,hE,hc⟩, _⟩:=E.map (H.root p) o;have hj:=(E.kd hE.1).2.2.2.2.2;have hcT:bu (kf h (m:Int)).2 0+1=bu h.s.2 0:=by
  rw[r];have:=tc (d':=((4:Int),(m:Int),(0:Int),(0:Int),())) u 0;exact this
 have ru:ni h m a=none:=by
  rw[cP p, <-H.inv.dU B (H.root p),ao (by rw[P];decide)]
 have hc1:HC (nE (ni h) m a (some (n:Int))) (lP h) (kf h (m:Int)).2 h.gr:=by
  rw[r];exact H.hc.Gs (by omega) hp u rfl ru
 have NA:=Kept.hc hc1 C.kp;have kp:=C.kp;have Q:(kf h (m:Int)).1=h.s.1:=rfl;generalize jy (kf h (m:Int)) (m:Int) x.root false a (n:Int) b=l at*
 have qz:=H.yJ p (λ{i z} F q=>H.inv.dU B (H.root F) q) E C (y:=some (n:Int)) (by rw[O,ax rfl]) (h':=bF h l) rfl (λ_=>rfl);have G:HI g' (bF h l):=H.base C B.len (Inv.m8 B H.nl) rfl (λ_=>rfl) (by rw[qz];exact NA);have R:l.2[n]? =some (4,(m:Int),0,0,()):=C.kp.ks (by rw[r];exact Ax uH) rfl;have Ie:l.2.length=h.s.2.length:=by rw[C.len.2,B.len.2]
 have Wo:l.1.length=h.s.1.length:=by rw[C.len.1,B.len.1]
 have S:(eZ l.1 (n:Int) (λ_=>0) 16).length=l.1.length:=gJ _ _ _ _;have I: ∀b,dL (eZ l.1 (n:Int) (λ_=>0) 16) b=if 16*(n:Int)<=b/\b<16*(n:Int)+16 then 0 else dL l.1 b:=λb=>s_ (by omega) (by omega) 16 (Dt _) b;generalize eZ l.1 (n:Int) (λ_=>0) 16=W at S I ⊢;have T:Inv.fq g' l (W,l.2):=by
  refine iP C.inv ⟨S,rfl⟩ (λb hb=>⟨n, _,R,(show ¬ (4:Int)=3 by decide),?_⟩) λ{i d d'} h1 A=>?_
  ·grind
  ·rw[h1] at A;cases A;exact .inl rfl
 have H3:=G.side (z6:=h.gr) (Nn:=h.po) T G.hc;have U: ∀{i:Nat} {q:Int},jP {s:=(W,l.2),g:=h.g,gr:=h.gr,po:=h.po} i q=jP (bF h l) i q:=λ{i q}=>by
  cases hi:h.g i with
  |none=>unfold jP;rw[show(bF h l).g i=none from hi];dsimp only;rw[hi]
  |some z=>rw[bS (h:=bF h l) hi,bS (h:={s:=(W,l.2),g:=h.g,gr:=h.gr,po:=h.po}) hi];exact C.inv.dU T (G.root hi) q
 refine⟨g',n,H3,⟨rfl,rfl,rfl,?_,?_,u,R,⟨⟨λ{i q} hn=>?_⟩,λ{i d d'} V h4 _ _ dg k k0 J=>?_,KD.trans (t:=kf h (m:Int)) (by rw[r];exact KD.set u (λc=>absurd c (by decide)) (λc=>absurd c (by decide))) (C.kd.trans (.refl rfl))⟩,λk k0 J=>?_,?_⟩,rfl,((uE.kd (by rw[r];exact KD.set u (λc=>absurd c (by decide)) (λc=>absurd c (by decide))) (λ_ _ _ _ _=>by rw[Q])).trans C.gks).trans (uE.kd (.refl rfl) λ{i d} V h5 k k0 J=>?_)⟩
 ·rw[show((m:Int)).toNat=m from rfl,bS p, <-H.inv.dU B (H.root p)];exact P
 ·exact U.trans ((bS (h:=bF h l) p a).trans O)
 ·exact U.trans ((H.Gt (λ{i z} F q=>H.inv.dU B (H.root F) q) E C (h':=bF h l) rfl (λ_=>rfl)).to hn)
 ·show dL W _= _;rw[I,ao (by omega)];have Ni:(kf h (m:Int)).2[i]? =some d:=by
   rw[r];show(h.s.2.set n _)[i]? = _;rw[AR (by omega)];exact V
  rw[kp.ws Ni h4 k k0 J,Q]
 ·show dL W _= _;rw[I,ax (by omega)]
 ·show _<=bu l.2 0+4;omega
 ·show dL W _= _
  grind
theorem Pq (H:HI gh h) {v:Int} (j:aW h.g v=true) {a b:Int} (c:oQ h v a b≠0):jS h v a b=h:=by
 obtain⟨x,q,r,hv,f,i⟩:=bR j;unfold oQ at c;unfold jS;split
 ·rfl
 rename_i c1;rw[ao c1] at c;split
 ·rfl
 rename_i c2;rw[ao c2] at c;split
 ·rename_i e;have:kf h v=(h.s.1,h.s.2):=by unfold kf;rw[Bp e]
  rw[this];rfl
 rename_i d;rw[ao d] at c;have d:=B3 d;rw[ax c];obtain⟨n,k,l,t1,t2,t3⟩:=zM (vi d) H.inv.fz ⟨f,i⟩;have m:jo h v=n:=t1;have o:kf h v=(h.s.1,h.s.2.set n (4,v,0,0,())):=by unfold kf;rw[t3]
 have p:qG h v a b=jy _ v _ _ a _ b:=rfl;rw[p,Je c,o,m];have:=yx (Ax k) (Mx ⟨f,i⟩);rw[this.1,Si l];rfl
theorem Gs (H:HI gh h) {v:Int} (c:aW h.g v=true) (a b:Int): ∃dt,HI dt (jS h v a b):=by
 by_cases e:oQ h v a b=0
 ·obtain:=H.Pn c e
  grind
 ·rw[H.Pq c e];grind
structure abv (h h':HS) (v:Nat) (a:Int) (f:Nat):Prop where
 g:h'.g=h.g
 Wy:(jP h v a).2.2.1=0/\(jP h v a).1=(f:Int)
 pg:jP h' v a=(0,0,4,())
 f5:h'.s.2[f]? =some (5,(v:Int),0,0,())
 ef:uJ h h' (λi q=>i=v/\q=a) (-1)
theorem Pr (H:HI gh h) {v:Int} (B:aW h.g v=true) {a:Int} (e:sU h v a=0): ∃dt f,HI dt (qF h v a)/\abv h (qF h v a) v.toNat a f/\uE gh dt h.s (qF h v a).s:=by
 obtain⟨x,l,L,hv,vy,sw⟩:=bR B;unfold qF;rw[ax e];obtain⟨m,rfl⟩: ∃m:Nat,v=(m:Int):=⟨v.toNat,hv.symm⟩;have l:h.g m=some x:=l;have M:fy h.g h.s (m:Int) a=bC h.s x.root false a:=by
  unfold fy;grind
 unfold sU at e;rw[M] at e ⊢;rw[L];split at e
 ·exact absurd e (by decide)
 split at e
 ·rename_i c;exact absurd e c
 rename_i c1;have c1:(bC h.s x.root false a).2.2.1=0:=B3 c1;split at e
 ·exact absurd e (by decide)
 rename_i c2;split at e
 ·exact absurd e (by decide)
 rename_i c3;have u:ni h m a=some (bC h.s x.root false a).1:=by rw[cP l,ax c1]
 obtain⟨n,d,D,w,d4,do1,do2,r⟩:=H.TF u;have E:cg (lP h m) a=none:=by
  cases N:cg (lP h m) a with
  |none=>rfl
  |some y=>
   refine absurd ((tD B (x:=x) l).2 ?_) c2;rw[gu l] at N;unfold Nk
   grind
 rw[D] at c3 u ⊢;rw[pE w] at c3;have F:eo (lP h) (n:Int)=0:=by
  have:=H.hc.refs w;omega
 have I:=(H.inv.Pf (H.root l) c1).1;obtain⟨g',C,J, _⟩:=H.inv.DQ (H.root l) I (H.inv.aay H.nl (H.root l) I c1);have O:=Kept.hc H.hc C.kp;generalize nq h.s (m:Int) x.root false a=j at*
 have t:=C.kp.ks w d4;rw[F] at r;have r:d=(4,d.2.1,0,0,()):=r;have Q:d.2.1=(m:Int):=by
  obtain⟨R,d',S,K, _,T⟩:=H.hc.own u E;have:R=n:=BN S;subst this;rw[w] at K;cases K;exact T
 rw[Q] at r;rw[r] at t;have U:=yx (G:=aP 5 (m:Int)) t (BD ⟨by omega,by omega⟩);rw[U.1];have V:=O.CJ (o:=(m:Int)) ⟨by omega,by omega⟩ u E F;have A:Inv.fq g' j (j.1,j.2.set n (5,(m:Int),0,0,())):=by
  refine iP C.inv ⟨rfl,by rw[Az]⟩ (λb hb=>absurd rfl hb) λ{i d d'} h1 h2=>?_
  grind
 have W:=H.yJ l (λ{i z} k q=>rfl) H.inv C (y:=none) (by rw[J];rfl) (h':=bF h j) rfl (λ_=>rfl);have X:=by
  funext i p;cases k:h.g i with
  |none=>exact(gq (h:=bF h (j.1,j.2.set n (5,(m:Int),0,0,()))) k p).trans (gq (h:=bF h j) k p).symm
  |some z=>
   refine(cP (h:=bF h (j.1,j.2.set n (5,(m:Int),0,0,()))) k p).trans (Eq.trans ?_ (cP (h:=bF h j) k p).symm);show(if(bC (j.1,j.2.set n (5,(m:Int),0,0,())) z.root false p).2.2.1=0 then some (bC (j.1,j.2.set n (5,(m:Int),0,0,())) z.root false p).1 else none)=if(bC j z.root false p).2.2.1=0 then some (bC j z.root false p).1 else none;rw[C.inv.dU A (C.root.to (H.root k))]
 have Y:(bF h j).g m=some x:=l;have Z:n<j.2.length:=(Ab.1 t).1;have sp: ∀P,Ae (bF h j) (bF h (j.1,j.2.set n (5,(m:Int),0,0,()))) P:=λP=>⟨λ{i q} _=>by
  cases k:h.g i with
  |none=>exact(gm (h:=bF h (j.1,j.2.set n (5,(m:Int),0,0,()))) k q).trans (gm (h:=bF h j) k q).symm
  |some z=>exact(bS (h:=bF h (j.1,j.2.set n (5,(m:Int),0,0,()))) k q).trans ((C.inv.dU A (C.root.to (H.root k)) q).trans (bS (h:=bF h j) k q).symm)⟩
 suffices hh:HI g' (bF h (j.1,j.2.set n (5,(m:Int),0,0,()))) from⟨g',n,hh,⟨rfl,by rw[show((m:Int)).toNat=m from rfl,bS l];exact⟨c1,D⟩,((sp (λ_ _=>False)).to (λc=>c)).trans ((bS Y a).trans J),Ax Z,Ae.trans (H.Gt (λ_ _=>rfl) H.inv C (h':=bF h j) rfl (λ_=>rfl)) (sp _),λ{i d d'} h1 h4 _ _ _=>C.kp.ws h1 h4,C.kd.trans (KD.set t (λ_=> .inr rfl) (by grind))⟩,C.gks.trans (uE.kd (KD.set t (λ_=> .inr rfl) (λc=>absurd (show(4:Int)=5 from c) (by decide))) λ_ _ _ _ _=>rfl)⟩
 exact{inv:=C.inv.beside A,rt:=H.rt.du C.root,nl:=Inv.m8 A (C.lg (λo q q' a b=>a.2.trans b.2.symm) H.nl),sz:=by
        show j.1.length=16*(j.2.set n (5,(m:Int),0,0,())).length;rw[Az,C.len.1,C.len.2];exact H.sz
       ,jj:=H.jj,root:=λ{i z} k=>C.root.to (H.root k),own:=λ{f o y} hf=>H.own ((C.root o f y).1 hf),hc:=by rw[X,W];exact V}
theorem CJ (H:HI gh h) {v:Int} (b:aW h.g v=true) (a:Int): ∃dt,HI dt (qF h v a):=by
 by_cases e:sU h v a=0
 ·obtain:=H.Pr b e
  grind
 ·rw[show qF h v a=h from ao e];grind
end HI
end
set_option maxRecDepth 100000
open Go.RX D
theorem BE (k:Nat): ∀l:List TK,(∀t∈l,0<=t.2.1/\t.2.1<(k:Int))->l.length<=((B9 k).map λa=>l.countP λt=>t.2.1==((a:Nat):Int)).sum
 |[], _=>FW _
 |t::l,h=>by
  have c:=BE k l λu b=>h u (C6 _ b);have d:=h t Bx;have e:(λa:Nat=>(t::l).countP λt=>t.2.1==((a:Nat):Int))=lh (λa:Nat=>l.countP λt=>t.2.1==((a:Nat):Int)) t.2.1.toNat (l.countP (λu=>u.2.1==((t.2.1.toNat:Nat):Int))+1):=by
   funext a;rw[Ca];by_cases e:a=t.2.1.toNat
   ·subst e;rw[kU,ax (by simp;omega)]
   ·rw[nW e,ao (by simp;omega)];rfl
  have:=CH (λa:Nat=>l.countP λt=>t.2.1==((a:Nat):Int)) t.2.1.toNat (l.countP (λu=>u.2.1==((t.2.1.toNat:Nat):Int))+1) k;rw[ax (by omega),ax (by omega)] at this;rw[e,Dd];omega
theorem Ps {f:Nat->Nat} {c:Nat}: ∀l:List Nat,(∀x∈l,f x<=c)->(l.map f).sum<=c*l.length
 |[], _=>FW _
 |x::l,h=>by
  have:=Ps l λy a=>h y (C6 _ a);have:=h x Bx;rw[DJ,E5,Dd,Nat.mul_add];omega
theorem Mz (tk:Nat->List TK) (q:TK->Bool):nC tk q=((B9 17).flatMap tk).countP q:=by
 unfold nC;rw[List.countP_flatMap];rfl
theorem MC (l:List TK) (k c:Nat) (h: ∀t∈l,0<=t.2.1/\t.2.1<(k:Int)) (hb: ∀a:Nat,a<k->(l.countP λt=>t.2.1==((a:Nat):Int))<=c):l.length<=c*k:=by
 have h1:=BE k l h;have b:=Ps (f:=λa:Nat=>l.countP λt=>t.2.1==((a:Nat):Int)) (c:=c) (B9 k) λa d=>hb a (Dc.1 d);rw[List.length_range] at b;exact Nat.le_trans h1 b
namespace HC
variable {fr:Ih} {tk:Nat->List TK} {ds:List DT} {gr:List GT}
theorem ids (H:HC fr tk ds gr) {i:Nat} {t:TK} (h:t∈tk i):0<=t.2.1/\t.2.1<((16:Nat):Int):=by
 obtain⟨_,o, _,k,x,h1,b, _⟩:=H.C' (a:=t.2.1) (f:=t.2.2) (H.N8 h);obtain⟨c,d, _⟩:=ft.1 h1;have:=H.gl;omega
theorem Jo (H:HC fr tk ds gr) (f:Int):eo tk f<=16000:=by
 have h0: ∀q,nC tk q=((B9 17).flatMap tk).countP q:=Mz tk;have d: ∀t∈(B9 17).flatMap tk,0<=t.2.1/\t.2.1<((16:Nat):Int):=λt h=>by
  obtain⟨i, _,hi⟩:=List.mem_flatMap.1 h;exact H.ids hi
 have b: ∀a:Nat,a<16->nC tk (λt=>t.2.1==((a:Nat):Int))<=1000:=λa c=>by
  have j:a<gr.length:=by rw[H.gl];exact c
  have e:gr[a]? =some gr[a]:=B_ j;have b:=H.uU e;have:=(H.gk _ (B5 e)).2;unfold mN at b;omega
 unfold eo;rw[h0];generalize (B9 17).flatMap tk=g at h0 d;have h1:=List.countP_le_length (p:=λt:TK=>t.2.2==f) (l:=g);have k:=MC g 16 1000 d λa c=>by rw[<-h0];exact b a c
 omega
end HC
theorem MD {gr:List GT} {k:Nat} {x:GT} (h:gr[k]? =some x) (y:GT):(gr.set k y).set k x=gr:=by
 apply FC;intro i;have a:k<gr.length:=(Ab.1 h).1;by_cases e:k=i
 ·subst e;rw[Ax (by rw[Az];exact a),h]
 ·rw[AR e,AR e]
section
variable {gh dt:Gh} {h:HS}
theorem HI.fin (H:HI gh h) {v:Nat} {p:Int} {s1 d l:WD} (C:sH (ow (v:Int) 0 p) (v:Int) gh dt s1 d) (u:Ad gh s1) (m:s1.1.length=h.s.1.length/\s1.2.length=h.s.2.length) (B:Inv.fq dt d l) {h':HS} (j:h'.s=l) (n: ∀i,(h'.g i).map GV.root=(h.g i).map GV.root)
 {F:Ih} (w:ni {h' with s:=d}=F) (hc:HC F (lP h') l.2 h'.gr):HI dt h':=by
 have r: ∀{i:Nat} {x:GV},h'.g i=some x-> ∃z,h.g i=some z/\x.root=z.root:=λ{i x} k=>by
  have hi:=n i;rw[k] at hi;cases hc:h.g i with
  |none=>rw[hc] at hi;cases hi
  |some z=>rw[hc] at hi;exact⟨z,rfl,by simpa using hi⟩
 have t: ∀{i:Nat} {x:GV},h'.g i=some x->dt x.root=some ((i:Int),3,0):=λ{i x} k=>by
  obtain⟨z,c,A⟩:=r k;rw[A];exact C.root.to (H.root c)
 refine⟨by rw[j];exact C.inv.beside B,H.rt.du C.root,by rw[j];exact Inv.m8 B (C.lg (λo q G a b=>a.2.trans b.2.symm) u),?_,λ{i x} k=>?_,t,λ{f o y} D=>?_,?_⟩
 ·rw[j,B.len.1,B.len.2,C.len.1,C.len.2,m.1,m.2];exact H.sz
 ·obtain⟨z,c, _⟩:=r k;exact H.jj c
 ·obtain⟨i,x,h1,E⟩:=H.own ((C.root o f y).1 D);have hi:=n i;rw[E] at hi;cases hc:h'.g i with
  |none=>rw[hc] at hi;cases hi
  |some z=>exact⟨i,z,h1,hc⟩
 ·have e:ni h'=F:=by
   rw[<-w];funext i q;cases c:h'.g i with
   |none=>exact(gq c q).trans (gq (h:={h' with s:=d}) c q).symm
   |some z=>
    refine(cP c q).trans (Eq.trans ?_ (cP (h:={h' with s:=d}) c q).symm);show _=if(bC d z.root false q).2.2.1=0 then some (bC d z.root false q).1 else none;rw[j,C.inv.dU B (t c)]
  rw[e,j];exact hc
theorem HI.Jp (H:HI gh h) {v:Nat} {p:Int} {b e:WD} (C:sH (ow (v:Int) 0 p) (v:Int) gh dt h.s b) (B:Inv.fq dt b e) (l:e.1=b.1) (n:KD b e) {h':HS} (f:h'.s=e) (j: ∀i,(h'.g i).map GV.root=(h.g i).map GV.root):
 uJ h h' (λi q=>i=v/\q=p) (-1)/\ ∀{i:Nat} {x:GV},h.g i=some x-> ∀q,jP h' i q=bC b x.root false q:=by
 have r: ∀{i:Nat} {x:GV},h.g i=some x-> ∃z,h'.g i=some z/\z.root=x.root:=λ{i x} a=>by
  have hi:=j i;rw[a] at hi;cases hc:h'.g i with
  |none=>rw[hc] at hi;cases hi
  |some z=>rw[hc] at hi;exact⟨z,rfl,by simpa using hi⟩
 have key: ∀{i:Nat} {x:GV},h.g i=some x-> ∀q,jP h' i q=bC b x.root false q:=λ{i x} a q=>by
  obtain⟨z,t,u⟩:=r a;rw[bS t,f,u];exact C.inv.dU B (C.root.to (H.root a)) q
 refine⟨⟨⟨λ{i q} w=>?_⟩,λ{m d d'} h1 y _ _ _ k k0 A=>?_,?_⟩,key⟩
 ·cases a:h.g i with
  |none=>
   have hi:=j i;rw[a] at hi;rw[gm a,gm (by simpa using hi)]
  |some x=>
   rw[key a,bS a];refine H.inv.y_ C.inv C.Dx C.root (o:=(i:Int)) (H.root a) λc=>w ?_;obtain⟨c1,c2⟩:=c;exact⟨BN c1,c2⟩
 ·rw[f,l];exact C.kp.ws h1 y k k0 A
 ·rw[f];exact C.kd.trans n
theorem n8 {g:Gh} {s:WD} (I:Inv g s) {n:Nat} {o r r':Int} (e:s.2[n]? =some (4,o,r,0,())):Inv.fq g s (s.1,s.2.set n (4,o,r',0,())):=
 iP I ⟨rfl,by rw[Az]⟩ (λb hb=>absurd rfl hb) λ{i d d'} h1 f=>by
  rcases vj e h1 f with ⟨_,h,a⟩|⟨_,a⟩
  ·exact .inr ⟨by rw[h];exact(show ¬ (4:Int)=3 by decide),by rw[a];exact(show ¬ (4:Int)=3 by decide),λc=>by rw[a] at c;exact absurd c (show ¬ (4:Int)=0 by decide)⟩
  ·exact .inl a
theorem kV {g:Nat->Option GV} {n:Nat} {x:GV} (a:g n=some x) (tk:List TK) (i:Nat):(bz g n (some {x with tk:=tk}) i).map GV.root=(g i).map GV.root:=by
 unfold bz;by_cases e:i=n
 ·subst e;rw[ax rfl,a];rfl
 ·rw[ao e]
theorem Jq {h':HS} {g:Nat->Option GV} {n:Nat} {x:GV} (b:h.g n=some x) (tk:List TK) (a:h'.g=bz h.g n (some {x with tk:=tk})):lP h'=lh (lP h) n tk:=by
 funext i;unfold lP lh;rw[a];unfold bz;by_cases e:i=n
 ·rw[ax e,ax e]
 ·rw[ao e,ao e]
def NG (ds:List DT) (n:Nat) (o:Int):Prop:= ∃d:DT,ds[n]? =some d/\d.1=4/\d.2.1=o
theorem Kept.Tf {s s':WD} (K:Kept s s') (n:Nat) (o:Int):NG s'.2 n o<->NG s.2 n o:=by
 constructor
 ·rintro⟨d,h1,a,b⟩;rcases K.nw h1 with h|⟨h, _⟩
  ·exact⟨d,h,a,b⟩
  ·omega
 ·rintro⟨d,h1,a,b⟩;exact⟨d,K.ks h1 a,a,b⟩
theorem VO {ds:List DT} {n:Nat} {o r r':Int} (h:ds[n]? =some (4,o,r,0,())) (m:Nat) (o':Int):NG (ds.set n (4,o,r',0,())) m o'<->NG ds m o':=by
 have b:n<ds.length:=(Ab.1 h).1;unfold NG;by_cases e:n=m
 ·subst e;rw[Ax b,h];constructor
  ·rintro⟨d,h1,c,a⟩;cases h1;exact⟨_,rfl,rfl,a⟩
  ·rintro⟨d,h1,c,a⟩;cases h1;exact⟨_,rfl,rfl,a⟩
 ·rw[AR e]
theorem HI.F4 (H:HI gh h) {v:Nat} {p id f:Int} {x:GV} (a:h.g v=some x) (J:cg x.tk p=some (id,f)): ∃dt,HI dt (dw h (v:Int) p id f)/\(∀n o,NG (dw h (v:Int) p id f).s.2 n o<->NG h.s.2 n o)/\uJ h (dw h (v:Int) p id f) (λi q=>i=v/\q=p) (-1)/\jP (dw h (v:Int) p id f) v p=(0,0,4,())/\uE gh dt h.s (dw h (v:Int) p id f).s:=by
 have j:cg (lP h v) p=some (id,f):=by rw[gu a];exact J
 obtain⟨l,o,Y,K⟩:=H.hc.C' j;obtain⟨k,y,g1,e,Z,L, _⟩:=K;obtain⟨n,d,M,r,d4,N,O,P⟩:=H.TF l;subst M;obtain⟨Q,k2,u⟩:=ft.1 g1;rw[getD_some e] at u;subst Q;have R:aY h.g (v:Int)=x.root:=by
  have r:=H.jj a;unfold aY;rw[ax (cw.2 ⟨by omega,x,a⟩)];show(match h.g v with|some x=>x.root|none=> -1)= _;rw[a]
 have A:(bC h.s x.root false p).2.2.1=0:=by
  rw[cP a] at l;by_cases c:(bC h.s x.root false p).2.2.1=0
  ·exact c
  ·rw[ao c] at l;cases l
 have B:=(H.inv.Pf (H.root a) A).1;obtain⟨g',C,D, _⟩:=H.inv.DQ (H.root a) B (H.inv.aay H.nl (H.root a) B A);have TA:=H.jj a;have oZ:0<eo (lP h) (n:Int):=nX (q:=λt=>t.2.2==(n:Int)) (by omega:v<17) (H.hc.J' j) (by simp);have acF:0<mN (lP h) (k:Int):=nX (q:=λt=>t.2.1==(k:Int)) (by omega:v<17) (H.hc.J' j) (by simp);have acn:=H.hc.Jo (n:Int);have S:mo h.gr (k:Int) (v:Int)=0:=by
  unfold mo;rw[g1];dsimp only;rw[getD_some e,ao (by rw[L];simp),ao (by rw[H.hc.uU e];omega)]
 have E:eM h.gr (k:Int) (v:Int)=h.gr.set k (fj y (-1)):=by
  unfold eM;rw[ax S];show h.gr.set k (fj (h.gr.getD k zG) (-1))= _;rw[getD_some e]
 have T:=Kept.hc H.hc C.kp;have U:dw h (v:Int) p (k:Int) (n:Int)={s:=((nq h.s (v:Int) x.root false p).1,dI (nq h.s (v:Int) x.root false p).2 (n:Int) (ia (-1))),g:=bz h.g v (some {x with tk:=x.tk.filter λt=> !(t.1==p)}),gr:=h.gr.set k (fj y (-1)),po:=h.po}:=by
  unfold dw;rw[R,E];show HS.mk _ (bz h.g v (match h.g v with|some x=> _|none=>none)) _ _= _;rw[a]
 rw[U];generalize nq h.s (v:Int) x.root false p=F at*
 have b:=C.kp.ks r d4;rw[P] at b;have V:=yx (G:=ia (-1)) b (aaA ⟨N,O⟩ ⟨by omega,by omega⟩ ⟨by omega,by omega⟩);rw[V.1];have W:om (h.gr.set k (fj y (-1))):=by rw[<-E];exact H.hc.gk.back _ _
 have X:=T.F4 j b e u W;have I:=H.Jp C (n8 (r':=(eo (lP h) (n:Int):Int)+ -1) C.inv b) rfl (KD.set b (λ_=> .inl rfl) (λc=>absurd (show(4:Int)=5 from c) (by decide))) (h':={s:=(F.1,F.2.set n (4,d.2.1,(eo (lP h) (n:Int):Int)+ -1,0,())),g:=bz h.g v (some {x with tk:=x.tk.filter λt=> !(t.1==p)}),gr:=h.gr.set k (fj y (-1)),po:=h.po}) rfl (λi=>kV a _ i);refine⟨g',H.fin C H.nl ⟨rfl,rfl⟩ (n8 C.inv b) rfl (λi=>kV a _ i) (H.yJ a (λ{i z} hz q=>rfl) H.inv C (y:=none) (by rw[D];rfl) rfl (λi=>kV a _ i)) ?_,λm w=>(VO b m w).trans (C.kp.Tf m w),I.1,(I.2 a p).trans D,C.gks.trans (uE.kd (KD.set b (λ_=> .inl rfl) (λc=>absurd (show(4:Int)=5 from c) (by decide))) λ_ _ _ _ _=>rfl)⟩;rw[Jq (g:=h.g) a _ rfl, <-gu a];exact X
end
set_option maxRecDepth 100000
open Go.RX D
section
variable {gh dt:Gh} {h:HS}
theorem ME {v p:Int} (h0:(fy h.g h.s v p).2.2.1=0):aW h.g v=true/\ ∃x,h.g v.toNat=some x/\fy h.g h.s v p=bC h.s x.root false p:=by
 unfold fy at h0 ⊢;by_cases a:aW h.g v=true
 ·obtain⟨x,b, _⟩:=bR a;rw[ax a,b];exact⟨a,x,rfl,rfl⟩
 ·rw[ao a] at h0;exact absurd h0 (by decide)
theorem Sj {v p:Int} {x:GV} (b:aW h.g v=true) (a:h.g v.toNat=some x) (hb: ¬ ib h v p=true):cg x.tk p=none:=by
 cases c:cg x.tk p with
 |none=>rfl
 |some y=>
  refine absurd ((tD b a).2 ?_) hb;unfold Nk;rw[a];dsimp only;rw[c];rfl
theorem Sk {gs:List GT} {k:Nat} {x:GT} {v:Int} (h:gs[k]? =some x) (g:x≠zG) (hv:x.2.2.1=v) (m:0<=x.2.2.2.2.1) (i:om gs):eM (gs.set k (fj x 1)) (k:Int) v=gs:=by
 have f:k<gs.length:=(Ab.1 h).1;have h1:(gs.set k (fj x 1))[k]? =some (fj x 1):=Ax f;have j:lT (gs.set k (fj x 1)) (k:Int)=some k:=ft.2 ⟨rfl,by rw[Az];exact f,by rw[getD_some h1];exact xL i h g 1⟩;have l:mo (gs.set k (fj x 1)) (k:Int) v=0:=by
  unfold mo;rw[j];dsimp only;rw[getD_some h1,ao (by show ¬ x.2.2.1≠v;rw[hv];simp),ao (by show ¬ x.2.2.2.2.1+1=0;omega)]
 unfold eM;rw[ax l];show(gs.set k (fj x 1)).set k (fj ((gs.set k (fj x 1)).getD k zG) (-1))=gs;rw[getD_some h1];have e:fj (fj x 1) (-1)=x:=by
  obtain⟨a,b,c,d,e,u⟩:=x;unfold fj;dsimp only;rw[show e+1+ -1=e by omega]
 rw[e];exact MD h _
theorem abw {v a b c:Int} (d:mw h v a b c=0):ma h v a b c=kJ h.s (aY h.g v) false b (lK h a).1 (wQ c):=by
 unfold mw at d;unfold ma;split at d
 ·exact absurd d (by decide)
 rename_i c1;rw[ao c1];split at d
 ·exact absurd d (by decide)
 rename_i c2;rw[ao c2];split at d
 ·exact absurd d (by decide)
 rename_i c3;rw[ao c3];split at d
 ·exact absurd d (by decide)
 rename_i c4;rw[ao c4];split at d
 ·exact absurd d (by decide)
 rename_i c5;rw[ao c5];split at d
 ·exact absurd d (by decide)
 rename_i c6;rw[ao c6,ao (λe=>e d)]
theorem HI.Jr (H:HI gh h) {v a b c:Int} (W:aW h.g v=true) (f:mw h v a b c=0):
 (ma h v a b c=0-> ∃dt,HI dt (im h v a b c)/\uJ h (im h v a b c) (λi q=>i=v.toNat/\q=b) (-1)/\(jP h v.toNat b).2.2.1=4/\jP (im h v a b c) v.toNat b=((lK h a).1,wQ c,0,())/\uE gh dt h.s (im h v a b c).s)/\(ma h v a b c≠0->AP h v a b c=h):=by
 have J:=abw f;obtain⟨p4,t,K,u⟩:(lO h a).2.2.1=v/\(lK h a).2.2.1=0/\ ¬ ib h (lO h a).1 (lO h a).2.1=true/\fN h.gr a v (c==1)=0:=by
  unfold mw at f;split at f
  ·exact absurd f (by decide)
  split at f
  ·exact absurd f (by decide)
  split at f
  ·exact absurd f (by decide)
  split at f
  ·exact absurd f (by decide)
  rename_i c4;split at f
  ·exact absurd f (by decide)
  rename_i c5;split at f
  ·exact absurd f (by decide)
  rename_i c6;exact⟨B3 λe=>c4 (.inl e),B3 c5,c6,f⟩
 obtain⟨x,j,L,hv,vy,sw⟩:=bR W;obtain⟨k,w⟩: ∃k,lT h.gr a=some k:=by
  unfold fN at u;cases w:lT h.gr a with
  |none=>rw[w] at u;exact absurd (show(4:Int)=0 from u) (by decide)
  |some k=>exact⟨k,rfl⟩
 obtain⟨B,X,D⟩:=ft.1 w;have l:h.gr[k]? =some h.gr[k]:=B_ X;obtain⟨y,Y⟩: ∃y,y=h.gr[k]:=⟨_,rfl⟩;rw[<-Y] at l;rw[getD_some l] at D;have M:lO h a=y:=by
  unfold lO wY;rw[w];exact getD_some l
 have N:lK h a=fy h.g h.s y.1 y.2.1:=by unfold lK;rw[M]
 rw[M] at p4 K;rw[N] at t;obtain⟨O,P,r,Q⟩:=ME t;have Z:=Sj O r K;obtain⟨m,rfl⟩: ∃m:Nat,v=(m:Int):=⟨v.toNat,hv.symm⟩;have j:h.g m=some x:=j;obtain⟨o,R⟩: ∃o:Nat,y.1=(o:Int):=⟨y.1.toNat,by have:=cw.1 O;omega⟩;have r:h.g o=some P:=by rw[R] at r;exact r
 rw[Q] at t;have E:ni h o y.2.1=some (bC h.s P.root false y.2.1).1:=by rw[cP r,ax t]
 obtain⟨n,d,S,hd,d4,do1,do2,TG⟩:=H.TF E;rw[S] at E;have F:(lK h a).1=(n:Int):=by rw[N,Q,S]
 have I:dZ h.gr a (m:Int) (c==1)=h.gr.set k (fj y 1):=by
  unfold dZ;rw[ax u, <-B];show h.gr.set k (fj (h.gr.getD k zG) 1)= _;rw[getD_some l]
 refine⟨λe=>?_,λe=>?_⟩
 ·rw[J,L,F] at e;obtain⟨hp,g',C,T, _,U, _⟩:=H.inv.map (H.root j) e;have aco:ni h m b=none:=by rw[cP j,ao (by rw[U];decide)]
  have jn:im h (m:Int) a b c={s:=((jy h.s (m:Int) x.root false b (n:Int) (wQ c)).1,dI (jy h.s (m:Int) x.root false b (n:Int) (wQ c)).2 (n:Int) (ia 1)),g:=bz h.g m (some {x with tk:=mC (b,a,(n:Int)) x.tk}),gr:=h.gr.set k (fj y 1),po:=h.po}:=by
   unfold im;rw[L,F,I];show HS.mk _ (bz h.g m (match h.g m with|some x=> _|none=>none)) _ _= _;rw[j]
  rw[jn];have NA:=Kept.hc H.hc C.kp;generalize jy h.s (m:Int) x.root false b (n:Int) (wQ c)=A at*
  have p:=C.kp.ks hd d4;rw[TG] at p;have acn:=H.hc.Jo (n:Int);have qJ:=yx (G:=ia 1) p (aaA ⟨do1,do2⟩ ⟨by omega,by omega⟩ ⟨by omega,by omega⟩);rw[qJ.1];have Wx:om (h.gr.set k (fj y 1)):=by rw[<-I];exact H.hc.gk.take _ _ _
  have Wk:=NA.take hp aco p l D R p4 E (by rw[gu r];exact Z) Wx;have V:=H.Jp C (n8 (r':=(eo (lP h) (n:Int):Int)+1) C.inv p) rfl (KD.set p (λ_=> .inl rfl) (λc=>absurd (show(4:Int)=5 from c) (by decide))) (h':={s:=(A.1,A.2.set n (4,d.2.1,(eo (lP h) (n:Int):Int)+1,0,())),g:=bz h.g m (some {x with tk:=mC (b,a,(n:Int)) x.tk}),gr:=h.gr.set k (fj y 1),po:=h.po}) rfl (λi=>kV j _ i)
  suffices hh:HI g' {s:=(A.1,A.2.set n (4,d.2.1,(eo (lP h) (n:Int):Int)+1,0,())),g:=bz h.g m (some {x with tk:=mC (b,a,(n:Int)) x.tk}),gr:=h.gr.set k (fj y 1),po:=h.po} from⟨g',hh,V.1,by rw[show((m:Int)).toNat=m from rfl,bS j];exact U,by rw[F];exact(V.2 j b).trans T,C.gks.trans (uE.kd (KD.set p (λ_=> .inl rfl) (λc=>absurd (show(4:Int)=5 from c) (by decide))) λ_ _ _ _ _=>rfl)⟩
  refine H.fin C H.nl ⟨rfl,rfl⟩ (n8 C.inv p) rfl (λi=>kV j _ i) (H.yJ j (λ{i z} hz q=>rfl) H.inv C (y:=some (n:Int)) (by rw[T];rfl) rfl (λi=>kV j _ i)) ?_;rw[Jq (g:=h.g) j _ rfl, <-gu j, <-B];exact Wk
 ·rw[J] at e;unfold AP;rw[Je e,I, <-B,Sk l D p4 (H.hc.gk y (B5 l)).2.1 H.hc.gk]
theorem HI.Pt (H:HI gh h) {v a b c:Int} (f:aW h.g v=true) (e:ma h v a b c≠0):ju h v a b c=h:=by
 unfold ju;by_cases d:mw h v a b c=0
 ·rw[ao (λe=>e d),ao e];exact(H.Jr f d).2 e
 ·exact ax d
theorem Sm {v a b c:Int} (e:ma h v a b c=0):mw h v a b c=0:=by
 unfold ma at e;unfold mw;split at e
 ·exact absurd e (by decide)
 rename_i c1;rw[ao c1];split at e
 ·exact absurd e (by decide)
 rename_i c2;rw[ao c2];split at e
 ·exact absurd e (by decide)
 rename_i c3;rw[ao c3];split at e
 ·exact absurd e (by decide)
 rename_i c4;rw[ao c4];split at e
 ·exact absurd e (by decide)
 rename_i c5;rw[ao c5];split at e
 ·exact absurd e (by decide)
 rename_i c6;rw[ao c6];split at e
 ·rename_i c7;exact absurd e c7
 rename_i c7;exact B3 c7
theorem HI.Pu (H:HI gh h) {v a b c:Int} (f:aW h.g v=true) (e:ma h v a b c=0):ju h v a b c=im h v a b c/\ ∃dt,HI dt (im h v a b c)/\uJ h (im h v a b c) (λi q=>i=v.toNat/\q=b) (-1)/\(jP h v.toNat b).2.2.1=4/\jP (im h v a b c) v.toNat b=((lK h a).1,wQ c,0,())/\uE gh dt h.s (im h v a b c).s:=by
 have d:=Sm e;refine⟨?_,(H.Jr f d).1 e⟩;unfold ju;rw[ao (λe=>e d),ax e]
theorem HI.take (H:HI gh h) {v:Int} (d:aW h.g v=true) (a b c:Int): ∃dt,HI dt (ju h v a b c):=by
 by_cases e:ma h v a b c=0
 ·obtain⟨h1,g',f, _⟩:=H.Pu d e;rw[h1];exact⟨g',f⟩
 ·rw[H.Pt d e];exact⟨gh,H⟩
theorem HI.Js (H:HI gh h) {v:Int} (b:aW h.g v=true) {a:Int} (e:mK h v a=0): ∃dt,HI dt (gZ h v a)/\uJ h (gZ h v a) (λi q=>i=v.toNat/\q=a) (-1)/\jP (gZ h v a) v.toNat a=(0,0,4,())/\uE gh dt h.s (gZ h v a).s:=by
 obtain⟨x,c,k,hv, _⟩:=bR b;unfold mK at e;unfold gZ;split at e
 ·exact absurd e (by decide)
 rename_i c1;rw[ao c1];split at e
 ·rename_i c2;rw[ax c2];have d:=(tD b c).1 c2;obtain⟨m,rfl⟩: ∃m:Nat,v=(m:Int):=⟨v.toNat,hv.symm⟩;obtain⟨g',f, _,E,j⟩:=H.F4 (x:=x) c d;exact⟨g',f,E,j⟩
 ·exact absurd e (by decide)
theorem Jt {v a:Int} (e:mK h v a≠0):gZ h v a=h:=by
 unfold mK at e;unfold gZ;split
 ·rfl
 rename_i c1;rw[ao c1] at e;split
 ·rename_i c2;rw[ax c2] at e;exact absurd rfl e
 ·rfl
theorem HI.back (H:HI gh h) {v:Int} (b:aW h.g v=true) (a:Int): ∃dt,HI dt (gZ h v a):=by
 by_cases e:mK h v a=0
 ·obtain⟨g',c, _⟩:=H.Js b e;exact⟨g',c⟩
 ·rw[Jt e];exact⟨gh,H⟩
theorem HI.e9 {v:Nat}: ∀(n:Nat) {gh:Gh} {h:HS},HI gh h->(∃x,h.g v=some x)->(lP h v).length=n->
 ∃dt,HI dt (e9 (v:Int) n h)/\(∃x,(e9 (v:Int) n h).g v=some x)/\lP (e9 (v:Int) n h) v=[]/\(∀i,i≠v->(e9 (v:Int) n h).g i=h.g i)/\(∀m o,NG (e9 (v:Int) n h).s.2 m o<->NG h.s.2 m o)/\uJ h (e9 (v:Int) n h) (λi _=>i=v) (-1)/\uE gh dt h.s (e9 (v:Int) n h).s
 |0,gh,h,H,d,j=>⟨gh,H,d,List.length_eq_zero_iff.1 j,λ_ _=>rfl,λ_ _=>Iff.rfl,.refl _ _ _,uE.refl _ _⟩
 |n+1,gh,h,H,⟨x,d⟩,j=>by
  have z:vA h (v:Int)=x.tk:=by rw[abt];exact gu d
  have A:x.tk.length=n+1:=by rw[<-gu d];exact j
  have B:x.tk.map (·.1)≠[]:=λe=>by
   have:=congrArg List.length e;rw[DU,A] at this;simp at this
  have r:=EG B (λy C=>by
   obtain⟨t,k,rfl⟩:=B2.1 C;have D:t∈lP h v:=by rw[gu d];exact k
   have:=H.hc.jj (H.hc.C' (a:=t.2.1) (f:=t.2.2) (H.hc.N8 D)).1;omega)
  obtain⟨p,u⟩: ∃p,p=Ao (x.tk.map (·.1)):=⟨_,rfl⟩;rw[<-u] at r;obtain⟨t,k,E⟩:=B2.1 r;have l:=H.hc.nd v;rw[gu d] at l;have q:cg x.tk p=some t.2:=(jJ (a:=t.2.1) (b:=t.2.2) l).2 (by rw[<-E];exact k);have F:Nk h (v:Int) p=t.2:=by
   unfold Nk;show(match h.g v with|some x=>(cg x.tk p).getD (0,0)|none=>(0,0))= _;rw[d];dsimp only;rw[q];rfl
  have G:yw (v:Int) h=dw h (v:Int) p t.2.1 t.2.2:=by
   unfold yw;rw[z, <-u,F]
  obtain⟨U,I,J,K, _,L⟩:=H.F4 (x:=x) d q;have w:(dw h (v:Int) p t.2.1 t.2.2).g v=some {x with tk:=x.tk.filter λt=> !(t.1==p)}:=by
   show bz h.g v (match h.g v with|some x=> _|none=>none) v= _;rw[d,fH]
  have M:(lP (dw h (v:Int) p t.2.1 t.2.2) v).length=n:=by
   rw[gu w];have:=(BC l q).length_eq;rw[Dd] at this;show(x.tk.filter λt=> !(t.1==p)).length=n;omega
  obtain⟨N,h1,O,P,Q,R,S,T⟩:=HI.e9 n I ⟨_,w⟩ M;have e:_root_.Go.Proofs.YtlcenllcmeebhaaGreat.e9 (v:Int) (n+1) h=_root_.Go.Proofs.YtlcenllcmeebhaaGreat.e9 (v:Int) n (dw h (v:Int) p t.2.1 t.2.2):=by rw[<-G];rfl
  rw[e];refine⟨N,h1,O,P,λi hi=>?_,λm o=>(R m o).trans (J m o),uJ.trans (K.mono λc=>c.1) S,L.trans T⟩;rw[Q i hi];show bz h.g v _ i=h.g i;unfold bz;rw[ao hi]
end
section
variable {gh dt:Gh} {h:HS}
theorem MF {v:Int} {x:GV} (a:aW h.g v=true) (b:h.g v.toNat=some x) (p:Int):fy h.g h.s v p=bC h.s x.root false p:=by grind[fy]
theorem HI.word (H:HI gh h) {v:Int} (f:aW h.g v=true) {a t:Int} (u:0<=a) (k:0<=t/\t<=7):
 (a<1048576/\(fy h.g h.s v (a / 16)).2.2.1=0/\il h v a t=(16*(fy h.g h.s v (a / 16)).1+a % 16,if gH true (fy h.g h.s v (a / 16)).2.1 false (fy h.g h.s v (a / 16)).1 t=true then 0 else 7)/\
  ∃n:Nat,(fy h.g h.s v (a / 16)).1=(n:Int)/\n<h.s.2.length/\ni h v.toNat (a / 16)=some (n:Int))\/
 ((a>=1048576/\(il h v a t).2=2)\/(a<1048576/\fy h.g h.s v (a / 16)=(0,0,4,())/\(il h v a t).2=4)):=by
 obtain⟨x,b,l,hv,w,y⟩:=bR f;rw[MF f b];unfold il;by_cases m:a>=1048576
 grind
 rw[ao m,l];have o:=H.root b;have p:0<=a / 16/\a / 16<65536:=by omega
 have i:=H.inv.Pm H.nl o p k;by_cases e:(bC h.s x.root false (a / 16)).2.2.1=0
 ·rw[ax e] at i;have j:ni h v.toNat (a / 16)=some (bC h.s x.root false (a / 16)).1:=by rw[cP b,ax e]
  obtain⟨n,d,c,q, _⟩:=H.TF j;have r:=(Ab.1 q).1;have z:=H.inv.le;refine .inl ⟨by omega,e,?_,n,c,r,by rw[j,c]⟩;rw[i];rw[c,eH (by omega) (by omega),av (by omega) (by omega)]
 ·refine .inr (by grind[Inv.ZJ])
theorem HI.Sn (H:HI gh h) {n:Nat} {d:DT} (a:h.s.2[n]? =some d) (d4:d.1=4) {o:Int} (e:0<=o/\o<16) (b:Int):HI gh (bF h (dO h.s.1 (16*(n:Int)+o) b,h.s.2))/\uJ h (bF h (dO h.s.1 (16*(n:Int)+o) b,h.s.2)) (λ_ _=>False) (n:Int):=by
 have B:Inv.fq gh h.s (dO h.s.1 (16*n+o) b,h.s.2):=by
  refine iP H.inv ⟨cF _ _ _,rfl⟩ (λq c=>⟨n,d,a,?_⟩) λf=>?_
  ·refine B3 λhc=>c ?_;rw[mH (by omega)]
  grind
 refine⟨H.side B H.hc,H.CK B (h':=bF h _) rfl rfl _,λ_ _ _ _ g k k0 i=>?_,.refl rfl⟩;exact mH (by omega)
theorem HI.store (H:HI gh h) {v:Int} (c:aW h.g v=true) {a:Int} (f:0<=a) (b:Int):HI gh (km h v a b)/\Ae h (km h v a b) (λ_ _=>False):=by
 unfold km;by_cases e:(il h v a 2).2≠0
 ·rw[ax e];exact⟨H,Ae.refl _ _⟩
 rw[ao e];rcases H.word c f (t:=2) (by grind) with ⟨_, _,i,n,j,s,k⟩|⟨_,u⟩
 ·rw[i];rw[j];obtain⟨m,d,l,p,d4, _⟩:=H.TF k;have:=BN l;subst this;obtain⟨q,r⟩:=H.Sn p d4 (o:=a % 16) (by omega) b;exact⟨q,r.pg⟩
 grind
 grind
theorem HI.VP (H:HI gh h) {n:Nat} {d:DT} (a:h.s.2[n]? =some d) (b:d.1=5):d=(5,d.2.1,0,0,())/\0<=d.2.1/\d.2.1<=16:=by
 obtain:=H.hc.kd a;have c:=H.hc.refs a;have:eo (lP h) n=0:=by
  rcases DG _ with e|e
  ·exact e
  ·obtain:=H.hc.Iy e
   grind
 grind
theorem HI.Ox (H:HI gh h) {n:Nat} {d:DT} (a:h.s.2[n]? =some d) (e:d.1=5):gQ h.s (n:Int)=(h.s.1,h.s.2.set n zD)/\jX h.s (n:Int)=0/\HI gh (bF h (h.s.1,h.s.2.set n zD))/\Ae h (bF h (h.s.1,h.s.2.set n zD)) (λ_ _=>False):=by
 obtain⟨l,o,p⟩:=H.VP a e;have g:=a;rw[l] at g;have j:=yx (G:=aP 0 0) g (HM ⟨o,p⟩);have k:xq h.s.2 n=true:=by
  unfold xq
  grind
 have B:Inv.fq gh h.s (h.s.1,h.s.2.set n zD):=by
  refine iP H.inv ⟨rfl,by rw[Az]⟩ (λb hb=>absurd rfl hb) λ{i d0 d'} h1 q=>?_;rcases vj a h1 q with ⟨_,r,f⟩|⟨_,f⟩
  ·exact .inr ⟨by rw[r,e];decide,by rw[f];decide,λ_=>f⟩
  ·exact .inl f
 refine⟨?_,?_,H.side B (H.hc.Gr (λ{m d0} h1 t=>?_) λ{m d0} h1=>?_),H.CK B (h':=bF h (h.s.1,h.s.2.set n zD)) rfl rfl _⟩
 ·unfold gQ;rw[ax ⟨k,by rw[pE a];exact e⟩,j.1]
 ·unfold jX;rw[k,ao (by decide),pE a,ao (λc=>c e)];exact j.2
 grind
 ·grind[zD,AR]
theorem VQ {s:WD} {f:Int} (a: ∀(n:Nat) (d:DT),f=(n:Int)->s.2[n]? =some d->d.1≠5):gQ s f=s/\jX s f≠0:=by
 grind[xq,mz,gQ,jX]
theorem HI.free (H:HI gh h) (f:Int):HI gh (bF h (gQ h.s f))/\(gQ h.s f=h.s\/ ∃(n:Nat) (d:DT),f=(n:Int)/\h.s.2[n]? =some d/\d.1=5/\gQ h.s f=(h.s.1,h.s.2.set n zD)):=by
 by_cases e: ∃(n:Nat) (d:DT),f=n/\h.s.2[n]? =some d/\d.1=5
 ·obtain⟨n,d,rfl,h1,b⟩:=e;obtain:=H.Ox h1
  grind
 ·obtain⟨a⟩:=VQ (s:=h.s) (f:=f) (by grind);rw[a];exact⟨H,.inl rfl⟩
theorem HI.W8 (H:HI gh h): ∀n,HI gh (bF h (dK h.s n).1)
 |0=>H
 |n+1=>((HI.W8 H n).free _).1
theorem HI.Gu (H:HI gh h): ∃dt,HI dt (gR h)/\uJ h (gR h) (λ_ q=> ¬ (0<=q/\q<65536)) (-1)/\uE gh dt h.s (gR h).s:=by
 unfold gR;cases hv:mL h.g with
 |none=>exact⟨gh,H,.refl _ _ _,uE.refl _ _⟩
 |some v=>
  dsimp only;by_cases e:rA h.s (v:Int)=0
  case neg=>rw[ao e];exact⟨gh,H,.refl _ _ _,uE.refl _ _⟩
  rw[ax e];obtain⟨XC,z, _⟩:=n6.1 hv;have U: ∀f,gh f≠some ((v:Int),3,0):=λf a=>by
   obtain⟨i,x,h1,t⟩:=H.own a;have:i=v:=BN h1;subst this;rw[z] at t;cases t
  obtain⟨_,J,b2,b3,C,K,D,V,X,E⟩:=H.inv.born (o:=(v:Int)) (by omega) U (vi e);have Y: ∀{f o y k:Int} {l:Nat},gh f=some (o,l,y)->0<=k->k<16->dL (iW h.s (v:Int) λ_=>0).1 (16*f+k)=dL h.s.1 (16*f+k):=λ{f o y k l} a k0 r=>by
   have dg:f≠eK h.s (v:Int):=λc=>by rw[c,J] at a;cases a
   exact D _ (by omega)
  have L: ∀k,0<=k->k<16->aN (iW h.s (v:Int) λ_=>0).1 (16*eK h.s (v:Int)+k)=zE:=λk k0 r=>YA (V k k0 r);generalize (iW h.s (v:Int) λ_=>0)=s' at*
  generalize eK h.s (v:Int)=F at*
  have M: ∀{f o y k:Int} {l:Nat},gh f=some (o,l,y)->0<=k->k<16->aN s'.1 (16*f+k)=aN h.s.1 (16*f+k):=λa k0 r=>by unfold aN;rw[Y a k0 r]
  have A: ∀{f o y:Int} {l:Nat},gh f=some (o,l,y)->mB gh F (some ((v:Int),3,0)) f=some (o,l,y):=λ{f o y l} a=>by
   rw[a6 (λc=>by rw[c,J] at a;cases a)];exact a
  have N: ∀{i:Nat} {x:GV},bz h.g v (some ⟨F,[]⟩) i=some x->(i=v/\x=⟨F,[]⟩)\/(i≠v/\h.g i=some x):=λ{i x} n=>by
   unfold bz at n;by_cases c:i=v
   ·rw[ax c] at n;cases n;exact .inl ⟨c,rfl⟩
   ·rw[ao c] at n;exact .inr ⟨c,n⟩
  have hFl:F.toNat<h.s.2.length:=by omega
  have O: ∀{i:Nat} {p:Int},0<=p/\p<65536->jP {h with s:=s',g:=bz h.g v (some ⟨F,[]⟩)} i p=jP h i p:=λ{i p} b=>by
   by_cases c:i=v
   ·subst c;rw[gm z,bS (h:={h with s:=s',g:=bz h.g i (some ⟨F,[]⟩)}) (x:=⟨F,[]⟩) (fH _ _ _)];show bC s' F false p= _;have P:=L (px 3 p % 16) (ee p 3).1 (ee p 3).2;have u:dD (mB gh F (some ((i:Int),3,0))) s' (i:Int) p F 3:=⟨by rw[XK b];exact bK _ _ _,by rw[P];exact J7⟩;rw[E.fO (bK _ _ _) b u,P,F3 _ _ rfl]
   ·cases n:h.g i with
    |none=>
     rw[gm n];exact gm (h:={h with s:=s',g:=bz h.g v (some ⟨F,[]⟩)}) (show bz h.g v (some ⟨F,[]⟩) i=none by unfold bz;rw[ao c];exact n) p
    |some x=>
     rw[bS n,bS (h:={h with s:=s',g:=bz h.g v (some ⟨F,[]⟩)}) (x:=x) (show bz h.g v (some ⟨F,[]⟩) i=some x by unfold bz;rw[ao c];exact n)];show bC s' x.root false p= _;obtain⟨f,j, _,u⟩:=H.inv.mq (H.root n) b;have Q:=M u.1 (ee p j).1 (ee p j).2;have Z:dD (mB gh F (some ((v:Int),3,0))) s' (i:Int) p f j:=⟨A u.1,by rw[Q];exact u.2⟩;rw[H.inv.fO (H.root n) b u,E.fO (A (H.root n)) b Z,Q]
  have R: ∀(h:HS) {i:Nat} {p:Int},¬ (0<=p/\p<65536)->(jP h i p).2.2.1≠0:=λh {i p} b=>by
   grind[jP,Inv.xK]
  have gV:ni {h with s:=s',g:=bz h.g v (some ⟨F,[]⟩)}=ni h:=by
   funext i p;rw[rR,rR];by_cases b:0<=p/\p<65536
   ·rw[O b]
   ·rw[ao (R _ b),ao (R _ b)]
  have kN:lP {h with s:=s',g:=bz h.g v (some ⟨F,[]⟩)}=lP h:=by
   funext i;unfold lP;show(match bz h.g v (some ⟨F,[]⟩) i with|some x=>x.tk|none=>[])= _;unfold bz;by_cases c:i=v
   ·rw[ax c,c,z]
   ·rw[ao c]<;>rfl
  have G:h.s.2[F.toNat]? =some zD:=K;have S:uJ h {h with s:=s',g:=bz h.g v (some ⟨F,[]⟩)} (λ_ q=> ¬ (0<=q/\q<65536)) (-1):=by
   refine⟨⟨λhq=>O (B3 hq)⟩,λ{m d d'} h1 I _ _ _ k k0 r=>?_,?_⟩
   ·have hmF:m≠F.toNat:=λc=>by rw[c,G] at h1;cases h1;exact absurd I (by decide)
    exact D _ (by omega)
   ·show KD h.s s';have:=KD.set (s:=h.s) (W:=s'.1) (d1:=((3:Int),(v:Int),(0:Int),(0:Int),())) G (λc=>absurd c (by decide)) (λc=>absurd c (by decide));rw[<-C] at this;exact this
  suffices hh:HI (mB gh F (some ((v:Int),3,0))) {h with s:=s',g:=bz h.g v (some ⟨F,[]⟩)} from⟨_,hh,S,λf w a=> .inl (by
   obtain⟨o,l,x⟩:=w;exact A a),λf c=>c.kd S.kd λk k0 r=>by
   obtain⟨z0,d,T,z2, _⟩:=c;have:f.toNat≠F.toNat:=λe=>by rw[e,G] at T;cases T;exact absurd z2 (by decide)
   exact D _ (by omega)⟩
  refine⟨E,λf o x a=>?_,λf o l x k a k0 r b B=>?_,?_,λ{i x} n=>?_,λ{i x} n=>?_,λ{f o y} a=>?_,?_⟩
  ·by_cases c:f=F
   ·subst c;rw[bK] at a;cases a;rfl
   ·rw[a6 c] at a;exact H.rt f o x a
  ·by_cases c:f=F
   ·subst c;have b:(aN s'.1 (16*f+k)).1=true:=b;rw[L k k0 r] at b;cases b
   ·rw[a6 c] at a;have b:(aN s'.1 (16*f+k)).1=true:=b;have B:dJ (aN s'.1 (16*f+k))=false:=B;rw[M a k0 r] at b B;exact H.nl a k0 r b B
  ·show s'.1.length=16*s'.2.length;rw[X,C,Az];exact H.sz
  ·rcases N n with ⟨c, _⟩|⟨_,c⟩
   ·omega
   ·exact H.jj c
  ·rcases N n with ⟨c,d⟩|⟨_,c⟩
   ·subst c;subst d;exact bK _ _ _
   ·exact A (H.root c)
  ·by_cases c:f=F
   ·subst c;rw[bK] at a;cases a;exact⟨v, _,rfl,fH _ _ _⟩
   ·rw[a6 c] at a;obtain⟨i,x,h1,t⟩:=H.own a;refine⟨i,x,h1,?_⟩;show bz h.g v _ i=some x;unfold bz;rw[ao (λc=>by subst c;rw[z] at t;cases t)];exact t
  ·rw[gV,kN];show HC (ni h) (lP h) s'.2 h.gr;rw[C];refine H.hc.Gr (λ{m d} h1 I=>?_) λ{m d} h1=>?_
   ·rw[AR (λc=>by subst c;rw[K] at h1;cases h1;exact absurd I (by decide))];exact h1
   grind
end
theorem tG {ds:List DT} {v:Int} {i:Nat}:i∈fW ds v<-> ∃d,ds[i]? =some d/\d.2.1=v:=by
 unfold fW;rw[B4,Dc];constructor
 ·rintro⟨h1,a⟩;have b:ds[i]? =some ds[i]:=B_ h1;rw[b] at a;exact⟨_,b,by simpa using a⟩
 ·rintro⟨d,h1,a⟩;exact⟨(Ab.1 h1).1,by rw[h1];simpa using a⟩
theorem HN (ds:List DT) (v:Int):(fW ds v).Nodup:=List.Pairwise.filter _ Fy
theorem zg {v:Int} (hv:1<=v/\v<=16): ∀(l:List Nat) (ds:List DT) (c:Int),l.Nodup->(∀i∈l, ∀d,ds[i]? =some d->d.1=4->d=(4,v,0,0,()))->
 (l.foldl (uT v) (ds,c)).1.length=ds.length/\ ∀n:Nat,((n∈l/\ ∃d,ds[n]? =some d/\d.1=4)->(l.foldl (uT v) (ds,c)).1[n]? =some (5,v,0,0,()))/\(¬ (n∈l/\ ∃d,ds[n]? =some d/\d.1=4)->(l.foldl (uT v) (ds,c)).1[n]? =ds[n]?)
 |[],ds,c, _, _=>⟨rfl,λn=>⟨λh=>(by cases h.1),λ_=>rfl⟩⟩
 |i::l,ds,c,f,m=>by
  rw[C8] at f;rw[List.foldl_cons];by_cases e:(mz ds (i:Int)).1=4
  ·rw[show uT v (ds,c) i=(dI ds (i:Int) (aP 5 v),c+1) from ax e];have hi:i<ds.length:=by
    refine B3 λhc=>?_;unfold mz at e;rw[ax (.inr (by omega))] at e;exact absurd e (by decide)
   have g:ds[i]? =some ds[i]:=B_ hi;rw[pE g] at e;have p:=m i Bx _ g e;rw[p] at g;rw[(yx (G:=aP 5 v) g (BD hv)).1];obtain⟨h1,b⟩:=zg hv l (ds.set i (5,v,0,0,())) (c+1) f.2 λj k d o q=>by
    have r:i≠j:=λe=>f.1 (by rw[e];exact k);rw[AR r] at o;exact m j (C6 _ k) d o q
   refine⟨h1.trans (Az ..),λn=>⟨λa=>?_,λa=>?_⟩⟩
   ·by_cases en:i=n
    ·subst en;rw[(b i).2 (λc=>f.1 c.1),Ax hi]
    ·refine(b n).1 ⟨?_,?_⟩
     ·rcases DA.1 a.1 with h|h
      ·exact absurd h.symm en
      ·exact h
     ·rw[AR en];exact a.2
   ·have en:i≠n:=λen=>by subst en;exact a ⟨Bx, _,g,rfl⟩
    rw[(b n).2 (λc=>a ⟨C6 _ c.1,by rw[AR en] at c;exact c.2⟩),AR en]
  ·rw[show uT v (ds,c) i=(ds,c) from ao e];obtain⟨h1,b⟩:=zg hv l ds c f.2 λj k=>m j (C6 _ k);refine⟨h1,λn=>⟨λa=>(b n).1 ⟨?_,a.2⟩,λa=>(b n).2 λc=>a ⟨C6 _ c.1,c.2⟩⟩⟩;rcases DA.1 a.1 with h|h
   ·subst h;obtain⟨d,s,t⟩:=a.2;rw[pE s] at e;exact absurd t e
   ·exact h
theorem Ju {s s':WD} (h:s'.1=s.1) (r:Int) (g:Bool) (p:Int):bC s' r g p=bC s r g p:=by
 unfold bC;rw[h]
section
variable {gh:Gh} {h:HS}
theorem HI.gone (H:HI gh h) {v:Nat} {x:GV} (K:h.g v=some x) (P:lP h v=[]) (Q: ∀n,NG h.s.2 n (v:Int)->eo (lP h) (n:Int)=0): ∃dt,HI dt (vL h (v:Int))/\uJ h (vL h (v:Int)) (λi _=>i=v) (-1)/\(∀(f:Int) (w:Int×Nat×Int),gh f=some w->w.1≠(v:Int)->dt f=some w)/\ ∀f,iM h.s f->iM (vL h (v:Int)).s f:=by
 have hd:=H.jj K;have L:1<=(v:Int)/\(v:Int)<=16:=by omega
 obtain⟨R,W,w1,X,F⟩:=H.inv.dropped H.rt (H.root K);have Y:aY h.g (v:Int)=x.root:=by
  unfold aY;rw[ax (cw.2 ⟨by omega,x,K⟩)];show(match h.g v with|some x=>x.root|none=> -1)= _;rw[K]
 have Z:vL h (v:Int)={s:=((cG h.s x.root false).1,(Cb (cG h.s x.root false).2 (v:Int)).1),g:=bz h.g v none,gr:=cM h.gr (v:Int),po:=(Po.cG 4 h.po (v:Int)).2}:=by
  unfold vL;rw[Y];rfl
 rw[Z];generalize cG h.s x.root false=s1 at*
 have hD4: ∀{n:Nat} {d:DT},s1.2[n]? =some d->d.1=4->h.s.2[n]? =some d:=λ{n d} h1 r=>by
  by_cases e: ∃l y,gh (n:Int)=some ((v:Int),l,y)
  ·rw[(F n).1 e] at h1;cases h1;exact absurd r (show ¬ (5:Int)=4 by decide)
  ·rw[(F n).2 e] at h1;exact h1
 have M: ∀{n:Nat} {d:DT},h.s.2[n]? =some d->d.1=4->s1.2[n]? =some d:=λ{n d} h1 r=>by
  rw[(F n).2 (λ⟨l,y,G⟩=>?_)]
  ·exact h1
  ·have:=(H.inv.kd G).2.2.1;rw[show((n:Int)).toNat=n from rfl,h1] at this;cases this;exact absurd r (show ¬ (3:Int)=4 by decide)
 have mA: ∀i∈fW s1.2 (v:Int), ∀d,s1.2[i]? =some d->d.1=4->d=(4,(v:Int),0,0,()):=λi hi d h1 r=>by
  obtain⟨d',I,J⟩:=tG.1 hi;rw[h1] at I;cases I;have C:=hD4 h1 r;obtain⟨_,D, _⟩:=H.hc.kd C;have E:=H.hc.refs C;rw[Q i ⟨d,C,r,J⟩] at E;obtain⟨a,b,c,e,u⟩:=d;dsimp only at r D E J;rw[r,D,E,J];rfl
 obtain⟨f1,f2⟩:=zg L (fW s1.2 (v:Int)) s1.2 0 (HN _ _) mA;have hoT:(Cb s1.2 (v:Int)).1=((fW s1.2 (v:Int)).foldl (uT (v:Int)) (s1.2,0)).1:=rfl;rw[<-hoT] at f1 f2;generalize (Cb s1.2 (v:Int)).1=j at*
 have B:Inv.fq (J9 gh (v:Int)) s1 (s1.1,j):=by
  refine iP R ⟨rfl,f1⟩ (λb hb=>absurd rfl hb) λ{n d d'} h1 t=>?_;by_cases c:n∈fW s1.2 (v:Int)/\ ∃d,s1.2[n]? =some d/\d.1=4
  ·have t:j[n]? =some d':=t;rw[(f2 n).1 c] at t;cases t;obtain⟨_,d0,D,E⟩:=c;rw[h1] at D;cases D;exact .inr ⟨by rw[E];decide,(show ¬ (5:Int)=3 by decide),λc=>absurd c (show ¬ (5:Int)=0 by decide)⟩
  ·have t:j[n]? =some d':=t;rw[(f2 n).2 c,h1] at t;cases t;exact .inl rfl
 have S: ∀{i:Nat} {y:GV},bz h.g v none i=some y->i≠v/\h.g i=some y:=λ{i y} A=>by
  unfold bz at A;by_cases c:i=v
  ·rw[ax c] at A;cases A
  ·rw[ao c] at A;exact⟨c,A⟩
 have N: ∀{i:Nat} {y:GV},i≠v->h.g i=some y->bz h.g v none i=some y:=λ{i y} hi A=>by
  unfold bz;rw[ao hi];exact A
 have acp:lP {s:=(s1.1,j),g:=bz h.g v none,gr:=cM h.gr (v:Int),po:=(Po.cG 4 h.po (v:Int)).2}=lP h:=by
  funext i;unfold lP;show(match bz h.g v none i with|some x=>x.tk|none=>[])= _;unfold bz;by_cases c:i=v
  ·rw[ax c];subst c;exact P.symm
  ·rw[ao c]<;>rfl
 have gV:ni {s:=(s1.1,j),g:=bz h.g v none,gr:=cM h.gr (v:Int),po:=(Po.cG 4 h.po (v:Int)).2}=λi p=>if i=v then none else ni h i p:=by
  funext i p;by_cases c:i=v
  ·rw[ax c];exact gq (h:={s:=(s1.1,j),g:=bz h.g v none,gr:=cM h.gr (v:Int),po:=(Po.cG 4 h.po (v:Int)).2}) (show bz h.g v none i=none by unfold bz;rw[ax c]) p
  ·rw[ao c];cases hi:h.g i with
   |none=>
    rw[gq hi];exact gq (h:={s:=(s1.1,j),g:=bz h.g v none,gr:=cM h.gr (v:Int),po:=(Po.cG 4 h.po (v:Int)).2}) (show bz h.g v none i=none by unfold bz;rw[ao c];exact hi) p
   |some z=>
    rw[cP hi,cP (h:={s:=(s1.1,j),g:=bz h.g v none,gr:=cM h.gr (v:Int),po:=(Po.cG 4 h.po (v:Int)).2}) (N c hi)];rw[Ju (s:=h.s) (s':=(s1.1,j)) w1]
 have T:uJ h {s:=(s1.1,j),g:=bz h.g v none,gr:=cM h.gr (v:Int),po:=(Po.cG 4 h.po (v:Int)).2} (λi _=>i=v) (-1):=by
  refine⟨⟨λ{i q} c=>?_⟩,λ{m d d'} _ _ _ _ _ k _ _=>by show dL s1.1 _= _;rw[w1],λ{n d} h1 r=>?_,λ{n d} h1 h5=>?_⟩
  ·cases hi:h.g i with
   |none=>
    rw[gm hi];exact gm (h:={s:=(s1.1,j),g:=bz h.g v none,gr:=cM h.gr (v:Int),po:=(Po.cG 4 h.po (v:Int)).2}) (show bz h.g v none i=none by unfold bz;rw[ao c];exact hi) q
   |some z=>
    rw[bS hi,bS (h:={s:=(s1.1,j),g:=bz h.g v none,gr:=cM h.gr (v:Int),po:=(Po.cG 4 h.po (v:Int)).2}) (N c hi)];exact Ju (s:=h.s) (s':=(s1.1,j)) w1 _ _ _
  ·have C:=M h1 r;show∃d',j[n]? =some d'/\ _;by_cases c:n∈fW s1.2 (v:Int)/\ ∃d,s1.2[n]? =some d/\d.1=4
   ·exact⟨_,(f2 n).1 c,.inr rfl⟩
   ·exact⟨d,by rw[(f2 n).2 c];exact C,.inl r⟩
  ·show∃d',j[n]? =some d'/\ _;have C: ∃d',s1.2[n]? =some d'/\d'.1=5:=by
    by_cases e: ∃l y,gh (n:Int)=some ((v:Int),l,y)
    ·exact⟨_,(F n).1 e,rfl⟩
    ·exact⟨d,by rw[(F n).2 e];exact h1,h5⟩
   obtain⟨d',D,E⟩:=C;by_cases c:n∈fW s1.2 (v:Int)/\ ∃d,s1.2[n]? =some d/\d.1=4
   ·exact⟨_,(f2 n).1 c,rfl⟩
   ·exact⟨d',by rw[(f2 n).2 c];exact D,E⟩
 suffices hh:HI (J9 gh (v:Int)) {s:=(s1.1,j),g:=bz h.g v none,gr:=cM h.gr (v:Int),po:=(Po.cG 4 h.po (v:Int)).2} from⟨_,hh,T,λf w G hn=>db.2 ⟨G,hn⟩,λf c=>c.kd T.kd λk _ _=>by show dL s1.1 _= _;rw[w1]⟩
 refine⟨R.beside B,W,Inv.m8 B (λf o l y k G k0 I U V=>?_),?_,λ{i y} A=>H.jj (S A).2,λ{i y} A=>?_,λ{f o y} G=>?_,?_⟩
 ·rw[w1] at U V;exact H.nl (db.1 G).1 k0 I U V
 ·show s1.1.length=16*j.length;rw[w1,f1,X];exact H.sz
 ·obtain⟨h1,t⟩:=S A;exact db.2 ⟨H.root t,λc=>h1 (BN c)⟩
 ·obtain⟨h1,t⟩:=db.1 G;obtain⟨i,y',D,E⟩:=H.own h1;exact⟨i,y',D,N (λc=>t (by show o= _;rw[<-D,c])) E⟩
 ·rw[gV,acp];refine H.hc.gone ⟨by omega,by omega⟩ P (λ{n d} h1 r O=>?_) (λ{n d} h1 r O=>?_) (λ{n d} h1=>?_) (H.hc.gk.drop _)
  ·rw[H.hc.refs h1,Q n ⟨d,h1,r,O⟩];rfl
  ·show j[n]? =some d;rw[(f2 n).2 (λc=>?_)]
   ·exact M h1 r
   ·obtain⟨d',I,J⟩:=tG.1 c.1;rw[M h1 r] at I;cases I;exact O J
  ·have h1:j[n]? =some d:=h1;by_cases c:n∈fW s1.2 (v:Int)/\ ∃d,s1.2[n]? =some d/\d.1=4
   ·rw[(f2 n).1 c] at h1;cases h1;exact .inr ⟨.inr (.inr rfl),rfl,by show 0<=(v:Int);omega,L.2⟩
   ·rw[(f2 n).2 c] at h1;by_cases e: ∃l y,gh (n:Int)=some ((v:Int),l,y)
    ·rw[(F n).1 e] at h1;cases h1;exact .inr ⟨.inr (.inr rfl),rfl,by show 0<=(v:Int);omega,L.2⟩
    ·have C:=h1;rw[(F n).2 e] at h1;exact .inl ⟨h1,λk=>c ⟨tG.2 ⟨d,C,k.2⟩,d,C,k.1⟩⟩
theorem HI.Jv (H:HI gh h) (a:Int): ∃dt,HI dt (sV h a)/\uJ h (sV h a) (λi _=>i=a.toNat) (-1)/\(∀(f:Int) (w:Int×Nat×Int),gh f=some w->w.1≠a->dt f=some w\/iM (sV h a).s f)/\ ∀f,iM h.s f->iM (sV h a).s f:=by
 unfold sV;by_cases k:aW h.g a=true
 case neg=>rw[ao k];exact⟨gh,H,.refl _ _ _,λ_ _ h _=> .inl h,λ_ h=>h⟩
 rw[ax k];by_cases hb:s7 h.s.2 a=true
 case pos=>rw[ax hb];exact⟨gh,H,.refl _ _ _,λ_ _ h _=> .inl h,λ_ h=>h⟩
 rw[ao hb];obtain⟨x,l,M,hv,N,O⟩:=bR k;obtain⟨v,rfl⟩: ∃v:Nat,a=(v:Int):=⟨a.toNat,hv.symm⟩;have l:h.g v=some x:=l;obtain⟨g1,u,⟨x1,y⟩,p,z,A,B,r⟩:=HI.e9 (vA h (v:Int)).length H ⟨x,l⟩ rfl
 suffices C: ∀n,NG (_root_.Go.Proofs.YtlcenllcmeebhaaGreat.e9 (v:Int) (vA h (v:Int)).length h).s.2 n (v:Int)->eo (lP (_root_.Go.Proofs.YtlcenllcmeebhaaGreat.e9 (v:Int) (vA h (v:Int)).length h)) (n:Int)=0 by
  obtain⟨D,E,E2,b,m⟩:=u.gone y p C;exact⟨D,E,B.trans E2,λf w F o=>(r.1 f w F).imp (λe=>b f w e o) (m f),λf c=>m f (r.2 f c)⟩
 intro n o;rcases DG (eo (lP (_root_.Go.Proofs.YtlcenllcmeebhaaGreat.e9 (v:Int) (vA h (v:Int)).length h)) (n:Int)) with e|e
 ·exact e
 ·obtain⟨i,t,hi,j,G⟩:=zf e;have I:i≠v:=λc=>by rw[c,p] at j;cases j
  have J:t∈lP h i:=by
   unfold lP at j ⊢;rw[z i I] at j;exact j
  obtain⟨d,b,m,K⟩:=(A n (v:Int)).1 o;have P:=nX (q:=λt=>t.2.2==(n:Int)) hi J G;have L:=H.hc.refs b;refine absurd ?_ hb;unfold s7;refine G1.2 ⟨n,tG.2 ⟨d,b,K⟩,?_⟩;rw[pE b];have:d.2.2.1>0:=by rw[L];unfold eo;omega
  simpa using this
end
theorem zN (o pg:Int): ∀(n:Nat) (x:WD×PT),(qS o pg n x).1.1.length=x.1.1.length
 |0,x=>rfl
 |n+1,x=>by
  rw[qS,zN o pg n];exact xH _ _ _ _ _
theorem MH (s:WD) (o r pg lv:Int) (e:ET):(rG s o r pg lv e).1.length=s.1.length:=by
 unfold rG;split
 ·show(dO _ _ _).length= _;rw[cF,zN]
 ·rfl
theorem qx (s:WD) (o r:Int) (gone:Bool) (pg f rt:Int):(jy s o r gone pg f rt).1.length=s.1.length:=by
 unfold jy;split
 ·rfl
 ·split
  ·exact MH _ _ _ _ _ _
  ·rfl
theorem MJ (s:WD) (o r:Int) (gone:Bool) (pg rt:Int):(rH s o r gone pg rt).1.length=s.1.length:=by
 unfold rH;split
 ·rfl
 split
 ·split
  ·split
   ·rfl
   ·split
    ·show(dO _ _ _).length= _;rw[cF,tE]
    ·exact tE _ _ _ _
  ·rfl
 ·rfl
theorem So (s:WD) (r:Int) (gone:Bool):(cG s r gone).1=s.1:=by
 unfold cG;split<;>rfl
theorem BF (v:Int): ∀(n:Nat) (h:HS),(e9 v n h).s.1.length=h.s.1.length
 |0,h=>rfl
 |n+1,h=>by
  rw[e9,BF v n];exact tF _ _ _ _ _
theorem VR (h:HS) (v k a b c:Int):(run h v k a b c).1.s.1.length=h.s.1.length:=by
 unfold run;split
 ·show(gR h).s.1.length= _;unfold gR;split
  ·rfl
  ·split
   ·exact Jk _ _ _
   ·rfl
 ·show(sV h a).s.1.length= _;unfold sV;split
  ·split
   ·rfl
   ·show(cG _ _ _).1.length= _;rw[So,BF]
  ·rfl
 ·show(jS h v a b).s.1.length= _;unfold jS;split
  ·rfl
  split
  ·rfl
  split
  ·rfl
  split
  ·exact qx _ _ _ _ _ _ _
  ·exact(gJ _ _ _ _).trans (qx _ _ _ _ _ _ _)
 ·show(qF h v a).s.1.length= _;unfold qF;split
  ·exact tF _ _ _ _ _
  ·rfl
 ·show(jY h v a b).s.1.length= _;unfold jY;split
  ·rfl
  split
  ·rfl
  split
  ·rfl
  ·exact MJ _ _ _ _ _ _
 ·rfl
 ·show(km h v a b).s.1.length= _;unfold km;split
  ·rfl
  ·exact cF _ _ _
 ·show(iH h v a b c).s.1.length= _;unfold iH;split<;>rfl
 ·show(ju h v a b c).s.1.length= _;unfold ju;split
  ·rfl
  split
  ·exact qx _ _ _ _ _ _ _
  ·exact qx _ _ _ _ _ _ _
 ·show(gZ h v a).s.1.length= _;unfold gZ;split
  ·rfl
  split
  ·exact tF _ _ _ _ _
  ·rfl
 ·show(fV h v a).s.1.length= _;unfold fV;split<;>rfl
 ·show(lW h v a).s.1.length= _;unfold lW;split<;>rfl
 ·show(lX h v a b).s.1.length= _;unfold lX;split
  ·rfl
  split<;>rfl
 ·show(lV h v a).s.1.length= _;unfold lV;split<;>rfl
 ·rfl
 ·show(i_ h v a).s.1.length= _;unfold i_;split<;>rfl
 ·show(dK h.s _).1.1.length= _;rw[(Bv h.s _).1]
theorem Gv (h:HS) (v k a b c:Int):(kO h v k a b c).s.1.length=h.s.1.length:=by
 unfold kO;split
 ·exact VR _ _ _ _ _ _
 ·rfl
theorem yK {h:HS} {v k a b c:Int} (f:iN h v k a b c=0):(1<=k/\k<=17)/\(uQ k=false->aW h.g v=true)/\iG k a b c=true:=by
 unfold iN at f;split at f
 ·exact absurd f (by decide)
 rename_i d1;split at f
 ·exact absurd f (by decide)
 rename_i j;split at f
 ·exact absurd f (by decide)
 rename_i d;have i:iG k a b c=true:=by
  cases e:iG k a b c with
  |true=>rfl
  |false=>rw[e] at d1;simp at d1
 have d0: ¬ v<0:=λe=>d1 (by simp[e]);refine⟨?_,λe=>?_,i⟩
 ·unfold iG at i;rw[Dn,decide_eq_true_eq] at i;have d1:=i.1;unfold jW at d1;by_cases e:1<=k/\k<=17
  ·exact e
  ·rw[ao e] at d1;exact absurd d1 (by decide)
 ·rw[e] at j;have m:v≠0:=by
   intro l;rw[l] at j;exact absurd rfl j
  have:decide (v>0)=true:=decide_eq_true (by omega);rw[this,Bool.true_and] at d;simpa using d
section
variable {gh:Gh} {h:HS}
theorem HI.run (H:HI gh h) {v k a b c:Int} (i:1<=k/\k<=17) (d:uQ k=false->aW h.g v=true) (f:0<=a): ∃dt,HI dt (run h v k a b c).1:=by
 have:k=1\/k=2\/k=3\/k=4\/k=5\/k=6\/k=7\/k=8\/k=9\/k=10\/k=11\/k=12\/k=13\/k=14\/k=15\/k=16\/k=17:=by omega
 rcases this with rfl|rfl|rfl|rfl|rfl|rfl|rfl|rfl|rfl|rfl|rfl|rfl|rfl|rfl|rfl|rfl|rfl
 ·obtain⟨g',e, _⟩:=H.Gu;exact⟨g',e⟩
 ·obtain⟨g',e, _⟩:=H.Jv a;exact⟨g',e⟩
 ·exact H.Gs (d rfl) a b
 ·exact H.CJ (d rfl) a
 ·exact H.s9 (d rfl) a b
 ·exact⟨gh,H⟩
 ·exact⟨gh,(H.store (d rfl) f b).1⟩
 ·exact⟨gh,H.offer v a b c⟩
 ·exact H.take (d rfl) a b c
 ·exact H.back (d rfl) a
 ·exact⟨gh,H.ZK v a⟩
 ·refine⟨gh,?_⟩;show HI gh (lW h v a);unfold lW;split
  ·exact H.po _
  ·exact H
 ·refine⟨gh,?_⟩;show HI gh (lX h v a b);unfold lX;split
  ·exact H
  split
  ·exact H.po _
  ·exact H
 ·refine⟨gh,?_⟩;show HI gh (lV h v a);unfold lV;split
  ·exact H
  ·exact H.po _
 ·exact⟨gh,H.po _⟩
 ·refine⟨gh,?_⟩;show HI gh (i_ h v a);unfold i_;split
  ·exact H
  ·exact H.po _
 ·exact⟨gh,H.W8 _⟩
theorem HI.step (H:HI gh h) (v k:Int) {a:Int} (b c:Int) (e:0<=a): ∃dt,HI dt (kO h v k a b c):=by
 unfold kO;by_cases d:iN h v k a b c=0
 ·rw[ax d];obtain⟨h1,f, _⟩:=yK d;exact H.run h1 f e
 ·rw[ao d];exact⟨gh,H⟩
end
theorem HI.new {n:Nat} (r:4<=n/\n<=4096):HI noG (h0 n) where
 inv:=L4 (Dt _) r.2
 rt:=λf o x h=>(by cases h)
 nl:=λf o l x i h=>(by cases h)
 sz:=by
  show(DB (16*n) (0:Int)).length=16*(DB n zD).length;rw[FG,FG]
 jj:=λh=>(by cases h)
 root:=λh=>(by cases h)
 own:=λh=>(by cases h)
 hc:=by
  have b: ∀i p,ni (h0 n) i p=none:=λi p=>rfl;have c: ∀i,lP (h0 n) i=[]:=λi=>rfl;have e: ∀{m:Nat} {d:DT},(DB n zD)[m]? =some d->d=zD:=λ{m d} h=>GS (B5 h);have s: ∀{m:Nat} {x:GT},(DB 16 zG)[m]? =some x->x=zG:=λ{m d} h=>GS (B5 h);have g: ∀q,nC (lP (h0 n)) q=0:=λq=>BB λi t j=>by rw[c i] at j;cases j
  refine⟨λh=>?_,λ{m d} h=>?_,λ{m d} h k=>?_,λh=>?_,λ{i p a f} h=>?_,λi=>?_,λh=>?_,λ{m d} h=>?_,λ{m x} h=>?_,FG,om.new 16⟩
  ·rw[b] at h;cases h
  ·rw[e h];decide
  ·rw[e h] at k;exact absurd k (by decide)
  ·rw[b] at h;cases h
  ·rw[c i] at h;unfold cg at h;simp at h
  ·rw[c i];exact List.nodup_nil
  ·rw[b] at h;cases h
  ·rw[e h];unfold eo;rw[g];rfl
  ·rw[s h];unfold mN;rw[g];rfl
def jv (h h':HS):Prop:=h'.s=h.s/\h'.g=h.g
section
variable {gh:Gh} {h:HS} {v k a b c:Int}
theorem jv.refl:jv h h:=⟨rfl,rfl⟩
theorem Sp (H:HI gh h) (j:1<=k/\k<=17) (f:uQ k=false->aW h.g v=true) (d:(run h v k a b c).2.2≠0):jv h (run h v k a b c).1:=by
 have:k=1\/k=2\/k=3\/k=4\/k=5\/k=6\/k=7\/k=8\/k=9\/k=10\/k=11\/k=12\/k=13\/k=14\/k=15\/k=16\/k=17:=by omega
 rcases this with rfl|rfl|rfl|rfl|rfl|rfl|rfl|rfl|rfl|rfl|rfl|rfl|rfl|rfl|rfl|rfl|rfl
 ·have d:mM h≠0:=d;show jv h (gR h);unfold mM at d;unfold gR;cases i:mL h.g with
  |none=>exact .refl
  |some n=>
   rw[i] at d;dsimp only at d ⊢;rw[ao d];exact .refl
 ·have d:Cc h a≠0:=d;show jv h (sV h a);unfold Cc at d;unfold sV;split
  ·rename_i c1;rw[ax c1] at d;split
   ·exact .refl
   ·rename_i c2;rw[ao c2] at d;exact absurd rfl d
  ·exact .refl
 ·have d:oQ h v a b≠0:=λe=>d (by show(uS h v a b).2=0;unfold uS;rw[ax e]);show jv h (jS h v a b);rw[H.Pq (f rfl) d];exact .refl
 ·have d:(x_ h v a).2≠0:=d;show jv h (qF h v a);unfold x_ at d;unfold qF;split
  ·rename_i c1;rw[ax c1] at d;exact absurd rfl d
  ·exact .refl
 ·have d:mJ h v a b≠0:=d;show jv h (jY h v a b);rw[HI.Jn d];exact .refl
 ·exact .refl
 ·have d:nL h v a≠0:=d;show jv h (km h v a b);unfold nL at d;unfold km;split
  ·exact .refl
  rename_i c1;rw[ao c1] at d;refine⟨?_,rfl⟩;show(dO h.s.1 _ b,h.s.2)=h.s;unfold Aa at d;rw[show dO h.s.1 (il h v a 2).1 b=h.s.1 from ao λe=>d (ax e)]
 ·show jv h (iH h v a b c);unfold iH;split
  ·exact⟨rfl,rfl⟩
  ·exact .refl
 ·have d:ma h v a b c≠0:=d;show jv h (ju h v a b c);rw[H.Pt (f rfl) d];exact .refl
 ·have d:mK h v a≠0:=d;show jv h (gZ h v a);rw[Jt d];exact .refl
 ·show jv h (fV h v a);unfold fV;split
  ·exact .refl
  ·exact⟨rfl,rfl⟩
 ·show jv h (lW h v a);unfold lW;split
  ·exact⟨rfl,rfl⟩
  ·exact .refl
 ·show jv h (lX h v a b);unfold lX;split
  ·exact .refl
  split
  ·exact⟨rfl,rfl⟩
  ·exact .refl
 ·show jv h (lV h v a);unfold lV;split
  ·exact .refl
  ·exact⟨rfl,rfl⟩
 ·exact⟨rfl,rfl⟩
 ·show jv h (i_ h v a);unfold i_;split
  ·exact .refl
  ·exact⟨rfl,rfl⟩
 ·exact absurd rfl d
theorem HI.fail (H:HI gh h) (e:oW h v k a b c≠0):jv h (kO h v k a b c)/\xX h v k a b c=0:=by
 unfold oW at e;unfold kO xX;by_cases d:iN h v k a b c=0
 ·rw[ax d] at e ⊢;rw[ax d,ao e];obtain⟨h1,f, _⟩:=yK d;exact⟨Sp H h1 f e,rfl⟩
 ·rw[ao d,ao d];exact⟨.refl,rfl⟩
end
section
variable {gh dt:Gh} {h:HS}
structure acP (h h':HS) (f o b:Int):Prop where
 g:h'.g=h.g
 gr:h'.gr=h.gr
 po:h'.po=h.po
 pg: ∀{i:Nat} {q:Int},jP h' i q=jP h i q
 ds:h'.s.2=h.s.2
 ld: ∀q,dL h'.s.1 q=if q=16*f+o then b else dL h.s.1 q
end
section
variable {gh:Gh} {h:HS} {v k a b c:Int} {l:List Int}
theorem Gw (d:iN h v k a b c=0):kO h v k a b c=(run h v k a b c).1/\oW h v k a b c=(run h v k a b c).2.2/\xX h v k a b c=if(run h v k a b c).2.2=0 then(run h v k a b c).2.1 else 0:=by
 unfold kO oW xX;rw[ax d,ax d,ax d];exact⟨rfl,rfl,rfl⟩
structure WS (h:HS) (v:Int) (l:List Int):Prop where
 hi: ∃gh,HI gh h
 lv:aW h.g 1=true
 tk:lP h 1=[]
 ct:4*12<=bu h.s.2 0+4*l.length
 pg: ∀a∈l, ∃f,jP h 1 a=(f,3,0,())/\dL h.s.1 (16*f+3)=aI .u64 v a/\dL h.s.1 (16*f+4)=0
 no: ∀a,(jP h 1 a).2.2.1=0->a∈l
end
section
variable {gh:Gh} {h:HS} {v k a b c:Int}
theorem EH {g:Nat->Option GV} {n i:Nat} {f:GV->GV}:(bz g n (match g n with|some x=>some (f x)|none=>none) i).isSome=(g i).isSome/\(i≠n->bz g n (match g n with|some x=>some (f x)|none=>none) i=g i):=by grind[bz]
theorem abx (h:HS) (v a b:Int):(jS h v a b).g=h.g:=by
 unfold jS;split
 ·rfl
 split
 ·rfl
 split
 ·rfl
 split
 ·rfl
 ·rfl
theorem VS (d:1<=k/\k<=17) (hc:uQ k=false) (i:Nat):((run h v k a b c).1.g i).isSome=(h.g i).isSome:=by
 have:k=1\/k=2\/k=3\/k=4\/k=5\/k=6\/k=7\/k=8\/k=9\/k=10\/k=11\/k=12\/k=13\/k=14\/k=15\/k=16\/k=17:=by omega
 rcases this with rfl|rfl|rfl|rfl|rfl|rfl|rfl|rfl|rfl|rfl|rfl|rfl|rfl|rfl|rfl|rfl|rfl
 ·cases hc
 ·cases hc
 ·show((jS h v a b).g i).isSome= _;rw[abx]
 ·show((qF h v a).g i).isSome= _;unfold qF;split<;>rfl
 ·show((jY h v a b).g i).isSome= _;unfold jY;split
  ·rfl
  split
  ·rfl
  split<;>rfl
 ·rfl
 ·show((km h v a b).g i).isSome= _;unfold km;split<;>rfl
 ·show((iH h v a b c).g i).isSome= _;unfold iH;split<;>rfl
 ·show((ju h v a b c).g i).isSome= _;unfold ju;split
  ·rfl
  split
  ·exact EH.1
  ·rfl
 ·show((gZ h v a).g i).isSome= _;unfold gZ;split
  ·rfl
  split
  ·exact EH.1
  ·rfl
 ·show((fV h v a).g i).isSome= _;unfold fV;split<;>rfl
 ·show((lW h v a).g i).isSome= _;unfold lW;split<;>rfl
 ·show((lX h v a b).g i).isSome= _;unfold lX;split
  ·rfl
  split<;>rfl
 ·show((lV h v a).g i).isSome= _;unfold lV;split<;>rfl
 ·rfl
 ·show((i_ h v a).g i).isSome= _;unfold i_;split<;>rfl
 ·cases hc
structure LS (n:Nat) (h:HS):Prop where
 hi: ∃gh,HI gh h
 g1: ∃x,h.g 1=some x
 go: ∀i,i≠1->h.g i=none
 ln:h.s.2.length=n
theorem VT (H: ∃gh,HI gh h) (d:0<=a):(kO h v k a b c).s.2.length=h.s.2.length:=by
 obtain⟨gh,H⟩:=H;obtain⟨dt,e⟩:=H.step v k b c d;have h1:=H.sz;have f:=e.sz;rw[Gv] at f;omega
end
section
variable {gh:Gh} {h:HS} {v k a b c:Int}
theorem HI.MK (H:HI gh h):bu h.s.2 0+bu h.s.2 3+bu h.s.2 4+bu h.s.2 5=h.s.2.length:=by
 have: ∀l,(∀d∈l,d.1=0\/d.1=3\/d.1=4\/d.1=5)->bu l 0+bu l 3+bu l 4+bu l 5=l.length:=λl=>by
  induction l with
  |nil=>intro;rfl
  |cons d l a=>
   intro e;have h1:=a (by grind);unfold bu at*
   rw[Ca,Ca,Ca,Ca]
   grind
 refine this _ λd b=>?_;obtain⟨n,c⟩:=Bs b;exact(H.hc.kd c).1
end
abbrev LT:Type:=Int×Int×Int×Int×Unit
abbrev AK:Type:=Int×Int×Int×Unit
abbrev CT:Type:=Int×Int×Int×Int×Unit
abbrev MT:Type:=Int×Int×Int×CT×Int×Int
def Ce (t p:Int) (l:LT):Bool:=l.1==t&&l.2.1==p
def Cr (ls:List LT) (t p:Int):List LT:=ls.filter λl=> !Ce t p l
def VU (ls:List LT) (t:Int):List LT:=ls.filter λl=> !(l.1==t)
def jq (ls:List LT) (t p:Int):List LT:=if p= -1 then VU ls t else Cr ls t p
def qT (ls:List LT) (sz:Int) (l:LT):List LT:=
 (if ls.any (Ce l.1 l.2.1)=true then Cr ls l.1 l.2.1 else if(ls.length:Int)=sz then ls.drop 1 else ls)++[l]
def mO (ls:List LT) (t p w:Int):Int×Int:=match ls.find? (Ce t p) with
 |none=>(0,4)
 |some l=>if w<0\/w>7\/gF .i64 w l.2.2.2.1≠0 then(0,7) else(l.2.2.1,0)
structure vB where
 now:Int
 pins:List Int
 ws:List (Int×Int)
def Ap (e:vB) (n:Nat):vB:=if e.pins.getD n 0= -1 then{e with pins:=e.pins.set n e.now} else e
def uV (e:vB) (n:Nat):vB:={e with pins:=e.pins.set n (-1)}
def lj (e:vB) (f:Int):vB:=if e.ws.any (λx=>x.1==f)=true then e else{e with ws:=(f,e.now)::e.ws}
def fm (e:vB):vB:=if e.pins.all (λp=>p== -1||p==e.now)=true then{e with now:=e.now+1} else e
def oR (e:vB):List Int:=lx ((e.ws.filter λx=>decide (x.2+2<=e.now)).map (·.1))
def Cf (e:vB):vB:={e with ws:=e.ws.filter λx=> !decide (x.2+2<=e.now)}
structure bZ where
 ls:List LT
 ph:Int
 vm:Int
 c:CT
 wk:Int×Int×FT
 fr:Int
 rs:Int×Int
 ak:Int
 fs:List Int
def cJ (ls:List LT):bZ:=⟨ls,0,0,(0,0,0,0,()),(0,0,(0,0,0,0,())),0,(0,0),0,[]⟩
structure MS where
 h:HS
 ep:vB
 bx:List (List AK)
 op:List Int
 cs:List bZ
 kn:List Int
 ms:List MT
 sz:Int
def bh (k:Int):Int:=if k=6 then 1 else if k=7 then 2 else 0
def mg (h:HS) (x:bZ):Bool:=decide (bh x.c.1>0)&&(aW h.g x.vm&&(iG x.c.1 x.c.2.1 x.c.2.2.1 x.c.2.2.2.1&&decide (x.c.2.1<1048576)))
def qH (s:MS) (n:Nat) (x:bZ):Bool:=(B9 s.cs.length).any λi=>match s.cs[i]? with
 |none=>false
 |some y=>decide (i≠n/\x.vm=0)&&((x.c.1==1&&(y.ph==4&&y.c.1==2))||(x.c.1==2&&(decide (y.ph>=2)&&(decide (y.vm>0)&&y.vm==x.c.2.1))))
def gS (s:MS) (f:Int):MS:={s with h:=bF s.h (gQ s.h.s f),kn:=s.kn.filter (λx=> !(x==f)),ms:=s.ms++[(2,0,f,(0,0,0,0,()),0,0)]}
def dE (s:MS):MS×Nat:=((oR (fm s.ep)).foldl gS {s with ep:=Cf (fm s.ep)},(oR (fm s.ep)).length)
def eR (s:MS) (h':HS):List Int:=((B9 h'.s.2.length).map λ(f:Nat)=>(f:Int)).filter λf=>(mz h'.s.2 f).1==5&& !s.kn.contains f
def cD (s:MS) (n:Nat) (x:bZ):MS:={s with cs:=s.cs.set n x}
def dF (bx:List (List AK)) (op:List Int) (n:Nat) (t p:Int):Int×List (List AK)×List Int:=
 if t<1\/t>16\/p< -1\/p>=65536 then(0,bx,op)
 else if(bx.eraseIdx n).any (λq=>q.length==16)=true then(0,bx,op)
 else((op.length:Int)+1,(bx.zipIdx.map λ(q,i)=>if i=n then q else q++[((op.length:Int)+1,t,p,())]),op++[(bx.length:Int) - 1])
abbrev St:Type:=MS×(Int×Int)×Bool
def iq (s:MS) (n:Nat) (x:bZ):St:=
 let h':=kO s.h x.vm x.c.1 x.c.2.1 x.c.2.2.1 x.c.2.2.2.1
 let V:=xX s.h x.vm x.c.1 x.c.2.1 x.c.2.2.1 x.c.2.2.2.1
 let E:=oW s.h x.vm x.c.1 x.c.2.1 x.c.2.2.1 x.c.2.2.2.1
 let fs:=eR s h'
 let s1:MS:={s with h:=h',kn:=s.kn++fs,ms:=s.ms++[(1,x.vm,0,x.c,V,E)]}
 let x1:bZ:={x with rs:=(V,E),fs:=fs}
 if x.c.1=2\/x.c.1=4\/x.c.1=5\/x.c.1=10 then
  if E≠0 then(cD s1 n x1,(V,E),true)
  else
   let t:=if x.c.1=2 then aG .i64 x.c.2.1 else x.vm
   let p:=if x.c.1=2 then -1 else aG .i64 x.c.2.1
   let q:=dF s.bx s.op n t p
   (cD {s1 with bx:=q.2.1,op:=q.2.2} n {x1 with ls:=jq x.ls t p,ak:=q.1,ph:=4},(0,0),false)
 else(cD s1 n x1,(V,E),true)
def dn (s:MS) (n:Nat) (x:bZ):St:=
 if mg s.h x=true then
  let e:=Ap s.ep n
  let a:=mO x.ls x.vm (x.c.2.1 / 16) (bh x.c.1)
  if a.2=0 then(cD {s with ep:=e} n {x with ph:=3,fr:=a.1},(0,0),false)
  else(cD {s with ep:=e} n {x with ph:=2,wk:=fX s.h.s.1 (aY s.h.g x.vm) (x.c.2.1 / 16) (bh x.c.1) 0},(0,0),false)
 else if qH s n x=true then(s,(0,9),true)
 else if x.vm=0/\x.c=(17,0,0,0,()) then((dE s).1,(((dE s).2:Nat),0),true)
 else iq s n x
def kz (s:MS) (n:Nat) (x:bZ):St:=
 let w:=bj s.h.s.1 (x.c.2.1 / 16) (bh x.c.1) x.wk
 let x1:bZ:={x with wk:=w}
 if w.2.1≠ -1 then(cD s n x1,(0,0),false)
 else if w.2.2.2.2.2.1≠0 then(cD {s with ep:=uV s.ep n} n x1,(0,w.2.2.2.2.2.1),true)
 else(cD s n {x1 with ls:=qT x.ls s.sz (x.vm,x.c.2.1 / 16,w.2.2.1,w.2.2.2.1,()),ph:=3,fr:=w.2.2.1},(0,0),false)
def fP (s:MS) (n:Nat) (x:bZ):St:=
 let at_:=16*x.fr+x.c.2.1 % 16
 if x.c.1=7 then({s with h:=bF s.h (dO s.h.s.1 at_ x.c.2.2.1,s.h.s.2),ep:=uV s.ep n,ms:=s.ms++[(4,0,at_,(0,0,0,0,()),x.c.2.2.1,0)]},(0,0),true)
 else({s with ep:=uV s.ep n,ms:=s.ms++[(3,0,at_,(0,0,0,0,()),dL s.h.s.1 at_,0)]},(dL s.h.s.1 at_,0),true)
def yy (s:MS) (a:Int):Bool:=decide (1<=a/\a<=(s.op.length:Int))&&s.op.getD (a - 1).toNat 0==0
def ir (s:MS) (x:bZ):St:=if yy s x.ak=true then({s with ep:=x.fs.foldl lj s.ep},x.rs,true) else(s,(0,0),false)
def bQ (s:MS) (n:Nat) (x:bZ):St:=
 if x.ph=0 then((dE s).1,(0,0),false)
 else if x.ph=1 then dn s n x
 else if x.ph=2 then kz s n x
 else if x.ph=3 then fP s n x
 else ir s x
def ig (r:St) (n:Nat) (x:bZ):St:=if r.2.2=true then(cD r.1 n (cJ ((r.1.cs.getD n x).ls)),r.2.1,true) else(r.1,(0,0),false)
def yc (s:MS) (n:Nat):Option (AK×MS):=match s.bx[n]? with
 |some (a::q)=>some (a,{s with bx:=s.bx.set n q,op:=s.op.set (a.1 - 1).toNat (s.op.getD (a.1 - 1).toNat 0 - 1)})
 | _=>none
def lz (s:MS) (n:Nat) (x:bZ):St:=
 if x.ph=3 then ig (bQ s n x) n x
 else match yc s n with
  |some (a,s1)=>(cD s1 n {x with ls:=jq x.ls a.2.1 a.2.2.1},(0,0),false)
  |none=>ig (bQ s n x) n x
def bA (s:MS) (n:Int):St:=if n<0 then(s,(0,0),false) else match s.cs[n.toNat]? with
 |none=>(s,(0,0),false)
 |some x=>lz s n.toNat x
def Dz (s:MS) (n:Int):Int:=if n<0 then 2 else match s.cs[n.toNat]? with
 |none=>2
 |some x=>if x.ph=0 then 0 else 9
def eh (s:MS) (n vm:Int) (c:CT):MS:=if n<0 then s else match s.cs[n.toNat]? with
 |none=>s
 |some x=>if x.ph=0 then cD s n.toNat {x with ph:=1,vm:=vm,c:=c} else s
def m0 (Gx a:Nat) (b:Int):MS where
 h:=h0 Gx
 ep:=⟨0,DB a (-1),[]⟩
 bx:=DB a []
 op:=[]
 cs:=DB a (cJ [])
 kn:=[]
 ms:=[]
 sz:=b
section
variable {gh:Gh} {h:HS} {v k a b c:Int}
end
abbrev cL (a:Int):Prop:=0<=a/\a<18446744073709551616
structure MA (n:Nat) (s:MS):Prop where
 hi: ∃gh,HI gh s.h
 nn:1<=n/\n<=8
 lc:s.cs.length=n
 lb:s.bx.length=n
 lp:s.ep.pins.length=n
 sz:1<=s.sz/\s.sz<=64
 ph: ∀x∈s.cs,0<=x.ph/\x.ph<=4
 ar: ∀x∈s.cs,cL x.c.2.1/\cL x.c.2.2.1/\cL x.c.2.2.2.1
 tl: ∀x∈s.cs,(x.ls.length:Int)<=s.sz
 k5: ∀f∈s.kn, ∃(m:Nat) (d:DT),f=(m:Int)/\s.h.s.2[m]? =some d/\d.1=5
 nk:s.kn.Nodup
 wk: ∀e∈s.ep.ws,e.1∈s.kn
 wn:(s.ep.ws.map (·.1)).Nodup
 fk: ∀x∈s.cs,x.ph=4-> ∀f∈x.fs,f∈s.kn/\f∉s.ep.ws.map (·.1)
 fn: ∀x∈s.cs,x.ph=4->x.fs.Nodup
 fd: ∀{i j:Nat} {x y:bZ},s.cs[i]? =some x->s.cs[j]? =some y->i≠j->x.ph=4->y.ph=4-> ∀f∈x.fs,f∉y.fs
 ln: ∀x∈s.cs, ∀l∈x.ls, ∃m:Nat,l.2.2.1=(m:Int)/\m<s.h.s.2.length
 rc: ∀x∈s.cs,x.ph=3-> ∃m:Nat,x.fr=(m:Int)/\m<s.h.s.2.length
 wl: ∀x∈s.cs,x.ph=2->0<=x.wk.2.1/\x.wk.2.1<=3
 ak: ∀q∈s.bx, ∀a∈q,1<=a.1/\a.1<=(s.op.length:Int)
 bl: ∀q∈s.bx,q.length<=16
def mtA (a:AK) (t p:Int):Prop:=a.2.1=t/\(a.2.2.1= -1\/a.2.2.1=p)
def rI (s:MS) (i:Nat) (f:Int):Prop:=(∃(z:Nat) (y:bZ),s.cs[z]? =some y/\y.ph=4/\f∈y.fs)\/ ∃e∈s.ep.ws,e.1=f/\s.ep.pins.getD i 0<=e.2
def DC (ta:Int->Bool) (s:MS) (i:Nat) (l:LT):Prop:=
 (1<=l.1/\l.1<=16/\0<=l.2.1/\l.2.1<65536)/\ ∃(m:Nat) (d:DT),l.2.2.1=(m:Int)/\s.h.s.2[m]? =some d/\
  ((d.1=4/\jP s.h l.1.toNat l.2.1=(l.2.2.1,l.2.2.2.1,0,()))\/
    ((d.1=4\/d.1=5)/\ ∃q a,s.bx[i]? =some q/\a∈q/\mtA a l.1 l.2.1/\
      (d.1=5->ta l.2.2.1=false/\ ∃(z:Nat) (y:bZ), ∃b∈q,s.cs[z]? =some y/\y.ph=4/\l.2.2.1∈y.fs/\b.1=y.ak/\a.1<=b.1)))
def DD (gh:Gh) (ta:Int->Bool) (s:MS) (i:Nat) (x:bZ):Prop:=
 ∃l:Nat,x.wk.2.1=(l:Int)/\l<=3/\x.wk.2.2=(0,0,0,0,())/\(gh x.wk.1=some (x.vm,l,px (l+1) (x.c.2.1 / 16))\/(iM s.h.s x.wk.1/\rI s i x.wk.1/\ta x.wk.1=true))
def Aq (ta:Int->Bool) (s:MS) (i:Nat) (f:Int):Prop:=
 ∃(m:Nat) (d:DT),f=(m:Int)/\s.h.s.2[m]? =some d/\(d.1=4\/(d.1=5/\rI s i f/\ta f=false))
def Ar (y:bZ):Int:=if y.c.1=2 then y.c.2.1 else y.vm
def As (y:bZ):Int:=if y.c.1=2 then -1 else y.c.2.1
def jB (q:List AK) (id:Int):Bool:=q.any λa=>a.1==id
structure MI (gh:Gh) (ta:Int->Bool) (n:Nat) (s:MS):Prop where
 hi:HI gh s.h
 nn:1<=n/\n<=8
 lc:s.cs.length=n
 lb:s.bx.length=n
 lp:s.ep.pins.length=n
 sz:1<=s.sz/\s.sz<=64
 ph: ∀x∈s.cs,0<=x.ph/\x.ph<=4
 ar: ∀x∈s.cs,cL x.c.2.1/\cL x.c.2.2.1/\cL x.c.2.2.2.1
 tl: ∀x∈s.cs,(x.ls.length:Int)<=s.sz
 k5: ∀f∈s.kn, ∃(m:Nat) (d:DT),f=(m:Int)/\s.h.s.2[m]? =some d/\d.1=5
 nk:s.kn.Nodup
 wk: ∀e∈s.ep.ws,e.1∈s.kn/\0<=e.2/\e.2<=s.ep.now
 wn:(s.ep.ws.map (·.1)).Nodup
 fk: ∀x∈s.cs,x.ph=4-> ∀f∈x.fs,f∈s.kn/\f∉s.ep.ws.map (·.1)
 fn: ∀x∈s.cs,x.ph=4->x.fs.Nodup
 fd: ∀{i j:Nat} {x y:bZ},s.cs[i]? =some x->s.cs[j]? =some y->i≠j->x.ph=4->y.ph=4-> ∀f∈x.fs,f∉y.fs
 kd: ∀{m:Nat} {d:DT},s.h.s.2[m]? =some d->d.1=5->(m:Int)∈s.kn/\((m:Int)∈s.ep.ws.map (·.1)\/ ∃x∈s.cs,x.ph=4/\(m:Int)∈x.fs)
 nw:0<=s.ep.now
 pn: ∀{i:Nat} {x:bZ},s.cs[i]? =some x->if x.ph=2\/x.ph=3 then 0<=s.ep.pins.getD i 0/\s.ep.pins.getD i 0<=s.ep.now/\s.ep.now<=s.ep.pins.getD i 0+1 else s.ep.pins.getD i 0= -1
 ln: ∀{i:Nat} {x:bZ},s.cs[i]? =some x-> ∀l∈x.ls,DC ta s i l
 ac: ∀x∈s.cs,x.ph=2->aW s.h.g x.vm=true/\x.c.2.1<1048576/\(x.c.1=6\/x.c.1=7)
 wl: ∀{i:Nat} {x:bZ},s.cs[i]? =some x->x.ph=2->DD gh ta s i x
 rc: ∀{i:Nat} {x:bZ},s.cs[i]? =some x->x.ph=3->Aq ta s i x.fr/\(x.c.1=6\/x.c.1=7)
 wt: ∀x∈s.cs,x.ph=4->1<=x.ak/\x.ak<=(s.op.length:Int)/\1<=Ar x/\Ar x<=16/\ -1<=As x/\As x<65536
 wu: ∀{i j:Nat} {x y:bZ},s.cs[i]? =some x->s.cs[j]? =some y->i≠j->x.ph=4->y.ph=4->x.ak≠y.ak
 aq: ∀{i:Nat} {q:List AK},s.bx[i]? =some q->q.Pairwise (λa b=>a.1<b.1)/\ ∀a∈q, ∃(j:Nat) (y:bZ),j≠i/\s.cs[j]? =some y/\y.ph=4/\a=(y.ak,Ar y,As y,())
 oc: ∀id:Nat,id<s.op.length->s.op.getD id 0=(s.bx.countP (λq=>jB q ((id:Int)+1)):Nat)
section
variable {gh:Gh} {ta:Int->Bool} {n:Nat} {s:MS}
theorem aC {α:Type} {l:List α} {i:Nat} {x:α} (h:l[i]? =some x):x∈l:=B5 h
theorem jZ {α:Type} {l:List α} {i j:Nat} {x y:α} (h:(l.set i x)[j]? =some y):(j=i/\y=x)\/(j≠i/\l[j]? =some y):=by
 by_cases e:i=j
 ·subst e;have a:=(Ab.1 h).1;rw[Az] at a;rw[Ax a] at h;cases h;exact .inl ⟨rfl,rfl⟩
 ·rw[AR e] at h;exact .inr ⟨λc=>e c.symm,h⟩
theorem iv {α:Type} {l:List α} {i:Nat} {x y:α} (h:y∈l.set i x):y=x\/y∈l:=by
 obtain⟨j,a⟩:=Bs h;rcases jZ a with ⟨_,e⟩|⟨_,e⟩
 ·exact .inl e
 ·exact .inr (B5 e)
end
section
variable {gh:Gh} {ta:Int->Bool} {n:Nat} {s s':MS} {i:Nat}
theorem rI.du {f:Int} (h:rI s i f) (c: ∀{z:Nat} {y:bZ},s.cs[z]? =some y->y.ph=4->s'.cs[z]? =some y) (d:s'.ep.ws=s.ep.ws) (g:s'.ep.pins.getD i 0=s.ep.pins.getD i 0):rI s' i f:=by
 rcases h with ⟨z,y,h1,a,b⟩|⟨e,h1,a,b⟩
 ·exact .inl ⟨z,y,c h1 a,a,b⟩
 ·exact .inr ⟨e,by rw[d];exact h1,a,by rw[g];exact b⟩
theorem DC.du {l:LT} (h:DC ta s i l) (f:s'.h=s.h) (hb:s'.bx=s.bx) (j: ∀{z:Nat} {y:bZ},s.cs[z]? =some y->y.ph=4->s'.cs[z]? =some y):DC ta s' i l:=by
 obtain⟨h0,m,d,h1,k,c⟩:=h;refine⟨h0,m,d,h1,by rw[f];exact k,?_⟩;rw[f,hb];rcases c with c|⟨c,q,a,n,o,p,r⟩
 ·exact .inl c
 ·refine .inr ⟨c,q,a,n,o,p,λe=>?_⟩;obtain⟨t,z,y,b,u,g1,g,v,w,x⟩:=r e;exact⟨t,z,y,b,u,j g1 g,g,v,w,x⟩
theorem DD.du {x:bZ} (h:DD gh ta s i x) (a:s'.h=s.h) (b: ∀{z:Nat} {y:bZ},s.cs[z]? =some y->y.ph=4->s'.cs[z]? =some y) (d:s'.ep.ws=s.ep.ws) (e:s'.ep.pins.getD i 0=s.ep.pins.getD i 0):DD gh ta s' i x:=by
 obtain⟨l,h1,f,g,j⟩:=h;refine⟨l,h1,f,g,?_⟩;rw[a];exact j.imp id λc=>⟨c.1,c.2.1.du b d e,c.2.2⟩
theorem Aq.du {f:Int} (h:Aq ta s i f) (a:s'.h=s.h) (b: ∀{z:Nat} {y:bZ},s.cs[z]? =some y->y.ph=4->s'.cs[z]? =some y) (e:s'.ep.ws=s.ep.ws) (g:s'.ep.pins.getD i 0=s.ep.pins.getD i 0):Aq ta s' i f:=by
 obtain⟨m,d,h1,j,k⟩:=h;refine⟨m,d,h1,by rw[a];exact j,?_⟩;exact k.imp id λc=>⟨c.1,c.2.1.du b e g,c.2.2⟩
theorem MI.Dp (M:MI gh ta n s) {x x':bZ} (L:s.cs[i]? =some x) (p:Int) (ms:List MT) (R:x.ph≠4) (w:x'.ph≠4) (k:s'={s with cs:=s.cs.set i x',ep:={s.ep with pins:=s.ep.pins.set i p},ms:=ms})
 (S:0<=x'.ph/\x'.ph<=4) (T:cL x'.c.2.1/\cL x'.c.2.2.1/\cL x'.c.2.2.2.1) (U:(x'.ls.length:Int)<=s.sz)
 (V:if x'.ph=2\/x'.ph=3 then 0<=p/\p<=s.ep.now/\s.ep.now<=p+1 else p= -1) (W: ∀l∈x'.ls,DC ta s i l) (X:x'.ph=2->aW s.h.g x'.vm=true/\x'.c.2.1<1048576/\(x'.c.1=6\/x'.c.1=7))
 (Y:x'.ph=2->DD gh ta s' i x') (Z:x'.ph=3->Aq ta s' i x'.fr/\(x'.c.1=6\/x'.c.1=7)):MI gh ta n s':=by
 have nc:i<s.cs.length:=(Ab.1 L).1;have C: ∀{z:Nat} {y:bZ},s.cs[z]? =some y->y.ph=4->s'.cs[z]? =some y:=λ{z y} h1 o=>by
  have e:i≠z:=λe=>by subst e;rw[L] at h1;cases h1;exact R o
  rw[k];show(s.cs.set i x')[z]? = _;rw[AR e];exact h1
 have t: ∀{z:Nat} {y:bZ},s'.cs[z]? =some y->(z=i/\y=x')\/(z≠i/\s.cs[z]? =some y):=λh=>by
  rw[k] at h;exact jZ h
 have A: ∀{y:bZ},y∈s'.cs->y=x'\/y∈s.cs:=λh=>by
  rw[k] at h;exact iv h
 have u:s'.h=s.h:=by rw[k]
 have hb:s'.bx=s.bx:=by rw[k]
 have N:s'.op=s.op:=by rw[k]
 have E:s'.kn=s.kn:=by rw[k]
 have D:s'.ep.ws=s.ep.ws:=by rw[k]
 have F:s'.ep.now=s.ep.now:=by rw[k]
 have O:s'.sz=s.sz:=by rw[k]
 have G:s'.ep.pins=s.ep.pins.set i p:=by rw[k]
 have hpi:s'.ep.pins.getD i 0=p:=by
  rw[G,B1,Ax (by rw[M.lp, <-M.lc];exact nc)];rfl
 have H: ∀{j:Nat},j≠i->s'.ep.pins.getD j 0=s.ep.pins.getD j 0:=λ{j} r=>by
  rw[G,B1,AR (λe=>r e.symm),B1]
 refine⟨by rw[u];exact M.hi,M.nn,by rw[k];show(s.cs.set i x').length=n;rw[Az];exact M.lc,by rw[hb];exact M.lb,by rw[G,Az];exact M.lp,by rw[O];exact M.sz,λy f=>?_,λy f=>?_,λy f=>?_,
  by rw[E,u];exact M.k5,by rw[E];exact M.nk,by rw[D,E,F];exact M.wk,by rw[D];exact M.wn,λy f e=>?_,λy f e=>?_,λ{a b y z} h1 o I v B=>?_,λ{m d} h1 o=>?_,by rw[F];exact M.nw,λ{j y} h1=>?_,λ{j y} h1 l P=>?_,λy f e=>?_,λ{j y} h1 e=>?_,λ{j y} h1 e=>?_,λy f e=>?_,λ{a b y z} h1 o I v B=>?_,λ{j q} h1=>?_,by rw[N,hb];exact M.oc⟩
 ·rcases A f with rfl|f
  ·exact S
  ·exact M.ph y f
 ·rcases A f with rfl|f
  ·exact T
  ·exact M.ar y f
 ·rw[O];rcases A f with rfl|f
  ·exact U
  ·exact M.tl y f
 ·rcases A f with rfl|f
  ·exact absurd e w
  ·rw[E,D];exact M.fk y f e
 ·rcases A f with rfl|f
  ·exact absurd e w
  ·exact M.fn y f e
 ·rcases t h1 with ⟨_,rfl⟩|⟨_,h1⟩
  ·exact absurd v w
  ·rcases t o with ⟨_,rfl⟩|⟨_,o⟩
   ·exact absurd B w
   ·exact M.fd h1 o I v B
 ·rw[u] at h1;obtain⟨J,K⟩:=M.kd h1 o;rw[E,D];refine⟨J,K.imp id λ⟨y,f,v,B⟩=>?_⟩;obtain⟨j,r⟩:=Bs f;exact⟨y,aC (C r v),v,B⟩
 ·rw[F];rcases t h1 with ⟨rfl,rfl⟩|⟨r,h1⟩
  ·rw[hpi];exact V
  ·rw[H r];exact M.pn h1
 ·rcases t h1 with ⟨rfl,rfl⟩|⟨r,h1⟩
  ·exact(W l P).du u hb C
  ·exact(M.ln h1 l P).du u hb C
 ·rw[u];rcases A f with rfl|f
  ·exact X e
  ·exact M.ac y f e
 ·rcases t h1 with ⟨rfl,rfl⟩|⟨r,h1⟩
  ·exact Y e
  ·exact(M.wl h1 e).du u C D (H r)
 ·rcases t h1 with ⟨rfl,rfl⟩|⟨r,h1⟩
  ·exact Z e
  ·exact⟨(M.rc h1 e).1.du u C D (H r),(M.rc h1 e).2⟩
 ·rw[N];rcases A f with rfl|f
  ·exact absurd e w
  ·exact M.wt y f e
 ·rcases t h1 with ⟨_,rfl⟩|⟨_,h1⟩
  ·exact absurd v w
  ·rcases t o with ⟨_,rfl⟩|⟨_,o⟩
   ·exact absurd B w
   ·exact M.wu h1 o I v B
 ·rw[hb] at h1;obtain⟨J,K⟩:=M.aq h1;refine⟨J,λa ha=>?_⟩;obtain⟨j2,y,g1,g2,Q,g4⟩:=K a ha;exact⟨j2,y,g1,C g2 Q,Q,g4⟩
theorem tH (M:MI gh ta n s) {x:bZ} (b:s.cs[i]? =some x):s.ep.pins.set i (s.ep.pins.getD i 0)=s.ep.pins:=by
 have a:i<s.ep.pins.length:=by rw[M.lp, <-M.lc];exact(Ab.1 b).1
 refine FC λj=>?_;rw[Ga];by_cases e:i=j
 ·subst e;rw[ax rfl,ax a,B1,B_ a];rfl
 ·rw[ao e]
theorem MI.ask (M:MI gh ta n s) (k vm:Int) {c:CT} (hc:cL c.2.1/\cL c.2.2.1/\cL c.2.2.2.1):MI gh ta n (eh s k vm c):=by
 unfold eh;split
 ·exact M
 cases a:s.cs[k.toNat]? with
 |none=>exact M
 |some x=>
  dsimp only;split
  ·rename_i h0;have b:=M.pn a;rw[h0,ao (by decide)] at b;refine M.Dp (x':={x with ph:=1,vm:=vm,c:=c}) a (s.ep.pins.getD k.toNat 0) s.ms (by rw[h0];decide) (show ¬ (1:Int)=4 by decide) ?_ (show 0<=(1:Int)/\(1:Int)<=4 by decide) hc (M.tl x (aC a)) ?_ (λl d=>M.ln a l d) (λe=>absurd e (show ¬ (1:Int)=2 by decide)) (λe=>absurd e (show ¬ (1:Int)=2 by decide)) (λe=>absurd e (show ¬ (1:Int)=3 by decide))
   ·rw[tH M a];rfl
   ·show if(1:Int)=2\/(1:Int)=3 then _ else _;rw[ao (by decide)];exact b
  ·exact M
theorem MI.idle (M:MI gh ta n s) {x:bZ} (a:s.cs[i]? =some x) (b:x.ph≠4) {ls:List LT} (c: ∀l∈ls,DC ta s i l) (d:(ls.length:Int)<=s.sz) (ms:List MT):MI gh ta n {s with cs:=s.cs.set i (cJ ls),ep:=uV s.ep i,ms:=ms}:=
 M.Dp (x':=cJ ls) a (-1) ms b (show ¬ (0:Int)=4 by decide) rfl (show 0<=(0:Int)/\(0:Int)<=4 by decide) (show cL 0/\cL 0/\cL 0 by decide) d (by show if(0:Int)=2\/(0:Int)=3 then _ else _;rw[ao (by decide)]) c (λe=>absurd e (show ¬ (0:Int)=2 by decide)) (λe=>absurd e (show ¬ (0:Int)=2 by decide)) (λe=>absurd e (show ¬ (0:Int)=3 by decide))
end
section
variable {gh:Gh} {ta:Int->Bool} {n:Nat} {s s':MS} {i:Nat}
def WtK (s s':MS):Prop:= ∀(z:Nat) (y:bZ),s.cs[z]? =some y->y.ph=4-> ∃a,s'.cs[z]? =some a/\a.ph=4/\a.fs=y.fs/\a.ak=y.ak/\a.vm=y.vm/\a.c=y.c
theorem rI.AS {f:Int} (h:rI s i f) (c:WtK s s') (d:s'.ep.ws=s.ep.ws) (g:s'.ep.pins.getD i 0=s.ep.pins.getD i 0):rI s' i f:=by
 rcases h with ⟨z,y,h1,a,b⟩|⟨e,h1,a,b⟩
 ·obtain⟨j,g1,k,l, _⟩:=c z y h1 a;exact .inl ⟨z,j,g1,k,by rw[l];exact b⟩
 ·exact .inr ⟨e,by rw[d];exact h1,a,by rw[g];exact b⟩
theorem DD.AS {x:bZ} (h:DD gh ta s i x) (a:s'.h=s.h) (b:WtK s s') (d:s'.ep.ws=s.ep.ws) (e:s'.ep.pins.getD i 0=s.ep.pins.getD i 0):DD gh ta s' i x:=by
 obtain⟨l,h1,f,g,j⟩:=h;refine⟨l,h1,f,g,?_⟩;rw[a];exact j.imp id λc=>⟨c.1,c.2.1.AS b d e,c.2.2⟩
theorem Aq.AS {f:Int} (h:Aq ta s i f) (a:s'.h=s.h) (b:WtK s s') (e:s'.ep.ws=s.ep.ws) (g:s'.ep.pins.getD i 0=s.ep.pins.getD i 0):Aq ta s' i f:=by
 obtain⟨m,d,h1,j,k⟩:=h;refine⟨m,d,h1,by rw[a];exact j,?_⟩;exact k.imp id λc=>⟨c.1,c.2.1.AS b e g,c.2.2⟩
theorem tI {ls:List LT} {t p:Int} {l:LT} (h:l∈jq ls t p):l∈ls/\ ¬ (t=l.1/\(p= -1\/p=l.2.1)):=by
 unfold jq at h;split at h
 ·rename_i e;obtain⟨h1,a⟩:=B4.1 h;refine⟨h1,λc=>?_⟩;simp at a;exact a c.1.symm
 ·rename_i e;obtain⟨h1,a⟩:=B4.1 h;refine⟨h1,λc=>?_⟩;rcases c.2 with c2|c2
  ·exact e c2
  ·simp[Ce] at a;exact a.elim (λf=>f c.1.symm) (λf=>f c2.symm)
theorem EI (ls:List LT) (t p:Int):(jq ls t p).length<=ls.length:=by
 unfold jq;split<;>exact List.length_filter_le ..
theorem vk (a:AK) (q:List AK) (id:Int):jB (a::q) id=(a.1==id||jB q id):=rfl
theorem MI.pop (M:MI gh ta n s) {x:bZ} (X:s.cs[i]? =some x) {a:AK} {q:List AK} (E:s.bx[i]? =some (a::q)):
 MI gh ta n {s with bx:=s.bx.set i q,op:=s.op.set (a.1 - 1).toNat (s.op.getD (a.1 - 1).toNat 0 - 1),cs:=s.cs.set i {x with ls:=jq x.ls a.2.1 a.2.2.1}}:=by
 have nc:i<s.cs.length:=(Ab.1 X).1;have hib:i<s.bx.length:=by rw[M.lb, <-M.lc];exact nc
 generalize F:({s with bx:=s.bx.set i q,op:=s.op.set (a.1 - 1).toNat (s.op.getD (a.1 - 1).toNat 0 - 1),cs:=s.cs.set i {x with ls:=jq x.ls a.2.1 a.2.2.1}}:MS)=s';have v:s'.h=s.h:=by rw[<-F]
 have p:s'.ep=s.ep:=by rw[<-F]
 have O:s'.kn=s.kn:=by rw[<-F]
 have iz:s'.sz=s.sz:=by rw[<-F]
 have hb:s'.bx=s.bx.set i q:=by rw[<-F]
 have ho:s'.op=s.op.set (a.1 - 1).toNat (s.op.getD (a.1 - 1).toNat 0 - 1):=by rw[<-F]
 have fg:s'.cs=s.cs.set i {x with ls:=jq x.ls a.2.1 a.2.2.1}:=by rw[<-F]
 have XR:s'.op.length=s.op.length:=by rw[ho,Az]
 have vO:s'.cs[i]? =some {x with ls:=jq x.ls a.2.1 a.2.2.1}:=by rw[fg,Ax nc]
 have K:WtK s s':=λz y h1 A=>by
  by_cases e:i=z
  ·subst e;rw[X] at h1;cases h1;exact⟨_,vO,A,rfl,rfl,rfl,rfl⟩
  ·exact⟨y,by rw[fg,AR e];exact h1,A,rfl,rfl,rfl,rfl⟩
 have w: ∀{z:Nat} {y:bZ},s'.cs[z]? =some y-> ∃f,s.cs[z]? =some f/\y.ph=f.ph/\y.vm=f.vm/\y.c=f.c/\y.wk=f.wk/\y.fr=f.fr/\y.ak=f.ak/\y.fs=f.fs/\(z≠i->y=f)/\y.ls.length<=f.ls.length:=λ{z y} h=>by
  rw[fg] at h;rcases jZ h with ⟨rfl,rfl⟩|⟨e,h⟩
  ·exact⟨x,X,rfl,rfl,rfl,rfl,rfl,rfl,rfl,λc=>absurd rfl c,EI ..⟩
  ·exact⟨y,h,rfl,rfl,rfl,rfl,rfl,rfl,rfl,λ_=>rfl,Dt _⟩
 have G: ∀{y:bZ},y∈s'.cs-> ∃f∈s.cs,y.ph=f.ph/\y.vm=f.vm/\y.c=f.c/\y.wk=f.wk/\y.fr=f.fr/\y.ak=f.ak/\y.fs=f.fs/\y.ls.length<=f.ls.length:=λh=>by
  obtain⟨z,hz⟩:=Bs h;obtain⟨f,g1,B,t,L,Y,P,H,g8, _,g9⟩:=w hz;exact⟨f,aC g1,B,t,L,Y,P,H,g8,g9⟩
 obtain⟨hpw,uO⟩:=M.aq E;obtain⟨ja,ya,hja,hya,hpa,hea⟩:=uO a Bx;obtain⟨ha1,XQ, _⟩:=M.wt ya (aC hya) hpa;have ea1:a.1=ya.ak:=by rw[hea]
 have Ip: ∀b∈q,a.1<b.1:=(List.pairwise_cons.1 hpw).1;refine⟨by rw[v];exact M.hi,M.nn,by rw[fg,Az];exact M.lc,by rw[hb,Az];exact M.lb,by rw[p];exact M.lp,by rw[iz];exact M.sz,λy k=>?_,λy k=>?_,λy k=>?_,
  by rw[O,v];exact M.k5,by rw[O];exact M.nk,by rw[p,O];exact M.wk,by rw[p];exact M.wn,λy k e=>?_,λy k e=>?_,λ{a b y z} h1 A Z Q R=>?_,λ{m d} h1 A=>?_,by rw[p];exact M.nw,λ{j y} h1=>?_,λ{j y} h1 l hl=>?_,λy k e=>?_,λ{j y} h1 e=>?_,λ{j y} h1 e=>?_,λy k e=>?_,λ{a b y z} h1 A Z Q R=>?_,λ{j r} h1=>?_,λid JR=>?_⟩
 ·obtain⟨f,o,g1, _⟩:=G k;rw[g1];exact M.ph f o
 ·obtain⟨f,o, _, _,t, _⟩:=G k;rw[t];exact M.ar f o
 ·obtain⟨f,o, _, _, _, _, _, _, _,g⟩:=G k;have:=M.tl f o;rw[iz];omega
 ·obtain⟨f,o,g1, _, _, _, _, _,H, _⟩:=G k;rw[H,O,p];exact M.fk f o (by rw[<-g1];exact e)
 ·obtain⟨f,o,g1, _, _, _, _, _,H, _⟩:=G k;rw[H];exact M.fn f o (by rw[<-g1];exact e)
 ·obtain⟨f,u,g1, _, _, _, _, _,H, _⟩:=w h1;obtain⟨z0,k0,C, _, _, _, _, _,k7, _⟩:=w A;rw[H,k7];exact M.fd u k0 Z (by rw[<-g1];exact Q) (by rw[<-C];exact R)
 ·rw[v] at h1;obtain⟨C,k2⟩:=M.kd h1 A;rw[O,p];refine⟨C,k2.imp id λ⟨y,k,Q,R⟩=>?_⟩;obtain⟨j,hj⟩:=Bs k;obtain⟨I,p1,p2,p3, _⟩:=K j y hj Q;exact⟨I,aC p1,p2,by rw[p3];exact R⟩
 ·obtain⟨f,u,g1, _⟩:=w h1;rw[p,g1];exact M.pn u
 ·
  obtain⟨f,u, _, _, _, _, _, _, _,gj, _⟩:=w h1;by_cases e:j=i
  ·subst e;rw[vO] at h1;cases h1;obtain⟨l1,l2⟩:=tI hl;obtain⟨J,m,d,S,T,U⟩:=M.ln X l l1;refine⟨J,m,d,S,by rw[v];exact T,?_⟩;rw[v];refine U.imp id λ⟨V,qq,b,N,D,W,r8⟩=>⟨V,q,b,by rw[hb,Ax hib],?_,W,λe5=>?_⟩
   ·rw[E] at N;cases N;rcases DA.1 D with rfl|D
    ·exact absurd W l2
    ·exact D
   ·obtain⟨r9,z,y,c,c0,c1,c2,c3,c4,c5⟩:=r8 e5;obtain⟨I,p1,p2,p3,p4, _⟩:=K z y c1 c2;rw[E] at N;cases N;have hbq:b∈q:=by
     rcases DA.1 D with rfl|D
     ·exact absurd W l2
     ·exact D
    have hcq:c∈q:=by
     rcases DA.1 c0 with rfl|c0
     ·have:=Ip b hbq;omega
     ·exact c0
    exact⟨r9,z,I,c,hcq,p1,p2,by rw[p3];exact c3,by rw[p4];exact c4,c5⟩
  ·rw[gj e] at hl;obtain⟨J,m,d,S,T,U⟩:=M.ln u l hl;refine⟨J,m,d,S,by rw[v];exact T,?_⟩;rw[v];refine U.imp id λ⟨V,qq,b,N,D,W,r8⟩=>⟨V,qq,b,by rw[hb,AR (λc=>e c.symm)];exact N,D,W,λe5=>?_⟩;obtain⟨r9,z,y,c,c0,c1,c2,c3,c4,c5⟩:=r8 e5;obtain⟨I,p1,p2,p3,p4, _⟩:=K z y c1 c2;exact⟨r9,z,I,c,c0,p1,p2,by rw[p3];exact c3,by rw[p4];exact c4,c5⟩
 ·obtain⟨f,o,g1,B,t, _⟩:=G k;rw[v,B,t];exact M.ac f o (by rw[<-g1];exact e)
 ·obtain⟨f,u,g1,B,t,L, _⟩:=w h1;obtain⟨l,S,T,U,V⟩:=(M.wl u (by rw[<-g1];exact e)).AS v K (by rw[p]) (by rw[p]);exact⟨l,by rw[L];exact S,T,by rw[L];exact U,by rw[L,B,t];exact V⟩
 ·obtain⟨f,u,g1,B,t,L,Y, _⟩:=w h1;have:=M.rc u (by rw[<-g1];exact e);rw[Y,t];exact⟨this.1.AS v K (by rw[p]) (by rw[p]),this.2⟩
 ·obtain⟨f,o,g1,B,t, _, _,P, _⟩:=G k;have:=M.wt f o (by rw[<-g1];exact e);unfold Ar As at this ⊢;rw[XR,B,t,P];exact this
 ·obtain⟨f,u,g1, _, _, _, _,P, _⟩:=w h1;obtain⟨z0,k0,C, _, _, _, _,k6, _⟩:=w A;rw[P,k6];exact M.wu u k0 Z (by rw[<-g1];exact Q) (by rw[<-C];exact R)
 ·
  have sub: ∃J,s.bx[j]? =some J/\r.Sublist J:=by
   rw[hb] at h1;rcases jZ h1 with ⟨rfl,rfl⟩|⟨_,h1⟩
   ·exact⟨_,E,List.sublist_cons_self ..⟩
   ·exact⟨r,h1,List.Sublist.refl _⟩
  obtain⟨J,k0,C⟩:=sub;obtain⟨k2,k3⟩:=M.aq k0;refine⟨k2.sublist C,λb hb=>?_⟩;obtain⟨j2,y,p1,p2,p3,p4⟩:=k3 b (C.subset hb);obtain⟨I,q1,q2,q3,q4,q5,q6⟩:=K j2 y p2 p3;refine⟨j2,I,p1,q1,q2,?_⟩;unfold Ar As at p4 ⊢;rw[q4,q5,q6];exact p4
 ·
  rw[XR] at JR;have hoc:=M.oc id JR;have hbi:s.bx[i]=a::q:=(Ab.1 E).2;have hnq:jB q a.1=false:=by
   unfold jB;rw[Gd];intro b hb c;have:=Ip b hb;have c':b.1=a.1:=by simpa using c
   omega
  have J5: ∀j:Int,((s.bx.set i q).countP (λr=>jB r j):Nat)=s.bx.countP (λr=>jB r j) - (if jB (a::q) j=true then 1 else 0)+(if jB q j=true then 1 else 0):=λj=>by
   rw[List.countP_set hib,hbi]
  rw[ho,hb,J5,B1,Ga,vk];by_cases e:(a.1 - 1).toNat=id
  ·have ej:(id:Int)+1=a.1:=by omega
   rw[ax e,ax (by omega),ej,hnq];have oZ:0<s.bx.countP (λr=>jB r a.1):=Ds.2 ⟨a::q,aC E,by rw[vk];simp⟩;rw[ej] at hoc;rw[e];simp only[beq_self_eq_true,Bool.true_or,if_true,Option.getD_some];rw[ao (by decide)];omega
  ·rw[ao e, <-B1,hoc];have:(a.1==(id:Int)+1)=false:=by
    simp;omega
   rw[this,Bool.false_or];split
   ·rename_i hp;have oZ:0<s.bx.countP (λr=>jB r ((id:Int)+1)):=Ds.2 ⟨a::q,aC E,by rw[vk,hp,Bool.or_true]⟩;omega
   ·omega
end
section
variable {gh:Gh} {ta:Int->Bool} {n:Nat} {s s':MS} {i:Nat}
theorem BG {l:List (Int×Int)} (h:(l.map (·.1)).Nodup) {a b:Int×Int} (d:a∈l) (hb:b∈l) (e:a.1=b.1):a=b:=by
 induction l with
 |nil=>cases d
 |cons c l f=>
  rw[DJ,C8] at h;rcases DA.1 d with rfl|d
  ·rcases DA.1 hb with rfl|hb
   ·rfl
   ·exact absurd (B2.2 ⟨b,hb,e.symm⟩) h.1
  ·rcases DA.1 hb with g|hb
   ·rw[g] at e;exact absurd (show c.1∈l.map (·.1) from B2.2 ⟨a,d,e⟩) h.1
   ·exact f h.2 d hb
theorem MI.XY (M:MI gh ta n s):MI gh ta n {s with ep:=fm s.ep}:=by
 unfold fm;split
 ·rename_i h;rw[List.all_eq_true] at h;exact{M with
   wk:=λe g=>by
    obtain⟨a,b,c⟩:=M.wk e g;exact⟨a,b,Int.le_trans c (by show s.ep.now<=s.ep.now+1;omega)⟩
   nw:=by
    have:=M.nw;show 0<=s.ep.now+1;omega
   pn:=λ{j y} d=>by
    have:=M.pn d;show if y.ph=2\/y.ph=3 then 0<=s.ep.pins.getD j 0/\s.ep.pins.getD j 0<=s.ep.now+1/\s.ep.now+1<=s.ep.pins.getD j 0+1 else s.ep.pins.getD j 0= -1;split
    ·rename_i c;rw[ax c] at this;have f:j<s.ep.pins.length:=by rw[M.lp, <-M.lc];exact(Ab.1 d).1
     have i:s.ep.pins.getD j 0∈s.ep.pins:=by
      rw[B1,B_ f];exact List.getElem_mem f
     have:=h _ i;simp only[Bool.or_eq_true,beq_iff_eq] at this;omega
    ·rename_i c;rw[ao c] at this;exact this}
 ·exact M
def gT (s:MS) (f:Int):MS:={gS s f with ep:={s.ep with ws:=s.ep.ws.filter λx=> !(x.1==f)}}
theorem Jw (M:MI gh ta n s) {x:bZ} (d:s.cs[i]? =some x) (g:x.ph=2\/x.ph=3) {f r:Int} (c:(f,r)∈s.ep.ws) (k:r+2<=s.ep.now) {f0:Int} (P:rI s i f0):f0≠f/\rI (gT s f) i f0:=by
 have h:=M.pn d;rw[ax g] at h;have ne:f0≠f:=λe=>by
  subst e;rcases P with ⟨z,y,h1,a,b⟩|⟨e,h1,a,b⟩
  ·exact(M.fk y (aC h1) a f0 b).2 (B2.2 ⟨_,c,rfl⟩)
  ·have:e=(f0,r):=by
    have j:=M.wn;exact BG j h1 c a
   subst this;have b:s.ep.pins.getD i 0<=r:=b;omega
 refine⟨ne,?_⟩;rcases P with ⟨z,y,h1,a,b⟩|⟨e,h1,a,b⟩
 ·exact .inl ⟨z,y,h1,a,b⟩
 ·refine .inr ⟨e,B4.2 ⟨h1,?_⟩,a,b⟩;simp[a,ne]
theorem MI.gT (M:MI gh ta n s) {f r:Int} (F:(f,r)∈s.ep.ws) (L:r+2<=s.ep.now):MI gh ta n (gT s f):=by
 obtain⟨R, _, _⟩:=M.wk _ F;obtain⟨m,d,B,G,N⟩:=M.k5 f R;have B:f=(m:Int):=B;obtain⟨S, _,T,U⟩:=M.hi.Ox G N;have O:f∈s.ep.ws.map (·.1):=B2.2 ⟨_,F,rfl⟩;have hmn:m<s.h.s.2.length:=(Ab.1 G).1;have C:(Go.Proofs.YtlcenllcmeebhaaGreat.gT s f).h=bF s.h (s.h.s.1,s.h.s.2.set m zD):=by
  show bF s.h (gQ s.h.s f)= _;rw[B,S]
 have P:(Go.Proofs.YtlcenllcmeebhaaGreat.gT s f).h.s.2=s.h.s.2.set m zD:=by rw[C];rfl
 have V:(Go.Proofs.YtlcenllcmeebhaaGreat.gT s f).h.s.1=s.h.s.1:=by rw[C];rfl
 have W:(Go.Proofs.YtlcenllcmeebhaaGreat.gT s f).h.g=s.h.g:=by rw[C];rfl
 have D: ∀{k:Nat} {d':DT},s.h.s.2[k]? =some d'->(k:Int)≠f->(Go.Proofs.YtlcenllcmeebhaaGreat.gT s f).h.s.2[k]? =some d':=λ{k d'} h1 o=>by
  rw[P,AR (λc=>o (by rw[B,c]))];exact h1
 have H: ∀{k:Nat} {d':DT},s.h.s.2[k]? =some d'->d'.1=4->(k:Int)≠f:=λ{k d'} h1 o c=>by
  rw[B] at c;have:k=m:=by omega
  subst this;rw[G] at h1;cases h1;rw[N] at o;exact absurd o (by decide)
 have I: ∀{g:Int},g∈s.kn->g≠f->g∈(Go.Proofs.YtlcenllcmeebhaaGreat.gT s f).kn:=λ{g} h1 o=>B4.2 ⟨h1,by simp[o]⟩;have pg: ∀i q,jP (Go.Proofs.YtlcenllcmeebhaaGreat.gT s f).h i q=jP s.h i q:=λi q=>by rw[C];exact U.to id
 exact{M with
  hi:=by rw[C];exact T
  k5:=λg J=>by
   obtain⟨h1,o⟩:=B4.1 J;obtain⟨k,d',t,u,E⟩:=M.k5 g h1;exact⟨k,d',t,D u (by rw[<-t];simpa using o),E⟩
  nk:=M.nk.sublist DM
  wk:=λe X=>by
   obtain⟨h1,o⟩:=B4.1 X;obtain⟨t,u,E⟩:=M.wk e h1;exact⟨I t (by simpa using o),u,E⟩
  wn:=M.wn.sublist (DM.map _)
  fk:=λy K e g J=>by
   obtain⟨t,u⟩:=M.fk y K e g J;exact⟨I t λc=>u (by rw[c];exact O),λc=>u ((DM.map _).subset c)⟩
  kd:=λ{k d'} h1 o=>by
   rw[P] at h1;rcases jZ h1 with ⟨_,rfl⟩|⟨e,h1⟩
   ·exact absurd o (by decide)
   ·have ne:(k:Int)≠f:=λc=>e (by rw[B] at c;omega);obtain⟨t,u⟩:=M.kd h1 o;refine⟨I t ne,u.imp (λc=>?_) id⟩;obtain⟨e',g1,Q⟩:=B2.1 c;exact B2.2 ⟨e',B4.2 ⟨g1,by simp[Q,ne]⟩,Q⟩
  pn:=λ{j y} v=>M.pn v
  ln:=λ{j y} v l Y=>by
   obtain⟨Z,k,d',A,w,p⟩:=M.ln v l Y;have ne:(k:Int)≠f:=by
    rcases p with p|⟨x,q,a, _, _, _,r8⟩
    ·exact H w p.1
    ·rcases x with x|x
     ·exact H w x
     ·obtain⟨_,z,y,b, _,c1,c2,c3, _, _⟩:=r8 x;have:=(M.fk y (aC c1) c2 _ c3).2;exact λc=>this (by rw[A,c];exact O)
   refine⟨Z,k,d',A,D w ne,?_⟩;rw[pg];exact p
  ac:=λy K e=>by rw[W];exact M.ac y K e
  wl:=λ{j y} v e=>by
   obtain⟨l,A,w,p,x⟩:=M.wl v e;refine⟨l,A,w,p,x.imp id λ⟨c1,c2,c3⟩=>?_⟩;obtain⟨p1,p2⟩:=Jw M v (.inl e) F L c2;refine⟨?_,p2,c3⟩;obtain⟨k0,d',t,u,E⟩:=c1;exact⟨k0,d',D t (by rw[E4 k0];exact p1),u,by rw[V];exact E⟩
  rc:=λ{j y} v e=>by
   obtain⟨⟨k,d',A,w,p⟩,x⟩:=M.rc v e;refine⟨?_,x⟩;rcases p with p|⟨r5,r6,r7⟩
   ·exact⟨k,d',A,D w (H w p),.inl p⟩
   ·obtain⟨p1,p2⟩:=Jw M v (.inr e) F L r6;exact⟨k,d',A,D w (by rw[<-A];exact p1),.inr ⟨r5,p2,r7⟩⟩}
theorem MI.W9: ∀(L:List Int) {s:MS},MI gh ta n s->L.Nodup->(∀f∈L, ∃r,(f,r)∈s.ep.ws/\r+2<=s.ep.now)->MI gh ta n (L.foldl Go.Proofs.YtlcenllcmeebhaaGreat.gT s)
 |[], _,M, _, _=>M
 |f::L,s,M,a,b=>by
  obtain⟨r,h1,e⟩:=b f Bx;refine MI.W9 L (M.gT h1 e) (C8.1 a).2 λg d=>?_;obtain⟨r',h,i⟩:=b g (C6 _ d);refine⟨r',B4.2 ⟨h,?_⟩,i⟩;have:g≠f:=λc=>(C8.1 a).1 (by rw[<-c];exact d);simp[this]
theorem tJ (e:vB): ∀(L:List Int) (s:MS),L.foldl gS {s with ep:=e}={L.foldl gS s with ep:=e}
 |[], _=>rfl
 |f::L,s=>tJ e L (gS s f)
theorem EJ: ∀(L:List Int) (s:MS),L.foldl Go.Proofs.YtlcenllcmeebhaaGreat.gT s={L.foldl gS s with ep:={s.ep with ws:=s.ep.ws.filter λx=> !L.contains x.1}}
 |[],s=>by
  have:(s.ep.ws.filter λx=> !([]:List Int).contains x.1)=s.ep.ws:=Fw.2 λx _=>rfl;rw[this];rfl
 |f::L,s=>by
  show L.foldl Go.Proofs.YtlcenllcmeebhaaGreat.gT (Go.Proofs.YtlcenllcmeebhaaGreat.gT s f)= _;rw[EJ L,show(Go.Proofs.YtlcenllcmeebhaaGreat.gT s f)={gS s f with ep:={s.ep with ws:=s.ep.ws.filter λx=> !(x.1==f)}} from rfl,tJ];show({L.foldl gS (gS s f) with ep:={s.ep with ws:=(s.ep.ws.filter λx=> !(x.1==f)).filter λx=> !L.contains x.1}}:MS)= _;rw[List.filter_filter];have:(λ(x:Int×Int)=>(!L.contains x.1)&& !(x.1==f))=λx=> !(f::L).contains x.1:=by
   funext x;rw[List.contains_cons];cases L.contains x.1<;>cases x.1==f<;>rfl
  rw[this];rfl
theorem CM {e:vB} {f:Int}:f∈oR e<-> ∃r,(f,r)∈e.ws/\r+2<=e.now:=by
 unfold oR;rw[(jL _).mem_iff,B2];constructor
 ·rintro⟨⟨f',r⟩,h,rfl⟩;obtain⟨h1,a⟩:=B4.1 h;exact⟨r,h1,by simpa using a⟩
 ·rintro⟨r,h1,a⟩;exact⟨(f,r),B4.2 ⟨h1,by simpa using a⟩,rfl⟩
theorem EK (M:MI gh ta n s):(dE s).1=(oR (fm s.ep)).foldl Go.Proofs.YtlcenllcmeebhaaGreat.gT {s with ep:=fm s.ep}:=by
 rw[EJ];show(oR (fm s.ep)).foldl gS {s with ep:=Cf (fm s.ep)}= _;rw[tJ (Cf (fm s.ep)),tJ (fm s.ep)];have:(fm s.ep).ws.filter (λx=> !decide (x.2+2<=(fm s.ep).now))=(fm s.ep).ws.filter λx=> !(oR (fm s.ep)).contains x.1:=by
  refine List.filter_congr λx a=>?_;congr 1;rw[Bool.eq_iff_iff,List.contains_iff_mem,CM,decide_eq_true_eq];refine⟨λh=>⟨x.2,a,h⟩,λ⟨r,h1,b⟩=>?_⟩;have:x=(x.1,r):=BG M.XY.wn a h1 rfl;rw[this];exact b
 show({ (oR (fm s.ep)).foldl gS s with ep:={fm s.ep with ws:=(fm s.ep).ws.filter λx=> !decide (x.2+2<=(fm s.ep).now)}}:MS)= _;rw[this]
theorem MI.free (M:MI gh ta n s):MI gh ta n (dE s).1:=by
 rw[EK M];refine MI.W9 _ M.XY ?_ λf a=>CM.1 a;unfold oR;refine(jL _).nodup_iff.2 ?_;exact M.XY.wn.sublist (DM.map _)
end
namespace Inv
variable {g:Gh} {s:WD}
theorem m_ (I:Inv g s) (nl:Ad g s) {o r p t f:Int} {l:Nat} (v:g r=some (o,3,0)) (n:0<=p/\p<65536) (a:g f=some (o,l,px (l+1) p)):
 (∃m:Nat,l=m+1/\(bj s.1 p t (f,(l:Int),(0,0,0,0,()))).2.1=(m:Int)/\m<=3/\(bj s.1 p t (f,(l:Int),(0,0,0,0,()))).2.2=(0,0,0,0,())/\g (bj s.1 p t (f,(l:Int),(0,0,0,0,()))).1=some (o,m,px (m+1) p))\/
 ((bj s.1 p t (f,(l:Int),(0,0,0,0,()))).2.1= -1/\((bj s.1 p t (f,(l:Int),(0,0,0,0,()))).2.2.2.2.2.1=0->bC s r false p=((bj s.1 p t (f,(l:Int),(0,0,0,0,()))).2.2.1,(bj s.1 p t (f,(l:Int),(0,0,0,0,()))).2.2.2.1,0,()))):=by
 have w:=I.kd a;have x:=w.2.2.2.2.2;obtain⟨y,z,G⟩:=I.vx a;have hi:=ee p l;have h:=ky ⟨y,z⟩ n x;have A:uy s.1 (dW f p (l:Int))=true:=by rw[h];exact jd (by omega) (by omega)
 have C:ux (B (dL s.1 (dW f p (l:Int)))).toNat=true:=by
  rw[h];cases hb:(aN s.1 (16*f+px l p % 16)).1 with
  |true=>exact Cq hb
  |false=>rw[I.wf a hi.1 hi.2 hb];decide+kernel
 rw[te A C,h];have b:=I.sj a hi.1 hi.2;have i:=nl a hi.1 hi.2;have j:dJ (aN s.1 (16*f+px l p % 16))=false->bC s r false p=l_ p l (aN s.1 (16*f+px l p % 16)):=λc=>I.fO v n ⟨a,c⟩;revert b i j;generalize aN s.1 (16*f+px l p % 16)=e;intro b i j;unfold tookS;split
 ·exact .inr ⟨rfl,λc=>absurd c (show ¬ (4:Int)=0 by decide)⟩
 rename_i h1;have h1:e.1=true:=by simpa using h1
 split
 ·rename_i d;rw[Dn,decide_eq_true_eq] at d;obtain⟨m,q,u⟩:=b d.1;subst q;refine .inl ⟨m,rfl,?_,by omega,rfl,?_⟩
  ·show aZ .i64 ((m+1:Nat):Int) 1= _;rw[bD (by omega) (by omega)];omega
  ·rw[<-nT p (m+1)] at u;exact u
 rename_i d;split
 ·rename_i D;rw[Dn,beq_iff_eq] at D;have k:dJ e=false:=by
   cases c:dJ e with
   |false=>rfl
   |true=>exact absurd (by rw[show fM e.1 e.2.1 e.2.2.1 e.2.2.2.1=true from c,decide_eq_true (by omega:(l:Int)>0)];rfl) d
  have:=i h1 k;omega
 split
 ·rename_i E;rw[Dn,beq_iff_eq] at E;have F:l=0:=by omega
  subst F;have k:dJ e=false:=by
   cases c:dJ e with
   |false=>rfl
   |true=>
    obtain⟨m,q, _⟩:=b c;omega
  refine .inr ⟨rfl,λc=>?_⟩;rw[j k];unfold l_;rw[ax h1,ao (by decide)];revert c;dsimp only;unfold uI;split
  ·intro c;exact absurd c (show ¬ (11:Int)=0 by decide)
  split
  ·intro _;rfl
  ·intro c;exact absurd c (show ¬ (7:Int)=0 by decide)
 ·exact .inr ⟨rfl,λc=>absurd c (show ¬ (11:Int)=0 by decide)⟩
theorem qy (I:Inv g s) {p t f:Int} {l:Nat} (c:0<=p/\p<65536) (e:l<=3) (G:iM s f):(bj s.1 p t (f,(l:Int),(0,0,0,0,()))).2.1= -1/\(bj s.1 p t (f,(l:Int),(0,0,0,0,()))).2.2.2.2.2.1=4:=by
 obtain⟨h0,d,h1, _,h⟩:=G;have k:=I.len;have m:=I.le;have n:f.toNat<s.2.length:=(Ab.1 h1).1;have hi:=ee p l;have a:=ky (f:=f) ⟨h0,by omega⟩ c e;have b:=h (px l p % 16) hi.1 hi.2;have i:uy s.1 (dW f p (l:Int))=true:=by rw[a];exact jd (by omega) (by omega)
 have j:ux (B (dL s.1 (dW f p (l:Int)))).toNat=true:=by rw[a,b];decide+kernel
 rw[te i j,a,YA b];exact⟨rfl,rfl⟩
end Inv
section
variable {gh:Gh} {h:HS}
theorem HI.ZL (H:HI gh h) {n:Nat} {d:DT} (c:h.s.2[n]? =some d) (d4:d.1=4\/d.1=5) {o:Int} (f:0<=o/\o<16) (b:Int):HI gh (bF h (dO h.s.1 (16*(n:Int)+o) b,h.s.2))/\Ae h (bF h (dO h.s.1 (16*(n:Int)+o) b,h.s.2)) (λ_ _=>False):=by
 have d3:d.1≠3:=by omega
 have B:Inv.fq gh h.s (dO h.s.1 (16*(n:Int)+o) b,h.s.2):=by
  refine iP H.inv ⟨cF _ _ _,rfl⟩ (λq e=>⟨n,d,c,d3,?_⟩) λ{i d d'} h1 a=>?_
  ·refine B3 λhc=>e ?_;show dL (dO h.s.1 (16*(n:Int)+o) b) q= _;rw[mH (by omega)]
  ·rw[h1] at a;cases a;exact .inl rfl
 exact⟨H.side B H.hc,H.CK B (h':=bF h (dO h.s.1 (16*(n:Int)+o) b,h.s.2)) rfl rfl _⟩
end
set_option maxRecDepth 100000
open Go.RX D
section
variable {gh:Gh} {ta:Int->Bool} {n:Nat} {s s':MS} {i:Nat}
theorem xM (M:MI gh ta n s) {v:Int} (b:aW s.h.g v=true): ∃x:GV,s.h.g v.toNat=some x/\aY s.h.g v=x.root/\gh x.root=some (v,3,0)/\1<=v/\v<=16:=by
 obtain⟨x,a,c,d⟩:=bR b;refine⟨x,a,c,?_,by omega⟩;rw[M.hi.root a,E4 (by omega)]
theorem HO (M:MI gh ta n s) {l:LT} (h:DC ta s i l) (g:s'.h=s.h) (j: ∀{z:Nat} {y:bZ},s.cs[z]? =some y->y.ph=4->s'.cs[z]? =some y):Aq ta s' i l.2.2.1:=by
 obtain⟨_,m,d,h1,k,c⟩:=h;refine⟨m,d,h1,by grind,?_⟩;rcases c with c|⟨c,q,a,o,p,r,e⟩
 ·grind
 ·rcases c with c|c
  ·grind
  ·obtain⟨f,z,y,b, _,c1,c2,c3, _⟩:=e c;exact .inr ⟨c,.inl (by grind),f⟩
theorem Jx (M:MI gh ta n s) {x:bZ} (a:s.cs[i]? =some x) (h1:x.ph=1):Ap s.ep i={s.ep with pins:=s.ep.pins.set i s.ep.now}:=by
 have b:=M.pn a;unfold Ap
 grind
theorem EL {x:bZ} (a:s.cs[i]? =some x) (b:x.ph≠4) (x':bZ): ∀{z:Nat} {y:bZ},s.cs[z]? =some y->y.ph=4->(s.cs.set i x')[z]? =some y:=by grind
theorem MI.BS (M:MI gh ta n s) {x:bZ} (a:s.cs[i]? =some x) (h1:x.ph=1) (b:mg s.h x=true) {l:LT} (d:l∈x.ls):MI gh ta n {s with cs:=s.cs.set i {x with ph:=3,fr:=l.2.2.1},ep:=Ap s.ep i}:=by
 have f:x.c.1=6\/x.c.1=7:=by
  unfold mg at b;simp at b;have:=b.1;unfold bh at this
  grind
 rw[Jx M a h1];have e:x.ph≠4:=by omega
 have g:=M.nw;refine M.Dp a _ _ e (by grind) rfl (by grind) (M.ar x (aC a)) (M.tl x (aC a)) ?_ (λl d=>M.ln a l d) (by grind) (by grind) λ_=>⟨?_,f⟩
 grind
 ·exact HO M (M.ln a l d) rfl (EL a e _)
theorem MI.ZM (M:MI gh ta n s) {x:bZ} (a:s.cs[i]? =some x) (h1:x.ph=1) (b:mg s.h x=true):MI gh ta n {s with cs:=s.cs.set i {x with ph:=2,wk:=fX s.h.s.1 (aY s.h.g x.vm) (x.c.2.1 / 16) (bh x.c.1) 0},ep:=Ap s.ep i}:=by
 unfold mg at b;simp at b;obtain⟨d,e,b⟩:=b;have p:x.c.1=6\/x.c.1=7:=by
  unfold bh at d
  grind
 rw[Jx M a h1];have f:x.ph≠4:=by omega
 have q:=M.nw;have j:=M.ar x (aC a);obtain⟨g,r,k,m,hv⟩:=xM M e;refine M.Dp a _ s.ms f (by grind) rfl (by grind) j (M.tl x (aC a)) ?_ (λl o=>M.ln a l o) (by grind) (λ_=>?_) (by grind)
 grind
 ·refine⟨3,rfl,by decide,rfl,.inl ?_⟩;show gh _=some (x.vm,3,px 4 (x.c.2.1 / 16));rw[XK (by omega),k];exact m
theorem xN {a:Int} (h:0<=a/\a<1048576):0<=a / 16/\a / 16<65536:=by omega
theorem EM {ls:List LT} {sz:Int} {l y:LT} (h:y∈qT ls sz l):y∈ls\/y=l:=by
 rcases FS.1 h with h|h
 ·left;split at h
  ·exact(B4.1 h).1
  grind
 grind
theorem Sq {ls:List LT} {sz:Int} {l:LT} (h:(ls.length:Int)<=sz) (h1:1<=sz):((qT ls sz l).length:Int)<=sz:=by
 unfold qT;rw[Gi];show(_+1: )<=sz;split
 ·have:(Cr ls l.1 l.2.1).length<ls.length:=by
   unfold Cr
   simp_all
  omega
 grind
theorem MI.walk (M:MI gh ta n s) {x:bZ} (a:s.cs[i]? =some x) (p:x.ph=2):MI gh ta n (ig (kz s i x) i x).1:=by
 have j:=aC a;have u:=M.ar x j;obtain⟨C,D,E⟩:=M.ac x j p;obtain⟨l,w1,F,N,b⟩:=M.wl a p;have k:=xN ⟨u.1.1,D⟩;have q:x.ph≠4:=by omega
 have V:i<s.cs.length:=(Ab.1 a).1;have G:=M.pn a;rw[p,ax (by decide)] at G;have o:x.wk=(x.wk.1,(l:Int),(0,0,0,0,())):=Prod.ext rfl (Prod.ext w1 N);obtain⟨O,P,W,H,Q,R⟩:=xM M C;have idle: ∀w,MI gh ta n (ig (cD {s with ep:=uV s.ep i} i {x with wk:=w},((0:Int),(w.2.2.2.2.2.1:Int)),true) i x).1:=λw=>by
  unfold ig;rw[ax rfl];have e:((cD {s with ep:=uV s.ep i} i {x with wk:=w}).cs.getD i x).ls=x.ls:=by
   show((s.cs.set i _).getD i x).ls= _
   grind
  rw[e];have S:cD (cD {s with ep:=uV s.ep i} i {x with wk:=w}) i (cJ x.ls)={s with cs:=s.cs.set i (cJ x.ls),ep:=uV s.ep i,ms:=s.ms}:=by
   unfold cD;dsimp only;rw[List.set_set]
  rw[S];exact M.idle a q (λl v=>M.ln a l v) (M.tl x j) s.ms
 unfold kz;dsimp only;split
 ·rename_i hc;show MI gh ta n (cD s i _);rcases b with b|b
  ·rcases M.hi.inv.m_ M.hi.nl (t:=bh x.c.1) H k b with ⟨m, _,f,g,I,k4⟩|⟨f, _⟩
   ·rw[o];refine M.Dp (x':={x with wk:=bj s.h.s.1 (x.c.2.1 / 16) (bh x.c.1) (x.wk.1,(l:Int),(0,0,0,0,()))}) a (s.ep.pins.getD i 0) s.ms q q ?_ (M.ph x j) u (M.tl x j) ?_ (λl v=>M.ln a l v) (λ_=>⟨C,D,E⟩) (λ_=>⟨m,f,g,I,.inl k4⟩) (by grind)
    ·rw[tH M a];rfl
    ·rw[ax (.inl p)];exact G
   ·rw[o] at hc;exact absurd f hc
  ·obtain⟨f, _⟩:=M.hi.inv.qy (t:=bh x.c.1) k F b.1;rw[o] at hc;exact absurd f hc
 split
 ·exact idle _
 rename_i z r;have z:=B3 z;have r:(bj s.h.s.1 (x.c.2.1 / 16) (bh x.c.1) x.wk).2.2.2.2.2.1=0:=B3 r;show MI gh ta n (cD s i _);have A:bC s.h.s O.root false (x.c.2.1 / 16)=((bj s.h.s.1 (x.c.2.1 / 16) (bh x.c.1) x.wk).2.2.1,(bj s.h.s.1 (x.c.2.1 / 16) (bh x.c.1) x.wk).2.2.2.1,0,()):=by
  rcases b with b|b
  ·rcases M.hi.inv.m_ M.hi.nl (t:=bh x.c.1) H k b with ⟨m, _,f,g,I,k4⟩|⟨f,g⟩
   ·rw[<-o] at f;rw[z] at f;omega
   ·rw[<-o] at g;exact g r
  ·obtain⟨_,g⟩:=M.hi.inv.qy (t:=bh x.c.1) k F b.1;rw[<-o,r] at g;exact absurd g (by decide)
 revert A;generalize bj s.h.s.1 (x.c.2.1 / 16) (bh x.c.1) x.wk=w;intro A;have J:jP s.h x.vm.toNat (x.c.2.1 / 16)=(w.2.2.1,w.2.2.2.1,0,()):=by rw[bS P];exact A
 have T:ni s.h x.vm.toNat (x.c.2.1 / 16)=some w.2.2.1:=by rw[rR,J];rfl
 obtain⟨m,d,K,L,d4, _⟩:=M.hi.TF T;have U:DC ta s i (x.vm,x.c.2.1 / 16,w.2.2.1,w.2.2.2.1,()):=⟨⟨Q,R,k.1,k.2⟩,m,d,K,L,.inl ⟨d4,J⟩⟩;refine M.Dp (x':={x with wk:=w,ls:=qT x.ls s.sz (x.vm,x.c.2.1 / 16,w.2.2.1,w.2.2.2.1,()),ph:=3,fr:=w.2.2.1}) a (s.ep.pins.getD i 0) s.ms q (show ¬ (3:Int)=4 by decide) ?_ (show 0<=(3:Int)/\(3:Int)<=4 by decide) u (Sq (M.tl x j) M.sz.1) ?_ ?_ (λe=>absurd e (show ¬ (3:Int)=2 by decide)) (by grind) (λ_=>⟨⟨m,d,K,L,.inl d4⟩,E⟩)
 ·rw[tH M a];rfl
 grind
 ·intro y B;rcases EM B with B|rfl
  ·exact M.ln a y B
  ·exact U
theorem MI.word (M:MI gh ta n s) {f:Int} (R:Aq ta s i f) {o:Int} (r:0<=o/\o<16) (b:Int):MI gh ta n {s with h:=bF s.h (dO s.h.s.1 (16*f+o) b,s.h.s.2)}:=by
 obtain⟨m,d,t,u,F⟩:=R;subst t;obtain⟨H,P⟩:=M.hi.ZL u (by omega) r b;exact{M with
  hi:=H
  ln:=λ{j y} a l v=>by
   obtain⟨w,x,d',g,p,q⟩:=M.ln a l v;refine⟨w,x,d',g,p,?_⟩;rw[P.to id];exact q
  wl:=λ{j y} a e=>by
   obtain⟨l,g,p,q,z⟩:=M.wl a e;refine⟨l,g,p,q,z.imp id λ⟨c1,c2,c3⟩=>⟨?_,c2,c3⟩⟩;obtain⟨k0,d',A,B,C⟩:=c1;refine⟨k0,d',A,B,λk D E=>?_⟩;have ne:y.wk.1≠m:=λc=>by
    grind
   show dL (dO _ _ b) _=0;rw[mH (by omega)];exact C k D E}
theorem jg {s1:MS} {r:Int×Int} {x:bZ} (h:s1.cs[i]? =some x):(ig (s1,r,true) i x).1={s1 with cs:=s1.cs.set i (cJ x.ls)}:=by
 unfold ig;rw[B1,h];rfl
theorem MI.reach (M:MI gh ta n s) {x:bZ} (a:s.cs[i]? =some x) (f:x.ph=3):MI gh ta n (ig (fP s i x) i x).1:=by
 have d:=aC a;have e:x.ph≠4:=by omega
 unfold fP;split
 ·have M1:=M.word (M.rc a f).1 (o:=x.c.2.1 % 16) (by omega) x.c.2.2.1;rw[jg (by grind)];exact M1.idle a e (λl b=>M1.ln a l b) (M1.tl x d) _
 ·rw[jg (by grind)];exact M.idle a e (λl b=>M.ln a l b) (M.tl x d) _
end
structure NN (s s':WD):Prop where
 to: ∀{m:Nat} {d':DT},s'.2[m]? =some d'->d'.1=5-> ∃d,s.2[m]? =some d/\d.1=5
theorem NN.refl {s s':WD} (h:s'.2=s.2):NN s s':=⟨λ{m d'} h1 a=>⟨d',by rw[<-h];exact h1,a⟩⟩
theorem NN.trans {s t u:WD} (a:NN s t) (b:NN t u):NN s u:=⟨λh1 c=>by
 obtain⟨d,e,f⟩:=b.to h1 c;exact a.to e f⟩
theorem NN.ch {s:WD} {W:List Int} {f:Int} {g:DT->DT×Int} (b: ∀d,(g d).2=0->(g d).1.1=5->d.1=5):NN s (W,dI s.2 f g):=⟨λ{m d'} h1 a=>by
 have h1:(dI s.2 f g)[m]? =some d':=h1;by_cases c:f<0\/f>=s.2.length
 ·rw[s8 c] at h1;exact⟨d',h1,a⟩
 ·rw[nJ (by omega)] at h1;split at h1
  ·rename_i e;rcases jZ h1 with ⟨rfl,rfl⟩|⟨_,h1⟩
   ·have h:f.toNat<s.2.length:=by omega
    refine⟨s.2.getD f.toNat zD,?_,b _ e a⟩;rw[B1,B_ h];rfl
   ·exact⟨d',h1,a⟩
  ·exact⟨d',h1,a⟩⟩
theorem Jy {k o:Int} (b:k≠5) (d:DT) (h0:(aP k o d).2=0) (a:(aP k o d).1.1=5):d.1=5:=by
 unfold aP at h0 a;dsimp only at h0 a;unfold mF at a;rw[ax h0] at a;exact absurd a b
theorem ZN {x:Int} (d:DT) (h0:(ia x d).2=0) (a:(ia x d).1.1=5):d.1=5:=by
 unfold ia at h0 a;dsimp only at h0 a;unfold qC at a;rw[ax h0] at a;exact a
theorem NN.take {s:WD} {W:List Int} {k o:Int} (a:k≠5):NN s (W,di s.2 k o):=by
 unfold di;split
 ·exact .refl rfl
 ·exact .ch λd=>Jy a d
theorem NN.tk (s:WD) (o:Int) (g:Int->Int):NN s (iW s o g):=NN.take (by decide)
theorem NN.lay (s:WD) (i:Int) (e:ET):NN s (dN s i e):= .refl rfl
theorem NN.down (o pg:Int): ∀(n:Nat) (x:WD×PT),NN x.1 (qS o pg n x).1
 |0,x=> .refl rfl
 |n+1,x=>NN.trans (NN.trans (NN.tk x.1 o λ_=>0) (NN.lay _ x.2.2.2.1 (cv (eK x.1 o)))) (NN.down o pg n (dN (iW x.1 o λ_=>0) x.2.2.2.1 (cv (eK x.1 o)),(eK x.1 o,x.2.2.1 - 1,dW (eK x.1 o) pg (x.2.2.1 - 1),())))
theorem NN.map (s:WD) (o r:Int) (g:Bool) (pg f rt:Int):NN s (jy s o r g pg f rt):=by
 unfold jy;split
 ·exact .refl rfl
 split
 ·unfold rG;split
  ·exact NN.trans (NN.down o pg _ (s,dA s.1 r pg)) (NN.lay _ _ _)
  ·exact .refl rfl
 ·exact .refl rfl
theorem NN.don (h:HS) (v a b:Int):NN h.s (jS h v a b).s:=by
 have h1:NN h.s (kf h v):=NN.take (by decide);have c:NN h.s (qG h v a b):=h1.trans (NN.map ..);unfold jS;split
 ·exact .refl rfl
 split
 ·exact .refl rfl
 split
 ·exact h1
 split
 ·exact c.trans (NN.ch λd=>Jy (by decide) d)
 ·exact c.trans (.refl rfl)
theorem NN.DE (h:HS):NN h.s (gR h).s:=by
 unfold gR;split
 ·exact .refl rfl
 split
 ·exact NN.tk ..
 ·exact .refl rfl
theorem NN.tak (h:HS) (v a b c:Int):NN h.s (im h v a b c).s:=NN.trans (NN.map ..) (NN.ch λd=>ZN d)
structure CE (gh dt:Gh) (h h':HS) (P:Nat->Int->Prop) (U:Int->Prop):Prop where
 hi:HI dt h'
 kd:KD h.s h'.s
 pg:Ae h h' P
 gk: ∀{f:Int} {w:Int×Nat×Int},gh f=some w-> ¬ U w.1->dt f=some w\/iM h'.s f
 gn: ∀{f:Int},iM h.s f->iM h'.s f
 lv: ∀{v:Int},¬ U v->aW h.g v=true->aW h'.g v=true
section
variable {gh dt:Gh} {ta:Int->Bool} {n:Nat} {s s':MS} {i:Nat} {h':HS} {P:Nat->Int->Prop} {U:Int->Prop}
theorem MI.quiet (M:MI gh ta n s) (C:CE gh dt s.h h' P λ_=>False) (N:NN s.h.s h'.s) (E: ∀{j:Nat} {q:Int},P j q->0<=q->q<65536->(jP s.h j q).2.2.1≠0):MI dt ta n {s with h:=h'}:=by
 have B: ∀{m:Nat} {d:DT},s.h.s.2[m]? =some d->d.1=4-> ∃d',h'.s.2[m]? =some d'/\d'.1=4:=λ{m d} h1 F=>by
  obtain⟨d',g,b⟩:=C.kd.k4 h1 F;rcases b with b|b
  ·exact⟨d',g,b⟩
  ·obtain⟨d2,v,x⟩:=N.to g b;rw[h1] at v;cases v;omega
 exact{M with
  hi:=C.hi
  k5:=λf G=>by
   obtain⟨m,d,h1,D,H⟩:=M.k5 f G;obtain⟨d',g,b⟩:=C.kd.k5 D H;exact⟨m,d',h1,g,b⟩
  kd:=λ{m d} h1 D=>by
   obtain⟨d0,g,b⟩:=N.to h1 D;exact M.kd g b
  pn:=λ{j y} r=>M.pn r
  ln:=λ{j y} r l I=>by
   obtain⟨w,m,d,o,p,t⟩:=M.ln r l I;rcases t with ⟨i,u⟩|⟨i,q,a,u,z,A,J⟩
   ·obtain⟨d',g,b⟩:=B p i;refine⟨w,m,d',o,g,.inl ⟨b,?_⟩⟩;show jP h' _ _= _;rw[C.pg.to (λc=>E c w.2.2.1 w.2.2.2 (by rw[u]))];exact u
   ·rcases i with i|i
    ·obtain⟨d',g,b⟩:=B p i;exact⟨w,m,d',o,g,.inr ⟨.inl b,q,a,u,z,A,λc=>by omega⟩⟩
    ·obtain⟨d',g,b⟩:=C.kd.k5 p i;exact⟨w,m,d',o,g,.inr ⟨.inr b,q,a,u,z,A,λ_=>J i⟩⟩
  ac:=λy K e=>by
   obtain⟨v,x⟩:=M.ac y K e;exact⟨C.lv id v,x⟩
  wl:=λ{j y} r e=>by
   obtain⟨l,o,p,t,i⟩:=M.wl r e;refine⟨l,o,p,t,?_⟩;rcases i with i|⟨c1,c2,c3⟩
   ·rcases C.gk i id with k|k
    ·exact .inl k
    ·obtain⟨k0,d,v,x, _⟩:=k;obtain⟨d0,g,b⟩:=N.to v x;rw[(M.hi.inv.kd i).2.2.1] at g;cases g;exact absurd b (show ¬ (3:Int)=5 by decide)
   ·exact .inr ⟨C.gn c1,c2,c3⟩
  rc:=λ{j y} r e=>by
   obtain⟨⟨m,d,o,p,t⟩,i⟩:=M.rc r e;refine⟨?_,i⟩;rcases t with t|⟨u,z,A⟩
   ·obtain⟨d',g,b⟩:=B p t;exact⟨m,d',o,g,.inl b⟩
   ·obtain⟨d',g,b⟩:=C.kd.k5 p u;exact⟨m,d',o,g,.inr ⟨b,z,A⟩⟩}
theorem HI.same {h:HS} (H:HI gh h) (c:HI dt h') (a:h'.s=h.s) (b:h'.g=h.g):HI gh h' where
 inv:=by rw[a];exact H.inv
 rt:=H.rt
 nl:=by rw[a];exact H.nl
 sz:=by rw[a];exact H.sz
 jj:=by rw[b];exact H.jj
 root:=by rw[b];exact H.root
 own:=by rw[b];exact H.own
 hc:=c.hc
theorem CE.same {h:HS} (H:HI gh h) (c:HI dt h') (a:h'.s=h.s) (b:h'.g=h.g):CE gh gh h h' (λ_ _=>False) (λ_=>False):=
 ⟨H.same c a b,.refl (by rw[a]),Ae.of a b _,λh _=> .inl h,λh=>by rw[a];exact h,λ_ h=>by rw[b];exact h⟩
end
theorem tK: ∀(l m:List Int),l.Nodup->(∀x∈l,x∈m)->l.length<=m.length
 |[], _, _, _=>FW _
 |a::l,m,b,c=>by
  have d:a∈m:=c a Bx;have g:=tK l (m.erase a) (C8.1 b).2 λx f=>by
   have:x≠a:=λe=>(C8.1 b).1 (by rw[<-e];exact f);exact(List.mem_erase_of_ne this).2 (c x (C6 _ f))
  rw[List.length_erase_of_mem d] at g;have:0<m.length:=List.length_pos_of_mem d;rw[Dd];omega
theorem Pv {α:Type} (i:Nat): ∀(l:List α) (k:Nat),(l.zipIdx k).countP (λx=>decide (x.2≠i))+(if k<=i/\i<k+l.length then 1 else 0)=l.length
 |[],k=>by
  rw[ao (by simp)];rfl
 |a::l,k=>by
  have b:=Pv i l (k+1);rw[H4,Ca,Dd];by_cases e:k=i
  ·subst e;rw[ao (by omega)] at b;rw[ao (by simp),ax (by omega)];omega
  ·rw[ax (by simpa using e)];by_cases c:k+1<=i/\i<k+1+l.length
   ·rw[ax c] at b;rw[ax (by omega)];omega
   ·rw[ao c] at b;rw[ao (by omega)];omega
section
variable {gh dt:Gh} {ta:Int->Bool} {n:Nat} {s s':MS} {i:Nat} {h':HS} {P:Nat->Int->Prop} {U:Int->Prop}
theorem iw {f:Int}:f∈eR s h'<-> ∃(m:Nat) (d:DT),f=(m:Int)/\h'.s.2[m]? =some d/\d.1=5/\f∉s.kn:=by
 unfold eR;rw[B4,B2];constructor
 ·rintro⟨⟨m,c,rfl⟩,b⟩;rw[Dc] at c;have a:h'.s.2[m]? =some h'.s.2[m]:=B_ c;rw[Dn,pE a] at b;refine⟨m, _,rfl,a,by simpa using b.1,by simpa using b.2⟩
 ·rintro⟨m,d,rfl,a,e,g⟩;refine⟨⟨m,Dc.2 (Ab.1 a).1,rfl⟩,?_⟩;rw[pE a,e];simpa using g
theorem zO:(eR s h').Nodup:=by
 unfold eR;refine List.Pairwise.sublist DM ?_;rw[H5];exact Fy.imp λh e=>h (by omega)
theorem MI.box (M:MI gh ta n s) {j:Nat} {q:List AK} (c:s.bx[j]? =some q):q.length<=8:=by
 obtain⟨h1,d⟩:=M.aq c;have f:(q.map (·.1)).Nodup:=by
  unfold List.Nodup;rw[H5];exact h1.imp λh e=>by omega
 have:=tK _ (s.cs.map (·.ak)) f λa g=>by
  obtain⟨b,hb,rfl⟩:=B2.1 g;obtain⟨z,y, _,i, _,k4⟩:=d b hb;exact B2.2 ⟨y,aC i,by rw[k4]⟩
 rw[DU,DU,M.lc] at this;have:=M.nn;omega
theorem MI.fQ (M:MI gh ta n s) {j:Nat} {q:List AK} (b:s.bx[j]? =some q) {a:AK} (c:a∈q):a.1<=(s.op.length:Int):=by
 obtain⟨z,y, _,d,e,k4⟩:=(M.aq b).2 a c;have:=(M.wt y (aC d) e).2.1;rw[k4];exact this
theorem CN (M:MI gh ta n s) (i:Nat) {t p:Int} (e:1<=t/\t<=16) (f: -1<=p/\p<65536):
 dF s.bx s.op i t p=((s.op.length:Int)+1,(s.bx.zipIdx.map λ(q,j)=>if j=i then q else q++[((s.op.length:Int)+1,t,p,())]),s.op++[(s.bx.length:Int) - 1]):=by
 unfold dF;rw[ao (by omega),ao ?_];intro c;obtain⟨q,b,a⟩:=G1.1 c;obtain⟨j,d⟩:=Bs (List.mem_of_mem_eraseIdx b);have:=M.box d;have a:q.length=16:=by simpa using a
 omega
theorem Sr {bx:List (List AK)} {i j:Nat} {x:AK} {a:List AK} (h:(bx.zipIdx.map λ(q,j)=>if j=i then q else q++[x])[j]? =some a): ∃q,bx[j]? =some q/\a=if j=i then q else q++[x]:=by
 rw[F5,H6] at h;cases hb:bx[j]? with
 |none=>rw[hb] at h;cases h
 |some q=>
  rw[hb] at h;refine⟨q,rfl,?_⟩;have:=Option.some.inj h;rw[<-this];show(if 0+j=i then _ else _)= _;rw[Nat.zero_add]
theorem post_at {bx:List (List AK)} {i j:Nat} {x:AK} {q:List AK} (h:bx[j]? =some q):(bx.zipIdx.map λ(q,j)=>if j=i then q else q++[x])[j]? =some (if j=i then q else q++[x]):=by
 rw[F5,H6,h];show some (if 0+j=i then _ else _)= _;rw[Nat.zero_add]
theorem EN (q:List AK) (x:AK) (k:Int):jB (q++[x]) k=(jB q k||x.1==k):=by
 unfold jB;rw[List.any_append];simp
theorem Jz {α:Type}: ∀(l:List α) (k:Nat),(l.zipIdx k).map Prod.fst=l
 |[], _=>rfl
 |a::l,k=>by rw[H4,DJ,Jz l (k+1)]
theorem Ss {bx:List (List AK)} {i:Nat} {x:AK} {k:Int} (a:x.1≠k):(bx.zipIdx.map λ(q,j)=>if j=i then q else q++[x]).countP (λq=>jB q k)=bx.countP λq=>jB q k:=by
 rw[FV];have:((λq=>jB q k)∘λ(z:List AK×Nat)=>(match z with|(q,j)=>if j=i then q else q++[x]))=(λq=>jB q k)∘Prod.fst:=by
  funext ⟨q,j⟩;show jB (if j=i then q else q++[x]) k=jB q k;split
  ·rfl
  ·rw[EN,beq_eq_false_iff_ne.2 a,Bool.or_false]
 rw[this, <-FV,Jz]
theorem Su {bx:List (List AK)} {i:Nat} {x:AK} (hi:i<bx.length) (a: ∀q∈bx,jB q x.1=false):(bx.zipIdx.map λ(q,j)=>if j=i then q else q++[x]).countP (λq=>jB q x.1)=bx.length - 1:=by
 rw[FV];have:(bx.zipIdx).countP ((λq=>jB q x.1)∘λ(z:List AK×Nat)=>(match z with|(q,j)=>if j=i then q else q++[x]))=bx.zipIdx.countP λz=>decide (z.2≠i):=by
  refine List.countP_congr λ⟨q,j⟩ b=>?_;have c:q∈bx:=(List.mem_zipIdx_iff_getElem?.1 b |> B5);show jB (if j=i then q else q++[x]) x.1=true<->decide (j≠i)=true;split
  ·rename_i e;rw[a q c,e];simp
  ·rename_i e;rw[EN];simp[e]
 rw[this];have:=Pv i bx 0;rw[ax (by omega)] at this;omega
end
section
variable {gh dt:Gh} {ta:Int->Bool} {n:Nat} {s:MS} {i:Nat} {h':HS} {P:Nat->Int->Prop} {U:Int->Prop}
def XZ (gh:Gh) (ta:Int->Bool) (fs:List Int) (f:Int):Bool:=if fs.contains f=true then(gh f).isSome else ta f
def AT (s:MS) (h':HS) (i:Nat) (x:bZ) (t p:Int) (rs:Int×Int) (ms:List MT):MS:=
 {s with h:=h',kn:=s.kn++eR s h',ms:=ms,bx:=(dF s.bx s.op i t p).2.1,op:=(dF s.bx s.op i t p).2.2,cs:=s.cs.set i {x with rs:=rs,fs:=eR s h',ls:=jq x.ls t p,ak:=(dF s.bx s.op i t p).1,ph:=4}}
theorem MI.W_ (M:MI gh ta n s) {x:bZ} (hx:s.cs[i]? =some x) (h1:x.ph=1) (hbx:s.bx[i]? =some []) (C:CE gh dt s.h h' P U) {t p:Int} (ht:1<=t/\t<=16) (hp: -1<=p/\p<65536) (qK:Ar x=t) (Tl:As x=p)
 (hP: ∀{j:Nat} {q:Int},P j q->0<=q->q<65536->(j:Int)=t/\(p= -1\/p=q)) (hU: ∀{j:Nat} {y:bZ},s.cs[j]? =some y->y.ph=2-> ¬ U y.vm) (rs:Int×Int) (ms:List MT):
 MI dt (XZ gh ta (eR s h')) n (AT s h' i x t p rs ms):=by
 have nc:i<s.cs.length:=(Ab.1 hx).1;have h4:x.ph≠4:=by omega
 generalize Y:AT s h' i x t p rs ms=s';have J:s'.h=h':=by rw[<-Y];rfl
 have R:s'.ep=s.ep:=by rw[<-Y];rfl
 have hk:s'.kn=s.kn++eR s h':=by rw[<-Y];rfl
 have iz:s'.sz=s.sz:=by rw[<-Y];rfl
 have hb:s'.bx=s.bx.zipIdx.map λ(q,j)=>if j=i then q else q++[((s.op.length:Int)+1,t,p,())]:=by rw[<-Y];unfold AT;dsimp only;rw[CN M i ht hp]
 have ho:s'.op=s.op++[(s.bx.length:Int) - 1]:=by rw[<-Y];unfold AT;dsimp only;rw[CN M i ht hp]
 have fg:s'.cs=s.cs.set i {x with rs:=rs,fs:=eR s h',ls:=jq x.ls t p,ak:=(s.op.length:Int)+1,ph:=4}:=by rw[<-Y];unfold AT;dsimp only;rw[CN M i ht hp]
 have XR:s'.op.length=s.op.length+1:=by rw[ho,Gi];rfl
 have XS:s'.bx.length=s.bx.length:=by rw[hb,DU,List.length_zipIdx]
 generalize Z:({x with rs:=rs,fs:=eR s h',ls:=jq x.ls t p,ak:=(s.op.length:Int)+1,ph:=4}:bZ)=x' at fg;have O:x'.ph=4:=by rw[<-Z]
 have X:x'.fs=eR s h':=by rw[<-Z]
 have xa:x'.ak=(s.op.length:Int)+1:=by rw[<-Z]
 have xl:x'.ls=jq x.ls t p:=by rw[<-Z]
 have xc:x'.c=x.c:=by rw[<-Z]
 have xT:Ar x'=t:=by rw[<-qK, <-Z];rfl
 have xP:As x'=p:=by rw[<-Tl, <-Z];rfl
 have vO:s'.cs[i]? =some x':=by rw[fg,Ax nc]
 have hw: ∀{z:Nat} {y:bZ},s.cs[z]? =some y->y.ph=4->s'.cs[z]? =some y:=λ{z y} h1 h2=>by rw[fg];exact EL hx h4 _ h1 h2
 have Q: ∀{z:Nat} {y:bZ},s'.cs[z]? =some y->(z=i/\y=x')\/(z≠i/\s.cs[z]? =some y):=λh=>by rw[fg] at h;exact jZ h
 have hm: ∀{y:bZ},y∈s'.cs->y=x'\/y∈s.cs:=λh=>by rw[fg] at h;exact iv h
 have hbg: ∀{j:Nat} {q:List AK},s.bx[j]? =some q->j≠i->s'.bx[j]? =some (q++[((s.op.length:Int)+1,t,p,())]):=λ{j q} h e=>by rw[hb,post_at h,ao e]
 have acq: ∀{m:Nat} {d:DT},s.h.s.2[m]? =some d->(m:Int)∈s.kn->d.1=5:=λ{m d} h1 h2=>by
  obtain⟨m',d',A,u,S⟩:=M.k5 _ h2;have:m=m':=by omega
  subst this;rw[h1] at u;cases u;exact S
 have TV: ∀{m:Nat} {d d':DT},s.h.s.2[m]? =some d->d.1≠5->h'.s.2[m]? =some d'->d'.1=5->(m:Int)∈eR s h':=λh1 h2 h3 h5=>iw.2 ⟨_, _,rfl,h3,h5,λc=>h2 (acq h1 c)⟩;have Oy: ∀{m:Nat} {d:DT},s.h.s.2[m]? =some d->d.1=4->(m:Int)∈eR s h'->XZ gh ta (eR s h') (m:Int)=false:=λ{m d} h1 h4 G=>by
  unfold XZ;rw[ax (by simpa using G)];cases hgm:gh (m:Int) with
  |none=>rfl
  |some w=>
   obtain⟨o,l,y⟩:=w;have:=(M.hi.inv.kd hgm).2.2.1;rw[show((m:Int)).toNat=m from rfl,h1] at this;cases this;exact absurd h4 (show ¬ (3:Int)=4 by decide)
 have aby: ∀{f:Int},f∈s.kn->XZ gh ta (eR s h') f=ta f:=λ{f} B=>by
  unfold XZ;rw[ao];intro c;have c:f∈eR s h':=by simpa using c
  obtain⟨_, _, _, _, _,k⟩:=iw.1 c;exact k B
 have YH: ∀{m:Nat} {d:DT},s.h.s.2[m]? =some d->d.1=5->XZ gh ta (eR s h') (m:Int)=ta (m:Int):=λh1 h2=>aby (M.kd h1 h2).1;have JA: ∀{j:Nat} {f:Int},rI s j f->rI s' j f:=λh=>h.du hw (by rw[R]) (by rw[R]);have JB: ∀{j:Nat} {f:Int},f∈eR s h'->rI s' j f:=λh=> .inl ⟨i,x',vO,O,by rw[X];exact h⟩;have Pw: ∀{l:LT},(1<=l.1/\l.1<=16/\0<=l.2.1/\l.2.1<65536)->jP s.h l.1.toNat l.2.1=(l.2.2.1,l.2.2.2.1,0,())-> ¬ (t=l.1/\(p= -1\/p=l.2.1))-> ∃(m:Nat) (d:DT),l.2.2.1=(m:Int)/\h'.s.2[m]? =some d/\d.1=4/\jP h' l.1.toNat l.2.1=(l.2.2.1,l.2.2.2.1,0,()):=λ{l} L E D=>by
  have z5:jP h' l.1.toNat l.2.1=(l.2.2.1,l.2.2.2.1,0,()):=by
   rw[C.pg.to λc=>D ?_]
   ·exact E
   ·obtain⟨c1,c2⟩:=hP c L.2.2.1 L.2.2.2;exact⟨by omega,c2⟩
  have gV:ni h' l.1.toNat l.2.1=some l.2.2.1:=by rw[rR,z5];rfl
  obtain⟨m,d,A,u,S, _⟩:=C.hi.TF gV;exact⟨m,d,A,u,S,z5⟩
 refine⟨by rw[J];exact C.hi,M.nn,by rw[fg,Az];exact M.lc,by rw[XS];exact M.lb,by rw[R];exact M.lp,by rw[iz];exact M.sz,λy v=>?_,λy v=>?_,λy v=>?_,
  λf B=>?_,?_,λe B=>?_,by rw[R];exact M.wn,λy v e=>?_,λy v e=>?_,λ{a b y z} g H sy A u=>?_,λ{m d} g H=>?_,by rw[R];exact M.nw,λ{j y} g=>?_,λ{j y} g l hl=>?_,λy v e=>?_,λ{j y} g e=>?_,λ{j y} g e=>?_,λy v e=>?_,λ{a b y z} g H sy A u=>?_,λ{j r} g=>?_,λid JR=>?_⟩
 ·rcases hm v with rfl|v
  ·rw[O];decide
  ·exact M.ph y v
 ·rcases hm v with rfl|v
  ·rw[xc];exact M.ar x (aC hx)
  ·exact M.ar y v
 ·rw[iz];rcases hm v with rfl|v
  ·rw[xl];have:=EI x.ls t p;have:=M.tl x (aC hx);omega
  ·exact M.tl y v
 ·
  rw[J];rw[hk] at B;rcases FS.1 B with B|B
  ·obtain⟨m,d,A,u,S⟩:=M.k5 f B;obtain⟨d',g1,T⟩:=C.kd.k5 u S;exact⟨m,d',A,g1,T⟩
  ·obtain⟨m,d,A,u,S, _⟩:=iw.1 B;exact⟨m,d,A,u,S⟩
 ·rw[hk];refine List.nodup_append.2 ⟨M.nk,zO,λa K b hb c=>?_⟩;subst c;obtain⟨_, _, _, _, _,k⟩:=iw.1 hb;exact k K
 ·rw[R] at B ⊢;obtain⟨a,b,c⟩:=M.wk e B;rw[hk];exact⟨DY _ a,b,c⟩
 ·rw[hk,R];rcases hm v with rfl|v
  ·intro f B;rw[X] at B;refine⟨Df _ B,λc=>?_⟩;obtain⟨_, _, _, _, _,k⟩:=iw.1 B;obtain⟨e',I,F⟩:=B2.1 c;exact k (by rw[<-F];exact(M.wk e' I).1)
  ·intro f B;obtain⟨a,b⟩:=M.fk y v e f B;exact⟨DY _ a,b⟩
 ·rcases hm v with rfl|v
  ·rw[X];exact zO
  ·exact M.fn y v e
 ·rcases Q g with ⟨_,rfl⟩|⟨_,g⟩
  ·rcases Q H with ⟨q, _⟩|⟨_,H⟩
   ·omega
   ·intro f B c;rw[X] at B;obtain⟨_, _, _, _, _,k⟩:=iw.1 B;exact k (M.fk z (aC H) u f c).1
  ·rcases Q H with ⟨_,rfl⟩|⟨_,H⟩
   ·intro f B c;rw[X] at c;obtain⟨_, _, _, _, _,k⟩:=iw.1 c;exact k (M.fk y (aC g) A f B).1
   ·exact M.fd g H sy A u
 ·rw[J] at g;rw[hk,R];by_cases c:(m:Int)∈eR s h'
  ·exact⟨Df _ c,.inr ⟨x',aC vO,O,by rw[X];exact c⟩⟩
  ·have hkm:(m:Int)∈s.kn:=B3 λG=>c (iw.2 ⟨m,d,rfl,g,H,G⟩);obtain⟨m',d',A,u,S⟩:=M.k5 _ hkm;have:m=m':=by omega
   subst this;obtain⟨_,T⟩:=M.kd u S;refine⟨DY _ hkm,T.imp id λ⟨y,v,I,F⟩=>?_⟩;obtain⟨j,V⟩:=Bs v;exact⟨y,aC (hw V I),I,F⟩
 ·rw[R];rcases Q g with ⟨rfl,rfl⟩|⟨_,g⟩
  ·have:=M.pn hx;rw[h1,ao (by decide)] at this;rw[O,ao (by decide)];exact this
  ·exact M.pn g
 ·
  rcases Q g with ⟨rfl,rfl⟩|⟨V,g⟩
  ·rw[xl] at hl;obtain⟨l1,l2⟩:=tI hl;obtain⟨L,m,d,E,D,N⟩:=M.ln hx l l1;rcases N with ⟨_,N⟩|⟨_,q,a,r5,r6, _⟩
   ·obtain⟨m',d',g1,T,g3,g4⟩:=Pw L N l2;exact⟨L,m',d',g1,by rw[J];exact T,.inl ⟨g3,by rw[J];exact g4⟩⟩
   ·rw[hbx] at r5;cases r5;cases r6
  ·obtain⟨L,m,d,E,D,N⟩:=M.ln g l hl;rcases N with ⟨d4,N⟩|⟨W,q,a,r5,r6,r7,r8⟩
   ·by_cases l2:t=l.1/\(p= -1\/p=l.2.1)
    ·obtain⟨d',A,u⟩:=C.kd.k4 D d4;have Nz:j<s.bx.length:=by rw[M.lb, <-M.lc];exact(Ab.1 g).1
     refine⟨L,m,d',E,by rw[J];exact A,.inr ⟨u, _, _,hbg (B_ Nz) V,Df _ (Dj.2 rfl),l2,λe5=>?_⟩⟩;have G:=TV D (by omega) A e5;rw[E];exact⟨Oy D d4 G,i,x', _,Df _ (Dj.2 rfl),vO,O,by rw[X];exact G,xa.symm,Int.le_refl _⟩
    ·obtain⟨m',d',g1,T,g3,g4⟩:=Pw L N l2;exact⟨L,m',d',g1,by rw[J];exact T,.inl ⟨g3,by rw[J];exact g4⟩⟩
   ·rcases W with d4|d5
    ·obtain⟨d',A,u⟩:=C.kd.k4 D d4;refine⟨L,m,d',E,by rw[J];exact A,.inr ⟨u, _,a,hbg r5 V,DY _ r6,r7,λe5=>?_⟩⟩;have G:=TV D (by omega) A e5;have:=M.fQ r5 r6;rw[E];exact⟨Oy D d4 G,i,x', _,Df _ (Dj.2 rfl),vO,O,by rw[X];exact G,xa.symm,by show a.1<=(s.op.length:Int)+1;omega⟩
    ·obtain⟨d',A,u⟩:=C.kd.k5 D d5;refine⟨L,m,d',E,by rw[J];exact A,.inr ⟨.inr u, _,a,hbg r5 V,DY _ r6,r7,λ_=>?_⟩⟩;obtain⟨I,z,y',b,F,q3,q4,q5,q6,q7⟩:=r8 d5;refine⟨?_,z,y',b,DY _ F,hw q3 q4,q4,q5,q6,q7⟩;rw[E,YH D d5, <-E];exact I
 ·rw[J];rcases hm v with rfl|v
  ·rw[O] at e;exact absurd e (by decide)
  ·obtain⟨j,V⟩:=Bs v;obtain⟨I,F⟩:=M.ac y v e;exact⟨C.lv (hU V e) I,F⟩
 ·rcases Q g with ⟨_,rfl⟩|⟨_,g⟩
  ·rw[O] at e;exact absurd e (by decide)
  ·obtain⟨l,E,D,N,W⟩:=M.wl g e;refine⟨l,E,D,N,?_⟩;rw[J];rcases W with W|⟨c1,c2,c3⟩
   ·rcases C.gk W (hU g e) with k|k
    ·exact .inl k
    ·have G:y.wk.1∈eR s h':=by
      obtain⟨q0,d',I,F, _⟩:=k;have h3:=(M.hi.inv.kd W).2.2.1;have:=TV h3 (by show ¬ (3:Int)=5;decide) I F;rw[E4 q0] at this;exact this
     refine .inr ⟨k,JB G,?_⟩;unfold XZ;rw[ax (by simpa using G),W];rfl
   ·refine .inr ⟨C.gn c1,JA c2,?_⟩;obtain⟨q0,d',I,F, _⟩:=c1;have:=YH I F;rw[E4 q0] at this;rw[this];exact c3
 ·rcases Q g with ⟨_,rfl⟩|⟨_,g⟩
  ·rw[O] at e;exact absurd e (by decide)
  ·obtain⟨⟨m,d,E,D,N⟩,W⟩:=M.rc g e;refine⟨?_,W⟩;rcases N with d4|⟨d5,c2,c3⟩
   ·obtain⟨d',A,u⟩:=C.kd.k4 D d4;refine⟨m,d',E,by rw[J];exact A,?_⟩;rcases u with u|u
    ·exact .inl u
    ·have G:=TV D (by omega) A u;rw[E];exact .inr ⟨u,JB G,Oy D d4 G⟩
   ·obtain⟨d',A,u⟩:=C.kd.k5 D d5;refine⟨m,d',E,by rw[J];exact A,.inr ⟨u,JA c2,?_⟩⟩;rw[E,YH D d5, <-E];exact c3
 ·rw[XR];rcases hm v with rfl|v
  ·rw[xT,xP,xa];omega
  ·have:=M.wt y v e;omega
 ·rcases Q g with ⟨_,rfl⟩|⟨_,g⟩
  ·rcases Q H with ⟨q, _⟩|⟨_,H⟩
   ·omega
   ·have:=M.wt z (aC H) u;rw[xa];omega
  ·rcases Q H with ⟨_,rfl⟩|⟨_,H⟩
   ·have:=M.wt y (aC g) A;rw[xa];omega
   ·exact M.wu g H sy A u
 ·rw[hb] at g;obtain⟨q,I,F⟩:=Sr g;obtain⟨g1,T⟩:=M.aq I;have du: ∀a∈q, ∃(z:Nat) (y:bZ),z≠j/\s'.cs[z]? =some y/\y.ph=4/\a=(y.ak,Ar y,As y,()):=λa K=>by
   obtain⟨z,y,f1,f2,f3,f4⟩:=T a K;exact⟨z,y,f1,hw f2 f3,f3,f4⟩
  by_cases e:j=i
  ·rw[ax e] at F;rw[F];exact⟨g1,du⟩
  ·rw[ao e] at F;rw[F];refine⟨List.pairwise_append.2 ⟨g1,List.pairwise_singleton ..,λa K b hb=>?_⟩,λa K=>?_⟩
   ·have:=M.fQ I K;rw[Dj.1 hb];show a.1<(s.op.length:Int)+1;omega
   ·rcases FS.1 K with K|K
    ·exact du a K
    ·refine⟨i,x',λc=>e c.symm,vO,O,?_⟩;rw[Dj.1 K,xa,xT,xP]
 ·rw[XR] at JR;rw[ho,hb,B1];by_cases e:id<s.op.length
  ·rw[Ss (by show(s.op.length:Int)+1≠ _;omega),List.getElem?_append_left e, <-B1];exact M.oc id e
  ·have e:id=s.op.length:=by omega
   subst e;have acr:i<s.bx.length:=by rw[M.lb, <-M.lc];exact nc
   rw[List.getElem?_append_right (Dt _),Nat.sub_self];have:=Su (i:=i) (x:=(((s.op.length:Int)+1,t,p,()):AK)) acr λq hq=>by
    unfold jB;rw[Gd];intro a K c;obtain⟨j,V⟩:=Bs hq;have:=M.fQ V K;have c:a.1=(s.op.length:Int)+1:=by simpa using c
    omega
   show(s.bx.length:Int) - 1= _;rw[this];omega
end
end Go.Proofs.YtlcenllcmeebhaaGreat
