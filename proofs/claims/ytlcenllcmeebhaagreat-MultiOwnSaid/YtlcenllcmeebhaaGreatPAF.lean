import Derived.Test.YtlcenllcmeebhaaGreatPAE
/-! What the statement leans on: texts joined and shortened by a program of mine. -/
set_option linter.unusedVariables false
set_option linter.unusedSimpArgs false
open Go renaming World->A0,Addr->AC,Value->BW,MapEntry->Do
open Go.Proofs.Tryz renaming prog->A2
open List renaming getElem?_set_ne->AF,getElem?_eq_some_iff->AJ,getElem?_set_self->AM,length_set->Ae,getElem?_eq_getElem->B1,mem_filter->B2,range->B3,getD_eq_getElem?_getD->B4,mem_of_getElem?->B5,mem_map->Bs,mem_cons_self->Bx,mem_cons_of_mem->Cg,replicate->Ci,getElem?_of_mem->Ct,mem_range->DB,nodup_cons->DE,length_map->DL,length_cons->DV,mem_cons->Db,filter_sublist->Dh,map_cons->Dq,countP_pos_iff->Ds,countP_cons->Dw,sum_cons->E5,getElem?_map->F6,ext_getElem?->F8,length_replicate->FB,countP_map->FG,map_append->FJ,sum_append->FS,filter_cons->FV,filter_eq_self->FW,nodup_range->FX,any_eq_true->FY,eq_of_mem_replicate->Fk,getElem?_set->Ft,zipIdx_cons->Fy,pairwise_map->Fz,getElem?_zipIdx->G1
open Classical renaming byContradiction->Aq
open Int.ofNat renaming inj->Ar
open Nat renaming eq_zero_or_pos->Cj,le_refl->Dx,zero_le->FH,lt_succ_self->GD
open Go.IntKind renaming i64->DA
open Go.Value renaming nilFunc->Dk
open Bool renaming and_eq_true->Dn,not_eq_true'->GF
open BitVec renaming ofInt->E4
namespace Go.Proofs.YtlcenllcmeebhaaGreat.Mu
set_option maxRecDepth 100000
open Go.RX
abbrev sCl:List Sc:=[.int .i64,.int .u64,.int .u64,.int .u64]
abbrev sMk:List Sc:=[.int .i64,.int .i64,.int .i64,.int .i64,.int .u64,.int .u64,.int .u64,.int .u64,.int .i64]
noncomputable def U2:dG A2:={V0 with quiet:=[64,160,199,152,154,201,161,82,24]++V0.quiet}
noncomputable def U3:dG A2:={U2 with dyn:=some (.bA [.agg iW,.one .bool])}
theorem SB (p:Option AC) (w:A0) (a:Int->A0->Prop):(aI U2 (λ_=>[]) 160 [ah p] w a)=(
 p.isSome=true/\p.isSome=true/\(ad p 4).isSome=true/\cJ w (ad (ad p 4) 1) λx=>au w (a (aJ .i64 (wV .u64 x 16)))):=by kernel_rfl
theorem SC (p:Option AC) (w:A0) (e:Int->A0->Prop):(aI U2 (λ_=>[]) 199 [ah p] w e)=(
 ∀w1,Ext w w1-> ∀c,Ext (w1.alloc (Obj.map ⟨[]⟩ 0)) c-> ∃(r:Nat), ∃(es:Array Do), ∃(a:Nat),some w1.heap.size=some r/\bI c r es a/\ib c r .i64 6 (aa 1) es a λb=> ∀d,Ext b d-> ∃(r:Nat), ∃(es:Array Do), ∃(a:Nat),some w1.heap.size=some r/\bI d r es a/\ib d r .i64 7 (aa 2) es a λb=>p.isSome=true/\p.isSome=true/\(ad p 4).isSome=true/\aV b (ad (ad p 4) 0) λx=> ∃(f:Int),j8 b (some w1.heap.size) .i64 x (aa 0) (aa f)/\au b (e
 f)):=by kernel_rfl
theorem aah (p:Option AC) (n:Int) (w:A0) (a:Option AC->A0->Prop):(aI U2 (λ_=>[]) 64 [ah p,aa n] w a)=(
 ((!(p.isNone||decide (n<0)))=true->p.isSome=true)/\((!(p.isNone||decide (n<0)))=true->p.isSome=true)/\aj w (some !(p.isNone||decide (n<0))) (ad p 3) fi λx=>aG (p.isNone||decide (n<0)||decide (n>=(↑x.2.1:Int))) (au w (a none)) (ff p 3 w λx=>(x.1.isSome=true/\0<=n/\n<(↑x.2.1:Int))/\gg w (ad x.1 (n.toNat*1)) λx=>au w (a x))):=by kernel_rfl
theorem Wd (p:Option AC) (n v k a b c:Int) (w:A0) (f:Int->A0->Prop):(aI U2 (λ_=>[]) 29 [ah p,aa n,aa v,.agg ⟨[aa k,ax a,ax b,ax c]⟩] w f)=(
 aN w ⟨[aa k,ax a,ax b,ax c]⟩ 31 λb d=> ∃(x:Option AC),af A2 64 [ah p,aa n] d (ah x)/\((!p.isNone)=true->p.isSome=true)/\((!p.isNone)=true->p.isSome=true)/\aj d (some !p.isNone) (ad p 0) lZ λg=>aG (p.isNone||g.isNone) (au d (f 10)) (aG x.isNone (au d (f 2)) (cM x 2 d λh=>aG (h != 0) (au d (f 9)) (aj d none (ae b) uW λ(e:Int×Int×Int×Int×Unit)=>x.isSome=true/\x.isSome=true/\aC d (ad x 2) [aa 1] λd=>cU d (ae b) uW
 e/\x.isSome=true/\x.isSome=true/\aC d (ad x 3) [aa v] λd=>cU d (ae b) uW e/\x.isSome=true/\x.isSome=true/\aC d (ad x 4) [aa e.1,ax e.2.1,ax e.2.2.1,ax e.2.2.2.1] λd=>au d (f 0))))):=by kernel_rfl
theorem SD (p:Option AC) (f g h k a b c i j:Int) (w:A0) (l:Unit->A0->Prop):(aI U2 (λ_=>[]) 155 [ah p,.agg ⟨[aa f,aa g,aa h,aa k,ax a,ax b,ax c,ax i,aa j]⟩] w l)=(
 aN w ⟨[aa f,aa g,aa h,aa k,ax a,ax b,ax c,ax i,aa j]⟩ 86 λb d=>ff p 5 d λx=>aj d none (ae b) YY λ(e:Int×Int×Int×Int×Int×Int×Int×Int×Int×Unit)=>aN d {toList:=[aa e.1,aa e.2.1,aa e.2.2.1,aa e.2.2.2.1,ax e.2.2.2.2.1,ax e.2.2.2.2.2.1,ax e.2.2.2.2.2.2.1,ax e.2.2.2.2.2.2.2.1,aa e.2.2.2.2.2.2.2.2.1]} 86 λb d=> ∀w1,Ext d w1->mJ w1 86 9 72 ⟨[aa 0,aa 0,.int .i64
 0,aa 0,ax 0,ax 0,ax 0,ax 0,aa 0]⟩ (x.1,x.2.1,x.2.2) (some ⟨b,0,none⟩,1,1) λ(r:Option AC×Nat×Nat) d=>p.isSome=true/\p.isSome=true/\aC d (ad p 5) [.slice r.1 r.2.1 r.2.2] λd=>au d (l ())):=by kernel_rfl
abbrev pV (b:(Int×Int×Unit)×Bool×Unit->A0->Prop) (c:A0) (a:Nat):Prop:=
 aC c (ae a) [ax 0,aa 0] λd=>au d λw1=>aj w1 none (ae a) cA λ(x:Int×Int×Unit)=>b ((x.1,x.2.1,()),false,()) w1
abbrev wD (a:Int):Prop:=
 0<=a/\a<(↑5:Int)
abbrev wE (n:Int) (e:(Int×Int×Unit)×Bool×Unit->A0->Prop) (g:A0) (f:Nat) (b:(Int×Int×Unit)×Bool×Unit) (c:Nat) (d:Option AC):Prop:=
 aC g (ae f) [ax b.1.1,aa b.1.2.1] λa=>aG (!b.2.1) (pV e a c) (bH d 1 a λx=>d.isSome=true/\aC a d [aa n,ah x,aa 0,aa 0,aa 0,ax 0,ax 0,ax 0,ah none,aa 0,ax 0,aa 0,aa 0,.slice none 0 0] λa=>aj a none (ae f) cA λ(x:Int×Int×Unit)=>aC a (ae c) [ax x.1,aa x.2.1] λa=>au a λw1=>aj w1 none (ae c) cA λ(x:Int×Int×Unit)=>e ((x.1,x.2.1,()),true,()) w1)
abbrev wF (n:Int) (c:(Int×Int×Unit)×Bool×Unit->A0->Prop) (a:BW×BW×BW×BW×BW×Unit) (d:Int) (b:Option AC) (e:A0) (f:Nat) (g:Nat):Prop:=
 z4 A2 (match [a.1,a.2.1,a.2.2.1,a.2.2.2.1,a.2.2.2.2.1].get?Internal d.toNat with|some x=>x|none=> .tuple ⟨[]⟩) (.bA [.agg [.int .u64,.int .i64],.one .bool]) [ah b] e λ(x:(Int×Int×Unit)×Bool×Unit) h=>wE n c h f x g b
abbrev wG (p:Option AC) (n:Int) (e:(Int×Int×Unit)×Bool×Unit->A0->Prop) (d:Option AC) (f:A0) (g:Nat):Prop:=
 cM d 2 f λx=>(aA A2 68 (.el (.agg [.func,.func,.func,.func,.func])) [ah p] f λc a=>cU a (ad d 2) aX x/\True/\True/\wD x/\(z4 A2 (match [c.1,c.2.1,c.2.2.1,c.2.2.2.1,c.2.2.2.2.1].get?Internal x.toNat with|some x=>x|none=> .tuple ⟨[]⟩) (.bA [.agg [.int .u64,.int .i64],.one .bool]) [ah d] a λ(x:(Int×Int×Unit)×Bool×Unit) a=>aN a ⟨[ax 0,aa 0]⟩ 61 λb a=>wE n e a b
 x g d)/\aN a ⟨[ax 0,aa 0]⟩ 61 λb a=>wF n e c x d a b g)/\aN f ⟨[ax 0,aa 0]⟩ 61 λb a=>aA A2 68 (.el (.agg [.func,.func,.func,.func,.func])) [ah p] a λc a=>cU a (ad d 2) aX x/\True/\True/\wD x/\wF n e c x d a b g
theorem SE (p:Option AC) (n:Int) (w:A0) (c:(Int×Int×Unit)×Bool×Unit->A0->Prop):(bW U3 (λ_=>[]) 31 [ah p,aa n] w c)=(
 aN w ⟨[ax 0,aa 0]⟩ 61 λb a=> ∃(x:Option AC),af A2 64 [ah p,aa n] a (ah x)/\aG x.isNone (pV c a b) (cM x 2 a λf=>aG (f != 3) (bH p 2 a λg=>aA A2 66 (.bA [.agg [.int .i64,.int .i64,.int .i64],.one .bool]) [ah g,aa n] a λ(d:(Int×Int×Int×Unit)×Bool×Unit) a=>aN a ⟨[aa 0,aa 0,aa 0]⟩ 147 λe a=>aC a (ae e) [aa d.1.1,aa d.1.2.1,aa d.1.2.2.1] λa=>aG d.2.1 (true=true/\aV a (ad
 (ae e) 1) λh=>true=true/\aV a (ad (ae e) 2) λi=>aA A2 67 (.bA []) [ah x,aa h,aa i] a λx a=>pV c a b) (wG p n c x a b)) (wG p n c x a b))):=by kernel_rfl
theorem HW (p:Option AC) (w:A0) (c:BW×BW×BW×BW×BW×Unit->A0->Prop):(bW U2 (λ_=>[]) 68 [ah p] w c)=(
 aN w ⟨[Dk,Dk,Dk,Dk,Dk]⟩ 154 λb a=>aC a (ae b) [.func (.func 109) ⟨[ah p]⟩ ⟨[]⟩,.func (.func 110) ⟨[ah p]⟩ ⟨[]⟩,.func (.func 111) ⟨[ah p]⟩ ⟨[]⟩,.func (.func 112) ⟨[ah p]⟩ ⟨[]⟩,.func (.func 113) ⟨[ah p]⟩ ⟨[]⟩] λa=>au a λw1=>aj w1 none (ae b) (.agg [.func,.func,.func,.func,.func]) λx=>c (x.1,x.2.1,x.2.2.1,x.2.2.2.1,x.2.2.2.2.1,()) w1):=by kernel_rfl
theorem HY (p:Option AC) (t g:Int) (w:A0) (a:Unit->A0->Prop):(aI U2 (λ_=>[]) 67 [ah p,aa t,aa g] w a)=(
 aG (g== -1) (bH p 1 w λx=>aA A2 107 (.el aX) [ah x,aa t] w λ(x:Int) b=>au b (a ())) (bH p 1 w λx=>aA A2 108 (.el rO) [ah x,aa t,aa g] w λx b=>au b (a ()))):=by kernel_rfl
def uy:Nat->a7:=(λ|4=>[(18,Go.RX.El.one (Go.RX.Sc.int DA))]| _=>[])
theorem SF (p:Option AC) (w:A0) (b:Int->A0->Prop):(aI U2 uy 151 [ah p] w b)=(
 bH p 1 w λx=>aA A2 197 (.el rO) [ah x] w λx a=>bH p 1 a λx=>aA A2 198 (.el fi) [ah x] a λx a=> ∃(I:Nat->Int×Unit->A0->Prop),(∃n, ∀w1,Ext a w1->I n (0,()) w1)/\ ∀(n:Nat) (s:Int×Unit) (w1:A0),I n s w1->aG (decide (s.1<(↑x.2.1:Int))) ((x.1.isSome=true/\0<=s.1/\s.1<(↑x.2.1:Int))/\aV w1 (ad x.1 (Int.toNat s.1*1)) λx=>bH p 0 w1 λf=>aA A2 43 (.el aX) [ah f,aa x] w1 λ(h:Int) a=>tc p 4 a λg=> ∀w1,Ext a w1-> ∃(r:Nat), ∃
 (es:Array Do), ∃(c:Nat),g=some r/\bI w1 r es c/\Ai w1 r .i64 x es c λa=>aA A2 155 (.bA []) [ah p,.agg {toList:=[aa 2,aa 0,aa x,aa 0,ax 0,ax 0,ax 0,ax 0,aa 0]}] a λx a=> ∀d,Ext a d-> ∃(e:Nat),e<n/\I e (aH .i64 s.1 1,()) d) (au w1 (b (↑x.2.1:Int)))):=by kernel_rfl
theorem SG (p x:Option AC) (w:A0) (c:(Int×Int×Unit)×Bool×Unit->A0->Prop):(bW U2 (λ_=>[]) 109 [ah p,ah x] w c)=(
 aN w ⟨[ax 0,aa 0]⟩ 61 λb a=>aA A2 151 (.el aX) [ah p] a λ(x:Int) a=>aC a (ae b) [ax 0,aa 0] λa=>au a λw1=>aj w1 none (ae b) cA λ(x:Int×Int×Unit)=>c ((x.1,x.2.1,()),false,()) w1):=by kernel_rfl
theorem MZ (p x:Option AC) (w:A0) (e:(Int×Int×Unit)×Bool×Unit->A0->Prop):(bW U2 (λ_=>[]) 112 [ah p,ah x] w e)=(
 aN w ⟨[ax 0,aa 0]⟩ 61 λb a=>cM x 9 a λc=>x.isSome=true/\x.isSome=true/\(ad x 4).isSome=true/\cJ a (ad (ad x 4) 1) λd=>bH p 1 a λh=>cM x 0 a λi=>aA A2 158 (.el aX) [ah h,aa i] a λ(l:Int) a=>x.isSome=true/\x.isSome=true/\(ad x 4).isSome=true/\aV a (ad (ad x 4) 0) λj=>aG (j==7) (bH p 0 a λf=>x.isSome=true/\x.isSome=true/\(ad x 4).isSome=true/\cJ a (ad (ad x 4) 2) λg=>aA A2 23 (.el lZ) [ah f] a λ
 k a=>cU a (ad (ad x 4) 2) rN g/\True/\True/\True/\aA A2 38 (.el aX) [ah k,aa (aH .i64 (fX .i64 16 c) (aJ .i64 (jY d 16))),ax g] a λ(m:Int) a=>x.isSome=true/\x.isSome=true/\(ad x 4).isSome=true/\cJ a (ad (ad x 4) 2) λx=>aA A2 155 (.bA []) [ah p,.agg {toList:=[aa 4,aa 0,aa (aH .i64 (fX .i64 16 c) (aJ .i64 (jY d 16))),aa 0,ax 0,ax 0,ax 0,ax x,aa 0]}] a λx a=>aC a (ae b) [.int .u64
 0,aa 0] λa=>au a λw1=>aj w1 none (ae b) cA λ(x:Int×Int×Unit)=>e ((x.1,x.2.1,()),true,()) w1) (bH p 0 a λx=>aA A2 23 (.el lZ) [ah x] a λx a=>aA A2 37 (.bA [.one (.int .u64),.one (.int .i64)]) [ah x,aa (aH .i64 (fX .i64 16 c) (aJ .i64 (jY d 16)))] a λ(x:Int×Int×Unit) a=>aA A2 155 (.bA []) [ah p,.agg {toList:=[aa 3,aa 0,aa (aH .i64 (fX .i64 16 c) (aJ .i64 (jY d 16))),aa 0,ax 0,ax 0,
 ax 0,ax x.1,aa 0]}] a λf a=>aC a (ae b) [ax x.1,aa 0] λa=>au a λw1=>aj w1 none (ae b) cA λ(x:Int×Int×Unit)=>e ((x.1,x.2.1,()),true,()) w1)):=by kernel_rfl
theorem SH (p x:Option AC) (w:A0) (e:(Int×Int×Unit)×Bool×Unit->A0->Prop):(bW U2 (λ_=>[]) 111 [ah p,ah x] w e)=(
 aN w ⟨[ax 0,aa 0]⟩ 61 λb a=>bH x 8 a λg=>bH p 0 a λj=>aA A2 23 (.el lZ) [ah j] a λk a=>cU a (ad x 8) lZ g/\True/\True/\aA A2 22 (.el rO) [ah g,ah k] a λl a=>aG (!l) (aC a (ae b) [ax 0,aa 0] λa=>au a λw1=>aj w1 none (ae b) cA λ(x:Int×Int×Unit)=>e ((x.1,x.2.1,()),false,()) w1) (bH x 8 a λm=> ∃(c:(Int×Int×Int×Int×Unit)×Bool×Unit),af A2 24 [ah m] a (.tuple {toList
 :=[.agg ⟨[aa c.1.1,aa c.1.2.1,aa c.1.2.2.1,aa c.1.2.2.2.1]⟩,.bool c.2.1]})/\aN a ⟨[aa 0,aa 0,aa 0,aa 0]⟩ 48 λd a=>aC a (ae d) [aa c.1.1,aa c.1.2.1,aa c.1.2.2.1,aa c.1.2.2.2.1] λa=>true=true/\aV a (ad (ae d) 3) λn=>aG (n != 0) (bH p 1 a λf=>cM x 0 a λx=>aA A2 158 (.el aX) [ah f,aa x] a λ(x:Int) a=>true=true/\aV a (ad (ae d) 3) λx=>aC a (ae b) [ax 0,aa x]
 λa=>au a λw1=>aj w1 none (ae b) cA λ(x:Int×Int×Unit)=>e ((x.1,x.2.1,()),true,()) w1) (bH x 1 a λf=>cM x 3 a λo=> ∃(h:Int),af A2 160 [ah x] a (aa h)/\true=true/\aV a (ad (ae d) 0) λq=>true=true/\aV a (ad (ae d) 1) λr=>aA A2 159 (.el aX) [ah f,.agg ⟨[aa o,aa h,aa q,aa r]⟩] a λ(s:Int) a=>true=true/\aV a (ad (ae d) 0) λi=>x.isSome=true/\x.isSome=true/\aC a
 (ad x 2) [aa 3] λa=>cU a (ad (ae d) 0) aX i/\True/\x.isSome=true/\x.isSome=true/\aC a (ad x 9) [aa i] λa=>aC a (ae b) [ax 0,aa 0] λa=>au a λw1=>aj w1 none (ae b) cA λ(x:Int×Int×Unit)=>e ((x.1,x.2.1,()),false,()) w1))):=by kernel_rfl
def uz:Nat->a7:=(λ|4=>[(24,Go.RX.El.one (Go.RX.Sc.int DA))]| _=>[])
theorem SI (p x:Option AC) (w:A0) (d:(Int×Int×Unit)×Bool×Unit->A0->Prop):(bW U2 uz 113 [ah p,ah x] w d)=(
 aN w ⟨[ax 0,aa 0]⟩ 61 λb a=>bH p 2 a λh=>cM x 12 a λi=> ∃e,af A2 161 [ah h,aa i] a (.bool e)/\aG (!e) (aC a (ae b) [ax 0,aa 0] λa=>au a λw1=>aj w1 none (ae b) cA λ(x:Int×Int×Unit)=>d ((x.1,x.2.1,()),false,()) w1) (ff x 13 a λc=> ∃(I:Nat->Int×Unit->A0->Prop),(∃n, ∀w1,Ext a w1->I n (0,()) w1)/\ ∀(n:Nat) (s:Int×Unit) (w1:A0),I n s w1->aG (decide (s.1<(↑c.2.1:Int))) ((c.1.isSome=true/\0<=s.1
 /\s.1<(↑c.2.1:Int))/\aV w1 (ad c.1 (Int.toNat s.1*1)) λx=>bH p 1 w1 λj=>aA A2 162 (.el aX) [ah j,aa x] w1 λ(x:Int) a=> ∀f,Ext a f-> ∃(g:Nat),g<n/\I g (aH .i64 s.1 1,()) f) (x.isSome=true/\x.isSome=true/\aj w1 none (ad x 10) cA λ(x:Int×Int×Unit)=>aC w1 (ae b) [ax x.1,aa x.2.1] λa=>au a λw1=>aj w1 none (ae b) cA λ(x:Int×Int×Unit)=>d ((x.1,x.2.1,()),true,()) w1))):=by kernel_rfl
theorem HZ (p x:Option AC) (w:A0) (e:Bool->A0->Prop):(aI U2 (λ_=>[]) 152 [ah p,ah x] w e)=(
 ∃(a:Int),af A2 199 [ah x] w (aa a)/\(decide (a>0)=true->p.isSome=true)/\(decide (a>0)=true->p.isSome=true)/\aj w (some (decide (a>0))) (ad p 0) lZ λf=>(decide (a>0)=true->x.isSome=true)/\(decide (a>0)=true->x.isSome=true)/\aj w (some (decide (a>0))) (ad x 3) aX λ(g:Int)=> ∃b,(decide (a>0)=true->af A2 19 [ah f,aa g] w (.bool b))/\((decide (a>0)&&b)=true->x.isSome=true)/\((decide (a>0)&&b)=true->x.isSome=true)/\aj w
 (some (decide (a>0)&&b)) (ad x 4) uW λ(d:Int×Int×Int×Int×Unit)=> ∃c,((decide (a>0)&&b)=true->af A2 76 [.agg ⟨[aa d.1,ax d.2.1,ax d.2.2.1,ax d.2.2.2.1]⟩] w (.bool c))/\((decide (a>0)&&b&&c)=true->x.isSome=true)/\((decide (a>0)&&b&&c)=true->x.isSome=true)/\((decide (a>0)&&b&&c)=true->(ad x 4).isSome=true)/\aj w (some (decide (a>0)&&b&&c)) (ad (ad x 4) 1) rN λ(x:Int)=>au w (e (decide (a>0)&&b&&c&&decide
 (x<1048576)))):=by kernel_rfl
def oB:Nat->a7:=(λ|2=>[(12,Go.RX.El.one (Go.RX.Sc.int DA))]| _=>[])
theorem Fe (p x:Option AC) (w:A0) (i:Bool->A0->Prop):(aI U2 oB 154 [ah p,ah x] w i)=(
 ff p 3 w λj=> ∃(I:Nat->Int×Unit->A0->Prop),(∃n, ∀w1,Ext w w1->I n (0,()) w1)/\ ∀(n:Nat) (s:Int×Unit) (w1:A0),I n s w1->aG (decide (s.1<(↑j.2.1:Int))) ((j.1.isSome=true/\0<=s.1/\s.1<(↑j.2.1:Int))/\gg w1 (ad j.1 (Int.toNat s.1*1)) λa=>XR w1 a x/\((!decide (a=x))=true->x.isSome=true)/\((!decide (a=x))=true->x.isSome=true)/\aj w1 (some !decide (a=x)) (ad x 3) aX λ(k:Int)=>aG (decide (a=x)||k != 0) (∀f,Ext w1 f-> ∃(g:Nat),g<n/\I g (aH .i64 s.1 1,
 ()) f) (x.isSome=true/\x.isSome=true/\(ad x 4).isSome=true/\aV w1 (ad (ad x 4) 0) λd=>((d==1)=true->a.isSome=true)/\((d==1)=true->a.isSome=true)/\aj w1 (some (d==1)) (ad a 2) aX λ(h:Int)=>((d==1&&h==4)=true->a.isSome=true)/\((d==1&&h==4)=true->a.isSome=true)/\((d==1&&h==4)=true->(ad a 4).isSome=true)/\aj w1 (some (d==1&&h==4)) (ad (ad a 4) 0) aX λ(l:Int)=>aG (d==1&&h==4&&l==2) (au w1 (i true)) (x.isSome=true/\
 x.isSome=true/\(ad x 4).isSome=true/\aV w1 (ad (ad x 4) 0) λb=>((b==2)=true->a.isSome=true)/\((b==2)=true->a.isSome=true)/\aj w1 (some (b==2)) (ad a 2) aX λ(c:Int)=>((b==2&&decide (c>=2))=true->a.isSome=true)/\((b==2&&decide (c>=2))=true->a.isSome=true)/\aj w1 (some (b==2&&decide (c>=2))) (ad a 3) aX λ(e:Int)=>((b==2&&decide (c>=2)&&decide (e>0))=true->a.isSome=true)/\((b==2&&decide (c>=2)&&decide (e>0))=true->a.isSome=true)/\
 aj w1 (some (b==2&&decide (c>=2)&&decide (e>0))) (ad a 3) aX λ(m:Int)=>((b==2&&decide (c>=2)&&decide (e>0))=true->x.isSome=true)/\((b==2&&decide (c>=2)&&decide (e>0))=true->x.isSome=true)/\((b==2&&decide (c>=2)&&decide (e>0))=true->(ad x 4).isSome=true)/\aj w1 (some (b==2&&decide (c>=2)&&decide (e>0))) (ad (ad x 4) 1) rN λ(x:Int)=>aG (b==2&&decide (c>=2)&&decide (e>0)&&aJ .u64 m==x) (au w1 (i true)) (∀f,Ext w1 f-> ∃(g:Nat),g<n/\
 I g (aH .i64 s.1 1,()) f)))) (au w1 (i false))):=by kernel_rfl
def oC:Nat->a7:=(λ|4=>[(4,Go.RX.El.one Go.RX.Sc.slice),(15,Go.RX.El.one (Go.RX.Sc.int DA))]| _=>[])
theorem Ff (p:Option AC) (w:A0) (f:Option AC×Nat×Nat->A0->Prop):(aI U2 oC 156 [ah p] w f)=(
 bH p 0 w λx=>aA A2 18 (.el lZ) [ah x] w λx a=> ∃(g:Int),af A2 62 [ah x] a (aa g)/\ ∃(I:Nat->(Option AC×Nat×Nat)×Int×Unit->A0->Prop),(∃n, ∀w1,Ext a w1->I n ((none,0,0),0,()) w1)/\ ∀(n:Nat) (s:(Option AC×Nat×Nat)×Int×Unit) (w1:A0),I n s w1->aG (decide (s.2.1<g)) (∃(c:(Int×Int×Int×Int×Unit)×Bool×Unit),af A2 25 [ah x,aa s.2.1] w1 (.tuple {toList:=[.agg ⟨[aa c.1.1,aa c.1.2.1,aa c.1.2.2.1,.int .i64
 c.1.2.2.2.1]⟩,.bool c.2.1]})/\aN w1 ⟨[aa 0,aa 0,aa 0,aa 0]⟩ 52 λb a=>aC a (ae b) [aa c.1.1,aa c.1.2.1,aa c.1.2.2.1,aa c.1.2.2.2.1] λa=>true=true/\aV a (ad (ae b) 0) λx=>((x==5)=true->p.isSome=true)/\((x==5)=true->p.isSome=true)/\aj a (some (x==5)) (ad p 4) On λj=> ∃h,((x==5)=true->j8 a j .i64 s.2.1 (.bool false) (.bool h))/\aG (x==5&& !h) (tc p 4 a λx=> ∀w1,Ext a w1-> ∃(r:Nat), ∃(es:Array Do), ∃(i:Nat),x
 =some r/\bI w1 r es i/\ib w1 r .i64 s.2.1 (.bool true) es i λa=>aN a ⟨[aa s.2.1]⟩ 3 λb a=> ∀w1,Ext a w1->mJ w1 3 1 8 ⟨[aa 0]⟩ (s.1.1,s.1.2.1,s.1.2.2) (some ⟨b,0,none⟩,1,1) λ(r:Option AC×Nat×Nat) a=> ∀d,Ext a d-> ∃(e:Nat),e<n/\I e ((r.1,r.2.1,r.2.2),aH .i64 s.2.1 1,()) d) (∀d,Ext a d-> ∃(e:Nat),e<n/\I e ((s.1.1,s.1.2.1,s.1.2.2),aH .i64 s.2.1 1,()) d)) (au w1 (f (s.1.1,s.1.2.1,s.1.2.2)))):=by kernel_rfl
abbrev uA (b:(Int×Int×Unit)×Bool×Unit->A0->Prop) (c:A0) (a:Nat):Prop:=
 aC c (ae a) [ax 0,aa 0] λd=>au d λw1=>aj w1 none (ae a) cA λ(x:Int×Int×Unit)=>b ((x.1,x.2.1,()),false,()) w1
abbrev oa (a:(Int×Int×Unit)×Bool×Unit->A0->Prop) (b:A0) (c:Nat):Prop:=
 au b λw1=>aj w1 none (ae c) cA λ(x:Int×Int×Unit)=>a ((x.1,x.2.1,()),true,()) w1
abbrev uB (x:Option AC) (a:Int):Prop:=
 (a==0)=true->x.isSome=true
abbrev jv (x:Option AC) (c:(Int×Int×Unit)×Bool×Unit->A0->Prop) (a:A0) (b:Nat):Prop:=
 x.isSome=true/\x.isSome=true/\aj a none (ad x 10) cA λ(x:Int×Int×Unit)=>aC a (ae b) [ax x.1,aa x.2.1] λd=>oa c d b
abbrev uC (x:Option AC) (b:(Int×Int×Unit)×Bool×Unit->A0->Prop) (c:A0) (d:Int×Int×Unit) (e:Nat):Prop:=
 x.isSome=true/\x.isSome=true/\aC c (ad x 12) [aa d.1] λa=>x.isSome=true/\x.isSome=true/\aC a (ad x 2) [aa 4] λa=>uA b a e
abbrev od (p:Option AC) (x:Option AC) (c:(Int×Int×Unit)×Bool×Unit->A0->Prop) (b:A0) (d:Nat) (e:Int) (f:Int):Prop:=
 x.isSome=true/\x.isSome=true/\(ad x 10).isSome=true/\aV b (ad (ad x 10) 1) λg=>aG (g != 0) (jv x c b d) (aA A2 67 (.bA []) [ah x,aa e,aa (aJ .i64 f)] b λk a=>bH p 2 a λh=>cM x 0 a λi=>aA A2 157 (.bA [.one (.int .i64),.one (.int .i64)]) [ah h,aa i,aa e,aa (aJ .i64 f)] a λ(j:Int×Int×Unit) a=>uC x c a j d)
theorem M6 (p x:Option AC) (w:A0) (c:(Int×Int×Unit)×Bool×Unit->A0->Prop):(bW U2 (λ_=>[]) 110 [ah p,ah x] w c)=(
 aN w ⟨[ax 0,aa 0]⟩ 61 λb a=> ∃l,af A2 152 [ah p,ah x] a (.bool l)/\aG l (aA A2 153 (.bA []) [ah p,ah x] a λx a=>uA c a b) (∃m,af A2 154 [ah p,ah x] a (.bool m)/\aG m (aC a (ae b) [ax 0,aa 9] λa=>oa c a b) (cM x 3 a λe=>uB x e/\uB x e/\aj a (some (e==0)) (ad x 4) uW λ(f:Int×Int×Int×Int×Unit)=>aG (e==0&&(f.1==17&&(f.2.1==0&&(f.2.2.1==0&&
 (f.2.2.2.1==0&&true))))) (aA A2 151 (.el aX) [ah p] a λ(x:Int) a=>aC a (ae b) [ax (aJ .u64 x),aa 0] λa=>oa c a b) (bH p 0 a λr=>cM x 3 a λs=>x.isSome=true/\x.isSome=true/\aj a none (ad x 4) uW λ(g:Int×Int×Int×Int×Unit)=>aA A2 42 (.el cA) [ah r,aa s,.agg ⟨[aa g.1,ax g.2.1,ax g.2.2.1,ax g.2.2.2.1]⟩] a λ(n:Int×Int×Unit) a=>x.isSome=true/\x.isSome=true/\aC a (ad x 10) [ax n.1,
 aa n.2.1] λa=>cM x 3 a λt=>x.isSome=true/\x.isSome=true/\aj a none (ad x 4) uW λ(h:Int×Int×Int×Int×Unit)=>x.isSome=true/\x.isSome=true/\aj a none (ad x 10) cA λ(o:Int×Int×Unit)=>aA A2 155 (.bA []) [ah p,.agg {toList:=[aa 1,aa t,aa 0,aa h.1,ax h.2.1,ax h.2.2.1,ax h.2.2.2.1,ax o.1,aa o.2.1]}] a λA a=>aA A2 156 (.el fi) [ah p] a λi a=>x.isSome=true/\x.isSome=true/\
 aC a (ad x 13) [.slice i.1 i.2.1 i.2.2] λa=>cM x 3 a λj=>x.isSome=true/\x.isSome=true/\(ad x 4).isSome=true/\cJ a (ad (ad x 4) 1) λk=>x.isSome=true/\x.isSome=true/\(ad x 4).isSome=true/\aV a (ad (ad x 4) 0) λd=>aG (d==2) (x.isSome=true/\x.isSome=true/\(ad x 4).isSome=true/\cJ a (ad (ad x 4) 1) λq=>x.isSome=true/\x.isSome=true/\(ad x 10).isSome=true/\aV a (ad (ad x 10) 1) λu=>aG (u != 0) (jv x c a b) (aA A2 67 (.bA []) [.pointer
 x,aa (aJ .i64 q),aa (-1)] a λB a=>bH p 2 a λv=>cM x 0 a λy=>aA A2 157 (.bA [.one (.int .i64),.one (.int .i64)]) [ah v,aa y,aa (aJ .i64 q),aa (-1)] a λ(z:Int×Int×Unit) a=>uC x c a z b)) (aG (d==4) (aG (d==4) (od p x c a b j k) (jv x c a b)) (aG (d==5) (aG (d==5) (od p x c a b j k) (jv x c a b)) (aG (d==10) (od p x c a b j k) (jv x c a
 b)))))))):=by kernel_rfl
theorem SJ (p x:Option AC) (w:A0) (c:Unit->A0->Prop):(aI U2 (λ_=>[]) 153 [ah p,ah x] w c)=(
 bH p 1 w λi=>cM x 0 w λj=>aA A2 200 (.el aX) [ah i,aa j] w λ(q:Int) a=>bH x 1 a λk=>cM x 3 a λl=> ∃(d:Int),af A2 160 [ah x] a (aa d)/\ ∃(e:Int),af A2 199 [ah x] a (aa e)/\ ∃(b:Int×Int×Unit),af A2 201 [ah k,aa l,aa d,aa e] a (.tuple ⟨[aa b.1,aa b.2.1]⟩)/\aG (b.2.1==0) (x.isSome=true/\x.isSome=true/\aC a (ad x 2) [aa 3] λa=>x.isSome=true/\
 x.isSome=true/\aC a (ad x 9) [aa b.1] λa=>au a (c ())) (bH p 0 a λm=>cM x 3 a λn=> ∃(f:Int),af A2 21 [ah m,aa n] a (aa f)/\ ∃(g:Int),af A2 160 [ah x] a (aa g)/\ ∃(h:Int),af A2 199 [ah x] a (aa h)/\aA A2 20 (.el lZ) [aa f,aa g,aa h] a λo a=>x.isSome=true/\x.isSome=true/\aC a (ad x 2) [aa 2] λa=>x.isSome=true/\x.isSome=true/\aC a (ad x 8)
 [ah o] λa=>au a (c ()))):=by kernel_rfl
theorem M7 (p:Option AC) (n:Int) (w:A0) (a:Int->A0->Prop):(aI U2 (λ_=>[]) 49 [ah p,aa n] w a)=(
 ∃(x:Option AC),af A2 64 [ah p,aa n] w (ah x)/\aG x.isNone (au w (a 0)) (cM x 2 w λx=>au w (a x))):=by kernel_rfl
theorem M8 (p:Option AC) (w:A0) (a:Option AC×Nat×Nat->A0->Prop):(aI U2 (λ_=>[]) 41 [ah p] w a)=(
 aG p.isNone (au w (a (none,0,0))) (ff p 5 w λx=> ∀w1,Ext w w1->mJ w1 86 9 72 ⟨[aa 0,aa 0,aa 0,aa 0,ax 0,ax 0,ax 0,ax 0,aa 0]⟩ (none,0,0) (x.1,x.2.1,x.2.2) λ(r:Option AC×Nat×Nat) b=>au b (a (r.1,r.2.1,r.2.2)))):=by kernel_rfl
theorem M9 (p:Option AC) (n:Int) (w:A0) (a:Option AC×Nat×Nat->A0->Prop):(aI U2 (λ_=>[]) 51 [ah p,aa n] w a)=(
 ∃(x:Option AC),af A2 64 [ah p,aa n] w (ah x)/\aG x.isNone (au w (a (none,0,0))) (bH x 1 w λx=>aA A2 83 (.el fi) [ah x] w λx b=>au b (a (x.1,x.2.1,x.2.2)))):=by kernel_rfl
theorem SK (p:Option AC) (n:Int) (w:A0) (a:Int->A0->Prop):(aI U2 (λ_=>[]) 50 [ah p,aa n] w a)=(
 ∃(x:Option AC),af A2 64 [ah p,aa n] w (ah x)/\aG x.isNone (au w (a 0)) (bH p 2 w λx=> ∃(b:Int),af A2 82 [ah x,aa n] w (aa b)/\au w (a b))):=by kernel_rfl
theorem M_ (p:Option AC) (w:A0) (a:Option AC->A0->Prop):(aI U2 (λ_=>[]) 17 [ah p] w a)=(
 aG p.isNone (au w (a none)) (bH p 0 w λx=>au w (a x))):=by kernel_rfl
theorem Fg (p:Option AC) (w:A0) (a:Option AC×Nat×Nat->A0->Prop):(aI U2 (λ_=>[]) 32 [ah p] w a)=(
 aG p.isNone (au w (a (none,0,0))) (bH p 1 w λx=>aA A2 69 (.el fi) [ah x] w λx b=>au b (a (x.1,x.2.1,x.2.2)))):=by kernel_rfl
def wH:Nat->a7:=(λ|10=>[(45,Go.RX.El.one (Go.RX.Sc.int DA))]| _=>[])
theorem We (f c l:Int) (w:A0) (d:Option AC×Int×Unit->A0->Prop):(aI U2 wH 52 [aa f,aa c,aa l] w d)=(
 aA A2 40 (.bA [.one .ptr,.one (.int .i64)]) [aa f] w λ(x:Option AC×Int×Unit) a=>aG (x.2.1 != 0) (au a (d (none,x.2.1,()))) (aA A2 84 (.bA [.one .ptr,.one (.int .i64)]) [aa c] a λ(e:Option AC×Int×Unit) a=>aG (e.2.1 != 0) (au a (d (none,e.2.1,()))) (∀w1,Ext a w1->aN (w1.alloc (Obj.map ⟨[]⟩ 0)) ⟨[ah x.1,ah e.1,ah none,.slice none 0 0,.map (some w1.heap.size),.slice none 0 0]⟩ 103 λb a=>aA A2 85 (.bA [.one .ptr,.one (.int .i64)]) [aa c] a λ(x:
 Option AC×Int×Unit) a=>true=true/\true=true/\aC a (ad (ae b) 2) [ah x.1] λa=> ∃(I:Nat->Int×Unit->A0->Prop),(∃n, ∀w1,Ext a w1->I n (0,()) w1)/\ ∀(n:Nat) (s:Int×Unit) (w1:A0),I n s w1->aG (decide (s.1<c)) (aA A2 86 (.bA [.one .ptr,.one (.int .i64)]) [aa l] w1 λ(x:Option AC×Int×Unit) a=>aG (x.2.1 != 0) (au a (d (none,x.2.1,()))) (true=true/\true=true/\s9 a (ad (ae b) 3) λg=>aN a {toList:=[aa s.1,ah x.1,aa 0,aa 0,aa 0,
 ax 0,ax 0,ax 0,ah none,aa 0,ax 0,aa 0,aa 0,.slice none 0 0]} 143 λj a=>aN a {toList:=[ah (ae j)]} 139 λk a=> ∀w1,Ext a w1->mJ w1 139 1 8 ⟨[ah none]⟩ (g.1,g.2.1,g.2.2) (some ⟨k,0,none⟩,1,1) λ(r:Option AC×Nat×Nat) a=>true=true/\true=true/\aC a (ad (ae b) 3) [.slice r.1 r.2.1 r.2.2] λa=> ∀h,Ext a h-> ∃(i:Nat),i<n/\I i (aH .i64 s.1 1,()) h)) (au w1 (d (some ⟨b,0,none⟩,0,())))))):=by kernel_rfl
end Go.Proofs.YtlcenllcmeebhaaGreat.Mu
namespace Go.Proofs.YtlcenllcmeebhaaGreat
set_option maxRecDepth 100000
open Go.RX D
namespace Inv
variable {g:Gh} {s s':WD}
structure fa (g:Gh) (s s':WD):Prop where
 len:s'.1.length=s.1.length/\s'.2.length=s.2.length
 ws: ∀{f o x k:Int} {l:Nat},g f=some (o,l,x)->0<=k->k<16->cL s'.1 (16*f+k)=cL s.1 (16*f+k)
 tb: ∀{n:Nat} {d:DT},s.2[n]? =some d->d.1=3->s'.2[n]? =some d
 bt: ∀{n:Nat} {d:DT},s'.2[n]? =some d->d.1=3->s.2[n]? =some d
 fz: ∀d∈s'.2,d.1=0->d=zD
theorem fa.Yv (B:fa g s s') {f o x k:Int} {l:Nat} (h:g f=some (o,l,x)) (h0:0<=k) (h1:k<16):aK s'.1 (16*f+k)=aK s.1 (16*f+k):=by
 unfold aK;rw[B.ws h h0 h1]
theorem beside (I:Inv g s) (B:fa g s s'):Inv g s' where
 len:=by rw[B.len.1,B.len.2];exact I.len
 le:=by rw[B.len.2];exact I.le
 fz:=B.fz
 kd:=λ{f o l x} h=>by
  obtain⟨a,b,c,d⟩:=I.kd h;rw[B.len.2];exact⟨a,b,B.tb c rfl,d⟩
 inj:=I.inj
 sP:=λ{f o l x i} h h0 h1 e=>by
  rw[B.Yv h h0 h1] at e ⊢;exact I.sP h h0 h1 e
 leaf:=λ{f o l x i} h h0 h1=>by
  rw[B.Yv h h0 h1];exact I.leaf h h0 h1
 Fo:=λ{f o l x} h m=>by
  obtain⟨f',h1,p⟩:=I.Fo h m;refine⟨f',h1,?_⟩;rw[B.Yv h1 (by omega) (by omega)];exact p
 wf:=λ{f o l x i} h h0 h1 j=>by
  rw[B.Yv h h0 h1] at j;rw[B.ws h h0 h1];exact I.wf h h0 h1 j
 tb:=λ{n d} h k=>I.tb (B.bt h k) k
theorem H_ (B:fa g s s') {o p f:Int} {j:Nat} (h:dx g s o p f j):dx g s' o p f j:=
 ⟨h.1,by rw[B.Yv h.1 (eh p j).1 (eh p j).2];exact h.2⟩
theorem xN {r p:Int} (a: ¬ (0<=p/\p<65536)):bz s r false p=(0,0,2,()):=by
 unfold bz;rw[ao (by decide),av (by omega)]
theorem dB (I:Inv g s) (B:fa g s s') {o r:Int} (b:g r=some (o,3,0)) (p:Int):bz s' r false p=bz s r false p:=by
 by_cases a:0<=p/\p<65536
 ·obtain⟨f,j, _,c⟩:=I.lJ b a;rw[I.fm b a c,(I.beside B).fm b a (H_ B c),B.Yv c.1 (eh p j).1 (eh p j).2]
 ·rw[xN a,xN a]
theorem ni (B:fa g s s') (h:Ah g s):Ah g s':=λf o l x i a h0 h1 b c=>by
 rw[B.Yv a h0 h1] at b c;exact h a h0 h1 b c
theorem aai (s:WD) (r:Int) {p:Int} (a:0<=p/\p<65536):(bz s r false p).2.2.1=0\/bz s r false p=(0,0,4,()):=by
 unfold bz;rw[ao (by decide),ao (by omega)];split
 ·exact .inl rfl
 ·exact .inr rfl
theorem aaW (I:Inv g s) (nl:Ah g s) {o r p:Int} (b:g r=some (o,3,0)) (c:0<=p/\p<65536) (h:(bz s r false p).2.2.1=0): ∃f,dx g s o p f 0/\(aK s.1 (16*f+px 0 p % 16)).1=true/\(dJ s.1 r p).2.1=0:=by
 obtain⟨f,j, _,a⟩:=I.lJ b c;rw[I.fm b c a] at h;have d:=CL h;have e:=nl a.1 (eh p j).1 (eh p j).2 d a.2;subst e;refine⟨f,a,d,?_⟩;rw[(I.mn b c a).1];rfl
theorem acB (I:Inv g s) (nl:Ah g s) {o r p:Int} (a:g r=some (o,3,0)) (b:0<=p/\p<65536) (h:(bz s r false p).2.2.1=0):mz s o r p=0:=by
 obtain⟨_, _, _,e⟩:=I.aaW nl a b h;unfold mz;rw[av e]
theorem aaX (I:Inv g s) (nl:Ah g s) {o r p:Int} (a:g r=some (o,3,0)) (b:0<=p/\p<65536) (h:(bz s r false p).2.2.1=0):Cf s o r false p=0:=by
 unfold Cf;rw[av h];exact I.acB nl a b h
theorem PQ (I:Inv g s) {o r p:Int} (c:g r=some (o,3,0)) (h:(bz s r false p).2.2.1=0):(0<=p/\p<65536)/\0<=(bz s r false p).1:=by
 have a:0<=p/\p<65536:=by
  by_cases a:0<=p/\p<65536
  ·exact a
  ·rw[xN a] at h;exact absurd h (by decide)
 refine⟨a,?_⟩;obtain⟨f,j, _,i⟩:=I.lJ c a;rw[I.fm c a i] at h ⊢;have b:=CL h;have d:=lR s.1 (16*f+px j p % 16);unfold l5;rw[av b];generalize aK s.1 (16*f+px j p % 16)=e at*
 obtain⟨ep,er,el,ef,k⟩:=e;dsimp only at b d;subst b;obtain⟨l,m,n,q,t⟩:=mo.1 d;dsimp only;split<;>omega
end Inv
set_option maxRecDepth 100000
open Go.RX D
def lB {α:Type} (F:Nat->α) (v:Nat) (y:α):Nat->α:=λi=>if i=v then y else F i
theorem lj {α:Type} (F:Nat->α) (v:Nat) (y:α):lB F v y v=y:=av rfl
theorem nV {α:Type} {F:Nat->α} {v i:Nat} (h:i≠v) (y:α):lB F v y i=F i:=ao h
theorem CN (F:Nat->Nat) (v y:Nat): ∀n,((B3 n).map (lB F v y)).sum+(if v<n then F v else 0)=((B3 n).map F).sum+(if v<n then y else 0)
 |0=>rfl
 |n+1=>by
  have b:=CN F v y n;rw[List.range_succ,FJ,FJ,FS,FS];simp only[Dq,List.map_nil,E5,List.sum_nil];by_cases h:v=n
  ·subst h;rw[lj];rw[ao (Nat.lt_irrefl _),ao (Nat.lt_irrefl _)] at b;rw[av (GD _),av (GD _)];omega
  ·rw[nV (λe=>h e.symm)];by_cases a:v<n
   ·rw[av a,av a] at b;rw[av (by omega),av (by omega)];omega
   ·rw[ao a,ao a] at b;rw[ao (by omega),ao (by omega)];omega
def nG (tk:Nat->List TK) (q:TK->Bool):Nat:=((B3 17).map λi=>(tk i).countP q).sum
theorem zh (tk:Nat->List TK) (q:TK->Bool) {v:Nat} (hv:v<17) (y:List TK):nG (lB tk v y) q+(tk v).countP q=nG tk q+y.countP q:=by
 have h:=CN (λi=>(tk i).countP q) v (y.countP q) 17;rw[av hv,av hv] at h;have e:(λi=>(lB tk v y i).countP q)=lB (λi=>(tk i).countP q) v (y.countP q):=by
  funext i;unfold lB;split<;>rfl
 unfold nG;rw[e];exact h
theorem zj {tk:Nat->List TK} {q:TK->Bool} (h:0<nG tk q): ∃i t,i<17/\t∈tk i/\q t=true:=by
 unfold nG at h;have: ∀l:List Nat,0<(l.map λi=>(tk i).countP q).sum-> ∃i t,i∈l/\t∈tk i/\q t=true:=by
  intro l
  induction l with
  |nil=>intro h;simp at h
  |cons i l b=>
   intro h;rw[Dq,E5] at h;by_cases h1:0<(tk i).countP q
   ·obtain⟨t,a,c⟩:=Ds.1 h1;exact⟨i,t,Bx,a,c⟩
   ·obtain⟨j,t,d,a⟩:=b (by omega);exact⟨j,t,Cg _ d,a⟩
 obtain⟨i,t,hi,a⟩:=this _ h;exact⟨i,t,DB.1 hi,a⟩
theorem BK {tk:Nat->List TK} {q:TK->Bool} (h: ∀i t,t∈tk i->q t=false):nG tk q=0:=by
 rcases Cj (nG tk q) with e|e
 ·exact e
 ·obtain⟨i,t, _,b,a⟩:=zj e;rw[h i t b] at a;cases a
theorem nW {tk:Nat->List TK} {q:TK->Bool} {i:Nat} {t:TK} (hi:i<17) (a:t∈tk i) (b:q t=true):0<nG tk q:=by
 have h:=zh tk q hi [];have c:0<(tk i).countP q:=Ds.2 ⟨t,a,b⟩;simp only[List.countP_nil] at h;omega
def dY (tk:Nat->List TK) (f:Int):Nat:=nG tk λt=>t.2.2==f
def mX (tk:Nat->List TK) (a:Int):Nat:=nG tk λt=>t.2.1==a
abbrev Iw:Type:=Nat->Int->Option Int
def nH (fr:Iw) (v:Nat) (p:Int) (y:Option Int):Iw:=λi q=>if i=v/\q=p then y else fr i q
theorem fJ (fr:Iw) (v:Nat) (p:Int) (y:Option Int):nH fr v p y v p=y:=av ⟨rfl,rfl⟩
theorem bJ {fr:Iw} {v i:Nat} {p q:Int} (h: ¬ (i=v/\q=p)) (y:Option Int):nH fr v p y i q=fr i q:=ao h
def T8 (gr:List GT) (fr:Iw) (tk:Nat->List TK) (a:Int) (i o:Nat) (f:Int):Prop:=
 ∃k x,l_ gr a=some k/\gr[k]? =some x/\x.1=(o:Int)/\x.2.2.1=(i:Int)/\fr o x.2.1=some f/\cq (tk o) x.2.1=none
structure HC (fr:Iw) (tk:Nat->List TK) (ds:List DT) (gr:List GT):Prop where
 jy: ∀{i p f},fr i p=some f->1<=i/\i<=16/\0<=p/\p<65536
 kd: ∀{n:Nat} {d:DT},ds[n]? =some d->(d.1=0\/d.1=3\/d.1=4\/d.1=5)/\d.2.2.2.1=0/\0<=d.2.1/\d.2.1<=16
 TM: ∀{n:Nat} {d:DT},ds[n]? =some d->d.1=4-> ∃(i:Nat) (p:Int),(i:Int)=d.2.1/\fr i p=some (n:Int)/\cq (tk i) p=none
 own: ∀{i p f},fr i p=some f->cq (tk i) p=none-> ∃(n:Nat) (d:DT),(n:Int)=f/\ds[n]? =some d/\d.1=4/\d.2.1=(i:Int)
 AL: ∀{i p a f},cq (tk i) p=some (a,f)->fr i p=some f/\ ∃o:Nat,o≠i/\T8 gr fr tk a i o f
 nd: ∀i,((tk i).map (·.1)).Nodup
 inj: ∀{i p p' f},fr i p=some f->fr i p'=some f->cq (tk i) p=none->cq (tk i) p'=none->p=p'
 refs: ∀{n:Nat} {d:DT},ds[n]? =some d->d.2.2.1=(dY tk (n:Int):Int)
 uZ: ∀{n:Nat} {x:GT},gr[n]? =some x->x.2.2.2.2.1=(mX tk (n:Int):Int)
 gl:gr.length=16
 gk:og gr
theorem fp {gr:List GT} {a:Int} {k:Nat}:l_ gr a=some k<->(k:Int)=a/\k<gr.length/\gr.getD k zG≠zG:=by
 unfold l_;constructor
 ·intro h;split at h
  ·rename_i c;cases h;exact⟨by omega,by omega,c.2.2⟩
  ·cases h
 ·rintro⟨rfl,h1,b⟩;rw[av ⟨by omega,by omega,b⟩];rfl
theorem getD_some {gr:List GT} {k:Nat} {x:GT} (h:gr[k]? =some x):gr.getD k zG=x:=by
 rw[B4,h];rfl
namespace HC
variable {fr:Iw} {tk:Nat->List TK} {ds:List DT} {gr:List GT}
theorem Kv (H:HC fr tk ds gr) {i:Nat} {t:TK} (h:t∈tk i):cq (tk i) t.1=some t.2:=(lh (a:=t.2.1) (b:=t.2.2) (H.nd i)).2 h
theorem Kw (H:HC fr tk ds gr) {i:Nat} {p a f:Int} (h:cq (tk i) p=some (a,f)):(p,a,f)∈tk i:=(lh (H.nd i)).1 h
theorem Zc (H:HC fr tk ds gr) {i:Nat} {p a f:Int} (h:cq (tk i) p=some (a,f)): ∃(n:Nat) (d:DT) (o:Nat),(n:Int)=f/\ds[n]? =some d/\d.1=4/\d.2.1=(o:Int)/\o≠i/\T8 gr fr tk a i o f:=by
 obtain⟨_,o,e,hg⟩:=H.AL h;obtain⟨k,x,h1,g,j,l,b,c⟩:=hg;obtain⟨n,d,m,q,r,s⟩:=H.own b c;exact⟨n,d,o,m,q,r,s,e,k,x,h1,g,j,l,b,c⟩
theorem at4 (H:HC fr tk ds gr) {i:Nat} {p f:Int} (h:fr i p=some f): ∃(n:Nat) (d:DT),(n:Int)=f/\ds[n]? =some d/\d.1=4:=by
 cases b:cq (tk i) p with
 |none=>
  obtain⟨n,d,h1,c,e, _⟩:=H.own h b;exact⟨n,d,h1,c,e⟩
 |some y=>
  obtain⟨a,f'⟩:=y;obtain⟨n,d,o,h1,c,e, _⟩:=H.Zc b;have:=(H.AL b).1;rw[h] at this;cases this;exact⟨n,d,h1,c,e⟩
theorem IQ (H:HC fr tk ds gr) {n:Nat} (h:0<dY tk (n:Int)): ∃d,ds[n]? =some d/\d.1=4:=by
 obtain⟨i,t, _,a,b⟩:=zj h;obtain⟨m,d,o,h1,c,f, _⟩:=H.Zc (H.Kv a);have g:t.2.2=(n:Int):=by simpa using b
 have e:m=n:=Ar (h1.trans g);subst e;exact⟨d,c,f⟩
theorem Gx (H:HC fr tk ds gr) {g:List DT} (k: ∀{n:Nat} {d:DT},ds[n]? =some d->d.1=4->g[n]? =some d) (j: ∀{n:Nat} {d:DT},g[n]? =some d->ds[n]? =some d\/((d.1=0\/d.1=3\/d.1=5)/\d.2.2=(0,0,())/\0<=d.2.1/\d.2.1<=16)):HC fr tk g gr:=by
 have l: ∀{n:Nat} {d:DT},g[n]? =some d->(d.1=0\/d.1=3\/d.1=5)->dY tk (n:Int)=0:=λ{n d} h a=>by
  rcases Cj (dY tk (n:Int)) with e|e
  ·exact e
  ·obtain⟨d',b,c⟩:=H.IQ e;have:=k b c;rw[h] at this;cases this;omega
 refine⟨H.jy,λ{n d} h=>?_,λ{n d} h c=>?_,λ{i p f} h m=>?_,H.AL,H.nd,H.inj,λ{n d} h=>?_,H.uZ,H.gl,H.gk⟩
 ·rcases j h with h1|⟨h1,a,b⟩
  ·exact H.kd h1
  ·exact⟨by omega,by rw[a],b⟩
 ·rcases j h with h1|⟨h1,a⟩
  ·exact H.TM h1 c
  ·omega
 ·obtain⟨n,d,h1,a,b,c⟩:=H.own h m;exact⟨n,d,h1,k a b,b,c⟩
 ·rcases j h with h1|⟨h1,a, _⟩
  ·exact H.refs h1
  ·rw[l h h1,a];rfl
theorem PU (H:HC fr tk ds gr) {z_:List GT} (d:z_.length=gr.length) (j:og z_) (l: ∀{n:Nat} {x y:GT},gr[n]? =some x->z_[n]? =some y->y.2.2.2.2.1=x.2.2.2.2.1) (hs: ∀{n:Nat} {x:GT},gr[n]? =some x->x.2.2.2.2.1>0->z_[n]? =some x):HC fr tk ds z_:=by
 refine⟨H.jy,H.kd,H.TM,H.own,λ{i p a f} h=>?_,H.nd,H.inj,H.refs,λ{n y} h=>?_,d.trans H.gl,j⟩
 ·obtain⟨h1,o,m,k,x,e,b,r⟩:=H.AL h;refine⟨h1,o,m,k,x,?_,?_,r⟩
  ·obtain⟨c,v,g⟩:=fp.1 e;refine fp.2 ⟨c,by omega,?_⟩;have s:x.2.2.2.2.1>0:=by
    rw[H.uZ b];have:=nW (q:=λt=>t.2.1==(k:Int)) (by have:=H.jy h1;omega:i<17) (H.Kw h) (by simp[c]);unfold mX;omega
   rw[getD_some (hs b s)];rw[getD_some b] at g;exact g
  ·refine hs b ?_;obtain⟨c, _⟩:=fp.1 e;rw[H.uZ b];have:=nW (q:=λt=>t.2.1==(k:Int)) (by have:=H.jy h1;omega:i<17) (H.Kw h) (by simp[c]);unfold mX;omega
 ·have u:n<gr.length:=by rw[<-d];exact(AJ.1 h).1
  have hx:gr[n]? =some gr[n]:=B1 u;rw[l hx h];exact H.uZ hx
end HC
set_option maxRecDepth 100000
open Go.RX D
theorem nj (t:TK) (l:List TK) (p:Int):cq (t::l) p=if t.1=p then some t.2 else cq l p:=by grind[cq]
theorem Na {l l':List TK} (h:l.Perm l') (nd:(l.map (·.1)).Nodup) (p:Int):cq l p=cq l' p:=by
 grind[lh,qy]
theorem PV {t:TK} {l:List TK} (a:cq l t.1=none) (nd:(l.map (·.1)).Nodup):((mP t l).map (·.1)).Nodup:=by
 refine((nh t l).map _).nodup_iff.2 (DE.2 ⟨λb=>?_,nd⟩);obtain⟨x,hx,e⟩:=Bs.1 b;exact qy.1 a x hx e
theorem SL {t:TK} {l:List TK} (a:cq l t.1=none) (nd:(l.map (·.1)).Nodup) (p:Int):cq (mP t l) p=if t.1=p then some t.2 else cq l p:=by
 rw[Na (nh t l) (PV a nd),nj]
theorem Nb (l:List TK) (b p:Int):cq (l.filter λt=> !(t.1==b)) p=if p=b then none else cq l p:=by
 induction l with
 |nil=>unfold cq;simp
 |cons t=>
  rw[FV];by_cases t.1=b
  ·rw[nj]
   grind
  ·rw[av (by simpa),nj,nj]
   grind
theorem BL {l:List TK} {b:Int} {x:Int×Int} (nd:(l.map (·.1)).Nodup) (h:cq l b=some x):l.Perm ((b,x)::l.filter λt=> !(t.1==b)):=by
 induction l with
 |nil=>unfold cq at h;simp at h
 |cons t l c=>
  rw[nj] at h;rw[FV];by_cases e:t.1=b
  ·rw[av e] at h;cases h;rw[ao (by simp[e])];have a:l.filter (λt=> !(t.1==b))=l:=FW.2 (by grind);rw[a, <-e]
  grind
theorem Wf (q:TK->Bool) (t:TK) (l:List TK):(mP t l).countP q=l.countP q+(if q t=true then 1 else 0):=by
 rw[(nh t l).countP_eq,Dw]
theorem SN {l:List TK} {b:Int} {x:Int×Int} (nd:(l.map (·.1)).Nodup) (h:cq l b=some x) (q:TK->Bool):l.countP q=(l.filter λt=> !(t.1==b)).countP q+(if q (b,x)=true then 1 else 0):=by
 rw[(BL nd h).countP_eq,Dw]
theorem Wg {l:List TK} (b:Int) (nd:(l.map (·.1)).Nodup):((l.filter λt=> !(t.1==b)).map (·.1)).Nodup:=by grind
theorem CO {gr:List GT} {k j:Nat} {x y:GT} {a:Int} (hx:gr[k]? =some x) (b:y≠zG) (h:l_ gr a=some j):l_ (gr.set k y) a=some j:=by
 obtain⟨h1⟩:=fp.1 h;refine fp.2 ⟨h1,?_⟩
 grind
theorem xO {gr:List GT} (a:og gr) {k:Nat} {x:GT} (hx:gr[k]? =some x) (b:x≠zG) (n:Int):fv x n≠zG:=λe=>by
 rcases(a x (by grind)).1
 ·grind
 ·have:=congrArg (·.1) e;have:x.1=0:=this;omega
namespace HC
variable {fr:Iw} {tk:Nat->List TK} {ds:List DT} {gr:List GT}
theorem Zd (H:HC fr tk ds gr) {i:Nat} {p:Int} (h:fr i p=none):cq (tk i) p=none:=by
 cases a:cq _ p with
 |none=>rfl
 |some=>
  have:=(H.AL a).1
  grind
theorem Gy (H:HC fr tk ds gr) {v n:Nat} {a:Int} {d0:DT} (hv:1<=v/\v<=16) (E:0<=a/\a<65536) (t:ds[n]? =some d0) (h0:d0.1=0) (u:fr v a=none):
 HC (nH fr v a (some (n:Int))) tk (ds.set n (4,(v:Int),0,0,())) gr:=by
 have z:n<ds.length:=(AJ.1 t).1;have q: ∀{d},ds[n]? =some d->d.1=4->False:=λ{d} h l=>by rw[t] at h;cases h;omega
 have F:dY tk (n:Int)=0:=by
  rcases Cj (dY tk (n:Int)) with e|e
  ·exact e
  ·obtain⟨d,h1,g⟩:=H.IQ e;exact(q h1 g).elim
 have r: ∀{i p f},fr i p=some f-> ¬ (i=v/\p=a):=λ{i p f} h e=>by rw[e.1,e.2,u] at h;cases h
 have w: ∀{i p},fr i p=some (n:Int)->False:=λ{i p} h=>by
  obtain⟨m,d,h1,g,j⟩:=H.at4 h;have:m=n:=Ar h1;subst this;exact q g j
 refine⟨λ{i p f} h=>?_,λ{m d} h=>?_,λ{m d} h l=>?_,λ{i p f} h s=>?_,λ{i p b f} h=>?_,H.nd,λ{i p p' f} h h' s A=>?_,λ{m d} h=>?_,H.uZ,H.gl,H.gk⟩
 ·by_cases e:i=v/\p=a
  grind
  ·rw[bJ e] at h;exact H.jy h
 ·by_cases e:n=m
  grind
  ·rw[AF e] at h;exact H.kd h
 ·by_cases e:n=m
  ·subst e;rw[AM z] at h;cases h;exact⟨v,a,rfl,fJ _ _ _ _,H.Zd u⟩
  ·rw[AF e] at h;obtain⟨i,p,h1,g,j⟩:=H.TM h l;exact⟨i,p,h1,by rw[bJ (r g)];exact g,j⟩
 ·by_cases e:i=v/\p=a
  ·obtain⟨rfl,rfl⟩:=e;rw[fJ] at h;grind
  ·rw[bJ e] at h;obtain⟨m,d,h1,g,j,l⟩:=H.own h s;refine⟨m,d,h1,?_,j,l⟩;rw[AF (λe=>by subst e;exact q g j)];exact g
 ·obtain⟨h1,o,g,k,x,j,l,B,C,y,D⟩:=H.AL h;exact⟨by rw[bJ (r h1)];exact h1,o,g,k,x,j,l,B,C,by rw[bJ (r y)];exact y,D⟩
 ·by_cases e:i=v/\p=a
  ·obtain⟨rfl,rfl⟩:=e;rw[fJ] at h;cases h;by_cases e':p'=p
   ·exact e'.symm
   ·rw[bJ (λc=>e' c.2)] at h';exact(w h').elim
  ·rw[bJ e] at h;by_cases e':i=v/\p'=a
   ·obtain⟨rfl,rfl⟩:=e';rw[fJ] at h';cases h';exact(w h).elim
   ·rw[bJ e'] at h';exact H.inj h h' s A
 ·by_cases e:n=m
  grind
  ·rw[AF e] at h;exact H.refs h
theorem CP (H:HC fr tk ds gr) {v n:Nat} {a o:Int} (J:0<=o/\o<=16) (y:fr v a=some (n:Int)) (u:cq (tk v) a=none) (A:dY tk (n:Int)=0):
 HC (nH fr v a none) tk (ds.set n (5,o,0,0,())) gr:=by
 obtain⟨g,d0,w,z,K,B⟩:=H.own y u;have w:g=n:=Ar w;subst w;have L:g<ds.length:=(AJ.1 z).1;have M: ∀{i p b f},cq (tk i) p=some (b,f)->f≠(g:Int):=λ{i p b f} h e=>by
  have N:=H.jy (H.AL h).1;have:=nW (q:=λt=>t.2.2==(g:Int)) (by omega:i<17) (H.Kw h) (by simp[e]);unfold dY at A;omega
 refine⟨λ{i p f} h=>?_,λ{m d} h=>?_,λ{m d} h k4=>?_,λ{i p f} h s=>?_,λ{i p b f} h=>?_,H.nd,λ{i p p' f} h h' s C=>?_,λ{m d} h=>?_,H.uZ,H.gl,H.gk⟩
 ·by_cases e:i=v/\p=a
  ·obtain⟨rfl,rfl⟩:=e;rw[fJ] at h;cases h
  ·rw[bJ e] at h;exact H.jy h
 ·by_cases e:g=m
  grind
  ·rw[AF e] at h;exact H.kd h
 ·by_cases e:g=m
  grind
  ·rw[AF e] at h;obtain⟨i,p,h1,j,l⟩:=H.TM h k4;refine⟨i,p,h1,?_,l⟩;rw[bJ (λc=>?_)]
   ·exact j
   grind
 ·by_cases e:i=v/\p=a
  ·obtain⟨rfl,rfl⟩:=e;rw[fJ] at h;cases h
  ·rw[bJ e] at h;obtain⟨m,d,h1,j,l,r⟩:=H.own h s;refine⟨m,d,h1,?_,l,r⟩;by_cases D:g=m
   ·subst D;rw[z] at j;cases j;rw[B] at r;have ev:v=i:=Ar r;subst ev;rw[<-h1] at h;exact absurd ⟨rfl,H.inj h y s u⟩ e
   ·grind
 ·obtain⟨h1,o',j,k,x,l,r,E,F,G,I⟩:=H.AL h;refine⟨?_,o',j,k,x,l,r,E,F,?_,I⟩
  ·rw[bJ (λc=>?_)]
   ·exact h1
   ·rw[c.1,c.2,u] at h;cases h
  ·rw[bJ (λc=>?_)]
   ·exact G
   grind
 ·by_cases e:i=v/\p=a
  ·obtain⟨rfl,rfl⟩:=e;rw[fJ] at h;cases h
  ·rw[bJ e] at h;by_cases e':i=v/\p'=a
   ·obtain⟨rfl,rfl⟩:=e';rw[fJ] at h';cases h'
   ·rw[bJ e'] at h';exact H.inj h h' s C
 ·by_cases e:g=m
  grind
  ·rw[AF e] at h;exact H.refs h
end HC
set_option maxRecDepth 100000
open Go.RX D
namespace HC
variable {fr:Iw} {tk:Nat->List TK} {ds:List DT} {gr:List GT}
theorem take (H:HC fr tk ds gr) {v o n k:Nat} {b:Int} {x:GT} {d0:DT} (hb:0<=b/\b<65536) (J:fr v b=none) (R:ds[n]? =some d0) (hx:gr[k]? =some x) (B:x≠zG) (K:x.1=(o:Int)) (L:x.2.2.1=(v:Int)) (S:fr o x.2.1=some (n:Int)) (T:cq (tk o) x.2.1=none)
 (U:og (gr.set k (fv x 1))):
 HC (nH fr v b (some (n:Int))) (lB tk v (mP (b,(k:Int),(n:Int)) (tk v))) (ds.set n (d0.1,d0.2.1,d0.2.2.1+1,d0.2.2.2.1,())) (gr.set k (fv x 1)):=by
 have Y:n<ds.length:=(AJ.1 R).1;have C:k<gr.length:=(AJ.1 hx).1;obtain⟨M,Z,E⟩:(1<=v/\v<=16)/\(1<=o/\o<=16)/\o≠v:=by
  rcases(H.gk x (B5 hx)).1 with h|⟨h1,l,g, _⟩
  ·exact absurd h B
  ·rw[K] at h1 g;rw[L] at l g;exact⟨by omega,by omega,λe=>g (by rw[e])⟩
 have z: ∀{i p f},fr i p=some f-> ¬ (i=v/\p=b):=λ{i p f} h e=>by rw[e.1,e.2,J] at h;cases h
 have N:cq (tk v) b=none:=H.Zd J;have r: ∀i p,cq (lB tk v (mP (b,(k:Int),(n:Int)) (tk v)) i) p=if i=v/\p=b then some ((k:Int),(n:Int)) else cq (tk i) p:=λi p=>by
  by_cases e:i=v
  ·subst e;rw[lj,SL N (H.nd _)];by_cases u:p=b
   ·rw[av u.symm,av ⟨rfl,u⟩]
   ·rw[ao (λh=>u h.symm),ao (λh=>u h.2)]
  ·rw[nV e,ao (λh=>e h.1)]
 have V: ∀{m:Nat} {d:DT},ds[m]? =some d-> ∃d':DT,(ds.set n (d0.1,d0.2.1,d0.2.2.1+1,d0.2.2.2.1,()))[m]? =some d'/\d'.1=d.1/\d'.2.1=d.2.1:=λ{m d} h=>by
  grind
 have F: ∀{m:Nat} {d':DT},(ds.set n (d0.1,d0.2.1,d0.2.2.1+1,d0.2.2.2.1,()))[m]? =some d'-> ∃d:DT,ds[m]? =some d/\d'.1=d.1/\d'.2.1=d.2.1/\d'.2.2.2.1=d.2.2.2.1/\d'.2.2.1=d.2.2.1+(if m=n then 1 else 0):=λ{m d'} h=>by
  grind
 have W: ∀{a:Int} {i o':Nat} {f:Int},T8 gr fr tk a i o' f->T8 (gr.set k (fv x 1)) (nH fr v b (some (n:Int))) (lB tk v (mP (b,(k:Int),(n:Int)) (tk v))) a i o' f:=by
  rintro a i o' f ⟨j,y,h1,l,g,w,s,X⟩;have O:=CO hx (xO H.gk hx B 1) h1;have P:cq (lB tk v (mP (b,(k:Int),(n:Int)) (tk v)) o') y.2.1=none:=by
   rw[r,ao (z s)];exact X
  by_cases e:k=j
  ·subst e;rw[hx] at l;cases l;exact⟨k,fv x 1,O,AM C,g,w,by show nH fr v b _ o' x.2.1= _;rw[bJ (z s)];exact s,P⟩
  ·exact⟨j,y,O,by rw[AF e];exact l,g,w,by rw[bJ (z s)];exact s,P⟩
 have Q: ∀q:TK->Bool,nG (lB tk v (mP (b,(k:Int),(n:Int)) (tk v))) q=nG tk q+(if q (b,(k:Int),(n:Int))=true then 1 else 0):=λq=>by
  have h1:=zh tk q (by omega:v<17) (mP (b,(k:Int),(n:Int)) (tk v));rw[Wf] at h1;omega
 refine⟨λ{i p f} h=>?_,λ{m d} h=>?_,λ{m d} h w=>?_,λ{i p f} h t=>?_,λ{i p c f} h=>?_,λi=>?_,λ{i p p' f} h h' t D=>?_,λ{m d} h=>?_,λ{m y} h=>?_,by rw[Ae];exact H.gl,U⟩
 ·by_cases e:i=v/\p=b
  ·obtain⟨rfl,rfl⟩:=e;exact⟨M.1,M.2,hb⟩
  ·rw[bJ e] at h;exact H.jy h
 ·obtain⟨d',h1,l,g,s, _⟩:=F h;rw[l,s,g];exact H.kd h1
 ·obtain⟨d',h1,l,g, _⟩:=F h;obtain⟨i,p,G,A,I⟩:=H.TM h1 (by rw[<-l];exact w);exact⟨i,p,by rw[g];exact G,by rw[bJ (z A)];exact A,by rw[r,ao (z A)];exact I⟩
 ·by_cases e:i=v/\p=b
  ·rw[r,av e] at t;cases t
  ·rw[bJ e] at h;rw[r,ao e] at t;obtain⟨m,d,h1,l,g,w⟩:=H.own h t;obtain⟨d',G,A,I⟩:=V l;exact⟨m,d',h1,G,by rw[A];exact g,by rw[I];exact w⟩
 ·rw[r] at h;by_cases e:i=v/\p=b
  ·rw[av e] at h;cases h;obtain⟨rfl,rfl⟩:=e;refine⟨fJ _ _ _ _,o,E,k,fv x 1,?_,AM C,K,L,?_,?_⟩
   ·exact CO hx (xO H.gk hx B 1) (fp.2 ⟨rfl,C,by rw[getD_some hx];exact B⟩)
   ·show nH fr i p _ o x.2.1= _;rw[bJ (λc=>E c.1)];exact S
   ·show cq (lB tk i _ o) x.2.1=none;rw[nV E];exact T
  ·rw[ao e] at h;obtain⟨h1,o',l,g⟩:=H.AL h;exact⟨by rw[bJ e];exact h1,o',l,W g⟩
 ·by_cases e:i=v
  ·subst e;rw[lj];exact PV N (H.nd _)
  ·rw[nV e];exact H.nd i
 ·have e: ¬ (i=v/\p=b):=λc=>by rw[r,av c] at t;cases t
  have e': ¬ (i=v/\p'=b):=λc=>by rw[r,av c] at D;cases D
  rw[r,ao e] at t;rw[r,ao e'] at D;rw[bJ e] at h;rw[bJ e'] at h';exact H.inj h h' t D
 ·obtain⟨d',h1, _, _, _,s⟩:=F h;rw[s,H.refs h1];unfold dY;rw[Q]
  grind
 ·have u:mX (lB tk v (mP (b,(k:Int),(n:Int)) (tk v))) (m:Int)=mX tk (m:Int)+(if k=m then 1 else 0):=by
   unfold mX;rw[Q]
   grind
  rw[u];by_cases e:k=m
  ·subst e;rw[AM C] at h;cases h;rw[av rfl];have:=H.uZ hx;show x.2.2.2.2.1+1= _;omega
  ·rw[AF e] at h;rw[ao e];have:=H.uZ h;omega
theorem F5 (H:HC fr tk ds gr) {v n k:Nat} {b:Int} {x:GT} {d0:DT} (C:cq (tk v) b=some ((k:Int),(n:Int))) (D:ds[n]? =some d0) (hx:gr[k]? =some x) (O:x≠zG)
 (P:og (gr.set k (fv x (-1)))):
 HC (nH fr v b none) (lB tk v ((tk v).filter λt=> !(t.1==b))) (ds.set n (d0.1,d0.2.1,d0.2.2.1 - 1,d0.2.2.2.1,())) (gr.set k (fv x (-1))):=by
 have I:n<ds.length:=(AJ.1 D).1;have J:k<gr.length:=(AJ.1 hx).1;have S:=H.jy (H.AL C).1;have r: ∀i p,cq (lB tk v ((tk v).filter λt=> !(t.1==b)) i) p=if i=v/\p=b then none else cq (tk i) p:=λi p=>by
  by_cases e:i=v
  ·subst e;rw[lj,Nb];by_cases o:p=b
   ·rw[av o,av ⟨rfl,o⟩]
   ·rw[ao o,ao (λh=>o h.2)]
  ·rw[nV e,ao (λh=>e h.1)]
 have w: ∀{i p},cq (tk i) p=none-> ¬ (i=v/\p=b):=λ{i p} h e=>by rw[e.1,e.2,C] at h;cases h
 have Q: ∀{m:Nat} {d:DT},ds[m]? =some d-> ∃d':DT,(ds.set n (d0.1,d0.2.1,d0.2.2.1 - 1,d0.2.2.2.1,()))[m]? =some d'/\d'.1=d.1/\d'.2.1=d.2.1:=λ{m d} h=>by
  by_cases e:n=m
  ·subst e;rw[D] at h;cases h;exact⟨_,AM I,rfl,rfl⟩
  ·exact⟨d,by rw[AF e];exact h,rfl,rfl⟩
 have E: ∀{m:Nat} {d':DT},(ds.set n (d0.1,d0.2.1,d0.2.2.1 - 1,d0.2.2.2.1,()))[m]? =some d'-> ∃d:DT,ds[m]? =some d/\d'.1=d.1/\d'.2.1=d.2.1/\d'.2.2.2.1=d.2.2.2.1/\d'.2.2.1=d.2.2.1 - (if m=n then 1 else 0):=λ{m d'} h=>by
  by_cases e:n=m
  ·subst e;rw[AM I] at h;cases h;exact⟨d0,D,rfl,rfl,rfl,by rw[av rfl]⟩
  ·rw[AF e] at h;exact⟨d',h,rfl,rfl,rfl,by rw[ao (λc=>e c.symm)];omega⟩
 have R: ∀{a:Int} {i o':Nat} {f:Int},T8 gr fr tk a i o' f->T8 (gr.set k (fv x (-1))) (nH fr v b none) (lB tk v ((tk v).filter λt=> !(t.1==b))) a i o' f:=by
  rintro a i o' f ⟨j,y,h1,g,l,s,u,B⟩;have K:=CO hx (xO H.gk hx O (-1)) h1;have L:cq (lB tk v ((tk v).filter λt=> !(t.1==b)) o') y.2.1=none:=by
   rw[r,ao (w B)];exact B
  by_cases e:k=j
  ·subst e;rw[hx] at g;cases g;exact⟨k,fv x (-1),K,AM J,l,s,by show nH fr v b _ o' x.2.1= _;rw[bJ (w B)];exact u,L⟩
  ·exact⟨j,y,K,by rw[AF e];exact g,l,s,by rw[bJ (w B)];exact u,L⟩
 have M: ∀q:TK->Bool,nG (lB tk v ((tk v).filter λt=> !(t.1==b))) q+(if q (b,(k:Int),(n:Int))=true then 1 else 0)=nG tk q:=λq=>by
  have h1:=zh tk q (by omega:v<17) ((tk v).filter λt=> !(t.1==b));have g:=SN (H.nd v) C q;omega
 refine⟨λ{i p f} h=>?_,λ{m d} h=>?_,λ{m d} h s=>?_,λ{i p f} h z=>?_,λ{i p c f} h=>?_,λi=>?_,λ{i p p' f} h h' z N=>?_,λ{m d} h=>?_,λ{m y} h=>?_,by rw[Ae];exact H.gl,P⟩
 ·by_cases e:i=v/\p=b
  ·rw[show nH fr v b none i p=none from av e] at h;cases h
  ·rw[bJ e] at h;exact H.jy h
 ·obtain⟨d',h1,g,l,u, _⟩:=E h;rw[g,u,l];exact H.kd h1
 ·obtain⟨d',h1,g,l, _⟩:=E h;obtain⟨i,p,F,G,A⟩:=H.TM h1 (by rw[<-g];exact s);exact⟨i,p,by rw[l];exact F,by rw[bJ (w A)];exact G,by rw[r,ao (w A)];exact A⟩
 ·by_cases e:i=v/\p=b
  ·rw[show nH fr v b none i p=none from av e] at h;cases h
  ·rw[bJ e] at h;rw[r,ao e] at z;obtain⟨m,d,h1,g,l,s⟩:=H.own h z;obtain⟨d',F,G,A⟩:=Q g;exact⟨m,d',h1,F,by rw[G];exact l,by rw[A];exact s⟩
 ·rw[r] at h;by_cases e:i=v/\p=b
  ·rw[av e] at h;cases h
  ·rw[ao e] at h;obtain⟨h1,o',g,l⟩:=H.AL h;exact⟨by rw[bJ e];exact h1,o',g,R l⟩
 ·by_cases e:i=v
  ·subst e;rw[lj];exact Wg _ (H.nd _)
  ·rw[nV e];exact H.nd i
 ·have e: ¬ (i=v/\p=b):=λc=>by rw[show nH fr v b none i p=none from av c] at h;cases h
  have e': ¬ (i=v/\p'=b):=λc=>by rw[show nH fr v b none i p'=none from av c] at h';cases h'
  rw[r,ao e] at z;rw[r,ao e'] at N;rw[bJ e] at h;rw[bJ e'] at h';exact H.inj h h' z N
 ·obtain⟨d',h1, _, _, _,u⟩:=E h;have:=M λt=>t.2.2==(m:Int);rw[u,H.refs h1];unfold dY;dsimp only at this;by_cases e:m=n
  ·subst e;rw[av (by simp)] at this;rw[av rfl];omega
  ·rw[ao (by simp;omega)] at this;rw[ao e];omega
 ·have o:mX (lB tk v ((tk v).filter λt=> !(t.1==b))) (m:Int)+(if k=m then 1 else 0)=mX tk (m:Int):=by
   have:=M λt=>t.2.1==(m:Int);dsimp only at this;unfold mX
   grind
  by_cases e:k=m
  ·subst e;rw[AM J] at h;cases h;rw[av rfl] at o;have:=H.uZ hx;show x.2.2.2.2.1+ -1= _;omega
  ·rw[AF e] at h;rw[ao e] at o;have:=H.uZ h;omega
theorem gone (H:HC fr tk ds gr) {v:Nat} {w:List DT} (hv:1<=v/\v<=16) (O:tk v=[]) (I: ∀{n:Nat} {d:DT},ds[n]? =some d->d.1=4->d.2.1=(v:Int)->d.2.2.1=0)
 (J: ∀{n:Nat} {d:DT},ds[n]? =some d->d.1=4->d.2.1≠(v:Int)->w[n]? =some d)
 (B: ∀{n:Nat} {d:DT},w[n]? =some d->(ds[n]? =some d/\ ¬ (d.1=4/\d.2.1=(v:Int)))\/((d.1=0\/d.1=3\/d.1=5)/\d.2.2=(0,0,())/\0<=d.2.1/\d.2.1<=16))
 (P:og (cP gr (v:Int))):
 HC (λi p=>if i=v then none else fr i p) tk w (cP gr (v:Int)):=by
 have C: ∀{i p b f},cq (tk i) p=some (b,f)->i≠v:=λ{i p b f} h e=>by
  subst e;rw[O] at h;unfold cq at h;simp at h
 have K: ∀{a:Int} {i o:Nat} {f p:Int},cq (tk i) p=some (a,f)->T8 gr fr tk a i o f->o≠v:=by
  rintro a i o f p l ⟨k,x,h1,g,j,r,L,D⟩ e;subst e;obtain⟨n,d,Q,M,R,S⟩:=H.own L D;have h0:=I M R S;have E:=H.jy (H.AL l).1;have:=nW (q:=λt=>t.2.2==(n:Int)) (by omega:i<17) (H.Kw l) (by simp[Q]);have h1:=H.refs M;unfold dY at h1;omega
 have T: ∀{a:Int} {i o:Nat} {f p:Int},cq (tk i) p=some (a,f)->T8 gr fr tk a i o f->T8 (cP gr (v:Int)) (λi p=>if i=v then none else fr i p) tk a i o f:=by
  intro a i o f p l hg;have U:=K l hg;have V:=C l;obtain⟨k,x,h1,g,j,r,L,D⟩:=hg;have Z:oT (v:Int) x=false:=by
   unfold oT;rw[j,r]
   grind
  have E:(cP gr (v:Int))[k]? =some x:=by
   unfold cP
   grind
  obtain⟨s,u,z⟩:=fp.1 h1;refine⟨k,x,fp.2 ⟨s,by unfold cP;rw[DL];exact u,?_⟩,E,j,r,?_,D⟩
  ·rw[getD_some E];rw[getD_some g] at z;exact z
  grind
 have W: ∀{n:Nat} {d:DT},w[n]? =some d->(d.1=0\/d.1=3\/d.1=5)->d.2.2=(0,0,())->dY tk (n:Int)=0:=λ{n d} h g j=>by
  rcases Cj (dY tk (n:Int)) with e|e
  ·exact e
  ·obtain⟨d',s,u⟩:=H.IQ e;by_cases N:d'.2.1=(v:Int)
   ·have:=H.refs s;have:=I s u N;omega
   ·have:=J s u N;rw[h] at this;cases this;omega
 refine⟨λ{i p f} h=>?_,λ{m d} h=>?_,λ{m d} h r=>?_,λ{i p f} h l=>?_,λ{i p c f} h=>?_,H.nd,λ{i p p' f} h h' l X=>?_,λ{m d} h=>?_,λ{m y} h=>?_,by unfold cP;rw[DL];exact H.gl,P⟩
 ·by_cases e:i=v
  ·rw[av e] at h;cases h
  ·rw[ao e] at h;exact H.jy h
 ·rcases B h with ⟨h1, _⟩|⟨h1,g,j⟩
  ·exact H.kd h1
  ·exact⟨by omega,by rw[g],j⟩
 ·rcases B h with ⟨h1,g⟩|⟨h1, _⟩
  ·obtain⟨i,p,s,u,z⟩:=H.TM h1 r;exact⟨i,p,s,by rw[ao (λe=>g ⟨r,by rw[<-s,e]⟩)];exact u,z⟩
  ·omega
 ·by_cases e:i=v
  ·rw[av e] at h;cases h
  ·rw[ao e] at h;obtain⟨m,d,h1,g,j,r⟩:=H.own h l;exact⟨m,d,h1,J g j (λc=>e (Ar (r.symm.trans c))),j,r⟩
 ·obtain⟨h1,o,g,j⟩:=H.AL h;exact⟨by rw[ao (C h)];exact h1,o,g,T h j⟩
 ·by_cases e:i=v
  ·rw[av e] at h;cases h
  ·rw[ao e] at h h';exact H.inj h h' l X
 ·rcases B h with ⟨h1, _⟩|⟨h1,g, _⟩
  ·exact H.refs h1
  ·rw[W h h1 g,g];rfl
 ·unfold cP at h;rw[F6] at h;obtain⟨x,hx,A⟩:=Option.map_eq_some_iff.1 h;by_cases e:oT (v:Int) x=true
  ·rw[av e] at A;subst A;have:mX tk (m:Int)=0:=by
    refine BK λi t l=>?_;cases F:t.2.1==(m:Int) with
    |false=>rfl
    |true=>
     have F:t.2.1=(m:Int):=by simpa using F
     have G:=H.Kv l;obtain⟨_,o, _,hg⟩:=H.AL (a:=t.2.1) (f:=t.2.2) G;have U:=K (a:=t.2.1) (f:=t.2.2) G hg;have V:=C (b:=t.2.1) (f:=t.2.2) G;obtain⟨k,x',h1,g,j,r, _⟩:=hg;obtain⟨s, _⟩:=fp.1 h1;have Y:k=m:=Ar (s.trans F);subst Y;rw[hx] at g;cases g;unfold oT at e;rw[j,r] at e
     grind
   rw[this];rfl
  ·rw[ao e] at A;subst A;exact H.uZ hx
end HC
set_option maxRecDepth 100000
open Go.RX D
def mg (h:HS):Iw:=λi p=>match h.g i with
 |some x=>if(bz h.s x.root false p).2.2.1=0 then some (bz h.s x.root false p).1 else none
 |none=>none
def jd (h:HS) (i:Nat):List TK:=match h.g i with
 |some x=>x.tk
 |none=>[]
def fW (h:HS) (i:Nat) (p:Int):Int×Int×Int×Unit:=match h.g i with
 |some x=>bz h.s x.root false p
 |none=>(0,0,4,())
theorem bN {h:HS} {i:Nat} {x:GV} (hx:h.g i=some x) (p:Int):fW h i p=bz h.s x.root false p:=by unfold fW;rw[hx]
theorem gA {h:HS} {i:Nat} (hx:h.g i=none) (p:Int):fW h i p=(0,0,4,()):=by unfold fW;rw[hx]
theorem ku (h:HS) (i:Nat) (p:Int):mg h i p=if(fW h i p).2.2.1=0 then some (fW h i p).1 else none:=by
 unfold mg fW;cases h.g i with
 |none=>rfl
 |some x=>rfl
structure Aa (h h':HS) (P:Nat->Int->Prop):Prop where
 to: ∀{i:Nat} {q:Int},¬ P i q->fW h' i q=fW h i q
theorem Aa.refl (h:HS) (P:Nat->Int->Prop):Aa h h P:=⟨λ_=>rfl⟩
theorem Aa.of {h h':HS} (hs:h'.s=h.s) (hg:h'.g=h.g) (P:Nat->Int->Prop):Aa h h' P:=⟨λ{i q} _=>by unfold fW;rw[hs,hg]⟩
theorem Aa.trans {h1 c d:HS} {P:Nat->Int->Prop} (a:Aa h1 c P) (b:Aa c d P):Aa h1 d P:=⟨λe=>(b.to e).trans (a.to e)⟩
structure KD (s s':WD):Prop where
 k4: ∀{n:Nat} {d:DT},s.2[n]? =some d->d.1=4-> ∃d',s'.2[n]? =some d'/\(d'.1=4\/d'.1=5)
 k5: ∀{n:Nat} {d:DT},s.2[n]? =some d->d.1=5-> ∃d',s'.2[n]? =some d'/\d'.1=5
theorem KD.refl {s s':WD} (h:s'.2=s.2):KD s s':=⟨λ{n d} h1 a=>⟨d,by rw[h];exact h1,.inl a⟩,λ{n d} h1 b=>⟨d,by rw[h];exact h1,b⟩⟩
theorem KD.trans {s t u:WD} (a:KD s t) (b:KD t u):KD s u:=by
 refine⟨λh1 e=>?_,λh1 f=>?_⟩
 ·obtain⟨d',d,c⟩:=a.k4 h1 e;rcases c with c|c
  ·exact b.k4 d c
  ·obtain⟨d2,f1,f2⟩:=b.k5 d c;exact⟨d2,f1,.inr f2⟩
 ·obtain⟨d',d,c⟩:=a.k5 h1 f;exact b.k5 d c
theorem KD.set {s:WD} {W:List Int} {n:Nat} {d0 d1:DT} (h0:s.2[n]? =some d0) (a:d0.1=4->d1.1=4\/d1.1=5) (b:d0.1=5->d1.1=5):KD s (W,s.2.set n d1):=by
 have c:n<s.2.length:=(AJ.1 h0).1;have key: ∀{m:Nat} {d:DT},s.2[m]? =some d->(m=n/\d=d0/\(s.2.set n d1)[m]? =some d1)\/(s.2.set n d1)[m]? =some d:=λ{m d} h=>by
  by_cases e:n=m
  ·subst e;rw[h0] at h;cases h;exact .inl ⟨rfl,rfl,AM c⟩
  ·rw[AF e];exact .inr h
 refine⟨λh k=>?_,λh k=>?_⟩
 ·rcases key h with ⟨_,rfl,e⟩|e
  ·exact⟨_,e,a k⟩
  ·exact⟨_,e,.inl k⟩
 ·rcases key h with ⟨_,rfl,e⟩|e
  ·exact⟨_,e,b k⟩
  ·exact⟨_,e,k⟩
theorem s6.kd {P:Int->Int->Prop} {o:Int} {g g':Gh} {s s':WD} (C:s6 P o g g' s s'):KD s s':=by
 refine⟨λ{n d} h1 a=>⟨d,C.kp.ks h1 a,.inl a⟩,λ{n d} h1 b=>?_⟩;obtain⟨d',c,f⟩:=C.kk h1 (.inr b);refine⟨d',c,f.elim id λe=>?_⟩;rw[b] at e;exact absurd e.2 (by decide)
def uL (o:Int) (gh cI:Gh) (s s':WD):Prop:=(∀(f:Int) (v:Int×Nat×Int),gh f=some v->cI f=some v\/iS s' f)/\(∀f,iS s f->iS s' f)/\ ∀(f:Int) (v:Int×Nat×Int),gh f=some v->v.1≠o->cI f=some v
theorem uL.refl {o:Int} (gh:Gh) (s:WD):uL o gh gh s s:=⟨λ_ _ h=> .inl h,λ_ h=>h,λ_ _ h _=>h⟩
theorem uL.trans {o:Int} {a b c:Gh} {s t u:WD} (h:uL o a b s t) (k:uL o b c t u):uL o a c s u:=⟨λf v d=>(h.1 f v d).elim (k.1 f v) λc=> .inr (k.2.1 f c),λf c=>k.2.1 f (h.2.1 f c),λf v d e=>k.2.2 f v (h.2.2 f v d e) e⟩
theorem s6.gks {P:Int->Int->Prop} {o:Int} {g g':Gh} {s s':WD} (C:s6 P o g g' s s'):uL o g g' s s':=⟨λ_ _ h=>C.gk h,λ_ c=>c.kept C.kp,λ_ _ h a=>(C.OC a h).1⟩
theorem iS.kd {s s':WD} {f:Int} (h:iS s f) (K:KD s s') (b: ∀k:Int,0<=k->k<16->cL s'.1 (16*f+k)=cL s.1 (16*f+k)):iS s' f:=by
 obtain⟨h0,d,h1,c,e⟩:=h;obtain⟨d',g,i⟩:=K.k5 h1 c;exact⟨h0,d',g,i,λk k0 a=>by rw[b k k0 a];exact e k k0 a⟩
theorem uL.kd {o:Int} {g:Gh} {s s':WD} (K:KD s s') (a: ∀{n:Nat} {d:DT},s.2[n]? =some d->d.1=5-> ∀k:Int,0<=k->k<16->cL s'.1 (16*(n:Int)+k)=cL s.1 (16*(n:Int)+k)):uL o g g s s':=by
 refine⟨λ_ _ h=> .inl h,λf c=>?_,λ_ _ h _=>h⟩;refine c.kd K λk k0 b=>?_;obtain⟨h0,d,h1,e, _⟩:=c;have:=a h1 e k k0 b;rw[show((f.toNat:Nat):Int)=f by omega] at this;exact this
structure rJ (h h':HS) (P:Nat->Int->Prop) (f:Int):Prop where
 pg:Aa h h' P
 ws: ∀{m:Nat} {d d':DT},h.s.2[m]? =some d->d.1=4->h'.s.2[m]? =some d'->d'.1=4->(m:Int)≠f-> ∀k:Int,0<=k->k<16->cL h'.s.1 (16*(m:Int)+k)=cL h.s.1 (16*(m:Int)+k)
 kd:KD h.s h'.s
theorem rJ.refl (h:HS) (P:Nat->Int->Prop) (f:Int):rJ h h P f:=⟨Aa.refl h P,λ_ _ _ _ _ _ _ _=>rfl,.refl rfl⟩
theorem rJ.of {h h':HS} (hs:h'.s=h.s) (hg:h'.g=h.g) (P:Nat->Int->Prop) (f:Int):rJ h h' P f:=⟨Aa.of hs hg P,λ_ _ _ _ _ _ _ _=>by rw[hs],.refl (by rw[hs])⟩
theorem rJ.mono {h h':HS} {P b:Nat->Int->Prop} {f:Int} (a:rJ h h' P f) (d: ∀{i:Nat} {q:Int},P i q->b i q):rJ h h' b f:=⟨⟨λe=>a.pg.to λc=>e (d c)⟩,a.ws,a.kd⟩
theorem rJ.trans {h1 h i:HS} {P:Nat->Int->Prop} {f:Int} (a:rJ h1 h P f) (b:rJ h i P f):rJ h1 i P f:=by
 refine⟨Aa.trans a.pg b.pg,λ{m d d'} j l n e o k k0 p=>?_,a.kd.trans b.kd⟩;obtain⟨d2,g,c⟩:=a.kd.k4 j l;rcases c with c|c
 ·rw[b.ws g c n e o k k0 p,a.ws j l g c o k k0 p]
 ·obtain⟨d3,q,r⟩:=b.kd.k5 g c;rw[n] at q;cases q;rw[r] at e;exact absurd e (by decide)
structure HI (gh:Gh) (h:HS):Prop where
 inv:Inv gh h.s
 rt:Rt gh
 nl:Ah gh h.s
 sz:h.s.1.length=16*h.s.2.length
 jy: ∀{i:Nat} {x:GV},h.g i=some x->1<=i/\i<=16
 root: ∀{i:Nat} {x:GV},h.g i=some x->gh x.root=some ((i:Int),3,0)
 own: ∀{f o y:Int},gh f=some (o,3,y)-> ∃(i:Nat) (x:GV),(i:Int)=o/\h.g i=some x
 hc:HC (mg h) (jd h) h.s.2 h.gr
theorem cR {h:HS} {i:Nat} {x:GV} (hx:h.g i=some x) (p:Int):mg h i p=if(bz h.s x.root false p).2.2.1=0 then some (bz h.s x.root false p).1 else none:=by
 unfold mg;rw[hx]
theorem gB {h:HS} {i:Nat} (hx:h.g i=none) (p:Int):mg h i p=none:=by
 unfold mg;rw[hx]
theorem gD {h:HS} {i:Nat} {x:GV} (hx:h.g i=some x):jd h i=x.tk:=by unfold jd;rw[hx]
theorem XG (h:HS) (v:Int):vE h v=jd h v.toNat:=rfl
section
variable {gh cI:Gh} {h:HS}
namespace HI
theorem rdy (H:HI gh h) {Q:Sys} (l:N_ Q h.s):Cl Q h where
 NT:=l
 sz:=by rw[H.sz];exact Dx _
 rr:=λv d=>by
  obtain⟨x,hx,e, _⟩:=bM d;rw[e];have:=H.inv.uR (H.root hx);exact⟨this.1,this.2.1⟩
 pg:=λv t i=>by
  rw[XG] at i;have:=H.hc.jy (H.hc.AL (a:=t.2.1) (f:=t.2.2) (H.hc.Kv i)).1;omega
 new:=λv a b c x hx d h0=>by
  obtain⟨x',j,e,hv, _⟩:=bM d;rw[hx] at j;cases j;rw[e] at h0;have k:=H.root hx;rw[hv] at k;have g:=(H.inv.map k h0).2;obtain⟨_, _, _, _,g, _⟩:=g;have:mg h v.toNat b=none:=by rw[cR hx,ao (by rw[g];decide)]
  have:=H.hc.Zd this;rw[gD hx] at this;exact this
theorem yL (H:HI gh h) {v:Nat} {x:GV} (hx:h.g v=some x) {p:Int} {s1 s':WD} (h1: ∀{i:Nat} {x:GV},h.g i=some x-> ∀q,bz s1 x.root false q=bz h.s x.root false q) (b:Inv gh s1) (C:s6 (ou (v:Int) 0 p) (v:Int) gh cI s1 s') {y:Option Int}
 (d:(if(bz s' x.root false p).2.2.1=0 then some (bz s' x.root false p).1 else none)=y) {h':HS} (hs:h'.s=s') (hg: ∀i,(h'.g i).map GV.root=(h.g i).map GV.root):mg h'=nH (mg h) v p y:=by
 funext i q;have hi:=hg i;cases a:h.g i with
 |none=>
  rw[a] at hi;have f:h'.g i=none:=by simpa using hi
  rw[gB f];have j: ¬ (i=v/\q=p):=λc=>by rw[c.1,hx] at a;cases a
  rw[bJ j,gB a]
 |some z=>
  rw[a] at hi;obtain⟨z',k,l⟩: ∃z',h'.g i=some z'/\z'.root=z.root:=by
   cases hc:h'.g i with
   |none=>rw[hc] at hi;cases hi
   |some z'=>rw[hc] at hi;exact⟨z',rfl,by simpa using hi⟩
  rw[cR k,hs,l];by_cases e:i=v/\q=p
  ·obtain⟨rfl,rfl⟩:=e;rw[hx] at a;cases a;rw[fJ,d]
  ·rw[bJ e,cR a];have m:bz s' z.root false q=bz h.s z.root false q:=by
    rw[<-h1 a q];refine b.zc C.inv C.DD C.root (o:=(i:Int)) (H.root a) λc=>e ?_;obtain⟨c1,c2⟩:=c;exact⟨Ar c1,c2⟩
   rw[m]
theorem Gz (H:HI gh h) {v:Nat} {p:Int} {s1 s':WD} (h1: ∀{i:Nat} {x:GV},h.g i=some x-> ∀q,bz s1 x.root false q=bz h.s x.root false q) (d:Inv gh s1) (C:s6 (ou (v:Int) 0 p) (v:Int) gh cI s1 s') {h':HS} (hs:h'.s=s') (hg: ∀i,(h'.g i).map GV.root=(h.g i).map GV.root):Aa h h' (λi q=>i=v/\q=p):=by
 refine⟨λ{i q} b=>?_⟩;have hi:=hg i;cases a:h.g i with
 |none=>
  rw[a] at hi;have b:h'.g i=none:=by simpa using hi
  unfold fW;rw[b,a]
 |some z=>
  rw[a] at hi;obtain⟨z',e,f⟩: ∃z',h'.g i=some z'/\z'.root=z.root:=by
   cases hc:h'.g i with
   |none=>rw[hc] at hi;cases hi
   |some z'=>rw[hc] at hi;exact⟨z',rfl,by simpa using hi⟩
  rw[bN e,bN a,hs,f, <-h1 a q];refine d.zc C.inv C.DD C.root (o:=(i:Int)) (H.root a) λc=>b ?_;obtain⟨c1,c2⟩:=c;exact⟨Ar c1,c2⟩
theorem base (H:HI gh h) {v:Nat} {p:Int} {s1 s':WD} (C:s6 (ou (v:Int) 0 p) (v:Int) gh cI s1 s') (c:s1.1.length=h.s.1.length/\s1.2.length=h.s.2.length) (nl:Ah gh s1) {h':HS} (hs:h'.s=s') (hg: ∀i,(h'.g i).map GV.root=(h.g i).map GV.root)
 (hc:HC (mg h') (jd h') s'.2 h'.gr):HI cI h' where
 inv:=by rw[hs];exact C.inv
 rt:=H.rt.c_ C.root
 nl:=by
  rw[hs];exact C.lg (λo q k a b=>a.2.trans b.2.symm) nl
 sz:=by
  rw[hs,C.len.1,C.len.2,c.1,c.2];exact H.sz
 jy:=λ{i x} hx=>by
  have hi:=hg i;rw[hx] at hi;cases hc:h.g i with
  |none=>rw[hc] at hi;cases hi
  |some z=>exact H.jy hc
 root:=λ{i x} hx=>by
  have hi:=hg i;rw[hx] at hi;cases hc:h.g i with
  |none=>rw[hc] at hi;cases hi
  |some z=>
   rw[hc] at hi;have d:x.root=z.root:=by simpa using hi
   rw[d];exact C.root.to (H.root hc)
 own:=λ{f o y} e=>by
  obtain⟨i,x,h1,j⟩:=H.own ((C.root o f y).1 e);have hi:=hg i;rw[j] at hi;cases hc:h'.g i with
  |none=>rw[hc] at hi;cases hi
  |some z=>exact⟨i,z,h1,hc⟩
 hc:=by rw[hs];exact hc
theorem CQ (H:HI gh h) {s':WD} (B:Inv.fa gh h.s s') {h':HS} (hs:h'.s=s') (hg:h'.g=h.g) (P:Nat->Int->Prop):Aa h h' P:=by
 refine⟨λ{i q} _=>?_⟩;cases hi:h.g i with
 |none=>rw[gA hi,gA (by rw[hg];exact hi)]
 |some z=>rw[bN hi,bN (by rw[hg];exact hi),hs];exact H.inv.dB B (H.root hi) q
theorem side (H:HI gh h) {s':WD} (B:Inv.fa gh h.s s') {z_:List GT} {NS:List Po.PT} (hc:HC (mg h) (jd h) s'.2 z_):HI gh {s:=s',g:=h.g,gr:=z_,po:=NS} where
 inv:=H.inv.beside B
 rt:=H.rt
 nl:=Inv.ni B H.nl
 sz:=by
  show s'.1.length=16*s'.2.length;rw[B.len.1,B.len.2];exact H.sz
 jy:=H.jy
 root:=H.root
 own:=H.own
 hc:=by
  have e:mg {s:=s',g:=h.g,gr:=z_,po:=NS}=mg h:=by
   funext i p;cases hx:h.g i with
   |none=>
    rw[gB hx];exact gB (h:={s:=s',g:=h.g,gr:=z_,po:=NS}) hx p
   |some x=>
    rw[cR hx,cR (h:={s:=s',g:=h.g,gr:=z_,po:=NS}) hx];show(if(bz s' x.root false p).2.2.1=0 then _ else _)= _;rw[H.inv.dB B (H.root hx)]
  rw[e];exact hc
end HI
end
set_option maxRecDepth 100000
open Go.RX D
theorem rt4 {o r:Int} (a:1<=o/\o<=16) (b:0<=r/\r<=65535):dT 4 o r 0=true:=by unfold dT jO;simp;omega
theorem rt5 {o:Int} (a:0<=o/\o<=16):dT 5 o 0 0=true:=by unfold dT jO;simp;omega
theorem Ia {o:Int} (a:1<=o/\o<=16):aP 4 o zD=((4,o,0,0,()),0):=by
 have b:dT 0 0 0 0=true:=by decide
 have e:h_ 0 0 0 0 4 o=0:=by
  unfold h_;rw[b,ao (by decide),ao (by decide),av (by decide),ao (show ¬ (4:Int)=5 by decide),rt4 a ⟨by decide,by decide⟩,ao (by decide)]
 unfold aP zD mS lD;dsimp only;rw[e];rfl
theorem Nc {o:Int} (a:1<=o/\o<=16):aP 0 0 (4,o,0,0,())=(zD,0):=by
 have e:h_ 4 o 0 0 0 0=0:=by
  unfold h_;rw[rt4 a ⟨by decide,by decide⟩,ao (by decide),ao (by decide),av (by decide),ao (show ¬ (0:Int)=5 by decide)];decide
 unfold aP mS lD;dsimp only;rw[e];rfl
theorem BM {o v:Int} (a:1<=o/\o<=16):aP 5 v (4,o,0,0,())=((5,o,0,0,()),0):=by
 have e:h_ 4 o 0 0 5 v=0:=by
  unfold h_;rw[rt4 a ⟨by decide,by decide⟩,ao (by decide),ao (by decide),av (by decide),av rfl,rt5 ⟨by omega,a.2⟩,ao (by decide)]
 unfold aP mS lD;dsimp only;rw[e];rfl
theorem Ib {o:Int} (a:0<=o/\o<=16):aP 0 0 (5,o,0,0,())=(zD,0):=by
 have e:h_ 5 o 0 0 0 0=0:=by
  unfold h_;rw[rt5 a,ao (by decide),ao (by decide),av (by decide),ao (show ¬ (0:Int)=5 by decide)];decide
 unfold aP mS lD;dsimp only;rw[e];rfl
theorem aaY {o r x:Int} (a:1<=o/\o<=16) (b:0<=r/\r<=65535) (hx:0<=r+x/\r+x<=65535):iv x (4,o,r,0,())=((4,o,r+x,0,()),0):=by
 have e:w_ 4 o r 0 x=0:=by
  unfold w_;rw[rt4 a b,ao (by decide),av (.inr (.inr rfl)),ao (by omega)]
 unfold iv qN;dsimp only;rw[e];rfl
theorem yz {ds:List DT} {n:Nat} {d d':DT} {G:DT->DT×Int} (h:ds[n]? =some d) (a:G d=(d',0)):dH ds (n:Int) G=ds.set n d'/\vB ds (n:Int) G=0:=by
 have b:n<ds.length:=(AJ.1 h).1;have hg:ds.getD n zD=d:=by rw[B4,h];rfl
 constructor
 ·rw[pG (by omega)];show(if(G (ds.getD n zD)).2=0 then ds.set n (G (ds.getD n zD)).1 else ds)= _;rw[hg,a,av rfl]
 ·rw[yJ (by omega)];show(G (ds.getD n zD)).2=0;rw[hg,a]
theorem sO {ds:List DT} {o:Int} (h:0<cg ds 0) (c: ∀d∈ds,d.1=0->d=zD) (e:1<=o/\o<=16): ∃i:Nat,i<ds.length/\ds[i]? =some zD/\fg ds 4 o=(i:Int)/\dN ds 4 o=0/\dE ds 4 o=ds.set i (4,o,0,0,()):=by
 obtain⟨i,d,h1,f,a,g⟩:=Es h;have j:d=zD:=c d (B5 a) g;subst j;obtain⟨k,b⟩:=yz a (Ia e);refine⟨i,f,a,?_,?_,?_⟩
 ·unfold fg;rw[h1];dsimp only;rw[av b]
 ·unfold dN;rw[ao (by omega),h1];exact b
 ·unfold dE;rw[h1];exact k
theorem vo {ds:List DT} {y o:Int} (h:dN ds y o=0):0<cg ds 0:=by
 rcases Cj (cg ds 0) with e|e
 ·unfold dN at h;rw[XC e] at h;dsimp only at h;split at h<;>exact absurd h (by decide)
 ·exact e
theorem SO {ds:List DT} {n:Nat} {d d':DT} (h:ds[n]? =some d):(ds.set n d').set n d=ds:=by
 apply F8;intro i;have a:n<ds.length:=(AJ.1 h).1;by_cases e:n=i
 ·subst e;rw[AM (by rw[Ae];exact a),h]
 ·rw[AF e,AF e]
theorem nM {ds:List DT} {n:Nat} {d:DT} (h:ds[n]? =some d):qI ds (n:Int)=d:=by
 have a:n<ds.length:=(AJ.1 h).1;unfold qI;rw[ao (by omega)];show ds.getD n zD=d;rw[B4,h];rfl
theorem Kept.hc {fr:Iw} {tk:Nat->List TK} {s s':WD} {gr:List GT} (H:HC fr tk s.2 gr) (K:Kept s s'):HC fr tk s'.2 gr:=
 H.Gx K.ks λ{n d} h=>(K.nw h).elim .inl λe=> .inr ⟨by omega,e.2.1,by omega,e.2.2.2⟩
theorem wI (r:Int):gS .i64 0 r=0:=by
 have h: ∀x:BitVec 64,(E4 64 0) &&& x=0#64:=λx=>by
  rw[show E4 64 0=0#64 from rfl,BitVec.zero_and]
 show DA.wrap (((E4 64 0) &&& ~~~(E4 64 r)).toNat:Int)=0;rw[h];rfl
theorem Cx {ws:List Int} {a:Int} (h:(aK ws a).1=true):uG (B (cL ws a)).toNat=true:=by
 unfold aK eZ Il at h;cases b:uG (B (cL ws a)).toNat with
 |true=>rfl
 |false=>rw[b] at h;simp at h
theorem tB {ws:List Int} {p t f:Int} {l:Nat} {fd:FT} (hi:uH ws (ee f p (l:Int))=true) (a:uG (B (cL ws (ee f p (l:Int)))).toNat=true):
 bD ws p t (f,(l:Int),fd)=tookS f p t (l:Int) fd (aK ws (ee f p (l:Int))).1 (aK ws (ee f p (l:Int))).2.1 (aK ws (ee f p (l:Int))).2.2.1 (aK ws (ee f p (l:Int))).2.2.2.1:=by
 unfold bD;dsimp only;rw[ao (by omega),a,ao ?_]
 ·rfl
 ·unfold B6;rw[av hi];decide
namespace Inv
variable {g:Gh} {s:WD}
theorem xQ (I:Inv g s) {o r p t:Int} (d:g r=some (o,3,0)) (b:0<=p/\p<65536): ∀(n:Nat) {j:Nat} {f:Int},j+n=3->g f=some (o,j,px (j+1) p)->fO s.1 r p t n=(f,(j:Int),(0,0,0,0,()))
 |0,j,f,h,a=>by
  have:j=3:=by omega
  subst this;rw[W7 b] at a;rw[I.inj a d];rfl
 |n+1,j,f,h,a=>by
  obtain⟨f',h1,e⟩:=I.Fo a (by omega);have i:g f'=some (o,j+1,px (j+1+1) p):=h1;obtain⟨k,m,u⟩:=I.uR h1;obtain⟨c1,c2, _⟩:=I.uR a;have q:=I.xQ (t:=t) d b n (j:=j+1) (by omega) i;have c:=kM ⟨k,m⟩ b (l:=j+1) (by omega);have v:=eh p (j+1);rw[fO,q,tB (by rw[c];exact iK (by omega) (by omega)) (by rw[c];exact Cx (by rw[e];rfl)),c,e];unfold tookS cv;dsimp only;rw[ao (by decide),av ?_]
  ·congr 2;rw[bF (by omega) (by omega)];omega
  ·have:fL true 0 false f=true:=dF ⟨c1,c2⟩;rw[this];simp
   try omega
theorem Wh (I:Inv g s) {o r p:Int} (u:g r=some (o,3,0)) (b:0<=p/\p<65536) {f:Int} {j:Nat} (a:dx g s o p f j):
 ((mM s.1 r p 0).1=(l5 p j (aK s.1 (16*f+px j p % 16))).1/\(mM s.1 r p 0).2.1=(l5 p j (aK s.1 (16*f+px j p % 16))).2.1/\((mM s.1 r p 0).2.2.2.1=0<->(l5 p j (aK s.1 (16*f+px j p % 16))).2.2.1=0)):=by
 have z:=I.kd a.1;have A:=z.2.2.2.2.2;obtain⟨C,D,S⟩:=I.uR a.1;obtain⟨E,F,T⟩:=I.uR u;have hi:=eh p j;have d:=kM ⟨C,D⟩ b A;have v:=a.2;have G:=I.wf a.1 hi.1 hi.2;have H:=I.leaf a.1 hi.1 hi.2;have i:=lR s.1 (16*f+px j p % 16);have J:rR r p 0=false:=by
  unfold rR;have K:ee r p 3=16*r+px 3 p % 16:=kM ⟨E,F⟩ b (l:=3) (by omega);have U:=eh p 3;rw[K,decide_eq_false (by omega),decide_eq_false (by omega),decide_eq_false (by omega)];rfl
 have L:mM s.1 r p 0=(fO s.1 r p 0 4).2.2:=ao (by rw[J];decide);have M:=I.xQ (t:=0) u b (3 - j) (by omega) a.1;have N:uH s.1 (ee f p (j:Int))=true:=by rw[d];exact iK (by omega) (by omega)
 have O:uG (B (cL s.1 (ee f p (j:Int)))).toNat=true:=by
  rw[d];cases hb:(aK s.1 (16*f+px j p % 16)).1 with
  |true=>exact Cx hb
  |false=>rw[G hb];decide+kernel
 have w:fO s.1 r p 0 (3 - j+1)=tookS f p 0 (j:Int) (0,0,0,0,()) (aK s.1 (16*f+px j p % 16)).1 (aK s.1 (16*f+px j p % 16)).2.1 (aK s.1 (16*f+px j p % 16)).2.2.1 (aK s.1 (16*f+px j p % 16)).2.2.2.1:=by
  rw[fO,M,tB N O,d]
 generalize aK s.1 (16*f+px j p % 16)=e at*
 obtain⟨ep,er,el,ef,V⟩:=e;dsimp only at*
 have k: ∀x:FT,tookS f p 0 (j:Int) (0,0,0,0,()) ep er el ef=(f,-1,x)->mM s.1 r p 0=x:=λx hx=>by
  rw[L];have h1:(fO s.1 r p 0 (3 - j+1)).2.1= -1:=by rw[w,hx]
  have:=xE h1 j;rw[show 3 - j+1+j=4 by omega] at this;rw[this,w,hx]
 cases ep with
 |false=>
  rw[k (wY (j:Int) 4) (by unfold tookS;rfl)];unfold l5 wY;simp
 |true=>
  have c:fL true er el ef=false:=v;obtain⟨W,X,P,k4,k5⟩:=mo.1 i;rcases H rfl v with ⟨rfl,m⟩|⟨rfl,m,y⟩
  ·subst m;have Q:er>0:=by
    refine Aq λhc=>?_;have:er=0:=by omega
    subst this;have:=dF ⟨P,k4⟩;unfold dI cv at this;dsimp only at this;rw[this] at c;cases c
   have n:dM true er false ef 0=true:=by
    unfold dM;rw[i];have q:gS .i64 0 er=0:=wI er;rw[q];simp;omega
   rw[k (xZ 0 0 ef true er false ef) (by
    unfold tookS;rw[ao (by decide),c,ao (by decide),ao (by decide),av (by simp;omega)];rfl)]
   unfold l5 xZ;rw[ao (by omega),av n,av rfl,ao (by decide)];simp
  ·have y:ef % 16=0:=y;subst m;have Q:er>0:=by rcases k5 with h|h;exact h;cases h
   have n:dM true er true ef 0=true:=by
    unfold dM;rw[i];have q:gS .i64 0 er=0:=wI er;rw[q];simp;omega
   have R:aH .i64 ef (jY p 16)=ef+p % 16:=by
    have:jY p 16=p % 16:=by unfold jY;exact Int.tmod_eq_emod_of_nonneg b.1
    rw[this,ay (by omega) (by omega)]
   rw[k (xZ 1 0 (ef+p % 16) true er true ef) (by
    unfold tookS;rw[ao (by decide),c,ao (by decide),av (by decide),R];rfl)]
   unfold l5 xZ;rw[ao (by omega),av n,av rfl,av rfl];simp
end Inv
set_option maxRecDepth 100000
open Go.RX D
theorem Inv.GK {g:Gh} {s:WD} (I:Inv g s) (nl:Ah g s) {o r p t:Int} (c:g r=some (o,3,0)) (b:0<=p/\p<65536) (P:0<=t/\t<=7):
 if(bz s r false p).2.2.1=0 then mM s.1 r p t=((bz s r false p).1,(bz s r false p).2.1,0,(if dM true (bz s r false p).2.1 false (bz s r false p).1 t=true then 0 else 7),()) else(mM s.1 r p t).2.2.2.1=4:=by
 obtain⟨f,j, _,a⟩:=I.lJ c b;rw[I.fm c b a];have u:=I.kd a.1;have v:=u.2.2.2.2.2;obtain⟨w,y,Q⟩:=I.uR a.1;obtain⟨z,A,R⟩:=I.uR c;have hi:=eh p j;have d:=kM ⟨w,y⟩ b v;have i:=a.2;have C:=I.wf a.1 hi.1 hi.2;have D:=nl a.1 hi.1 hi.2;have E:=I.leaf a.1 hi.1 hi.2;have F:=lR s.1 (16*f+px j p % 16);have G:rR r p t=false:=by
  unfold rR;have H:ee r p 3=16*r+px 3 p % 16:=kM ⟨z,A⟩ b (l:=3) (by omega);have S:=eh p 3;rw[H,decide_eq_false (by omega),decide_eq_false (by omega),decide_eq_false (by omega)];rfl
 have J:mM s.1 r p t=(fO s.1 r p t 4).2.2:=ao (by rw[G];decide);have K:=I.xQ (t:=t) c b (3 - j) (by omega) a.1;have L:uH s.1 (ee f p (j:Int))=true:=by rw[d];exact iK (by omega) (by omega)
 have M:uG (B (cL s.1 (ee f p (j:Int)))).toNat=true:=by
  rw[d];cases hb:(aK s.1 (16*f+px j p % 16)).1 with
  |true=>exact Cx hb
  |false=>rw[C hb];decide+kernel
 have n:fO s.1 r p t (3 - j+1)=tookS f p t (j:Int) (0,0,0,0,()) (aK s.1 (16*f+px j p % 16)).1 (aK s.1 (16*f+px j p % 16)).2.1 (aK s.1 (16*f+px j p % 16)).2.2.1 (aK s.1 (16*f+px j p % 16)).2.2.2.1:=by
  rw[fO,K,tB L M,d]
 generalize aK s.1 (16*f+px j p % 16)=e at*
 obtain⟨ep,er,el,ef,T⟩:=e;dsimp only at*
 have q: ∀x:FT,tookS f p t (j:Int) (0,0,0,0,()) ep er el ef=(f,-1,x)->mM s.1 r p t=x:=λx hx=>by
  rw[J];have h1:(fO s.1 r p t (3 - j+1)).2.1= -1:=by rw[n,hx]
  have:=xE h1 j;rw[show 3 - j+1+j=4 by omega] at this;rw[this,n,hx]
 cases ep with
 |false=>
  rw[q (wY (j:Int) 4) (by unfold tookS;rfl)];unfold l5 wY;simp
 |true=>
  have k:fL true er el ef=false:=i;obtain⟨U,V,N,k4,k5⟩:=mo.1 F;have O:=D rfl i;subst O;have m:el=false:=by
   rcases E rfl i with ⟨_,m⟩|⟨h, _⟩
   ·exact m
   ·exact absurd h (by decide)
  subst m;have W:er>0:=by
   refine Aq λhc=>?_;have:er=0:=by omega
   subst this;have:=dF ⟨N,k4⟩;unfold dI cv at this;dsimp only at this;rw[this] at k;cases k
  rw[q (xZ 0 t ef true er false ef) (by
   unfold tookS;rw[ao (by decide),k,ao (by decide),ao (by decide),av (by simp;omega)];rfl)]
  unfold l5 xZ;rw[av rfl,ao (show ¬ ((0:Nat)=1) by decide)];dsimp only;rw[av rfl,ao (by omega)];split<;>rfl
theorem Nd {fr:Iw} {v:Nat} {p:Int} {y:Option Int} (h:fr v p=y):nH fr v p y=fr:=by
 funext i q;unfold nH;split
 ·rename_i c;rw[c.1,c.2,h]
 ·rfl
section
variable {gh:Gh} {h:HS}
namespace HI
theorem po (H:HI gh h) (NS:List Po.PT):HI gh (AX h NS):=
 ⟨H.inv,H.rt,H.nl,H.sz,H.jy,H.root,H.own,H.hc⟩
theorem grs (H:HI gh h) {z_:List GT} (hc:HC (mg h) (jd h) h.s.2 z_):HI gh (yx h z_):=
 ⟨H.inv,H.rt,H.nl,H.sz,H.jy,H.root,H.own,hc⟩
theorem aaj (H:HI gh h) (v a:Int):HI gh (eY h v a):=by
 unfold eY;split
 ·exact H
 ·refine H.grs (H.hc.PU (zf _ _ _) (H.hc.gk.rev _ _) (λ{n x y} hx b=>?_) λ{n x} hx f=>?_)
  ·unfold j9 at b;by_cases e:qY h.gr a v=0
   ·rw[av e] at b;by_cases en:a.toNat=n
    ·subst en;rw[AM (AJ.1 hx).1] at b;cases b;unfold qY at e;cases c:l_ h.gr a with
     |none=>rw[c] at e;exact absurd (show(4:Int)=0 from e) (by decide)
     |some k=>
      rw[c] at e;dsimp only at e;obtain⟨g,i,j⟩:=fp.1 c;have d:a.toNat=k:=by omega
      rw[d] at hx;rw[getD_some hx] at e;have:=(H.hc.gk x (B5 hx)).2;split at e
      ·exact absurd e (by decide)
      ·split at e
       ·exact absurd e (by decide)
       ·show(0:Int)= _;omega
    ·rw[AF en,hx] at b;cases b;rfl
   ·rw[ao e,hx] at b;cases b;rfl
  ·unfold j9;by_cases e:qY h.gr a v=0
   ·rw[av e];by_cases en:a.toNat=n
    ·subst en;unfold qY at e;cases c:l_ h.gr a with
     |none=>rw[c] at e;exact absurd (show(4:Int)=0 from e) (by decide)
     |some k=>
      rw[c] at e;dsimp only at e;obtain⟨g,i,j⟩:=fp.1 c;have d:a.toNat=k:=by omega
      rw[d] at hx;rw[getD_some hx] at e;rw[av f] at e;split at e
      ·exact absurd e (by decide)
      ·exact absurd e (by decide)
    ·rw[AF en];exact hx
   ·rw[ao e];exact hx
theorem offer (H:HI gh h) (v a b c:Int):HI gh (gz h v a b c):=by
 unfold gz;split
 ·have g: ∀{n:Nat} {x:GT},lF h.gr v a b=0->(kK h.gr v a b).toNat=n->h.gr[n]? =some x->x=zG:=λ{n x} e en hx=>by
   unfold kK at en;rw[av e] at en;have p:dh h.gr e9 h.gr.length≠[]:=λhc=>by
    unfold lF at e;split at e
    ·exact absurd e (by decide)
    ·split at e
     ·exact absurd e (by decide)
     ·exact absurd e (by decide)
   obtain⟨y,l,j⟩:=List.exists_cons_of_ne_nil p;have k:y∈dh h.gr e9 h.gr.length:=by rw[j];exact Bx
   rw[j] at en;have en:y.toNat=n:=en;unfold dh at k;obtain⟨i,hi,rfl⟩:=Bs.1 k;have m:=(B2.1 hi).2;have q:i=n:=en;subst q;rw[getD_some hx] at m;simpa[e9] using m
  have r:(jh h.gr v a b (c==1)).length=h.gr.length:=by
   unfold jh;split
   ·rw[Ae]
   ·rfl
  refine H.grs (H.hc.PU r (H.hc.gk.off _ _ _ _) (λ{n x y} hx d=>?_) λ{n x} hx o=>?_)
  ·unfold jh at d;by_cases e:lF h.gr v a b=0
   ·rw[av e] at d;by_cases en:(kK h.gr v a b).toNat=n
    ·have f:=g e en hx;subst en;rw[AM (AJ.1 hx).1] at d;cases d;rw[f];rfl
    ·rw[AF en,hx] at d;cases d;rfl
   ·rw[ao e,hx] at d;cases d;rfl
  ·unfold jh;by_cases e:lF h.gr v a b=0
   ·rw[av e];by_cases en:(kK h.gr v a b).toNat=n
    ·have f:=g e en hx;rw[f] at o;exact absurd o (by decide)
    ·rw[AF en];exact hx
   ·rw[ao e];exact hx
 ·exact H
theorem CS (H:HI gh h) {v:Int} (k:aQ h.g v=true) {a b:Int} (e:pz h v a b=0): ∃cI,HI cI (iE h v a b)/\rJ h (iE h v a b) (λi q=>i=v.toNat/\q=a) (-1)/\(fW h v.toNat a).2.2.1=0/\fW (iE h v a b) v.toNat a=((fW h v.toNat a).1,b,0,())/\(iE h v a b).g=h.g/\uL v gh cI h.s (iE h v a b).s:=by
 obtain⟨x,hx,l,hv, _⟩:=bM k;unfold pz at e;unfold iE;split at e
 ·exact absurd e (by decide)
 rename_i c1;rw[ao c1];split at e
 ·exact absurd e (by decide)
 rename_i c2;rw[ao c2];split at e
 ·exact absurd e (by decide)
 rename_i c3;rw[ao c3];rw[l] at e ⊢;obtain⟨n,rfl⟩: ∃n:Nat,v=(n:Int):=⟨v.toNat,hv.symm⟩;have hx:h.g n=some x:=hx;obtain⟨t,g',C,c,f, _⟩:=H.inv.tw (H.root hx) e;have o:mg h n a=some (bz h.s x.root false a).1:=by rw[cR hx,av c]
 have j:=H.yL hx (s1:=h.s) (λ_ _=>rfl) H.inv C (y:=some (bz h.s x.root false a).1) (by rw[f,av rfl]) (h':=bq h (rU h.s (n:Int) x.root false a b)) rfl (λ_=>rfl);rw[Nd o] at j;rw[show((n:Int)).toNat=n from rfl];have p:(bq h (rU h.s (n:Int) x.root false a b)).g n=some x:=hx;refine⟨g',H.base C ⟨rfl,rfl⟩ H.nl rfl (λ_=>rfl) ?_,⟨H.Gz (λ_ _=>rfl) H.inv C (h':=bq h (rU h.s (n:Int) x.root false a b)) rfl (λ_=>rfl),λ{m d d'} h1 r _ _ _=>C.kp.ws h1 r,C.kd⟩,by rw[bN hx];exact c,by rw[bN hx,bN p];exact f,rfl,C.gks⟩;rw[j];exact Kept.hc H.hc C.kp
theorem JD {v a b:Int} (e:pz h v a b≠0):iE h v a b=h:=by
 unfold pz at e;unfold iE;split
 ·rfl
 rename_i c1;rw[ao c1] at e;split
 ·rfl
 rename_i c2;rw[ao c2] at e;split
 ·rfl
 rename_i c3;rw[ao c3] at e;rw[VZ e];rfl
theorem tw (H:HI gh h) {v:Int} (c:aQ h.g v=true) (a b:Int): ∃cI,HI cI (iE h v a b):=by
 by_cases e:pz h v a b=0
 ·obtain⟨g',d, _⟩:=H.CS c e;exact⟨g',d⟩
 ·rw[JD e];exact⟨gh,H⟩
end HI
end
set_option maxRecDepth 100000
open Go.RX D
section
variable {gh:Gh} {h:HS}
theorem gU {gh:Gh} {s s':WD} (I:Inv gh s) (g:s'.1.length=s.1.length/\s'.2.length=s.2.length)
 (j: ∀b:Int,cL s'.1 b≠cL s.1 b-> ∃(n:Nat) (d:DT),s.2[n]? =some d/\d.1≠3/\16*(n:Int)<=b/\b<16*(n:Int)+16)
 (i: ∀{n:Nat} {d d':DT},s.2[n]? =some d->s'.2[n]? =some d'->(d'=d\/(d.1≠3/\d'.1≠3/\(d'.1=0->d'=zD)))):Inv.fa gh s s' where
 len:=g
 ws:=λ{f o x k l} m h0 h1=>by
  refine Aq λp=>?_;obtain⟨n,d,q,r,w,y⟩:=j _ p;have t:=I.kd m;have e:f.toNat=n:=by omega
  have a:=t.2.2.1;rw[e,q] at a;cases a;exact r rfl
 tb:=λ{n d} h a=>by
  have c:n<s'.2.length:=by rw[g.2];exact(AJ.1 h).1
  have h':s'.2[n]? =some s'.2[n]:=B1 c;rcases i h h' with e|⟨e, _⟩
  ·rw[h',e]
  ·exact absurd a e
 bt:=λ{n d} h a=>by
  have c:n<s.2.length:=by rw[<-g.2];exact(AJ.1 h).1
  have h':s.2[n]? =some s.2[n]:=B1 c;rcases i h' h with e|⟨_,e, _⟩
  ·rw[h',e]
  ·exact absurd a e
 fz:=λd u h0=>by
  obtain⟨n,c⟩:=Ct u;have v:n<s.2.length:=by rw[<-g.2];exact(AJ.1 c).1
  have h':s.2[n]? =some s.2[n]:=B1 v;rcases i h' c with e|⟨_, _,e⟩
  ·rw[e] at h0 ⊢;exact I.fz _ (B5 h') h0
  ·exact e h0
theorem nq {ds:List DT} {n m:Nat} {d0 d1 d d':DT} (h0:ds[n]? =some d0) (h:ds[m]? =some d) (h':(ds.set n d1)[m]? =some d'):(m=n/\d=d0/\d'=d1)\/(m≠n/\d'=d):=by
 by_cases e:n=m
 ·subst e;rw[AM (AJ.1 h0).1] at h';rw[h0] at h;cases h;cases h';exact .inl ⟨rfl,rfl,rfl⟩
 ·rw[AF e,h] at h';cases h';exact .inr ⟨λc=>e c.symm,rfl⟩
namespace HI
theorem Ua (H:HI gh h) {i:Nat} {p f:Int} (o:mg h i p=some f): ∃(n:Nat) (d:DT),f=(n:Int)/\h.s.2[n]? =some d/\d.1=4/\1<=d.2.1/\d.2.1<=16/\d=(4,d.2.1,(dY (jd h) (n:Int):Int),0,()):=by
 obtain⟨n,d,h1,g,k⟩:=H.hc.at4 o;obtain⟨j,q,t,r, _⟩:=H.hc.TM g k;have:=H.hc.jy r;obtain⟨_,l, _⟩:=H.hc.kd g;have m:=H.hc.refs g;refine⟨n,d,h1.symm,g,k,by omega,by omega,?_⟩;obtain⟨a,b,c,e,u⟩:=d;dsimp only at k l m;rw[k,l,m]
structure abT (h h':HS) (v:Nat) (a b:Int) (f:Nat):Prop where
 g:h'.g=h.g
 gr:h'.gr=h.gr
 po:h'.po=h.po
 Xf:(fW h v a).2.2.1=4
 pg:fW h' v a=((f:Int),b,0,())
 fr:h.s.2[f]? =some zD
 f4:h'.s.2[f]? =some (4,(v:Int),0,0,())
 ef:rJ h h' (λi q=>i=v/\q=a) (f:Int)
 zr: ∀k:Int,0<=k->k<16->cL h'.s.1 (16*(f:Int)+k)=0
 ct:cg h.s.2 0<=cg h'.s.2 0+4
theorem Cy (H:HI gh h) {v:Int} (V:aQ h.g v=true) {a b:Int} (o:kX h v a b=0): ∃cI f,HI cI (il h v a b)/\abT h (il h v a b) v.toNat a b f/\iO h v=(f:Int)/\uL v gh cI h.s (il h v a b).s:=by
 obtain⟨x,hx,L,hv,X,Y⟩:=bM V;unfold kX at o;unfold il;by_cases M:a>=65536
 ·rw[av M] at o;exact absurd o (by decide)
 rw[ao M] at o ⊢;by_cases N:b<1\/b>7
 ·rw[av N] at o;exact absurd o (by decide)
 rw[ao N] at o ⊢;by_cases w:dN h.s.2 4 v=0
 case neg=>rw[av w] at o;exact absurd o w
 rw[ao (λe=>e w)] at o ⊢;obtain⟨n,Z,r,t1,t2,t3⟩:=sO (vo w) H.inv.fz ⟨X,Y⟩;have O:iO h v=(n:Int):=t1;have p:iy h v=(h.s.1,h.s.2.set n (4,v,0,0,())):=by unfold iy;rw[t3]
 have hM:qR h v a b=jG (iy h v) v (aR h.g v) false a (iO h v) b:=rfl;rw[ao (λe=>e o)];rw[hM,O,L];rw[O,L] at o;obtain⟨m,rfl⟩: ∃m:Nat,v=(m:Int):=⟨v.toNat,hv.symm⟩;have hx:h.g m=some x:=hx;have hlen:=H.sz;have B:Inv.fa gh h.s (iy h (m:Int)):=by
  rw[p];refine gU H.inv ⟨rfl,by rw[Ae]⟩ (λb hb=>absurd rfl hb) λ{i d d'} h1 A=>?_;rcases nq r h1 A with ⟨_,e1,D⟩|⟨_,D⟩
  ·exact .inr ⟨by rw[e1];decide,by rw[D];exact(show ¬ (4:Int)=3 by decide),λc=>by rw[D] at c;exact absurd c (show ¬ (4:Int)=0 by decide)⟩
  ·exact .inl D
 have E:=H.inv.beside B;obtain⟨hp,g',C,P,q2,Q, _,⟨f0,j,hE,hc⟩, _⟩:=E.map (H.root hx) o;have hj:=(E.kd hE.1).2.2.2.2.2;have hcT:cg (iy h (m:Int)).2 0+1=cg h.s.2 0:=by
  rw[p];have:=qi (d':=((4:Int),(m:Int),(0:Int),(0:Int),())) r 0;rw[av (show zD.1=0 from rfl),ao (show ¬ (4:Int)=0 by decide)] at this;exact this
 have rF:mg h m a=none:=by
  rw[cR hx, <-H.inv.dB B (H.root hx),ao (by rw[Q];decide)]
 have hc1:HC (nH (mg h) m a (some (n:Int))) (jd h) (iy h (m:Int)).2 h.gr:=by
  rw[p];exact H.hc.Gy (by omega) hp r rfl rF
 have N9:=Kept.hc hc1 C.kp;have kp:=C.kp;have R:(iy h (m:Int)).1=h.s.1:=rfl;generalize jG (iy h (m:Int)) (m:Int) x.root false a (n:Int) b=l at*
 have qG:=H.yL hx (λ{i z} G q=>H.inv.dB B (H.root G) q) E C (y:=some (n:Int)) (by rw[P,av rfl]) (h':=bq h l) rfl (λ_=>rfl);have I:HI g' (bq h l):=H.base C B.len (Inv.ni B H.nl) rfl (λ_=>rfl) (by rw[qG];exact N9);have J:l.2[n]? =some (4,(m:Int),0,0,()):=C.kp.ks (by rw[p];exact AM Z) rfl;have Fm:l.2.length=h.s.2.length:=by rw[C.len.2,B.len.2]
 have W6:l.1.length=h.s.1.length:=by rw[C.len.1,B.len.1]
 have S:(e8 l.1 (n:Int) (λ_=>0) 16).length=l.1.length:=gT _ _ _ _;have u: ∀b,cL (e8 l.1 (n:Int) (λ_=>0) 16) b=if 16*(n:Int)<=b/\b<16*(n:Int)+16 then 0 else cL l.1 b:=λb=>tA (by omega) (by omega) 16 (Dx _) b;generalize e8 l.1 (n:Int) (λ_=>0) 16=W at S u ⊢;have T:Inv.fa g' l (W,l.2):=by
  refine gU C.inv ⟨S,rfl⟩ (λb hb=>⟨n, _,J,(show ¬ (4:Int)=3 by decide),?_⟩) λ{i d d'} h1 A=>?_
  ·refine Aq λhc=>hb ?_;show cL W b= _;rw[u b,ao hc]
  ·rw[h1] at A;cases A;exact .inl rfl
 have H3:=I.side (z_:=h.gr) (NS:=h.po) T I.hc;have U: ∀{i:Nat} {q:Int},fW {s:=(W,l.2),g:=h.g,gr:=h.gr,po:=h.po} i q=fW (bq h l) i q:=λ{i q}=>by
  cases hi:h.g i with
  |none=>unfold fW;rw[show(bq h l).g i=none from hi];dsimp only;rw[hi]
  |some z=>rw[bN (h:=bq h l) hi,bN (h:={s:=(W,l.2),g:=h.g,gr:=h.gr,po:=h.po}) hi];exact C.inv.dB T (I.root hi) q
 refine⟨g',n,H3,⟨rfl,rfl,rfl,?_,?_,r,J,⟨⟨λ{i q} hn=>?_⟩,λ{i d d'} F h4 _ _ dk k k0 K=>?_,KD.trans (t:=iy h (m:Int)) (by rw[p];exact KD.set r (λc=>absurd c (by decide)) (λc=>absurd c (by decide))) (C.kd.trans (.refl rfl))⟩,λk k0 K=>?_,?_⟩,rfl,((uL.kd (by rw[p];exact KD.set r (λc=>absurd c (by decide)) (λc=>absurd c (by decide))) (λ_ _ _ _ _=>by rw[R])).trans C.gks).trans (uL.kd (.refl rfl) λ{i d} F h5 k k0 K=>?_)⟩
 ·rw[show((m:Int)).toNat=m from rfl,bN hx, <-H.inv.dB B (H.root hx)];exact Q
 ·exact U.trans ((bN (h:=bq h l) hx a).trans P)
 ·exact U.trans ((H.Gz (λ{i z} G q=>H.inv.dB B (H.root G) q) E C (h':=bq h l) rfl (λ_=>rfl)).to hn)
 ·show cL W _= _;rw[u,ao (by omega)];have NJ:(iy h (m:Int)).2[i]? =some d:=by
   rw[p];show(h.s.2.set n _)[i]? = _;rw[AF (by omega)];exact F
  rw[kp.ws NJ h4 k k0 K,R]
 ·show cL W _= _;rw[u,av (by omega)]
 ·show _<=cg l.2 0+4;omega
 ·show cL W _= _;have lU:i≠n:=λc=>by
   subst c;rw[J] at F;cases F;exact absurd (show(4:Int)=5 from h5) (by decide)
  rw[u,ao (by omega)]
theorem PW (H:HI gh h) {v:Int} (j:aQ h.g v=true) {a b:Int} (c:kX h v a b≠0):il h v a b=h:=by
 obtain⟨x,hx,q,hv,f,i⟩:=bM j;unfold kX at c;unfold il;split
 ·rfl
 rename_i c1;rw[ao c1] at c;split
 ·rfl
 rename_i c2;rw[ao c2] at c;split
 ·rename_i e;have:iy h v=(h.s.1,h.s.2):=by unfold iy;rw[Bz e]
  rw[this];rfl
 rename_i d;rw[ao d] at c;have d:dN h.s.2 4 v=0:=Aq d;rw[av c];obtain⟨n,k,l,t1,t2,t3⟩:=sO (vo d) H.inv.fz ⟨f,i⟩;have m:iO h v=(n:Int):=t1;have o:iy h v=(h.s.1,h.s.2.set n (4,v,0,0,())):=by unfold iy;rw[t3]
 have p:qR h v a b=jG (iy h v) v (aR h.g v) false a (iO h v) b:=rfl;rw[p,Ju c,o,m];have:=yz (G:=aP 0 0) (show(h.s.2.set n (4,v,0,0,()))[n]? =some (4,v,0,0,()) from AM k) (Nc ⟨f,i⟩);dsimp only;rw[this.1,SO l];rfl
theorem Gy (H:HI gh h) {v:Int} (c:aQ h.g v=true) (a b:Int): ∃cI,HI cI (il h v a b):=by
 by_cases e:kX h v a b=0
 ·obtain⟨g', _,d, _⟩:=H.Cy c e;exact⟨g',d⟩
 ·rw[H.PW c e];exact⟨gh,H⟩
structure abU (h h':HS) (v:Nat) (a:Int) (f:Nat):Prop where
 g:h'.g=h.g
 Xf:(fW h v a).2.2.1=0/\(fW h v a).1=(f:Int)
 pg:fW h' v a=(0,0,4,())
 f5:h'.s.2[f]? =some (5,(v:Int),0,0,())
 ef:rJ h h' (λi q=>i=v/\q=a) (-1)
theorem GL (H:HI gh h) {v:Int} (B:aQ h.g v=true) {a:Int} (e:uX h v a=0): ∃cI f,HI cI (mO h v a)/\abU h (mO h v a) v.toNat a f/\uL v gh cI h.s (mO h v a).s:=by
 obtain⟨x,hx,M,hv,uJ,qV⟩:=bM B;unfold mO;rw[av e];obtain⟨m,rfl⟩: ∃m:Nat,v=(m:Int):=⟨v.toNat,hv.symm⟩;have hx:h.g m=some x:=hx;have N:f_ h.g h.s (m:Int) a=bz h.s x.root false a:=by
  unfold f_;rw[av B];show(match h.g m with|some x=> _|none=> _)= _;rw[hx]
 unfold uX at e;rw[N] at e ⊢;rw[M];split at e
 ·exact absurd e (by decide)
 split at e
 ·rename_i c;exact absurd e c
 rename_i c1;have c1:(bz h.s x.root false a).2.2.1=0:=Aq c1;split at e
 ·exact absurd e (by decide)
 rename_i c2;split at e
 ·exact absurd e (by decide)
 rename_i c3;have u:mg h m a=some (bz h.s x.root false a).1:=by rw[cR hx,av c1]
 obtain⟨n,d,E,w,d4,do1,do2,t⟩:=H.Ua u;have F:cq (jd h m) a=none:=by
  cases I:cq (jd h m) a with
  |none=>rfl
  |some y=>
   refine absurd ((tL B (x:=x) hx).2 ?_) c2;rw[gD hx] at I;unfold NO;rw[show h.g ((m:Int)).toNat=some x from hx];dsimp only;rw[I];rfl
 rw[E] at c3 u ⊢;rw[nM w] at c3;have J:dY (jd h) (n:Int)=0:=by
  have:=H.hc.refs w;omega
 have K:=(H.inv.PQ (H.root hx) c1).1;obtain⟨g',C,L, _⟩:=H.inv.DR (H.root hx) K (H.inv.aaX H.nl (H.root hx) K c1);have O:=Kept.hc H.hc C.kp;generalize nC h.s (m:Int) x.root false a=j at*
 have r:=C.kp.ks w d4;rw[J] at t;have t:d=(4,d.2.1,0,0,()):=t;have Q:d.2.1=(m:Int):=by
  obtain⟨R,d',D,l, _,S⟩:=H.hc.own u F;have:R=n:=Ar D;subst this;rw[w] at l;cases l;exact S
 rw[Q] at t;rw[t] at r;have T:=yz (G:=aP 5 (m:Int)) r (BM ⟨by omega,by omega⟩);rw[T.1];have U:=O.CP (o:=(m:Int)) ⟨by omega,by omega⟩ u F J;have A:Inv.fa g' j (j.1,j.2.set n (5,(m:Int),0,0,())):=by
  refine gU C.inv ⟨rfl,by rw[Ae]⟩ (λb hb=>absurd rfl hb) λ{i d d'} h1 V=>?_;rcases nq r h1 V with ⟨_,D,l⟩|⟨_,l⟩
  ·exact .inr ⟨by rw[D];exact(show ¬ (4:Int)=3 by decide),by rw[l];exact(show ¬ (5:Int)=3 by decide),λc=>by rw[l] at c;exact absurd c (show ¬ (5:Int)=0 by decide)⟩
  ·exact .inl l
 have W:=H.yL hx (λ{i z} k q=>rfl) H.inv C (y:=none) (by rw[L];rfl) (h':=bq h j) rfl (λ_=>rfl);have X:mg (bq h (j.1,j.2.set n (5,(m:Int),0,0,())))=mg (bq h j):=by
  funext i p;cases k:h.g i with
  |none=>exact(gB (h:=bq h (j.1,j.2.set n (5,(m:Int),0,0,()))) k p).trans (gB (h:=bq h j) k p).symm
  |some z=>
   refine(cR (h:=bq h (j.1,j.2.set n (5,(m:Int),0,0,()))) k p).trans (Eq.trans ?_ (cR (h:=bq h j) k p).symm);show(if(bz (j.1,j.2.set n (5,(m:Int),0,0,())) z.root false p).2.2.1=0 then some (bz (j.1,j.2.set n (5,(m:Int),0,0,())) z.root false p).1 else none)=if(bz j z.root false p).2.2.1=0 then some (bz j z.root false p).1 else none;rw[C.inv.dB A (C.root.to (H.root k))]
 have Y:(bq h j).g m=some x:=hx;have Z:n<j.2.length:=(AJ.1 r).1;have sp: ∀P,Aa (bq h j) (bq h (j.1,j.2.set n (5,(m:Int),0,0,()))) P:=λP=>⟨λ{i q} _=>by
  cases k:h.g i with
  |none=>exact(gA (h:=bq h (j.1,j.2.set n (5,(m:Int),0,0,()))) k q).trans (gA (h:=bq h j) k q).symm
  |some z=>exact(bN (h:=bq h (j.1,j.2.set n (5,(m:Int),0,0,()))) k q).trans ((C.inv.dB A (C.root.to (H.root k)) q).trans (bN (h:=bq h j) k q).symm)⟩
 suffices hh:HI g' (bq h (j.1,j.2.set n (5,(m:Int),0,0,()))) from⟨g',n,hh,⟨rfl,by rw[show((m:Int)).toNat=m from rfl,bN hx];exact⟨c1,E⟩,((sp (λ_ _=>False)).to (λc=>c)).trans ((bN Y a).trans L),AM Z,Aa.trans (H.Gz (λ_ _=>rfl) H.inv C (h':=bq h j) rfl (λ_=>rfl)) (sp _),λ{i d d'} h1 h4 _ _ _=>C.kp.ws h1 h4,C.kd.trans (KD.set r (λ_=> .inr rfl) (λc=>absurd (show(4:Int)=5 from c) (by decide)))⟩,C.gks.trans (uL.kd (KD.set r (λ_=> .inr rfl) (λc=>absurd (show(4:Int)=5 from c) (by decide))) λ_ _ _ _ _=>rfl)⟩
 exact{inv:=C.inv.beside A,rt:=H.rt.c_ C.root,nl:=Inv.ni A (C.lg (λo q q' a b=>a.2.trans b.2.symm) H.nl),sz:=by
        show j.1.length=16*(j.2.set n (5,(m:Int),0,0,())).length;rw[Ae,C.len.1,C.len.2];exact H.sz
       ,jy:=H.jy,root:=λ{i z} k=>C.root.to (H.root k),own:=λ{f o y} hf=>H.own ((C.root o f y).1 hf),hc:=by rw[X,W];exact U}
theorem CP (H:HI gh h) {v:Int} (b:aQ h.g v=true) (a:Int): ∃cI,HI cI (mO h v a):=by
 by_cases e:uX h v a=0
 ·obtain⟨g', _,c, _⟩:=H.GL b e;exact⟨g',c⟩
 ·rw[show mO h v a=h from ao e];exact⟨gh,H⟩
end HI
end
set_option maxRecDepth 100000
open Go.RX D
theorem BN (k:Nat): ∀l:List TK,(∀t∈l,0<=t.2.1/\t.2.1<(k:Int))->l.length<=((B3 k).map λa=>l.countP λt=>t.2.1==((a:Nat):Int)).sum
 |[], _=>FH _
 |t::l,h=>by
  have c:=BN k l λu b=>h u (Cg _ b);have d:=h t Bx;have e:(λa:Nat=>(t::l).countP λt=>t.2.1==((a:Nat):Int))=lB (λa:Nat=>l.countP λt=>t.2.1==((a:Nat):Int)) t.2.1.toNat (l.countP (λu=>u.2.1==((t.2.1.toNat:Nat):Int))+1):=by
   funext a;rw[Dw];by_cases e:a=t.2.1.toNat
   ·subst e;rw[lj,av (by simp;omega)]
   ·rw[nV e,ao (by simp;omega)];rfl
  have:=CN (λa:Nat=>l.countP λt=>t.2.1==((a:Nat):Int)) t.2.1.toNat (l.countP (λu=>u.2.1==((t.2.1.toNat:Nat):Int))+1) k;rw[av (by omega),av (by omega)] at this;rw[e,DV];omega
theorem PX {f:Nat->Nat} {c:Nat}: ∀l:List Nat,(∀x∈l,f x<=c)->(l.map f).sum<=c*l.length
 |[], _=>FH _
 |x::l,h=>by
  have:=PX l λy a=>h y (Cg _ a);have:=h x Bx;rw[Dq,E5,DV,Nat.mul_add];omega
theorem Nf (tk:Nat->List TK) (q:TK->Bool):nG tk q=((B3 17).flatMap tk).countP q:=by
 unfold nG;rw[List.countP_flatMap];rfl
theorem Ng (l:List TK) (k c:Nat) (h: ∀t∈l,0<=t.2.1/\t.2.1<(k:Int)) (hb: ∀a:Nat,a<k->(l.countP λt=>t.2.1==((a:Nat):Int))<=c):l.length<=c*k:=by
 have h1:=BN k l h;have b:=PX (f:=λa:Nat=>l.countP λt=>t.2.1==((a:Nat):Int)) (c:=c) (B3 k) λa d=>hb a (DB.1 d);rw[List.length_range] at b;exact Nat.le_trans h1 b
namespace HC
variable {fr:Iw} {tk:Nat->List TK} {ds:List DT} {gr:List GT}
theorem ids (H:HC fr tk ds gr) {i:Nat} {t:TK} (h:t∈tk i):0<=t.2.1/\t.2.1<((16:Nat):Int):=by
 obtain⟨_,o, _,k,x,h1,b, _⟩:=H.AL (a:=t.2.1) (f:=t.2.2) (H.Kv h);obtain⟨c,d, _⟩:=fp.1 h1;have:=H.gl;omega
theorem JE (H:HC fr tk ds gr) (f:Int):dY tk f<=16000:=by
 have h0: ∀q,nG tk q=((B3 17).flatMap tk).countP q:=Nf tk;have d: ∀t∈(B3 17).flatMap tk,0<=t.2.1/\t.2.1<((16:Nat):Int):=λt g=>by
  obtain⟨i, _,hi⟩:=List.mem_flatMap.1 g;exact H.ids hi
 have b: ∀a:Nat,a<16->nG tk (λt=>t.2.1==((a:Nat):Int))<=1000:=λa c=>by
  have h:a<gr.length:=by rw[H.gl];exact c
  have hx:gr[a]? =some gr[a]:=B1 h;have b:=H.uZ hx;have:=(H.gk _ (B5 hx)).2;unfold mX at b;omega
 unfold dY;rw[h0];generalize (B3 17).flatMap tk=e at h0 d;have h1:=List.countP_le_length (p:=λt:TK=>t.2.2==f) (l:=e);have j:=Ng e 16 1000 d λa c=>by rw[<-h0];exact b a c
 omega
end HC
theorem Nh {gr:List GT} {k:Nat} {x:GT} (h:gr[k]? =some x) (y:GT):(gr.set k y).set k x=gr:=by
 apply F8;intro i;have a:k<gr.length:=(AJ.1 h).1;by_cases e:k=i
 ·subst e;rw[AM (by rw[Ae];exact a),h]
 ·rw[AF e,AF e]
section
variable {gh cI:Gh} {h:HS}
theorem HI.fin (H:HI gh h) {v:Nat} {p:Int} {s1 d j:WD} (C:s6 (ou (v:Int) 0 p) (v:Int) gh cI s1 d) (n:Ah gh s1) (k:s1.1.length=h.s.1.length/\s1.2.length=h.s.2.length) (B:Inv.fa cI d j) {h':HS} (hs:h'.s=j) (hg: ∀i,(h'.g i).map GV.root=(h.g i).map GV.root)
 {F:Iw} (r:mg {h' with s:=d}=F) (hc:HC F (jd h') j.2 h'.gr):HI cI h':=by
 have l: ∀{i:Nat} {x:GV},h'.g i=some x-> ∃z,h.g i=some z/\x.root=z.root:=λ{i x} hx=>by
  have hi:=hg i;rw[hx] at hi;cases hc:h.g i with
  |none=>rw[hc] at hi;cases hi
  |some z=>rw[hc] at hi;exact⟨z,rfl,by simpa using hi⟩
 have m: ∀{i:Nat} {x:GV},h'.g i=some x->cI x.root=some ((i:Int),3,0):=λ{i x} hx=>by
  obtain⟨z,c,t⟩:=l hx;rw[t];exact C.root.to (H.root c)
 refine⟨by rw[hs];exact C.inv.beside B,H.rt.c_ C.root,by rw[hs];exact Inv.ni B (C.lg (λo q A a b=>a.2.trans b.2.symm) n),?_,λ{i x} hx=>?_,m,λ{f o y} u=>?_,?_⟩
 ·rw[hs,B.len.1,B.len.2,C.len.1,C.len.2,k.1,k.2];exact H.sz
 ·obtain⟨z,c, _⟩:=l hx;exact H.jy c
 ·obtain⟨i,x,h1,w⟩:=H.own ((C.root o f y).1 u);have hi:=hg i;rw[w] at hi;cases hc:h'.g i with
  |none=>rw[hc] at hi;cases hi
  |some z=>exact⟨i,z,h1,hc⟩
 ·have e:mg h'=F:=by
   rw[<-r];funext i q;cases c:h'.g i with
   |none=>exact(gB c q).trans (gB (h:={h' with s:=d}) c q).symm
   |some z=>
    refine(cR c q).trans (Eq.trans ?_ (cR (h:={h' with s:=d}) c q).symm);show _=if(bz d z.root false q).2.2.1=0 then some (bz d z.root false q).1 else none;rw[hs,C.inv.dB B (m c)]
  rw[e,hs];exact hc
theorem HI.JF (H:HI gh h) {v:Nat} {p:Int} {a b:WD} (C:s6 (ou (v:Int) 0 p) (v:Int) gh cI h.s a) (B:Inv.fa cI a b) (e:b.1=a.1) (f:KD a b) {h':HS} (hs:h'.s=b) (hg: ∀i,(h'.g i).map GV.root=(h.g i).map GV.root):
 rJ h h' (λi q=>i=v/\q=p) (-1)/\ ∀{i:Nat} {x:GV},h.g i=some x-> ∀q,fW h' i q=bz a x.root false q:=by
 have j: ∀{i:Nat} {x:GV},h.g i=some x-> ∃z,h'.g i=some z/\z.root=x.root:=λ{i x} hx=>by
  have hi:=hg i;rw[hx] at hi;cases hc:h'.g i with
  |none=>rw[hc] at hi;cases hi
  |some z=>rw[hc] at hi;exact⟨z,rfl,by simpa using hi⟩
 have key: ∀{i:Nat} {x:GV},h.g i=some x-> ∀q,fW h' i q=bz a x.root false q:=λ{i x} hx q=>by
  obtain⟨z,l,n⟩:=j hx;rw[bN l,hs,n];exact C.inv.dB B (C.root.to (H.root hx)) q
 refine⟨⟨⟨λ{i q} r=>?_⟩,λ{m d d'} h1 t _ _ _ k k0 u=>?_,?_⟩,key⟩
 ·cases hx:h.g i with
  |none=>
   have hi:=hg i;rw[hx] at hi;rw[gA hx,gA (by simpa using hi)]
  |some x=>
   rw[key hx,bN hx];refine H.inv.zc C.inv C.DD C.root (o:=(i:Int)) (H.root hx) λc=>r ?_;obtain⟨c1,c2⟩:=c;exact⟨Ar c1,c2⟩
 ·rw[hs,e];exact C.kp.ws h1 t k k0 u
 ·rw[hs];exact C.kd.trans f
theorem n7 {g:Gh} {s:WD} (I:Inv g s) {n:Nat} {o r r':Int} (e:s.2[n]? =some (4,o,r,0,())):Inv.fa g s (s.1,s.2.set n (4,o,r',0,())):=
 gU I ⟨rfl,by rw[Ae]⟩ (λb hb=>absurd rfl hb) λ{i d d'} h1 f=>by
  rcases nq e h1 f with ⟨_,h,a⟩|⟨_,a⟩
  ·exact .inr ⟨by rw[h];exact(show ¬ (4:Int)=3 by decide),by rw[a];exact(show ¬ (4:Int)=3 by decide),λc=>by rw[a] at c;exact absurd c (show ¬ (4:Int)=0 by decide)⟩
  ·exact .inl a
theorem ll {g:Nat->Option GV} {n:Nat} {x:GV} (hx:g n=some x) (tk:List TK) (i:Nat):(a_ g n (some {x with tk:=tk}) i).map GV.root=(g i).map GV.root:=by
 unfold a_;by_cases e:i=n
 ·subst e;rw[av rfl,hx];rfl
 ·rw[ao e]
theorem JG {h':HS} {g:Nat->Option GV} {n:Nat} {x:GV} (hx:h.g n=some x) (tk:List TK) (hg:h'.g=a_ h.g n (some {x with tk:=tk})):jd h'=lB (jd h) n tk:=by
 funext i;unfold jd lB;rw[hg];unfold a_;by_cases e:i=n
 ·rw[av e,av e]
 ·rw[ao e,ao e]
def Oa (ds:List DT) (n:Nat) (o:Int):Prop:= ∃d:DT,ds[n]? =some d/\d.1=4/\d.2.1=o
theorem Kept.TM {s s':WD} (K:Kept s s') (n:Nat) (o:Int):Oa s'.2 n o<->Oa s.2 n o:=by
 constructor
 ·rintro⟨d,h1,a,b⟩;rcases K.nw h1 with h|⟨h, _⟩
  ·exact⟨d,h,a,b⟩
  ·omega
 ·rintro⟨d,h1,a,b⟩;exact⟨d,K.ks h1 a,a,b⟩
theorem Wi {ds:List DT} {n:Nat} {o r r':Int} (h:ds[n]? =some (4,o,r,0,())) (m:Nat) (o':Int):Oa (ds.set n (4,o,r',0,())) m o'<->Oa ds m o':=by
 have b:n<ds.length:=(AJ.1 h).1;unfold Oa;by_cases e:n=m
 ·subst e;rw[AM b,h];constructor
  ·rintro⟨d,h1,c,a⟩;cases h1;exact⟨_,rfl,rfl,a⟩
  ·rintro⟨d,h1,c,a⟩;cases h1;exact⟨_,rfl,rfl,a⟩
 ·rw[AF e]
theorem HI.F5 (H:HI gh h) {v:Nat} {p id f:Int} {x:GV} (hx:h.g v=some x) (I:cq x.tk p=some (id,f)): ∃cI,HI cI (dn h (v:Int) p id f)/\(∀n o,Oa (dn h (v:Int) p id f).s.2 n o<->Oa h.s.2 n o)/\rJ h (dn h (v:Int) p id f) (λi q=>i=v/\q=p) (-1)/\fW (dn h (v:Int) p id f) v p=(0,0,4,())/\uL (v:Int) gh cI h.s (dn h (v:Int) p id f).s:=by
 have e:cq (jd h v) p=some (id,f):=by rw[gD hx];exact I
 obtain⟨j,o,X,J⟩:=H.hc.AL e;obtain⟨k,y,g1,b,Y,K, _⟩:=J;obtain⟨n,d,L,l,d4,M,N,O⟩:=H.Ua j;subst L;obtain⟨P,Z,r⟩:=fp.1 g1;rw[getD_some b] at r;subst P;have Q:aR h.g (v:Int)=x.root:=by
  have l:=H.jy hx;unfold aR;rw[av (cm.2 ⟨by omega,x,hx⟩)];show(match h.g v with|some x=>x.root|none=> -1)= _;rw[hx]
 have u:(bz h.s x.root false p).2.2.1=0:=by
  rw[cR hx] at j;by_cases c:(bz h.s x.root false p).2.2.1=0
  ·exact c
  ·rw[ao c] at j;cases j
 have A:=(H.inv.PQ (H.root hx) u).1;obtain⟨g',C,B, _⟩:=H.inv.DR (H.root hx) A (H.inv.aaX H.nl (H.root hx) A u);have T7:=H.jy hx;have oS:0<dY (jd h) (n:Int):=nW (q:=λt=>t.2.2==(n:Int)) (by omega:v<17) (H.hc.Kw e) (by simp);have acX:0<mX (jd h) (k:Int):=nW (q:=λt=>t.2.1==(k:Int)) (by omega:v<17) (H.hc.Kw e) (by simp);have acD:=H.hc.JE (n:Int);have R:mH h.gr (k:Int) (v:Int)=0:=by
  unfold mH;rw[g1];dsimp only;rw[getD_some b,ao (by rw[K];simp),ao (by rw[H.hc.uZ b];omega)]
 have D:dS h.gr (k:Int) (v:Int)=h.gr.set k (fv y (-1)):=by
  unfold dS;rw[av R];show h.gr.set k (fv (h.gr.getD k zG) (-1))= _;rw[getD_some b]
 have S:=Kept.hc H.hc C.kp;have T:dn h (v:Int) p (k:Int) (n:Int)={s:=((nC h.s (v:Int) x.root false p).1,dH (nC h.s (v:Int) x.root false p).2 (n:Int) (iv (-1))),g:=a_ h.g v (some {x with tk:=x.tk.filter λt=> !(t.1==p)}),gr:=h.gr.set k (fv y (-1)),po:=h.po}:=by
  unfold dn;rw[Q,D];show HS.mk _ (a_ h.g v (match h.g v with|some x=> _|none=>none)) _ _= _;rw[hx]
 rw[T];generalize nC h.s (v:Int) x.root false p=E at*
 have a:=C.kp.ks l d4;rw[O] at a;have U:=yz (G:=iv (-1)) a (aaY ⟨M,N⟩ ⟨by omega,by omega⟩ ⟨by omega,by omega⟩);rw[U.1];have V:og (h.gr.set k (fv y (-1))):=by rw[<-D];exact H.hc.gk.back _ _
 have W:=S.F5 e a b r V;have F:=H.JF C (n7 (r':=(dY (jd h) (n:Int):Int)+ -1) C.inv a) rfl (KD.set a (λ_=> .inl rfl) (λc=>absurd (show(4:Int)=5 from c) (by decide))) (h':={s:=(E.1,E.2.set n (4,d.2.1,(dY (jd h) (n:Int):Int)+ -1,0,())),g:=a_ h.g v (some {x with tk:=x.tk.filter λt=> !(t.1==p)}),gr:=h.gr.set k (fv y (-1)),po:=h.po}) rfl (λi=>ll hx _ i);refine⟨g',H.fin C H.nl ⟨rfl,rfl⟩ (n7 C.inv a) rfl (λi=>ll hx _ i) (H.yL hx (λ{i z} hz q=>rfl) H.inv C (y:=none) (by rw[B];rfl) rfl (λi=>ll hx _ i)) ?_,λm w=>(Wi a m w).trans (C.kp.TM m w),F.1,(F.2 hx p).trans B,C.gks.trans (uL.kd (KD.set a (λ_=> .inl rfl) (λc=>absurd (show(4:Int)=5 from c) (by decide))) λ_ _ _ _ _=>rfl)⟩;rw[JG (g:=h.g) hx _ rfl, <-gD hx];exact W
end
set_option maxRecDepth 100000
open Go.RX D
section
variable {gh cI:Gh} {h:HS}
theorem Ni {v p:Int} (h0:(f_ h.g h.s v p).2.2.1=0):aQ h.g v=true/\ ∃x,h.g v.toNat=some x/\f_ h.g h.s v p=bz h.s x.root false p:=by
 unfold f_ at h0 ⊢;by_cases a:aQ h.g v=true
 ·obtain⟨x,hx, _⟩:=bM a;rw[av a,hx];exact⟨a,x,rfl,rfl⟩
 ·rw[ao a] at h0;exact absurd h0 (by decide)
theorem SP {v p:Int} {x:GV} (a:aQ h.g v=true) (hx:h.g v.toNat=some x) (hb: ¬ iw h v p=true):cq x.tk p=none:=by
 cases b:cq x.tk p with
 |none=>rfl
 |some y=>
  refine absurd ((tL a hx).2 ?_) hb;unfold NO;rw[hx];dsimp only;rw[b];rfl
theorem SQ {gs:List GT} {k:Nat} {x:GT} {v:Int} (h:gs[k]? =some x) (g:x≠zG) (hv:x.2.2.1=v) (m:0<=x.2.2.2.2.1) (i:og gs):dS (gs.set k (fv x 1)) (k:Int) v=gs:=by
 have f:k<gs.length:=(AJ.1 h).1;have h1:(gs.set k (fv x 1))[k]? =some (fv x 1):=AM f;have j:l_ (gs.set k (fv x 1)) (k:Int)=some k:=fp.2 ⟨rfl,by rw[Ae];exact f,by rw[getD_some h1];exact xO i h g 1⟩;have l:mH (gs.set k (fv x 1)) (k:Int) v=0:=by
  unfold mH;rw[j];dsimp only;rw[getD_some h1,ao (by show ¬ x.2.2.1≠v;rw[hv];simp),ao (by show ¬ x.2.2.2.2.1+1=0;omega)]
 unfold dS;rw[av l];show(gs.set k (fv x 1)).set k (fv ((gs.set k (fv x 1)).getD k zG) (-1))=gs;rw[getD_some h1];have e:fv (fv x 1) (-1)=x:=by
  obtain⟨a,b,c,d,e,u⟩:=x;unfold fv;dsimp only;rw[show e+1+ -1=e by omega]
 rw[e];exact Nh h _
theorem abV {v a b c:Int} (d:mI h v a b c=0):nF h v a b c=kl h.s (aR h.g v) false b (lV h a).1 (wR c):=by
 unfold mI at d;unfold nF;split at d
 ·exact absurd d (by decide)
 rename_i c1;rw[ao c1];split at d
 ·exact absurd d (by decide)
 rename_i c2;rw[ao c2];split at d
 ·exact absurd d (by decide)
 rename_i c3;rw[ao c3];split at d
 ·exact absurd d (by decide)
 rename_i c4;rw[ao c4];split at d
 ·exact absurd d (by decide)
 rename_i c5;rw[ao c5];split at d
 ·exact absurd d (by decide)
 rename_i c6;rw[ao c6,ao (λe=>e d)]
theorem HI.JH (H:HI gh h) {v a b c:Int} (V:aQ h.g v=true) (f:mI h v a b c=0):
 (nF h v a b c=0-> ∃cI,HI cI (fR h v a b c)/\rJ h (fR h v a b c) (λi q=>i=v.toNat/\q=b) (-1)/\(fW h v.toNat b).2.2.1=4/\fW (fR h v a b c) v.toNat b=((lV h a).1,wR c,0,())/\uL v gh cI h.s (fR h v a b c).s)/\(nF h v a b c≠0->AY h v a b c=h):=by
 have I:=abV f;obtain⟨p4,r,J,t⟩:(lX h a).2.2.1=v/\(lV h a).2.2.1=0/\ ¬ iw h (lX h a).1 (lX h a).2.1=true/\iq h.gr a v (c==1)=0:=by
  unfold mI at f;split at f
  ·exact absurd f (by decide)
  split at f
  ·exact absurd f (by decide)
  split at f
  ·exact absurd f (by decide)
  split at f
  ·exact absurd f (by decide)
  rename_i c4;split at f
  ·exact absurd f (by decide)
  rename_i c5;split at f
  ·exact absurd f (by decide)
  rename_i c6;exact⟨Aq λe=>c4 (.inl e),Aq c5,c6,f⟩
 obtain⟨x,hx,K,hv,uJ,qV⟩:=bM V;obtain⟨k,u⟩: ∃k,l_ h.gr a=some k:=by
  unfold iq at t;cases u:l_ h.gr a with
  |none=>rw[u] at t;exact absurd (show(4:Int)=0 from t) (by decide)
  |some k=>exact⟨k,rfl⟩
 obtain⟨A,W,B⟩:=fp.1 u;have j:h.gr[k]? =some h.gr[k]:=B1 W;obtain⟨y,X⟩: ∃y,y=h.gr[k]:=⟨_,rfl⟩;rw[<-X] at j;rw[getD_some j] at B;have L:lX h a=y:=by
  unfold lX wZ;rw[u];exact getD_some j
 have M:lV h a=f_ h.g h.s y.1 y.2.1:=by unfold lV;rw[L]
 rw[L] at p4 J;rw[M] at r;obtain⟨N,O,p,P⟩:=Ni r;have Y:=SP N p J;obtain⟨m,rfl⟩: ∃m:Nat,v=(m:Int):=⟨v.toNat,hv.symm⟩;have hx:h.g m=some x:=hx;obtain⟨o,Q⟩: ∃o:Nat,y.1=(o:Int):=⟨y.1.toNat,by have:=cm.1 N;omega⟩;have p:h.g o=some O:=by rw[Q] at p;exact p
 rw[P] at r;have D:mg h o y.2.1=some (bz h.s O.root false y.2.1).1:=by rw[cR p,av r]
 obtain⟨n,d,R,Z,d4,do1,do2,Ub⟩:=H.Ua D;rw[R] at D;have E:(lV h a).1=(n:Int):=by rw[M,P,R]
 have F:dK h.gr a (m:Int) (c==1)=h.gr.set k (fv y 1):=by
  unfold dK;rw[av t, <-A];show h.gr.set k (fv (h.gr.getD k zG) 1)= _;rw[getD_some j]
 refine⟨λe=>?_,λe=>?_⟩
 ·rw[I,K,E] at e;obtain⟨hp,g',C,S, _,T, _⟩:=H.inv.map (H.root hx) e;have acE:mg h m b=none:=by rw[cR hx,ao (by rw[T];decide)]
  have jU:fR h (m:Int) a b c={s:=((jG h.s (m:Int) x.root false b (n:Int) (wR c)).1,dH (jG h.s (m:Int) x.root false b (n:Int) (wR c)).2 (n:Int) (iv 1)),g:=a_ h.g m (some {x with tk:=mP (b,a,(n:Int)) x.tk}),gr:=h.gr.set k (fv y 1),po:=h.po}:=by
   unfold fR;rw[K,E,F];show HS.mk _ (a_ h.g m (match h.g m with|some x=> _|none=>none)) _ _= _;rw[hx]
  rw[jU];have N9:=Kept.hc H.hc C.kp;generalize jG h.s (m:Int) x.root false b (n:Int) (wR c)=w at*
  have l:=C.kp.ks Z d4;rw[Ub] at l;have acD:=H.hc.JE (n:Int);have qT:=yz (G:=iv 1) l (aaY ⟨do1,do2⟩ ⟨by omega,by omega⟩ ⟨by omega,by omega⟩);rw[qT.1];have Xe:og (h.gr.set k (fv y 1)):=by rw[<-F];exact H.hc.gk.take _ _ _
  have WX:=N9.take hp acE l j B Q p4 D (by rw[gD p];exact Y) Xe;have U:=H.JF C (n7 (r':=(dY (jd h) (n:Int):Int)+1) C.inv l) rfl (KD.set l (λ_=> .inl rfl) (λc=>absurd (show(4:Int)=5 from c) (by decide))) (h':={s:=(w.1,w.2.set n (4,d.2.1,(dY (jd h) (n:Int):Int)+1,0,())),g:=a_ h.g m (some {x with tk:=mP (b,a,(n:Int)) x.tk}),gr:=h.gr.set k (fv y 1),po:=h.po}) rfl (λi=>ll hx _ i)
  suffices hh:HI g' {s:=(w.1,w.2.set n (4,d.2.1,(dY (jd h) (n:Int):Int)+1,0,())),g:=a_ h.g m (some {x with tk:=mP (b,a,(n:Int)) x.tk}),gr:=h.gr.set k (fv y 1),po:=h.po} from⟨g',hh,U.1,by rw[show((m:Int)).toNat=m from rfl,bN hx];exact T,by rw[E];exact(U.2 hx b).trans S,C.gks.trans (uL.kd (KD.set l (λ_=> .inl rfl) (λc=>absurd (show(4:Int)=5 from c) (by decide))) λ_ _ _ _ _=>rfl)⟩
  refine H.fin C H.nl ⟨rfl,rfl⟩ (n7 C.inv l) rfl (λi=>ll hx _ i) (H.yL hx (λ{i z} hz q=>rfl) H.inv C (y:=some (n:Int)) (by rw[S];rfl) rfl (λi=>ll hx _ i)) ?_;rw[JG (g:=h.g) hx _ rfl, <-gD hx, <-A];exact WX
 ·rw[I] at e;unfold AY;rw[Ju e,F, <-A,SQ j B p4 (H.hc.gk y (B5 j)).2.1 H.hc.gk]
theorem HI.PY (H:HI gh h) {v a b c:Int} (f:aQ h.g v=true) (e:nF h v a b c≠0):iT h v a b c=h:=by
 unfold iT;by_cases d:mI h v a b c=0
 ·rw[ao (λe=>e d),ao e];exact(H.JH f d).2 e
 ·exact av d
theorem SS {v a b c:Int} (e:nF h v a b c=0):mI h v a b c=0:=by
 unfold nF at e;unfold mI;split at e
 ·exact absurd e (by decide)
 rename_i c1;rw[ao c1];split at e
 ·exact absurd e (by decide)
 rename_i c2;rw[ao c2];split at e
 ·exact absurd e (by decide)
 rename_i c3;rw[ao c3];split at e
 ·exact absurd e (by decide)
 rename_i c4;rw[ao c4];split at e
 ·exact absurd e (by decide)
 rename_i c5;rw[ao c5];split at e
 ·exact absurd e (by decide)
 rename_i c6;rw[ao c6];split at e
 ·rename_i c7;exact absurd e c7
 rename_i c7;exact Aq c7
theorem HI.GM (H:HI gh h) {v a b c:Int} (f:aQ h.g v=true) (e:nF h v a b c=0):iT h v a b c=fR h v a b c/\ ∃cI,HI cI (fR h v a b c)/\rJ h (fR h v a b c) (λi q=>i=v.toNat/\q=b) (-1)/\(fW h v.toNat b).2.2.1=4/\fW (fR h v a b c) v.toNat b=((lV h a).1,wR c,0,())/\uL v gh cI h.s (fR h v a b c).s:=by
 have d:=SS e;refine⟨?_,(H.JH f d).1 e⟩;unfold iT;rw[ao (λe=>e d),av e]
theorem HI.take (H:HI gh h) {v:Int} (d:aQ h.g v=true) (a b c:Int): ∃cI,HI cI (iT h v a b c):=by
 by_cases e:nF h v a b c=0
 ·obtain⟨h1,g',f, _⟩:=H.GM d e;rw[h1];exact⟨g',f⟩
 ·rw[H.PY d e];exact⟨gh,H⟩
theorem HI.CU (H:HI gh h) {v:Int} (b:aQ h.g v=true) {a:Int} (e:pA h v a=0): ∃cI,HI cI (eR h v a)/\rJ h (eR h v a) (λi q=>i=v.toNat/\q=a) (-1)/\fW (eR h v a) v.toNat a=(0,0,4,())/\uL v gh cI h.s (eR h v a).s:=by
 obtain⟨x,hx,j,hv, _⟩:=bM b;unfold pA at e;unfold eR;split at e
 ·exact absurd e (by decide)
 rename_i c1;rw[ao c1];split at e
 ·rename_i c2;rw[av c2];have c:=(tL b hx).1 c2;obtain⟨m,rfl⟩: ∃m:Nat,v=(m:Int):=⟨v.toNat,hv.symm⟩;obtain⟨g',d, _,E,f⟩:=H.F5 (x:=x) hx c;exact⟨g',d,E,f⟩
 ·exact absurd e (by decide)
theorem JI {v a:Int} (e:pA h v a≠0):eR h v a=h:=by
 unfold pA at e;unfold eR;split
 ·rfl
 rename_i c1;rw[ao c1] at e;split
 ·rename_i c2;rw[av c2] at e;exact absurd rfl e
 ·rfl
theorem HI.back (H:HI gh h) {v:Int} (b:aQ h.g v=true) (a:Int): ∃cI,HI cI (eR h v a):=by
 by_cases e:pA h v a=0
 ·obtain⟨g',c, _⟩:=H.CU b e;exact⟨g',c⟩
 ·rw[JI e];exact⟨gh,H⟩
theorem HI.e_ {v:Nat}: ∀(n:Nat) {gh:Gh} {h:HS},HI gh h->(∃x,h.g v=some x)->(jd h v).length=n->
 ∃cI,HI cI (e_ (v:Int) n h)/\(∃x,(e_ (v:Int) n h).g v=some x)/\jd (e_ (v:Int) n h) v=[]/\(∀i,i≠v->(e_ (v:Int) n h).g i=h.g i)/\(∀m o,Oa (e_ (v:Int) n h).s.2 m o<->Oa h.s.2 m o)/\rJ h (e_ (v:Int) n h) (λi _=>i=v) (-1)/\uL (v:Int) gh cI h.s (e_ (v:Int) n h).s
 |0,gh,h,H,hx,d=>⟨gh,H,hx,List.length_eq_zero_iff.1 d,λ_ _=>rfl,λ_ _=>Iff.rfl,.refl _ _ _,uL.refl _ _⟩
 |n+1,gh,h,H,⟨x,hx⟩,d=>by
  have w:vE h (v:Int)=x.tk:=by rw[XG];exact gD hx
  have z:x.tk.length=n+1:=by rw[<-gD hx];exact d
  have A:x.tk.map (·.1)≠[]:=λe=>by
   have:=congrArg List.length e;rw[DL,z] at this;simp at this
  have q:=EF A (λy B=>by
   obtain⟨t,j,rfl⟩:=Bs.1 B;have C:t∈jd h v:=by rw[gD hx];exact j
   have:=H.hc.jy (H.hc.AL (a:=t.2.1) (f:=t.2.2) (H.hc.Kv C)).1;omega)
  obtain⟨p,r⟩: ∃p,p=Av (x.tk.map (·.1)):=⟨_,rfl⟩;rw[<-r] at q;obtain⟨t,j,D⟩:=Bs.1 q;have k:=H.hc.nd v;rw[gD hx] at k;have l:cq x.tk p=some t.2:=(lh (a:=t.2.1) (b:=t.2.2) k).2 (by rw[<-D];exact j);have E:NO h (v:Int) p=t.2:=by
   unfold NO;show(match h.g v with|some x=>(cq x.tk p).getD (0,0)|none=>(0,0))= _;rw[hx];dsimp only;rw[l];rfl
  have F:yy (v:Int) h=dn h (v:Int) p t.2.1 t.2.2:=by
   unfold yy;rw[w, <-r,E]
  obtain⟨T,G,I,J, _,K⟩:=H.F5 (x:=x) hx l;have u:(dn h (v:Int) p t.2.1 t.2.2).g v=some {x with tk:=x.tk.filter λt=> !(t.1==p)}:=by
   show a_ h.g v (match h.g v with|some x=> _|none=>none) v= _;rw[hx,fH]
  have L:(jd (dn h (v:Int) p t.2.1 t.2.2) v).length=n:=by
   rw[gD u];have:=(BL k l).length_eq;rw[DV] at this;show(x.tk.filter λt=> !(t.1==p)).length=n;omega
  obtain⟨M,h1,N,O,P,Q,R,S⟩:=HI.e_ n G ⟨_,u⟩ L;have e:_root_.Go.Proofs.YtlcenllcmeebhaaGreat.e_ (v:Int) (n+1) h=_root_.Go.Proofs.YtlcenllcmeebhaaGreat.e_ (v:Int) n (dn h (v:Int) p t.2.1 t.2.2):=by rw[<-F];rfl
  rw[e];refine⟨M,h1,N,O,λi hi=>?_,λm o=>(Q m o).trans (I m o),rJ.trans (J.mono λc=>c.1) R,K.trans S⟩;rw[P i hi];show a_ h.g v _ i=h.g i;unfold a_;rw[ao hi]
end
section
variable {gh cI:Gh} {h:HS}
theorem Nj {v:Int} {x:GV} (a:aQ h.g v=true) (hx:h.g v.toNat=some x) (p:Int):f_ h.g h.s v p=bz h.s x.root false p:=by
 unfold f_;rw[av a,hx]
theorem HI.word (H:HI gh h) {v:Int} (i:aQ h.g v=true) {a t:Int} (r:0<=a) (l:0<=t/\t<=7):
 (a<1048576/\(f_ h.g h.s v (a / 16)).2.2.1=0/\iD h v a t=(16*(f_ h.g h.s v (a / 16)).1+a % 16,if dM true (f_ h.g h.s v (a / 16)).2.1 false (f_ h.g h.s v (a / 16)).1 t=true then 0 else 7)/\
  ∃n:Nat,(f_ h.g h.s v (a / 16)).1=(n:Int)/\n<h.s.2.length/\mg h v.toNat (a / 16)=some (n:Int))\/
 ((a>=1048576/\(iD h v a t).2=2)\/(a<1048576/\f_ h.g h.s v (a / 16)=(0,0,4,())/\(iD h v a t).2=4)):=by
 obtain⟨x,hx,m,hv,u,w⟩:=bM i;rw[Nj i hx];unfold iD;by_cases c:a>=1048576
 ·rw[av c];exact .inr (.inl ⟨c,rfl⟩)
 rw[ao c,m];have o:=H.root hx;have j:0<=a / 16/\a / 16<65536:=by omega
 have b:=H.inv.GK H.nl o j l;by_cases e:(bz h.s x.root false (a / 16)).2.2.1=0
 ·rw[av e] at b;have k:mg h v.toNat (a / 16)=some (bz h.s x.root false (a / 16)).1:=by rw[cR hx,av e]
  obtain⟨n,d,f,p, _⟩:=H.Ua k;have q:n<h.s.2.length:=(AJ.1 p).1;have y:=H.inv.le;refine .inl ⟨by omega,e,?_,n,f,q,by rw[k,f]⟩;rw[b];dsimp only;rw[f,eJ (by omega) (by omega),ay (by omega) (by omega)]
 ·rw[ao e] at b;refine .inr (.inr ⟨by omega,(Inv.aai _ _ j).resolve_left e,b⟩)
theorem HI.SU (H:HI gh h) {n:Nat} {d:DT} (c:h.s.2[n]? =some d) (d4:d.1=4) {o:Int} (f:0<=o/\o<16) (b:Int):HI gh (bq h (dC h.s.1 (16*(n:Int)+o) b,h.s.2))/\rJ h (bq h (dC h.s.1 (16*(n:Int)+o) b,h.s.2)) (λ_ _=>False) (n:Int):=by
 have B:Inv.fa gh h.s (dC h.s.1 (16*(n:Int)+o) b,h.s.2):=by
  refine gU H.inv ⟨cF _ _ _,rfl⟩ (λq e=>⟨n,d,c,by rw[d4];decide,?_⟩) λ{i d d'} h1 a=>?_
  ·refine Aq λhc=>e ?_;show cL (dC h.s.1 (16*(n:Int)+o) b) q= _;rw[mi (by omega)]
  ·rw[h1] at a;cases a;exact .inl rfl
 refine⟨H.side B H.hc,H.CQ B (h':=bq h (dC h.s.1 (16*(n:Int)+o) b,h.s.2)) rfl rfl _,λ{m d d'} _ _ _ _ g k k0 j=>?_,.refl rfl⟩;show cL (dC h.s.1 (16*(n:Int)+o) b) _= _;exact mi (by omega)
theorem HI.store (H:HI gh h) {v:Int} (f:aQ h.g v=true) {a:Int} (i:0<=a) (b:Int):HI gh (jn h v a b)/\Aa h (jn h v a b) (λ_ _=>False):=by
 unfold jn;by_cases e:(iD h v a 2).2≠0
 ·rw[av e];exact⟨H,Aa.refl _ _⟩
 rw[ao e];have e:(iD h v a 2).2=0:=Aq e;rcases H.word f i (t:=2) (by decide) with ⟨_, _,j,n,k,u,l⟩|⟨_,c⟩|⟨_, _,c⟩
 ·rw[j];dsimp only;rw[k];obtain⟨m,d,p,q,d4, _⟩:=H.Ua l;have:n=m:=Ar p;subst this;obtain⟨r,s⟩:=H.SU q d4 (o:=a % 16) (by omega) b;exact⟨r,s.pg⟩
 ·rw[c] at e;exact absurd e (by decide)
 ·rw[c] at e;exact absurd e (by decide)
theorem HI.Wj (H:HI gh h) {n:Nat} {d:DT} (f:h.s.2[n]? =some d) (i:d.1=5):d=(5,d.2.1,0,0,())/\0<=d.2.1/\d.2.1<=16:=by
 obtain⟨_,j,l,m⟩:=H.hc.kd f;have g:=H.hc.refs f;have:dY (jd h) (n:Int)=0:=by
  rcases Cj (dY (jd h) (n:Int)) with e|e
  ·exact e
  ·obtain⟨d',k,o⟩:=H.hc.IQ e;rw[f] at k;cases k;omega
 rw[this] at g;refine⟨?_,l,m⟩;obtain⟨a,b,c,e,u⟩:=d;dsimp only at i j g;rw[i,j,g];rfl
theorem HI.IS (H:HI gh h) {n:Nat} {d:DT} (a:h.s.2[n]? =some d) (e:d.1=5):fQ h.s (n:Int)=(h.s.1,h.s.2.set n zD)/\jB h.s (n:Int)=0/\HI gh (bq h (h.s.1,h.s.2.set n zD))/\Aa h (bq h (h.s.1,h.s.2.set n zD)) (λ_ _=>False):=by
 have l:n<h.s.2.length:=(AJ.1 a).1;obtain⟨o,p,q⟩:=H.Wj a e;have g:=a;rw[o] at g;have j:=yz (G:=aP 0 0) g (Ib ⟨p,q⟩);have k:Ag h.s.2 (n:Int)=true:=by
  unfold Ag;simp only[GF,decide_eq_false_iff_not];simp;omega
 have B:Inv.fa gh h.s (h.s.1,h.s.2.set n zD):=by
  refine gU H.inv ⟨rfl,by rw[Ae]⟩ (λb hb=>absurd rfl hb) λ{i d0 d'} h1 r=>?_;rcases nq a h1 r with ⟨_,t,f⟩|⟨_,f⟩
  ·exact .inr ⟨by rw[t,e];decide,by rw[f];decide,λ_=>f⟩
  ·exact .inl f
 refine⟨?_,?_,H.side B (H.hc.Gx (λ{m d0} h1 u=>?_) λ{m d0} h1=>?_),H.CQ B (h':=bq h (h.s.1,h.s.2.set n zD)) rfl rfl _⟩
 ·unfold fQ;rw[av ⟨k,by rw[nM a];exact e⟩,j.1]
 ·unfold jB;rw[k,ao (by decide),nM a,ao (λc=>c e)];exact j.2
 ·show(h.s.2.set n zD)[m]? = _;rw[AF (λc=>by subst c;rw[a] at h1;cases h1;omega)];exact h1
 ·have h1:(h.s.2.set n zD)[m]? =some d0:=h1;by_cases c:n=m
  ·subst c;rw[AM l] at h1;cases h1;exact .inr ⟨.inl rfl,rfl,by decide,by decide⟩
  ·rw[AF c] at h1;exact .inl h1
theorem Wk {s:WD} {f:Int} (g: ∀(n:Nat) (d:DT),f=(n:Int)->s.2[n]? =some d->d.1≠5):fQ s f=s/\jB s f≠0:=by
 by_cases e:Ag s.2 f=true
 ·have i:0<=f/\f<s.2.length:=by
   have a:=e;unfold Ag at a;simp only[GF,decide_eq_false_iff_not] at a;simp at a;omega
  have b:s.2[f.toNat]? =some s.2[f.toNat]:=B1 (by omega);have h:=g f.toNat _ (by omega) b;have hv:(qI s.2 f).1≠5:=by
   have:=nM b;rw[show((f.toNat:Nat):Int)=f by omega] at this;rw[this];exact h
  unfold fQ jB;rw[ao (λc=>hv c.2),e,ao (by decide),av hv];exact⟨rfl,by decide⟩
 ·unfold fQ jB;have e:Ag s.2 f=false:=by simpa using e
  rw[e,ao (by simp),av rfl];exact⟨rfl,by decide⟩
theorem HI.free (H:HI gh h) (f:Int):HI gh (bq h (fQ h.s f))/\(fQ h.s f=h.s\/ ∃(n:Nat) (d:DT),f=(n:Int)/\h.s.2[n]? =some d/\d.1=5/\fQ h.s f=(h.s.1,h.s.2.set n zD)):=by
 by_cases e: ∃(n:Nat) (d:DT),f=(n:Int)/\h.s.2[n]? =some d/\d.1=5
 ·obtain⟨n,d,rfl,h1,a⟩:=e;obtain⟨b, _,c, _⟩:=H.IS h1 a;rw[b];exact⟨c,.inr ⟨n,d,rfl,h1,a,rfl⟩⟩
 ·obtain⟨b, _⟩:=Wk (s:=h.s) (f:=f) λn d h1 a g=>e ⟨n,d,h1,a,g⟩;rw[b];exact⟨H,.inl rfl⟩
theorem HI.XH (H:HI gh h): ∀n,HI gh (bq h (dL h.s n).1)
 |0=>H
 |n+1=>((HI.XH H n).free (n:Int)).1
theorem HI.GN (H:HI gh h) (oo:Int:=0): ∃cI,HI cI (fS h)/\rJ h (fS h) (λ_ q=> ¬ (0<=q/\q<65536)) (-1)/\uL oo gh cI h.s (fS h).s:=by
 unfold fS;cases hv:mW h.g with
 |none=>exact⟨gh,H,.refl _ _ _,uL.refl _ _⟩
 |some v=>
  dsimp only;by_cases e:rH h.s (v:Int)=0
  case neg=>rw[ao e];exact⟨gh,H,.refl _ _ _,uL.refl _ _⟩
  rw[av e];obtain⟨Yf,z, _⟩:=n6.1 hv;have T: ∀f,gh f≠some ((v:Int),3,0):=λf a=>by
   obtain⟨i,x,h1,r⟩:=H.own a;have:i=v:=Ar h1;subst this;rw[z] at r;cases r
  obtain⟨_,I,b2,b3,B,J,C,U,V,D⟩:=H.inv.born (o:=(v:Int)) (by omega) T (vo e);have X: ∀{f o y k:Int} {l:Nat},gh f=some (o,l,y)->0<=k->k<16->cL (jc h.s (v:Int) λ_=>0).1 (16*f+k)=cL h.s.1 (16*f+k):=λ{f o y k l} a k0 n=>by
   have dk:f≠eK h.s (v:Int):=λc=>by rw[c,I] at a;cases a
   exact C _ (by omega)
  have K: ∀k,0<=k->k<16->aK (jc h.s (v:Int) λ_=>0).1 (16*eK h.s (v:Int)+k)=zE:=λk k0 n=>Y_ (U k k0 n);generalize (jc h.s (v:Int) λ_=>0)=s' at*
  generalize eK h.s (v:Int)=F at*
  have L: ∀{f o y k:Int} {l:Nat},gh f=some (o,l,y)->0<=k->k<16->aK s'.1 (16*f+k)=aK h.s.1 (16*f+k):=λa k0 n=>by unfold aK;rw[X a k0 n]
  have u: ∀{f o y:Int} {l:Nat},gh f=some (o,l,y)->mN gh F (some ((v:Int),3,0)) f=some (o,l,y):=λ{f o y l} a=>by
   rw[aZ (λc=>by rw[c,I] at a;cases a)];exact a
  have M: ∀{i:Nat} {x:GV},a_ h.g v (some ⟨F,[]⟩) i=some x->(i=v/\x=⟨F,[]⟩)\/(i≠v/\h.g i=some x):=λ{i x} hx=>by
   unfold a_ at hx;by_cases c:i=v
   ·rw[av c] at hx;cases hx;exact .inl ⟨c,rfl⟩
   ·rw[ao c] at hx;exact .inr ⟨c,hx⟩
  have Y:F.toNat<h.s.2.length:=by omega
  have N: ∀{i:Nat} {p:Int},0<=p/\p<65536->fW {h with s:=s',g:=a_ h.g v (some ⟨F,[]⟩)} i p=fW h i p:=λ{i p} b=>by
   by_cases c:i=v
   ·subst c;rw[gA z,bN (h:={h with s:=s',g:=a_ h.g i (some ⟨F,[]⟩)}) (x:=⟨F,[]⟩) (fH _ _ _)];show bz s' F false p= _;have O:=K (px 3 p % 16) (eh p 3).1 (eh p 3).2;have t:dx (mN gh F (some ((i:Int),3,0))) s' (i:Int) p F 3:=⟨by rw[W7 b];exact bK _ _ _,by rw[O];exact Kq⟩;rw[D.fm (bK _ _ _) b t,O,F4 _ _ rfl]
   ·cases hx:h.g i with
    |none=>
     rw[gA hx];exact gA (h:={h with s:=s',g:=a_ h.g v (some ⟨F,[]⟩)}) (show a_ h.g v (some ⟨F,[]⟩) i=none by unfold a_;rw[ao c];exact hx) p
    |some x=>
     rw[bN hx,bN (h:={h with s:=s',g:=a_ h.g v (some ⟨F,[]⟩)}) (x:=x) (show a_ h.g v (some ⟨F,[]⟩) i=some x by unfold a_;rw[ao c];exact hx)];show bz s' x.root false p= _;obtain⟨f,j, _,t⟩:=H.inv.lJ (H.root hx) b;have P:=L t.1 (eh p j).1 (eh p j).2;have Z:dx (mN gh F (some ((v:Int),3,0))) s' (i:Int) p f j:=⟨u t.1,by rw[P];exact t.2⟩;rw[H.inv.fm (H.root hx) b t,D.fm (u (H.root hx)) b Z,P]
  have Q: ∀(h:HS) {i:Nat} {p:Int},¬ (0<=p/\p<65536)->(fW h i p).2.2.1≠0:=λh {i p} b=>by
   unfold fW;cases h.g i with
   |none=>exact(show ¬ (4:Int)=0 by decide)
   |some x=>dsimp only;rw[Inv.xN b];decide
  have ig:mg {h with s:=s',g:=a_ h.g v (some ⟨F,[]⟩)}=mg h:=by
   funext i p;rw[ku,ku];by_cases b:0<=p/\p<65536
   ·rw[N b]
   ·rw[ao (Q _ b),ao (Q _ b)]
  have k8:jd {h with s:=s',g:=a_ h.g v (some ⟨F,[]⟩)}=jd h:=by
   funext i;unfold jd;show(match a_ h.g v (some ⟨F,[]⟩) i with|some x=>x.tk|none=>[])= _;unfold a_;by_cases c:i=v
   ·rw[av c,c,z]
   ·rw[ao c]<;>rfl
  have E:h.s.2[F.toNat]? =some zD:=J;have R:rJ h {h with s:=s',g:=a_ h.g v (some ⟨F,[]⟩)} (λ_ q=> ¬ (0<=q/\q<65536)) (-1):=by
   refine⟨⟨λhq=>N (Aq hq)⟩,λ{m d d'} h1 G _ _ _ k k0 n=>?_,?_⟩
   ·have hmF:m≠F.toNat:=λc=>by rw[c,E] at h1;cases h1;exact absurd G (by decide)
    exact C _ (by omega)
   ·show KD h.s s';have:=KD.set (s:=h.s) (W:=s'.1) (d1:=((3:Int),(v:Int),(0:Int),(0:Int),())) E (λc=>absurd c (by decide)) (λc=>absurd c (by decide));rw[<-B] at this;exact this
  suffices hh:HI (mN gh F (some ((v:Int),3,0))) {h with s:=s',g:=a_ h.g v (some ⟨F,[]⟩)} from⟨_,hh,R,λf w a=> .inl (by
   obtain⟨o,l,x⟩:=w;exact u a),λf c=>c.kd R.kd λk k0 n=>(by
   obtain⟨z0,d,S,z2, _⟩:=c;have:f.toNat≠F.toNat:=λe=>by rw[e,E] at S;cases S;exact absurd z2 (by decide)
   exact C _ (by omega)),λf w a _=>(by
   obtain⟨o,l,x⟩:=w;exact u a)⟩
  refine⟨D,λf o x a=>?_,λf o l x k a k0 n b A=>?_,?_,λ{i x} hx=>?_,λ{i x} hx=>?_,λ{f o y} a=>?_,?_⟩
  ·by_cases c:f=F
   ·subst c;rw[bK] at a;cases a;rfl
   ·rw[aZ c] at a;exact H.rt f o x a
  ·by_cases c:f=F
   ·subst c;have b:(aK s'.1 (16*f+k)).1=true:=b;rw[K k k0 n] at b;cases b
   ·rw[aZ c] at a;have b:(aK s'.1 (16*f+k)).1=true:=b;have A:dI (aK s'.1 (16*f+k))=false:=A;rw[L a k0 n] at b A;exact H.nl a k0 n b A
  ·show s'.1.length=16*s'.2.length;rw[V,B,Ae];exact H.sz
  ·rcases M hx with ⟨c, _⟩|⟨_,c⟩
   ·omega
   ·exact H.jy c
  ·rcases M hx with ⟨c,d⟩|⟨_,c⟩
   ·subst c;subst d;exact bK _ _ _
   ·exact u (H.root c)
  ·by_cases c:f=F
   ·subst c;rw[bK] at a;cases a;exact⟨v, _,rfl,fH _ _ _⟩
   ·rw[aZ c] at a;obtain⟨i,x,h1,r⟩:=H.own a;refine⟨i,x,h1,?_⟩;show a_ h.g v _ i=some x;unfold a_;rw[ao (λc=>by subst c;rw[z] at r;cases r)];exact r
  ·rw[ig,k8];show HC (mg h) (jd h) s'.2 h.gr;rw[B];refine H.hc.Gx (λ{m d} h1 G=>?_) λ{m d} h1=>?_
   ·rw[AF (λc=>by subst c;rw[J] at h1;cases h1;exact absurd G (by decide))];exact h1
   ·by_cases c:F.toNat=m
    ·subst c;rw[AM Y] at h1;cases h1;exact .inr ⟨.inr (.inl rfl),rfl,by show 0<=(v:Int);omega,by show(v:Int)<=16;omega⟩
    ·rw[AF c] at h1;exact .inl h1
end
theorem tO {ds:List DT} {v:Int} {i:Nat}:i∈fY ds v<-> ∃d,ds[i]? =some d/\d.2.1=v:=by
 unfold fY;rw[B2,DB];constructor
 ·rintro⟨h1,a⟩;have b:ds[i]? =some ds[i]:=B1 h1;rw[b] at a;exact⟨_,b,by simpa using a⟩
 ·rintro⟨d,h1,a⟩;exact⟨(AJ.1 h1).1,by rw[h1];simpa using a⟩
theorem Ic (ds:List DT) (v:Int):(fY ds v).Nodup:=List.Pairwise.filter _ FX
theorem zk {v:Int} (hv:1<=v/\v<=16): ∀(l:List Nat) (ds:List DT) (c:Int),l.Nodup->(∀i∈l, ∀d,ds[i]? =some d->d.1=4->d=(4,v,0,0,()))->
 (l.foldl (uY v) (ds,c)).1.length=ds.length/\ ∀n:Nat,((n∈l/\ ∃d,ds[n]? =some d/\d.1=4)->(l.foldl (uY v) (ds,c)).1[n]? =some (5,v,0,0,()))/\(¬ (n∈l/\ ∃d,ds[n]? =some d/\d.1=4)->(l.foldl (uY v) (ds,c)).1[n]? =ds[n]?)
 |[],ds,c, _, _=>⟨rfl,λn=>⟨λh=>(by cases h.1),λ_=>rfl⟩⟩
 |i::l,ds,c,f,m=>by
  rw[DE] at f;rw[List.foldl_cons];by_cases e:(qI ds (i:Int)).1=4
  ·rw[show uY v (ds,c) i=(dH ds (i:Int) (aP 5 v),c+1) from av e];have hi:i<ds.length:=by
    refine Aq λhc=>?_;unfold qI at e;rw[av (.inr (by omega))] at e;exact absurd e (by decide)
   have g:ds[i]? =some ds[i]:=B1 hi;rw[nM g] at e;have p:=m i Bx _ g e;rw[p] at g;rw[(yz (G:=aP 5 v) g (BM hv)).1];obtain⟨h1,b⟩:=zk hv l (ds.set i (5,v,0,0,())) (c+1) f.2 λj k d o q=>by
    have r:i≠j:=λe=>f.1 (by rw[e];exact k);rw[AF r] at o;exact m j (Cg _ k) d o q
   refine⟨h1.trans (Ae ..),λn=>⟨λa=>?_,λa=>?_⟩⟩
   ·by_cases en:i=n
    ·subst en;rw[(b i).2 (λc=>f.1 c.1),AM hi]
    ·refine(b n).1 ⟨?_,?_⟩
     ·rcases Db.1 a.1 with h|h
      ·exact absurd h.symm en
      ·exact h
     ·rw[AF en];exact a.2
   ·have en:i≠n:=λen=>by subst en;exact a ⟨Bx, _,g,rfl⟩
    rw[(b n).2 (λc=>a ⟨Cg _ c.1,by rw[AF en] at c;exact c.2⟩),AF en]
  ·rw[show uY v (ds,c) i=(ds,c) from ao e];obtain⟨h1,b⟩:=zk hv l ds c f.2 λj k=>m j (Cg _ k);refine⟨h1,λn=>⟨λa=>(b n).1 ⟨?_,a.2⟩,λa=>(b n).2 λc=>a ⟨Cg _ c.1,c.2⟩⟩⟩;rcases Db.1 a.1 with h|h
   ·subst h;obtain⟨d,s,t⟩:=a.2;rw[nM s] at e;exact absurd t e
   ·exact h
theorem JJ {s s':WD} (h:s'.1=s.1) (r:Int) (g:Bool) (p:Int):bz s' r g p=bz s r g p:=by
 unfold bz;rw[h]
section
variable {gh:Gh} {h:HS}
theorem HI.gone (H:HI gh h) {v:Nat} {x:GV} (hx:h.g v=some x) (O:jd h v=[]) (P: ∀n,Oa h.s.2 n (v:Int)->dY (jd h) (n:Int)=0): ∃cI,HI cI (vP h (v:Int))/\rJ h (vP h (v:Int)) (λi _=>i=v) (-1)/\(∀(f:Int) (w:Int×Nat×Int),gh f=some w->w.1≠(v:Int)->cI f=some w)/\ ∀f,iS h.s f->iS (vP h (v:Int)).s f:=by
 have hd:=H.jy hx;have K:1<=(v:Int)/\(v:Int)<=16:=by omega
 obtain⟨Q,V,w1,W,F⟩:=H.inv.dropped H.rt (H.root hx);have X:aR h.g (v:Int)=x.root:=by
  unfold aR;rw[av (cm.2 ⟨by omega,x,hx⟩)];show(match h.g v with|some x=>x.root|none=> -1)= _;rw[hx]
 have Y:vP h (v:Int)={s:=((cG h.s x.root false).1,(Ck (cG h.s x.root false).2 (v:Int)).1),g:=a_ h.g v none,gr:=cP h.gr (v:Int),po:=(Po.cG 4 h.po (v:Int)).2}:=by
  unfold vP;rw[X];rfl
 rw[Y];generalize cG h.s x.root false=s1 at*
 have Z: ∀{n:Nat} {d:DT},s1.2[n]? =some d->d.1=4->h.s.2[n]? =some d:=λ{n d} h1 r=>by
  by_cases e: ∃l y,gh (n:Int)=some ((v:Int),l,y)
  ·rw[(F n).1 e] at h1;cases h1;exact absurd r (show ¬ (5:Int)=4 by decide)
  ·rw[(F n).2 e] at h1;exact h1
 have L: ∀{n:Nat} {d:DT},h.s.2[n]? =some d->d.1=4->s1.2[n]? =some d:=λ{n d} h1 r=>by
  rw[(F n).2 (λ⟨l,y,G⟩=>?_)]
  ·exact h1
  ·have:=(H.inv.kd G).2.2.1;rw[show((n:Int)).toNat=n from rfl,h1] at this;cases this;exact absurd r (show ¬ (3:Int)=4 by decide)
 have mL: ∀i∈fY s1.2 (v:Int), ∀d,s1.2[i]? =some d->d.1=4->d=(4,(v:Int),0,0,()):=λi hi d h1 r=>by
  obtain⟨d',I,J⟩:=tO.1 hi;rw[h1] at I;cases I;have C:=Z h1 r;obtain⟨_,D, _⟩:=H.hc.kd C;have E:=H.hc.refs C;rw[P i ⟨d,C,r,J⟩] at E;obtain⟨a,b,c,e,u⟩:=d;dsimp only at r D E J;rw[r,D,E,J];rfl
 obtain⟨f1,f2⟩:=zk K (fY s1.2 (v:Int)) s1.2 0 (Ic _ _) mL;have hoT:(Ck s1.2 (v:Int)).1=((fY s1.2 (v:Int)).foldl (uY (v:Int)) (s1.2,0)).1:=rfl;rw[<-hoT] at f1 f2;generalize (Ck s1.2 (v:Int)).1=j at*
 have B:Inv.fa (Kt gh (v:Int)) s1 (s1.1,j):=by
  refine gU Q ⟨rfl,f1⟩ (λb hb=>absurd rfl hb) λ{n d d'} h1 t=>?_;by_cases c:n∈fY s1.2 (v:Int)/\ ∃d,s1.2[n]? =some d/\d.1=4
  ·have t:j[n]? =some d':=t;rw[(f2 n).1 c] at t;cases t;obtain⟨_,d0,D,E⟩:=c;rw[h1] at D;cases D;exact .inr ⟨by rw[E];decide,(show ¬ (5:Int)=3 by decide),λc=>absurd c (show ¬ (5:Int)=0 by decide)⟩
  ·have t:j[n]? =some d':=t;rw[(f2 n).2 c,h1] at t;cases t;exact .inl rfl
 have R: ∀{i:Nat} {y:GV},a_ h.g v none i=some y->i≠v/\h.g i=some y:=λ{i y} A=>by
  unfold a_ at A;by_cases c:i=v
  ·rw[av c] at A;cases A
  ·rw[ao c] at A;exact⟨c,A⟩
 have M: ∀{i:Nat} {y:GV},i≠v->h.g i=some y->a_ h.g v none i=some y:=λ{i y} hi A=>by
  unfold a_;rw[ao hi];exact A
 have acF:jd {s:=(s1.1,j),g:=a_ h.g v none,gr:=cP h.gr (v:Int),po:=(Po.cG 4 h.po (v:Int)).2}=jd h:=by
  funext i;unfold jd;show(match a_ h.g v none i with|some x=>x.tk|none=>[])= _;unfold a_;by_cases c:i=v
  ·rw[av c];subst c;exact O.symm
  ·rw[ao c]<;>rfl
 have ig:mg {s:=(s1.1,j),g:=a_ h.g v none,gr:=cP h.gr (v:Int),po:=(Po.cG 4 h.po (v:Int)).2}=λi p=>if i=v then none else mg h i p:=by
  funext i p;by_cases c:i=v
  ·rw[av c];exact gB (h:={s:=(s1.1,j),g:=a_ h.g v none,gr:=cP h.gr (v:Int),po:=(Po.cG 4 h.po (v:Int)).2}) (show a_ h.g v none i=none by unfold a_;rw[av c]) p
  ·rw[ao c];cases hi:h.g i with
   |none=>
    rw[gB hi];exact gB (h:={s:=(s1.1,j),g:=a_ h.g v none,gr:=cP h.gr (v:Int),po:=(Po.cG 4 h.po (v:Int)).2}) (show a_ h.g v none i=none by unfold a_;rw[ao c];exact hi) p
   |some z=>
    rw[cR hi,cR (h:={s:=(s1.1,j),g:=a_ h.g v none,gr:=cP h.gr (v:Int),po:=(Po.cG 4 h.po (v:Int)).2}) (M c hi)];rw[JJ (s:=h.s) (s':=(s1.1,j)) w1]
 have S:rJ h {s:=(s1.1,j),g:=a_ h.g v none,gr:=cP h.gr (v:Int),po:=(Po.cG 4 h.po (v:Int)).2} (λi _=>i=v) (-1):=by
  refine⟨⟨λ{i q} c=>?_⟩,λ{m d d'} _ _ _ _ _ k _ _=>by show cL s1.1 _= _;rw[w1],λ{n d} h1 r=>?_,λ{n d} h1 h5=>?_⟩
  ·cases hi:h.g i with
   |none=>
    rw[gA hi];exact gA (h:={s:=(s1.1,j),g:=a_ h.g v none,gr:=cP h.gr (v:Int),po:=(Po.cG 4 h.po (v:Int)).2}) (show a_ h.g v none i=none by unfold a_;rw[ao c];exact hi) q
   |some z=>
    rw[bN hi,bN (h:={s:=(s1.1,j),g:=a_ h.g v none,gr:=cP h.gr (v:Int),po:=(Po.cG 4 h.po (v:Int)).2}) (M c hi)];exact JJ (s:=h.s) (s':=(s1.1,j)) w1 _ _ _
  ·have C:=L h1 r;show∃d',j[n]? =some d'/\ _;by_cases c:n∈fY s1.2 (v:Int)/\ ∃d,s1.2[n]? =some d/\d.1=4
   ·exact⟨_,(f2 n).1 c,.inr rfl⟩
   ·exact⟨d,by rw[(f2 n).2 c];exact C,.inl r⟩
  ·show∃d',j[n]? =some d'/\ _;have C: ∃d',s1.2[n]? =some d'/\d'.1=5:=by
    by_cases e: ∃l y,gh (n:Int)=some ((v:Int),l,y)
    ·exact⟨_,(F n).1 e,rfl⟩
    ·exact⟨d,by rw[(F n).2 e];exact h1,h5⟩
   obtain⟨d',D,E⟩:=C;by_cases c:n∈fY s1.2 (v:Int)/\ ∃d,s1.2[n]? =some d/\d.1=4
   ·exact⟨_,(f2 n).1 c,rfl⟩
   ·exact⟨d',by rw[(f2 n).2 c];exact D,E⟩
 suffices hh:HI (Kt gh (v:Int)) {s:=(s1.1,j),g:=a_ h.g v none,gr:=cP h.gr (v:Int),po:=(Po.cG 4 h.po (v:Int)).2} from⟨_,hh,S,λf w G hn=>de.2 ⟨G,hn⟩,λf c=>c.kd S.kd λk _ _=>by show cL s1.1 _= _;rw[w1]⟩
 refine⟨Q.beside B,V,Inv.ni B (λf o l y k G k0 I T U=>?_),?_,λ{i y} A=>H.jy (R A).2,λ{i y} A=>?_,λ{f o y} G=>?_,?_⟩
 ·rw[w1] at T U;exact H.nl (de.1 G).1 k0 I T U
 ·show s1.1.length=16*j.length;rw[w1,f1,W];exact H.sz
 ·obtain⟨h1,t⟩:=R A;exact de.2 ⟨H.root t,λc=>h1 (Ar c)⟩
 ·obtain⟨h1,t⟩:=de.1 G;obtain⟨i,y',D,E⟩:=H.own h1;exact⟨i,y',D,M (λc=>t (by show o= _;rw[<-D,c])) E⟩
 ·rw[ig,acF];refine H.hc.gone ⟨by omega,by omega⟩ O (λ{n d} h1 r N=>?_) (λ{n d} h1 r N=>?_) (λ{n d} h1=>?_) (H.hc.gk.drop _)
  ·rw[H.hc.refs h1,P n ⟨d,h1,r,N⟩];rfl
  ·show j[n]? =some d;rw[(f2 n).2 (λc=>?_)]
   ·exact L h1 r
   ·obtain⟨d',I,J⟩:=tO.1 c.1;rw[L h1 r] at I;cases I;exact N J
  ·have h1:j[n]? =some d:=h1;by_cases c:n∈fY s1.2 (v:Int)/\ ∃d,s1.2[n]? =some d/\d.1=4
   ·rw[(f2 n).1 c] at h1;cases h1;exact .inr ⟨.inr (.inr rfl),rfl,by show 0<=(v:Int);omega,K.2⟩
   ·rw[(f2 n).2 c] at h1;by_cases e: ∃l y,gh (n:Int)=some ((v:Int),l,y)
    ·rw[(F n).1 e] at h1;cases h1;exact .inr ⟨.inr (.inr rfl),rfl,by show 0<=(v:Int);omega,K.2⟩
    ·have C:=h1;rw[(F n).2 e] at h1;exact .inl ⟨h1,λk=>c ⟨tO.2 ⟨d,C,k.2⟩,d,C,k.1⟩⟩
theorem HI.JL (H:HI gh h) (a:Int): ∃cI,HI cI (th h a)/\rJ h (th h a) (λi _=>i=a.toNat) (-1)/\(∀(f:Int) (w:Int×Nat×Int),gh f=some w->w.1≠a->cI f=some w\/iS (th h a).s f)/\ ∀f,iS h.s f->iS (th h a).s f:=by
 unfold th;by_cases k:aQ h.g a=true
 case neg=>rw[ao k];exact⟨gh,H,.refl _ _ _,λ_ _ h _=> .inl h,λ_ h=>h⟩
 rw[av k];by_cases hb:tr h.s.2 a=true
 case pos=>rw[av hb];exact⟨gh,H,.refl _ _ _,λ_ _ h _=> .inl h,λ_ h=>h⟩
 rw[ao hb];obtain⟨x,hx,L,hv,M,N⟩:=bM k;obtain⟨v,rfl⟩: ∃v:Nat,a=(v:Int):=⟨a.toNat,hv.symm⟩;have hx:h.g v=some x:=hx;obtain⟨g1,r,⟨O,u⟩,o,y,z,A,p⟩:=HI.e_ (vE h (v:Int)).length H ⟨x,hx⟩ rfl
 suffices B: ∀n,Oa (_root_.Go.Proofs.YtlcenllcmeebhaaGreat.e_ (v:Int) (vE h (v:Int)).length h).s.2 n (v:Int)->dY (jd (_root_.Go.Proofs.YtlcenllcmeebhaaGreat.e_ (v:Int) (vE h (v:Int)).length h)) (n:Int)=0 by
  obtain⟨C,D,E2,b,l⟩:=r.gone u o B;exact⟨C,D,A.trans E2,λf w E m=>(p.1 f w E).imp (λe=>b f w e m) (l f),λf c=>l f (p.2.1 f c)⟩
 intro n m;rcases Cj (dY (jd (_root_.Go.Proofs.YtlcenllcmeebhaaGreat.e_ (v:Int) (vE h (v:Int)).length h)) (n:Int)) with e|e
 ·exact e
 ·obtain⟨i,t,hi,j,F⟩:=zj e;have G:i≠v:=λc=>by rw[c,o] at j;cases j
  have I:t∈jd h i:=by
   unfold jd at j ⊢;rw[y i G] at j;exact j
  obtain⟨d,b,l,J⟩:=(z n (v:Int)).1 m;have P:=nW (q:=λt=>t.2.2==(n:Int)) hi I F;have K:=H.hc.refs b;refine absurd ?_ hb;unfold tr;refine FY.2 ⟨n,tO.2 ⟨d,b,J⟩,?_⟩;rw[nM b];have:d.2.2.1>0:=by rw[K];unfold dY;omega
  simpa using this
end
theorem zR (o pg:Int): ∀(n:Nat) (x:WD×PT),(qZ o pg n x).1.1.length=x.1.1.length
 |0,x=>rfl
 |n+1,x=>by
  rw[qZ,zR o pg n];exact xJ _ _ _ _ _
theorem Nk (s:WD) (o r pg lv:Int) (e:ET):(rT s o r pg lv e).1.length=s.1.length:=by
 unfold rT;split
 ·show(dC _ _ _).length= _;rw[cF,zR]
 ·rfl
theorem qD (s:WD) (o r:Int) (gone:Bool) (pg f rt:Int):(jG s o r gone pg f rt).1.length=s.1.length:=by
 unfold jG;split
 ·rfl
 ·split
  ·exact Nk _ _ _ _ _ _
  ·rfl
theorem Nl (s:WD) (o r:Int) (gone:Bool) (pg rt:Int):(rU s o r gone pg rt).1.length=s.1.length:=by
 unfold rU;split
 ·rfl
 split
 ·split
  ·split
   ·rfl
   ·split
    ·show(dC _ _ _).length= _;rw[cF,tM]
    ·exact tM _ _ _ _
  ·rfl
 ·rfl
theorem SV (s:WD) (r:Int) (gone:Bool):(cG s r gone).1=s.1:=by
 unfold cG;split<;>rfl
theorem BO (v:Int): ∀(n:Nat) (h:HS),(e_ v n h).s.1.length=h.s.1.length
 |0,h=>rfl
 |n+1,h=>by
  rw[e_,BO v n];exact tN _ _ _ _ _
theorem Wl (h:HS) (v k a b c:Int):(run h v k a b c).1.s.1.length=h.s.1.length:=by
 unfold run;split
 ·show(fS h).s.1.length= _;unfold fS;split
  ·rfl
  ·split
   ·exact JB _ _ _
   ·rfl
 ·show(th h a).s.1.length= _;unfold th;split
  ·split
   ·rfl
   ·show(cG _ _ _).1.length= _;rw[SV,BO]
  ·rfl
 ·show(il h v a b).s.1.length= _;unfold il;split
  ·rfl
  split
  ·rfl
  split
  ·rfl
  split
  ·exact qD _ _ _ _ _ _ _
  ·exact(gT _ _ _ _).trans (qD _ _ _ _ _ _ _)
 ·show(mO h v a).s.1.length= _;unfold mO;split
  ·exact tN _ _ _ _ _
  ·rfl
 ·show(iE h v a b).s.1.length= _;unfold iE;split
  ·rfl
  split
  ·rfl
  split
  ·rfl
  ·exact Nl _ _ _ _ _ _
 ·rfl
 ·show(jn h v a b).s.1.length= _;unfold jn;split
  ·rfl
  ·exact cF _ _ _
 ·show(gz h v a b c).s.1.length= _;unfold gz;split<;>rfl
 ·show(iT h v a b c).s.1.length= _;unfold iT;split
  ·rfl
  split
  ·exact qD _ _ _ _ _ _ _
  ·exact qD _ _ _ _ _ _ _
 ·show(eR h v a).s.1.length= _;unfold eR;split
  ·rfl
  split
  ·exact tN _ _ _ _ _
  ·rfl
 ·show(eY h v a).s.1.length= _;unfold eY;split<;>rfl
 ·show(kO h v a).s.1.length= _;unfold kO;split<;>rfl
 ·show(kQ h v a b).s.1.length= _;unfold kQ;split
  ·rfl
  split<;>rfl
 ·show(kN h v a).s.1.length= _;unfold kN;split<;>rfl
 ·rfl
 ·show(ir h v a).s.1.length= _;unfold ir;split<;>rfl
 ·show(dL h.s _).1.1.length= _;rw[(BF h.s _).1]
theorem PZ (h:HS) (v k a b c:Int):(ij h v k a b c).s.1.length=h.s.1.length:=by
 unfold ij;split
 ·exact Wl _ _ _ _ _ _
 ·rfl
theorem yM {h:HS} {v k a b c:Int} (f:fT h v k a b c=0):(1<=k/\k<=17)/\(qM k=false->aQ h.g v=true)/\gu k a b c=true:=by
 unfold fT at f;split at f
 ·exact absurd f (by decide)
 rename_i d1;split at f
 ·exact absurd f (by decide)
 rename_i j;split at f
 ·exact absurd f (by decide)
 rename_i d;have i:gu k a b c=true:=by
  cases e:gu k a b c with
  |true=>rfl
  |false=>rw[e] at d1;simp at d1
 have d0: ¬ v<0:=λe=>d1 (by simp[e]);refine⟨?_,λe=>?_,i⟩
 ·unfold gu at i;rw[Dn,decide_eq_true_eq] at i;have d1:=i.1;unfold j_ at d1;by_cases e:1<=k/\k<=17
  ·exact e
  ·rw[ao e] at d1;exact absurd d1 (by decide)
 ·rw[e] at j;have m:v≠0:=by
   intro l;rw[l] at j;exact absurd rfl j
  have:decide (v>0)=true:=decide_eq_true (by omega);rw[this,Bool.true_and] at d;simpa using d
section
variable {gh:Gh} {h:HS}
theorem HI.run (H:HI gh h) {v k a b c:Int} (i:1<=k/\k<=17) (d:qM k=false->aQ h.g v=true) (f:0<=a): ∃cI,HI cI (run h v k a b c).1:=by
 have:k=1\/k=2\/k=3\/k=4\/k=5\/k=6\/k=7\/k=8\/k=9\/k=10\/k=11\/k=12\/k=13\/k=14\/k=15\/k=16\/k=17:=by omega
 rcases this with rfl|rfl|rfl|rfl|rfl|rfl|rfl|rfl|rfl|rfl|rfl|rfl|rfl|rfl|rfl|rfl|rfl
 ·obtain⟨g',e, _⟩:=H.GN (oo:=v);exact⟨g',e⟩
 ·obtain⟨g',e, _⟩:=H.JL a;exact⟨g',e⟩
 ·exact H.Gy (d rfl) a b
 ·exact H.CP (d rfl) a
 ·exact H.tw (d rfl) a b
 ·exact⟨gh,H⟩
 ·exact⟨gh,(H.store (d rfl) f b).1⟩
 ·exact⟨gh,H.offer v a b c⟩
 ·exact H.take (d rfl) a b c
 ·exact H.back (d rfl) a
 ·exact⟨gh,H.aaj v a⟩
 ·refine⟨gh,?_⟩;show HI gh (kO h v a);unfold kO;split
  ·exact H.po _
  ·exact H
 ·refine⟨gh,?_⟩;show HI gh (kQ h v a b);unfold kQ;split
  ·exact H
  split
  ·exact H.po _
  ·exact H
 ·refine⟨gh,?_⟩;show HI gh (kN h v a);unfold kN;split
  ·exact H
  ·exact H.po _
 ·exact⟨gh,H.po _⟩
 ·refine⟨gh,?_⟩;show HI gh (ir h v a);unfold ir;split
  ·exact H
  ·exact H.po _
 ·exact⟨gh,H.XH _⟩
theorem HI.step (H:HI gh h) (v k:Int) {a:Int} (b c:Int) (e:0<=a): ∃cI,HI cI (ij h v k a b c):=by
 unfold ij;by_cases d:fT h v k a b c=0
 ·rw[av d];obtain⟨h1,f, _⟩:=yM d;exact H.run h1 f e
 ·rw[ao d];exact⟨gh,H⟩
end
theorem HI.new {n:Nat} (r:4<=n/\n<=4096):HI noG (h0 n) where
 inv:=Mz (Dx _) r.2
 rt:=λf o x h=>(by cases h)
 nl:=λf o l x i h=>(by cases h)
 sz:=by
  show(Ci (16*n) (0:Int)).length=16*(Ci n zD).length;rw[FB,FB]
 jy:=λh=>(by cases h)
 root:=λh=>(by cases h)
 own:=λh=>(by cases h)
 hc:=by
  have b: ∀i p,mg (h0 n) i p=none:=λi p=>rfl;have c: ∀i,jd (h0 n) i=[]:=λi=>rfl;have e: ∀{m:Nat} {d:DT},(Ci n zD)[m]? =some d->d=zD:=λ{m d} h=>Fk (B5 h);have hg: ∀{m:Nat} {x:GT},(Ci 16 zG)[m]? =some x->x=zG:=λ{m d} h=>Fk (B5 h);have g: ∀q,nG (jd (h0 n)) q=0:=λq=>BK λi t j=>by rw[c i] at j;cases j
  refine⟨λh=>?_,λ{m d} h=>?_,λ{m d} h k=>?_,λh=>?_,λ{i p a f} h=>?_,λi=>?_,λh=>?_,λ{m d} h=>?_,λ{m x} h=>?_,FB,og.new 16⟩
  ·rw[b] at h;cases h
  ·rw[e h];decide
  ·rw[e h] at k;exact absurd k (by decide)
  ·rw[b] at h;cases h
  ·rw[c i] at h;unfold cq at h;simp at h
  ·rw[c i];exact List.nodup_nil
  ·rw[b] at h;cases h
  ·rw[e h];unfold dY;rw[g];rfl
  ·rw[hg h];unfold mX;rw[g];rfl
def jC (h h':HS):Prop:=h'.s=h.s/\h'.g=h.g
section
variable {gh:Gh} {h:HS} {v k a b c:Int}
theorem jC.refl:jC h h:=⟨rfl,rfl⟩
theorem SW (H:HI gh h) (j:1<=k/\k<=17) (f:qM k=false->aQ h.g v=true) (d:(run h v k a b c).2.2≠0):jC h (run h v k a b c).1:=by
 have:k=1\/k=2\/k=3\/k=4\/k=5\/k=6\/k=7\/k=8\/k=9\/k=10\/k=11\/k=12\/k=13\/k=14\/k=15\/k=16\/k=17:=by omega
 rcases this with rfl|rfl|rfl|rfl|rfl|rfl|rfl|rfl|rfl|rfl|rfl|rfl|rfl|rfl|rfl|rfl|rfl
 ·have d:pB h≠0:=d;show jC h (fS h);unfold pB at d;unfold fS;cases i:mW h.g with
  |none=>exact .refl
  |some n=>
   rw[i] at d;dsimp only at d ⊢;rw[ao d];exact .refl
 ·have d:F7 h a≠0:=d;show jC h (th h a);unfold F7 at d;unfold th;split
  ·rename_i c1;rw[av c1] at d;split
   ·exact .refl
   ·rename_i c2;rw[ao c2] at d;exact absurd rfl d
  ·exact .refl
 ·have d:kX h v a b≠0:=λe=>d (by show(oW h v a b).2=0;unfold oW;rw[av e]);show jC h (il h v a b);rw[H.PW (f rfl) d];exact .refl
 ·have d:(ye h v a).2≠0:=d;show jC h (mO h v a);unfold ye at d;unfold mO;split
  ·rename_i c1;rw[av c1] at d;exact absurd rfl d
  ·exact .refl
 ·have d:pz h v a b≠0:=d;show jC h (iE h v a b);rw[HI.JD d];exact .refl
 ·exact .refl
 ·have d:nL h v a≠0:=d;show jC h (jn h v a b);unfold nL at d;unfold jn;split
  ·exact .refl
  rename_i c1;rw[ao c1] at d;refine⟨?_,rfl⟩;show(dC h.s.1 _ b,h.s.2)=h.s;unfold B6 at d;rw[show dC h.s.1 (iD h v a 2).1 b=h.s.1 from ao λe=>d (av e)]
 ·show jC h (gz h v a b c);unfold gz;split
  ·exact⟨rfl,rfl⟩
  ·exact .refl
 ·have d:nF h v a b c≠0:=d;show jC h (iT h v a b c);rw[H.PY (f rfl) d];exact .refl
 ·have d:pA h v a≠0:=d;show jC h (eR h v a);rw[JI d];exact .refl
 ·show jC h (eY h v a);unfold eY;split
  ·exact .refl
  ·exact⟨rfl,rfl⟩
 ·show jC h (kO h v a);unfold kO;split
  ·exact⟨rfl,rfl⟩
  ·exact .refl
 ·show jC h (kQ h v a b);unfold kQ;split
  ·exact .refl
  split
  ·exact⟨rfl,rfl⟩
  ·exact .refl
 ·show jC h (kN h v a);unfold kN;split
  ·exact .refl
  ·exact⟨rfl,rfl⟩
 ·exact⟨rfl,rfl⟩
 ·show jC h (ir h v a);unfold ir;split
  ·exact .refl
  ·exact⟨rfl,rfl⟩
 ·exact absurd rfl d
theorem HI.fail (H:HI gh h) (e:qb h v k a b c≠0):jC h (ij h v k a b c)/\wS h v k a b c=0:=by
 unfold qb at e;unfold ij wS;by_cases d:fT h v k a b c=0
 ·rw[av d] at e ⊢;rw[av d,ao e];obtain⟨h1,f, _⟩:=yM d;exact⟨SW H h1 f e,rfl⟩
 ·rw[ao d,ao d];exact⟨.refl,rfl⟩
end
theorem SX {g:Nat->Option GV} {v:Int} (a:aQ g v=true): ∃(m:Nat) (x:GV),v=(m:Int)/\1<=m/\m<=16/\g m=some x:=by
 obtain⟨⟨h1,b⟩,x,hx⟩:=cm.1 a;exact⟨v.toNat,x,by omega,by omega,by omega,hx⟩
section
variable {gh cI:Gh} {h:HS}
theorem HI.Wn (H:HI gh h) {v:Int} (w:aQ h.g v=true) {a b:Int} (l:0<=a/\a<65536) (hb:1<=b/\b<=7) (hc:4<=cg h.s.2 0):kX h v a b=if(fW h v.toNat a).2.2.1=0 then 5 else 0:=by
 obtain⟨x,hx,y,hv,z,A⟩:=bM w;unfold kX;rw[ao (by omega),ao (by omega)];obtain⟨n,G,q,t1,t2,t3⟩:=sO (ds:=h.s.2) (o:=v) (by omega) H.inv.fz ⟨z,A⟩;rw[ao (λe=>e t2)];have C:iO h v=(n:Int):=t1;have r:iy h v=(h.s.1,h.s.2.set n (4,v,0,0,())):=by unfold iy;rw[t3]
 have B:Inv.fa gh h.s (iy h v):=by
  rw[r];refine gU H.inv ⟨rfl,by rw[Ae]⟩ (λb hb=>absurd rfl hb) λ{i d d'} h1 D=>?_;rcases nq q h1 D with ⟨_,m,k⟩|⟨_,k⟩
  ·exact .inr ⟨by rw[m];decide,by rw[k];exact(show ¬ (4:Int)=3 by decide),λc=>by rw[k] at c;exact absurd c (show ¬ (4:Int)=0 by decide)⟩
  ·exact .inl k
 have p:=H.inv.beside B;have t:=H.inv.dB B (H.root hx) a;have I:=H.inv.le;have E:0<=(n:Int)/\(n:Int)<4096:=by omega
 have J:cg (iy h v).2 0+1=cg h.s.2 0:=by
  rw[r];have:=qi (d':=((4:Int),v,(0:Int),(0:Int),())) q 0;rw[av (show zD.1=0 from rfl),ao (show ¬ (4:Int)=0 by decide)] at this;exact this
 rw[C,y,bN hx];by_cases e:(bz h.s x.root false a).2.2.1=0
 ·rw[av e];rw[<-t] at e;unfold bz at e;rw[ao (by decide),ao (by omega)] at e;have m:(cW (iy h v).1 x.root a).1=true:=by
   cases h1:(cW (iy h v).1 x.root a).1 with
   |true=>rfl
   |false=>rw[h1,ao (by decide)] at e;exact absurd e (show ¬ (4:Int)=0 by decide)
  have F:lA a (n:Int) b=0:=by unfold lA;rw[ao (by omega),ao (by omega)]
  unfold kl lu;rw[ao (by decide),av F,m,Bool.true_or,av rfl]
 ·rw[ao e];rw[<-t] at e;obtain⟨f,j,K,u⟩:=p.lJ (H.root hx) l;refine p.V2 (H.root hx) l E hb u ?_ (by omega);rw[p.fm (H.root hx) l u] at e;unfold l5 at e;cases h1:(aK (iy h v).1 (16*f+px j a % 16)).1 with
  |false=>rfl
  |true=>rw[av h1] at e;exact absurd rfl e
structure ac7 (h h':HS) (f o b:Int):Prop where
 g:h'.g=h.g
 gr:h'.gr=h.gr
 po:h'.po=h.po
 pg: ∀{i:Nat} {q:Int},fW h' i q=fW h i q
 ds:h'.s.2=h.s.2
 ld: ∀q,cL h'.s.1 q=if q=16*f+o then b else cL h.s.1 q
end
section
variable {gh:Gh} {h:HS} {v k a b c:Int} {l:List Int}
theorem aak (d:aQ h.g v=true) (e:qM k=false) (f:gu k a b c=true):fT h v k a b c=0:=by
 obtain⟨m,x,rfl,h1,i, _⟩:=SX d;unfold fT;rw[f,e,d,ao,ao,ao]
 ·simp
 ·have:((m:Int)==0)=false:=by rw[beq_eq_false_iff_ne];omega
  rw[this];decide
 ·simp;omega
theorem yN (d:fT h v k a b c=0):ij h v k a b c=(run h v k a b c).1/\qb h v k a b c=(run h v k a b c).2.2/\wS h v k a b c=if(run h v k a b c).2.2=0 then(run h v k a b c).2.1 else 0:=by grind[ij,qb,wS]
theorem aal (d:aQ h.g v=true):ij h v 3 a b 0=il h v a b/\qb h v 3 a b 0=kX h v a b/\wS h v 3 a b 0=if kX h v a b=0 then iO h v else 0:=by
 obtain⟨h1,f,i⟩:=yN (aak (k:=3) (a:=a) (b:=b) (c:=0) d rfl rfl);have e:(run h v 3 a b 0).2.2=kX h v a b:=by
  show(oW h v a b).2= _;unfold oW;split
  ·rename_i e;rw[e]
  ·rfl
 refine⟨h1,f.trans e,i.trans ?_⟩;rw[e];show(if kX h v a b=0 then(oW h v a b).1 else 0)= _;unfold oW;split<;>rfl
structure WS (h:HS) (v:Int) (l:List Int):Prop where
 hi: ∃gh,HI gh h
 lv:aQ h.g 1=true
 tk:jd h 1=[]
 ct:4*12<=cg h.s.2 0+4*l.length
 pg: ∀a∈l, ∃f,fW h 1 a=(f,3,0,())/\cL h.s.1 (16*f+3)=aH .u64 v a/\cL h.s.1 (16*f+4)=0
 no: ∀a,(fW h 1 a).2.2.1=0->a∈l
end
section
variable {gh:Gh} {h:HS} {v k a b c:Int}
theorem EG {g:Nat->Option GV} {n i:Nat} {f:GV->GV}:(a_ g n (match g n with|some x=>some (f x)|none=>none) i).isSome=(g i).isSome/\(i≠n->a_ g n (match g n with|some x=>some (f x)|none=>none) i=g i):=by grind[a_]
theorem abW (h:HS) (v a b:Int):(il h v a b).g=h.g:=by
 unfold il;split
 ·rfl
 split
 ·rfl
 split
 ·rfl
 split
 ·rfl
 ·rfl
theorem Wo (d:1<=k/\k<=17) (hc:qM k=false) (i:Nat):((run h v k a b c).1.g i).isSome=(h.g i).isSome:=by
 have:k=1\/k=2\/k=3\/k=4\/k=5\/k=6\/k=7\/k=8\/k=9\/k=10\/k=11\/k=12\/k=13\/k=14\/k=15\/k=16\/k=17:=by omega
 rcases this with rfl|rfl|rfl|rfl|rfl|rfl|rfl|rfl|rfl|rfl|rfl|rfl|rfl|rfl|rfl|rfl|rfl
 ·cases hc
 ·cases hc
 ·show((il h v a b).g i).isSome= _;rw[abW]
 ·show((mO h v a).g i).isSome= _;unfold mO;split<;>rfl
 ·show((iE h v a b).g i).isSome= _;unfold iE;split
  ·rfl
  split
  ·rfl
  split<;>rfl
 ·rfl
 ·show((jn h v a b).g i).isSome= _;unfold jn;split<;>rfl
 ·show((gz h v a b c).g i).isSome= _;unfold gz;split<;>rfl
 ·show((iT h v a b c).g i).isSome= _;unfold iT;split
  ·rfl
  split
  ·exact EG.1
  ·rfl
 ·show((eR h v a).g i).isSome= _;unfold eR;split
  ·rfl
  split
  ·exact EG.1
  ·rfl
 ·show((eY h v a).g i).isSome= _;unfold eY;split<;>rfl
 ·show((kO h v a).g i).isSome= _;unfold kO;split<;>rfl
 ·show((kQ h v a b).g i).isSome= _;unfold kQ;split
  ·rfl
  split<;>rfl
 ·show((kN h v a).g i).isSome= _;unfold kN;split<;>rfl
 ·rfl
 ·show((ir h v a).g i).isSome= _;unfold ir;split<;>rfl
 ·cases hc
structure LS (n:Nat) (h:HS):Prop where
 hi: ∃gh,HI gh h
 g1: ∃x,h.g 1=some x
 go: ∀i,i≠1->h.g i=none
 ln:h.s.2.length=n
end
abbrev LT:Type:=Int×Int×Int×Int×Unit
abbrev AK:Type:=Int×Int×Int×Unit
abbrev CT:Type:=Int×Int×Int×Int×Unit
abbrev MT:Type:=Int×Int×Int×CT×Int×Int
def Aw (t p:Int) (l:LT):Bool:=l.1==t&&l.2.1==p
def Cz (ls:List LT) (t p:Int):List LT:=ls.filter λl=> !Aw t p l
def Wp (ls:List LT) (t:Int):List LT:=ls.filter λl=> !(l.1==t)
def iY (ls:List LT) (t p:Int):List LT:=if p= -1 then Wp ls t else Cz ls t p
def pC (ls:List LT) (sz:Int) (l:LT):List LT:=
 (if ls.any (Aw l.1 l.2.1)=true then Cz ls l.1 l.2.1 else if(ls.length:Int)=sz then ls.drop 1 else ls)++[l]
def ka (ls:List LT) (t p w:Int):Int×Int:=match ls.find? (Aw t p) with
 |none=>(0,4)
 |some l=>if w<0\/w>7\/gS .i64 w l.2.2.2.1≠0 then(0,7) else(l.2.2.1,0)
structure vF where
 now:Int
 pins:List Int
 ws:List (Int×Int)
def oY (e:vF) (n:Nat):vF:=if e.pins.getD n 0= -1 then{e with pins:=e.pins.set n e.now} else e
def rX (e:vF) (n:Nat):vF:={e with pins:=e.pins.set n (-1)}
def mB (e:vF) (f:Int):vF:=if e.ws.any (λx=>x.1==f)=true then e else{e with ws:=(f,e.now)::e.ws}
def iz (e:vF):vF:=if e.pins.all (λp=>p== -1||p==e.now)=true then{e with now:=e.now+1} else e
def oK (e:vF):List Int:=mT ((e.ws.filter λx=>decide (x.2+2<=e.now)).map (·.1))
def F9 (e:vF):vF:={e with ws:=e.ws.filter λx=> !decide (x.2+2<=e.now)}
structure bG where
 ls:List LT
 ph:Int
 vm:Int
 c:CT
 wk:Int×Int×FT
 fr:Int
 rs:Int×Int
 ak:Int
 fs:List Int
def bV (ls:List LT):bG:=⟨ls,0,0,(0,0,0,0,()),(0,0,(0,0,0,0,())),0,(0,0),0,[]⟩
structure MS where
 h:HS
 ep:vF
 bx:List (List AK)
 op:List Int
 cs:List bG
 kn:List Int
 ms:List MT
 sz:Int
def aT (k:Int):Int:=if k=6 then 1 else if k=7 then 2 else 0
def iA (h:HS) (x:bG):Bool:=decide (aT x.c.1>0)&&(aQ h.g x.vm&&(gu x.c.1 x.c.2.1 x.c.2.2.1 x.c.2.2.2.1&&decide (x.c.2.1<1048576)))
def oZ (s:MS) (n:Nat) (x:bG):Bool:=(B3 s.cs.length).any λi=>match s.cs[i]? with
 |none=>false
 |some y=>decide (i≠n/\x.vm=0)&&((x.c.1==1&&(y.ph==4&&y.c.1==2))||(x.c.1==2&&(decide (y.ph>=2)&&(decide (y.vm>0)&&y.vm==x.c.2.1))))
def jj (s:MS) (f:Int):MS:={s with h:=bq s.h (fQ s.h.s f),kn:=s.kn.filter (λx=> !(x==f)),ms:=s.ms++[(2,0,f,(0,0,0,0,()),0,0)]}
def da (s:MS):MS×Nat:=((oK (iz s.ep)).foldl jj {s with ep:=F9 (iz s.ep)},(oK (iz s.ep)).length)
def eA (s:MS) (h':HS):List Int:=((B3 h'.s.2.length).map λ(f:Nat)=>(f:Int)).filter λf=>(qI h'.s.2 f).1==5&& !s.kn.contains f
def bh (s:MS) (n:Nat) (x:bG):MS:={s with cs:=s.cs.set n x}
def cN (bx:List (List AK)) (op:List Int) (n:Nat) (t p:Int):Int×List (List AK)×List Int:=
 if t<1\/t>16\/p< -1\/p>=65536 then(0,bx,op)
 else if(bx.eraseIdx n).any (λq=>q.length==16)=true then(0,bx,op)
 else((op.length:Int)+1,(bx.zipIdx.map λ(q,i)=>if i=n then q else q++[((op.length:Int)+1,t,p,())]),op++[(bx.length:Int) - 1])
abbrev St:Type:=MS×(Int×Int)×Bool
def fx (s:MS) (n:Nat) (x:bG):St:=
 let h':=ij s.h x.vm x.c.1 x.c.2.1 x.c.2.2.1 x.c.2.2.2.1
 let V:=wS s.h x.vm x.c.1 x.c.2.1 x.c.2.2.1 x.c.2.2.2.1
 let E:=qb s.h x.vm x.c.1 x.c.2.1 x.c.2.2.1 x.c.2.2.2.1
 let fs:=eA s h'
 let s1:MS:={s with h:=h',kn:=s.kn++fs,ms:=s.ms++[(1,x.vm,0,x.c,V,E)]}
 let a:bG:={x with rs:=(V,E),fs:=fs}
 if x.c.1=2\/x.c.1=4\/x.c.1=5\/x.c.1=10 then
  if E≠0 then(bh s1 n a,(V,E),true)
  else
   let t:=if x.c.1=2 then aJ .i64 x.c.2.1 else x.vm
   let p:=if x.c.1=2 then -1 else aJ .i64 x.c.2.1
   let q:=cN s.bx s.op n t p
   (bh {s1 with bx:=q.2.1,op:=q.2.2} n {a with ls:=iY x.ls t p,ak:=q.1,ph:=4},(0,0),false)
 else(bh s1 n a,(V,E),true)
def cQ (s:MS) (n:Nat) (x:bG):St:=
 if iA s.h x=true then
  let e:=oY s.ep n
  let a:=ka x.ls x.vm (x.c.2.1 / 16) (aT x.c.1)
  if a.2=0 then(bh {s with ep:=e} n {x with ph:=3,fr:=a.1},(0,0),false)
  else(bh {s with ep:=e} n {x with ph:=2,wk:=fO s.h.s.1 (aR s.h.g x.vm) (x.c.2.1 / 16) (aT x.c.1) 0},(0,0),false)
 else if oZ s n x=true then(s,(0,9),true)
 else if x.vm=0/\x.c=(17,0,0,0,()) then((da s).1,(((da s).2:Nat),0),true)
 else fx s n x
def jk (s:MS) (n:Nat) (x:bG):St:=
 let w:=bD s.h.s.1 (x.c.2.1 / 16) (aT x.c.1) x.wk
 let a:bG:={x with wk:=w}
 if w.2.1≠ -1 then(bh s n a,(0,0),false)
 else if w.2.2.2.2.2.1≠0 then(bh {s with ep:=rX s.ep n} n a,(0,w.2.2.2.2.2.1),true)
 else(bh s n {a with ls:=pC x.ls s.sz (x.vm,x.c.2.1 / 16,w.2.2.1,w.2.2.2.1,()),ph:=3,fr:=w.2.2.1},(0,0),false)
def eT (s:MS) (n:Nat) (x:bG):St:=
 let at_:=16*x.fr+x.c.2.1 % 16
 if x.c.1=7 then({s with h:=bq s.h (dC s.h.s.1 at_ x.c.2.2.1,s.h.s.2),ep:=rX s.ep n,ms:=s.ms++[(4,0,at_,(0,0,0,0,()),x.c.2.2.1,0)]},(0,0),true)
 else({s with ep:=rX s.ep n,ms:=s.ms++[(3,0,at_,(0,0,0,0,()),cL s.h.s.1 at_,0)]},(cL s.h.s.1 at_,0),true)
def yA (s:MS) (a:Int):Bool:=decide (1<=a/\a<=(s.op.length:Int))&&s.op.getD (a - 1).toNat 0==0
def iF (s:MS) (x:bG):St:=if yA s x.ak=true then({s with ep:=x.fs.foldl mB s.ep},x.rs,true) else(s,(0,0),false)
def bE (s:MS) (n:Nat) (x:bG):St:=
 if x.ph=0 then((da s).1,(0,0),false)
 else if x.ph=1 then cQ s n x
 else if x.ph=2 then jk s n x
 else if x.ph=3 then eT s n x
 else iF s x
def fw (r:St) (n:Nat) (x:bG):St:=if r.2.2=true then(bh r.1 n (bV ((r.1.cs.getD n x).ls)),r.2.1,true) else(r.1,(0,0),false)
def o8 (s:MS) (n:Nat):Option (AK×MS):=match s.bx[n]? with
 |some (a::q)=>some (a,{s with bx:=s.bx.set n q,op:=s.op.set (a.1 - 1).toNat (s.op.getD (a.1 - 1).toNat 0 - 1)})
 | _=>none
def dZ (s:MS) (n:Nat) (x:bG):St:=
 if x.ph=3 then fw (bE s n x) n x
 else match o8 s n with
  |some (a,s1)=>(bh s1 n {x with ls:=iY x.ls a.2.1 a.2.2.1},(0,0),false)
  |none=>fw (bE s n x) n x
def aL (s:MS) (n:Int):St:=if n<0 then(s,(0,0),false) else match s.cs[n.toNat]? with
 |none=>(s,(0,0),false)
 |some x=>dZ s n.toNat x
def qS (s:MS) (n:Int):Int:=if n<0 then 2 else match s.cs[n.toNat]? with
 |none=>2
 |some x=>if x.ph=0 then 0 else 9
def cB (s:MS) (n vm:Int) (c:CT):MS:=if n<0 then s else match s.cs[n.toNat]? with
 |none=>s
 |some x=>if x.ph=0 then bh s n.toNat {x with ph:=1,vm:=vm,c:=c} else s
def m0 (b a:Nat) (c:Int):MS where
 h:=h0 b
 ep:=⟨0,Ci a (-1),[]⟩
 bx:=Ci a []
 op:=[]
 cs:=Ci a (bV [])
 kn:=[]
 ms:=[]
 sz:=c
section
variable {gh:Gh} {h:HS} {v k a b c:Int}
end
abbrev bT (a:Int):Prop:=0<=a/\a<18446744073709551616
structure MA (n:Nat) (s:MS):Prop where
 hi: ∃gh,HI gh s.h
 nn:1<=n/\n<=8
 lc:s.cs.length=n
 lb:s.bx.length=n
 lp:s.ep.pins.length=n
 sz:1<=s.sz/\s.sz<=64
 ph: ∀x∈s.cs,0<=x.ph/\x.ph<=4
 ar: ∀x∈s.cs,bT x.c.2.1/\bT x.c.2.2.1/\bT x.c.2.2.2.1
 tl: ∀x∈s.cs,(x.ls.length:Int)<=s.sz
 k5: ∀f∈s.kn, ∃(m:Nat) (d:DT),f=(m:Int)/\s.h.s.2[m]? =some d/\d.1=5
 nk:s.kn.Nodup
 wk: ∀e∈s.ep.ws,e.1∈s.kn
 wn:(s.ep.ws.map (·.1)).Nodup
 fk: ∀x∈s.cs,x.ph=4-> ∀f∈x.fs,f∈s.kn/\f∉s.ep.ws.map (·.1)
 fn: ∀x∈s.cs,x.ph=4->x.fs.Nodup
 fd: ∀{i j:Nat} {x y:bG},s.cs[i]? =some x->s.cs[j]? =some y->i≠j->x.ph=4->y.ph=4-> ∀f∈x.fs,f∉y.fs
 ln: ∀x∈s.cs, ∀l∈x.ls, ∃m:Nat,l.2.2.1=(m:Int)/\m<s.h.s.2.length
 rc: ∀x∈s.cs,x.ph=3-> ∃m:Nat,x.fr=(m:Int)/\m<s.h.s.2.length
 wl: ∀x∈s.cs,x.ph=2->0<=x.wk.2.1/\x.wk.2.1<=3
 ak: ∀q∈s.bx, ∀a∈q,1<=a.1/\a.1<=(s.op.length:Int)
 bl: ∀q∈s.bx,q.length<=16
def mtA (a:AK) (t p:Int):Prop:=a.2.1=t/\(a.2.2.1= -1\/a.2.2.1=p)
def rY (s:MS) (i:Nat) (f:Int):Prop:=(∃(z:Nat) (y:bG),s.cs[z]? =some y/\y.ph=4/\f∈y.fs)\/ ∃e∈s.ep.ws,e.1=f/\s.ep.pins.getD i 0<=e.2
def DF (ta:Int->Bool) (s:MS) (i:Nat) (l:LT):Prop:=
 (1<=l.1/\l.1<=16/\0<=l.2.1/\l.2.1<65536)/\ ∃(m:Nat) (d:DT),l.2.2.1=(m:Int)/\s.h.s.2[m]? =some d/\
  ((d.1=4/\fW s.h l.1.toNat l.2.1=(l.2.2.1,l.2.2.2.1,0,()))\/
    ((d.1=4\/d.1=5)/\ ∃q a,s.bx[i]? =some q/\a∈q/\mtA a l.1 l.2.1/\
      (d.1=5->ta l.2.2.1=false/\ ∃(z:Nat) (y:bG), ∃b∈q,s.cs[z]? =some y/\y.ph=4/\l.2.2.1∈y.fs/\b.1=y.ak/\a.1<=b.1)))
def DG (gh:Gh) (ta:Int->Bool) (s:MS) (i:Nat) (x:bG):Prop:=
 ∃l:Nat,x.wk.2.1=(l:Int)/\l<=3/\x.wk.2.2=(0,0,0,0,())/\(gh x.wk.1=some (x.vm,l,px (l+1) (x.c.2.1 / 16))\/(iS s.h.s x.wk.1/\rY s i x.wk.1/\ta x.wk.1=true))
def Ax (ta:Int->Bool) (s:MS) (i:Nat) (f:Int):Prop:=
 ∃(m:Nat) (d:DT),f=(m:Int)/\s.h.s.2[m]? =some d/\(d.1=4\/(d.1=5/\rY s i f/\ta f=false))
def Ay (y:bG):Int:=if y.c.1=2 then y.c.2.1 else y.vm
def Az (y:bG):Int:=if y.c.1=2 then -1 else y.c.2.1
def jJ (q:List AK) (id:Int):Bool:=q.any λa=>a.1==id
structure MI (gh:Gh) (ta:Int->Bool) (n:Nat) (s:MS):Prop where
 hi:HI gh s.h
 nn:1<=n/\n<=8
 lc:s.cs.length=n
 lb:s.bx.length=n
 lp:s.ep.pins.length=n
 sz:1<=s.sz/\s.sz<=64
 ph: ∀x∈s.cs,0<=x.ph/\x.ph<=4
 ar: ∀x∈s.cs,bT x.c.2.1/\bT x.c.2.2.1/\bT x.c.2.2.2.1
 tl: ∀x∈s.cs,(x.ls.length:Int)<=s.sz
 k5: ∀f∈s.kn, ∃(m:Nat) (d:DT),f=(m:Int)/\s.h.s.2[m]? =some d/\d.1=5
 nk:s.kn.Nodup
 wk: ∀e∈s.ep.ws,e.1∈s.kn/\0<=e.2/\e.2<=s.ep.now
 wn:(s.ep.ws.map (·.1)).Nodup
 fk: ∀x∈s.cs,x.ph=4-> ∀f∈x.fs,f∈s.kn/\f∉s.ep.ws.map (·.1)
 fn: ∀x∈s.cs,x.ph=4->x.fs.Nodup
 fd: ∀{i j:Nat} {x y:bG},s.cs[i]? =some x->s.cs[j]? =some y->i≠j->x.ph=4->y.ph=4-> ∀f∈x.fs,f∉y.fs
 kd: ∀{m:Nat} {d:DT},s.h.s.2[m]? =some d->d.1=5->(m:Int)∈s.kn/\((m:Int)∈s.ep.ws.map (·.1)\/ ∃x∈s.cs,x.ph=4/\(m:Int)∈x.fs)
 nw:0<=s.ep.now
 pn: ∀{i:Nat} {x:bG},s.cs[i]? =some x->if x.ph=2\/x.ph=3 then 0<=s.ep.pins.getD i 0/\s.ep.pins.getD i 0<=s.ep.now/\s.ep.now<=s.ep.pins.getD i 0+1 else s.ep.pins.getD i 0= -1
 ln: ∀{i:Nat} {x:bG},s.cs[i]? =some x-> ∀l∈x.ls,DF ta s i l
 ac: ∀x∈s.cs,x.ph=2->aQ s.h.g x.vm=true/\x.c.2.1<1048576/\(x.c.1=6\/x.c.1=7)
 wl: ∀{i:Nat} {x:bG},s.cs[i]? =some x->x.ph=2->DG gh ta s i x
 rc: ∀{i:Nat} {x:bG},s.cs[i]? =some x->x.ph=3->Ax ta s i x.fr/\(x.c.1=6\/x.c.1=7)
 wt: ∀x∈s.cs,x.ph=4->1<=x.ak/\x.ak<=(s.op.length:Int)/\1<=Ay x/\Ay x<=16/\ -1<=Az x/\Az x<65536
 wu: ∀{i j:Nat} {x y:bG},s.cs[i]? =some x->s.cs[j]? =some y->i≠j->x.ph=4->y.ph=4->x.ak≠y.ak
 aq: ∀{i:Nat} {q:List AK},s.bx[i]? =some q->q.Pairwise (λa b=>a.1<b.1)/\ ∀a∈q, ∃(j:Nat) (y:bG),j≠i/\s.cs[j]? =some y/\y.ph=4/\a=(y.ak,Ay y,Az y,())
 oc: ∀id:Nat,id<s.op.length->s.op.getD id 0=(s.bx.countP (λq=>jJ q ((id:Int)+1)):Nat)
section
variable {gh:Gh} {ta:Int->Bool} {n:Nat} {s:MS}
theorem az {α:Type} {l:List α} {i:Nat} {x:α} (h:l[i]? =some x):x∈l:=B5 h
theorem ju {α:Type} {l:List α} {i j:Nat} {x y:α} (h:(l.set i x)[j]? =some y):(j=i/\y=x)\/(j≠i/\l[j]? =some y):=by
 by_cases e:i=j
 ·subst e;have a:=(AJ.1 h).1;rw[Ae] at a;rw[AM a] at h;cases h;exact .inl ⟨rfl,rfl⟩
 ·rw[AF e] at h;exact .inr ⟨λc=>e c.symm,h⟩
theorem gE {α:Type} {l:List α} {i:Nat} {x y:α} (h:y∈l.set i x):y=x\/y∈l:=by
 obtain⟨j,a⟩:=Ct h;rcases ju a with ⟨_,e⟩|⟨_,e⟩
 ·exact .inl e
 ·exact .inr (B5 e)
end
section
variable {gh:Gh} {ta:Int->Bool} {n:Nat} {s s':MS} {i:Nat}
theorem rY.c_ {f:Int} (h:rY s i f) (c: ∀{z:Nat} {y:bG},s.cs[z]? =some y->y.ph=4->s'.cs[z]? =some y) (d:s'.ep.ws=s.ep.ws) (g:s'.ep.pins.getD i 0=s.ep.pins.getD i 0):rY s' i f:=by
 rcases h with ⟨z,y,h1,a,b⟩|⟨e,h1,a,b⟩
 ·exact .inl ⟨z,y,c h1 a,a,b⟩
 ·exact .inr ⟨e,by rw[d];exact h1,a,by rw[g];exact b⟩
theorem DF.c_ {l:LT} (h:DF ta s i l) (f:s'.h=s.h) (hb:s'.bx=s.bx) (j: ∀{z:Nat} {y:bG},s.cs[z]? =some y->y.ph=4->s'.cs[z]? =some y):DF ta s' i l:=by
 obtain⟨h0,m,d,h1,k,c⟩:=h;refine⟨h0,m,d,h1,by rw[f];exact k,?_⟩;rw[f,hb];rcases c with c|⟨c,q,a,n,o,p,r⟩
 ·exact .inl c
 ·refine .inr ⟨c,q,a,n,o,p,λe=>?_⟩;obtain⟨t,z,y,b,u,g1,g,v,w,x⟩:=r e;exact⟨t,z,y,b,u,j g1 g,g,v,w,x⟩
theorem DG.c_ {x:bG} (h:DG gh ta s i x) (a:s'.h=s.h) (b: ∀{z:Nat} {y:bG},s.cs[z]? =some y->y.ph=4->s'.cs[z]? =some y) (d:s'.ep.ws=s.ep.ws) (e:s'.ep.pins.getD i 0=s.ep.pins.getD i 0):DG gh ta s' i x:=by
 obtain⟨l,h1,f,g,j⟩:=h;refine⟨l,h1,f,g,?_⟩;rw[a];exact j.imp id λc=>⟨c.1,c.2.1.c_ b d e,c.2.2⟩
theorem Ax.c_ {f:Int} (h:Ax ta s i f) (a:s'.h=s.h) (b: ∀{z:Nat} {y:bG},s.cs[z]? =some y->y.ph=4->s'.cs[z]? =some y) (e:s'.ep.ws=s.ep.ws) (g:s'.ep.pins.getD i 0=s.ep.pins.getD i 0):Ax ta s' i f:=by
 obtain⟨m,d,h1,j,k⟩:=h;refine⟨m,d,h1,by rw[a];exact j,?_⟩;exact k.imp id λc=>⟨c.1,c.2.1.c_ b e g,c.2.2⟩
theorem MI.Df (M:MI gh ta n s) {x x':bG} (hx:s.cs[i]? =some x) (p:Int) (ms:List MT) (P:x.ph≠4) (v:x'.ph≠4) (k:s'={s with cs:=s.cs.set i x',ep:={s.ep with pins:=s.ep.pins.set i p},ms:=ms})
 (Q:0<=x'.ph/\x'.ph<=4) (R:bT x'.c.2.1/\bT x'.c.2.2.1/\bT x'.c.2.2.2.1) (S:(x'.ls.length:Int)<=s.sz)
 (T:if x'.ph=2\/x'.ph=3 then 0<=p/\p<=s.ep.now/\s.ep.now<=p+1 else p= -1) (U: ∀l∈x'.ls,DF ta s i l) (V:x'.ph=2->aQ s.h.g x'.vm=true/\x'.c.2.1<1048576/\(x'.c.1=6\/x'.c.1=7))
 (W:x'.ph=2->DG gh ta s' i x') (X:x'.ph=3->Ax ta s' i x'.fr/\(x'.c.1=6\/x'.c.1=7)):MI gh ta n s':=by
 have Y:i<s.cs.length:=(AJ.1 hx).1;have B: ∀{z:Nat} {y:bG},s.cs[z]? =some y->y.ph=4->s'.cs[z]? =some y:=λ{z y} h1 o=>by
  have e:i≠z:=λe=>by subst e;rw[hx] at h1;cases h1;exact P o
  rw[k];show(s.cs.set i x')[z]? = _;rw[AF e];exact h1
 have hg: ∀{z:Nat} {y:bG},s'.cs[z]? =some y->(z=i/\y=x')\/(z≠i/\s.cs[z]? =some y):=λh=>by
  rw[k] at h;exact ju h
 have w: ∀{y:bG},y∈s'.cs->y=x'\/y∈s.cs:=λh=>by
  rw[k] at h;exact gE h
 have t:s'.h=s.h:=by rw[k]
 have hb:s'.bx=s.bx:=by rw[k]
 have K:s'.op=s.op:=by rw[k]
 have D:s'.kn=s.kn:=by rw[k]
 have C:s'.ep.ws=s.ep.ws:=by rw[k]
 have E:s'.ep.now=s.ep.now:=by rw[k]
 have L:s'.sz=s.sz:=by rw[k]
 have F:s'.ep.pins=s.ep.pins.set i p:=by rw[k]
 have Z:s'.ep.pins.getD i 0=p:=by
  rw[F,B4,AM (by rw[M.lp, <-M.lc];exact Y)];rfl
 have G: ∀{j:Nat},j≠i->s'.ep.pins.getD j 0=s.ep.pins.getD j 0:=λ{j} r=>by
  rw[F,B4,AF (λe=>r e.symm),B4]
 refine⟨by rw[t];exact M.hi,M.nn,by rw[k];show(s.cs.set i x').length=n;rw[Ae];exact M.lc,by rw[hb];exact M.lb,by rw[F,Ae];exact M.lp,by rw[L];exact M.sz,λy f=>?_,λy f=>?_,λy f=>?_,
  by rw[D,t];exact M.k5,by rw[D];exact M.nk,by rw[C,D,E];exact M.wk,by rw[C];exact M.wn,λy f e=>?_,λy f e=>?_,λ{a b y z} h1 o H u A=>?_,λ{m d} h1 o=>?_,by rw[E];exact M.nw,λ{j y} h1=>?_,λ{j y} h1 l N=>?_,λy f e=>?_,λ{j y} h1 e=>?_,λ{j y} h1 e=>?_,λy f e=>?_,λ{a b y z} h1 o H u A=>?_,λ{j q} h1=>?_,by rw[K,hb];exact M.oc⟩
 ·rcases w f with rfl|f
  ·exact Q
  ·exact M.ph y f
 ·rcases w f with rfl|f
  ·exact R
  ·exact M.ar y f
 ·rw[L];rcases w f with rfl|f
  ·exact S
  ·exact M.tl y f
 ·rcases w f with rfl|f
  ·exact absurd e v
  ·rw[D,C];exact M.fk y f e
 ·rcases w f with rfl|f
  ·exact absurd e v
  ·exact M.fn y f e
 ·rcases hg h1 with ⟨_,rfl⟩|⟨_,h1⟩
  ·exact absurd u v
  ·rcases hg o with ⟨_,rfl⟩|⟨_,o⟩
   ·exact absurd A v
   ·exact M.fd h1 o H u A
 ·rw[t] at h1;obtain⟨I,J⟩:=M.kd h1 o;rw[D,C];refine⟨I,J.imp id λ⟨y,f,u,A⟩=>?_⟩;obtain⟨j,r⟩:=Ct f;exact⟨y,az (B r u),u,A⟩
 ·rw[E];rcases hg h1 with ⟨rfl,rfl⟩|⟨r,h1⟩
  ·rw[Z];exact T
  ·rw[G r];exact M.pn h1
 ·rcases hg h1 with ⟨rfl,rfl⟩|⟨r,h1⟩
  ·exact(U l N).c_ t hb B
  ·exact(M.ln h1 l N).c_ t hb B
 ·rw[t];rcases w f with rfl|f
  ·exact V e
  ·exact M.ac y f e
 ·rcases hg h1 with ⟨rfl,rfl⟩|⟨r,h1⟩
  ·exact W e
  ·exact(M.wl h1 e).c_ t B C (G r)
 ·rcases hg h1 with ⟨rfl,rfl⟩|⟨r,h1⟩
  ·exact X e
  ·exact⟨(M.rc h1 e).1.c_ t B C (G r),(M.rc h1 e).2⟩
 ·rw[K];rcases w f with rfl|f
  ·exact absurd e v
  ·exact M.wt y f e
 ·rcases hg h1 with ⟨_,rfl⟩|⟨_,h1⟩
  ·exact absurd u v
  ·rcases hg o with ⟨_,rfl⟩|⟨_,o⟩
   ·exact absurd A v
   ·exact M.wu h1 o H u A
 ·rw[hb] at h1;obtain⟨I,J⟩:=M.aq h1;refine⟨I,λa ha=>?_⟩;obtain⟨j2,y,g1,g2,O,g4⟩:=J a ha;exact⟨j2,y,g1,B g2 O,O,g4⟩
theorem tP (M:MI gh ta n s) {x:bG} (hx:s.cs[i]? =some x):s.ep.pins.set i (s.ep.pins.getD i 0)=s.ep.pins:=by
 have a:i<s.ep.pins.length:=by rw[M.lp, <-M.lc];exact(AJ.1 hx).1
 refine F8 λj=>?_;rw[Ft];by_cases e:i=j
 ·subst e;rw[av rfl,av a,B4,B1 a];rfl
 ·rw[ao e]
theorem MI.ask (M:MI gh ta n s) (k vm:Int) {c:CT} (hc:bT c.2.1/\bT c.2.2.1/\bT c.2.2.2.1):MI gh ta n (cB s k vm c):=by
 unfold cB;split
 ·exact M
 cases hx:s.cs[k.toNat]? with
 |none=>exact M
 |some x=>
  dsimp only;split
  ·rename_i h0;have a:=M.pn hx;rw[h0,ao (by decide)] at a;refine M.Df (x':={x with ph:=1,vm:=vm,c:=c}) hx (s.ep.pins.getD k.toNat 0) s.ms (by rw[h0];decide) (show ¬ (1:Int)=4 by decide) ?_ (show 0<=(1:Int)/\(1:Int)<=4 by decide) hc (M.tl x (az hx)) ?_ (λl b=>M.ln hx l b) (λe=>absurd e (show ¬ (1:Int)=2 by decide)) (λe=>absurd e (show ¬ (1:Int)=2 by decide)) (λe=>absurd e (show ¬ (1:Int)=3 by decide))
   ·rw[tP M hx];rfl
   ·show if(1:Int)=2\/(1:Int)=3 then _ else _;rw[ao (by decide)];exact a
  ·exact M
theorem MI.idle (M:MI gh ta n s) {x:bG} (hx:s.cs[i]? =some x) (a:x.ph≠4) {ls:List LT} (b: ∀l∈ls,DF ta s i l) (c:(ls.length:Int)<=s.sz) (ms:List MT):MI gh ta n {s with cs:=s.cs.set i (bV ls),ep:=rX s.ep i,ms:=ms}:=
 M.Df (x':=bV ls) hx (-1) ms a (show ¬ (0:Int)=4 by decide) rfl (show 0<=(0:Int)/\(0:Int)<=4 by decide) (show bT 0/\bT 0/\bT 0 by decide) c (by show if(0:Int)=2\/(0:Int)=3 then _ else _;rw[ao (by decide)]) b (λe=>absurd e (show ¬ (0:Int)=2 by decide)) (λe=>absurd e (show ¬ (0:Int)=2 by decide)) (λe=>absurd e (show ¬ (0:Int)=3 by decide))
end
section
variable {gh:Gh} {ta:Int->Bool} {n:Nat} {s s':MS} {i:Nat}
def WtK (s s':MS):Prop:= ∀(z:Nat) (y:bG),s.cs[z]? =some y->y.ph=4-> ∃a,s'.cs[z]? =some a/\a.ph=4/\a.fs=y.fs/\a.ak=y.ak/\a.vm=y.vm/\a.c=y.c
theorem rY.A1 {f:Int} (h:rY s i f) (a:WtK s s') (b:s'.ep.ws=s.ep.ws) (c:s'.ep.pins.getD i 0=s.ep.pins.getD i 0):rY s' i f:=by
 rcases h with ⟨z,y,h1,d,e⟩
 ·obtain:=a z;exact .inl (by grind)
 ·exact .inr (by grind)
theorem DG.A1 {x:bG} (h:DG gh ta s i x) (a:s'.h=s.h) (b:WtK s s') (d:s'.ep.ws=s.ep.ws) (e:s'.ep.pins.getD i 0=s.ep.pins.getD i 0):DG gh ta s' i x:=by
 obtain⟨l,h1,f,g,j⟩:=h;refine⟨l,h1,f,g,?_⟩;rw[a];exact j.imp id λc=>⟨c.1,c.2.1.A1 b d e,c.2.2⟩
theorem Ax.A1 {f:Int} (h:Ax ta s i f) (j:s'.h=s.h) (a:WtK s s') (b:s'.ep.ws=s.ep.ws) (e:s'.ep.pins.getD i 0=s.ep.pins.getD i 0):Ax ta s' i f:=by
 obtain⟨m,d,h1,k,g⟩:=h;refine⟨m,d,h1,by grind,?_⟩;exact g.imp id λc=>⟨c.1,c.2.1.A1 a b e,c.2.2⟩
theorem tQ {ls:List LT} {t p:Int} {l:LT} (h:l∈iY ls t p):l∈ls/\ ¬ (t=l.1/\(p= -1\/p=l.2.1)):=by
 unfold iY at h;split at h
 ·obtain:=B2.1 h
  grind
 ·rename_i e;obtain⟨h1,a⟩:=B2.1 h;refine⟨h1,λc=>?_⟩;rcases c.2
  ·grind
  ·simp[Aw] at a
   grind
theorem EH (ls:List LT) (t p:Int):(iY ls t p).length<=ls.length:=by
 unfold iY;split<;>exact List.length_filter_le ..
theorem vp (a:AK) (q:List AK) (id:Int):jJ (a::q) id=(a.1==id||jJ q id):=rfl
theorem MI.pop (M:MI gh ta n s) {x:bG} (hx:s.cs[i]? =some x) {a:AK} {q:List AK} (D:s.bx[i]? =some (a::q)):
 MI gh ta n {s with bx:=s.bx.set i q,op:=s.op.set (a.1 - 1).toNat (s.op.getD (a.1 - 1).toNat 0 - 1),cs:=s.cs.set i {x with ls:=iY x.ls a.2.1 a.2.2.1}}:=by
 have i_:i<s.cs.length:=(AJ.1 hx).1;have hib:i<s.bx.length:=by rw[M.lb, <-M.lc];exact i_
 generalize E:({s with bx:=s.bx.set i q,op:=s.op.set (a.1 - 1).toNat (s.op.getD (a.1 - 1).toNat 0 - 1),cs:=s.cs.set i {x with ls:=iY x.ls a.2.1 a.2.2.1}}:MS)=s';have v:s'.h=s.h:=by rw[<-E]
 have p:s'.ep=s.ep:=by rw[<-E]
 have N:s'.kn=s.kn:=by rw[<-E]
 have iI:s'.sz=s.sz:=by rw[<-E]
 have hb:s'.bx=s.bx.set i q:=by rw[<-E]
 have ho:s'.op=s.op.set (a.1 - 1).toNat (s.op.getD (a.1 - 1).toNat 0 - 1):=by rw[<-E]
 have fe:s'.cs=s.cs.set i {x with ls:=iY x.ls a.2.1 a.2.2.1}:=by rw[<-E]
 have Ys:s'.op.length=s.op.length:=by rw[ho,Ae]
 have ov:s'.cs[i]? =some {x with ls:=iY x.ls a.2.1 a.2.2.1}:=by rw[fe,AM i_]
 have J:WtK s s':=λz y h1 w=>by
  by_cases e:i=z
  ·subst e;rw[hx] at h1;cases h1;exact⟨_,ov,w,rfl,rfl,rfl,rfl⟩
  ·exact⟨y,by rw[fe,AF e];exact h1,w,rfl,rfl,rfl,rfl⟩
 have hg: ∀{z:Nat} {y:bG},s'.cs[z]? =some y-> ∃f,s.cs[z]? =some f/\y.ph=f.ph/\y.vm=f.vm/\y.c=f.c/\y.wk=f.wk/\y.fr=f.fr/\y.ak=f.ak/\y.fs=f.fs/\(z≠i->y=f)/\y.ls.length<=f.ls.length:=λ{z y} h=>by
  rw[fe] at h;rcases ju h with ⟨rfl,rfl⟩|⟨e,h⟩
  ·exact⟨x,hx,rfl,rfl,rfl,rfl,rfl,rfl,rfl,λc=>absurd rfl c,EH ..⟩
  ·exact⟨y,h,rfl,rfl,rfl,rfl,rfl,rfl,rfl,λ_=>rfl,Dx _⟩
 have F: ∀{y:bG},y∈s'.cs-> ∃f∈s.cs,y.ph=f.ph/\y.vm=f.vm/\y.c=f.c/\y.wk=f.wk/\y.fr=f.fr/\y.ak=f.ak/\y.fs=f.fs/\y.ls.length<=f.ls.length:=λh=>by
  obtain⟨z,hz⟩:=Ct h;obtain⟨f,g1,A,t,K,W,O,G,g8, _,g9⟩:=hg hz;exact⟨f,az g1,A,t,K,W,O,G,g8,g9⟩
 obtain⟨hpw,uU⟩:=M.aq D;obtain⟨ja,ya,hja,hya,hpa,hea⟩:=uU a Bx;obtain⟨ha1,T6, _⟩:=M.wt ya (az hya) hpa;have ea1:a.1=ya.ak:=by rw[hea]
 have IE: ∀b∈q,a.1<b.1:=(List.pairwise_cons.1 hpw).1;refine⟨by rw[v];exact M.hi,M.nn,by rw[fe,Ae];exact M.lc,by rw[hb,Ae];exact M.lb,by rw[p];exact M.lp,by rw[iI];exact M.sz,λy k=>?_,λy k=>?_,λy k=>?_,
  by rw[N,v];exact M.k5,by rw[N];exact M.nk,by rw[p,N];exact M.wk,by rw[p];exact M.wn,λy k e=>?_,λy k e=>?_,λ{a b y z} h1 w X P Q=>?_,λ{m d} h1 w=>?_,by rw[p];exact M.nw,λ{j y} h1=>?_,λ{j y} h1 l Y=>?_,λy k e=>?_,λ{j y} h1 e=>?_,λ{j y} h1 e=>?_,λy k e=>?_,λ{a b y z} h1 w X P Q=>?_,λ{j r} h1=>?_,λid FC=>?_⟩
 ·obtain⟨f,o,g1, _⟩:=F k;rw[g1];exact M.ph f o
 ·obtain⟨f,o, _, _,t, _⟩:=F k;rw[t];exact M.ar f o
 ·obtain⟨f,o, _, _, _, _, _, _, _,g⟩:=F k;have:=M.tl f o;rw[iI];omega
 ·obtain⟨f,o,g1, _, _, _, _, _,G, _⟩:=F k;rw[G,N,p];exact M.fk f o (by rw[<-g1];exact e)
 ·obtain⟨f,o,g1, _, _, _, _, _,G, _⟩:=F k;rw[G];exact M.fn f o (by rw[<-g1];exact e)
 ·obtain⟨f,u,g1, _, _, _, _, _,G, _⟩:=hg h1;obtain⟨z0,k0,B, _, _, _, _, _,k7, _⟩:=hg w;rw[G,k7];exact M.fd u k0 X (by rw[<-g1];exact P) (by rw[<-B];exact Q)
 ·rw[v] at h1;obtain⟨B,Z⟩:=M.kd h1 w;rw[N,p];refine⟨B,Z.imp id λ⟨y,k,P,Q⟩=>?_⟩;obtain⟨j,hj⟩:=Ct k;obtain⟨H,p1,p2,p3, _⟩:=J j y hj P;exact⟨H,az p1,p2,by rw[p3];exact Q⟩
 ·obtain⟨f,u,g1, _⟩:=hg h1;rw[p,g1];exact M.pn u
 ·
  obtain⟨f,u, _, _, _, _, _, _, _,gj, _⟩:=hg h1;by_cases e:j=i
  ·subst e;rw[ov] at h1;cases h1;obtain⟨l1,l2⟩:=tQ Y;obtain⟨I,m,d,R,S,T⟩:=M.ln hx l l1;refine⟨I,m,d,R,by rw[v];exact S,?_⟩;rw[v];refine T.imp id λ⟨U,qq,b,L,C,V,r8⟩=>⟨U,q,b,by rw[hb,AM hib],?_,V,λe5=>?_⟩
   ·rw[D] at L;cases L;rcases Db.1 C with rfl|C
    ·exact absurd V l2
    ·exact C
   ·obtain⟨r9,z,y,c,c0,c1,c2,c3,c4,c5⟩:=r8 e5;obtain⟨H,p1,p2,p3,p4, _⟩:=J z y c1 c2;rw[D] at L;cases L;have hbq:b∈q:=by
     rcases Db.1 C with rfl|C
     ·exact absurd V l2
     ·exact C
    have hcq:c∈q:=by
     rcases Db.1 c0 with rfl|c0
     ·have:=IE b hbq;omega
     ·exact c0
    exact⟨r9,z,H,c,hcq,p1,p2,by rw[p3];exact c3,by rw[p4];exact c4,c5⟩
  ·rw[gj e] at Y;obtain⟨I,m,d,R,S,T⟩:=M.ln u l Y;refine⟨I,m,d,R,by rw[v];exact S,?_⟩;rw[v];refine T.imp id λ⟨U,qq,b,L,C,V,r8⟩=>⟨U,qq,b,by rw[hb,AF (λc=>e c.symm)];exact L,C,V,λe5=>?_⟩;obtain⟨r9,z,y,c,c0,c1,c2,c3,c4,c5⟩:=r8 e5;obtain⟨H,p1,p2,p3,p4, _⟩:=J z y c1 c2;exact⟨r9,z,H,c,c0,p1,p2,by rw[p3];exact c3,by rw[p4];exact c4,c5⟩
 ·obtain⟨f,o,g1,A,t, _⟩:=F k;rw[v,A,t];exact M.ac f o (by rw[<-g1];exact e)
 ·obtain⟨f,u,g1,A,t,K, _⟩:=hg h1;obtain⟨l,R,S,T,U⟩:=(M.wl u (by rw[<-g1];exact e)).A1 v J (by rw[p]) (by rw[p]);exact⟨l,by rw[K];exact R,S,by rw[K];exact T,by rw[K,A,t];exact U⟩
 ·obtain⟨f,u,g1,A,t,K,W, _⟩:=hg h1;have:=M.rc u (by rw[<-g1];exact e);rw[W,t];exact⟨this.1.A1 v J (by rw[p]) (by rw[p]),this.2⟩
 ·obtain⟨f,o,g1,A,t, _, _,O, _⟩:=F k;have:=M.wt f o (by rw[<-g1];exact e);unfold Ay Az at this ⊢;rw[Ys,A,t,O];exact this
 ·obtain⟨f,u,g1, _, _, _, _,O, _⟩:=hg h1;obtain⟨z0,k0,B, _, _, _, _,k6, _⟩:=hg w;rw[O,k6];exact M.wu u k0 X (by rw[<-g1];exact P) (by rw[<-B];exact Q)
 ·
  have sub: ∃I,s.bx[j]? =some I/\r.Sublist I:=by
   rw[hb] at h1;rcases ju h1 with ⟨rfl,rfl⟩|⟨_,h1⟩
   ·exact⟨_,D,List.sublist_cons_self ..⟩
   ·exact⟨r,h1,List.Sublist.refl _⟩
  obtain⟨I,k0,B⟩:=sub;obtain⟨Z,k3⟩:=M.aq k0;refine⟨Z.sublist B,λb hb=>?_⟩;obtain⟨j2,y,p1,p2,p3,p4⟩:=k3 b (B.subset hb);obtain⟨H,q1,q2,q3,q4,q5,q6⟩:=J j2 y p2 p3;refine⟨j2,H,p1,q1,q2,?_⟩;unfold Ay Az at p4 ⊢;rw[q4,q5,q6];exact p4
 ·
  rw[Ys] at FC;have hoc:=M.oc id FC;have hbi:s.bx[i]=a::q:=(AJ.1 D).2;have hnq:jJ q a.1=false:=by
   unfold jJ;rw[List.any_eq_false];intro b hb c;have:=IE b hb;have c':b.1=a.1:=by simpa using c
   omega
  have An: ∀j:Int,((s.bx.set i q).countP (λr=>jJ r j):Nat)=s.bx.countP (λr=>jJ r j) - (if jJ (a::q) j=true then 1 else 0)+(if jJ q j=true then 1 else 0):=λj=>by
   rw[List.countP_set hib,hbi]
  rw[ho,hb,An,B4,Ft,vp];by_cases e:(a.1 - 1).toNat=id
  ·have ej:(id:Int)+1=a.1:=by omega
   rw[av e,av (by omega),ej,hnq];have oS:0<s.bx.countP (λr=>jJ r a.1):=Ds.2 ⟨a::q,az D,by rw[vp];simp⟩;rw[ej] at hoc
   grind
  ·rw[ao e, <-B4,hoc];have:(a.1==(id:Int)+1)=false:=by
    simp;omega
   rw[this,Bool.false_or];split
   ·rename_i hp;have oS:0<s.bx.countP (λr=>jJ r ((id:Int)+1)):=Ds.2 ⟨a::q,az D,by rw[vp,hp,Bool.or_true]⟩;omega
   ·omega
end
section
variable {gh:Gh} {ta:Int->Bool} {n:Nat} {s s':MS} {i:Nat}
theorem BP {l:List (Int×Int)} (h:(l.map (·.1)).Nodup) {a b:Int×Int} (c:a∈l) (hb:b∈l) (e:a.1=b.1):a=b:=by
 induction l with
 |nil
 |cons=>
  grind
theorem MI.Uc (M:MI gh ta n s):MI gh ta n {s with ep:=iz s.ep}:=by
 unfold iz;split
 ·exact{M with
  wk:=λe b=>by
   obtain:=M.wk
   grind
  nw:=by
   have:=M.nw
   grind
  pn:=λ{j y} a=>by
   have:=M.pn a;show if y.ph=2\/y.ph=3 then 0<=s.ep.pins.getD j 0/\s.ep.pins.getD j 0<=s.ep.now+1/\s.ep.now+1<=s.ep.pins.getD j 0+1 else s.ep.pins.getD j 0= -1;split
   ·have c:j<s.ep.pins.length:=by rw[M.lp, <-M.lc];grind
    have hg:s.ep.pins.getD j 0∈s.ep.pins:=by
     grind
    grind
   grind}
 ·exact M
def gm (s:MS) (f:Int):MS:={jj s f with ep:={s.ep with ws:=s.ep.ws.filter λx=> !(x.1==f)}}
theorem JM (M:MI gh ta n s) {x:bG} (hx:s.cs[i]? =some x) (g:x.ph=2\/x.ph=3) {f r:Int} (c:(f,r)∈s.ep.ws) (h:r+2<=s.ep.now) {f0:Int} (P:rY s i f0):f0≠f/\rY (gm s f) i f0:=by
 have j:=M.pn hx;have ne:f0≠f:=λe=>by
  subst e;rcases P with ⟨z,y,h1,a,b⟩|⟨e,h1,a,b⟩
  ·exact(M.fk y (az h1) a f0 b).2 (by grind)
  ·have:=by
    have d:=M.wn;exact BP d h1 c
   grind
 refine⟨ne,?_⟩;rcases P with ⟨z,y,h1,a,b⟩|⟨e,h1,a,b⟩
 ·exact .inl ⟨z,y,h1,a,b⟩
 ·refine .inr ⟨e,B2.2 ⟨h1,?_⟩,a,b⟩
  grind
theorem MI.gm (M:MI gh ta n s) {f r:Int} (E:(f,r)∈s.ep.ws) (J:r+2<=s.ep.now):MI gh ta n (gm s f):=by
 obtain⟨N, _, _⟩:=M.wk _ E;obtain⟨m,d,F,O,P⟩:=M.k5 f N;have F:f=(m:Int):=F;obtain⟨Q, _,R,S⟩:=M.hi.IS O P;have K:f∈s.ep.ws.map (·.1):=Bs.2 ⟨_,E,rfl⟩;have B:(Go.Proofs.YtlcenllcmeebhaaGreat.gm s f).h=bq s.h (s.h.s.1,s.h.s.2.set m zD):=by
  show bq s.h (fQ s.h.s f)= _;rw[F,Q]
 have T:(Go.Proofs.YtlcenllcmeebhaaGreat.gm s f).h.s.2=s.h.s.2.set m zD:=by rw[B];rfl
 have U:(Go.Proofs.YtlcenllcmeebhaaGreat.gm s f).h.s.1=s.h.s.1:=by rw[B];rfl
 have hg:(Go.Proofs.YtlcenllcmeebhaaGreat.gm s f).h.g=s.h.g:=by rw[B];rfl
 have C: ∀{k:Nat} {d':DT},s.h.s.2[k]? =some d'->(k:Int)≠f->(Go.Proofs.YtlcenllcmeebhaaGreat.gm s f).h.s.2[k]? =some d':=λ{k d'} h1 p=>by
  grind
 have G: ∀{k:Nat} {d':DT},s.h.s.2[k]? =some d'->d'.1=4->(k:Int)≠f:=λ{k d'} h1 p c=>by
  grind
 have H: ∀{g:Int},g∈s.kn->g≠f->g∈(Go.Proofs.YtlcenllcmeebhaaGreat.gm s f).kn:=λ{g} h1 p=>B2.2 ⟨h1,by simp[p]⟩;have pg: ∀i q,fW (Go.Proofs.YtlcenllcmeebhaaGreat.gm s f).h i q=fW s.h i q:=λi q=>by rw[B];exact S.to id
 exact{M with
  hi:=by rw[B];exact R
  k5:=λg I=>by
   obtain⟨h1,p⟩:=B2.1 I;obtain⟨k,d',t,u,D⟩:=M.k5 g h1;exact⟨k,d',t,C u (by rw[<-t];simpa using p),D⟩
  nk:=M.nk.sublist Dh
  wk:=λe V=>by
   obtain⟨h1,p⟩:=B2.1 V;obtain⟨t,u,D⟩:=M.wk e h1;exact⟨H t (by simpa using p),u,D⟩
  wn:=M.wn.sublist (Dh.map _)
  fk:=λy W e g I=>by
   obtain⟨t,u⟩:=M.fk y W e g I;exact⟨H t λc=>u (by rw[c];exact K),λc=>u ((Dh.map _).subset c)⟩
  kd:=λ{k d'} h1 p=>by
   rw[T] at h1;rcases ju h1 with ⟨_,rfl⟩|⟨e,h1⟩
   ·exact absurd p (by decide)
   ·have ne:(k:Int)≠f:=λc=>e (by rw[F] at c;omega);obtain⟨t,u⟩:=M.kd h1 p;refine⟨H t ne,u.imp (λc=>?_) id⟩;obtain⟨e',g1,L⟩:=Bs.1 c;exact Bs.2 ⟨e',B2.2 ⟨g1,by simp[L,ne]⟩,L⟩
  pn:=λ{j y} v=>M.pn v
  ln:=λ{j y} v l X=>by
   obtain⟨Y,k,d',A,w,o⟩:=M.ln v l X;have ne:(k:Int)≠f:=by
    rcases o with o|⟨x,q,a, _, _, _,Z⟩
    ·exact G w o.1
    ·rcases x with x|x
     ·exact G w x
     ·obtain⟨_,z,y,b, _,c1,c2,c3, _, _⟩:=Z x;have:=(M.fk y (az c1) c2 _ c3).2;exact λc=>this (by rw[A,c];exact K)
   refine⟨Y,k,d',A,C w ne,?_⟩;rw[pg];exact o
  wl:=λ{j y} v e=>by
   obtain⟨l,A,w,o,x⟩:=M.wl v e;refine⟨l,A,w,o,x.imp id λ⟨c1,c2,c3⟩=>?_⟩;obtain⟨p1,p2⟩:=JM M v (.inl e) E J c2;refine⟨?_,p2,c3⟩;obtain⟨k0,d',t,u,D⟩:=c1;exact⟨k0,d',C t (by rw[Int.toNat_of_nonneg k0];exact p1),u,by rw[U];exact D⟩
  rc:=λ{j y} v e=>by
   obtain⟨⟨k,d',A,w,o⟩,x⟩:=M.rc v e;refine⟨?_,x⟩;rcases o with o|⟨r5,r6,r7⟩
   ·exact⟨k,d',A,C w (G w o),.inl o⟩
   ·obtain⟨p1,p2⟩:=JM M v (.inr e) E J r6;exact⟨k,d',A,C w (by rw[<-A];exact p1),.inr ⟨r5,p2,r7⟩⟩}
theorem MI.XI: ∀(L:List Int) {s:MS},MI gh ta n s->L.Nodup->(∀f∈L, ∃r,(f,r)∈s.ep.ws/\r+2<=s.ep.now)->MI gh ta n (L.foldl Go.Proofs.YtlcenllcmeebhaaGreat.gm s)
 |[], _,M, _, _=>M
 |f::L,s,M,b,a=>by
  obtain⟨r,h1,c⟩:=a f (by grind);refine MI.XI L (M.gm h1 c) (DE.1 b).2 λg hg=>?_;obtain⟨r',d,e⟩:=a g (by grind);refine⟨r',B2.2 ⟨d,?_⟩,e⟩
  grind
theorem tR (e:vF): ∀(L:List Int) (s:MS),L.foldl jj {s with ep:=e}={L.foldl jj s with ep:=e}
 |[], _=>rfl
 |f::L,s=>tR e L (jj s f)
theorem EI: ∀(L:List Int) (s:MS),L.foldl Go.Proofs.YtlcenllcmeebhaaGreat.gm s={L.foldl jj s with ep:={s.ep with ws:=s.ep.ws.filter λx=> !L.contains x.1}}
 |[],s=>by
  have:(s.ep.ws.filter λx=> ![].contains x.1)=s.ep.ws:=FW.2 λx _=>rfl;rw[this];rfl
 |f::L,s=>by
  show L.foldl _ _= _;rw[EI,show Go.Proofs.YtlcenllcmeebhaaGreat.gm s f={jj s f with ep:={s.ep with ws:=s.ep.ws.filter λx=> ! x.1==f}} from rfl,tR];rw[List.filter_filter]
  grind
theorem xR {e:vF} {f:Int}:f∈oK e<-> ∃r,(f,r)∈e.ws/\r+2<=e.now:=by
 unfold oK;rw[(jS _).mem_iff]
 simp_all
theorem zl (M:MI gh ta n s):(da s).1=(oK (iz s.ep)).foldl Go.Proofs.YtlcenllcmeebhaaGreat.gm {s with ep:=iz s.ep}:=by
 rw[EI];show(oK _).foldl _ _= _;rw[tR,tR (iz _)];have:(iz s.ep).ws.filter (λx=> !decide (x.2+2<=(iz s.ep).now))=(iz s.ep).ws.filter λx=> !(oK (iz s.ep)).contains x.1:=by
  refine List.filter_congr λx hx=>?_;congr;rw[Bool.eq_iff_iff,List.contains_iff_mem,xR,decide_eq_true_eq];refine⟨by grind,λ⟨r,h1,a⟩=>?_⟩;have:=BP M.Uc.wn hx h1
  grind
 show({ (oK _).foldl _ s with ep:={iz _ with ws:=(iz _).ws.filter _}}:MS)= _;rw[this]
theorem MI.free (M:MI gh ta n s):MI gh ta n (da s).1:=by
 rw[zl M];refine MI.XI _ M.Uc ?_ λf a=>xR.1 a;refine(jS _).nodup_iff.2 ?_;exact M.Uc.wn.sublist (Dh.map _)
end
namespace Inv
variable {g:Gh} {s:WD}
theorem lq (I:Inv g s) (nl:Ah g s) {o r p t f:Int} {l:Nat} (u:g r=some (o,3,0)) (n:0<=p/\p<65536) (a:g f=some (o,l,px (l+1) p)):
 (∃m:Nat,l=m+1/\(bD s.1 p t (f,(l:Int),(0,0,0,0,()))).2.1=(m:Int)/\m<=3/\(bD s.1 p t (f,(l:Int),(0,0,0,0,()))).2.2=(0,0,0,0,())/\g (bD s.1 p t (f,(l:Int),(0,0,0,0,()))).1=some (o,m,px (m+1) p))\/
 ((bD s.1 p t (f,(l:Int),(0,0,0,0,()))).2.1= -1/\((bD s.1 p t (f,(l:Int),(0,0,0,0,()))).2.2.2.2.2.1=0->bz s r false p=((bD s.1 p t (f,(l:Int),(0,0,0,0,()))).2.2.1,(bD s.1 p t (f,(l:Int),(0,0,0,0,()))).2.2.2.1,0,()))):=by
 have v:=I.kd a;have w:=v.2.2.2.2.2;obtain⟨x,y,F⟩:=I.uR a;have hi:=eh p l;have h:=kM ⟨x,y⟩ n w;have z:uH s.1 (ee f p (l:Int))=true:=by rw[h];exact iK (by omega) (by omega)
 have A:uG (B (cL s.1 (ee f p (l:Int)))).toNat=true:=by
  rw[h];cases hb:(aK s.1 (16*f+px l p % 16)).1 with
  |true=>exact Cx hb
  |false=>rw[I.wf a hi.1 hi.2 hb];decide+kernel
 rw[tB z A,h];have b:=I.sP a hi.1 hi.2;have i:=nl a hi.1 hi.2;have j:dI (aK s.1 (16*f+px l p % 16))=false->bz s r false p=l5 p l (aK s.1 (16*f+px l p % 16)):=λc=>I.fm u n ⟨a,c⟩;revert b i j;generalize aK s.1 (16*f+px l p % 16)=e;intro b i j;unfold tookS;split
 ·exact .inr ⟨rfl,λc=>absurd c (show ¬ (4:Int)=0 by decide)⟩
 rename_i h1;have h1:e.1=true:=by simpa using h1
 split
 ·rename_i d;rw[Dn,decide_eq_true_eq] at d;obtain⟨m,q,hg⟩:=b d.1;subst q;refine .inl ⟨m,rfl,?_,by omega,rfl,?_⟩
  ·show a6 .i64 ((m+1:Nat):Int) 1= _;rw[bF (by omega) (by omega)];omega
  ·rw[<-nU p (m+1)] at hg;exact hg
 rename_i d;split
 ·rename_i C;rw[Dn,beq_iff_eq] at C;have k:dI e=false:=by
   cases c:dI e with
   |false=>rfl
   |true=>exact absurd (by rw[show fL e.1 e.2.1 e.2.2.1 e.2.2.2.1=true from c,decide_eq_true (by omega:(l:Int)>0)];rfl) d
  have:=i h1 k;omega
 split
 ·rename_i D;rw[Dn,beq_iff_eq] at D;have E:l=0:=by omega
  subst E;have k:dI e=false:=by
   cases c:dI e with
   |false=>rfl
   |true=>
    obtain⟨m,q, _⟩:=b c;omega
  refine .inr ⟨rfl,λc=>?_⟩;rw[j k];unfold l5;rw[av h1,ao (by decide)];revert c;dsimp only;unfold xZ;split
  ·intro c;exact absurd c (show ¬ (11:Int)=0 by decide)
  split
  ·intro _;rfl
  ·intro c;exact absurd c (show ¬ (7:Int)=0 by decide)
 ·exact .inr ⟨rfl,λc=>absurd c (show ¬ (11:Int)=0 by decide)⟩
theorem nr (I:Inv g s) {p t f:Int} {l:Nat} (c:0<=p/\p<65536) (e:l<=3) (G:iS s f):(bD s.1 p t (f,(l:Int),(0,0,0,0,()))).2.1= -1/\(bD s.1 p t (f,(l:Int),(0,0,0,0,()))).2.2.2.2.2.1=4:=by
 obtain⟨h0,d,h1, _,h⟩:=G;have k:=I.len;have m:=I.le;have n:f.toNat<s.2.length:=(AJ.1 h1).1;have hi:=eh p l;have a:=kM (f:=f) ⟨h0,by omega⟩ c e;have b:=h (px l p % 16) hi.1 hi.2;have i:uH s.1 (ee f p (l:Int))=true:=by rw[a];exact iK (by omega) (by omega)
 have j:uG (B (cL s.1 (ee f p (l:Int)))).toNat=true:=by rw[a,b];decide+kernel
 rw[tB i j,a,Y_ b];exact⟨rfl,rfl⟩
end Inv
section
variable {gh:Gh} {h:HS}
theorem HI.GO (H:HI gh h) {n:Nat} {d:DT} (c:h.s.2[n]? =some d) (d4:d.1=4\/d.1=5) {o:Int} (f:0<=o/\o<16) (b:Int):HI gh (bq h (dC h.s.1 (16*(n:Int)+o) b,h.s.2))/\Aa h (bq h (dC h.s.1 (16*(n:Int)+o) b,h.s.2)) (λ_ _=>False):=by
 have d3:d.1≠3:=by omega
 have B:Inv.fa gh h.s (dC h.s.1 (16*(n:Int)+o) b,h.s.2):=by
  refine gU H.inv ⟨cF _ _ _,rfl⟩ (λq e=>⟨n,d,c,d3,?_⟩) λ{i d d'} h1 a=>?_
  ·refine Aq λhc=>e ?_;show cL (dC h.s.1 (16*(n:Int)+o) b) q= _;rw[mi (by omega)]
  ·rw[h1] at a;cases a;exact .inl rfl
 exact⟨H.side B H.hc,H.CQ B (h':=bq h (dC h.s.1 (16*(n:Int)+o) b,h.s.2)) rfl rfl _⟩
end
set_option maxRecDepth 100000
open Go.RX D
section
variable {gh:Gh} {ta:Int->Bool} {n:Nat} {s s':MS} {i:Nat}
theorem ql (M:MI gh ta n s) {v:Int} (a:aQ s.h.g v=true): ∃x:GV,s.h.g v.toNat=some x/\aR s.h.g v=x.root/\gh x.root=some (v,3,0)/\1<=v/\v<=16:=by
 obtain⟨x,hx,b,c⟩:=bM a;refine⟨x,hx,b,?_,by omega⟩;rw[M.hi.root hx,Int.toNat_of_nonneg (by omega)]
theorem Ie (M:MI gh ta n s) {l:LT} (h:DF ta s i l) (g:s'.h=s.h) (j: ∀{z:Nat} {y:bG},s.cs[z]? =some y->y.ph=4->s'.cs[z]? =some y):Ax ta s' i l.2.2.1:=by
 obtain⟨_,m,d,h1,k,c⟩:=h;refine⟨m,d,h1,by grind,?_⟩;rcases c with c|⟨c,q,a,o,p,r,e⟩
 ·grind
 ·rcases c with c|c
  ·grind
  ·obtain⟨f,z,y,b, _,c1,c2,c3, _⟩:=e c;exact .inr ⟨c,.inl (by grind),f⟩
theorem JN (M:MI gh ta n s) {x:bG} (hx:s.cs[i]? =some x) (h1:x.ph=1):oY s.ep i={s.ep with pins:=s.ep.pins.set i s.ep.now}:=by
 have a:=M.pn hx;unfold oY
 grind
theorem EJ {x:bG} (hx:s.cs[i]? =some x) (a:x.ph≠4) (x':bG): ∀{z:Nat} {y:bG},s.cs[z]? =some y->y.ph=4->(s.cs.set i x')[z]? =some y:=by grind
theorem MI.FA (M:MI gh ta n s) {x:bG} (hx:s.cs[i]? =some x) (h1:x.ph=1) (a:iA s.h x=true) {l:LT} (b:l∈x.ls):MI gh ta n {s with cs:=s.cs.set i {x with ph:=3,fr:=l.2.2.1},ep:=oY s.ep i}:=by
 have e:x.c.1=6\/x.c.1=7:=by
  unfold iA at a;simp at a;have:=a.1;unfold aT at this
  grind
 rw[JN M hx h1];have d:x.ph≠4:=by omega
 have f:=M.nw;refine M.Df hx _ _ d (by grind) rfl (by grind) (M.ar x (az hx)) (M.tl x (az hx)) ?_ (λl b=>M.ln hx l b) (by grind) (by grind) λ_=>⟨?_,e⟩
 grind
 ·exact Ie M (M.ln hx l b) rfl (EJ hx d _)
theorem MI.aan (M:MI gh ta n s) {x:bG} (hx:s.cs[i]? =some x) (h1:x.ph=1) (a:iA s.h x=true):MI gh ta n {s with cs:=s.cs.set i {x with ph:=2,wk:=fO s.h.s.1 (aR s.h.g x.vm) (x.c.2.1 / 16) (aT x.c.1) 0},ep:=oY s.ep i}:=by
 unfold iA at a;simp at a;obtain⟨b,d,a⟩:=a;have o:x.c.1=6\/x.c.1=7:=by
  unfold aT at b
  grind
 rw[JN M hx h1];have e:x.ph≠4:=by omega
 have p:=M.nw;have f:=M.ar x (az hx);obtain⟨g,hg,j,k,hv⟩:=ql M d;refine M.Df hx _ s.ms e (by grind) rfl (by grind) f (M.tl x (az hx)) ?_ (λl m=>M.ln hx l m) (by grind) (λ_=>?_) (by grind)
 grind
 ·refine⟨3,rfl,by decide,rfl,.inl ?_⟩;show gh _=some (x.vm,3,px 4 (x.c.2.1 / 16));rw[W7 (by omega),j];exact k
theorem tC {a:Int} (h:0<=a/\a<1048576):0<=a / 16/\a / 16<65536:=by omega
theorem EK {ls:List LT} {sz:Int} {l y:LT} (h:y∈pC ls sz l):y∈ls\/y=l:=by
 rcases List.mem_append.1 h with h|h
 ·left;split at h
  ·exact(B2.1 h).1
  grind
 grind
theorem SY {ls:List LT} {sz:Int} {l:LT} (h:(ls.length:Int)<=sz) (h1:1<=sz):((pC ls sz l).length:Int)<=sz:=by
 unfold pC;rw[List.length_append];show(_+1: )<=sz;split
 ·have:(Cz ls l.1 l.2.1).length<ls.length:=by
   unfold Cz
   simp_all
  omega
 grind
theorem MI.walk (M:MI gh ta n s) {x:bG} (hx:s.cs[i]? =some x) (o:x.ph=2):MI gh ta n (fw (jk s i x) i x).1:=by
 have g:=az hx;have r:=M.ar x g;obtain⟨B,C,D⟩:=M.ac x g o;obtain⟨l,w1,E,L,a⟩:=M.wl hx o;have j:=tC ⟨r.1.1,C⟩;have p:x.ph≠4:=by omega
 have T:i<s.cs.length:=(AJ.1 hx).1;have F:=M.pn hx;rw[o,av (by decide)] at F;have k:x.wk=(x.wk.1,(l:Int),(0,0,0,0,())):=Prod.ext rfl (Prod.ext w1 L);obtain⟨N,hg,U,G,O,P⟩:=ql M B;have idle: ∀w,MI gh ta n (fw (bh {s with ep:=rX s.ep i} i {x with wk:=w},((0:Int),(w.2.2.2.2.2.1:Int)),true) i x).1:=λw=>by
  unfold fw;rw[av rfl];have e:((bh {s with ep:=rX s.ep i} i {x with wk:=w}).cs.getD i x).ls=x.ls:=by
   show((s.cs.set i _).getD i x).ls= _
   grind
  rw[e];have Q:bh (bh {s with ep:=rX s.ep i} i {x with wk:=w}) i (bV x.ls)={s with cs:=s.cs.set i (bV x.ls),ep:=rX s.ep i,ms:=s.ms}:=by
   unfold bh;dsimp only;rw[List.set_set]
  rw[Q];exact M.idle hx p (λl u=>M.ln hx l u) (M.tl x g) s.ms
 unfold jk;dsimp only;split
 ·rename_i hc;show MI gh ta n (bh s i _);rcases a with a|a
  ·rcases M.hi.inv.lq M.hi.nl (t:=aT x.c.1) G j a with ⟨m, _,b,f,H,k4⟩|⟨b, _⟩
   ·rw[k];refine M.Df (x':={x with wk:=bD s.h.s.1 (x.c.2.1 / 16) (aT x.c.1) (x.wk.1,(l:Int),(0,0,0,0,()))}) hx (s.ep.pins.getD i 0) s.ms p p ?_ (M.ph x g) r (M.tl x g) ?_ (λl u=>M.ln hx l u) (λ_=>⟨B,C,D⟩) (λ_=>⟨m,b,f,H,.inl k4⟩) (by grind)
    ·rw[tP M hx];rfl
    ·rw[av (.inl o)];exact F
   ·rw[k] at hc;exact absurd b hc
  ·obtain⟨b, _⟩:=M.hi.inv.nr (t:=aT x.c.1) j E a.1;rw[k] at hc;exact absurd b hc
 split
 ·exact idle _
 rename_i v q;have v:=Aq v;have q:(bD s.h.s.1 (x.c.2.1 / 16) (aT x.c.1) x.wk).2.2.2.2.2.1=0:=Aq q;show MI gh ta n (bh s i _);have z:bz s.h.s N.root false (x.c.2.1 / 16)=((bD s.h.s.1 (x.c.2.1 / 16) (aT x.c.1) x.wk).2.2.1,(bD s.h.s.1 (x.c.2.1 / 16) (aT x.c.1) x.wk).2.2.2.1,0,()):=by
  rcases a with a|a
  ·rcases M.hi.inv.lq M.hi.nl (t:=aT x.c.1) G j a with ⟨m, _,b,f,H,k4⟩|⟨b,f⟩
   ·rw[<-k] at b;rw[v] at b;omega
   ·rw[<-k] at f;exact f q
  ·obtain⟨_,f⟩:=M.hi.inv.nr (t:=aT x.c.1) j E a.1;rw[<-k,q] at f;exact absurd f (by decide)
 revert z;generalize bD s.h.s.1 (x.c.2.1 / 16) (aT x.c.1) x.wk=w;intro z;have I:fW s.h x.vm.toNat (x.c.2.1 / 16)=(w.2.2.1,w.2.2.2.1,0,()):=by rw[bN hg];exact z
 have R:mg s.h x.vm.toNat (x.c.2.1 / 16)=some w.2.2.1:=by rw[ku,I];rfl
 obtain⟨m,d,J,K,d4, _⟩:=M.hi.Ua R;have S:DF ta s i (x.vm,x.c.2.1 / 16,w.2.2.1,w.2.2.2.1,()):=⟨⟨O,P,j.1,j.2⟩,m,d,J,K,.inl ⟨d4,I⟩⟩;refine M.Df (x':={x with wk:=w,ls:=pC x.ls s.sz (x.vm,x.c.2.1 / 16,w.2.2.1,w.2.2.2.1,()),ph:=3,fr:=w.2.2.1}) hx (s.ep.pins.getD i 0) s.ms p (show ¬ (3:Int)=4 by decide) ?_ (show 0<=(3:Int)/\(3:Int)<=4 by decide) r (SY (M.tl x g) M.sz.1) ?_ ?_ (λe=>absurd e (show ¬ (3:Int)=2 by decide)) (by grind) (λ_=>⟨⟨m,d,J,K,.inl d4⟩,D⟩)
 ·rw[tP M hx];rfl
 grind
 ·intro y A;rcases EK A with A|rfl
  ·exact M.ln hx y A
  ·exact S
theorem MI.word (M:MI gh ta n s) {f:Int} (R:Ax ta s i f) {o:Int} (r:0<=o/\o<16) (b:Int):MI gh ta n {s with h:=bq s.h (dC s.h.s.1 (16*f+o) b,s.h.s.2)}:=by
 obtain⟨m,d,t,u,F⟩:=R;subst t;obtain⟨H,P⟩:=M.hi.GO u (by omega) r b;exact{M with
  hi:=H
  ln:=λ{j y} a l v=>by
   obtain⟨w,x,d',g,p,q⟩:=M.ln a l v;refine⟨w,x,d',g,p,?_⟩;rw[P.to id];exact q
  wl:=λ{j y} a e=>by
   obtain⟨l,g,p,q,z⟩:=M.wl a e;refine⟨l,g,p,q,z.imp id λ⟨c1,c2,c3⟩=>⟨?_,c2,c3⟩⟩;obtain⟨k0,d',A,B,C⟩:=c1;refine⟨k0,d',A,B,λk D E=>?_⟩;have ne:y.wk.1≠m:=λc=>by
    grind
   show cL (dC _ _ b) _=0;rw[mi (by omega)];exact C k D E}
theorem fB {s1:MS} {r:Int×Int} {x:bG} (h:s1.cs[i]? =some x):(fw (s1,r,true) i x).1={s1 with cs:=s1.cs.set i (bV x.ls)}:=by
 unfold fw;rw[B4,h];rfl
theorem MI.reach (M:MI gh ta n s) {x:bG} (hx:s.cs[i]? =some x) (e:x.ph=3):MI gh ta n (fw (eT s i x) i x).1:=by
 have b:=az hx;have d:x.ph≠4:=by omega
 unfold eT;split
 ·have M1:=M.word (M.rc hx e).1 (o:=x.c.2.1 % 16) (by omega) x.c.2.2.1;rw[fB (by grind)];exact M1.idle hx d (λl a=>M1.ln hx l a) (M1.tl x b) _
 ·rw[fB (by grind)];exact M.idle hx d (λl a=>M.ln hx l a) (M.tl x b) _
end
structure NN (s s':WD):Prop where
 to: ∀{m:Nat} {d':DT},s'.2[m]? =some d'->d'.1=5-> ∃d,s.2[m]? =some d/\d.1=5
theorem NN.refl {s s':WD} (h:s'.2=s.2):NN s s':=⟨λ{m d'} h1 a=>⟨d',by rw[<-h];exact h1,a⟩⟩
theorem NN.trans {s t u:WD} (a:NN s t) (b:NN t u):NN s u:=⟨λh1 c=>by
 obtain⟨d,e,f⟩:=b.to h1 c;exact a.to e f⟩
theorem NN.ch {s:WD} {W:List Int} {f:Int} {g:DT->DT×Int} (hg: ∀d,(g d).2=0->(g d).1.1=5->d.1=5):NN s (W,dH s.2 f g):=⟨λ{m d'} h1 a=>by
 have h1:(dH s.2 f g)[m]? =some d':=h1;by_cases b:f<0\/f>=s.2.length
 ·rw[xF b] at h1;exact⟨d',h1,a⟩
 ·rw[pG (by omega)] at h1;split at h1
  ·rename_i c;rcases ju h1 with ⟨rfl,rfl⟩|⟨_,h1⟩
   ·have e:f.toNat<s.2.length:=by omega
    refine⟨s.2.getD f.toNat zD,?_,hg _ c a⟩;rw[B4,B1 e];rfl
   ·exact⟨d',h1,a⟩
  ·exact⟨d',h1,a⟩⟩
theorem JO {k o:Int} (b:k≠5) (d:DT) (h0:(aP k o d).2=0) (a:(aP k o d).1.1=5):d.1=5:=by
 unfold aP at h0 a;dsimp only at h0 a;unfold mS at a;rw[av h0] at a;exact absurd a b
theorem aao {x:Int} (d:DT) (h0:(iv x d).2=0) (a:(iv x d).1.1=5):d.1=5:=by
 unfold iv at h0 a;dsimp only at h0 a;unfold qN at a;rw[av h0] at a;exact a
theorem NN.take {s:WD} {W:List Int} {k o:Int} (a:k≠5):NN s (W,dE s.2 k o):=by
 unfold dE;split
 ·exact .refl rfl
 ·exact .ch λd=>JO a d
theorem NN.tk (s:WD) (o:Int) (g:Int->Int):NN s (jc s o g):=NN.take (by decide)
theorem NN.lay (s:WD) (i:Int) (e:ET):NN s (dR s i e):= .refl rfl
theorem NN.down (o pg:Int): ∀(n:Nat) (x:WD×PT),NN x.1 (qZ o pg n x).1
 |0,x=> .refl rfl
 |n+1,x=>NN.trans (NN.trans (NN.tk x.1 o λ_=>0) (NN.lay _ x.2.2.2.1 (cv (eK x.1 o)))) (NN.down o pg n (dR (jc x.1 o λ_=>0) x.2.2.2.1 (cv (eK x.1 o)),(eK x.1 o,x.2.2.1 - 1,ee (eK x.1 o) pg (x.2.2.1 - 1),())))
theorem NN.map (s:WD) (o r:Int) (g:Bool) (pg f rt:Int):NN s (jG s o r g pg f rt):=by
 unfold jG;split
 ·exact .refl rfl
 split
 ·unfold rT;split
  ·exact NN.trans (NN.down o pg _ (s,dJ s.1 r pg)) (NN.lay _ _ _)
  ·exact .refl rfl
 ·exact .refl rfl
theorem NN.don (h:HS) (v a b:Int):NN h.s (il h v a b).s:=by
 have h1:NN h.s (iy h v):=NN.take (by decide);have c:NN h.s (qR h v a b):=h1.trans (NN.map ..);unfold il;split
 ·exact .refl rfl
 split
 ·exact .refl rfl
 split
 ·exact h1
 split
 ·exact c.trans (NN.ch λd=>JO (by decide) d)
 ·exact c.trans (.refl rfl)
theorem NN.DH (h:HS):NN h.s (fS h).s:=by
 unfold fS;split
 ·exact .refl rfl
 split
 ·exact NN.tk ..
 ·exact .refl rfl
theorem NN.tak (h:HS) (v a b c:Int):NN h.s (fR h v a b c).s:=NN.trans (NN.map ..) (NN.ch λd=>aao d)
structure CE (gh cI:Gh) (h h':HS) (P:Nat->Int->Prop) (U:Int->Prop):Prop where
 hi:HI cI h'
 kd:KD h.s h'.s
 pg:Aa h h' P
 gk: ∀{f:Int} {w:Int×Nat×Int},gh f=some w-> ¬ U w.1->cI f=some w\/iS h'.s f
 gn: ∀{f:Int},iS h.s f->iS h'.s f
 lv: ∀{v:Int},¬ U v->aQ h.g v=true->aQ h'.g v=true
section
variable {gh cI:Gh} {ta:Int->Bool} {n:Nat} {s s':MS} {i:Nat} {h':HS} {P:Nat->Int->Prop} {U:Int->Prop}
theorem MI.quiet (M:MI gh ta n s) (C:CE gh cI s.h h' P λ_=>False) (N:NN s.h.s h'.s) (E: ∀{j:Nat} {q:Int},P j q->0<=q->q<65536->(fW s.h j q).2.2.1≠0):MI cI ta n {s with h:=h'}:=by
 have B: ∀{m:Nat} {d:DT},s.h.s.2[m]? =some d->d.1=4-> ∃d',h'.s.2[m]? =some d'/\d'.1=4:=λ{m d} h1 F=>by
  obtain⟨d',g,b⟩:=C.kd.k4 h1 F;rcases b with b|b
  ·exact⟨d',g,b⟩
  ·obtain⟨d2,v,x⟩:=N.to g b;rw[h1] at v;cases v;omega
 exact{M with
  hi:=C.hi
  k5:=λf G=>by
   obtain⟨m,d,h1,D,H⟩:=M.k5 f G;obtain⟨d',g,b⟩:=C.kd.k5 D H;exact⟨m,d',h1,g,b⟩
  kd:=λ{m d} h1 D=>by
   obtain⟨d0,g,b⟩:=N.to h1 D;exact M.kd g b
  pn:=λ{j y} r=>M.pn r
  ln:=λ{j y} r l I=>by
   obtain⟨w,m,d,o,p,t⟩:=M.ln r l I;rcases t with ⟨i,u⟩|⟨i,q,a,u,z,A,J⟩
   ·obtain⟨d',g,b⟩:=B p i;refine⟨w,m,d',o,g,.inl ⟨b,?_⟩⟩;show fW h' _ _= _;rw[C.pg.to (λc=>E c w.2.2.1 w.2.2.2 (by rw[u]))];exact u
   ·rcases i with i|i
    ·obtain⟨d',g,b⟩:=B p i;exact⟨w,m,d',o,g,.inr ⟨.inl b,q,a,u,z,A,λc=>by omega⟩⟩
    ·obtain⟨d',g,b⟩:=C.kd.k5 p i;exact⟨w,m,d',o,g,.inr ⟨.inr b,q,a,u,z,A,λ_=>J i⟩⟩
  ac:=λy K e=>by
   obtain⟨v,x⟩:=M.ac y K e;exact⟨C.lv id v,x⟩
  wl:=λ{j y} r e=>by
   obtain⟨l,o,p,t,i⟩:=M.wl r e;refine⟨l,o,p,t,?_⟩;rcases i with i|⟨c1,c2,c3⟩
   ·rcases C.gk i id with k|k
    ·exact .inl k
    ·obtain⟨k0,d,v,x, _⟩:=k;obtain⟨d0,g,b⟩:=N.to v x;rw[(M.hi.inv.kd i).2.2.1] at g;cases g;exact absurd b (show ¬ (3:Int)=5 by decide)
   ·exact .inr ⟨C.gn c1,c2,c3⟩
  rc:=λ{j y} r e=>by
   obtain⟨⟨m,d,o,p,t⟩,i⟩:=M.rc r e;refine⟨?_,i⟩;rcases t with t|⟨u,z,A⟩
   ·obtain⟨d',g,b⟩:=B p t;exact⟨m,d',o,g,.inl b⟩
   ·obtain⟨d',g,b⟩:=C.kd.k5 p u;exact⟨m,d',o,g,.inr ⟨b,z,A⟩⟩}
theorem HI.same {h:HS} (H:HI gh h) (a:HI cI h') (hs:h'.s=h.s) (hg:h'.g=h.g):HI gh h' where
 inv:=by rw[hs];exact H.inv
 rt:=H.rt
 nl:=by rw[hs];exact H.nl
 sz:=by rw[hs];exact H.sz
 jy:=by rw[hg];exact H.jy
 root:=by rw[hg];exact H.root
 own:=by rw[hg];exact H.own
 hc:=a.hc
theorem CE.same {h:HS} (H:HI gh h) (a:HI cI h') (hs:h'.s=h.s) (hg:h'.g=h.g):CE gh gh h h' (λ_ _=>False) (λ_=>False):=
 ⟨H.same a hs hg,.refl (by rw[hs]),Aa.of hs hg _,λh _=> .inl h,λh=>by rw[hs];exact h,λ_ h=>by rw[hg];exact h⟩
end
theorem tS: ∀(l m:List Int),l.Nodup->(∀x∈l,x∈m)->l.length<=m.length
 |[], _, _, _=>FH _
 |a::l,m,b,hs=>by
  have c:a∈m:=hs a Bx;have d:=tS l (m.erase a) (DE.1 b).2 λx hx=>by
   have:x≠a:=λe=>(DE.1 b).1 (by rw[<-e];exact hx);exact(List.mem_erase_of_ne this).2 (hs x (Cg _ hx))
  rw[List.length_erase_of_mem c] at d;have:0<m.length:=List.length_pos_of_mem c;rw[DV];omega
theorem P0 {α:Type} (i:Nat): ∀(l:List α) (k:Nat),(l.zipIdx k).countP (λx=>decide (x.2≠i))+(if k<=i/\i<k+l.length then 1 else 0)=l.length
 |[],k=>by
  rw[ao (by simp)];rfl
 |a::l,k=>by
  have b:=P0 i l (k+1);rw[Fy,Dw,DV];by_cases e:k=i
  ·subst e;rw[ao (by omega)] at b;rw[ao (by simp),av (by omega)];omega
  ·rw[av (by simpa using e)];by_cases c:k+1<=i/\i<k+1+l.length
   ·rw[av c] at b;rw[av (by omega)];omega
   ·rw[ao c] at b;rw[ao (by omega)];omega
section
variable {gh cI:Gh} {ta:Int->Bool} {n:Nat} {s s':MS} {i:Nat} {h':HS} {P:Nat->Int->Prop} {U:Int->Prop}
theorem gF {f:Int}:f∈eA s h'<-> ∃(m:Nat) (d:DT),f=(m:Int)/\h'.s.2[m]? =some d/\d.1=5/\f∉s.kn:=by
 unfold eA;rw[B2,Bs];constructor
 ·rintro⟨⟨m,c,rfl⟩,b⟩;rw[DB] at c;have a:h'.s.2[m]? =some h'.s.2[m]:=B1 c;rw[Dn,nM a] at b;refine⟨m, _,rfl,a,by simpa using b.1,by simpa using b.2⟩
 ·rintro⟨m,d,rfl,a,e,g⟩;refine⟨⟨m,DB.2 (AJ.1 a).1,rfl⟩,?_⟩;rw[nM a,e];simpa using g
theorem zS:(eA s h').Nodup:=by
 unfold eA;refine List.Pairwise.sublist Dh ?_;rw[Fz];exact FX.imp λh e=>h (by omega)
theorem MI.box (M:MI gh ta n s) {j:Nat} {q:List AK} (c:s.bx[j]? =some q):q.length<=8:=by
 obtain⟨h1,d⟩:=M.aq c;have f:(q.map (·.1)).Nodup:=by
  unfold List.Nodup;rw[Fz];exact h1.imp λh e=>by omega
 have:=tS _ (s.cs.map (·.ak)) f λa g=>by
  obtain⟨b,hb,rfl⟩:=Bs.1 g;obtain⟨z,y, _,i, _,k4⟩:=d b hb;exact Bs.2 ⟨y,az i,by rw[k4]⟩
 rw[DL,DL,M.lc] at this;have:=M.nn;omega
theorem MI.fN (M:MI gh ta n s) {j:Nat} {q:List AK} (b:s.bx[j]? =some q) {a:AK} (c:a∈q):a.1<=(s.op.length:Int):=by
 obtain⟨z,y, _,d,e,k4⟩:=(M.aq b).2 a c;have:=(M.wt y (az d) e).2.1;rw[k4];exact this
theorem CV (M:MI gh ta n s) (i:Nat) {t p:Int} (e:1<=t/\t<=16) (f: -1<=p/\p<65536):
 cN s.bx s.op i t p=((s.op.length:Int)+1,(s.bx.zipIdx.map λ(q,j)=>if j=i then q else q++[((s.op.length:Int)+1,t,p,())]),s.op++[(s.bx.length:Int) - 1]):=by
 unfold cN;rw[ao (by omega),ao ?_];intro c;obtain⟨q,b,a⟩:=FY.1 c;obtain⟨j,d⟩:=Ct (List.mem_of_mem_eraseIdx b);have:=M.box d;have a:q.length=16:=by simpa using a
 omega
theorem SZ {bx:List (List AK)} {i j:Nat} {x:AK} {a:List AK} (h:(bx.zipIdx.map λ(q,j)=>if j=i then q else q++[x])[j]? =some a): ∃q,bx[j]? =some q/\a=if j=i then q else q++[x]:=by
 rw[F6,G1] at h;cases hb:bx[j]? with
 |none=>rw[hb] at h;cases h
 |some q=>
  rw[hb] at h;refine⟨q,rfl,?_⟩;have:=Option.some.inj h;rw[<-this];show(if 0+j=i then _ else _)= _;rw[Nat.zero_add]
theorem post_at {bx:List (List AK)} {i j:Nat} {x:AK} {q:List AK} (h:bx[j]? =some q):(bx.zipIdx.map λ(q,j)=>if j=i then q else q++[x])[j]? =some (if j=i then q else q++[x]):=by
 rw[F6,G1,h];show some (if 0+j=i then _ else _)= _;rw[Nat.zero_add]
theorem EL (q:List AK) (x:AK) (k:Int):jJ (q++[x]) k=(jJ q k||x.1==k):=by
 unfold jJ;rw[List.any_append];simp
theorem JP {α:Type}: ∀(l:List α) (k:Nat),(l.zipIdx k).map Prod.fst=l
 |[], _=>rfl
 |a::l,k=>by rw[Fy,Dq,JP l (k+1)]
theorem S3 {bx:List (List AK)} {i:Nat} {x:AK} {k:Int} (a:x.1≠k):(bx.zipIdx.map λ(q,j)=>if j=i then q else q++[x]).countP (λq=>jJ q k)=bx.countP λq=>jJ q k:=by
 rw[FG];have:((λq=>jJ q k)∘λ(z:List AK×Nat)=>(match z with|(q,j)=>if j=i then q else q++[x]))=(λq=>jJ q k)∘Prod.fst:=by
  funext ⟨q,j⟩;show jJ (if j=i then q else q++[x]) k=jJ q k;split
  ·rfl
  ·rw[EL,beq_eq_false_iff_ne.2 a,Bool.or_false]
 rw[this, <-FG,JP]
theorem S4 {bx:List (List AK)} {i:Nat} {x:AK} (hi:i<bx.length) (a: ∀q∈bx,jJ q x.1=false):(bx.zipIdx.map λ(q,j)=>if j=i then q else q++[x]).countP (λq=>jJ q x.1)=bx.length - 1:=by
 rw[FG];have:(bx.zipIdx).countP ((λq=>jJ q x.1)∘λ(z:List AK×Nat)=>(match z with|(q,j)=>if j=i then q else q++[x]))=bx.zipIdx.countP λz=>decide (z.2≠i):=by
  refine List.countP_congr λ⟨q,j⟩ b=>?_;have c:q∈bx:=(List.mem_zipIdx_iff_getElem?.1 b |> B5);show jJ (if j=i then q else q++[x]) x.1=true<->decide (j≠i)=true;split
  ·rename_i e;rw[a q c,e];simp
  ·rename_i e;rw[EL];simp[e]
 rw[this];have:=P0 i bx 0;rw[av (by omega)] at this;omega
end
end Go.Proofs.YtlcenllcmeebhaaGreat
