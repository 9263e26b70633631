import Derived.Test.YtlcenllcmeebhaaGreatPEE
/-! What the statement leans on: texts joined and shortened by a program of mine. -/
set_option linter.unusedVariables false
set_option linter.unusedSimpArgs false
open Go renaming World->A2,Addr->AC,Value->B9,MapEntry->Ds
open Go.Proofs.Tryz renaming prog->AA
open List renaming getElem?_set_ne->AN,getElem?_eq_some_iff->Ak,getElem?_set_self->Al,length_set->Av,getD_eq_getElem?_getD->Ay,mem_map->B1,mem_filter->B3,mem_of_getElem?->B4,range->B5,getElem?_eq_getElem->B6,mem_cons_self->BI,mem_cons_of_mem->BQ,getElem?_of_mem->Bs,nodup_cons->Bx,mem_cons->C7,replicate->C8,map_cons->CX,filter_sublist->DA,length_map->DB,mem_append_left->DE,mem_range->Dd,length_cons->Df,mem_append_right->Dk,mem_singleton->Dl,countP_pos_iff->Dz,countP_cons->E4,sum_cons->FM,getElem?_map->FN,ext_getElem?->FO,length_replicate->FP,mem_append->FS,countP_map->FY,map_append->Fu,sum_append->Fv,filter_cons->G1,filter_eq_self->GD,nodup_range->GF,any_eq_true->GG,eq_of_mem_replicate->GH,getElem?_set->GI,any_eq_false->GJ,length_append->GS,zipIdx_cons->Ga,pairwise_map->Gd,getElem?_zipIdx->Gi
open Classical renaming byContradiction->B2
open Int.ofNat renaming inj->B8
open Nat renaming eq_zero_or_pos->C9,le_refl->E5,zero_le->Fg,lt_succ_self->Gj
open Go.IntKind renaming i64->DK
open Go.Value renaming nilFunc->Dn
open Bool renaming and_eq_true->Do
open BitVec renaming ofInt->F1
open Int renaming toNat_of_nonneg->FB,toNat->Fp
namespace Go.Proofs.YtlcenllcmeebhaaGreat.Mu
set_option maxRecDepth 100000
open Go.RX
abbrev sCl:List Sc:=[.int .i64,.int .u64,.int .u64,.int .u64]
abbrev sMk:List Sc:=[.int .i64,.int .i64,.int .i64,.int .i64,.int .u64,.int .u64,.int .u64,.int .u64,.int .i64]
noncomputable def U2:dI AA:={V0 with quiet:=[64,160,199,152,154,201,161,82,24]++V0.quiet}
noncomputable def U3:dI AA:={U2 with ZT:=some (.bA [.agg iN,.one .bool])}
theorem RZ (p:Option AC) (w:A2) (a:Int->A2->Prop):(aI U2 (λ_=>[]) 160 [ag p] w a)=(
 p.isSome=true/\p.isSome=true/\(ad p 4).isSome=true/\cK w (ad (ad p 4) 1) λx=>au w (a (aG .i64 (wT .u64 x 16)))):=by kernel_rfl
theorem R2 (p:Option AC) (w:A2) (e:Int->A2->Prop):(aI U2 (λ_=>[]) 199 [ag p] w e)=(
 ∀w1,Ext w w1-> ∀c,Ext (w1.alloc (Obj.map ⟨[]⟩ 0)) c-> ∃(r:Nat), ∃(es:Array Ds), ∃(a:Nat),some w1.heap.size=some r/\bG c r es a/\gU c r .i64 6 (aa 1) es a λb=> ∀d,Ext b d-> ∃(r:Nat), ∃(es:Array Ds), ∃(a:Nat),some w1.heap.size=some r/\bG d r es a/\gU d r .i64 7 (aa 2) es a λb=>p.isSome=true/\p.isSome=true/\(ad p 4).isSome=true/\aW b (ad (ad p 4) 0) λx=> ∃(f:Int),jX b (some w1.heap.size) .i64 x (aa 0) (aa f)/\au b (e
 f)):=by kernel_rfl
theorem ZD (p:Option AC) (n:Int) (w:A2) (a:Option AC->A2->Prop):(aI U2 (λ_=>[]) 64 [ag p,aa n] w a)=(
 ((!(p.isNone||decide (n<0)))=true->p.isSome=true)/\((!(p.isNone||decide (n<0)))=true->p.isSome=true)/\aj w (some !(p.isNone||decide (n<0))) (ad p 3) fi λx=>aH (p.isNone||decide (n<0)||decide (n>=(↑x.2.1:Int))) (au w (a none)) (fe p 3 w λx=>(x.1.isSome=true/\0<=n/\n<(↑x.2.1:Int))/\gf w (ad x.1 (n.toNat*1)) λx=>au w (a x))):=by kernel_rfl
theorem VI (p:Option AC) (n v k a b c:Int) (w:A2) (f:Int->A2->Prop):(aI U2 (λ_=>[]) 29 [ag p,aa n,aa v,.agg ⟨[aa k,ay a,ay b,ay c]⟩] w f)=(
 aM w ⟨[aa k,ay a,ay b,ay c]⟩ 31 λb d=> ∃(x:Option AC),af AA 64 [ag p,aa n] d (ag x)/\((!p.isNone)=true->p.isSome=true)/\((!p.isNone)=true->p.isSome=true)/\aj d (some !p.isNone) (ad p 0) lW λg=>aH (p.isNone||g.isNone) (au d (f 10)) (aH x.isNone (au d (f 2)) (cL x 2 d λh=>aH (h != 0) (au d (f 9)) (aj d none (ae b) wW λ(e:Int×Int×Int×Int×Unit)=>x.isSome=true/\x.isSome=true/\az d (ad x 2) [aa 1] λd=>cQ d (ae b) wW
 e/\x.isSome=true/\x.isSome=true/\az d (ad x 3) [aa v] λd=>cQ d (ae b) wW e/\x.isSome=true/\x.isSome=true/\az d (ad x 4) [aa e.1,ay e.2.1,ay e.2.2.1,ay e.2.2.2.1] λd=>au d (f 0))))):=by kernel_rfl
theorem R3 (p:Option AC) (f g h k a b c i j:Int) (w:A2) (l:Unit->A2->Prop):(aI U2 (λ_=>[]) 155 [ag p,.agg ⟨[aa f,aa g,aa h,aa k,ay a,ay b,ay c,ay i,aa j]⟩] w l)=(
 aM w ⟨[aa f,aa g,aa h,aa k,ay a,ay b,ay c,ay i,aa j]⟩ 86 λb d=>fe p 5 d λx=>aj d none (ae b) Yl λ(e:Int×Int×Int×Int×Int×Int×Int×Int×Int×Unit)=>aM d {toList:=[aa e.1,aa e.2.1,aa e.2.2.1,aa e.2.2.2.1,ay e.2.2.2.2.1,ay e.2.2.2.2.2.1,ay e.2.2.2.2.2.2.1,ay e.2.2.2.2.2.2.2.1,aa e.2.2.2.2.2.2.2.2.1]} 86 λb d=> ∀w1,Ext d w1->mD w1 86 9 72 ⟨[aa 0,aa 0,.int .i64
 0,aa 0,ay 0,ay 0,ay 0,ay 0,aa 0]⟩ (x.1,x.2.1,x.2.2) (some ⟨b,0,none⟩,1,1) λ(r:Option AC×Nat×Nat) d=>p.isSome=true/\p.isSome=true/\az d (ad p 5) [.slice r.1 r.2.1 r.2.2] λd=>au d (l ())):=by kernel_rfl
abbrev pI (b:(Int×Int×Unit)×Bool×Unit->A2->Prop) (c:A2) (a:Nat):Prop:=
 az c (ae a) [ay 0,aa 0] λd=>au d λw1=>aj w1 none (ae a) cD λ(x:Int×Int×Unit)=>b ((x.1,x.2.1,()),false,()) w1
abbrev ww (a:Int):Prop:=
 0<=a/\a<(↑5:Int)
abbrev wx (n:Int) (e:(Int×Int×Unit)×Bool×Unit->A2->Prop) (g:A2) (f:Nat) (b:(Int×Int×Unit)×Bool×Unit) (c:Nat) (d:Option AC):Prop:=
 az g (ae f) [ay b.1.1,aa b.1.2.1] λa=>aH (!b.2.1) (pI e a c) (bH d 1 a λx=>d.isSome=true/\az a d [aa n,ag x,aa 0,aa 0,aa 0,ay 0,ay 0,ay 0,ag none,aa 0,ay 0,aa 0,aa 0,.slice none 0 0] λa=>aj a none (ae f) cD λ(x:Int×Int×Unit)=>az a (ae c) [ay x.1,aa x.2.1] λa=>au a λw1=>aj w1 none (ae c) cD λ(x:Int×Int×Unit)=>e ((x.1,x.2.1,()),true,()) w1)
abbrev wy (n:Int) (c:(Int×Int×Unit)×Bool×Unit->A2->Prop) (a:B9×B9×B9×B9×B9×Unit) (d:Int) (b:Option AC) (e:A2) (f:Nat) (g:Nat):Prop:=
 zW AA (match [a.1,a.2.1,a.2.2.1,a.2.2.2.1,a.2.2.2.2.1].get?Internal d.toNat with|some x=>x|none=> .tuple ⟨[]⟩) (.bA [.agg [.int .u64,.int .i64],.one .bool]) [ag b] e λ(x:(Int×Int×Unit)×Bool×Unit) h=>wx n c h f x g b
abbrev wz (p:Option AC) (n:Int) (e:(Int×Int×Unit)×Bool×Unit->A2->Prop) (d:Option AC) (f:A2) (g:Nat):Prop:=
 cL d 2 f λx=>(aA AA 68 (.el (.agg [.func,.func,.func,.func,.func])) [ag p] f λc a=>cQ a (ad d 2) aX x/\True/\True/\ww x/\(zW AA (match [c.1,c.2.1,c.2.2.1,c.2.2.2.1,c.2.2.2.2.1].get?Internal x.toNat with|some x=>x|none=> .tuple ⟨[]⟩) (.bA [.agg [.int .u64,.int .i64],.one .bool]) [ag d] a λ(x:(Int×Int×Unit)×Bool×Unit) a=>aM a ⟨[ay 0,aa 0]⟩ 61 λb a=>wx n e a b
 x g d)/\aM a ⟨[ay 0,aa 0]⟩ 61 λb a=>wy n e c x d a b g)/\aM f ⟨[ay 0,aa 0]⟩ 61 λb a=>aA AA 68 (.el (.agg [.func,.func,.func,.func,.func])) [ag p] a λc a=>cQ a (ad d 2) aX x/\True/\True/\ww x/\wy n e c x d a b g
theorem R4 (p:Option AC) (n:Int) (w:A2) (c:(Int×Int×Unit)×Bool×Unit->A2->Prop):(bV U3 (λ_=>[]) 31 [ag p,aa n] w c)=(
 aM w ⟨[ay 0,aa 0]⟩ 61 λb a=> ∃(x:Option AC),af AA 64 [ag p,aa n] a (ag x)/\aH x.isNone (pI c a b) (cL x 2 a λf=>aH (f != 3) (bH p 2 a λg=>aA AA 66 (.bA [.agg [.int .i64,.int .i64,.int .i64],.one .bool]) [ag g,aa n] a λ(d:(Int×Int×Int×Unit)×Bool×Unit) a=>aM a ⟨[aa 0,aa 0,aa 0]⟩ 147 λe a=>az a (ae e) [aa d.1.1,aa d.1.2.1,aa d.1.2.2.1] λa=>aH d.2.1 (true=true/\aW a (ad
 (ae e) 1) λh=>true=true/\aW a (ad (ae e) 2) λi=>aA AA 67 (.bA []) [ag x,aa h,aa i] a λx a=>pI c a b) (wz p n c x a b)) (wz p n c x a b))):=by kernel_rfl
theorem HK (p:Option AC) (w:A2) (c:B9×B9×B9×B9×B9×Unit->A2->Prop):(bV U2 (λ_=>[]) 68 [ag p] w c)=(
 aM w ⟨[Dn,Dn,Dn,Dn,Dn]⟩ 154 λb a=>az a (ae b) [.func (.func 109) ⟨[ag p]⟩ ⟨[]⟩,.func (.func 110) ⟨[ag p]⟩ ⟨[]⟩,.func (.func 111) ⟨[ag p]⟩ ⟨[]⟩,.func (.func 112) ⟨[ag p]⟩ ⟨[]⟩,.func (.func 113) ⟨[ag p]⟩ ⟨[]⟩] λa=>au a λw1=>aj w1 none (ae b) (.agg [.func,.func,.func,.func,.func]) λx=>c (x.1,x.2.1,x.2.2.1,x.2.2.2.1,x.2.2.2.2.1,()) w1):=by kernel_rfl
theorem HL (p:Option AC) (t g:Int) (w:A2) (a:Unit->A2->Prop):(aI U2 (λ_=>[]) 67 [ag p,aa t,aa g] w a)=(
 aH (g== -1) (bH p 1 w λx=>aA AA 107 (.el aX) [ag x,aa t] w λ(x:Int) b=>au b (a ())) (bH p 1 w λx=>aA AA 108 (.el sT) [ag x,aa t,aa g] w λx b=>au b (a ()))):=by kernel_rfl
def uo:Nat->a8:=(λ|4=>[(18,Go.RX.El.one (Go.RX.Sc.int DK))]| _=>[])
theorem R5 (p:Option AC) (w:A2) (b:Int->A2->Prop):(aI U2 uo 151 [ag p] w b)=(
 bH p 1 w λx=>aA AA 197 (.el sT) [ag x] w λx a=>bH p 1 a λx=>aA AA 198 (.el fi) [ag x] a λx a=> ∃(I:Nat->Int×Unit->A2->Prop),(∃n, ∀w1,Ext a w1->I n (0,()) w1)/\ ∀(n:Nat) (s:Int×Unit) (w1:A2),I n s w1->aH (decide (s.1<(↑x.2.1:Int))) ((x.1.isSome=true/\0<=s.1/\s.1<(↑x.2.1:Int))/\aW w1 (ad x.1 (Fp s.1*1)) λx=>bH p 0 w1 λf=>aA AA 43 (.el aX) [ag f,aa x] w1 λ(h:Int) a=>sV p 4 a λg=> ∀w1,Ext a w1-> ∃(r:Nat), ∃
 (es:Array Ds), ∃(c:Nat),g=some r/\bG w1 r es c/\Ac w1 r .i64 x es c λa=>aA AA 155 (.bA []) [ag p,.agg {toList:=[aa 2,aa 0,aa x,aa 0,ay 0,ay 0,ay 0,ay 0,aa 0]}] a λx a=> ∀d,Ext a d-> ∃(e:Nat),e<n/\I e (aL .i64 s.1 1,()) d) (au w1 (b (↑x.2.1:Int)))):=by kernel_rfl
theorem R6 (p x:Option AC) (w:A2) (c:(Int×Int×Unit)×Bool×Unit->A2->Prop):(bV U2 (λ_=>[]) 109 [ag p,ag x] w c)=(
 aM w ⟨[ay 0,aa 0]⟩ 61 λb a=>aA AA 151 (.el aX) [ag p] a λ(x:Int) a=>az a (ae b) [ay 0,aa 0] λa=>au a λw1=>aj w1 none (ae b) cD λ(x:Int×Int×Unit)=>c ((x.1,x.2.1,()),false,()) w1):=by kernel_rfl
theorem Mx (p x:Option AC) (w:A2) (e:(Int×Int×Unit)×Bool×Unit->A2->Prop):(bV U2 (λ_=>[]) 112 [ag p,ag x] w e)=(
 aM w ⟨[ay 0,aa 0]⟩ 61 λb a=>cL x 9 a λc=>x.isSome=true/\x.isSome=true/\(ad x 4).isSome=true/\cK a (ad (ad x 4) 1) λd=>bH p 1 a λh=>cL x 0 a λi=>aA AA 158 (.el aX) [ag h,aa i] a λ(l:Int) a=>x.isSome=true/\x.isSome=true/\(ad x 4).isSome=true/\aW a (ad (ad x 4) 0) λj=>aH (j==7) (bH p 0 a λf=>x.isSome=true/\x.isSome=true/\(ad x 4).isSome=true/\cK a (ad (ad x 4) 2) λg=>aA AA 23 (.el lW) [ag f] a λ
 k a=>cQ a (ad (ad x 4) 2) ru g/\True/\True/\True/\aA AA 38 (.el aX) [ag k,aa (aL .i64 (fy .i64 16 c) (aG .i64 (f_ d 16))),ay g] a λ(m:Int) a=>x.isSome=true/\x.isSome=true/\(ad x 4).isSome=true/\cK a (ad (ad x 4) 2) λx=>aA AA 155 (.bA []) [ag p,.agg {toList:=[aa 4,aa 0,aa (aL .i64 (fy .i64 16 c) (aG .i64 (f_ d 16))),aa 0,ay 0,ay 0,ay 0,ay x,aa 0]}] a λx a=>az a (ae b) [.int .u64
 0,aa 0] λa=>au a λw1=>aj w1 none (ae b) cD λ(x:Int×Int×Unit)=>e ((x.1,x.2.1,()),true,()) w1) (bH p 0 a λx=>aA AA 23 (.el lW) [ag x] a λx a=>aA AA 37 (.bA [.one (.int .u64),.one (.int .i64)]) [ag x,aa (aL .i64 (fy .i64 16 c) (aG .i64 (f_ d 16)))] a λ(x:Int×Int×Unit) a=>aA AA 155 (.bA []) [ag p,.agg {toList:=[aa 3,aa 0,aa (aL .i64 (fy .i64 16 c) (aG .i64 (f_ d 16))),aa 0,ay 0,ay 0,
 ay 0,ay x.1,aa 0]}] a λf a=>az a (ae b) [ay x.1,aa 0] λa=>au a λw1=>aj w1 none (ae b) cD λ(x:Int×Int×Unit)=>e ((x.1,x.2.1,()),true,()) w1)):=by kernel_rfl
theorem R7 (p x:Option AC) (w:A2) (e:(Int×Int×Unit)×Bool×Unit->A2->Prop):(bV U2 (λ_=>[]) 111 [ag p,ag x] w e)=(
 aM w ⟨[ay 0,aa 0]⟩ 61 λb a=>bH x 8 a λg=>bH p 0 a λj=>aA AA 23 (.el lW) [ag j] a λk a=>cQ a (ad x 8) lW g/\True/\True/\aA AA 22 (.el sT) [ag g,ag k] a λl a=>aH (!l) (az a (ae b) [ay 0,aa 0] λa=>au a λw1=>aj w1 none (ae b) cD λ(x:Int×Int×Unit)=>e ((x.1,x.2.1,()),false,()) w1) (bH x 8 a λm=> ∃(c:(Int×Int×Int×Int×Unit)×Bool×Unit),af AA 24 [ag m] a (.tuple {toList
 :=[.agg ⟨[aa c.1.1,aa c.1.2.1,aa c.1.2.2.1,aa c.1.2.2.2.1]⟩,.bool c.2.1]})/\aM a ⟨[aa 0,aa 0,aa 0,aa 0]⟩ 48 λd a=>az a (ae d) [aa c.1.1,aa c.1.2.1,aa c.1.2.2.1,aa c.1.2.2.2.1] λa=>true=true/\aW a (ad (ae d) 3) λn=>aH (n != 0) (bH p 1 a λf=>cL x 0 a λx=>aA AA 158 (.el aX) [ag f,aa x] a λ(x:Int) a=>true=true/\aW a (ad (ae d) 3) λx=>az a (ae b) [ay 0,aa x]
 λa=>au a λw1=>aj w1 none (ae b) cD λ(x:Int×Int×Unit)=>e ((x.1,x.2.1,()),true,()) w1) (bH x 1 a λf=>cL x 3 a λo=> ∃(h:Int),af AA 160 [ag x] a (aa h)/\true=true/\aW a (ad (ae d) 0) λq=>true=true/\aW a (ad (ae d) 1) λr=>aA AA 159 (.el aX) [ag f,.agg ⟨[aa o,aa h,aa q,aa r]⟩] a λ(s:Int) a=>true=true/\aW a (ad (ae d) 0) λi=>x.isSome=true/\x.isSome=true/\az a
 (ad x 2) [aa 3] λa=>cQ a (ad (ae d) 0) aX i/\True/\x.isSome=true/\x.isSome=true/\az a (ad x 9) [aa i] λa=>az a (ae b) [ay 0,aa 0] λa=>au a λw1=>aj w1 none (ae b) cD λ(x:Int×Int×Unit)=>e ((x.1,x.2.1,()),false,()) w1))):=by kernel_rfl
def uq:Nat->a8:=(λ|4=>[(24,Go.RX.El.one (Go.RX.Sc.int DK))]| _=>[])
theorem R8 (p x:Option AC) (w:A2) (d:(Int×Int×Unit)×Bool×Unit->A2->Prop):(bV U2 uq 113 [ag p,ag x] w d)=(
 aM w ⟨[ay 0,aa 0]⟩ 61 λb a=>bH p 2 a λh=>cL x 12 a λi=> ∃e,af AA 161 [ag h,aa i] a (.bool e)/\aH (!e) (az a (ae b) [ay 0,aa 0] λa=>au a λw1=>aj w1 none (ae b) cD λ(x:Int×Int×Unit)=>d ((x.1,x.2.1,()),false,()) w1) (fe x 13 a λc=> ∃(I:Nat->Int×Unit->A2->Prop),(∃n, ∀w1,Ext a w1->I n (0,()) w1)/\ ∀(n:Nat) (s:Int×Unit) (w1:A2),I n s w1->aH (decide (s.1<(↑c.2.1:Int))) ((c.1.isSome=true/\0<=s.1
 /\s.1<(↑c.2.1:Int))/\aW w1 (ad c.1 (Fp s.1*1)) λx=>bH p 1 w1 λj=>aA AA 162 (.el aX) [ag j,aa x] w1 λ(x:Int) a=> ∀f,Ext a f-> ∃(g:Nat),g<n/\I g (aL .i64 s.1 1,()) f) (x.isSome=true/\x.isSome=true/\aj w1 none (ad x 10) cD λ(x:Int×Int×Unit)=>az w1 (ae b) [ay x.1,aa x.2.1] λa=>au a λw1=>aj w1 none (ae b) cD λ(x:Int×Int×Unit)=>d ((x.1,x.2.1,()),true,()) w1))):=by kernel_rfl
theorem HM (p x:Option AC) (w:A2) (e:Bool->A2->Prop):(aI U2 (λ_=>[]) 152 [ag p,ag x] w e)=(
 ∃(a:Int),af AA 199 [ag x] w (aa a)/\(decide (a>0)=true->p.isSome=true)/\(decide (a>0)=true->p.isSome=true)/\aj w (some (decide (a>0))) (ad p 0) lW λf=>(decide (a>0)=true->x.isSome=true)/\(decide (a>0)=true->x.isSome=true)/\aj w (some (decide (a>0))) (ad x 3) aX λ(g:Int)=> ∃b,(decide (a>0)=true->af AA 19 [ag f,aa g] w (.bool b))/\((decide (a>0)&&b)=true->x.isSome=true)/\((decide (a>0)&&b)=true->x.isSome=true)/\aj w
 (some (decide (a>0)&&b)) (ad x 4) wW λ(d:Int×Int×Int×Int×Unit)=> ∃c,((decide (a>0)&&b)=true->af AA 76 [.agg ⟨[aa d.1,ay d.2.1,ay d.2.2.1,ay d.2.2.2.1]⟩] w (.bool c))/\((decide (a>0)&&b&&c)=true->x.isSome=true)/\((decide (a>0)&&b&&c)=true->x.isSome=true)/\((decide (a>0)&&b&&c)=true->(ad x 4).isSome=true)/\aj w (some (decide (a>0)&&b&&c)) (ad (ad x 4) 1) ru λ(x:Int)=>au w (e (decide (a>0)&&b&&c&&decide
 (x<1048576)))):=by kernel_rfl
def oo:Nat->a8:=(λ|2=>[(12,Go.RX.El.one (Go.RX.Sc.int DK))]| _=>[])
theorem E' (p x:Option AC) (w:A2) (i:Bool->A2->Prop):(aI U2 oo 154 [ag p,ag x] w i)=(
 fe p 3 w λj=> ∃(I:Nat->Int×Unit->A2->Prop),(∃n, ∀w1,Ext w w1->I n (0,()) w1)/\ ∀(n:Nat) (s:Int×Unit) (w1:A2),I n s w1->aH (decide (s.1<(↑j.2.1:Int))) ((j.1.isSome=true/\0<=s.1/\s.1<(↑j.2.1:Int))/\gf w1 (ad j.1 (Fp s.1*1)) λa=>Xc w1 a x/\((!decide (a=x))=true->x.isSome=true)/\((!decide (a=x))=true->x.isSome=true)/\aj w1 (some !decide (a=x)) (ad x 3) aX λ(k:Int)=>aH (decide (a=x)||k != 0) (∀f,Ext w1 f-> ∃(g:Nat),g<n/\I g (aL .i64 s.1 1,
 ()) f) (x.isSome=true/\x.isSome=true/\(ad x 4).isSome=true/\aW w1 (ad (ad x 4) 0) λd=>((d==1)=true->a.isSome=true)/\((d==1)=true->a.isSome=true)/\aj w1 (some (d==1)) (ad a 2) aX λ(h:Int)=>((d==1&&h==4)=true->a.isSome=true)/\((d==1&&h==4)=true->a.isSome=true)/\((d==1&&h==4)=true->(ad a 4).isSome=true)/\aj w1 (some (d==1&&h==4)) (ad (ad a 4) 0) aX λ(l:Int)=>aH (d==1&&h==4&&l==2) (au w1 (i true)) (x.isSome=true/\
 x.isSome=true/\(ad x 4).isSome=true/\aW w1 (ad (ad x 4) 0) λb=>((b==2)=true->a.isSome=true)/\((b==2)=true->a.isSome=true)/\aj w1 (some (b==2)) (ad a 2) aX λ(c:Int)=>((b==2&&decide (c>=2))=true->a.isSome=true)/\((b==2&&decide (c>=2))=true->a.isSome=true)/\aj w1 (some (b==2&&decide (c>=2))) (ad a 3) aX λ(e:Int)=>((b==2&&decide (c>=2)&&decide (e>0))=true->a.isSome=true)/\((b==2&&decide (c>=2)&&decide (e>0))=true->a.isSome=true)/\
 aj w1 (some (b==2&&decide (c>=2)&&decide (e>0))) (ad a 3) aX λ(m:Int)=>((b==2&&decide (c>=2)&&decide (e>0))=true->x.isSome=true)/\((b==2&&decide (c>=2)&&decide (e>0))=true->x.isSome=true)/\((b==2&&decide (c>=2)&&decide (e>0))=true->(ad x 4).isSome=true)/\aj w1 (some (b==2&&decide (c>=2)&&decide (e>0))) (ad (ad x 4) 1) ru λ(x:Int)=>aH (b==2&&decide (c>=2)&&decide (e>0)&&aG .u64 m==x) (au w1 (i true)) (∀f,Ext w1 f-> ∃(g:Nat),g<n/\
 I g (aL .i64 s.1 1,()) f)))) (au w1 (i false))):=by kernel_rfl
def oq:Nat->a8:=(λ|4=>[(4,Go.RX.El.one Go.RX.Sc.slice),(15,Go.RX.El.one (Go.RX.Sc.int DK))]| _=>[])
theorem Fa (p:Option AC) (w:A2) (f:Option AC×Nat×Nat->A2->Prop):(aI U2 oq 156 [ag p] w f)=(
 bH p 0 w λx=>aA AA 18 (.el lW) [ag x] w λx a=> ∃(g:Int),af AA 62 [ag x] a (aa g)/\ ∃(I:Nat->(Option AC×Nat×Nat)×Int×Unit->A2->Prop),(∃n, ∀w1,Ext a w1->I n ((none,0,0),0,()) w1)/\ ∀(n:Nat) (s:(Option AC×Nat×Nat)×Int×Unit) (w1:A2),I n s w1->aH (decide (s.2.1<g)) (∃(c:(Int×Int×Int×Int×Unit)×Bool×Unit),af AA 25 [ag x,aa s.2.1] w1 (.tuple {toList:=[.agg ⟨[aa c.1.1,aa c.1.2.1,aa c.1.2.2.1,.int .i64
 c.1.2.2.2.1]⟩,.bool c.2.1]})/\aM w1 ⟨[aa 0,aa 0,aa 0,aa 0]⟩ 52 λb a=>az a (ae b) [aa c.1.1,aa c.1.2.1,aa c.1.2.2.1,aa c.1.2.2.2.1] λa=>true=true/\aW a (ad (ae b) 0) λx=>((x==5)=true->p.isSome=true)/\((x==5)=true->p.isSome=true)/\aj a (some (x==5)) (ad p 4) NX λj=> ∃h,((x==5)=true->jX a j .i64 s.2.1 (.bool false) (.bool h))/\aH (x==5&& !h) (sV p 4 a λx=> ∀w1,Ext a w1-> ∃(r:Nat), ∃(es:Array Ds), ∃(i:Nat),x
 =some r/\bG w1 r es i/\gU w1 r .i64 s.2.1 (.bool true) es i λa=>aM a ⟨[aa s.2.1]⟩ 3 λb a=> ∀w1,Ext a w1->mD w1 3 1 8 ⟨[aa 0]⟩ (s.1.1,s.1.2.1,s.1.2.2) (some ⟨b,0,none⟩,1,1) λ(r:Option AC×Nat×Nat) a=> ∀d,Ext a d-> ∃(e:Nat),e<n/\I e ((r.1,r.2.1,r.2.2),aL .i64 s.2.1 1,()) d) (∀d,Ext a d-> ∃(e:Nat),e<n/\I e ((s.1.1,s.1.2.1,s.1.2.2),aL .i64 s.2.1 1,()) d)) (au w1 (f (s.1.1,s.1.2.1,s.1.2.2)))):=by kernel_rfl
abbrev ur (b:(Int×Int×Unit)×Bool×Unit->A2->Prop) (c:A2) (a:Nat):Prop:=
 az c (ae a) [ay 0,aa 0] λd=>au d λw1=>aj w1 none (ae a) cD λ(x:Int×Int×Unit)=>b ((x.1,x.2.1,()),false,()) w1
abbrev nZ (a:(Int×Int×Unit)×Bool×Unit->A2->Prop) (b:A2) (c:Nat):Prop:=
 au b λw1=>aj w1 none (ae c) cD λ(x:Int×Int×Unit)=>a ((x.1,x.2.1,()),true,()) w1
abbrev uu (x:Option AC) (a:Int):Prop:=
 (a==0)=true->x.isSome=true
abbrev jh (x:Option AC) (c:(Int×Int×Unit)×Bool×Unit->A2->Prop) (a:A2) (b:Nat):Prop:=
 x.isSome=true/\x.isSome=true/\aj a none (ad x 10) cD λ(x:Int×Int×Unit)=>az a (ae b) [ay x.1,aa x.2.1] λd=>nZ c d b
abbrev uv (x:Option AC) (b:(Int×Int×Unit)×Bool×Unit->A2->Prop) (c:A2) (d:Int×Int×Unit) (e:Nat):Prop:=
 x.isSome=true/\x.isSome=true/\az c (ad x 12) [aa d.1] λa=>x.isSome=true/\x.isSome=true/\az a (ad x 2) [aa 4] λa=>ur b a e
abbrev n5 (p:Option AC) (x:Option AC) (c:(Int×Int×Unit)×Bool×Unit->A2->Prop) (b:A2) (d:Nat) (e:Int) (f:Int):Prop:=
 x.isSome=true/\x.isSome=true/\(ad x 10).isSome=true/\aW b (ad (ad x 10) 1) λg=>aH (g != 0) (jh x c b d) (aA AA 67 (.bA []) [ag x,aa e,aa (aG .i64 f)] b λk a=>bH p 2 a λh=>cL x 0 a λi=>aA AA 157 (.bA [.one (.int .i64),.one (.int .i64)]) [ag h,aa i,aa e,aa (aG .i64 f)] a λ(j:Int×Int×Unit) a=>uv x c a j d)
theorem My (p x:Option AC) (w:A2) (c:(Int×Int×Unit)×Bool×Unit->A2->Prop):(bV U2 (λ_=>[]) 110 [ag p,ag x] w c)=(
 aM w ⟨[ay 0,aa 0]⟩ 61 λb a=> ∃l,af AA 152 [ag p,ag x] a (.bool l)/\aH l (aA AA 153 (.bA []) [ag p,ag x] a λx a=>ur c a b) (∃m,af AA 154 [ag p,ag x] a (.bool m)/\aH m (az a (ae b) [ay 0,aa 9] λa=>nZ c a b) (cL x 3 a λe=>uu x e/\uu x e/\aj a (some (e==0)) (ad x 4) wW λ(f:Int×Int×Int×Int×Unit)=>aH (e==0&&(f.1==17&&(f.2.1==0&&(f.2.2.1==0&&
 (f.2.2.2.1==0&&true))))) (aA AA 151 (.el aX) [ag p] a λ(x:Int) a=>az a (ae b) [ay (aG .u64 x),aa 0] λa=>nZ c a b) (bH p 0 a λr=>cL x 3 a λs=>x.isSome=true/\x.isSome=true/\aj a none (ad x 4) wW λ(g:Int×Int×Int×Int×Unit)=>aA AA 42 (.el cD) [ag r,aa s,.agg ⟨[aa g.1,ay g.2.1,ay g.2.2.1,ay g.2.2.2.1]⟩] a λ(n:Int×Int×Unit) a=>x.isSome=true/\x.isSome=true/\az a (ad x 10) [ay n.1,
 aa n.2.1] λa=>cL x 3 a λt=>x.isSome=true/\x.isSome=true/\aj a none (ad x 4) wW λ(h:Int×Int×Int×Int×Unit)=>x.isSome=true/\x.isSome=true/\aj a none (ad x 10) cD λ(o:Int×Int×Unit)=>aA AA 155 (.bA []) [ag p,.agg {toList:=[aa 1,aa t,aa 0,aa h.1,ay h.2.1,ay h.2.2.1,ay h.2.2.2.1,ay o.1,aa o.2.1]}] a λA a=>aA AA 156 (.el fi) [ag p] a λi a=>x.isSome=true/\x.isSome=true/\
 az a (ad x 13) [.slice i.1 i.2.1 i.2.2] λa=>cL x 3 a λj=>x.isSome=true/\x.isSome=true/\(ad x 4).isSome=true/\cK a (ad (ad x 4) 1) λk=>x.isSome=true/\x.isSome=true/\(ad x 4).isSome=true/\aW a (ad (ad x 4) 0) λd=>aH (d==2) (x.isSome=true/\x.isSome=true/\(ad x 4).isSome=true/\cK a (ad (ad x 4) 1) λq=>x.isSome=true/\x.isSome=true/\(ad x 10).isSome=true/\aW a (ad (ad x 10) 1) λu=>aH (u != 0) (jh x c a b) (aA AA 67 (.bA []) [.pointer
 x,aa (aG .i64 q),aa (-1)] a λB a=>bH p 2 a λv=>cL x 0 a λy=>aA AA 157 (.bA [.one (.int .i64),.one (.int .i64)]) [ag v,aa y,aa (aG .i64 q),aa (-1)] a λ(z:Int×Int×Unit) a=>uv x c a z b)) (aH (d==4) (aH (d==4) (n5 p x c a b j k) (jh x c a b)) (aH (d==5) (aH (d==5) (n5 p x c a b j k) (jh x c a b)) (aH (d==10) (n5 p x c a b j k) (jh x c a
 b)))))))):=by kernel_rfl
theorem R9 (p x:Option AC) (w:A2) (c:Unit->A2->Prop):(aI U2 (λ_=>[]) 153 [ag p,ag x] w c)=(
 bH p 1 w λi=>cL x 0 w λj=>aA AA 200 (.el aX) [ag i,aa j] w λ(q:Int) a=>bH x 1 a λk=>cL x 3 a λl=> ∃(d:Int),af AA 160 [ag x] a (aa d)/\ ∃(e:Int),af AA 199 [ag x] a (aa e)/\ ∃(b:Int×Int×Unit),af AA 201 [ag k,aa l,aa d,aa e] a (.tuple ⟨[aa b.1,aa b.2.1]⟩)/\aH (b.2.1==0) (x.isSome=true/\x.isSome=true/\az a (ad x 2) [aa 3] λa=>x.isSome=true/\
 x.isSome=true/\az a (ad x 9) [aa b.1] λa=>au a (c ())) (bH p 0 a λm=>cL x 3 a λn=> ∃(f:Int),af AA 21 [ag m,aa n] a (aa f)/\ ∃(g:Int),af AA 160 [ag x] a (aa g)/\ ∃(h:Int),af AA 199 [ag x] a (aa h)/\aA AA 20 (.el lW) [aa f,aa g,aa h] a λo a=>x.isSome=true/\x.isSome=true/\az a (ad x 2) [aa 2] λa=>x.isSome=true/\x.isSome=true/\az a (ad x 8)
 [ag o] λa=>au a (c ()))):=by kernel_rfl
theorem Mz (p:Option AC) (n:Int) (w:A2) (a:Int->A2->Prop):(aI U2 (λ_=>[]) 49 [ag p,aa n] w a)=(
 ∃(x:Option AC),af AA 64 [ag p,aa n] w (ag x)/\aH x.isNone (au w (a 0)) (cL x 2 w λx=>au w (a x))):=by kernel_rfl
theorem MC (p:Option AC) (w:A2) (a:Option AC×Nat×Nat->A2->Prop):(aI U2 (λ_=>[]) 41 [ag p] w a)=(
 aH p.isNone (au w (a (none,0,0))) (fe p 5 w λx=> ∀w1,Ext w w1->mD w1 86 9 72 ⟨[aa 0,aa 0,aa 0,aa 0,ay 0,ay 0,ay 0,ay 0,aa 0]⟩ (none,0,0) (x.1,x.2.1,x.2.2) λ(r:Option AC×Nat×Nat) b=>au b (a (r.1,r.2.1,r.2.2)))):=by kernel_rfl
theorem MD (p:Option AC) (n:Int) (w:A2) (a:Option AC×Nat×Nat->A2->Prop):(aI U2 (λ_=>[]) 51 [ag p,aa n] w a)=(
 ∃(x:Option AC),af AA 64 [ag p,aa n] w (ag x)/\aH x.isNone (au w (a (none,0,0))) (bH x 1 w λx=>aA AA 83 (.el fi) [ag x] w λx b=>au b (a (x.1,x.2.1,x.2.2)))):=by kernel_rfl
theorem R_ (p:Option AC) (n:Int) (w:A2) (a:Int->A2->Prop):(aI U2 (λ_=>[]) 50 [ag p,aa n] w a)=(
 ∃(x:Option AC),af AA 64 [ag p,aa n] w (ag x)/\aH x.isNone (au w (a 0)) (bH p 2 w λx=> ∃(b:Int),af AA 82 [ag x,aa n] w (aa b)/\au w (a b))):=by kernel_rfl
theorem ME (p:Option AC) (w:A2) (a:Option AC->A2->Prop):(aI U2 (λ_=>[]) 17 [ag p] w a)=(
 aH p.isNone (au w (a none)) (bH p 0 w λx=>au w (a x))):=by kernel_rfl
theorem Fb (p:Option AC) (w:A2) (a:Option AC×Nat×Nat->A2->Prop):(aI U2 (λ_=>[]) 32 [ag p] w a)=(
 aH p.isNone (au w (a (none,0,0))) (bH p 1 w λx=>aA AA 69 (.el fi) [ag x] w λx b=>au b (a (x.1,x.2.1,x.2.2)))):=by kernel_rfl
def wC:Nat->a8:=(λ|10=>[(45,Go.RX.El.one (Go.RX.Sc.int DK))]| _=>[])
theorem VJ (f c l:Int) (w:A2) (d:Option AC×Int×Unit->A2->Prop):(aI U2 wC 52 [aa f,aa c,aa l] w d)=(
 aA AA 40 (.bA [.one .ptr,.one (.int .i64)]) [aa f] w λ(x:Option AC×Int×Unit) a=>aH (x.2.1 != 0) (au a (d (none,x.2.1,()))) (aA AA 84 (.bA [.one .ptr,.one (.int .i64)]) [aa c] a λ(e:Option AC×Int×Unit) a=>aH (e.2.1 != 0) (au a (d (none,e.2.1,()))) (∀w1,Ext a w1->aM (w1.alloc (Obj.map ⟨[]⟩ 0)) ⟨[ag x.1,ag e.1,ag none,.slice none 0 0,.map (some w1.heap.size),.slice none 0 0]⟩ 103 λb a=>aA AA 85 (.bA [.one .ptr,.one (.int .i64)]) [aa c] a λ(x:
 Option AC×Int×Unit) a=>true=true/\true=true/\az a (ad (ae b) 2) [ag x.1] λa=> ∃(I:Nat->Int×Unit->A2->Prop),(∃n, ∀w1,Ext a w1->I n (0,()) w1)/\ ∀(n:Nat) (s:Int×Unit) (w1:A2),I n s w1->aH (decide (s.1<c)) (aA AA 86 (.bA [.one .ptr,.one (.int .i64)]) [aa l] w1 λ(x:Option AC×Int×Unit) a=>aH (x.2.1 != 0) (au a (d (none,x.2.1,()))) (true=true/\true=true/\sU a (ad (ae b) 3) λg=>aM a {toList:=[aa s.1,ag x.1,aa 0,aa 0,aa 0,
 ay 0,ay 0,ay 0,ag none,aa 0,ay 0,aa 0,aa 0,.slice none 0 0]} 143 λj a=>aM a {toList:=[ag (ae j)]} 139 λk a=> ∀w1,Ext a w1->mD w1 139 1 8 ⟨[ag none]⟩ (g.1,g.2.1,g.2.2) (some ⟨k,0,none⟩,1,1) λ(r:Option AC×Nat×Nat) a=>true=true/\true=true/\az a (ad (ae b) 3) [.slice r.1 r.2.1 r.2.2] λa=> ∀h,Ext a h-> ∃(i:Nat),i<n/\I i (aL .i64 s.1 1,()) h)) (au w1 (d (some ⟨b,0,none⟩,0,())))))):=by kernel_rfl
end Go.Proofs.YtlcenllcmeebhaaGreat.Mu
namespace Go.Proofs.YtlcenllcmeebhaaGreat
set_option maxRecDepth 100000
open Go.RX D
namespace Inv
variable {g:Gh} {s s':WD}
structure e_ (g:Gh) (s s':WD):Prop where
 len:s'.1.length=s.1.length/\s'.2.length=s.2.length
 ws: ∀{f o x k:Int} {l:Nat},g f=some (o,l,x)->0<=k->k<16->dv s'.1 (16*f+k)=dv s.1 (16*f+k)
 tb: ∀{n:Nat} {d:DT},s.2[n]? =some d->d.1=3->s'.2[n]? =some d
 bt: ∀{n:Nat} {d:DT},s'.2[n]? =some d->d.1=3->s.2[n]? =some d
 fz: ∀d∈s'.2,d.1=0->d=zD
theorem e_.XP (B:e_ g s s') {f o x k:Int} {l:Nat} (h:g f=some (o,l,x)) (h0:0<=k) (h1:k<16):aK s'.1 (16*f+k)=aK s.1 (16*f+k):=by
 unfold aK;rw[B.ws h h0 h1]
theorem beside (I:Inv g s) (B:e_ g s s'):Inv g s' where
 len:=by rw[B.len.1,B.len.2];exact I.len
 le:=by rw[B.len.2];exact I.le
 fz:=B.fz
 kd:=λ{f o l x} h=>by
  obtain⟨a,b,c,d⟩:=I.kd h;rw[B.len.2];exact⟨a,b,B.tb c rfl,d⟩
 inj:=I.inj
 si:=λ{f o l x i} h h0 h1 e=>by
  rw[B.XP h h0 h1] at e ⊢;exact I.si h h0 h1 e
 leaf:=λ{f o l x i} h h0 h1=>by
  rw[B.XP h h0 h1];exact I.leaf h h0 h1
 Fl:=λ{f o l x} h m=>by
  obtain⟨f',h1,p⟩:=I.Fl h m;refine⟨f',h1,?_⟩;rw[B.XP h1 (by omega) (by omega)];exact p
 wf:=λ{f o l x i} h h0 h1 j=>by
  rw[B.XP h h0 h1] at j;rw[B.ws h h0 h1];exact I.wf h h0 h1 j
 tb:=λ{n d} h k=>I.tb (B.bt h k) k
theorem HN (B:e_ g s s') {o p f:Int} {j:Nat} (h:dz g s o p f j):dz g s' o p f j:=
 ⟨h.1,by rw[B.XP h.1 (ee p j).1 (ee p j).2];exact h.2⟩
theorem xL {r p:Int} (a: ¬ (0<=p/\p<65536)):bu s r false p=(0,0,2,()):=by
 unfold bu;rw[ao (by decide),av (by omega)]
theorem dC (I:Inv g s) (B:e_ g s s') {o r:Int} (b:g r=some (o,3,0)) (p:Int):bu s' r false p=bu s r false p:=by
 by_cases a:0<=p/\p<65536
 ·obtain⟨f,j, _,c⟩:=I.lE b a;rw[I.ft b a c,(I.beside B).ft b a (HN B c),B.XP c.1 (ee p j).1 (ee p j).2]
 ·rw[xL a,xL a]
theorem na (B:e_ g s s') (h:z_ g s):z_ g s':=λf o l x i a h0 h1 b c=>by
 rw[B.XP a h0 h1] at b c;exact h a h0 h1 b c
theorem ZE (s:WD) (r:Int) {p:Int} (a:0<=p/\p<65536):(bu s r false p).2.2.1=0\/bu s r false p=(0,0,4,()):=by
 unfold bu;rw[ao (by decide),ao (by omega)];split
 ·exact .inl rfl
 ·exact .inr rfl
theorem aay (I:Inv g s) (nl:z_ g s) {o r p:Int} (b:g r=some (o,3,0)) (c:0<=p/\p<65536) (h:(bu s r false p).2.2.1=0): ∃f,dz g s o p f 0/\(aK s.1 (16*f+px 0 p % 16)).1=true/\(dD s.1 r p).2.1=0:=by
 obtain⟨f,j, _,a⟩:=I.lE b c;rw[I.ft b c a] at h;have d:=Cy h;have e:=nl a.1 (ee p j).1 (ee p j).2 d a.2;subst e;refine⟨f,a,d,?_⟩;rw[(I.mh b c a).1];rfl
theorem acg (I:Inv g s) (nl:z_ g s) {o r p:Int} (a:g r=some (o,3,0)) (b:0<=p/\p<65536) (h:(bu s r false p).2.2.1=0):mn s o r p=0:=by
 obtain⟨_, _, _,e⟩:=I.aay nl a b h;unfold mn;rw[av e]
theorem aaz (I:Inv g s) (nl:z_ g s) {o r p:Int} (a:g r=some (o,3,0)) (b:0<=p/\p<65536) (h:(bu s r false p).2.2.1=0):BZ s o r false p=0:=by
 unfold BZ;rw[av h];exact I.acg nl a b h
theorem Pj (I:Inv g s) {o r p:Int} (c:g r=some (o,3,0)) (h:(bu s r false p).2.2.1=0):(0<=p/\p<65536)/\0<=(bu s r false p).1:=by
 have a:0<=p/\p<65536:=by
  by_cases a:0<=p/\p<65536
  ·exact a
  ·rw[xL a] at h;exact absurd h (by decide)
 refine⟨a,?_⟩;obtain⟨f,j, _,i⟩:=I.lE c a;rw[I.ft c a i] at h ⊢;have b:=Cy h;have d:=lK s.1 (16*f+px j p % 16);unfold lY;rw[av b];generalize aK s.1 (16*f+px j p % 16)=e at*
 obtain⟨ep,er,el,ef,k⟩:=e;dsimp only at b d;subst b;obtain⟨l,m,n,q,t⟩:=mi.1 d;dsimp only;split<;>omega
end Inv
set_option maxRecDepth 100000
open Go.RX D
def ll {α:Type} (F:Nat->α) (v:Nat) (y:α):Nat->α:=λi=>if i=v then y else F i
theorem kW {α:Type} (F:Nat->α) (v:Nat) (y:α):ll F v y v=y:=av rfl
theorem nN {α:Type} {F:Nat->α} {v i:Nat} (h:i≠v) (y:α):ll F v y i=F i:=ao h
theorem CB (F:Nat->Nat) (v y:Nat): ∀n,((B5 n).map (ll F v y)).sum+(if v<n then F v else 0)=((B5 n).map F).sum+(if v<n then y else 0)
 |0=>rfl
 |n+1=>by
  have b:=CB F v y n;rw[List.range_succ,Fu,Fu,Fv,Fv];simp only[CX,List.map_nil,FM,List.sum_nil];by_cases h:v=n
  ·subst h;rw[kW];rw[ao (Nat.lt_irrefl _),ao (Nat.lt_irrefl _)] at b;rw[av (Gj _),av (Gj _)];omega
  ·rw[nN (λe=>h e.symm)];by_cases a:v<n
   ·rw[av a,av a] at b;rw[av (by omega),av (by omega)];omega
   ·rw[ao a,ao a] at b;rw[ao (by omega),ao (by omega)];omega
def nv (tk:Nat->List TK) (q:TK->Bool):Nat:=((B5 17).map λi=>(tk i).countP q).sum
theorem zd (tk:Nat->List TK) (q:TK->Bool) {v:Nat} (hv:v<17) (y:List TK):nv (ll tk v y) q+(tk v).countP q=nv tk q+y.countP q:=by
 have h:=CB (λi=>(tk i).countP q) v (y.countP q) 17;rw[av hv,av hv] at h;have e:(λi=>(ll tk v y i).countP q)=ll (λi=>(tk i).countP q) v (y.countP q):=by
  funext i;unfold ll;split<;>rfl
 unfold nv;rw[e];exact h
theorem ze {tk:Nat->List TK} {q:TK->Bool} (h:0<nv tk q): ∃i t,i<17/\t∈tk i/\q t=true:=by
 unfold nv at h;have: ∀l:List Nat,0<(l.map λi=>(tk i).countP q).sum-> ∃i t,i∈l/\t∈tk i/\q t=true:=by
  intro l
  induction l with
  |nil=>intro h;simp at h
  |cons i l b=>
   intro h;rw[CX,FM] at h;by_cases h1:0<(tk i).countP q
   ·obtain⟨t,a,c⟩:=Dz.1 h1;exact⟨i,t,BI,a,c⟩
   ·obtain⟨j,t,d,a⟩:=b (by omega);exact⟨j,t,BQ _ d,a⟩
 obtain⟨i,t,hi,a⟩:=this _ h;exact⟨i,t,Dd.1 hi,a⟩
theorem Bu {tk:Nat->List TK} {q:TK->Bool} (h: ∀i t,t∈tk i->q t=false):nv tk q=0:=by
 rcases C9 (nv tk q) with e|e
 ·exact e
 ·obtain⟨i,t, _,b,a⟩:=ze e;rw[h i t b] at a;cases a
theorem nO {tk:Nat->List TK} {q:TK->Bool} {i:Nat} {t:TK} (hi:i<17) (a:t∈tk i) (b:q t=true):0<nv tk q:=by
 have h:=zd tk q hi [];have c:0<(tk i).countP q:=Dz.2 ⟨t,a,b⟩;simp only[List.countP_nil] at h;omega
def eo (tk:Nat->List TK) (f:Int):Nat:=nv tk λt=>t.2.2==f
def mS (tk:Nat->List TK) (a:Int):Nat:=nv tk λt=>t.2.1==a
abbrev Ih:Type:=Nat->Int->Option Int
def ny (fr:Ih) (v:Nat) (p:Int) (y:Option Int):Ih:=λi q=>if i=v/\q=p then y else fr i q
theorem fJ (fr:Ih) (v:Nat) (p:Int) (y:Option Int):ny fr v p y v p=y:=av ⟨rfl,rfl⟩
theorem bI {fr:Ih} {v i:Nat} {p q:Int} (h: ¬ (i=v/\q=p)) (y:Option Int):ny fr v p y i q=fr i q:=ao h
def Tz (gr:List GT) (fr:Ih) (tk:Nat->List TK) (a:Int) (i o:Nat) (f:Int):Prop:=
 ∃k x,l6 gr a=some k/\gr[k]? =some x/\x.1=(o:Int)/\x.2.2.1=(i:Int)/\fr o x.2.1=some f/\cm (tk o) x.2.1=none
structure HC (fr:Ih) (tk:Nat->List TK) (ds:List DT) (gr:List GT):Prop where
 jl: ∀{i p f},fr i p=some f->1<=i/\i<=16/\0<=p/\p<65536
 kd: ∀{n:Nat} {d:DT},ds[n]? =some d->(d.1=0\/d.1=3\/d.1=4\/d.1=5)/\d.2.2.2.1=0/\0<=d.2.1/\d.2.1<=16
 Te: ∀{n:Nat} {d:DT},ds[n]? =some d->d.1=4-> ∃(i:Nat) (p:Int),(i:Int)=d.2.1/\fr i p=some (n:Int)/\cm (tk i) p=none
 own: ∀{i p f},fr i p=some f->cm (tk i) p=none-> ∃(n:Nat) (d:DT),(n:Int)=f/\ds[n]? =some d/\d.1=4/\d.2.1=(i:Int)
 C4: ∀{i p a f},cm (tk i) p=some (a,f)->fr i p=some f/\ ∃o:Nat,o≠i/\Tz gr fr tk a i o f
 nd: ∀i,((tk i).map (·.1)).Nodup
 inj: ∀{i p p' f},fr i p=some f->fr i p'=some f->cm (tk i) p=none->cm (tk i) p'=none->p=p'
 refs: ∀{n:Nat} {d:DT},ds[n]? =some d->d.2.2.1=(eo tk (n:Int):Int)
 uT: ∀{n:Nat} {x:GT},gr[n]? =some x->x.2.2.2.2.1=(mS tk (n:Int):Int)
 gl:gr.length=16
 gk:n7 gr
theorem fv {gr:List GT} {a:Int} {k:Nat}:l6 gr a=some k<->(k:Int)=a/\k<gr.length/\gr.getD k zG≠zG:=by
 unfold l6;constructor
 ·intro h;split at h
  ·rename_i c;cases h;exact⟨by omega,by omega,c.2.2⟩
  ·cases h
 ·rintro⟨rfl,h1,b⟩;rw[av ⟨by omega,by omega,b⟩];rfl
theorem getD_some {gr:List GT} {k:Nat} {x:GT} (h:gr[k]? =some x):gr.getD k zG=x:=by
 rw[Ay,h];rfl
namespace HC
variable {fr:Ih} {tk:Nat->List TK} {ds:List DT} {gr:List GT}
theorem N_ (H:HC fr tk ds gr) {i:Nat} {t:TK} (h:t∈tk i):cm (tk i) t.1=some t.2:=(jQ (a:=t.2.1) (b:=t.2.2) (H.nd i)).2 h
theorem Kc (H:HC fr tk ds gr) {i:Nat} {p a f:Int} (h:cm (tk i) p=some (a,f)):(p,a,f)∈tk i:=(jQ (H.nd i)).1 h
theorem aaA (H:HC fr tk ds gr) {i:Nat} {p a f:Int} (h:cm (tk i) p=some (a,f)): ∃(n:Nat) (d:DT) (o:Nat),(n:Int)=f/\ds[n]? =some d/\d.1=4/\d.2.1=(o:Int)/\o≠i/\Tz gr fr tk a i o f:=by
 obtain⟨_,o,e,g⟩:=H.C4 h;obtain⟨k,x,h1,j,l,m,b,c⟩:=g;obtain⟨n,d,q,r,s,t⟩:=H.own b c;exact⟨n,d,o,q,r,s,t,e,k,x,h1,j,l,m,b,c⟩
theorem at4 (H:HC fr tk ds gr) {i:Nat} {p f:Int} (h:fr i p=some f): ∃(n:Nat) (d:DT),(n:Int)=f/\ds[n]? =some d/\d.1=4:=by
 cases b:cm (tk i) p with
 |none=>
  obtain⟨n,d,h1,c,e, _⟩:=H.own h b;exact⟨n,d,h1,c,e⟩
 |some y=>
  obtain⟨a,f'⟩:=y;obtain⟨n,d,o,h1,c,e, _⟩:=H.aaA b;have:=(H.C4 b).1;rw[h] at this;cases this;exact⟨n,d,h1,c,e⟩
theorem IB (H:HC fr tk ds gr) {n:Nat} (h:0<eo tk (n:Int)): ∃d,ds[n]? =some d/\d.1=4:=by
 obtain⟨i,t, _,a,b⟩:=ze h;obtain⟨m,d,o,h1,c,f, _⟩:=H.aaA (H.N_ a);have g:t.2.2=(n:Int):=by simpa using b
 have e:m=n:=B8 (h1.trans g);subst e;exact⟨d,c,f⟩
theorem Gp (H:HC fr tk ds gr) {g:List DT} (k: ∀{n:Nat} {d:DT},ds[n]? =some d->d.1=4->g[n]? =some d) (j: ∀{n:Nat} {d:DT},g[n]? =some d->ds[n]? =some d\/((d.1=0\/d.1=3\/d.1=5)/\d.2.2=(0,0,())/\0<=d.2.1/\d.2.1<=16)):HC fr tk g gr:=by
 have l: ∀{n:Nat} {d:DT},g[n]? =some d->(d.1=0\/d.1=3\/d.1=5)->eo tk (n:Int)=0:=λ{n d} h a=>by
  rcases C9 (eo tk (n:Int)) with e|e
  ·exact e
  ·obtain⟨d',b,c⟩:=H.IB e;have:=k b c;rw[h] at this;cases this;omega
 refine⟨H.jl,λ{n d} h=>?_,λ{n d} h c=>?_,λ{i p f} h m=>?_,H.C4,H.nd,H.inj,λ{n d} h=>?_,H.uT,H.gl,H.gk⟩
 ·rcases j h with h1|⟨h1,a,b⟩
  ·exact H.kd h1
  ·exact⟨by omega,by rw[a],b⟩
 ·rcases j h with h1|⟨h1,a⟩
  ·exact H.Te h1 c
  ·omega
 ·obtain⟨n,d,h1,a,b,c⟩:=H.own h m;exact⟨n,d,h1,k a b,b,c⟩
 ·rcases j h with h1|⟨h1,a, _⟩
  ·exact H.refs h1
  ·rw[l h h1,a];rfl
theorem Pl (H:HC fr tk ds gr) {z4:List GT} (d:z4.length=gr.length) (m:n7 z4) (r: ∀{n:Nat} {x y:GT},gr[n]? =some x->z4[n]? =some y->y.2.2.2.2.1=x.2.2.2.2.1) (e: ∀{n:Nat} {x:GT},gr[n]? =some x->x.2.2.2.2.1>0->z4[n]? =some x):HC fr tk ds z4:=by
 refine⟨H.jl,H.kd,H.Te,H.own,λ{i p a f} h=>?_,H.nd,H.inj,H.refs,λ{n y} h=>?_,d.trans H.gl,m⟩
 ·obtain⟨h1,o,s,k,x,g,b,u⟩:=H.C4 h;refine⟨h1,o,s,k,x,?_,?_,u⟩
  ·obtain⟨c,z,j⟩:=fv.1 g;refine fv.2 ⟨c,by omega,?_⟩;have v:x.2.2.2.2.1>0:=by
    rw[H.uT b];have:=nO (q:=λt=>t.2.1==(k:Int)) (by have:=H.jl h1;omega:i<17) (H.Kc h) (by simp[c]);unfold mS;omega
   rw[getD_some (e b v)];rw[getD_some b] at j;exact j
  ·refine e b ?_;obtain⟨c, _⟩:=fv.1 g;rw[H.uT b];have:=nO (q:=λt=>t.2.1==(k:Int)) (by have:=H.jl h1;omega:i<17) (H.Kc h) (by simp[c]);unfold mS;omega
 ·have w:n<gr.length:=by rw[<-d];exact(Ak.1 h).1
  have l:gr[n]? =some gr[n]:=B6 w;rw[r l h];exact H.uT l
end HC
set_option maxRecDepth 100000
open Go.RX D
theorem nb (t:TK) (l:List TK) (p:Int):cm (t::l) p=if t.1=p then some t.2 else cm l p:=by
 unfold cm;rw[List.find?_cons];by_cases e:t.1=p
 ·rw[av e,show(t.1==p)=true by simpa using e];rfl
 ·rw[ao e,show(t.1==p)=false by simpa using e]
theorem MF {l l':List TK} (h:l.Perm l') (nd:(l.map (·.1)).Nodup) (p:Int):cm l p=cm l' p:=by
 have c:(l'.map (·.1)).Nodup:=(h.map _).nodup_iff.1 nd;cases h1:cm l p with
 |some x=>
  have:=(jQ (a:=x.1) (b:=x.2) nd).1 h1;exact((jQ (a:=x.1) (b:=x.2) c).2 (h.mem_iff.1 this)).symm
 |none=>
  symm;rw[qg] at h1 ⊢;exact λt d=>h1 t (h.mem_iff.2 d)
theorem Pm {t:TK} {l:List TK} (a:cm l t.1=none) (nd:(l.map (·.1)).Nodup):((mI t l).map (·.1)).Nodup:=by
 refine((m_ t l).map _).nodup_iff.2 (Bx.2 ⟨λb=>?_,nd⟩);obtain⟨x,c,e⟩:=B1.1 b;exact qg.1 a x c e
theorem Sa {t:TK} {l:List TK} (a:cm l t.1=none) (nd:(l.map (·.1)).Nodup) (p:Int):cm (mI t l) p=if t.1=p then some t.2 else cm l p:=by
 rw[MF (m_ t l) (Pm a nd),nb]
theorem MH (l:List TK) (b p:Int):cm (l.filter λt=> !(t.1==b)) p=if p=b then none else cm l p:=by
 induction l with
 |nil=>unfold cm;simp
 |cons t l c=>
  rw[G1];by_cases e:t.1=b
  ·rw[ao (by simp[e]),c,nb];by_cases a:p=b
   ·rw[av a,av a]
   ·rw[ao a,ao a,ao (λh=>a (h.symm.trans e))]
  ·rw[av (by simpa using e),nb,nb,c];by_cases a:t.1=p
   ·rw[av a,av a,ao (λh=>e (a.trans h))]
   ·rw[ao a,ao a]
theorem Bv {l:List TK} {b:Int} {x:Int×Int} (nd:(l.map (·.1)).Nodup) (h:cm l b=some x):l.Perm ((b,x)::l.filter λt=> !(t.1==b)):=by
 induction l with
 |nil=>unfold cm at h;simp at h
 |cons t l a=>
  rw[CX,Bx] at nd;rw[nb] at h;rw[G1];by_cases e:t.1=b
  ·rw[av e] at h;cases h;rw[ao (by simp[e])];have c:l.filter (λt=> !(t.1==b))=l:=GD.2 λu d=>by
    have:u.1≠b:=λf=>nd.1 (B1.2 ⟨u,d,f.trans e.symm⟩);simpa using this
   rw[c, <-e]
  ·rw[ao e] at h;rw[av (by simpa using e)];exact((a nd.2 h).cons t).trans (.swap _ _ _)
theorem VK (q:TK->Bool) (t:TK) (l:List TK):(mI t l).countP q=l.countP q+(if q t=true then 1 else 0):=by
 rw[(m_ t l).countP_eq,E4]
theorem Sb {l:List TK} {b:Int} {x:Int×Int} (nd:(l.map (·.1)).Nodup) (h:cm l b=some x) (q:TK->Bool):l.countP q=(l.filter λt=> !(t.1==b)).countP q+(if q (b,x)=true then 1 else 0):=by
 rw[(Bv nd h).countP_eq,E4]
theorem VL {l:List TK} (b:Int) (nd:(l.map (·.1)).Nodup):((l.filter λt=> !(t.1==b)).map (·.1)).Nodup:=(DA.map _).nodup nd
theorem CC {gr:List GT} {k j:Nat} {x y:GT} {a:Int} (f:gr[k]? =some x) (c:y≠zG) (h:l6 gr a=some j):l6 (gr.set k y) a=some j:=by
 obtain⟨h1,b,d⟩:=fv.1 h;refine fv.2 ⟨h1,by rw[Av];exact b,?_⟩;rw[Ay];by_cases e:k=j
 ·subst e;rw[Al b];exact c
 ·rw[AN e, <-Ay];exact d
theorem xM {gr:List GT} (a:n7 gr) {k:Nat} {x:GT} (b:gr[k]? =some x) (c:x≠zG) (n:Int):fl x n≠zG:=λe=>by
 rcases(a x (B4 b)).1 with h|⟨h, _⟩
 ·exact c h
 ·have:(fl x n).1=zG.1:=congrArg (·.1) e;have:x.1=0:=this;omega
namespace HC
variable {fr:Ih} {tk:Nat->List TK} {ds:List DT} {gr:List GT}
theorem YA (H:HC fr tk ds gr) {i:Nat} {p:Int} (h:fr i p=none):cm (tk i) p=none:=by
 cases b:cm (tk i) p with
 |none=>rfl
 |some y=>
  have:=(H.C4 (a:=y.1) (f:=y.2) b).1;rw[h] at this;cases this
theorem Gq (H:HC fr tk ds gr) {v n:Nat} {a:Int} {d0:DT} (hv:1<=v/\v<=16) (A:0<=a/\a<65536) (u:ds[n]? =some d0) (h0:d0.1=0) (w:fr v a=none):
 HC (ny fr v a (some (n:Int))) tk (ds.set n (4,(v:Int),0,0,())) gr:=by
 have q:n<ds.length:=(Ak.1 u).1;have r: ∀{d},ds[n]? =some d->d.1=4->False:=λ{d} h l=>by rw[u] at h;cases h;omega
 have B:eo tk (n:Int)=0:=by
  rcases C9 (eo tk (n:Int)) with e|e
  ·exact e
  ·obtain⟨d,h1,g⟩:=H.IB e;exact(r h1 g).elim
 have s: ∀{i p f},fr i p=some f-> ¬ (i=v/\p=a):=λ{i p f} h e=>by rw[e.1,e.2,w] at h;cases h
 have y: ∀{i p},fr i p=some (n:Int)->False:=λ{i p} h=>by
  obtain⟨m,d,h1,g,j⟩:=H.at4 h;have:m=n:=B8 h1;subst this;exact r g j
 refine⟨λ{i p f} h=>?_,λ{m d} h=>?_,λ{m d} h l=>?_,λ{i p f} h t=>?_,λ{i p b f} h=>?_,H.nd,λ{i p p' f} h h' t C=>?_,λ{m d} h=>?_,H.uT,H.gl,H.gk⟩
 ·by_cases e:i=v/\p=a
  ·obtain⟨rfl,rfl⟩:=e;exact⟨hv.1,hv.2,A⟩
  ·rw[bI e] at h;exact H.jl h
 ·by_cases e:n=m
  ·subst e;rw[Al q] at h;cases h;exact⟨.inr (.inr (.inl rfl)),rfl,by show 0<=(v:Int);omega,by show(v:Int)<=16;omega⟩
  ·rw[AN e] at h;exact H.kd h
 ·by_cases e:n=m
  ·subst e;rw[Al q] at h;cases h;exact⟨v,a,rfl,fJ _ _ _ _,H.YA w⟩
  ·rw[AN e] at h;obtain⟨i,p,h1,g,j⟩:=H.Te h l;exact⟨i,p,h1,by rw[bI (s g)];exact g,j⟩
 ·by_cases e:i=v/\p=a
  ·obtain⟨rfl,rfl⟩:=e;rw[fJ] at h;cases h;exact⟨n, _,rfl,Al q,rfl,rfl⟩
  ·rw[bI e] at h;obtain⟨m,d,h1,g,j,l⟩:=H.own h t;refine⟨m,d,h1,?_,j,l⟩;rw[AN (λe=>by subst e;exact r g j)];exact g
 ·obtain⟨h1,o,g,k,x,j,l,D,E,z,F⟩:=H.C4 h;exact⟨by rw[bI (s h1)];exact h1,o,g,k,x,j,l,D,E,by rw[bI (s z)];exact z,F⟩
 ·by_cases e:i=v/\p=a
  ·obtain⟨rfl,rfl⟩:=e;rw[fJ] at h;cases h;by_cases e':p'=p
   ·exact e'.symm
   ·rw[bI (λc=>e' c.2)] at h';exact(y h').elim
  ·rw[bI e] at h;by_cases e':i=v/\p'=a
   ·obtain⟨rfl,rfl⟩:=e';rw[fJ] at h';cases h';exact(y h).elim
   ·rw[bI e'] at h';exact H.inj h h' t C
 ·by_cases e:n=m
  ·subst e;rw[Al q] at h;cases h;rw[B];rfl
  ·rw[AN e] at h;exact H.refs h
theorem CD (H:HC fr tk ds gr) {v n:Nat} {a o:Int} (E:0<=o/\o<=16) (s:fr v a=some (n:Int)) (w:cm (tk v) a=none) (B:eo tk (n:Int)=0):
 HC (ny fr v a none) tk (ds.set n (5,o,0,0,())) gr:=by
 obtain⟨j,d0,y,C,M,F⟩:=H.own s w;have y:j=n:=B8 y;subst y;have z:j<ds.length:=(Ak.1 C).1;have G: ∀{i p b f},cm (tk i) p=some (b,f)->f≠(j:Int):=λ{i p b f} h e=>by
  have N:=H.jl (H.C4 h).1;have:=nO (q:=λt=>t.2.2==(j:Int)) (by omega:i<17) (H.Kc h) (by simp[e]);unfold eo at B;omega
 refine⟨λ{i p f} h=>?_,λ{m d} h=>?_,λ{m d} h k4=>?_,λ{i p f} h u=>?_,λ{i p b f} h=>?_,H.nd,λ{i p p' f} h h' u I=>?_,λ{m d} h=>?_,H.uT,H.gl,H.gk⟩
 ·by_cases e:i=v/\p=a
  ·obtain⟨rfl,rfl⟩:=e;rw[fJ] at h;cases h
  ·rw[bI e] at h;exact H.jl h
 ·by_cases e:j=m
  ·subst e;rw[Al z] at h;cases h;exact⟨.inr (.inr (.inr rfl)),rfl,E⟩
  ·rw[AN e] at h;exact H.kd h
 ·by_cases e:j=m
  ·subst e;rw[Al z] at h;cases h;exact absurd k4 (show ¬ (5:Int)=4 by decide)
  ·rw[AN e] at h;obtain⟨i,p,h1,g,l⟩:=H.Te h k4;refine⟨i,p,h1,?_,l⟩;rw[bI (λc=>?_)]
   ·exact g
   ·rw[c.1,c.2,s] at g;cases g;exact e rfl
 ·by_cases e:i=v/\p=a
  ·obtain⟨rfl,rfl⟩:=e;rw[fJ] at h;cases h
  ·rw[bI e] at h;obtain⟨m,d,h1,g,l,r⟩:=H.own h u;refine⟨m,d,h1,?_,l,r⟩;by_cases D:j=m
   ·subst D;rw[C] at g;cases g;rw[F] at r;have ev:v=i:=B8 r;subst ev;rw[<-h1] at h;exact absurd ⟨rfl,H.inj h s u w⟩ e
   ·rw[AN D];exact g
 ·obtain⟨h1,o',g,k,x,l,r,J,K,A,L⟩:=H.C4 h;refine⟨?_,o',g,k,x,l,r,J,K,?_,L⟩
  ·rw[bI (λc=>?_)]
   ·exact h1
   ·rw[c.1,c.2,w] at h;cases h
  ·rw[bI (λc=>?_)]
   ·exact A
   ·rw[c.1,c.2,s] at A;cases A;exact G h rfl
 ·by_cases e:i=v/\p=a
  ·obtain⟨rfl,rfl⟩:=e;rw[fJ] at h;cases h
  ·rw[bI e] at h;by_cases e':i=v/\p'=a
   ·obtain⟨rfl,rfl⟩:=e';rw[fJ] at h';cases h'
   ·rw[bI e'] at h';exact H.inj h h' u I
 ·by_cases e:j=m
  ·subst e;rw[Al z] at h;cases h;rw[B];rfl
  ·rw[AN e] at h;exact H.refs h
end HC
set_option maxRecDepth 100000
open Go.RX D
namespace HC
variable {fr:Ih} {tk:Nat->List TK} {ds:List DT} {gr:List GT}
theorem take (H:HC fr tk ds gr) {v o n k:Nat} {b:Int} {x:GT} {d0:DT} (hb:0<=b/\b<65536) (K:fr v b=none) (S:ds[n]? =some d0) (r:gr[k]? =some x) (C:x≠zG) (L:x.1=(o:Int)) (M:x.2.2.1=(v:Int)) (T:fr o x.2.1=some (n:Int)) (U:cm (tk o) x.2.1=none)
 (V:n7 (gr.set k (fl x 1))):
 HC (ny fr v b (some (n:Int))) (ll tk v (mI (b,(k:Int),(n:Int)) (tk v))) (ds.set n (d0.1,d0.2.1,d0.2.2.1+1,d0.2.2.2.1,())) (gr.set k (fl x 1)):=by
 have Z:n<ds.length:=(Ak.1 S).1;have D:k<gr.length:=(Ak.1 r).1;obtain⟨N,ro,F⟩:(1<=v/\v<=16)/\(1<=o/\o<=16)/\o≠v:=by
  rcases(H.gk x (B4 r)).1 with h|⟨h1,l,g, _⟩
  ·exact absurd h C
  ·rw[L] at h1 g;rw[M] at l g;exact⟨by omega,by omega,λe=>g (by rw[e])⟩
 have A: ∀{i p f},fr i p=some f-> ¬ (i=v/\p=b):=λ{i p f} h e=>by rw[e.1,e.2,K] at h;cases h
 have O:cm (tk v) b=none:=H.YA K;have s: ∀i p,cm (ll tk v (mI (b,(k:Int),(n:Int)) (tk v)) i) p=if i=v/\p=b then some ((k:Int),(n:Int)) else cm (tk i) p:=λi p=>by
  by_cases e:i=v
  ·subst e;rw[kW,Sa O (H.nd _)];by_cases w:p=b
   ·rw[av w.symm,av ⟨rfl,w⟩]
   ·rw[ao (λh=>w h.symm),ao (λh=>w h.2)]
  ·rw[nN e,ao (λh=>e h.1)]
 have W: ∀{m:Nat} {d:DT},ds[m]? =some d-> ∃d':DT,(ds.set n (d0.1,d0.2.1,d0.2.2.1+1,d0.2.2.2.1,()))[m]? =some d'/\d'.1=d.1/\d'.2.1=d.2.1:=λ{m d} h=>by
  grind
 have G: ∀{m:Nat} {d':DT},(ds.set n (d0.1,d0.2.1,d0.2.2.1+1,d0.2.2.2.1,()))[m]? =some d'-> ∃d:DT,ds[m]? =some d/\d'.1=d.1/\d'.2.1=d.2.1/\d'.2.2.2.1=d.2.2.2.1/\d'.2.2.1=d.2.2.1+(if m=n then 1 else 0):=λ{m d'} h=>by
  grind
 have X: ∀{a:Int} {i o':Nat} {f:Int},Tz gr fr tk a i o' f->Tz (gr.set k (fl x 1)) (ny fr v b (some (n:Int))) (ll tk v (mI (b,(k:Int),(n:Int)) (tk v))) a i o' f:=by
  rintro a i o' f ⟨j,y,h1,l,g,z,t,Y⟩;have P:=CC r (xM H.gk r C 1) h1;have Q:cm (ll tk v (mI (b,(k:Int),(n:Int)) (tk v)) o') y.2.1=none:=by
   rw[s,ao (A t)];exact Y
  by_cases e:k=j
  ·subst e;rw[r] at l;cases l;exact⟨k,fl x 1,P,Al D,g,z,by show ny fr v b _ o' x.2.1= _;rw[bI (A t)];exact t,Q⟩
  ·exact⟨j,y,P,by rw[AN e];exact l,g,z,by rw[bI (A t)];exact t,Q⟩
 have R: ∀q:TK->Bool,nv (ll tk v (mI (b,(k:Int),(n:Int)) (tk v))) q=nv tk q+(if q (b,(k:Int),(n:Int))=true then 1 else 0):=λq=>by
  have h1:=zd tk q (by omega:v<17) (mI (b,(k:Int),(n:Int)) (tk v));rw[VK] at h1;omega
 refine⟨λ{i p f} h=>?_,λ{m d} h=>?_,λ{m d} h z=>?_,λ{i p f} h u=>?_,λ{i p c f} h=>?_,λi=>?_,λ{i p p' f} h h' u E=>?_,λ{m d} h=>?_,λ{m y} h=>?_,by rw[Av];exact H.gl,V⟩
 ·by_cases e:i=v/\p=b
  ·obtain⟨rfl,rfl⟩:=e;exact⟨N.1,N.2,hb⟩
  ·rw[bI e] at h;exact H.jl h
 ·obtain⟨d',h1,l,g,t, _⟩:=G h;rw[l,t,g];exact H.kd h1
 ·obtain⟨d',h1,l,g, _⟩:=G h;obtain⟨i,p,I,B,J⟩:=H.Te h1 (by rw[<-l];exact z);exact⟨i,p,by rw[g];exact I,by rw[bI (A B)];exact B,by rw[s,ao (A B)];exact J⟩
 ·by_cases e:i=v/\p=b
  ·rw[s,av e] at u;cases u
  ·rw[bI e] at h;rw[s,ao e] at u;obtain⟨m,d,h1,l,g,z⟩:=H.own h u;obtain⟨d',I,B,J⟩:=W l;exact⟨m,d',h1,I,by rw[B];exact g,by rw[J];exact z⟩
 ·rw[s] at h;by_cases e:i=v/\p=b
  ·rw[av e] at h;cases h;obtain⟨rfl,rfl⟩:=e;refine⟨fJ _ _ _ _,o,F,k,fl x 1,?_,Al D,L,M,?_,?_⟩
   ·exact CC r (xM H.gk r C 1) (fv.2 ⟨rfl,D,by rw[getD_some r];exact C⟩)
   ·show ny fr i p _ o x.2.1= _;rw[bI (λc=>F c.1)];exact T
   ·show cm (ll tk i _ o) x.2.1=none;rw[nN F];exact U
  ·rw[ao e] at h;obtain⟨h1,o',l,g⟩:=H.C4 h;exact⟨by rw[bI e];exact h1,o',l,X g⟩
 ·by_cases e:i=v
  ·subst e;rw[kW];exact Pm O (H.nd _)
  ·rw[nN e];exact H.nd i
 ·have e: ¬ (i=v/\p=b):=λc=>by rw[s,av c] at u;cases u
  have e': ¬ (i=v/\p'=b):=λc=>by rw[s,av c] at E;cases E
  rw[s,ao e] at u;rw[s,ao e'] at E;rw[bI e] at h;rw[bI e'] at h';exact H.inj h h' u E
 ·obtain⟨d',h1, _, _, _,t⟩:=G h;rw[t,H.refs h1];unfold eo;rw[R]
  grind
 ·have w:mS (ll tk v (mI (b,(k:Int),(n:Int)) (tk v))) (m:Int)=mS tk (m:Int)+(if k=m then 1 else 0):=by
   unfold mS;rw[R]
   grind
  rw[w];by_cases e:k=m
  ·subst e;rw[Al D] at h;cases h;rw[av rfl];have:=H.uT r;show x.2.2.2.2.1+1= _;omega
  ·rw[AN e] at h;rw[ao e];have:=H.uT h;omega
theorem FX (H:HC fr tk ds gr) {v n k:Nat} {b:Int} {x:GT} {d0:DT} (D:cm (tk v) b=some ((k:Int),(n:Int))) (E:ds[n]? =some d0) (w:gr[k]? =some x) (P:x≠zG)
 (Q:n7 (gr.set k (fl x (-1)))):
 HC (ny fr v b none) (ll tk v ((tk v).filter λt=> !(t.1==b))) (ds.set n (d0.1,d0.2.1,d0.2.2.1 - 1,d0.2.2.2.1,())) (gr.set k (fl x (-1))):=by
 have J:n<ds.length:=(Ak.1 E).1;have K:k<gr.length:=(Ak.1 w).1;have T:=H.jl (H.C4 D).1;have r: ∀i p,cm (ll tk v ((tk v).filter λt=> !(t.1==b)) i) p=if i=v/\p=b then none else cm (tk i) p:=λi p=>by
  by_cases e:i=v
  ·subst e;rw[kW,MH];by_cases o:p=b
   ·rw[av o,av ⟨rfl,o⟩]
   ·rw[ao o,ao (λh=>o h.2)]
  ·rw[nN e,ao (λh=>e h.1)]
 have z: ∀{i p},cm (tk i) p=none-> ¬ (i=v/\p=b):=λ{i p} h e=>by rw[e.1,e.2,D] at h;cases h
 have R: ∀{m:Nat} {d:DT},ds[m]? =some d-> ∃d':DT,(ds.set n (d0.1,d0.2.1,d0.2.2.1 - 1,d0.2.2.2.1,()))[m]? =some d'/\d'.1=d.1/\d'.2.1=d.2.1:=λ{m d} h=>by
  by_cases e:n=m
  ·subst e;rw[E] at h;cases h;exact⟨_,Al J,rfl,rfl⟩
  ·exact⟨d,by rw[AN e];exact h,rfl,rfl⟩
 have F: ∀{m:Nat} {d':DT},(ds.set n (d0.1,d0.2.1,d0.2.2.1 - 1,d0.2.2.2.1,()))[m]? =some d'-> ∃d:DT,ds[m]? =some d/\d'.1=d.1/\d'.2.1=d.2.1/\d'.2.2.2.1=d.2.2.2.1/\d'.2.2.1=d.2.2.1 - (if m=n then 1 else 0):=λ{m d'} h=>by
  by_cases e:n=m
  ·subst e;rw[Al J] at h;cases h;exact⟨d0,E,rfl,rfl,rfl,by rw[av rfl]⟩
  ·rw[AN e] at h;exact⟨d',h,rfl,rfl,rfl,by rw[ao (λc=>e c.symm)];omega⟩
 have S: ∀{a:Int} {i o':Nat} {f:Int},Tz gr fr tk a i o' f->Tz (gr.set k (fl x (-1))) (ny fr v b none) (ll tk v ((tk v).filter λt=> !(t.1==b))) a i o' f:=by
  rintro a i o' f ⟨j,y,h1,g,l,s,u,C⟩;have L:=CC w (xM H.gk w P (-1)) h1;have M:cm (ll tk v ((tk v).filter λt=> !(t.1==b)) o') y.2.1=none:=by
   rw[r,ao (z C)];exact C
  by_cases e:k=j
  ·subst e;rw[w] at g;cases g;exact⟨k,fl x (-1),L,Al K,l,s,by show ny fr v b _ o' x.2.1= _;rw[bI (z C)];exact u,M⟩
  ·exact⟨j,y,L,by rw[AN e];exact g,l,s,by rw[bI (z C)];exact u,M⟩
 have N: ∀q:TK->Bool,nv (ll tk v ((tk v).filter λt=> !(t.1==b))) q+(if q (b,(k:Int),(n:Int))=true then 1 else 0)=nv tk q:=λq=>by
  have h1:=zd tk q (by omega:v<17) ((tk v).filter λt=> !(t.1==b));have g:=Sb (H.nd v) D q;omega
 refine⟨λ{i p f} h=>?_,λ{m d} h=>?_,λ{m d} h s=>?_,λ{i p f} h A=>?_,λ{i p c f} h=>?_,λi=>?_,λ{i p p' f} h h' A O=>?_,λ{m d} h=>?_,λ{m y} h=>?_,by rw[Av];exact H.gl,Q⟩
 ·by_cases e:i=v/\p=b
  ·rw[show ny fr v b none i p=none from av e] at h;cases h
  ·rw[bI e] at h;exact H.jl h
 ·obtain⟨d',h1,g,l,u, _⟩:=F h;rw[g,u,l];exact H.kd h1
 ·obtain⟨d',h1,g,l, _⟩:=F h;obtain⟨i,p,G,I,B⟩:=H.Te h1 (by rw[<-g];exact s);exact⟨i,p,by rw[l];exact G,by rw[bI (z B)];exact I,by rw[r,ao (z B)];exact B⟩
 ·by_cases e:i=v/\p=b
  ·rw[show ny fr v b none i p=none from av e] at h;cases h
  ·rw[bI e] at h;rw[r,ao e] at A;obtain⟨m,d,h1,g,l,s⟩:=H.own h A;obtain⟨d',G,I,B⟩:=R g;exact⟨m,d',h1,G,by rw[I];exact l,by rw[B];exact s⟩
 ·rw[r] at h;by_cases e:i=v/\p=b
  ·rw[av e] at h;cases h
  ·rw[ao e] at h;obtain⟨h1,o',g,l⟩:=H.C4 h;exact⟨by rw[bI e];exact h1,o',g,S l⟩
 ·by_cases e:i=v
  ·subst e;rw[kW];exact VL _ (H.nd _)
  ·rw[nN e];exact H.nd i
 ·have e: ¬ (i=v/\p=b):=λc=>by rw[show ny fr v b none i p=none from av c] at h;cases h
  have e': ¬ (i=v/\p'=b):=λc=>by rw[show ny fr v b none i p'=none from av c] at h';cases h'
  rw[r,ao e] at A;rw[r,ao e'] at O;rw[bI e] at h;rw[bI e'] at h';exact H.inj h h' A O
 ·obtain⟨d',h1, _, _, _,u⟩:=F h;have:=N λt=>t.2.2==(m:Int);rw[u,H.refs h1];unfold eo;dsimp only at this;by_cases e:m=n
  ·subst e;rw[av (by simp)] at this;rw[av rfl];omega
  ·rw[ao (by simp;omega)] at this;rw[ao e];omega
 ·have o:mS (ll tk v ((tk v).filter λt=> !(t.1==b))) (m:Int)+(if k=m then 1 else 0)=mS tk (m:Int):=by
   have:=N λt=>t.2.1==(m:Int);dsimp only at this;unfold mS
   grind
  by_cases e:k=m
  ·subst e;rw[Al K] at h;cases h;rw[av rfl] at o;have:=H.uT w;show x.2.2.2.2.1+ -1= _;omega
  ·rw[AN e] at h;rw[ao e] at o;have:=H.uT h;omega
theorem gone (H:HC fr tk ds gr) {v:Nat} {z:List DT} (hv:1<=v/\v<=16) (Q:tk v=[]) (J: ∀{n:Nat} {d:DT},ds[n]? =some d->d.1=4->d.2.1=(v:Int)->d.2.2.1=0)
 (K: ∀{n:Nat} {d:DT},ds[n]? =some d->d.1=4->d.2.1≠(v:Int)->z[n]? =some d)
 (C: ∀{n:Nat} {d:DT},z[n]? =some d->(ds[n]? =some d/\ ¬ (d.1=4/\d.2.1=(v:Int)))\/((d.1=0\/d.1=3\/d.1=5)/\d.2.2=(0,0,())/\0<=d.2.1/\d.2.1<=16))
 (R:n7 (cM gr (v:Int))):
 HC (λi p=>if i=v then none else fr i p) tk z (cM gr (v:Int)):=by
 have D: ∀{i p b f},cm (tk i) p=some (b,f)->i≠v:=λ{i p b f} h e=>by
  subst e;rw[Q] at h;unfold cm at h;simp at h
 have L: ∀{a:Int} {i o:Nat} {f p:Int},cm (tk i) p=some (a,f)->Tz gr fr tk a i o f->o≠v:=by
  rintro a i o f p l ⟨k,x,h1,g,j,r,M,E⟩ e;subst e;obtain⟨n,d,S,N,T,U⟩:=H.own M E;have h0:=J N T U;have F:=H.jl (H.C4 l).1;have:=nO (q:=λt=>t.2.2==(n:Int)) (by omega:i<17) (H.Kc l) (by simp[S]);have h1:=H.refs N;unfold eo at h1;omega
 have V: ∀{a:Int} {i o:Nat} {f p:Int},cm (tk i) p=some (a,f)->Tz gr fr tk a i o f->Tz (cM gr (v:Int)) (λi p=>if i=v then none else fr i p) tk a i o f:=by
  intro a i o f p l w;have W:=L l w;have X:=D l;obtain⟨k,x,h1,g,j,r,M,E⟩:=w;have hh:oK (v:Int) x=false:=by
   unfold oK;rw[j,r]
   grind
  have F:(cM gr (v:Int))[k]? =some x:=by
   unfold cM
   grind
  obtain⟨s,u,A⟩:=fv.1 h1;refine⟨k,x,fv.2 ⟨s,by unfold cM;rw[DB];exact u,?_⟩,F,j,r,?_,E⟩
  ·rw[getD_some F];rw[getD_some g] at A;exact A
  grind
 have Y: ∀{n:Nat} {d:DT},z[n]? =some d->(d.1=0\/d.1=3\/d.1=5)->d.2.2=(0,0,())->eo tk (n:Int)=0:=λ{n d} h g j=>by
  rcases C9 (eo tk (n:Int)) with e|e
  ·exact e
  ·obtain⟨d',s,u⟩:=H.IB e;by_cases O:d'.2.1=(v:Int)
   ·have:=H.refs s;have:=J s u O;omega
   ·have:=K s u O;rw[h] at this;cases this;omega
 refine⟨λ{i p f} h=>?_,λ{m d} h=>?_,λ{m d} h r=>?_,λ{i p f} h l=>?_,λ{i p c f} h=>?_,H.nd,λ{i p p' f} h h' l Z=>?_,λ{m d} h=>?_,λ{m y} h=>?_,by unfold cM;rw[DB];exact H.gl,R⟩
 ·by_cases e:i=v
  ·rw[av e] at h;cases h
  ·rw[ao e] at h;exact H.jl h
 ·rcases C h with ⟨h1, _⟩|⟨h1,g,j⟩
  ·exact H.kd h1
  ·exact⟨by omega,by rw[g],j⟩
 ·rcases C h with ⟨h1,g⟩|⟨h1, _⟩
  ·obtain⟨i,p,s,u,A⟩:=H.Te h1 r;exact⟨i,p,s,by rw[ao (λe=>g ⟨r,by rw[<-s,e]⟩)];exact u,A⟩
  ·omega
 ·by_cases e:i=v
  ·rw[av e] at h;cases h
  ·rw[ao e] at h;obtain⟨m,d,h1,g,j,r⟩:=H.own h l;exact⟨m,d,h1,K g j (λc=>e (B8 (r.symm.trans c))),j,r⟩
 ·obtain⟨h1,o,g,j⟩:=H.C4 h;exact⟨by rw[ao (D h)];exact h1,o,g,V h j⟩
 ·by_cases e:i=v
  ·rw[av e] at h;cases h
  ·rw[ao e] at h h';exact H.inj h h' l Z
 ·rcases C h with ⟨h1, _⟩|⟨h1,g, _⟩
  ·exact H.refs h1
  ·rw[Y h h1 g,g];rfl
 ·unfold cM at h;rw[FN] at h;obtain⟨x,P,B⟩:=Option.map_eq_some_iff.1 h;by_cases e:oK (v:Int) x=true
  ·rw[av e] at B;subst B;have:mS tk (m:Int)=0:=by
    refine Bu λi t l=>?_;cases G:t.2.1==(m:Int) with
    |false=>rfl
    |true=>
     have G:t.2.1=(m:Int):=by simpa using G
     have I:=H.N_ l;obtain⟨_,o, _,w⟩:=H.C4 (a:=t.2.1) (f:=t.2.2) I;have W:=L (a:=t.2.1) (f:=t.2.2) I w;have X:=D (b:=t.2.1) (f:=t.2.2) I;obtain⟨k,x',h1,g,j,r, _⟩:=w;obtain⟨s, _⟩:=fv.1 h1;have ek:k=m:=B8 (s.trans G);subst ek;rw[P] at g;cases g;unfold oK at e;rw[j,r] at e
     grind
   rw[this];rfl
  ·rw[ao e] at B;subst B;exact H.uT P
end HC
set_option maxRecDepth 100000
open Go.RX D
def ng (h:HS):Ih:=λi p=>match h.g i with
 |some x=>if(bu h.s x.root false p).2.2.1=0 then some (bu h.s x.root false p).1 else none
 |none=>none
def lV (h:HS) (i:Nat):List TK:=match h.g i with
 |some x=>x.tk
 |none=>[]
def iw (h:HS) (i:Nat) (p:Int):Int×Int×Int×Unit:=match h.g i with
 |some x=>bu h.s x.root false p
 |none=>(0,0,4,())
theorem bM {h:HS} {i:Nat} {x:GV} (a:h.g i=some x) (p:Int):iw h i p=bu h.s x.root false p:=by grind[iw]
theorem gu {h:HS} {i:Nat} (a:h.g i=none) (p:Int):iw h i p=(0,0,4,()):=by grind[iw]
theorem mC (h:HS) (i:Nat) (p:Int):ng h i p=if(iw h i p).2.2.1=0 then some (iw h i p).1 else none:=by grind[ng,iw]
structure Aa (h h':HS) (P:Nat->Int->Prop):Prop where
 to: ∀{i:Nat} {q:Int},¬ P i q->iw h' i q=iw h i q
theorem Aa.refl (h:HS) (P:Nat->Int->Prop):Aa h h P:=⟨λ_=>rfl⟩
theorem Aa.of {h h':HS} (a:h'.s=h.s) (b:h'.g=h.g) (P:Nat->Int->Prop):Aa h h' P:=⟨by grind[iw]⟩
theorem Aa.trans {h1 c d:HS} {P:Nat->Int->Prop} (a:Aa h1 c P) (b:Aa c d P):Aa h1 d P:=⟨λe=>(b.to e).trans (a.to e)⟩
structure KD (s s':WD):Prop where
 k4: ∀{n:Nat} {d:DT},s.2[n]? =some d->d.1=4-> ∃d',s'.2[n]? =some d'/\(d'.1=4\/d'.1=5)
 k5: ∀{n:Nat} {d:DT},s.2[n]? =some d->d.1=5-> ∃d',s'.2[n]? =some d'/\d'.1=5
theorem KD.refl {s s':WD} (h:s'.2=s.2):KD s s':=⟨by grind,by grind⟩
theorem KD.trans {s t u:WD} (a:KD s t) (b:KD t u):KD s u:=by
 refine⟨λh1 e=>?_,λh1 f=>?_⟩
 ·obtain⟨d',d,c⟩:=a.k4 h1 e;rcases c with c|c
  ·exact b.k4 d c
  ·obtain:=b.k5 d
   grind
 ·obtain⟨d',d,c⟩:=a.k5 h1 f;exact b.k5 d c
theorem KD.set {s:WD} {W:List Int} {n:Nat} {d0 d1:DT} (h0:s.2[n]? =some d0) (a:d0.1=4->d1.1=4\/d1.1=5) (b:d0.1=5->d1.1=5):KD s (W,s.2.set n d1):=by
 refine⟨λh k=>?_,λh k=>?_⟩
 grind
 grind
theorem sM.kd {P:Int->Int->Prop} {o:Int} {g g':Gh} {s s':WD} (C:sM P o g g' s s'):KD s s':=by
 refine⟨λ{n d} h1 a=>⟨d,C.kp.ks h1 a,.inl a⟩,λh1=>?_⟩;obtain:=C.kk h1
 grind
def uE (gh dw:Gh) (s s':WD):Prop:=(∀(f:Int) (v:Int×Nat×Int),gh f=some v->dw f=some v\/iF s' f)/\ ∀f,iF s f->iF s' f
theorem uE.refl (gh:Gh) (s:WD):uE gh gh s s:=⟨by grind,λ_ h=>h⟩
theorem uE.trans {a b c:Gh} {s t u:WD} (h:uE a b s t) (k:uE b c t u):uE a c s u:=⟨λf v d=>(h.1 f v d).elim (k.1 f v) λc=> .inr (k.2 f c),λf c=>k.2 f (h.2 f c)⟩
theorem sM.gks {P:Int->Int->Prop} {o:Int} {g g':Gh} {s s':WD} (C:sM P o g g' s s'):uE g g' s s':=⟨λ_ _ h=>C.gk h,λ_ c=>c.kept C.kp⟩
theorem iF.kd {s s':WD} {f:Int} (h:iF s f) (K:KD s s') (b: ∀k:Int,0<=k->k<16->dv s'.1 (16*f+k)=dv s.1 (16*f+k)):iF s' f:=by
 obtain⟨h0,d,h1,a,c⟩:=h;obtain⟨d',e,g⟩:=K.k5 h1 a;exact⟨h0,by grind⟩
theorem uE.kd {g:Gh} {s s':WD} (K:KD s s') (a: ∀{n:Nat} {d:DT},s.2[n]? =some d->d.1=5-> ∀k:Int,0<=k->k<16->dv s'.1 (16*(n:Int)+k)=dv s.1 (16*(n:Int)+k)):uE g g s s':=⟨by grind,λf c=>by
 refine c.kd K λk0=>?_;obtain⟨⟩:=c
 grind⟩
structure uM (h h':HS) (P:Nat->Int->Prop) (f:Int):Prop where
 pg:Aa h h' P
 ws: ∀{m:Nat} {d d':DT},h.s.2[m]? =some d->d.1=4->h'.s.2[m]? =some d'->d'.1=4->(m:Int)≠f-> ∀k:Int,0<=k->k<16->dv h'.s.1 (16*(m:Int)+k)=dv h.s.1 (16*(m:Int)+k)
 kd:KD h.s h'.s
theorem uM.refl (h:HS) (P:Nat->Int->Prop) (f:Int):uM h h P f:=⟨Aa.refl h P,by simp,.refl rfl⟩
theorem uM.mono {h h':HS} {P b:Nat->Int->Prop} {f:Int} (a:uM h h' P f) (d: ∀{i:Nat} {q:Int},P i q->b i q):uM h h' b f:=⟨⟨λe=>a.pg.to λc=>e (d c)⟩,a.ws,a.kd⟩
theorem uM.trans {h1 d e:HS} {P:Nat->Int->Prop} {f:Int} (a:uM h1 d P f) (b:uM d e P f):uM h1 e P f:=by
 refine⟨Aa.trans a.pg b.pg,λg h l m i k k0 j=>?_,a.kd.trans b.kd⟩;obtain⟨d2,x1,c⟩:=a.kd.k4 g h;rcases c with c|c
 ·rw[b.ws x1 c l m i k k0 j,a.ws g h x1 c i k k0 j]
 ·obtain:=b.kd.k5 x1
  grind
structure HI (gh:Gh) (h:HS):Prop where
 inv:Inv gh h.s
 rt:Rt gh
 nl:z_ gh h.s
 sz:h.s.1.length=16*h.s.2.length
 jl: ∀{i:Nat} {x:GV},h.g i=some x->1<=i/\i<=16
 root: ∀{i:Nat} {x:GV},h.g i=some x->gh x.root=some ((i:Int),3,0)
 own: ∀{f o y:Int},gh f=some (o,3,y)-> ∃(i:Nat) (x:GV),(i:Int)=o/\h.g i=some x
 hc:HC (ng h) (lV h) h.s.2 h.gr
theorem cN {h:HS} {i:Nat} {x:GV} (a:h.g i=some x) (p:Int):ng h i p=if(bu h.s x.root false p).2.2.1=0 then some (bu h.s x.root false p).1 else none:=by grind[ng]
theorem gw {h:HS} {i:Nat} (a:h.g i=none) (p:Int):ng h i p=none:=by grind[ng]
theorem gx {h:HS} {i:Nat} {x:GV} (a:h.g i=some x):lV h i=x.tk:=by grind[lV]
theorem abx (h:HS) (v:Int):vt h v=lV h v.toNat:=rfl
section
variable {gh dw:Gh} {h:HS}
namespace HI
theorem rdy (H:HI gh h) {Q:Sys} (i:NK Q h.s):Ca Q h where
 Nv:=i
 sz:=by rw[H.sz];simp
 rr:=λv e=>by
  obtain⟨x,d,f⟩:=bL e;have:=H.inv.uJ (H.root d)
  grind
 pg:=λv t j=>by
  have:=H.hc.jl (H.hc.C4 (H.hc.N_ j)).1;omega
 new:=λv a b c x d e h0=>by
  obtain⟨x',g,f, _⟩:=bL e;rw[d] at g;cases g;rw[f] at h0;have k:=H.root d;have l:=(H.inv.map k h0).2;have:ng h v.toNat b=none:=by rw[cN d,ao (by grind)]
  have:=H.hc.YA this;rw[gx d] at this
  grind
theorem yK (H:HI gh h) {v:Nat} {x:GV} (b:h.g v=some x) {p:Int} {s1 s':WD} (h1: ∀{i:Nat} {x:GV},h.g i=some x-> ∀q,bu s1 x.root false q=bu h.s x.root false q) (d:Inv gh s1) (C:sM (oa (v:Int) 0 p) (v:Int) gh dw s1 s') {y:Option Int}
 (f:(if(bu s' x.root false p).2.2.1=0 then some (bu s' x.root false p).1 else none)=y) {h':HS} (j:h'.s=s') (k: ∀i,(h'.g i).map GV.root=(h.g i).map GV.root):ng h'=ny (ng h) v p y:=by
 funext i q;have hi:=k i;cases a:h.g i with
 |none=>
  rw[a] at hi;have l:=by simpa using hi
  rw[gw l];have m: ¬ (i=v/\q=p):=λc=>by grind
  rw[bI m,gw a]
 |some z=>
  obtain⟨z',n,o⟩: ∃z',h'.g i=some z'/\z'.root=z.root:=by
   cases hc:h'.g i with
   |none
   |some=>grind
  rw[cN n,j,o];by_cases e:i=v/\q=p
  ·obtain⟨rfl,rfl⟩:=e;rw[b] at a;cases a;rw[fJ,f]
  ·rw[bI e,cN a];have r:bu s' z.root false q=bu h.s z.root false q:=by
    rw[<-h1 a];refine d.y9 C.inv C.Dr C.root (H.root a) λc=>e ?_;obtain⟨c1,c2⟩:=c;exact⟨by omega,c2⟩
   rw[r]
theorem Gr (H:HI gh h) {v:Nat} {p:Int} {s1 s':WD} (h1: ∀{i:Nat} {x:GV},h.g i=some x-> ∀q,bu s1 x.root false q=bu h.s x.root false q) (b:Inv gh s1) (C:sM (oa (v:Int) 0 p) (v:Int) gh dw s1 s') {h':HS} (d:h'.s=s') (k: ∀i,(h'.g i).map GV.root=(h.g i).map GV.root):Aa h h' (λi q=>i=v/\q=p):=by
 refine⟨λ{i q} e=>?_⟩;cases a:h.g i with
 |none=>
  unfold iw;grind
 |some z=>
  obtain⟨z',f,j⟩: ∃z',h'.g i=some z'/\z'.root=z.root:=by
   cases hc:h'.g i with
   |none
   |some=>grind
  rw[bM f,bM a,d,j, <-h1 a];refine b.y9 C.inv C.Dr C.root (H.root a) λc=>e ?_;obtain⟨c1,c2⟩:=c;exact⟨by omega,c2⟩
theorem base (H:HI gh h) {v:Nat} {p:Int} {s1 s':WD} (C:sM (oa (v:Int) 0 p) (v:Int) gh dw s1 s') (e:s1.1.length=h.s.1.length/\s1.2.length=h.s.2.length) (nl:z_ gh s1) {h':HS} (c:h'.s=s') (j: ∀i,(h'.g i).map GV.root=(h.g i).map GV.root)
 (hc:HC (ng h') (lV h') s'.2 h'.gr):HI dw h' where
 inv:=by rw[c];exact C.inv
 rt:=H.rt.dx C.root
 nl:=by
  rw[c];exact C.lg (λo q m a b=>a.2.trans b.2.symm) nl
 sz:=by
  rw[c,C.len.1,C.len.2,e.1,e.2];exact H.sz
 jl:=λ{i x} d=>by
  have hi:=j i;rw[d] at hi;cases hc:h.g i with
  |none=>grind
  |some=>exact H.jl hc
 root:=λ{i x} d=>by
  have hi:=j i;rw[d] at hi;cases hc:h.g i with
  |none=>grind
  |some=>
   rw[hc] at hi;have k:=by simpa using hi
   rw[k];exact C.root.to (H.root hc)
 own:=λ{f o y} l=>by
  obtain⟨i⟩:=H.own ((C.root o f y).1 l);cases hc:h'.g i with
  |none
  |some z=>grind
 hc:=by grind
theorem CF (H:HI gh h) {s':WD} (B:Inv.e_ gh h.s s') {h':HS} (a:h'.s=s') (b:h'.g=h.g) (P:Nat->Int->Prop):Aa h h' P:=by
 refine⟨λ{i q} _=>?_⟩;cases hi:h.g i with
 |none=>rw[gu hi,gu (by grind)]
 |some=>rw[bM hi,bM (by rw[b];exact hi),a];exact H.inv.dC B (H.root hi) q
theorem side (H:HI gh h) {s':WD} (B:Inv.e_ gh h.s s') {z4:List GT} {Nu:List Po.PT} (hc:HC (ng h) (lV h) s'.2 z4):HI gh {s:=s',g:=h.g,gr:=z4,po:=Nu} where
 inv:=H.inv.beside B
 rt:=H.rt
 nl:=Inv.na B H.nl
 sz:=by
  rw[B.len.1,B.len.2];exact H.sz
 jl:=H.jl
 root:=H.root
 own:=H.own
 hc:=by
  have e:ng {s:=s',g:=h.g,gr:=z4,po:=Nu}=ng h:=by
   funext i p;cases a:h.g i with
   |none=>
    rw[gw a];exact gw (h:={s:=s',g:=h.g,gr:=z4,po:=Nu}) a p
   |some=>
    rw[cN a,cN (h:={s:=s',g:=h.g,gr:=z4,po:=Nu}) a];rw[H.inv.dC B (H.root a)]
  rw[e];exact hc
end HI
end
set_option maxRecDepth 100000
open Go.RX D
theorem rt4 {o r:Int} (a:1<=o/\o<=16) (b:0<=r/\r<=65535):dT 4 o r 0=true:=by unfold dT jN;simp;omega
theorem rt5 {o:Int} (a:0<=o/\o<=16):dT 5 o 0 0=true:=by unfold dT jN;simp;omega
theorem HO {o:Int} (a:1<=o/\o<=16):aO 4 o zD=((4,o,0,0,()),0):=by
 have b:dT 0 0 0 0=true:=by decide
 have e:gQ 0 0 0 0 4 o=0:=by
  unfold gQ;rw[b,ao (by decide),ao (by decide),av (by decide),ao (show ¬ (4:Int)=5 by decide),rt4 a ⟨by decide,by decide⟩,ao (by decide)]
 unfold aO zD mM lx;dsimp only;rw[e];rfl
theorem MJ {o:Int} (a:1<=o/\o<=16):aO 0 0 (4,o,0,0,())=(zD,0):=by
 have e:gQ 4 o 0 0 0 0=0:=by
  unfold gQ;rw[rt4 a ⟨by decide,by decide⟩,ao (by decide),ao (by decide),av (by decide),ao (show ¬ (0:Int)=5 by decide)];decide
 unfold aO mM lx;dsimp only;rw[e];rfl
theorem Bw {o v:Int} (a:1<=o/\o<=16):aO 5 v (4,o,0,0,())=((5,o,0,0,()),0):=by
 have e:gQ 4 o 0 0 5 v=0:=by
  unfold gQ;rw[rt4 a ⟨by decide,by decide⟩,ao (by decide),ao (by decide),av (by decide),av rfl,rt5 ⟨by omega,a.2⟩,ao (by decide)]
 unfold aO mM lx;dsimp only;rw[e];rfl
theorem HP {o:Int} (a:0<=o/\o<=16):aO 0 0 (5,o,0,0,())=(zD,0):=by
 have e:gQ 5 o 0 0 0 0=0:=by
  unfold gQ;rw[rt5 a,ao (by decide),ao (by decide),av (by decide),ao (show ¬ (0:Int)=5 by decide)];decide
 unfold aO mM lx;dsimp only;rw[e];rfl
theorem aaB {o r x:Int} (a:1<=o/\o<=16) (b:0<=r/\r<=65535) (c:0<=r+x/\r+x<=65535):g_ x (4,o,r,0,())=((4,o,r+x,0,()),0):=by
 have e:w_ 4 o r 0 x=0:=by
  unfold w_;rw[rt4 a b,ao (by decide),av (.inr (.inr rfl)),ao (by omega)]
 unfold g_ qx;dsimp only;rw[e];rfl
theorem yy {ds:List DT} {n:Nat} {d d':DT} {G:DT->DT×Int} (h:ds[n]? =some d) (a:G d=(d',0)):dJ ds (n:Int) G=ds.set n d'/\vq ds (n:Int) G=0:=by
 have c:n<ds.length:=(Ak.1 h).1;have b:ds.getD n zD=d:=by rw[Ay,h];rfl
 constructor
 ·rw[o_ (by omega)];show(if(G (ds.getD n zD)).2=0 then ds.set n (G (ds.getD n zD)).1 else ds)= _;rw[b,a,av rfl]
 ·rw[yI (by omega)];show(G (ds.getD n zD)).2=0;rw[b,a]
theorem se {ds:List DT} {o:Int} (h:0<cd ds 0) (c: ∀d∈ds,d.1=0->d=zD) (e:1<=o/\o<=16): ∃i:Nat,i<ds.length/\ds[i]? =some zD/\ff ds 4 o=(i:Int)/\dS ds 4 o=0/\dF ds 4 o=ds.set i (4,o,0,0,()):=by
 obtain⟨i,d,h1,f,a,g⟩:=Ej h;have j:d=zD:=c d (B4 a) g;subst j;obtain⟨k,b⟩:=yy a (HO e);refine⟨i,f,a,?_,?_,?_⟩
 ·unfold ff;rw[h1];dsimp only;rw[av b]
 ·unfold dS;rw[ao (by omega),h1];exact b
 ·unfold dF;rw[h1];exact k
theorem vh {ds:List DT} {y o:Int} (h:dS ds y o=0):0<cd ds 0:=by
 rcases C9 (cd ds 0) with e|e
 ·unfold dS at h;rw[WV e] at h;dsimp only at h;split at h<;>exact absurd h (by decide)
 ·exact e
theorem Se {ds:List DT} {n:Nat} {d d':DT} (h:ds[n]? =some d):(ds.set n d').set n d=ds:=by
 apply FO;intro i;have a:n<ds.length:=(Ak.1 h).1;by_cases e:n=i
 ·subst e;rw[Al (by rw[Av];exact a),h]
 ·rw[AN e,AN e]
theorem pa {ds:List DT} {n:Nat} {d:DT} (h:ds[n]? =some d):qt ds (n:Int)=d:=by
 have a:n<ds.length:=(Ak.1 h).1;unfold qt;rw[ao (by omega)];show ds.getD n zD=d;rw[Ay,h];rfl
theorem Kept.hc {fr:Ih} {tk:Nat->List TK} {s s':WD} {gr:List GT} (H:HC fr tk s.2 gr) (K:Kept s s'):HC fr tk s'.2 gr:=
 H.Gp K.ks λ{n d} h=>(K.nw h).elim .inl λe=> .inr ⟨by omega,e.2.1,by omega,e.2.2.2⟩
theorem wD (r:Int):fR .i64 0 r=0:=by
 have h: ∀x:BitVec 64,(F1 64 0) &&& x=0#64:=λx=>by
  rw[show F1 64 0=0#64 from rfl,BitVec.zero_and]
 show DK.wrap (((F1 64 0) &&& ~~~(F1 64 r)).toNat:Int)=0;rw[h];rfl
theorem Cl {ws:List Int} {a:Int} (h:(aK ws a).1=true):uz (B (dv ws a)).toNat=true:=by
 unfold aK eY HZ at h;cases b:uz (B (dv ws a)).toNat with
 |true=>rfl
 |false=>rw[b] at h;simp at h
theorem tq {ws:List Int} {p t f:Int} {l:Nat} {fd:FT} (hi:uA ws (dZ f p (l:Int))=true) (a:uz (B (dv ws (dZ f p (l:Int)))).toNat=true):
 bz ws p t (f,(l:Int),fd)=tookS f p t (l:Int) fd (aK ws (dZ f p (l:Int))).1 (aK ws (dZ f p (l:Int))).2.1 (aK ws (dZ f p (l:Int))).2.2.1 (aK ws (dZ f p (l:Int))).2.2.2.1:=by
 unfold bz;dsimp only;rw[ao (by omega),a,ao ?_]
 ·rfl
 ·unfold BN;rw[av hi];decide
namespace Inv
variable {g:Gh} {s:WD}
theorem xN (I:Inv g s) {o r p t:Int} (d:g r=some (o,3,0)) (b:0<=p/\p<65536): ∀(n:Nat) {j:Nat} {f:Int},j+n=3->g f=some (o,j,px (j+1) p)->fZ s.1 r p t n=(f,(j:Int),(0,0,0,0,()))
 |0,j,f,h,a=>by
  have:j=3:=by omega
  subst this;rw[XE b] at a;rw[I.inj a d];rfl
 |n+1,j,f,h,a=>by
  obtain⟨f',h1,e⟩:=I.Fl a (by omega);have i:g f'=some (o,j+1,px (j+1+1) p):=h1;obtain⟨k,m,u⟩:=I.uJ h1;obtain⟨c1,c2, _⟩:=I.uJ a;have q:=I.xN (t:=t) d b n (j:=j+1) (by omega) i;have c:=kL ⟨k,m⟩ b (l:=j+1) (by omega);have v:=ee p (j+1);rw[fZ,q,tq (by rw[c];exact jd (by omega) (by omega)) (by rw[c];exact Cl (by rw[e];rfl)),c,e];unfold tookS cv;dsimp only;rw[ao (by decide),av ?_]
  ·congr 2;rw[bF (by omega) (by omega)];omega
  ·have:fM true 0 false f=true:=dH ⟨c1,c2⟩;rw[this];simp
   try omega
theorem VM (I:Inv g s) {o r p:Int} (u:g r=some (o,3,0)) (b:0<=p/\p<65536) {f:Int} {j:Nat} (a:dz g s o p f j):
 ((mG s.1 r p 0).1=(lY p j (aK s.1 (16*f+px j p % 16))).1/\(mG s.1 r p 0).2.1=(lY p j (aK s.1 (16*f+px j p % 16))).2.1/\((mG s.1 r p 0).2.2.2.1=0<->(lY p j (aK s.1 (16*f+px j p % 16))).2.2.1=0)):=by
 have A:=I.kd a.1;have C:=A.2.2.2.2.2;obtain⟨D,E,T⟩:=I.uJ a.1;obtain⟨F,G,U⟩:=I.uJ u;have hi:=ee p j;have d:=kL ⟨D,E⟩ b C;have v:=a.2;have H:=I.wf a.1 hi.1 hi.2;have J:=I.leaf a.1 hi.1 hi.2;have i:=lK s.1 (16*f+px j p % 16);have K:rB r p 0=false:=by
  unfold rB;have L:dZ r p 3=16*r+px 3 p % 16:=kL ⟨F,G⟩ b (l:=3) (by omega);have V:=ee p 3;rw[L,decide_eq_false (by omega),decide_eq_false (by omega),decide_eq_false (by omega)];rfl
 have M:mG s.1 r p 0=(fZ s.1 r p 0 4).2.2:=ao (by rw[K];decide);have N:=I.xN (t:=0) u b (3 - j) (by omega) a.1;have O:uA s.1 (dZ f p (j:Int))=true:=by rw[d];exact jd (by omega) (by omega)
 have P:uz (B (dv s.1 (dZ f p (j:Int)))).toNat=true:=by
  rw[d];cases hb:(aK s.1 (16*f+px j p % 16)).1 with
  |true=>exact Cl hb
  |false=>rw[H hb];decide+kernel
 have w:fZ s.1 r p 0 (3 - j+1)=tookS f p 0 (j:Int) (0,0,0,0,()) (aK s.1 (16*f+px j p % 16)).1 (aK s.1 (16*f+px j p % 16)).2.1 (aK s.1 (16*f+px j p % 16)).2.2.1 (aK s.1 (16*f+px j p % 16)).2.2.2.1:=by
  rw[fZ,N,tq O P,d]
 generalize aK s.1 (16*f+px j p % 16)=e at*
 obtain⟨ep,er,el,ef,W⟩:=e;dsimp only at*
 have k: ∀x:FT,tookS f p 0 (j:Int) (0,0,0,0,()) ep er el ef=(f,-1,x)->mG s.1 r p 0=x:=λx y=>by
  rw[M];have h1:(fZ s.1 r p 0 (3 - j+1)).2.1= -1:=by rw[w,y]
  have:=xC h1 j;rw[show 3 - j+1+j=4 by omega] at this;rw[this,w,y]
 cases ep with
 |false=>
  rw[k (wY (j:Int) 4) (by unfold tookS;rfl)];unfold lY wY;simp
 |true=>
  have c:fM true er el ef=false:=v;obtain⟨X,Y,Q,k4,k5⟩:=mi.1 i;rcases J rfl v with ⟨rfl,m⟩|⟨rfl,m,z⟩
  ·subst m;have R:er>0:=by
    refine B2 λhc=>?_;have:er=0:=by omega
    subst this;have:=dH ⟨Q,k4⟩;unfold dK cv at this;dsimp only at this;rw[this] at c;cases c
   have n:dV true er false ef 0=true:=by
    unfold dV;rw[i];have q:fR .i64 0 er=0:=wD er;rw[q];simp;omega
   rw[k (xZ 0 0 ef true er false ef) (by
    unfold tookS;rw[ao (by decide),c,ao (by decide),ao (by decide),av (by simp;omega)];rfl)]
   unfold lY xZ;rw[ao (by omega),av n,av rfl,ao (by decide)];simp
  ·have z:ef % 16=0:=z;subst m;have R:er>0:=by rcases k5 with h|h;exact h;cases h
   have n:dV true er true ef 0=true:=by
    unfold dV;rw[i];have q:fR .i64 0 er=0:=wD er;rw[q];simp;omega
   have S:aL .i64 ef (f_ p 16)=ef+p % 16:=by
    have:f_ p 16=p % 16:=by unfold f_;exact Int.tmod_eq_emod_of_nonneg b.1
    rw[this,ax (by omega) (by omega)]
   rw[k (xZ 1 0 (ef+p % 16) true er true ef) (by
    unfold tookS;rw[ao (by decide),c,ao (by decide),av (by decide),S];rfl)]
   unfold lY xZ;rw[ao (by omega),av n,av rfl,av rfl];simp
end Inv
set_option maxRecDepth 100000
open Go.RX D
theorem Inv.Gs {g:Gh} {s:WD} (I:Inv g s) (nl:z_ g s) {o r p t:Int} (c:g r=some (o,3,0)) (b:0<=p/\p<65536) (Q:0<=t/\t<=7):
 if(bu s r false p).2.2.1=0 then mG s.1 r p t=((bu s r false p).1,(bu s r false p).2.1,0,(if dV true (bu s r false p).2.1 false (bu s r false p).1 t=true then 0 else 7),()) else(mG s.1 r p t).2.2.2.1=4:=by
 obtain⟨f,j, _,a⟩:=I.lE c b;rw[I.ft c b a];have v:=I.kd a.1;have w:=v.2.2.2.2.2;obtain⟨y,z,R⟩:=I.uJ a.1;obtain⟨A,C,S⟩:=I.uJ c;have hi:=ee p j;have d:=kL ⟨y,z⟩ b w;have i:=a.2;have D:=I.wf a.1 hi.1 hi.2;have E:=nl a.1 hi.1 hi.2;have F:=I.leaf a.1 hi.1 hi.2;have G:=lK s.1 (16*f+px j p % 16);have H:rB r p t=false:=by
  unfold rB;have J:dZ r p 3=16*r+px 3 p % 16:=kL ⟨A,C⟩ b (l:=3) (by omega);have T:=ee p 3;rw[J,decide_eq_false (by omega),decide_eq_false (by omega),decide_eq_false (by omega)];rfl
 have K:mG s.1 r p t=(fZ s.1 r p t 4).2.2:=ao (by rw[H];decide);have L:=I.xN (t:=t) c b (3 - j) (by omega) a.1;have M:uA s.1 (dZ f p (j:Int))=true:=by rw[d];exact jd (by omega) (by omega)
 have N:uz (B (dv s.1 (dZ f p (j:Int)))).toNat=true:=by
  rw[d];cases hb:(aK s.1 (16*f+px j p % 16)).1 with
  |true=>exact Cl hb
  |false=>rw[D hb];decide+kernel
 have n:fZ s.1 r p t (3 - j+1)=tookS f p t (j:Int) (0,0,0,0,()) (aK s.1 (16*f+px j p % 16)).1 (aK s.1 (16*f+px j p % 16)).2.1 (aK s.1 (16*f+px j p % 16)).2.2.1 (aK s.1 (16*f+px j p % 16)).2.2.2.1:=by
  rw[fZ,L,tq M N,d]
 generalize aK s.1 (16*f+px j p % 16)=e at*
 obtain⟨ep,er,el,ef,U⟩:=e;dsimp only at*
 have q: ∀x:FT,tookS f p t (j:Int) (0,0,0,0,()) ep er el ef=(f,-1,x)->mG s.1 r p t=x:=λx u=>by
  rw[K];have h1:(fZ s.1 r p t (3 - j+1)).2.1= -1:=by rw[n,u]
  have:=xC h1 j;rw[show 3 - j+1+j=4 by omega] at this;rw[this,n,u]
 cases ep with
 |false=>
  rw[q (wY (j:Int) 4) (by unfold tookS;rfl)];unfold lY wY;simp
 |true=>
  have k:fM true er el ef=false:=i;obtain⟨V,W,O,k4,k5⟩:=mi.1 G;have P:=E rfl i;subst P;have m:el=false:=by
   rcases F rfl i with ⟨_,m⟩|⟨h, _⟩
   ·exact m
   ·exact absurd h (by decide)
  subst m;have X:er>0:=by
   refine B2 λhc=>?_;have:er=0:=by omega
   subst this;have:=dH ⟨O,k4⟩;unfold dK cv at this;dsimp only at this;rw[this] at k;cases k
  rw[q (xZ 0 t ef true er false ef) (by
   unfold tookS;rw[ao (by decide),k,ao (by decide),ao (by decide),av (by simp;omega)];rfl)]
  unfold lY xZ;rw[av rfl,ao (show ¬ ((0:Nat)=1) by decide)];dsimp only;rw[av rfl,ao (by omega)];split<;>rfl
theorem MK {fr:Ih} {v:Nat} {p:Int} {y:Option Int} (h:fr v p=y):ny fr v p y=fr:=by
 funext i q;unfold ny;split
 ·rename_i c;rw[c.1,c.2,h]
 ·rfl
section
variable {gh:Gh} {h:HS}
namespace HI
theorem po (H:HI gh h) (Nu:List Po.PT):HI gh (AJ h Nu):=
 ⟨H.inv,H.rt,H.nl,H.sz,H.jl,H.root,H.own,H.hc⟩
theorem grs (H:HI gh h) {z4:List GT} (hc:HC (ng h) (lV h) h.s.2 z4):HI gh (yw h z4):=
 ⟨H.inv,H.rt,H.nl,H.sz,H.jl,H.root,H.own,hc⟩
theorem ZF (H:HI gh h) (v a:Int):HI gh (fU h v a):=by
 unfold fU;split
 ·exact H
 ·refine H.grs (H.hc.Pl (zb _ _ _) (H.hc.gk.rev _ _) (λ{n x y} b c=>?_) λ{n x} b g=>?_)
  ·unfold lz at c;by_cases e:qK h.gr a v=0
   ·rw[av e] at c;by_cases en:a.toNat=n
    ·subst en;rw[Al (Ak.1 b).1] at c;cases c;unfold qK at e;cases d:l6 h.gr a with
     |none=>rw[d] at e;exact absurd (show(4:Int)=0 from e) (by decide)
     |some k=>
      rw[d] at e;dsimp only at e;obtain⟨i,j,l⟩:=fv.1 d;have f:a.toNat=k:=by omega
      rw[f] at b;rw[getD_some b] at e;have:=(H.hc.gk x (B4 b)).2;split at e
      ·exact absurd e (by decide)
      ·split at e
       ·exact absurd e (by decide)
       ·show(0:Int)= _;omega
    ·rw[AN en,b] at c;cases c;rfl
   ·rw[ao e,b] at c;cases c;rfl
  ·unfold lz;by_cases e:qK h.gr a v=0
   ·rw[av e];by_cases en:a.toNat=n
    ·subst en;unfold qK at e;cases d:l6 h.gr a with
     |none=>rw[d] at e;exact absurd (show(4:Int)=0 from e) (by decide)
     |some k=>
      rw[d] at e;dsimp only at e;obtain⟨i,j,l⟩:=fv.1 d;have f:a.toNat=k:=by omega
      rw[f] at b;rw[getD_some b] at e;rw[av g] at e;split at e
      ·exact absurd e (by decide)
      ·exact absurd e (by decide)
    ·rw[AN en];exact b
   ·rw[ao e];exact b
theorem offer (H:HI gh h) (v a b c:Int):HI gh (iC h v a b c):=by
 unfold iC;split
 ·have j: ∀{n:Nat} {x:GT},lA h.gr v a b=0->(kz h.gr v a b).toNat=n->h.gr[n]? =some x->x=zG:=λ{n x} e en d=>by
   unfold kz at en;rw[av e] at en;have q:de h.gr e8 h.gr.length≠[]:=λhc=>by
    unfold lA at e;split at e
    ·exact absurd e (by decide)
    ·split at e
     ·exact absurd e (by decide)
     ·exact absurd e (by decide)
   obtain⟨y,l,k⟩:=List.exists_cons_of_ne_nil q;have m:y∈de h.gr e8 h.gr.length:=by rw[k];exact BI
   rw[k] at en;have en:y.toNat=n:=en;unfold de at m;obtain⟨i,hi,rfl⟩:=B1.1 m;have o:=(B3.1 hi).2;have r:i=n:=en;subst r;rw[getD_some d] at o;simpa[e8] using o
  have s:(jY h.gr v a b (c==1)).length=h.gr.length:=by
   unfold jY;split
   ·rw[Av]
   ·rfl
  refine H.grs (H.hc.Pl s (H.hc.gk.off _ _ _ _) (λ{n x y} d f=>?_) λ{n x} d p=>?_)
  ·unfold jY at f;by_cases e:lA h.gr v a b=0
   ·rw[av e] at f;by_cases en:(kz h.gr v a b).toNat=n
    ·have g:=j e en d;subst en;rw[Al (Ak.1 d).1] at f;cases f;rw[g];rfl
    ·rw[AN en,d] at f;cases f;rfl
   ·rw[ao e,d] at f;cases f;rfl
  ·unfold jY;by_cases e:lA h.gr v a b=0
   ·rw[av e];by_cases en:(kz h.gr v a b).toNat=n
    ·have g:=j e en d;rw[g] at p;exact absurd p (by decide)
    ·rw[AN en];exact d
   ·rw[ao e];exact d
 ·exact H
theorem Jn (H:HI gh h) {v:Int} (l:aR h.g v=true) {a b:Int} (e:oX h v a b=0): ∃dw,HI dw (j8 h v a b)/\uM h (j8 h v a b) (λi q=>i=v.toNat/\q=a) (-1)/\(iw h v.toNat a).2.2.1=0/\iw (j8 h v a b) v.toNat a=((iw h v.toNat a).1,b,0,())/\(j8 h v a b).g=h.g/\uE gh dw h.s (j8 h v a b).s:=by
 obtain⟨x,c,o,hv, _⟩:=bL l;unfold oX at e;unfold j8;split at e
 ·exact absurd e (by decide)
 rename_i c1;rw[ao c1];split at e
 ·exact absurd e (by decide)
 rename_i c2;rw[ao c2];split at e
 ·exact absurd e (by decide)
 rename_i c3;rw[ao c3];rw[o] at e ⊢;obtain⟨n,rfl⟩: ∃n:Nat,v=(n:Int):=⟨v.toNat,hv.symm⟩;have c:h.g n=some x:=c;obtain⟨u,g',C,f,j, _⟩:=H.inv.tj (H.root c) e;have p:ng h n a=some (bu h.s x.root false a).1:=by rw[cN c,av f]
 have k:=H.yK c (s1:=h.s) (λ_ _=>rfl) H.inv C (y:=some (bu h.s x.root false a).1) (by rw[j,av rfl]) (h':=bE h (rE h.s (n:Int) x.root false a b)) rfl (λ_=>rfl);rw[MK p] at k;rw[show((n:Int)).toNat=n from rfl];have r:(bE h (rE h.s (n:Int) x.root false a b)).g n=some x:=c;refine⟨g',H.base C ⟨rfl,rfl⟩ H.nl rfl (λ_=>rfl) ?_,⟨H.Gr (λ_ _=>rfl) H.inv C (h':=bE h (rE h.s (n:Int) x.root false a b)) rfl (λ_=>rfl),λ{m d d'} h1 t _ _ _=>C.kp.ws h1 t,C.kd⟩,by rw[bM c];exact f,by rw[bM c,bM r];exact j,rfl,C.gks⟩;rw[k];exact Kept.hc H.hc C.kp
theorem Jo {v a b:Int} (e:oX h v a b≠0):j8 h v a b=h:=by
 unfold oX at e;unfold j8;split
 ·rfl
 rename_i c1;rw[ao c1] at e;split
 ·rfl
 rename_i c2;rw[ao c2] at e;split
 ·rfl
 rename_i c3;rw[ao c3] at e;rw[Vu e];rfl
theorem tj (H:HI gh h) {v:Int} (c:aR h.g v=true) (a b:Int): ∃dw,HI dw (j8 h v a b):=by
 by_cases e:oX h v a b=0
 ·obtain⟨g',d, _⟩:=H.Jn c e;exact⟨g',d⟩
 ·rw[Jo e];exact⟨gh,H⟩
end HI
end
set_option maxRecDepth 100000
open Go.RX D
section
variable {gh:Gh} {h:HS}
theorem gL {gh:Gh} {s s':WD} (I:Inv gh s) (a:s'.1.length=s.1.length/\s'.2.length=s.2.length)
 (g: ∀b:Int,dv s'.1 b≠dv s.1 b-> ∃(n:Nat) (d:DT),s.2[n]? =some d/\d.1≠3/\16*(n:Int)<=b/\b<16*(n:Int)+16)
 (i: ∀{n:Nat} {d d':DT},s.2[n]? =some d->s'.2[n]? =some d'->(d'=d\/(d.1≠3/\d'.1≠3/\(d'.1=0->d'=zD)))):Inv.e_ gh s s' where
 len:=a
 ws:=λ{f o x k l} j h0 h1=>by
  refine B2 λm=>?_;obtain⟨n,d,t,u,v,w⟩:=g _ m;have y:=I.kd j;have e:f.toNat=n:=by omega
  grind
 tb:=λ{n d} h p=>by
  grind
 bt:=λh p=>by
  grind
 fz:=λd q h0=>by
  obtain⟨n,c⟩:=Bs q;have r:n<s.2.length:=by rw[<-a.2];exact(Ak.1 c).1
  have h':=B6 r;rcases i h' c with e|⟨_, _,e⟩
  ·rw[e] at h0 ⊢;exact I.fz _ (B4 h') h0
  ·grind
theorem qm {ds:List DT} {n m:Nat} {d0 d1 d d':DT} (h0:ds[n]? =some d0) (h:ds[m]? =some d) (h':(ds.set n d1)[m]? =some d'):(m=n/\d=d0/\d'=d1)\/(m≠n/\d'=d):=by
 grind
namespace HI
theorem TC (H:HI gh h) {i:Nat} {p f:Int} (b:ng h i p=some f): ∃(n:Nat) (d:DT),f=(n:Int)/\h.s.2[n]? =some d/\d.1=4/\1<=d.2.1/\d.2.1<=16/\d=(4,d.2.1,(eo (lV h) (n:Int):Int),0,()):=by
 obtain⟨n,d,h1,a,c⟩:=H.hc.at4 b;obtain⟨j,q,g,e, _⟩:=H.hc.Te a c;have:=H.hc.jl e;obtain:=H.hc.kd a;have k:=H.hc.refs a
 grind
structure aby (h h':HS) (v:Nat) (a b:Int) (f:Nat):Prop where
 g:h'.g=h.g
 gr:h'.gr=h.gr
 po:h'.po=h.po
 Wv:(iw h v a).2.2.1=4
 pg:iw h' v a=((f:Int),b,0,())
 fr:h.s.2[f]? =some zD
 f4:h'.s.2[f]? =some (4,(v:Int),0,0,())
 ef:uM h h' (λi q=>i=v/\q=a) (f:Int)
 zr: ∀k:Int,0<=k->k<16->dv h'.s.1 (16*(f:Int)+k)=0
 ct:cd h.s.2 0<=cd h'.s.2 0+4
theorem Gt (H:HI gh h) {v:Int} (X:aR h.g v=true) {a b:Int} (o:lj h v a b=0): ∃dw f,HI dw (jq h v a b)/\aby h (jq h v a b) v.toNat a b f/\iO h v=(f:Int)/\uE gh dw h.s (jq h v a b).s:=by
 obtain⟨x,p,K,hv,Y,Z⟩:=bL X;unfold lj at o;unfold jq;by_cases L:a>=65536
 ·rw[av L] at o;exact absurd o (by decide)
 rw[ao L] at o ⊢;by_cases M:b<1\/b>7
 ·rw[av M] at o;exact absurd o (by decide)
 rw[ao M] at o ⊢;by_cases w:dS h.s.2 4 v=0
 case neg=>rw[av w] at o;exact absurd o w
 rw[ao (λe=>e w)] at o ⊢;obtain⟨n,uy,u,t1,t2,t3⟩:=se (vh w) H.inv.fz ⟨Y,Z⟩;have N:iO h v=(n:Int):=t1;have r:iA h v=(h.s.1,h.s.2.set n (4,v,0,0,())):=by unfold iA;rw[t3]
 have hM:qC h v a b=jE (iA h v) v (aT h.g v) false a (iO h v) b:=rfl;rw[ao (λe=>e o)];rw[hM,N,K];rw[N,K] at o;obtain⟨m,rfl⟩: ∃m:Nat,v=(m:Int):=⟨v.toNat,hv.symm⟩;have p:h.g m=some x:=p;have hlen:=H.sz;have B:Inv.e_ gh h.s (iA h (m:Int)):=by
  rw[r];refine gL H.inv ⟨rfl,by rw[Av]⟩ (λb hb=>absurd rfl hb) λ{i d d'} h1 A=>?_;rcases qm u h1 A with ⟨_,e1,D⟩|⟨_,D⟩
  ·exact .inr ⟨by rw[e1];decide,by rw[D];exact(show ¬ (4:Int)=3 by decide),λc=>by rw[D] at c;exact absurd c (show ¬ (4:Int)=0 by decide)⟩
  ·exact .inl D
 have E:=H.inv.beside B;obtain⟨hp,g',C,O,q2,P, _,⟨f0,j,hE,hc⟩, _⟩:=E.map (H.root p) o;have hj:=(E.kd hE.1).2.2.2.2.2;have hcT:cd (iA h (m:Int)).2 0+1=cd h.s.2 0:=by
  rw[r];have:=pX (d':=((4:Int),(m:Int),(0:Int),(0:Int),())) u 0;exact this
 have rh:ng h m a=none:=by
  rw[cN p, <-H.inv.dC B (H.root p),ao (by rw[P];decide)]
 have Z_:HC (ny (ng h) m a (some (n:Int))) (lV h) (iA h (m:Int)).2 h.gr:=by
  rw[r];exact H.hc.Gq (by omega) hp u rfl rh
 have NI:=Kept.hc Z_ C.kp;have kp:=C.kp;have Q:(iA h (m:Int)).1=h.s.1:=rfl;generalize jE (iA h (m:Int)) (m:Int) x.root false a (n:Int) b=l at*
 have qp:=H.yK p (λ{i z} F q=>H.inv.dC B (H.root F) q) E C (y:=some (n:Int)) (by rw[O,av rfl]) (h':=bE h l) rfl (λ_=>rfl);have G:HI g' (bE h l):=H.base C B.len (Inv.na B H.nl) rfl (λ_=>rfl) (by rw[qp];exact NI);have R:l.2[n]? =some (4,(m:Int),0,0,()):=C.kp.ks (by rw[r];exact Al uy) rfl;have Ie:l.2.length=h.s.2.length:=by rw[C.len.2,B.len.2]
 have Wk:l.1.length=h.s.1.length:=by rw[C.len.1,B.len.1]
 have S:(eZ l.1 (n:Int) (λ_=>0) 16).length=l.1.length:=gK _ _ _ _;have I: ∀b,dv (eZ l.1 (n:Int) (λ_=>0) 16) b=if 16*(n:Int)<=b/\b<16*(n:Int)+16 then 0 else dv l.1 b:=λb=>tn (by omega) (by omega) 16 (E5 _) b;generalize eZ l.1 (n:Int) (λ_=>0) 16=W at S I ⊢;have T:Inv.e_ g' l (W,l.2):=by
  refine gL C.inv ⟨S,rfl⟩ (λb hb=>⟨n, _,R,(show ¬ (4:Int)=3 by decide),?_⟩) λ{i d d'} h1 A=>?_
  ·grind
  ·rw[h1] at A;cases A;exact .inl rfl
 have H3:=G.side (z4:=h.gr) (Nu:=h.po) T G.hc;have U: ∀{i:Nat} {q:Int},iw {s:=(W,l.2),g:=h.g,gr:=h.gr,po:=h.po} i q=iw (bE h l) i q:=λ{i q}=>by
  cases hi:h.g i with
  |none=>unfold iw;rw[show(bE h l).g i=none from hi];dsimp only;rw[hi]
  |some z=>rw[bM (h:=bE h l) hi,bM (h:={s:=(W,l.2),g:=h.g,gr:=h.gr,po:=h.po}) hi];exact C.inv.dC T (G.root hi) q
 refine⟨g',n,H3,⟨rfl,rfl,rfl,?_,?_,u,R,⟨⟨λ{i q} hn=>?_⟩,λ{i d d'} V h4 _ _ dh k k0 J=>?_,KD.trans (t:=iA h (m:Int)) (by rw[r];exact KD.set u (λc=>absurd c (by decide)) (λc=>absurd c (by decide))) (C.kd.trans (.refl rfl))⟩,λk k0 J=>?_,?_⟩,rfl,((uE.kd (by rw[r];exact KD.set u (λc=>absurd c (by decide)) (λc=>absurd c (by decide))) (λ_ _ _ _ _=>by rw[Q])).trans C.gks).trans (uE.kd (.refl rfl) λ{i d} V h5 k k0 J=>?_)⟩
 ·rw[show((m:Int)).toNat=m from rfl,bM p, <-H.inv.dC B (H.root p)];exact P
 ·exact U.trans ((bM (h:=bE h l) p a).trans O)
 ·exact U.trans ((H.Gr (λ{i z} F q=>H.inv.dC B (H.root F) q) E C (h':=bE h l) rfl (λ_=>rfl)).to hn)
 ·show dv W _= _;rw[I,ao (by omega)];have Np:(iA h (m:Int)).2[i]? =some d:=by
   rw[r];show(h.s.2.set n _)[i]? = _;rw[AN (by omega)];exact V
  rw[kp.ws Np h4 k k0 J,Q]
 ·show dv W _= _;rw[I,av (by omega)]
 ·show _<=cd l.2 0+4;omega
 ·show dv W _= _
  grind
theorem Pn (H:HI gh h) {v:Int} (j:aR h.g v=true) {a b:Int} (c:lj h v a b≠0):jq h v a b=h:=by
 obtain⟨x,q,r,hv,f,i⟩:=bL j;unfold lj at c;unfold jq;split
 ·rfl
 rename_i c1;rw[ao c1] at c;split
 ·rfl
 rename_i c2;rw[ao c2] at c;split
 ·rename_i e;have:iA h v=(h.s.1,h.s.2):=by unfold iA;rw[Bi e]
  rw[this];rfl
 rename_i d;rw[ao d] at c;have d:=B2 d;rw[av c];obtain⟨n,k,l,t1,t2,t3⟩:=se (vh d) H.inv.fz ⟨f,i⟩;have m:iO h v=n:=t1;have o:iA h v=(h.s.1,h.s.2.set n (4,v,0,0,())):=by unfold iA;rw[t3]
 have p:qC h v a b=jE _ v _ _ a _ b:=rfl;rw[p,Je c,o,m];have:=yy (Al k) (MJ ⟨f,i⟩);rw[this.1,Se l];rfl
theorem Gq (H:HI gh h) {v:Int} (c:aR h.g v=true) (a b:Int): ∃dw,HI dw (jq h v a b):=by
 by_cases e:lj h v a b=0
 ·obtain:=H.Gt c e
  grind
 ·rw[H.Pn c e];grind
structure abz (h h':HS) (v:Nat) (a:Int) (f:Nat):Prop where
 g:h'.g=h.g
 Wv:(iw h v a).2.2.1=0/\(iw h v a).1=(f:Int)
 pg:iw h' v a=(0,0,4,())
 f5:h'.s.2[f]? =some (5,(v:Int),0,0,())
 ef:uM h h' (λi q=>i=v/\q=a) (-1)
theorem Pq (H:HI gh h) {v:Int} (B:aR h.g v=true) {a:Int} (e:xi h v a=0): ∃dw f,HI dw (qB h v a)/\abz h (qB h v a) v.toNat a f/\uE gh dw h.s (qB h v a).s:=by
 obtain⟨x,l,L,hv,uL,rl⟩:=bL B;unfold qB;rw[av e];obtain⟨m,rfl⟩: ∃m:Nat,v=(m:Int):=⟨v.toNat,hv.symm⟩;have l:h.g m=some x:=l;have M:fX h.g h.s (m:Int) a=bu h.s x.root false a:=by
  unfold fX;grind
 unfold xi at e;rw[M] at e ⊢;rw[L];split at e
 ·exact absurd e (by decide)
 split at e
 ·rename_i c;exact absurd e c
 rename_i c1;have c1:(bu h.s x.root false a).2.2.1=0:=B2 c1;split at e
 ·exact absurd e (by decide)
 rename_i c2;split at e
 ·exact absurd e (by decide)
 rename_i c3;have u:ng h m a=some (bu h.s x.root false a).1:=by rw[cN l,av c1]
 obtain⟨n,d,D,w,d4,do1,do2,r⟩:=H.TC u;have E:cm (lV h m) a=none:=by
  cases N:cm (lV h m) a with
  |none=>rfl
  |some y=>
   refine absurd ((tF B (x:=x) l).2 ?_) c2;rw[gx l] at N;unfold Nr
   grind
 rw[D] at c3 u ⊢;rw[pa w] at c3;have F:eo (lV h) (n:Int)=0:=by
  have:=H.hc.refs w;omega
 have I:=(H.inv.Pj (H.root l) c1).1;obtain⟨g',C,J, _⟩:=H.inv.DI (H.root l) I (H.inv.aaz H.nl (H.root l) I c1);have O:=Kept.hc H.hc C.kp;generalize nj h.s (m:Int) x.root false a=j at*
 have t:=C.kp.ks w d4;rw[F] at r;have r:d=(4,d.2.1,0,0,()):=r;have Q:d.2.1=(m:Int):=by
  obtain⟨R,d',S,K, _,T⟩:=H.hc.own u E;have:R=n:=B8 S;subst this;rw[w] at K;cases K;exact T
 rw[Q] at r;rw[r] at t;have U:=yy (G:=aO 5 (m:Int)) t (Bw ⟨by omega,by omega⟩);rw[U.1];have V:=O.CD (o:=(m:Int)) ⟨by omega,by omega⟩ u E F;have A:Inv.e_ g' j (j.1,j.2.set n (5,(m:Int),0,0,())):=by
  refine gL C.inv ⟨rfl,by rw[Av]⟩ (λb hb=>absurd rfl hb) λ{i d d'} h1 h2=>?_
  grind
 have W:=H.yK l (λ{i z} k q=>rfl) H.inv C (y:=none) (by rw[J];rfl) (h':=bE h j) rfl (λ_=>rfl);have X:=by
  funext i p;cases k:h.g i with
  |none=>exact(gw (h:=bE h (j.1,j.2.set n (5,(m:Int),0,0,()))) k p).trans (gw (h:=bE h j) k p).symm
  |some z=>
   refine(cN (h:=bE h (j.1,j.2.set n (5,(m:Int),0,0,()))) k p).trans (Eq.trans ?_ (cN (h:=bE h j) k p).symm);show(if(bu (j.1,j.2.set n (5,(m:Int),0,0,())) z.root false p).2.2.1=0 then some (bu (j.1,j.2.set n (5,(m:Int),0,0,())) z.root false p).1 else none)=if(bu j z.root false p).2.2.1=0 then some (bu j z.root false p).1 else none;rw[C.inv.dC A (C.root.to (H.root k))]
 have Y:(bE h j).g m=some x:=l;have Z:n<j.2.length:=(Ak.1 t).1;have sp: ∀P,Aa (bE h j) (bE h (j.1,j.2.set n (5,(m:Int),0,0,()))) P:=λP=>⟨λ{i q} _=>by
  cases k:h.g i with
  |none=>exact(gu (h:=bE h (j.1,j.2.set n (5,(m:Int),0,0,()))) k q).trans (gu (h:=bE h j) k q).symm
  |some z=>exact(bM (h:=bE h (j.1,j.2.set n (5,(m:Int),0,0,()))) k q).trans ((C.inv.dC A (C.root.to (H.root k)) q).trans (bM (h:=bE h j) k q).symm)⟩
 suffices hh:HI g' (bE h (j.1,j.2.set n (5,(m:Int),0,0,()))) from⟨g',n,hh,⟨rfl,by rw[show((m:Int)).toNat=m from rfl,bM l];exact⟨c1,D⟩,((sp (λ_ _=>False)).to (λc=>c)).trans ((bM Y a).trans J),Al Z,Aa.trans (H.Gr (λ_ _=>rfl) H.inv C (h':=bE h j) rfl (λ_=>rfl)) (sp _),λ{i d d'} h1 h4 _ _ _=>C.kp.ws h1 h4,C.kd.trans (KD.set t (λ_=> .inr rfl) (by grind))⟩,C.gks.trans (uE.kd (KD.set t (λ_=> .inr rfl) (λc=>absurd (show(4:Int)=5 from c) (by decide))) λ_ _ _ _ _=>rfl)⟩
 exact{inv:=C.inv.beside A,rt:=H.rt.dx C.root,nl:=Inv.na A (C.lg (λo q q' a b=>a.2.trans b.2.symm) H.nl),sz:=by
        show j.1.length=16*(j.2.set n (5,(m:Int),0,0,())).length;rw[Av,C.len.1,C.len.2];exact H.sz
       ,jl:=H.jl,root:=λ{i z} k=>C.root.to (H.root k),own:=λ{f o y} hf=>H.own ((C.root o f y).1 hf),hc:=by rw[X,W];exact V}
theorem CD (H:HI gh h) {v:Int} (b:aR h.g v=true) (a:Int): ∃dw,HI dw (qB h v a):=by
 by_cases e:xi h v a=0
 ·obtain:=H.Pq b e
  grind
 ·rw[show qB h v a=h from ao e];grind
end HI
end
set_option maxRecDepth 100000
open Go.RX D
theorem By (k:Nat): ∀l:List TK,(∀t∈l,0<=t.2.1/\t.2.1<(k:Int))->l.length<=((B5 k).map λa=>l.countP λt=>t.2.1==((a:Nat):Int)).sum
 |[], _=>Fg _
 |t::l,h=>by
  have c:=By k l λu b=>h u (BQ _ b);have d:=h t BI;have e:(λa:Nat=>(t::l).countP λt=>t.2.1==((a:Nat):Int))=ll (λa:Nat=>l.countP λt=>t.2.1==((a:Nat):Int)) t.2.1.toNat (l.countP (λu=>u.2.1==((t.2.1.toNat:Nat):Int))+1):=by
   funext a;rw[E4];by_cases e:a=t.2.1.toNat
   ·subst e;rw[kW,av (by simp;omega)]
   ·rw[nN e,ao (by simp;omega)];rfl
  have:=CB (λa:Nat=>l.countP λt=>t.2.1==((a:Nat):Int)) t.2.1.toNat (l.countP (λu=>u.2.1==((t.2.1.toNat:Nat):Int))+1) k;rw[av (by omega),av (by omega)] at this;rw[e,Df];omega
theorem Pr {f:Nat->Nat} {c:Nat}: ∀l:List Nat,(∀x∈l,f x<=c)->(l.map f).sum<=c*l.length
 |[], _=>Fg _
 |x::l,h=>by
  have:=Pr l λy a=>h y (BQ _ a);have:=h x BI;rw[CX,FM,Df,Nat.mul_add];omega
theorem ML (tk:Nat->List TK) (q:TK->Bool):nv tk q=((B5 17).flatMap tk).countP q:=by
 unfold nv;rw[List.countP_flatMap];rfl
theorem MM (l:List TK) (k c:Nat) (h: ∀t∈l,0<=t.2.1/\t.2.1<(k:Int)) (hb: ∀a:Nat,a<k->(l.countP λt=>t.2.1==((a:Nat):Int))<=c):l.length<=c*k:=by
 have h1:=By k l h;have b:=Pr (f:=λa:Nat=>l.countP λt=>t.2.1==((a:Nat):Int)) (c:=c) (B5 k) λa d=>hb a (Dd.1 d);rw[List.length_range] at b;exact Nat.le_trans h1 b
namespace HC
variable {fr:Ih} {tk:Nat->List TK} {ds:List DT} {gr:List GT}
theorem ids (H:HC fr tk ds gr) {i:Nat} {t:TK} (h:t∈tk i):0<=t.2.1/\t.2.1<((16:Nat):Int):=by
 obtain⟨_,o, _,k,x,h1,b, _⟩:=H.C4 (a:=t.2.1) (f:=t.2.2) (H.N_ h);obtain⟨c,d, _⟩:=fv.1 h1;have:=H.gl;omega
theorem Jp (H:HC fr tk ds gr) (f:Int):eo tk f<=16000:=by
 have h0: ∀q,nv tk q=((B5 17).flatMap tk).countP q:=ML tk;have d: ∀t∈(B5 17).flatMap tk,0<=t.2.1/\t.2.1<((16:Nat):Int):=λt h=>by
  obtain⟨i, _,hi⟩:=List.mem_flatMap.1 h;exact H.ids hi
 have b: ∀a:Nat,a<16->nv tk (λt=>t.2.1==((a:Nat):Int))<=1000:=λa c=>by
  have j:a<gr.length:=by rw[H.gl];exact c
  have e:gr[a]? =some gr[a]:=B6 j;have b:=H.uT e;have:=(H.gk _ (B4 e)).2;unfold mS at b;omega
 unfold eo;rw[h0];generalize (B5 17).flatMap tk=g at h0 d;have h1:=List.countP_le_length (p:=λt:TK=>t.2.2==f) (l:=g);have k:=MM g 16 1000 d λa c=>by rw[<-h0];exact b a c
 omega
end HC
theorem MN {gr:List GT} {k:Nat} {x:GT} (h:gr[k]? =some x) (y:GT):(gr.set k y).set k x=gr:=by
 apply FO;intro i;have a:k<gr.length:=(Ak.1 h).1;by_cases e:k=i
 ·subst e;rw[Al (by rw[Av];exact a),h]
 ·rw[AN e,AN e]
section
variable {gh dw:Gh} {h:HS}
theorem HI.fin (H:HI gh h) {v:Nat} {p:Int} {s1 d l:WD} (C:sM (oa (v:Int) 0 p) (v:Int) gh dw s1 d) (u:z_ gh s1) (m:s1.1.length=h.s.1.length/\s1.2.length=h.s.2.length) (B:Inv.e_ dw d l) {h':HS} (j:h'.s=l) (n: ∀i,(h'.g i).map GV.root=(h.g i).map GV.root)
 {F:Ih} (w:ng {h' with s:=d}=F) (hc:HC F (lV h') l.2 h'.gr):HI dw h':=by
 have r: ∀{i:Nat} {x:GV},h'.g i=some x-> ∃z,h.g i=some z/\x.root=z.root:=λ{i x} k=>by
  have hi:=n i;rw[k] at hi;cases hc:h.g i with
  |none=>rw[hc] at hi;cases hi
  |some z=>rw[hc] at hi;exact⟨z,rfl,by simpa using hi⟩
 have t: ∀{i:Nat} {x:GV},h'.g i=some x->dw x.root=some ((i:Int),3,0):=λ{i x} k=>by
  obtain⟨z,c,A⟩:=r k;rw[A];exact C.root.to (H.root c)
 refine⟨by rw[j];exact C.inv.beside B,H.rt.dx C.root,by rw[j];exact Inv.na B (C.lg (λo q G a b=>a.2.trans b.2.symm) u),?_,λ{i x} k=>?_,t,λ{f o y} D=>?_,?_⟩
 ·rw[j,B.len.1,B.len.2,C.len.1,C.len.2,m.1,m.2];exact H.sz
 ·obtain⟨z,c, _⟩:=r k;exact H.jl c
 ·obtain⟨i,x,h1,E⟩:=H.own ((C.root o f y).1 D);have hi:=n i;rw[E] at hi;cases hc:h'.g i with
  |none=>rw[hc] at hi;cases hi
  |some z=>exact⟨i,z,h1,hc⟩
 ·have e:ng h'=F:=by
   rw[<-w];funext i q;cases c:h'.g i with
   |none=>exact(gw c q).trans (gw (h:={h' with s:=d}) c q).symm
   |some z=>
    refine(cN c q).trans (Eq.trans ?_ (cN (h:={h' with s:=d}) c q).symm);show _=if(bu d z.root false q).2.2.1=0 then some (bu d z.root false q).1 else none;rw[j,C.inv.dC B (t c)]
  rw[e,j];exact hc
theorem HI.Jq (H:HI gh h) {v:Nat} {p:Int} {b e:WD} (C:sM (oa (v:Int) 0 p) (v:Int) gh dw h.s b) (B:Inv.e_ dw b e) (l:e.1=b.1) (n:KD b e) {h':HS} (f:h'.s=e) (j: ∀i,(h'.g i).map GV.root=(h.g i).map GV.root):
 uM h h' (λi q=>i=v/\q=p) (-1)/\ ∀{i:Nat} {x:GV},h.g i=some x-> ∀q,iw h' i q=bu b x.root false q:=by
 have r: ∀{i:Nat} {x:GV},h.g i=some x-> ∃z,h'.g i=some z/\z.root=x.root:=λ{i x} a=>by
  have hi:=j i;rw[a] at hi;cases hc:h'.g i with
  |none=>rw[hc] at hi;cases hi
  |some z=>rw[hc] at hi;exact⟨z,rfl,by simpa using hi⟩
 have key: ∀{i:Nat} {x:GV},h.g i=some x-> ∀q,iw h' i q=bu b x.root false q:=λ{i x} a q=>by
  obtain⟨z,t,u⟩:=r a;rw[bM t,f,u];exact C.inv.dC B (C.root.to (H.root a)) q
 refine⟨⟨⟨λ{i q} w=>?_⟩,λ{m d d'} h1 y _ _ _ k k0 A=>?_,?_⟩,key⟩
 ·cases a:h.g i with
  |none=>
   have hi:=j i;rw[a] at hi;rw[gu a,gu (by simpa using hi)]
  |some x=>
   rw[key a,bM a];refine H.inv.y9 C.inv C.Dr C.root (o:=(i:Int)) (H.root a) λc=>w ?_;obtain⟨c1,c2⟩:=c;exact⟨B8 c1,c2⟩
 ·rw[f,l];exact C.kp.ws h1 y k k0 A
 ·rw[f];exact C.kd.trans n
theorem nV {g:Gh} {s:WD} (I:Inv g s) {n:Nat} {o r r':Int} (e:s.2[n]? =some (4,o,r,0,())):Inv.e_ g s (s.1,s.2.set n (4,o,r',0,())):=
 gL I ⟨rfl,by rw[Av]⟩ (λb hb=>absurd rfl hb) λ{i d d'} h1 f=>by
  rcases qm e h1 f with ⟨_,h,a⟩|⟨_,a⟩
  ·exact .inr ⟨by rw[h];exact(show ¬ (4:Int)=3 by decide),by rw[a];exact(show ¬ (4:Int)=3 by decide),λc=>by rw[a] at c;exact absurd c (show ¬ (4:Int)=0 by decide)⟩
  ·exact .inl a
theorem kX {g:Nat->Option GV} {n:Nat} {x:GV} (a:g n=some x) (tk:List TK) (i:Nat):(bq g n (some {x with tk:=tk}) i).map GV.root=(g i).map GV.root:=by
 unfold bq;by_cases e:i=n
 ·subst e;rw[av rfl,a];rfl
 ·rw[ao e]
theorem Jr {h':HS} {g:Nat->Option GV} {n:Nat} {x:GV} (b:h.g n=some x) (tk:List TK) (a:h'.g=bq h.g n (some {x with tk:=tk})):lV h'=ll (lV h) n tk:=by
 funext i;unfold lV ll;rw[a];unfold bq;by_cases e:i=n
 ·rw[av e,av e]
 ·rw[ao e,ao e]
def NL (ds:List DT) (n:Nat) (o:Int):Prop:= ∃d:DT,ds[n]? =some d/\d.1=4/\d.2.1=o
theorem Kept.Te {s s':WD} (K:Kept s s') (n:Nat) (o:Int):NL s'.2 n o<->NL s.2 n o:=by
 constructor
 ·rintro⟨d,h1,a,b⟩;rcases K.nw h1 with h|⟨h, _⟩
  ·exact⟨d,h,a,b⟩
  ·omega
 ·rintro⟨d,h1,a,b⟩;exact⟨d,K.ks h1 a,a,b⟩
theorem VN {ds:List DT} {n:Nat} {o r r':Int} (h:ds[n]? =some (4,o,r,0,())) (m:Nat) (o':Int):NL (ds.set n (4,o,r',0,())) m o'<->NL ds m o':=by
 have b:n<ds.length:=(Ak.1 h).1;unfold NL;by_cases e:n=m
 ·subst e;rw[Al b,h];constructor
  ·rintro⟨d,h1,c,a⟩;cases h1;exact⟨_,rfl,rfl,a⟩
  ·rintro⟨d,h1,c,a⟩;cases h1;exact⟨_,rfl,rfl,a⟩
 ·rw[AN e]
theorem HI.FX (H:HI gh h) {v:Nat} {p id f:Int} {x:GV} (a:h.g v=some x) (J:cm x.tk p=some (id,f)): ∃dw,HI dw (dA h (v:Int) p id f)/\(∀n o,NL (dA h (v:Int) p id f).s.2 n o<->NL h.s.2 n o)/\uM h (dA h (v:Int) p id f) (λi q=>i=v/\q=p) (-1)/\iw (dA h (v:Int) p id f) v p=(0,0,4,())/\uE gh dw h.s (dA h (v:Int) p id f).s:=by
 have j:cm (lV h v) p=some (id,f):=by rw[gx a];exact J
 obtain⟨l,o,Y,K⟩:=H.hc.C4 j;obtain⟨k,y,g1,e,Z,L, _⟩:=K;obtain⟨n,d,M,r,d4,N,O,P⟩:=H.TC l;subst M;obtain⟨Q,k2,u⟩:=fv.1 g1;rw[getD_some e] at u;subst Q;have R:aT h.g (v:Int)=x.root:=by
  have r:=H.jl a;unfold aT;rw[av (cj.2 ⟨by omega,x,a⟩)];show(match h.g v with|some x=>x.root|none=> -1)= _;rw[a]
 have A:(bu h.s x.root false p).2.2.1=0:=by
  rw[cN a] at l;by_cases c:(bu h.s x.root false p).2.2.1=0
  ·exact c
  ·rw[ao c] at l;cases l
 have B:=(H.inv.Pj (H.root a) A).1;obtain⟨g',C,D, _⟩:=H.inv.DI (H.root a) B (H.inv.aaz H.nl (H.root a) B A);have Tx:=H.jl a;have oJ:0<eo (lV h) (n:Int):=nO (q:=λt=>t.2.2==(n:Int)) (by omega:v<17) (H.hc.Kc j) (by simp);have acB:0<mS (lV h) (k:Int):=nO (q:=λt=>t.2.1==(k:Int)) (by omega:v<17) (H.hc.Kc j) (by simp);have aci:=H.hc.Jp (n:Int);have S:mz h.gr (k:Int) (v:Int)=0:=by
  unfold mz;rw[g1];dsimp only;rw[getD_some e,ao (by rw[L];simp),ao (by rw[H.hc.uT e];omega)]
 have E:eM h.gr (k:Int) (v:Int)=h.gr.set k (fl y (-1)):=by
  unfold eM;rw[av S];show h.gr.set k (fl (h.gr.getD k zG) (-1))= _;rw[getD_some e]
 have T:=Kept.hc H.hc C.kp;have U:dA h (v:Int) p (k:Int) (n:Int)={s:=((nj h.s (v:Int) x.root false p).1,dJ (nj h.s (v:Int) x.root false p).2 (n:Int) (g_ (-1))),g:=bq h.g v (some {x with tk:=x.tk.filter λt=> !(t.1==p)}),gr:=h.gr.set k (fl y (-1)),po:=h.po}:=by
  unfold dA;rw[R,E];show HS.mk _ (bq h.g v (match h.g v with|some x=> _|none=>none)) _ _= _;rw[a]
 rw[U];generalize nj h.s (v:Int) x.root false p=F at*
 have b:=C.kp.ks r d4;rw[P] at b;have V:=yy (G:=g_ (-1)) b (aaB ⟨N,O⟩ ⟨by omega,by omega⟩ ⟨by omega,by omega⟩);rw[V.1];have W:n7 (h.gr.set k (fl y (-1))):=by rw[<-E];exact H.hc.gk.back _ _
 have X:=T.FX j b e u W;have I:=H.Jq C (nV (r':=(eo (lV h) (n:Int):Int)+ -1) C.inv b) rfl (KD.set b (λ_=> .inl rfl) (λc=>absurd (show(4:Int)=5 from c) (by decide))) (h':={s:=(F.1,F.2.set n (4,d.2.1,(eo (lV h) (n:Int):Int)+ -1,0,())),g:=bq h.g v (some {x with tk:=x.tk.filter λt=> !(t.1==p)}),gr:=h.gr.set k (fl y (-1)),po:=h.po}) rfl (λi=>kX a _ i);refine⟨g',H.fin C H.nl ⟨rfl,rfl⟩ (nV C.inv b) rfl (λi=>kX a _ i) (H.yK a (λ{i z} hz q=>rfl) H.inv C (y:=none) (by rw[D];rfl) rfl (λi=>kX a _ i)) ?_,λm w=>(VN b m w).trans (C.kp.Te m w),I.1,(I.2 a p).trans D,C.gks.trans (uE.kd (KD.set b (λ_=> .inl rfl) (λc=>absurd (show(4:Int)=5 from c) (by decide))) λ_ _ _ _ _=>rfl)⟩;rw[Jr (g:=h.g) a _ rfl, <-gx a];exact X
end
set_option maxRecDepth 100000
open Go.RX D
section
variable {gh dw:Gh} {h:HS}
theorem MO {v p:Int} (h0:(fX h.g h.s v p).2.2.1=0):aR h.g v=true/\ ∃x,h.g v.toNat=some x/\fX h.g h.s v p=bu h.s x.root false p:=by
 unfold fX at h0 ⊢;by_cases a:aR h.g v=true
 ·obtain⟨x,b, _⟩:=bL a;rw[av a,b];exact⟨a,x,rfl,rfl⟩
 ·rw[ao a] at h0;exact absurd h0 (by decide)
theorem Sf {v p:Int} {x:GV} (b:aR h.g v=true) (a:h.g v.toNat=some x) (hb: ¬ h_ h v p=true):cm x.tk p=none:=by
 cases c:cm x.tk p with
 |none=>rfl
 |some y=>
  refine absurd ((tF b a).2 ?_) hb;unfold Nr;rw[a];dsimp only;rw[c];rfl
theorem Sg {gs:List GT} {k:Nat} {x:GT} {v:Int} (h:gs[k]? =some x) (g:x≠zG) (hv:x.2.2.1=v) (m:0<=x.2.2.2.2.1) (i:n7 gs):eM (gs.set k (fl x 1)) (k:Int) v=gs:=by
 have f:k<gs.length:=(Ak.1 h).1;have h1:(gs.set k (fl x 1))[k]? =some (fl x 1):=Al f;have j:l6 (gs.set k (fl x 1)) (k:Int)=some k:=fv.2 ⟨rfl,by rw[Av];exact f,by rw[getD_some h1];exact xM i h g 1⟩;have l:mz (gs.set k (fl x 1)) (k:Int) v=0:=by
  unfold mz;rw[j];dsimp only;rw[getD_some h1,ao (by show ¬ x.2.2.1≠v;rw[hv];simp),ao (by show ¬ x.2.2.2.2.1+1=0;omega)]
 unfold eM;rw[av l];show(gs.set k (fl x 1)).set k (fl ((gs.set k (fl x 1)).getD k zG) (-1))=gs;rw[getD_some h1];have e:fl (fl x 1) (-1)=x:=by
  obtain⟨a,b,c,d,e,u⟩:=x;unfold fl;dsimp only;rw[show e+1+ -1=e by omega]
 rw[e];exact MN h _
theorem abA {v a b c:Int} (d:mB h v a b c=0):nr h v a b c=kl h.s (aT h.g v) false b (lP h a).1 (wN c):=by
 unfold mB at d;unfold nr;split at d
 ·exact absurd d (by decide)
 rename_i c1;rw[ao c1];split at d
 ·exact absurd d (by decide)
 rename_i c2;rw[ao c2];split at d
 ·exact absurd d (by decide)
 rename_i c3;rw[ao c3];split at d
 ·exact absurd d (by decide)
 rename_i c4;rw[ao c4];split at d
 ·exact absurd d (by decide)
 rename_i c5;rw[ao c5];split at d
 ·exact absurd d (by decide)
 rename_i c6;rw[ao c6,ao (λe=>e d)]
theorem HI.Js (H:HI gh h) {v a b c:Int} (W:aR h.g v=true) (f:mB h v a b c=0):
 (nr h v a b c=0-> ∃dw,HI dw (ij h v a b c)/\uM h (ij h v a b c) (λi q=>i=v.toNat/\q=b) (-1)/\(iw h v.toNat b).2.2.1=4/\iw (ij h v a b c) v.toNat b=((lP h a).1,wN c,0,())/\uE gh dw h.s (ij h v a b c).s)/\(nr h v a b c≠0->AL h v a b c=h):=by
 have J:=abA f;obtain⟨p4,t,K,u⟩:(lU h a).2.2.1=v/\(lP h a).2.2.1=0/\ ¬ h_ h (lU h a).1 (lU h a).2.1=true/\gX h.gr a v (c==1)=0:=by
  unfold mB at f;split at f
  ·exact absurd f (by decide)
  split at f
  ·exact absurd f (by decide)
  split at f
  ·exact absurd f (by decide)
  split at f
  ·exact absurd f (by decide)
  rename_i c4;split at f
  ·exact absurd f (by decide)
  rename_i c5;split at f
  ·exact absurd f (by decide)
  rename_i c6;exact⟨B2 λe=>c4 (.inl e),B2 c5,c6,f⟩
 obtain⟨x,j,L,hv,uL,rl⟩:=bL W;obtain⟨k,w⟩: ∃k,l6 h.gr a=some k:=by
  unfold gX at u;cases w:l6 h.gr a with
  |none=>rw[w] at u;exact absurd (show(4:Int)=0 from u) (by decide)
  |some k=>exact⟨k,rfl⟩
 obtain⟨B,X,D⟩:=fv.1 w;have l:h.gr[k]? =some h.gr[k]:=B6 X;obtain⟨y,Y⟩: ∃y,y=h.gr[k]:=⟨_,rfl⟩;rw[<-Y] at l;rw[getD_some l] at D;have M:lU h a=y:=by
  unfold lU wZ;rw[w];exact getD_some l
 have N:lP h a=fX h.g h.s y.1 y.2.1:=by unfold lP;rw[M]
 rw[M] at p4 K;rw[N] at t;obtain⟨O,P,r,Q⟩:=MO t;have Z:=Sf O r K;obtain⟨m,rfl⟩: ∃m:Nat,v=(m:Int):=⟨v.toNat,hv.symm⟩;have j:h.g m=some x:=j;obtain⟨o,R⟩: ∃o:Nat,y.1=(o:Int):=⟨y.1.toNat,by have:=cj.1 O;omega⟩;have r:h.g o=some P:=by rw[R] at r;exact r
 rw[Q] at t;have E:ng h o y.2.1=some (bu h.s P.root false y.2.1).1:=by rw[cN r,av t]
 obtain⟨n,d,S,hd,d4,do1,do2,TD⟩:=H.TC E;rw[S] at E;have F:(lP h a).1=(n:Int):=by rw[N,Q,S]
 have I:d_ h.gr a (m:Int) (c==1)=h.gr.set k (fl y 1):=by
  unfold d_;rw[av u, <-B];show h.gr.set k (fl (h.gr.getD k zG) 1)= _;rw[getD_some l]
 refine⟨λe=>?_,λe=>?_⟩
 ·rw[J,L,F] at e;obtain⟨hp,g',C,T, _,U, _⟩:=H.inv.map (H.root j) e;have acj:ng h m b=none:=by rw[cN j,ao (by rw[U];decide)]
  have jS:ij h (m:Int) a b c={s:=((jE h.s (m:Int) x.root false b (n:Int) (wN c)).1,dJ (jE h.s (m:Int) x.root false b (n:Int) (wN c)).2 (n:Int) (g_ 1)),g:=bq h.g m (some {x with tk:=mI (b,a,(n:Int)) x.tk}),gr:=h.gr.set k (fl y 1),po:=h.po}:=by
   unfold ij;rw[L,F,I];show HS.mk _ (bq h.g m (match h.g m with|some x=> _|none=>none)) _ _= _;rw[j]
  rw[jS];have NI:=Kept.hc H.hc C.kp;generalize jE h.s (m:Int) x.root false b (n:Int) (wN c)=A at*
  have p:=C.kp.ks hd d4;rw[TD] at p;have aci:=H.hc.Jp (n:Int);have qE:=yy (G:=g_ 1) p (aaB ⟨do1,do2⟩ ⟨by omega,by omega⟩ ⟨by omega,by omega⟩);rw[qE.1];have Wu:n7 (h.gr.set k (fl y 1)):=by rw[<-I];exact H.hc.gk.take _ _ _
  have Wi:=NI.take hp acj p l D R p4 E (by rw[gx r];exact Z) Wu;have V:=H.Jq C (nV (r':=(eo (lV h) (n:Int):Int)+1) C.inv p) rfl (KD.set p (λ_=> .inl rfl) (λc=>absurd (show(4:Int)=5 from c) (by decide))) (h':={s:=(A.1,A.2.set n (4,d.2.1,(eo (lV h) (n:Int):Int)+1,0,())),g:=bq h.g m (some {x with tk:=mI (b,a,(n:Int)) x.tk}),gr:=h.gr.set k (fl y 1),po:=h.po}) rfl (λi=>kX j _ i)
  suffices hh:HI g' {s:=(A.1,A.2.set n (4,d.2.1,(eo (lV h) (n:Int):Int)+1,0,())),g:=bq h.g m (some {x with tk:=mI (b,a,(n:Int)) x.tk}),gr:=h.gr.set k (fl y 1),po:=h.po} from⟨g',hh,V.1,by rw[show((m:Int)).toNat=m from rfl,bM j];exact U,by rw[F];exact(V.2 j b).trans T,C.gks.trans (uE.kd (KD.set p (λ_=> .inl rfl) (λc=>absurd (show(4:Int)=5 from c) (by decide))) λ_ _ _ _ _=>rfl)⟩
  refine H.fin C H.nl ⟨rfl,rfl⟩ (nV C.inv p) rfl (λi=>kX j _ i) (H.yK j (λ{i z} hz q=>rfl) H.inv C (y:=some (n:Int)) (by rw[T];rfl) rfl (λi=>kX j _ i)) ?_;rw[Jr (g:=h.g) j _ rfl, <-gx j, <-B];exact Wi
 ·rw[J] at e;unfold AL;rw[Je e,I, <-B,Sg l D p4 (H.hc.gk y (B4 l)).2.1 H.hc.gk]
theorem HI.Ps (H:HI gh h) {v a b c:Int} (f:aR h.g v=true) (e:nr h v a b c≠0):jx h v a b c=h:=by
 unfold jx;by_cases d:mB h v a b c=0
 ·rw[ao (λe=>e d),ao e];exact(H.Js f d).2 e
 ·exact av d
theorem Si {v a b c:Int} (e:nr h v a b c=0):mB h v a b c=0:=by
 unfold nr at e;unfold mB;split at e
 ·exact absurd e (by decide)
 rename_i c1;rw[ao c1];split at e
 ·exact absurd e (by decide)
 rename_i c2;rw[ao c2];split at e
 ·exact absurd e (by decide)
 rename_i c3;rw[ao c3];split at e
 ·exact absurd e (by decide)
 rename_i c4;rw[ao c4];split at e
 ·exact absurd e (by decide)
 rename_i c5;rw[ao c5];split at e
 ·exact absurd e (by decide)
 rename_i c6;rw[ao c6];split at e
 ·rename_i c7;exact absurd e c7
 rename_i c7;exact B2 c7
theorem HI.Pt (H:HI gh h) {v a b c:Int} (f:aR h.g v=true) (e:nr h v a b c=0):jx h v a b c=ij h v a b c/\ ∃dw,HI dw (ij h v a b c)/\uM h (ij h v a b c) (λi q=>i=v.toNat/\q=b) (-1)/\(iw h v.toNat b).2.2.1=4/\iw (ij h v a b c) v.toNat b=((lP h a).1,wN c,0,())/\uE gh dw h.s (ij h v a b c).s:=by
 have d:=Si e;refine⟨?_,(H.Js f d).1 e⟩;unfold jx;rw[ao (λe=>e d),av e]
theorem HI.take (H:HI gh h) {v:Int} (d:aR h.g v=true) (a b c:Int): ∃dw,HI dw (jx h v a b c):=by
 by_cases e:nr h v a b c=0
 ·obtain⟨h1,g',f, _⟩:=H.Pt d e;rw[h1];exact⟨g',f⟩
 ·rw[H.Ps d e];exact⟨gh,H⟩
theorem HI.Jt (H:HI gh h) {v:Int} (b:aR h.g v=true) {a:Int} (e:oY h v a=0): ∃dw,HI dw (gY h v a)/\uM h (gY h v a) (λi q=>i=v.toNat/\q=a) (-1)/\iw (gY h v a) v.toNat a=(0,0,4,())/\uE gh dw h.s (gY h v a).s:=by
 obtain⟨x,c,k,hv, _⟩:=bL b;unfold oY at e;unfold gY;split at e
 ·exact absurd e (by decide)
 rename_i c1;rw[ao c1];split at e
 ·rename_i c2;rw[av c2];have d:=(tF b c).1 c2;obtain⟨m,rfl⟩: ∃m:Nat,v=(m:Int):=⟨v.toNat,hv.symm⟩;obtain⟨g',f, _,E,j⟩:=H.FX (x:=x) c d;exact⟨g',f,E,j⟩
 ·exact absurd e (by decide)
theorem Ju {v a:Int} (e:oY h v a≠0):gY h v a=h:=by
 unfold oY at e;unfold gY;split
 ·rfl
 rename_i c1;rw[ao c1] at e;split
 ·rename_i c2;rw[av c2] at e;exact absurd rfl e
 ·rfl
theorem HI.back (H:HI gh h) {v:Int} (b:aR h.g v=true) (a:Int): ∃dw,HI dw (gY h v a):=by
 by_cases e:oY h v a=0
 ·obtain⟨g',c, _⟩:=H.Jt b e;exact⟨g',c⟩
 ·rw[Ju e];exact⟨gh,H⟩
theorem HI.e9 {v:Nat}: ∀(n:Nat) {gh:Gh} {h:HS},HI gh h->(∃x,h.g v=some x)->(lV h v).length=n->
 ∃dw,HI dw (e9 (v:Int) n h)/\(∃x,(e9 (v:Int) n h).g v=some x)/\lV (e9 (v:Int) n h) v=[]/\(∀i,i≠v->(e9 (v:Int) n h).g i=h.g i)/\(∀m o,NL (e9 (v:Int) n h).s.2 m o<->NL h.s.2 m o)/\uM h (e9 (v:Int) n h) (λi _=>i=v) (-1)/\uE gh dw h.s (e9 (v:Int) n h).s
 |0,gh,h,H,d,j=>⟨gh,H,d,List.length_eq_zero_iff.1 j,λ_ _=>rfl,λ_ _=>Iff.rfl,.refl _ _ _,uE.refl _ _⟩
 |n+1,gh,h,H,⟨x,d⟩,j=>by
  have z:vt h (v:Int)=x.tk:=by rw[abx];exact gx d
  have A:x.tk.length=n+1:=by rw[<-gx d];exact j
  have B:x.tk.map (·.1)≠[]:=λe=>by
   have:=congrArg List.length e;rw[DB,A] at this;simp at this
  have r:=Ey B (λy C=>by
   obtain⟨t,k,rfl⟩:=B1.1 C;have D:t∈lV h v:=by rw[gx d];exact k
   have:=H.hc.jl (H.hc.C4 (a:=t.2.1) (f:=t.2.2) (H.hc.N_ D)).1;omega)
  obtain⟨p,u⟩: ∃p,p=An (x.tk.map (·.1)):=⟨_,rfl⟩;rw[<-u] at r;obtain⟨t,k,E⟩:=B1.1 r;have l:=H.hc.nd v;rw[gx d] at l;have q:cm x.tk p=some t.2:=(jQ (a:=t.2.1) (b:=t.2.2) l).2 (by rw[<-E];exact k);have F:Nr h (v:Int) p=t.2:=by
   unfold Nr;show(match h.g v with|some x=>(cm x.tk p).getD (0,0)|none=>(0,0))= _;rw[d];dsimp only;rw[q];rfl
  have G:yx (v:Int) h=dA h (v:Int) p t.2.1 t.2.2:=by
   unfold yx;rw[z, <-u,F]
  obtain⟨U,I,J,K, _,L⟩:=H.FX (x:=x) d q;have w:(dA h (v:Int) p t.2.1 t.2.2).g v=some {x with tk:=x.tk.filter λt=> !(t.1==p)}:=by
   show bq h.g v (match h.g v with|some x=> _|none=>none) v= _;rw[d,fH]
  have M:(lV (dA h (v:Int) p t.2.1 t.2.2) v).length=n:=by
   rw[gx w];have:=(Bv l q).length_eq;rw[Df] at this;show(x.tk.filter λt=> !(t.1==p)).length=n;omega
  obtain⟨N,h1,O,P,Q,R,S,T⟩:=HI.e9 n I ⟨_,w⟩ M;have e:_root_.Go.Proofs.YtlcenllcmeebhaaGreat.e9 (v:Int) (n+1) h=_root_.Go.Proofs.YtlcenllcmeebhaaGreat.e9 (v:Int) n (dA h (v:Int) p t.2.1 t.2.2):=by rw[<-G];rfl
  rw[e];refine⟨N,h1,O,P,λi hi=>?_,λm o=>(R m o).trans (J m o),uM.trans (K.mono λc=>c.1) S,L.trans T⟩;rw[Q i hi];show bq h.g v _ i=h.g i;unfold bq;rw[ao hi]
end
section
variable {gh dw:Gh} {h:HS}
theorem MP {v:Int} {x:GV} (a:aR h.g v=true) (b:h.g v.toNat=some x) (p:Int):fX h.g h.s v p=bu h.s x.root false p:=by grind[fX]
theorem HI.word (H:HI gh h) {v:Int} (f:aR h.g v=true) {a t:Int} (u:0<=a) (k:0<=t/\t<=7):
 (a<1048576/\(fX h.g h.s v (a / 16)).2.2.1=0/\iW h v a t=(16*(fX h.g h.s v (a / 16)).1+a % 16,if dV true (fX h.g h.s v (a / 16)).2.1 false (fX h.g h.s v (a / 16)).1 t=true then 0 else 7)/\
  ∃n:Nat,(fX h.g h.s v (a / 16)).1=(n:Int)/\n<h.s.2.length/\ng h v.toNat (a / 16)=some (n:Int))\/
 ((a>=1048576/\(iW h v a t).2=2)\/(a<1048576/\fX h.g h.s v (a / 16)=(0,0,4,())/\(iW h v a t).2=4)):=by
 obtain⟨x,b,l,hv,w,y⟩:=bL f;rw[MP f b];unfold iW;by_cases m:a>=1048576
 grind
 rw[ao m,l];have o:=H.root b;have p:0<=a / 16/\a / 16<65536:=by omega
 have i:=H.inv.Gs H.nl o p k;by_cases e:(bu h.s x.root false (a / 16)).2.2.1=0
 ·rw[av e] at i;have j:ng h v.toNat (a / 16)=some (bu h.s x.root false (a / 16)).1:=by rw[cN b,av e]
  obtain⟨n,d,c,q, _⟩:=H.TC j;have r:=(Ak.1 q).1;have z:=H.inv.le;refine .inl ⟨by omega,e,?_,n,c,r,by rw[j,c]⟩;rw[i];rw[c,eH (by omega) (by omega),ax (by omega) (by omega)]
 ·refine .inr (by grind[Inv.ZE])
theorem HI.Sj (H:HI gh h) {n:Nat} {d:DT} (a:h.s.2[n]? =some d) (d4:d.1=4) {o:Int} (e:0<=o/\o<16) (b:Int):HI gh (bE h (dO h.s.1 (16*(n:Int)+o) b,h.s.2))/\uM h (bE h (dO h.s.1 (16*(n:Int)+o) b,h.s.2)) (λ_ _=>False) (n:Int):=by
 have B:Inv.e_ gh h.s (dO h.s.1 (16*n+o) b,h.s.2):=by
  refine gL H.inv ⟨cF _ _ _,rfl⟩ (λq c=>⟨n,d,a,?_⟩) λf=>?_
  ·refine B2 λhc=>c ?_;rw[mP (by omega)]
  grind
 refine⟨H.side B H.hc,H.CF B (h':=bE h _) rfl rfl _,λ_ _ _ _ g k k0 i=>?_,.refl rfl⟩;exact mP (by omega)
theorem HI.store (H:HI gh h) {v:Int} (c:aR h.g v=true) {a:Int} (f:0<=a) (b:Int):HI gh (kr h v a b)/\Aa h (kr h v a b) (λ_ _=>False):=by
 unfold kr;by_cases e:(iW h v a 2).2≠0
 ·rw[av e];exact⟨H,Aa.refl _ _⟩
 rw[ao e];rcases H.word c f (t:=2) (by grind) with ⟨_, _,i,n,j,s,k⟩|⟨_,u⟩
 ·rw[i];rw[j];obtain⟨m,d,l,p,d4, _⟩:=H.TC k;have:=B8 l;subst this;obtain⟨q,r⟩:=H.Sj p d4 (o:=a % 16) (by omega) b;exact⟨q,r.pg⟩
 grind
 grind
theorem HI.VO (H:HI gh h) {n:Nat} {d:DT} (a:h.s.2[n]? =some d) (b:d.1=5):d=(5,d.2.1,0,0,())/\0<=d.2.1/\d.2.1<=16:=by
 obtain:=H.hc.kd a;have c:=H.hc.refs a;have:eo (lV h) n=0:=by
  rcases C9 _ with e|e
  ·exact e
  ·obtain:=H.hc.IB e
   grind
 grind
theorem HI.OA (H:HI gh h) {n:Nat} {d:DT} (a:h.s.2[n]? =some d) (e:d.1=5):iG h.s (n:Int)=(h.s.1,h.s.2.set n zD)/\j7 h.s (n:Int)=0/\HI gh (bE h (h.s.1,h.s.2.set n zD))/\Aa h (bE h (h.s.1,h.s.2.set n zD)) (λ_ _=>False):=by
 obtain⟨l,o,p⟩:=H.VO a e;have g:=a;rw[l] at g;have j:=yy (G:=aO 0 0) g (HP ⟨o,p⟩);have k:BP h.s.2 n=true:=by
  unfold BP
  grind
 have B:Inv.e_ gh h.s (h.s.1,h.s.2.set n zD):=by
  refine gL H.inv ⟨rfl,by rw[Av]⟩ (λb hb=>absurd rfl hb) λ{i d0 d'} h1 q=>?_;rcases qm a h1 q with ⟨_,r,f⟩|⟨_,f⟩
  ·exact .inr ⟨by rw[r,e];decide,by rw[f];decide,λ_=>f⟩
  ·exact .inl f
 refine⟨?_,?_,H.side B (H.hc.Gp (λ{m d0} h1 t=>?_) λ{m d0} h1=>?_),H.CF B (h':=bE h (h.s.1,h.s.2.set n zD)) rfl rfl _⟩
 ·unfold iG;rw[av ⟨k,by rw[pa a];exact e⟩,j.1]
 ·unfold j7;rw[k,ao (by decide),pa a,ao (λc=>c e)];exact j.2
 grind
 ·grind[zD,AN]
theorem VP {s:WD} {f:Int} (a: ∀(n:Nat) (d:DT),f=(n:Int)->s.2[n]? =some d->d.1≠5):iG s f=s/\j7 s f≠0:=by
 grind[BP,qt,iG,j7]
theorem HI.free (H:HI gh h) (f:Int):HI gh (bE h (iG h.s f))/\(iG h.s f=h.s\/ ∃(n:Nat) (d:DT),f=(n:Int)/\h.s.2[n]? =some d/\d.1=5/\iG h.s f=(h.s.1,h.s.2.set n zD)):=by
 by_cases e: ∃(n:Nat) (d:DT),f=n/\h.s.2[n]? =some d/\d.1=5
 ·obtain⟨n,d,rfl,h1,b⟩:=e;obtain:=H.OA h1
  grind
 ·obtain⟨a⟩:=VP (s:=h.s) (f:=f) (by grind);rw[a];exact⟨H,.inl rfl⟩
theorem HI.WZ (H:HI gh h): ∀n,HI gh (bE h (dL h.s n).1)
 |0=>H
 |n+1=>((HI.WZ H n).free _).1
theorem HI.Gu (H:HI gh h): ∃dw,HI dw (gS h)/\uM h (gS h) (λ_ q=> ¬ (0<=q/\q<65536)) (-1)/\uE gh dw h.s (gS h).s:=by
 unfold gS;cases hv:mR h.g with
 |none=>exact⟨gh,H,.refl _ _ _,uE.refl _ _⟩
 |some v=>
  dsimp only;by_cases e:rk h.s (v:Int)=0
  case neg=>rw[ao e];exact⟨gh,H,.refl _ _ _,uE.refl _ _⟩
  rw[av e];obtain⟨Xw,z, _⟩:=nT.1 hv;have U: ∀f,gh f≠some ((v:Int),3,0):=λf a=>by
   obtain⟨i,x,h1,t⟩:=H.own a;have:i=v:=B8 h1;subst this;rw[z] at t;cases t
  obtain⟨_,J,b2,b3,C,K,D,V,X,E⟩:=H.inv.born (o:=(v:Int)) (by omega) U (vh e);have Y: ∀{f o y k:Int} {l:Nat},gh f=some (o,l,y)->0<=k->k<16->dv (iT h.s (v:Int) λ_=>0).1 (16*f+k)=dv h.s.1 (16*f+k):=λ{f o y k l} a k0 r=>by
   have dh:f≠eK h.s (v:Int):=λc=>by rw[c,J] at a;cases a
   exact D _ (by omega)
  have L: ∀k,0<=k->k<16->aK (iT h.s (v:Int) λ_=>0).1 (16*eK h.s (v:Int)+k)=zE:=λk k0 r=>Yw (V k k0 r);generalize (iT h.s (v:Int) λ_=>0)=s' at*
  generalize eK h.s (v:Int)=F at*
  have M: ∀{f o y k:Int} {l:Nat},gh f=some (o,l,y)->0<=k->k<16->aK s'.1 (16*f+k)=aK h.s.1 (16*f+k):=λa k0 r=>by unfold aK;rw[Y a k0 r]
  have A: ∀{f o y:Int} {l:Nat},gh f=some (o,l,y)->mH gh F (some ((v:Int),3,0)) f=some (o,l,y):=λ{f o y l} a=>by
   rw[a7 (λc=>by rw[c,J] at a;cases a)];exact a
  have N: ∀{i:Nat} {x:GV},bq h.g v (some ⟨F,[]⟩) i=some x->(i=v/\x=⟨F,[]⟩)\/(i≠v/\h.g i=some x):=λ{i x} n=>by
   unfold bq at n;by_cases c:i=v
   ·rw[av c] at n;cases n;exact .inl ⟨c,rfl⟩
   ·rw[ao c] at n;exact .inr ⟨c,n⟩
  have hFl:F.toNat<h.s.2.length:=by omega
  have O: ∀{i:Nat} {p:Int},0<=p/\p<65536->iw {h with s:=s',g:=bq h.g v (some ⟨F,[]⟩)} i p=iw h i p:=λ{i p} b=>by
   by_cases c:i=v
   ·subst c;rw[gu z,bM (h:={h with s:=s',g:=bq h.g i (some ⟨F,[]⟩)}) (x:=⟨F,[]⟩) (fH _ _ _)];show bu s' F false p= _;have P:=L (px 3 p % 16) (ee p 3).1 (ee p 3).2;have u:dz (mH gh F (some ((i:Int),3,0))) s' (i:Int) p F 3:=⟨by rw[XE b];exact bJ _ _ _,by rw[P];exact J_⟩;rw[E.ft (bJ _ _ _) b u,P,FW _ _ rfl]
   ·cases n:h.g i with
    |none=>
     rw[gu n];exact gu (h:={h with s:=s',g:=bq h.g v (some ⟨F,[]⟩)}) (show bq h.g v (some ⟨F,[]⟩) i=none by unfold bq;rw[ao c];exact n) p
    |some x=>
     rw[bM n,bM (h:={h with s:=s',g:=bq h.g v (some ⟨F,[]⟩)}) (x:=x) (show bq h.g v (some ⟨F,[]⟩) i=some x by unfold bq;rw[ao c];exact n)];show bu s' x.root false p= _;obtain⟨f,j, _,u⟩:=H.inv.lE (H.root n) b;have Q:=M u.1 (ee p j).1 (ee p j).2;have Z:dz (mH gh F (some ((v:Int),3,0))) s' (i:Int) p f j:=⟨A u.1,by rw[Q];exact u.2⟩;rw[H.inv.ft (H.root n) b u,E.ft (A (H.root n)) b Z,Q]
  have R: ∀(h:HS) {i:Nat} {p:Int},¬ (0<=p/\p<65536)->(iw h i p).2.2.1≠0:=λh {i p} b=>by
   grind[iw,Inv.xL]
  have gV:ng {h with s:=s',g:=bq h.g v (some ⟨F,[]⟩)}=ng h:=by
   funext i p;rw[mC,mC];by_cases b:0<=p/\p<65536
   ·rw[O b]
   ·rw[ao (R _ b),ao (R _ b)]
  have kS:lV {h with s:=s',g:=bq h.g v (some ⟨F,[]⟩)}=lV h:=by
   funext i;unfold lV;show(match bq h.g v (some ⟨F,[]⟩) i with|some x=>x.tk|none=>[])= _;unfold bq;by_cases c:i=v
   ·rw[av c,c,z]
   ·rw[ao c]<;>rfl
  have G:h.s.2[F.toNat]? =some zD:=K;have S:uM h {h with s:=s',g:=bq h.g v (some ⟨F,[]⟩)} (λ_ q=> ¬ (0<=q/\q<65536)) (-1):=by
   refine⟨⟨λhq=>O (B2 hq)⟩,λ{m d d'} h1 I _ _ _ k k0 r=>?_,?_⟩
   ·have hmF:m≠F.toNat:=λc=>by rw[c,G] at h1;cases h1;exact absurd I (by decide)
    exact D _ (by omega)
   ·show KD h.s s';have:=KD.set (s:=h.s) (W:=s'.1) (d1:=((3:Int),(v:Int),(0:Int),(0:Int),())) G (λc=>absurd c (by decide)) (λc=>absurd c (by decide));rw[<-C] at this;exact this
  suffices hh:HI (mH gh F (some ((v:Int),3,0))) {h with s:=s',g:=bq h.g v (some ⟨F,[]⟩)} from⟨_,hh,S,λf w a=> .inl (by
   obtain⟨o,l,x⟩:=w;exact A a),λf c=>c.kd S.kd λk k0 r=>by
   obtain⟨z0,d,T,z2, _⟩:=c;have:f.toNat≠F.toNat:=λe=>by rw[e,G] at T;cases T;exact absurd z2 (by decide)
   exact D _ (by omega)⟩
  refine⟨E,λf o x a=>?_,λf o l x k a k0 r b B=>?_,?_,λ{i x} n=>?_,λ{i x} n=>?_,λ{f o y} a=>?_,?_⟩
  ·by_cases c:f=F
   ·subst c;rw[bJ] at a;cases a;rfl
   ·rw[a7 c] at a;exact H.rt f o x a
  ·by_cases c:f=F
   ·subst c;have b:(aK s'.1 (16*f+k)).1=true:=b;rw[L k k0 r] at b;cases b
   ·rw[a7 c] at a;have b:(aK s'.1 (16*f+k)).1=true:=b;have B:dK (aK s'.1 (16*f+k))=false:=B;rw[M a k0 r] at b B;exact H.nl a k0 r b B
  ·show s'.1.length=16*s'.2.length;rw[X,C,Av];exact H.sz
  ·rcases N n with ⟨c, _⟩|⟨_,c⟩
   ·omega
   ·exact H.jl c
  ·rcases N n with ⟨c,d⟩|⟨_,c⟩
   ·subst c;subst d;exact bJ _ _ _
   ·exact A (H.root c)
  ·by_cases c:f=F
   ·subst c;rw[bJ] at a;cases a;exact⟨v, _,rfl,fH _ _ _⟩
   ·rw[a7 c] at a;obtain⟨i,x,h1,t⟩:=H.own a;refine⟨i,x,h1,?_⟩;show bq h.g v _ i=some x;unfold bq;rw[ao (λc=>by subst c;rw[z] at t;cases t)];exact t
  ·rw[gV,kS];show HC (ng h) (lV h) s'.2 h.gr;rw[C];refine H.hc.Gp (λ{m d} h1 I=>?_) λ{m d} h1=>?_
   ·rw[AN (λc=>by subst c;rw[K] at h1;cases h1;exact absurd I (by decide))];exact h1
   grind
end
theorem tI {ds:List DT} {v:Int} {i:Nat}:i∈fW ds v<-> ∃d,ds[i]? =some d/\d.2.1=v:=by
 unfold fW;rw[B3,Dd];constructor
 ·rintro⟨h1,a⟩;have b:ds[i]? =some ds[i]:=B6 h1;rw[b] at a;exact⟨_,b,by simpa using a⟩
 ·rintro⟨d,h1,a⟩;exact⟨(Ak.1 h1).1,by rw[h1];simpa using a⟩
theorem HQ (ds:List DT) (v:Int):(fW ds v).Nodup:=List.Pairwise.filter _ GF
theorem zf {v:Int} (hv:1<=v/\v<=16): ∀(l:List Nat) (ds:List DT) (c:Int),l.Nodup->(∀i∈l, ∀d,ds[i]? =some d->d.1=4->d=(4,v,0,0,()))->
 (l.foldl (uS v) (ds,c)).1.length=ds.length/\ ∀n:Nat,((n∈l/\ ∃d,ds[n]? =some d/\d.1=4)->(l.foldl (uS v) (ds,c)).1[n]? =some (5,v,0,0,()))/\(¬ (n∈l/\ ∃d,ds[n]? =some d/\d.1=4)->(l.foldl (uS v) (ds,c)).1[n]? =ds[n]?)
 |[],ds,c, _, _=>⟨rfl,λn=>⟨λh=>(by cases h.1),λ_=>rfl⟩⟩
 |i::l,ds,c,f,m=>by
  rw[Bx] at f;rw[List.foldl_cons];by_cases e:(qt ds (i:Int)).1=4
  ·rw[show uS v (ds,c) i=(dJ ds (i:Int) (aO 5 v),c+1) from av e];have hi:i<ds.length:=by
    refine B2 λhc=>?_;unfold qt at e;rw[av (.inr (by omega))] at e;exact absurd e (by decide)
   have g:ds[i]? =some ds[i]:=B6 hi;rw[pa g] at e;have p:=m i BI _ g e;rw[p] at g;rw[(yy (G:=aO 5 v) g (Bw hv)).1];obtain⟨h1,b⟩:=zf hv l (ds.set i (5,v,0,0,())) (c+1) f.2 λj k d o q=>by
    have r:i≠j:=λe=>f.1 (by rw[e];exact k);rw[AN r] at o;exact m j (BQ _ k) d o q
   refine⟨h1.trans (Av ..),λn=>⟨λa=>?_,λa=>?_⟩⟩
   ·by_cases en:i=n
    ·subst en;rw[(b i).2 (λc=>f.1 c.1),Al hi]
    ·refine(b n).1 ⟨?_,?_⟩
     ·rcases C7.1 a.1 with h|h
      ·exact absurd h.symm en
      ·exact h
     ·rw[AN en];exact a.2
   ·have en:i≠n:=λen=>by subst en;exact a ⟨BI, _,g,rfl⟩
    rw[(b n).2 (λc=>a ⟨BQ _ c.1,by rw[AN en] at c;exact c.2⟩),AN en]
  ·rw[show uS v (ds,c) i=(ds,c) from ao e];obtain⟨h1,b⟩:=zf hv l ds c f.2 λj k=>m j (BQ _ k);refine⟨h1,λn=>⟨λa=>(b n).1 ⟨?_,a.2⟩,λa=>(b n).2 λc=>a ⟨BQ _ c.1,c.2⟩⟩⟩;rcases C7.1 a.1 with h|h
   ·subst h;obtain⟨d,s,t⟩:=a.2;rw[pa s] at e;exact absurd t e
   ·exact h
theorem Jv {s s':WD} (h:s'.1=s.1) (r:Int) (g:Bool) (p:Int):bu s' r g p=bu s r g p:=by
 unfold bu;rw[h]
section
variable {gh:Gh} {h:HS}
theorem HI.gone (H:HI gh h) {v:Nat} {x:GV} (K:h.g v=some x) (P:lV h v=[]) (Q: ∀n,NL h.s.2 n (v:Int)->eo (lV h) (n:Int)=0): ∃dw,HI dw (vI h (v:Int))/\uM h (vI h (v:Int)) (λi _=>i=v) (-1)/\(∀(f:Int) (w:Int×Nat×Int),gh f=some w->w.1≠(v:Int)->dw f=some w)/\ ∀f,iF h.s f->iF (vI h (v:Int)).s f:=by
 have hd:=H.jl K;have L:1<=(v:Int)/\(v:Int)<=16:=by omega
 obtain⟨R,W,w1,X,F⟩:=H.inv.dropped H.rt (H.root K);have Y:aT h.g (v:Int)=x.root:=by
  unfold aT;rw[av (cj.2 ⟨by omega,x,K⟩)];show(match h.g v with|some x=>x.root|none=> -1)= _;rw[K]
 have Z:vI h (v:Int)={s:=((cG h.s x.root false).1,(B_ (cG h.s x.root false).2 (v:Int)).1),g:=bq h.g v none,gr:=cM h.gr (v:Int),po:=(Po.cG 4 h.po (v:Int)).2}:=by
  unfold vI;rw[Y];rfl
 rw[Z];generalize cG h.s x.root false=s1 at*
 have hD4: ∀{n:Nat} {d:DT},s1.2[n]? =some d->d.1=4->h.s.2[n]? =some d:=λ{n d} h1 r=>by
  by_cases e: ∃l y,gh (n:Int)=some ((v:Int),l,y)
  ·rw[(F n).1 e] at h1;cases h1;exact absurd r (show ¬ (5:Int)=4 by decide)
  ·rw[(F n).2 e] at h1;exact h1
 have M: ∀{n:Nat} {d:DT},h.s.2[n]? =some d->d.1=4->s1.2[n]? =some d:=λ{n d} h1 r=>by
  rw[(F n).2 (λ⟨l,y,G⟩=>?_)]
  ·exact h1
  ·have:=(H.inv.kd G).2.2.1;rw[show((n:Int)).toNat=n from rfl,h1] at this;cases this;exact absurd r (show ¬ (3:Int)=4 by decide)
 have mF: ∀i∈fW s1.2 (v:Int), ∀d,s1.2[i]? =some d->d.1=4->d=(4,(v:Int),0,0,()):=λi hi d h1 r=>by
  obtain⟨d',I,J⟩:=tI.1 hi;rw[h1] at I;cases I;have C:=hD4 h1 r;obtain⟨_,D, _⟩:=H.hc.kd C;have E:=H.hc.refs C;rw[Q i ⟨d,C,r,J⟩] at E;obtain⟨a,b,c,e,u⟩:=d;dsimp only at r D E J;rw[r,D,E,J];rfl
 obtain⟨f1,f2⟩:=zf L (fW s1.2 (v:Int)) s1.2 0 (HQ _ _) mF;have hoT:(B_ s1.2 (v:Int)).1=((fW s1.2 (v:Int)).foldl (uS (v:Int)) (s1.2,0)).1:=rfl;rw[<-hoT] at f1 f2;generalize (B_ s1.2 (v:Int)).1=j at*
 have B:Inv.e_ (Ka gh (v:Int)) s1 (s1.1,j):=by
  refine gL R ⟨rfl,f1⟩ (λb hb=>absurd rfl hb) λ{n d d'} h1 t=>?_;by_cases c:n∈fW s1.2 (v:Int)/\ ∃d,s1.2[n]? =some d/\d.1=4
  ·have t:j[n]? =some d':=t;rw[(f2 n).1 c] at t;cases t;obtain⟨_,d0,D,E⟩:=c;rw[h1] at D;cases D;exact .inr ⟨by rw[E];decide,(show ¬ (5:Int)=3 by decide),λc=>absurd c (show ¬ (5:Int)=0 by decide)⟩
  ·have t:j[n]? =some d':=t;rw[(f2 n).2 c,h1] at t;cases t;exact .inl rfl
 have S: ∀{i:Nat} {y:GV},bq h.g v none i=some y->i≠v/\h.g i=some y:=λ{i y} A=>by
  unfold bq at A;by_cases c:i=v
  ·rw[av c] at A;cases A
  ·rw[ao c] at A;exact⟨c,A⟩
 have N: ∀{i:Nat} {y:GV},i≠v->h.g i=some y->bq h.g v none i=some y:=λ{i y} hi A=>by
  unfold bq;rw[ao hi];exact A
 have ack:lV {s:=(s1.1,j),g:=bq h.g v none,gr:=cM h.gr (v:Int),po:=(Po.cG 4 h.po (v:Int)).2}=lV h:=by
  funext i;unfold lV;show(match bq h.g v none i with|some x=>x.tk|none=>[])= _;unfold bq;by_cases c:i=v
  ·rw[av c];subst c;exact P.symm
  ·rw[ao c]<;>rfl
 have gV:ng {s:=(s1.1,j),g:=bq h.g v none,gr:=cM h.gr (v:Int),po:=(Po.cG 4 h.po (v:Int)).2}=λi p=>if i=v then none else ng h i p:=by
  funext i p;by_cases c:i=v
  ·rw[av c];exact gw (h:={s:=(s1.1,j),g:=bq h.g v none,gr:=cM h.gr (v:Int),po:=(Po.cG 4 h.po (v:Int)).2}) (show bq h.g v none i=none by unfold bq;rw[av c]) p
  ·rw[ao c];cases hi:h.g i with
   |none=>
    rw[gw hi];exact gw (h:={s:=(s1.1,j),g:=bq h.g v none,gr:=cM h.gr (v:Int),po:=(Po.cG 4 h.po (v:Int)).2}) (show bq h.g v none i=none by unfold bq;rw[ao c];exact hi) p
   |some z=>
    rw[cN hi,cN (h:={s:=(s1.1,j),g:=bq h.g v none,gr:=cM h.gr (v:Int),po:=(Po.cG 4 h.po (v:Int)).2}) (N c hi)];rw[Jv (s:=h.s) (s':=(s1.1,j)) w1]
 have T:uM h {s:=(s1.1,j),g:=bq h.g v none,gr:=cM h.gr (v:Int),po:=(Po.cG 4 h.po (v:Int)).2} (λi _=>i=v) (-1):=by
  refine⟨⟨λ{i q} c=>?_⟩,λ{m d d'} _ _ _ _ _ k _ _=>by show dv s1.1 _= _;rw[w1],λ{n d} h1 r=>?_,λ{n d} h1 h5=>?_⟩
  ·cases hi:h.g i with
   |none=>
    rw[gu hi];exact gu (h:={s:=(s1.1,j),g:=bq h.g v none,gr:=cM h.gr (v:Int),po:=(Po.cG 4 h.po (v:Int)).2}) (show bq h.g v none i=none by unfold bq;rw[ao c];exact hi) q
   |some z=>
    rw[bM hi,bM (h:={s:=(s1.1,j),g:=bq h.g v none,gr:=cM h.gr (v:Int),po:=(Po.cG 4 h.po (v:Int)).2}) (N c hi)];exact Jv (s:=h.s) (s':=(s1.1,j)) w1 _ _ _
  ·have C:=M h1 r;show∃d',j[n]? =some d'/\ _;by_cases c:n∈fW s1.2 (v:Int)/\ ∃d,s1.2[n]? =some d/\d.1=4
   ·exact⟨_,(f2 n).1 c,.inr rfl⟩
   ·exact⟨d,by rw[(f2 n).2 c];exact C,.inl r⟩
  ·show∃d',j[n]? =some d'/\ _;have C: ∃d',s1.2[n]? =some d'/\d'.1=5:=by
    by_cases e: ∃l y,gh (n:Int)=some ((v:Int),l,y)
    ·exact⟨_,(F n).1 e,rfl⟩
    ·exact⟨d,by rw[(F n).2 e];exact h1,h5⟩
   obtain⟨d',D,E⟩:=C;by_cases c:n∈fW s1.2 (v:Int)/\ ∃d,s1.2[n]? =some d/\d.1=4
   ·exact⟨_,(f2 n).1 c,rfl⟩
   ·exact⟨d',by rw[(f2 n).2 c];exact D,E⟩
 suffices hh:HI (Ka gh (v:Int)) {s:=(s1.1,j),g:=bq h.g v none,gr:=cM h.gr (v:Int),po:=(Po.cG 4 h.po (v:Int)).2} from⟨_,hh,T,λf w G hn=>da.2 ⟨G,hn⟩,λf c=>c.kd T.kd λk _ _=>by show dv s1.1 _= _;rw[w1]⟩
 refine⟨R.beside B,W,Inv.na B (λf o l y k G k0 I U V=>?_),?_,λ{i y} A=>H.jl (S A).2,λ{i y} A=>?_,λ{f o y} G=>?_,?_⟩
 ·rw[w1] at U V;exact H.nl (da.1 G).1 k0 I U V
 ·show s1.1.length=16*j.length;rw[w1,f1,X];exact H.sz
 ·obtain⟨h1,t⟩:=S A;exact da.2 ⟨H.root t,λc=>h1 (B8 c)⟩
 ·obtain⟨h1,t⟩:=da.1 G;obtain⟨i,y',D,E⟩:=H.own h1;exact⟨i,y',D,N (λc=>t (by show o= _;rw[<-D,c])) E⟩
 ·rw[gV,ack];refine H.hc.gone ⟨by omega,by omega⟩ P (λ{n d} h1 r O=>?_) (λ{n d} h1 r O=>?_) (λ{n d} h1=>?_) (H.hc.gk.drop _)
  ·rw[H.hc.refs h1,Q n ⟨d,h1,r,O⟩];rfl
  ·show j[n]? =some d;rw[(f2 n).2 (λc=>?_)]
   ·exact M h1 r
   ·obtain⟨d',I,J⟩:=tI.1 c.1;rw[M h1 r] at I;cases I;exact O J
  ·have h1:j[n]? =some d:=h1;by_cases c:n∈fW s1.2 (v:Int)/\ ∃d,s1.2[n]? =some d/\d.1=4
   ·rw[(f2 n).1 c] at h1;cases h1;exact .inr ⟨.inr (.inr rfl),rfl,by show 0<=(v:Int);omega,L.2⟩
   ·rw[(f2 n).2 c] at h1;by_cases e: ∃l y,gh (n:Int)=some ((v:Int),l,y)
    ·rw[(F n).1 e] at h1;cases h1;exact .inr ⟨.inr (.inr rfl),rfl,by show 0<=(v:Int);omega,L.2⟩
    ·have C:=h1;rw[(F n).2 e] at h1;exact .inl ⟨h1,λk=>c ⟨tI.2 ⟨d,C,k.2⟩,d,C,k.1⟩⟩
theorem HI.Jw (H:HI gh h) (a:Int): ∃dw,HI dw (s7 h a)/\uM h (s7 h a) (λi _=>i=a.toNat) (-1)/\(∀(f:Int) (w:Int×Nat×Int),gh f=some w->w.1≠a->dw f=some w\/iF (s7 h a).s f)/\ ∀f,iF h.s f->iF (s7 h a).s f:=by
 unfold s7;by_cases k:aR h.g a=true
 case neg=>rw[ao k];exact⟨gh,H,.refl _ _ _,λ_ _ h _=> .inl h,λ_ h=>h⟩
 rw[av k];by_cases hb:th h.s.2 a=true
 case pos=>rw[av hb];exact⟨gh,H,.refl _ _ _,λ_ _ h _=> .inl h,λ_ h=>h⟩
 rw[ao hb];obtain⟨x,l,M,hv,N,O⟩:=bL k;obtain⟨v,rfl⟩: ∃v:Nat,a=(v:Int):=⟨a.toNat,hv.symm⟩;have l:h.g v=some x:=l;obtain⟨g1,u,⟨x1,y⟩,p,z,A,B,r⟩:=HI.e9 (vt h (v:Int)).length H ⟨x,l⟩ rfl
 suffices C: ∀n,NL (_root_.Go.Proofs.YtlcenllcmeebhaaGreat.e9 (v:Int) (vt h (v:Int)).length h).s.2 n (v:Int)->eo (lV (_root_.Go.Proofs.YtlcenllcmeebhaaGreat.e9 (v:Int) (vt h (v:Int)).length h)) (n:Int)=0 by
  obtain⟨D,E,E2,b,m⟩:=u.gone y p C;exact⟨D,E,B.trans E2,λf w F o=>(r.1 f w F).imp (λe=>b f w e o) (m f),λf c=>m f (r.2 f c)⟩
 intro n o;rcases C9 (eo (lV (_root_.Go.Proofs.YtlcenllcmeebhaaGreat.e9 (v:Int) (vt h (v:Int)).length h)) (n:Int)) with e|e
 ·exact e
 ·obtain⟨i,t,hi,j,G⟩:=ze e;have I:i≠v:=λc=>by rw[c,p] at j;cases j
  have J:t∈lV h i:=by
   unfold lV at j ⊢;rw[z i I] at j;exact j
  obtain⟨d,b,m,K⟩:=(A n (v:Int)).1 o;have P:=nO (q:=λt=>t.2.2==(n:Int)) hi J G;have L:=H.hc.refs b;refine absurd ?_ hb;unfold th;refine GG.2 ⟨n,tI.2 ⟨d,b,K⟩,?_⟩;rw[pa b];have:d.2.2.1>0:=by rw[L];unfold eo;omega
  simpa using this
end
theorem zL (o pg:Int): ∀(n:Nat) (x:WD×PT),(qL o pg n x).1.1.length=x.1.1.length
 |0,x=>rfl
 |n+1,x=>by
  rw[qL,zL o pg n];exact xH _ _ _ _ _
theorem MQ (s:WD) (o r pg lv:Int) (e:ET):(rD s o r pg lv e).1.length=s.1.length:=by
 unfold rD;split
 ·show(dO _ _ _).length= _;rw[cF,zL]
 ·rfl
theorem qn (s:WD) (o r:Int) (gone:Bool) (pg f rt:Int):(jE s o r gone pg f rt).1.length=s.1.length:=by
 unfold jE;split
 ·rfl
 ·split
  ·exact MQ _ _ _ _ _ _
  ·rfl
theorem MV (s:WD) (o r:Int) (gone:Bool) (pg rt:Int):(rE s o r gone pg rt).1.length=s.1.length:=by
 unfold rE;split
 ·rfl
 split
 ·split
  ·split
   ·rfl
   ·split
    ·show(dO _ _ _).length= _;rw[cF,tG]
    ·exact tG _ _ _ _
  ·rfl
 ·rfl
theorem Sk (s:WD) (r:Int) (gone:Bool):(cG s r gone).1=s.1:=by
 unfold cG;split<;>rfl
theorem Bz (v:Int): ∀(n:Nat) (h:HS),(e9 v n h).s.1.length=h.s.1.length
 |0,h=>rfl
 |n+1,h=>by
  rw[e9,Bz v n];exact tH _ _ _ _ _
theorem VQ (h:HS) (v k a b c:Int):(run h v k a b c).1.s.1.length=h.s.1.length:=by
 unfold run;split
 ·show(gS h).s.1.length= _;unfold gS;split
  ·rfl
  ·split
   ·exact Jl _ _ _
   ·rfl
 ·show(s7 h a).s.1.length= _;unfold s7;split
  ·split
   ·rfl
   ·show(cG _ _ _).1.length= _;rw[Sk,Bz]
  ·rfl
 ·show(jq h v a b).s.1.length= _;unfold jq;split
  ·rfl
  split
  ·rfl
  split
  ·rfl
  split
  ·exact qn _ _ _ _ _ _ _
  ·exact(gK _ _ _ _).trans (qn _ _ _ _ _ _ _)
 ·show(qB h v a).s.1.length= _;unfold qB;split
  ·exact tH _ _ _ _ _
  ·rfl
 ·show(j8 h v a b).s.1.length= _;unfold j8;split
  ·rfl
  split
  ·rfl
  split
  ·rfl
  ·exact MV _ _ _ _ _ _
 ·rfl
 ·show(kr h v a b).s.1.length= _;unfold kr;split
  ·rfl
  ·exact cF _ _ _
 ·show(iC h v a b c).s.1.length= _;unfold iC;split<;>rfl
 ·show(jx h v a b c).s.1.length= _;unfold jx;split
  ·rfl
  split
  ·exact qn _ _ _ _ _ _ _
  ·exact qn _ _ _ _ _ _ _
 ·show(gY h v a).s.1.length= _;unfold gY;split
  ·rfl
  split
  ·exact tH _ _ _ _ _
  ·rfl
 ·show(fU h v a).s.1.length= _;unfold fU;split<;>rfl
 ·show(l8 h v a).s.1.length= _;unfold l8;split<;>rfl
 ·show(l9 h v a b).s.1.length= _;unfold l9;split
  ·rfl
  split<;>rfl
 ·show(l7 h v a).s.1.length= _;unfold l7;split<;>rfl
 ·rfl
 ·show(iZ h v a).s.1.length= _;unfold iZ;split<;>rfl
 ·show(dL h.s _).1.1.length= _;rw[(Bo h.s _).1]
theorem Pu (h:HS) (v k a b c:Int):(jB h v k a b c).s.1.length=h.s.1.length:=by
 unfold jB;split
 ·exact VQ _ _ _ _ _ _
 ·rfl
theorem Cm {h:HS} {v k a b c:Int} (f:ik h v k a b c=0):(1<=k/\k<=17)/\(sX k=false->aR h.g v=true)/\fN k a b c=true:=by
 unfold ik at f;split at f
 ·exact absurd f (by decide)
 rename_i d1;split at f
 ·exact absurd f (by decide)
 rename_i j;split at f
 ·exact absurd f (by decide)
 rename_i d;have i:fN k a b c=true:=by
  cases e:fN k a b c with
  |true=>rfl
  |false=>rw[e] at d1;simp at d1
 have d0: ¬ v<0:=λe=>d1 (by simp[e]);refine⟨?_,λe=>?_,i⟩
 ·unfold fN at i;rw[Do,decide_eq_true_eq] at i;have d1:=i.1;unfold jZ at d1;by_cases e:1<=k/\k<=17
  ·exact e
  ·rw[ao e] at d1;exact absurd d1 (by decide)
 ·rw[e] at j;have m:v≠0:=by
   intro l;rw[l] at j;exact absurd rfl j
  have:decide (v>0)=true:=decide_eq_true (by omega);rw[this,Bool.true_and] at d;simpa using d
section
variable {gh:Gh} {h:HS}
theorem HI.run (H:HI gh h) {v k a b c:Int} (i:1<=k/\k<=17) (d:sX k=false->aR h.g v=true) (f:0<=a): ∃dw,HI dw (run h v k a b c).1:=by
 have:k=1\/k=2\/k=3\/k=4\/k=5\/k=6\/k=7\/k=8\/k=9\/k=10\/k=11\/k=12\/k=13\/k=14\/k=15\/k=16\/k=17:=by omega
 rcases this with rfl|rfl|rfl|rfl|rfl|rfl|rfl|rfl|rfl|rfl|rfl|rfl|rfl|rfl|rfl|rfl|rfl
 ·obtain⟨g',e, _⟩:=H.Gu;exact⟨g',e⟩
 ·obtain⟨g',e, _⟩:=H.Jw a;exact⟨g',e⟩
 ·exact H.Gq (d rfl) a b
 ·exact H.CD (d rfl) a
 ·exact H.tj (d rfl) a b
 ·exact⟨gh,H⟩
 ·exact⟨gh,(H.store (d rfl) f b).1⟩
 ·exact⟨gh,H.offer v a b c⟩
 ·exact H.take (d rfl) a b c
 ·exact H.back (d rfl) a
 ·exact⟨gh,H.ZF v a⟩
 ·refine⟨gh,?_⟩;show HI gh (l8 h v a);unfold l8;split
  ·exact H.po _
  ·exact H
 ·refine⟨gh,?_⟩;show HI gh (l9 h v a b);unfold l9;split
  ·exact H
  split
  ·exact H.po _
  ·exact H
 ·refine⟨gh,?_⟩;show HI gh (l7 h v a);unfold l7;split
  ·exact H
  ·exact H.po _
 ·exact⟨gh,H.po _⟩
 ·refine⟨gh,?_⟩;show HI gh (iZ h v a);unfold iZ;split
  ·exact H
  ·exact H.po _
 ·exact⟨gh,H.WZ _⟩
theorem HI.step (H:HI gh h) (v k:Int) {a:Int} (b c:Int) (e:0<=a): ∃dw,HI dw (jB h v k a b c):=by
 unfold jB;by_cases d:ik h v k a b c=0
 ·rw[av d];obtain⟨h1,f, _⟩:=Cm d;exact H.run h1 f e
 ·rw[ao d];exact⟨gh,H⟩
end
theorem HI.new {n:Nat} (r:4<=n/\n<=4096):HI noG (h0 n) where
 inv:=L_ (E5 _) r.2
 rt:=λf o x h=>(by cases h)
 nl:=λf o l x i h=>(by cases h)
 sz:=by
  show(C8 (16*n) (0:Int)).length=16*(C8 n zD).length;rw[FP,FP]
 jl:=λh=>(by cases h)
 root:=λh=>(by cases h)
 own:=λh=>(by cases h)
 hc:=by
  have b: ∀i p,ng (h0 n) i p=none:=λi p=>rfl;have c: ∀i,lV (h0 n) i=[]:=λi=>rfl;have e: ∀{m:Nat} {d:DT},(C8 n zD)[m]? =some d->d=zD:=λ{m d} h=>GH (B4 h);have s: ∀{m:Nat} {x:GT},(C8 16 zG)[m]? =some x->x=zG:=λ{m d} h=>GH (B4 h);have g: ∀q,nv (lV (h0 n)) q=0:=λq=>Bu λi t j=>by rw[c i] at j;cases j
  refine⟨λh=>?_,λ{m d} h=>?_,λ{m d} h k=>?_,λh=>?_,λ{i p a f} h=>?_,λi=>?_,λh=>?_,λ{m d} h=>?_,λ{m x} h=>?_,FP,n7.new 16⟩
  ·rw[b] at h;cases h
  ·rw[e h];decide
  ·rw[e h] at k;exact absurd k (by decide)
  ·rw[b] at h;cases h
  ·rw[c i] at h;unfold cm at h;simp at h
  ·rw[c i];exact List.nodup_nil
  ·rw[b] at h;cases h
  ·rw[e h];unfold eo;rw[g];rfl
  ·rw[s h];unfold mS;rw[g];rfl
def jy (h h':HS):Prop:=h'.s=h.s/\h'.g=h.g
section
variable {gh:Gh} {h:HS} {v k a b c:Int}
theorem jy.refl:jy h h:=⟨rfl,rfl⟩
theorem Sm (H:HI gh h) (j:1<=k/\k<=17) (f:sX k=false->aR h.g v=true) (d:(run h v k a b c).2.2≠0):jy h (run h v k a b c).1:=by
 have:k=1\/k=2\/k=3\/k=4\/k=5\/k=6\/k=7\/k=8\/k=9\/k=10\/k=11\/k=12\/k=13\/k=14\/k=15\/k=16\/k=17:=by omega
 rcases this with rfl|rfl|rfl|rfl|rfl|rfl|rfl|rfl|rfl|rfl|rfl|rfl|rfl|rfl|rfl|rfl|rfl
 ·have d:oZ h≠0:=d;show jy h (gS h);unfold oZ at d;unfold gS;cases i:mR h.g with
  |none=>exact .refl
  |some n=>
   rw[i] at d;dsimp only at d ⊢;rw[ao d];exact .refl
 ·have d:FZ h a≠0:=d;show jy h (s7 h a);unfold FZ at d;unfold s7;split
  ·rename_i c1;rw[av c1] at d;split
   ·exact .refl
   ·rename_i c2;rw[ao c2] at d;exact absurd rfl d
  ·exact .refl
 ·have d:lj h v a b≠0:=λe=>d (by show(rH h v a b).2=0;unfold rH;rw[av e]);show jy h (jq h v a b);rw[H.Pn (f rfl) d];exact .refl
 ·have d:(B7 h v a).2≠0:=d;show jy h (qB h v a);unfold B7 at d;unfold qB;split
  ·rename_i c1;rw[av c1] at d;exact absurd rfl d
  ·exact .refl
 ·have d:oX h v a b≠0:=d;show jy h (j8 h v a b);rw[HI.Jo d];exact .refl
 ·exact .refl
 ·have d:rS h v a≠0:=d;show jy h (kr h v a b);unfold rS at d;unfold kr;split
  ·exact .refl
  rename_i c1;rw[ao c1] at d;refine⟨?_,rfl⟩;show(dO h.s.1 _ b,h.s.2)=h.s;unfold BN at d;rw[show dO h.s.1 (iW h v a 2).1 b=h.s.1 from ao λe=>d (av e)]
 ·show jy h (iC h v a b c);unfold iC;split
  ·exact⟨rfl,rfl⟩
  ·exact .refl
 ·have d:nr h v a b c≠0:=d;show jy h (jx h v a b c);rw[H.Ps (f rfl) d];exact .refl
 ·have d:oY h v a≠0:=d;show jy h (gY h v a);rw[Ju d];exact .refl
 ·show jy h (fU h v a);unfold fU;split
  ·exact .refl
  ·exact⟨rfl,rfl⟩
 ·show jy h (l8 h v a);unfold l8;split
  ·exact⟨rfl,rfl⟩
  ·exact .refl
 ·show jy h (l9 h v a b);unfold l9;split
  ·exact .refl
  split
  ·exact⟨rfl,rfl⟩
  ·exact .refl
 ·show jy h (l7 h v a);unfold l7;split
  ·exact .refl
  ·exact⟨rfl,rfl⟩
 ·exact⟨rfl,rfl⟩
 ·show jy h (iZ h v a);unfold iZ;split
  ·exact .refl
  ·exact⟨rfl,rfl⟩
 ·exact absurd rfl d
theorem HI.fail (H:HI gh h) (e:qH h v k a b c≠0):jy h (jB h v k a b c)/\wP h v k a b c=0:=by
 unfold qH at e;unfold jB wP;by_cases d:ik h v k a b c=0
 ·rw[av d] at e ⊢;rw[av d,ao e];obtain⟨h1,f, _⟩:=Cm d;exact⟨Sm H h1 f e,rfl⟩
 ·rw[ao d,ao d];exact⟨.refl,rfl⟩
end
theorem Sn {g:Nat->Option GV} {v:Int} (a:aR g v=true): ∃(m:Nat) (x:GV),v=(m:Int)/\1<=m/\m<=16/\g m=some x:=by
 obtain⟨⟨h1,c⟩,x,b⟩:=cj.1 a;exact⟨v.toNat,x,by omega,by omega,by omega,b⟩
section
variable {gh dw:Gh} {h:HS}
theorem HI.VR (H:HI gh h) {v:Int} (y:aR h.g v=true) {a b:Int} (m:0<=a/\a<65536) (hb:1<=b/\b<=7) (hc:4<=cd h.s.2 0):lj h v a b=if(iw h v.toNat a).2.2.1=0 then 5 else 0:=by
 obtain⟨x,k,z,hv,A,C⟩:=bL y;unfold lj;rw[ao (by omega),ao (by omega)];obtain⟨n,I,r,t1,t2,t3⟩:=se (ds:=h.s.2) (o:=v) (by omega) H.inv.fz ⟨A,C⟩;rw[ao (λe=>e t2)];have D:iO h v=(n:Int):=t1;have t:iA h v=(h.s.1,h.s.2.set n (4,v,0,0,())):=by unfold iA;rw[t3]
 have B:Inv.e_ gh h.s (iA h v):=by
  rw[t];refine gL H.inv ⟨rfl,by rw[Av]⟩ (λb hb=>absurd rfl hb) λ{i d d'} h1 E=>?_;rcases qm r h1 E with ⟨_,p,l⟩|⟨_,l⟩
  ·exact .inr ⟨by rw[p];decide,by rw[l];exact(show ¬ (4:Int)=3 by decide),λc=>by rw[l] at c;exact absurd c (show ¬ (4:Int)=0 by decide)⟩
  ·exact .inl l
 have q:=H.inv.beside B;have u:=H.inv.dC B (H.root k) a;have J:=H.inv.le;have F:0<=(n:Int)/\(n:Int)<4096:=by omega
 have K:cd (iA h v).2 0+1=cd h.s.2 0:=by
  rw[t];have:=pX (d':=((4:Int),v,(0:Int),(0:Int),())) r 0;rw[av (show zD.1=0 from rfl),ao (show ¬ (4:Int)=0 by decide)] at this;exact this
 rw[D,z,bM k];by_cases e:(bu h.s x.root false a).2.2.1=0
 ·rw[av e];rw[<-u] at e;unfold bu at e;rw[ao (by decide),ao (by omega)] at e;have p:(cR (iA h v).1 x.root a).1=true:=by
   cases h1:(cR (iA h v).1 x.root a).1 with
   |true=>rfl
   |false=>rw[h1,ao (by decide)] at e;exact absurd e (show ¬ (4:Int)=0 by decide)
  have G:lh a (n:Int) b=0:=by unfold lh;rw[ao (by omega),ao (by omega)]
  unfold kl k8;rw[ao (by decide),av G,p,Bool.true_or,av rfl]
 ·rw[ao e];rw[<-u] at e;obtain⟨f,j,L,w⟩:=q.lE (H.root k) m;refine q.Vv (H.root k) m F hb w ?_ (by omega);rw[q.ft (H.root k) m w] at e;unfold lY at e;cases h1:(aK (iA h v).1 (16*f+px j a % 16)).1 with
  |false=>rfl
  |true=>rw[av h1] at e;exact absurd rfl e
structure acL (h h':HS) (f o b:Int):Prop where
 g:h'.g=h.g
 gr:h'.gr=h.gr
 po:h'.po=h.po
 pg: ∀{i:Nat} {q:Int},iw h' i q=iw h i q
 ds:h'.s.2=h.s.2
 ld: ∀q,dv h'.s.1 q=if q=16*f+o then b else dv h.s.1 q
end
section
variable {gh:Gh} {h:HS} {v k a b c:Int} {l:List Int}
theorem ZG (d:aR h.g v=true) (e:sX k=false) (f:fN k a b c=true):ik h v k a b c=0:=by
 obtain⟨m,x,rfl,h1,i, _⟩:=Sn d;unfold ik;rw[f,e,d,ao,ao,ao]
 ·simp
 ·have:((m:Int)==0)=false:=by rw[beq_eq_false_iff_ne];omega
  rw[this];decide
 ·simp;omega
theorem Co (d:ik h v k a b c=0):jB h v k a b c=(run h v k a b c).1/\qH h v k a b c=(run h v k a b c).2.2/\wP h v k a b c=if(run h v k a b c).2.2=0 then(run h v k a b c).2.1 else 0:=by
 unfold jB qH wP;rw[av d,av d,av d];exact⟨rfl,rfl,rfl⟩
theorem ZH (d:aR h.g v=true):jB h v 3 a b 0=jq h v a b/\qH h v 3 a b 0=lj h v a b/\wP h v 3 a b 0=if lj h v a b=0 then iO h v else 0:=by
 obtain⟨h1,f,i⟩:=Co (ZG (k:=3) (a:=a) (b:=b) (c:=0) d rfl rfl);have e:(run h v 3 a b 0).2.2=lj h v a b:=by
  show(rH h v a b).2= _;unfold rH;split
  ·rename_i e;rw[e]
  ·rfl
 refine⟨h1,f.trans e,i.trans ?_⟩;rw[e];show(if lj h v a b=0 then(rH h v a b).1 else 0)= _;unfold rH;split<;>rfl
structure WS (h:HS) (v:Int) (l:List Int):Prop where
 hi: ∃gh,HI gh h
 lv:aR h.g 1=true
 tk:lV h 1=[]
 ct:4*12<=cd h.s.2 0+4*l.length
 pg: ∀a∈l, ∃f,iw h 1 a=(f,3,0,())/\dv h.s.1 (16*f+3)=aL .u64 v a/\dv h.s.1 (16*f+4)=0
 no: ∀a,(iw h 1 a).2.2.1=0->a∈l
end
section
variable {gh:Gh} {h:HS} {v k a b c:Int}
theorem Ez {g:Nat->Option GV} {n i:Nat} {f:GV->GV}:(bq g n (match g n with|some x=>some (f x)|none=>none) i).isSome=(g i).isSome/\(i≠n->bq g n (match g n with|some x=>some (f x)|none=>none) i=g i):=by grind[bq]
theorem abB (h:HS) (v a b:Int):(jq h v a b).g=h.g:=by
 unfold jq;split
 ·rfl
 split
 ·rfl
 split
 ·rfl
 split
 ·rfl
 ·rfl
theorem VS (d:1<=k/\k<=17) (hc:sX k=false) (i:Nat):((run h v k a b c).1.g i).isSome=(h.g i).isSome:=by
 have:k=1\/k=2\/k=3\/k=4\/k=5\/k=6\/k=7\/k=8\/k=9\/k=10\/k=11\/k=12\/k=13\/k=14\/k=15\/k=16\/k=17:=by omega
 rcases this with rfl|rfl|rfl|rfl|rfl|rfl|rfl|rfl|rfl|rfl|rfl|rfl|rfl|rfl|rfl|rfl|rfl
 ·cases hc
 ·cases hc
 ·show((jq h v a b).g i).isSome= _;rw[abB]
 ·show((qB h v a).g i).isSome= _;unfold qB;split<;>rfl
 ·show((j8 h v a b).g i).isSome= _;unfold j8;split
  ·rfl
  split
  ·rfl
  split<;>rfl
 ·rfl
 ·show((kr h v a b).g i).isSome= _;unfold kr;split<;>rfl
 ·show((iC h v a b c).g i).isSome= _;unfold iC;split<;>rfl
 ·show((jx h v a b c).g i).isSome= _;unfold jx;split
  ·rfl
  split
  ·exact Ez.1
  ·rfl
 ·show((gY h v a).g i).isSome= _;unfold gY;split
  ·rfl
  split
  ·exact Ez.1
  ·rfl
 ·show((fU h v a).g i).isSome= _;unfold fU;split<;>rfl
 ·show((l8 h v a).g i).isSome= _;unfold l8;split<;>rfl
 ·show((l9 h v a b).g i).isSome= _;unfold l9;split
  ·rfl
  split<;>rfl
 ·show((l7 h v a).g i).isSome= _;unfold l7;split<;>rfl
 ·rfl
 ·show((iZ h v a).g i).isSome= _;unfold iZ;split<;>rfl
 ·cases hc
structure LS (n:Nat) (h:HS):Prop where
 hi: ∃gh,HI gh h
 g1: ∃x,h.g 1=some x
 go: ∀i,i≠1->h.g i=none
 ln:h.s.2.length=n
end
abbrev LT:Type:=Int×Int×Int×Int×Unit
abbrev AK:Type:=Int×Int×Int×Unit
abbrev CT:Type:=Int×Int×Int×Int×Unit
abbrev MT:Type:=Int×Int×Int×CT×Int×Int
def uU (t p:Int) (l:LT):Bool:=l.1==t&&l.2.1==p
def Cp (ls:List LT) (t p:Int):List LT:=ls.filter λl=> !uU t p l
def VT (ls:List LT) (t:Int):List LT:=ls.filter λl=> !(l.1==t)
def js (ls:List LT) (t p:Int):List LT:=if p= -1 then VT ls t else Cp ls t p
def j9 (ls:List LT) (sz:Int) (l:LT):List LT:=
 (if ls.any (uU l.1 l.2.1)=true then Cp ls l.1 l.2.1 else if(ls.length:Int)=sz then ls.drop 1 else ls)++[l]
def iH (ls:List LT) (t p w:Int):Int×Int:=match ls.find? (uU t p) with
 |none=>(0,4)
 |some l=>if w<0\/w>7\/fR .i64 w l.2.2.2.1≠0 then(0,7) else(l.2.2.1,0)
structure vu where
 now:Int
 pins:List Int
 ws:List (Int×Int)
def mJ (e:vu) (n:Nat):vu:=if e.pins.getD n 0= -1 then{e with pins:=e.pins.set n e.now} else e
def oO (e:vu) (n:Nat):vu:={e with pins:=e.pins.set n (-1)}
def lq (e:vu) (f:Int):vu:=if e.ws.any (λx=>x.1==f)=true then e else{e with ws:=(f,e.now)::e.ws}
def fo (e:vu):vu:=if e.pins.all (λp=>p== -1||p==e.now)=true then{e with now:=e.now+1} else e
def oC (e:vu):List Int:=mN ((e.ws.filter λx=>decide (x.2+2<=e.now)).map (·.1))
def Cb (e:vu):vu:={e with ws:=e.ws.filter λx=> !decide (x.2+2<=e.now)}
structure bU where
 ls:List LT
 ph:Int
 vm:Int
 c:CT
 wk:Int×Int×FT
 fr:Int
 rs:Int×Int
 ak:Int
 fs:List Int
def bD (ls:List LT):bU:=⟨ls,0,0,(0,0,0,0,()),(0,0,(0,0,0,0,())),0,(0,0),0,[]⟩
structure MS where
 h:HS
 ep:vu
 bx:List (List AK)
 op:List Int
 cs:List bU
 kn:List Int
 ms:List MT
 sz:Int
def aV (k:Int):Int:=if k=6 then 1 else if k=7 then 2 else 0
def jt (h:HS) (x:bU):Bool:=decide (aV x.c.1>0)&&(aR h.g x.vm&&(fN x.c.1 x.c.2.1 x.c.2.2.1 x.c.2.2.2.1&&decide (x.c.2.1<1048576)))
def qD (s:MS) (n:Nat) (x:bU):Bool:=(B5 s.cs.length).any λi=>match s.cs[i]? with
 |none=>false
 |some y=>decide (i≠n/\x.vm=0)&&((x.c.1==1&&(y.ph==4&&y.c.1==2))||(x.c.1==2&&(decide (y.ph>=2)&&(decide (y.vm>0)&&y.vm==x.c.2.1))))
def il (s:MS) (f:Int):MS:={s with h:=bE s.h (iG s.h.s f),kn:=s.kn.filter (λx=> !(x==f)),ms:=s.ms++[(2,0,f,(0,0,0,0,()),0,0)]}
def dM (s:MS):MS×Nat:=((oC (fo s.ep)).foldl il {s with ep:=Cb (fo s.ep)},(oC (fo s.ep)).length)
def eh (s:MS) (h':HS):List Int:=((B5 h'.s.2.length).map λ(f:Nat)=>(f:Int)).filter λf=>(qt h'.s.2 f).1==5&& !s.kn.contains f
def a_ (s:MS) (n:Nat) (x:bU):MS:={s with cs:=s.cs.set n x}
def dG (bx:List (List AK)) (op:List Int) (n:Nat) (t p:Int):Int×List (List AK)×List Int:=
 if t<1\/t>16\/p< -1\/p>=65536 then(0,bx,op)
 else if(bx.eraseIdx n).any (λq=>q.length==16)=true then(0,bx,op)
 else((op.length:Int)+1,(bx.zipIdx.map λ(q,i)=>if i=n then q else q++[((op.length:Int)+1,t,p,())]),op++[(bx.length:Int) - 1])
abbrev St:Type:=MS×(Int×Int)×Bool
def iI (s:MS) (n:Nat) (x:bU):St:=
 let h':=jB s.h x.vm x.c.1 x.c.2.1 x.c.2.2.1 x.c.2.2.2.1
 let V:=wP s.h x.vm x.c.1 x.c.2.1 x.c.2.2.1 x.c.2.2.2.1
 let E:=qH s.h x.vm x.c.1 x.c.2.1 x.c.2.2.1 x.c.2.2.2.1
 let fs:=eh s h'
 let s1:MS:={s with h:=h',kn:=s.kn++fs,ms:=s.ms++[(1,x.vm,0,x.c,V,E)]}
 let x1:bU:={x with rs:=(V,E),fs:=fs}
 if x.c.1=2\/x.c.1=4\/x.c.1=5\/x.c.1=10 then
  if E≠0 then(a_ s1 n x1,(V,E),true)
  else
   let t:=if x.c.1=2 then aG .i64 x.c.2.1 else x.vm
   let p:=if x.c.1=2 then -1 else aG .i64 x.c.2.1
   let q:=dG s.bx s.op n t p
   (a_ {s1 with bx:=q.2.1,op:=q.2.2} n {x1 with ls:=js x.ls t p,ak:=q.1,ph:=4},(0,0),false)
 else(a_ s1 n x1,(V,E),true)
def dp (s:MS) (n:Nat) (x:bU):St:=
 if jt s.h x=true then
  let e:=mJ s.ep n
  let a:=iH x.ls x.vm (x.c.2.1 / 16) (aV x.c.1)
  if a.2=0 then(a_ {s with ep:=e} n {x with ph:=3,fr:=a.1},(0,0),false)
  else(a_ {s with ep:=e} n {x with ph:=2,wk:=fZ s.h.s.1 (aT s.h.g x.vm) (x.c.2.1 / 16) (aV x.c.1) 0},(0,0),false)
 else if qD s n x=true then(s,(0,9),true)
 else if x.vm=0/\x.c=(17,0,0,0,()) then((dM s).1,(((dM s).2:Nat),0),true)
 else iI s n x
def j_ (s:MS) (n:Nat) (x:bU):St:=
 let w:=bz s.h.s.1 (x.c.2.1 / 16) (aV x.c.1) x.wk
 let x1:bU:={x with wk:=w}
 if w.2.1≠ -1 then(a_ s n x1,(0,0),false)
 else if w.2.2.2.2.2.1≠0 then(a_ {s with ep:=oO s.ep n} n x1,(0,w.2.2.2.2.2.1),true)
 else(a_ s n {x1 with ls:=j9 x.ls s.sz (x.vm,x.c.2.1 / 16,w.2.2.1,w.2.2.2.1,()),ph:=3,fr:=w.2.2.1},(0,0),false)
def fO (s:MS) (n:Nat) (x:bU):St:=
 let at_:=16*x.fr+x.c.2.1 % 16
 if x.c.1=7 then({s with h:=bE s.h (dO s.h.s.1 at_ x.c.2.2.1,s.h.s.2),ep:=oO s.ep n,ms:=s.ms++[(4,0,at_,(0,0,0,0,()),x.c.2.2.1,0)]},(0,0),true)
 else({s with ep:=oO s.ep n,ms:=s.ms++[(3,0,at_,(0,0,0,0,()),dv s.h.s.1 at_,0)]},(dv s.h.s.1 at_,0),true)
def yz (s:MS) (a:Int):Bool:=decide (1<=a/\a<=(s.op.length:Int))&&s.op.getD (a - 1).toNat 0==0
def iJ (s:MS) (x:bU):St:=if yz s x.ak=true then({s with ep:=x.fs.foldl lq s.ep},x.rs,true) else(s,(0,0),false)
def bO (s:MS) (n:Nat) (x:bU):St:=
 if x.ph=0 then((dM s).1,(0,0),false)
 else if x.ph=1 then dp s n x
 else if x.ph=2 then j_ s n x
 else if x.ph=3 then fO s n x
 else iJ s x
def gJ (r:St) (n:Nat) (x:bU):St:=if r.2.2=true then(a_ r.1 n (bD ((r.1.cs.getD n x).ls)),r.2.1,true) else(r.1,(0,0),false)
def s9 (s:MS) (n:Nat):Option (AK×MS):=match s.bx[n]? with
 |some (a::q)=>some (a,{s with bx:=s.bx.set n q,op:=s.op.set (a.1 - 1).toNat (s.op.getD (a.1 - 1).toNat 0 - 1)})
 | _=>none
def jz (s:MS) (n:Nat) (x:bU):St:=
 if x.ph=3 then gJ (bO s n x) n x
 else match s9 s n with
  |some (a,s1)=>(a_ s1 n {x with ls:=js x.ls a.2.1 a.2.2.1},(0,0),false)
  |none=>gJ (bO s n x) n x
def aP (s:MS) (n:Int):St:=if n<0 then(s,(0,0),false) else match s.cs[n.toNat]? with
 |none=>(s,(0,0),false)
 |some x=>jz s n.toNat x
def rI (s:MS) (n:Int):Int:=if n<0 then 2 else match s.cs[n.toNat]? with
 |none=>2
 |some x=>if x.ph=0 then 0 else 9
def cA (s:MS) (n vm:Int) (c:CT):MS:=if n<0 then s else match s.cs[n.toNat]? with
 |none=>s
 |some x=>if x.ph=0 then a_ s n.toNat {x with ph:=1,vm:=vm,c:=c} else s
def m0 (b a:Nat) (c:Int):MS where
 h:=h0 b
 ep:=⟨0,C8 a (-1),[]⟩
 bx:=C8 a []
 op:=[]
 cs:=C8 a (bD [])
 kn:=[]
 ms:=[]
 sz:=c
section
variable {gh:Gh} {h:HS} {v k a b c:Int}
end
abbrev cI (a:Int):Prop:=0<=a/\a<18446744073709551616
structure MA (n:Nat) (s:MS):Prop where
 hi: ∃gh,HI gh s.h
 nn:1<=n/\n<=8
 lc:s.cs.length=n
 lb:s.bx.length=n
 lp:s.ep.pins.length=n
 sz:1<=s.sz/\s.sz<=64
 ph: ∀x∈s.cs,0<=x.ph/\x.ph<=4
 ar: ∀x∈s.cs,cI x.c.2.1/\cI x.c.2.2.1/\cI x.c.2.2.2.1
 tl: ∀x∈s.cs,(x.ls.length:Int)<=s.sz
 k5: ∀f∈s.kn, ∃(m:Nat) (d:DT),f=(m:Int)/\s.h.s.2[m]? =some d/\d.1=5
 nk:s.kn.Nodup
 wk: ∀e∈s.ep.ws,e.1∈s.kn
 wn:(s.ep.ws.map (·.1)).Nodup
 fk: ∀x∈s.cs,x.ph=4-> ∀f∈x.fs,f∈s.kn/\f∉s.ep.ws.map (·.1)
 fn: ∀x∈s.cs,x.ph=4->x.fs.Nodup
 fd: ∀{i j:Nat} {x y:bU},s.cs[i]? =some x->s.cs[j]? =some y->i≠j->x.ph=4->y.ph=4-> ∀f∈x.fs,f∉y.fs
 ln: ∀x∈s.cs, ∀l∈x.ls, ∃m:Nat,l.2.2.1=(m:Int)/\m<s.h.s.2.length
 rc: ∀x∈s.cs,x.ph=3-> ∃m:Nat,x.fr=(m:Int)/\m<s.h.s.2.length
 wl: ∀x∈s.cs,x.ph=2->0<=x.wk.2.1/\x.wk.2.1<=3
 ak: ∀q∈s.bx, ∀a∈q,1<=a.1/\a.1<=(s.op.length:Int)
 bl: ∀q∈s.bx,q.length<=16
def mtA (a:AK) (t p:Int):Prop:=a.2.1=t/\(a.2.2.1= -1\/a.2.2.1=p)
def rJ (s:MS) (i:Nat) (f:Int):Prop:=(∃(z:Nat) (y:bU),s.cs[z]? =some y/\y.ph=4/\f∈y.fs)\/ ∃e∈s.ep.ws,e.1=f/\s.ep.pins.getD i 0<=e.2
def Dt (ta:Int->Bool) (s:MS) (i:Nat) (l:LT):Prop:=
 (1<=l.1/\l.1<=16/\0<=l.2.1/\l.2.1<65536)/\ ∃(m:Nat) (d:DT),l.2.2.1=(m:Int)/\s.h.s.2[m]? =some d/\
  ((d.1=4/\iw s.h l.1.toNat l.2.1=(l.2.2.1,l.2.2.2.1,0,()))\/
    ((d.1=4\/d.1=5)/\ ∃q a,s.bx[i]? =some q/\a∈q/\mtA a l.1 l.2.1/\
      (d.1=5->ta l.2.2.1=false/\ ∃(z:Nat) (y:bU), ∃b∈q,s.cs[z]? =some y/\y.ph=4/\l.2.2.1∈y.fs/\b.1=y.ak/\a.1<=b.1)))
def Du (gh:Gh) (ta:Int->Bool) (s:MS) (i:Nat) (x:bU):Prop:=
 ∃l:Nat,x.wk.2.1=(l:Int)/\l<=3/\x.wk.2.2=(0,0,0,0,())/\(gh x.wk.1=some (x.vm,l,px (l+1) (x.c.2.1 / 16))\/(iF s.h.s x.wk.1/\rJ s i x.wk.1/\ta x.wk.1=true))
def Ao (ta:Int->Bool) (s:MS) (i:Nat) (f:Int):Prop:=
 ∃(m:Nat) (d:DT),f=(m:Int)/\s.h.s.2[m]? =some d/\(d.1=4\/(d.1=5/\rJ s i f/\ta f=false))
def Ap (y:bU):Int:=if y.c.1=2 then y.c.2.1 else y.vm
def Aq (y:bU):Int:=if y.c.1=2 then -1 else y.c.2.1
def jH (q:List AK) (id:Int):Bool:=q.any λa=>a.1==id
structure MI (gh:Gh) (ta:Int->Bool) (n:Nat) (s:MS):Prop where
 hi:HI gh s.h
 nn:1<=n/\n<=8
 lc:s.cs.length=n
 lb:s.bx.length=n
 lp:s.ep.pins.length=n
 sz:1<=s.sz/\s.sz<=64
 ph: ∀x∈s.cs,0<=x.ph/\x.ph<=4
 ar: ∀x∈s.cs,cI x.c.2.1/\cI x.c.2.2.1/\cI x.c.2.2.2.1
 tl: ∀x∈s.cs,(x.ls.length:Int)<=s.sz
 k5: ∀f∈s.kn, ∃(m:Nat) (d:DT),f=(m:Int)/\s.h.s.2[m]? =some d/\d.1=5
 nk:s.kn.Nodup
 wk: ∀e∈s.ep.ws,e.1∈s.kn/\0<=e.2/\e.2<=s.ep.now
 wn:(s.ep.ws.map (·.1)).Nodup
 fk: ∀x∈s.cs,x.ph=4-> ∀f∈x.fs,f∈s.kn/\f∉s.ep.ws.map (·.1)
 fn: ∀x∈s.cs,x.ph=4->x.fs.Nodup
 fd: ∀{i j:Nat} {x y:bU},s.cs[i]? =some x->s.cs[j]? =some y->i≠j->x.ph=4->y.ph=4-> ∀f∈x.fs,f∉y.fs
 kd: ∀{m:Nat} {d:DT},s.h.s.2[m]? =some d->d.1=5->(m:Int)∈s.kn/\((m:Int)∈s.ep.ws.map (·.1)\/ ∃x∈s.cs,x.ph=4/\(m:Int)∈x.fs)
 nw:0<=s.ep.now
 pn: ∀{i:Nat} {x:bU},s.cs[i]? =some x->if x.ph=2\/x.ph=3 then 0<=s.ep.pins.getD i 0/\s.ep.pins.getD i 0<=s.ep.now/\s.ep.now<=s.ep.pins.getD i 0+1 else s.ep.pins.getD i 0= -1
 ln: ∀{i:Nat} {x:bU},s.cs[i]? =some x-> ∀l∈x.ls,Dt ta s i l
 ac: ∀x∈s.cs,x.ph=2->aR s.h.g x.vm=true/\x.c.2.1<1048576/\(x.c.1=6\/x.c.1=7)
 wl: ∀{i:Nat} {x:bU},s.cs[i]? =some x->x.ph=2->Du gh ta s i x
 rc: ∀{i:Nat} {x:bU},s.cs[i]? =some x->x.ph=3->Ao ta s i x.fr/\(x.c.1=6\/x.c.1=7)
 wt: ∀x∈s.cs,x.ph=4->1<=x.ak/\x.ak<=(s.op.length:Int)/\1<=Ap x/\Ap x<=16/\ -1<=Aq x/\Aq x<65536
 wu: ∀{i j:Nat} {x y:bU},s.cs[i]? =some x->s.cs[j]? =some y->i≠j->x.ph=4->y.ph=4->x.ak≠y.ak
 aq: ∀{i:Nat} {q:List AK},s.bx[i]? =some q->q.Pairwise (λa b=>a.1<b.1)/\ ∀a∈q, ∃(j:Nat) (y:bU),j≠i/\s.cs[j]? =some y/\y.ph=4/\a=(y.ak,Ap y,Aq y,())
 oc: ∀id:Nat,id<s.op.length->s.op.getD id 0=(s.bx.countP (λq=>jH q ((id:Int)+1)):Nat)
section
variable {gh:Gh} {ta:Int->Bool} {n:Nat} {s:MS}
theorem aE {α:Type} {l:List α} {i:Nat} {x:α} (h:l[i]? =some x):x∈l:=B4 h
theorem ka {α:Type} {l:List α} {i j:Nat} {x y:α} (h:(l.set i x)[j]? =some y):(j=i/\y=x)\/(j≠i/\l[j]? =some y):=by
 by_cases e:i=j
 ·subst e;have a:=(Ak.1 h).1;rw[Av] at a;rw[Al a] at h;cases h;exact .inl ⟨rfl,rfl⟩
 ·rw[AN e] at h;exact .inr ⟨λc=>e c.symm,h⟩
theorem iq {α:Type} {l:List α} {i:Nat} {x y:α} (h:y∈l.set i x):y=x\/y∈l:=by
 obtain⟨j,a⟩:=Bs h;rcases ka a with ⟨_,e⟩|⟨_,e⟩
 ·exact .inl e
 ·exact .inr (B4 e)
end
section
variable {gh:Gh} {ta:Int->Bool} {n:Nat} {s s':MS} {i:Nat}
theorem rJ.dx {f:Int} (h:rJ s i f) (c: ∀{z:Nat} {y:bU},s.cs[z]? =some y->y.ph=4->s'.cs[z]? =some y) (d:s'.ep.ws=s.ep.ws) (g:s'.ep.pins.getD i 0=s.ep.pins.getD i 0):rJ s' i f:=by
 rcases h with ⟨z,y,h1,a,b⟩|⟨e,h1,a,b⟩
 ·exact .inl ⟨z,y,c h1 a,a,b⟩
 ·exact .inr ⟨e,by rw[d];exact h1,a,by rw[g];exact b⟩
theorem Dt.dx {l:LT} (h:Dt ta s i l) (f:s'.h=s.h) (hb:s'.bx=s.bx) (j: ∀{z:Nat} {y:bU},s.cs[z]? =some y->y.ph=4->s'.cs[z]? =some y):Dt ta s' i l:=by
 obtain⟨h0,m,d,h1,k,c⟩:=h;refine⟨h0,m,d,h1,by rw[f];exact k,?_⟩;rw[f,hb];rcases c with c|⟨c,q,a,n,o,p,r⟩
 ·exact .inl c
 ·refine .inr ⟨c,q,a,n,o,p,λe=>?_⟩;obtain⟨t,z,y,b,u,g1,g,v,w,x⟩:=r e;exact⟨t,z,y,b,u,j g1 g,g,v,w,x⟩
theorem Du.dx {x:bU} (h:Du gh ta s i x) (a:s'.h=s.h) (b: ∀{z:Nat} {y:bU},s.cs[z]? =some y->y.ph=4->s'.cs[z]? =some y) (d:s'.ep.ws=s.ep.ws) (e:s'.ep.pins.getD i 0=s.ep.pins.getD i 0):Du gh ta s' i x:=by
 obtain⟨l,h1,f,g,j⟩:=h;refine⟨l,h1,f,g,?_⟩;rw[a];exact j.imp id λc=>⟨c.1,c.2.1.dx b d e,c.2.2⟩
theorem Ao.dx {f:Int} (h:Ao ta s i f) (a:s'.h=s.h) (b: ∀{z:Nat} {y:bU},s.cs[z]? =some y->y.ph=4->s'.cs[z]? =some y) (e:s'.ep.ws=s.ep.ws) (g:s'.ep.pins.getD i 0=s.ep.pins.getD i 0):Ao ta s' i f:=by
 obtain⟨m,d,h1,j,k⟩:=h;refine⟨m,d,h1,by rw[a];exact j,?_⟩;exact k.imp id λc=>⟨c.1,c.2.1.dx b e g,c.2.2⟩
theorem MI.C5 (M:MI gh ta n s) {x x':bU} (L:s.cs[i]? =some x) (p:Int) (ms:List MT) (R:x.ph≠4) (w:x'.ph≠4) (k:s'={s with cs:=s.cs.set i x',ep:={s.ep with pins:=s.ep.pins.set i p},ms:=ms})
 (S:0<=x'.ph/\x'.ph<=4) (T:cI x'.c.2.1/\cI x'.c.2.2.1/\cI x'.c.2.2.2.1) (U:(x'.ls.length:Int)<=s.sz)
 (V:if x'.ph=2\/x'.ph=3 then 0<=p/\p<=s.ep.now/\s.ep.now<=p+1 else p= -1) (W: ∀l∈x'.ls,Dt ta s i l) (X:x'.ph=2->aR s.h.g x'.vm=true/\x'.c.2.1<1048576/\(x'.c.1=6\/x'.c.1=7))
 (Y:x'.ph=2->Du gh ta s' i x') (Z:x'.ph=3->Ao ta s' i x'.fr/\(x'.c.1=6\/x'.c.1=7)):MI gh ta n s':=by
 have iR:i<s.cs.length:=(Ak.1 L).1;have C: ∀{z:Nat} {y:bU},s.cs[z]? =some y->y.ph=4->s'.cs[z]? =some y:=λ{z y} h1 o=>by
  have e:i≠z:=λe=>by subst e;rw[L] at h1;cases h1;exact R o
  rw[k];show(s.cs.set i x')[z]? = _;rw[AN e];exact h1
 have t: ∀{z:Nat} {y:bU},s'.cs[z]? =some y->(z=i/\y=x')\/(z≠i/\s.cs[z]? =some y):=λh=>by
  rw[k] at h;exact ka h
 have A: ∀{y:bU},y∈s'.cs->y=x'\/y∈s.cs:=λh=>by
  rw[k] at h;exact iq h
 have u:s'.h=s.h:=by rw[k]
 have hb:s'.bx=s.bx:=by rw[k]
 have N:s'.op=s.op:=by rw[k]
 have E:s'.kn=s.kn:=by rw[k]
 have D:s'.ep.ws=s.ep.ws:=by rw[k]
 have F:s'.ep.now=s.ep.now:=by rw[k]
 have O:s'.sz=s.sz:=by rw[k]
 have G:s'.ep.pins=s.ep.pins.set i p:=by rw[k]
 have hpi:s'.ep.pins.getD i 0=p:=by
  rw[G,Ay,Al (by rw[M.lp, <-M.lc];exact iR)];rfl
 have H: ∀{j:Nat},j≠i->s'.ep.pins.getD j 0=s.ep.pins.getD j 0:=λ{j} r=>by
  rw[G,Ay,AN (λe=>r e.symm),Ay]
 refine⟨by rw[u];exact M.hi,M.nn,by rw[k];show(s.cs.set i x').length=n;rw[Av];exact M.lc,by rw[hb];exact M.lb,by rw[G,Av];exact M.lp,by rw[O];exact M.sz,λy f=>?_,λy f=>?_,λy f=>?_,
  by rw[E,u];exact M.k5,by rw[E];exact M.nk,by rw[D,E,F];exact M.wk,by rw[D];exact M.wn,λy f e=>?_,λy f e=>?_,λ{a b y z} h1 o I v B=>?_,λ{m d} h1 o=>?_,by rw[F];exact M.nw,λ{j y} h1=>?_,λ{j y} h1 l P=>?_,λy f e=>?_,λ{j y} h1 e=>?_,λ{j y} h1 e=>?_,λy f e=>?_,λ{a b y z} h1 o I v B=>?_,λ{j q} h1=>?_,by rw[N,hb];exact M.oc⟩
 ·rcases A f with rfl|f
  ·exact S
  ·exact M.ph y f
 ·rcases A f with rfl|f
  ·exact T
  ·exact M.ar y f
 ·rw[O];rcases A f with rfl|f
  ·exact U
  ·exact M.tl y f
 ·rcases A f with rfl|f
  ·exact absurd e w
  ·rw[E,D];exact M.fk y f e
 ·rcases A f with rfl|f
  ·exact absurd e w
  ·exact M.fn y f e
 ·rcases t h1 with ⟨_,rfl⟩|⟨_,h1⟩
  ·exact absurd v w
  ·rcases t o with ⟨_,rfl⟩|⟨_,o⟩
   ·exact absurd B w
   ·exact M.fd h1 o I v B
 ·rw[u] at h1;obtain⟨J,K⟩:=M.kd h1 o;rw[E,D];refine⟨J,K.imp id λ⟨y,f,v,B⟩=>?_⟩;obtain⟨j,r⟩:=Bs f;exact⟨y,aE (C r v),v,B⟩
 ·rw[F];rcases t h1 with ⟨rfl,rfl⟩|⟨r,h1⟩
  ·rw[hpi];exact V
  ·rw[H r];exact M.pn h1
 ·rcases t h1 with ⟨rfl,rfl⟩|⟨r,h1⟩
  ·exact(W l P).dx u hb C
  ·exact(M.ln h1 l P).dx u hb C
 ·rw[u];rcases A f with rfl|f
  ·exact X e
  ·exact M.ac y f e
 ·rcases t h1 with ⟨rfl,rfl⟩|⟨r,h1⟩
  ·exact Y e
  ·exact(M.wl h1 e).dx u C D (H r)
 ·rcases t h1 with ⟨rfl,rfl⟩|⟨r,h1⟩
  ·exact Z e
  ·exact⟨(M.rc h1 e).1.dx u C D (H r),(M.rc h1 e).2⟩
 ·rw[N];rcases A f with rfl|f
  ·exact absurd e w
  ·exact M.wt y f e
 ·rcases t h1 with ⟨_,rfl⟩|⟨_,h1⟩
  ·exact absurd v w
  ·rcases t o with ⟨_,rfl⟩|⟨_,o⟩
   ·exact absurd B w
   ·exact M.wu h1 o I v B
 ·rw[hb] at h1;obtain⟨J,K⟩:=M.aq h1;refine⟨J,λa ha=>?_⟩;obtain⟨j2,y,g1,g2,Q,g4⟩:=K a ha;exact⟨j2,y,g1,C g2 Q,Q,g4⟩
theorem tJ (M:MI gh ta n s) {x:bU} (b:s.cs[i]? =some x):s.ep.pins.set i (s.ep.pins.getD i 0)=s.ep.pins:=by
 have a:i<s.ep.pins.length:=by rw[M.lp, <-M.lc];exact(Ak.1 b).1
 refine FO λj=>?_;rw[GI];by_cases e:i=j
 ·subst e;rw[av rfl,av a,Ay,B6 a];rfl
 ·rw[ao e]
theorem MI.ask (M:MI gh ta n s) (k vm:Int) {c:CT} (hc:cI c.2.1/\cI c.2.2.1/\cI c.2.2.2.1):MI gh ta n (cA s k vm c):=by
 unfold cA;split
 ·exact M
 cases a:s.cs[k.toNat]? with
 |none=>exact M
 |some x=>
  dsimp only;split
  ·rename_i h0;have b:=M.pn a;rw[h0,ao (by decide)] at b;refine M.C5 (x':={x with ph:=1,vm:=vm,c:=c}) a (s.ep.pins.getD k.toNat 0) s.ms (by rw[h0];decide) (show ¬ (1:Int)=4 by decide) ?_ (show 0<=(1:Int)/\(1:Int)<=4 by decide) hc (M.tl x (aE a)) ?_ (λl d=>M.ln a l d) (λe=>absurd e (show ¬ (1:Int)=2 by decide)) (λe=>absurd e (show ¬ (1:Int)=2 by decide)) (λe=>absurd e (show ¬ (1:Int)=3 by decide))
   ·rw[tJ M a];rfl
   ·show if(1:Int)=2\/(1:Int)=3 then _ else _;rw[ao (by decide)];exact b
  ·exact M
theorem MI.idle (M:MI gh ta n s) {x:bU} (a:s.cs[i]? =some x) (b:x.ph≠4) {ls:List LT} (c: ∀l∈ls,Dt ta s i l) (d:(ls.length:Int)<=s.sz) (ms:List MT):MI gh ta n {s with cs:=s.cs.set i (bD ls),ep:=oO s.ep i,ms:=ms}:=
 M.C5 (x':=bD ls) a (-1) ms b (show ¬ (0:Int)=4 by decide) rfl (show 0<=(0:Int)/\(0:Int)<=4 by decide) (show cI 0/\cI 0/\cI 0 by decide) d (by show if(0:Int)=2\/(0:Int)=3 then _ else _;rw[ao (by decide)]) c (λe=>absurd e (show ¬ (0:Int)=2 by decide)) (λe=>absurd e (show ¬ (0:Int)=2 by decide)) (λe=>absurd e (show ¬ (0:Int)=3 by decide))
end
section
variable {gh:Gh} {ta:Int->Bool} {n:Nat} {s s':MS} {i:Nat}
def WtK (s s':MS):Prop:= ∀(z:Nat) (y:bU),s.cs[z]? =some y->y.ph=4-> ∃a,s'.cs[z]? =some a/\a.ph=4/\a.fs=y.fs/\a.ak=y.ak/\a.vm=y.vm/\a.c=y.c
theorem rJ.AO {f:Int} (h:rJ s i f) (c:WtK s s') (d:s'.ep.ws=s.ep.ws) (g:s'.ep.pins.getD i 0=s.ep.pins.getD i 0):rJ s' i f:=by
 rcases h with ⟨z,y,h1,a,b⟩|⟨e,h1,a,b⟩
 ·obtain⟨j,g1,k,l, _⟩:=c z y h1 a;exact .inl ⟨z,j,g1,k,by rw[l];exact b⟩
 ·exact .inr ⟨e,by rw[d];exact h1,a,by rw[g];exact b⟩
theorem Du.AO {x:bU} (h:Du gh ta s i x) (a:s'.h=s.h) (b:WtK s s') (d:s'.ep.ws=s.ep.ws) (e:s'.ep.pins.getD i 0=s.ep.pins.getD i 0):Du gh ta s' i x:=by
 obtain⟨l,h1,f,g,j⟩:=h;refine⟨l,h1,f,g,?_⟩;rw[a];exact j.imp id λc=>⟨c.1,c.2.1.AO b d e,c.2.2⟩
theorem Ao.AO {f:Int} (h:Ao ta s i f) (a:s'.h=s.h) (b:WtK s s') (e:s'.ep.ws=s.ep.ws) (g:s'.ep.pins.getD i 0=s.ep.pins.getD i 0):Ao ta s' i f:=by
 obtain⟨m,d,h1,j,k⟩:=h;refine⟨m,d,h1,by rw[a];exact j,?_⟩;exact k.imp id λc=>⟨c.1,c.2.1.AO b e g,c.2.2⟩
theorem tK {ls:List LT} {t p:Int} {l:LT} (h:l∈js ls t p):l∈ls/\ ¬ (t=l.1/\(p= -1\/p=l.2.1)):=by
 unfold js at h;split at h
 ·rename_i e;obtain⟨h1,a⟩:=B3.1 h;refine⟨h1,λc=>?_⟩;simp at a;exact a c.1.symm
 ·rename_i e;obtain⟨h1,a⟩:=B3.1 h;refine⟨h1,λc=>?_⟩;rcases c.2 with c2|c2
  ·exact e c2
  ·simp[uU] at a;exact a.elim (λf=>f c.1.symm) (λf=>f c2.symm)
theorem EA (ls:List LT) (t p:Int):(js ls t p).length<=ls.length:=by
 unfold js;split<;>exact List.length_filter_le ..
theorem vi (a:AK) (q:List AK) (id:Int):jH (a::q) id=(a.1==id||jH q id):=rfl
theorem MI.pop (M:MI gh ta n s) {x:bU} (X:s.cs[i]? =some x) {a:AK} {q:List AK} (E:s.bx[i]? =some (a::q)):
 MI gh ta n {s with bx:=s.bx.set i q,op:=s.op.set (a.1 - 1).toNat (s.op.getD (a.1 - 1).toNat 0 - 1),cs:=s.cs.set i {x with ls:=js x.ls a.2.1 a.2.2.1}}:=by
 have iR:i<s.cs.length:=(Ak.1 X).1;have hib:i<s.bx.length:=by rw[M.lb, <-M.lc];exact iR
 generalize F:({s with bx:=s.bx.set i q,op:=s.op.set (a.1 - 1).toNat (s.op.getD (a.1 - 1).toNat 0 - 1),cs:=s.cs.set i {x with ls:=js x.ls a.2.1 a.2.2.1}}:MS)=s';have v:s'.h=s.h:=by rw[<-F]
 have p:s'.ep=s.ep:=by rw[<-F]
 have O:s'.kn=s.kn:=by rw[<-F]
 have iu:s'.sz=s.sz:=by rw[<-F]
 have hb:s'.bx=s.bx.set i q:=by rw[<-F]
 have ho:s'.op=s.op.set (a.1 - 1).toNat (s.op.getD (a.1 - 1).toNat 0 - 1):=by rw[<-F]
 have fV:s'.cs=s.cs.set i {x with ls:=js x.ls a.2.1 a.2.2.1}:=by rw[<-F]
 have XL:s'.op.length=s.op.length:=by rw[ho,Av]
 have vL:s'.cs[i]? =some {x with ls:=js x.ls a.2.1 a.2.2.1}:=by rw[fV,Al iR]
 have K:WtK s s':=λz y h1 A=>by
  by_cases e:i=z
  ·subst e;rw[X] at h1;cases h1;exact⟨_,vL,A,rfl,rfl,rfl,rfl⟩
  ·exact⟨y,by rw[fV,AN e];exact h1,A,rfl,rfl,rfl,rfl⟩
 have w: ∀{z:Nat} {y:bU},s'.cs[z]? =some y-> ∃f,s.cs[z]? =some f/\y.ph=f.ph/\y.vm=f.vm/\y.c=f.c/\y.wk=f.wk/\y.fr=f.fr/\y.ak=f.ak/\y.fs=f.fs/\(z≠i->y=f)/\y.ls.length<=f.ls.length:=λ{z y} h=>by
  rw[fV] at h;rcases ka h with ⟨rfl,rfl⟩|⟨e,h⟩
  ·exact⟨x,X,rfl,rfl,rfl,rfl,rfl,rfl,rfl,λc=>absurd rfl c,EA ..⟩
  ·exact⟨y,h,rfl,rfl,rfl,rfl,rfl,rfl,rfl,λ_=>rfl,E5 _⟩
 have G: ∀{y:bU},y∈s'.cs-> ∃f∈s.cs,y.ph=f.ph/\y.vm=f.vm/\y.c=f.c/\y.wk=f.wk/\y.fr=f.fr/\y.ak=f.ak/\y.fs=f.fs/\y.ls.length<=f.ls.length:=λh=>by
  obtain⟨z,hz⟩:=Bs h;obtain⟨f,g1,B,t,L,Y,P,H,g8, _,g9⟩:=w hz;exact⟨f,aE g1,B,t,L,Y,P,H,g8,g9⟩
 obtain⟨hpw,uP⟩:=M.aq E;obtain⟨ja,ya,hja,hya,Xu,hea⟩:=uP a BI;obtain⟨ha1,XK, _⟩:=M.wt ya (aE hya) Xu;have ea1:a.1=ya.ak:=by rw[hea]
 have Io: ∀b∈q,a.1<b.1:=(List.pairwise_cons.1 hpw).1;refine⟨by rw[v];exact M.hi,M.nn,by rw[fV,Av];exact M.lc,by rw[hb,Av];exact M.lb,by rw[p];exact M.lp,by rw[iu];exact M.sz,λy k=>?_,λy k=>?_,λy k=>?_,
  by rw[O,v];exact M.k5,by rw[O];exact M.nk,by rw[p,O];exact M.wk,by rw[p];exact M.wn,λy k e=>?_,λy k e=>?_,λ{a b y z} h1 A Z Q R=>?_,λ{m d} h1 A=>?_,by rw[p];exact M.nw,λ{j y} h1=>?_,λ{j y} h1 l hl=>?_,λy k e=>?_,λ{j y} h1 e=>?_,λ{j y} h1 e=>?_,λy k e=>?_,λ{a b y z} h1 A Z Q R=>?_,λ{j r} h1=>?_,λid Fx=>?_⟩
 ·obtain⟨f,o,g1, _⟩:=G k;rw[g1];exact M.ph f o
 ·obtain⟨f,o, _, _,t, _⟩:=G k;rw[t];exact M.ar f o
 ·obtain⟨f,o, _, _, _, _, _, _, _,g⟩:=G k;have:=M.tl f o;rw[iu];omega
 ·obtain⟨f,o,g1, _, _, _, _, _,H, _⟩:=G k;rw[H,O,p];exact M.fk f o (by rw[<-g1];exact e)
 ·obtain⟨f,o,g1, _, _, _, _, _,H, _⟩:=G k;rw[H];exact M.fn f o (by rw[<-g1];exact e)
 ·obtain⟨f,u,g1, _, _, _, _, _,H, _⟩:=w h1;obtain⟨z0,k0,C, _, _, _, _, _,k7, _⟩:=w A;rw[H,k7];exact M.fd u k0 Z (by rw[<-g1];exact Q) (by rw[<-C];exact R)
 ·rw[v] at h1;obtain⟨C,k2⟩:=M.kd h1 A;rw[O,p];refine⟨C,k2.imp id λ⟨y,k,Q,R⟩=>?_⟩;obtain⟨j,hj⟩:=Bs k;obtain⟨I,p1,p2,p3, _⟩:=K j y hj Q;exact⟨I,aE p1,p2,by rw[p3];exact R⟩
 ·obtain⟨f,u,g1, _⟩:=w h1;rw[p,g1];exact M.pn u
 ·
  obtain⟨f,u, _, _, _, _, _, _, _,gj, _⟩:=w h1;by_cases e:j=i
  ·subst e;rw[vL] at h1;cases h1;obtain⟨l1,l2⟩:=tK hl;obtain⟨J,m,d,S,T,U⟩:=M.ln X l l1;refine⟨J,m,d,S,by rw[v];exact T,?_⟩;rw[v];refine U.imp id λ⟨V,qq,b,N,D,W,r8⟩=>⟨V,q,b,by rw[hb,Al hib],?_,W,λe5=>?_⟩
   ·rw[E] at N;cases N;rcases C7.1 D with rfl|D
    ·exact absurd W l2
    ·exact D
   ·obtain⟨r9,z,y,c,c0,c1,c2,c3,c4,c5⟩:=r8 e5;obtain⟨I,p1,p2,p3,p4, _⟩:=K z y c1 c2;rw[E] at N;cases N;have hbq:b∈q:=by
     rcases C7.1 D with rfl|D
     ·exact absurd W l2
     ·exact D
    have hcq:c∈q:=by
     rcases C7.1 c0 with rfl|c0
     ·have:=Io b hbq;omega
     ·exact c0
    exact⟨r9,z,I,c,hcq,p1,p2,by rw[p3];exact c3,by rw[p4];exact c4,c5⟩
  ·rw[gj e] at hl;obtain⟨J,m,d,S,T,U⟩:=M.ln u l hl;refine⟨J,m,d,S,by rw[v];exact T,?_⟩;rw[v];refine U.imp id λ⟨V,qq,b,N,D,W,r8⟩=>⟨V,qq,b,by rw[hb,AN (λc=>e c.symm)];exact N,D,W,λe5=>?_⟩;obtain⟨r9,z,y,c,c0,c1,c2,c3,c4,c5⟩:=r8 e5;obtain⟨I,p1,p2,p3,p4, _⟩:=K z y c1 c2;exact⟨r9,z,I,c,c0,p1,p2,by rw[p3];exact c3,by rw[p4];exact c4,c5⟩
 ·obtain⟨f,o,g1,B,t, _⟩:=G k;rw[v,B,t];exact M.ac f o (by rw[<-g1];exact e)
 ·obtain⟨f,u,g1,B,t,L, _⟩:=w h1;obtain⟨l,S,T,U,V⟩:=(M.wl u (by rw[<-g1];exact e)).AO v K (by rw[p]) (by rw[p]);exact⟨l,by rw[L];exact S,T,by rw[L];exact U,by rw[L,B,t];exact V⟩
 ·obtain⟨f,u,g1,B,t,L,Y, _⟩:=w h1;have:=M.rc u (by rw[<-g1];exact e);rw[Y,t];exact⟨this.1.AO v K (by rw[p]) (by rw[p]),this.2⟩
 ·obtain⟨f,o,g1,B,t, _, _,P, _⟩:=G k;have:=M.wt f o (by rw[<-g1];exact e);unfold Ap Aq at this ⊢;rw[XL,B,t,P];exact this
 ·obtain⟨f,u,g1, _, _, _, _,P, _⟩:=w h1;obtain⟨z0,k0,C, _, _, _, _,k6, _⟩:=w A;rw[P,k6];exact M.wu u k0 Z (by rw[<-g1];exact Q) (by rw[<-C];exact R)
 ·
  have sub: ∃J,s.bx[j]? =some J/\r.Sublist J:=by
   rw[hb] at h1;rcases ka h1 with ⟨rfl,rfl⟩|⟨_,h1⟩
   ·exact⟨_,E,List.sublist_cons_self ..⟩
   ·exact⟨r,h1,List.Sublist.refl _⟩
  obtain⟨J,k0,C⟩:=sub;obtain⟨k2,k3⟩:=M.aq k0;refine⟨k2.sublist C,λb hb=>?_⟩;obtain⟨j2,y,p1,p2,p3,p4⟩:=k3 b (C.subset hb);obtain⟨I,q1,q2,q3,q4,q5,q6⟩:=K j2 y p2 p3;refine⟨j2,I,p1,q1,q2,?_⟩;unfold Ap Aq at p4 ⊢;rw[q4,q5,q6];exact p4
 ·
  rw[XL] at Fx;have hoc:=M.oc id Fx;have hbi:s.bx[i]=a::q:=(Ak.1 E).2;have hnq:jH q a.1=false:=by
   unfold jH;rw[GJ];intro b hb c;have:=Io b hb;have c':b.1=a.1:=by simpa using c
   omega
  have J8: ∀j:Int,((s.bx.set i q).countP (λr=>jH r j):Nat)=s.bx.countP (λr=>jH r j) - (if jH (a::q) j=true then 1 else 0)+(if jH q j=true then 1 else 0):=λj=>by
   rw[List.countP_set hib,hbi]
  rw[ho,hb,J8,Ay,GI,vi];by_cases e:(a.1 - 1).toNat=id
  ·have ej:(id:Int)+1=a.1:=by omega
   rw[av e,av (by omega),ej,hnq];have oJ:0<s.bx.countP (λr=>jH r a.1):=Dz.2 ⟨a::q,aE E,by rw[vi];simp⟩;rw[ej] at hoc;rw[e];simp only[beq_self_eq_true,Bool.true_or,if_true,Option.getD_some];rw[ao (by decide)];omega
  ·rw[ao e, <-Ay,hoc];have:(a.1==(id:Int)+1)=false:=by
    simp;omega
   rw[this,Bool.false_or];split
   ·rename_i hp;have oJ:0<s.bx.countP (λr=>jH r ((id:Int)+1)):=Dz.2 ⟨a::q,aE E,by rw[vi,hp,Bool.or_true]⟩;omega
   ·omega
end
section
variable {gh:Gh} {ta:Int->Bool} {n:Nat} {s s':MS} {i:Nat}
theorem BA {l:List (Int×Int)} (h:(l.map (·.1)).Nodup) {a b:Int×Int} (d:a∈l) (hb:b∈l) (e:a.1=b.1):a=b:=by
 induction l with
 |nil=>cases d
 |cons c l f=>
  rw[CX,Bx] at h;rcases C7.1 d with rfl|d
  ·rcases C7.1 hb with rfl|hb
   ·rfl
   ·exact absurd (B1.2 ⟨b,hb,e.symm⟩) h.1
  ·rcases C7.1 hb with g|hb
   ·rw[g] at e;exact absurd (show c.1∈l.map (·.1) from B1.2 ⟨a,d,e⟩) h.1
   ·exact f h.2 d hb
theorem MI.XS (M:MI gh ta n s):MI gh ta n {s with ep:=fo s.ep}:=by
 unfold fo;split
 ·rename_i h;rw[List.all_eq_true] at h;exact{M with
   wk:=λe g=>by
    obtain⟨a,b,c⟩:=M.wk e g;exact⟨a,b,Int.le_trans c (by show s.ep.now<=s.ep.now+1;omega)⟩
   nw:=by
    have:=M.nw;show 0<=s.ep.now+1;omega
   pn:=λ{j y} d=>by
    have:=M.pn d;show if y.ph=2\/y.ph=3 then 0<=s.ep.pins.getD j 0/\s.ep.pins.getD j 0<=s.ep.now+1/\s.ep.now+1<=s.ep.pins.getD j 0+1 else s.ep.pins.getD j 0= -1;split
    ·rename_i c;rw[av c] at this;have f:j<s.ep.pins.length:=by rw[M.lp, <-M.lc];exact(Ak.1 d).1
     have i:s.ep.pins.getD j 0∈s.ep.pins:=by
      rw[Ay,B6 f];exact List.getElem_mem f
     have:=h _ i;simp only[Bool.or_eq_true,beq_iff_eq] at this;omega
    ·rename_i c;rw[ao c] at this;exact this}
 ·exact M
def gT (s:MS) (f:Int):MS:={il s f with ep:={s.ep with ws:=s.ep.ws.filter λx=> !(x.1==f)}}
theorem Jx (M:MI gh ta n s) {x:bU} (d:s.cs[i]? =some x) (g:x.ph=2\/x.ph=3) {f r:Int} (c:(f,r)∈s.ep.ws) (k:r+2<=s.ep.now) {f0:Int} (P:rJ s i f0):f0≠f/\rJ (gT s f) i f0:=by
 have h:=M.pn d;rw[av g] at h;have ne:f0≠f:=λe=>by
  subst e;rcases P with ⟨z,y,h1,a,b⟩|⟨e,h1,a,b⟩
  ·exact(M.fk y (aE h1) a f0 b).2 (B1.2 ⟨_,c,rfl⟩)
  ·have:e=(f0,r):=by
    have j:=M.wn;exact BA j h1 c a
   subst this;have b:s.ep.pins.getD i 0<=r:=b;omega
 refine⟨ne,?_⟩;rcases P with ⟨z,y,h1,a,b⟩|⟨e,h1,a,b⟩
 ·exact .inl ⟨z,y,h1,a,b⟩
 ·refine .inr ⟨e,B3.2 ⟨h1,?_⟩,a,b⟩;simp[a,ne]
theorem MI.gT (M:MI gh ta n s) {f r:Int} (F:(f,r)∈s.ep.ws) (L:r+2<=s.ep.now):MI gh ta n (gT s f):=by
 obtain⟨R, _, _⟩:=M.wk _ F;obtain⟨m,d,B,G,N⟩:=M.k5 f R;have B:f=(m:Int):=B;obtain⟨S, _,T,U⟩:=M.hi.OA G N;have O:f∈s.ep.ws.map (·.1):=B1.2 ⟨_,F,rfl⟩;have hmn:m<s.h.s.2.length:=(Ak.1 G).1;have C:(Go.Proofs.YtlcenllcmeebhaaGreat.gT s f).h=bE s.h (s.h.s.1,s.h.s.2.set m zD):=by
  show bE s.h (iG s.h.s f)= _;rw[B,S]
 have P:(Go.Proofs.YtlcenllcmeebhaaGreat.gT s f).h.s.2=s.h.s.2.set m zD:=by rw[C];rfl
 have V:(Go.Proofs.YtlcenllcmeebhaaGreat.gT s f).h.s.1=s.h.s.1:=by rw[C];rfl
 have W:(Go.Proofs.YtlcenllcmeebhaaGreat.gT s f).h.g=s.h.g:=by rw[C];rfl
 have D: ∀{k:Nat} {d':DT},s.h.s.2[k]? =some d'->(k:Int)≠f->(Go.Proofs.YtlcenllcmeebhaaGreat.gT s f).h.s.2[k]? =some d':=λ{k d'} h1 o=>by
  rw[P,AN (λc=>o (by rw[B,c]))];exact h1
 have H: ∀{k:Nat} {d':DT},s.h.s.2[k]? =some d'->d'.1=4->(k:Int)≠f:=λ{k d'} h1 o c=>by
  rw[B] at c;have:k=m:=by omega
  subst this;rw[G] at h1;cases h1;rw[N] at o;exact absurd o (by decide)
 have I: ∀{g:Int},g∈s.kn->g≠f->g∈(Go.Proofs.YtlcenllcmeebhaaGreat.gT s f).kn:=λ{g} h1 o=>B3.2 ⟨h1,by simp[o]⟩;have pg: ∀i q,iw (Go.Proofs.YtlcenllcmeebhaaGreat.gT s f).h i q=iw s.h i q:=λi q=>by rw[C];exact U.to id
 exact{M with
  hi:=by rw[C];exact T
  k5:=λg J=>by
   obtain⟨h1,o⟩:=B3.1 J;obtain⟨k,d',t,u,E⟩:=M.k5 g h1;exact⟨k,d',t,D u (by rw[<-t];simpa using o),E⟩
  nk:=M.nk.sublist DA
  wk:=λe X=>by
   obtain⟨h1,o⟩:=B3.1 X;obtain⟨t,u,E⟩:=M.wk e h1;exact⟨I t (by simpa using o),u,E⟩
  wn:=M.wn.sublist (DA.map _)
  fk:=λy K e g J=>by
   obtain⟨t,u⟩:=M.fk y K e g J;exact⟨I t λc=>u (by rw[c];exact O),λc=>u ((DA.map _).subset c)⟩
  kd:=λ{k d'} h1 o=>by
   rw[P] at h1;rcases ka h1 with ⟨_,rfl⟩|⟨e,h1⟩
   ·exact absurd o (by decide)
   ·have ne:(k:Int)≠f:=λc=>e (by rw[B] at c;omega);obtain⟨t,u⟩:=M.kd h1 o;refine⟨I t ne,u.imp (λc=>?_) id⟩;obtain⟨e',g1,Q⟩:=B1.1 c;exact B1.2 ⟨e',B3.2 ⟨g1,by simp[Q,ne]⟩,Q⟩
  pn:=λ{j y} v=>M.pn v
  ln:=λ{j y} v l Y=>by
   obtain⟨Z,k,d',A,w,p⟩:=M.ln v l Y;have ne:(k:Int)≠f:=by
    rcases p with p|⟨x,q,a, _, _, _,r8⟩
    ·exact H w p.1
    ·rcases x with x|x
     ·exact H w x
     ·obtain⟨_,z,y,b, _,c1,c2,c3, _, _⟩:=r8 x;have:=(M.fk y (aE c1) c2 _ c3).2;exact λc=>this (by rw[A,c];exact O)
   refine⟨Z,k,d',A,D w ne,?_⟩;rw[pg];exact p
  ac:=λy K e=>by rw[W];exact M.ac y K e
  wl:=λ{j y} v e=>by
   obtain⟨l,A,w,p,x⟩:=M.wl v e;refine⟨l,A,w,p,x.imp id λ⟨c1,c2,c3⟩=>?_⟩;obtain⟨p1,p2⟩:=Jx M v (.inl e) F L c2;refine⟨?_,p2,c3⟩;obtain⟨k0,d',t,u,E⟩:=c1;exact⟨k0,d',D t (by rw[FB k0];exact p1),u,by rw[V];exact E⟩
  rc:=λ{j y} v e=>by
   obtain⟨⟨k,d',A,w,p⟩,x⟩:=M.rc v e;refine⟨?_,x⟩;rcases p with p|⟨r5,r6,r7⟩
   ·exact⟨k,d',A,D w (H w p),.inl p⟩
   ·obtain⟨p1,p2⟩:=Jx M v (.inr e) F L r6;exact⟨k,d',A,D w (by rw[<-A];exact p1),.inr ⟨r5,p2,r7⟩⟩}
theorem MI.W6: ∀(L:List Int) {s:MS},MI gh ta n s->L.Nodup->(∀f∈L, ∃r,(f,r)∈s.ep.ws/\r+2<=s.ep.now)->MI gh ta n (L.foldl Go.Proofs.YtlcenllcmeebhaaGreat.gT s)
 |[], _,M, _, _=>M
 |f::L,s,M,a,b=>by
  obtain⟨r,h1,e⟩:=b f BI;refine MI.W6 L (M.gT h1 e) (Bx.1 a).2 λg d=>?_;obtain⟨r',h,i⟩:=b g (BQ _ d);refine⟨r',B3.2 ⟨h,?_⟩,i⟩;have:g≠f:=λc=>(Bx.1 a).1 (by rw[<-c];exact d);simp[this]
theorem tL (e:vu): ∀(L:List Int) (s:MS),L.foldl il {s with ep:=e}={L.foldl il s with ep:=e}
 |[], _=>rfl
 |f::L,s=>tL e L (il s f)
theorem EB: ∀(L:List Int) (s:MS),L.foldl Go.Proofs.YtlcenllcmeebhaaGreat.gT s={L.foldl il s with ep:={s.ep with ws:=s.ep.ws.filter λx=> !L.contains x.1}}
 |[],s=>by
  have:(s.ep.ws.filter λx=> !([]:List Int).contains x.1)=s.ep.ws:=GD.2 λx _=>rfl;rw[this];rfl
 |f::L,s=>by
  show L.foldl Go.Proofs.YtlcenllcmeebhaaGreat.gT (Go.Proofs.YtlcenllcmeebhaaGreat.gT s f)= _;rw[EB L,show(Go.Proofs.YtlcenllcmeebhaaGreat.gT s f)={il s f with ep:={s.ep with ws:=s.ep.ws.filter λx=> !(x.1==f)}} from rfl,tL];show({L.foldl il (il s f) with ep:={s.ep with ws:=(s.ep.ws.filter λx=> !(x.1==f)).filter λx=> !L.contains x.1}}:MS)= _;rw[List.filter_filter];have:(λ(x:Int×Int)=>(!L.contains x.1)&& !(x.1==f))=λx=> !(f::L).contains x.1:=by
   funext x;rw[List.contains_cons];cases L.contains x.1<;>cases x.1==f<;>rfl
  rw[this];rfl
theorem CG {e:vu} {f:Int}:f∈oC e<-> ∃r,(f,r)∈e.ws/\r+2<=e.now:=by
 unfold oC;rw[(lL _).mem_iff,B1];constructor
 ·rintro⟨⟨f',r⟩,h,rfl⟩;obtain⟨h1,a⟩:=B3.1 h;exact⟨r,h1,by simpa using a⟩
 ·rintro⟨r,h1,a⟩;exact⟨(f,r),B3.2 ⟨h1,by simpa using a⟩,rfl⟩
theorem EC (M:MI gh ta n s):(dM s).1=(oC (fo s.ep)).foldl Go.Proofs.YtlcenllcmeebhaaGreat.gT {s with ep:=fo s.ep}:=by
 rw[EB];show(oC (fo s.ep)).foldl il {s with ep:=Cb (fo s.ep)}= _;rw[tL (Cb (fo s.ep)),tL (fo s.ep)];have:(fo s.ep).ws.filter (λx=> !decide (x.2+2<=(fo s.ep).now))=(fo s.ep).ws.filter λx=> !(oC (fo s.ep)).contains x.1:=by
  refine List.filter_congr λx a=>?_;congr 1;rw[Bool.eq_iff_iff,List.contains_iff_mem,CG,decide_eq_true_eq];refine⟨λh=>⟨x.2,a,h⟩,λ⟨r,h1,b⟩=>?_⟩;have:x=(x.1,r):=BA M.XS.wn a h1 rfl;rw[this];exact b
 show({ (oC (fo s.ep)).foldl il s with ep:={fo s.ep with ws:=(fo s.ep).ws.filter λx=> !decide (x.2+2<=(fo s.ep).now)}}:MS)= _;rw[this]
theorem MI.free (M:MI gh ta n s):MI gh ta n (dM s).1:=by
 rw[EC M];refine MI.W6 _ M.XS ?_ λf a=>CG.1 a;unfold oC;refine(lL _).nodup_iff.2 ?_;exact M.XS.wn.sublist (DA.map _)
end
namespace Inv
variable {g:Gh} {s:WD}
theorem nc (I:Inv g s) (nl:z_ g s) {o r p t f:Int} {l:Nat} (v:g r=some (o,3,0)) (n:0<=p/\p<65536) (a:g f=some (o,l,px (l+1) p)):
 (∃m:Nat,l=m+1/\(bz s.1 p t (f,(l:Int),(0,0,0,0,()))).2.1=(m:Int)/\m<=3/\(bz s.1 p t (f,(l:Int),(0,0,0,0,()))).2.2=(0,0,0,0,())/\g (bz s.1 p t (f,(l:Int),(0,0,0,0,()))).1=some (o,m,px (m+1) p))\/
 ((bz s.1 p t (f,(l:Int),(0,0,0,0,()))).2.1= -1/\((bz s.1 p t (f,(l:Int),(0,0,0,0,()))).2.2.2.2.2.1=0->bu s r false p=((bz s.1 p t (f,(l:Int),(0,0,0,0,()))).2.2.1,(bz s.1 p t (f,(l:Int),(0,0,0,0,()))).2.2.2.1,0,()))):=by
 have w:=I.kd a;have x:=w.2.2.2.2.2;obtain⟨y,z,G⟩:=I.uJ a;have hi:=ee p l;have h:=kL ⟨y,z⟩ n x;have A:uA s.1 (dZ f p (l:Int))=true:=by rw[h];exact jd (by omega) (by omega)
 have C:uz (B (dv s.1 (dZ f p (l:Int)))).toNat=true:=by
  rw[h];cases hb:(aK s.1 (16*f+px l p % 16)).1 with
  |true=>exact Cl hb
  |false=>rw[I.wf a hi.1 hi.2 hb];decide+kernel
 rw[tq A C,h];have b:=I.si a hi.1 hi.2;have i:=nl a hi.1 hi.2;have j:dK (aK s.1 (16*f+px l p % 16))=false->bu s r false p=lY p l (aK s.1 (16*f+px l p % 16)):=λc=>I.ft v n ⟨a,c⟩;revert b i j;generalize aK s.1 (16*f+px l p % 16)=e;intro b i j;unfold tookS;split
 ·exact .inr ⟨rfl,λc=>absurd c (show ¬ (4:Int)=0 by decide)⟩
 rename_i h1;have h1:e.1=true:=by simpa using h1
 split
 ·rename_i d;rw[Do,decide_eq_true_eq] at d;obtain⟨m,q,u⟩:=b d.1;subst q;refine .inl ⟨m,rfl,?_,by omega,rfl,?_⟩
  ·show aZ .i64 ((m+1:Nat):Int) 1= _;rw[bF (by omega) (by omega)];omega
  ·rw[<-nM p (m+1)] at u;exact u
 rename_i d;split
 ·rename_i D;rw[Do,beq_iff_eq] at D;have k:dK e=false:=by
   cases c:dK e with
   |false=>rfl
   |true=>exact absurd (by rw[show fM e.1 e.2.1 e.2.2.1 e.2.2.2.1=true from c,decide_eq_true (by omega:(l:Int)>0)];rfl) d
  have:=i h1 k;omega
 split
 ·rename_i E;rw[Do,beq_iff_eq] at E;have F:l=0:=by omega
  subst F;have k:dK e=false:=by
   cases c:dK e with
   |false=>rfl
   |true=>
    obtain⟨m,q, _⟩:=b c;omega
  refine .inr ⟨rfl,λc=>?_⟩;rw[j k];unfold lY;rw[av h1,ao (by decide)];revert c;dsimp only;unfold xZ;split
  ·intro c;exact absurd c (show ¬ (11:Int)=0 by decide)
  split
  ·intro _;rfl
  ·intro c;exact absurd c (show ¬ (7:Int)=0 by decide)
 ·exact .inr ⟨rfl,λc=>absurd c (show ¬ (11:Int)=0 by decide)⟩
theorem qo (I:Inv g s) {p t f:Int} {l:Nat} (c:0<=p/\p<65536) (e:l<=3) (G:iF s f):(bz s.1 p t (f,(l:Int),(0,0,0,0,()))).2.1= -1/\(bz s.1 p t (f,(l:Int),(0,0,0,0,()))).2.2.2.2.2.1=4:=by
 obtain⟨h0,d,h1, _,h⟩:=G;have k:=I.len;have m:=I.le;have n:f.toNat<s.2.length:=(Ak.1 h1).1;have hi:=ee p l;have a:=kL (f:=f) ⟨h0,by omega⟩ c e;have b:=h (px l p % 16) hi.1 hi.2;have i:uA s.1 (dZ f p (l:Int))=true:=by rw[a];exact jd (by omega) (by omega)
 have j:uz (B (dv s.1 (dZ f p (l:Int)))).toNat=true:=by rw[a,b];decide+kernel
 rw[tq i j,a,Yw b];exact⟨rfl,rfl⟩
end Inv
section
variable {gh:Gh} {h:HS}
theorem HI.ZJ (H:HI gh h) {n:Nat} {d:DT} (c:h.s.2[n]? =some d) (d4:d.1=4\/d.1=5) {o:Int} (f:0<=o/\o<16) (b:Int):HI gh (bE h (dO h.s.1 (16*(n:Int)+o) b,h.s.2))/\Aa h (bE h (dO h.s.1 (16*(n:Int)+o) b,h.s.2)) (λ_ _=>False):=by
 have d3:d.1≠3:=by omega
 have B:Inv.e_ gh h.s (dO h.s.1 (16*(n:Int)+o) b,h.s.2):=by
  refine gL H.inv ⟨cF _ _ _,rfl⟩ (λq e=>⟨n,d,c,d3,?_⟩) λ{i d d'} h1 a=>?_
  ·refine B2 λhc=>e ?_;show dv (dO h.s.1 (16*(n:Int)+o) b) q= _;rw[mP (by omega)]
  ·rw[h1] at a;cases a;exact .inl rfl
 exact⟨H.side B H.hc,H.CF B (h':=bE h (dO h.s.1 (16*(n:Int)+o) b,h.s.2)) rfl rfl _⟩
end
set_option maxRecDepth 100000
open Go.RX D
section
variable {gh:Gh} {ta:Int->Bool} {n:Nat} {s s':MS} {i:Nat}
theorem xO (M:MI gh ta n s) {v:Int} (b:aR s.h.g v=true): ∃x:GV,s.h.g v.toNat=some x/\aT s.h.g v=x.root/\gh x.root=some (v,3,0)/\1<=v/\v<=16:=by
 obtain⟨x,a,c,d⟩:=bL b;refine⟨x,a,c,?_,by omega⟩;rw[M.hi.root a,FB (by omega)]
theorem HR (M:MI gh ta n s) {l:LT} (h:Dt ta s i l) (g:s'.h=s.h) (j: ∀{z:Nat} {y:bU},s.cs[z]? =some y->y.ph=4->s'.cs[z]? =some y):Ao ta s' i l.2.2.1:=by
 obtain⟨_,m,d,h1,k,c⟩:=h;refine⟨m,d,h1,by grind,?_⟩;rcases c with c|⟨c,q,a,o,p,r,e⟩
 ·grind
 ·rcases c with c|c
  ·grind
  ·obtain⟨f,z,y,b, _,c1,c2,c3, _⟩:=e c;exact .inr ⟨c,.inl (by grind),f⟩
theorem Jy (M:MI gh ta n s) {x:bU} (a:s.cs[i]? =some x) (h1:x.ph=1):mJ s.ep i={s.ep with pins:=s.ep.pins.set i s.ep.now}:=by
 have b:=M.pn a;unfold mJ
 grind
theorem ED {x:bU} (a:s.cs[i]? =some x) (b:x.ph≠4) (x':bU): ∀{z:Nat} {y:bU},s.cs[z]? =some y->y.ph=4->(s.cs.set i x')[z]? =some y:=by grind
theorem MI.Fw (M:MI gh ta n s) {x:bU} (a:s.cs[i]? =some x) (h1:x.ph=1) (b:jt s.h x=true) {l:LT} (d:l∈x.ls):MI gh ta n {s with cs:=s.cs.set i {x with ph:=3,fr:=l.2.2.1},ep:=mJ s.ep i}:=by
 have f:x.c.1=6\/x.c.1=7:=by
  unfold jt at b;simp at b;have:=b.1;unfold aV at this
  grind
 rw[Jy M a h1];have e:x.ph≠4:=by omega
 have g:=M.nw;refine M.C5 a _ _ e (by grind) rfl (by grind) (M.ar x (aE a)) (M.tl x (aE a)) ?_ (λl d=>M.ln a l d) (by grind) (by grind) λ_=>⟨?_,f⟩
 grind
 ·exact HR M (M.ln a l d) rfl (ED a e _)
theorem MI.ZK (M:MI gh ta n s) {x:bU} (a:s.cs[i]? =some x) (h1:x.ph=1) (b:jt s.h x=true):MI gh ta n {s with cs:=s.cs.set i {x with ph:=2,wk:=fZ s.h.s.1 (aT s.h.g x.vm) (x.c.2.1 / 16) (aV x.c.1) 0},ep:=mJ s.ep i}:=by
 unfold jt at b;simp at b;obtain⟨d,e,b⟩:=b;have p:x.c.1=6\/x.c.1=7:=by
  unfold aV at d
  grind
 rw[Jy M a h1];have f:x.ph≠4:=by omega
 have q:=M.nw;have j:=M.ar x (aE a);obtain⟨g,r,k,m,hv⟩:=xO M e;refine M.C5 a _ s.ms f (by grind) rfl (by grind) j (M.tl x (aE a)) ?_ (λl o=>M.ln a l o) (by grind) (λ_=>?_) (by grind)
 grind
 ·refine⟨3,rfl,by decide,rfl,.inl ?_⟩;show gh _=some (x.vm,3,px 4 (x.c.2.1 / 16));rw[XE (by omega),k];exact m
theorem xQ {a:Int} (h:0<=a/\a<1048576):0<=a / 16/\a / 16<65536:=by omega
theorem EE {ls:List LT} {sz:Int} {l y:LT} (h:y∈j9 ls sz l):y∈ls\/y=l:=by
 rcases FS.1 h with h|h
 ·left;split at h
  ·exact(B3.1 h).1
  grind
 grind
theorem So {ls:List LT} {sz:Int} {l:LT} (h:(ls.length:Int)<=sz) (h1:1<=sz):((j9 ls sz l).length:Int)<=sz:=by
 unfold j9;rw[GS];show(_+1: )<=sz;split
 ·have:(Cp ls l.1 l.2.1).length<ls.length:=by
   unfold Cp
   simp_all
  omega
 grind
theorem MI.walk (M:MI gh ta n s) {x:bU} (a:s.cs[i]? =some x) (p:x.ph=2):MI gh ta n (gJ (j_ s i x) i x).1:=by
 have j:=aE a;have u:=M.ar x j;obtain⟨C,D,E⟩:=M.ac x j p;obtain⟨l,w1,F,N,b⟩:=M.wl a p;have k:=xQ ⟨u.1.1,D⟩;have q:x.ph≠4:=by omega
 have V:i<s.cs.length:=(Ak.1 a).1;have G:=M.pn a;rw[p,av (by decide)] at G;have o:x.wk=(x.wk.1,(l:Int),(0,0,0,0,())):=Prod.ext rfl (Prod.ext w1 N);obtain⟨O,P,W,H,Q,R⟩:=xO M C;have idle: ∀w,MI gh ta n (gJ (a_ {s with ep:=oO s.ep i} i {x with wk:=w},((0:Int),(w.2.2.2.2.2.1:Int)),true) i x).1:=λw=>by
  unfold gJ;rw[av rfl];have e:((a_ {s with ep:=oO s.ep i} i {x with wk:=w}).cs.getD i x).ls=x.ls:=by
   show((s.cs.set i _).getD i x).ls= _
   grind
  rw[e];have S:a_ (a_ {s with ep:=oO s.ep i} i {x with wk:=w}) i (bD x.ls)={s with cs:=s.cs.set i (bD x.ls),ep:=oO s.ep i,ms:=s.ms}:=by
   unfold a_;dsimp only;rw[List.set_set]
  rw[S];exact M.idle a q (λl v=>M.ln a l v) (M.tl x j) s.ms
 unfold j_;dsimp only;split
 ·rename_i hc;show MI gh ta n (a_ s i _);rcases b with b|b
  ·rcases M.hi.inv.nc M.hi.nl (t:=aV x.c.1) H k b with ⟨m, _,f,g,I,k4⟩|⟨f, _⟩
   ·rw[o];refine M.C5 (x':={x with wk:=bz s.h.s.1 (x.c.2.1 / 16) (aV x.c.1) (x.wk.1,(l:Int),(0,0,0,0,()))}) a (s.ep.pins.getD i 0) s.ms q q ?_ (M.ph x j) u (M.tl x j) ?_ (λl v=>M.ln a l v) (λ_=>⟨C,D,E⟩) (λ_=>⟨m,f,g,I,.inl k4⟩) (by grind)
    ·rw[tJ M a];rfl
    ·rw[av (.inl p)];exact G
   ·rw[o] at hc;exact absurd f hc
  ·obtain⟨f, _⟩:=M.hi.inv.qo (t:=aV x.c.1) k F b.1;rw[o] at hc;exact absurd f hc
 split
 ·exact idle _
 rename_i z r;have z:=B2 z;have r:(bz s.h.s.1 (x.c.2.1 / 16) (aV x.c.1) x.wk).2.2.2.2.2.1=0:=B2 r;show MI gh ta n (a_ s i _);have A:bu s.h.s O.root false (x.c.2.1 / 16)=((bz s.h.s.1 (x.c.2.1 / 16) (aV x.c.1) x.wk).2.2.1,(bz s.h.s.1 (x.c.2.1 / 16) (aV x.c.1) x.wk).2.2.2.1,0,()):=by
  rcases b with b|b
  ·rcases M.hi.inv.nc M.hi.nl (t:=aV x.c.1) H k b with ⟨m, _,f,g,I,k4⟩|⟨f,g⟩
   ·rw[<-o] at f;rw[z] at f;omega
   ·rw[<-o] at g;exact g r
  ·obtain⟨_,g⟩:=M.hi.inv.qo (t:=aV x.c.1) k F b.1;rw[<-o,r] at g;exact absurd g (by decide)
 revert A;generalize bz s.h.s.1 (x.c.2.1 / 16) (aV x.c.1) x.wk=w;intro A;have J:iw s.h x.vm.toNat (x.c.2.1 / 16)=(w.2.2.1,w.2.2.2.1,0,()):=by rw[bM P];exact A
 have T:ng s.h x.vm.toNat (x.c.2.1 / 16)=some w.2.2.1:=by rw[mC,J];rfl
 obtain⟨m,d,K,L,d4, _⟩:=M.hi.TC T;have U:Dt ta s i (x.vm,x.c.2.1 / 16,w.2.2.1,w.2.2.2.1,()):=⟨⟨Q,R,k.1,k.2⟩,m,d,K,L,.inl ⟨d4,J⟩⟩;refine M.C5 (x':={x with wk:=w,ls:=j9 x.ls s.sz (x.vm,x.c.2.1 / 16,w.2.2.1,w.2.2.2.1,()),ph:=3,fr:=w.2.2.1}) a (s.ep.pins.getD i 0) s.ms q (show ¬ (3:Int)=4 by decide) ?_ (show 0<=(3:Int)/\(3:Int)<=4 by decide) u (So (M.tl x j) M.sz.1) ?_ ?_ (λe=>absurd e (show ¬ (3:Int)=2 by decide)) (by grind) (λ_=>⟨⟨m,d,K,L,.inl d4⟩,E⟩)
 ·rw[tJ M a];rfl
 grind
 ·intro y B;rcases EE B with B|rfl
  ·exact M.ln a y B
  ·exact U
theorem MI.word (M:MI gh ta n s) {f:Int} (R:Ao ta s i f) {o:Int} (r:0<=o/\o<16) (b:Int):MI gh ta n {s with h:=bE s.h (dO s.h.s.1 (16*f+o) b,s.h.s.2)}:=by
 obtain⟨m,d,t,u,F⟩:=R;subst t;obtain⟨H,P⟩:=M.hi.ZJ u (by omega) r b;exact{M with
  hi:=H
  ln:=λ{j y} a l v=>by
   obtain⟨w,x,d',g,p,q⟩:=M.ln a l v;refine⟨w,x,d',g,p,?_⟩;rw[P.to id];exact q
  wl:=λ{j y} a e=>by
   obtain⟨l,g,p,q,z⟩:=M.wl a e;refine⟨l,g,p,q,z.imp id λ⟨c1,c2,c3⟩=>⟨?_,c2,c3⟩⟩;obtain⟨k0,d',A,B,C⟩:=c1;refine⟨k0,d',A,B,λk D E=>?_⟩;have ne:y.wk.1≠m:=λc=>by
    grind
   show dv (dO _ _ b) _=0;rw[mP (by omega)];exact C k D E}
theorem jg {s1:MS} {r:Int×Int} {x:bU} (h:s1.cs[i]? =some x):(gJ (s1,r,true) i x).1={s1 with cs:=s1.cs.set i (bD x.ls)}:=by
 unfold gJ;rw[Ay,h];rfl
theorem MI.reach (M:MI gh ta n s) {x:bU} (a:s.cs[i]? =some x) (f:x.ph=3):MI gh ta n (gJ (fO s i x) i x).1:=by
 have d:=aE a;have e:x.ph≠4:=by omega
 unfold fO;split
 ·have M1:=M.word (M.rc a f).1 (o:=x.c.2.1 % 16) (by omega) x.c.2.2.1;rw[jg (by grind)];exact M1.idle a e (λl b=>M1.ln a l b) (M1.tl x d) _
 ·rw[jg (by grind)];exact M.idle a e (λl b=>M.ln a l b) (M.tl x d) _
end
structure NN (s s':WD):Prop where
 to: ∀{m:Nat} {d':DT},s'.2[m]? =some d'->d'.1=5-> ∃d,s.2[m]? =some d/\d.1=5
theorem NN.refl {s s':WD} (h:s'.2=s.2):NN s s':=⟨λ{m d'} h1 a=>⟨d',by rw[<-h];exact h1,a⟩⟩
theorem NN.trans {s t u:WD} (a:NN s t) (b:NN t u):NN s u:=⟨λh1 c=>by
 obtain⟨d,e,f⟩:=b.to h1 c;exact a.to e f⟩
theorem NN.ch {s:WD} {W:List Int} {f:Int} {g:DT->DT×Int} (b: ∀d,(g d).2=0->(g d).1.1=5->d.1=5):NN s (W,dJ s.2 f g):=⟨λ{m d'} h1 a=>by
 have h1:(dJ s.2 f g)[m]? =some d':=h1;by_cases c:f<0\/f>=s.2.length
 ·rw[xD c] at h1;exact⟨d',h1,a⟩
 ·rw[o_ (by omega)] at h1;split at h1
  ·rename_i e;rcases ka h1 with ⟨rfl,rfl⟩|⟨_,h1⟩
   ·have h:f.toNat<s.2.length:=by omega
    refine⟨s.2.getD f.toNat zD,?_,b _ e a⟩;rw[Ay,B6 h];rfl
   ·exact⟨d',h1,a⟩
  ·exact⟨d',h1,a⟩⟩
theorem Jz {k o:Int} (b:k≠5) (d:DT) (h0:(aO k o d).2=0) (a:(aO k o d).1.1=5):d.1=5:=by
 unfold aO at h0 a;dsimp only at h0 a;unfold mM at a;rw[av h0] at a;exact absurd a b
theorem ZL {x:Int} (d:DT) (h0:(g_ x d).2=0) (a:(g_ x d).1.1=5):d.1=5:=by
 unfold g_ at h0 a;dsimp only at h0 a;unfold qx at a;rw[av h0] at a;exact a
theorem NN.take {s:WD} {W:List Int} {k o:Int} (a:k≠5):NN s (W,dF s.2 k o):=by
 unfold dF;split
 ·exact .refl rfl
 ·exact .ch λd=>Jz a d
theorem NN.tk (s:WD) (o:Int) (g:Int->Int):NN s (iT s o g):=NN.take (by decide)
theorem NN.lay (s:WD) (i:Int) (e:ET):NN s (dR s i e):= .refl rfl
theorem NN.down (o pg:Int): ∀(n:Nat) (x:WD×PT),NN x.1 (qL o pg n x).1
 |0,x=> .refl rfl
 |n+1,x=>NN.trans (NN.trans (NN.tk x.1 o λ_=>0) (NN.lay _ x.2.2.2.1 (cv (eK x.1 o)))) (NN.down o pg n (dR (iT x.1 o λ_=>0) x.2.2.2.1 (cv (eK x.1 o)),(eK x.1 o,x.2.2.1 - 1,dZ (eK x.1 o) pg (x.2.2.1 - 1),())))
theorem NN.map (s:WD) (o r:Int) (g:Bool) (pg f rt:Int):NN s (jE s o r g pg f rt):=by
 unfold jE;split
 ·exact .refl rfl
 split
 ·unfold rD;split
  ·exact NN.trans (NN.down o pg _ (s,dD s.1 r pg)) (NN.lay _ _ _)
  ·exact .refl rfl
 ·exact .refl rfl
theorem NN.don (h:HS) (v a b:Int):NN h.s (jq h v a b).s:=by
 have h1:NN h.s (iA h v):=NN.take (by decide);have c:NN h.s (qC h v a b):=h1.trans (NN.map ..);unfold jq;split
 ·exact .refl rfl
 split
 ·exact .refl rfl
 split
 ·exact h1
 split
 ·exact c.trans (NN.ch λd=>Jz (by decide) d)
 ·exact c.trans (.refl rfl)
theorem NN.Dv (h:HS):NN h.s (gS h).s:=by
 unfold gS;split
 ·exact .refl rfl
 split
 ·exact NN.tk ..
 ·exact .refl rfl
theorem NN.tak (h:HS) (v a b c:Int):NN h.s (ij h v a b c).s:=NN.trans (NN.map ..) (NN.ch λd=>ZL d)
structure CE (gh dw:Gh) (h h':HS) (P:Nat->Int->Prop) (U:Int->Prop):Prop where
 hi:HI dw h'
 kd:KD h.s h'.s
 pg:Aa h h' P
 gk: ∀{f:Int} {w:Int×Nat×Int},gh f=some w-> ¬ U w.1->dw f=some w\/iF h'.s f
 gn: ∀{f:Int},iF h.s f->iF h'.s f
 lv: ∀{v:Int},¬ U v->aR h.g v=true->aR h'.g v=true
section
variable {gh dw:Gh} {ta:Int->Bool} {n:Nat} {s s':MS} {i:Nat} {h':HS} {P:Nat->Int->Prop} {U:Int->Prop}
theorem MI.quiet (M:MI gh ta n s) (C:CE gh dw s.h h' P λ_=>False) (N:NN s.h.s h'.s) (E: ∀{j:Nat} {q:Int},P j q->0<=q->q<65536->(iw s.h j q).2.2.1≠0):MI dw ta n {s with h:=h'}:=by
 have B: ∀{m:Nat} {d:DT},s.h.s.2[m]? =some d->d.1=4-> ∃d',h'.s.2[m]? =some d'/\d'.1=4:=λ{m d} h1 F=>by
  obtain⟨d',g,b⟩:=C.kd.k4 h1 F;rcases b with b|b
  ·exact⟨d',g,b⟩
  ·obtain⟨d2,v,x⟩:=N.to g b;rw[h1] at v;cases v;omega
 exact{M with
  hi:=C.hi
  k5:=λf G=>by
   obtain⟨m,d,h1,D,H⟩:=M.k5 f G;obtain⟨d',g,b⟩:=C.kd.k5 D H;exact⟨m,d',h1,g,b⟩
  kd:=λ{m d} h1 D=>by
   obtain⟨d0,g,b⟩:=N.to h1 D;exact M.kd g b
  pn:=λ{j y} r=>M.pn r
  ln:=λ{j y} r l I=>by
   obtain⟨w,m,d,o,p,t⟩:=M.ln r l I;rcases t with ⟨i,u⟩|⟨i,q,a,u,z,A,J⟩
   ·obtain⟨d',g,b⟩:=B p i;refine⟨w,m,d',o,g,.inl ⟨b,?_⟩⟩;show iw h' _ _= _;rw[C.pg.to (λc=>E c w.2.2.1 w.2.2.2 (by rw[u]))];exact u
   ·rcases i with i|i
    ·obtain⟨d',g,b⟩:=B p i;exact⟨w,m,d',o,g,.inr ⟨.inl b,q,a,u,z,A,λc=>by omega⟩⟩
    ·obtain⟨d',g,b⟩:=C.kd.k5 p i;exact⟨w,m,d',o,g,.inr ⟨.inr b,q,a,u,z,A,λ_=>J i⟩⟩
  ac:=λy K e=>by
   obtain⟨v,x⟩:=M.ac y K e;exact⟨C.lv id v,x⟩
  wl:=λ{j y} r e=>by
   obtain⟨l,o,p,t,i⟩:=M.wl r e;refine⟨l,o,p,t,?_⟩;rcases i with i|⟨c1,c2,c3⟩
   ·rcases C.gk i id with k|k
    ·exact .inl k
    ·obtain⟨k0,d,v,x, _⟩:=k;obtain⟨d0,g,b⟩:=N.to v x;rw[(M.hi.inv.kd i).2.2.1] at g;cases g;exact absurd b (show ¬ (3:Int)=5 by decide)
   ·exact .inr ⟨C.gn c1,c2,c3⟩
  rc:=λ{j y} r e=>by
   obtain⟨⟨m,d,o,p,t⟩,i⟩:=M.rc r e;refine⟨?_,i⟩;rcases t with t|⟨u,z,A⟩
   ·obtain⟨d',g,b⟩:=B p t;exact⟨m,d',o,g,.inl b⟩
   ·obtain⟨d',g,b⟩:=C.kd.k5 p u;exact⟨m,d',o,g,.inr ⟨b,z,A⟩⟩}
theorem HI.same {h:HS} (H:HI gh h) (c:HI dw h') (a:h'.s=h.s) (b:h'.g=h.g):HI gh h' where
 inv:=by rw[a];exact H.inv
 rt:=H.rt
 nl:=by rw[a];exact H.nl
 sz:=by rw[a];exact H.sz
 jl:=by rw[b];exact H.jl
 root:=by rw[b];exact H.root
 own:=by rw[b];exact H.own
 hc:=c.hc
theorem CE.same {h:HS} (H:HI gh h) (c:HI dw h') (a:h'.s=h.s) (b:h'.g=h.g):CE gh gh h h' (λ_ _=>False) (λ_=>False):=
 ⟨H.same c a b,.refl (by rw[a]),Aa.of a b _,λh _=> .inl h,λh=>by rw[a];exact h,λ_ h=>by rw[b];exact h⟩
end
theorem tM: ∀(l m:List Int),l.Nodup->(∀x∈l,x∈m)->l.length<=m.length
 |[], _, _, _=>Fg _
 |a::l,m,b,c=>by
  have d:a∈m:=c a BI;have g:=tM l (m.erase a) (Bx.1 b).2 λx f=>by
   have:x≠a:=λe=>(Bx.1 b).1 (by rw[<-e];exact f);exact(List.mem_erase_of_ne this).2 (c x (BQ _ f))
  rw[List.length_erase_of_mem d] at g;have:0<m.length:=List.length_pos_of_mem d;rw[Df];omega
theorem Pv {α:Type} (i:Nat): ∀(l:List α) (k:Nat),(l.zipIdx k).countP (λx=>decide (x.2≠i))+(if k<=i/\i<k+l.length then 1 else 0)=l.length
 |[],k=>by
  rw[ao (by simp)];rfl
 |a::l,k=>by
  have b:=Pv i l (k+1);rw[Ga,E4,Df];by_cases e:k=i
  ·subst e;rw[ao (by omega)] at b;rw[ao (by simp),av (by omega)];omega
  ·rw[av (by simpa using e)];by_cases c:k+1<=i/\i<k+1+l.length
   ·rw[av c] at b;rw[av (by omega)];omega
   ·rw[ao c] at b;rw[ao (by omega)];omega
section
variable {gh dw:Gh} {ta:Int->Bool} {n:Nat} {s s':MS} {i:Nat} {h':HS} {P:Nat->Int->Prop} {U:Int->Prop}
theorem gy {f:Int}:f∈eh s h'<-> ∃(m:Nat) (d:DT),f=(m:Int)/\h'.s.2[m]? =some d/\d.1=5/\f∉s.kn:=by
 unfold eh;rw[B3,B1];constructor
 ·rintro⟨⟨m,c,rfl⟩,b⟩;rw[Dd] at c;have a:h'.s.2[m]? =some h'.s.2[m]:=B6 c;rw[Do,pa a] at b;refine⟨m, _,rfl,a,by simpa using b.1,by simpa using b.2⟩
 ·rintro⟨m,d,rfl,a,e,g⟩;refine⟨⟨m,Dd.2 (Ak.1 a).1,rfl⟩,?_⟩;rw[pa a,e];simpa using g
theorem zM:(eh s h').Nodup:=by
 unfold eh;refine List.Pairwise.sublist DA ?_;rw[Gd];exact GF.imp λh e=>h (by omega)
theorem MI.box (M:MI gh ta n s) {j:Nat} {q:List AK} (c:s.bx[j]? =some q):q.length<=8:=by
 obtain⟨h1,d⟩:=M.aq c;have f:(q.map (·.1)).Nodup:=by
  unfold List.Nodup;rw[Gd];exact h1.imp λh e=>by omega
 have:=tM _ (s.cs.map (·.ak)) f λa g=>by
  obtain⟨b,hb,rfl⟩:=B1.1 g;obtain⟨z,y, _,i, _,k4⟩:=d b hb;exact B1.2 ⟨y,aE i,by rw[k4]⟩
 rw[DB,DB,M.lc] at this;have:=M.nn;omega
theorem MI.fP (M:MI gh ta n s) {j:Nat} {q:List AK} (b:s.bx[j]? =some q) {a:AK} (c:a∈q):a.1<=(s.op.length:Int):=by
 obtain⟨z,y, _,d,e,k4⟩:=(M.aq b).2 a c;have:=(M.wt y (aE d) e).2.1;rw[k4];exact this
theorem CH (M:MI gh ta n s) (i:Nat) {t p:Int} (e:1<=t/\t<=16) (f: -1<=p/\p<65536):
 dG s.bx s.op i t p=((s.op.length:Int)+1,(s.bx.zipIdx.map λ(q,j)=>if j=i then q else q++[((s.op.length:Int)+1,t,p,())]),s.op++[(s.bx.length:Int) - 1]):=by
 unfold dG;rw[ao (by omega),ao ?_];intro c;obtain⟨q,b,a⟩:=GG.1 c;obtain⟨j,d⟩:=Bs (List.mem_of_mem_eraseIdx b);have:=M.box d;have a:q.length=16:=by simpa using a
 omega
theorem Sp {bx:List (List AK)} {i j:Nat} {x:AK} {a:List AK} (h:(bx.zipIdx.map λ(q,j)=>if j=i then q else q++[x])[j]? =some a): ∃q,bx[j]? =some q/\a=if j=i then q else q++[x]:=by
 rw[FN,Gi] at h;cases hb:bx[j]? with
 |none=>rw[hb] at h;cases h
 |some q=>
  rw[hb] at h;refine⟨q,rfl,?_⟩;have:=Option.some.inj h;rw[<-this];show(if 0+j=i then _ else _)= _;rw[Nat.zero_add]
theorem post_at {bx:List (List AK)} {i j:Nat} {x:AK} {q:List AK} (h:bx[j]? =some q):(bx.zipIdx.map λ(q,j)=>if j=i then q else q++[x])[j]? =some (if j=i then q else q++[x]):=by
 rw[FN,Gi,h];show some (if 0+j=i then _ else _)= _;rw[Nat.zero_add]
theorem EF (q:List AK) (x:AK) (k:Int):jH (q++[x]) k=(jH q k||x.1==k):=by
 unfold jH;rw[List.any_append];simp
theorem JA {α:Type}: ∀(l:List α) (k:Nat),(l.zipIdx k).map Prod.fst=l
 |[], _=>rfl
 |a::l,k=>by rw[Ga,CX,JA l (k+1)]
theorem Sq {bx:List (List AK)} {i:Nat} {x:AK} {k:Int} (a:x.1≠k):(bx.zipIdx.map λ(q,j)=>if j=i then q else q++[x]).countP (λq=>jH q k)=bx.countP λq=>jH q k:=by
 rw[FY];have:((λq=>jH q k)∘λ(z:List AK×Nat)=>(match z with|(q,j)=>if j=i then q else q++[x]))=(λq=>jH q k)∘Prod.fst:=by
  funext ⟨q,j⟩;show jH (if j=i then q else q++[x]) k=jH q k;split
  ·rfl
  ·rw[EF,beq_eq_false_iff_ne.2 a,Bool.or_false]
 rw[this, <-FY,JA]
theorem Sr {bx:List (List AK)} {i:Nat} {x:AK} (hi:i<bx.length) (a: ∀q∈bx,jH q x.1=false):(bx.zipIdx.map λ(q,j)=>if j=i then q else q++[x]).countP (λq=>jH q x.1)=bx.length - 1:=by
 rw[FY];have:(bx.zipIdx).countP ((λq=>jH q x.1)∘λ(z:List AK×Nat)=>(match z with|(q,j)=>if j=i then q else q++[x]))=bx.zipIdx.countP λz=>decide (z.2≠i):=by
  refine List.countP_congr λ⟨q,j⟩ b=>?_;have c:q∈bx:=(List.mem_zipIdx_iff_getElem?.1 b |> B4);show jH (if j=i then q else q++[x]) x.1=true<->decide (j≠i)=true;split
  ·rename_i e;rw[a q c,e];simp
  ·rename_i e;rw[EF];simp[e]
 rw[this];have:=Pv i bx 0;rw[av (by omega)] at this;omega
end
section
variable {gh dw:Gh} {ta:Int->Bool} {n:Nat} {s:MS} {i:Nat} {h':HS} {P:Nat->Int->Prop} {U:Int->Prop}
def XT (gh:Gh) (ta:Int->Bool) (fs:List Int) (f:Int):Bool:=if fs.contains f=true then(gh f).isSome else ta f
def AP (s:MS) (h':HS) (i:Nat) (x:bU) (t p:Int) (rs:Int×Int) (ms:List MT):MS:=
 {s with h:=h',kn:=s.kn++eh s h',ms:=ms,bx:=(dG s.bx s.op i t p).2.1,op:=(dG s.bx s.op i t p).2.2,cs:=s.cs.set i {x with rs:=rs,fs:=eh s h',ls:=js x.ls t p,ak:=(dG s.bx s.op i t p).1,ph:=4}}
theorem MI.W7 (M:MI gh ta n s) {x:bU} (hx:s.cs[i]? =some x) (h1:x.ph=1) (hbx:s.bx[i]? =some []) (C:CE gh dw s.h h' P U) {t p:Int} (ht:1<=t/\t<=16) (hp: -1<=p/\p<65536) (sj:Ap x=t) (Tj:Aq x=p)
 (hP: ∀{j:Nat} {q:Int},P j q->0<=q->q<65536->(j:Int)=t/\(p= -1\/p=q)) (hU: ∀{j:Nat} {y:bU},s.cs[j]? =some y->y.ph=2-> ¬ U y.vm) (rs:Int×Int) (ms:List MT):
 MI dw (XT gh ta (eh s h')) n (AP s h' i x t p rs ms):=by
 have iR:i<s.cs.length:=(Ak.1 hx).1;have h4:x.ph≠4:=by omega
 generalize Y:AP s h' i x t p rs ms=s';have J:s'.h=h':=by rw[<-Y];rfl
 have R:s'.ep=s.ep:=by rw[<-Y];rfl
 have hk:s'.kn=s.kn++eh s h':=by rw[<-Y];rfl
 have iu:s'.sz=s.sz:=by rw[<-Y];rfl
 have hb:s'.bx=s.bx.zipIdx.map λ(q,j)=>if j=i then q else q++[((s.op.length:Int)+1,t,p,())]:=by rw[<-Y];unfold AP;dsimp only;rw[CH M i ht hp]
 have ho:s'.op=s.op++[(s.bx.length:Int) - 1]:=by rw[<-Y];unfold AP;dsimp only;rw[CH M i ht hp]
 have fV:s'.cs=s.cs.set i {x with rs:=rs,fs:=eh s h',ls:=js x.ls t p,ak:=(s.op.length:Int)+1,ph:=4}:=by rw[<-Y];unfold AP;dsimp only;rw[CH M i ht hp]
 have XL:s'.op.length=s.op.length+1:=by rw[ho,GS];rfl
 have XM:s'.bx.length=s.bx.length:=by rw[hb,DB,List.length_zipIdx]
 generalize Z:({x with rs:=rs,fs:=eh s h',ls:=js x.ls t p,ak:=(s.op.length:Int)+1,ph:=4}:bU)=x' at fV;have O:x'.ph=4:=by rw[<-Z]
 have X:x'.fs=eh s h':=by rw[<-Z]
 have xa:x'.ak=(s.op.length:Int)+1:=by rw[<-Z]
 have xl:x'.ls=js x.ls t p:=by rw[<-Z]
 have xc:x'.c=x.c:=by rw[<-Z]
 have xT:Ap x'=t:=by rw[<-sj, <-Z];rfl
 have xP:Aq x'=p:=by rw[<-Tj, <-Z];rfl
 have vL:s'.cs[i]? =some x':=by rw[fV,Al iR]
 have hw: ∀{z:Nat} {y:bU},s.cs[z]? =some y->y.ph=4->s'.cs[z]? =some y:=λ{z y} h1 h2=>by rw[fV];exact ED hx h4 _ h1 h2
 have Q: ∀{z:Nat} {y:bU},s'.cs[z]? =some y->(z=i/\y=x')\/(z≠i/\s.cs[z]? =some y):=λh=>by rw[fV] at h;exact ka h
 have hm: ∀{y:bU},y∈s'.cs->y=x'\/y∈s.cs:=λh=>by rw[fV] at h;exact iq h
 have hbg: ∀{j:Nat} {q:List AK},s.bx[j]? =some q->j≠i->s'.bx[j]? =some (q++[((s.op.length:Int)+1,t,p,())]):=λ{j q} h e=>by rw[hb,post_at h,ao e]
 have acm: ∀{m:Nat} {d:DT},s.h.s.2[m]? =some d->(m:Int)∈s.kn->d.1=5:=λ{m d} h1 h2=>by
  obtain⟨m',d',A,u,S⟩:=M.k5 _ h2;have:m=m':=by omega
  subst this;rw[h1] at u;cases u;exact S
 have TS: ∀{m:Nat} {d d':DT},s.h.s.2[m]? =some d->d.1≠5->h'.s.2[m]? =some d'->d'.1=5->(m:Int)∈eh s h':=λh1 h2 h3 h5=>gy.2 ⟨_, _,rfl,h3,h5,λc=>h2 (acm h1 c)⟩;have OB: ∀{m:Nat} {d:DT},s.h.s.2[m]? =some d->d.1=4->(m:Int)∈eh s h'->XT gh ta (eh s h') (m:Int)=false:=λ{m d} h1 h4 G=>by
  unfold XT;rw[av (by simpa using G)];cases hgm:gh (m:Int) with
  |none=>rfl
  |some w=>
   obtain⟨o,l,y⟩:=w;have:=(M.hi.inv.kd hgm).2.2.1;rw[show((m:Int)).toNat=m from rfl,h1] at this;cases this;exact absurd h4 (show ¬ (3:Int)=4 by decide)
 have abC: ∀{f:Int},f∈s.kn->XT gh ta (eh s h') f=ta f:=λ{f} B=>by
  unfold XT;rw[ao];intro c;have c:f∈eh s h':=by simpa using c
  obtain⟨_, _, _, _, _,k⟩:=gy.1 c;exact k B
 have YD: ∀{m:Nat} {d:DT},s.h.s.2[m]? =some d->d.1=5->XT gh ta (eh s h') (m:Int)=ta (m:Int):=λh1 h2=>abC (M.kd h1 h2).1;have JB: ∀{j:Nat} {f:Int},rJ s j f->rJ s' j f:=λh=>h.dx hw (by rw[R]) (by rw[R]);have JC: ∀{j:Nat} {f:Int},f∈eh s h'->rJ s' j f:=λh=> .inl ⟨i,x',vL,O,by rw[X];exact h⟩;have Pw: ∀{l:LT},(1<=l.1/\l.1<=16/\0<=l.2.1/\l.2.1<65536)->iw s.h l.1.toNat l.2.1=(l.2.2.1,l.2.2.2.1,0,())-> ¬ (t=l.1/\(p= -1\/p=l.2.1))-> ∃(m:Nat) (d:DT),l.2.2.1=(m:Int)/\h'.s.2[m]? =some d/\d.1=4/\iw h' l.1.toNat l.2.1=(l.2.2.1,l.2.2.2.1,0,()):=λ{l} L E D=>by
  have Ax:iw h' l.1.toNat l.2.1=(l.2.2.1,l.2.2.2.1,0,()):=by
   rw[C.pg.to λc=>D ?_]
   ·exact E
   ·obtain⟨c1,c2⟩:=hP c L.2.2.1 L.2.2.2;exact⟨by omega,c2⟩
  have gV:ng h' l.1.toNat l.2.1=some l.2.2.1:=by rw[mC,Ax];rfl
  obtain⟨m,d,A,u,S, _⟩:=C.hi.TC gV;exact⟨m,d,A,u,S,Ax⟩
 refine⟨by rw[J];exact C.hi,M.nn,by rw[fV,Av];exact M.lc,by rw[XM];exact M.lb,by rw[R];exact M.lp,by rw[iu];exact M.sz,λy v=>?_,λy v=>?_,λy v=>?_,
  λf B=>?_,?_,λe B=>?_,by rw[R];exact M.wn,λy v e=>?_,λy v e=>?_,λ{a b y z} g H sw A u=>?_,λ{m d} g H=>?_,by rw[R];exact M.nw,λ{j y} g=>?_,λ{j y} g l hl=>?_,λy v e=>?_,λ{j y} g e=>?_,λ{j y} g e=>?_,λy v e=>?_,λ{a b y z} g H sw A u=>?_,λ{j r} g=>?_,λid Fx=>?_⟩
 ·rcases hm v with rfl|v
  ·rw[O];decide
  ·exact M.ph y v
 ·rcases hm v with rfl|v
  ·rw[xc];exact M.ar x (aE hx)
  ·exact M.ar y v
 ·rw[iu];rcases hm v with rfl|v
  ·rw[xl];have:=EA x.ls t p;have:=M.tl x (aE hx);omega
  ·exact M.tl y v
 ·
  rw[J];rw[hk] at B;rcases FS.1 B with B|B
  ·obtain⟨m,d,A,u,S⟩:=M.k5 f B;obtain⟨d',g1,T⟩:=C.kd.k5 u S;exact⟨m,d',A,g1,T⟩
  ·obtain⟨m,d,A,u,S, _⟩:=gy.1 B;exact⟨m,d,A,u,S⟩
 ·rw[hk];refine List.nodup_append.2 ⟨M.nk,zM,λa K b hb c=>?_⟩;subst c;obtain⟨_, _, _, _, _,k⟩:=gy.1 hb;exact k K
 ·rw[R] at B ⊢;obtain⟨a,b,c⟩:=M.wk e B;rw[hk];exact⟨DE _ a,b,c⟩
 ·rw[hk,R];rcases hm v with rfl|v
  ·intro f B;rw[X] at B;refine⟨Dk _ B,λc=>?_⟩;obtain⟨_, _, _, _, _,k⟩:=gy.1 B;obtain⟨e',I,F⟩:=B1.1 c;exact k (by rw[<-F];exact(M.wk e' I).1)
  ·intro f B;obtain⟨a,b⟩:=M.fk y v e f B;exact⟨DE _ a,b⟩
 ·rcases hm v with rfl|v
  ·rw[X];exact zM
  ·exact M.fn y v e
 ·rcases Q g with ⟨_,rfl⟩|⟨_,g⟩
  ·rcases Q H with ⟨q, _⟩|⟨_,H⟩
   ·omega
   ·intro f B c;rw[X] at B;obtain⟨_, _, _, _, _,k⟩:=gy.1 B;exact k (M.fk z (aE H) u f c).1
  ·rcases Q H with ⟨_,rfl⟩|⟨_,H⟩
   ·intro f B c;rw[X] at c;obtain⟨_, _, _, _, _,k⟩:=gy.1 c;exact k (M.fk y (aE g) A f B).1
   ·exact M.fd g H sw A u
 ·rw[J] at g;rw[hk,R];by_cases c:(m:Int)∈eh s h'
  ·exact⟨Dk _ c,.inr ⟨x',aE vL,O,by rw[X];exact c⟩⟩
  ·have hkm:(m:Int)∈s.kn:=B2 λG=>c (gy.2 ⟨m,d,rfl,g,H,G⟩);obtain⟨m',d',A,u,S⟩:=M.k5 _ hkm;have:m=m':=by omega
   subst this;obtain⟨_,T⟩:=M.kd u S;refine⟨DE _ hkm,T.imp id λ⟨y,v,I,F⟩=>?_⟩;obtain⟨j,V⟩:=Bs v;exact⟨y,aE (hw V I),I,F⟩
 ·rw[R];rcases Q g with ⟨rfl,rfl⟩|⟨_,g⟩
  ·have:=M.pn hx;rw[h1,ao (by decide)] at this;rw[O,ao (by decide)];exact this
  ·exact M.pn g
 ·
  rcases Q g with ⟨rfl,rfl⟩|⟨V,g⟩
  ·rw[xl] at hl;obtain⟨l1,l2⟩:=tK hl;obtain⟨L,m,d,E,D,N⟩:=M.ln hx l l1;rcases N with ⟨_,N⟩|⟨_,q,a,r5,r6, _⟩
   ·obtain⟨m',d',g1,T,g3,g4⟩:=Pw L N l2;exact⟨L,m',d',g1,by rw[J];exact T,.inl ⟨g3,by rw[J];exact g4⟩⟩
   ·rw[hbx] at r5;cases r5;cases r6
  ·obtain⟨L,m,d,E,D,N⟩:=M.ln g l hl;rcases N with ⟨d4,N⟩|⟨W,q,a,r5,r6,r7,r8⟩
   ·by_cases l2:t=l.1/\(p= -1\/p=l.2.1)
    ·obtain⟨d',A,u⟩:=C.kd.k4 D d4;have NH:j<s.bx.length:=by rw[M.lb, <-M.lc];exact(Ak.1 g).1
     refine⟨L,m,d',E,by rw[J];exact A,.inr ⟨u, _, _,hbg (B6 NH) V,Dk _ (Dl.2 rfl),l2,λe5=>?_⟩⟩;have G:=TS D (by omega) A e5;rw[E];exact⟨OB D d4 G,i,x', _,Dk _ (Dl.2 rfl),vL,O,by rw[X];exact G,xa.symm,Int.le_refl _⟩
    ·obtain⟨m',d',g1,T,g3,g4⟩:=Pw L N l2;exact⟨L,m',d',g1,by rw[J];exact T,.inl ⟨g3,by rw[J];exact g4⟩⟩
   ·rcases W with d4|d5
    ·obtain⟨d',A,u⟩:=C.kd.k4 D d4;refine⟨L,m,d',E,by rw[J];exact A,.inr ⟨u, _,a,hbg r5 V,DE _ r6,r7,λe5=>?_⟩⟩;have G:=TS D (by omega) A e5;have:=M.fP r5 r6;rw[E];exact⟨OB D d4 G,i,x', _,Dk _ (Dl.2 rfl),vL,O,by rw[X];exact G,xa.symm,by show a.1<=(s.op.length:Int)+1;omega⟩
    ·obtain⟨d',A,u⟩:=C.kd.k5 D d5;refine⟨L,m,d',E,by rw[J];exact A,.inr ⟨.inr u, _,a,hbg r5 V,DE _ r6,r7,λ_=>?_⟩⟩;obtain⟨I,z,y',b,F,q3,q4,q5,q6,q7⟩:=r8 d5;refine⟨?_,z,y',b,DE _ F,hw q3 q4,q4,q5,q6,q7⟩;rw[E,YD D d5, <-E];exact I
 ·rw[J];rcases hm v with rfl|v
  ·rw[O] at e;exact absurd e (by decide)
  ·obtain⟨j,V⟩:=Bs v;obtain⟨I,F⟩:=M.ac y v e;exact⟨C.lv (hU V e) I,F⟩
 ·rcases Q g with ⟨_,rfl⟩|⟨_,g⟩
  ·rw[O] at e;exact absurd e (by decide)
  ·obtain⟨l,E,D,N,W⟩:=M.wl g e;refine⟨l,E,D,N,?_⟩;rw[J];rcases W with W|⟨c1,c2,c3⟩
   ·rcases C.gk W (hU g e) with k|k
    ·exact .inl k
    ·have G:y.wk.1∈eh s h':=by
      obtain⟨q0,d',I,F, _⟩:=k;have h3:=(M.hi.inv.kd W).2.2.1;have:=TS h3 (by show ¬ (3:Int)=5;decide) I F;rw[FB q0] at this;exact this
     refine .inr ⟨k,JC G,?_⟩;unfold XT;rw[av (by simpa using G),W];rfl
   ·refine .inr ⟨C.gn c1,JB c2,?_⟩;obtain⟨q0,d',I,F, _⟩:=c1;have:=YD I F;rw[FB q0] at this;rw[this];exact c3
 ·rcases Q g with ⟨_,rfl⟩|⟨_,g⟩
  ·rw[O] at e;exact absurd e (by decide)
  ·obtain⟨⟨m,d,E,D,N⟩,W⟩:=M.rc g e;refine⟨?_,W⟩;rcases N with d4|⟨d5,c2,c3⟩
   ·obtain⟨d',A,u⟩:=C.kd.k4 D d4;refine⟨m,d',E,by rw[J];exact A,?_⟩;rcases u with u|u
    ·exact .inl u
    ·have G:=TS D (by omega) A u;rw[E];exact .inr ⟨u,JC G,OB D d4 G⟩
   ·obtain⟨d',A,u⟩:=C.kd.k5 D d5;refine⟨m,d',E,by rw[J];exact A,.inr ⟨u,JB c2,?_⟩⟩;rw[E,YD D d5, <-E];exact c3
 ·rw[XL];rcases hm v with rfl|v
  ·rw[xT,xP,xa];omega
  ·have:=M.wt y v e;omega
 ·rcases Q g with ⟨_,rfl⟩|⟨_,g⟩
  ·rcases Q H with ⟨q, _⟩|⟨_,H⟩
   ·omega
   ·have:=M.wt z (aE H) u;rw[xa];omega
  ·rcases Q H with ⟨_,rfl⟩|⟨_,H⟩
   ·have:=M.wt y (aE g) A;rw[xa];omega
   ·exact M.wu g H sw A u
 ·rw[hb] at g;obtain⟨q,I,F⟩:=Sp g;obtain⟨g1,T⟩:=M.aq I;have dx: ∀a∈q, ∃(z:Nat) (y:bU),z≠j/\s'.cs[z]? =some y/\y.ph=4/\a=(y.ak,Ap y,Aq y,()):=λa K=>by
   obtain⟨z,y,f1,f2,f3,f4⟩:=T a K;exact⟨z,y,f1,hw f2 f3,f3,f4⟩
  by_cases e:j=i
  ·rw[av e] at F;rw[F];exact⟨g1,dx⟩
  ·rw[ao e] at F;rw[F];refine⟨List.pairwise_append.2 ⟨g1,List.pairwise_singleton ..,λa K b hb=>?_⟩,λa K=>?_⟩
   ·have:=M.fP I K;rw[Dl.1 hb];show a.1<(s.op.length:Int)+1;omega
   ·rcases FS.1 K with K|K
    ·exact dx a K
    ·refine⟨i,x',λc=>e c.symm,vL,O,?_⟩;rw[Dl.1 K,xa,xT,xP]
 ·rw[XL] at Fx;rw[ho,hb,Ay];by_cases e:id<s.op.length
  ·rw[Sq (by show(s.op.length:Int)+1≠ _;omega),List.getElem?_append_left e, <-Ay];exact M.oc id e
  ·have e:id=s.op.length:=by omega
   subst e;have acn:i<s.bx.length:=by rw[M.lb, <-M.lc];exact iR
   rw[List.getElem?_append_right (E5 _),Nat.sub_self];have:=Sr (i:=i) (x:=(((s.op.length:Int)+1,t,p,()):AK)) acn λq hq=>by
    unfold jH;rw[GJ];intro a K c;obtain⟨j,V⟩:=Bs hq;have:=M.fP V K;have c:a.1=(s.op.length:Int)+1:=by simpa using c
    omega
   show(s.bx.length:Int) - 1= _;rw[this];omega
end
end Go.Proofs.YtlcenllcmeebhaaGreat
