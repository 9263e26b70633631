import Derived.Test.YtlcenllcmeebhaaGreatPFE
/-! What the statement leans on: texts joined and shortened by a program of mine. -/
set_option linter.unusedVariables false
set_option linter.unusedSimpArgs false
open Go renaming World->A1,Addr->AB,Value->B4,MapEntry->Dn
open Go.Proofs.Tryz renaming prog->A2
open List renaming getElem?_set_ne->AC,getElem?_eq_some_iff->AL,getElem?_set_self->AM,length_set->AY,getD_eq_getElem?_getD->Ax,mem_map->Ay,mem_filter->B1,mem_of_getElem?->B2,getElem?_eq_getElem->B5,range->Bx,getElem?_of_mem->CJ,nodup_cons->CK,mem_cons_self->CL,mem_cons->Co,replicate->D8,map_cons->DB,mem_cons_of_mem->DD,filter_sublist->DI,mem_append_left->DJ,length_map->DO,mem_append_right->DQ,mem_singleton->DV,countP_pos_iff->Do,mem_range->E4,countP_cons->E5,sum_cons->F2,getElem?_map->F4,ext_getElem?->F5,length_cons->F7,length_replicate->FP,mem_append->FR,countP_map->FS,map_append->GD,sum_append->GF,filter_cons->GG,filter_eq_self->GH,nodup_range->GI,any_eq_true->GJ,eq_of_mem_replicate->GO,getElem?_set->GS,any_eq_false->Ga,length_append->Gc,zipIdx_cons->Gd,pairwise_map->Gi,getElem?_zipIdx->Gj
open Classical renaming byContradiction->B3
open Int.ofNat renaming inj->Bf
open Nat renaming eq_zero_or_pos->DA,le_refl->Ef,zero_le->FZ,lt_succ_self->Gt
open Go.IntKind renaming i64->DK
open Go.Value renaming nilFunc->DY
open Bool renaming and_eq_true->DZ
open BitVec renaming ofInt->Ep
open Int renaming toNat_of_nonneg->Et,toNat->G1
namespace Go.Proofs.YtlcenllcmeebhaaGreat.Mu
set_option maxRecDepth 100000
open Go.RX
abbrev sCl:List Sc:=[.int .i64,.int .u64,.int .u64,.int .u64]
abbrev sMk:List Sc:=[.int .i64,.int .i64,.int .i64,.int .i64,.int .u64,.int .u64,.int .u64,.int .u64,.int .i64]
noncomputable def U2:dM A2:={V0 with quiet:=[64,160,199,152,154,201,161,82,24]++V0.quiet}
noncomputable def U3:dM A2:={U2 with dyn:=some (.bu [.agg ik,.one .bool])}
theorem SP (p:Option AB) (w:A1) (a:Int->A1->Prop):(aJ U2 (λ_=>[]) 160 [ag p] w a)=(
 p.isSome=true/\p.isSome=true/\(ad p 4).isSome=true/\cM w (ad (ad p 4) 1) λx=>au w (a (aE .i64 (xm .u64 x 16)))):=by kernel_rfl
theorem SQ (p:Option AB) (w:A1) (e:Int->A1->Prop):(aJ U2 (λ_=>[]) 199 [ag p] w e)=(
 ∀w1,Ext w w1-> ∀c,Ext (w1.alloc (Obj.map ⟨[]⟩ 0)) c-> ∃(r:Nat), ∃(es:Array Dn), ∃(a:Nat),some w1.heap.size=some r/\bH c r es a/\ib c r .i64 6 (aa 1) es a λb=> ∀d,Ext b d-> ∃(r:Nat), ∃(es:Array Dn), ∃(a:Nat),some w1.heap.size=some r/\bH d r es a/\ib d r .i64 7 (aa 2) es a λb=>p.isSome=true/\p.isSome=true/\(ad p 4).isSome=true/\aW b (ad (ad p 4) 0) λx=> ∃(f:Int),jV b (some w1.heap.size) .i64 x (aa 0) (aa f)/\au b (e
 f)):=by kernel_rfl
theorem P4 (p:Option AB) (n:Int) (w:A1) (a:Option AB->A1->Prop):(aJ U2 (λ_=>[]) 64 [ag p,aa n] w a)=(
 ((!(p.isNone||decide (n<0)))=true->p.isSome=true)/\((!(p.isNone||decide (n<0)))=true->p.isSome=true)/\aj w (some !(p.isNone||decide (n<0))) (ad p 3) eH λx=>aI (p.isNone||decide (n<0)||decide (n>=(↑x.2.1:Int))) (au w (a none)) (fj p 3 w λx=>(x.1.isSome=true/\0<=n/\n<(↑x.2.1:Int))/\gu w (ad x.1 (n.toNat*1)) λx=>au w (a x))):=by kernel_rfl
theorem J0 (p:Option AB) (n v k a b c:Int) (w:A1) (f:Int->A1->Prop):(aJ U2 (λ_=>[]) 29 [ag p,aa n,aa v,.agg ⟨[aa k,az a,az b,az c]⟩] w f)=(
 aM w ⟨[aa k,az a,az b,az c]⟩ 31 λb d=> ∃(x:Option AB),ae A2 64 [ag p,aa n] d (ag x)/\((!p.isNone)=true->p.isSome=true)/\((!p.isNone)=true->p.isSome=true)/\aj d (some !p.isNone) (ad p 0) lZ λg=>aI (p.isNone||g.isNone) (au d (f 10)) (aI x.isNone (au d (f 2)) (cN x 2 d λh=>aI (h != 0) (au d (f 9)) (aj d none (af b) rK λ(e:Int×Int×Int×Int×Unit)=>x.isSome=true/\x.isSome=true/\aC d (ad x 2) [aa 1] λd=>cL d (af b) rK
 e/\x.isSome=true/\x.isSome=true/\aC d (ad x 3) [aa v] λd=>cL d (af b) rK e/\x.isSome=true/\x.isSome=true/\aC d (ad x 4) [aa e.1,az e.2.1,az e.2.2.1,az e.2.2.2.1] λd=>au d (f 0))))):=by kernel_rfl
theorem SS (p:Option AB) (f g h k a b c i j:Int) (w:A1) (l:Unit->A1->Prop):(aJ U2 (λ_=>[]) 155 [ag p,.agg ⟨[aa f,aa g,aa h,aa k,az a,az b,az c,az i,aa j]⟩] w l)=(
 aM w ⟨[aa f,aa g,aa h,aa k,az a,az b,az c,az i,aa j]⟩ 86 λb d=>fj p 5 d λx=>aj d none (af b) Ze λ(e:Int×Int×Int×Int×Int×Int×Int×Int×Int×Unit)=>aM d {toList:=[aa e.1,aa e.2.1,aa e.2.2.1,aa e.2.2.2.1,az e.2.2.2.2.1,az e.2.2.2.2.2.1,az e.2.2.2.2.2.2.1,az e.2.2.2.2.2.2.2.1,aa e.2.2.2.2.2.2.2.2.1]} 86 λb d=> ∀w1,Ext d w1->mH w1 86 9 72 ⟨[aa 0,aa 0,.int .i64
 0,aa 0,az 0,az 0,az 0,az 0,aa 0]⟩ (x.1,x.2.1,x.2.2) (some ⟨b,0,none⟩,1,1) λ(r:Option AB×Nat×Nat) d=>p.isSome=true/\p.isSome=true/\aC d (ad p 5) [.slice r.1 r.2.1 r.2.2] λd=>au d (l ())):=by kernel_rfl
abbrev pT (b:(Int×Int×Unit)×Bool×Unit->A1->Prop) (c:A1) (a:Nat):Prop:=
 aC c (af a) [az 0,aa 0] λd=>au d λw1=>aj w1 none (af a) cD λ(x:Int×Int×Unit)=>b ((x.1,x.2.1,()),false,()) w1
abbrev wN (a:Int):Prop:=
 0<=a/\a<(↑5:Int)
abbrev wO (n:Int) (e:(Int×Int×Unit)×Bool×Unit->A1->Prop) (g:A1) (f:Nat) (b:(Int×Int×Unit)×Bool×Unit) (c:Nat) (d:Option AB):Prop:=
 aC g (af f) [az b.1.1,aa b.1.2.1] λa=>aI (!b.2.1) (pT e a c) (bI d 1 a λx=>d.isSome=true/\aC a d [aa n,ag x,aa 0,aa 0,aa 0,az 0,az 0,az 0,ag none,aa 0,az 0,aa 0,aa 0,.slice none 0 0] λa=>aj a none (af f) cD λ(x:Int×Int×Unit)=>aC a (af c) [az x.1,aa x.2.1] λa=>au a λw1=>aj w1 none (af c) cD λ(x:Int×Int×Unit)=>e ((x.1,x.2.1,()),true,()) w1)
abbrev wP (n:Int) (c:(Int×Int×Unit)×Bool×Unit->A1->Prop) (a:B4×B4×B4×B4×B4×Unit) (d:Int) (b:Option AB) (e:A1) (f:Nat) (g:Nat):Prop:=
 Ak A2 (match [a.1,a.2.1,a.2.2.1,a.2.2.2.1,a.2.2.2.2.1].get?Internal d.toNat with|some x=>x|none=> .tuple ⟨[]⟩) (.bu [.agg [.int .u64,.int .i64],.one .bool]) [ag b] e λ(x:(Int×Int×Unit)×Bool×Unit) h=>wO n c h f x g b
abbrev wQ (p:Option AB) (n:Int) (e:(Int×Int×Unit)×Bool×Unit->A1->Prop) (d:Option AB) (f:A1) (g:Nat):Prop:=
 cN d 2 f λx=>(aA A2 68 (.el (.agg [.func,.func,.func,.func,.func])) [ag p] f λc a=>cL a (ad d 2) aV x/\True/\True/\wN x/\(Ak A2 (match [c.1,c.2.1,c.2.2.1,c.2.2.2.1,c.2.2.2.2.1].get?Internal x.toNat with|some x=>x|none=> .tuple ⟨[]⟩) (.bu [.agg [.int .u64,.int .i64],.one .bool]) [ag d] a λ(x:(Int×Int×Unit)×Bool×Unit) a=>aM a ⟨[az 0,aa 0]⟩ 61 λb a=>wO n e a b
 x g d)/\aM a ⟨[az 0,aa 0]⟩ 61 λb a=>wP n e c x d a b g)/\aM f ⟨[az 0,aa 0]⟩ 61 λb a=>aA A2 68 (.el (.agg [.func,.func,.func,.func,.func])) [ag p] a λc a=>cL a (ad d 2) aV x/\True/\True/\wN x/\wP n e c x d a b g
theorem Fc (p:Option AB) (n:Int) (w:A1) (c:(Int×Int×Unit)×Bool×Unit->A1->Prop):(bT U3 (λ_=>[]) 31 [ag p,aa n] w c)=(
 aM w ⟨[az 0,aa 0]⟩ 61 λb a=> ∃(x:Option AB),ae A2 64 [ag p,aa n] a (ag x)/\aI x.isNone (pT c a b) (cN x 2 a λf=>aI (f != 3) (bI p 2 a λg=>aA A2 66 (.bu [.agg [.int .i64,.int .i64,.int .i64],.one .bool]) [ag g,aa n] a λ(d:(Int×Int×Int×Unit)×Bool×Unit) a=>aM a ⟨[aa 0,aa 0,aa 0]⟩ 147 λe a=>aC a (af e) [aa d.1.1,aa d.1.2.1,aa d.1.2.2.1] λa=>aI d.2.1 (true=true/\aW a (ad
 (af e) 1) λh=>true=true/\aW a (ad (af e) 2) λi=>aA A2 67 (.bu []) [ag x,aa h,aa i] a λx a=>pT c a b) (wQ p n c x a b)) (wQ p n c x a b))):=by kernel_rfl
theorem Iv (p:Option AB) (w:A1) (c:B4×B4×B4×B4×B4×Unit->A1->Prop):(bT U2 (λ_=>[]) 68 [ag p] w c)=(
 aM w ⟨[DY,DY,DY,DY,DY]⟩ 154 λb a=>aC a (af b) [.func (.func 109) ⟨[ag p]⟩ ⟨[]⟩,.func (.func 110) ⟨[ag p]⟩ ⟨[]⟩,.func (.func 111) ⟨[ag p]⟩ ⟨[]⟩,.func (.func 112) ⟨[ag p]⟩ ⟨[]⟩,.func (.func 113) ⟨[ag p]⟩ ⟨[]⟩] λa=>au a λw1=>aj w1 none (af b) (.agg [.func,.func,.func,.func,.func]) λx=>c (x.1,x.2.1,x.2.2.1,x.2.2.2.1,x.2.2.2.2.1,()) w1):=by kernel_rfl
theorem Iw (p:Option AB) (t g:Int) (w:A1) (a:Unit->A1->Prop):(aJ U2 (λ_=>[]) 67 [ag p,aa t,aa g] w a)=(
 aI (g== -1) (bI p 1 w λx=>aA A2 107 (.el aV) [ag x,aa t] w λ(x:Int) b=>au b (a ())) (bI p 1 w λx=>aA A2 108 (.el rJ) [ag x,aa t,aa g] w λx b=>au b (a ()))):=by kernel_rfl
def uG:Nat->a6:=(λ|4=>[(18,Go.RX.El.one (Go.RX.Sc.int DK))]| _=>[])
theorem SU (p:Option AB) (w:A1) (b:Int->A1->Prop):(aJ U2 uG 151 [ag p] w b)=(
 bI p 1 w λx=>aA A2 197 (.el rJ) [ag x] w λx a=>bI p 1 a λx=>aA A2 198 (.el eH) [ag x] a λx a=> ∃(I:Nat->Int×Unit->A1->Prop),(∃n, ∀w1,Ext a w1->I n (0,()) w1)/\ ∀(n:Nat) (s:Int×Unit) (w1:A1),I n s w1->aI (decide (s.1<(↑x.2.1:Int))) ((x.1.isSome=true/\0<=s.1/\s.1<(↑x.2.1:Int))/\aW w1 (ad x.1 (G1 s.1*1)) λx=>bI p 0 w1 λf=>aA A2 43 (.el aV) [ag f,aa x] w1 λ(h:Int) a=>td p 4 a λg=> ∀w1,Ext a w1-> ∃(r:Nat), ∃
 (es:Array Dn), ∃(c:Nat),g=some r/\bH w1 r es c/\AD w1 r .i64 x es c λa=>aA A2 155 (.bu []) [ag p,.agg {toList:=[aa 2,aa 0,aa x,aa 0,az 0,az 0,az 0,az 0,aa 0]}] a λx a=> ∀d,Ext a d-> ∃(e:Nat),e<n/\I e (aH .i64 s.1 1,()) d) (au w1 (b (↑x.2.1:Int)))):=by kernel_rfl
theorem SV (p x:Option AB) (w:A1) (c:(Int×Int×Unit)×Bool×Unit->A1->Prop):(bT U2 (λ_=>[]) 109 [ag p,ag x] w c)=(
 aM w ⟨[az 0,aa 0]⟩ 61 λb a=>aA A2 151 (.el aV) [ag p] a λ(x:Int) a=>aC a (af b) [az 0,aa 0] λa=>au a λw1=>aj w1 none (af b) cD λ(x:Int×Int×Unit)=>c ((x.1,x.2.1,()),false,()) w1):=by kernel_rfl
theorem Np (p x:Option AB) (w:A1) (e:(Int×Int×Unit)×Bool×Unit->A1->Prop):(bT U2 (λ_=>[]) 112 [ag p,ag x] w e)=(
 aM w ⟨[az 0,aa 0]⟩ 61 λb a=>cN x 9 a λc=>x.isSome=true/\x.isSome=true/\(ad x 4).isSome=true/\cM a (ad (ad x 4) 1) λd=>bI p 1 a λh=>cN x 0 a λi=>aA A2 158 (.el aV) [ag h,aa i] a λ(l:Int) a=>x.isSome=true/\x.isSome=true/\(ad x 4).isSome=true/\aW a (ad (ad x 4) 0) λj=>aI (j==7) (bI p 0 a λf=>x.isSome=true/\x.isSome=true/\(ad x 4).isSome=true/\cM a (ad (ad x 4) 2) λg=>aA A2 23 (.el lZ) [ag f] a λ
 k a=>cL a (ad (ad x 4) 2) rI g/\True/\True/\True/\aA A2 38 (.el aV) [ag k,aa (aH .i64 (gq .i64 16 c) (aE .i64 (dz d 16))),az g] a λ(m:Int) a=>x.isSome=true/\x.isSome=true/\(ad x 4).isSome=true/\cM a (ad (ad x 4) 2) λx=>aA A2 155 (.bu []) [ag p,.agg {toList:=[aa 4,aa 0,aa (aH .i64 (gq .i64 16 c) (aE .i64 (dz d 16))),aa 0,az 0,az 0,az 0,az x,aa 0]}] a λx a=>aC a (af b) [.int .u64
 0,aa 0] λa=>au a λw1=>aj w1 none (af b) cD λ(x:Int×Int×Unit)=>e ((x.1,x.2.1,()),true,()) w1) (bI p 0 a λx=>aA A2 23 (.el lZ) [ag x] a λx a=>aA A2 37 (.bu [.one (.int .u64),.one (.int .i64)]) [ag x,aa (aH .i64 (gq .i64 16 c) (aE .i64 (dz d 16)))] a λ(x:Int×Int×Unit) a=>aA A2 155 (.bu []) [ag p,.agg {toList:=[aa 3,aa 0,aa (aH .i64 (gq .i64 16 c) (aE .i64 (dz d 16))),aa 0,az 0,az 0,
 az 0,az x.1,aa 0]}] a λf a=>aC a (af b) [az x.1,aa 0] λa=>au a λw1=>aj w1 none (af b) cD λ(x:Int×Int×Unit)=>e ((x.1,x.2.1,()),true,()) w1)):=by kernel_rfl
theorem SW (p x:Option AB) (w:A1) (e:(Int×Int×Unit)×Bool×Unit->A1->Prop):(bT U2 (λ_=>[]) 111 [ag p,ag x] w e)=(
 aM w ⟨[az 0,aa 0]⟩ 61 λb a=>bI x 8 a λg=>bI p 0 a λj=>aA A2 23 (.el lZ) [ag j] a λk a=>cL a (ad x 8) lZ g/\True/\True/\aA A2 22 (.el rJ) [ag g,ag k] a λl a=>aI (!l) (aC a (af b) [az 0,aa 0] λa=>au a λw1=>aj w1 none (af b) cD λ(x:Int×Int×Unit)=>e ((x.1,x.2.1,()),false,()) w1) (bI x 8 a λm=> ∃(c:(Int×Int×Int×Int×Unit)×Bool×Unit),ae A2 24 [ag m] a (.tuple {toList
 :=[.agg ⟨[aa c.1.1,aa c.1.2.1,aa c.1.2.2.1,aa c.1.2.2.2.1]⟩,.bool c.2.1]})/\aM a ⟨[aa 0,aa 0,aa 0,aa 0]⟩ 48 λd a=>aC a (af d) [aa c.1.1,aa c.1.2.1,aa c.1.2.2.1,aa c.1.2.2.2.1] λa=>true=true/\aW a (ad (af d) 3) λn=>aI (n != 0) (bI p 1 a λf=>cN x 0 a λx=>aA A2 158 (.el aV) [ag f,aa x] a λ(x:Int) a=>true=true/\aW a (ad (af d) 3) λx=>aC a (af b) [az 0,aa x]
 λa=>au a λw1=>aj w1 none (af b) cD λ(x:Int×Int×Unit)=>e ((x.1,x.2.1,()),true,()) w1) (bI x 1 a λf=>cN x 3 a λo=> ∃(h:Int),ae A2 160 [ag x] a (aa h)/\true=true/\aW a (ad (af d) 0) λq=>true=true/\aW a (ad (af d) 1) λr=>aA A2 159 (.el aV) [ag f,.agg ⟨[aa o,aa h,aa q,aa r]⟩] a λ(s:Int) a=>true=true/\aW a (ad (af d) 0) λi=>x.isSome=true/\x.isSome=true/\aC a
 (ad x 2) [aa 3] λa=>cL a (ad (af d) 0) aV i/\True/\x.isSome=true/\x.isSome=true/\aC a (ad x 9) [aa i] λa=>aC a (af b) [az 0,aa 0] λa=>au a λw1=>aj w1 none (af b) cD λ(x:Int×Int×Unit)=>e ((x.1,x.2.1,()),false,()) w1))):=by kernel_rfl
def uH:Nat->a6:=(λ|4=>[(24,Go.RX.El.one (Go.RX.Sc.int DK))]| _=>[])
theorem SX (p x:Option AB) (w:A1) (d:(Int×Int×Unit)×Bool×Unit->A1->Prop):(bT U2 uH 113 [ag p,ag x] w d)=(
 aM w ⟨[az 0,aa 0]⟩ 61 λb a=>bI p 2 a λh=>cN x 12 a λi=> ∃e,ae A2 161 [ag h,aa i] a (.bool e)/\aI (!e) (aC a (af b) [az 0,aa 0] λa=>au a λw1=>aj w1 none (af b) cD λ(x:Int×Int×Unit)=>d ((x.1,x.2.1,()),false,()) w1) (fj x 13 a λc=> ∃(I:Nat->Int×Unit->A1->Prop),(∃n, ∀w1,Ext a w1->I n (0,()) w1)/\ ∀(n:Nat) (s:Int×Unit) (w1:A1),I n s w1->aI (decide (s.1<(↑c.2.1:Int))) ((c.1.isSome=true/\0<=s.1
 /\s.1<(↑c.2.1:Int))/\aW w1 (ad c.1 (G1 s.1*1)) λx=>bI p 1 w1 λj=>aA A2 162 (.el aV) [ag j,aa x] w1 λ(x:Int) a=> ∀f,Ext a f-> ∃(g:Nat),g<n/\I g (aH .i64 s.1 1,()) f) (x.isSome=true/\x.isSome=true/\aj w1 none (ad x 10) cD λ(x:Int×Int×Unit)=>aC w1 (af b) [az x.1,aa x.2.1] λa=>au a λw1=>aj w1 none (af b) cD λ(x:Int×Int×Unit)=>d ((x.1,x.2.1,()),true,()) w1))):=by kernel_rfl
theorem Ix (p x:Option AB) (w:A1) (e:Bool->A1->Prop):(aJ U2 (λ_=>[]) 152 [ag p,ag x] w e)=(
 ∃(a:Int),ae A2 199 [ag x] w (aa a)/\(decide (a>0)=true->p.isSome=true)/\(decide (a>0)=true->p.isSome=true)/\aj w (some (decide (a>0))) (ad p 0) lZ λf=>(decide (a>0)=true->x.isSome=true)/\(decide (a>0)=true->x.isSome=true)/\aj w (some (decide (a>0))) (ad x 3) aV λ(g:Int)=> ∃b,(decide (a>0)=true->ae A2 19 [ag f,aa g] w (.bool b))/\((decide (a>0)&&b)=true->x.isSome=true)/\((decide (a>0)&&b)=true->x.isSome=true)/\aj w
 (some (decide (a>0)&&b)) (ad x 4) rK λ(d:Int×Int×Int×Int×Unit)=> ∃c,((decide (a>0)&&b)=true->ae A2 76 [.agg ⟨[aa d.1,az d.2.1,az d.2.2.1,az d.2.2.2.1]⟩] w (.bool c))/\((decide (a>0)&&b&&c)=true->x.isSome=true)/\((decide (a>0)&&b&&c)=true->x.isSome=true)/\((decide (a>0)&&b&&c)=true->(ad x 4).isSome=true)/\aj w (some (decide (a>0)&&b&&c)) (ad (ad x 4) 1) rI λ(x:Int)=>au w (e (decide (a>0)&&b&&c&&decide
 (x<1048576)))):=by kernel_rfl
def oz:Nat->a6:=(λ|2=>[(12,Go.RX.El.one (Go.RX.Sc.int DK))]| _=>[])
theorem FK (p x:Option AB) (w:A1) (i:Bool->A1->Prop):(aJ U2 oz 154 [ag p,ag x] w i)=(
 fj p 3 w λj=> ∃(I:Nat->Int×Unit->A1->Prop),(∃n, ∀w1,Ext w w1->I n (0,()) w1)/\ ∀(n:Nat) (s:Int×Unit) (w1:A1),I n s w1->aI (decide (s.1<(↑j.2.1:Int))) ((j.1.isSome=true/\0<=s.1/\s.1<(↑j.2.1:Int))/\gu w1 (ad j.1 (G1 s.1*1)) λa=>X9 w1 a x/\((!decide (a=x))=true->x.isSome=true)/\((!decide (a=x))=true->x.isSome=true)/\aj w1 (some !decide (a=x)) (ad x 3) aV λ(k:Int)=>aI (decide (a=x)||k != 0) (∀f,Ext w1 f-> ∃(g:Nat),g<n/\I g (aH .i64 s.1 1,
 ()) f) (x.isSome=true/\x.isSome=true/\(ad x 4).isSome=true/\aW w1 (ad (ad x 4) 0) λd=>((d==1)=true->a.isSome=true)/\((d==1)=true->a.isSome=true)/\aj w1 (some (d==1)) (ad a 2) aV λ(h:Int)=>((d==1&&h==4)=true->a.isSome=true)/\((d==1&&h==4)=true->a.isSome=true)/\((d==1&&h==4)=true->(ad a 4).isSome=true)/\aj w1 (some (d==1&&h==4)) (ad (ad a 4) 0) aV λ(l:Int)=>aI (d==1&&h==4&&l==2) (au w1 (i true)) (x.isSome=true/\
 x.isSome=true/\(ad x 4).isSome=true/\aW w1 (ad (ad x 4) 0) λb=>((b==2)=true->a.isSome=true)/\((b==2)=true->a.isSome=true)/\aj w1 (some (b==2)) (ad a 2) aV λ(c:Int)=>((b==2&&decide (c>=2))=true->a.isSome=true)/\((b==2&&decide (c>=2))=true->a.isSome=true)/\aj w1 (some (b==2&&decide (c>=2))) (ad a 3) aV λ(e:Int)=>((b==2&&decide (c>=2)&&decide (e>0))=true->a.isSome=true)/\((b==2&&decide (c>=2)&&decide (e>0))=true->a.isSome=true)/\
 aj w1 (some (b==2&&decide (c>=2)&&decide (e>0))) (ad a 3) aV λ(m:Int)=>((b==2&&decide (c>=2)&&decide (e>0))=true->x.isSome=true)/\((b==2&&decide (c>=2)&&decide (e>0))=true->x.isSome=true)/\((b==2&&decide (c>=2)&&decide (e>0))=true->(ad x 4).isSome=true)/\aj w1 (some (b==2&&decide (c>=2)&&decide (e>0))) (ad (ad x 4) 1) rI λ(x:Int)=>aI (b==2&&decide (c>=2)&&decide (e>0)&&aE .u64 m==x) (au w1 (i true)) (∀f,Ext w1 f-> ∃(g:Nat),g<n/\
 I g (aH .i64 s.1 1,()) f)))) (au w1 (i false))):=by kernel_rfl
def oA:Nat->a6:=(λ|4=>[(4,Go.RX.El.one Go.RX.Sc.slice),(15,Go.RX.El.one (Go.RX.Sc.int DK))]| _=>[])
theorem FL (p:Option AB) (w:A1) (f:Option AB×Nat×Nat->A1->Prop):(aJ U2 oA 156 [ag p] w f)=(
 bI p 0 w λx=>aA A2 18 (.el lZ) [ag x] w λx a=> ∃(g:Int),ae A2 62 [ag x] a (aa g)/\ ∃(I:Nat->(Option AB×Nat×Nat)×Int×Unit->A1->Prop),(∃n, ∀w1,Ext a w1->I n ((none,0,0),0,()) w1)/\ ∀(n:Nat) (s:(Option AB×Nat×Nat)×Int×Unit) (w1:A1),I n s w1->aI (decide (s.2.1<g)) (∃(c:(Int×Int×Int×Int×Unit)×Bool×Unit),ae A2 25 [ag x,aa s.2.1] w1 (.tuple {toList:=[.agg ⟨[aa c.1.1,aa c.1.2.1,aa c.1.2.2.1,.int .i64
 c.1.2.2.2.1]⟩,.bool c.2.1]})/\aM w1 ⟨[aa 0,aa 0,aa 0,aa 0]⟩ 52 λb a=>aC a (af b) [aa c.1.1,aa c.1.2.1,aa c.1.2.2.1,aa c.1.2.2.2.1] λa=>true=true/\aW a (ad (af b) 0) λx=>((x==5)=true->p.isSome=true)/\((x==5)=true->p.isSome=true)/\aj a (some (x==5)) (ad p 4) OE λj=> ∃h,((x==5)=true->jV a j .i64 s.2.1 (.bool false) (.bool h))/\aI (x==5&& !h) (td p 4 a λx=> ∀w1,Ext a w1-> ∃(r:Nat), ∃(es:Array Dn), ∃(i:Nat),x
 =some r/\bH w1 r es i/\ib w1 r .i64 s.2.1 (.bool true) es i λa=>aM a ⟨[aa s.2.1]⟩ 3 λb a=> ∀w1,Ext a w1->mH w1 3 1 8 ⟨[aa 0]⟩ (s.1.1,s.1.2.1,s.1.2.2) (some ⟨b,0,none⟩,1,1) λ(r:Option AB×Nat×Nat) a=> ∀d,Ext a d-> ∃(e:Nat),e<n/\I e ((r.1,r.2.1,r.2.2),aH .i64 s.2.1 1,()) d) (∀d,Ext a d-> ∃(e:Nat),e<n/\I e ((s.1.1,s.1.2.1,s.1.2.2),aH .i64 s.2.1 1,()) d)) (au w1 (f (s.1.1,s.1.2.1,s.1.2.2)))):=by kernel_rfl
abbrev uI (b:(Int×Int×Unit)×Bool×Unit->A1->Prop) (c:A1) (a:Nat):Prop:=
 aC c (af a) [az 0,aa 0] λd=>au d λw1=>aj w1 none (af a) cD λ(x:Int×Int×Unit)=>b ((x.1,x.2.1,()),false,()) w1
abbrev oe (a:(Int×Int×Unit)×Bool×Unit->A1->Prop) (b:A1) (c:Nat):Prop:=
 au b λw1=>aj w1 none (af c) cD λ(x:Int×Int×Unit)=>a ((x.1,x.2.1,()),true,()) w1
abbrev uJ (x:Option AB) (a:Int):Prop:=
 (a==0)=true->x.isSome=true
abbrev jl (x:Option AB) (c:(Int×Int×Unit)×Bool×Unit->A1->Prop) (a:A1) (b:Nat):Prop:=
 x.isSome=true/\x.isSome=true/\aj a none (ad x 10) cD λ(x:Int×Int×Unit)=>aC a (af b) [az x.1,aa x.2.1] λd=>oe c d b
abbrev uK (x:Option AB) (b:(Int×Int×Unit)×Bool×Unit->A1->Prop) (c:A1) (d:Int×Int×Unit) (e:Nat):Prop:=
 x.isSome=true/\x.isSome=true/\aC c (ad x 12) [aa d.1] λa=>x.isSome=true/\x.isSome=true/\aC a (ad x 2) [aa 4] λa=>uI b a e
abbrev og (p:Option AB) (x:Option AB) (c:(Int×Int×Unit)×Bool×Unit->A1->Prop) (b:A1) (d:Nat) (e:Int) (f:Int):Prop:=
 x.isSome=true/\x.isSome=true/\(ad x 10).isSome=true/\aW b (ad (ad x 10) 1) λg=>aI (g != 0) (jl x c b d) (aA A2 67 (.bu []) [ag x,aa e,aa (aE .i64 f)] b λk a=>bI p 2 a λh=>cN x 0 a λi=>aA A2 157 (.bu [.one (.int .i64),.one (.int .i64)]) [ag h,aa i,aa e,aa (aE .i64 f)] a λ(j:Int×Int×Unit) a=>uK x c a j d)
theorem Nq (p x:Option AB) (w:A1) (c:(Int×Int×Unit)×Bool×Unit->A1->Prop):(bT U2 (λ_=>[]) 110 [ag p,ag x] w c)=(
 aM w ⟨[az 0,aa 0]⟩ 61 λb a=> ∃l,ae A2 152 [ag p,ag x] a (.bool l)/\aI l (aA A2 153 (.bu []) [ag p,ag x] a λx a=>uI c a b) (∃m,ae A2 154 [ag p,ag x] a (.bool m)/\aI m (aC a (af b) [az 0,aa 9] λa=>oe c a b) (cN x 3 a λe=>uJ x e/\uJ x e/\aj a (some (e==0)) (ad x 4) rK λ(f:Int×Int×Int×Int×Unit)=>aI (e==0&&(f.1==17&&(f.2.1==0&&(f.2.2.1==0&&
 (f.2.2.2.1==0&&true))))) (aA A2 151 (.el aV) [ag p] a λ(x:Int) a=>aC a (af b) [az (aE .u64 x),aa 0] λa=>oe c a b) (bI p 0 a λr=>cN x 3 a λs=>x.isSome=true/\x.isSome=true/\aj a none (ad x 4) rK λ(g:Int×Int×Int×Int×Unit)=>aA A2 42 (.el cD) [ag r,aa s,.agg ⟨[aa g.1,az g.2.1,az g.2.2.1,az g.2.2.2.1]⟩] a λ(n:Int×Int×Unit) a=>x.isSome=true/\x.isSome=true/\aC a (ad x 10) [az n.1,
 aa n.2.1] λa=>cN x 3 a λt=>x.isSome=true/\x.isSome=true/\aj a none (ad x 4) rK λ(h:Int×Int×Int×Int×Unit)=>x.isSome=true/\x.isSome=true/\aj a none (ad x 10) cD λ(o:Int×Int×Unit)=>aA A2 155 (.bu []) [ag p,.agg {toList:=[aa 1,aa t,aa 0,aa h.1,az h.2.1,az h.2.2.1,az h.2.2.2.1,az o.1,aa o.2.1]}] a λA a=>aA A2 156 (.el eH) [ag p] a λi a=>x.isSome=true/\x.isSome=true/\
 aC a (ad x 13) [.slice i.1 i.2.1 i.2.2] λa=>cN x 3 a λj=>x.isSome=true/\x.isSome=true/\(ad x 4).isSome=true/\cM a (ad (ad x 4) 1) λk=>x.isSome=true/\x.isSome=true/\(ad x 4).isSome=true/\aW a (ad (ad x 4) 0) λd=>aI (d==2) (x.isSome=true/\x.isSome=true/\(ad x 4).isSome=true/\cM a (ad (ad x 4) 1) λq=>x.isSome=true/\x.isSome=true/\(ad x 10).isSome=true/\aW a (ad (ad x 10) 1) λu=>aI (u != 0) (jl x c a b) (aA A2 67 (.bu []) [.pointer
 x,aa (aE .i64 q),aa (-1)] a λB a=>bI p 2 a λv=>cN x 0 a λy=>aA A2 157 (.bu [.one (.int .i64),.one (.int .i64)]) [ag v,aa y,aa (aE .i64 q),aa (-1)] a λ(z:Int×Int×Unit) a=>uK x c a z b)) (aI (d==4) (aI (d==4) (og p x c a b j k) (jl x c a b)) (aI (d==5) (aI (d==5) (og p x c a b j k) (jl x c a b)) (aI (d==10) (og p x c a b j k) (jl x c a
 b)))))))):=by kernel_rfl
theorem SY (p x:Option AB) (w:A1) (c:Unit->A1->Prop):(aJ U2 (λ_=>[]) 153 [ag p,ag x] w c)=(
 bI p 1 w λi=>cN x 0 w λj=>aA A2 200 (.el aV) [ag i,aa j] w λ(q:Int) a=>bI x 1 a λk=>cN x 3 a λl=> ∃(d:Int),ae A2 160 [ag x] a (aa d)/\ ∃(e:Int),ae A2 199 [ag x] a (aa e)/\ ∃(b:Int×Int×Unit),ae A2 201 [ag k,aa l,aa d,aa e] a (.tuple ⟨[aa b.1,aa b.2.1]⟩)/\aI (b.2.1==0) (x.isSome=true/\x.isSome=true/\aC a (ad x 2) [aa 3] λa=>x.isSome=true/\
 x.isSome=true/\aC a (ad x 9) [aa b.1] λa=>au a (c ())) (bI p 0 a λm=>cN x 3 a λn=> ∃(f:Int),ae A2 21 [ag m,aa n] a (aa f)/\ ∃(g:Int),ae A2 160 [ag x] a (aa g)/\ ∃(h:Int),ae A2 199 [ag x] a (aa h)/\aA A2 20 (.el lZ) [aa f,aa g,aa h] a λo a=>x.isSome=true/\x.isSome=true/\aC a (ad x 2) [aa 2] λa=>x.isSome=true/\x.isSome=true/\aC a (ad x 8)
 [ag o] λa=>au a (c ()))):=by kernel_rfl
theorem BY (p:Option AB) (n:Int) (w:A1) (a:Int->A1->Prop):(aJ U2 (λ_=>[]) 49 [ag p,aa n] w a)=(
 ∃(x:Option AB),ae A2 64 [ag p,aa n] w (ag x)/\aI x.isNone (au w (a 0)) (cN x 2 w λx=>au w (a x))):=by kernel_rfl
theorem BZ (p:Option AB) (w:A1) (a:Option AB×Nat×Nat->A1->Prop):(aJ U2 (λ_=>[]) 41 [ag p] w a)=(
 aI p.isNone (au w (a (none,0,0))) (fj p 5 w λx=> ∀w1,Ext w w1->mH w1 86 9 72 ⟨[aa 0,aa 0,aa 0,aa 0,az 0,az 0,az 0,az 0,aa 0]⟩ (none,0,0) (x.1,x.2.1,x.2.2) λ(r:Option AB×Nat×Nat) b=>au b (a (r.1,r.2.1,r.2.2)))):=by kernel_rfl
theorem B6 (p:Option AB) (n:Int) (w:A1) (a:Option AB×Nat×Nat->A1->Prop):(aJ U2 (λ_=>[]) 51 [ag p,aa n] w a)=(
 ∃(x:Option AB),ae A2 64 [ag p,aa n] w (ag x)/\aI x.isNone (au w (a (none,0,0))) (bI x 1 w λx=>aA A2 83 (.el eH) [ag x] w λx b=>au b (a (x.1,x.2.1,x.2.2)))):=by kernel_rfl
theorem Fe (p:Option AB) (n:Int) (w:A1) (a:Int->A1->Prop):(aJ U2 (λ_=>[]) 50 [ag p,aa n] w a)=(
 ∃(x:Option AB),ae A2 64 [ag p,aa n] w (ag x)/\aI x.isNone (au w (a 0)) (bI p 2 w λx=> ∃(b:Int),ae A2 82 [ag x,aa n] w (aa b)/\au w (a b))):=by kernel_rfl
theorem B7 (p:Option AB) (w:A1) (a:Option AB->A1->Prop):(aJ U2 (λ_=>[]) 17 [ag p] w a)=(
 aI p.isNone (au w (a none)) (bI p 0 w λx=>au w (a x))):=by kernel_rfl
theorem wR (p:Option AB) (w:A1) (a:Option AB×Nat×Nat->A1->Prop):(aJ U2 (λ_=>[]) 32 [ag p] w a)=(
 aI p.isNone (au w (a (none,0,0))) (bI p 1 w λx=>aA A2 69 (.el eH) [ag x] w λx b=>au b (a (x.1,x.2.1,x.2.2)))):=by kernel_rfl
def wS:Nat->a6:=(λ|10=>[(45,Go.RX.El.one (Go.RX.Sc.int DK))]| _=>[])
theorem Wu (f c l:Int) (w:A1) (d:Option AB×Int×Unit->A1->Prop):(aJ U2 wS 52 [aa f,aa c,aa l] w d)=(
 aA A2 40 (.bu [.one .ptr,.one (.int .i64)]) [aa f] w λ(x:Option AB×Int×Unit) a=>aI (x.2.1 != 0) (au a (d (none,x.2.1,()))) (aA A2 84 (.bu [.one .ptr,.one (.int .i64)]) [aa c] a λ(e:Option AB×Int×Unit) a=>aI (e.2.1 != 0) (au a (d (none,e.2.1,()))) (∀w1,Ext a w1->aM (w1.alloc (Obj.map ⟨[]⟩ 0)) ⟨[ag x.1,ag e.1,ag none,.slice none 0 0,.map (some w1.heap.size),.slice none 0 0]⟩ 103 λb a=>aA A2 85 (.bu [.one .ptr,.one (.int .i64)]) [aa c] a λ(x:
 Option AB×Int×Unit) a=>true=true/\true=true/\aC a (ad (af b) 2) [ag x.1] λa=> ∃(I:Nat->Int×Unit->A1->Prop),(∃n, ∀w1,Ext a w1->I n (0,()) w1)/\ ∀(n:Nat) (s:Int×Unit) (w1:A1),I n s w1->aI (decide (s.1<c)) (aA A2 86 (.bu [.one .ptr,.one (.int .i64)]) [aa l] w1 λ(x:Option AB×Int×Unit) a=>aI (x.2.1 != 0) (au a (d (none,x.2.1,()))) (true=true/\true=true/\tc a (ad (af b) 3) λg=>aM a {toList:=[aa s.1,ag x.1,aa 0,aa 0,aa 0,
 az 0,az 0,az 0,ag none,aa 0,az 0,aa 0,aa 0,.slice none 0 0]} 143 λj a=>aM a {toList:=[ag (af j)]} 139 λk a=> ∀w1,Ext a w1->mH w1 139 1 8 ⟨[ag none]⟩ (g.1,g.2.1,g.2.2) (some ⟨k,0,none⟩,1,1) λ(r:Option AB×Nat×Nat) a=>true=true/\true=true/\aC a (ad (af b) 3) [.slice r.1 r.2.1 r.2.2] λa=> ∀h,Ext a h-> ∃(i:Nat),i<n/\I i (aH .i64 s.1 1,()) h)) (au w1 (d (some ⟨b,0,none⟩,0,())))))):=by kernel_rfl
end Go.Proofs.YtlcenllcmeebhaaGreat.Mu
namespace Go.Proofs.YtlcenllcmeebhaaGreat
set_option maxRecDepth 100000
open Go.RX D
namespace Inv
variable {g:Gh} {s s':WD}
structure fg (g:Gh) (s s':WD):Prop where
 len:s'.1.length=s.1.length/\s'.2.length=s.2.length
 ws: ∀{f o x k:Int} {l:Nat},g f=some (o,l,x)->0<=k->k<16->dQ s'.1 (16*f+k)=dQ s.1 (16*f+k)
 tb: ∀{n:Nat} {d:DT},s.2[n]? =some d->d.1=3->s'.2[n]? =some d
 bt: ∀{n:Nat} {d:DT},s'.2[n]? =some d->d.1=3->s.2[n]? =some d
 fz: ∀d∈s'.2,d.1=0->d=zD
theorem fg.YM (B:fg g s s') {f o x k:Int} {l:Nat} (h:g f=some (o,l,x)) (h0:0<=k) (h1:k<16):aL s'.1 (16*f+k)=aL s.1 (16*f+k):=by
 unfold aL;rw[B.ws h h0 h1]
theorem beside (I:Inv g s) (B:fg g s s'):Inv g s' where
 len:=by rw[B.len.1,B.len.2];exact I.len
 le:=by rw[B.len.2];exact I.le
 fz:=B.fz
 kd:=λ{f o l x} h=>by
  obtain⟨a,b,c,d⟩:=I.kd h;rw[B.len.2];exact⟨a,b,B.tb c rfl,d⟩
 inj:=I.inj
 sM:=λ{f o l x i} h h0 h1 e=>by
  rw[B.YM h h0 h1] at e ⊢;exact I.sM h h0 h1 e
 leaf:=λ{f o l x i} h h0 h1=>by
  rw[B.YM h h0 h1];exact I.leaf h h0 h1
 FX:=λ{f o l x} h m=>by
  obtain⟨f',h1,p⟩:=I.FX h m;refine⟨f',h1,?_⟩;rw[B.YM h1 (by omega) (by omega)];exact p
 wf:=λ{f o l x i} h h0 h1 j=>by
  rw[B.YM h h0 h1] at j;rw[B.ws h h0 h1];exact I.wf h h0 h1 j
 tb:=λ{n d} h k=>I.tb (B.bt h k) k
theorem Iy (B:fg g s s') {o p f:Int} {j:Nat} (h:dD g s o p f j):dD g s' o p f j:=
 ⟨h.1,by rw[B.YM h.1 (eY p j).1 (eY p j).2];exact h.2⟩
theorem yd {r p:Int} (a: ¬ (0<=p/\p<65536)):bD s r false p=(0,0,2,()):=by
 unfold bD;rw[ao (by decide),aw (by omega)]
theorem dG (I:Inv g s) (B:fg g s s') {o r:Int} (b:g r=some (o,3,0)) (p:Int):bD s' r false p=bD s r false p:=by
 by_cases a:0<=p/\p<65536
 ·obtain⟨f,j, _,c⟩:=I.lD b a;rw[I.fy b a c,(I.beside B).fy b a (Iy B c),B.YM c.1 (eY p j).1 (eY p j).2]
 ·rw[yd a,yd a]
theorem nh (B:fg g s s') (h:Az g s):Az g s':=λf o l x i a h0 h1 b c=>by
 rw[B.YM a h0 h1] at b c;exact h a h0 h1 b c
theorem aaw (s:WD) (r:Int) {p:Int} (a:0<=p/\p<65536):(bD s r false p).2.2.1=0\/bD s r false p=(0,0,4,()):=by
 unfold bD;rw[ao (by decide),ao (by omega)];split
 ·exact .inl rfl
 ·exact .inr rfl
theorem acS (I:Inv g s) (nl:Az g s) {o r p:Int} (b:g r=some (o,3,0)) (c:0<=p/\p<65536) (h:(bD s r false p).2.2.1=0): ∃f,dD g s o p f 0/\(aL s.1 (16*f+px 0 p % 16)).1=true/\(dH s.1 r p).2.1=0:=by
 obtain⟨f,j, _,a⟩:=I.lD b c;rw[I.fy b c a] at h;have d:=Dg h;have e:=nl a.1 (eY p j).1 (eY p j).2 d a.2;subst e;refine⟨f,a,d,?_⟩;rw[(I.ml b c a).1];rfl
theorem acT (I:Inv g s) (nl:Az g s) {o r p:Int} (a:g r=some (o,3,0)) (b:0<=p/\p<65536) (h:(bD s r false p).2.2.1=0):mv s o r p=0:=by
 obtain⟨_, _, _,e⟩:=I.acS nl a b h;unfold mv;rw[aw e]
theorem aa9 (I:Inv g s) (nl:Az g s) {o r p:Int} (a:g r=some (o,3,0)) (b:0<=p/\p<65536) (h:(bD s r false p).2.2.1=0):CI s o r false p=0:=by
 unfold CI;rw[aw h];exact I.acT nl a b h
theorem P5 (I:Inv g s) {o r p:Int} (c:g r=some (o,3,0)) (h:(bD s r false p).2.2.1=0):(0<=p/\p<65536)/\0<=(bD s r false p).1:=by
 have a:0<=p/\p<65536:=by
  by_cases a:0<=p/\p<65536
  ·exact a
  ·rw[yd a] at h;exact absurd h (by decide)
 refine⟨a,?_⟩;obtain⟨f,j, _,i⟩:=I.lD c a;rw[I.fy c a i] at h ⊢;have b:=Dg h;have d:=lM s.1 (16*f+px j p % 16);unfold l5;rw[aw b];generalize aL s.1 (16*f+px j p % 16)=e at*
 obtain⟨ep,er,el,ef,k⟩:=e;dsimp only at b d;subst b;obtain⟨l,m,n,q,t⟩:=mm.1 d;dsimp only;split<;>omega
end Inv
set_option maxRecDepth 100000
open Go.RX D
def lh {α:Type} (F:Nat->α) (v:Nat) (y:α):Nat->α:=λi=>if i=v then y else F i
theorem kU {α:Type} (F:Nat->α) (v:Nat) (y:α):lh F v y v=y:=aw rfl
theorem nW {α:Type} {F:Nat->α} {v i:Nat} (h:i≠v) (y:α):lh F v y i=F i:=ao h
theorem Di (F:Nat->Nat) (v y:Nat): ∀n,((Bx n).map (lh F v y)).sum+(if v<n then F v else 0)=((Bx n).map F).sum+(if v<n then y else 0)
 |0=>rfl
 |n+1=>by
  have b:=Di F v y n;rw[List.range_succ,GD,GD,GF,GF];simp only[DB,List.map_nil,F2,List.sum_nil];by_cases h:v=n
  ·subst h;rw[kU];rw[ao (Nat.lt_irrefl _),ao (Nat.lt_irrefl _)] at b;rw[aw (Gt _),aw (Gt _)];omega
  ·rw[nW (λe=>h e.symm)];by_cases a:v<n
   ·rw[aw a,aw a] at b;rw[aw (by omega),aw (by omega)];omega
   ·rw[ao a,ao a] at b;rw[ao (by omega),ao (by omega)];omega
def oY (tk:Nat->List TK) (q:TK->Bool):Nat:=((Bx 17).map λi=>(tk i).countP q).sum
theorem zy (tk:Nat->List TK) (q:TK->Bool) {v:Nat} (hv:v<17) (y:List TK):oY (lh tk v y) q+(tk v).countP q=oY tk q+y.countP q:=by
 have h:=Di (λi=>(tk i).countP q) v (y.countP q) 17;rw[aw hv,aw hv] at h;have e:(λi=>(lh tk v y i).countP q)=lh (λi=>(tk i).countP q) v (y.countP q):=by
  funext i;unfold lh;split<;>rfl
 unfold oY;rw[e];exact h
theorem zz {tk:Nat->List TK} {q:TK->Bool} (h:0<oY tk q): ∃i t,i<17/\t∈tk i/\q t=true:=by
 unfold oY at h;have: ∀l:List Nat,0<(l.map λi=>(tk i).countP q).sum-> ∃i t,i∈l/\t∈tk i/\q t=true:=by
  intro l
  induction l with
  |nil=>intro h;simp at h
  |cons i l b=>
   intro h;rw[DB,F2] at h;by_cases h1:0<(tk i).countP q
   ·obtain⟨t,a,c⟩:=Do.1 h1;exact⟨i,t,CL,a,c⟩
   ·obtain⟨j,t,d,a⟩:=b (by omega);exact⟨j,t,DD _ d,a⟩
 obtain⟨i,t,hi,a⟩:=this _ h;exact⟨i,t,E4.1 hi,a⟩
theorem B8 {tk:Nat->List TK} {q:TK->Bool} (h: ∀i t,t∈tk i->q t=false):oY tk q=0:=by
 rcases DA (oY tk q) with e|e
 ·exact e
 ·obtain⟨i,t, _,b,a⟩:=zz e;rw[h i t b] at a;cases a
theorem nX {tk:Nat->List TK} {q:TK->Bool} {i:Nat} {t:TK} (hi:i<17) (a:t∈tk i) (b:q t=true):0<oY tk q:=by
 have h:=zy tk q hi [];have c:0<(tk i).countP q:=Do.2 ⟨t,a,b⟩;simp only[List.countP_nil] at h;omega
def fo (tk:Nat->List TK) (f:Int):Nat:=oY tk λt=>t.2.2==f
def mV (tk:Nat->List TK) (a:Int):Nat:=oY tk λt=>t.2.1==a
abbrev IT:Type:=Nat->Int->Option Int
def nI (fr:IT) (v:Nat) (p:Int) (y:Option Int):IT:=λi q=>if i=v/\q=p then y else fr i q
theorem fR (fr:IT) (v:Nat) (p:Int) (y:Option Int):nI fr v p y v p=y:=aw ⟨rfl,rfl⟩
theorem bK {fr:IT} {v i:Nat} {p q:Int} (h: ¬ (i=v/\q=p)) (y:Option Int):nI fr v p y i q=fr i q:=ao h
def Uj (gr:List GT) (fr:IT) (tk:Nat->List TK) (a:Int) (i o:Nat) (f:Int):Prop:=
 ∃k x,l8 gr a=some k/\gr[k]? =some x/\x.1=(o:Int)/\x.2.2.1=(i:Int)/\fr o x.2.1=some f/\cd (tk o) x.2.1=none
structure HC (fr:IT) (tk:Nat->List TK) (ds:List DT) (gr:List GT):Prop where
 iY: ∀{i p f},fr i p=some f->1<=i/\i<=16/\0<=p/\p<65536
 kd: ∀{n:Nat} {d:DT},ds[n]? =some d->(d.1=0\/d.1=3\/d.1=4\/d.1=5)/\d.2.2.2.1=0/\0<=d.2.1/\d.2.1<=16
 TX: ∀{n:Nat} {d:DT},ds[n]? =some d->d.1=4-> ∃(i:Nat) (p:Int),(i:Int)=d.2.1/\fr i p=some (n:Int)/\cd (tk i) p=none
 own: ∀{i p f},fr i p=some f->cd (tk i) p=none-> ∃(n:Nat) (d:DT),(n:Int)=f/\ds[n]? =some d/\d.1=4/\d.2.1=(i:Int)
 Cw: ∀{i p a f},cd (tk i) p=some (a,f)->fr i p=some f/\ ∃o:Nat,o≠i/\Uj gr fr tk a i o f
 nd: ∀i,((tk i).map (·.1)).Nodup
 inj: ∀{i p p' f},fr i p=some f->fr i p'=some f->cd (tk i) p=none->cd (tk i) p'=none->p=p'
 refs: ∀{n:Nat} {d:DT},ds[n]? =some d->d.2.2.1=(fo tk (n:Int):Int)
 va: ∀{n:Nat} {x:GT},gr[n]? =some x->x.2.2.2.2.1=(mV tk (n:Int):Int)
 gl:gr.length=16
 gk:oh gr
theorem fC {gr:List GT} {a:Int} {k:Nat}:l8 gr a=some k<->(k:Int)=a/\k<gr.length/\gr.getD k zG≠zG:=by
 unfold l8;constructor
 ·intro h;split at h
  ·rename_i c;cases h;exact⟨by omega,by omega,c.2.2⟩
  ·cases h
 ·rintro⟨rfl,h1,b⟩;rw[aw ⟨by omega,by omega,b⟩];rfl
theorem getD_some {gr:List GT} {k:Nat} {x:GT} (h:gr[k]? =some x):gr.getD k zG=x:=by
 rw[Ax,h];rfl
namespace HC
variable {fr:IT} {tk:Nat->List TK} {ds:List DT} {gr:List GT}
theorem OP (H:HC fr tk ds gr) {i:Nat} {t:TK} (h:t∈tk i):cd (tk i) t.1=some t.2:=(jO (a:=t.2.1) (b:=t.2.2) (H.nd i)).2 h
theorem KS (H:HC fr tk ds gr) {i:Nat} {p a f:Int} (h:cd (tk i) p=some (a,f)):(p,a,f)∈tk i:=(jO (H.nd i)).1 h
theorem Zu (H:HC fr tk ds gr) {i:Nat} {p a f:Int} (h:cd (tk i) p=some (a,f)): ∃(n:Nat) (d:DT) (o:Nat),(n:Int)=f/\ds[n]? =some d/\d.1=4/\d.2.1=(o:Int)/\o≠i/\Uj gr fr tk a i o f:=by
 obtain⟨_,o,e,hg⟩:=H.Cw h;obtain⟨k,x,h1,g,j,l,b,c⟩:=hg;obtain⟨n,d,m,q,r,s⟩:=H.own b c;exact⟨n,d,o,m,q,r,s,e,k,x,h1,g,j,l,b,c⟩
theorem at4 (H:HC fr tk ds gr) {i:Nat} {p f:Int} (h:fr i p=some f): ∃(n:Nat) (d:DT),(n:Int)=f/\ds[n]? =some d/\d.1=4:=by
 cases b:cd (tk i) p with
 |none=>
  obtain⟨n,d,h1,c,e, _⟩:=H.own h b;exact⟨n,d,h1,c,e⟩
 |some y=>
  obtain⟨a,f'⟩:=y;obtain⟨n,d,o,h1,c,e, _⟩:=H.Zu b;have:=(H.Cw b).1;rw[h] at this;cases this;exact⟨n,d,h1,c,e⟩
theorem Jd (H:HC fr tk ds gr) {n:Nat} (h:0<fo tk (n:Int)): ∃d,ds[n]? =some d/\d.1=4:=by
 obtain⟨i,t, _,a,b⟩:=zz h;obtain⟨m,d,o,h1,c,f, _⟩:=H.Zu (H.OP a);have g:t.2.2=(n:Int):=by simpa using b
 have e:m=n:=Bf (h1.trans g);subst e;exact⟨d,c,f⟩
theorem He (H:HC fr tk ds gr) {g:List DT} (k: ∀{n:Nat} {d:DT},ds[n]? =some d->d.1=4->g[n]? =some d) (j: ∀{n:Nat} {d:DT},g[n]? =some d->ds[n]? =some d\/((d.1=0\/d.1=3\/d.1=5)/\d.2.2=(0,0,())/\0<=d.2.1/\d.2.1<=16)):HC fr tk g gr:=by
 have l: ∀{n:Nat} {d:DT},g[n]? =some d->(d.1=0\/d.1=3\/d.1=5)->fo tk (n:Int)=0:=λ{n d} h a=>by
  rcases DA (fo tk (n:Int)) with e|e
  ·exact e
  ·obtain⟨d',b,c⟩:=H.Jd e;have:=k b c;rw[h] at this;cases this;omega
 refine⟨H.iY,λ{n d} h=>?_,λ{n d} h c=>?_,λ{i p f} h m=>?_,H.Cw,H.nd,H.inj,λ{n d} h=>?_,H.va,H.gl,H.gk⟩
 ·rcases j h with h1|⟨h1,a,b⟩
  ·exact H.kd h1
  ·exact⟨by omega,by rw[a],b⟩
 ·rcases j h with h1|⟨h1,a⟩
  ·exact H.TX h1 c
  ·omega
 ·obtain⟨n,d,h1,a,b,c⟩:=H.own h m;exact⟨n,d,h1,k a b,b,c⟩
 ·rcases j h with h1|⟨h1,a, _⟩
  ·exact H.refs h1
  ·rw[l h h1,a];rfl
theorem P6 (H:HC fr tk ds gr) {Ap:List GT} (d:Ap.length=gr.length) (j:oh Ap) (l: ∀{n:Nat} {x y:GT},gr[n]? =some x->Ap[n]? =some y->y.2.2.2.2.1=x.2.2.2.2.1) (hs: ∀{n:Nat} {x:GT},gr[n]? =some x->x.2.2.2.2.1>0->Ap[n]? =some x):HC fr tk ds Ap:=by
 refine⟨H.iY,H.kd,H.TX,H.own,λ{i p a f} h=>?_,H.nd,H.inj,H.refs,λ{n y} h=>?_,d.trans H.gl,j⟩
 ·obtain⟨h1,o,m,k,x,e,b,r⟩:=H.Cw h;refine⟨h1,o,m,k,x,?_,?_,r⟩
  ·obtain⟨c,v,g⟩:=fC.1 e;refine fC.2 ⟨c,by omega,?_⟩;have s:x.2.2.2.2.1>0:=by
    rw[H.va b];have:=nX (q:=λt=>t.2.1==(k:Int)) (by have:=H.iY h1;omega:i<17) (H.KS h) (by simp[c]);unfold mV;omega
   rw[getD_some (hs b s)];rw[getD_some b] at g;exact g
  ·refine hs b ?_;obtain⟨c, _⟩:=fC.1 e;rw[H.va b];have:=nX (q:=λt=>t.2.1==(k:Int)) (by have:=H.iY h1;omega:i<17) (H.KS h) (by simp[c]);unfold mV;omega
 ·have u:n<gr.length:=by rw[<-d];exact(AL.1 h).1
  have hx:gr[n]? =some gr[n]:=B5 u;rw[l hx h];exact H.va hx
end HC
set_option maxRecDepth 100000
open Go.RX D
theorem ni (t:TK) (l:List TK) (p:Int):cd (t::l) p=if t.1=p then some t.2 else cd l p:=by
 unfold cd;rw[List.find?_cons];by_cases e:t.1=p
 ·rw[aw e,show(t.1==p)=true by simpa using e];rfl
 ·rw[ao e,show(t.1==p)=false by simpa using e]
theorem Nr {l l':List TK} (h:l.Perm l') (nd:(l.map (·.1)).Nodup) (p:Int):cd l p=cd l' p:=by
 have c:(l'.map (·.1)).Nodup:=(h.map _).nodup_iff.1 nd;cases h1:cd l p with
 |some x=>
  have:=(jO (a:=x.1) (b:=x.2) nd).1 h1;exact((jO (a:=x.1) (b:=x.2) c).2 (h.mem_iff.1 this)).symm
 |none=>
  symm;rw[qv] at h1 ⊢;exact λt d=>h1 t (h.mem_iff.2 d)
theorem P7 {t:TK} {l:List TK} (a:cd l t.1=none) (nd:(l.map (·.1)).Nodup):((nG t l).map (·.1)).Nodup:=by
 refine((ng t l).map _).nodup_iff.2 (CK.2 ⟨λb=>?_,nd⟩);obtain⟨x,hx,e⟩:=Ay.1 b;exact qv.1 a x hx e
theorem SZ {t:TK} {l:List TK} (a:cd l t.1=none) (nd:(l.map (·.1)).Nodup) (p:Int):cd (nG t l) p=if t.1=p then some t.2 else cd l p:=by
 rw[Nr (ng t l) (P7 a nd),ni]
theorem Ns (l:List TK) (b p:Int):cd (l.filter λt=> !(t.1==b)) p=if p=b then none else cd l p:=by
 induction l with
 |nil=>unfold cd;simp
 |cons t l c=>
  rw[GG];by_cases e:t.1=b
  ·rw[ao (by simp[e]),c,ni];by_cases a:p=b
   ·rw[aw a,aw a]
   ·rw[ao a,ao a,ao (λh=>a (h.symm.trans e))]
  ·rw[aw (by simpa using e),ni,ni,c];by_cases a:t.1=p
   ·rw[aw a,aw a,ao (λh=>e (a.trans h))]
   ·rw[ao a,ao a]
theorem B9 {l:List TK} {b:Int} {x:Int×Int} (nd:(l.map (·.1)).Nodup) (h:cd l b=some x):l.Perm ((b,x)::l.filter λt=> !(t.1==b)):=by
 induction l with
 |nil=>unfold cd at h;simp at h
 |cons t l a=>
  rw[DB,CK] at nd;rw[ni] at h;rw[GG];by_cases e:t.1=b
  ·rw[aw e] at h;cases h;rw[ao (by simp[e])];have c:l.filter (λt=> !(t.1==b))=l:=GH.2 λu d=>by
    have:u.1≠b:=λf=>nd.1 (Ay.2 ⟨u,d,f.trans e.symm⟩);simpa using this
   rw[c, <-e]
  ·rw[ao e] at h;rw[aw (by simpa using e)];exact((a nd.2 h).cons t).trans (.swap _ _ _)
theorem Wv (q:TK->Bool) (t:TK) (l:List TK):(nG t l).countP q=l.countP q+(if q t=true then 1 else 0):=by
 rw[(ng t l).countP_eq,E5]
theorem S3 {l:List TK} {b:Int} {x:Int×Int} (nd:(l.map (·.1)).Nodup) (h:cd l b=some x) (q:TK->Bool):l.countP q=(l.filter λt=> !(t.1==b)).countP q+(if q (b,x)=true then 1 else 0):=by
 rw[(B9 nd h).countP_eq,E5]
theorem Ww {l:List TK} (b:Int) (nd:(l.map (·.1)).Nodup):((l.filter λt=> !(t.1==b)).map (·.1)).Nodup:=(DI.map _).nodup nd
theorem Dj {gr:List GT} {k j:Nat} {x y:GT} {a:Int} (hx:gr[k]? =some x) (c:y≠zG) (h:l8 gr a=some j):l8 (gr.set k y) a=some j:=by
 obtain⟨h1,b,d⟩:=fC.1 h;refine fC.2 ⟨h1,by rw[AY];exact b,?_⟩;rw[Ax];by_cases e:k=j
 ·subst e;rw[AM b];exact c
 ·rw[AC e, <-Ax];exact d
theorem ye {gr:List GT} (a:oh gr) {k:Nat} {x:GT} (hx:gr[k]? =some x) (b:x≠zG) (n:Int):fT x n≠zG:=λe=>by
 rcases(a x (B2 hx)).1 with h|⟨h, _⟩
 ·exact b h
 ·have:(fT x n).1=zG.1:=congrArg (·.1) e;have:x.1=0:=this;omega
namespace HC
variable {fr:IT} {tk:Nat->List TK} {ds:List DT} {gr:List GT}
theorem Zv (H:HC fr tk ds gr) {i:Nat} {p:Int} (h:fr i p=none):cd (tk i) p=none:=by
 cases b:cd (tk i) p with
 |none=>rfl
 |some y=>
  have:=(H.Cw (a:=y.1) (f:=y.2) b).1;rw[h] at this;cases this
theorem Hf (H:HC fr tk ds gr) {v n:Nat} {a:Int} {d0:DT} (hv:1<=v/\v<=16) (A:0<=a/\a<65536) (u:ds[n]? =some d0) (h0:d0.1=0) (w:fr v a=none):
 HC (nI fr v a (some (n:Int))) tk (ds.set n (4,(v:Int),0,0,())) gr:=by
 have q:n<ds.length:=(AL.1 u).1;have r: ∀{d},ds[n]? =some d->d.1=4->False:=λ{d} h l=>by rw[u] at h;cases h;omega
 have B:fo tk (n:Int)=0:=by
  rcases DA (fo tk (n:Int)) with e|e
  ·exact e
  ·obtain⟨d,h1,g⟩:=H.Jd e;exact(r h1 g).elim
 have s: ∀{i p f},fr i p=some f-> ¬ (i=v/\p=a):=λ{i p f} h e=>by rw[e.1,e.2,w] at h;cases h
 have y: ∀{i p},fr i p=some (n:Int)->False:=λ{i p} h=>by
  obtain⟨m,d,h1,g,j⟩:=H.at4 h;have:m=n:=Bf h1;subst this;exact r g j
 refine⟨λ{i p f} h=>?_,λ{m d} h=>?_,λ{m d} h l=>?_,λ{i p f} h t=>?_,λ{i p b f} h=>?_,H.nd,λ{i p p' f} h h' t C=>?_,λ{m d} h=>?_,H.va,H.gl,H.gk⟩
 ·by_cases e:i=v/\p=a
  ·obtain⟨rfl,rfl⟩:=e;exact⟨hv.1,hv.2,A⟩
  ·rw[bK e] at h;exact H.iY h
 ·by_cases e:n=m
  ·subst e;rw[AM q] at h;cases h;exact⟨.inr (.inr (.inl rfl)),rfl,by show 0<=(v:Int);omega,by show(v:Int)<=16;omega⟩
  ·rw[AC e] at h;exact H.kd h
 ·by_cases e:n=m
  ·subst e;rw[AM q] at h;cases h;exact⟨v,a,rfl,fR _ _ _ _,H.Zv w⟩
  ·rw[AC e] at h;obtain⟨i,p,h1,g,j⟩:=H.TX h l;exact⟨i,p,h1,by rw[bK (s g)];exact g,j⟩
 ·by_cases e:i=v/\p=a
  ·obtain⟨rfl,rfl⟩:=e;rw[fR] at h;cases h;exact⟨n, _,rfl,AM q,rfl,rfl⟩
  ·rw[bK e] at h;obtain⟨m,d,h1,g,j,l⟩:=H.own h t;refine⟨m,d,h1,?_,j,l⟩;rw[AC (λe=>by subst e;exact r g j)];exact g
 ·obtain⟨h1,o,g,k,x,j,l,D,E,z,F⟩:=H.Cw h;exact⟨by rw[bK (s h1)];exact h1,o,g,k,x,j,l,D,E,by rw[bK (s z)];exact z,F⟩
 ·by_cases e:i=v/\p=a
  ·obtain⟨rfl,rfl⟩:=e;rw[fR] at h;cases h;by_cases e':p'=p
   ·exact e'.symm
   ·rw[bK (λc=>e' c.2)] at h';exact(y h').elim
  ·rw[bK e] at h;by_cases e':i=v/\p'=a
   ·obtain⟨rfl,rfl⟩:=e';rw[fR] at h';cases h';exact(y h).elim
   ·rw[bK e'] at h';exact H.inj h h' t C
 ·by_cases e:n=m
  ·subst e;rw[AM q] at h;cases h;rw[B];rfl
  ·rw[AC e] at h;exact H.refs h
theorem Dk (H:HC fr tk ds gr) {v n:Nat} {a o:Int} (E:0<=o/\o<=16) (s:fr v a=some (n:Int)) (w:cd (tk v) a=none) (B:fo tk (n:Int)=0):
 HC (nI fr v a none) tk (ds.set n (5,o,0,0,())) gr:=by
 obtain⟨j,d0,y,C,M,F⟩:=H.own s w;have y:j=n:=Bf y;subst y;have z:j<ds.length:=(AL.1 C).1;have G: ∀{i p b f},cd (tk i) p=some (b,f)->f≠(j:Int):=λ{i p b f} h e=>by
  have N:=H.iY (H.Cw h).1;have:=nX (q:=λt=>t.2.2==(j:Int)) (by omega:i<17) (H.KS h) (by simp[e]);unfold fo at B;omega
 refine⟨λ{i p f} h=>?_,λ{m d} h=>?_,λ{m d} h k4=>?_,λ{i p f} h u=>?_,λ{i p b f} h=>?_,H.nd,λ{i p p' f} h h' u I=>?_,λ{m d} h=>?_,H.va,H.gl,H.gk⟩
 ·by_cases e:i=v/\p=a
  ·obtain⟨rfl,rfl⟩:=e;rw[fR] at h;cases h
  ·rw[bK e] at h;exact H.iY h
 ·by_cases e:j=m
  ·subst e;rw[AM z] at h;cases h;exact⟨.inr (.inr (.inr rfl)),rfl,E⟩
  ·rw[AC e] at h;exact H.kd h
 ·by_cases e:j=m
  ·subst e;rw[AM z] at h;cases h;exact absurd k4 (show ¬ (5:Int)=4 by decide)
  ·rw[AC e] at h;obtain⟨i,p,h1,g,l⟩:=H.TX h k4;refine⟨i,p,h1,?_,l⟩;rw[bK (λc=>?_)]
   ·exact g
   ·rw[c.1,c.2,s] at g;cases g;exact e rfl
 ·by_cases e:i=v/\p=a
  ·obtain⟨rfl,rfl⟩:=e;rw[fR] at h;cases h
  ·rw[bK e] at h;obtain⟨m,d,h1,g,l,r⟩:=H.own h u;refine⟨m,d,h1,?_,l,r⟩;by_cases D:j=m
   ·subst D;rw[C] at g;cases g;rw[F] at r;have ev:v=i:=Bf r;subst ev;rw[<-h1] at h;exact absurd ⟨rfl,H.inj h s u w⟩ e
   ·rw[AC D];exact g
 ·obtain⟨h1,o',g,k,x,l,r,J,K,A,L⟩:=H.Cw h;refine⟨?_,o',g,k,x,l,r,J,K,?_,L⟩
  ·rw[bK (λc=>?_)]
   ·exact h1
   ·rw[c.1,c.2,w] at h;cases h
  ·rw[bK (λc=>?_)]
   ·exact A
   ·rw[c.1,c.2,s] at A;cases A;exact G h rfl
 ·by_cases e:i=v/\p=a
  ·obtain⟨rfl,rfl⟩:=e;rw[fR] at h;cases h
  ·rw[bK e] at h;by_cases e':i=v/\p'=a
   ·obtain⟨rfl,rfl⟩:=e';rw[fR] at h';cases h'
   ·rw[bK e'] at h';exact H.inj h h' u I
 ·by_cases e:j=m
  ·subst e;rw[AM z] at h;cases h;rw[B];rfl
  ·rw[AC e] at h;exact H.refs h
end HC
set_option maxRecDepth 100000
open Go.RX D
namespace HC
variable {fr:IT} {tk:Nat->List TK} {ds:List DT} {gr:List GT}
theorem take (H:HC fr tk ds gr) {v o n k:Nat} {b:Int} {x:GT} {d0:DT} (hb:0<=b/\b<65536) (J:fr v b=none) (R:ds[n]? =some d0) (hx:gr[k]? =some x) (B:x≠zG) (K:x.1=(o:Int)) (L:x.2.2.1=(v:Int)) (S:fr o x.2.1=some (n:Int)) (T:cd (tk o) x.2.1=none)
 (U:oh (gr.set k (fT x 1))):
 HC (nI fr v b (some (n:Int))) (lh tk v (nG (b,(k:Int),(n:Int)) (tk v))) (ds.set n (d0.1,d0.2.1,d0.2.2.1+1,d0.2.2.2.1,())) (gr.set k (fT x 1)):=by
 have Y:n<ds.length:=(AL.1 R).1;have C:k<gr.length:=(AL.1 hx).1;obtain⟨M,Z,E⟩:(1<=v/\v<=16)/\(1<=o/\o<=16)/\o≠v:=by
  rcases(H.gk x (B2 hx)).1 with h|⟨h1,l,g, _⟩
  ·exact absurd h B
  ·rw[K] at h1 g;rw[L] at l g;exact⟨by omega,by omega,λe=>g (by rw[e])⟩
 have z: ∀{i p f},fr i p=some f-> ¬ (i=v/\p=b):=λ{i p f} h e=>by rw[e.1,e.2,J] at h;cases h
 have N:cd (tk v) b=none:=H.Zv J;have r: ∀i p,cd (lh tk v (nG (b,(k:Int),(n:Int)) (tk v)) i) p=if i=v/\p=b then some ((k:Int),(n:Int)) else cd (tk i) p:=λi p=>by
  by_cases e:i=v
  ·subst e;rw[kU,SZ N (H.nd _)];by_cases u:p=b
   ·rw[aw u.symm,aw ⟨rfl,u⟩]
   ·rw[ao (λh=>u h.symm),ao (λh=>u h.2)]
  ·rw[nW e,ao (λh=>e h.1)]
 have V: ∀{m:Nat} {d:DT},ds[m]? =some d-> ∃d':DT,(ds.set n (d0.1,d0.2.1,d0.2.2.1+1,d0.2.2.2.1,()))[m]? =some d'/\d'.1=d.1/\d'.2.1=d.2.1:=λ{m d} h=>by
  grind
 have F: ∀{m:Nat} {d':DT},(ds.set n (d0.1,d0.2.1,d0.2.2.1+1,d0.2.2.2.1,()))[m]? =some d'-> ∃d:DT,ds[m]? =some d/\d'.1=d.1/\d'.2.1=d.2.1/\d'.2.2.2.1=d.2.2.2.1/\d'.2.2.1=d.2.2.1+(if m=n then 1 else 0):=λ{m d'} h=>by
  grind
 have W: ∀{a:Int} {i o':Nat} {f:Int},Uj gr fr tk a i o' f->Uj (gr.set k (fT x 1)) (nI fr v b (some (n:Int))) (lh tk v (nG (b,(k:Int),(n:Int)) (tk v))) a i o' f:=by
  rintro a i o' f ⟨j,y,h1,l,g,w,s,X⟩;have O:=Dj hx (ye H.gk hx B 1) h1;have P:cd (lh tk v (nG (b,(k:Int),(n:Int)) (tk v)) o') y.2.1=none:=by
   rw[r,ao (z s)];exact X
  by_cases e:k=j
  ·subst e;rw[hx] at l;cases l;exact⟨k,fT x 1,O,AM C,g,w,by show nI fr v b _ o' x.2.1= _;rw[bK (z s)];exact s,P⟩
  ·exact⟨j,y,O,by rw[AC e];exact l,g,w,by rw[bK (z s)];exact s,P⟩
 have Q: ∀q:TK->Bool,oY (lh tk v (nG (b,(k:Int),(n:Int)) (tk v))) q=oY tk q+(if q (b,(k:Int),(n:Int))=true then 1 else 0):=λq=>by
  have h1:=zy tk q (by omega:v<17) (nG (b,(k:Int),(n:Int)) (tk v));rw[Wv] at h1;omega
 refine⟨λ{i p f} h=>?_,λ{m d} h=>?_,λ{m d} h w=>?_,λ{i p f} h t=>?_,λ{i p c f} h=>?_,λi=>?_,λ{i p p' f} h h' t D=>?_,λ{m d} h=>?_,λ{m y} h=>?_,by rw[AY];exact H.gl,U⟩
 ·by_cases e:i=v/\p=b
  ·obtain⟨rfl,rfl⟩:=e;exact⟨M.1,M.2,hb⟩
  ·rw[bK e] at h;exact H.iY h
 ·obtain⟨d',h1,l,g,s, _⟩:=F h;rw[l,s,g];exact H.kd h1
 ·obtain⟨d',h1,l,g, _⟩:=F h;obtain⟨i,p,G,A,I⟩:=H.TX h1 (by rw[<-l];exact w);exact⟨i,p,by rw[g];exact G,by rw[bK (z A)];exact A,by rw[r,ao (z A)];exact I⟩
 ·by_cases e:i=v/\p=b
  ·rw[r,aw e] at t;cases t
  ·rw[bK e] at h;rw[r,ao e] at t;obtain⟨m,d,h1,l,g,w⟩:=H.own h t;obtain⟨d',G,A,I⟩:=V l;exact⟨m,d',h1,G,by rw[A];exact g,by rw[I];exact w⟩
 ·rw[r] at h;by_cases e:i=v/\p=b
  ·rw[aw e] at h;cases h;obtain⟨rfl,rfl⟩:=e;refine⟨fR _ _ _ _,o,E,k,fT x 1,?_,AM C,K,L,?_,?_⟩
   ·exact Dj hx (ye H.gk hx B 1) (fC.2 ⟨rfl,C,by rw[getD_some hx];exact B⟩)
   ·show nI fr i p _ o x.2.1= _;rw[bK (λc=>E c.1)];exact S
   ·show cd (lh tk i _ o) x.2.1=none;rw[nW E];exact T
  ·rw[ao e] at h;obtain⟨h1,o',l,g⟩:=H.Cw h;exact⟨by rw[bK e];exact h1,o',l,W g⟩
 ·by_cases e:i=v
  ·subst e;rw[kU];exact P7 N (H.nd _)
  ·rw[nW e];exact H.nd i
 ·have e: ¬ (i=v/\p=b):=λc=>by rw[r,aw c] at t;cases t
  have e': ¬ (i=v/\p'=b):=λc=>by rw[r,aw c] at D;cases D
  rw[r,ao e] at t;rw[r,ao e'] at D;rw[bK e] at h;rw[bK e'] at h';exact H.inj h h' t D
 ·obtain⟨d',h1, _, _, _,s⟩:=F h;rw[s,H.refs h1];unfold fo;rw[Q]
  grind
 ·have u:mV (lh tk v (nG (b,(k:Int),(n:Int)) (tk v))) (m:Int)=mV tk (m:Int)+(if k=m then 1 else 0):=by
   unfold mV;rw[Q]
   grind
  rw[u];by_cases e:k=m
  ·subst e;rw[AM C] at h;cases h;rw[aw rfl];have:=H.va hx;show x.2.2.2.2.1+1= _;omega
  ·rw[AC e] at h;rw[ao e];have:=H.va h;omega
theorem GM (H:HC fr tk ds gr) {v n k:Nat} {b:Int} {x:GT} {d0:DT} (C:cd (tk v) b=some ((k:Int),(n:Int))) (D:ds[n]? =some d0) (hx:gr[k]? =some x) (O:x≠zG)
 (P:oh (gr.set k (fT x (-1)))):
 HC (nI fr v b none) (lh tk v ((tk v).filter λt=> !(t.1==b))) (ds.set n (d0.1,d0.2.1,d0.2.2.1 - 1,d0.2.2.2.1,())) (gr.set k (fT x (-1))):=by
 have I:n<ds.length:=(AL.1 D).1;have J:k<gr.length:=(AL.1 hx).1;have S:=H.iY (H.Cw C).1;have r: ∀i p,cd (lh tk v ((tk v).filter λt=> !(t.1==b)) i) p=if i=v/\p=b then none else cd (tk i) p:=λi p=>by
  by_cases e:i=v
  ·subst e;rw[kU,Ns];by_cases o:p=b
   ·rw[aw o,aw ⟨rfl,o⟩]
   ·rw[ao o,ao (λh=>o h.2)]
  ·rw[nW e,ao (λh=>e h.1)]
 have w: ∀{i p},cd (tk i) p=none-> ¬ (i=v/\p=b):=λ{i p} h e=>by rw[e.1,e.2,C] at h;cases h
 have Q: ∀{m:Nat} {d:DT},ds[m]? =some d-> ∃d':DT,(ds.set n (d0.1,d0.2.1,d0.2.2.1 - 1,d0.2.2.2.1,()))[m]? =some d'/\d'.1=d.1/\d'.2.1=d.2.1:=λ{m d} h=>by
  by_cases e:n=m
  ·subst e;rw[D] at h;cases h;exact⟨_,AM I,rfl,rfl⟩
  ·exact⟨d,by rw[AC e];exact h,rfl,rfl⟩
 have E: ∀{m:Nat} {d':DT},(ds.set n (d0.1,d0.2.1,d0.2.2.1 - 1,d0.2.2.2.1,()))[m]? =some d'-> ∃d:DT,ds[m]? =some d/\d'.1=d.1/\d'.2.1=d.2.1/\d'.2.2.2.1=d.2.2.2.1/\d'.2.2.1=d.2.2.1 - (if m=n then 1 else 0):=λ{m d'} h=>by
  by_cases e:n=m
  ·subst e;rw[AM I] at h;cases h;exact⟨d0,D,rfl,rfl,rfl,by rw[aw rfl]⟩
  ·rw[AC e] at h;exact⟨d',h,rfl,rfl,rfl,by rw[ao (λc=>e c.symm)];omega⟩
 have R: ∀{a:Int} {i o':Nat} {f:Int},Uj gr fr tk a i o' f->Uj (gr.set k (fT x (-1))) (nI fr v b none) (lh tk v ((tk v).filter λt=> !(t.1==b))) a i o' f:=by
  rintro a i o' f ⟨j,y,h1,g,l,s,u,B⟩;have K:=Dj hx (ye H.gk hx O (-1)) h1;have L:cd (lh tk v ((tk v).filter λt=> !(t.1==b)) o') y.2.1=none:=by
   rw[r,ao (w B)];exact B
  by_cases e:k=j
  ·subst e;rw[hx] at g;cases g;exact⟨k,fT x (-1),K,AM J,l,s,by show nI fr v b _ o' x.2.1= _;rw[bK (w B)];exact u,L⟩
  ·exact⟨j,y,K,by rw[AC e];exact g,l,s,by rw[bK (w B)];exact u,L⟩
 have M: ∀q:TK->Bool,oY (lh tk v ((tk v).filter λt=> !(t.1==b))) q+(if q (b,(k:Int),(n:Int))=true then 1 else 0)=oY tk q:=λq=>by
  have h1:=zy tk q (by omega:v<17) ((tk v).filter λt=> !(t.1==b));have g:=S3 (H.nd v) C q;omega
 refine⟨λ{i p f} h=>?_,λ{m d} h=>?_,λ{m d} h s=>?_,λ{i p f} h z=>?_,λ{i p c f} h=>?_,λi=>?_,λ{i p p' f} h h' z N=>?_,λ{m d} h=>?_,λ{m y} h=>?_,by rw[AY];exact H.gl,P⟩
 ·by_cases e:i=v/\p=b
  ·rw[show nI fr v b none i p=none from aw e] at h;cases h
  ·rw[bK e] at h;exact H.iY h
 ·obtain⟨d',h1,g,l,u, _⟩:=E h;rw[g,u,l];exact H.kd h1
 ·obtain⟨d',h1,g,l, _⟩:=E h;obtain⟨i,p,F,G,A⟩:=H.TX h1 (by rw[<-g];exact s);exact⟨i,p,by rw[l];exact F,by rw[bK (w A)];exact G,by rw[r,ao (w A)];exact A⟩
 ·by_cases e:i=v/\p=b
  ·rw[show nI fr v b none i p=none from aw e] at h;cases h
  ·rw[bK e] at h;rw[r,ao e] at z;obtain⟨m,d,h1,g,l,s⟩:=H.own h z;obtain⟨d',F,G,A⟩:=Q g;exact⟨m,d',h1,F,by rw[G];exact l,by rw[A];exact s⟩
 ·rw[r] at h;by_cases e:i=v/\p=b
  ·rw[aw e] at h;cases h
  ·rw[ao e] at h;obtain⟨h1,o',g,l⟩:=H.Cw h;exact⟨by rw[bK e];exact h1,o',g,R l⟩
 ·by_cases e:i=v
  ·subst e;rw[kU];exact Ww _ (H.nd _)
  ·rw[nW e];exact H.nd i
 ·have e: ¬ (i=v/\p=b):=λc=>by rw[show nI fr v b none i p=none from aw c] at h;cases h
  have e': ¬ (i=v/\p'=b):=λc=>by rw[show nI fr v b none i p'=none from aw c] at h';cases h'
  rw[r,ao e] at z;rw[r,ao e'] at N;rw[bK e] at h;rw[bK e'] at h';exact H.inj h h' z N
 ·obtain⟨d',h1, _, _, _,u⟩:=E h;have:=M λt=>t.2.2==(m:Int);rw[u,H.refs h1];unfold fo;dsimp only at this;by_cases e:m=n
  ·subst e;rw[aw (by simp)] at this;rw[aw rfl];omega
  ·rw[ao (by simp;omega)] at this;rw[ao e];omega
 ·have o:mV (lh tk v ((tk v).filter λt=> !(t.1==b))) (m:Int)+(if k=m then 1 else 0)=mV tk (m:Int):=by
   have:=M λt=>t.2.1==(m:Int);dsimp only at this;unfold mV
   grind
  by_cases e:k=m
  ·subst e;rw[AM J] at h;cases h;rw[aw rfl] at o;have:=H.va hx;show x.2.2.2.2.1+ -1= _;omega
  ·rw[AC e] at h;rw[ao e] at o;have:=H.va h;omega
theorem gone (H:HC fr tk ds gr) {v:Nat} {w:List DT} (hv:1<=v/\v<=16) (O:tk v=[]) (I: ∀{n:Nat} {d:DT},ds[n]? =some d->d.1=4->d.2.1=(v:Int)->d.2.2.1=0)
 (J: ∀{n:Nat} {d:DT},ds[n]? =some d->d.1=4->d.2.1≠(v:Int)->w[n]? =some d)
 (B: ∀{n:Nat} {d:DT},w[n]? =some d->(ds[n]? =some d/\ ¬ (d.1=4/\d.2.1=(v:Int)))\/((d.1=0\/d.1=3\/d.1=5)/\d.2.2=(0,0,())/\0<=d.2.1/\d.2.1<=16))
 (P:oh (cR gr (v:Int))):
 HC (λi p=>if i=v then none else fr i p) tk w (cR gr (v:Int)):=by
 have C: ∀{i p b f},cd (tk i) p=some (b,f)->i≠v:=λ{i p b f} h e=>by
  subst e;rw[O] at h;unfold cd at h;simp at h
 have K: ∀{a:Int} {i o:Nat} {f p:Int},cd (tk i) p=some (a,f)->Uj gr fr tk a i o f->o≠v:=by
  rintro a i o f p l ⟨k,x,h1,g,j,r,L,D⟩ e;subst e;obtain⟨n,d,Q,M,R,S⟩:=H.own L D;have h0:=I M R S;have E:=H.iY (H.Cw l).1;have:=nX (q:=λt=>t.2.2==(n:Int)) (by omega:i<17) (H.KS l) (by simp[Q]);have h1:=H.refs M;unfold fo at h1;omega
 have T: ∀{a:Int} {i o:Nat} {f p:Int},cd (tk i) p=some (a,f)->Uj gr fr tk a i o f->Uj (cR gr (v:Int)) (λi p=>if i=v then none else fr i p) tk a i o f:=by
  intro a i o f p l hg;have U:=K l hg;have V:=C l;obtain⟨k,x,h1,g,j,r,L,D⟩:=hg;have Z:oV (v:Int) x=false:=by
   unfold oV;rw[j,r]
   grind
  have E:(cR gr (v:Int))[k]? =some x:=by
   unfold cR
   grind
  obtain⟨s,u,z⟩:=fC.1 h1;refine⟨k,x,fC.2 ⟨s,by unfold cR;rw[DO];exact u,?_⟩,E,j,r,?_,D⟩
  ·rw[getD_some E];rw[getD_some g] at z;exact z
  grind
 have W: ∀{n:Nat} {d:DT},w[n]? =some d->(d.1=0\/d.1=3\/d.1=5)->d.2.2=(0,0,())->fo tk (n:Int)=0:=λ{n d} h g j=>by
  rcases DA (fo tk (n:Int)) with e|e
  ·exact e
  ·obtain⟨d',s,u⟩:=H.Jd e;by_cases N:d'.2.1=(v:Int)
   ·have:=H.refs s;have:=I s u N;omega
   ·have:=J s u N;rw[h] at this;cases this;omega
 refine⟨λ{i p f} h=>?_,λ{m d} h=>?_,λ{m d} h r=>?_,λ{i p f} h l=>?_,λ{i p c f} h=>?_,H.nd,λ{i p p' f} h h' l X=>?_,λ{m d} h=>?_,λ{m y} h=>?_,by unfold cR;rw[DO];exact H.gl,P⟩
 ·by_cases e:i=v
  ·rw[aw e] at h;cases h
  ·rw[ao e] at h;exact H.iY h
 ·rcases B h with ⟨h1, _⟩|⟨h1,g,j⟩
  ·exact H.kd h1
  ·exact⟨by omega,by rw[g],j⟩
 ·rcases B h with ⟨h1,g⟩|⟨h1, _⟩
  ·obtain⟨i,p,s,u,z⟩:=H.TX h1 r;exact⟨i,p,s,by rw[ao (λe=>g ⟨r,by rw[<-s,e]⟩)];exact u,z⟩
  ·omega
 ·by_cases e:i=v
  ·rw[aw e] at h;cases h
  ·rw[ao e] at h;obtain⟨m,d,h1,g,j,r⟩:=H.own h l;exact⟨m,d,h1,J g j (λc=>e (Bf (r.symm.trans c))),j,r⟩
 ·obtain⟨h1,o,g,j⟩:=H.Cw h;exact⟨by rw[ao (C h)];exact h1,o,g,T h j⟩
 ·by_cases e:i=v
  ·rw[aw e] at h;cases h
  ·rw[ao e] at h h';exact H.inj h h' l X
 ·rcases B h with ⟨h1, _⟩|⟨h1,g, _⟩
  ·exact H.refs h1
  ·rw[W h h1 g,g];rfl
 ·unfold cR at h;rw[F4] at h;obtain⟨x,hx,A⟩:=Option.map_eq_some_iff.1 h;by_cases e:oV (v:Int) x=true
  ·rw[aw e] at A;subst A;have:mV tk (m:Int)=0:=by
    refine B8 λi t l=>?_;cases F:t.2.1==(m:Int) with
    |false=>rfl
    |true=>
     have F:t.2.1=(m:Int):=by simpa using F
     have G:=H.OP l;obtain⟨_,o, _,hg⟩:=H.Cw (a:=t.2.1) (f:=t.2.2) G;have U:=K (a:=t.2.1) (f:=t.2.2) G hg;have V:=C (b:=t.2.1) (f:=t.2.2) G;obtain⟨k,x',h1,g,j,r, _⟩:=hg;obtain⟨s, _⟩:=fC.1 h1;have Y:k=m:=Bf (s.trans F);subst Y;rw[hx] at g;cases g;unfold oV at e;rw[j,r] at e
     grind
   rw[this];rfl
  ·rw[ao e] at A;subst A;exact H.va hx
end HC
set_option maxRecDepth 100000
open Go.RX D
def lY (h:HS):IT:=λi p=>match h.g i with
 |some x=>if(bD h.s x.root false p).2.2.1=0 then some (bD h.s x.root false p).1 else none
 |none=>none
def mK (h:HS) (i:Nat):List TK:=match h.g i with
 |some x=>x.tk
 |none=>[]
def gT (h:HS) (i:Nat) (p:Int):Int×Int×Int×Unit:=match h.g i with
 |some x=>bD h.s x.root false p
 |none=>(0,0,4,())
theorem bP {h:HS} {i:Nat} {x:GV} (hx:h.g i=some x) (p:Int):gT h i p=bD h.s x.root false p:=by grind[gT]
theorem fM {h:HS} {i:Nat} (hx:h.g i=none) (p:Int):gT h i p=(0,0,4,()):=by grind[gT]
theorem eo (h:HS) (i:Nat) (p:Int):lY h i p=if(gT h i p).2.2.1=0 then some (gT h i p).1 else none:=by grind[lY,gT]
structure AA (h h':HS) (P:Nat->Int->Prop):Prop where
 to: ∀{i:Nat} {q:Int},¬ P i q->gT h' i q=gT h i q
theorem AA.refl (h:HS) (P:Nat->Int->Prop):AA h h P:=⟨λ_=>rfl⟩
theorem AA.of {h h':HS} (hs:h'.s=h.s) (hg:h'.g=h.g) (P:Nat->Int->Prop):AA h h' P:=⟨by grind[gT]⟩
theorem AA.trans {h1 c d:HS} {P:Nat->Int->Prop} (a:AA h1 c P) (b:AA c d P):AA h1 d P:=⟨λe=>(b.to e).trans (a.to e)⟩
structure KD (s s':WD):Prop where
 k4: ∀{n:Nat} {d:DT},s.2[n]? =some d->d.1=4-> ∃d',s'.2[n]? =some d'/\(d'.1=4\/d'.1=5)
 k5: ∀{n:Nat} {d:DT},s.2[n]? =some d->d.1=5-> ∃d',s'.2[n]? =some d'/\d'.1=5
theorem KD.refl {s s':WD} (h:s'.2=s.2):KD s s':=⟨by grind,by grind⟩
theorem KD.trans {s t u:WD} (a:KD s t) (b:KD t u):KD s u:=by
 refine⟨λh1 e=>?_,λh1 f=>?_⟩
 ·obtain⟨d',d,c⟩:=a.k4 h1 e;rcases c with c|c
  ·exact b.k4 d c
  ·obtain:=b.k5 d
   grind
 ·obtain⟨d',d,c⟩:=a.k5 h1 f;exact b.k5 d c
theorem KD.set {s:WD} {W:List Int} {n:Nat} {d0 d1:DT} (h0:s.2[n]? =some d0) (a:d0.1=4->d1.1=4\/d1.1=5) (b:d0.1=5->d1.1=5):KD s (W,s.2.set n d1):=by
 refine⟨λh k=>?_,λh k=>?_⟩
 grind
 grind
theorem sY.kd {P:Int->Int->Prop} {o:Int} {g g':Gh} {s s':WD} (C:sY P o g g' s s'):KD s s':=by
 refine⟨λ{n d} h1 a=>⟨d,C.kp.ks h1 a,.inl a⟩,λh1=>?_⟩;obtain:=C.kk h1
 grind
def uU (gh dy:Gh) (s s':WD):Prop:=(∀(f:Int) (v:Int×Nat×Int),gh f=some v->dy f=some v\/iP s' f)/\ ∀f,iP s f->iP s' f
theorem uU.refl (gh:Gh) (s:WD):uU gh gh s s:=⟨by grind,λ_ h=>h⟩
theorem uU.trans {a b c:Gh} {s t u:WD} (h:uU a b s t) (k:uU b c t u):uU a c s u:=⟨λf v d=>(h.1 f v d).elim (k.1 f v) λc=> .inr (k.2 f c),λf c=>k.2 f (h.2 f c)⟩
theorem sY.gks {P:Int->Int->Prop} {o:Int} {g g':Gh} {s s':WD} (C:sY P o g g' s s'):uU g g' s s':=⟨λ_ _ h=>C.gk h,λ_ c=>c.kept C.kp⟩
theorem iP.kd {s s':WD} {f:Int} (h:iP s f) (K:KD s s') (b: ∀k:Int,0<=k->k<16->dQ s'.1 (16*f+k)=dQ s.1 (16*f+k)):iP s' f:=by
 obtain⟨h0,d,h1,a,c⟩:=h;obtain⟨d',e,g⟩:=K.k5 h1 a;exact⟨h0,by grind⟩
theorem uU.kd {g:Gh} {s s':WD} (K:KD s s') (a: ∀{n:Nat} {d:DT},s.2[n]? =some d->d.1=5-> ∀k:Int,0<=k->k<16->dQ s'.1 (16*(n:Int)+k)=dQ s.1 (16*(n:Int)+k)):uU g g s s':=⟨by grind,λf c=>by
 refine c.kd K λk0=>?_;obtain⟨⟩:=c
 grind⟩
structure uZ (h h':HS) (P:Nat->Int->Prop) (f:Int):Prop where
 pg:AA h h' P
 ws: ∀{m:Nat} {d d':DT},h.s.2[m]? =some d->d.1=4->h'.s.2[m]? =some d'->d'.1=4->(m:Int)≠f-> ∀k:Int,0<=k->k<16->dQ h'.s.1 (16*(m:Int)+k)=dQ h.s.1 (16*(m:Int)+k)
 kd:KD h.s h'.s
theorem uZ.refl (h:HS) (P:Nat->Int->Prop) (f:Int):uZ h h P f:=⟨AA.refl h P,by simp,.refl rfl⟩
theorem uZ.mono {h h':HS} {P b:Nat->Int->Prop} {f:Int} (a:uZ h h' P f) (d: ∀{i:Nat} {q:Int},P i q->b i q):uZ h h' b f:=⟨⟨λe=>a.pg.to λc=>e (d c)⟩,a.ws,a.kd⟩
theorem uZ.trans {h1 d e:HS} {P:Nat->Int->Prop} {f:Int} (a:uZ h1 d P f) (b:uZ d e P f):uZ h1 e P f:=by
 refine⟨AA.trans a.pg b.pg,λg h l m i k k0 j=>?_,a.kd.trans b.kd⟩;obtain⟨d2,x1,c⟩:=a.kd.k4 g h;rcases c with c|c
 ·rw[b.ws x1 c l m i k k0 j,a.ws g h x1 c i k k0 j]
 ·obtain:=b.kd.k5 x1
  grind
structure HI (gh:Gh) (h:HS):Prop where
 inv:Inv gh h.s
 rt:Rt gh
 nl:Az gh h.s
 sz:h.s.1.length=16*h.s.2.length
 iY: ∀{i:Nat} {x:GV},h.g i=some x->1<=i/\i<=16
 root: ∀{i:Nat} {x:GV},h.g i=some x->gh x.root=some ((i:Int),3,0)
 own: ∀{f o y:Int},gh f=some (o,3,y)-> ∃(i:Nat) (x:GV),(i:Int)=o/\h.g i=some x
 hc:HC (lY h) (mK h) h.s.2 h.gr
theorem cT {h:HS} {i:Nat} {x:GV} (hx:h.g i=some x) (p:Int):lY h i p=if(bD h.s x.root false p).2.2.1=0 then some (bD h.s x.root false p).1 else none:=by grind[lY]
theorem gz {h:HS} {i:Nat} (hx:h.g i=none) (p:Int):lY h i p=none:=by grind[lY]
theorem eR {h:HS} {i:Nat} {x:GV} (hx:h.g i=some x):mK h i=x.tk:=by grind[mK]
theorem ab6 (h:HS) (v:Int):yn h v=mK h v.toNat:=rfl
section
variable {gh dy:Gh} {h:HS}
namespace HI
theorem rdy (H:HI gh h) {Q:Sys} (g:Oq Q h.s):CN Q h where
 Oa:=g
 sz:=by rw[H.sz];simp
 rr:=λv d=>by
  obtain⟨x,hx,e⟩:=bX d;have:=H.inv.vJ (H.root hx)
  grind
 pg:=λv t i=>by
  have:=H.hc.iY (H.hc.Cw (H.hc.OP i)).1;omega
 new:=λv a b c x hx d h0=>by
  obtain⟨x',f,e, _⟩:=bX d;rw[hx] at f;cases f;rw[e] at h0;have j:=H.root hx;have k:=(H.inv.map j h0).2;have:lY h v.toNat b=none:=by rw[cT hx,ao (by grind)]
  have:=H.hc.Zv this;rw[eR hx] at this
  grind
theorem y7 (H:HI gh h) {v:Nat} {x:GV} (hx:h.g v=some x) {p:Int} {s1 s':WD} (h1: ∀{i:Nat} {x:GV},h.g i=some x-> ∀q,bD s1 x.root false q=bD h.s x.root false q) (b:Inv gh s1) (C:sY (oq (v:Int) 0 p) (v:Int) gh dy s1 s') {y:Option Int}
 (d:(if(bD s' x.root false p).2.2.1=0 then some (bD s' x.root false p).1 else none)=y) {h':HS} (hs:h'.s=s') (hg: ∀i,(h'.g i).map GV.root=(h.g i).map GV.root):lY h'=nI (lY h) v p y:=by
 funext i q;have hi:=hg i;cases a:h.g i with
 |none=>
  rw[a] at hi;have f:=by simpa using hi
  rw[gz f];have j: ¬ (i=v/\q=p):=λc=>by grind
  rw[bK j,gz a]
 |some z=>
  obtain⟨z',k,l⟩: ∃z',h'.g i=some z'/\z'.root=z.root:=by
   cases hc:h'.g i with
   |none
   |some=>grind
  rw[cT k,hs,l];by_cases e:i=v/\q=p
  ·obtain⟨rfl,rfl⟩:=e;rw[hx] at a;cases a;rw[fR,d]
  ·rw[bK e,cT a];have m:bD s' z.root false q=bD h.s z.root false q:=by
    rw[<-h1 a];refine b.zt C.inv C.D7 C.root (H.root a) λc=>e ?_;obtain⟨c1,c2⟩:=c;exact⟨by omega,c2⟩
   rw[m]
theorem Hg (H:HI gh h) {v:Nat} {p:Int} {s1 s':WD} (h1: ∀{i:Nat} {x:GV},h.g i=some x-> ∀q,bD s1 x.root false q=bD h.s x.root false q) (b:Inv gh s1) (C:sY (oq (v:Int) 0 p) (v:Int) gh dy s1 s') {h':HS} (hs:h'.s=s') (hg: ∀i,(h'.g i).map GV.root=(h.g i).map GV.root):AA h h' (λi q=>i=v/\q=p):=by
 refine⟨λ{i q} d=>?_⟩;cases a:h.g i with
 |none=>
  unfold gT;grind
 |some z=>
  obtain⟨z',e,f⟩: ∃z',h'.g i=some z'/\z'.root=z.root:=by
   cases hc:h'.g i with
   |none
   |some=>grind
  rw[bP e,bP a,hs,f, <-h1 a];refine b.zt C.inv C.D7 C.root (H.root a) λc=>d ?_;obtain⟨c1,c2⟩:=c;exact⟨by omega,c2⟩
theorem base (H:HI gh h) {v:Nat} {p:Int} {s1 s':WD} (C:sY (oq (v:Int) 0 p) (v:Int) gh dy s1 s') (c:s1.1.length=h.s.1.length/\s1.2.length=h.s.2.length) (nl:Az gh s1) {h':HS} (hs:h'.s=s') (hg: ∀i,(h'.g i).map GV.root=(h.g i).map GV.root)
 (hc:HC (lY h') (mK h') s'.2 h'.gr):HI dy h' where
 inv:=by rw[hs];exact C.inv
 rt:=H.rt.dA C.root
 nl:=by
  rw[hs];exact C.lg (λo q j a b=>a.2.trans b.2.symm) nl
 sz:=by
  rw[hs,C.len.1,C.len.2,c.1,c.2];exact H.sz
 iY:=λ{i x} hx=>by
  have hi:=hg i;rw[hx] at hi;cases hc:h.g i with
  |none=>grind
  |some=>exact H.iY hc
 root:=λ{i x} hx=>by
  have hi:=hg i;rw[hx] at hi;cases hc:h.g i with
  |none=>grind
  |some=>
   rw[hc] at hi;have d:=by simpa using hi
   rw[d];exact C.root.to (H.root hc)
 own:=λ{f o y} e=>by
  obtain⟨i⟩:=H.own ((C.root o f y).1 e);cases hc:h'.g i with
  |none
  |some z=>grind
 hc:=by grind
theorem Dl (H:HI gh h) {s':WD} (B:Inv.fg gh h.s s') {h':HS} (hs:h'.s=s') (hg:h'.g=h.g) (P:Nat->Int->Prop):AA h h' P:=by
 refine⟨λ{i q} _=>?_⟩;cases hi:h.g i with
 |none=>rw[fM hi,fM (by grind)]
 |some=>rw[bP hi,bP (by rw[hg];exact hi),hs];exact H.inv.dG B (H.root hi) q
theorem side (H:HI gh h) {s':WD} (B:Inv.fg gh h.s s') {Ap:List GT} {N_:List Po.PT} (hc:HC (lY h) (mK h) s'.2 Ap):HI gh {s:=s',g:=h.g,gr:=Ap,po:=N_} where
 inv:=H.inv.beside B
 rt:=H.rt
 nl:=Inv.nh B H.nl
 sz:=by
  rw[B.len.1,B.len.2];exact H.sz
 iY:=H.iY
 root:=H.root
 own:=H.own
 hc:=by
  have e:lY {s:=s',g:=h.g,gr:=Ap,po:=N_}=lY h:=by
   funext i p;cases hx:h.g i with
   |none=>
    rw[gz hx];exact gz (h:={s:=s',g:=h.g,gr:=Ap,po:=N_}) hx p
   |some=>
    rw[cT hx,cT (h:={s:=s',g:=h.g,gr:=Ap,po:=N_}) hx];rw[H.inv.dG B (H.root hx)]
  rw[e];exact hc
end HI
end
set_option maxRecDepth 100000
open Go.RX D
theorem rt4 {o r:Int} (a:1<=o/\o<=16) (b:0<=r/\r<=65535):dY 4 o r 0=true:=by unfold dY jL;simp;omega
theorem rt5 {o:Int} (a:0<=o/\o<=16):dY 5 o 0 0=true:=by unfold dY jL;simp;omega
theorem IA {o:Int} (a:1<=o/\o<=16):aO 4 o zD=((4,o,0,0,()),0):=by
 have b:dY 0 0 0 0=true:=by decide
 have e:gX 0 0 0 0 4 o=0:=by
  unfold gX;rw[b,ao (by decide),ao (by decide),aw (by decide),ao (show ¬ (4:Int)=5 by decide),rt4 a ⟨by decide,by decide⟩,ao (by decide)]
 unfold aO zD mP lq;dsimp only;rw[e];rfl
theorem Nt {o:Int} (a:1<=o/\o<=16):aO 0 0 (4,o,0,0,())=(zD,0):=by
 have e:gX 4 o 0 0 0 0=0:=by
  unfold gX;rw[rt4 a ⟨by decide,by decide⟩,ao (by decide),ao (by decide),aw (by decide),ao (show ¬ (0:Int)=5 by decide)];decide
 unfold aO mP lq;dsimp only;rw[e];rfl
theorem B_ {o v:Int} (a:1<=o/\o<=16):aO 5 v (4,o,0,0,())=((5,o,0,0,()),0):=by
 have e:gX 4 o 0 0 5 v=0:=by
  unfold gX;rw[rt4 a ⟨by decide,by decide⟩,ao (by decide),ao (by decide),aw (by decide),aw rfl,rt5 ⟨by omega,a.2⟩,ao (by decide)]
 unfold aO mP lq;dsimp only;rw[e];rfl
theorem IB {o:Int} (a:0<=o/\o<=16):aO 0 0 (5,o,0,0,())=(zD,0):=by
 have e:gX 5 o 0 0 0 0=0:=by
  unfold gX;rw[rt5 a,ao (by decide),ao (by decide),aw (by decide),ao (show ¬ (0:Int)=5 by decide)];decide
 unfold aO mP lq;dsimp only;rw[e];rfl
theorem aa_ {o r x:Int} (a:1<=o/\o<=16) (b:0<=r/\r<=65535) (hx:0<=r+x/\r+x<=65535):iu x (4,o,r,0,())=((4,o,r+x,0,()),0):=by
 have e:xy 4 o r 0 x=0:=by
  unfold xy;rw[rt4 a b,ao (by decide),aw (.inr (.inr rfl)),ao (by omega)]
 unfold iu qJ;dsimp only;rw[e];rfl
theorem yP {ds:List DT} {n:Nat} {d d':DT} {G:DT->DT×Int} (h:ds[n]? =some d) (a:G d=(d',0)):dN ds (n:Int) G=ds.set n d'/\vI ds (n:Int) G=0:=by
 have b:n<ds.length:=(AL.1 h).1;have hg:ds.getD n zD=d:=by rw[Ax,h];rfl
 constructor
 ·rw[pC (by omega)];show(if(G (ds.getD n zD)).2=0 then ds.set n (G (ds.getD n zD)).1 else ds)= _;rw[hg,a,aw rfl]
 ·rw[yZ (by omega)];show(G (ds.getD n zD)).2=0;rw[hg,a]
theorem sL {ds:List DT} {o:Int} (h:0<cm ds 0) (c: ∀d∈ds,d.1=0->d=zD) (e:1<=o/\o<=16): ∃i:Nat,i<ds.length/\ds[i]? =some zD/\fl ds 4 o=(i:Int)/\dX ds 4 o=0/\dJ ds 4 o=ds.set i (4,o,0,0,()):=by
 obtain⟨i,d,h1,f,a,g⟩:=EU h;have j:d=zD:=c d (B2 a) g;subst j;obtain⟨k,b⟩:=yP a (IA e);refine⟨i,f,a,?_,?_,?_⟩
 ·unfold fl;rw[h1];dsimp only;rw[aw b]
 ·unfold dX;rw[ao (by omega),h1];exact b
 ·unfold dJ;rw[h1];exact k
theorem vz {ds:List DT} {y o:Int} (h:dX ds y o=0):0<cm ds 0:=by
 rcases DA (cm ds 0) with e|e
 ·unfold dX at h;rw[XW e] at h;dsimp only at h;split at h<;>exact absurd h (by decide)
 ·exact e
theorem S4 {ds:List DT} {n:Nat} {d d':DT} (h:ds[n]? =some d):(ds.set n d').set n d=ds:=by
 apply F5;intro i;have a:n<ds.length:=(AL.1 h).1;by_cases e:n=i
 ·subst e;rw[AM (by rw[AY];exact a),h]
 ·rw[AC e,AC e]
theorem pD {ds:List DT} {n:Nat} {d:DT} (h:ds[n]? =some d):oN ds (n:Int)=d:=by
 have a:n<ds.length:=(AL.1 h).1;unfold oN;rw[ao (by omega)];show ds.getD n zD=d;rw[Ax,h];rfl
theorem Kept.hc {fr:IT} {tk:Nat->List TK} {s s':WD} {gr:List GT} (H:HC fr tk s.2 gr) (K:Kept s s'):HC fr tk s'.2 gr:=
 H.He K.ks λ{n d} h=>(K.nw h).elim .inl λe=> .inr ⟨by omega,e.2.1,by omega,e.2.2.2⟩
theorem wT (r:Int):gN .i64 0 r=0:=by
 have h: ∀x:BitVec 64,(Ep 64 0) &&& x=0#64:=λx=>by
  rw[show Ep 64 0=0#64 from rfl,BitVec.zero_and]
 show DK.wrap (((Ep 64 0) &&& ~~~(Ep 64 r)).toNat:Int)=0;rw[h];rfl
theorem C4 {ws:List Int} {a:Int} (h:(aL ws a).1=true):uP (B (dQ ws a)).toNat=true:=by
 unfold aL fc IL at h;cases b:uP (B (dQ ws a)).toNat with
 |true=>rfl
 |false=>rw[b] at h;simp at h
theorem tF {ws:List Int} {p t f:Int} {l:Nat} {fd:FT} (hi:uQ ws (eB f p (l:Int))=true) (a:uP (B (dQ ws (eB f p (l:Int)))).toNat=true):
 bF ws p t (f,(l:Int),fd)=tookS f p t (l:Int) fd (aL ws (eB f p (l:Int))).1 (aL ws (eB f p (l:Int))).2.1 (aL ws (eB f p (l:Int))).2.2.1 (aL ws (eB f p (l:Int))).2.2.2.1:=by
 unfold bF;dsimp only;rw[ao (by omega),a,ao ?_]
 ·rfl
 ·unfold Ct;rw[aw hi];decide
namespace Inv
variable {g:Gh} {s:WD}
theorem Dm (I:Inv g s) {o r p t:Int} (d:g r=some (o,3,0)) (b:0<=p/\p<65536): ∀(n:Nat) {j:Nat} {f:Int},j+n=3->g f=some (o,j,px (j+1) p)->lW s.1 r p t n=(f,(j:Int),(0,0,0,0,()))
 |0,j,f,h,a=>by
  have:j=3:=by omega
  subst this;rw[px4 b] at a;rw[I.inj a d];rfl
 |n+1,j,f,h,a=>by
  obtain⟨f',h1,e⟩:=I.FX a (by omega);have i:g f'=some (o,j+1,px (j+1+1) p):=h1;obtain⟨k,m,u⟩:=I.vJ h1;obtain⟨c1,c2, _⟩:=I.vJ a;have q:=I.Dm (t:=t) d b n (j:=j+1) (by omega) i;have c:=lA ⟨k,m⟩ b (l:=j+1) (by omega);have v:=eY p (j+1);rw[lW,q,tF (by rw[c];exact jj (by omega) (by omega)) (by rw[c];exact C4 (by rw[e];rfl)),c,e];unfold tookS cx;dsimp only;rw[ao (by decide),aw ?_]
  ·congr 2;rw[bC (by omega) (by omega)];omega
  ·have:fV true 0 false f=true:=dL ⟨c1,c2⟩;rw[this];simp
   try omega
theorem Wx (I:Inv g s) {o r p:Int} (u:g r=some (o,3,0)) (b:0<=p/\p<65536) {f:Int} {j:Nat} (a:dD g s o p f j):
 ((nC s.1 r p 0).1=(l5 p j (aL s.1 (16*f+px j p % 16))).1/\(nC s.1 r p 0).2.1=(l5 p j (aL s.1 (16*f+px j p % 16))).2.1/\((nC s.1 r p 0).2.2.2.1=0<->(l5 p j (aL s.1 (16*f+px j p % 16))).2.2.1=0)):=by
 have z:=I.kd a.1;have A:=z.2.2.2.2.2;obtain⟨C,D,S⟩:=I.vJ a.1;obtain⟨E,F,T⟩:=I.vJ u;have hi:=eY p j;have d:=lA ⟨C,D⟩ b A;have v:=a.2;have G:=I.wf a.1 hi.1 hi.2;have H:=I.leaf a.1 hi.1 hi.2;have i:=lM s.1 (16*f+px j p % 16);have J:u_ r p 0=false:=by
  unfold u_;have K:eB r p 3=16*r+px 3 p % 16:=lA ⟨E,F⟩ b (l:=3) (by omega);have U:=eY p 3;rw[K,decide_eq_false (by omega),decide_eq_false (by omega),decide_eq_false (by omega)];rfl
 have L:nC s.1 r p 0=(lW s.1 r p 0 4).2.2:=ao (by rw[J];decide);have M:=I.Dm (t:=0) u b (3 - j) (by omega) a.1;have N:uQ s.1 (eB f p (j:Int))=true:=by rw[d];exact jj (by omega) (by omega)
 have O:uP (B (dQ s.1 (eB f p (j:Int)))).toNat=true:=by
  rw[d];cases hb:(aL s.1 (16*f+px j p % 16)).1 with
  |true=>exact C4 hb
  |false=>rw[G hb];decide+kernel
 have w:lW s.1 r p 0 (3 - j+1)=tookS f p 0 (j:Int) (0,0,0,0,()) (aL s.1 (16*f+px j p % 16)).1 (aL s.1 (16*f+px j p % 16)).2.1 (aL s.1 (16*f+px j p % 16)).2.2.1 (aL s.1 (16*f+px j p % 16)).2.2.2.1:=by
  rw[lW,M,tF N O,d]
 generalize aL s.1 (16*f+px j p % 16)=e at*
 obtain⟨ep,er,el,ef,V⟩:=e;dsimp only at*
 have k: ∀x:FT,tookS f p 0 (j:Int) (0,0,0,0,()) ep er el ef=(f,-1,x)->nC s.1 r p 0=x:=λx hx=>by
  rw[L];have h1:(lW s.1 r p 0 (3 - j+1)).2.1= -1:=by rw[w,hx]
  have:=xU h1 j;rw[show 3 - j+1+j=4 by omega] at this;rw[this,w,hx]
 cases ep with
 |false=>
  rw[k (xv (j:Int) 4) (by unfold tookS;rfl)];unfold l5 xv;simp
 |true=>
  have c:fV true er el ef=false:=v;obtain⟨W,X,P,k4,k5⟩:=mm.1 i;rcases H rfl v with ⟨rfl,m⟩|⟨rfl,m,y⟩
  ·subst m;have Q:er>0:=by
    refine B3 λhc=>?_;have:er=0:=by omega
    subst this;have:=dL ⟨P,k4⟩;unfold dO cx at this;dsimp only at this;rw[this] at c;cases c
   have n:gO true er false ef 0=true:=by
    unfold gO;rw[i];have q:gN .i64 0 er=0:=wT er;rw[q];simp;omega
   rw[k (ym 0 0 ef true er false ef) (by
    unfold tookS;rw[ao (by decide),c,ao (by decide),ao (by decide),aw (by simp;omega)];rfl)]
   unfold l5 ym;rw[ao (by omega),aw n,aw rfl,ao (by decide)];simp
  ·have y:ef % 16=0:=y;subst m;have Q:er>0:=by rcases k5 with h|h;exact h;cases h
   have n:gO true er true ef 0=true:=by
    unfold gO;rw[i];have q:gN .i64 0 er=0:=wT er;rw[q];simp;omega
   have R:aH .i64 ef (dz p 16)=ef+p % 16:=by
    have:dz p 16=p % 16:=by unfold dz;exact Int.tmod_eq_emod_of_nonneg b.1
    rw[this,av (by omega) (by omega)]
   rw[k (ym 1 0 (ef+p % 16) true er true ef) (by
    unfold tookS;rw[ao (by decide),c,ao (by decide),aw (by decide),R];rfl)]
   unfold l5 ym;rw[ao (by omega),aw n,aw rfl,aw rfl];simp
end Inv
set_option maxRecDepth 100000
open Go.RX D
theorem Inv.P8 {g:Gh} {s:WD} (I:Inv g s) (nl:Az g s) {o r p t:Int} (c:g r=some (o,3,0)) (b:0<=p/\p<65536) (P:0<=t/\t<=7):
 if(bD s r false p).2.2.1=0 then nC s.1 r p t=((bD s r false p).1,(bD s r false p).2.1,0,(if gO true (bD s r false p).2.1 false (bD s r false p).1 t=true then 0 else 7),()) else(nC s.1 r p t).2.2.2.1=4:=by
 obtain⟨f,j, _,a⟩:=I.lD c b;rw[I.fy c b a];have u:=I.kd a.1;have v:=u.2.2.2.2.2;obtain⟨w,y,Q⟩:=I.vJ a.1;obtain⟨z,A,R⟩:=I.vJ c;have hi:=eY p j;have d:=lA ⟨w,y⟩ b v;have i:=a.2;have C:=I.wf a.1 hi.1 hi.2;have D:=nl a.1 hi.1 hi.2;have E:=I.leaf a.1 hi.1 hi.2;have F:=lM s.1 (16*f+px j p % 16);have G:u_ r p t=false:=by
  unfold u_;have H:eB r p 3=16*r+px 3 p % 16:=lA ⟨z,A⟩ b (l:=3) (by omega);have S:=eY p 3;rw[H,decide_eq_false (by omega),decide_eq_false (by omega),decide_eq_false (by omega)];rfl
 have J:nC s.1 r p t=(lW s.1 r p t 4).2.2:=ao (by rw[G];decide);have K:=I.Dm (t:=t) c b (3 - j) (by omega) a.1;have L:uQ s.1 (eB f p (j:Int))=true:=by rw[d];exact jj (by omega) (by omega)
 have M:uP (B (dQ s.1 (eB f p (j:Int)))).toNat=true:=by
  rw[d];cases hb:(aL s.1 (16*f+px j p % 16)).1 with
  |true=>exact C4 hb
  |false=>rw[C hb];decide+kernel
 have n:lW s.1 r p t (3 - j+1)=tookS f p t (j:Int) (0,0,0,0,()) (aL s.1 (16*f+px j p % 16)).1 (aL s.1 (16*f+px j p % 16)).2.1 (aL s.1 (16*f+px j p % 16)).2.2.1 (aL s.1 (16*f+px j p % 16)).2.2.2.1:=by
  rw[lW,K,tF L M,d]
 generalize aL s.1 (16*f+px j p % 16)=e at*
 obtain⟨ep,er,el,ef,T⟩:=e;dsimp only at*
 have q: ∀x:FT,tookS f p t (j:Int) (0,0,0,0,()) ep er el ef=(f,-1,x)->nC s.1 r p t=x:=λx hx=>by
  rw[J];have h1:(lW s.1 r p t (3 - j+1)).2.1= -1:=by rw[n,hx]
  have:=xU h1 j;rw[show 3 - j+1+j=4 by omega] at this;rw[this,n,hx]
 cases ep with
 |false=>
  rw[q (xv (j:Int) 4) (by unfold tookS;rfl)];unfold l5 xv;simp
 |true=>
  have k:fV true er el ef=false:=i;obtain⟨U,V,N,k4,k5⟩:=mm.1 F;have O:=D rfl i;subst O;have m:el=false:=by
   rcases E rfl i with ⟨_,m⟩|⟨h, _⟩
   ·exact m
   ·exact absurd h (by decide)
  subst m;have W:er>0:=by
   refine B3 λhc=>?_;have:er=0:=by omega
   subst this;have:=dL ⟨N,k4⟩;unfold dO cx at this;dsimp only at this;rw[this] at k;cases k
  rw[q (ym 0 t ef true er false ef) (by
   unfold tookS;rw[ao (by decide),k,ao (by decide),ao (by decide),aw (by simp;omega)];rfl)]
  unfold l5 ym;rw[aw rfl,ao (show ¬ ((0:Nat)=1) by decide)];dsimp only;rw[aw rfl,ao (by omega)];split<;>rfl
theorem Nu {fr:IT} {v:Nat} {p:Int} {y:Option Int} (h:fr v p=y):nI fr v p y=fr:=by
 funext i q;unfold nI;split
 ·rename_i c;rw[c.1,c.2,h]
 ·rfl
section
variable {gh:Gh} {h:HS}
namespace HI
theorem po (H:HI gh h) (N_:List Po.PT):HI gh (Bb h N_):=
 ⟨H.inv,H.rt,H.nl,H.sz,H.iY,H.root,H.own,H.hc⟩
theorem grs (H:HI gh h) {Ap:List GT} (hc:HC (lY h) (mK h) h.s.2 Ap):HI gh (yN h Ap):=
 ⟨H.inv,H.rt,H.nl,H.sz,H.iY,H.root,H.own,hc⟩
theorem aax (H:HI gh h) (v a:Int):HI gh (gf h v a):=by
 unfold gf;split
 ·exact H
 ·refine H.grs (H.hc.P6 (zw _ _ _) (H.hc.gk.rev _ _) (λ{n x y} hx b=>?_) λ{n x} hx f=>?_)
  ·unfold lu at b;by_cases e:qU h.gr a v=0
   ·rw[aw e] at b;by_cases en:a.toNat=n
    ·subst en;rw[AM (AL.1 hx).1] at b;cases b;unfold qU at e;cases c:l8 h.gr a with
     |none=>rw[c] at e;exact absurd (show(4:Int)=0 from e) (by decide)
     |some k=>
      rw[c] at e;dsimp only at e;obtain⟨g,i,j⟩:=fC.1 c;have d:a.toNat=k:=by omega
      rw[d] at hx;rw[getD_some hx] at e;have:=(H.hc.gk x (B2 hx)).2;split at e
      ·exact absurd e (by decide)
      ·split at e
       ·exact absurd e (by decide)
       ·show(0:Int)= _;omega
    ·rw[AC en,hx] at b;cases b;rfl
   ·rw[ao e,hx] at b;cases b;rfl
  ·unfold lu;by_cases e:qU h.gr a v=0
   ·rw[aw e];by_cases en:a.toNat=n
    ·subst en;unfold qU at e;cases c:l8 h.gr a with
     |none=>rw[c] at e;exact absurd (show(4:Int)=0 from e) (by decide)
     |some k=>
      rw[c] at e;dsimp only at e;obtain⟨g,i,j⟩:=fC.1 c;have d:a.toNat=k:=by omega
      rw[d] at hx;rw[getD_some hx] at e;rw[aw f] at e;split at e
      ·exact absurd e (by decide)
      ·exact absurd e (by decide)
    ·rw[AC en];exact hx
   ·rw[ao e];exact hx
theorem offer (H:HI gh h) (v a b c:Int):HI gh (iM h v a b c):=by
 unfold iM;split
 ·have g: ∀{n:Nat} {x:GT},lx h.gr v a b=0->(kx h.gr v a b).toNat=n->h.gr[n]? =some x->x=zG:=λ{n x} e en hx=>by
   unfold kx at en;rw[aw e] at en;have p:dm h.gr ff h.gr.length≠[]:=λhc=>by
    unfold lx at e;split at e
    ·exact absurd e (by decide)
    ·split at e
     ·exact absurd e (by decide)
     ·exact absurd e (by decide)
   obtain⟨y,l,j⟩:=List.exists_cons_of_ne_nil p;have k:y∈dm h.gr ff h.gr.length:=by rw[j];exact CL
   rw[j] at en;have en:y.toNat=n:=en;unfold dm at k;obtain⟨i,hi,rfl⟩:=Ay.1 k;have m:=(B1.1 hi).2;have q:i=n:=en;subst q;rw[getD_some hx] at m;simpa[ff] using m
  have r:(jW h.gr v a b (c==1)).length=h.gr.length:=by
   unfold jW;split
   ·rw[AY]
   ·rfl
  refine H.grs (H.hc.P6 r (H.hc.gk.off _ _ _ _) (λ{n x y} hx d=>?_) λ{n x} hx o=>?_)
  ·unfold jW at d;by_cases e:lx h.gr v a b=0
   ·rw[aw e] at d;by_cases en:(kx h.gr v a b).toNat=n
    ·have f:=g e en hx;subst en;rw[AM (AL.1 hx).1] at d;cases d;rw[f];rfl
    ·rw[AC en,hx] at d;cases d;rfl
   ·rw[ao e,hx] at d;cases d;rfl
  ·unfold jW;by_cases e:lx h.gr v a b=0
   ·rw[aw e];by_cases en:(kx h.gr v a b).toNat=n
    ·have f:=g e en hx;rw[f] at o;exact absurd o (by decide)
    ·rw[AC en];exact hx
   ·rw[ao e];exact hx
 ·exact H
theorem J1 (H:HI gh h) {v:Int} (k:aS h.g v=true) {a b:Int} (e:pq h v a b=0): ∃dy,HI dy (jZ h v a b)/\uZ h (jZ h v a b) (λi q=>i=v.toNat/\q=a) (-1)/\(gT h v.toNat a).2.2.1=0/\gT (jZ h v a b) v.toNat a=((gT h v.toNat a).1,b,0,())/\(jZ h v a b).g=h.g/\uU gh dy h.s (jZ h v a b).s:=by
 obtain⟨x,hx,l,hv, _⟩:=bX k;unfold pq at e;unfold jZ;split at e
 ·exact absurd e (by decide)
 rename_i c1;rw[ao c1];split at e
 ·exact absurd e (by decide)
 rename_i c2;rw[ao c2];split at e
 ·exact absurd e (by decide)
 rename_i c3;rw[ao c3];rw[l] at e ⊢;obtain⟨n,rfl⟩: ∃n:Nat,v=(n:Int):=⟨v.toNat,hv.symm⟩;have hx:h.g n=some x:=hx;obtain⟨t,g',C,c,f, _⟩:=H.inv.tD (H.root hx) e;have o:lY h n a=some (bD h.s x.root false a).1:=by rw[cT hx,aw c]
 have j:=H.y7 hx (s1:=h.s) (λ_ _=>rfl) H.inv C (y:=some (bD h.s x.root false a).1) (by rw[f,aw rfl]) (h':=bA h (rP h.s (n:Int) x.root false a b)) rfl (λ_=>rfl);rw[Nu o] at j;rw[show((n:Int)).toNat=n from rfl];have p:(bA h (rP h.s (n:Int) x.root false a b)).g n=some x:=hx;refine⟨g',H.base C ⟨rfl,rfl⟩ H.nl rfl (λ_=>rfl) ?_,⟨H.Hg (λ_ _=>rfl) H.inv C (h':=bA h (rP h.s (n:Int) x.root false a b)) rfl (λ_=>rfl),λ{m d d'} h1 r _ _ _=>C.kp.ws h1 r,C.kd⟩,by rw[bP hx];exact c,by rw[bP hx,bP p];exact f,rfl,C.gks⟩;rw[j];exact Kept.hc H.hc C.kp
theorem J4 {v a b:Int} (e:pq h v a b≠0):jZ h v a b=h:=by
 unfold pq at e;unfold jZ;split
 ·rfl
 rename_i c1;rw[ao c1] at e;split
 ·rfl
 rename_i c2;rw[ao c2] at e;split
 ·rfl
 rename_i c3;rw[ao c3] at e;rw[We e];rfl
theorem tD (H:HI gh h) {v:Int} (c:aS h.g v=true) (a b:Int): ∃dy,HI dy (jZ h v a b):=by
 by_cases e:pq h v a b=0
 ·obtain⟨g',d, _⟩:=H.J1 c e;exact⟨g',d⟩
 ·rw[J4 e];exact⟨gh,H⟩
end HI
end
set_option maxRecDepth 100000
open Go.RX D
section
variable {gh:Gh} {h:HS}
theorem gR {gh:Gh} {s s':WD} (I:Inv gh s) (a:s'.1.length=s.1.length/\s'.2.length=s.2.length)
 (g: ∀b:Int,dQ s'.1 b≠dQ s.1 b-> ∃(n:Nat) (d:DT),s.2[n]? =some d/\d.1≠3/\16*(n:Int)<=b/\b<16*(n:Int)+16)
 (i: ∀{n:Nat} {d d':DT},s.2[n]? =some d->s'.2[n]? =some d'->(d'=d\/(d.1≠3/\d'.1≠3/\(d'.1=0->d'=zD)))):Inv.fg gh s s' where
 len:=a
 ws:=λ{f o x k l} j h0 h1=>by
  refine B3 λm=>?_;obtain⟨n,d,t,u,v,w⟩:=g _ m;have y:=I.kd j;have e:f.toNat=n:=by omega
  grind
 tb:=λ{n d} h p=>by
  grind
 bt:=λh p=>by
  grind
 fz:=λd q h0=>by
  obtain⟨n,c⟩:=CJ q;have r:n<s.2.length:=by rw[<-a.2];exact(AL.1 c).1
  have h':=B5 r;rcases i h' c with e|⟨_, _,e⟩
  ·rw[e] at h0 ⊢;exact I.fz _ (B2 h') h0
  ·grind
theorem vA {ds:List DT} {n m:Nat} {d0 d1 d d':DT} (h0:ds[n]? =some d0) (h:ds[m]? =some d) (h':(ds.set n d1)[m]? =some d'):(m=n/\d=d0/\d'=d1)\/(m≠n/\d'=d):=by
 grind
namespace HI
theorem Um (H:HI gh h) {i:Nat} {p f:Int} (b:lY h i p=some f): ∃(n:Nat) (d:DT),f=(n:Int)/\h.s.2[n]? =some d/\d.1=4/\1<=d.2.1/\d.2.1<=16/\d=(4,d.2.1,(fo (mK h) (n:Int):Int),0,()):=by
 obtain⟨n,d,h1,a,c⟩:=H.hc.at4 b;obtain⟨j,q,g,e, _⟩:=H.hc.TX a c;have:=H.hc.iY e;obtain:=H.hc.kd a;have k:=H.hc.refs a
 grind
structure ab7 (h h':HS) (v:Nat) (a b:Int) (f:Nat):Prop where
 g:h'.g=h.g
 gr:h'.gr=h.gr
 po:h'.po=h.po
 Xx:(gT h v a).2.2.1=4
 pg:gT h' v a=((f:Int),b,0,())
 fr:h.s.2[f]? =some zD
 f4:h'.s.2[f]? =some (4,(v:Int),0,0,())
 ef:uZ h h' (λi q=>i=v/\q=a) (f:Int)
 zr: ∀k:Int,0<=k->k<16->dQ h'.s.1 (16*(f:Int)+k)=0
 ct:cm h.s.2 0<=cm h'.s.2 0+4
theorem Hh (H:HI gh h) {v:Int} (V:aS h.g v=true) {a b:Int} (o:lf h v a b=0): ∃dy f,HI dy (js h v a b)/\ab7 h (js h v a b) v.toNat a b f/\iT h v=(f:Int)/\uU gh dy h.s (js h v a b).s:=by
 obtain⟨x,hx,J,hv,X,Y⟩:=bX V;unfold lf at o;unfold js;by_cases K:a>=65536
 ·rw[aw K] at o;exact absurd o (by decide)
 rw[ao K] at o ⊢;by_cases L:b<1\/b>7
 ·rw[aw L] at o;exact absurd o (by decide)
 rw[ao L] at o ⊢;by_cases u:dX h.s.2 4 v=0
 case neg=>rw[aw u] at o;exact absurd o u
 rw[ao (λe=>e u)] at o ⊢;obtain⟨n,Z,r,t1,t2,t3⟩:=sL (vz u) H.inv.fz ⟨X,Y⟩;have M:iT h v=(n:Int):=t1;have p:iJ h v=(h.s.1,h.s.2.set n (4,v,0,0,())):=by unfold iJ;rw[t3]
 have hM:qN h v a b=jD (iJ h v) v (a8 h.g v) false a (iT h v) b:=rfl;rw[ao (λe=>e o)];rw[hM,M,J];rw[M,J] at o;obtain⟨m,rfl⟩: ∃m:Nat,v=(m:Int):=⟨v.toNat,hv.symm⟩;have hx:h.g m=some x:=hx;have hlen:=H.sz;have B:Inv.fg gh h.s (iJ h (m:Int)):=by
  rw[p];refine gR H.inv ⟨rfl,by rw[AY]⟩ (λb hb=>absurd rfl hb) λ{i d d'} h1 w=>?_;rcases vA r h1 w with ⟨_,e1,A⟩|⟨_,A⟩
  ·exact .inr ⟨by rw[e1];decide,by rw[A];exact(show ¬ (4:Int)=3 by decide),λc=>by rw[A] at c;exact absurd c (show ¬ (4:Int)=0 by decide)⟩
  ·exact .inl A
 have D:=H.inv.beside B;obtain⟨hp,g',C,N,q2,O, _,⟨f0,j,hE,hc⟩, _⟩:=D.map (H.root hx) o;have hj:=(D.kd hE.1).2.2.2.2.2;have hcT:cm (iJ h (m:Int)).2 0+1=cm h.s.2 0:=by
  rw[p];have:=qg (d':=((4:Int),(m:Int),(0:Int),(0:Int),())) r 0;exact this
 have rB:lY h m a=none:=by
  rw[cT hx, <-H.inv.dG B (H.root hx),ao (by rw[O];decide)]
 have Uc:HC (nI (lY h) m a (some (n:Int))) (mK h) (iJ h (m:Int)).2 h.gr:=by
  rw[p];exact H.hc.Hf (by omega) hp r rfl rB
 have Ky:=Kept.hc Uc C.kp;have kp:=C.kp;have P:(iJ h (m:Int)).1=h.s.1:=rfl;generalize jD (iJ h (m:Int)) (m:Int) x.root false a (n:Int) b=l at*
 have qC:=H.y7 hx (λ{i z} E q=>H.inv.dG B (H.root E) q) D C (y:=some (n:Int)) (by rw[N,aw rfl]) (h':=bA h l) rfl (λ_=>rfl);have F:HI g' (bA h l):=H.base C B.len (Inv.nh B H.nl) rfl (λ_=>rfl) (by rw[qC];exact Ky);have Q:l.2[n]? =some (4,(m:Int),0,0,()):=C.kp.ks (by rw[p];exact AM Z) rfl;have KA:l.2.length=h.s.2.length:=by rw[C.len.2,B.len.2]
 have Xm:l.1.length=h.s.1.length:=by rw[C.len.1,B.len.1]
 have R:(fe l.1 (n:Int) (λ_=>0) 16).length=l.1.length:=gQ _ _ _ _;have G: ∀b,dQ (fe l.1 (n:Int) (λ_=>0) 16) b=if 16*(n:Int)<=b/\b<16*(n:Int)+16 then 0 else dQ l.1 b:=λb=>tE (by omega) (by omega) 16 (Ef _) b;generalize fe l.1 (n:Int) (λ_=>0) 16=W at R G ⊢;have S:Inv.fg g' l (W,l.2):=by
  refine gR C.inv ⟨R,rfl⟩ (λb hb=>⟨n, _,Q,(show ¬ (4:Int)=3 by decide),?_⟩) λ{i d d'} h1 w=>?_
  ·grind
  ·rw[h1] at w;cases w;exact .inl rfl
 have H3:=F.side (Ap:=h.gr) (N_:=h.po) S F.hc;have T: ∀{i:Nat} {q:Int},gT {s:=(W,l.2),g:=h.g,gr:=h.gr,po:=h.po} i q=gT (bA h l) i q:=λ{i q}=>by
  cases hi:h.g i with
  |none=>unfold gT;rw[show(bA h l).g i=none from hi];dsimp only;rw[hi]
  |some z=>rw[bP (h:=bA h l) hi,bP (h:={s:=(W,l.2),g:=h.g,gr:=h.gr,po:=h.po}) hi];exact C.inv.dG S (F.root hi) q
 refine⟨g',n,H3,⟨rfl,rfl,rfl,?_,?_,r,Q,⟨⟨λ{i q} hn=>?_⟩,λ{i d d'} U h4 _ _ dg k k0 I=>?_,KD.trans (t:=iJ h (m:Int)) (by rw[p];exact KD.set r (λc=>absurd c (by decide)) (λc=>absurd c (by decide))) (C.kd.trans (.refl rfl))⟩,λk k0 I=>?_,?_⟩,rfl,((uU.kd (by rw[p];exact KD.set r (λc=>absurd c (by decide)) (λc=>absurd c (by decide))) (λ_ _ _ _ _=>by rw[P])).trans C.gks).trans (uU.kd (.refl rfl) λ{i d} U h5 k k0 I=>?_)⟩
 ·rw[show((m:Int)).toNat=m from rfl,bP hx, <-H.inv.dG B (H.root hx)];exact O
 ·exact T.trans ((bP (h:=bA h l) hx a).trans N)
 ·exact T.trans ((H.Hg (λ{i z} E q=>H.inv.dG B (H.root E) q) D C (h':=bA h l) rfl (λ_=>rfl)).to hn)
 ·show dQ W _= _;rw[G,ao (by omega)];have N5:(iJ h (m:Int)).2[i]? =some d:=by
   rw[p];show(h.s.2.set n _)[i]? = _;rw[AC (by omega)];exact U
  rw[kp.ws N5 h4 k k0 I,P]
 ·show dQ W _= _;rw[G,aw (by omega)]
 ·show _<=cm l.2 0+4;omega
 ·show dQ W _= _
  grind
theorem P9 (H:HI gh h) {v:Int} (j:aS h.g v=true) {a b:Int} (c:lf h v a b≠0):js h v a b=h:=by
 obtain⟨x,hx,q,hv,f,i⟩:=bX j;unfold lf at c;unfold js;split
 ·rfl
 rename_i c1;rw[ao c1] at c;split
 ·rfl
 rename_i c2;rw[ao c2] at c;split
 ·rename_i e;have:iJ h v=(h.s.1,h.s.2):=by unfold iJ;rw[BO e]
  rw[this];rfl
 rename_i d;rw[ao d] at c;have d:=B3 d;rw[aw c];obtain⟨n,k,l,t1,t2,t3⟩:=sL (vz d) H.inv.fz ⟨f,i⟩;have m:iT h v=n:=t1;have o:iJ h v=(h.s.1,h.s.2.set n (4,v,0,0,())):=by unfold iJ;rw[t3]
 have p:qN h v a b=jD _ v _ _ a _ b:=rfl;rw[p,JR c,o,m];have:=yP (AM k) (Nt ⟨f,i⟩);rw[this.1,S4 l];rfl
theorem Hf (H:HI gh h) {v:Int} (c:aS h.g v=true) (a b:Int): ∃dy,HI dy (js h v a b):=by
 by_cases e:lf h v a b=0
 ·obtain:=H.Hh c e
  grind
 ·rw[H.P9 c e];grind
structure ab8 (h h':HS) (v:Nat) (a:Int) (f:Nat):Prop where
 g:h'.g=h.g
 Xx:(gT h v a).2.2.1=0/\(gT h v a).1=(f:Int)
 pg:gT h' v a=(0,0,4,())
 f5:h'.s.2[f]? =some (5,(v:Int),0,0,())
 ef:uZ h h' (λi q=>i=v/\q=a) (-1)
theorem C5 (H:HI gh h) {v:Int} (A:aS h.g v=true) {a:Int} (e:mM h v a=0): ∃dy f,HI dy (ki h v a)/\ab8 h (ki h v a) v.toNat a f/\uU gh dy h.s (ki h v a).s:=by
 obtain⟨x,hx,K,hv,s6,qD⟩:=bX A;unfold ki;rw[aw e];obtain⟨m,rfl⟩: ∃m:Nat,v=(m:Int):=⟨v.toNat,hv.symm⟩;have hx:h.g m=some x:=hx;have L:fH h.g h.s (m:Int) a=bD h.s x.root false a:=by
  unfold fH;grind
 unfold mM at e;rw[L] at e ⊢;rw[K];split at e
 ·exact absurd e (by decide)
 split at e
 ·rename_i c;exact absurd e c
 rename_i c1;have c1:(bD h.s x.root false a).2.2.1=0:=B3 c1;split at e
 ·exact absurd e (by decide)
 rename_i c2;split at e
 ·exact absurd e (by decide)
 rename_i c3;have t:lY h m a=some (bD h.s x.root false a).1:=by rw[cT hx,aw c1]
 obtain⟨n,d,B,u,d4,do1,do2,l⟩:=H.Um t;have D:cd (mK h m) a=none:=by
  cases M:cd (mK h m) a with
  |none=>rfl
  |some y=>
   refine absurd ((tS A (x:=x) hx).2 ?_) c2;rw[eR hx] at M;unfold N7
   grind
 rw[B] at c3 t ⊢;rw[pD u] at c3;have E:fo (mK h) (n:Int)=0:=by
  have:=H.hc.refs u;omega
 have F:=(H.inv.P5 (H.root hx) c1).1;obtain⟨g',C,I, _⟩:=H.inv.Em (H.root hx) F (H.inv.aa9 H.nl (H.root hx) F c1);have N:=Kept.hc H.hc C.kp;generalize nE h.s (m:Int) x.root false a=j at*
 have r:=C.kp.ks u d4;rw[E] at l;have l:d=(4,d.2.1,0,0,()):=l;have O:d.2.1=(m:Int):=by
  obtain⟨Q,d',R,J, _,S⟩:=H.hc.own t D;have:Q=n:=Bf R;subst this;rw[u] at J;cases J;exact S
 rw[O] at l;rw[l] at r;have T:=yP (G:=aO 5 (m:Int)) r (B_ ⟨by omega,by omega⟩);rw[T.1];have U:=N.Dk (o:=(m:Int)) ⟨by omega,by omega⟩ t D E;have w:Inv.fg g' j (j.1,j.2.set n (5,(m:Int),0,0,())):=by
  refine gR C.inv ⟨rfl,by rw[AY]⟩ (λb hb=>absurd rfl hb) λ{i d d'} h1 h2=>?_
  grind
 have V:=H.y7 hx (λ{i z} k q=>rfl) H.inv C (y:=none) (by rw[I];rfl) (h':=bA h j) rfl (λ_=>rfl);have W:=by
  funext i p;cases k:h.g i with
  |none=>exact(gz (h:=bA h (j.1,j.2.set n (5,(m:Int),0,0,()))) k p).trans (gz (h:=bA h j) k p).symm
  |some z=>
   refine(cT (h:=bA h (j.1,j.2.set n (5,(m:Int),0,0,()))) k p).trans (Eq.trans ?_ (cT (h:=bA h j) k p).symm);show(if(bD (j.1,j.2.set n (5,(m:Int),0,0,())) z.root false p).2.2.1=0 then some (bD (j.1,j.2.set n (5,(m:Int),0,0,())) z.root false p).1 else none)=if(bD j z.root false p).2.2.1=0 then some (bD j z.root false p).1 else none;rw[C.inv.dG w (C.root.to (H.root k))]
 have X:(bA h j).g m=some x:=hx;have Y:n<j.2.length:=(AL.1 r).1;have sp: ∀P,AA (bA h j) (bA h (j.1,j.2.set n (5,(m:Int),0,0,()))) P:=λP=>⟨λ{i q} _=>by
  cases k:h.g i with
  |none=>exact(fM (h:=bA h (j.1,j.2.set n (5,(m:Int),0,0,()))) k q).trans (fM (h:=bA h j) k q).symm
  |some z=>exact(bP (h:=bA h (j.1,j.2.set n (5,(m:Int),0,0,()))) k q).trans ((C.inv.dG w (C.root.to (H.root k)) q).trans (bP (h:=bA h j) k q).symm)⟩
 suffices Z:HI g' (bA h (j.1,j.2.set n (5,(m:Int),0,0,()))) from⟨g',n,Z,⟨rfl,by rw[show((m:Int)).toNat=m from rfl,bP hx];exact⟨c1,B⟩,((sp (λ_ _=>False)).to (λc=>c)).trans ((bP X a).trans I),AM Y,AA.trans (H.Hg (λ_ _=>rfl) H.inv C (h':=bA h j) rfl (λ_=>rfl)) (sp _),λ{i d d'} h1 h4 _ _ _=>C.kp.ws h1 h4,C.kd.trans (KD.set r (λ_=> .inr rfl) (by grind))⟩,C.gks.trans (uU.kd (KD.set r (λ_=> .inr rfl) (λc=>absurd (show(4:Int)=5 from c) (by decide))) λ_ _ _ _ _=>rfl)⟩
 exact{inv:=C.inv.beside w,rt:=H.rt.dA C.root,nl:=Inv.nh w (C.lg (λo q q' a b=>a.2.trans b.2.symm) H.nl),sz:=by
        show j.1.length=16*(j.2.set n (5,(m:Int),0,0,())).length;rw[AY,C.len.1,C.len.2];exact H.sz
       ,iY:=H.iY,root:=λ{i z} k=>C.root.to (H.root k),own:=λ{f o y} hf=>H.own ((C.root o f y).1 hf),hc:=by rw[W,V];exact U}
theorem Dk (H:HI gh h) {v:Int} (b:aS h.g v=true) (a:Int): ∃dy,HI dy (ki h v a):=by
 by_cases e:mM h v a=0
 ·obtain:=H.C5 b e
  grind
 ·rw[show ki h v a=h from ao e];grind
end HI
end
set_option maxRecDepth 100000
open Go.RX D
theorem Ca (k:Nat): ∀l:List TK,(∀t∈l,0<=t.2.1/\t.2.1<(k:Int))->l.length<=((Bx k).map λa=>l.countP λt=>t.2.1==((a:Nat):Int)).sum
 |[], _=>FZ _
 |t::l,h=>by
  have b:=Ca k l (by grind);have c:=h t CL;have e:(λa:Nat=>(t::l).countP λt=>t.2.1==((a:Nat):Int))=lh (λa:Nat=>l.countP λt=>t.2.1==((a:Nat):Int)) t.2.1.toNat (l.countP (λu=>u.2.1==((t.2.1.toNat:Nat):Int))+1):=by
   funext a;rw[E5];by_cases e:a=t.2.1.toNat
   ·subst e;rw[kU,aw (by simp;omega)]
   ·rw[nW e,ao (by simp;omega)];rfl
  have:=Di
  grind
theorem P_ {f:Nat->Nat} {c:Nat}: ∀l:List Nat,(∀x∈l,f x<=c)->(l.map f).sum<=c*l.length
 |[], _=>FZ _
 |x::l,h=>by
  have:=P_ l λy a=>h y (by grind);have:=h x (by grind);rw[DB,F2,F7,Nat.mul_add];omega
theorem Nv (tk:Nat->List TK) (q:TK->Bool):oY tk q=((Bx 17).flatMap tk).countP q:=by
 rw[List.countP_flatMap];rfl
theorem Nw (l:List TK) (k c:Nat) (h: ∀t∈l,0<=t.2.1/\t.2.1<(k:Int)) (hb: ∀a:Nat,a<k->(l.countP λt=>t.2.1==((a:Nat):Int))<=c):l.length<=c*k:=by
 have h1:=Ca k;have d:=P_ _ λa b=>hb a (E4.1 b)
 grind
namespace HC
variable {fr:IT} {tk:Nat->List TK} {ds:List DT} {gr:List GT}
theorem ids (H:HC fr tk ds gr) {i:Nat} {t:TK} (h:t∈tk i):0<=t.2.1/\t.2.1<((16:Nat):Int):=by
 obtain⟨_,o, _,k,x,h1, _⟩:=H.Cw (a:=t.2.1) (H.OP h);obtain:=fC.1 h1;have:=H.gl;omega
theorem J5 (H:HC fr tk ds gr) (f:Int):fo tk f<=16000:=by
 have h0:=Nv tk;have b: ∀t∈(Bx 17).flatMap tk,0<=t.2.1/\t.2.1<16:=λt e=>by
  obtain⟨i, _,hi⟩:=List.mem_flatMap.1 e;exact H.ids hi
 have c: ∀a:Nat,a<16->oY tk λt=>t.2.1==a<=1000:=λa h=>by
  have g:a<gr.length:=by rw[H.gl];grind
  have hx:=B5 g;have c:=H.va hx;have:=(H.gk _ (B2 hx)).2;unfold mV at c;omega
 unfold fo;rw[h0];generalize (Bx _).flatMap tk=d at h0 b;have h1:=List.countP_le_length (p:=λt=>t.2.2==f) (l:=d);have j:=Nw d 16 1000 b (by grind);omega
end HC
theorem Nx {gr:List GT} {k:Nat} {x:GT} (h:gr[k]? =some x) (y:GT):(gr.set k y).set k x=gr:=by
 apply F5
 grind
section
variable {gh dy:Gh} {h:HS}
theorem HI.fin (H:HI gh h) {v:Nat} {p:Int} {s1 d j:WD} (C:sY (oq (v:Int) 0 p) (v:Int) gh dy s1 d) (n:Az gh s1) (k:s1.1.length=h.s.1.length/\s1.2.length=h.s.2.length) (B:Inv.fg dy d j) {h':HS} (hs:h'.s=j) (hg: ∀i,(h'.g i).map GV.root=(h.g i).map GV.root)
 {F:IT} (r:lY {h' with s:=d}=F) (hc:HC F (mK h') j.2 h'.gr):HI dy h':=by
 have l: ∀{i:Nat} {x:GV},h'.g i=some x-> ∃z,h.g i=some z/\x.root=z.root:=λ{i x} hx=>by
  cases hc:h.g i with
  |none
  |some z=>grind
 have m: ∀{i:Nat} {x:GV},h'.g i=some x->dy x.root=some _:=λ{i x} hx=>by
  obtain⟨z,c,t⟩:=l hx;rw[t];exact C.root.to (H.root c)
 refine⟨by rw[hs];exact C.inv.beside B,H.rt.dA C.root,by rw[hs];exact Inv.nh B (C.lg (λo q w a b=>a.2.trans b.2.symm) n),?_,λ{i x} hx=>?_,m,λ{f o y} u=>?_,?_⟩
 ·rw[hs,B.len.1,B.len.2,C.len.1,C.len.2,k.1,k.2];exact H.sz
 ·obtain⟨z,c, _⟩:=l hx;exact H.iY c
 ·obtain⟨i,x,h1,A⟩:=H.own ((C.root o f y).1 u);cases hc:h'.g i with
  |none
  |some z=>grind
 ·have e:lY h'=F:=by
   rw[<-r];funext i q;cases c:h'.g i with
   |none=>exact(gz c q).trans (gz (h:={h' with s:=d}) c q).symm
   |some z=>
    refine(cT c q).trans (Eq.trans ?_ (cT (h:={h' with s:=d}) c q).symm);rw[hs,C.inv.dG B (m c)]
  grind
theorem HI.J6 (H:HI gh h) {v:Nat} {p:Int} {a b:WD} (C:sY (oq (v:Int) 0 p) (v:Int) gh dy h.s a) (B:Inv.fg dy a b) (d:b.1=a.1) (e:KD a b) {h':HS} (hs:h'.s=b) (hg: ∀i,(h'.g i).map GV.root=(h.g i).map GV.root):
 uZ h h' (λi q=>i=v/\q=p) (-1)/\ ∀{i:Nat} {x:GV},h.g i=some x-> ∀q,gT h' i q=bD a x.root false q:=by
 have f: ∀{i} {x},h.g i=some x-> ∃z,h'.g i=some z/\z.root=x.root:=λ{i x} hx=>by
  cases hc:h'.g i with
  |none
  |some=>grind
 have key: ∀{i} {x},h.g i=some x-> ∀q,gT h' i q=bD a _ _ q:=λhx q=>by
  obtain⟨z,j,l⟩:=f hx;rw[bP j,hs,l];exact C.inv.dG B (C.root.to (H.root hx)) q
 refine⟨⟨⟨λ{i q} m=>?_⟩,λh1 n _ _ _ k k0 o=>?_,?_⟩,key⟩
 ·cases hx:h.g i with
  |none=>
   have hi:=hg i;rw[hx] at hi;rw[fM hx,fM (by simpa using hi)]
  |some x=>
   rw[key hx,bP hx];refine H.inv.zt C.inv C.D7 C.root (H.root hx) λc=>m ?_;obtain⟨c1,c2⟩:=c;exact⟨by grind,c2⟩
 ·rw[hs,d];exact C.kp.ws h1 n k k0 o
 ·rw[hs];exact C.kd.trans e
theorem n9 {g:Gh} {s:WD} (I:Inv g s) {n:Nat} {o r r':Int} (a:s.2[n]? =some (4,o,r,0,())):Inv.fg g s (s.1,s.2.set n (4,o,r',0,())):=
 gR I (by grind) (by grind) (by grind)
theorem kV {g:Nat->Option GV} {n:Nat} {x:GV} (hx:g n=some x) (tk:List TK) (i:Nat):(bq g n (some {x with tk:=tk}) i).map GV.root=(g i).map GV.root:=by grind[bq]
theorem J7 {h':HS} {g:Nat->Option GV} {n:Nat} {x:GV} (hx:h.g n=some x) (tk:List TK) (hg:h'.g=bq h.g n (some {x with tk:=tk})):mK h'=lh (mK h) n tk:=by
 unfold mK lh;rw[hg];unfold bq
 grind
def Ot (ds:List DT) (n:Nat) (o:Int):Prop:= ∃d:DT,ds[n]? =some d/\d.1=4/\d.2.1=o
theorem Kept.TX {s s':WD} (K:Kept s s') (n:Nat) (o:Int):Ot s'.2 n o<->Ot s.2 n o:=by
 constructor
 ·rintro⟨d,h1,a,b⟩;rcases K.nw h1 with h|⟨⟩
  ·exact⟨d,h,a,b⟩
  omega
 ·rintro⟨d,h1,a,b⟩;exact⟨d,K.ks h1 a,a,b⟩
theorem Wy {ds:List DT} {n:Nat} {o r r':Int} (h:ds[n]? =some (4,o,r,0,())) (m:Nat) (o':Int):Ot (ds.set n (4,o,r',0,())) m o'<->Ot ds m o':=by grind[Ot]
theorem HI.GM (H:HI gh h) {v:Nat} {p id f:Int} {x:GV} (hx:h.g v=some x) (I:cd x.tk p=some (id,f)): ∃dy,HI dy (dE h (v:Int) p id f)/\(∀n o,Ot (dE h (v:Int) p id f).s.2 n o<->Ot h.s.2 n o)/\uZ h (dE h (v:Int) p id f) (λi q=>i=v/\q=p) (-1)/\gT (dE h (v:Int) p id f) v p=(0,0,4,())/\uU gh dy h.s (dE h (v:Int) p id f).s:=by
 have e:cd (mK h v) p=some (id,f):=by rw[eR hx];exact I
 obtain⟨j,o,X,J⟩:=H.hc.Cw e;obtain⟨k,y,g1,b,Y,K, _⟩:=J;obtain⟨n,d,L,l,d4,M,N,O⟩:=H.Um j;subst L;obtain⟨P,Z,r⟩:=fC.1 g1;rw[getD_some b] at r;subst P;have Q:a8 h.g (v:Int)=x.root:=by
  have l:=H.iY hx;unfold a8;rw[aw (bY.2 ⟨by omega,x,hx⟩)]
  grind
 have u:(bD h.s x.root false p).2.2.1=0:=by
  rw[cT hx] at j
  grind
 have A:=(H.inv.P5 (H.root hx) u).1;obtain⟨g',C,B, _⟩:=H.inv.Em (H.root hx) A (H.inv.aa9 H.nl (H.root hx) A u);have Uh:=H.iY hx;have oU:0<fo (mK h) (n:Int):=nX (q:=λt=>t.2.2==(n:Int)) (by omega:v<17) (H.hc.KS e) (by simp);have adf:0<mV (mK h) (k:Int):=nX (q:=λt=>t.2.1==(k:Int)) (by omega:v<17) (H.hc.KS e) (by simp);have acV:=H.hc.J5 (n:Int);have R:mE h.gr (k:Int) (v:Int)=0:=by
  unfold mE;rw[g1];dsimp only;rw[getD_some b,ao (by rw[K];simp),ao (by rw[H.hc.va b];omega)]
 have D:eZ h.gr (k:Int) (v:Int)=h.gr.set k (fT y (-1)):=by
  unfold eZ;rw[aw R];show h.gr.set k (fT (h.gr.getD k zG) (-1))= _;rw[getD_some b]
 have S:=Kept.hc H.hc C.kp;have T:dE h (v:Int) p (k:Int) (n:Int)={s:=((nE h.s (v:Int) x.root false p).1,dN (nE h.s (v:Int) x.root false p).2 (n:Int) (iu (-1))),g:=bq h.g v (some {x with tk:=x.tk.filter λt=> !(t.1==p)}),gr:=h.gr.set k (fT y (-1)),po:=h.po}:=by
  unfold dE;rw[Q,D];show HS.mk _ (bq h.g v (match h.g v with|some x=> _|none=>none)) _ _= _;rw[hx]
 rw[T];generalize nE h.s (v:Int) x.root false p=E at*
 have a:=C.kp.ks l d4;rw[O] at a;have U:=yP (G:=iu (-1)) a (aa_ ⟨M,N⟩ ⟨by omega,by omega⟩ ⟨by omega,by omega⟩);rw[U.1];have V:oh (h.gr.set k (fT y (-1))):=by rw[<-D];exact H.hc.gk.back _ _
 have W:=S.GM e a b r V;have F:=H.J6 C (n9 C.inv a) rfl (KD.set a (λ_=> .inl rfl) (λc=>absurd (show(4:Int)=5 from c) (by decide))) (h':={s:=(E.1,E.2.set n (4,d.2.1,(fo (mK h) (n:Int):Int)+ -1,0,())),g:=bq h.g v (some {x with tk:=x.tk.filter λt=> !(t.1==p)}),gr:=h.gr.set k (fT y (-1)),po:=h.po}) rfl (λi=>kV hx _ i);refine⟨g',H.fin C H.nl ⟨rfl,rfl⟩ (n9 C.inv a) rfl (λi=>kV hx _ i) (H.y7 hx (λ{i z} hz q=>rfl) H.inv C (y:=none) (by rw[B];rfl) rfl (λi=>kV hx _ i)) ?_,λm w=>(Wy a m w).trans (C.kp.TX m w),F.1,(F.2 hx p).trans B,C.gks.trans (by grind[uU.kd,KD.set])⟩;rw[J7 (g:=h.g) hx _ rfl, <-eR hx];exact W
end
set_option maxRecDepth 100000
open Go.RX D
section
variable {gh dy:Gh} {h:HS}
theorem Ny {v p:Int} (h0:(fH h.g h.s v p).2.2.1=0):aS h.g v=true/\ ∃x,h.g v.toNat=some x/\fH h.g h.s v p=bD h.s x.root false p:=by grind[fH]
theorem S5 {v p:Int} {x:GV} (a:aS h.g v=true) (hx:h.g v.toNat=some x) (hb: ¬ gi h v p=true):cd x.tk p=none:=by
 cases b:cd _ p with
 |none=>rfl
 |some=>
  refine absurd ((tS a hx).2 ?_) hb;unfold N7
  grind
theorem S6 {gs:List GT} {k:Nat} {x:GT} {v:Int} (h:gs[k]? =some x) (d:x≠zG) (hv:x.2.2.1=v) (f:0<=x.2.2.2.2.1) (g:oh gs):eZ (gs.set k (fT x 1)) (k:Int) v=gs:=by
 have a:=(AL.1 h).1;have h1:(gs.set k _)[k]? =some (fT x 1):=AM a;have b:l8 (gs.set k (fT x 1)) k=some k:=fC.2 (by grind[getD_some,ye]);have c:mE (gs.set k (fT x 1)) k v=0:=by
  unfold mE;rw[b];dsimp only;rw[getD_some h1,ao (by show ¬ x.2.2.1≠v;grind),ao (by show ¬ x.2.2.2.2.1+1=0;omega)]
 unfold eZ;rw[aw c];show(gs.set k (fT x 1)).set k (fT ((gs.set k (fT x 1)).getD k zG) (-1))=gs;rw[getD_some h1];have e:fT (fT x 1) (-1)=x:=by
  unfold fT
  grind
 rw[e];exact Nx h _
theorem ab9 {v a b c:Int} (d:mG h v a b c=0):nH h v a b c=kh h.s (a8 h.g v) false b (lR h a).1 (xi c):=by grind[mG,nH]
theorem HI.J8 (H:HI gh h) {v a b c:Int} (S:aS h.g v=true) (T:mG h v a b c=0):
 (nH h v a b c=0-> ∃dy,HI dy (iA h v a b c)/\uZ h (iA h v a b c) (λi q=>i=v.toNat/\q=b) (-1)/\(gT h v.toNat b).2.2.1=4/\gT (iA h v a b c) v.toNat b=((lR h a).1,xi c,0,())/\uU gh dy h.s (iA h v a b c).s)/\(nH h v a b c≠0->Bc h v a b c=h):=by
 have w:=ab9 T;obtain⟨p4,p,A,U⟩:(lX h a).2.2.1=v/\(lR h a).2.2.1=0/\ ¬ gi h (lX h a).1 (lX h a).2.1=true/\iq h.gr a v (c==1)=0:=by
  grind[mG]
 obtain⟨x,hx,V,hv,s6,qD⟩:=bX S;obtain⟨k,B⟩: ∃k,l8 h.gr a=some k:=by
  grind[iq,l8]
 obtain⟨r,W,t⟩:=fC.1 B;have f:h.gr[k]? =some h.gr[k]:=B5 W;obtain⟨y,X⟩: ∃y,y=h.gr[k]:=⟨_,rfl⟩;rw[<-X] at f;rw[getD_some f] at t;have D:lX h a=y:=by
  unfold lX xx;rw[B];exact getD_some f
 have E:lR h a=fH h.g h.s y.1 y.2.1:=by unfold lR;rw[D]
 rw[D] at p4 A;rw[E] at p;obtain⟨F,I,j,J⟩:=Ny p;have Y:=S5 F j A;obtain⟨m,rfl⟩: ∃m:Nat,v=(m:Int):=⟨v.toNat,hv.symm⟩;have hx:h.g m=some x:=hx;obtain⟨o,K⟩: ∃o:Nat,y.1=(o:Int):=⟨y.1.toNat,by have:=bY.1 F;omega⟩;have j:h.g o=some I:=by rw[K] at j;exact j
 rw[J] at p;have u:lY h o y.2.1=some (bD h.s I.root false y.2.1).1:=by rw[cT j,aw p]
 obtain⟨n,d,L,Z,d4,do1,do2,Un⟩:=H.Um u;rw[L] at u;have M:(lR h a).1=(n:Int):=by rw[E,J,L]
 have N:eh h.gr a (m:Int) (c==1)=h.gr.set k (fT y 1):=by
  unfold eh;rw[aw U, <-r];show h.gr.set k (fT (h.gr.getD k zG) 1)= _;rw[getD_some f]
 refine⟨λe=>?_,λe=>?_⟩
 ·rw[w,V,M] at e;obtain⟨hp,g',C,O, _,P, _⟩:=H.inv.map (H.root hx) e;have acW:lY h m b=none:=by rw[cT hx,ao (by rw[P];decide)]
  have jT:iA h (m:Int) a b c={s:=((jD h.s (m:Int) x.root false b (n:Int) (xi c)).1,dN (jD h.s (m:Int) x.root false b (n:Int) (xi c)).2 (n:Int) (iu 1)),g:=bq h.g m (some {x with tk:=nG (b,a,(n:Int)) x.tk}),gr:=h.gr.set k (fT y 1),po:=h.po}:=by
   grind[iA,bq]
  rw[jT];have Ky:=Kept.hc H.hc C.kp;generalize jD h.s (m:Int) x.root false b (n:Int) (xi c)=Q at*
  have l:=C.kp.ks Z d4;rw[Un] at l;have acV:=H.hc.J5 (n:Int);have qP:=yP (G:=iu 1) l (aa_ ⟨do1,do2⟩ ⟨by omega,by omega⟩ ⟨by omega,by omega⟩);rw[qP.1];have Xw:oh (h.gr.set k (fT y 1)):=by rw[<-N];exact H.hc.gk.take _ _ _
  have Xk:=Ky.take hp acW l f t K p4 u (by rw[eR j];exact Y) Xw;have R:=H.J6 C (n9 (r':=(fo (mK h) (n:Int):Int)+1) C.inv l) rfl (KD.set l (λ_=> .inl rfl) (λc=>absurd (show(4:Int)=5 from c) (by decide))) (h':={s:=(Q.1,Q.2.set n (4,d.2.1,(fo (mK h) (n:Int):Int)+1,0,())),g:=bq h.g m (some {x with tk:=nG (b,a,(n:Int)) x.tk}),gr:=h.gr.set k (fT y 1),po:=h.po}) rfl (λi=>kV hx _ i)
  suffices hh:HI g' _ from⟨g',hh,R.1,by rw[show((m:Int)).toNat=m from rfl,bP hx];exact P,by rw[M];exact(R.2 hx b).trans O,C.gks.trans (by grind[uU.kd,KD.set])⟩
  refine H.fin C H.nl ⟨rfl,rfl⟩ (n9 C.inv l) rfl (λi=>kV hx _ i) (H.y7 hx (λ{i z} hz q=>rfl) H.inv C (y:=some (n:Int)) (by rw[O];rfl) rfl (λi=>kV hx _ i)) ?_;rw[J7 (g:=h.g) hx _ rfl, <-eR hx, <-r];exact Xk
 ·rw[w] at e;unfold Bc;rw[JR e,N, <-r,S6 f t p4 (H.hc.gk y (B2 f)).2.1 H.hc.gk]
theorem HI.Qa (H:HI gh h) {v a b c:Int} (f:aS h.g v=true) (e:nH h v a b c≠0):jx h v a b c=h:=by
 unfold jx;by_cases d:mG h v a b c=0
 ·rw[ao λe=>e d,ao e];exact(H.J8 f d).2 e
 grind
theorem S7 {v a b c:Int} (e:nH h v a b c=0):mG h v a b c=0:=by grind[nH,mG]
theorem HI.Qb (H:HI gh h) {v a b c:Int} (d:aS h.g v=true) (e:nH h v a b c=0):jx h v a b c=iA h v a b c/\ ∃dy,HI dy (iA h v a b c)/\uZ h (iA h v a b c) (λi q=>i=v.toNat/\q=b) (-1)/\(gT h v.toNat b).2.2.1=4/\gT (iA h v a b c) v.toNat b=((lR h a).1,xi c,0,())/\uU gh dy h.s (iA h v a b c).s:=by
 have f:=S7 e;refine⟨?_,(H.J8 d f).1 e⟩;unfold jx
 grind
theorem HI.take (H:HI gh h) {v:Int} (d:aS h.g v=true) (a b c:Int): ∃dy,HI dy (jx h v a b c):=by
 by_cases e:nH h v a b c=0
 ·obtain:=H.Qb d e
  grind
 ·rw[H.Qa d e];grind
theorem HI.J9 (H:HI gh h) {v:Int} (b:aS h.g v=true) {a:Int} (e:pv h v a=0): ∃dy,HI dy (ir h v a)/\uZ h (ir h v a) (λi q=>i=v.toNat/\q=a) (-1)/\gT (ir h v a) v.toNat a=(0,0,4,())/\uU gh dy h.s (ir h v a).s:=by
 obtain⟨x,hx,hv⟩:=bX b;unfold pv at e;unfold ir;split at e
 grind
 split at e
 ·rename_i c2;have c:=(tS b hx).1 c2;obtain:=H.GM hx c
  grind
 grind
theorem J_ {v a:Int} (e:pv h v a≠0):ir h v a=h:=by grind[pv,ir]
theorem HI.back (H:HI gh h) {v:Int} (b:aS h.g v=true) (a:Int): ∃dy,HI dy (ir h v a):=by
 by_cases e:pv h v a=0
 ·obtain:=H.J9 b e
  grind
 ·rw[J_ e];grind
theorem HI.fY {v:Nat}: ∀(n:Nat) {gh:Gh} {h:HS},HI gh h->(∃x,h.g v=some x)->(mK h v).length=n->
 ∃dy,HI dy (fY (v:Int) n h)/\(∃x,(fY (v:Int) n h).g v=some x)/\mK (fY (v:Int) n h) v=[]/\(∀i,i≠v->(fY (v:Int) n h).g i=h.g i)/\(∀m o,Ot (fY (v:Int) n h).s.2 m o<->Ot h.s.2 m o)/\uZ h (fY (v:Int) n h) (λi _=>i=v) (-1)/\uU gh dy h.s (fY (v:Int) n h).s
 |0,gh,h,H,hx,a=>⟨gh,H,hx,List.length_eq_zero_iff.1 a,λ_ _=>rfl,λ_ _=>Iff.rfl,.refl _ _ _,uU.refl _ _⟩
 |n+1,gh,h,H,⟨x,hx⟩,a=>by
  have q:yn h (v:Int)=x.tk:=by rw[ab6];exact eR hx
  have M:x.tk.length=n+1:=by rw[<-eR hx];exact a
  have r:x.tk.map (·.1)≠[]:=λe=>by
   simp_all
  have d:=Fb r (λy u=>by
   obtain⟨t,f,rfl⟩:=Ay.1 u;have w:t∈mK h v:=by rw[eR hx];exact f
   have:=H.hc.iY (H.hc.Cw (H.hc.OP w)).1;omega)
  obtain⟨p,j⟩: ∃p,p=AO (x.tk.map (·.1)):=⟨_,rfl⟩;rw[<-j] at d;obtain⟨t,f,N⟩:=Ay.1 d;have b:=H.hc.nd v;rw[eR hx] at b;have k:cd x.tk p=some t.2:=(jO b).2 (by grind);have z:N7 h (v:Int) p=t.2:=by
   grind[N7,cd]
  have A:yO (v:Int) h=dE h (v:Int) p t.2.1 t.2.2:=by
   unfold yO;rw[q, <-j,z]
  obtain⟨O,B,P,C, _,D⟩:=H.GM (x:=x) hx k;have l:(dE h (v:Int) p t.2.1 t.2.2).g v=some {x with tk:=x.tk.filter λt=> !(t.1==p)}:=by
   show bq h.g v (match h.g v with|some x=> _|none=>none) v= _;rw[hx,fP]
  have E:(mK (dE h (v:Int) p t.2.1 t.2.2) v).length=n:=by
   rw[eR l];have:=(B9 b k).length_eq
   grind
  obtain⟨F,h1,G,I,J,Q,K,L⟩:=HI.fY n B ⟨_,l⟩ E;have e:_root_.Go.Proofs.YtlcenllcmeebhaaGreat.fY (v:Int) (n+1) h=_root_.Go.Proofs.YtlcenllcmeebhaaGreat.fY (v:Int) n (dE h (v:Int) p t.2.1 t.2.2):=by rw[<-A];rfl
  rw[e];refine⟨F,h1,G,I,λi hi=>?_,by grind,uZ.trans (C.mono λc=>c.1) K,D.trans L⟩;rw[J i hi];show bq h.g v _ i=h.g i;unfold bq;rw[ao hi]
end
section
variable {gh dy:Gh} {h:HS}
theorem Nz {v:Int} {x:GV} (a:aS h.g v=true) (hx:h.g v.toNat=some x) (p:Int):fH h.g h.s v p=bD h.s x.root false p:=by grind[fH]
theorem HI.word (H:HI gh h) {v:Int} (c:aS h.g v=true) {a t:Int} (r:0<=a) (j:0<=t/\t<=7):
 (a<1048576/\(fH h.g h.s v (a / 16)).2.2.1=0/\jc h v a t=(16*(fH h.g h.s v (a / 16)).1+a % 16,if gO true (fH h.g h.s v (a / 16)).2.1 false (fH h.g h.s v (a / 16)).1 t=true then 0 else 7)/\
  ∃n:Nat,(fH h.g h.s v (a / 16)).1=(n:Int)/\n<h.s.2.length/\lY h v.toNat (a / 16)=some (n:Int))\/
 ((a>=1048576/\(jc h v a t).2=2)\/(a<1048576/\fH h.g h.s v (a / 16)=(0,0,4,())/\(jc h v a t).2=4)):=by
 obtain⟨x,hx,k,hv,u,w⟩:=bX c;rw[Nz c hx];unfold jc;by_cases l:a>=1048576
 grind
 rw[ao l,k];have m:=H.root hx;have o:0<=a / 16/\a / 16<65536:=by omega
 have f:=H.inv.P8 H.nl m o j;by_cases e:(bD h.s x.root false (a / 16)).2.2.1=0
 ·rw[aw e] at f;have i:lY h v.toNat (a / 16)=some (bD h.s x.root false (a / 16)).1:=by rw[cT hx,aw e]
  obtain⟨n,d,b,p, _⟩:=H.Um i;have q:=(AL.1 p).1;have y:=H.inv.le;refine .inl ⟨by omega,e,?_,n,b,q,by rw[i,b]⟩;rw[f];rw[b,eO (by omega) (by omega),av (by omega) (by omega)]
 ·refine .inr (by grind[Inv.aaw])
theorem HI.S8 (H:HI gh h) {n:Nat} {d:DT} (a:h.s.2[n]? =some d) (d4:d.1=4) {o:Int} (e:0<=o/\o<16) (b:Int):HI gh (bA h (dT h.s.1 (16*(n:Int)+o) b,h.s.2))/\uZ h (bA h (dT h.s.1 (16*(n:Int)+o) b,h.s.2)) (λ_ _=>False) (n:Int):=by
 have B:Inv.fg gh h.s (dT h.s.1 (16*n+o) b,h.s.2):=by
  refine gR H.inv ⟨cH _ _ _,rfl⟩ (λq c=>⟨n,d,a,?_⟩) λf=>?_
  ·refine B3 λhc=>c ?_;rw[mS (by omega)]
  grind
 refine⟨H.side B H.hc,H.Dl B (h':=bA h _) rfl rfl _,λ_ _ _ _ g k k0 i=>?_,.refl rfl⟩;exact mS (by omega)
theorem HI.store (H:HI gh h) {v:Int} (c:aS h.g v=true) {a:Int} (f:0<=a) (b:Int):HI gh (kq h v a b)/\AA h (kq h v a b) (λ_ _=>False):=by
 unfold kq;by_cases e:(jc h v a 2).2≠0
 ·rw[aw e];exact⟨H,AA.refl _ _⟩
 rw[ao e];rcases H.word c f (t:=2) (by grind) with ⟨_, _,i,n,j,s,k⟩|⟨_,u⟩
 ·rw[i];rw[j];obtain⟨m,d,l,p,d4, _⟩:=H.Um k;have:=Bf l;subst this;obtain⟨q,r⟩:=H.S8 p d4 (o:=a % 16) (by omega) b;exact⟨q,r.pg⟩
 grind
 grind
theorem HI.Wz (H:HI gh h) {n:Nat} {d:DT} (a:h.s.2[n]? =some d) (b:d.1=5):d=(5,d.2.1,0,0,())/\0<=d.2.1/\d.2.1<=16:=by
 obtain:=H.hc.kd a;have c:=H.hc.refs a;have:fo (mK h) n=0:=by
  rcases DA _ with e|e
  ·exact e
  ·obtain:=H.hc.Jd e
   grind
 grind
theorem HI.Je (H:HI gh h) {n:Nat} {d:DT} (a:h.s.2[n]? =some d) (e:d.1=5):iz h.s (n:Int)=(h.s.1,h.s.2.set n zD)/\jY h.s (n:Int)=0/\HI gh (bA h (h.s.1,h.s.2.set n zD))/\AA h (bA h (h.s.1,h.s.2.set n zD)) (λ_ _=>False):=by
 obtain⟨l,o,p⟩:=H.Wz a e;have g:=a;rw[l] at g;have j:=yP (G:=aO 0 0) g (IB ⟨o,p⟩);have k:Cv h.s.2 n=true:=by
  unfold Cv
  grind
 have B:Inv.fg gh h.s (h.s.1,h.s.2.set n zD):=by
  refine gR H.inv ⟨rfl,by rw[AY]⟩ (λb hb=>absurd rfl hb) λ{i d0 d'} h1 q=>?_;rcases vA a h1 q with ⟨_,r,f⟩|⟨_,f⟩
  ·exact .inr ⟨by rw[r,e];decide,by rw[f];decide,λ_=>f⟩
  ·exact .inl f
 refine⟨?_,?_,H.side B (H.hc.He (λ{m d0} h1 t=>?_) λ{m d0} h1=>?_),H.Dl B (h':=bA h (h.s.1,h.s.2.set n zD)) rfl rfl _⟩
 ·unfold iz;rw[aw ⟨k,by rw[pD a];exact e⟩,j.1]
 ·unfold jY;rw[k,ao (by decide),pD a,ao (λc=>c e)];exact j.2
 grind
 ·grind[zD,AC]
theorem WA {s:WD} {f:Int} (a: ∀(n:Nat) (d:DT),f=(n:Int)->s.2[n]? =some d->d.1≠5):iz s f=s/\jY s f≠0:=by
 grind[Cv,oN,iz,jY]
theorem HI.free (H:HI gh h) (f:Int):HI gh (bA h (iz h.s f))/\(iz h.s f=h.s\/ ∃(n:Nat) (d:DT),f=(n:Int)/\h.s.2[n]? =some d/\d.1=5/\iz h.s f=(h.s.1,h.s.2.set n zD)):=by
 by_cases e: ∃(n:Nat) (d:DT),f=n/\h.s.2[n]? =some d/\d.1=5
 ·obtain⟨n,d,rfl,h1,b⟩:=e;obtain:=H.Je h1
  grind
 ·obtain⟨a⟩:=WA (s:=h.s) (f:=f) (by grind);rw[a];exact⟨H,.inl rfl⟩
theorem HI.X2 (H:HI gh h): ∀n,HI gh (bA h (dP h.s n).1)
 |0=>H
 |n+1=>((HI.X2 H n).free _).1
theorem HI.Hi (H:HI gh h): ∃dy,HI dy (gZ h)/\uZ h (gZ h) (λ_ q=> ¬ (0<=q/\q<65536)) (-1)/\uU gh dy h.s (gZ h).s:=by
 unfold gZ;cases hv:mU h.g with
 |none=>exact⟨gh,H,.refl _ _ _,uU.refl _ _⟩
 |some v=>
  dsimp only;by_cases e:rD h.s (v:Int)=0
  case neg=>rw[ao e];exact⟨gh,H,.refl _ _ _,uU.refl _ _⟩
  rw[aw e];obtain⟨Yt,u, _⟩:=n7.1 hv;have T: ∀f,gh f≠some ((v:Int),3,0):=λf a=>by
   obtain⟨i,x,h1,r⟩:=H.own a;have:i=v:=Bf h1;subst this;rw[u] at r;cases r
  obtain⟨_,I,b2,b3,B,J,C,U,V,D⟩:=H.inv.born (o:=(v:Int)) (by omega) T (vz e);have X: ∀{f o y k:Int} {l:Nat},gh f=some (o,l,y)->0<=k->k<16->dQ (iV h.s (v:Int) λ_=>0).1 (16*f+k)=dQ h.s.1 (16*f+k):=λ{f o y k l} a k0 n=>by
   have dg:f≠eV h.s (v:Int):=λc=>by rw[c,I] at a;cases a
   exact C _ (by omega)
  have K: ∀k,0<=k->k<16->aL (iV h.s (v:Int) λ_=>0).1 (16*eV h.s (v:Int)+k)=zE:=λk k0 n=>Zp (U k k0 n);generalize (iV h.s (v:Int) λ_=>0)=s' at*
  generalize eV h.s (v:Int)=F at*
  have L: ∀{f o y k:Int} {l:Nat},gh f=some (o,l,y)->0<=k->k<16->aL s'.1 (16*f+k)=aL h.s.1 (16*f+k):=λa k0 n=>by unfold aL;rw[X a k0 n]
  have z: ∀{f o y:Int} {l:Nat},gh f=some (o,l,y)->mL gh F (some ((v:Int),3,0)) f=some (o,l,y):=λ{f o y l} a=>by
   rw[aZ (λc=>by rw[c,I] at a;cases a)];exact a
  have M: ∀{i:Nat} {x:GV},bq h.g v (some ⟨F,[]⟩) i=some x->(i=v/\x=⟨F,[]⟩)\/(i≠v/\h.g i=some x):=λ{i x} hx=>by
   unfold bq at hx;by_cases c:i=v
   ·rw[aw c] at hx;cases hx;exact .inl ⟨c,rfl⟩
   ·rw[ao c] at hx;exact .inr ⟨c,hx⟩
  have hFl:F.toNat<h.s.2.length:=by omega
  have N: ∀{i:Nat} {p:Int},0<=p/\p<65536->gT {h with s:=s',g:=bq h.g v (some ⟨F,[]⟩)} i p=gT h i p:=λ{i p} b=>by
   by_cases c:i=v
   ·subst c;rw[fM u,bP (h:={h with s:=s',g:=bq h.g i (some ⟨F,[]⟩)}) (x:=⟨F,[]⟩) (fP _ _ _)];show bD s' F false p= _;have O:=K (px 3 p % 16) (eY p 3).1 (eY p 3).2;have t:dD (mL gh F (some ((i:Int),3,0))) s' (i:Int) p F 3:=⟨by rw[px4 b];exact bL _ _ _,by rw[O];exact KO⟩;rw[D.fy (bL _ _ _) b t,O,GL _ _ rfl]
   ·cases hx:h.g i with
    |none=>
     rw[fM hx];exact fM (h:={h with s:=s',g:=bq h.g v (some ⟨F,[]⟩)}) (show bq h.g v (some ⟨F,[]⟩) i=none by unfold bq;rw[ao c];exact hx) p
    |some x=>
     rw[bP hx,bP (h:={h with s:=s',g:=bq h.g v (some ⟨F,[]⟩)}) (x:=x) (show bq h.g v (some ⟨F,[]⟩) i=some x by unfold bq;rw[ao c];exact hx)];show bD s' x.root false p= _;obtain⟨f,j, _,t⟩:=H.inv.lD (H.root hx) b;have P:=L t.1 (eY p j).1 (eY p j).2;have Y:dD (mL gh F (some ((v:Int),3,0))) s' (i:Int) p f j:=⟨z t.1,by rw[P];exact t.2⟩;rw[H.inv.fy (H.root hx) b t,D.fy (z (H.root hx)) b Y,P]
  have Q: ∀(h:HS) {i:Nat} {p:Int},¬ (0<=p/\p<65536)->(gT h i p).2.2.1≠0:=λh {i p} b=>by
   grind[gT,Inv.yd]
  have Z:lY {h with s:=s',g:=bq h.g v (some ⟨F,[]⟩)}=lY h:=by
   funext i p;rw[eo,eo];by_cases b:0<=p/\p<65536
   ·rw[N b]
   ·rw[ao (Q _ b),ao (Q _ b)]
  have kQ:mK {h with s:=s',g:=bq h.g v (some ⟨F,[]⟩)}=mK h:=by
   funext i;unfold mK;show(match bq h.g v (some ⟨F,[]⟩) i with|some x=>x.tk|none=>[])= _;unfold bq;by_cases c:i=v
   ·rw[aw c,c,u]
   ·rw[ao c]<;>rfl
  have E:h.s.2[F.toNat]? =some zD:=J;have R:uZ h {h with s:=s',g:=bq h.g v (some ⟨F,[]⟩)} (λ_ q=> ¬ (0<=q/\q<65536)) (-1):=by
   refine⟨⟨λhq=>N (B3 hq)⟩,λ{m d d'} h1 G _ _ _ k k0 n=>?_,?_⟩
   ·have hmF:m≠F.toNat:=λc=>by rw[c,E] at h1;cases h1;exact absurd G (by decide)
    exact C _ (by omega)
   ·show KD h.s s';have:=KD.set (s:=h.s) (W:=s'.1) (d1:=((3:Int),(v:Int),(0:Int),(0:Int),())) E (λc=>absurd c (by decide)) (λc=>absurd c (by decide));rw[<-B] at this;exact this
  suffices hh:HI (mL gh F (some ((v:Int),3,0))) {h with s:=s',g:=bq h.g v (some ⟨F,[]⟩)} from⟨_,hh,R,λf w a=> .inl (by
   obtain⟨o,l,x⟩:=w;exact z a),λf c=>c.kd R.kd λk k0 n=>by
   obtain⟨z0,d,S,z2, _⟩:=c;have:f.toNat≠F.toNat:=λe=>by rw[e,E] at S;cases S;exact absurd z2 (by decide)
   exact C _ (by omega)⟩
  refine⟨D,λf o x a=>?_,λf o l x k a k0 n b A=>?_,?_,λ{i x} hx=>?_,λ{i x} hx=>?_,λ{f o y} a=>?_,?_⟩
  ·by_cases c:f=F
   ·subst c;rw[bL] at a;cases a;rfl
   ·rw[aZ c] at a;exact H.rt f o x a
  ·by_cases c:f=F
   ·subst c;have b:(aL s'.1 (16*f+k)).1=true:=b;rw[K k k0 n] at b;cases b
   ·rw[aZ c] at a;have b:(aL s'.1 (16*f+k)).1=true:=b;have A:dO (aL s'.1 (16*f+k))=false:=A;rw[L a k0 n] at b A;exact H.nl a k0 n b A
  ·show s'.1.length=16*s'.2.length;rw[V,B,AY];exact H.sz
  ·rcases M hx with ⟨c, _⟩|⟨_,c⟩
   ·omega
   ·exact H.iY c
  ·rcases M hx with ⟨c,d⟩|⟨_,c⟩
   ·subst c;subst d;exact bL _ _ _
   ·exact z (H.root c)
  ·by_cases c:f=F
   ·subst c;rw[bL] at a;cases a;exact⟨v, _,rfl,fP _ _ _⟩
   ·rw[aZ c] at a;obtain⟨i,x,h1,r⟩:=H.own a;refine⟨i,x,h1,?_⟩;show bq h.g v _ i=some x;unfold bq;rw[ao (λc=>by subst c;rw[u] at r;cases r)];exact r
  ·rw[Z,kQ];show HC (lY h) (mK h) s'.2 h.gr;rw[B];refine H.hc.He (λ{m d} h1 G=>?_) λ{m d} h1=>?_
   ·rw[AC (λc=>by subst c;rw[J] at h1;cases h1;exact absurd G (by decide))];exact h1
   grind
end
theorem tV {ds:List DT} {v:Int} {i:Nat}:i∈gM ds v<-> ∃d,ds[i]? =some d/\d.2.1=v:=by grind[gM]
theorem IC (ds:List DT) (v:Int):(gM ds v).Nodup:=List.Pairwise.filter _ GI
theorem zA {v:Int} (hv:1<=v/\v<=16): ∀(l:List Nat) (ds:List DT) (c:Int),l.Nodup->(∀i∈l, ∀d,ds[i]? =some d->d.1=4->d=(4,v,0,0,()))->
 (l.foldl (u' v) (ds,c)).1.length=ds.length/\ ∀n:Nat,((n∈l/\ ∃d,ds[n]? =some d/\d.1=4)->(l.foldl (u' v) (ds,c)).1[n]? =some (5,v,0,0,()))/\(¬ (n∈l/\ ∃d,ds[n]? =some d/\d.1=4)->(l.foldl (u' v) (ds,c)).1[n]? =ds[n]?)
 |[],ds,c, _, _=>⟨rfl,λn=>⟨λh=>(by cases h.1),λ_=>rfl⟩⟩
 |i::l,ds,c,b,m=>by
  rw[CK] at b;rw[List.foldl_cons];by_cases e:(oN ds (i:Int)).1=4
  ·rw[show u' v (ds,c) i=(dN ds (i:Int) (aO 5 v),c+1) from aw e];have hi:i<ds.length:=by
    refine B3 λhc=>?_;unfold oN at e;rw[aw (.inr (by omega))] at e;exact absurd e (by decide)
   have g:ds[i]? =some ds[i]:=B5 hi;rw[pD g] at e;have p:=m i CL _ g e;rw[p] at g;rw[(yP (G:=aO 5 v) g (B_ hv)).1];obtain⟨h1,f⟩:=zA hv l (ds.set i (5,v,0,0,())) (c+1) b.2 λj k d o q=>by
    have r:i≠j:=λe=>b.1 (by rw[e];exact k);rw[AC r] at o;exact m j (DD _ k) d o q
   refine⟨h1.trans (AY ..),λn=>⟨λa=>?_,λa=>?_⟩⟩
   ·by_cases en:i=n
    ·subst en;rw[(f i).2 (λc=>b.1 c.1),AM hi]
    ·refine(f n).1 ⟨?_,?_⟩
     ·grind
     ·rw[AC en];exact a.2
   grind
  ·rw[show u' v (ds,c) i=(ds,c) from ao e];obtain⟨h1,f⟩:=zA hv l ds c b.2 λj k=>m j (DD _ k);refine⟨h1,λn=>⟨λa=>(f n).1 ⟨?_,a.2⟩,λa=>(f n).2 λc=>a ⟨DD _ c.1,c.2⟩⟩⟩;rcases Co.1 a.1 with h|h
   ·subst h;obtain⟨d,s,t⟩:=a.2;rw[pD s] at e;exact absurd t e
   ·exact h
theorem J' {s s':WD} (h:s'.1=s.1) (r:Int) (g:Bool) (p:Int):bD s' r g p=bD s r g p:=by grind[bD]
section
variable {gh:Gh} {h:HS}
theorem HI.gone (H:HI gh h) {v:Nat} {x:GV} (hx:h.g v=some x) (N:mK h v=[]) (O: ∀n,Ot h.s.2 n (v:Int)->fo (mK h) (n:Int)=0): ∃dy,HI dy (vX h (v:Int))/\uZ h (vX h (v:Int)) (λi _=>i=v) (-1)/\(∀(f:Int) (w:Int×Nat×Int),gh f=some w->w.1≠(v:Int)->dy f=some w)/\ ∀f,iP h.s f->iP (vX h (v:Int)).s f:=by
 have hd:=H.iY hx;have K:1<=(v:Int)/\(v:Int)<=16:=by omega
 obtain⟨P,V,w1,W,F⟩:=H.inv.dropped H.rt (H.root hx);have X:a8 h.g (v:Int)=x.root:=by
  unfold a8;rw[aw (bY.2 ⟨by omega,x,hx⟩)];show(match h.g v with|some x=>x.root|none=> -1)= _;rw[hx]
 have Y:vX h (v:Int)={s:=((cI h.s x.root false).1,(CM (cI h.s x.root false).2 (v:Int)).1),g:=bq h.g v none,gr:=cR h.gr (v:Int),po:=(Po.cI 4 h.po (v:Int)).2}:=by
  unfold vX;rw[X];rfl
 rw[Y];generalize cI h.s x.root false=s1 at*
 have Z: ∀{n:Nat} {d:DT},s1.2[n]? =some d->d.1=4->h.s.2[n]? =some d:=λ{n d} h1 r=>by
  by_cases e: ∃l y,gh (n:Int)=some ((v:Int),l,y)
  ·rw[(F n).1 e] at h1;cases h1;exact absurd r (show ¬ (5:Int)=4 by decide)
  ·rw[(F n).2 e] at h1;exact h1
 have Q: ∀{n:Nat} {d:DT},h.s.2[n]? =some d->d.1=4->s1.2[n]? =some d:=λ{n d} h1 r=>by
  rw[(F n).2 (λ⟨l,y,C⟩=>?_)]
  ·exact h1
  ·have:=(H.inv.kd C).2.2.1;rw[show((n:Int)).toNat=n from rfl,h1] at this;cases this;exact absurd r (show ¬ (3:Int)=4 by decide)
 have kY: ∀i∈gM s1.2 (v:Int), ∀d,s1.2[i]? =some d->d.1=4->d=(4,(v:Int),0,0,()):=λi hi d h1 r=>by
  obtain⟨d',D,G⟩:=tV.1 hi;rw[h1] at D;cases D;have E:=Z h1 r;obtain⟨_,I, _⟩:=H.hc.kd E;have J:=H.hc.refs E;rw[O i ⟨d,E,r,G⟩] at J;obtain⟨a,b,c,e,u⟩:=d;dsimp only at r I J G;rw[r,I,J,G];rfl
 obtain⟨f1,f2⟩:=zA K (gM s1.2 (v:Int)) s1.2 0 (IC _ _) kY;have hoT:(CM s1.2 (v:Int)).1=((gM s1.2 (v:Int)).foldl (u' (v:Int)) (s1.2,0)).1:=rfl;rw[<-hoT] at f1 f2;generalize (CM s1.2 (v:Int)).1=j at*
 have B:Inv.fg (KQ gh (v:Int)) s1 (s1.1,j):=by
  refine gR P ⟨rfl,f1⟩ (λb hb=>absurd rfl hb) λ{n d d'} h1 A=>?_;by_cases c:n∈gM s1.2 (v:Int)/\ ∃d,s1.2[n]? =some d/\d.1=4
  grind
  ·have A:j[n]? =some d':=A;rw[(f2 n).2 c,h1] at A;cases A;exact .inl rfl
 have R: ∀{i:Nat} {y:GV},bq h.g v none i=some y->i≠v/\h.g i=some y:=λ{i y} t=>by
  unfold bq at t;by_cases c:i=v
  ·rw[aw c] at t;cases t
  ·rw[ao c] at t;exact⟨c,t⟩
 have L: ∀{i:Nat} {y:GV},i≠v->h.g i=some y->bq h.g v none i=some y:=λ{i y} hi t=>by
  unfold bq;rw[ao hi];exact t
 have acX:mK {s:=(s1.1,j),g:=bq h.g v none,gr:=cR h.gr (v:Int),po:=(Po.cI 4 h.po (v:Int)).2}=mK h:=by
  funext i;unfold mK;show(match bq h.g v none i with|some x=>x.tk|none=>[])= _;unfold bq;by_cases c:i=v
  ·rw[aw c];subst c;exact N.symm
  ·rw[ao c]<;>rfl
 have ig:lY {s:=(s1.1,j),g:=bq h.g v none,gr:=cR h.gr (v:Int),po:=(Po.cI 4 h.po (v:Int)).2}=λi p=>if i=v then none else lY h i p:=by
  funext i p;by_cases c:i=v
  ·rw[aw c];exact gz (h:={s:=(s1.1,j),g:=bq h.g v none,gr:=cR h.gr (v:Int),po:=(Po.cI 4 h.po (v:Int)).2}) (show bq h.g v none i=none by unfold bq;rw[aw c]) p
  ·rw[ao c];cases hi:h.g i with
   |none=>
    rw[gz hi];exact gz (h:={s:=(s1.1,j),g:=bq h.g v none,gr:=cR h.gr (v:Int),po:=(Po.cI 4 h.po (v:Int)).2}) (show bq h.g v none i=none by unfold bq;rw[ao c];exact hi) p
   |some z=>
    rw[cT hi,cT (h:={s:=(s1.1,j),g:=bq h.g v none,gr:=cR h.gr (v:Int),po:=(Po.cI 4 h.po (v:Int)).2}) (L c hi)];rw[J' (s:=h.s) (s':=(s1.1,j)) w1]
 have S:uZ h {s:=(s1.1,j),g:=bq h.g v none,gr:=cR h.gr (v:Int),po:=(Po.cI 4 h.po (v:Int)).2} (λi _=>i=v) (-1):=by
  refine⟨⟨λ{i q} c=>?_⟩,λ{m d d'} _ _ _ _ _ k _ _=>by show dQ s1.1 _= _;rw[w1],λ{n d} h1 r=>?_,λ{n d} h1 h5=>?_⟩
  ·cases hi:h.g i with
   |none=>
    rw[fM hi];exact fM (h:={s:=(s1.1,j),g:=bq h.g v none,gr:=cR h.gr (v:Int),po:=(Po.cI 4 h.po (v:Int)).2}) (show bq h.g v none i=none by unfold bq;rw[ao c];exact hi) q
   |some z=>
    rw[bP hi,bP (h:={s:=(s1.1,j),g:=bq h.g v none,gr:=cR h.gr (v:Int),po:=(Po.cI 4 h.po (v:Int)).2}) (L c hi)];exact J' (s:=h.s) (s':=(s1.1,j)) w1 _ _ _
  grind
  grind
 suffices hh:HI (KQ gh (v:Int)) {s:=(s1.1,j),g:=bq h.g v none,gr:=cR h.gr (v:Int),po:=(Po.cI 4 h.po (v:Int)).2} from⟨_,hh,S,λf w C hn=>dj.2 ⟨C,hn⟩,λf c=>c.kd S.kd λk _ _=>by show dQ s1.1 _= _;rw[w1]⟩
 refine⟨P.beside B,V,Inv.nh B (λf o l y k C k0 D T U=>?_),?_,λ{i y} t=>H.iY (R t).2,λ{i y} t=>?_,λ{f o y} C=>?_,?_⟩
 ·rw[w1] at T U;exact H.nl (dj.1 C).1 k0 D T U
 ·show s1.1.length=16*j.length;rw[w1,f1,W];exact H.sz
 ·obtain⟨h1,A⟩:=R t;exact dj.2 ⟨H.root A,λc=>h1 (Bf c)⟩
 ·obtain⟨h1,A⟩:=dj.1 C;obtain⟨i,y',I,J⟩:=H.own h1;exact⟨i,y',I,L (λc=>A (by show o= _;rw[<-I,c])) J⟩
 ·rw[ig,acX];refine H.hc.gone ⟨by omega,by omega⟩ N (λ{n d} h1 r M=>?_) (λ{n d} h1 r M=>?_) (λ{n d} h1=>?_) (H.hc.gk.drop _)
  ·rw[H.hc.refs h1,O n ⟨d,h1,r,M⟩];rfl
  ·show j[n]? =some d;rw[(f2 n).2 (λc=>?_)]
   ·exact Q h1 r
   ·obtain⟨d',D,G⟩:=tV.1 c.1;rw[Q h1 r] at D;cases D;exact M G
  ·have h1:j[n]? =some d:=h1;by_cases c:n∈gM s1.2 (v:Int)/\ ∃d,s1.2[n]? =some d/\d.1=4
   ·rw[(f2 n).1 c] at h1;cases h1;exact .inr ⟨.inr (.inr rfl),rfl,by show 0<=(v:Int);omega,K.2⟩
   ·rw[(f2 n).2 c] at h1;by_cases e: ∃l y,gh (n:Int)=some ((v:Int),l,y)
    ·rw[(F n).1 e] at h1;cases h1;exact .inr ⟨.inr (.inr rfl),rfl,by show 0<=(v:Int);omega,K.2⟩
    ·have E:=h1;rw[(F n).2 e] at h1;exact .inl ⟨h1,λk=>c ⟨tV.2 ⟨d,E,k.2⟩,d,E,k.1⟩⟩
theorem HI.Ka (H:HI gh h) (a:Int): ∃dy,HI dy (tn h a)/\uZ h (tn h a) (λi _=>i=a.toNat) (-1)/\(∀(f:Int) (w:Int×Nat×Int),gh f=some w->w.1≠a->dy f=some w\/iP (tn h a).s f)/\ ∀f,iP h.s f->iP (tn h a).s f:=by
 unfold tn;by_cases j:aS h.g a=true
 case neg=>rw[ao j];exact⟨gh,H,.refl _ _ _,λ_ _ h _=> .inl h,λ_ h=>h⟩
 rw[aw j];by_cases hb:vW h.s.2 a=true
 case pos=>rw[aw hb];exact⟨gh,H,.refl _ _ _,by grind⟩
 rw[ao hb];obtain⟨x,hx,J,hv,K,L⟩:=bX j;obtain⟨v,rfl⟩: ∃v:Nat,a=v:=⟨a.toNat,hv.symm⟩;obtain⟨g1,o,⟨x1,p⟩,r,M,u,y,l⟩:=HI.fY (yn h v).length H ⟨x,hx⟩ rfl
 suffices z: ∀n,Ot _ n v->fo _ _=0 by
  obtain⟨A,B,E2,b,k⟩:=o.gone p r z;exact⟨A,B,y.trans E2,λf w C m=>(l.1 f w C).imp (by grind) (k f),λf c=>k f (l.2 f c)⟩
 intro n m;rcases DA _ with e|e
 ·exact e
 ·obtain⟨i,t,hi,D,E⟩:=zz e;have N:i≠v:=λc=>by grind
  have F:t∈mK h i:=by
   unfold mK at D ⊢
   grind
  obtain⟨d,b,k,G⟩:=(u n _).1 m;have O:=nX (q:=λt=>t.2.2==n) hi F E;have I:=H.hc.refs b;refine absurd ?_ hb;refine GJ.2 ⟨n,tV.2 ⟨d,b,G⟩,?_⟩;rw[pD b];have:d.2.2.1>0:=by rw[I];unfold fo;omega
  grind
end
theorem z8 (o pg:Int): ∀(n:Nat) (x:WD×PT),(qV o pg n x).1.1.length=x.1.1.length
 |0,x=>rfl
 |n+1,x=>by
  rw[qV,z8 o pg n];exact xZ _ _ _ _ _
theorem NA (s:WD) (o r pg lv:Int) (e:ET):(rO s o r pg lv e).1.length=s.1.length:=by
 unfold rO;split
 ·show(dT _ _ _).length= _;rw[cH,z8]
 ·rfl
theorem qA (s:WD) (o r:Int) (gone:Bool) (pg f rt:Int):(jD s o r gone pg f rt).1.length=s.1.length:=by
 unfold jD;split
 ·rfl
 ·split
  ·exact NA _ _ _ _ _ _
  ·rfl
theorem NB (s:WD) (o r:Int) (gone:Bool) (pg rt:Int):(rP s o r gone pg rt).1.length=s.1.length:=by
 unfold rP;split
 ·rfl
 split
 ·split
  ·split
   ·rfl
   ·split
    ·show(dT _ _ _).length= _;rw[cH,tT]
    ·exact tT _ _ _ _
  ·rfl
 ·rfl
theorem S9 (s:WD) (r:Int) (gone:Bool):(cI s r gone).1=s.1:=by
 unfold cI;split<;>rfl
theorem Cb (v:Int): ∀(n:Nat) (h:HS),(fY v n h).s.1.length=h.s.1.length
 |0,h=>rfl
 |n+1,h=>by
  rw[fY,Cb v n];exact tU _ _ _ _ _
theorem WB (h:HS) (v k a b c:Int):(run h v k a b c).1.s.1.length=h.s.1.length:=by
 unfold run;split
 ·show(gZ h).s.1.length= _;unfold gZ;split
  ·rfl
  ·split
   ·exact JY _ _ _
   ·rfl
 ·show(tn h a).s.1.length= _;unfold tn;split
  ·split
   ·rfl
   ·show(cI _ _ _).1.length= _;rw[S9,Cb]
  ·rfl
 ·show(js h v a b).s.1.length= _;unfold js;split
  ·rfl
  split
  ·rfl
  split
  ·rfl
  split
  ·exact qA _ _ _ _ _ _ _
  ·exact(gQ _ _ _ _).trans (qA _ _ _ _ _ _ _)
 ·show(ki h v a).s.1.length= _;unfold ki;split
  ·exact tU _ _ _ _ _
  ·rfl
 ·show(jZ h v a b).s.1.length= _;unfold jZ;split
  ·rfl
  split
  ·rfl
  split
  ·rfl
  ·exact NB _ _ _ _ _ _
 ·rfl
 ·show(kq h v a b).s.1.length= _;unfold kq;split
  ·rfl
  ·exact cH _ _ _
 ·show(iM h v a b c).s.1.length= _;unfold iM;split<;>rfl
 ·show(jx h v a b c).s.1.length= _;unfold jx;split
  ·rfl
  split
  ·exact qA _ _ _ _ _ _ _
  ·exact qA _ _ _ _ _ _ _
 ·show(ir h v a).s.1.length= _;unfold ir;split
  ·rfl
  split
  ·exact tU _ _ _ _ _
  ·rfl
 ·show(gf h v a).s.1.length= _;unfold gf;split<;>rfl
 ·show(l_ h v a).s.1.length= _;unfold l_;split<;>rfl
 ·show(ma h v a b).s.1.length= _;unfold ma;split
  ·rfl
  split<;>rfl
 ·show(l9 h v a).s.1.length= _;unfold l9;split<;>rfl
 ·rfl
 ·show(jg h v a).s.1.length= _;unfold jg;split<;>rfl
 ·show(dP h.s _).1.1.length= _;rw[(BT h.s _).1]
theorem Qc (h:HS) (v k a b c:Int):(iX h v k a b c).s.1.length=h.s.1.length:=by
 unfold iX;split
 ·exact WB _ _ _ _ _ _
 ·rfl
theorem C6 {h:HS} {v k a b c:Int} (f:gw h v k a b c=0):(1<=k/\k<=17)/\(tg k=false->aS h.g v=true)/\fx k a b c=true:=by
 unfold gw at f;split at f
 ·exact absurd f (by decide)
 rename_i d1;split at f
 ·exact absurd f (by decide)
 rename_i j;split at f
 ·exact absurd f (by decide)
 rename_i d;have i:fx k a b c=true:=by
  cases e:fx k a b c with
  |true=>rfl
  |false=>rw[e] at d1;simp at d1
 have d0: ¬ v<0:=λe=>d1 (by simp[e]);refine⟨?_,λe=>?_,i⟩
 ·unfold fx at i;rw[DZ,decide_eq_true_eq] at i;have d1:=i.1;unfold jX at d1;by_cases e:1<=k/\k<=17
  ·exact e
  ·rw[ao e] at d1;exact absurd d1 (by decide)
 ·rw[e] at j;have m:v≠0:=by
   intro l;rw[l] at j;exact absurd rfl j
  have:decide (v>0)=true:=decide_eq_true (by omega);rw[this,Bool.true_and] at d;simpa using d
section
variable {gh:Gh} {h:HS}
theorem HI.run (H:HI gh h) {v k a b c:Int} (i:1<=k/\k<=17) (d:tg k=false->aS h.g v=true) (f:0<=a): ∃dy,HI dy (run h v k a b c).1:=by
 have:k=1\/k=2\/k=3\/k=4\/k=5\/k=6\/k=7\/k=8\/k=9\/k=10\/k=11\/k=12\/k=13\/k=14\/k=15\/k=16\/k=17:=by omega
 rcases this with rfl|rfl|rfl|rfl|rfl|rfl|rfl|rfl|rfl|rfl|rfl|rfl|rfl|rfl|rfl|rfl|rfl
 ·obtain⟨g',e, _⟩:=H.Hi;exact⟨g',e⟩
 ·obtain⟨g',e, _⟩:=H.Ka a;exact⟨g',e⟩
 ·exact H.Hf (d rfl) a b
 ·exact H.Dk (d rfl) a
 ·exact H.tD (d rfl) a b
 ·exact⟨gh,H⟩
 ·exact⟨gh,(H.store (d rfl) f b).1⟩
 ·exact⟨gh,H.offer v a b c⟩
 ·exact H.take (d rfl) a b c
 ·exact H.back (d rfl) a
 ·exact⟨gh,H.aax v a⟩
 ·refine⟨gh,?_⟩;show HI gh (l_ h v a);unfold l_;split
  ·exact H.po _
  ·exact H
 ·refine⟨gh,?_⟩;show HI gh (ma h v a b);unfold ma;split
  ·exact H
  split
  ·exact H.po _
  ·exact H
 ·refine⟨gh,?_⟩;show HI gh (l9 h v a);unfold l9;split
  ·exact H
  ·exact H.po _
 ·exact⟨gh,H.po _⟩
 ·refine⟨gh,?_⟩;show HI gh (jg h v a);unfold jg;split
  ·exact H
  ·exact H.po _
 ·exact⟨gh,H.X2 _⟩
theorem HI.step (H:HI gh h) (v k:Int) {a:Int} (b c:Int) (e:0<=a): ∃dy,HI dy (iX h v k a b c):=by
 unfold iX;by_cases d:gw h v k a b c=0
 ·rw[aw d];obtain⟨h1,f, _⟩:=C6 d;exact H.run h1 f e
 ·rw[ao d];exact⟨gh,H⟩
end
theorem HI.new {n:Nat} (r:4<=n/\n<=4096):HI noG (h0 n) where
 inv:=M6 (Ef _) r.2
 rt:=λf o x h=>(by cases h)
 nl:=λf o l x i h=>(by cases h)
 sz:=by
  show(D8 (16*n) (0:Int)).length=16*(D8 n zD).length;rw[FP,FP]
 iY:=λh=>(by cases h)
 root:=λh=>(by cases h)
 own:=λh=>(by cases h)
 hc:=by
  have b: ∀i p,lY (h0 n) i p=none:=λi p=>rfl;have c: ∀i,mK (h0 n) i=[]:=λi=>rfl;have e: ∀{m:Nat} {d:DT},(D8 n zD)[m]? =some d->d=zD:=λ{m d} h=>GO (B2 h);have hg: ∀{m:Nat} {x:GT},(D8 16 zG)[m]? =some x->x=zG:=λ{m d} h=>GO (B2 h);have g: ∀q,oY (mK (h0 n)) q=0:=λq=>B8 λi t j=>by rw[c i] at j;cases j
  refine⟨λh=>?_,λ{m d} h=>?_,λ{m d} h k=>?_,λh=>?_,λ{i p a f} h=>?_,λi=>?_,λh=>?_,λ{m d} h=>?_,λ{m x} h=>?_,FP,oh.new 16⟩
  ·rw[b] at h;cases h
  ·rw[e h];decide
  ·rw[e h] at k;exact absurd k (by decide)
  ·rw[b] at h;cases h
  ·rw[c i] at h;unfold cd at h;simp at h
  ·rw[c i];exact List.nodup_nil
  ·rw[b] at h;cases h
  ·rw[e h];unfold fo;rw[g];rfl
  ·rw[hg h];unfold mV;rw[g];rfl
def jy (h h':HS):Prop:=h'.s=h.s/\h'.g=h.g
section
variable {gh:Gh} {h:HS} {v k a b c:Int}
theorem jy.refl:jy h h:=⟨rfl,rfl⟩
theorem S_ (H:HI gh h) (j:1<=k/\k<=17) (f:tg k=false->aS h.g v=true) (d:(run h v k a b c).2.2≠0):jy h (run h v k a b c).1:=by
 have:k=1\/k=2\/k=3\/k=4\/k=5\/k=6\/k=7\/k=8\/k=9\/k=10\/k=11\/k=12\/k=13\/k=14\/k=15\/k=16\/k=17:=by omega
 rcases this with rfl|rfl|rfl|rfl|rfl|rfl|rfl|rfl|rfl|rfl|rfl|rfl|rfl|rfl|rfl|rfl|rfl
 ·have d:py h≠0:=d;show jy h (gZ h);unfold py at d;unfold gZ;cases i:mU h.g with
  |none=>exact .refl
  |some n=>
   rw[i] at d;dsimp only at d ⊢;rw[ao d];exact .refl
 ·have d:GN h a≠0:=d;show jy h (tn h a);unfold GN at d;unfold tn;split
  ·rename_i c1;rw[aw c1] at d;split
   ·exact .refl
   ·rename_i c2;rw[ao c2] at d;exact absurd rfl d
  ·exact .refl
 ·have d:lf h v a b≠0:=λe=>d (by show(rS h v a b).2=0;unfold rS;rw[aw e]);show jy h (js h v a b);rw[H.P9 (f rfl) d];exact .refl
 ·have d:(yy h v a).2≠0:=d;show jy h (ki h v a);unfold yy at d;unfold ki;split
  ·rename_i c1;rw[aw c1] at d;exact absurd rfl d
  ·exact .refl
 ·have d:pq h v a b≠0:=d;show jy h (jZ h v a b);rw[HI.J4 d];exact .refl
 ·exact .refl
 ·have d:sd h v a≠0:=d;show jy h (kq h v a b);unfold sd at d;unfold kq;split
  ·exact .refl
  rename_i c1;rw[ao c1] at d;refine⟨?_,rfl⟩;show(dT h.s.1 _ b,h.s.2)=h.s;unfold Ct at d;rw[show dT h.s.1 (jc h v a 2).1 b=h.s.1 from ao λe=>d (aw e)]
 ·show jy h (iM h v a b c);unfold iM;split
  ·exact⟨rfl,rfl⟩
  ·exact .refl
 ·have d:nH h v a b c≠0:=d;show jy h (jx h v a b c);rw[H.Qa (f rfl) d];exact .refl
 ·have d:pv h v a≠0:=d;show jy h (ir h v a);rw[J_ d];exact .refl
 ·show jy h (gf h v a);unfold gf;split
  ·exact .refl
  ·exact⟨rfl,rfl⟩
 ·show jy h (l_ h v a);unfold l_;split
  ·exact⟨rfl,rfl⟩
  ·exact .refl
 ·show jy h (ma h v a b);unfold ma;split
  ·exact .refl
  split
  ·exact⟨rfl,rfl⟩
  ·exact .refl
 ·show jy h (l9 h v a);unfold l9;split
  ·exact .refl
  ·exact⟨rfl,rfl⟩
 ·exact⟨rfl,rfl⟩
 ·show jy h (jg h v a);unfold jg;split
  ·exact .refl
  ·exact⟨rfl,rfl⟩
 ·exact absurd rfl d
theorem HI.fail (H:HI gh h) (e:oO h v k a b c≠0):jy h (iX h v k a b c)/\qF h v k a b c=0:=by
 unfold oO at e;unfold iX qF;by_cases d:gw h v k a b c=0
 ·rw[aw d] at e ⊢;rw[aw d,ao e];obtain⟨h1,f, _⟩:=C6 d;exact⟨S_ H h1 f e,rfl⟩
 ·rw[ao d,ao d];exact⟨.refl,rfl⟩
end
theorem WC {h:HS} {v:Int} (a:aS h.g v=true) (p:Int):fH h.g h.s v p=gT h v.toNat p:=by unfold fH gT;rw[aw a];cases h.g v.toNat<;>rfl
theorem Cc {g:Nat->Option GV} {v:Int} {x:GV} (a:aS g v=true) (hx:g v.toNat=some x) (p:Int):fA g v p=match cd x.tk p with|some y=>(y.1,true,())|none=>(0,false,()):=by
 unfold fA;rw[aw a,hx];dsimp only;cases cd x.tk p<;>rfl
theorem Ta {g:Nat->Option GV} {v:Int} (a:aS g v=true): ∃(m:Nat) (x:GV),v=(m:Int)/\1<=m/\m<=16/\g m=some x:=by
 obtain⟨⟨h1,b⟩,x,hx⟩:=bY.1 a;exact⟨v.toNat,x,by omega,by omega,by omega,hx⟩
section
variable {gh dy:Gh} {h:HS}
theorem HI.WE (H:HI gh h) {v:Int} (w:aS h.g v=true) {a b:Int} (l:0<=a/\a<65536) (hb:1<=b/\b<=7) (hc:4<=cm h.s.2 0):lf h v a b=if(gT h v.toNat a).2.2.1=0 then 5 else 0:=by
 obtain⟨x,hx,y,hv,z,A⟩:=bX w;unfold lf;rw[ao (by omega),ao (by omega)];obtain⟨n,G,q,t1,t2,t3⟩:=sL (ds:=h.s.2) (o:=v) (by omega) H.inv.fz ⟨z,A⟩;rw[ao (λe=>e t2)];have C:iT h v=(n:Int):=t1;have r:iJ h v=(h.s.1,h.s.2.set n (4,v,0,0,())):=by unfold iJ;rw[t3]
 have B:Inv.fg gh h.s (iJ h v):=by
  rw[r];refine gR H.inv ⟨rfl,by rw[AY]⟩ (λb hb=>absurd rfl hb) λ{i d d'} h1 D=>?_;rcases vA q h1 D with ⟨_,m,k⟩|⟨_,k⟩
  ·exact .inr ⟨by rw[m];decide,by rw[k];exact(show ¬ (4:Int)=3 by decide),λc=>by rw[k] at c;exact absurd c (show ¬ (4:Int)=0 by decide)⟩
  ·exact .inl k
 have p:=H.inv.beside B;have t:=H.inv.dG B (H.root hx) a;have I:=H.inv.le;have E:0<=(n:Int)/\(n:Int)<4096:=by omega
 have J:cm (iJ h v).2 0+1=cm h.s.2 0:=by
  rw[r];have:=qg (d':=((4:Int),v,(0:Int),(0:Int),())) q 0;rw[aw (show zD.1=0 from rfl),ao (show ¬ (4:Int)=0 by decide)] at this;exact this
 rw[C,y,bP hx];by_cases e:(bD h.s x.root false a).2.2.1=0
 ·rw[aw e];rw[<-t] at e;unfold bD at e;rw[ao (by decide),ao (by omega)] at e;have m:(cW (iJ h v).1 x.root a).1=true:=by
   cases h1:(cW (iJ h v).1 x.root a).1 with
   |true=>rfl
   |false=>rw[h1,ao (by decide)] at e;exact absurd e (show ¬ (4:Int)=0 by decide)
  have F:k_ a (n:Int) b=0:=by unfold k_;rw[ao (by omega),ao (by omega)]
  unfold kh kZ;rw[ao (by decide),aw F,m,Bool.true_or,aw rfl]
 ·rw[ao e];rw[<-t] at e;obtain⟨f,j,K,u⟩:=p.lD (H.root hx) l;refine p.Wf (H.root hx) l E hb u ?_ (by omega);rw[p.fy (H.root hx) l u] at e;unfold l5 at e;cases h1:(aL (iJ h v).1 (16*f+px j a % 16)).1 with
  |false=>rfl
  |true=>rw[aw h1] at e;exact absurd rfl e
structure adp (h h':HS) (f o b:Int):Prop where
 g:h'.g=h.g
 gr:h'.gr=h.gr
 po:h'.po=h.po
 pg: ∀{i:Nat} {q:Int},gT h' i q=gT h i q
 ds:h'.s.2=h.s.2
 ld: ∀q,dQ h'.s.1 q=if q=16*f+o then b else dQ h.s.1 q
end
section
variable {gh:Gh} {h:HS} {v k a b c:Int} {l:List Int}
theorem aay (d:aS h.g v=true) (e:tg k=false) (f:fx k a b c=true):gw h v k a b c=0:=by
 obtain⟨m,x,rfl,h1,i, _⟩:=Ta d;unfold gw;rw[f,e,d,ao,ao,ao]
 ·simp
 ·have:((m:Int)==0)=false:=by rw[beq_eq_false_iff_ne];omega
  rw[this];decide
 ·simp;omega
theorem y8 (d:gw h v k a b c=0):iX h v k a b c=(run h v k a b c).1/\oO h v k a b c=(run h v k a b c).2.2/\qF h v k a b c=if(run h v k a b c).2.2=0 then(run h v k a b c).2.1 else 0:=by
 unfold iX oO qF;rw[aw d,aw d,aw d];exact⟨rfl,rfl,rfl⟩
theorem aaz (d:aS h.g v=true):iX h v 3 a b 0=js h v a b/\oO h v 3 a b 0=lf h v a b/\qF h v 3 a b 0=if lf h v a b=0 then iT h v else 0:=by
 obtain⟨h1,f,i⟩:=y8 (aay (k:=3) (a:=a) (b:=b) (c:=0) d rfl rfl);have e:(run h v 3 a b 0).2.2=lf h v a b:=by
  show(rS h v a b).2= _;unfold rS;split
  ·rename_i e;rw[e]
  ·rfl
 refine⟨h1,f.trans e,i.trans ?_⟩;rw[e];show(if lf h v a b=0 then(rS h v a b).1 else 0)= _;unfold rS;split<;>rfl
structure WS (h:HS) (v:Int) (l:List Int):Prop where
 hi: ∃gh,HI gh h
 lv:aS h.g 1=true
 tk:mK h 1=[]
 ct:4*12<=cm h.s.2 0+4*l.length
 pg: ∀a∈l, ∃f,gT h 1 a=(f,3,0,())/\dQ h.s.1 (16*f+3)=aH .u64 v a/\dQ h.s.1 (16*f+4)=0
 no: ∀a,(gT h 1 a).2.2.1=0->a∈l
end
section
variable {gh:Gh} {h:HS} {v k a b c:Int}
theorem Ff {g:Nat->Option GV} {n i:Nat} {f:GV->GV}:(bq g n (match g n with|some x=>some (f x)|none=>none) i).isSome=(g i).isSome/\(i≠n->bq g n (match g n with|some x=>some (f x)|none=>none) i=g i):=by grind[bq]
theorem ab_ (h:HS) (v a b:Int):(js h v a b).g=h.g:=by
 unfold js;split
 ·rfl
 split
 ·rfl
 split
 ·rfl
 split
 ·rfl
 ·rfl
theorem WG (d:1<=k/\k<=17) (hc:tg k=false) (i:Nat):((run h v k a b c).1.g i).isSome=(h.g i).isSome:=by
 have:k=1\/k=2\/k=3\/k=4\/k=5\/k=6\/k=7\/k=8\/k=9\/k=10\/k=11\/k=12\/k=13\/k=14\/k=15\/k=16\/k=17:=by omega
 rcases this with rfl|rfl|rfl|rfl|rfl|rfl|rfl|rfl|rfl|rfl|rfl|rfl|rfl|rfl|rfl|rfl|rfl
 ·cases hc
 ·cases hc
 ·show((js h v a b).g i).isSome= _;rw[ab_]
 ·show((ki h v a).g i).isSome= _;unfold ki;split<;>rfl
 ·show((jZ h v a b).g i).isSome= _;unfold jZ;split
  ·rfl
  split
  ·rfl
  split<;>rfl
 ·rfl
 ·show((kq h v a b).g i).isSome= _;unfold kq;split<;>rfl
 ·show((iM h v a b c).g i).isSome= _;unfold iM;split<;>rfl
 ·show((jx h v a b c).g i).isSome= _;unfold jx;split
  ·rfl
  split
  ·exact Ff.1
  ·rfl
 ·show((ir h v a).g i).isSome= _;unfold ir;split
  ·rfl
  split
  ·exact Ff.1
  ·rfl
 ·show((gf h v a).g i).isSome= _;unfold gf;split<;>rfl
 ·show((l_ h v a).g i).isSome= _;unfold l_;split<;>rfl
 ·show((ma h v a b).g i).isSome= _;unfold ma;split
  ·rfl
  split<;>rfl
 ·show((l9 h v a).g i).isSome= _;unfold l9;split<;>rfl
 ·rfl
 ·show((jg h v a).g i).isSome= _;unfold jg;split<;>rfl
 ·cases hc
structure LS (n:Nat) (h:HS):Prop where
 hi: ∃gh,HI gh h
 g1: ∃x,h.g 1=some x
 go: ∀i,i≠1->h.g i=none
 ln:h.s.2.length=n
end
section
variable {gh:Gh} {h:HS} {v k a b c:Int}
theorem HI.WH (H:HI gh h) {v p:Int} (e:aS h.g v=true) (r:(gT h v.toNat p).2.2.1=0): ∃(n:Nat) (d:DT),(gT h v.toNat p).1=(n:Int)/\h.s.2[n]? =some d/\d.1=4/\(d.2.1=v<->gi h v p=false)/\0<=p/\p<65536:=by
 obtain⟨x,hx, _,hv,u,w⟩:=bX e;have i:lY h v.toNat p=some (gT h v.toNat p).1:=by rw[eo,aw r]
 have m:=H.hc.iY i;cases b:cd x.tk p with
 |none=>
  obtain⟨n,d,j,k,l,t⟩:=H.hc.own i (by rw[eR hx];exact b);refine⟨n,d,j.symm,k,l,⟨λ_=>?_,λ_=>by omega⟩,m.2.2⟩;unfold gi;rw[Cc e hx,b]
 |some y=>
  obtain⟨n,d,o,j,k,l,t,z, _⟩:=H.hc.Zu (a:=y.1) (f:=y.2) (by rw[eR hx];exact b);have q:=(H.hc.Cw (a:=y.1) (f:=y.2) (by rw[eR hx];exact b)).1;rw[i] at q;refine⟨n,d,(Option.some.inj q).trans j.symm,k,l,⟨λc=>by omega,λc=>?_⟩,m.2.2⟩;unfold gi at c;rw[Cc e hx,b] at c;cases c
end
abbrev LT:Type:=Int×Int×Int×Int×Unit
abbrev AK:Type:=Int×Int×Int×Unit
abbrev CT:Type:=Int×Int×Int×Int×Unit
abbrev MT:Type:=Int×Int×Int×CT×Int×Int
def CO (t p:Int) (l:LT):Bool:=l.1==t&&l.2.1==p
def C7 (ls:List LT) (t p:Int):List LT:=ls.filter λl=> !CO t p l
def WI (ls:List LT) (t:Int):List LT:=ls.filter λl=> !(l.1==t)
def iZ (ls:List LT) (t p:Int):List LT:=if p= -1 then WI ls t else C7 ls t p
def qW (ls:List LT) (sz:Int) (l:LT):List LT:=
 (if ls.any (CO l.1 l.2.1)=true then C7 ls l.1 l.2.1 else if(ls.length:Int)=sz then ls.drop 1 else ls)++[l]
def mW (ls:List LT) (t p w:Int):Int×Int:=match ls.find? (CO t p) with
 |none=>(0,4)
 |some l=>if w<0\/w>7\/gN .i64 w l.2.2.2.1≠0 then(0,7) else(l.2.2.1,0)
structure vM where
 now:Int
 pins:List Int
 ws:List (Int×Int)
def AP (e:vM) (n:Nat):vM:=if e.pins.getD n 0= -1 then{e with pins:=e.pins.set n e.now} else e
def vb (e:vM) (n:Nat):vM:={e with pins:=e.pins.set n (-1)}
def lj (e:vM) (f:Int):vM:=if e.ws.any (λx=>x.1==f)=true then e else{e with ws:=(f,e.now)::e.ws}
def e_ (e:vM):vM:=if e.pins.all (λp=>p== -1||p==e.now)=true then{e with now:=e.now+1} else e
def my (e:vM):List Int:=mQ ((e.ws.filter λx=>decide (x.2+2<=e.now)).map (·.1))
def CP (e:vM):vM:={e with ws:=e.ws.filter λx=> !decide (x.2+2<=e.now)}
structure bG where
 ls:List LT
 ph:Int
 vm:Int
 c:CT
 wk:Int×Int×FT
 fr:Int
 rs:Int×Int
 ak:Int
 fs:List Int
def cv (ls:List LT):bG:=⟨ls,0,0,(0,0,0,0,()),(0,0,(0,0,0,0,())),0,(0,0),0,[]⟩
structure MS where
 h:HS
 ep:vM
 bx:List (List AK)
 op:List Int
 cs:List bG
 kn:List Int
 ms:List MT
 sz:Int
def a7 (k:Int):Int:=if k=6 then 1 else if k=7 then 2 else 0
def jG (h:HS) (x:bG):Bool:=decide (a7 x.c.1>0)&&(aS h.g x.vm&&(fx x.c.1 x.c.2.1 x.c.2.2.1 x.c.2.2.2.1&&decide (x.c.2.1<1048576)))
def nJ (s:MS) (n:Nat) (x:bG):Bool:=(Bx s.cs.length).any λi=>match s.cs[i]? with
 |none=>false
 |some y=>decide (i≠n/\x.vm=0)&&((x.c.1==1&&(y.ph==4&&y.c.1==2))||(x.c.1==2&&(decide (y.ph>=2)&&(decide (y.vm>0)&&y.vm==x.c.2.1))))
def g_ (s:MS) (f:Int):MS:={s with h:=bA s.h (iz s.h.s f),kn:=s.kn.filter (λx=> !(x==f)),ms:=s.ms++[(2,0,f,(0,0,0,0,()),0,0)]}
def cQ (s:MS):MS×Nat:=((my (e_ s.ep)).foldl g_ {s with ep:=CP (e_ s.ep)},(my (e_ s.ep)).length)
def eJ (s:MS) (h':HS):List Int:=((Bx h'.s.2.length).map λ(f:Nat)=>(f:Int)).filter λf=>(oN h'.s.2 f).1==5&& !s.kn.contains f
def bS (s:MS) (n:Nat) (x:bG):MS:={s with cs:=s.cs.set n x}
def cz (bx:List (List AK)) (op:List Int) (n:Nat) (t p:Int):Int×List (List AK)×List Int:=
 if t<1\/t>16\/p< -1\/p>=65536 then(0,bx,op)
 else if(bx.eraseIdx n).any (λq=>q.length==16)=true then(0,bx,op)
 else((op.length:Int)+1,(bx.zipIdx.map λ(q,i)=>if i=n then q else q++[((op.length:Int)+1,t,p,())]),op++[(bx.length:Int) - 1])
abbrev St:Type:=MS×(Int×Int)×Bool
def fp (s:MS) (n:Nat) (x:bG):St:=
 let h':=iX s.h x.vm x.c.1 x.c.2.1 x.c.2.2.1 x.c.2.2.2.1
 let V:=qF s.h x.vm x.c.1 x.c.2.1 x.c.2.2.1 x.c.2.2.2.1
 let E:=oO s.h x.vm x.c.1 x.c.2.1 x.c.2.2.1 x.c.2.2.2.1
 let fs:=eJ s h'
 let s1:MS:={s with h:=h',kn:=s.kn++fs,ms:=s.ms++[(1,x.vm,0,x.c,V,E)]}
 let x1:bG:={x with rs:=(V,E),fs:=fs}
 if x.c.1=2\/x.c.1=4\/x.c.1=5\/x.c.1=10 then
  if E≠0 then(bS s1 n x1,(V,E),true)
  else
   let t:=if x.c.1=2 then aE .i64 x.c.2.1 else x.vm
   let p:=if x.c.1=2 then -1 else aE .i64 x.c.2.1
   let q:=cz s.bx s.op n t p
   (bS {s1 with bx:=q.2.1,op:=q.2.2} n {x1 with ls:=iZ x.ls t p,ak:=q.1,ph:=4},(0,0),false)
 else(bS s1 n x1,(V,E),true)
def cZ (s:MS) (n:Nat) (x:bG):St:=
 if jG s.h x=true then
  let e:=AP s.ep n
  let a:=mW x.ls x.vm (x.c.2.1 / 16) (a7 x.c.1)
  if a.2=0 then(bS {s with ep:=e} n {x with ph:=3,fr:=a.1},(0,0),false)
  else(bS {s with ep:=e} n {x with ph:=2,wk:=lW s.h.s.1 (a8 s.h.g x.vm) (x.c.2.1 / 16) (a7 x.c.1) 0},(0,0),false)
 else if nJ s n x=true then(s,(0,9),true)
 else if x.vm=0/\x.c=(17,0,0,0,()) then((cQ s).1,(((cQ s).2:Nat),0),true)
 else fp s n x
def j7 (s:MS) (n:Nat) (x:bG):St:=
 let w:=bF s.h.s.1 (x.c.2.1 / 16) (a7 x.c.1) x.wk
 let x1:bG:={x with wk:=w}
 if w.2.1≠ -1 then(bS s n x1,(0,0),false)
 else if w.2.2.2.2.2.1≠0 then(bS {s with ep:=vb s.ep n} n x1,(0,w.2.2.2.2.2.1),true)
 else(bS s n {x1 with ls:=qW x.ls s.sz (x.vm,x.c.2.1 / 16,w.2.2.1,w.2.2.2.1,()),ph:=3,fr:=w.2.2.1},(0,0),false)
def fB (s:MS) (n:Nat) (x:bG):St:=
 let at_:=16*x.fr+x.c.2.1 % 16
 if x.c.1=7 then({s with h:=bA s.h (dT s.h.s.1 at_ x.c.2.2.1,s.h.s.2),ep:=vb s.ep n,ms:=s.ms++[(4,0,at_,(0,0,0,0,()),x.c.2.2.1,0)]},(0,0),true)
 else({s with ep:=vb s.ep n,ms:=s.ms++[(3,0,at_,(0,0,0,0,()),dQ s.h.s.1 at_,0)]},(dQ s.h.s.1 at_,0),true)
def tC (s:MS) (a:Int):Bool:=decide (1<=a/\a<=(s.op.length:Int))&&s.op.getD (a - 1).toNat 0==0
def h_ (s:MS) (x:bG):St:=if tC s x.ak=true then({s with ep:=x.fs.foldl lj s.ep},x.rs,true) else(s,(0,0),false)
def bO (s:MS) (n:Nat) (x:bG):St:=
 if x.ph=0 then((cQ s).1,(0,0),false)
 else if x.ph=1 then cZ s n x
 else if x.ph=2 then j7 s n x
 else if x.ph=3 then fB s n x
 else h_ s x
def il (r:St) (n:Nat) (x:bG):St:=if r.2.2=true then(bS r.1 n (cv ((r.1.cs.getD n x).ls)),r.2.1,true) else(r.1,(0,0),false)
def tq (s:MS) (n:Nat):Option (AK×MS):=match s.bx[n]? with
 |some (a::q)=>some (a,{s with bx:=s.bx.set n q,op:=s.op.set (a.1 - 1).toNat (s.op.getD (a.1 - 1).toNat 0 - 1)})
 | _=>none
def iB (s:MS) (n:Nat) (x:bG):St:=
 if x.ph=3 then il (bO s n x) n x
 else match tq s n with
  |some (a,s1)=>(bS s1 n {x with ls:=iZ x.ls a.2.1 a.2.2.1},(0,0),false)
  |none=>il (bO s n x) n x
def aR (s:MS) (n:Int):St:=if n<0 then(s,(0,0),false) else match s.cs[n.toNat]? with
 |none=>(s,(0,0),false)
 |some x=>iB s n.toNat x
def tr (s:MS) (n:Int):Int:=if n<0 then 2 else match s.cs[n.toNat]? with
 |none=>2
 |some x=>if x.ph=0 then 0 else 9
def cP (s:MS) (n vm:Int) (c:CT):MS:=if n<0 then s else match s.cs[n.toNat]? with
 |none=>s
 |some x=>if x.ph=0 then bS s n.toNat {x with ph:=1,vm:=vm,c:=c} else s
def m0 (b a:Nat) (c:Int):MS where
 h:=h0 b
 ep:=⟨0,D8 a (-1),[]⟩
 bx:=D8 a []
 op:=[]
 cs:=D8 a (cv [])
 kn:=[]
 ms:=[]
 sz:=c
section
variable {gh:Gh} {h:HS} {v k a b c:Int}
end
abbrev cg (a:Int):Prop:=0<=a/\a<18446744073709551616
structure MA (n:Nat) (s:MS):Prop where
 hi: ∃gh,HI gh s.h
 nn:1<=n/\n<=8
 lc:s.cs.length=n
 lb:s.bx.length=n
 lp:s.ep.pins.length=n
 sz:1<=s.sz/\s.sz<=64
 ph: ∀x∈s.cs,0<=x.ph/\x.ph<=4
 ar: ∀x∈s.cs,cg x.c.2.1/\cg x.c.2.2.1/\cg x.c.2.2.2.1
 tl: ∀x∈s.cs,(x.ls.length:Int)<=s.sz
 k5: ∀f∈s.kn, ∃(m:Nat) (d:DT),f=(m:Int)/\s.h.s.2[m]? =some d/\d.1=5
 nk:s.kn.Nodup
 wk: ∀e∈s.ep.ws,e.1∈s.kn
 wn:(s.ep.ws.map (·.1)).Nodup
 fk: ∀x∈s.cs,x.ph=4-> ∀f∈x.fs,f∈s.kn/\f∉s.ep.ws.map (·.1)
 fn: ∀x∈s.cs,x.ph=4->x.fs.Nodup
 fd: ∀{i j:Nat} {x y:bG},s.cs[i]? =some x->s.cs[j]? =some y->i≠j->x.ph=4->y.ph=4-> ∀f∈x.fs,f∉y.fs
 ln: ∀x∈s.cs, ∀l∈x.ls, ∃m:Nat,l.2.2.1=(m:Int)/\m<s.h.s.2.length
 rc: ∀x∈s.cs,x.ph=3-> ∃m:Nat,x.fr=(m:Int)/\m<s.h.s.2.length
 wl: ∀x∈s.cs,x.ph=2->0<=x.wk.2.1/\x.wk.2.1<=3
 ak: ∀q∈s.bx, ∀a∈q,1<=a.1/\a.1<=(s.op.length:Int)
 bl: ∀q∈s.bx,q.length<=16
def mtA (a:AK) (t p:Int):Prop:=a.2.1=t/\(a.2.2.1= -1\/a.2.2.1=p)
def rT (s:MS) (i:Nat) (f:Int):Prop:=(∃(z:Nat) (y:bG),s.cs[z]? =some y/\y.ph=4/\f∈y.fs)\/ ∃e∈s.ep.ws,e.1=f/\s.ep.pins.getD i 0<=e.2
def D9 (ta:Int->Bool) (s:MS) (i:Nat) (l:LT):Prop:=
 (1<=l.1/\l.1<=16/\0<=l.2.1/\l.2.1<65536)/\ ∃(m:Nat) (d:DT),l.2.2.1=(m:Int)/\s.h.s.2[m]? =some d/\
  ((d.1=4/\gT s.h l.1.toNat l.2.1=(l.2.2.1,l.2.2.2.1,0,()))\/
    ((d.1=4\/d.1=5)/\ ∃q a,s.bx[i]? =some q/\a∈q/\mtA a l.1 l.2.1/\
      (d.1=5->ta l.2.2.1=false/\ ∃(z:Nat) (y:bG), ∃b∈q,s.cs[z]? =some y/\y.ph=4/\l.2.2.1∈y.fs/\b.1=y.ak/\a.1<=b.1)))
def D_ (gh:Gh) (ta:Int->Bool) (s:MS) (i:Nat) (x:bG):Prop:=
 ∃l:Nat,x.wk.2.1=(l:Int)/\l<=3/\x.wk.2.2=(0,0,0,0,())/\(gh x.wk.1=some (x.vm,l,px (l+1) (x.c.2.1 / 16))\/(iP s.h.s x.wk.1/\rT s i x.wk.1/\ta x.wk.1=true))
def AQ (ta:Int->Bool) (s:MS) (i:Nat) (f:Int):Prop:=
 ∃(m:Nat) (d:DT),f=(m:Int)/\s.h.s.2[m]? =some d/\(d.1=4\/(d.1=5/\rT s i f/\ta f=false))
def AR (y:bG):Int:=if y.c.1=2 then y.c.2.1 else y.vm
def AS (y:bG):Int:=if y.c.1=2 then -1 else y.c.2.1
def jt (q:List AK) (id:Int):Bool:=q.any λa=>a.1==id
structure MI (gh:Gh) (ta:Int->Bool) (n:Nat) (s:MS):Prop where
 hi:HI gh s.h
 nn:1<=n/\n<=8
 lc:s.cs.length=n
 lb:s.bx.length=n
 lp:s.ep.pins.length=n
 sz:1<=s.sz/\s.sz<=64
 ph: ∀x∈s.cs,0<=x.ph/\x.ph<=4
 ar: ∀x∈s.cs,cg x.c.2.1/\cg x.c.2.2.1/\cg x.c.2.2.2.1
 tl: ∀x∈s.cs,(x.ls.length:Int)<=s.sz
 k5: ∀f∈s.kn, ∃(m:Nat) (d:DT),f=(m:Int)/\s.h.s.2[m]? =some d/\d.1=5
 nk:s.kn.Nodup
 wk: ∀e∈s.ep.ws,e.1∈s.kn/\0<=e.2/\e.2<=s.ep.now
 wn:(s.ep.ws.map (·.1)).Nodup
 fk: ∀x∈s.cs,x.ph=4-> ∀f∈x.fs,f∈s.kn/\f∉s.ep.ws.map (·.1)
 fn: ∀x∈s.cs,x.ph=4->x.fs.Nodup
 fd: ∀{i j:Nat} {x y:bG},s.cs[i]? =some x->s.cs[j]? =some y->i≠j->x.ph=4->y.ph=4-> ∀f∈x.fs,f∉y.fs
 kd: ∀{m:Nat} {d:DT},s.h.s.2[m]? =some d->d.1=5->(m:Int)∈s.kn/\((m:Int)∈s.ep.ws.map (·.1)\/ ∃x∈s.cs,x.ph=4/\(m:Int)∈x.fs)
 nw:0<=s.ep.now
 pn: ∀{i:Nat} {x:bG},s.cs[i]? =some x->if x.ph=2\/x.ph=3 then 0<=s.ep.pins.getD i 0/\s.ep.pins.getD i 0<=s.ep.now/\s.ep.now<=s.ep.pins.getD i 0+1 else s.ep.pins.getD i 0= -1
 ln: ∀{i:Nat} {x:bG},s.cs[i]? =some x-> ∀l∈x.ls,D9 ta s i l
 ac: ∀x∈s.cs,x.ph=2->aS s.h.g x.vm=true/\x.c.2.1<1048576/\(x.c.1=6\/x.c.1=7)
 wl: ∀{i:Nat} {x:bG},s.cs[i]? =some x->x.ph=2->D_ gh ta s i x
 rc: ∀{i:Nat} {x:bG},s.cs[i]? =some x->x.ph=3->AQ ta s i x.fr/\(x.c.1=6\/x.c.1=7)
 wt: ∀x∈s.cs,x.ph=4->1<=x.ak/\x.ak<=(s.op.length:Int)/\1<=AR x/\AR x<=16/\ -1<=AS x/\AS x<65536
 wu: ∀{i j:Nat} {x y:bG},s.cs[i]? =some x->s.cs[j]? =some y->i≠j->x.ph=4->y.ph=4->x.ak≠y.ak
 aq: ∀{i:Nat} {q:List AK},s.bx[i]? =some q->q.Pairwise (λa b=>a.1<b.1)/\ ∀a∈q, ∃(j:Nat) (y:bG),j≠i/\s.cs[j]? =some y/\y.ph=4/\a=(y.ak,AR y,AS y,())
 oc: ∀id:Nat,id<s.op.length->s.op.getD id 0=(s.bx.countP (λq=>jt q ((id:Int)+1)):Nat)
section
variable {gh:Gh} {ta:Int->Bool} {n:Nat} {s:MS}
theorem aB {α:Type} {l:List α} {i:Nat} {x:α} (h:l[i]? =some x):x∈l:=B2 h
theorem de {α:Type} {l:List α} {i j:Nat} {x y:α} (h:(l.set i x)[j]? =some y):(j=i/\y=x)\/(j≠i/\l[j]? =some y):=by
 by_cases e:i=j
 ·subst e;have a:=(AL.1 h).1;rw[AY] at a;rw[AM a] at h;cases h;exact .inl ⟨rfl,rfl⟩
 ·rw[AC e] at h;exact .inr ⟨λc=>e c.symm,h⟩
theorem iD {α:Type} {l:List α} {i:Nat} {x y:α} (h:y∈l.set i x):y=x\/y∈l:=by
 obtain⟨j,a⟩:=CJ h;rcases de a with ⟨_,e⟩|⟨_,e⟩
 ·exact .inl e
 ·exact .inr (B2 e)
end
section
variable {gh:Gh} {ta:Int->Bool} {n:Nat} {s s':MS} {i:Nat}
theorem rT.dA {f:Int} (h:rT s i f) (c: ∀{z:Nat} {y:bG},s.cs[z]? =some y->y.ph=4->s'.cs[z]? =some y) (d:s'.ep.ws=s.ep.ws) (g:s'.ep.pins.getD i 0=s.ep.pins.getD i 0):rT s' i f:=by
 rcases h with ⟨z,y,h1,a,b⟩|⟨e,h1,a,b⟩
 ·exact .inl ⟨z,y,c h1 a,a,b⟩
 ·exact .inr ⟨e,by rw[d];exact h1,a,by rw[g];exact b⟩
theorem D9.dA {l:LT} (h:D9 ta s i l) (f:s'.h=s.h) (hb:s'.bx=s.bx) (j: ∀{z:Nat} {y:bG},s.cs[z]? =some y->y.ph=4->s'.cs[z]? =some y):D9 ta s' i l:=by
 obtain⟨h0,m,d,h1,k,c⟩:=h;refine⟨h0,m,d,h1,by rw[f];exact k,?_⟩;rw[f,hb];rcases c with c|⟨c,q,a,n,o,p,r⟩
 ·exact .inl c
 ·refine .inr ⟨c,q,a,n,o,p,λe=>?_⟩;obtain⟨t,z,y,b,u,g1,g,v,w,x⟩:=r e;exact⟨t,z,y,b,u,j g1 g,g,v,w,x⟩
theorem D_.dA {x:bG} (h:D_ gh ta s i x) (a:s'.h=s.h) (b: ∀{z:Nat} {y:bG},s.cs[z]? =some y->y.ph=4->s'.cs[z]? =some y) (d:s'.ep.ws=s.ep.ws) (e:s'.ep.pins.getD i 0=s.ep.pins.getD i 0):D_ gh ta s' i x:=by
 obtain⟨l,h1,f,g,j⟩:=h;refine⟨l,h1,f,g,?_⟩;rw[a];exact j.imp id λc=>⟨c.1,c.2.1.dA b d e,c.2.2⟩
theorem AQ.dA {f:Int} (h:AQ ta s i f) (a:s'.h=s.h) (b: ∀{z:Nat} {y:bG},s.cs[z]? =some y->y.ph=4->s'.cs[z]? =some y) (e:s'.ep.ws=s.ep.ws) (g:s'.ep.pins.getD i 0=s.ep.pins.getD i 0):AQ ta s' i f:=by
 obtain⟨m,d,h1,j,k⟩:=h;refine⟨m,d,h1,by rw[a];exact j,?_⟩;exact k.imp id λc=>⟨c.1,c.2.1.dA b e g,c.2.2⟩
theorem MI.DG (M:MI gh ta n s) {x x':bG} (hx:s.cs[i]? =some x) (p:Int) (ms:List MT) (P:x.ph≠4) (v:x'.ph≠4) (k:s'={s with cs:=s.cs.set i x',ep:={s.ep with pins:=s.ep.pins.set i p},ms:=ms})
 (Q:0<=x'.ph/\x'.ph<=4) (R:cg x'.c.2.1/\cg x'.c.2.2.1/\cg x'.c.2.2.2.1) (S:(x'.ls.length:Int)<=s.sz)
 (T:if x'.ph=2\/x'.ph=3 then 0<=p/\p<=s.ep.now/\s.ep.now<=p+1 else p= -1) (U: ∀l∈x'.ls,D9 ta s i l) (V:x'.ph=2->aS s.h.g x'.vm=true/\x'.c.2.1<1048576/\(x'.c.1=6\/x'.c.1=7))
 (W:x'.ph=2->D_ gh ta s' i x') (X:x'.ph=3->AQ ta s' i x'.fr/\(x'.c.1=6\/x'.c.1=7)):MI gh ta n s':=by
 have Y:i<s.cs.length:=(AL.1 hx).1;have B: ∀{z:Nat} {y:bG},s.cs[z]? =some y->y.ph=4->s'.cs[z]? =some y:=λ{z y} h1 o=>by
  have e:i≠z:=λe=>by subst e;rw[hx] at h1;cases h1;exact P o
  rw[k];show(s.cs.set i x')[z]? = _;rw[AC e];exact h1
 have hg: ∀{z:Nat} {y:bG},s'.cs[z]? =some y->(z=i/\y=x')\/(z≠i/\s.cs[z]? =some y):=λh=>by
  rw[k] at h;exact de h
 have w: ∀{y:bG},y∈s'.cs->y=x'\/y∈s.cs:=λh=>by
  rw[k] at h;exact iD h
 have t:s'.h=s.h:=by rw[k]
 have hb:s'.bx=s.bx:=by rw[k]
 have K:s'.op=s.op:=by rw[k]
 have D:s'.kn=s.kn:=by rw[k]
 have C:s'.ep.ws=s.ep.ws:=by rw[k]
 have E:s'.ep.now=s.ep.now:=by rw[k]
 have L:s'.sz=s.sz:=by rw[k]
 have F:s'.ep.pins=s.ep.pins.set i p:=by rw[k]
 have Z:s'.ep.pins.getD i 0=p:=by
  rw[F,Ax,AM (by rw[M.lp, <-M.lc];exact Y)];rfl
 have G: ∀{j:Nat},j≠i->s'.ep.pins.getD j 0=s.ep.pins.getD j 0:=λ{j} r=>by
  rw[F,Ax,AC (λe=>r e.symm),Ax]
 refine⟨by rw[t];exact M.hi,M.nn,by rw[k];show(s.cs.set i x').length=n;rw[AY];exact M.lc,by rw[hb];exact M.lb,by rw[F,AY];exact M.lp,by rw[L];exact M.sz,λy f=>?_,λy f=>?_,λy f=>?_,
  by rw[D,t];exact M.k5,by rw[D];exact M.nk,by rw[C,D,E];exact M.wk,by rw[C];exact M.wn,λy f e=>?_,λy f e=>?_,λ{a b y z} h1 o H u A=>?_,λ{m d} h1 o=>?_,by rw[E];exact M.nw,λ{j y} h1=>?_,λ{j y} h1 l N=>?_,λy f e=>?_,λ{j y} h1 e=>?_,λ{j y} h1 e=>?_,λy f e=>?_,λ{a b y z} h1 o H u A=>?_,λ{j q} h1=>?_,by rw[K,hb];exact M.oc⟩
 ·rcases w f with rfl|f
  ·exact Q
  ·exact M.ph y f
 ·rcases w f with rfl|f
  ·exact R
  ·exact M.ar y f
 ·rw[L];rcases w f with rfl|f
  ·exact S
  ·exact M.tl y f
 ·rcases w f with rfl|f
  ·exact absurd e v
  ·rw[D,C];exact M.fk y f e
 ·rcases w f with rfl|f
  ·exact absurd e v
  ·exact M.fn y f e
 ·rcases hg h1 with ⟨_,rfl⟩|⟨_,h1⟩
  ·exact absurd u v
  ·rcases hg o with ⟨_,rfl⟩|⟨_,o⟩
   ·exact absurd A v
   ·exact M.fd h1 o H u A
 ·rw[t] at h1;obtain⟨I,J⟩:=M.kd h1 o;rw[D,C];refine⟨I,J.imp id λ⟨y,f,u,A⟩=>?_⟩;obtain⟨j,r⟩:=CJ f;exact⟨y,aB (B r u),u,A⟩
 ·rw[E];rcases hg h1 with ⟨rfl,rfl⟩|⟨r,h1⟩
  ·rw[Z];exact T
  ·rw[G r];exact M.pn h1
 ·rcases hg h1 with ⟨rfl,rfl⟩|⟨r,h1⟩
  ·exact(U l N).dA t hb B
  ·exact(M.ln h1 l N).dA t hb B
 ·rw[t];rcases w f with rfl|f
  ·exact V e
  ·exact M.ac y f e
 ·rcases hg h1 with ⟨rfl,rfl⟩|⟨r,h1⟩
  ·exact W e
  ·exact(M.wl h1 e).dA t B C (G r)
 ·rcases hg h1 with ⟨rfl,rfl⟩|⟨r,h1⟩
  ·exact X e
  ·exact⟨(M.rc h1 e).1.dA t B C (G r),(M.rc h1 e).2⟩
 ·rw[K];rcases w f with rfl|f
  ·exact absurd e v
  ·exact M.wt y f e
 ·rcases hg h1 with ⟨_,rfl⟩|⟨_,h1⟩
  ·exact absurd u v
  ·rcases hg o with ⟨_,rfl⟩|⟨_,o⟩
   ·exact absurd A v
   ·exact M.wu h1 o H u A
 ·rw[hb] at h1;obtain⟨I,J⟩:=M.aq h1;refine⟨I,λa ha=>?_⟩;obtain⟨j2,y,g1,g2,O,g4⟩:=J a ha;exact⟨j2,y,g1,B g2 O,O,g4⟩
theorem tW (M:MI gh ta n s) {x:bG} (hx:s.cs[i]? =some x):s.ep.pins.set i (s.ep.pins.getD i 0)=s.ep.pins:=by
 have a:i<s.ep.pins.length:=by rw[M.lp, <-M.lc];exact(AL.1 hx).1
 refine F5 λj=>?_;rw[GS];by_cases e:i=j
 ·subst e;rw[aw rfl,aw a,Ax,B5 a];rfl
 ·rw[ao e]
theorem MI.ask (M:MI gh ta n s) (k vm:Int) {c:CT} (hc:cg c.2.1/\cg c.2.2.1/\cg c.2.2.2.1):MI gh ta n (cP s k vm c):=by
 unfold cP;split
 ·exact M
 cases hx:s.cs[k.toNat]? with
 |none=>exact M
 |some x=>
  dsimp only;split
  ·rename_i h0;have a:=M.pn hx;rw[h0,ao (by decide)] at a;refine M.DG (x':={x with ph:=1,vm:=vm,c:=c}) hx (s.ep.pins.getD k.toNat 0) s.ms (by rw[h0];decide) (show ¬ (1:Int)=4 by decide) ?_ (show 0<=(1:Int)/\(1:Int)<=4 by decide) hc (M.tl x (aB hx)) ?_ (λl b=>M.ln hx l b) (λe=>absurd e (show ¬ (1:Int)=2 by decide)) (λe=>absurd e (show ¬ (1:Int)=2 by decide)) (λe=>absurd e (show ¬ (1:Int)=3 by decide))
   ·rw[tW M hx];rfl
   ·show if(1:Int)=2\/(1:Int)=3 then _ else _;rw[ao (by decide)];exact a
  ·exact M
theorem MI.idle (M:MI gh ta n s) {x:bG} (hx:s.cs[i]? =some x) (a:x.ph≠4) {ls:List LT} (b: ∀l∈ls,D9 ta s i l) (c:(ls.length:Int)<=s.sz) (ms:List MT):MI gh ta n {s with cs:=s.cs.set i (cv ls),ep:=vb s.ep i,ms:=ms}:=
 M.DG (x':=cv ls) hx (-1) ms a (show ¬ (0:Int)=4 by decide) rfl (show 0<=(0:Int)/\(0:Int)<=4 by decide) (show cg 0/\cg 0/\cg 0 by decide) c (by show if(0:Int)=2\/(0:Int)=3 then _ else _;rw[ao (by decide)]) b (λe=>absurd e (show ¬ (0:Int)=2 by decide)) (λe=>absurd e (show ¬ (0:Int)=2 by decide)) (λe=>absurd e (show ¬ (0:Int)=3 by decide))
end
section
variable {gh:Gh} {ta:Int->Bool} {n:Nat} {s s':MS} {i:Nat}
def WtK (s s':MS):Prop:= ∀(z:Nat) (y:bG),s.cs[z]? =some y->y.ph=4-> ∃a,s'.cs[z]? =some a/\a.ph=4/\a.fs=y.fs/\a.ak=y.ak/\a.vm=y.vm/\a.c=y.c
theorem rT.Bh {f:Int} (h:rT s i f) (c:WtK s s') (d:s'.ep.ws=s.ep.ws) (g:s'.ep.pins.getD i 0=s.ep.pins.getD i 0):rT s' i f:=by
 rcases h with ⟨z,y,h1,a,b⟩|⟨e,h1,a,b⟩
 ·obtain⟨j,g1,k,l, _⟩:=c z y h1 a;exact .inl ⟨z,j,g1,k,by rw[l];exact b⟩
 ·exact .inr ⟨e,by rw[d];exact h1,a,by rw[g];exact b⟩
theorem D_.Bh {x:bG} (h:D_ gh ta s i x) (a:s'.h=s.h) (b:WtK s s') (d:s'.ep.ws=s.ep.ws) (e:s'.ep.pins.getD i 0=s.ep.pins.getD i 0):D_ gh ta s' i x:=by
 obtain⟨l,h1,f,g,j⟩:=h;refine⟨l,h1,f,g,?_⟩;rw[a];exact j.imp id λc=>⟨c.1,c.2.1.Bh b d e,c.2.2⟩
theorem AQ.Bh {f:Int} (h:AQ ta s i f) (a:s'.h=s.h) (b:WtK s s') (e:s'.ep.ws=s.ep.ws) (g:s'.ep.pins.getD i 0=s.ep.pins.getD i 0):AQ ta s' i f:=by
 obtain⟨m,d,h1,j,k⟩:=h;refine⟨m,d,h1,by rw[a];exact j,?_⟩;exact k.imp id λc=>⟨c.1,c.2.1.Bh b e g,c.2.2⟩
theorem tX {ls:List LT} {t p:Int} {l:LT} (h:l∈iZ ls t p):l∈ls/\ ¬ (t=l.1/\(p= -1\/p=l.2.1)):=by
 unfold iZ at h;split at h
 ·rename_i e;obtain⟨h1,a⟩:=B1.1 h;refine⟨h1,λc=>?_⟩;simp at a;exact a c.1.symm
 ·rename_i e;obtain⟨h1,a⟩:=B1.1 h;refine⟨h1,λc=>?_⟩;rcases c.2 with c2|c2
  ·exact e c2
  ·simp[CO] at a;exact a.elim (λf=>f c.1.symm) (λf=>f c2.symm)
theorem Fg (ls:List LT) (t p:Int):(iZ ls t p).length<=ls.length:=by
 unfold iZ;split<;>exact List.length_filter_le ..
theorem vB (a:AK) (q:List AK) (id:Int):jt (a::q) id=(a.1==id||jt q id):=rfl
theorem MI.pop (M:MI gh ta n s) {x:bG} (hx:s.cs[i]? =some x) {a:AK} {q:List AK} (D:s.bx[i]? =some (a::q)):
 MI gh ta n {s with bx:=s.bx.set i q,op:=s.op.set (a.1 - 1).toNat (s.op.getD (a.1 - 1).toNat 0 - 1),cs:=s.cs.set i {x with ls:=iZ x.ls a.2.1 a.2.2.1}}:=by
 have ju:i<s.cs.length:=(AL.1 hx).1;have hib:i<s.bx.length:=by rw[M.lb, <-M.lc];exact ju
 generalize E:({s with bx:=s.bx.set i q,op:=s.op.set (a.1 - 1).toNat (s.op.getD (a.1 - 1).toNat 0 - 1),cs:=s.cs.set i {x with ls:=iZ x.ls a.2.1 a.2.2.1}}:MS)=s';have v:s'.h=s.h:=by rw[<-E]
 have p:s'.ep=s.ep:=by rw[<-E]
 have N:s'.kn=s.kn:=by rw[<-E]
 have iF:s'.sz=s.sz:=by rw[<-E]
 have hb:s'.bx=s.bx.set i q:=by rw[<-E]
 have ho:s'.op=s.op.set (a.1 - 1).toNat (s.op.getD (a.1 - 1).toNat 0 - 1):=by rw[<-E]
 have eA:s'.cs=s.cs.set i {x with ls:=iZ x.ls a.2.1 a.2.2.1}:=by rw[<-E]
 have YI:s'.op.length=s.op.length:=by rw[ho,AY]
 have v7:s'.cs[i]? =some {x with ls:=iZ x.ls a.2.1 a.2.2.1}:=by rw[eA,AM ju]
 have J:WtK s s':=λz y h1 w=>by
  by_cases e:i=z
  ·subst e;rw[hx] at h1;cases h1;exact⟨_,v7,w,rfl,rfl,rfl,rfl⟩
  ·exact⟨y,by rw[eA,AC e];exact h1,w,rfl,rfl,rfl,rfl⟩
 have hg: ∀{z:Nat} {y:bG},s'.cs[z]? =some y-> ∃f,s.cs[z]? =some f/\y.ph=f.ph/\y.vm=f.vm/\y.c=f.c/\y.wk=f.wk/\y.fr=f.fr/\y.ak=f.ak/\y.fs=f.fs/\(z≠i->y=f)/\y.ls.length<=f.ls.length:=λ{z y} h=>by
  rw[eA] at h;rcases de h with ⟨rfl,rfl⟩|⟨e,h⟩
  ·exact⟨x,hx,rfl,rfl,rfl,rfl,rfl,rfl,rfl,λc=>absurd rfl c,Fg ..⟩
  ·exact⟨y,h,rfl,rfl,rfl,rfl,rfl,rfl,rfl,λ_=>rfl,Ef _⟩
 have F: ∀{y:bG},y∈s'.cs-> ∃f∈s.cs,y.ph=f.ph/\y.vm=f.vm/\y.c=f.c/\y.wk=f.wk/\y.fr=f.fr/\y.ak=f.ak/\y.fs=f.fs/\y.ls.length<=f.ls.length:=λh=>by
  obtain⟨z,hz⟩:=CJ h;obtain⟨f,g1,A,t,K,W,O,G,g8, _,g9⟩:=hg hz;exact⟨f,aB g1,A,t,K,W,O,G,g8,g9⟩
 obtain⟨hpw,u6⟩:=M.aq D;obtain⟨ja,ya,hja,hya,hpa,hea⟩:=u6 a CL;obtain⟨ha1,YH, _⟩:=M.wt ya (aB hya) hpa;have ea1:a.1=ya.ak:=by rw[hea]
 have I3: ∀b∈q,a.1<b.1:=(List.pairwise_cons.1 hpw).1;refine⟨by rw[v];exact M.hi,M.nn,by rw[eA,AY];exact M.lc,by rw[hb,AY];exact M.lb,by rw[p];exact M.lp,by rw[iF];exact M.sz,λy k=>?_,λy k=>?_,λy k=>?_,
  by rw[N,v];exact M.k5,by rw[N];exact M.nk,by rw[p,N];exact M.wk,by rw[p];exact M.wn,λy k e=>?_,λy k e=>?_,λ{a b y z} h1 w X P Q=>?_,λ{m d} h1 w=>?_,by rw[p];exact M.nw,λ{j y} h1=>?_,λ{j y} h1 l Y=>?_,λy k e=>?_,λ{j y} h1 e=>?_,λ{j y} h1 e=>?_,λy k e=>?_,λ{a b y z} h1 w X P Q=>?_,λ{j r} h1=>?_,λid F8=>?_⟩
 ·obtain⟨f,o,g1, _⟩:=F k;rw[g1];exact M.ph f o
 ·obtain⟨f,o, _, _,t, _⟩:=F k;rw[t];exact M.ar f o
 ·obtain⟨f,o, _, _, _, _, _, _, _,g⟩:=F k;have:=M.tl f o;rw[iF];omega
 ·obtain⟨f,o,g1, _, _, _, _, _,G, _⟩:=F k;rw[G,N,p];exact M.fk f o (by rw[<-g1];exact e)
 ·obtain⟨f,o,g1, _, _, _, _, _,G, _⟩:=F k;rw[G];exact M.fn f o (by rw[<-g1];exact e)
 ·obtain⟨f,u,g1, _, _, _, _, _,G, _⟩:=hg h1;obtain⟨z0,k0,B, _, _, _, _, _,k7, _⟩:=hg w;rw[G,k7];exact M.fd u k0 X (by rw[<-g1];exact P) (by rw[<-B];exact Q)
 ·rw[v] at h1;obtain⟨B,Z⟩:=M.kd h1 w;rw[N,p];refine⟨B,Z.imp id λ⟨y,k,P,Q⟩=>?_⟩;obtain⟨j,hj⟩:=CJ k;obtain⟨H,p1,p2,p3, _⟩:=J j y hj P;exact⟨H,aB p1,p2,by rw[p3];exact Q⟩
 ·obtain⟨f,u,g1, _⟩:=hg h1;rw[p,g1];exact M.pn u
 ·
  obtain⟨f,u, _, _, _, _, _, _, _,gj, _⟩:=hg h1;by_cases e:j=i
  ·subst e;rw[v7] at h1;cases h1;obtain⟨l1,l2⟩:=tX Y;obtain⟨I,m,d,R,S,T⟩:=M.ln hx l l1;refine⟨I,m,d,R,by rw[v];exact S,?_⟩;rw[v];refine T.imp id λ⟨U,qq,b,L,C,V,r8⟩=>⟨U,q,b,by rw[hb,AM hib],?_,V,λe5=>?_⟩
   ·rw[D] at L;cases L;rcases Co.1 C with rfl|C
    ·exact absurd V l2
    ·exact C
   ·obtain⟨r9,z,y,c,c0,c1,c2,c3,c4,c5⟩:=r8 e5;obtain⟨H,p1,p2,p3,p4, _⟩:=J z y c1 c2;rw[D] at L;cases L;have hbq:b∈q:=by
     rcases Co.1 C with rfl|C
     ·exact absurd V l2
     ·exact C
    have hcq:c∈q:=by
     rcases Co.1 c0 with rfl|c0
     ·have:=I3 b hbq;omega
     ·exact c0
    exact⟨r9,z,H,c,hcq,p1,p2,by rw[p3];exact c3,by rw[p4];exact c4,c5⟩
  ·rw[gj e] at Y;obtain⟨I,m,d,R,S,T⟩:=M.ln u l Y;refine⟨I,m,d,R,by rw[v];exact S,?_⟩;rw[v];refine T.imp id λ⟨U,qq,b,L,C,V,r8⟩=>⟨U,qq,b,by rw[hb,AC (λc=>e c.symm)];exact L,C,V,λe5=>?_⟩;obtain⟨r9,z,y,c,c0,c1,c2,c3,c4,c5⟩:=r8 e5;obtain⟨H,p1,p2,p3,p4, _⟩:=J z y c1 c2;exact⟨r9,z,H,c,c0,p1,p2,by rw[p3];exact c3,by rw[p4];exact c4,c5⟩
 ·obtain⟨f,o,g1,A,t, _⟩:=F k;rw[v,A,t];exact M.ac f o (by rw[<-g1];exact e)
 ·obtain⟨f,u,g1,A,t,K, _⟩:=hg h1;obtain⟨l,R,S,T,U⟩:=(M.wl u (by rw[<-g1];exact e)).Bh v J (by rw[p]) (by rw[p]);exact⟨l,by rw[K];exact R,S,by rw[K];exact T,by rw[K,A,t];exact U⟩
 ·obtain⟨f,u,g1,A,t,K,W, _⟩:=hg h1;have:=M.rc u (by rw[<-g1];exact e);rw[W,t];exact⟨this.1.Bh v J (by rw[p]) (by rw[p]),this.2⟩
 ·obtain⟨f,o,g1,A,t, _, _,O, _⟩:=F k;have:=M.wt f o (by rw[<-g1];exact e);unfold AR AS at this ⊢;rw[YI,A,t,O];exact this
 ·obtain⟨f,u,g1, _, _, _, _,O, _⟩:=hg h1;obtain⟨z0,k0,B, _, _, _, _,k6, _⟩:=hg w;rw[O,k6];exact M.wu u k0 X (by rw[<-g1];exact P) (by rw[<-B];exact Q)
 ·
  have sub: ∃I,s.bx[j]? =some I/\r.Sublist I:=by
   rw[hb] at h1;rcases de h1 with ⟨rfl,rfl⟩|⟨_,h1⟩
   ·exact⟨_,D,List.sublist_cons_self ..⟩
   ·exact⟨r,h1,List.Sublist.refl _⟩
  obtain⟨I,k0,B⟩:=sub;obtain⟨Z,k3⟩:=M.aq k0;refine⟨Z.sublist B,λb hb=>?_⟩;obtain⟨j2,y,p1,p2,p3,p4⟩:=k3 b (B.subset hb);obtain⟨H,q1,q2,q3,q4,q5,q6⟩:=J j2 y p2 p3;refine⟨j2,H,p1,q1,q2,?_⟩;unfold AR AS at p4 ⊢;rw[q4,q5,q6];exact p4
 ·
  rw[YI] at F8;have hoc:=M.oc id F8;have hbi:s.bx[i]=a::q:=(AL.1 D).2;have hnq:jt q a.1=false:=by
   unfold jt;rw[Ga];intro b hb c;have:=I3 b hb;have c':b.1=a.1:=by simpa using c
   omega
  have KM: ∀j:Int,((s.bx.set i q).countP (λr=>jt r j):Nat)=s.bx.countP (λr=>jt r j) - (if jt (a::q) j=true then 1 else 0)+(if jt q j=true then 1 else 0):=λj=>by
   rw[List.countP_set hib,hbi]
  rw[ho,hb,KM,Ax,GS,vB];by_cases e:(a.1 - 1).toNat=id
  ·have ej:(id:Int)+1=a.1:=by omega
   rw[aw e,aw (by omega),ej,hnq];have oU:0<s.bx.countP (λr=>jt r a.1):=Do.2 ⟨a::q,aB D,by rw[vB];simp⟩;rw[ej] at hoc;rw[e];simp only[beq_self_eq_true,Bool.true_or,if_true,Option.getD_some];rw[ao (by decide)];omega
  ·rw[ao e, <-Ax,hoc];have:(a.1==(id:Int)+1)=false:=by
    simp;omega
   rw[this,Bool.false_or];split
   ·rename_i hp;have oU:0<s.bx.countP (λr=>jt r ((id:Int)+1)):=Do.2 ⟨a::q,aB D,by rw[vB,hp,Bool.or_true]⟩;omega
   ·omega
end
section
variable {gh:Gh} {ta:Int->Bool} {n:Nat} {s s':MS} {i:Nat}
theorem Cd {l:List (Int×Int)} (h:(l.map (·.1)).Nodup) {a b:Int×Int} (d:a∈l) (hb:b∈l) (e:a.1=b.1):a=b:=by
 induction l with
 |nil=>cases d
 |cons c l f=>
  rw[DB,CK] at h;rcases Co.1 d with rfl|d
  ·rcases Co.1 hb with rfl|hb
   ·rfl
   ·exact absurd (Ay.2 ⟨b,hb,e.symm⟩) h.1
  ·rcases Co.1 hb with g|hb
   ·rw[g] at e;exact absurd (show c.1∈l.map (·.1) from Ay.2 ⟨a,d,e⟩) h.1
   ·exact f h.2 d hb
theorem MI.Uo (M:MI gh ta n s):MI gh ta n {s with ep:=e_ s.ep}:=by
 unfold e_;split
 ·rename_i h;rw[List.all_eq_true] at h;exact{M with
   wk:=λe g=>by
    obtain⟨a,b,c⟩:=M.wk e g;exact⟨a,b,Int.le_trans c (by show s.ep.now<=s.ep.now+1;omega)⟩
   nw:=by
    have:=M.nw;show 0<=s.ep.now+1;omega
   pn:=λ{j y} d=>by
    have:=M.pn d;show if y.ph=2\/y.ph=3 then 0<=s.ep.pins.getD j 0/\s.ep.pins.getD j 0<=s.ep.now+1/\s.ep.now+1<=s.ep.pins.getD j 0+1 else s.ep.pins.getD j 0= -1;split
    ·rename_i c;rw[aw c] at this;have f:j<s.ep.pins.length:=by rw[M.lp, <-M.lc];exact(AL.1 d).1
     have hg:s.ep.pins.getD j 0∈s.ep.pins:=by
      rw[Ax,B5 f];exact List.getElem_mem f
     have:=h _ hg;simp only[Bool.or_eq_true,beq_iff_eq] at this;omega
    ·rename_i c;rw[ao c] at this;exact this}
 ·exact M
def fJ (s:MS) (f:Int):MS:={g_ s f with ep:={s.ep with ws:=s.ep.ws.filter λx=> !(x.1==f)}}
theorem Kb (M:MI gh ta n s) {x:bG} (hx:s.cs[i]? =some x) (d:x.ph=2\/x.ph=3) {f r:Int} (c:(f,r)∈s.ep.ws) (j:r+2<=s.ep.now) {f0:Int} (P:rT s i f0):f0≠f/\rT (fJ s f) i f0:=by
 have g:=M.pn hx;rw[aw d] at g;have ne:f0≠f:=λe=>by
  subst e;rcases P with ⟨z,y,h1,a,b⟩|⟨e,h1,a,b⟩
  ·exact(M.fk y (aB h1) a f0 b).2 (Ay.2 ⟨_,c,rfl⟩)
  ·have:e=(f0,r):=by
    have h:=M.wn;exact Cd h h1 c a
   subst this;have b:s.ep.pins.getD i 0<=r:=b;omega
 refine⟨ne,?_⟩;rcases P with ⟨z,y,h1,a,b⟩|⟨e,h1,a,b⟩
 ·exact .inl ⟨z,y,h1,a,b⟩
 ·refine .inr ⟨e,B1.2 ⟨h1,?_⟩,a,b⟩;simp[a,ne]
theorem MI.fJ (M:MI gh ta n s) {f r:Int} (F:(f,r)∈s.ep.ws) (L:r+2<=s.ep.now):MI gh ta n (fJ s f):=by
 obtain⟨R, _, _⟩:=M.wk _ F;obtain⟨m,d,B,G,N⟩:=M.k5 f R;have B:f=(m:Int):=B;obtain⟨S, _,T,U⟩:=M.hi.Je G N;have O:f∈s.ep.ws.map (·.1):=Ay.2 ⟨_,F,rfl⟩;have hmn:m<s.h.s.2.length:=(AL.1 G).1;have C:(Go.Proofs.YtlcenllcmeebhaaGreat.fJ s f).h=bA s.h (s.h.s.1,s.h.s.2.set m zD):=by
  show bA s.h (iz s.h.s f)= _;rw[B,S]
 have P:(Go.Proofs.YtlcenllcmeebhaaGreat.fJ s f).h.s.2=s.h.s.2.set m zD:=by rw[C];rfl
 have V:(Go.Proofs.YtlcenllcmeebhaaGreat.fJ s f).h.s.1=s.h.s.1:=by rw[C];rfl
 have hg:(Go.Proofs.YtlcenllcmeebhaaGreat.fJ s f).h.g=s.h.g:=by rw[C];rfl
 have D: ∀{k:Nat} {d':DT},s.h.s.2[k]? =some d'->(k:Int)≠f->(Go.Proofs.YtlcenllcmeebhaaGreat.fJ s f).h.s.2[k]? =some d':=λ{k d'} h1 o=>by
  rw[P,AC (λc=>o (by rw[B,c]))];exact h1
 have H: ∀{k:Nat} {d':DT},s.h.s.2[k]? =some d'->d'.1=4->(k:Int)≠f:=λ{k d'} h1 o c=>by
  rw[B] at c;have:k=m:=by omega
  subst this;rw[G] at h1;cases h1;rw[N] at o;exact absurd o (by decide)
 have I: ∀{g:Int},g∈s.kn->g≠f->g∈(Go.Proofs.YtlcenllcmeebhaaGreat.fJ s f).kn:=λ{g} h1 o=>B1.2 ⟨h1,by simp[o]⟩;have pg: ∀i q,gT (Go.Proofs.YtlcenllcmeebhaaGreat.fJ s f).h i q=gT s.h i q:=λi q=>by rw[C];exact U.to id
 exact{M with
  hi:=by rw[C];exact T
  k5:=λg J=>by
   obtain⟨h1,o⟩:=B1.1 J;obtain⟨k,d',t,u,E⟩:=M.k5 g h1;exact⟨k,d',t,D u (by rw[<-t];simpa using o),E⟩
  nk:=M.nk.sublist DI
  wk:=λe W=>by
   obtain⟨h1,o⟩:=B1.1 W;obtain⟨t,u,E⟩:=M.wk e h1;exact⟨I t (by simpa using o),u,E⟩
  wn:=M.wn.sublist (DI.map _)
  fk:=λy K e g J=>by
   obtain⟨t,u⟩:=M.fk y K e g J;exact⟨I t λc=>u (by rw[c];exact O),λc=>u ((DI.map _).subset c)⟩
  kd:=λ{k d'} h1 o=>by
   rw[P] at h1;rcases de h1 with ⟨_,rfl⟩|⟨e,h1⟩
   ·exact absurd o (by decide)
   ·have ne:(k:Int)≠f:=λc=>e (by rw[B] at c;omega);obtain⟨t,u⟩:=M.kd h1 o;refine⟨I t ne,u.imp (λc=>?_) id⟩;obtain⟨e',g1,Q⟩:=Ay.1 c;exact Ay.2 ⟨e',B1.2 ⟨g1,by simp[Q,ne]⟩,Q⟩
  pn:=λ{j y} v=>M.pn v
  ln:=λ{j y} v l X=>by
   obtain⟨Y,k,d',A,w,p⟩:=M.ln v l X;have ne:(k:Int)≠f:=by
    rcases p with p|⟨x,q,a, _, _, _,Z⟩
    ·exact H w p.1
    ·rcases x with x|x
     ·exact H w x
     ·obtain⟨_,z,y,b, _,c1,c2,c3, _, _⟩:=Z x;have:=(M.fk y (aB c1) c2 _ c3).2;exact λc=>this (by rw[A,c];exact O)
   refine⟨Y,k,d',A,D w ne,?_⟩;rw[pg];exact p
  ac:=λy K e=>by rw[hg];exact M.ac y K e
  wl:=λ{j y} v e=>by
   obtain⟨l,A,w,p,x⟩:=M.wl v e;refine⟨l,A,w,p,x.imp id λ⟨c1,c2,c3⟩=>?_⟩;obtain⟨p1,p2⟩:=Kb M v (.inl e) F L c2;refine⟨?_,p2,c3⟩;obtain⟨k0,d',t,u,E⟩:=c1;exact⟨k0,d',D t (by rw[Et k0];exact p1),u,by rw[V];exact E⟩
  rc:=λ{j y} v e=>by
   obtain⟨⟨k,d',A,w,p⟩,x⟩:=M.rc v e;refine⟨?_,x⟩;rcases p with p|⟨r5,r6,r7⟩
   ·exact⟨k,d',A,D w (H w p),.inl p⟩
   ·obtain⟨p1,p2⟩:=Kb M v (.inr e) F L r6;exact⟨k,d',A,D w (by rw[<-A];exact p1),.inr ⟨r5,p2,r7⟩⟩}
theorem MI.X3: ∀(L:List Int) {s:MS},MI gh ta n s->L.Nodup->(∀f∈L, ∃r,(f,r)∈s.ep.ws/\r+2<=s.ep.now)->MI gh ta n (L.foldl Go.Proofs.YtlcenllcmeebhaaGreat.fJ s)
 |[], _,M, _, _=>M
 |f::L,s,M,a,b=>by
  obtain⟨r,h1,d⟩:=b f CL;refine MI.X3 L (M.fJ h1 d) (CK.1 a).2 λg hg=>?_;obtain⟨r',e,h⟩:=b g (DD _ hg);refine⟨r',B1.2 ⟨e,?_⟩,h⟩;have:g≠f:=λc=>(CK.1 a).1 (by rw[<-c];exact hg);simp[this]
theorem tY (e:vM): ∀(L:List Int) (s:MS),L.foldl g_ {s with ep:=e}={L.foldl g_ s with ep:=e}
 |[], _=>rfl
 |f::L,s=>tY e L (g_ s f)
theorem Fh: ∀(L:List Int) (s:MS),L.foldl Go.Proofs.YtlcenllcmeebhaaGreat.fJ s={L.foldl g_ s with ep:={s.ep with ws:=s.ep.ws.filter λx=> !L.contains x.1}}
 |[],s=>by
  have:(s.ep.ws.filter λx=> !([]:List Int).contains x.1)=s.ep.ws:=GH.2 λx _=>rfl;rw[this];rfl
 |f::L,s=>by
  show L.foldl Go.Proofs.YtlcenllcmeebhaaGreat.fJ (Go.Proofs.YtlcenllcmeebhaaGreat.fJ s f)= _;rw[Fh L,show(Go.Proofs.YtlcenllcmeebhaaGreat.fJ s f)={g_ s f with ep:={s.ep with ws:=s.ep.ws.filter λx=> !(x.1==f)}} from rfl,tY];show({L.foldl g_ (g_ s f) with ep:={s.ep with ws:=(s.ep.ws.filter λx=> !(x.1==f)).filter λx=> !L.contains x.1}}:MS)= _;rw[List.filter_filter];have:(λ(x:Int×Int)=>(!L.contains x.1)&& !(x.1==f))=λx=> !(f::L).contains x.1:=by
   funext x;rw[List.contains_cons];cases L.contains x.1<;>cases x.1==f<;>rfl
  rw[this];rfl
theorem yf {e:vM} {f:Int}:f∈my e<-> ∃r,(f,r)∈e.ws/\r+2<=e.now:=by
 unfold my;rw[(jQ _).mem_iff,Ay];constructor
 ·rintro⟨⟨f',r⟩,h,rfl⟩;obtain⟨h1,a⟩:=B1.1 h;exact⟨r,h1,by simpa using a⟩
 ·rintro⟨r,h1,a⟩;exact⟨(f,r),B1.2 ⟨h1,by simpa using a⟩,rfl⟩
theorem zB (M:MI gh ta n s):(cQ s).1=(my (e_ s.ep)).foldl Go.Proofs.YtlcenllcmeebhaaGreat.fJ {s with ep:=e_ s.ep}:=by
 rw[Fh];show(my (e_ s.ep)).foldl g_ {s with ep:=CP (e_ s.ep)}= _;rw[tY (CP (e_ s.ep)),tY (e_ s.ep)];have:(e_ s.ep).ws.filter (λx=> !decide (x.2+2<=(e_ s.ep).now))=(e_ s.ep).ws.filter λx=> !(my (e_ s.ep)).contains x.1:=by
  refine List.filter_congr λx hx=>?_;congr 1;rw[Bool.eq_iff_iff,List.contains_iff_mem,yf,decide_eq_true_eq];refine⟨λh=>⟨x.2,hx,h⟩,λ⟨r,h1,a⟩=>?_⟩;have:x=(x.1,r):=Cd M.Uo.wn hx h1 rfl;rw[this];exact a
 show({ (my (e_ s.ep)).foldl g_ s with ep:={e_ s.ep with ws:=(e_ s.ep).ws.filter λx=> !decide (x.2+2<=(e_ s.ep).now)}}:MS)= _;rw[this]
theorem MI.free (M:MI gh ta n s):MI gh ta n (cQ s).1:=by
 rw[zB M];refine MI.X3 _ M.Uo ?_ λf a=>yf.1 a;unfold my;refine(jQ _).nodup_iff.2 ?_;exact M.Uo.wn.sublist (DI.map _)
end
namespace Inv
variable {g:Gh} {s:WD}
theorem nj (I:Inv g s) (nl:Az g s) {o r p t f:Int} {l:Nat} (u:g r=some (o,3,0)) (n:0<=p/\p<65536) (a:g f=some (o,l,px (l+1) p)):
 (∃m:Nat,l=m+1/\(bF s.1 p t (f,(l:Int),(0,0,0,0,()))).2.1=(m:Int)/\m<=3/\(bF s.1 p t (f,(l:Int),(0,0,0,0,()))).2.2=(0,0,0,0,())/\g (bF s.1 p t (f,(l:Int),(0,0,0,0,()))).1=some (o,m,px (m+1) p))\/
 ((bF s.1 p t (f,(l:Int),(0,0,0,0,()))).2.1= -1/\((bF s.1 p t (f,(l:Int),(0,0,0,0,()))).2.2.2.2.2.1=0->bD s r false p=((bF s.1 p t (f,(l:Int),(0,0,0,0,()))).2.2.1,(bF s.1 p t (f,(l:Int),(0,0,0,0,()))).2.2.2.1,0,()))):=by
 have v:=I.kd a;have w:=v.2.2.2.2.2;obtain⟨x,y,F⟩:=I.vJ a;have hi:=eY p l;have h:=lA ⟨x,y⟩ n w;have z:uQ s.1 (eB f p (l:Int))=true:=by rw[h];exact jj (by omega) (by omega)
 have A:uP (B (dQ s.1 (eB f p (l:Int)))).toNat=true:=by
  rw[h];cases hb:(aL s.1 (16*f+px l p % 16)).1 with
  |true=>exact C4 hb
  |false=>rw[I.wf a hi.1 hi.2 hb];decide+kernel
 rw[tF z A,h];have b:=I.sM a hi.1 hi.2;have i:=nl a hi.1 hi.2;have j:dO (aL s.1 (16*f+px l p % 16))=false->bD s r false p=l5 p l (aL s.1 (16*f+px l p % 16)):=λc=>I.fy u n ⟨a,c⟩;revert b i j;generalize aL s.1 (16*f+px l p % 16)=e;intro b i j;unfold tookS;split
 ·exact .inr ⟨rfl,λc=>absurd c (show ¬ (4:Int)=0 by decide)⟩
 rename_i h1;have h1:e.1=true:=by simpa using h1
 split
 ·rename_i d;rw[DZ,decide_eq_true_eq] at d;obtain⟨m,q,hg⟩:=b d.1;subst q;refine .inl ⟨m,rfl,?_,by omega,rfl,?_⟩
  ·show aX .i64 ((m+1:Nat):Int) 1= _;rw[bC (by omega) (by omega)];omega
  ·rw[<-nV p (m+1)] at hg;exact hg
 rename_i d;split
 ·rename_i C;rw[DZ,beq_iff_eq] at C;have k:dO e=false:=by
   cases c:dO e with
   |false=>rfl
   |true=>exact absurd (by rw[show fV e.1 e.2.1 e.2.2.1 e.2.2.2.1=true from c,decide_eq_true (by omega:(l:Int)>0)];rfl) d
  have:=i h1 k;omega
 split
 ·rename_i D;rw[DZ,beq_iff_eq] at D;have E:l=0:=by omega
  subst E;have k:dO e=false:=by
   cases c:dO e with
   |false=>rfl
   |true=>
    obtain⟨m,q, _⟩:=b c;omega
  refine .inr ⟨rfl,λc=>?_⟩;rw[j k];unfold l5;rw[aw h1,ao (by decide)];revert c;dsimp only;unfold ym;split
  ·intro c;exact absurd c (show ¬ (11:Int)=0 by decide)
  split
  ·intro _;rfl
  ·intro c;exact absurd c (show ¬ (7:Int)=0 by decide)
 ·exact .inr ⟨rfl,λc=>absurd c (show ¬ (11:Int)=0 by decide)⟩
theorem nq (I:Inv g s) {p t f:Int} {l:Nat} (c:0<=p/\p<65536) (e:l<=3) (G:iP s f):(bF s.1 p t (f,(l:Int),(0,0,0,0,()))).2.1= -1/\(bF s.1 p t (f,(l:Int),(0,0,0,0,()))).2.2.2.2.2.1=4:=by
 obtain⟨h0,d,h1, _,h⟩:=G;have k:=I.len;have m:=I.le;have n:f.toNat<s.2.length:=(AL.1 h1).1;have hi:=eY p l;have a:=lA (f:=f) ⟨h0,by omega⟩ c e;have b:=h (px l p % 16) hi.1 hi.2;have i:uQ s.1 (eB f p (l:Int))=true:=by rw[a];exact jj (by omega) (by omega)
 have j:uP (B (dQ s.1 (eB f p (l:Int)))).toNat=true:=by rw[a,b];decide+kernel
 rw[tF i j,a,Zp b];exact⟨rfl,rfl⟩
end Inv
section
variable {gh:Gh} {h:HS}
theorem HI.aaB (H:HI gh h) {n:Nat} {d:DT} (c:h.s.2[n]? =some d) (d4:d.1=4\/d.1=5) {o:Int} (f:0<=o/\o<16) (b:Int):HI gh (bA h (dT h.s.1 (16*(n:Int)+o) b,h.s.2))/\AA h (bA h (dT h.s.1 (16*(n:Int)+o) b,h.s.2)) (λ_ _=>False):=by
 have d3:d.1≠3:=by omega
 have B:Inv.fg gh h.s (dT h.s.1 (16*(n:Int)+o) b,h.s.2):=by
  refine gR H.inv ⟨cH _ _ _,rfl⟩ (λq e=>⟨n,d,c,d3,?_⟩) λ{i d d'} h1 a=>?_
  ·refine B3 λhc=>e ?_;show dQ (dT h.s.1 (16*(n:Int)+o) b) q= _;rw[mS (by omega)]
  ·rw[h1] at a;cases a;exact .inl rfl
 exact⟨H.side B H.hc,H.Dl B (h':=bA h (dT h.s.1 (16*(n:Int)+o) b,h.s.2)) rfl rfl _⟩
end
set_option maxRecDepth 100000
open Go.RX D
section
variable {gh:Gh} {ta:Int->Bool} {n:Nat} {s s':MS} {i:Nat}
theorem tG (M:MI gh ta n s) {v:Int} (a:aS s.h.g v=true): ∃x:GV,s.h.g v.toNat=some x/\a8 s.h.g v=x.root/\gh x.root=some (v,3,0)/\1<=v/\v<=16:=by
 obtain⟨x,hx,b,c⟩:=bX a;refine⟨x,hx,b,?_,by omega⟩;rw[M.hi.root hx,Et (by omega)]
theorem ID (M:MI gh ta n s) {l:LT} (h:D9 ta s i l) (g:s'.h=s.h) (j: ∀{z:Nat} {y:bG},s.cs[z]? =some y->y.ph=4->s'.cs[z]? =some y):AQ ta s' i l.2.2.1:=by
 obtain⟨_,m,d,h1,k,c⟩:=h;refine⟨m,d,h1,by grind,?_⟩;rcases c with c|⟨c,q,a,o,p,r,e⟩
 ·grind
 ·rcases c with c|c
  ·grind
  ·obtain⟨f,z,y,b, _,c1,c2,c3, _⟩:=e c;exact .inr ⟨c,.inl (by grind),f⟩
theorem Kc (M:MI gh ta n s) {x:bG} (hx:s.cs[i]? =some x) (h1:x.ph=1):AP s.ep i={s.ep with pins:=s.ep.pins.set i s.ep.now}:=by
 have a:=M.pn hx;unfold AP
 grind
theorem Fi {x:bG} (hx:s.cs[i]? =some x) (a:x.ph≠4) (x':bG): ∀{z:Nat} {y:bG},s.cs[z]? =some y->y.ph=4->(s.cs.set i x')[z]? =some y:=by grind
theorem MI.F6 (M:MI gh ta n s) {x:bG} (hx:s.cs[i]? =some x) (h1:x.ph=1) (a:jG s.h x=true) {l:LT} (b:l∈x.ls):MI gh ta n {s with cs:=s.cs.set i {x with ph:=3,fr:=l.2.2.1},ep:=AP s.ep i}:=by
 have e:x.c.1=6\/x.c.1=7:=by
  unfold jG at a;simp at a;have:=a.1;unfold a7 at this
  grind
 rw[Kc M hx h1];have d:x.ph≠4:=by omega
 have f:=M.nw;refine M.DG hx _ _ d (by grind) rfl (by grind) (M.ar x (aB hx)) (M.tl x (aB hx)) ?_ (λl b=>M.ln hx l b) (by grind) (by grind) λ_=>⟨?_,e⟩
 grind
 ·exact ID M (M.ln hx l b) rfl (Fi hx d _)
theorem MI.aaC (M:MI gh ta n s) {x:bG} (hx:s.cs[i]? =some x) (h1:x.ph=1) (a:jG s.h x=true):MI gh ta n {s with cs:=s.cs.set i {x with ph:=2,wk:=lW s.h.s.1 (a8 s.h.g x.vm) (x.c.2.1 / 16) (a7 x.c.1) 0},ep:=AP s.ep i}:=by
 unfold jG at a;simp at a;obtain⟨b,d,a⟩:=a;have o:x.c.1=6\/x.c.1=7:=by
  unfold a7 at b
  grind
 rw[Kc M hx h1];have e:x.ph≠4:=by omega
 have p:=M.nw;have f:=M.ar x (aB hx);obtain⟨g,hg,j,k,hv⟩:=tG M d;refine M.DG hx _ s.ms e (by grind) rfl (by grind) f (M.tl x (aB hx)) ?_ (λl m=>M.ln hx l m) (by grind) (λ_=>?_) (by grind)
 grind
 ·refine⟨3,rfl,by decide,rfl,.inl ?_⟩;show gh _=some (x.vm,3,px 4 (x.c.2.1 / 16));rw[px4 (by omega),j];exact k
theorem tH {a:Int} (h:0<=a/\a<1048576):0<=a / 16/\a / 16<65536:=by omega
theorem Fj {ls:List LT} {sz:Int} {l y:LT} (h:y∈qW ls sz l):y∈ls\/y=l:=by
 rcases FR.1 h with h|h
 ·left;split at h
  ·exact(B1.1 h).1
  grind
 grind
theorem Tb {ls:List LT} {sz:Int} {l:LT} (h:(ls.length:Int)<=sz) (h1:1<=sz):((qW ls sz l).length:Int)<=sz:=by
 unfold qW;rw[Gc];show(_+1: )<=sz;split
 ·have:(C7 ls l.1 l.2.1).length<ls.length:=by
   unfold C7
   simp_all
  omega
 grind
theorem MI.walk (M:MI gh ta n s) {x:bG} (hx:s.cs[i]? =some x) (o:x.ph=2):MI gh ta n (il (j7 s i x) i x).1:=by
 have g:=aB hx;have r:=M.ar x g;obtain⟨B,C,D⟩:=M.ac x g o;obtain⟨l,w1,E,L,a⟩:=M.wl hx o;have j:=tH ⟨r.1.1,C⟩;have p:x.ph≠4:=by omega
 have T:i<s.cs.length:=(AL.1 hx).1;have F:=M.pn hx;rw[o,aw (by decide)] at F;have k:x.wk=(x.wk.1,(l:Int),(0,0,0,0,())):=Prod.ext rfl (Prod.ext w1 L);obtain⟨N,hg,U,G,O,P⟩:=tG M B;have idle: ∀w,MI gh ta n (il (bS {s with ep:=vb s.ep i} i {x with wk:=w},((0:Int),(w.2.2.2.2.2.1:Int)),true) i x).1:=λw=>by
  unfold il;rw[aw rfl];have e:((bS {s with ep:=vb s.ep i} i {x with wk:=w}).cs.getD i x).ls=x.ls:=by
   show((s.cs.set i _).getD i x).ls= _
   grind
  rw[e];have Q:bS (bS {s with ep:=vb s.ep i} i {x with wk:=w}) i (cv x.ls)={s with cs:=s.cs.set i (cv x.ls),ep:=vb s.ep i,ms:=s.ms}:=by
   unfold bS;dsimp only;rw[List.set_set]
  rw[Q];exact M.idle hx p (λl u=>M.ln hx l u) (M.tl x g) s.ms
 unfold j7;dsimp only;split
 ·rename_i hc;show MI gh ta n (bS s i _);rcases a with a|a
  ·rcases M.hi.inv.nj M.hi.nl (t:=a7 x.c.1) G j a with ⟨m, _,b,f,H,k4⟩|⟨b, _⟩
   ·rw[k];refine M.DG (x':={x with wk:=bF s.h.s.1 (x.c.2.1 / 16) (a7 x.c.1) (x.wk.1,(l:Int),(0,0,0,0,()))}) hx (s.ep.pins.getD i 0) s.ms p p ?_ (M.ph x g) r (M.tl x g) ?_ (λl u=>M.ln hx l u) (λ_=>⟨B,C,D⟩) (λ_=>⟨m,b,f,H,.inl k4⟩) (by grind)
    ·rw[tW M hx];rfl
    ·rw[aw (.inl o)];exact F
   ·rw[k] at hc;exact absurd b hc
  ·obtain⟨b, _⟩:=M.hi.inv.nq (t:=a7 x.c.1) j E a.1;rw[k] at hc;exact absurd b hc
 split
 ·exact idle _
 rename_i v q;have v:=B3 v;have q:(bF s.h.s.1 (x.c.2.1 / 16) (a7 x.c.1) x.wk).2.2.2.2.2.1=0:=B3 q;show MI gh ta n (bS s i _);have z:bD s.h.s N.root false (x.c.2.1 / 16)=((bF s.h.s.1 (x.c.2.1 / 16) (a7 x.c.1) x.wk).2.2.1,(bF s.h.s.1 (x.c.2.1 / 16) (a7 x.c.1) x.wk).2.2.2.1,0,()):=by
  rcases a with a|a
  ·rcases M.hi.inv.nj M.hi.nl (t:=a7 x.c.1) G j a with ⟨m, _,b,f,H,k4⟩|⟨b,f⟩
   ·rw[<-k] at b;rw[v] at b;omega
   ·rw[<-k] at f;exact f q
  ·obtain⟨_,f⟩:=M.hi.inv.nq (t:=a7 x.c.1) j E a.1;rw[<-k,q] at f;exact absurd f (by decide)
 revert z;generalize bF s.h.s.1 (x.c.2.1 / 16) (a7 x.c.1) x.wk=w;intro z;have I:gT s.h x.vm.toNat (x.c.2.1 / 16)=(w.2.2.1,w.2.2.2.1,0,()):=by rw[bP hg];exact z
 have R:lY s.h x.vm.toNat (x.c.2.1 / 16)=some w.2.2.1:=by rw[eo,I];rfl
 obtain⟨m,d,J,K,d4, _⟩:=M.hi.Um R;have S:D9 ta s i (x.vm,x.c.2.1 / 16,w.2.2.1,w.2.2.2.1,()):=⟨⟨O,P,j.1,j.2⟩,m,d,J,K,.inl ⟨d4,I⟩⟩;refine M.DG (x':={x with wk:=w,ls:=qW x.ls s.sz (x.vm,x.c.2.1 / 16,w.2.2.1,w.2.2.2.1,()),ph:=3,fr:=w.2.2.1}) hx (s.ep.pins.getD i 0) s.ms p (show ¬ (3:Int)=4 by decide) ?_ (show 0<=(3:Int)/\(3:Int)<=4 by decide) r (Tb (M.tl x g) M.sz.1) ?_ ?_ (λe=>absurd e (show ¬ (3:Int)=2 by decide)) (by grind) (λ_=>⟨⟨m,d,J,K,.inl d4⟩,D⟩)
 ·rw[tW M hx];rfl
 grind
 ·intro y A;rcases Fj A with A|rfl
  ·exact M.ln hx y A
  ·exact S
theorem MI.word (M:MI gh ta n s) {f:Int} (R:AQ ta s i f) {o:Int} (r:0<=o/\o<16) (b:Int):MI gh ta n {s with h:=bA s.h (dT s.h.s.1 (16*f+o) b,s.h.s.2)}:=by
 obtain⟨m,d,t,u,F⟩:=R;subst t;obtain⟨H,P⟩:=M.hi.aaB u (by omega) r b;exact{M with
  hi:=H
  ln:=λ{j y} a l v=>by
   obtain⟨w,x,d',g,p,q⟩:=M.ln a l v;refine⟨w,x,d',g,p,?_⟩;rw[P.to id];exact q
  wl:=λ{j y} a e=>by
   obtain⟨l,g,p,q,z⟩:=M.wl a e;refine⟨l,g,p,q,z.imp id λ⟨c1,c2,c3⟩=>⟨?_,c2,c3⟩⟩;obtain⟨k0,d',A,B,C⟩:=c1;refine⟨k0,d',A,B,λk D E=>?_⟩;have ne:y.wk.1≠m:=λc=>by
    grind
   show dQ (dT _ _ b) _=0;rw[mS (by omega)];exact C k D E}
theorem eT {s1:MS} {r:Int×Int} {x:bG} (h:s1.cs[i]? =some x):(il (s1,r,true) i x).1={s1 with cs:=s1.cs.set i (cv x.ls)}:=by
 unfold il;rw[Ax,h];rfl
theorem MI.reach (M:MI gh ta n s) {x:bG} (hx:s.cs[i]? =some x) (e:x.ph=3):MI gh ta n (il (fB s i x) i x).1:=by
 have b:=aB hx;have d:x.ph≠4:=by omega
 unfold fB;split
 ·have M1:=M.word (M.rc hx e).1 (o:=x.c.2.1 % 16) (by omega) x.c.2.2.1;rw[eT (by grind)];exact M1.idle hx d (λl a=>M1.ln hx l a) (M1.tl x b) _
 ·rw[eT (by grind)];exact M.idle hx d (λl a=>M.ln hx l a) (M.tl x b) _
end
structure NN (s s':WD):Prop where
 to: ∀{m:Nat} {d':DT},s'.2[m]? =some d'->d'.1=5-> ∃d,s.2[m]? =some d/\d.1=5
theorem NN.refl {s s':WD} (h:s'.2=s.2):NN s s':=⟨λ{m d'} h1 a=>⟨d',by rw[<-h];exact h1,a⟩⟩
theorem NN.trans {s t u:WD} (a:NN s t) (b:NN t u):NN s u:=⟨λh1 c=>by
 obtain⟨d,e,f⟩:=b.to h1 c;exact a.to e f⟩
theorem NN.ch {s:WD} {W:List Int} {f:Int} {g:DT->DT×Int} (hg: ∀d,(g d).2=0->(g d).1.1=5->d.1=5):NN s (W,dN s.2 f g):=⟨λ{m d'} h1 a=>by
 have h1:(dN s.2 f g)[m]? =some d':=h1;by_cases b:f<0\/f>=s.2.length
 ·rw[xV b] at h1;exact⟨d',h1,a⟩
 ·rw[pC (by omega)] at h1;split at h1
  ·rename_i c;rcases de h1 with ⟨rfl,rfl⟩|⟨_,h1⟩
   ·have e:f.toNat<s.2.length:=by omega
    refine⟨s.2.getD f.toNat zD,?_,hg _ c a⟩;rw[Ax,B5 e];rfl
   ·exact⟨d',h1,a⟩
  ·exact⟨d',h1,a⟩⟩
theorem Kd {k o:Int} (b:k≠5) (d:DT) (h0:(aO k o d).2=0) (a:(aO k o d).1.1=5):d.1=5:=by
 unfold aO at h0 a;dsimp only at h0 a;unfold mP at a;rw[aw h0] at a;exact absurd a b
theorem aaD {x:Int} (d:DT) (h0:(iu x d).2=0) (a:(iu x d).1.1=5):d.1=5:=by
 unfold iu at h0 a;dsimp only at h0 a;unfold qJ at a;rw[aw h0] at a;exact a
theorem NN.take {s:WD} {W:List Int} {k o:Int} (a:k≠5):NN s (W,dJ s.2 k o):=by
 unfold dJ;split
 ·exact .refl rfl
 ·exact .ch λd=>Kd a d
theorem NN.tk (s:WD) (o:Int) (g:Int->Int):NN s (iV s o g):=NN.take (by decide)
theorem NN.lay (s:WD) (i:Int) (e:ET):NN s (dW s i e):= .refl rfl
theorem NN.down (o pg:Int): ∀(n:Nat) (x:WD×PT),NN x.1 (qV o pg n x).1
 |0,x=> .refl rfl
 |n+1,x=>NN.trans (NN.trans (NN.tk x.1 o λ_=>0) (NN.lay _ x.2.2.2.1 (cx (eV x.1 o)))) (NN.down o pg n (dW (iV x.1 o λ_=>0) x.2.2.2.1 (cx (eV x.1 o)),(eV x.1 o,x.2.2.1 - 1,eB (eV x.1 o) pg (x.2.2.1 - 1),())))
theorem NN.map (s:WD) (o r:Int) (g:Bool) (pg f rt:Int):NN s (jD s o r g pg f rt):=by
 unfold jD;split
 ·exact .refl rfl
 split
 ·unfold rO;split
  ·exact NN.trans (NN.down o pg _ (s,dH s.1 r pg)) (NN.lay _ _ _)
  ·exact .refl rfl
 ·exact .refl rfl
theorem NN.don (h:HS) (v a b:Int):NN h.s (js h v a b).s:=by
 have h1:NN h.s (iJ h v):=NN.take (by decide);have c:NN h.s (qN h v a b):=h1.trans (NN.map ..);unfold js;split
 ·exact .refl rfl
 split
 ·exact .refl rfl
 split
 ·exact h1
 split
 ·exact c.trans (NN.ch λd=>Kd (by decide) d)
 ·exact c.trans (.refl rfl)
theorem NN.Ea (h:HS):NN h.s (gZ h).s:=by
 unfold gZ;split
 ·exact .refl rfl
 split
 ·exact NN.tk ..
 ·exact .refl rfl
theorem NN.tak (h:HS) (v a b c:Int):NN h.s (iA h v a b c).s:=NN.trans (NN.map ..) (NN.ch λd=>aaD d)
structure CE (gh dy:Gh) (h h':HS) (P:Nat->Int->Prop) (U:Int->Prop):Prop where
 hi:HI dy h'
 kd:KD h.s h'.s
 pg:AA h h' P
 gk: ∀{f:Int} {w:Int×Nat×Int},gh f=some w-> ¬ U w.1->dy f=some w\/iP h'.s f
 gn: ∀{f:Int},iP h.s f->iP h'.s f
 lv: ∀{v:Int},¬ U v->aS h.g v=true->aS h'.g v=true
section
variable {gh dy:Gh} {ta:Int->Bool} {n:Nat} {s s':MS} {i:Nat} {h':HS} {P:Nat->Int->Prop} {U:Int->Prop}
theorem MI.quiet (M:MI gh ta n s) (C:CE gh dy s.h h' P λ_=>False) (N:NN s.h.s h'.s) (E: ∀{j:Nat} {q:Int},P j q->0<=q->q<65536->(gT s.h j q).2.2.1≠0):MI dy ta n {s with h:=h'}:=by
 have B: ∀{m:Nat} {d:DT},s.h.s.2[m]? =some d->d.1=4-> ∃d',h'.s.2[m]? =some d'/\d'.1=4:=λ{m d} h1 F=>by
  obtain⟨d',g,b⟩:=C.kd.k4 h1 F;rcases b with b|b
  ·exact⟨d',g,b⟩
  ·obtain⟨d2,v,x⟩:=N.to g b;rw[h1] at v;cases v;omega
 exact{M with
  hi:=C.hi
  k5:=λf G=>by
   obtain⟨m,d,h1,D,H⟩:=M.k5 f G;obtain⟨d',g,b⟩:=C.kd.k5 D H;exact⟨m,d',h1,g,b⟩
  kd:=λ{m d} h1 D=>by
   obtain⟨d0,g,b⟩:=N.to h1 D;exact M.kd g b
  pn:=λ{j y} r=>M.pn r
  ln:=λ{j y} r l I=>by
   obtain⟨w,m,d,o,p,t⟩:=M.ln r l I;rcases t with ⟨i,u⟩|⟨i,q,a,u,z,A,J⟩
   ·obtain⟨d',g,b⟩:=B p i;refine⟨w,m,d',o,g,.inl ⟨b,?_⟩⟩;show gT h' _ _= _;rw[C.pg.to (λc=>E c w.2.2.1 w.2.2.2 (by rw[u]))];exact u
   ·rcases i with i|i
    ·obtain⟨d',g,b⟩:=B p i;exact⟨w,m,d',o,g,.inr ⟨.inl b,q,a,u,z,A,λc=>by omega⟩⟩
    ·obtain⟨d',g,b⟩:=C.kd.k5 p i;exact⟨w,m,d',o,g,.inr ⟨.inr b,q,a,u,z,A,λ_=>J i⟩⟩
  ac:=λy K e=>by
   obtain⟨v,x⟩:=M.ac y K e;exact⟨C.lv id v,x⟩
  wl:=λ{j y} r e=>by
   obtain⟨l,o,p,t,i⟩:=M.wl r e;refine⟨l,o,p,t,?_⟩;rcases i with i|⟨c1,c2,c3⟩
   ·rcases C.gk i id with k|k
    ·exact .inl k
    ·obtain⟨k0,d,v,x, _⟩:=k;obtain⟨d0,g,b⟩:=N.to v x;rw[(M.hi.inv.kd i).2.2.1] at g;cases g;exact absurd b (show ¬ (3:Int)=5 by decide)
   ·exact .inr ⟨C.gn c1,c2,c3⟩
  rc:=λ{j y} r e=>by
   obtain⟨⟨m,d,o,p,t⟩,i⟩:=M.rc r e;refine⟨?_,i⟩;rcases t with t|⟨u,z,A⟩
   ·obtain⟨d',g,b⟩:=B p t;exact⟨m,d',o,g,.inl b⟩
   ·obtain⟨d',g,b⟩:=C.kd.k5 p u;exact⟨m,d',o,g,.inr ⟨b,z,A⟩⟩}
theorem Fk {h h':HS} (hs:h'.s=h.s) (hg:h'.g=h.g) (j:Nat) (q:Int):gT h' j q=gT h j q:=by unfold gT;rw[hs,hg]
theorem HI.same {h:HS} (H:HI gh h) (a:HI dy h') (hs:h'.s=h.s) (hg:h'.g=h.g):HI gh h' where
 inv:=by rw[hs];exact H.inv
 rt:=H.rt
 nl:=by rw[hs];exact H.nl
 sz:=by rw[hs];exact H.sz
 iY:=by rw[hg];exact H.iY
 root:=by rw[hg];exact H.root
 own:=by rw[hg];exact H.own
 hc:=a.hc
theorem CE.same {h:HS} (H:HI gh h) (a:HI dy h') (hs:h'.s=h.s) (hg:h'.g=h.g):CE gh gh h h' (λ_ _=>False) (λ_=>False):=
 ⟨H.same a hs hg,.refl (by rw[hs]),AA.of hs hg _,λh _=> .inl h,λh=>by rw[hs];exact h,λ_ h=>by rw[hg];exact h⟩
end
theorem tZ: ∀(l m:List Int),l.Nodup->(∀x∈l,x∈m)->l.length<=m.length
 |[], _, _, _=>FZ _
 |a::l,m,b,hs=>by
  have c:a∈m:=hs a CL;have d:=tZ l (m.erase a) (CK.1 b).2 λx hx=>by
   have:x≠a:=λe=>(CK.1 b).1 (by rw[<-e];exact hx);exact(List.mem_erase_of_ne this).2 (hs x (DD _ hx))
  rw[List.length_erase_of_mem c] at d;have:0<m.length:=List.length_pos_of_mem c;rw[F7];omega
theorem Qd {α:Type} (i:Nat): ∀(l:List α) (k:Nat),(l.zipIdx k).countP (λx=>decide (x.2≠i))+(if k<=i/\i<k+l.length then 1 else 0)=l.length
 |[],k=>by
  rw[ao (by simp)];rfl
 |a::l,k=>by
  have b:=Qd i l (k+1);rw[Gd,E5,F7];by_cases e:k=i
  ·subst e;rw[ao (by omega)] at b;rw[ao (by simp),aw (by omega)];omega
  ·rw[aw (by simpa using e)];by_cases c:k+1<=i/\i<k+1+l.length
   ·rw[aw c] at b;rw[aw (by omega)];omega
   ·rw[ao c] at b;rw[ao (by omega)];omega
section
variable {gh dy:Gh} {ta:Int->Bool} {n:Nat} {s s':MS} {i:Nat} {h':HS} {P:Nat->Int->Prop} {U:Int->Prop}
theorem gA {f:Int}:f∈eJ s h'<-> ∃(m:Nat) (d:DT),f=(m:Int)/\h'.s.2[m]? =some d/\d.1=5/\f∉s.kn:=by
 unfold eJ;rw[B1,Ay];constructor
 ·rintro⟨⟨m,c,rfl⟩,b⟩;rw[E4] at c;have a:h'.s.2[m]? =some h'.s.2[m]:=B5 c;rw[DZ,pD a] at b;refine⟨m, _,rfl,a,by simpa using b.1,by simpa using b.2⟩
 ·rintro⟨m,d,rfl,a,e,g⟩;refine⟨⟨m,E4.2 (AL.1 a).1,rfl⟩,?_⟩;rw[pD a,e];simpa using g
theorem z9:(eJ s h').Nodup:=by
 unfold eJ;refine List.Pairwise.sublist DI ?_;rw[Gi];exact GI.imp λh e=>h (by omega)
theorem MI.box (M:MI gh ta n s) {j:Nat} {q:List AK} (c:s.bx[j]? =some q):q.length<=8:=by
 obtain⟨h1,d⟩:=M.aq c;have f:(q.map (·.1)).Nodup:=by
  unfold List.Nodup;rw[Gi];exact h1.imp λh e=>by omega
 have:=tZ _ (s.cs.map (·.ak)) f λa g=>by
  obtain⟨b,hb,rfl⟩:=Ay.1 g;obtain⟨z,y, _,i, _,k4⟩:=d b hb;exact Ay.2 ⟨y,aB i,by rw[k4]⟩
 rw[DO,DO,M.lc] at this;have:=M.nn;omega
theorem MI.fW (M:MI gh ta n s) {j:Nat} {q:List AK} (b:s.bx[j]? =some q) {a:AK} (c:a∈q):a.1<=(s.op.length:Int):=by
 obtain⟨z,y, _,d,e,k4⟩:=(M.aq b).2 a c;have:=(M.wt y (aB d) e).2.1;rw[k4];exact this
theorem Dp (M:MI gh ta n s) (i:Nat) {t p:Int} (e:1<=t/\t<=16) (f: -1<=p/\p<65536):
 cz s.bx s.op i t p=((s.op.length:Int)+1,(s.bx.zipIdx.map λ(q,j)=>if j=i then q else q++[((s.op.length:Int)+1,t,p,())]),s.op++[(s.bx.length:Int) - 1]):=by
 unfold cz;rw[ao (by omega),ao ?_];intro c;obtain⟨q,b,a⟩:=GJ.1 c;obtain⟨j,d⟩:=CJ (List.mem_of_mem_eraseIdx b);have:=M.box d;have a:q.length=16:=by simpa using a
 omega
theorem Tc {bx:List (List AK)} {i j:Nat} {x:AK} {a:List AK} (h:(bx.zipIdx.map λ(q,j)=>if j=i then q else q++[x])[j]? =some a): ∃q,bx[j]? =some q/\a=if j=i then q else q++[x]:=by
 rw[F4,Gj] at h;cases hb:bx[j]? with
 |none=>rw[hb] at h;cases h
 |some q=>
  rw[hb] at h;refine⟨q,rfl,?_⟩;have:=Option.some.inj h;rw[<-this];show(if 0+j=i then _ else _)= _;rw[Nat.zero_add]
theorem post_at {bx:List (List AK)} {i j:Nat} {x:AK} {q:List AK} (h:bx[j]? =some q):(bx.zipIdx.map λ(q,j)=>if j=i then q else q++[x])[j]? =some (if j=i then q else q++[x]):=by
 rw[F4,Gj,h];show some (if 0+j=i then _ else _)= _;rw[Nat.zero_add]
theorem Fl (q:List AK) (x:AK) (k:Int):jt (q++[x]) k=(jt q k||x.1==k):=by
 unfold jt;rw[List.any_append];simp
theorem Ke {α:Type}: ∀(l:List α) (k:Nat),(l.zipIdx k).map Prod.fst=l
 |[], _=>rfl
 |a::l,k=>by rw[Gd,DB,Ke l (k+1)]
theorem Td {bx:List (List AK)} {i:Nat} {x:AK} {k:Int} (a:x.1≠k):(bx.zipIdx.map λ(q,j)=>if j=i then q else q++[x]).countP (λq=>jt q k)=bx.countP λq=>jt q k:=by
 rw[FS];have:((λq=>jt q k)∘λ(z:List AK×Nat)=>(match z with|(q,j)=>if j=i then q else q++[x]))=(λq=>jt q k)∘Prod.fst:=by
  funext ⟨q,j⟩;show jt (if j=i then q else q++[x]) k=jt q k;split
  ·rfl
  ·rw[Fl,beq_eq_false_iff_ne.2 a,Bool.or_false]
 rw[this, <-FS,Ke]
theorem Te {bx:List (List AK)} {i:Nat} {x:AK} (hi:i<bx.length) (a: ∀q∈bx,jt q x.1=false):(bx.zipIdx.map λ(q,j)=>if j=i then q else q++[x]).countP (λq=>jt q x.1)=bx.length - 1:=by
 rw[FS];have:(bx.zipIdx).countP ((λq=>jt q x.1)∘λ(z:List AK×Nat)=>(match z with|(q,j)=>if j=i then q else q++[x]))=bx.zipIdx.countP λz=>decide (z.2≠i):=by
  refine List.countP_congr λ⟨q,j⟩ b=>?_;have c:q∈bx:=(List.mem_zipIdx_iff_getElem?.1 b |> B2);show jt (if j=i then q else q++[x]) x.1=true<->decide (j≠i)=true;split
  ·rename_i e;rw[a q c,e];simp
  ·rename_i e;rw[Fl];simp[e]
 rw[this];have:=Qd i bx 0;rw[aw (by omega)] at this;omega
end
section
variable {gh dy:Gh} {ta:Int->Bool} {n:Nat} {s:MS} {i:Nat} {h':HS} {P:Nat->Int->Prop} {U:Int->Prop}
def YP (gh:Gh) (ta:Int->Bool) (fs:List Int) (f:Int):Bool:=if fs.contains f=true then(gh f).isSome else ta f
def mg (s:MS) (h':HS) (i:Nat) (x:bG) (t p:Int) (rs:Int×Int) (ms:List MT):MS:=
 {s with h:=h',kn:=s.kn++eJ s h',ms:=ms,bx:=(cz s.bx s.op i t p).2.1,op:=(cz s.bx s.op i t p).2.2,cs:=s.cs.set i {x with rs:=rs,fs:=eJ s h',ls:=iZ x.ls t p,ak:=(cz s.bx s.op i t p).1,ph:=4}}
theorem MI.X4 (M:MI gh ta n s) {x:bG} (hx:s.cs[i]? =some x) (h1:x.ph=1) (hbx:s.bx[i]? =some []) (C:CE gh dy s.h h' P U) {t p:Int} (ht:1<=t/\t<=16) (hp: -1<=p/\p<65536) (sX:AR x=t) (T5:AS x=p)
 (hP: ∀{j:Nat} {q:Int},P j q->0<=q->q<65536->(j:Int)=t/\(p= -1\/p=q)) (hU: ∀{j:Nat} {y:bG},s.cs[j]? =some y->y.ph=2-> ¬ U y.vm) (rs:Int×Int) (ms:List MT):
 MI dy (YP gh ta (eJ s h')) n (mg s h' i x t p rs ms):=by
 have ju:i<s.cs.length:=(AL.1 hx).1;have h4:x.ph≠4:=by omega
 generalize X:mg s h' i x t p rs ms=s';have J:s'.h=h':=by rw[<-X];rfl
 have Q:s'.ep=s.ep:=by rw[<-X];rfl
 have hk:s'.kn=s.kn++eJ s h':=by rw[<-X];rfl
 have iF:s'.sz=s.sz:=by rw[<-X];rfl
 have hb:s'.bx=s.bx.zipIdx.map λ(q,j)=>if j=i then q else q++[((s.op.length:Int)+1,t,p,())]:=by rw[<-X];unfold mg;dsimp only;rw[Dp M i ht hp]
 have ho:s'.op=s.op++[(s.bx.length:Int) - 1]:=by rw[<-X];unfold mg;dsimp only;rw[Dp M i ht hp]
 have eA:s'.cs=s.cs.set i {x with rs:=rs,fs:=eJ s h',ls:=iZ x.ls t p,ak:=(s.op.length:Int)+1,ph:=4}:=by rw[<-X];unfold mg;dsimp only;rw[Dp M i ht hp]
 have YI:s'.op.length=s.op.length+1:=by rw[ho,Gc];rfl
 have vL:s'.bx.length=s.bx.length:=by rw[hb,DO,List.length_zipIdx]
 generalize Y:({x with rs:=rs,fs:=eJ s h',ls:=iZ x.ls t p,ak:=(s.op.length:Int)+1,ph:=4}:bG)=x' at eA;have O:x'.ph=4:=by rw[<-Y]
 have W:x'.fs=eJ s h':=by rw[<-Y]
 have xa:x'.ak=(s.op.length:Int)+1:=by rw[<-Y]
 have xl:x'.ls=iZ x.ls t p:=by rw[<-Y]
 have xc:x'.c=x.c:=by rw[<-Y]
 have xT:AR x'=t:=by rw[<-sX, <-Y];rfl
 have xP:AS x'=p:=by rw[<-T5, <-Y];rfl
 have v7:s'.cs[i]? =some x':=by rw[eA,AM ju]
 have hw: ∀{z:Nat} {y:bG},s.cs[z]? =some y->y.ph=4->s'.cs[z]? =some y:=λ{z y} h1 Z=>by rw[eA];exact Fi hx h4 _ h1 Z
 have hg: ∀{z:Nat} {y:bG},s'.cs[z]? =some y->(z=i/\y=x')\/(z≠i/\s.cs[z]? =some y):=λh=>by rw[eA] at h;exact de h
 have hm: ∀{y:bG},y∈s'.cs->y=x'\/y∈s.cs:=λh=>by rw[eA] at h;exact iD h
 have hbg: ∀{j:Nat} {q:List AK},s.bx[j]? =some q->j≠i->s'.bx[j]? =some (q++[((s.op.length:Int)+1,t,p,())]):=λ{j q} h e=>by rw[hb,post_at h,ao e]
 have acY: ∀{m:Nat} {d:DT},s.h.s.2[m]? =some d->(m:Int)∈s.kn->d.1=5:=λ{m d} h1 Z=>by
  obtain⟨m',d',A,u,R⟩:=M.k5 _ Z;have:m=m':=by omega
  subst this;rw[h1] at u;cases u;exact R
 have UE: ∀{m:Nat} {d d':DT},s.h.s.2[m]? =some d->d.1≠5->h'.s.2[m]? =some d'->d'.1=5->(m:Int)∈eJ s h':=λh1 Z h3 h5=>gA.2 ⟨_, _,rfl,h3,h5,λc=>Z (acY h1 c)⟩;have Pc: ∀{m:Nat} {d:DT},s.h.s.2[m]? =some d->d.1=4->(m:Int)∈eJ s h'->YP gh ta (eJ s h') (m:Int)=false:=λ{m d} h1 h4 G=>by
  unfold YP;rw[aw (by simpa using G)];cases hgm:gh (m:Int) with
  |none=>rfl
  |some w=>
   obtain⟨o,l,y⟩:=w;have:=(M.hi.inv.kd hgm).2.2.1;rw[show((m:Int)).toNat=m from rfl,h1] at this;cases this;exact absurd h4 (show ¬ (3:Int)=4 by decide)
 have ab': ∀{f:Int},f∈s.kn->YP gh ta (eJ s h') f=ta f:=λ{f} B=>by
  unfold YP;rw[ao];intro c;have c:f∈eJ s h':=by simpa using c
  obtain⟨_, _, _, _, _,k⟩:=gA.1 c;exact k B
 have Zy: ∀{m:Nat} {d:DT},s.h.s.2[m]? =some d->d.1=5->YP gh ta (eJ s h') (m:Int)=ta (m:Int):=λh1 Z=>ab' (M.kd h1 Z).1;have Kf: ∀{j:Nat} {f:Int},rT s j f->rT s' j f:=λh=>h.dA hw (by rw[Q]) (by rw[Q]);have Kg: ∀{j:Nat} {f:Int},f∈eJ s h'->rT s' j f:=λh=> .inl ⟨i,x',v7,O,by rw[W];exact h⟩;have Qe: ∀{l:LT},(1<=l.1/\l.1<=16/\0<=l.2.1/\l.2.1<65536)->gT s.h l.1.toNat l.2.1=(l.2.2.1,l.2.2.2.1,0,())-> ¬ (t=l.1/\(p= -1\/p=l.2.1))-> ∃(m:Nat) (d:DT),l.2.2.1=(m:Int)/\h'.s.2[m]? =some d/\d.1=4/\gT h' l.1.toNat l.2.1=(l.2.2.1,l.2.2.2.1,0,()):=λ{l} L E D=>by
  have rE:gT h' l.1.toNat l.2.1=(l.2.2.1,l.2.2.2.1,0,()):=by
   rw[C.pg.to λc=>D ?_]
   ·exact E
   ·obtain⟨c1,c2⟩:=hP c L.2.2.1 L.2.2.2;exact⟨by omega,c2⟩
  have ig:lY h' l.1.toNat l.2.1=some l.2.2.1:=by rw[eo,rE];rfl
  obtain⟨m,d,A,u,R, _⟩:=C.hi.Um ig;exact⟨m,d,A,u,R,rE⟩
 refine⟨by rw[J];exact C.hi,M.nn,by rw[eA,AY];exact M.lc,by rw[vL];exact M.lb,by rw[Q];exact M.lp,by rw[iF];exact M.sz,λy v=>?_,λy v=>?_,λy v=>?_,
  λf B=>?_,?_,λe B=>?_,by rw[Q];exact M.wn,λy v e=>?_,λy v e=>?_,λ{a b y z} g H sT A u=>?_,λ{m d} g H=>?_,by rw[Q];exact M.nw,λ{j y} g=>?_,λ{j y} g l hl=>?_,λy v e=>?_,λ{j y} g e=>?_,λ{j y} g e=>?_,λy v e=>?_,λ{a b y z} g H sT A u=>?_,λ{j r} g=>?_,λid F8=>?_⟩
 ·rcases hm v with rfl|v
  ·rw[O];decide
  ·exact M.ph y v
 ·rcases hm v with rfl|v
  ·rw[xc];exact M.ar x (aB hx)
  ·exact M.ar y v
 ·rw[iF];rcases hm v with rfl|v
  ·rw[xl];have:=Fg x.ls t p;have:=M.tl x (aB hx);omega
  ·exact M.tl y v
 ·
  rw[J];rw[hk] at B;rcases FR.1 B with B|B
  ·obtain⟨m,d,A,u,R⟩:=M.k5 f B;obtain⟨d',g1,S⟩:=C.kd.k5 u R;exact⟨m,d',A,g1,S⟩
  ·obtain⟨m,d,A,u,R, _⟩:=gA.1 B;exact⟨m,d,A,u,R⟩
 ·rw[hk];refine List.nodup_append.2 ⟨M.nk,z9,λa K b hb c=>?_⟩;subst c;obtain⟨_, _, _, _, _,k⟩:=gA.1 hb;exact k K
 ·rw[Q] at B ⊢;obtain⟨a,b,c⟩:=M.wk e B;rw[hk];exact⟨DJ _ a,b,c⟩
 ·rw[hk,Q];rcases hm v with rfl|v
  ·intro f B;rw[W] at B;refine⟨DQ _ B,λc=>?_⟩;obtain⟨_, _, _, _, _,k⟩:=gA.1 B;obtain⟨e',I,F⟩:=Ay.1 c;exact k (by rw[<-F];exact(M.wk e' I).1)
  ·intro f B;obtain⟨a,b⟩:=M.fk y v e f B;exact⟨DJ _ a,b⟩
 ·rcases hm v with rfl|v
  ·rw[W];exact z9
  ·exact M.fn y v e
 ·rcases hg g with ⟨_,rfl⟩|⟨_,g⟩
  ·rcases hg H with ⟨q, _⟩|⟨_,H⟩
   ·omega
   ·intro f B c;rw[W] at B;obtain⟨_, _, _, _, _,k⟩:=gA.1 B;exact k (M.fk z (aB H) u f c).1
  ·rcases hg H with ⟨_,rfl⟩|⟨_,H⟩
   ·intro f B c;rw[W] at c;obtain⟨_, _, _, _, _,k⟩:=gA.1 c;exact k (M.fk y (aB g) A f B).1
   ·exact M.fd g H sT A u
 ·rw[J] at g;rw[hk,Q];by_cases c:(m:Int)∈eJ s h'
  ·exact⟨DQ _ c,.inr ⟨x',aB v7,O,by rw[W];exact c⟩⟩
  ·have hkm:(m:Int)∈s.kn:=B3 λG=>c (gA.2 ⟨m,d,rfl,g,H,G⟩);obtain⟨m',d',A,u,R⟩:=M.k5 _ hkm;have:m=m':=by omega
   subst this;obtain⟨_,S⟩:=M.kd u R;refine⟨DJ _ hkm,S.imp id λ⟨y,v,I,F⟩=>?_⟩;obtain⟨j,T⟩:=CJ v;exact⟨y,aB (hw T I),I,F⟩
 ·rw[Q];rcases hg g with ⟨rfl,rfl⟩|⟨_,g⟩
  ·have:=M.pn hx;rw[h1,ao (by decide)] at this;rw[O,ao (by decide)];exact this
  ·exact M.pn g
 ·
  rcases hg g with ⟨rfl,rfl⟩|⟨T,g⟩
  ·rw[xl] at hl;obtain⟨l1,l2⟩:=tX hl;obtain⟨L,m,d,E,D,N⟩:=M.ln hx l l1;rcases N with ⟨_,N⟩|⟨_,q,a,r5,r6, _⟩
   ·obtain⟨m',d',g1,S,g3,g4⟩:=Qe L N l2;exact⟨L,m',d',g1,by rw[J];exact S,.inl ⟨g3,by rw[J];exact g4⟩⟩
   ·rw[hbx] at r5;cases r5;cases r6
  ·obtain⟨L,m,d,E,D,N⟩:=M.ln g l hl;rcases N with ⟨d4,N⟩|⟨V,q,a,r5,r6,r7,r8⟩
   ·by_cases l2:t=l.1/\(p= -1\/p=l.2.1)
    ·obtain⟨d',A,u⟩:=C.kd.k4 D d4;have Ol:j<s.bx.length:=by rw[M.lb, <-M.lc];exact(AL.1 g).1
     refine⟨L,m,d',E,by rw[J];exact A,.inr ⟨u, _, _,hbg (B5 Ol) T,DQ _ (DV.2 rfl),l2,λe5=>?_⟩⟩;have G:=UE D (by omega) A e5;rw[E];exact⟨Pc D d4 G,i,x', _,DQ _ (DV.2 rfl),v7,O,by rw[W];exact G,xa.symm,Int.le_refl _⟩
    ·obtain⟨m',d',g1,S,g3,g4⟩:=Qe L N l2;exact⟨L,m',d',g1,by rw[J];exact S,.inl ⟨g3,by rw[J];exact g4⟩⟩
   ·rcases V with d4|d5
    ·obtain⟨d',A,u⟩:=C.kd.k4 D d4;refine⟨L,m,d',E,by rw[J];exact A,.inr ⟨u, _,a,hbg r5 T,DJ _ r6,r7,λe5=>?_⟩⟩;have G:=UE D (by omega) A e5;have:=M.fW r5 r6;rw[E];exact⟨Pc D d4 G,i,x', _,DQ _ (DV.2 rfl),v7,O,by rw[W];exact G,xa.symm,by show a.1<=(s.op.length:Int)+1;omega⟩
    ·obtain⟨d',A,u⟩:=C.kd.k5 D d5;refine⟨L,m,d',E,by rw[J];exact A,.inr ⟨.inr u, _,a,hbg r5 T,DJ _ r6,r7,λ_=>?_⟩⟩;obtain⟨I,z,y',b,F,q3,q4,q5,q6,q7⟩:=r8 d5;refine⟨?_,z,y',b,DJ _ F,hw q3 q4,q4,q5,q6,q7⟩;rw[E,Zy D d5, <-E];exact I
 ·rw[J];rcases hm v with rfl|v
  ·rw[O] at e;exact absurd e (by decide)
  ·obtain⟨j,T⟩:=CJ v;obtain⟨I,F⟩:=M.ac y v e;exact⟨C.lv (hU T e) I,F⟩
 ·rcases hg g with ⟨_,rfl⟩|⟨_,g⟩
  ·rw[O] at e;exact absurd e (by decide)
  ·obtain⟨l,E,D,N,V⟩:=M.wl g e;refine⟨l,E,D,N,?_⟩;rw[J];rcases V with V|⟨c1,c2,c3⟩
   ·rcases C.gk V (hU g e) with k|k
    ·exact .inl k
    ·have G:y.wk.1∈eJ s h':=by
      obtain⟨q0,d',I,F, _⟩:=k;have h3:=(M.hi.inv.kd V).2.2.1;have:=UE h3 (by show ¬ (3:Int)=5;decide) I F;rw[Et q0] at this;exact this
     refine .inr ⟨k,Kg G,?_⟩;unfold YP;rw[aw (by simpa using G),V];rfl
   ·refine .inr ⟨C.gn c1,Kf c2,?_⟩;obtain⟨q0,d',I,F, _⟩:=c1;have:=Zy I F;rw[Et q0] at this;rw[this];exact c3
 ·rcases hg g with ⟨_,rfl⟩|⟨_,g⟩
  ·rw[O] at e;exact absurd e (by decide)
  ·obtain⟨⟨m,d,E,D,N⟩,V⟩:=M.rc g e;refine⟨?_,V⟩;rcases N with d4|⟨d5,c2,c3⟩
   ·obtain⟨d',A,u⟩:=C.kd.k4 D d4;refine⟨m,d',E,by rw[J];exact A,?_⟩;rcases u with u|u
    ·exact .inl u
    ·have G:=UE D (by omega) A u;rw[E];exact .inr ⟨u,Kg G,Pc D d4 G⟩
   ·obtain⟨d',A,u⟩:=C.kd.k5 D d5;refine⟨m,d',E,by rw[J];exact A,.inr ⟨u,Kf c2,?_⟩⟩;rw[E,Zy D d5, <-E];exact c3
 ·rw[YI];rcases hm v with rfl|v
  ·rw[xT,xP,xa];omega
  ·have:=M.wt y v e;omega
 ·rcases hg g with ⟨_,rfl⟩|⟨_,g⟩
  ·rcases hg H with ⟨q, _⟩|⟨_,H⟩
   ·omega
   ·have:=M.wt z (aB H) u;rw[xa];omega
  ·rcases hg H with ⟨_,rfl⟩|⟨_,H⟩
   ·have:=M.wt y (aB g) A;rw[xa];omega
   ·exact M.wu g H sT A u
 ·rw[hb] at g;obtain⟨q,I,F⟩:=Tc g;obtain⟨g1,S⟩:=M.aq I;have dA: ∀a∈q, ∃(z:Nat) (y:bG),z≠j/\s'.cs[z]? =some y/\y.ph=4/\a=(y.ak,AR y,AS y,()):=λa K=>by
   obtain⟨z,y,f1,f2,f3,f4⟩:=S a K;exact⟨z,y,f1,hw f2 f3,f3,f4⟩
  by_cases e:j=i
  ·rw[aw e] at F;rw[F];exact⟨g1,dA⟩
  ·rw[ao e] at F;rw[F];refine⟨List.pairwise_append.2 ⟨g1,List.pairwise_singleton ..,λa K b hb=>?_⟩,λa K=>?_⟩
   ·have:=M.fW I K;rw[DV.1 hb];show a.1<(s.op.length:Int)+1;omega
   ·rcases FR.1 K with K|K
    ·exact dA a K
    ·refine⟨i,x',λc=>e c.symm,v7,O,?_⟩;rw[DV.1 K,xa,xT,xP]
 ·rw[YI] at F8;rw[ho,hb,Ax];by_cases e:id<s.op.length
  ·rw[Td (by show(s.op.length:Int)+1≠ _;omega),List.getElem?_append_left e, <-Ax];exact M.oc id e
  ·have e:id=s.op.length:=by omega
   subst e;have acZ:i<s.bx.length:=by rw[M.lb, <-M.lc];exact ju
   rw[List.getElem?_append_right (Ef _),Nat.sub_self];have:=Te (i:=i) (x:=(((s.op.length:Int)+1,t,p,()):AK)) acZ λq hq=>by
    unfold jt;rw[Ga];intro a K c;obtain⟨j,T⟩:=CJ hq;have:=M.fW T K;have c:a.1=(s.op.length:Int)+1:=by simpa using c
    omega
   show(s.bx.length:Int) - 1= _;rw[this];omega
end
end Go.Proofs.YtlcenllcmeebhaaGreat
