import Derived.Test.YtlcenllcmeebhaaGreatPBE
/-! What the statement leans on: texts joined and shortened by a program of mine. -/
set_option linter.unusedVariables false
set_option linter.unusedSimpArgs false
open Go renaming World->A1,Addr->AC,Value->B5,MapEntry->DZ
open Go.Proofs.Tryz renaming prog->A2
open List renaming getElem?_set_ne->AL,getElem?_set_self->AM,getElem?_eq_some_iff->AP,length_set->AY,getD_eq_getElem?_getD->Am,mem_map->Ap,mem_filter->Az,mem_of_getElem?->B1,range->B2,getElem?_eq_getElem->B3,mem_cons_self->Be,mem_cons_of_mem->Bx,nodup_cons->CB,mem_cons->CD,replicate->CF,map_cons->DA,filter_sublist->DB,getElem?_of_mem->DD,mem_range->DL,length_map->DM,length_cons->DR,countP_pos_iff->Dn,countP_cons->Do,sum_cons->E4,getElem?_map->E5,ext_getElem?->Ea,any_eq_true->Ee,length_replicate->Ek,countP_map->Eo,map_append->F7,sum_append->FI,filter_cons->FK,filter_eq_self->FS,nodup_range->FU,eq_of_mem_replicate->FX,getElem?_set->FY,zipIdx_cons->G1,pairwise_map->GD,getElem?_zipIdx->GF
open Classical renaming byContradiction->Ar
open Int.ofNat renaming inj->B4
open Nat renaming eq_zero_or_pos->Cf,le_refl->F5,zero_le->F6,lt_succ_self->GG
open Bool renaming and_eq_true->Cp,not_eq_true'->GH
open Go.IntKind renaming i64->DF
open Go.Value renaming nilFunc->DU
open BitVec renaming ofInt->Du
namespace Go.Proofs.YtlcenllcmeebhaaGreat.Mu
set_option maxRecDepth 100000
open Go.RX
abbrev sCl:List Sc:=[.int .i64,.int .u64,.int .u64,.int .u64]
abbrev sMk:List Sc:=[.int .i64,.int .i64,.int .i64,.int .i64,.int .u64,.int .u64,.int .u64,.int .u64,.int .i64]
noncomputable def U2:dJ A2:={V0 with quiet:=[64,160,199,152,154,201,161,82,24]++V0.quiet}
noncomputable def U3:dJ A2:={U2 with dyn:=some (.bu [.agg iR,.one .bool])}
theorem SJ (p:Option AC) (w:A1) (a:Int->A1->Prop):(aK U2 (λ_=>[]) 160 [ag p] w a)=(
 p.isSome=true/\p.isSome=true/\(ad p 4).isSome=true/\cM w (ad (ad p 4) 1) λx=>au w (a (aD .i64 (tj .u64 x 16)))):=by kernel_rfl
theorem SK (p:Option AC) (w:A1) (e:Int->A1->Prop):(aK U2 (λ_=>[]) 199 [ag p] w e)=(
 ∀w1,Ext w w1-> ∀c,Ext (w1.alloc (Obj.map ⟨[]⟩ 0)) c-> ∃(r:Nat), ∃(es:Array DZ), ∃(a:Nat),some w1.heap.size=some r/\bF c r es a/\gX c r .i64 6 (aa 1) es a λb=> ∀d,Ext b d-> ∃(r:Nat), ∃(es:Array DZ), ∃(a:Nat),some w1.heap.size=some r/\bF d r es a/\gX d r .i64 7 (aa 2) es a λb=>p.isSome=true/\p.isSome=true/\(ad p 4).isSome=true/\aU b (ad (ad p 4) 0) λx=> ∃(f:Int),jU b (some w1.heap.size) .i64 x (aa 0) (aa f)/\au b (e
 f)):=by kernel_rfl
theorem aaq (p:Option AC) (n:Int) (w:A1) (a:Option AC->A1->Prop):(aK U2 (λ_=>[]) 64 [ag p,aa n] w a)=(
 ((!(p.isNone||decide (n<0)))=true->p.isSome=true)/\((!(p.isNone||decide (n<0)))=true->p.isSome=true)/\aj w (some !(p.isNone||decide (n<0))) (ad p 3) eY λx=>aI (p.isNone||decide (n<0)||decide (n>=(↑x.2.1:Int))) (au w (a none)) (fi p 3 w λx=>(x.1.isSome=true/\0<=n/\n<(↑x.2.1:Int))/\gi w (ad x.1 (n.toNat*1)) λx=>au w (a x))):=by kernel_rfl
theorem Wn (p:Option AC) (n v k a b c:Int) (w:A1) (f:Int->A1->Prop):(aK U2 (λ_=>[]) 29 [ag p,aa n,aa v,.agg ⟨[aa k,ay a,ay b,ay c]⟩] w f)=(
 aN w ⟨[aa k,ay a,ay b,ay c]⟩ 31 λb d=> ∃(x:Option AC),ae A2 64 [ag p,aa n] d (ag x)/\((!p.isNone)=true->p.isSome=true)/\((!p.isNone)=true->p.isSome=true)/\aj d (some !p.isNone) (ad p 0) kM λg=>aI (p.isNone||g.isNone) (au d (f 10)) (aI x.isNone (au d (f 2)) (cN x 2 d λh=>aI (h != 0) (au d (f 9)) (aj d none (af b) vh λ(e:Int×Int×Int×Int×Unit)=>x.isSome=true/\x.isSome=true/\aC d (ad x 2) [aa 1] λd=>cC d (af b) vh
 e/\x.isSome=true/\x.isSome=true/\aC d (ad x 3) [aa v] λd=>cC d (af b) vh e/\x.isSome=true/\x.isSome=true/\aC d (ad x 4) [aa e.1,ay e.2.1,ay e.2.2.1,ay e.2.2.2.1] λd=>au d (f 0))))):=by kernel_rfl
theorem SL (p:Option AC) (f g h k a b c i j:Int) (w:A1) (l:Unit->A1->Prop):(aK U2 (λ_=>[]) 155 [ag p,.agg ⟨[aa f,aa g,aa h,aa k,ay a,ay b,ay c,ay i,aa j]⟩] w l)=(
 aN w ⟨[aa f,aa g,aa h,aa k,ay a,ay b,ay c,ay i,aa j]⟩ 86 λb d=>fi p 5 d λx=>aj d none (af b) Y8 λ(e:Int×Int×Int×Int×Int×Int×Int×Int×Int×Unit)=>aN d {toList:=[aa e.1,aa e.2.1,aa e.2.2.1,aa e.2.2.2.1,ay e.2.2.2.2.1,ay e.2.2.2.2.2.1,ay e.2.2.2.2.2.2.1,ay e.2.2.2.2.2.2.2.1,aa e.2.2.2.2.2.2.2.2.1]} 86 λb d=> ∀w1,Ext d w1->mF w1 86 9 72 ⟨[aa 0,aa 0,.int .i64
 0,aa 0,ay 0,ay 0,ay 0,ay 0,aa 0]⟩ (x.1,x.2.1,x.2.2) (some ⟨b,0,none⟩,1,1) λ(r:Option AC×Nat×Nat) d=>p.isSome=true/\p.isSome=true/\aC d (ad p 5) [.slice r.1 r.2.1 r.2.2] λd=>au d (l ())):=by kernel_rfl
abbrev pY (b:(Int×Int×Unit)×Bool×Unit->A1->Prop) (c:A1) (a:Nat):Prop:=
 aC c (af a) [ay 0,aa 0] λd=>au d λw1=>aj w1 none (af a) cF λ(x:Int×Int×Unit)=>b ((x.1,x.2.1,()),false,()) w1
abbrev wZ (a:Int):Prop:=
 0<=a/\a<(↑5:Int)
abbrev w_ (n:Int) (e:(Int×Int×Unit)×Bool×Unit->A1->Prop) (g:A1) (f:Nat) (b:(Int×Int×Unit)×Bool×Unit) (c:Nat) (d:Option AC):Prop:=
 aC g (af f) [ay b.1.1,aa b.1.2.1] λa=>aI (!b.2.1) (pY e a c) (bG d 1 a λx=>d.isSome=true/\aC a d [aa n,ag x,aa 0,aa 0,aa 0,ay 0,ay 0,ay 0,ag none,aa 0,ay 0,aa 0,aa 0,.slice none 0 0] λa=>aj a none (af f) cF λ(x:Int×Int×Unit)=>aC a (af c) [ay x.1,aa x.2.1] λa=>au a λw1=>aj w1 none (af c) cF λ(x:Int×Int×Unit)=>e ((x.1,x.2.1,()),true,()) w1)
abbrev xd (n:Int) (c:(Int×Int×Unit)×Bool×Unit->A1->Prop) (a:B5×B5×B5×B5×B5×Unit) (d:Int) (b:Option AC) (e:A1) (f:Nat) (g:Nat):Prop:=
 Ak A2 (match [a.1,a.2.1,a.2.2.1,a.2.2.2.1,a.2.2.2.2.1].get?Internal d.toNat with|some x=>x|none=> .tuple ⟨[]⟩) (.bu [.agg [.int .u64,.int .i64],.one .bool]) [ag b] e λ(x:(Int×Int×Unit)×Bool×Unit) h=>w_ n c h f x g b
abbrev xe (p:Option AC) (n:Int) (e:(Int×Int×Unit)×Bool×Unit->A1->Prop) (d:Option AC) (f:A1) (g:Nat):Prop:=
 cN d 2 f λx=>(az A2 68 (.el (.agg [.func,.func,.func,.func,.func])) [ag p] f λc a=>cC a (ad d 2) aS x/\True/\True/\wZ x/\(Ak A2 (match [c.1,c.2.1,c.2.2.1,c.2.2.2.1,c.2.2.2.2.1].get?Internal x.toNat with|some x=>x|none=> .tuple ⟨[]⟩) (.bu [.agg [.int .u64,.int .i64],.one .bool]) [ag d] a λ(x:(Int×Int×Unit)×Bool×Unit) a=>aN a ⟨[ay 0,aa 0]⟩ 61 λb a=>w_ n e a b
 x g d)/\aN a ⟨[ay 0,aa 0]⟩ 61 λb a=>xd n e c x d a b g)/\aN f ⟨[ay 0,aa 0]⟩ 61 λb a=>az A2 68 (.el (.agg [.func,.func,.func,.func,.func])) [ag p] a λc a=>cC a (ad d 2) aS x/\True/\True/\wZ x/\xd n e c x d a b g
theorem SN (p:Option AC) (n:Int) (w:A1) (c:(Int×Int×Unit)×Bool×Unit->A1->Prop):(bS U3 (λ_=>[]) 31 [ag p,aa n] w c)=(
 aN w ⟨[ay 0,aa 0]⟩ 61 λb a=> ∃(x:Option AC),ae A2 64 [ag p,aa n] a (ag x)/\aI x.isNone (pY c a b) (cN x 2 a λf=>aI (f != 3) (bG p 2 a λg=>az A2 66 (.bu [.agg [.int .i64,.int .i64,.int .i64],.one .bool]) [ag g,aa n] a λ(d:(Int×Int×Int×Unit)×Bool×Unit) a=>aN a ⟨[aa 0,aa 0,aa 0]⟩ 147 λe a=>aC a (af e) [aa d.1.1,aa d.1.2.1,aa d.1.2.2.1] λa=>aI d.2.1 (true=true/\aU a (ad
 (af e) 1) λh=>true=true/\aU a (ad (af e) 2) λi=>az A2 67 (.bu []) [ag x,aa h,aa i] a λx a=>pY c a b) (xe p n c x a b)) (xe p n c x a b))):=by kernel_rfl
theorem Iq (p:Option AC) (w:A1) (c:B5×B5×B5×B5×B5×Unit->A1->Prop):(bS U2 (λ_=>[]) 68 [ag p] w c)=(
 aN w ⟨[DU,DU,DU,DU,DU]⟩ 154 λb a=>aC a (af b) [.func (.func 109) ⟨[ag p]⟩ ⟨[]⟩,.func (.func 110) ⟨[ag p]⟩ ⟨[]⟩,.func (.func 111) ⟨[ag p]⟩ ⟨[]⟩,.func (.func 112) ⟨[ag p]⟩ ⟨[]⟩,.func (.func 113) ⟨[ag p]⟩ ⟨[]⟩] λa=>au a λw1=>aj w1 none (af b) (.agg [.func,.func,.func,.func,.func]) λx=>c (x.1,x.2.1,x.2.2.1,x.2.2.2.1,x.2.2.2.2.1,()) w1):=by kernel_rfl
theorem Ir (p:Option AC) (t g:Int) (w:A1) (a:Unit->A1->Prop):(aK U2 (λ_=>[]) 67 [ag p,aa t,aa g] w a)=(
 aI (g== -1) (bG p 1 w λx=>az A2 107 (.el aS) [ag x,aa t] w λ(x:Int) b=>au b (a ())) (bG p 1 w λx=>az A2 108 (.el qO) [ag x,aa t,aa g] w λx b=>au b (a ()))):=by kernel_rfl
def uP:Nat->a6:=(λ|4=>[(18,Go.RX.El.one (Go.RX.Sc.int DF))]| _=>[])
theorem SO (p:Option AC) (w:A1) (b:Int->A1->Prop):(aK U2 uP 151 [ag p] w b)=(
 bG p 1 w λx=>az A2 197 (.el qO) [ag x] w λx a=>bG p 1 a λx=>az A2 198 (.el eY) [ag x] a λx a=> ∃(I:Nat->Int×Unit->A1->Prop),(∃n, ∀w1,Ext a w1->I n (0,()) w1)/\ ∀(n:Nat) (s:Int×Unit) (w1:A1),I n s w1->aI (decide (s.1<(↑x.2.1:Int))) ((x.1.isSome=true/\0<=s.1/\s.1<(↑x.2.1:Int))/\aU w1 (ad x.1 (Int.toNat s.1*1)) λx=>bG p 0 w1 λf=>az A2 43 (.el aS) [ag f,aa x] w1 λ(h:Int) a=>tu p 4 a λg=> ∀w1,Ext a w1-> ∃(r:Nat), ∃
 (es:Array DZ), ∃(c:Nat),g=some r/\bF w1 r es c/\AD w1 r .i64 x es c λa=>az A2 155 (.bu []) [ag p,.agg {toList:=[aa 2,aa 0,aa x,aa 0,ay 0,ay 0,ay 0,ay 0,aa 0]}] a λx a=> ∀d,Ext a d-> ∃(e:Nat),e<n/\I e (aH .i64 s.1 1,()) d) (au w1 (b (↑x.2.1:Int)))):=by kernel_rfl
theorem SP (p x:Option AC) (w:A1) (c:(Int×Int×Unit)×Bool×Unit->A1->Prop):(bS U2 (λ_=>[]) 109 [ag p,ag x] w c)=(
 aN w ⟨[ay 0,aa 0]⟩ 61 λb a=>az A2 151 (.el aS) [ag p] a λ(x:Int) a=>aC a (af b) [ay 0,aa 0] λa=>au a λw1=>aj w1 none (af b) cF λ(x:Int×Int×Unit)=>c ((x.1,x.2.1,()),false,()) w1):=by kernel_rfl
theorem Nd (p x:Option AC) (w:A1) (e:(Int×Int×Unit)×Bool×Unit->A1->Prop):(bS U2 (λ_=>[]) 112 [ag p,ag x] w e)=(
 aN w ⟨[ay 0,aa 0]⟩ 61 λb a=>cN x 9 a λc=>x.isSome=true/\x.isSome=true/\(ad x 4).isSome=true/\cM a (ad (ad x 4) 1) λd=>bG p 1 a λh=>cN x 0 a λi=>az A2 158 (.el aS) [ag h,aa i] a λ(l:Int) a=>x.isSome=true/\x.isSome=true/\(ad x 4).isSome=true/\aU a (ad (ad x 4) 0) λj=>aI (j==7) (bG p 0 a λf=>x.isSome=true/\x.isSome=true/\(ad x 4).isSome=true/\cM a (ad (ad x 4) 2) λg=>az A2 23 (.el kM) [ag f] a λ
 k a=>cC a (ad (ad x 4) 2) qN g/\True/\True/\True/\az A2 38 (.el aS) [ag k,aa (aH .i64 (iB .i64 16 c) (aD .i64 (dX d 16))),ay g] a λ(m:Int) a=>x.isSome=true/\x.isSome=true/\(ad x 4).isSome=true/\cM a (ad (ad x 4) 2) λx=>az A2 155 (.bu []) [ag p,.agg {toList:=[aa 4,aa 0,aa (aH .i64 (iB .i64 16 c) (aD .i64 (dX d 16))),aa 0,ay 0,ay 0,ay 0,ay x,aa 0]}] a λx a=>aC a (af b) [.int .u64
 0,aa 0] λa=>au a λw1=>aj w1 none (af b) cF λ(x:Int×Int×Unit)=>e ((x.1,x.2.1,()),true,()) w1) (bG p 0 a λx=>az A2 23 (.el kM) [ag x] a λx a=>az A2 37 (.bu [.one (.int .u64),.one (.int .i64)]) [ag x,aa (aH .i64 (iB .i64 16 c) (aD .i64 (dX d 16)))] a λ(x:Int×Int×Unit) a=>az A2 155 (.bu []) [ag p,.agg {toList:=[aa 3,aa 0,aa (aH .i64 (iB .i64 16 c) (aD .i64 (dX d 16))),aa 0,ay 0,ay 0,
 ay 0,ay x.1,aa 0]}] a λf a=>aC a (af b) [ay x.1,aa 0] λa=>au a λw1=>aj w1 none (af b) cF λ(x:Int×Int×Unit)=>e ((x.1,x.2.1,()),true,()) w1)):=by kernel_rfl
theorem SQ (p x:Option AC) (w:A1) (e:(Int×Int×Unit)×Bool×Unit->A1->Prop):(bS U2 (λ_=>[]) 111 [ag p,ag x] w e)=(
 aN w ⟨[ay 0,aa 0]⟩ 61 λb a=>bG x 8 a λg=>bG p 0 a λj=>az A2 23 (.el kM) [ag j] a λk a=>cC a (ad x 8) kM g/\True/\True/\az A2 22 (.el qO) [ag g,ag k] a λl a=>aI (!l) (aC a (af b) [ay 0,aa 0] λa=>au a λw1=>aj w1 none (af b) cF λ(x:Int×Int×Unit)=>e ((x.1,x.2.1,()),false,()) w1) (bG x 8 a λm=> ∃(c:(Int×Int×Int×Int×Unit)×Bool×Unit),ae A2 24 [ag m] a (.tuple {toList
 :=[.agg ⟨[aa c.1.1,aa c.1.2.1,aa c.1.2.2.1,aa c.1.2.2.2.1]⟩,.bool c.2.1]})/\aN a ⟨[aa 0,aa 0,aa 0,aa 0]⟩ 48 λd a=>aC a (af d) [aa c.1.1,aa c.1.2.1,aa c.1.2.2.1,aa c.1.2.2.2.1] λa=>true=true/\aU a (ad (af d) 3) λn=>aI (n != 0) (bG p 1 a λf=>cN x 0 a λx=>az A2 158 (.el aS) [ag f,aa x] a λ(x:Int) a=>true=true/\aU a (ad (af d) 3) λx=>aC a (af b) [ay 0,aa x]
 λa=>au a λw1=>aj w1 none (af b) cF λ(x:Int×Int×Unit)=>e ((x.1,x.2.1,()),true,()) w1) (bG x 1 a λf=>cN x 3 a λo=> ∃(h:Int),ae A2 160 [ag x] a (aa h)/\true=true/\aU a (ad (af d) 0) λq=>true=true/\aU a (ad (af d) 1) λr=>az A2 159 (.el aS) [ag f,.agg ⟨[aa o,aa h,aa q,aa r]⟩] a λ(s:Int) a=>true=true/\aU a (ad (af d) 0) λi=>x.isSome=true/\x.isSome=true/\aC a
 (ad x 2) [aa 3] λa=>cC a (ad (af d) 0) aS i/\True/\x.isSome=true/\x.isSome=true/\aC a (ad x 9) [aa i] λa=>aC a (af b) [ay 0,aa 0] λa=>au a λw1=>aj w1 none (af b) cF λ(x:Int×Int×Unit)=>e ((x.1,x.2.1,()),false,()) w1))):=by kernel_rfl
def uQ:Nat->a6:=(λ|4=>[(24,Go.RX.El.one (Go.RX.Sc.int DF))]| _=>[])
theorem SS (p x:Option AC) (w:A1) (d:(Int×Int×Unit)×Bool×Unit->A1->Prop):(bS U2 uQ 113 [ag p,ag x] w d)=(
 aN w ⟨[ay 0,aa 0]⟩ 61 λb a=>bG p 2 a λh=>cN x 12 a λi=> ∃e,ae A2 161 [ag h,aa i] a (.bool e)/\aI (!e) (aC a (af b) [ay 0,aa 0] λa=>au a λw1=>aj w1 none (af b) cF λ(x:Int×Int×Unit)=>d ((x.1,x.2.1,()),false,()) w1) (fi x 13 a λc=> ∃(I:Nat->Int×Unit->A1->Prop),(∃n, ∀w1,Ext a w1->I n (0,()) w1)/\ ∀(n:Nat) (s:Int×Unit) (w1:A1),I n s w1->aI (decide (s.1<(↑c.2.1:Int))) ((c.1.isSome=true/\0<=s.1
 /\s.1<(↑c.2.1:Int))/\aU w1 (ad c.1 (Int.toNat s.1*1)) λx=>bG p 1 w1 λj=>az A2 162 (.el aS) [ag j,aa x] w1 λ(x:Int) a=> ∀f,Ext a f-> ∃(g:Nat),g<n/\I g (aH .i64 s.1 1,()) f) (x.isSome=true/\x.isSome=true/\aj w1 none (ad x 10) cF λ(x:Int×Int×Unit)=>aC w1 (af b) [ay x.1,aa x.2.1] λa=>au a λw1=>aj w1 none (af b) cF λ(x:Int×Int×Unit)=>d ((x.1,x.2.1,()),true,()) w1))):=by kernel_rfl
theorem Is (p x:Option AC) (w:A1) (e:Bool->A1->Prop):(aK U2 (λ_=>[]) 152 [ag p,ag x] w e)=(
 ∃(a:Int),ae A2 199 [ag x] w (aa a)/\(decide (a>0)=true->p.isSome=true)/\(decide (a>0)=true->p.isSome=true)/\aj w (some (decide (a>0))) (ad p 0) kM λf=>(decide (a>0)=true->x.isSome=true)/\(decide (a>0)=true->x.isSome=true)/\aj w (some (decide (a>0))) (ad x 3) aS λ(g:Int)=> ∃b,(decide (a>0)=true->ae A2 19 [ag f,aa g] w (.bool b))/\((decide (a>0)&&b)=true->x.isSome=true)/\((decide (a>0)&&b)=true->x.isSome=true)/\aj w
 (some (decide (a>0)&&b)) (ad x 4) vh λ(d:Int×Int×Int×Int×Unit)=> ∃c,((decide (a>0)&&b)=true->ae A2 76 [.agg ⟨[aa d.1,ay d.2.1,ay d.2.2.1,ay d.2.2.2.1]⟩] w (.bool c))/\((decide (a>0)&&b&&c)=true->x.isSome=true)/\((decide (a>0)&&b&&c)=true->x.isSome=true)/\((decide (a>0)&&b&&c)=true->(ad x 4).isSome=true)/\aj w (some (decide (a>0)&&b&&c)) (ad (ad x 4) 1) qN λ(x:Int)=>au w (e (decide (a>0)&&b&&c&&decide
 (x<1048576)))):=by kernel_rfl
def oG:Nat->a6:=(λ|2=>[(12,Go.RX.El.one (Go.RX.Sc.int DF))]| _=>[])
theorem FD (p x:Option AC) (w:A1) (i:Bool->A1->Prop):(aK U2 oG 154 [ag p,ag x] w i)=(
 fi p 3 w λj=> ∃(I:Nat->Int×Unit->A1->Prop),(∃n, ∀w1,Ext w w1->I n (0,()) w1)/\ ∀(n:Nat) (s:Int×Unit) (w1:A1),I n s w1->aI (decide (s.1<(↑j.2.1:Int))) ((j.1.isSome=true/\0<=s.1/\s.1<(↑j.2.1:Int))/\gi w1 (ad j.1 (Int.toNat s.1*1)) λa=>XY w1 a x/\((!decide (a=x))=true->x.isSome=true)/\((!decide (a=x))=true->x.isSome=true)/\aj w1 (some !decide (a=x)) (ad x 3) aS λ(k:Int)=>aI (decide (a=x)||k != 0) (∀f,Ext w1 f-> ∃(g:Nat),g<n/\I g (aH .i64 s.1 1,
 ()) f) (x.isSome=true/\x.isSome=true/\(ad x 4).isSome=true/\aU w1 (ad (ad x 4) 0) λd=>((d==1)=true->a.isSome=true)/\((d==1)=true->a.isSome=true)/\aj w1 (some (d==1)) (ad a 2) aS λ(h:Int)=>((d==1&&h==4)=true->a.isSome=true)/\((d==1&&h==4)=true->a.isSome=true)/\((d==1&&h==4)=true->(ad a 4).isSome=true)/\aj w1 (some (d==1&&h==4)) (ad (ad a 4) 0) aS λ(l:Int)=>aI (d==1&&h==4&&l==2) (au w1 (i true)) (x.isSome=true/\
 x.isSome=true/\(ad x 4).isSome=true/\aU w1 (ad (ad x 4) 0) λb=>((b==2)=true->a.isSome=true)/\((b==2)=true->a.isSome=true)/\aj w1 (some (b==2)) (ad a 2) aS λ(c:Int)=>((b==2&&decide (c>=2))=true->a.isSome=true)/\((b==2&&decide (c>=2))=true->a.isSome=true)/\aj w1 (some (b==2&&decide (c>=2))) (ad a 3) aS λ(e:Int)=>((b==2&&decide (c>=2)&&decide (e>0))=true->a.isSome=true)/\((b==2&&decide (c>=2)&&decide (e>0))=true->a.isSome=true)/\
 aj w1 (some (b==2&&decide (c>=2)&&decide (e>0))) (ad a 3) aS λ(m:Int)=>((b==2&&decide (c>=2)&&decide (e>0))=true->x.isSome=true)/\((b==2&&decide (c>=2)&&decide (e>0))=true->x.isSome=true)/\((b==2&&decide (c>=2)&&decide (e>0))=true->(ad x 4).isSome=true)/\aj w1 (some (b==2&&decide (c>=2)&&decide (e>0))) (ad (ad x 4) 1) qN λ(x:Int)=>aI (b==2&&decide (c>=2)&&decide (e>0)&&aD .u64 m==x) (au w1 (i true)) (∀f,Ext w1 f-> ∃(g:Nat),g<n/\
 I g (aH .i64 s.1 1,()) f)))) (au w1 (i false))):=by kernel_rfl
def oH:Nat->a6:=(λ|4=>[(4,Go.RX.El.one Go.RX.Sc.slice),(15,Go.RX.El.one (Go.RX.Sc.int DF))]| _=>[])
theorem FE (p:Option AC) (w:A1) (f:Option AC×Nat×Nat->A1->Prop):(aK U2 oH 156 [ag p] w f)=(
 bG p 0 w λx=>az A2 18 (.el kM) [ag x] w λx a=> ∃(g:Int),ae A2 62 [ag x] a (aa g)/\ ∃(I:Nat->(Option AC×Nat×Nat)×Int×Unit->A1->Prop),(∃n, ∀w1,Ext a w1->I n ((none,0,0),0,()) w1)/\ ∀(n:Nat) (s:(Option AC×Nat×Nat)×Int×Unit) (w1:A1),I n s w1->aI (decide (s.2.1<g)) (∃(c:(Int×Int×Int×Int×Unit)×Bool×Unit),ae A2 25 [ag x,aa s.2.1] w1 (.tuple {toList:=[.agg ⟨[aa c.1.1,aa c.1.2.1,aa c.1.2.2.1,.int .i64
 c.1.2.2.2.1]⟩,.bool c.2.1]})/\aN w1 ⟨[aa 0,aa 0,aa 0,aa 0]⟩ 52 λb a=>aC a (af b) [aa c.1.1,aa c.1.2.1,aa c.1.2.2.1,aa c.1.2.2.2.1] λa=>true=true/\aU a (ad (af b) 0) λx=>((x==5)=true->p.isSome=true)/\((x==5)=true->p.isSome=true)/\aj a (some (x==5)) (ad p 4) OA λj=> ∃h,((x==5)=true->jU a j .i64 s.2.1 (.bool false) (.bool h))/\aI (x==5&& !h) (tu p 4 a λx=> ∀w1,Ext a w1-> ∃(r:Nat), ∃(es:Array DZ), ∃(i:Nat),x
 =some r/\bF w1 r es i/\gX w1 r .i64 s.2.1 (.bool true) es i λa=>aN a ⟨[aa s.2.1]⟩ 3 λb a=> ∀w1,Ext a w1->mF w1 3 1 8 ⟨[aa 0]⟩ (s.1.1,s.1.2.1,s.1.2.2) (some ⟨b,0,none⟩,1,1) λ(r:Option AC×Nat×Nat) a=> ∀d,Ext a d-> ∃(e:Nat),e<n/\I e ((r.1,r.2.1,r.2.2),aH .i64 s.2.1 1,()) d) (∀d,Ext a d-> ∃(e:Nat),e<n/\I e ((s.1.1,s.1.2.1,s.1.2.2),aH .i64 s.2.1 1,()) d)) (au w1 (f (s.1.1,s.1.2.1,s.1.2.2)))):=by kernel_rfl
abbrev uR (b:(Int×Int×Unit)×Bool×Unit->A1->Prop) (c:A1) (a:Nat):Prop:=
 aC c (af a) [ay 0,aa 0] λd=>au d λw1=>aj w1 none (af a) cF λ(x:Int×Int×Unit)=>b ((x.1,x.2.1,()),false,()) w1
abbrev n_ (a:(Int×Int×Unit)×Bool×Unit->A1->Prop) (b:A1) (c:Nat):Prop:=
 au b λw1=>aj w1 none (af c) cF λ(x:Int×Int×Unit)=>a ((x.1,x.2.1,()),true,()) w1
abbrev uS (x:Option AC) (a:Int):Prop:=
 (a==0)=true->x.isSome=true
abbrev jl (x:Option AC) (c:(Int×Int×Unit)×Bool×Unit->A1->Prop) (a:A1) (b:Nat):Prop:=
 x.isSome=true/\x.isSome=true/\aj a none (ad x 10) cF λ(x:Int×Int×Unit)=>aC a (af b) [ay x.1,aa x.2.1] λd=>n_ c d b
abbrev uT (x:Option AC) (b:(Int×Int×Unit)×Bool×Unit->A1->Prop) (c:A1) (d:Int×Int×Unit) (e:Nat):Prop:=
 x.isSome=true/\x.isSome=true/\aC c (ad x 12) [aa d.1] λa=>x.isSome=true/\x.isSome=true/\aC a (ad x 2) [aa 4] λa=>uR b a e
abbrev od (p:Option AC) (x:Option AC) (c:(Int×Int×Unit)×Bool×Unit->A1->Prop) (b:A1) (d:Nat) (e:Int) (f:Int):Prop:=
 x.isSome=true/\x.isSome=true/\(ad x 10).isSome=true/\aU b (ad (ad x 10) 1) λg=>aI (g != 0) (jl x c b d) (az A2 67 (.bu []) [ag x,aa e,aa (aD .i64 f)] b λk a=>bG p 2 a λh=>cN x 0 a λi=>az A2 157 (.bu [.one (.int .i64),.one (.int .i64)]) [ag h,aa i,aa e,aa (aD .i64 f)] a λ(j:Int×Int×Unit) a=>uT x c a j d)
theorem Nf (p x:Option AC) (w:A1) (c:(Int×Int×Unit)×Bool×Unit->A1->Prop):(bS U2 (λ_=>[]) 110 [ag p,ag x] w c)=(
 aN w ⟨[ay 0,aa 0]⟩ 61 λb a=> ∃l,ae A2 152 [ag p,ag x] a (.bool l)/\aI l (az A2 153 (.bu []) [ag p,ag x] a λx a=>uR c a b) (∃m,ae A2 154 [ag p,ag x] a (.bool m)/\aI m (aC a (af b) [ay 0,aa 9] λa=>n_ c a b) (cN x 3 a λe=>uS x e/\uS x e/\aj a (some (e==0)) (ad x 4) vh λ(f:Int×Int×Int×Int×Unit)=>aI (e==0&&(f.1==17&&(f.2.1==0&&(f.2.2.1==0&&
 (f.2.2.2.1==0&&true))))) (az A2 151 (.el aS) [ag p] a λ(x:Int) a=>aC a (af b) [ay (aD .u64 x),aa 0] λa=>n_ c a b) (bG p 0 a λr=>cN x 3 a λs=>x.isSome=true/\x.isSome=true/\aj a none (ad x 4) vh λ(g:Int×Int×Int×Int×Unit)=>az A2 42 (.el cF) [ag r,aa s,.agg ⟨[aa g.1,ay g.2.1,ay g.2.2.1,ay g.2.2.2.1]⟩] a λ(n:Int×Int×Unit) a=>x.isSome=true/\x.isSome=true/\aC a (ad x 10) [ay n.1,
 aa n.2.1] λa=>cN x 3 a λt=>x.isSome=true/\x.isSome=true/\aj a none (ad x 4) vh λ(h:Int×Int×Int×Int×Unit)=>x.isSome=true/\x.isSome=true/\aj a none (ad x 10) cF λ(o:Int×Int×Unit)=>az A2 155 (.bu []) [ag p,.agg {toList:=[aa 1,aa t,aa 0,aa h.1,ay h.2.1,ay h.2.2.1,ay h.2.2.2.1,ay o.1,aa o.2.1]}] a λA a=>az A2 156 (.el eY) [ag p] a λi a=>x.isSome=true/\x.isSome=true/\
 aC a (ad x 13) [.slice i.1 i.2.1 i.2.2] λa=>cN x 3 a λj=>x.isSome=true/\x.isSome=true/\(ad x 4).isSome=true/\cM a (ad (ad x 4) 1) λk=>x.isSome=true/\x.isSome=true/\(ad x 4).isSome=true/\aU a (ad (ad x 4) 0) λd=>aI (d==2) (x.isSome=true/\x.isSome=true/\(ad x 4).isSome=true/\cM a (ad (ad x 4) 1) λq=>x.isSome=true/\x.isSome=true/\(ad x 10).isSome=true/\aU a (ad (ad x 10) 1) λu=>aI (u != 0) (jl x c a b) (az A2 67 (.bu []) [.pointer
 x,aa (aD .i64 q),aa (-1)] a λB a=>bG p 2 a λv=>cN x 0 a λy=>az A2 157 (.bu [.one (.int .i64),.one (.int .i64)]) [ag v,aa y,aa (aD .i64 q),aa (-1)] a λ(z:Int×Int×Unit) a=>uT x c a z b)) (aI (d==4) (aI (d==4) (od p x c a b j k) (jl x c a b)) (aI (d==5) (aI (d==5) (od p x c a b j k) (jl x c a b)) (aI (d==10) (od p x c a b j k) (jl x c a
 b)))))))):=by kernel_rfl
theorem SU (p x:Option AC) (w:A1) (c:Unit->A1->Prop):(aK U2 (λ_=>[]) 153 [ag p,ag x] w c)=(
 bG p 1 w λi=>cN x 0 w λj=>az A2 200 (.el aS) [ag i,aa j] w λ(q:Int) a=>bG x 1 a λk=>cN x 3 a λl=> ∃(d:Int),ae A2 160 [ag x] a (aa d)/\ ∃(e:Int),ae A2 199 [ag x] a (aa e)/\ ∃(b:Int×Int×Unit),ae A2 201 [ag k,aa l,aa d,aa e] a (.tuple ⟨[aa b.1,aa b.2.1]⟩)/\aI (b.2.1==0) (x.isSome=true/\x.isSome=true/\aC a (ad x 2) [aa 3] λa=>x.isSome=true/\
 x.isSome=true/\aC a (ad x 9) [aa b.1] λa=>au a (c ())) (bG p 0 a λm=>cN x 3 a λn=> ∃(f:Int),ae A2 21 [ag m,aa n] a (aa f)/\ ∃(g:Int),ae A2 160 [ag x] a (aa g)/\ ∃(h:Int),ae A2 199 [ag x] a (aa h)/\az A2 20 (.el kM) [aa f,aa g,aa h] a λo a=>x.isSome=true/\x.isSome=true/\aC a (ad x 2) [aa 2] λa=>x.isSome=true/\x.isSome=true/\aC a (ad x 8)
 [ag o] λa=>au a (c ()))):=by kernel_rfl
theorem Ng (p:Option AC) (n:Int) (w:A1) (a:Int->A1->Prop):(aK U2 (λ_=>[]) 49 [ag p,aa n] w a)=(
 ∃(x:Option AC),ae A2 64 [ag p,aa n] w (ag x)/\aI x.isNone (au w (a 0)) (cN x 2 w λx=>au w (a x))):=by kernel_rfl
theorem Nh (p:Option AC) (w:A1) (a:Option AC×Nat×Nat->A1->Prop):(aK U2 (λ_=>[]) 41 [ag p] w a)=(
 aI p.isNone (au w (a (none,0,0))) (fi p 5 w λx=> ∀w1,Ext w w1->mF w1 86 9 72 ⟨[aa 0,aa 0,aa 0,aa 0,ay 0,ay 0,ay 0,ay 0,aa 0]⟩ (none,0,0) (x.1,x.2.1,x.2.2) λ(r:Option AC×Nat×Nat) b=>au b (a (r.1,r.2.1,r.2.2)))):=by kernel_rfl
theorem Ni (p:Option AC) (n:Int) (w:A1) (a:Option AC×Nat×Nat->A1->Prop):(aK U2 (λ_=>[]) 51 [ag p,aa n] w a)=(
 ∃(x:Option AC),ae A2 64 [ag p,aa n] w (ag x)/\aI x.isNone (au w (a (none,0,0))) (bG x 1 w λx=>az A2 83 (.el eY) [ag x] w λx b=>au b (a (x.1,x.2.1,x.2.2)))):=by kernel_rfl
theorem SV (p:Option AC) (n:Int) (w:A1) (a:Int->A1->Prop):(aK U2 (λ_=>[]) 50 [ag p,aa n] w a)=(
 ∃(x:Option AC),ae A2 64 [ag p,aa n] w (ag x)/\aI x.isNone (au w (a 0)) (bG p 2 w λx=> ∃(b:Int),ae A2 82 [ag x,aa n] w (aa b)/\au w (a b))):=by kernel_rfl
theorem Nj (p:Option AC) (w:A1) (a:Option AC->A1->Prop):(aK U2 (λ_=>[]) 17 [ag p] w a)=(
 aI p.isNone (au w (a none)) (bG p 0 w λx=>au w (a x))):=by kernel_rfl
theorem FF (p:Option AC) (w:A1) (a:Option AC×Nat×Nat->A1->Prop):(aK U2 (λ_=>[]) 32 [ag p] w a)=(
 aI p.isNone (au w (a (none,0,0))) (bG p 1 w λx=>az A2 69 (.el eY) [ag x] w λx b=>au b (a (x.1,x.2.1,x.2.2)))):=by kernel_rfl
def xg:Nat->a6:=(λ|10=>[(45,Go.RX.El.one (Go.RX.Sc.int DF))]| _=>[])
theorem Wo (f c l:Int) (w:A1) (d:Option AC×Int×Unit->A1->Prop):(aK U2 xg 52 [aa f,aa c,aa l] w d)=(
 az A2 40 (.bu [.one .ptr,.one (.int .i64)]) [aa f] w λ(x:Option AC×Int×Unit) a=>aI (x.2.1 != 0) (au a (d (none,x.2.1,()))) (az A2 84 (.bu [.one .ptr,.one (.int .i64)]) [aa c] a λ(e:Option AC×Int×Unit) a=>aI (e.2.1 != 0) (au a (d (none,e.2.1,()))) (∀w1,Ext a w1->aN (w1.alloc (Obj.map ⟨[]⟩ 0)) ⟨[ag x.1,ag e.1,ag none,.slice none 0 0,.map (some w1.heap.size),.slice none 0 0]⟩ 103 λb a=>az A2 85 (.bu [.one .ptr,.one (.int .i64)]) [aa c] a λ(x:
 Option AC×Int×Unit) a=>true=true/\true=true/\aC a (ad (af b) 2) [ag x.1] λa=> ∃(I:Nat->Int×Unit->A1->Prop),(∃n, ∀w1,Ext a w1->I n (0,()) w1)/\ ∀(n:Nat) (s:Int×Unit) (w1:A1),I n s w1->aI (decide (s.1<c)) (az A2 86 (.bu [.one .ptr,.one (.int .i64)]) [aa l] w1 λ(x:Option AC×Int×Unit) a=>aI (x.2.1 != 0) (au a (d (none,x.2.1,()))) (true=true/\true=true/\tq a (ad (af b) 3) λg=>aN a {toList:=[aa s.1,ag x.1,aa 0,aa 0,aa 0,
 ay 0,ay 0,ay 0,ag none,aa 0,ay 0,aa 0,aa 0,.slice none 0 0]} 143 λj a=>aN a {toList:=[ag (af j)]} 139 λk a=> ∀w1,Ext a w1->mF w1 139 1 8 ⟨[ag none]⟩ (g.1,g.2.1,g.2.2) (some ⟨k,0,none⟩,1,1) λ(r:Option AC×Nat×Nat) a=>true=true/\true=true/\aC a (ad (af b) 3) [.slice r.1 r.2.1 r.2.2] λa=> ∀h,Ext a h-> ∃(i:Nat),i<n/\I i (aH .i64 s.1 1,()) h)) (au w1 (d (some ⟨b,0,none⟩,0,())))))):=by kernel_rfl
end Go.Proofs.YtlcenllcmeebhaaGreat.Mu
namespace Go.Proofs.YtlcenllcmeebhaaGreat
set_option maxRecDepth 100000
open Go.RX D
namespace Inv
variable {g:Gh} {s s':WD}
structure fy (g:Gh) (s s':WD):Prop where
 len:s'.1.length=s.1.length/\s'.2.length=s.2.length
 ws: ∀{f o x k:Int} {l:Nat},g f=some (o,l,x)->0<=k->k<16->dK s'.1 (16*f+k)=dK s.1 (16*f+k)
 tb: ∀{n:Nat} {d:DT},s.2[n]? =some d->d.1=3->s'.2[n]? =some d
 bt: ∀{n:Nat} {d:DT},s'.2[n]? =some d->d.1=3->s.2[n]? =some d
 fz: ∀d∈s'.2,d.1=0->d=zD
theorem fy.YC (B:fy g s s') {f o x k:Int} {l:Nat} (h:g f=some (o,l,x)) (h0:0<=k) (h1:k<16):aJ s'.1 (16*f+k)=aJ s.1 (16*f+k):=by
 unfold aJ;rw[B.ws h h0 h1]
theorem beside (I:Inv g s) (B:fy g s s'):Inv g s' where
 len:=by rw[B.len.1,B.len.2];exact I.len
 le:=by rw[B.len.2];exact I.le
 fz:=B.fz
 kd:=λ{f o l x} h=>by
  obtain⟨a,b,c,d⟩:=I.kd h;rw[B.len.2];exact⟨a,b,B.tb c rfl,d⟩
 inj:=I.inj
 sW:=λ{f o l x i} h h0 h1 e=>by
  rw[B.YC h h0 h1] at e ⊢;exact I.sW h h0 h1 e
 leaf:=λ{f o l x i} h h0 h1=>by
  rw[B.YC h h0 h1];exact I.leaf h h0 h1
 FO:=λ{f o l x} h m=>by
  obtain⟨f',h1,p⟩:=I.FO h m;refine⟨f',h1,?_⟩;rw[B.YC h1 (by omega) (by omega)];exact p
 wf:=λ{f o l x i} h h0 h1 j=>by
  rw[B.YC h h0 h1] at j;rw[B.ws h h0 h1];exact I.wf h h0 h1 j
 tb:=λ{n d} h k=>I.tb (B.bt h k) k
theorem Iu (B:fy g s s') {o p f:Int} {j:Nat} (h:dG g s o p f j):dG g s' o p f j:=
 ⟨h.1,by rw[B.YC h.1 (dY p j).1 (dY p j).2];exact h.2⟩
theorem yj {r p:Int} (a: ¬ (0<=p/\p<65536)):bz s r false p=(0,0,2,()):=by
 unfold bz;rw[ao (by decide),av (by omega)]
theorem dU (I:Inv g s) (B:fy g s s') {o r:Int} (b:g r=some (o,3,0)) (p:Int):bz s' r false p=bz s r false p:=by
 by_cases a:0<=p/\p<65536
 ·obtain⟨f,j, _,c⟩:=I.mA b a;rw[I.fW b a c,(I.beside B).fW b a (Iu B c),B.YC c.1 (dY p j).1 (dY p j).2]
 ·rw[yj a,yj a]
theorem nc (B:fy g s s') (h:AA g s):AA g s':=λf o l x i a h0 h1 b c=>by
 rw[B.YC a h0 h1] at b c;exact h a h0 h1 b c
theorem aar (s:WD) (r:Int) {p:Int} (a:0<=p/\p<65536):(bz s r false p).2.2.1=0\/bz s r false p=(0,0,4,()):=by
 unfold bz;rw[ao (by decide),ao (by omega)];split
 ·exact .inl rfl
 ·exact .inr rfl
theorem acO (I:Inv g s) (nl:AA g s) {o r p:Int} (b:g r=some (o,3,0)) (c:0<=p/\p<65536) (h:(bz s r false p).2.2.1=0): ∃f,dG g s o p f 0/\(aJ s.1 (16*f+px 0 p % 16)).1=true/\(dD s.1 r p).2.1=0:=by
 obtain⟨f,j, _,a⟩:=I.mA b c;rw[I.fW b c a] at h;have d:=C8 h;have e:=nl a.1 (dY p j).1 (dY p j).2 d a.2;subst e;refine⟨f,a,d,?_⟩;rw[(I.nS b c a).1];rfl
theorem acP (I:Inv g s) (nl:AA g s) {o r p:Int} (a:g r=some (o,3,0)) (b:0<=p/\p<65536) (h:(bz s r false p).2.2.1=0):mn s o r p=0:=by
 obtain⟨_, _, _,e⟩:=I.acO nl a b h;unfold mn;rw[av e]
theorem aa0 (I:Inv g s) (nl:AA g s) {o r p:Int} (a:g r=some (o,3,0)) (b:0<=p/\p<65536) (h:(bz s r false p).2.2.1=0):Cz s o r false p=0:=by
 unfold Cz;rw[av h];exact I.acP nl a b h
theorem PY (I:Inv g s) {o r p:Int} (c:g r=some (o,3,0)) (h:(bz s r false p).2.2.1=0):(0<=p/\p<65536)/\0<=(bz s r false p).1:=by
 have a:0<=p/\p<65536:=by
  by_cases a:0<=p/\p<65536
  ·exact a
  ·rw[yj a] at h;exact absurd h (by decide)
 refine⟨a,?_⟩;obtain⟨f,j, _,i⟩:=I.mA c a;rw[I.fW c a i] at h ⊢;have b:=C8 h;have d:=lI s.1 (16*f+px j p % 16);unfold ki;rw[av b];generalize aJ s.1 (16*f+px j p % 16)=e at*
 obtain⟨ep,er,el,ef,k⟩:=e;dsimp only at b d;subst b;obtain⟨l,m,n,q,t⟩:=mg.1 d;dsimp only;split<;>omega
end Inv
set_option maxRecDepth 100000
open Go.RX D
def lf {α:Type} (F:Nat->α) (v:Nat) (y:α):Nat->α:=λi=>if i=v then y else F i
theorem kW {α:Type} (F:Nat->α) (v:Nat) (y:α):lf F v y v=y:=av rfl
theorem nU {α:Type} {F:Nat->α} {v i:Nat} (h:i≠v) (y:α):lf F v y i=F i:=ao h
theorem C_ (F:Nat->Nat) (v y:Nat): ∀n,((B2 n).map (lf F v y)).sum+(if v<n then F v else 0)=((B2 n).map F).sum+(if v<n then y else 0)
 |0=>rfl
 |n+1=>by
  have b:=C_ F v y n;rw[List.range_succ,F7,F7,FI,FI];simp only[DA,List.map_nil,E4,List.sum_nil];by_cases h:v=n
  ·subst h;rw[kW];rw[ao (Nat.lt_irrefl _),ao (Nat.lt_irrefl _)] at b;rw[av (GG _),av (GG _)];omega
  ·rw[nU (λe=>h e.symm)];by_cases a:v<n
   ·rw[av a,av a] at b;rw[av (by omega),av (by omega)];omega
   ·rw[ao a,ao a] at b;rw[ao (by omega),ao (by omega)];omega
def nC (tk:Nat->List TK) (q:TK->Bool):Nat:=((B2 17).map λi=>(tk i).countP q).sum
theorem zA (tk:Nat->List TK) (q:TK->Bool) {v:Nat} (hv:v<17) (y:List TK):nC (lf tk v y) q+(tk v).countP q=nC tk q+y.countP q:=by
 have h:=C_ (λi=>(tk i).countP q) v (y.countP q) 17;rw[av hv,av hv] at h;have e:(λi=>(lf tk v y i).countP q)=lf (λi=>(tk i).countP q) v (y.countP q):=by
  funext i;unfold lf;split<;>rfl
 unfold nC;rw[e];exact h
theorem zB {tk:Nat->List TK} {q:TK->Bool} (h:0<nC tk q): ∃i t,i<17/\t∈tk i/\q t=true:=by
 unfold nC at h;have: ∀l:List Nat,0<(l.map λi=>(tk i).countP q).sum-> ∃i t,i∈l/\t∈tk i/\q t=true:=by
  intro l
  induction l with
  |nil=>intro h;simp at h
  |cons i l b=>
   intro h;rw[DA,E4] at h;by_cases h1:0<(tk i).countP q
   ·obtain⟨t,a,c⟩:=Dn.1 h1;exact⟨i,t,Be,a,c⟩
   ·obtain⟨j,t,d,a⟩:=b (by omega);exact⟨j,t,Bx _ d,a⟩
 obtain⟨i,t,hi,a⟩:=this _ h;exact⟨i,t,DL.1 hi,a⟩
theorem BZ {tk:Nat->List TK} {q:TK->Bool} (h: ∀i t,t∈tk i->q t=false):nC tk q=0:=by
 rcases Cf (nC tk q) with e|e
 ·exact e
 ·obtain⟨i,t, _,b,a⟩:=zB e;rw[h i t b] at a;cases a
theorem nV {tk:Nat->List TK} {q:TK->Bool} {i:Nat} {t:TK} (hi:i<17) (a:t∈tk i) (b:q t=true):0<nC tk q:=by
 have h:=zA tk q hi [];have c:0<(tk i).countP q:=Dn.2 ⟨t,a,b⟩;simp only[List.countP_nil] at h;omega
def ee (tk:Nat->List TK) (f:Int):Nat:=nC tk λt=>t.2.2==f
def mS (tk:Nat->List TK) (a:Int):Nat:=nC tk λt=>t.2.1==a
abbrev IL:Type:=Nat->Int->Option Int
def nE (fr:IL) (v:Nat) (p:Int) (y:Option Int):IL:=λi q=>if i=v/\q=p then y else fr i q
theorem fR (fr:IL) (v:Nat) (p:Int) (y:Option Int):nE fr v p y v p=y:=av ⟨rfl,rfl⟩
theorem bH {fr:IL} {v i:Nat} {p q:Int} (h: ¬ (i=v/\q=p)) (y:Option Int):nE fr v p y i q=fr i q:=ao h
def Ue (gr:List GT) (fr:IL) (tk:Nat->List TK) (a:Int) (i o:Nat) (f:Int):Prop:=
 ∃k x,l5 gr a=some k/\gr[k]? =some x/\x.1=(o:Int)/\x.2.2.1=(i:Int)/\fr o x.2.1=some f/\cg (tk o) x.2.1=none
structure HC (fr:IL) (tk:Nat->List TK) (ds:List DT) (gr:List GT):Prop where
 jo: ∀{i p f},fr i p=some f->1<=i/\i<=16/\0<=p/\p<65536
 kd: ∀{n:Nat} {d:DT},ds[n]? =some d->(d.1=0\/d.1=3\/d.1=4\/d.1=5)/\d.2.2.2.1=0/\0<=d.2.1/\d.2.1<=16
 TQ: ∀{n:Nat} {d:DT},ds[n]? =some d->d.1=4-> ∃(i:Nat) (p:Int),(i:Int)=d.2.1/\fr i p=some (n:Int)/\cg (tk i) p=none
 own: ∀{i p f},fr i p=some f->cg (tk i) p=none-> ∃(n:Nat) (d:DT),(n:Int)=f/\ds[n]? =some d/\d.1=4/\d.2.1=(i:Int)
 Dy: ∀{i p a f},cg (tk i) p=some (a,f)->fr i p=some f/\ ∃o:Nat,o≠i/\Ue gr fr tk a i o f
 nd: ∀i,((tk i).map (·.1)).Nodup
 inj: ∀{i p p' f},fr i p=some f->fr i p'=some f->cg (tk i) p=none->cg (tk i) p'=none->p=p'
 refs: ∀{n:Nat} {d:DT},ds[n]? =some d->d.2.2.1=(ee tk (n:Int):Int)
 vl: ∀{n:Nat} {x:GT},gr[n]? =some x->x.2.2.2.2.1=(mS tk (n:Int):Int)
 gl:gr.length=16
 gk:oh gr
theorem fB {gr:List GT} {a:Int} {k:Nat}:l5 gr a=some k<->(k:Int)=a/\k<gr.length/\gr.getD k zG≠zG:=by
 unfold l5;constructor
 ·intro h;split at h
  ·rename_i c;cases h;exact⟨by omega,by omega,c.2.2⟩
  ·cases h
 ·rintro⟨rfl,h1,b⟩;rw[av ⟨by omega,by omega,b⟩];rfl
theorem getD_some {gr:List GT} {k:Nat} {x:GT} (h:gr[k]? =some x):gr.getD k zG=x:=by
 rw[Am,h];rfl
namespace HC
variable {fr:IL} {tk:Nat->List TK} {ds:List DT} {gr:List GT}
theorem OL (H:HC fr tk ds gr) {i:Nat} {t:TK} (h:t∈tk i):cg (tk i) t.1=some t.2:=(jM (a:=t.2.1) (b:=t.2.2) (H.nd i)).2 h
theorem KI (H:HC fr tk ds gr) {i:Nat} {p a f:Int} (h:cg (tk i) p=some (a,f)):(p,a,f)∈tk i:=(jM (H.nd i)).1 h
theorem aa1 (H:HC fr tk ds gr) {i:Nat} {p a f:Int} (h:cg (tk i) p=some (a,f)): ∃(n:Nat) (d:DT) (o:Nat),(n:Int)=f/\ds[n]? =some d/\d.1=4/\d.2.1=(o:Int)/\o≠i/\Ue gr fr tk a i o f:=by
 obtain⟨_,o,e,g⟩:=H.Dy h;obtain⟨k,x,h1,j,l,m,b,c⟩:=g;obtain⟨n,d,q,r,s,t⟩:=H.own b c;exact⟨n,d,o,q,r,s,t,e,k,x,h1,j,l,m,b,c⟩
theorem at4 (H:HC fr tk ds gr) {i:Nat} {p f:Int} (h:fr i p=some f): ∃(n:Nat) (d:DT),(n:Int)=f/\ds[n]? =some d/\d.1=4:=by
 cases b:cg (tk i) p with
 |none=>
  obtain⟨n,d,h1,c,e, _⟩:=H.own h b;exact⟨n,d,h1,c,e⟩
 |some y=>
  obtain⟨a,f'⟩:=y;obtain⟨n,d,o,h1,c,e, _⟩:=H.aa1 b;have:=(H.Dy b).1;rw[h] at this;cases this;exact⟨n,d,h1,c,e⟩
theorem I9 (H:HC fr tk ds gr) {n:Nat} (h:0<ee tk (n:Int)): ∃d,ds[n]? =some d/\d.1=4:=by
 obtain⟨i,t, _,a,b⟩:=zB h;obtain⟨m,d,o,h1,c,f, _⟩:=H.aa1 (H.OL a);have g:t.2.2=(n:Int):=by simpa using b
 have e:m=n:=B4 (h1.trans g);subst e;exact⟨d,c,f⟩
theorem G_ (H:HC fr tk ds gr) {g:List DT} (k: ∀{n:Nat} {d:DT},ds[n]? =some d->d.1=4->g[n]? =some d) (j: ∀{n:Nat} {d:DT},g[n]? =some d->ds[n]? =some d\/((d.1=0\/d.1=3\/d.1=5)/\d.2.2=(0,0,())/\0<=d.2.1/\d.2.1<=16)):HC fr tk g gr:=by
 have l: ∀{n:Nat} {d:DT},g[n]? =some d->(d.1=0\/d.1=3\/d.1=5)->ee tk (n:Int)=0:=λ{n d} h a=>by
  rcases Cf (ee tk (n:Int)) with e|e
  ·exact e
  ·obtain⟨d',b,c⟩:=H.I9 e;have:=k b c;rw[h] at this;cases this;omega
 refine⟨H.jo,λ{n d} h=>?_,λ{n d} h c=>?_,λ{i p f} h m=>?_,H.Dy,H.nd,H.inj,λ{n d} h=>?_,H.vl,H.gl,H.gk⟩
 ·rcases j h with h1|⟨h1,a,b⟩
  ·exact H.kd h1
  ·exact⟨by omega,by rw[a],b⟩
 ·rcases j h with h1|⟨h1,a⟩
  ·exact H.TQ h1 c
  ·omega
 ·obtain⟨n,d,h1,a,b,c⟩:=H.own h m;exact⟨n,d,h1,k a b,b,c⟩
 ·rcases j h with h1|⟨h1,a, _⟩
  ·exact H.refs h1
  ·rw[l h h1,a];rfl
theorem PZ (H:HC fr tk ds gr) {Aq:List GT} (d:Aq.length=gr.length) (m:oh Aq) (r: ∀{n:Nat} {x y:GT},gr[n]? =some x->Aq[n]? =some y->y.2.2.2.2.1=x.2.2.2.2.1) (e: ∀{n:Nat} {x:GT},gr[n]? =some x->x.2.2.2.2.1>0->Aq[n]? =some x):HC fr tk ds Aq:=by
 refine⟨H.jo,H.kd,H.TQ,H.own,λ{i p a f} h=>?_,H.nd,H.inj,H.refs,λ{n y} h=>?_,d.trans H.gl,m⟩
 ·obtain⟨h1,o,s,k,x,g,b,u⟩:=H.Dy h;refine⟨h1,o,s,k,x,?_,?_,u⟩
  ·obtain⟨c,z,j⟩:=fB.1 g;refine fB.2 ⟨c,by omega,?_⟩;have v:x.2.2.2.2.1>0:=by
    rw[H.vl b];have:=nV (q:=λt=>t.2.1==(k:Int)) (by have:=H.jo h1;omega:i<17) (H.KI h) (by simp[c]);unfold mS;omega
   rw[getD_some (e b v)];rw[getD_some b] at j;exact j
  ·refine e b ?_;obtain⟨c, _⟩:=fB.1 g;rw[H.vl b];have:=nV (q:=λt=>t.2.1==(k:Int)) (by have:=H.jo h1;omega:i<17) (H.KI h) (by simp[c]);unfold mS;omega
 ·have w:n<gr.length:=by rw[<-d];exact(AP.1 h).1
  have l:gr[n]? =some gr[n]:=B3 w;rw[r l h];exact H.vl l
end HC
set_option maxRecDepth 100000
open Go.RX D
theorem nf (t:TK) (l:List TK) (p:Int):cg (t::l) p=if t.1=p then some t.2 else cg l p:=by
 unfold cg;rw[List.find?_cons];by_cases e:t.1=p
 ·rw[av e,show(t.1==p)=true by simpa using e];rfl
 ·rw[ao e,show(t.1==p)=false by simpa using e]
theorem Nk {l l':List TK} (h:l.Perm l') (nd:(l.map (·.1)).Nodup) (p:Int):cg l p=cg l' p:=by
 have c:(l'.map (·.1)).Nodup:=(h.map _).nodup_iff.1 nd;cases h1:cg l p with
 |some x=>
  have:=(jM (a:=x.1) (b:=x.2) nd).1 h1;exact((jM (a:=x.1) (b:=x.2) c).2 (h.mem_iff.1 this)).symm
 |none=>
  symm;rw[qz] at h1 ⊢;exact λt d=>h1 t (h.mem_iff.2 d)
theorem P0 {t:TK} {l:List TK} (a:cg l t.1=none) (nd:(l.map (·.1)).Nodup):((mJ t l).map (·.1)).Nodup:=by
 refine((na t l).map _).nodup_iff.2 (CB.2 ⟨λb=>?_,nd⟩);obtain⟨x,c,e⟩:=Ap.1 b;exact qz.1 a x c e
theorem SW {t:TK} {l:List TK} (a:cg l t.1=none) (nd:(l.map (·.1)).Nodup) (p:Int):cg (mJ t l) p=if t.1=p then some t.2 else cg l p:=by
 rw[Nk (na t l) (P0 a nd),nf]
theorem Nl (l:List TK) (b p:Int):cg (l.filter λt=> !(t.1==b)) p=if p=b then none else cg l p:=by
 induction l with
 |nil=>unfold cg;simp
 |cons t l c=>
  rw[FK];by_cases e:t.1=b
  ·rw[ao (by simp[e]),c,nf];by_cases a:p=b
   ·rw[av a,av a]
   ·rw[ao a,ao a,ao (λh=>a (h.symm.trans e))]
  ·rw[av (by simpa using e),nf,nf,c];by_cases a:t.1=p
   ·rw[av a,av a,ao (λh=>e (a.trans h))]
   ·rw[ao a,ao a]
theorem B6 {l:List TK} {b:Int} {x:Int×Int} (nd:(l.map (·.1)).Nodup) (h:cg l b=some x):l.Perm ((b,x)::l.filter λt=> !(t.1==b)):=by
 induction l with
 |nil=>unfold cg at h;simp at h
 |cons t l a=>
  rw[DA,CB] at nd;rw[nf] at h;rw[FK];by_cases e:t.1=b
  ·rw[av e] at h;cases h;rw[ao (by simp[e])];have c:l.filter (λt=> !(t.1==b))=l:=FS.2 λu d=>by
    have:u.1≠b:=λf=>nd.1 (Ap.2 ⟨u,d,f.trans e.symm⟩);simpa using this
   rw[c, <-e]
  ·rw[ao e] at h;rw[av (by simpa using e)];exact((a nd.2 h).cons t).trans (.swap _ _ _)
theorem Wp (q:TK->Bool) (t:TK) (l:List TK):(mJ t l).countP q=l.countP q+(if q t=true then 1 else 0):=by
 rw[(na t l).countP_eq,Do]
theorem SX {l:List TK} {b:Int} {x:Int×Int} (nd:(l.map (·.1)).Nodup) (h:cg l b=some x) (q:TK->Bool):l.countP q=(l.filter λt=> !(t.1==b)).countP q+(if q (b,x)=true then 1 else 0):=by
 rw[(B6 nd h).countP_eq,Do]
theorem Wq {l:List TK} (b:Int) (nd:(l.map (·.1)).Nodup):((l.filter λt=> !(t.1==b)).map (·.1)).Nodup:=(DB.map _).nodup nd
theorem C' {gr:List GT} {k j:Nat} {x y:GT} {a:Int} (f:gr[k]? =some x) (c:y≠zG) (h:l5 gr a=some j):l5 (gr.set k y) a=some j:=by
 obtain⟨h1,b,d⟩:=fB.1 h;refine fB.2 ⟨h1,by rw[AY];exact b,?_⟩;rw[Am];by_cases e:k=j
 ·subst e;rw[AM b];exact c
 ·rw[AL e, <-Am];exact d
theorem yk {gr:List GT} (a:oh gr) {k:Nat} {x:GT} (b:gr[k]? =some x) (c:x≠zG) (n:Int):fq x n≠zG:=λe=>by
 rcases(a x (B1 b)).1 with h|⟨h, _⟩
 ·exact c h
 ·have:(fq x n).1=zG.1:=congrArg (·.1) e;have:x.1=0:=this;omega
namespace HC
variable {fr:IL} {tk:Nat->List TK} {ds:List DT} {gr:List GT}
theorem Zl (H:HC fr tk ds gr) {i:Nat} {p:Int} (h:fr i p=none):cg (tk i) p=none:=by
 cases b:cg (tk i) p with
 |none=>rfl
 |some y=>
  have:=(H.Dy (a:=y.1) (f:=y.2) b).1;rw[h] at this;cases this
theorem Ha (H:HC fr tk ds gr) {v n:Nat} {a:Int} {d0:DT} (hv:1<=v/\v<=16) (A:0<=a/\a<65536) (u:ds[n]? =some d0) (h0:d0.1=0) (w:fr v a=none):
 HC (nE fr v a (some (n:Int))) tk (ds.set n (4,(v:Int),0,0,())) gr:=by
 have q:n<ds.length:=(AP.1 u).1;have r: ∀{d},ds[n]? =some d->d.1=4->False:=λ{d} h l=>by rw[u] at h;cases h;omega
 have B:ee tk (n:Int)=0:=by
  rcases Cf (ee tk (n:Int)) with e|e
  ·exact e
  ·obtain⟨d,h1,g⟩:=H.I9 e;exact(r h1 g).elim
 have s: ∀{i p f},fr i p=some f-> ¬ (i=v/\p=a):=λ{i p f} h e=>by rw[e.1,e.2,w] at h;cases h
 have y: ∀{i p},fr i p=some (n:Int)->False:=λ{i p} h=>by
  obtain⟨m,d,h1,g,j⟩:=H.at4 h;have:m=n:=B4 h1;subst this;exact r g j
 refine⟨λ{i p f} h=>?_,λ{m d} h=>?_,λ{m d} h l=>?_,λ{i p f} h t=>?_,λ{i p b f} h=>?_,H.nd,λ{i p p' f} h h' t C=>?_,λ{m d} h=>?_,H.vl,H.gl,H.gk⟩
 ·by_cases e:i=v/\p=a
  ·obtain⟨rfl,rfl⟩:=e;exact⟨hv.1,hv.2,A⟩
  ·rw[bH e] at h;exact H.jo h
 ·by_cases e:n=m
  ·subst e;rw[AM q] at h;cases h;exact⟨.inr (.inr (.inl rfl)),rfl,by show 0<=(v:Int);omega,by show(v:Int)<=16;omega⟩
  ·rw[AL e] at h;exact H.kd h
 ·by_cases e:n=m
  ·subst e;rw[AM q] at h;cases h;exact⟨v,a,rfl,fR _ _ _ _,H.Zl w⟩
  ·rw[AL e] at h;obtain⟨i,p,h1,g,j⟩:=H.TQ h l;exact⟨i,p,h1,by rw[bH (s g)];exact g,j⟩
 ·by_cases e:i=v/\p=a
  ·obtain⟨rfl,rfl⟩:=e;rw[fR] at h;cases h;exact⟨n, _,rfl,AM q,rfl,rfl⟩
  ·rw[bH e] at h;obtain⟨m,d,h1,g,j,l⟩:=H.own h t;refine⟨m,d,h1,?_,j,l⟩;rw[AL (λe=>by subst e;exact r g j)];exact g
 ·obtain⟨h1,o,g,k,x,j,l,D,E,z,F⟩:=H.Dy h;exact⟨by rw[bH (s h1)];exact h1,o,g,k,x,j,l,D,E,by rw[bH (s z)];exact z,F⟩
 ·by_cases e:i=v/\p=a
  ·obtain⟨rfl,rfl⟩:=e;rw[fR] at h;cases h;by_cases e':p'=p
   ·exact e'.symm
   ·rw[bH (λc=>e' c.2)] at h';exact(y h').elim
  ·rw[bH e] at h;by_cases e':i=v/\p'=a
   ·obtain⟨rfl,rfl⟩:=e';rw[fR] at h';cases h';exact(y h).elim
   ·rw[bH e'] at h';exact H.inj h h' t C
 ·by_cases e:n=m
  ·subst e;rw[AM q] at h;cases h;rw[B];rfl
  ·rw[AL e] at h;exact H.refs h
theorem Da (H:HC fr tk ds gr) {v n:Nat} {a o:Int} (E:0<=o/\o<=16) (s:fr v a=some (n:Int)) (w:cg (tk v) a=none) (B:ee tk (n:Int)=0):
 HC (nE fr v a none) tk (ds.set n (5,o,0,0,())) gr:=by
 obtain⟨j,d0,y,C,M,F⟩:=H.own s w;have y:j=n:=B4 y;subst y;have z:j<ds.length:=(AP.1 C).1;have G: ∀{i p b f},cg (tk i) p=some (b,f)->f≠(j:Int):=λ{i p b f} h e=>by
  have N:=H.jo (H.Dy h).1;have:=nV (q:=λt=>t.2.2==(j:Int)) (by omega:i<17) (H.KI h) (by simp[e]);unfold ee at B;omega
 refine⟨λ{i p f} h=>?_,λ{m d} h=>?_,λ{m d} h k4=>?_,λ{i p f} h u=>?_,λ{i p b f} h=>?_,H.nd,λ{i p p' f} h h' u I=>?_,λ{m d} h=>?_,H.vl,H.gl,H.gk⟩
 ·by_cases e:i=v/\p=a
  ·obtain⟨rfl,rfl⟩:=e;rw[fR] at h;cases h
  ·rw[bH e] at h;exact H.jo h
 ·by_cases e:j=m
  ·subst e;rw[AM z] at h;cases h;exact⟨.inr (.inr (.inr rfl)),rfl,E⟩
  ·rw[AL e] at h;exact H.kd h
 ·by_cases e:j=m
  ·subst e;rw[AM z] at h;cases h;exact absurd k4 (show ¬ (5:Int)=4 by decide)
  ·rw[AL e] at h;obtain⟨i,p,h1,g,l⟩:=H.TQ h k4;refine⟨i,p,h1,?_,l⟩;rw[bH (λc=>?_)]
   ·exact g
   ·rw[c.1,c.2,s] at g;cases g;exact e rfl
 ·by_cases e:i=v/\p=a
  ·obtain⟨rfl,rfl⟩:=e;rw[fR] at h;cases h
  ·rw[bH e] at h;obtain⟨m,d,h1,g,l,r⟩:=H.own h u;refine⟨m,d,h1,?_,l,r⟩;by_cases D:j=m
   ·subst D;rw[C] at g;cases g;rw[F] at r;have ev:v=i:=B4 r;subst ev;rw[<-h1] at h;exact absurd ⟨rfl,H.inj h s u w⟩ e
   ·rw[AL D];exact g
 ·obtain⟨h1,o',g,k,x,l,r,J,K,A,L⟩:=H.Dy h;refine⟨?_,o',g,k,x,l,r,J,K,?_,L⟩
  ·rw[bH (λc=>?_)]
   ·exact h1
   ·rw[c.1,c.2,w] at h;cases h
  ·rw[bH (λc=>?_)]
   ·exact A
   ·rw[c.1,c.2,s] at A;cases A;exact G h rfl
 ·by_cases e:i=v/\p=a
  ·obtain⟨rfl,rfl⟩:=e;rw[fR] at h;cases h
  ·rw[bH e] at h;by_cases e':i=v/\p'=a
   ·obtain⟨rfl,rfl⟩:=e';rw[fR] at h';cases h'
   ·rw[bH e'] at h';exact H.inj h h' u I
 ·by_cases e:j=m
  ·subst e;rw[AM z] at h;cases h;rw[B];rfl
  ·rw[AL e] at h;exact H.refs h
end HC
set_option maxRecDepth 100000
open Go.RX D
namespace HC
variable {fr:IL} {tk:Nat->List TK} {ds:List DT} {gr:List GT}
theorem take (H:HC fr tk ds gr) {v o n k:Nat} {b:Int} {x:GT} {d0:DT} (hb:0<=b/\b<65536) (K:fr v b=none) (S:ds[n]? =some d0) (r:gr[k]? =some x) (C:x≠zG) (L:x.1=(o:Int)) (M:x.2.2.1=(v:Int)) (T:fr o x.2.1=some (n:Int)) (U:cg (tk o) x.2.1=none)
 (V:oh (gr.set k (fq x 1))):
 HC (nE fr v b (some (n:Int))) (lf tk v (mJ (b,(k:Int),(n:Int)) (tk v))) (ds.set n (d0.1,d0.2.1,d0.2.2.1+1,d0.2.2.2.1,())) (gr.set k (fq x 1)):=by
 have Z:n<ds.length:=(AP.1 S).1;have D:k<gr.length:=(AP.1 r).1;obtain⟨N,ro,F⟩:(1<=v/\v<=16)/\(1<=o/\o<=16)/\o≠v:=by
  rcases(H.gk x (B1 r)).1 with h|⟨h1,l,g, _⟩
  ·exact absurd h C
  ·rw[L] at h1 g;rw[M] at l g;exact⟨by omega,by omega,λe=>g (by rw[e])⟩
 have A: ∀{i p f},fr i p=some f-> ¬ (i=v/\p=b):=λ{i p f} h e=>by rw[e.1,e.2,K] at h;cases h
 have O:cg (tk v) b=none:=H.Zl K;have s: ∀i p,cg (lf tk v (mJ (b,(k:Int),(n:Int)) (tk v)) i) p=if i=v/\p=b then some ((k:Int),(n:Int)) else cg (tk i) p:=λi p=>by
  by_cases e:i=v
  ·subst e;rw[kW,SW O (H.nd _)];by_cases w:p=b
   ·rw[av w.symm,av ⟨rfl,w⟩]
   ·rw[ao (λh=>w h.symm),ao (λh=>w h.2)]
  ·rw[nU e,ao (λh=>e h.1)]
 have W: ∀{m:Nat} {d:DT},ds[m]? =some d-> ∃d':DT,(ds.set n (d0.1,d0.2.1,d0.2.2.1+1,d0.2.2.2.1,()))[m]? =some d'/\d'.1=d.1/\d'.2.1=d.2.1:=λ{m d} h=>by
  grind
 have G: ∀{m:Nat} {d':DT},(ds.set n (d0.1,d0.2.1,d0.2.2.1+1,d0.2.2.2.1,()))[m]? =some d'-> ∃d:DT,ds[m]? =some d/\d'.1=d.1/\d'.2.1=d.2.1/\d'.2.2.2.1=d.2.2.2.1/\d'.2.2.1=d.2.2.1+(if m=n then 1 else 0):=λ{m d'} h=>by
  grind
 have X: ∀{a:Int} {i o':Nat} {f:Int},Ue gr fr tk a i o' f->Ue (gr.set k (fq x 1)) (nE fr v b (some (n:Int))) (lf tk v (mJ (b,(k:Int),(n:Int)) (tk v))) a i o' f:=by
  rintro a i o' f ⟨j,y,h1,l,g,z,t,Y⟩;have P:=C' r (yk H.gk r C 1) h1;have Q:cg (lf tk v (mJ (b,(k:Int),(n:Int)) (tk v)) o') y.2.1=none:=by
   rw[s,ao (A t)];exact Y
  by_cases e:k=j
  ·subst e;rw[r] at l;cases l;exact⟨k,fq x 1,P,AM D,g,z,by show nE fr v b _ o' x.2.1= _;rw[bH (A t)];exact t,Q⟩
  ·exact⟨j,y,P,by rw[AL e];exact l,g,z,by rw[bH (A t)];exact t,Q⟩
 have R: ∀q:TK->Bool,nC (lf tk v (mJ (b,(k:Int),(n:Int)) (tk v))) q=nC tk q+(if q (b,(k:Int),(n:Int))=true then 1 else 0):=λq=>by
  have h1:=zA tk q (by omega:v<17) (mJ (b,(k:Int),(n:Int)) (tk v));rw[Wp] at h1;omega
 refine⟨λ{i p f} h=>?_,λ{m d} h=>?_,λ{m d} h z=>?_,λ{i p f} h u=>?_,λ{i p c f} h=>?_,λi=>?_,λ{i p p' f} h h' u E=>?_,λ{m d} h=>?_,λ{m y} h=>?_,by rw[AY];exact H.gl,V⟩
 ·by_cases e:i=v/\p=b
  ·obtain⟨rfl,rfl⟩:=e;exact⟨N.1,N.2,hb⟩
  ·rw[bH e] at h;exact H.jo h
 ·obtain⟨d',h1,l,g,t, _⟩:=G h;rw[l,t,g];exact H.kd h1
 ·obtain⟨d',h1,l,g, _⟩:=G h;obtain⟨i,p,I,B,J⟩:=H.TQ h1 (by rw[<-l];exact z);exact⟨i,p,by rw[g];exact I,by rw[bH (A B)];exact B,by rw[s,ao (A B)];exact J⟩
 ·by_cases e:i=v/\p=b
  ·rw[s,av e] at u;cases u
  ·rw[bH e] at h;rw[s,ao e] at u;obtain⟨m,d,h1,l,g,z⟩:=H.own h u;obtain⟨d',I,B,J⟩:=W l;exact⟨m,d',h1,I,by rw[B];exact g,by rw[J];exact z⟩
 ·rw[s] at h;by_cases e:i=v/\p=b
  ·rw[av e] at h;cases h;obtain⟨rfl,rfl⟩:=e;refine⟨fR _ _ _ _,o,F,k,fq x 1,?_,AM D,L,M,?_,?_⟩
   ·exact C' r (yk H.gk r C 1) (fB.2 ⟨rfl,D,by rw[getD_some r];exact C⟩)
   ·show nE fr i p _ o x.2.1= _;rw[bH (λc=>F c.1)];exact T
   ·show cg (lf tk i _ o) x.2.1=none;rw[nU F];exact U
  ·rw[ao e] at h;obtain⟨h1,o',l,g⟩:=H.Dy h;exact⟨by rw[bH e];exact h1,o',l,X g⟩
 ·by_cases e:i=v
  ·subst e;rw[kW];exact P0 O (H.nd _)
  ·rw[nU e];exact H.nd i
 ·have e: ¬ (i=v/\p=b):=λc=>by rw[s,av c] at u;cases u
  have e': ¬ (i=v/\p'=b):=λc=>by rw[s,av c] at E;cases E
  rw[s,ao e] at u;rw[s,ao e'] at E;rw[bH e] at h;rw[bH e'] at h';exact H.inj h h' u E
 ·obtain⟨d',h1, _, _, _,t⟩:=G h;rw[t,H.refs h1];unfold ee;rw[R]
  grind
 ·have w:mS (lf tk v (mJ (b,(k:Int),(n:Int)) (tk v))) (m:Int)=mS tk (m:Int)+(if k=m then 1 else 0):=by
   unfold mS;rw[R]
   grind
  rw[w];by_cases e:k=m
  ·subst e;rw[AM D] at h;cases h;rw[av rfl];have:=H.vl r;show x.2.2.2.2.1+1= _;omega
  ·rw[AL e] at h;rw[ao e];have:=H.vl h;omega
theorem Gx (H:HC fr tk ds gr) {v n k:Nat} {b:Int} {x:GT} {d0:DT} (D:cg (tk v) b=some ((k:Int),(n:Int))) (E:ds[n]? =some d0) (w:gr[k]? =some x) (P:x≠zG)
 (Q:oh (gr.set k (fq x (-1)))):
 HC (nE fr v b none) (lf tk v ((tk v).filter λt=> !(t.1==b))) (ds.set n (d0.1,d0.2.1,d0.2.2.1 - 1,d0.2.2.2.1,())) (gr.set k (fq x (-1))):=by
 have J:n<ds.length:=(AP.1 E).1;have K:k<gr.length:=(AP.1 w).1;have T:=H.jo (H.Dy D).1;have r: ∀i p,cg (lf tk v ((tk v).filter λt=> !(t.1==b)) i) p=if i=v/\p=b then none else cg (tk i) p:=λi p=>by
  by_cases e:i=v
  ·subst e;rw[kW,Nl];by_cases o:p=b
   ·rw[av o,av ⟨rfl,o⟩]
   ·rw[ao o,ao (λh=>o h.2)]
  ·rw[nU e,ao (λh=>e h.1)]
 have z: ∀{i p},cg (tk i) p=none-> ¬ (i=v/\p=b):=λ{i p} h e=>by rw[e.1,e.2,D] at h;cases h
 have R: ∀{m:Nat} {d:DT},ds[m]? =some d-> ∃d':DT,(ds.set n (d0.1,d0.2.1,d0.2.2.1 - 1,d0.2.2.2.1,()))[m]? =some d'/\d'.1=d.1/\d'.2.1=d.2.1:=λ{m d} h=>by
  by_cases e:n=m
  ·subst e;rw[E] at h;cases h;exact⟨_,AM J,rfl,rfl⟩
  ·exact⟨d,by rw[AL e];exact h,rfl,rfl⟩
 have F: ∀{m:Nat} {d':DT},(ds.set n (d0.1,d0.2.1,d0.2.2.1 - 1,d0.2.2.2.1,()))[m]? =some d'-> ∃d:DT,ds[m]? =some d/\d'.1=d.1/\d'.2.1=d.2.1/\d'.2.2.2.1=d.2.2.2.1/\d'.2.2.1=d.2.2.1 - (if m=n then 1 else 0):=λ{m d'} h=>by
  by_cases e:n=m
  ·subst e;rw[AM J] at h;cases h;exact⟨d0,E,rfl,rfl,rfl,by rw[av rfl]⟩
  ·rw[AL e] at h;exact⟨d',h,rfl,rfl,rfl,by rw[ao (λc=>e c.symm)];omega⟩
 have S: ∀{a:Int} {i o':Nat} {f:Int},Ue gr fr tk a i o' f->Ue (gr.set k (fq x (-1))) (nE fr v b none) (lf tk v ((tk v).filter λt=> !(t.1==b))) a i o' f:=by
  rintro a i o' f ⟨j,y,h1,g,l,s,u,C⟩;have L:=C' w (yk H.gk w P (-1)) h1;have M:cg (lf tk v ((tk v).filter λt=> !(t.1==b)) o') y.2.1=none:=by
   rw[r,ao (z C)];exact C
  by_cases e:k=j
  ·subst e;rw[w] at g;cases g;exact⟨k,fq x (-1),L,AM K,l,s,by show nE fr v b _ o' x.2.1= _;rw[bH (z C)];exact u,M⟩
  ·exact⟨j,y,L,by rw[AL e];exact g,l,s,by rw[bH (z C)];exact u,M⟩
 have N: ∀q:TK->Bool,nC (lf tk v ((tk v).filter λt=> !(t.1==b))) q+(if q (b,(k:Int),(n:Int))=true then 1 else 0)=nC tk q:=λq=>by
  have h1:=zA tk q (by omega:v<17) ((tk v).filter λt=> !(t.1==b));have g:=SX (H.nd v) D q;omega
 refine⟨λ{i p f} h=>?_,λ{m d} h=>?_,λ{m d} h s=>?_,λ{i p f} h A=>?_,λ{i p c f} h=>?_,λi=>?_,λ{i p p' f} h h' A O=>?_,λ{m d} h=>?_,λ{m y} h=>?_,by rw[AY];exact H.gl,Q⟩
 ·by_cases e:i=v/\p=b
  ·rw[show nE fr v b none i p=none from av e] at h;cases h
  ·rw[bH e] at h;exact H.jo h
 ·obtain⟨d',h1,g,l,u, _⟩:=F h;rw[g,u,l];exact H.kd h1
 ·obtain⟨d',h1,g,l, _⟩:=F h;obtain⟨i,p,G,I,B⟩:=H.TQ h1 (by rw[<-g];exact s);exact⟨i,p,by rw[l];exact G,by rw[bH (z B)];exact I,by rw[r,ao (z B)];exact B⟩
 ·by_cases e:i=v/\p=b
  ·rw[show nE fr v b none i p=none from av e] at h;cases h
  ·rw[bH e] at h;rw[r,ao e] at A;obtain⟨m,d,h1,g,l,s⟩:=H.own h A;obtain⟨d',G,I,B⟩:=R g;exact⟨m,d',h1,G,by rw[I];exact l,by rw[B];exact s⟩
 ·rw[r] at h;by_cases e:i=v/\p=b
  ·rw[av e] at h;cases h
  ·rw[ao e] at h;obtain⟨h1,o',g,l⟩:=H.Dy h;exact⟨by rw[bH e];exact h1,o',g,S l⟩
 ·by_cases e:i=v
  ·subst e;rw[kW];exact Wq _ (H.nd _)
  ·rw[nU e];exact H.nd i
 ·have e: ¬ (i=v/\p=b):=λc=>by rw[show nE fr v b none i p=none from av c] at h;cases h
  have e': ¬ (i=v/\p'=b):=λc=>by rw[show nE fr v b none i p'=none from av c] at h';cases h'
  rw[r,ao e] at A;rw[r,ao e'] at O;rw[bH e] at h;rw[bH e'] at h';exact H.inj h h' A O
 ·obtain⟨d',h1, _, _, _,u⟩:=F h;have:=N λt=>t.2.2==(m:Int);rw[u,H.refs h1];unfold ee;dsimp only at this;by_cases e:m=n
  ·subst e;rw[av (by simp)] at this;rw[av rfl];omega
  ·rw[ao (by simp;omega)] at this;rw[ao e];omega
 ·have o:mS (lf tk v ((tk v).filter λt=> !(t.1==b))) (m:Int)+(if k=m then 1 else 0)=mS tk (m:Int):=by
   have:=N λt=>t.2.1==(m:Int);dsimp only at this;unfold mS
   grind
  by_cases e:k=m
  ·subst e;rw[AM K] at h;cases h;rw[av rfl] at o;have:=H.vl w;show x.2.2.2.2.1+ -1= _;omega
  ·rw[AL e] at h;rw[ao e] at o;have:=H.vl h;omega
theorem gone (H:HC fr tk ds gr) {v:Nat} {z:List DT} (hv:1<=v/\v<=16) (Q:tk v=[]) (J: ∀{n:Nat} {d:DT},ds[n]? =some d->d.1=4->d.2.1=(v:Int)->d.2.2.1=0)
 (K: ∀{n:Nat} {d:DT},ds[n]? =some d->d.1=4->d.2.1≠(v:Int)->z[n]? =some d)
 (C: ∀{n:Nat} {d:DT},z[n]? =some d->(ds[n]? =some d/\ ¬ (d.1=4/\d.2.1=(v:Int)))\/((d.1=0\/d.1=3\/d.1=5)/\d.2.2=(0,0,())/\0<=d.2.1/\d.2.1<=16))
 (R:oh (cP gr (v:Int))):
 HC (λi p=>if i=v then none else fr i p) tk z (cP gr (v:Int)):=by
 have D: ∀{i p b f},cg (tk i) p=some (b,f)->i≠v:=λ{i p b f} h e=>by
  subst e;rw[Q] at h;unfold cg at h;simp at h
 have L: ∀{a:Int} {i o:Nat} {f p:Int},cg (tk i) p=some (a,f)->Ue gr fr tk a i o f->o≠v:=by
  rintro a i o f p l ⟨k,x,h1,g,j,r,M,E⟩ e;subst e;obtain⟨n,d,S,N,T,U⟩:=H.own M E;have h0:=J N T U;have F:=H.jo (H.Dy l).1;have:=nV (q:=λt=>t.2.2==(n:Int)) (by omega:i<17) (H.KI l) (by simp[S]);have h1:=H.refs N;unfold ee at h1;omega
 have V: ∀{a:Int} {i o:Nat} {f p:Int},cg (tk i) p=some (a,f)->Ue gr fr tk a i o f->Ue (cP gr (v:Int)) (λi p=>if i=v then none else fr i p) tk a i o f:=by
  intro a i o f p l w;have W:=L l w;have X:=D l;obtain⟨k,x,h1,g,j,r,M,E⟩:=w;have hh:o8 (v:Int) x=false:=by
   unfold o8;rw[j,r]
   grind
  have F:(cP gr (v:Int))[k]? =some x:=by
   unfold cP
   grind
  obtain⟨s,u,A⟩:=fB.1 h1;refine⟨k,x,fB.2 ⟨s,by unfold cP;rw[DM];exact u,?_⟩,F,j,r,?_,E⟩
  ·rw[getD_some F];rw[getD_some g] at A;exact A
  grind
 have Y: ∀{n:Nat} {d:DT},z[n]? =some d->(d.1=0\/d.1=3\/d.1=5)->d.2.2=(0,0,())->ee tk (n:Int)=0:=λ{n d} h g j=>by
  rcases Cf (ee tk (n:Int)) with e|e
  ·exact e
  ·obtain⟨d',s,u⟩:=H.I9 e;by_cases O:d'.2.1=(v:Int)
   ·have:=H.refs s;have:=J s u O;omega
   ·have:=K s u O;rw[h] at this;cases this;omega
 refine⟨λ{i p f} h=>?_,λ{m d} h=>?_,λ{m d} h r=>?_,λ{i p f} h l=>?_,λ{i p c f} h=>?_,H.nd,λ{i p p' f} h h' l Z=>?_,λ{m d} h=>?_,λ{m y} h=>?_,by unfold cP;rw[DM];exact H.gl,R⟩
 ·by_cases e:i=v
  ·rw[av e] at h;cases h
  ·rw[ao e] at h;exact H.jo h
 ·rcases C h with ⟨h1, _⟩|⟨h1,g,j⟩
  ·exact H.kd h1
  ·exact⟨by omega,by rw[g],j⟩
 ·rcases C h with ⟨h1,g⟩|⟨h1, _⟩
  ·obtain⟨i,p,s,u,A⟩:=H.TQ h1 r;exact⟨i,p,s,by rw[ao (λe=>g ⟨r,by rw[<-s,e]⟩)];exact u,A⟩
  ·omega
 ·by_cases e:i=v
  ·rw[av e] at h;cases h
  ·rw[ao e] at h;obtain⟨m,d,h1,g,j,r⟩:=H.own h l;exact⟨m,d,h1,K g j (λc=>e (B4 (r.symm.trans c))),j,r⟩
 ·obtain⟨h1,o,g,j⟩:=H.Dy h;exact⟨by rw[ao (D h)];exact h1,o,g,V h j⟩
 ·by_cases e:i=v
  ·rw[av e] at h;cases h
  ·rw[ao e] at h h';exact H.inj h h' l Z
 ·rcases C h with ⟨h1, _⟩|⟨h1,g, _⟩
  ·exact H.refs h1
  ·rw[Y h h1 g,g];rfl
 ·unfold cP at h;rw[E5] at h;obtain⟨x,P,B⟩:=Option.map_eq_some_iff.1 h;by_cases e:o8 (v:Int) x=true
  ·rw[av e] at B;subst B;have:mS tk (m:Int)=0:=by
    refine BZ λi t l=>?_;cases G:t.2.1==(m:Int) with
    |false=>rfl
    |true=>
     have G:t.2.1=(m:Int):=by simpa using G
     have I:=H.OL l;obtain⟨_,o, _,w⟩:=H.Dy (a:=t.2.1) (f:=t.2.2) I;have W:=L (a:=t.2.1) (f:=t.2.2) I w;have X:=D (b:=t.2.1) (f:=t.2.2) I;obtain⟨k,x',h1,g,j,r, _⟩:=w;obtain⟨s, _⟩:=fB.1 h1;have ek:k=m:=B4 (s.trans G);subst ek;rw[P] at g;cases g;unfold o8 at e;rw[j,r] at e
     grind
   rw[this];rfl
  ·rw[ao e] at B;subst B;exact H.vl P
end HC
set_option maxRecDepth 100000
open Go.RX D
def nj (h:HS):IL:=λi p=>match h.g i with
 |some x=>if(bz h.s x.root false p).2.2.1=0 then some (bz h.s x.root false p).1 else none
 |none=>none
def lP (h:HS) (i:Nat):List TK:=match h.g i with
 |some x=>x.tk
 |none=>[]
def js (h:HS) (i:Nat) (p:Int):Int×Int×Int×Unit:=match h.g i with
 |some x=>bz h.s x.root false p
 |none=>(0,0,4,())
theorem bQ {h:HS} {i:Nat} {x:GV} (a:h.g i=some x) (p:Int):js h i p=bz h.s x.root false p:=by grind[js]
theorem fL {h:HS} {i:Nat} (a:h.g i=none) (p:Int):js h i p=(0,0,4,()):=by grind[js]
theorem sr (h:HS) (i:Nat) (p:Int):nj h i p=if(js h i p).2.2.1=0 then some (js h i p).1 else none:=by grind[nj,js]
structure AB (h h':HS) (P:Nat->Int->Prop):Prop where
 to: ∀{i:Nat} {q:Int},¬ P i q->js h' i q=js h i q
theorem AB.refl (h:HS) (P:Nat->Int->Prop):AB h h P:=⟨λ_=>rfl⟩
theorem AB.of {h h':HS} (a:h'.s=h.s) (b:h'.g=h.g) (P:Nat->Int->Prop):AB h h' P:=⟨by grind[js]⟩
theorem AB.trans {h1 c d:HS} {P:Nat->Int->Prop} (a:AB h1 c P) (b:AB c d P):AB h1 d P:=⟨λe=>(b.to e).trans (a.to e)⟩
structure KD (s s':WD):Prop where
 k4: ∀{n:Nat} {d:DT},s.2[n]? =some d->d.1=4-> ∃d',s'.2[n]? =some d'/\(d'.1=4\/d'.1=5)
 k5: ∀{n:Nat} {d:DT},s.2[n]? =some d->d.1=5-> ∃d',s'.2[n]? =some d'/\d'.1=5
theorem KD.refl {s s':WD} (h:s'.2=s.2):KD s s':=⟨by grind,by grind⟩
theorem KD.trans {s t u:WD} (a:KD s t) (b:KD t u):KD s u:=by
 refine⟨λh1 e=>?_,λh1 f=>?_⟩
 ·obtain⟨d',d,c⟩:=a.k4 h1 e;rcases c with c|c
  ·exact b.k4 d c
  ·obtain:=b.k5 d
   grind
 ·obtain⟨d',d,c⟩:=a.k5 h1 f;exact b.k5 d c
theorem KD.set {s:WD} {W:List Int} {n:Nat} {d0 d1:DT} (h0:s.2[n]? =some d0) (a:d0.1=4->d1.1=4\/d1.1=5) (b:d0.1=5->d1.1=5):KD s (W,s.2.set n d1):=by
 refine⟨λh k=>?_,λh k=>?_⟩
 grind
 grind
theorem tc.kd {P:Int->Int->Prop} {o:Int} {g g':Gh} {s s':WD} (C:tc P o g g' s s'):KD s s':=by
 refine⟨λ{n d} h1 a=>⟨d,C.kp.ks h1 a,.inl a⟩,λh1=>?_⟩;obtain:=C.kk h1
 grind
def u6 (gh dC:Gh) (s s':WD):Prop:=(∀(f:Int) (v:Int×Nat×Int),gh f=some v->dC f=some v\/iJ s' f)/\ ∀f,iJ s f->iJ s' f
theorem u6.refl (gh:Gh) (s:WD):u6 gh gh s s:=⟨by grind,λ_ h=>h⟩
theorem u6.trans {a b c:Gh} {s t u:WD} (h:u6 a b s t) (k:u6 b c t u):u6 a c s u:=⟨λf v d=>(h.1 f v d).elim (k.1 f v) λc=> .inr (k.2 f c),λf c=>k.2 f (h.2 f c)⟩
theorem tc.gks {P:Int->Int->Prop} {o:Int} {g g':Gh} {s s':WD} (C:tc P o g g' s s'):u6 g g' s s':=⟨λ_ _ h=>C.gk h,λ_ c=>c.kept C.kp⟩
theorem iJ.kd {s s':WD} {f:Int} (h:iJ s f) (K:KD s s') (b: ∀k:Int,0<=k->k<16->dK s'.1 (16*f+k)=dK s.1 (16*f+k)):iJ s' f:=by
 obtain⟨h0,d,h1,a,c⟩:=h;obtain⟨d',e,g⟩:=K.k5 h1 a;exact⟨h0,by grind⟩
theorem u6.kd {g:Gh} {s s':WD} (K:KD s s') (a: ∀{n:Nat} {d:DT},s.2[n]? =some d->d.1=5-> ∀k:Int,0<=k->k<16->dK s'.1 (16*(n:Int)+k)=dK s.1 (16*(n:Int)+k)):u6 g g s s':=⟨by grind,λf c=>by
 refine c.kd K λk0=>?_;obtain⟨⟩:=c
 grind⟩
structure va (h h':HS) (P:Nat->Int->Prop) (f:Int):Prop where
 pg:AB h h' P
 ws: ∀{m:Nat} {d d':DT},h.s.2[m]? =some d->d.1=4->h'.s.2[m]? =some d'->d'.1=4->(m:Int)≠f-> ∀k:Int,0<=k->k<16->dK h'.s.1 (16*(m:Int)+k)=dK h.s.1 (16*(m:Int)+k)
 kd:KD h.s h'.s
theorem va.refl (h:HS) (P:Nat->Int->Prop) (f:Int):va h h P f:=⟨AB.refl h P,by simp,.refl rfl⟩
theorem va.mono {h h':HS} {P b:Nat->Int->Prop} {f:Int} (a:va h h' P f) (d: ∀{i:Nat} {q:Int},P i q->b i q):va h h' b f:=⟨⟨λe=>a.pg.to λc=>e (d c)⟩,a.ws,a.kd⟩
theorem va.trans {h1 d e:HS} {P:Nat->Int->Prop} {f:Int} (a:va h1 d P f) (b:va d e P f):va h1 e P f:=by
 refine⟨AB.trans a.pg b.pg,λg h l m i k k0 j=>?_,a.kd.trans b.kd⟩;obtain⟨d2,x1,c⟩:=a.kd.k4 g h;rcases c with c|c
 ·rw[b.ws x1 c l m i k k0 j,a.ws g h x1 c i k k0 j]
 ·obtain:=b.kd.k5 x1
  grind
structure HI (gh:Gh) (h:HS):Prop where
 inv:Inv gh h.s
 rt:Rt gh
 nl:AA gh h.s
 sz:h.s.1.length=16*h.s.2.length
 jo: ∀{i:Nat} {x:GV},h.g i=some x->1<=i/\i<=16
 root: ∀{i:Nat} {x:GV},h.g i=some x->gh x.root=some ((i:Int),3,0)
 own: ∀{f o y:Int},gh f=some (o,3,y)-> ∃(i:Nat) (x:GV),(i:Int)=o/\h.g i=some x
 hc:HC (nj h) (lP h) h.s.2 h.gr
theorem cQ {h:HS} {i:Nat} {x:GV} (a:h.g i=some x) (p:Int):nj h i p=if(bz h.s x.root false p).2.2.1=0 then some (bz h.s x.root false p).1 else none:=by grind[nj]
theorem gx {h:HS} {i:Nat} (a:h.g i=none) (p:Int):nj h i p=none:=by grind[nj]
theorem gy {h:HS} {i:Nat} {x:GV} (a:h.g i=some x):lP h i=x.tk:=by grind[lP]
theorem ab4 (h:HS) (v:Int):vX h v=lP h v.toNat:=rfl
section
variable {gh dC:Gh} {h:HS}
namespace HI
theorem rdy (H:HI gh h) {Q:Sys} (i:Ol Q h.s):CH Q h where
 N6:=i
 sz:=by rw[H.sz];simp
 rr:=λv e=>by
  obtain⟨x,d,f⟩:=bZ e;have:=H.inv.vU (H.root d)
  grind
 pg:=λv t j=>by
  have:=H.hc.jo (H.hc.Dy (H.hc.OL j)).1;omega
 new:=λv a b c x d e h0=>by
  obtain⟨x',g,f, _⟩:=bZ e;rw[d] at g;cases g;rw[f] at h0;have k:=H.root d;have l:=(H.inv.map k h0).2;have:nj h v.toNat b=none:=by rw[cQ d,ao (by grind)]
  have:=H.hc.Zl this;rw[gy d] at this
  grind
theorem y9 (H:HI gh h) {v:Nat} {x:GV} (b:h.g v=some x) {p:Int} {s1 s':WD} (h1: ∀{i:Nat} {x:GV},h.g i=some x-> ∀q,bz s1 x.root false q=bz h.s x.root false q) (d:Inv gh s1) (C:tc (ow (v:Int) 0 p) (v:Int) gh dC s1 s') {y:Option Int}
 (f:(if(bz s' x.root false p).2.2.1=0 then some (bz s' x.root false p).1 else none)=y) {h':HS} (j:h'.s=s') (k: ∀i,(h'.g i).map GV.root=(h.g i).map GV.root):nj h'=nE (nj h) v p y:=by
 funext i q;have hi:=k i;cases a:h.g i with
 |none=>
  rw[a] at hi;have l:=by simpa using hi
  rw[gx l];have m: ¬ (i=v/\q=p):=λc=>by grind
  rw[bH m,gx a]
 |some z=>
  obtain⟨z',n,o⟩: ∃z',h'.g i=some z'/\z'.root=z.root:=by
   cases hc:h'.g i with
   |none
   |some=>grind
  rw[cQ n,j,o];by_cases e:i=v/\q=p
  ·obtain⟨rfl,rfl⟩:=e;rw[b] at a;cases a;rw[fR,f]
  ·rw[bH e,cQ a];have r:bz s' z.root false q=bz h.s z.root false q:=by
    rw[<-h1 a];refine d.zu C.inv C.DY C.root (H.root a) λc=>e ?_;obtain⟨c1,c2⟩:=c;exact⟨by omega,c2⟩
   rw[r]
theorem Hc (H:HI gh h) {v:Nat} {p:Int} {s1 s':WD} (h1: ∀{i:Nat} {x:GV},h.g i=some x-> ∀q,bz s1 x.root false q=bz h.s x.root false q) (b:Inv gh s1) (C:tc (ow (v:Int) 0 p) (v:Int) gh dC s1 s') {h':HS} (d:h'.s=s') (k: ∀i,(h'.g i).map GV.root=(h.g i).map GV.root):AB h h' (λi q=>i=v/\q=p):=by
 refine⟨λ{i q} e=>?_⟩;cases a:h.g i with
 |none=>
  unfold js;grind
 |some z=>
  obtain⟨z',f,j⟩: ∃z',h'.g i=some z'/\z'.root=z.root:=by
   cases hc:h'.g i with
   |none
   |some=>grind
  rw[bQ f,bQ a,d,j, <-h1 a];refine b.zu C.inv C.DY C.root (H.root a) λc=>e ?_;obtain⟨c1,c2⟩:=c;exact⟨by omega,c2⟩
theorem base (H:HI gh h) {v:Nat} {p:Int} {s1 s':WD} (C:tc (ow (v:Int) 0 p) (v:Int) gh dC s1 s') (e:s1.1.length=h.s.1.length/\s1.2.length=h.s.2.length) (nl:AA gh s1) {h':HS} (c:h'.s=s') (j: ∀i,(h'.g i).map GV.root=(h.g i).map GV.root)
 (hc:HC (nj h') (lP h') s'.2 h'.gr):HI dC h' where
 inv:=by rw[c];exact C.inv
 rt:=H.rt.dy C.root
 nl:=by
  rw[c];exact C.lg (λo q m a b=>a.2.trans b.2.symm) nl
 sz:=by
  rw[c,C.len.1,C.len.2,e.1,e.2];exact H.sz
 jo:=λ{i x} d=>by
  have hi:=j i;rw[d] at hi;cases hc:h.g i with
  |none=>grind
  |some=>exact H.jo hc
 root:=λ{i x} d=>by
  have hi:=j i;rw[d] at hi;cases hc:h.g i with
  |none=>grind
  |some=>
   rw[hc] at hi;have k:=by simpa using hi
   rw[k];exact C.root.to (H.root hc)
 own:=λ{f o y} l=>by
  obtain⟨i⟩:=H.own ((C.root o f y).1 l);cases hc:h'.g i with
  |none
  |some z=>grind
 hc:=by grind
theorem Db (H:HI gh h) {s':WD} (B:Inv.fy gh h.s s') {h':HS} (a:h'.s=s') (b:h'.g=h.g) (P:Nat->Int->Prop):AB h h' P:=by
 refine⟨λ{i q} _=>?_⟩;cases hi:h.g i with
 |none=>rw[fL hi,fL (by grind)]
 |some=>rw[bQ hi,bQ (by rw[b];exact hi),a];exact H.inv.dU B (H.root hi) q
theorem side (H:HI gh h) {s':WD} (B:Inv.fy gh h.s s') {Aq:List GT} {N5:List Po.PT} (hc:HC (nj h) (lP h) s'.2 Aq):HI gh {s:=s',g:=h.g,gr:=Aq,po:=N5} where
 inv:=H.inv.beside B
 rt:=H.rt
 nl:=Inv.nc B H.nl
 sz:=by
  rw[B.len.1,B.len.2];exact H.sz
 jo:=H.jo
 root:=H.root
 own:=H.own
 hc:=by
  have e:nj {s:=s',g:=h.g,gr:=Aq,po:=N5}=nj h:=by
   funext i p;cases a:h.g i with
   |none=>
    rw[gx a];exact gx (h:={s:=s',g:=h.g,gr:=Aq,po:=N5}) a p
   |some=>
    rw[cQ a,cQ (h:={s:=s',g:=h.g,gr:=Aq,po:=N5}) a];rw[H.inv.dU B (H.root a)]
  rw[e];exact hc
end HI
end
set_option maxRecDepth 100000
open Go.RX D
theorem rt4 {o r:Int} (a:1<=o/\o<=16) (b:0<=r/\r<=65535):dT 4 o r 0=true:=by unfold dT jK;simp;omega
theorem rt5 {o:Int} (a:0<=o/\o<=16):dT 5 o 0 0=true:=by unfold dT jK;simp;omega
theorem Iv {o:Int} (a:1<=o/\o<=16):aO 4 o zD=((4,o,0,0,()),0):=by
 have b:dT 0 0 0 0=true:=by decide
 have e:gS 0 0 0 0 4 o=0:=by
  unfold gS;rw[b,ao (by decide),ao (by decide),av (by decide),ao (show ¬ (4:Int)=5 by decide),rt4 a ⟨by decide,by decide⟩,ao (by decide)]
 unfold aO zD mM ll;dsimp only;rw[e];rfl
theorem Nn {o:Int} (a:1<=o/\o<=16):aO 0 0 (4,o,0,0,())=(zD,0):=by
 have e:gS 4 o 0 0 0 0=0:=by
  unfold gS;rw[rt4 a ⟨by decide,by decide⟩,ao (by decide),ao (by decide),av (by decide),ao (show ¬ (0:Int)=5 by decide)];decide
 unfold aO mM ll;dsimp only;rw[e];rfl
theorem B7 {o v:Int} (a:1<=o/\o<=16):aO 5 v (4,o,0,0,())=((5,o,0,0,()),0):=by
 have e:gS 4 o 0 0 5 v=0:=by
  unfold gS;rw[rt4 a ⟨by decide,by decide⟩,ao (by decide),ao (by decide),av (by decide),av rfl,rt5 ⟨by omega,a.2⟩,ao (by decide)]
 unfold aO mM ll;dsimp only;rw[e];rfl
theorem Iw {o:Int} (a:0<=o/\o<=16):aO 0 0 (5,o,0,0,())=(zD,0):=by
 have e:gS 5 o 0 0 0 0=0:=by
  unfold gS;rw[rt5 a,ao (by decide),ao (by decide),av (by decide),ao (show ¬ (0:Int)=5 by decide)];decide
 unfold aO mM ll;dsimp only;rw[e];rfl
theorem aa2 {o r x:Int} (a:1<=o/\o<=16) (b:0<=r/\r<=65535) (c:0<=r+x/\r+x<=65535):ia x (4,o,r,0,())=((4,o,r+x,0,()),0):=by
 have e:xG 4 o r 0 x=0:=by
  unfold xG;rw[rt4 a b,ao (by decide),av (.inr (.inr rfl)),ao (by omega)]
 unfold ia qQ;dsimp only;rw[e];rfl
theorem yR {ds:List DT} {n:Nat} {d d':DT} {G:DT->DT×Int} (h:ds[n]? =some d) (a:G d=(d',0)):dL ds (n:Int) G=ds.set n d'/\vT ds (n:Int) G=0:=by
 have c:n<ds.length:=(AP.1 h).1;have b:ds.getD n zD=d:=by rw[Am,h];rfl
 constructor
 ·rw[pJ (by omega)];show(if(G (ds.getD n zD)).2=0 then ds.set n (G (ds.getD n zD)).1 else ds)= _;rw[b,a,av rfl]
 ·rw[y7 (by omega)];show(G (ds.getD n zD)).2=0;rw[b,a]
theorem z9 {ds:List DT} {o:Int} (h:0<cd ds 0) (c: ∀d∈ds,d.1=0->d=zD) (e:1<=o/\o<=16): ∃i:Nat,i<ds.length/\ds[i]? =some zD/\fl ds 4 o=(i:Int)/\dS ds 4 o=0/\dF ds 4 o=ds.set i (4,o,0,0,()):=by
 obtain⟨i,d,h1,f,a,g⟩:=EO h;have j:d=zD:=c d (B1 a) g;subst j;obtain⟨k,b⟩:=yR a (Iv e);refine⟨i,f,a,?_,?_,?_⟩
 ·unfold fl;rw[h1];dsimp only;rw[av b]
 ·unfold dS;rw[ao (by omega),h1];exact b
 ·unfold dF;rw[h1];exact k
theorem vG {ds:List DT} {y o:Int} (h:dS ds y o=0):0<cd ds 0:=by
 rcases Cf (cd ds 0) with e|e
 ·unfold dS at h;rw[XM e] at h;dsimp only at h;split at h<;>exact absurd h (by decide)
 ·exact e
theorem SY {ds:List DT} {n:Nat} {d d':DT} (h:ds[n]? =some d):(ds.set n d').set n d=ds:=by
 apply Ea;intro i;have a:n<ds.length:=(AP.1 h).1;by_cases e:n=i
 ·subst e;rw[AM (by rw[AY];exact a),h]
 ·rw[AL e,AL e]
theorem nJ {ds:List DT} {n:Nat} {d:DT} (h:ds[n]? =some d):oV ds (n:Int)=d:=by
 have a:n<ds.length:=(AP.1 h).1;unfold oV;rw[ao (by omega)];show ds.getD n zD=d;rw[Am,h];rfl
theorem Kept.hc {fr:IL} {tk:Nat->List TK} {s s':WD} {gr:List GT} (H:HC fr tk s.2 gr) (K:Kept s s'):HC fr tk s'.2 gr:=
 H.G_ K.ks λ{n d} h=>(K.nw h).elim .inl λe=> .inr ⟨by omega,e.2.1,by omega,e.2.2.2⟩
theorem xh (r:Int):gL .i64 0 r=0:=by
 have h: ∀x:BitVec 64,(Du 64 0) &&& x=0#64:=λx=>by
  rw[show Du 64 0=0#64 from rfl,BitVec.zero_and]
 show DF.wrap (((Du 64 0) &&& ~~~(Du 64 r)).toNat:Int)=0;rw[h];rfl
theorem CS {ws:List Int} {a:Int} (h:(aJ ws a).1=true):uY (B (dK ws a)).toNat=true:=by
 unfold aJ fa IF at h;cases b:uY (B (dK ws a)).toNat with
 |true=>rfl
 |false=>rw[b] at h;simp at h
theorem tO {ws:List Int} {p t f:Int} {l:Nat} {fd:FT} (hi:uZ ws (dV f p (l:Int))=true) (a:uY (B (dK ws (dV f p (l:Int)))).toNat=true):
 bA ws p t (f,(l:Int),fd)=tookS f p t (l:Int) fd (aJ ws (dV f p (l:Int))).1 (aJ ws (dV f p (l:Int))).2.1 (aJ ws (dV f p (l:Int))).2.2.1 (aJ ws (dV f p (l:Int))).2.2.2.1:=by
 unfold bA;dsimp only;rw[ao (by omega),a,ao ?_]
 ·rfl
 ·unfold Cm;rw[av hi];decide
namespace Inv
variable {g:Gh} {s:WD}
theorem Dc (I:Inv g s) {o r p t:Int} (d:g r=some (o,3,0)) (b:0<=p/\p<65536): ∀(n:Nat) {j:Nat} {f:Int},j+n=3->g f=some (o,j,px (j+1) p)->lN s.1 r p t n=(f,(j:Int),(0,0,0,0,()))
 |0,j,f,h,a=>by
  have:j=3:=by omega
  subst this;rw[px4 b] at a;rw[I.inj a d];rfl
 |n+1,j,f,h,a=>by
  obtain⟨f',h1,e⟩:=I.FO a (by omega);have i:g f'=some (o,j+1,px (j+1+1) p):=h1;obtain⟨k,m,u⟩:=I.vU h1;obtain⟨c1,c2, _⟩:=I.vU a;have q:=I.Dc (t:=t) d b n (j:=j+1) (by omega) i;have c:=lz ⟨k,m⟩ b (l:=j+1) (by omega);have v:=dY p (j+1);rw[lN,q,tO (by rw[c];exact jj (by omega) (by omega)) (by rw[c];exact CS (by rw[e];rfl)),c,e];unfold tookS cm;dsimp only;rw[ao (by decide),av ?_]
  ·congr 2;rw[bE (by omega) (by omega)];omega
  ·have:fV true 0 false f=true:=dI ⟨c1,c2⟩;rw[this];simp
   try omega
theorem Ws (I:Inv g s) {o r p:Int} (u:g r=some (o,3,0)) (b:0<=p/\p<65536) {f:Int} {j:Nat} (a:dG g s o p f j):
 ((nr s.1 r p 0).1=(ki p j (aJ s.1 (16*f+px j p % 16))).1/\(nr s.1 r p 0).2.1=(ki p j (aJ s.1 (16*f+px j p % 16))).2.1/\((nr s.1 r p 0).2.2.2.1=0<->(ki p j (aJ s.1 (16*f+px j p % 16))).2.2.1=0)):=by
 have A:=I.kd a.1;have C:=A.2.2.2.2.2;obtain⟨D,E,T⟩:=I.vU a.1;obtain⟨F,G,U⟩:=I.vU u;have hi:=dY p j;have d:=lz ⟨D,E⟩ b C;have v:=a.2;have H:=I.wf a.1 hi.1 hi.2;have J:=I.leaf a.1 hi.1 hi.2;have i:=lI s.1 (16*f+px j p % 16);have K:vi r p 0=false:=by
  unfold vi;have L:dV r p 3=16*r+px 3 p % 16:=lz ⟨F,G⟩ b (l:=3) (by omega);have V:=dY p 3;rw[L,decide_eq_false (by omega),decide_eq_false (by omega),decide_eq_false (by omega)];rfl
 have M:nr s.1 r p 0=(lN s.1 r p 0 4).2.2:=ao (by rw[K];decide);have N:=I.Dc (t:=0) u b (3 - j) (by omega) a.1;have O:uZ s.1 (dV f p (j:Int))=true:=by rw[d];exact jj (by omega) (by omega)
 have P:uY (B (dK s.1 (dV f p (j:Int)))).toNat=true:=by
  rw[d];cases hb:(aJ s.1 (16*f+px j p % 16)).1 with
  |true=>exact CS hb
  |false=>rw[H hb];decide+kernel
 have w:lN s.1 r p 0 (3 - j+1)=tookS f p 0 (j:Int) (0,0,0,0,()) (aJ s.1 (16*f+px j p % 16)).1 (aJ s.1 (16*f+px j p % 16)).2.1 (aJ s.1 (16*f+px j p % 16)).2.2.1 (aJ s.1 (16*f+px j p % 16)).2.2.2.1:=by
  rw[lN,N,tO O P,d]
 generalize aJ s.1 (16*f+px j p % 16)=e at*
 obtain⟨ep,er,el,ef,W⟩:=e;dsimp only at*
 have k: ∀x:FT,tookS f p 0 (j:Int) (0,0,0,0,()) ep er el ef=(f,-1,x)->nr s.1 r p 0=x:=λx y=>by
  rw[M];have h1:(lN s.1 r p 0 (3 - j+1)).2.1= -1:=by rw[w,y]
  have:=x_ h1 j;rw[show 3 - j+1+j=4 by omega] at this;rw[this,w,y]
 cases ep with
 |false=>
  rw[k (xE (j:Int) 4) (by unfold tookS;rfl)];unfold ki xE;simp
 |true=>
  have c:fV true er el ef=false:=v;obtain⟨X,Y,Q,k4,k5⟩:=mg.1 i;rcases J rfl v with ⟨rfl,m⟩|⟨rfl,m,z⟩
  ·subst m;have R:er>0:=by
    refine Ar λhc=>?_;have:er=0:=by omega
    subst this;have:=dI ⟨Q,k4⟩;unfold du cm at this;dsimp only at this;rw[this] at c;cases c
   have n:gM true er false ef 0=true:=by
    unfold gM;rw[i];have q:gL .i64 0 er=0:=xh er;rw[q];simp;omega
   rw[k (yr 0 0 ef true er false ef) (by
    unfold tookS;rw[ao (by decide),c,ao (by decide),ao (by decide),av (by simp;omega)];rfl)]
   unfold ki yr;rw[ao (by omega),av n,av rfl,ao (by decide)];simp
  ·have z:ef % 16=0:=z;subst m;have R:er>0:=by rcases k5 with h|h;exact h;cases h
   have n:gM true er true ef 0=true:=by
    unfold gM;rw[i];have q:gL .i64 0 er=0:=xh er;rw[q];simp;omega
   have S:aH .i64 ef (dX p 16)=ef+p % 16:=by
    have:dX p 16=p % 16:=by unfold dX;exact Int.tmod_eq_emod_of_nonneg b.1
    rw[this,aw (by omega) (by omega)]
   rw[k (yr 1 0 (ef+p % 16) true er true ef) (by
    unfold tookS;rw[ao (by decide),c,ao (by decide),av (by decide),S];rfl)]
   unfold ki yr;rw[ao (by omega),av n,av rfl,av rfl];simp
end Inv
set_option maxRecDepth 100000
open Go.RX D
theorem Inv.P1 {g:Gh} {s:WD} (I:Inv g s) (nl:AA g s) {o r p t:Int} (c:g r=some (o,3,0)) (b:0<=p/\p<65536) (Q:0<=t/\t<=7):
 if(bz s r false p).2.2.1=0 then nr s.1 r p t=((bz s r false p).1,(bz s r false p).2.1,0,(if gM true (bz s r false p).2.1 false (bz s r false p).1 t=true then 0 else 7),()) else(nr s.1 r p t).2.2.2.1=4:=by
 obtain⟨f,j, _,a⟩:=I.mA c b;rw[I.fW c b a];have v:=I.kd a.1;have w:=v.2.2.2.2.2;obtain⟨y,z,R⟩:=I.vU a.1;obtain⟨A,C,S⟩:=I.vU c;have hi:=dY p j;have d:=lz ⟨y,z⟩ b w;have i:=a.2;have D:=I.wf a.1 hi.1 hi.2;have E:=nl a.1 hi.1 hi.2;have F:=I.leaf a.1 hi.1 hi.2;have G:=lI s.1 (16*f+px j p % 16);have H:vi r p t=false:=by
  unfold vi;have J:dV r p 3=16*r+px 3 p % 16:=lz ⟨A,C⟩ b (l:=3) (by omega);have T:=dY p 3;rw[J,decide_eq_false (by omega),decide_eq_false (by omega),decide_eq_false (by omega)];rfl
 have K:nr s.1 r p t=(lN s.1 r p t 4).2.2:=ao (by rw[H];decide);have L:=I.Dc (t:=t) c b (3 - j) (by omega) a.1;have M:uZ s.1 (dV f p (j:Int))=true:=by rw[d];exact jj (by omega) (by omega)
 have N:uY (B (dK s.1 (dV f p (j:Int)))).toNat=true:=by
  rw[d];cases hb:(aJ s.1 (16*f+px j p % 16)).1 with
  |true=>exact CS hb
  |false=>rw[D hb];decide+kernel
 have n:lN s.1 r p t (3 - j+1)=tookS f p t (j:Int) (0,0,0,0,()) (aJ s.1 (16*f+px j p % 16)).1 (aJ s.1 (16*f+px j p % 16)).2.1 (aJ s.1 (16*f+px j p % 16)).2.2.1 (aJ s.1 (16*f+px j p % 16)).2.2.2.1:=by
  rw[lN,L,tO M N,d]
 generalize aJ s.1 (16*f+px j p % 16)=e at*
 obtain⟨ep,er,el,ef,U⟩:=e;dsimp only at*
 have q: ∀x:FT,tookS f p t (j:Int) (0,0,0,0,()) ep er el ef=(f,-1,x)->nr s.1 r p t=x:=λx u=>by
  rw[K];have h1:(lN s.1 r p t (3 - j+1)).2.1= -1:=by rw[n,u]
  have:=x_ h1 j;rw[show 3 - j+1+j=4 by omega] at this;rw[this,n,u]
 cases ep with
 |false=>
  rw[q (xE (j:Int) 4) (by unfold tookS;rfl)];unfold ki xE;simp
 |true=>
  have k:fV true er el ef=false:=i;obtain⟨V,W,O,k4,k5⟩:=mg.1 G;have P:=E rfl i;subst P;have m:el=false:=by
   rcases F rfl i with ⟨_,m⟩|⟨h, _⟩
   ·exact m
   ·exact absurd h (by decide)
  subst m;have X:er>0:=by
   refine Ar λhc=>?_;have:er=0:=by omega
   subst this;have:=dI ⟨O,k4⟩;unfold du cm at this;dsimp only at this;rw[this] at k;cases k
  rw[q (yr 0 t ef true er false ef) (by
   unfold tookS;rw[ao (by decide),k,ao (by decide),ao (by decide),av (by simp;omega)];rfl)]
  unfold ki yr;rw[av rfl,ao (show ¬ ((0:Nat)=1) by decide)];dsimp only;rw[av rfl,ao (by omega)];split<;>rfl
theorem No {fr:IL} {v:Nat} {p:Int} {y:Option Int} (h:fr v p=y):nE fr v p y=fr:=by
 funext i q;unfold nE;split
 ·rename_i c;rw[c.1,c.2,h]
 ·rfl
section
variable {gh:Gh} {h:HS}
namespace HI
theorem po (H:HI gh h) (N5:List Po.PT):HI gh (Ba h N5):=
 ⟨H.inv,H.rt,H.nl,H.sz,H.jo,H.root,H.own,H.hc⟩
theorem grs (H:HI gh h) {Aq:List GT} (hc:HC (nj h) (lP h) h.s.2 Aq):HI gh (yP h Aq):=
 ⟨H.inv,H.rt,H.nl,H.sz,H.jo,H.root,H.own,hc⟩
theorem aas (H:HI gh h) (v a:Int):HI gh (f_ h v a):=by
 unfold f_;split
 ·exact H
 ·refine H.grs (H.hc.PZ (zx _ _ _) (H.hc.gk.rev _ _) (λ{n x y} b c=>?_) λ{n x} b g=>?_)
  ·unfold lu at c;by_cases e:rh h.gr a v=0
   ·rw[av e] at c;by_cases en:a.toNat=n
    ·subst en;rw[AM (AP.1 b).1] at c;cases c;unfold rh at e;cases d:l5 h.gr a with
     |none=>rw[d] at e;exact absurd (show(4:Int)=0 from e) (by decide)
     |some k=>
      rw[d] at e;dsimp only at e;obtain⟨i,j,l⟩:=fB.1 d;have f:a.toNat=k:=by omega
      rw[f] at b;rw[getD_some b] at e;have:=(H.hc.gk x (B1 b)).2;split at e
      ·exact absurd e (by decide)
      ·split at e
       ·exact absurd e (by decide)
       ·show(0:Int)= _;omega
    ·rw[AL en,b] at c;cases c;rfl
   ·rw[ao e,b] at c;cases c;rfl
  ·unfold lu;by_cases e:rh h.gr a v=0
   ·rw[av e];by_cases en:a.toNat=n
    ·subst en;unfold rh at e;cases d:l5 h.gr a with
     |none=>rw[d] at e;exact absurd (show(4:Int)=0 from e) (by decide)
     |some k=>
      rw[d] at e;dsimp only at e;obtain⟨i,j,l⟩:=fB.1 d;have f:a.toNat=k:=by omega
      rw[f] at b;rw[getD_some b] at e;rw[av g] at e;split at e
      ·exact absurd e (by decide)
      ·exact absurd e (by decide)
    ·rw[AL en];exact b
   ·rw[ao e];exact b
theorem offer (H:HI gh h) (v a b c:Int):HI gh (iF h v a b c):=by
 unfold iF;split
 ·have j: ∀{n:Nat} {x:GT},lx h.gr v a b=0->(kx h.gr v a b).toNat=n->h.gr[n]? =some x->x=zG:=λ{n x} e en d=>by
   unfold kx at en;rw[av e] at en;have q:dk h.gr fc h.gr.length≠[]:=λhc=>by
    unfold lx at e;split at e
    ·exact absurd e (by decide)
    ·split at e
     ·exact absurd e (by decide)
     ·exact absurd e (by decide)
   obtain⟨y,l,k⟩:=List.exists_cons_of_ne_nil q;have m:y∈dk h.gr fc h.gr.length:=by rw[k];exact Be
   rw[k] at en;have en:y.toNat=n:=en;unfold dk at m;obtain⟨i,hi,rfl⟩:=Ap.1 m;have o:=(Az.1 hi).2;have r:i=n:=en;subst r;rw[getD_some d] at o;simpa[fc] using o
  have s:(jV h.gr v a b (c==1)).length=h.gr.length:=by
   unfold jV;split
   ·rw[AY]
   ·rfl
  refine H.grs (H.hc.PZ s (H.hc.gk.off _ _ _ _) (λ{n x y} d f=>?_) λ{n x} d p=>?_)
  ·unfold jV at f;by_cases e:lx h.gr v a b=0
   ·rw[av e] at f;by_cases en:(kx h.gr v a b).toNat=n
    ·have g:=j e en d;subst en;rw[AM (AP.1 d).1] at f;cases f;rw[g];rfl
    ·rw[AL en,d] at f;cases f;rfl
   ·rw[ao e,d] at f;cases f;rfl
  ·unfold jV;by_cases e:lx h.gr v a b=0
   ·rw[av e];by_cases en:(kx h.gr v a b).toNat=n
    ·have g:=j e en d;rw[g] at p;exact absurd p (by decide)
    ·rw[AL en];exact d
   ·rw[ao e];exact d
 ·exact H
theorem JU (H:HI gh h) {v:Int} (l:aV h.g v=true) {a b:Int} (e:pC h v a b=0): ∃dC,HI dC (jX h v a b)/\va h (jX h v a b) (λi q=>i=v.toNat/\q=a) (-1)/\(js h v.toNat a).2.2.1=0/\js (jX h v a b) v.toNat a=((js h v.toNat a).1,b,0,())/\(jX h v a b).g=h.g/\u6 gh dC h.s (jX h v a b).s:=by
 obtain⟨x,c,o,hv, _⟩:=bZ l;unfold pC at e;unfold jX;split at e
 ·exact absurd e (by decide)
 rename_i c1;rw[ao c1];split at e
 ·exact absurd e (by decide)
 rename_i c2;rw[ao c2];split at e
 ·exact absurd e (by decide)
 rename_i c3;rw[ao c3];rw[o] at e ⊢;obtain⟨n,rfl⟩: ∃n:Nat,v=(n:Int):=⟨v.toNat,hv.symm⟩;have c:h.g n=some x:=c;obtain⟨u,g',C,f,j, _⟩:=H.inv.tL (H.root c) e;have p:nj h n a=some (bz h.s x.root false a).1:=by rw[cQ c,av f]
 have k:=H.y9 c (s1:=h.s) (λ_ _=>rfl) H.inv C (y:=some (bz h.s x.root false a).1) (by rw[j,av rfl]) (h':=bD h (rV h.s (n:Int) x.root false a b)) rfl (λ_=>rfl);rw[No p] at k;rw[show((n:Int)).toNat=n from rfl];have r:(bD h (rV h.s (n:Int) x.root false a b)).g n=some x:=c;refine⟨g',H.base C ⟨rfl,rfl⟩ H.nl rfl (λ_=>rfl) ?_,⟨H.Hc (λ_ _=>rfl) H.inv C (h':=bD h (rV h.s (n:Int) x.root false a b)) rfl (λ_=>rfl),λ{m d d'} h1 t _ _ _=>C.kp.ws h1 t,C.kd⟩,by rw[bQ c];exact f,by rw[bQ c,bQ r];exact j,rfl,C.gks⟩;rw[k];exact Kept.hc H.hc C.kp
theorem JV {v a b:Int} (e:pC h v a b≠0):jX h v a b=h:=by
 unfold pC at e;unfold jX;split
 ·rfl
 rename_i c1;rw[ao c1] at e;split
 ·rfl
 rename_i c2;rw[ao c2] at e;split
 ·rfl
 rename_i c3;rw[ao c3] at e;rw[V' e];rfl
theorem tL (H:HI gh h) {v:Int} (c:aV h.g v=true) (a b:Int): ∃dC,HI dC (jX h v a b):=by
 by_cases e:pC h v a b=0
 ·obtain⟨g',d, _⟩:=H.JU c e;exact⟨g',d⟩
 ·rw[JV e];exact⟨gh,H⟩
end HI
end
set_option maxRecDepth 100000
open Go.RX D
section
variable {gh:Gh} {h:HS}
theorem iO {gh:Gh} {s s':WD} (I:Inv gh s) (a:s'.1.length=s.1.length/\s'.2.length=s.2.length)
 (g: ∀b:Int,dK s'.1 b≠dK s.1 b-> ∃(n:Nat) (d:DT),s.2[n]? =some d/\d.1≠3/\16*(n:Int)<=b/\b<16*(n:Int)+16)
 (i: ∀{n:Nat} {d d':DT},s.2[n]? =some d->s'.2[n]? =some d'->(d'=d\/(d.1≠3/\d'.1≠3/\(d'.1=0->d'=zD)))):Inv.fy gh s s' where
 len:=a
 ws:=λ{f o x k l} j h0 h1=>by
  refine Ar λm=>?_;obtain⟨n,d,t,u,v,w⟩:=g _ m;have y:=I.kd j;have e:f.toNat=n:=by omega
  grind
 tb:=λ{n d} h p=>by
  grind
 bt:=λh p=>by
  grind
 fz:=λd q h0=>by
  obtain⟨n,c⟩:=DD q;have r:n<s.2.length:=by rw[<-a.2];exact(AP.1 c).1
  have h':=B3 r;rcases i h' c with e|⟨_, _,e⟩
  ·rw[e] at h0 ⊢;exact I.fz _ (B1 h') h0
  ·grind
theorem vH {ds:List DT} {n m:Nat} {d0 d1 d d':DT} (h0:ds[n]? =some d0) (h:ds[m]? =some d) (h':(ds.set n d1)[m]? =some d'):(m=n/\d=d0/\d'=d1)\/(m≠n/\d'=d):=by
 grind
namespace HI
theorem Uh (H:HI gh h) {i:Nat} {p f:Int} (b:nj h i p=some f): ∃(n:Nat) (d:DT),f=(n:Int)/\h.s.2[n]? =some d/\d.1=4/\1<=d.2.1/\d.2.1<=16/\d=(4,d.2.1,(ee (lP h) (n:Int):Int),0,()):=by
 obtain⟨n,d,h1,a,c⟩:=H.hc.at4 b;obtain⟨j,q,g,e, _⟩:=H.hc.TQ a c;have:=H.hc.jo e;obtain:=H.hc.kd a;have k:=H.hc.refs a
 grind
structure ab5 (h h':HS) (v:Nat) (a b:Int) (f:Nat):Prop where
 g:h'.g=h.g
 gr:h'.gr=h.gr
 po:h'.po=h.po
 Xp:(js h v a).2.2.1=4
 pg:js h' v a=((f:Int),b,0,())
 fr:h.s.2[f]? =some zD
 f4:h'.s.2[f]? =some (4,(v:Int),0,0,())
 ef:va h h' (λi q=>i=v/\q=a) (f:Int)
 zr: ∀k:Int,0<=k->k<16->dK h'.s.1 (16*(f:Int)+k)=0
 ct:cd h.s.2 0<=cd h'.s.2 0+4
theorem P2 (H:HI gh h) {v:Int} (X:aV h.g v=true) {a b:Int} (o:qX h v a b=0): ∃dC f,HI dC (jS h v a b)/\ab5 h (jS h v a b) v.toNat a b f/\jt h v=(f:Int)/\u6 gh dC h.s (jS h v a b).s:=by
 obtain⟨x,p,K,hv,Y,Z⟩:=bZ X;unfold qX at o;unfold jS;by_cases L:a>=65536
 ·rw[av L] at o;exact absurd o (by decide)
 rw[ao L] at o ⊢;by_cases M:b<1\/b>7
 ·rw[av M] at o;exact absurd o (by decide)
 rw[ao M] at o ⊢;by_cases w:dS h.s.2 4 v=0
 case neg=>rw[av w] at o;exact absurd o w
 rw[ao (λe=>e w)] at o ⊢;obtain⟨n,u_,u,t1,t2,t3⟩:=z9 (vG w) H.inv.fz ⟨Y,Z⟩;have N:jt h v=(n:Int):=t1;have r:kQ h v=(h.s.1,h.s.2.set n (4,v,0,0,())):=by unfold kQ;rw[t3]
 have hM:qW h v a b=jC (kQ h v) v (a9 h.g v) false a (jt h v) b:=rfl;rw[ao (λe=>e o)];rw[hM,N,K];rw[N,K] at o;obtain⟨m,rfl⟩: ∃m:Nat,v=(m:Int):=⟨v.toNat,hv.symm⟩;have p:h.g m=some x:=p;have hlen:=H.sz;have B:Inv.fy gh h.s (kQ h (m:Int)):=by
  rw[r];refine iO H.inv ⟨rfl,by rw[AY]⟩ (λb hb=>absurd rfl hb) λ{i d d'} h1 A=>?_;rcases vH u h1 A with ⟨_,e1,D⟩|⟨_,D⟩
  ·exact .inr ⟨by rw[e1];decide,by rw[D];exact(show ¬ (4:Int)=3 by decide),λc=>by rw[D] at c;exact absurd c (show ¬ (4:Int)=0 by decide)⟩
  ·exact .inl D
 have E:=H.inv.beside B;obtain⟨hp,g',C,O,q2,P, _,⟨f0,j,hE,hc⟩, _⟩:=E.map (H.root p) o;have hj:=(E.kd hE.1).2.2.2.2.2;have hcT:cd (kQ h (m:Int)).2 0+1=cd h.s.2 0:=by
  rw[r];have:=tN (d':=((4:Int),(m:Int),(0:Int),(0:Int),())) u 0;exact this
 have rJ:nj h m a=none:=by
  rw[cQ p, <-H.inv.dU B (H.root p),ao (by rw[P];decide)]
 have hc1:HC (nE (nj h) m a (some (n:Int))) (lP h) (kQ h (m:Int)).2 h.gr:=by
  rw[r];exact H.hc.Ha (by omega) hp u rfl rJ
 have Oj:=Kept.hc hc1 C.kp;have kp:=C.kp;have Q:(kQ h (m:Int)).1=h.s.1:=rfl;generalize jC (kQ h (m:Int)) (m:Int) x.root false a (n:Int) b=l at*
 have qJ:=H.y9 p (λ{i z} F q=>H.inv.dU B (H.root F) q) E C (y:=some (n:Int)) (by rw[O,av rfl]) (h':=bD h l) rfl (λ_=>rfl);have G:HI g' (bD h l):=H.base C B.len (Inv.nc B H.nl) rfl (λ_=>rfl) (by rw[qJ];exact Oj);have R:l.2[n]? =some (4,(m:Int),0,0,()):=C.kp.ks (by rw[r];exact AM u_) rfl;have F4:l.2.length=h.s.2.length:=by rw[C.len.2,B.len.2]
 have Xg:l.1.length=h.s.1.length:=by rw[C.len.1,B.len.1]
 have S:(fb l.1 (n:Int) (λ_=>0) 16).length=l.1.length:=gN _ _ _ _;have I: ∀b,dK (fb l.1 (n:Int) (λ_=>0) 16) b=if 16*(n:Int)<=b/\b<16*(n:Int)+16 then 0 else dK l.1 b:=λb=>tM (by omega) (by omega) 16 (F5 _) b;generalize fb l.1 (n:Int) (λ_=>0) 16=W at S I ⊢;have T:Inv.fy g' l (W,l.2):=by
  refine iO C.inv ⟨S,rfl⟩ (λb hb=>⟨n, _,R,(show ¬ (4:Int)=3 by decide),?_⟩) λ{i d d'} h1 A=>?_
  ·grind
  ·rw[h1] at A;cases A;exact .inl rfl
 have H3:=G.side (Aq:=h.gr) (N5:=h.po) T G.hc;have U: ∀{i:Nat} {q:Int},js {s:=(W,l.2),g:=h.g,gr:=h.gr,po:=h.po} i q=js (bD h l) i q:=λ{i q}=>by
  cases hi:h.g i with
  |none=>unfold js;rw[show(bD h l).g i=none from hi];dsimp only;rw[hi]
  |some z=>rw[bQ (h:=bD h l) hi,bQ (h:={s:=(W,l.2),g:=h.g,gr:=h.gr,po:=h.po}) hi];exact C.inv.dU T (G.root hi) q
 refine⟨g',n,H3,⟨rfl,rfl,rfl,?_,?_,u,R,⟨⟨λ{i q} hn=>?_⟩,λ{i d d'} V h4 _ _ dn k k0 J=>?_,KD.trans (t:=kQ h (m:Int)) (by rw[r];exact KD.set u (λc=>absurd c (by decide)) (λc=>absurd c (by decide))) (C.kd.trans (.refl rfl))⟩,λk k0 J=>?_,?_⟩,rfl,((u6.kd (by rw[r];exact KD.set u (λc=>absurd c (by decide)) (λc=>absurd c (by decide))) (λ_ _ _ _ _=>by rw[Q])).trans C.gks).trans (u6.kd (.refl rfl) λ{i d} V h5 k k0 J=>?_)⟩
 ·rw[show((m:Int)).toNat=m from rfl,bQ p, <-H.inv.dU B (H.root p)];exact P
 ·exact U.trans ((bQ (h:=bD h l) p a).trans O)
 ·exact U.trans ((H.Hc (λ{i z} F q=>H.inv.dU B (H.root F) q) E C (h':=bD h l) rfl (λ_=>rfl)).to hn)
 ·show dK W _= _;rw[I,ao (by omega)];have NX:(kQ h (m:Int)).2[i]? =some d:=by
   rw[r];show(h.s.2.set n _)[i]? = _;rw[AL (by omega)];exact V
  rw[kp.ws NX h4 k k0 J,Q]
 ·show dK W _= _;rw[I,av (by omega)]
 ·show _<=cd l.2 0+4;omega
 ·show dK W _= _
  grind
theorem P3 (H:HI gh h) {v:Int} (j:aV h.g v=true) {a b:Int} (c:qX h v a b≠0):jS h v a b=h:=by
 obtain⟨x,q,r,hv,f,i⟩:=bZ j;unfold qX at c;unfold jS;split
 ·rfl
 rename_i c1;rw[ao c1] at c;split
 ·rfl
 rename_i c2;rw[ao c2] at c;split
 ·rename_i e;have:kQ h v=(h.s.1,h.s.2):=by unfold kQ;rw[BP e]
  rw[this];rfl
 rename_i d;rw[ao d] at c;have d:=Ar d;rw[av c];obtain⟨n,k,l,t1,t2,t3⟩:=z9 (vG d) H.inv.fz ⟨f,i⟩;have m:jt h v=n:=t1;have o:kQ h v=(h.s.1,h.s.2.set n (4,v,0,0,())):=by unfold kQ;rw[t3]
 have p:qW h v a b=jC _ v _ _ a _ b:=rfl;rw[p,JL c,o,m];have:=yR (AM k) (Nn ⟨f,i⟩);rw[this.1,SY l];rfl
theorem Ha (H:HI gh h) {v:Int} (c:aV h.g v=true) (a b:Int): ∃dC,HI dC (jS h v a b):=by
 by_cases e:qX h v a b=0
 ·obtain:=H.P2 c e
  grind
 ·rw[H.P3 c e];grind
structure ab6 (h h':HS) (v:Nat) (a:Int) (f:Nat):Prop where
 g:h'.g=h.g
 Xp:(js h v a).2.2.1=0/\(js h v a).1=(f:Int)
 pg:js h' v a=(0,0,4,())
 f5:h'.s.2[f]? =some (5,(v:Int),0,0,())
 ef:va h h' (λi q=>i=v/\q=a) (-1)
theorem P4 (H:HI gh h) {v:Int} (B:aV h.g v=true) {a:Int} (e:xK h v a=0): ∃dC f,HI dC (qV h v a)/\ab6 h (qV h v a) v.toNat a f/\u6 gh dC h.s (qV h v a).s:=by
 obtain⟨x,l,L,hv,vV,rM⟩:=bZ B;unfold qV;rw[av e];obtain⟨m,rfl⟩: ∃m:Nat,v=(m:Int):=⟨v.toNat,hv.symm⟩;have l:h.g m=some x:=l;have M:fv h.g h.s (m:Int) a=bz h.s x.root false a:=by
  unfold fv;grind
 unfold xK at e;rw[M] at e ⊢;rw[L];split at e
 ·exact absurd e (by decide)
 split at e
 ·rename_i c;exact absurd e c
 rename_i c1;have c1:(bz h.s x.root false a).2.2.1=0:=Ar c1;split at e
 ·exact absurd e (by decide)
 rename_i c2;split at e
 ·exact absurd e (by decide)
 rename_i c3;have u:nj h m a=some (bz h.s x.root false a).1:=by rw[cQ l,av c1]
 obtain⟨n,d,D,w,d4,do1,do2,r⟩:=H.Uh u;have E:cg (lP h m) a=none:=by
  cases N:cg (lP h m) a with
  |none=>rfl
  |some y=>
   refine absurd ((tZ B (x:=x) l).2 ?_) c2;rw[gy l] at N;unfold N2
   grind
 rw[D] at c3 u ⊢;rw[nJ w] at c3;have F:ee (lP h) (n:Int)=0:=by
  have:=H.hc.refs w;omega
 have I:=(H.inv.PY (H.root l) c1).1;obtain⟨g',C,J, _⟩:=H.inv.Ei (H.root l) I (H.inv.aa0 H.nl (H.root l) I c1);have O:=Kept.hc H.hc C.kp;generalize nv h.s (m:Int) x.root false a=j at*
 have t:=C.kp.ks w d4;rw[F] at r;have r:d=(4,d.2.1,0,0,()):=r;have Q:d.2.1=(m:Int):=by
  obtain⟨R,d',S,K, _,T⟩:=H.hc.own u E;have:R=n:=B4 S;subst this;rw[w] at K;cases K;exact T
 rw[Q] at r;rw[r] at t;have U:=yR (G:=aO 5 (m:Int)) t (B7 ⟨by omega,by omega⟩);rw[U.1];have V:=O.Da (o:=(m:Int)) ⟨by omega,by omega⟩ u E F;have A:Inv.fy g' j (j.1,j.2.set n (5,(m:Int),0,0,())):=by
  refine iO C.inv ⟨rfl,by rw[AY]⟩ (λb hb=>absurd rfl hb) λ{i d d'} h1 h2=>?_
  grind
 have W:=H.y9 l (λ{i z} k q=>rfl) H.inv C (y:=none) (by rw[J];rfl) (h':=bD h j) rfl (λ_=>rfl);have X:=by
  funext i p;cases k:h.g i with
  |none=>exact(gx (h:=bD h (j.1,j.2.set n (5,(m:Int),0,0,()))) k p).trans (gx (h:=bD h j) k p).symm
  |some z=>
   refine(cQ (h:=bD h (j.1,j.2.set n (5,(m:Int),0,0,()))) k p).trans (Eq.trans ?_ (cQ (h:=bD h j) k p).symm);show(if(bz (j.1,j.2.set n (5,(m:Int),0,0,())) z.root false p).2.2.1=0 then some (bz (j.1,j.2.set n (5,(m:Int),0,0,())) z.root false p).1 else none)=if(bz j z.root false p).2.2.1=0 then some (bz j z.root false p).1 else none;rw[C.inv.dU A (C.root.to (H.root k))]
 have Y:(bD h j).g m=some x:=l;have Z:n<j.2.length:=(AP.1 t).1;have sp: ∀P,AB (bD h j) (bD h (j.1,j.2.set n (5,(m:Int),0,0,()))) P:=λP=>⟨λ{i q} _=>by
  cases k:h.g i with
  |none=>exact(fL (h:=bD h (j.1,j.2.set n (5,(m:Int),0,0,()))) k q).trans (fL (h:=bD h j) k q).symm
  |some z=>exact(bQ (h:=bD h (j.1,j.2.set n (5,(m:Int),0,0,()))) k q).trans ((C.inv.dU A (C.root.to (H.root k)) q).trans (bQ (h:=bD h j) k q).symm)⟩
 suffices hh:HI g' (bD h (j.1,j.2.set n (5,(m:Int),0,0,()))) from⟨g',n,hh,⟨rfl,by rw[show((m:Int)).toNat=m from rfl,bQ l];exact⟨c1,D⟩,((sp (λ_ _=>False)).to (λc=>c)).trans ((bQ Y a).trans J),AM Z,AB.trans (H.Hc (λ_ _=>rfl) H.inv C (h':=bD h j) rfl (λ_=>rfl)) (sp _),λ{i d d'} h1 h4 _ _ _=>C.kp.ws h1 h4,C.kd.trans (KD.set t (λ_=> .inr rfl) (by grind))⟩,C.gks.trans (u6.kd (KD.set t (λ_=> .inr rfl) (λc=>absurd (show(4:Int)=5 from c) (by decide))) λ_ _ _ _ _=>rfl)⟩
 exact{inv:=C.inv.beside A,rt:=H.rt.dy C.root,nl:=Inv.nc A (C.lg (λo q q' a b=>a.2.trans b.2.symm) H.nl),sz:=by
        show j.1.length=16*(j.2.set n (5,(m:Int),0,0,())).length;rw[AY,C.len.1,C.len.2];exact H.sz
       ,jo:=H.jo,root:=λ{i z} k=>C.root.to (H.root k),own:=λ{f o y} hf=>H.own ((C.root o f y).1 hf),hc:=by rw[X,W];exact V}
theorem Da (H:HI gh h) {v:Int} (b:aV h.g v=true) (a:Int): ∃dC,HI dC (qV h v a):=by
 by_cases e:xK h v a=0
 ·obtain:=H.P4 b e
  grind
 ·rw[show qV h v a=h from ao e];grind
end HI
end
set_option maxRecDepth 100000
open Go.RX D
theorem B8 (k:Nat): ∀l:List TK,(∀t∈l,0<=t.2.1/\t.2.1<(k:Int))->l.length<=((B2 k).map λa=>l.countP λt=>t.2.1==((a:Nat):Int)).sum
 |[], _=>F6 _
 |t::l,h=>by
  have c:=B8 k l λu b=>h u (Bx _ b);have d:=h t Be;have e:(λa:Nat=>(t::l).countP λt=>t.2.1==((a:Nat):Int))=lf (λa:Nat=>l.countP λt=>t.2.1==((a:Nat):Int)) t.2.1.toNat (l.countP (λu=>u.2.1==((t.2.1.toNat:Nat):Int))+1):=by
   funext a;rw[Do];by_cases e:a=t.2.1.toNat
   ·subst e;rw[kW,av (by simp;omega)]
   ·rw[nU e,ao (by simp;omega)];rfl
  have:=C_ (λa:Nat=>l.countP λt=>t.2.1==((a:Nat):Int)) t.2.1.toNat (l.countP (λu=>u.2.1==((t.2.1.toNat:Nat):Int))+1) k;rw[av (by omega),av (by omega)] at this;rw[e,DR];omega
theorem P5 {f:Nat->Nat} {c:Nat}: ∀l:List Nat,(∀x∈l,f x<=c)->(l.map f).sum<=c*l.length
 |[], _=>F6 _
 |x::l,h=>by
  have:=P5 l λy a=>h y (Bx _ a);have:=h x Be;rw[DA,E4,DR,Nat.mul_add];omega
theorem Np (tk:Nat->List TK) (q:TK->Bool):nC tk q=((B2 17).flatMap tk).countP q:=by
 unfold nC;rw[List.countP_flatMap];rfl
theorem Nq (l:List TK) (k c:Nat) (h: ∀t∈l,0<=t.2.1/\t.2.1<(k:Int)) (hb: ∀a:Nat,a<k->(l.countP λt=>t.2.1==((a:Nat):Int))<=c):l.length<=c*k:=by
 have h1:=B8 k l h;have b:=P5 (f:=λa:Nat=>l.countP λt=>t.2.1==((a:Nat):Int)) (c:=c) (B2 k) λa d=>hb a (DL.1 d);rw[List.length_range] at b;exact Nat.le_trans h1 b
namespace HC
variable {fr:IL} {tk:Nat->List TK} {ds:List DT} {gr:List GT}
theorem ids (H:HC fr tk ds gr) {i:Nat} {t:TK} (h:t∈tk i):0<=t.2.1/\t.2.1<((16:Nat):Int):=by
 obtain⟨_,o, _,k,x,h1,b, _⟩:=H.Dy (a:=t.2.1) (f:=t.2.2) (H.OL h);obtain⟨c,d, _⟩:=fB.1 h1;have:=H.gl;omega
theorem JW (H:HC fr tk ds gr) (f:Int):ee tk f<=16000:=by
 have h0: ∀q,nC tk q=((B2 17).flatMap tk).countP q:=Np tk;have d: ∀t∈(B2 17).flatMap tk,0<=t.2.1/\t.2.1<((16:Nat):Int):=λt h=>by
  obtain⟨i, _,hi⟩:=List.mem_flatMap.1 h;exact H.ids hi
 have b: ∀a:Nat,a<16->nC tk (λt=>t.2.1==((a:Nat):Int))<=1000:=λa c=>by
  have j:a<gr.length:=by rw[H.gl];exact c
  have e:gr[a]? =some gr[a]:=B3 j;have b:=H.vl e;have:=(H.gk _ (B1 e)).2;unfold mS at b;omega
 unfold ee;rw[h0];generalize (B2 17).flatMap tk=g at h0 d;have h1:=List.countP_le_length (p:=λt:TK=>t.2.2==f) (l:=g);have k:=Nq g 16 1000 d λa c=>by rw[<-h0];exact b a c
 omega
end HC
theorem Nr {gr:List GT} {k:Nat} {x:GT} (h:gr[k]? =some x) (y:GT):(gr.set k y).set k x=gr:=by
 apply Ea;intro i;have a:k<gr.length:=(AP.1 h).1;by_cases e:k=i
 ·subst e;rw[AM (by rw[AY];exact a),h]
 ·rw[AL e,AL e]
section
variable {gh dC:Gh} {h:HS}
theorem HI.fin (H:HI gh h) {v:Nat} {p:Int} {s1 d l:WD} (C:tc (ow (v:Int) 0 p) (v:Int) gh dC s1 d) (u:AA gh s1) (m:s1.1.length=h.s.1.length/\s1.2.length=h.s.2.length) (B:Inv.fy dC d l) {h':HS} (j:h'.s=l) (n: ∀i,(h'.g i).map GV.root=(h.g i).map GV.root)
 {F:IL} (w:nj {h' with s:=d}=F) (hc:HC F (lP h') l.2 h'.gr):HI dC h':=by
 have r: ∀{i:Nat} {x:GV},h'.g i=some x-> ∃z,h.g i=some z/\x.root=z.root:=λ{i x} k=>by
  have hi:=n i;rw[k] at hi;cases hc:h.g i with
  |none=>rw[hc] at hi;cases hi
  |some z=>rw[hc] at hi;exact⟨z,rfl,by simpa using hi⟩
 have t: ∀{i:Nat} {x:GV},h'.g i=some x->dC x.root=some ((i:Int),3,0):=λ{i x} k=>by
  obtain⟨z,c,A⟩:=r k;rw[A];exact C.root.to (H.root c)
 refine⟨by rw[j];exact C.inv.beside B,H.rt.dy C.root,by rw[j];exact Inv.nc B (C.lg (λo q G a b=>a.2.trans b.2.symm) u),?_,λ{i x} k=>?_,t,λ{f o y} D=>?_,?_⟩
 ·rw[j,B.len.1,B.len.2,C.len.1,C.len.2,m.1,m.2];exact H.sz
 ·obtain⟨z,c, _⟩:=r k;exact H.jo c
 ·obtain⟨i,x,h1,E⟩:=H.own ((C.root o f y).1 D);have hi:=n i;rw[E] at hi;cases hc:h'.g i with
  |none=>rw[hc] at hi;cases hi
  |some z=>exact⟨i,z,h1,hc⟩
 ·have e:nj h'=F:=by
   rw[<-w];funext i q;cases c:h'.g i with
   |none=>exact(gx c q).trans (gx (h:={h' with s:=d}) c q).symm
   |some z=>
    refine(cQ c q).trans (Eq.trans ?_ (cQ (h:={h' with s:=d}) c q).symm);show _=if(bz d z.root false q).2.2.1=0 then some (bz d z.root false q).1 else none;rw[j,C.inv.dU B (t c)]
  rw[e,j];exact hc
theorem HI.JX (H:HI gh h) {v:Nat} {p:Int} {b e:WD} (C:tc (ow (v:Int) 0 p) (v:Int) gh dC h.s b) (B:Inv.fy dC b e) (l:e.1=b.1) (n:KD b e) {h':HS} (f:h'.s=e) (j: ∀i,(h'.g i).map GV.root=(h.g i).map GV.root):
 va h h' (λi q=>i=v/\q=p) (-1)/\ ∀{i:Nat} {x:GV},h.g i=some x-> ∀q,js h' i q=bz b x.root false q:=by
 have r: ∀{i:Nat} {x:GV},h.g i=some x-> ∃z,h'.g i=some z/\z.root=x.root:=λ{i x} a=>by
  have hi:=j i;rw[a] at hi;cases hc:h'.g i with
  |none=>rw[hc] at hi;cases hi
  |some z=>rw[hc] at hi;exact⟨z,rfl,by simpa using hi⟩
 have key: ∀{i:Nat} {x:GV},h.g i=some x-> ∀q,js h' i q=bz b x.root false q:=λ{i x} a q=>by
  obtain⟨z,t,u⟩:=r a;rw[bQ t,f,u];exact C.inv.dU B (C.root.to (H.root a)) q
 refine⟨⟨⟨λ{i q} w=>?_⟩,λ{m d d'} h1 y _ _ _ k k0 A=>?_,?_⟩,key⟩
 ·cases a:h.g i with
  |none=>
   have hi:=j i;rw[a] at hi;rw[fL a,fL (by simpa using hi)]
  |some x=>
   rw[key a,bQ a];refine H.inv.zu C.inv C.DY C.root (o:=(i:Int)) (H.root a) λc=>w ?_;obtain⟨c1,c2⟩:=c;exact⟨B4 c1,c2⟩
 ·rw[f,l];exact C.kp.ws h1 y k k0 A
 ·rw[f];exact C.kd.trans n
theorem n6 {g:Gh} {s:WD} (I:Inv g s) {n:Nat} {o r r':Int} (e:s.2[n]? =some (4,o,r,0,())):Inv.fy g s (s.1,s.2.set n (4,o,r',0,())):=
 iO I ⟨rfl,by rw[AY]⟩ (λb hb=>absurd rfl hb) λ{i d d'} h1 f=>by
  rcases vH e h1 f with ⟨_,h,a⟩|⟨_,a⟩
  ·exact .inr ⟨by rw[h];exact(show ¬ (4:Int)=3 by decide),by rw[a];exact(show ¬ (4:Int)=3 by decide),λc=>by rw[a] at c;exact absurd c (show ¬ (4:Int)=0 by decide)⟩
  ·exact .inl a
theorem kX {g:Nat->Option GV} {n:Nat} {x:GV} (a:g n=some x) (tk:List TK) (i:Nat):(bq g n (some {x with tk:=tk}) i).map GV.root=(g i).map GV.root:=by
 unfold bq;by_cases e:i=n
 ·subst e;rw[av rfl,a];rfl
 ·rw[ao e]
theorem JY {h':HS} {g:Nat->Option GV} {n:Nat} {x:GV} (b:h.g n=some x) (tk:List TK) (a:h'.g=bq h.g n (some {x with tk:=tk})):lP h'=lf (lP h) n tk:=by
 funext i;unfold lP lf;rw[a];unfold bq;by_cases e:i=n
 ·rw[av e,av e]
 ·rw[ao e,ao e]
def Om (ds:List DT) (n:Nat) (o:Int):Prop:= ∃d:DT,ds[n]? =some d/\d.1=4/\d.2.1=o
theorem Kept.TQ {s s':WD} (K:Kept s s') (n:Nat) (o:Int):Om s'.2 n o<->Om s.2 n o:=by
 constructor
 ·rintro⟨d,h1,a,b⟩;rcases K.nw h1 with h|⟨h, _⟩
  ·exact⟨d,h,a,b⟩
  ·omega
 ·rintro⟨d,h1,a,b⟩;exact⟨d,K.ks h1 a,a,b⟩
theorem Wt {ds:List DT} {n:Nat} {o r r':Int} (h:ds[n]? =some (4,o,r,0,())) (m:Nat) (o':Int):Om (ds.set n (4,o,r',0,())) m o'<->Om ds m o':=by
 have b:n<ds.length:=(AP.1 h).1;unfold Om;by_cases e:n=m
 ·subst e;rw[AM b,h];constructor
  ·rintro⟨d,h1,c,a⟩;cases h1;exact⟨_,rfl,rfl,a⟩
  ·rintro⟨d,h1,c,a⟩;cases h1;exact⟨_,rfl,rfl,a⟩
 ·rw[AL e]
theorem HI.Gx (H:HI gh h) {v:Nat} {p id f:Int} {x:GV} (a:h.g v=some x) (J:cg x.tk p=some (id,f)): ∃dC,HI dC (dA h (v:Int) p id f)/\(∀n o,Om (dA h (v:Int) p id f).s.2 n o<->Om h.s.2 n o)/\va h (dA h (v:Int) p id f) (λi q=>i=v/\q=p) (-1)/\js (dA h (v:Int) p id f) v p=(0,0,4,())/\u6 gh dC h.s (dA h (v:Int) p id f).s:=by
 have j:cg (lP h v) p=some (id,f):=by rw[gy a];exact J
 obtain⟨l,o,Y,K⟩:=H.hc.Dy j;obtain⟨k,y,g1,e,Z,L, _⟩:=K;obtain⟨n,d,M,r,d4,N,O,P⟩:=H.Uh l;subst M;obtain⟨Q,k2,u⟩:=fB.1 g1;rw[getD_some e] at u;subst Q;have R:a9 h.g (v:Int)=x.root:=by
  have r:=H.jo a;unfold a9;rw[av (b_.2 ⟨by omega,x,a⟩)];show(match h.g v with|some x=>x.root|none=> -1)= _;rw[a]
 have A:(bz h.s x.root false p).2.2.1=0:=by
  rw[cQ a] at l;by_cases c:(bz h.s x.root false p).2.2.1=0
  ·exact c
  ·rw[ao c] at l;cases l
 have B:=(H.inv.PY (H.root a) A).1;obtain⟨g',C,D, _⟩:=H.inv.Ei (H.root a) B (H.inv.aa0 H.nl (H.root a) B A);have Uc:=H.jo a;have o7:0<ee (lP h) (n:Int):=nV (q:=λt=>t.2.2==(n:Int)) (by omega:v<17) (H.hc.KI j) (by simp);have ac9:0<mS (lP h) (k:Int):=nV (q:=λt=>t.2.1==(k:Int)) (by omega:v<17) (H.hc.KI j) (by simp);have acR:=H.hc.JW (n:Int);have S:mz h.gr (k:Int) (v:Int)=0:=by
  unfold mz;rw[g1];dsimp only;rw[getD_some e,ao (by rw[L];simp),ao (by rw[H.hc.vl e];omega)]
 have E:eR h.gr (k:Int) (v:Int)=h.gr.set k (fq y (-1)):=by
  unfold eR;rw[av S];show h.gr.set k (fq (h.gr.getD k zG) (-1))= _;rw[getD_some e]
 have T:=Kept.hc H.hc C.kp;have U:dA h (v:Int) p (k:Int) (n:Int)={s:=((nv h.s (v:Int) x.root false p).1,dL (nv h.s (v:Int) x.root false p).2 (n:Int) (ia (-1))),g:=bq h.g v (some {x with tk:=x.tk.filter λt=> !(t.1==p)}),gr:=h.gr.set k (fq y (-1)),po:=h.po}:=by
  unfold dA;rw[R,E];show HS.mk _ (bq h.g v (match h.g v with|some x=> _|none=>none)) _ _= _;rw[a]
 rw[U];generalize nv h.s (v:Int) x.root false p=F at*
 have b:=C.kp.ks r d4;rw[P] at b;have V:=yR (G:=ia (-1)) b (aa2 ⟨N,O⟩ ⟨by omega,by omega⟩ ⟨by omega,by omega⟩);rw[V.1];have W:oh (h.gr.set k (fq y (-1))):=by rw[<-E];exact H.hc.gk.back _ _
 have X:=T.Gx j b e u W;have I:=H.JX C (n6 (r':=(ee (lP h) (n:Int):Int)+ -1) C.inv b) rfl (KD.set b (λ_=> .inl rfl) (λc=>absurd (show(4:Int)=5 from c) (by decide))) (h':={s:=(F.1,F.2.set n (4,d.2.1,(ee (lP h) (n:Int):Int)+ -1,0,())),g:=bq h.g v (some {x with tk:=x.tk.filter λt=> !(t.1==p)}),gr:=h.gr.set k (fq y (-1)),po:=h.po}) rfl (λi=>kX a _ i);refine⟨g',H.fin C H.nl ⟨rfl,rfl⟩ (n6 C.inv b) rfl (λi=>kX a _ i) (H.y9 a (λ{i z} hz q=>rfl) H.inv C (y:=none) (by rw[D];rfl) rfl (λi=>kX a _ i)) ?_,λm w=>(Wt b m w).trans (C.kp.TQ m w),I.1,(I.2 a p).trans D,C.gks.trans (u6.kd (KD.set b (λ_=> .inl rfl) (λc=>absurd (show(4:Int)=5 from c) (by decide))) λ_ _ _ _ _=>rfl)⟩;rw[JY (g:=h.g) a _ rfl, <-gy a];exact X
end
set_option maxRecDepth 100000
open Go.RX D
section
variable {gh dC:Gh} {h:HS}
theorem Ns {v p:Int} (h0:(fv h.g h.s v p).2.2.1=0):aV h.g v=true/\ ∃x,h.g v.toNat=some x/\fv h.g h.s v p=bz h.s x.root false p:=by
 unfold fv at h0 ⊢;by_cases a:aV h.g v=true
 ·obtain⟨x,b, _⟩:=bZ a;rw[av a,b];exact⟨a,x,rfl,rfl⟩
 ·rw[ao a] at h0;exact absurd h0 (by decide)
theorem SZ {v p:Int} {x:GV} (b:aV h.g v=true) (a:h.g v.toNat=some x) (hb: ¬ ib h v p=true):cg x.tk p=none:=by
 cases c:cg x.tk p with
 |none=>rfl
 |some y=>
  refine absurd ((tZ b a).2 ?_) hb;unfold N2;rw[a];dsimp only;rw[c];rfl
theorem S3 {gs:List GT} {k:Nat} {x:GT} {v:Int} (h:gs[k]? =some x) (g:x≠zG) (hv:x.2.2.1=v) (m:0<=x.2.2.2.2.1) (i:oh gs):eR (gs.set k (fq x 1)) (k:Int) v=gs:=by
 have f:k<gs.length:=(AP.1 h).1;have h1:(gs.set k (fq x 1))[k]? =some (fq x 1):=AM f;have j:l5 (gs.set k (fq x 1)) (k:Int)=some k:=fB.2 ⟨rfl,by rw[AY];exact f,by rw[getD_some h1];exact yk i h g 1⟩;have l:mz (gs.set k (fq x 1)) (k:Int) v=0:=by
  unfold mz;rw[j];dsimp only;rw[getD_some h1,ao (by show ¬ x.2.2.1≠v;rw[hv];simp),ao (by show ¬ x.2.2.2.2.1+1=0;omega)]
 unfold eR;rw[av l];show(gs.set k (fq x 1)).set k (fq ((gs.set k (fq x 1)).getD k zG) (-1))=gs;rw[getD_some h1];have e:fq (fq x 1) (-1)=x:=by
  obtain⟨a,b,c,d,e,u⟩:=x;unfold fq;dsimp only;rw[show e+1+ -1=e by omega]
 rw[e];exact Nr h _
theorem ab7 {v a b c:Int} (d:mC h v a b c=0):nA h v a b c=lU h.s (a9 h.g v) false b (lO h a).1 (xy c):=by
 unfold mC at d;unfold nA;split at d
 ·exact absurd d (by decide)
 rename_i c1;rw[ao c1];split at d
 ·exact absurd d (by decide)
 rename_i c2;rw[ao c2];split at d
 ·exact absurd d (by decide)
 rename_i c3;rw[ao c3];split at d
 ·exact absurd d (by decide)
 rename_i c4;rw[ao c4];split at d
 ·exact absurd d (by decide)
 rename_i c5;rw[ao c5];split at d
 ·exact absurd d (by decide)
 rename_i c6;rw[ao c6,ao (λe=>e d)]
theorem HI.JZ (H:HI gh h) {v a b c:Int} (W:aV h.g v=true) (f:mC h v a b c=0):
 (nA h v a b c=0-> ∃dC,HI dC (iq h v a b c)/\va h (iq h v a b c) (λi q=>i=v.toNat/\q=b) (-1)/\(js h v.toNat b).2.2.1=4/\js (iq h v a b c) v.toNat b=((lO h a).1,xy c,0,())/\u6 gh dC h.s (iq h v a b c).s)/\(nA h v a b c≠0->Bb h v a b c=h):=by
 have J:=ab7 f;obtain⟨p4,t,K,u⟩:(lT h a).2.2.1=v/\(lO h a).2.2.1=0/\ ¬ ib h (lT h a).1 (lT h a).2.1=true/\gZ h.gr a v (c==1)=0:=by
  unfold mC at f;split at f
  ·exact absurd f (by decide)
  split at f
  ·exact absurd f (by decide)
  split at f
  ·exact absurd f (by decide)
  split at f
  ·exact absurd f (by decide)
  rename_i c4;split at f
  ·exact absurd f (by decide)
  rename_i c5;split at f
  ·exact absurd f (by decide)
  rename_i c6;exact⟨Ar λe=>c4 (.inl e),Ar c5,c6,f⟩
 obtain⟨x,j,L,hv,vV,rM⟩:=bZ W;obtain⟨k,w⟩: ∃k,l5 h.gr a=some k:=by
  unfold gZ at u;cases w:l5 h.gr a with
  |none=>rw[w] at u;exact absurd (show(4:Int)=0 from u) (by decide)
  |some k=>exact⟨k,rfl⟩
 obtain⟨B,X,D⟩:=fB.1 w;have l:h.gr[k]? =some h.gr[k]:=B3 X;obtain⟨y,Y⟩: ∃y,y=h.gr[k]:=⟨_,rfl⟩;rw[<-Y] at l;rw[getD_some l] at D;have M:lT h a=y:=by
  unfold lT xF;rw[w];exact getD_some l
 have N:lO h a=fv h.g h.s y.1 y.2.1:=by unfold lO;rw[M]
 rw[M] at p4 K;rw[N] at t;obtain⟨O,P,r,Q⟩:=Ns t;have Z:=SZ O r K;obtain⟨m,rfl⟩: ∃m:Nat,v=(m:Int):=⟨v.toNat,hv.symm⟩;have j:h.g m=some x:=j;obtain⟨o,R⟩: ∃o:Nat,y.1=(o:Int):=⟨y.1.toNat,by have:=b_.1 O;omega⟩;have r:h.g o=some P:=by rw[R] at r;exact r
 rw[Q] at t;have E:nj h o y.2.1=some (bz h.s P.root false y.2.1).1:=by rw[cQ r,av t]
 obtain⟨n,d,S,hd,d4,do1,do2,Ui⟩:=H.Uh E;rw[S] at E;have F:(lO h a).1=(n:Int):=by rw[N,Q,S]
 have I:eh h.gr a (m:Int) (c==1)=h.gr.set k (fq y 1):=by
  unfold eh;rw[av u, <-B];show h.gr.set k (fq (h.gr.getD k zG) 1)= _;rw[getD_some l]
 refine⟨λe=>?_,λe=>?_⟩
 ·rw[J,L,F] at e;obtain⟨hp,g',C,T, _,U, _⟩:=H.inv.map (H.root j) e;have acS:nj h m b=none:=by rw[cQ j,ao (by rw[U];decide)]
  have jO:iq h (m:Int) a b c={s:=((jC h.s (m:Int) x.root false b (n:Int) (xy c)).1,dL (jC h.s (m:Int) x.root false b (n:Int) (xy c)).2 (n:Int) (ia 1)),g:=bq h.g m (some {x with tk:=mJ (b,a,(n:Int)) x.tk}),gr:=h.gr.set k (fq y 1),po:=h.po}:=by
   unfold iq;rw[L,F,I];show HS.mk _ (bq h.g m (match h.g m with|some x=> _|none=>none)) _ _= _;rw[j]
  rw[jO];have Oj:=Kept.hc H.hc C.kp;generalize jC h.s (m:Int) x.root false b (n:Int) (xy c)=A at*
  have p:=C.kp.ks hd d4;rw[Ui] at p;have acR:=H.hc.JW (n:Int);have qY:=yR (G:=ia 1) p (aa2 ⟨do1,do2⟩ ⟨by omega,by omega⟩ ⟨by omega,by omega⟩);rw[qY.1];have Xo:oh (h.gr.set k (fq y 1)):=by rw[<-I];exact H.hc.gk.take _ _ _
  have Xb:=Oj.take hp acS p l D R p4 E (by rw[gy r];exact Z) Xo;have V:=H.JX C (n6 (r':=(ee (lP h) (n:Int):Int)+1) C.inv p) rfl (KD.set p (λ_=> .inl rfl) (λc=>absurd (show(4:Int)=5 from c) (by decide))) (h':={s:=(A.1,A.2.set n (4,d.2.1,(ee (lP h) (n:Int):Int)+1,0,())),g:=bq h.g m (some {x with tk:=mJ (b,a,(n:Int)) x.tk}),gr:=h.gr.set k (fq y 1),po:=h.po}) rfl (λi=>kX j _ i)
  suffices hh:HI g' {s:=(A.1,A.2.set n (4,d.2.1,(ee (lP h) (n:Int):Int)+1,0,())),g:=bq h.g m (some {x with tk:=mJ (b,a,(n:Int)) x.tk}),gr:=h.gr.set k (fq y 1),po:=h.po} from⟨g',hh,V.1,by rw[show((m:Int)).toNat=m from rfl,bQ j];exact U,by rw[F];exact(V.2 j b).trans T,C.gks.trans (u6.kd (KD.set p (λ_=> .inl rfl) (λc=>absurd (show(4:Int)=5 from c) (by decide))) λ_ _ _ _ _=>rfl)⟩
  refine H.fin C H.nl ⟨rfl,rfl⟩ (n6 C.inv p) rfl (λi=>kX j _ i) (H.y9 j (λ{i z} hz q=>rfl) H.inv C (y:=some (n:Int)) (by rw[T];rfl) rfl (λi=>kX j _ i)) ?_;rw[JY (g:=h.g) j _ rfl, <-gy j, <-B];exact Xb
 ·rw[J] at e;unfold Bb;rw[JL e,I, <-B,S3 l D p4 (H.hc.gk y (B1 l)).2.1 H.hc.gk]
theorem HI.P6 (H:HI gh h) {v a b c:Int} (f:aV h.g v=true) (e:nA h v a b c≠0):jz h v a b c=h:=by
 unfold jz;by_cases d:mC h v a b c=0
 ·rw[ao (λe=>e d),ao e];exact(H.JZ f d).2 e
 ·exact av d
theorem S4 {v a b c:Int} (e:nA h v a b c=0):mC h v a b c=0:=by
 unfold nA at e;unfold mC;split at e
 ·exact absurd e (by decide)
 rename_i c1;rw[ao c1];split at e
 ·exact absurd e (by decide)
 rename_i c2;rw[ao c2];split at e
 ·exact absurd e (by decide)
 rename_i c3;rw[ao c3];split at e
 ·exact absurd e (by decide)
 rename_i c4;rw[ao c4];split at e
 ·exact absurd e (by decide)
 rename_i c5;rw[ao c5];split at e
 ·exact absurd e (by decide)
 rename_i c6;rw[ao c6];split at e
 ·rename_i c7;exact absurd e c7
 rename_i c7;exact Ar c7
theorem HI.P7 (H:HI gh h) {v a b c:Int} (f:aV h.g v=true) (e:nA h v a b c=0):jz h v a b c=iq h v a b c/\ ∃dC,HI dC (iq h v a b c)/\va h (iq h v a b c) (λi q=>i=v.toNat/\q=b) (-1)/\(js h v.toNat b).2.2.1=4/\js (iq h v a b c) v.toNat b=((lO h a).1,xy c,0,())/\u6 gh dC h.s (iq h v a b c).s:=by
 have d:=S4 e;refine⟨?_,(H.JZ f d).1 e⟩;unfold jz;rw[ao (λe=>e d),av e]
theorem HI.take (H:HI gh h) {v:Int} (d:aV h.g v=true) (a b c:Int): ∃dC,HI dC (jz h v a b c):=by
 by_cases e:nA h v a b c=0
 ·obtain⟨h1,g',f, _⟩:=H.P7 d e;rw[h1];exact⟨g',f⟩
 ·rw[H.P6 d e];exact⟨gh,H⟩
theorem HI.J0 (H:HI gh h) {v:Int} (b:aV h.g v=true) {a:Int} (e:pD h v a=0): ∃dC,HI dC (g_ h v a)/\va h (g_ h v a) (λi q=>i=v.toNat/\q=a) (-1)/\js (g_ h v a) v.toNat a=(0,0,4,())/\u6 gh dC h.s (g_ h v a).s:=by
 obtain⟨x,c,k,hv, _⟩:=bZ b;unfold pD at e;unfold g_;split at e
 ·exact absurd e (by decide)
 rename_i c1;rw[ao c1];split at e
 ·rename_i c2;rw[av c2];have d:=(tZ b c).1 c2;obtain⟨m,rfl⟩: ∃m:Nat,v=(m:Int):=⟨v.toNat,hv.symm⟩;obtain⟨g',f, _,E,j⟩:=H.Gx (x:=x) c d;exact⟨g',f,E,j⟩
 ·exact absurd e (by decide)
theorem J1 {v a:Int} (e:pD h v a≠0):g_ h v a=h:=by
 unfold pD at e;unfold g_;split
 ·rfl
 rename_i c1;rw[ao c1] at e;split
 ·rename_i c2;rw[av c2] at e;exact absurd rfl e
 ·rfl
theorem HI.back (H:HI gh h) {v:Int} (b:aV h.g v=true) (a:Int): ∃dC,HI dC (g_ h v a):=by
 by_cases e:pD h v a=0
 ·obtain⟨g',c, _⟩:=H.J0 b e;exact⟨g',c⟩
 ·rw[J1 e];exact⟨gh,H⟩
theorem HI.fe {v:Nat}: ∀(n:Nat) {gh:Gh} {h:HS},HI gh h->(∃x,h.g v=some x)->(lP h v).length=n->
 ∃dC,HI dC (fe (v:Int) n h)/\(∃x,(fe (v:Int) n h).g v=some x)/\lP (fe (v:Int) n h) v=[]/\(∀i,i≠v->(fe (v:Int) n h).g i=h.g i)/\(∀m o,Om (fe (v:Int) n h).s.2 m o<->Om h.s.2 m o)/\va h (fe (v:Int) n h) (λi _=>i=v) (-1)/\u6 gh dC h.s (fe (v:Int) n h).s
 |0,gh,h,H,d,j=>⟨gh,H,d,List.length_eq_zero_iff.1 j,λ_ _=>rfl,λ_ _=>Iff.rfl,.refl _ _ _,u6.refl _ _⟩
 |n+1,gh,h,H,⟨x,d⟩,j=>by
  have z:vX h (v:Int)=x.tk:=by rw[ab4];exact gy d
  have A:x.tk.length=n+1:=by rw[<-gy d];exact j
  have B:x.tk.map (·.1)≠[]:=λe=>by
   have:=congrArg List.length e;rw[DM,A] at this;simp at this
  have r:=E8 B (λy C=>by
   obtain⟨t,k,rfl⟩:=Ap.1 C;have D:t∈lP h v:=by rw[gy d];exact k
   have:=H.hc.jo (H.hc.Dy (a:=t.2.1) (f:=t.2.2) (H.hc.OL D)).1;omega)
  obtain⟨p,u⟩: ∃p,p=AO (x.tk.map (·.1)):=⟨_,rfl⟩;rw[<-u] at r;obtain⟨t,k,E⟩:=Ap.1 r;have l:=H.hc.nd v;rw[gy d] at l;have q:cg x.tk p=some t.2:=(jM (a:=t.2.1) (b:=t.2.2) l).2 (by rw[<-E];exact k);have F:N2 h (v:Int) p=t.2:=by
   unfold N2;show(match h.g v with|some x=>(cg x.tk p).getD (0,0)|none=>(0,0))= _;rw[d];dsimp only;rw[q];rfl
  have G:yQ (v:Int) h=dA h (v:Int) p t.2.1 t.2.2:=by
   unfold yQ;rw[z, <-u,F]
  obtain⟨U,I,J,K, _,L⟩:=H.Gx (x:=x) d q;have w:(dA h (v:Int) p t.2.1 t.2.2).g v=some {x with tk:=x.tk.filter λt=> !(t.1==p)}:=by
   show bq h.g v (match h.g v with|some x=> _|none=>none) v= _;rw[d,fP]
  have M:(lP (dA h (v:Int) p t.2.1 t.2.2) v).length=n:=by
   rw[gy w];have:=(B6 l q).length_eq;rw[DR] at this;show(x.tk.filter λt=> !(t.1==p)).length=n;omega
  obtain⟨N,h1,O,P,Q,R,S,T⟩:=HI.fe n I ⟨_,w⟩ M;have e:_root_.Go.Proofs.YtlcenllcmeebhaaGreat.fe (v:Int) (n+1) h=_root_.Go.Proofs.YtlcenllcmeebhaaGreat.fe (v:Int) n (dA h (v:Int) p t.2.1 t.2.2):=by rw[<-G];rfl
  rw[e];refine⟨N,h1,O,P,λi hi=>?_,λm o=>(R m o).trans (J m o),va.trans (K.mono λc=>c.1) S,L.trans T⟩;rw[Q i hi];show bq h.g v _ i=h.g i;unfold bq;rw[ao hi]
end
section
variable {gh dC:Gh} {h:HS}
theorem Nt {v:Int} {x:GV} (a:aV h.g v=true) (b:h.g v.toNat=some x) (p:Int):fv h.g h.s v p=bz h.s x.root false p:=by
 unfold fv;rw[av a,b]
theorem HI.word (H:HI gh h) {v:Int} (j:aV h.g v=true) {a t:Int} (u:0<=a) (m:0<=t/\t<=7):
 (a<1048576/\(fv h.g h.s v (a / 16)).2.2.1=0/\iK h v a t=(16*(fv h.g h.s v (a / 16)).1+a % 16,if gM true (fv h.g h.s v (a / 16)).2.1 false (fv h.g h.s v (a / 16)).1 t=true then 0 else 7)/\
  ∃n:Nat,(fv h.g h.s v (a / 16)).1=(n:Int)/\n<h.s.2.length/\nj h v.toNat (a / 16)=some (n:Int))\/
 ((a>=1048576/\(iK h v a t).2=2)\/(a<1048576/\fv h.g h.s v (a / 16)=(0,0,4,())/\(iK h v a t).2=4)):=by
 obtain⟨x,c,o,hv,w,y⟩:=bZ j;rw[Nt j c];unfold iK;by_cases f:a>=1048576
 ·rw[av f];exact .inr (.inl ⟨f,rfl⟩)
 rw[ao f,o];have p:=H.root c;have k:0<=a / 16/\a / 16<65536:=by omega
 have b:=H.inv.P1 H.nl p k m;by_cases e:(bz h.s x.root false (a / 16)).2.2.1=0
 ·rw[av e] at b;have l:nj h v.toNat (a / 16)=some (bz h.s x.root false (a / 16)).1:=by rw[cQ c,av e]
  obtain⟨n,d,i,q, _⟩:=H.Uh l;have r:n<h.s.2.length:=(AP.1 q).1;have z:=H.inv.le;refine .inl ⟨by omega,e,?_,n,i,r,by rw[l,i]⟩;rw[b];dsimp only;rw[i,eK (by omega) (by omega),aw (by omega) (by omega)]
 ·rw[ao e] at b;refine .inr (.inr ⟨by omega,(Inv.aar _ _ k).resolve_left e,b⟩)
theorem HI.S5 (H:HI gh h) {n:Nat} {d:DT} (c:h.s.2[n]? =some d) (d4:d.1=4) {o:Int} (f:0<=o/\o<16) (b:Int):HI gh (bD h (cZ h.s.1 (16*(n:Int)+o) b,h.s.2))/\va h (bD h (cZ h.s.1 (16*(n:Int)+o) b,h.s.2)) (λ_ _=>False) (n:Int):=by
 have B:Inv.fy gh h.s (cZ h.s.1 (16*(n:Int)+o) b,h.s.2):=by
  refine iO H.inv ⟨cG _ _ _,rfl⟩ (λq e=>⟨n,d,c,by rw[d4];decide,?_⟩) λ{i d d'} h1 a=>?_
  ·refine Ar λhc=>e ?_;show dK (cZ h.s.1 (16*(n:Int)+o) b) q= _;rw[mP (by omega)]
  ·rw[h1] at a;cases a;exact .inl rfl
 refine⟨H.side B H.hc,H.Db B (h':=bD h (cZ h.s.1 (16*(n:Int)+o) b,h.s.2)) rfl rfl _,λ{m d d'} _ _ _ _ g k k0 j=>?_,.refl rfl⟩;show dK (cZ h.s.1 (16*(n:Int)+o) b) _= _;exact mP (by omega)
theorem HI.store (H:HI gh h) {v:Int} (f:aV h.g v=true) {a:Int} (i:0<=a) (b:Int):HI gh (ko h v a b)/\AB h (ko h v a b) (λ_ _=>False):=by
 unfold ko;by_cases e:(iK h v a 2).2≠0
 ·rw[av e];exact⟨H,AB.refl _ _⟩
 rw[ao e];have e:(iK h v a 2).2=0:=Ar e;rcases H.word f i (t:=2) (by decide) with ⟨_, _,j,n,k,u,l⟩|⟨_,c⟩|⟨_, _,c⟩
 ·rw[j];dsimp only;rw[k];obtain⟨m,d,p,q,d4, _⟩:=H.Uh l;have:n=m:=B4 p;subst this;obtain⟨r,s⟩:=H.S5 q d4 (o:=a % 16) (by omega) b;exact⟨r,s.pg⟩
 ·rw[c] at e;exact absurd e (by decide)
 ·rw[c] at e;exact absurd e (by decide)
theorem HI.Wu (H:HI gh h) {n:Nat} {d:DT} (f:h.s.2[n]? =some d) (i:d.1=5):d=(5,d.2.1,0,0,())/\0<=d.2.1/\d.2.1<=16:=by
 obtain⟨_,j,l,m⟩:=H.hc.kd f;have g:=H.hc.refs f;have:ee (lP h) (n:Int)=0:=by
  rcases Cf (ee (lP h) (n:Int)) with e|e
  ·exact e
  ·obtain⟨d',k,o⟩:=H.hc.I9 e;rw[f] at k;cases k;omega
 rw[this] at g;refine⟨?_,l,m⟩;obtain⟨a,b,c,e,u⟩:=d;dsimp only at i j g;rw[i,j,g];rfl
theorem HI.O8 (H:HI gh h) {n:Nat} {d:DT} (a:h.s.2[n]? =some d) (e:d.1=5):im h.s (n:Int)=(h.s.1,h.s.2.set n zD)/\jy h.s (n:Int)=0/\HI gh (bD h (h.s.1,h.s.2.set n zD))/\AB h (bD h (h.s.1,h.s.2.set n zD)) (λ_ _=>False):=by
 have l:n<h.s.2.length:=(AP.1 a).1;obtain⟨o,p,q⟩:=H.Wu a e;have g:=a;rw[o] at g;have j:=yR (G:=aO 0 0) g (Iw ⟨p,q⟩);have k:xR h.s.2 (n:Int)=true:=by
  unfold xR;simp only[GH,decide_eq_false_iff_not];simp;omega
 have B:Inv.fy gh h.s (h.s.1,h.s.2.set n zD):=by
  refine iO H.inv ⟨rfl,by rw[AY]⟩ (λb hb=>absurd rfl hb) λ{i d0 d'} h1 r=>?_;rcases vH a h1 r with ⟨_,t,f⟩|⟨_,f⟩
  ·exact .inr ⟨by rw[t,e];decide,by rw[f];decide,λ_=>f⟩
  ·exact .inl f
 refine⟨?_,?_,H.side B (H.hc.G_ (λ{m d0} h1 u=>?_) λ{m d0} h1=>?_),H.Db B (h':=bD h (h.s.1,h.s.2.set n zD)) rfl rfl _⟩
 ·unfold im;rw[av ⟨k,by rw[nJ a];exact e⟩,j.1]
 ·unfold jy;rw[k,ao (by decide),nJ a,ao (λc=>c e)];exact j.2
 ·show(h.s.2.set n zD)[m]? = _;rw[AL (λc=>by subst c;rw[a] at h1;cases h1;omega)];exact h1
 ·have h1:(h.s.2.set n zD)[m]? =some d0:=h1;by_cases c:n=m
  ·subst c;rw[AM l] at h1;cases h1;exact .inr ⟨.inl rfl,rfl,by decide,by decide⟩
  ·rw[AL c] at h1;exact .inl h1
theorem Wv {s:WD} {f:Int} (g: ∀(n:Nat) (d:DT),f=(n:Int)->s.2[n]? =some d->d.1≠5):im s f=s/\jy s f≠0:=by
 by_cases e:xR s.2 f=true
 ·have i:0<=f/\f<s.2.length:=by
   have a:=e;unfold xR at a;simp only[GH,decide_eq_false_iff_not] at a;simp at a;omega
  have b:s.2[f.toNat]? =some s.2[f.toNat]:=B3 (by omega);have h:=g f.toNat _ (by omega) b;have hv:(oV s.2 f).1≠5:=by
   have:=nJ b;rw[show((f.toNat:Nat):Int)=f by omega] at this;rw[this];exact h
  unfold im jy;rw[ao (λc=>hv c.2),e,ao (by decide),av hv];exact⟨rfl,by decide⟩
 ·unfold im jy;have e:xR s.2 f=false:=by simpa using e
  rw[e,ao (by simp),av rfl];exact⟨rfl,by decide⟩
theorem HI.free (H:HI gh h) (f:Int):HI gh (bD h (im h.s f))/\(im h.s f=h.s\/ ∃(n:Nat) (d:DT),f=(n:Int)/\h.s.2[n]? =some d/\d.1=5/\im h.s f=(h.s.1,h.s.2.set n zD)):=by
 by_cases e: ∃(n:Nat) (d:DT),f=(n:Int)/\h.s.2[n]? =some d/\d.1=5
 ·obtain⟨n,d,rfl,h1,a⟩:=e;obtain⟨b, _,c, _⟩:=H.O8 h1 a;rw[b];exact⟨c,.inr ⟨n,d,rfl,h1,a,rfl⟩⟩
 ·obtain⟨b, _⟩:=Wv (s:=h.s) (f:=f) λn d h1 a g=>e ⟨n,d,h1,a,g⟩;rw[b];exact⟨H,.inl rfl⟩
theorem HI.XQ (H:HI gh h): ∀n,HI gh (bD h (dN h.s n).1)
 |0=>H
 |n+1=>((HI.XQ H n).free (n:Int)).1
theorem HI.Hd (H:HI gh h): ∃dC,HI dC (gU h)/\va h (gU h) (λ_ q=> ¬ (0<=q/\q<65536)) (-1)/\u6 gh dC h.s (gU h).s:=by
 unfold gU;cases hv:mR h.g with
 |none=>exact⟨gh,H,.refl _ _ _,u6.refl _ _⟩
 |some v=>
  dsimp only;by_cases e:rL h.s (v:Int)=0
  case neg=>rw[ao e];exact⟨gh,H,.refl _ _ _,u6.refl _ _⟩
  rw[av e];obtain⟨Yl,z, _⟩:=nZ.1 hv;have U: ∀f,gh f≠some ((v:Int),3,0):=λf a=>by
   obtain⟨i,x,h1,t⟩:=H.own a;have:i=v:=B4 h1;subst this;rw[z] at t;cases t
  obtain⟨_,J,b2,b3,C,K,D,V,X,E⟩:=H.inv.born (o:=(v:Int)) (by omega) U (vG e);have Y: ∀{f o y k:Int} {l:Nat},gh f=some (o,l,y)->0<=k->k<16->dK (iQ h.s (v:Int) λ_=>0).1 (16*f+k)=dK h.s.1 (16*f+k):=λ{f o y k l} a k0 r=>by
   have dn:f≠eA h.s (v:Int):=λc=>by rw[c,J] at a;cases a
   exact D _ (by omega)
  have L: ∀k,0<=k->k<16->aJ (iQ h.s (v:Int) λ_=>0).1 (16*eA h.s (v:Int)+k)=zE:=λk k0 r=>Zh (V k k0 r);generalize (iQ h.s (v:Int) λ_=>0)=s' at*
  generalize eA h.s (v:Int)=F at*
  have M: ∀{f o y k:Int} {l:Nat},gh f=some (o,l,y)->0<=k->k<16->aJ s'.1 (16*f+k)=aJ h.s.1 (16*f+k):=λa k0 r=>by unfold aJ;rw[Y a k0 r]
  have A: ∀{f o y:Int} {l:Nat},gh f=some (o,l,y)->mI gh F (some ((v:Int),3,0)) f=some (o,l,y):=λ{f o y l} a=>by
   rw[aY (λc=>by rw[c,J] at a;cases a)];exact a
  have N: ∀{i:Nat} {x:GV},bq h.g v (some ⟨F,[]⟩) i=some x->(i=v/\x=⟨F,[]⟩)\/(i≠v/\h.g i=some x):=λ{i x} n=>by
   unfold bq at n;by_cases c:i=v
   ·rw[av c] at n;cases n;exact .inl ⟨c,rfl⟩
   ·rw[ao c] at n;exact .inr ⟨c,n⟩
  have Z:F.toNat<h.s.2.length:=by omega
  have O: ∀{i:Nat} {p:Int},0<=p/\p<65536->js {h with s:=s',g:=bq h.g v (some ⟨F,[]⟩)} i p=js h i p:=λ{i p} b=>by
   by_cases c:i=v
   ·subst c;rw[fL z,bQ (h:={h with s:=s',g:=bq h.g i (some ⟨F,[]⟩)}) (x:=⟨F,[]⟩) (fP _ _ _)];show bz s' F false p= _;have P:=L (px 3 p % 16) (dY p 3).1 (dY p 3).2;have u:dG (mI gh F (some ((i:Int),3,0))) s' (i:Int) p F 3:=⟨by rw[px4 b];exact bI _ _ _,by rw[P];exact KE⟩;rw[E.fW (bI _ _ _) b u,P,Gw _ _ rfl]
   ·cases n:h.g i with
    |none=>
     rw[fL n];exact fL (h:={h with s:=s',g:=bq h.g v (some ⟨F,[]⟩)}) (show bq h.g v (some ⟨F,[]⟩) i=none by unfold bq;rw[ao c];exact n) p
    |some x=>
     rw[bQ n,bQ (h:={h with s:=s',g:=bq h.g v (some ⟨F,[]⟩)}) (x:=x) (show bq h.g v (some ⟨F,[]⟩) i=some x by unfold bq;rw[ao c];exact n)];show bz s' x.root false p= _;obtain⟨f,j, _,u⟩:=H.inv.mA (H.root n) b;have Q:=M u.1 (dY p j).1 (dY p j).2;have jR:dG (mI gh F (some ((v:Int),3,0))) s' (i:Int) p f j:=⟨A u.1,by rw[Q];exact u.2⟩;rw[H.inv.fW (H.root n) b u,E.fW (A (H.root n)) b jR,Q]
  have R: ∀(h:HS) {i:Nat} {p:Int},¬ (0<=p/\p<65536)->(js h i p).2.2.1≠0:=λh {i p} b=>by
   unfold js;cases h.g i with
   |none=>exact(show ¬ (4:Int)=0 by decide)
   |some x=>dsimp only;rw[Inv.yj b];decide
  have gD:nj {h with s:=s',g:=bq h.g v (some ⟨F,[]⟩)}=nj h:=by
   funext i p;rw[sr,sr];by_cases b:0<=p/\p<65536
   ·rw[O b]
   ·rw[ao (R _ b),ao (R _ b)]
  have kS:lP {h with s:=s',g:=bq h.g v (some ⟨F,[]⟩)}=lP h:=by
   funext i;unfold lP;show(match bq h.g v (some ⟨F,[]⟩) i with|some x=>x.tk|none=>[])= _;unfold bq;by_cases c:i=v
   ·rw[av c,c,z]
   ·rw[ao c]<;>rfl
  have G:h.s.2[F.toNat]? =some zD:=K;have S:va h {h with s:=s',g:=bq h.g v (some ⟨F,[]⟩)} (λ_ q=> ¬ (0<=q/\q<65536)) (-1):=by
   refine⟨⟨λhq=>O (Ar hq)⟩,λ{m d d'} h1 I _ _ _ k k0 r=>?_,?_⟩
   ·have hmF:m≠F.toNat:=λc=>by rw[c,G] at h1;cases h1;exact absurd I (by decide)
    exact D _ (by omega)
   ·show KD h.s s';have:=KD.set (s:=h.s) (W:=s'.1) (d1:=((3:Int),(v:Int),(0:Int),(0:Int),())) G (λc=>absurd c (by decide)) (λc=>absurd c (by decide));rw[<-C] at this;exact this
  suffices hh:HI (mI gh F (some ((v:Int),3,0))) {h with s:=s',g:=bq h.g v (some ⟨F,[]⟩)} from⟨_,hh,S,λf w a=> .inl (by
   obtain⟨o,l,x⟩:=w;exact A a),λf c=>c.kd S.kd λk k0 r=>by
   obtain⟨z0,d,T,z2, _⟩:=c;have:f.toNat≠F.toNat:=λe=>by rw[e,G] at T;cases T;exact absurd z2 (by decide)
   exact D _ (by omega)⟩
  refine⟨E,λf o x a=>?_,λf o l x k a k0 r b B=>?_,?_,λ{i x} n=>?_,λ{i x} n=>?_,λ{f o y} a=>?_,?_⟩
  ·by_cases c:f=F
   ·subst c;rw[bI] at a;cases a;rfl
   ·rw[aY c] at a;exact H.rt f o x a
  ·by_cases c:f=F
   ·subst c;have b:(aJ s'.1 (16*f+k)).1=true:=b;rw[L k k0 r] at b;cases b
   ·rw[aY c] at a;have b:(aJ s'.1 (16*f+k)).1=true:=b;have B:du (aJ s'.1 (16*f+k))=false:=B;rw[M a k0 r] at b B;exact H.nl a k0 r b B
  ·show s'.1.length=16*s'.2.length;rw[X,C,AY];exact H.sz
  ·rcases N n with ⟨c, _⟩|⟨_,c⟩
   ·omega
   ·exact H.jo c
  ·rcases N n with ⟨c,d⟩|⟨_,c⟩
   ·subst c;subst d;exact bI _ _ _
   ·exact A (H.root c)
  ·by_cases c:f=F
   ·subst c;rw[bI] at a;cases a;exact⟨v, _,rfl,fP _ _ _⟩
   ·rw[aY c] at a;obtain⟨i,x,h1,t⟩:=H.own a;refine⟨i,x,h1,?_⟩;show bq h.g v _ i=some x;unfold bq;rw[ao (λc=>by subst c;rw[z] at t;cases t)];exact t
  ·rw[gD,kS];show HC (nj h) (lP h) s'.2 h.gr;rw[C];refine H.hc.G_ (λ{m d} h1 I=>?_) λ{m d} h1=>?_
   ·rw[AL (λc=>by subst c;rw[K] at h1;cases h1;exact absurd I (by decide))];exact h1
   ·by_cases c:F.toNat=m
    ·subst c;rw[AM Z] at h1;cases h1;exact .inr ⟨.inr (.inl rfl),rfl,by show 0<=(v:Int);omega,by show(v:Int)<=16;omega⟩
    ·rw[AL c] at h1;exact .inl h1
end
theorem ub {ds:List DT} {v:Int} {i:Nat}:i∈gf ds v<-> ∃d,ds[i]? =some d/\d.2.1=v:=by
 unfold gf;rw[Az,DL];constructor
 ·rintro⟨h1,a⟩;have b:ds[i]? =some ds[i]:=B3 h1;rw[b] at a;exact⟨_,b,by simpa using a⟩
 ·rintro⟨d,h1,a⟩;exact⟨(AP.1 h1).1,by rw[h1];simpa using a⟩
theorem Ix (ds:List DT) (v:Int):(gf ds v).Nodup:=List.Pairwise.filter _ FU
theorem zC {v:Int} (hv:1<=v/\v<=16): ∀(l:List Nat) (ds:List DT) (c:Int),l.Nodup->(∀i∈l, ∀d,ds[i]? =some d->d.1=4->d=(4,v,0,0,()))->
 (l.foldl (vk v) (ds,c)).1.length=ds.length/\ ∀n:Nat,((n∈l/\ ∃d,ds[n]? =some d/\d.1=4)->(l.foldl (vk v) (ds,c)).1[n]? =some (5,v,0,0,()))/\(¬ (n∈l/\ ∃d,ds[n]? =some d/\d.1=4)->(l.foldl (vk v) (ds,c)).1[n]? =ds[n]?)
 |[],ds,c, _, _=>⟨rfl,λn=>⟨λh=>(by cases h.1),λ_=>rfl⟩⟩
 |i::l,ds,c,f,m=>by
  rw[CB] at f;rw[List.foldl_cons];by_cases e:(oV ds (i:Int)).1=4
  ·rw[show vk v (ds,c) i=(dL ds (i:Int) (aO 5 v),c+1) from av e];have hi:i<ds.length:=by
    refine Ar λhc=>?_;unfold oV at e;rw[av (.inr (by omega))] at e;exact absurd e (by decide)
   have g:ds[i]? =some ds[i]:=B3 hi;rw[nJ g] at e;have p:=m i Be _ g e;rw[p] at g;rw[(yR (G:=aO 5 v) g (B7 hv)).1];obtain⟨h1,b⟩:=zC hv l (ds.set i (5,v,0,0,())) (c+1) f.2 λj k d o q=>by
    have r:i≠j:=λe=>f.1 (by rw[e];exact k);rw[AL r] at o;exact m j (Bx _ k) d o q
   refine⟨h1.trans (AY ..),λn=>⟨λa=>?_,λa=>?_⟩⟩
   ·by_cases en:i=n
    ·subst en;rw[(b i).2 (λc=>f.1 c.1),AM hi]
    ·refine(b n).1 ⟨?_,?_⟩
     ·rcases CD.1 a.1 with h|h
      ·exact absurd h.symm en
      ·exact h
     ·rw[AL en];exact a.2
   ·have en:i≠n:=λen=>by subst en;exact a ⟨Be, _,g,rfl⟩
    rw[(b n).2 (λc=>a ⟨Bx _ c.1,by rw[AL en] at c;exact c.2⟩),AL en]
  ·rw[show vk v (ds,c) i=(ds,c) from ao e];obtain⟨h1,b⟩:=zC hv l ds c f.2 λj k=>m j (Bx _ k);refine⟨h1,λn=>⟨λa=>(b n).1 ⟨?_,a.2⟩,λa=>(b n).2 λc=>a ⟨Bx _ c.1,c.2⟩⟩⟩;rcases CD.1 a.1 with h|h
   ·subst h;obtain⟨d,s,t⟩:=a.2;rw[nJ s] at e;exact absurd t e
   ·exact h
theorem J4 {s s':WD} (h:s'.1=s.1) (r:Int) (g:Bool) (p:Int):bz s' r g p=bz s r g p:=by
 unfold bz;rw[h]
section
variable {gh:Gh} {h:HS}
theorem HI.gone (H:HI gh h) {v:Nat} {x:GV} (K:h.g v=some x) (P:lP h v=[]) (Q: ∀n,Om h.s.2 n (v:Int)->ee (lP h) (n:Int)=0): ∃dC,HI dC (wo h (v:Int))/\va h (wo h (v:Int)) (λi _=>i=v) (-1)/\(∀(f:Int) (w:Int×Nat×Int),gh f=some w->w.1≠(v:Int)->dC f=some w)/\ ∀f,iJ h.s f->iJ (wo h (v:Int)).s f:=by
 have hd:=H.jo K;have L:1<=(v:Int)/\(v:Int)<=16:=by omega
 obtain⟨R,W,w1,X,F⟩:=H.inv.dropped H.rt (H.root K);have Y:a9 h.g (v:Int)=x.root:=by
  unfold a9;rw[av (b_.2 ⟨by omega,x,K⟩)];show(match h.g v with|some x=>x.root|none=> -1)= _;rw[K]
 have Z:wo h (v:Int)={s:=((cH h.s x.root false).1,(CG (cH h.s x.root false).2 (v:Int)).1),g:=bq h.g v none,gr:=cP h.gr (v:Int),po:=(Po.cH 4 h.po (v:Int)).2}:=by
  unfold wo;rw[Y];rfl
 rw[Z];generalize cH h.s x.root false=s1 at*
 have hD4: ∀{n:Nat} {d:DT},s1.2[n]? =some d->d.1=4->h.s.2[n]? =some d:=λ{n d} h1 r=>by
  by_cases e: ∃l y,gh (n:Int)=some ((v:Int),l,y)
  ·rw[(F n).1 e] at h1;cases h1;exact absurd r (show ¬ (5:Int)=4 by decide)
  ·rw[(F n).2 e] at h1;exact h1
 have M: ∀{n:Nat} {d:DT},h.s.2[n]? =some d->d.1=4->s1.2[n]? =some d:=λ{n d} h1 r=>by
  rw[(F n).2 (λ⟨l,y,G⟩=>?_)]
  ·exact h1
  ·have:=(H.inv.kd G).2.2.1;rw[show((n:Int)).toNat=n from rfl,h1] at this;cases this;exact absurd r (show ¬ (3:Int)=4 by decide)
 have mH: ∀i∈gf s1.2 (v:Int), ∀d,s1.2[i]? =some d->d.1=4->d=(4,(v:Int),0,0,()):=λi hi d h1 r=>by
  obtain⟨d',I,J⟩:=ub.1 hi;rw[h1] at I;cases I;have C:=hD4 h1 r;obtain⟨_,D, _⟩:=H.hc.kd C;have E:=H.hc.refs C;rw[Q i ⟨d,C,r,J⟩] at E;obtain⟨a,b,c,e,u⟩:=d;dsimp only at r D E J;rw[r,D,E,J];rfl
 obtain⟨f1,f2⟩:=zC L (gf s1.2 (v:Int)) s1.2 0 (Ix _ _) mH;have hoT:(CG s1.2 (v:Int)).1=((gf s1.2 (v:Int)).foldl (vk (v:Int)) (s1.2,0)).1:=rfl;rw[<-hoT] at f1 f2;generalize (CG s1.2 (v:Int)).1=j at*
 have B:Inv.fy (KG gh (v:Int)) s1 (s1.1,j):=by
  refine iO R ⟨rfl,f1⟩ (λb hb=>absurd rfl hb) λ{n d d'} h1 t=>?_;by_cases c:n∈gf s1.2 (v:Int)/\ ∃d,s1.2[n]? =some d/\d.1=4
  ·have t:j[n]? =some d':=t;rw[(f2 n).1 c] at t;cases t;obtain⟨_,d0,D,E⟩:=c;rw[h1] at D;cases D;exact .inr ⟨by rw[E];decide,(show ¬ (5:Int)=3 by decide),λc=>absurd c (show ¬ (5:Int)=0 by decide)⟩
  ·have t:j[n]? =some d':=t;rw[(f2 n).2 c,h1] at t;cases t;exact .inl rfl
 have S: ∀{i:Nat} {y:GV},bq h.g v none i=some y->i≠v/\h.g i=some y:=λ{i y} A=>by
  unfold bq at A;by_cases c:i=v
  ·rw[av c] at A;cases A
  ·rw[ao c] at A;exact⟨c,A⟩
 have N: ∀{i:Nat} {y:GV},i≠v->h.g i=some y->bq h.g v none i=some y:=λ{i y} hi A=>by
  unfold bq;rw[ao hi];exact A
 have acT:lP {s:=(s1.1,j),g:=bq h.g v none,gr:=cP h.gr (v:Int),po:=(Po.cH 4 h.po (v:Int)).2}=lP h:=by
  funext i;unfold lP;show(match bq h.g v none i with|some x=>x.tk|none=>[])= _;unfold bq;by_cases c:i=v
  ·rw[av c];subst c;exact P.symm
  ·rw[ao c]<;>rfl
 have gD:nj {s:=(s1.1,j),g:=bq h.g v none,gr:=cP h.gr (v:Int),po:=(Po.cH 4 h.po (v:Int)).2}=λi p=>if i=v then none else nj h i p:=by
  funext i p;by_cases c:i=v
  ·rw[av c];exact gx (h:={s:=(s1.1,j),g:=bq h.g v none,gr:=cP h.gr (v:Int),po:=(Po.cH 4 h.po (v:Int)).2}) (show bq h.g v none i=none by unfold bq;rw[av c]) p
  ·rw[ao c];cases hi:h.g i with
   |none=>
    rw[gx hi];exact gx (h:={s:=(s1.1,j),g:=bq h.g v none,gr:=cP h.gr (v:Int),po:=(Po.cH 4 h.po (v:Int)).2}) (show bq h.g v none i=none by unfold bq;rw[ao c];exact hi) p
   |some z=>
    rw[cQ hi,cQ (h:={s:=(s1.1,j),g:=bq h.g v none,gr:=cP h.gr (v:Int),po:=(Po.cH 4 h.po (v:Int)).2}) (N c hi)];rw[J4 (s:=h.s) (s':=(s1.1,j)) w1]
 have T:va h {s:=(s1.1,j),g:=bq h.g v none,gr:=cP h.gr (v:Int),po:=(Po.cH 4 h.po (v:Int)).2} (λi _=>i=v) (-1):=by
  refine⟨⟨λ{i q} c=>?_⟩,λ{m d d'} _ _ _ _ _ k _ _=>by show dK s1.1 _= _;rw[w1],λ{n d} h1 r=>?_,λ{n d} h1 h5=>?_⟩
  ·cases hi:h.g i with
   |none=>
    rw[fL hi];exact fL (h:={s:=(s1.1,j),g:=bq h.g v none,gr:=cP h.gr (v:Int),po:=(Po.cH 4 h.po (v:Int)).2}) (show bq h.g v none i=none by unfold bq;rw[ao c];exact hi) q
   |some z=>
    rw[bQ hi,bQ (h:={s:=(s1.1,j),g:=bq h.g v none,gr:=cP h.gr (v:Int),po:=(Po.cH 4 h.po (v:Int)).2}) (N c hi)];exact J4 (s:=h.s) (s':=(s1.1,j)) w1 _ _ _
  ·have C:=M h1 r;show∃d',j[n]? =some d'/\ _;by_cases c:n∈gf s1.2 (v:Int)/\ ∃d,s1.2[n]? =some d/\d.1=4
   ·exact⟨_,(f2 n).1 c,.inr rfl⟩
   ·exact⟨d,by rw[(f2 n).2 c];exact C,.inl r⟩
  ·show∃d',j[n]? =some d'/\ _;have C: ∃d',s1.2[n]? =some d'/\d'.1=5:=by
    by_cases e: ∃l y,gh (n:Int)=some ((v:Int),l,y)
    ·exact⟨_,(F n).1 e,rfl⟩
    ·exact⟨d,by rw[(F n).2 e];exact h1,h5⟩
   obtain⟨d',D,E⟩:=C;by_cases c:n∈gf s1.2 (v:Int)/\ ∃d,s1.2[n]? =some d/\d.1=4
   ·exact⟨_,(f2 n).1 c,rfl⟩
   ·exact⟨d',by rw[(f2 n).2 c];exact D,E⟩
 suffices hh:HI (KG gh (v:Int)) {s:=(s1.1,j),g:=bq h.g v none,gr:=cP h.gr (v:Int),po:=(Po.cH 4 h.po (v:Int)).2} from⟨_,hh,T,λf w G hn=>dh.2 ⟨G,hn⟩,λf c=>c.kd T.kd λk _ _=>by show dK s1.1 _= _;rw[w1]⟩
 refine⟨R.beside B,W,Inv.nc B (λf o l y k G k0 I U V=>?_),?_,λ{i y} A=>H.jo (S A).2,λ{i y} A=>?_,λ{f o y} G=>?_,?_⟩
 ·rw[w1] at U V;exact H.nl (dh.1 G).1 k0 I U V
 ·show s1.1.length=16*j.length;rw[w1,f1,X];exact H.sz
 ·obtain⟨h1,t⟩:=S A;exact dh.2 ⟨H.root t,λc=>h1 (B4 c)⟩
 ·obtain⟨h1,t⟩:=dh.1 G;obtain⟨i,y',D,E⟩:=H.own h1;exact⟨i,y',D,N (λc=>t (by show o= _;rw[<-D,c])) E⟩
 ·rw[gD,acT];refine H.hc.gone ⟨by omega,by omega⟩ P (λ{n d} h1 r O=>?_) (λ{n d} h1 r O=>?_) (λ{n d} h1=>?_) (H.hc.gk.drop _)
  ·rw[H.hc.refs h1,Q n ⟨d,h1,r,O⟩];rfl
  ·show j[n]? =some d;rw[(f2 n).2 (λc=>?_)]
   ·exact M h1 r
   ·obtain⟨d',I,J⟩:=ub.1 c.1;rw[M h1 r] at I;cases I;exact O J
  ·have h1:j[n]? =some d:=h1;by_cases c:n∈gf s1.2 (v:Int)/\ ∃d,s1.2[n]? =some d/\d.1=4
   ·rw[(f2 n).1 c] at h1;cases h1;exact .inr ⟨.inr (.inr rfl),rfl,by show 0<=(v:Int);omega,L.2⟩
   ·rw[(f2 n).2 c] at h1;by_cases e: ∃l y,gh (n:Int)=some ((v:Int),l,y)
    ·rw[(F n).1 e] at h1;cases h1;exact .inr ⟨.inr (.inr rfl),rfl,by show 0<=(v:Int);omega,L.2⟩
    ·have C:=h1;rw[(F n).2 e] at h1;exact .inl ⟨h1,λk=>c ⟨ub.2 ⟨d,C,k.2⟩,d,C,k.1⟩⟩
theorem HI.J5 (H:HI gh h) (a:Int): ∃dC,HI dC (tB h a)/\va h (tB h a) (λi _=>i=a.toNat) (-1)/\(∀(f:Int) (w:Int×Nat×Int),gh f=some w->w.1≠a->dC f=some w\/iJ (tB h a).s f)/\ ∀f,iJ h.s f->iJ (tB h a).s f:=by
 unfold tB;by_cases k:aV h.g a=true
 case neg=>rw[ao k];exact⟨gh,H,.refl _ _ _,λ_ _ h _=> .inl h,λ_ h=>h⟩
 rw[av k];by_cases hb:tJ h.s.2 a=true
 case pos=>rw[av hb];exact⟨gh,H,.refl _ _ _,λ_ _ h _=> .inl h,λ_ h=>h⟩
 rw[ao hb];obtain⟨x,l,M,hv,N,O⟩:=bZ k;obtain⟨v,rfl⟩: ∃v:Nat,a=(v:Int):=⟨a.toNat,hv.symm⟩;have l:h.g v=some x:=l;obtain⟨g1,u,⟨x1,y⟩,p,z,A,B,r⟩:=HI.fe (vX h (v:Int)).length H ⟨x,l⟩ rfl
 suffices C: ∀n,Om (_root_.Go.Proofs.YtlcenllcmeebhaaGreat.fe (v:Int) (vX h (v:Int)).length h).s.2 n (v:Int)->ee (lP (_root_.Go.Proofs.YtlcenllcmeebhaaGreat.fe (v:Int) (vX h (v:Int)).length h)) (n:Int)=0 by
  obtain⟨D,E,E2,b,m⟩:=u.gone y p C;exact⟨D,E,B.trans E2,λf w F o=>(r.1 f w F).imp (λe=>b f w e o) (m f),λf c=>m f (r.2 f c)⟩
 intro n o;rcases Cf (ee (lP (_root_.Go.Proofs.YtlcenllcmeebhaaGreat.fe (v:Int) (vX h (v:Int)).length h)) (n:Int)) with e|e
 ·exact e
 ·obtain⟨i,t,hi,j,G⟩:=zB e;have I:i≠v:=λc=>by rw[c,p] at j;cases j
  have J:t∈lP h i:=by
   unfold lP at j ⊢;rw[z i I] at j;exact j
  obtain⟨d,b,m,K⟩:=(A n (v:Int)).1 o;have P:=nV (q:=λt=>t.2.2==(n:Int)) hi J G;have L:=H.hc.refs b;refine absurd ?_ hb;unfold tJ;refine Ee.2 ⟨n,ub.2 ⟨d,b,K⟩,?_⟩;rw[nJ b];have:d.2.2.1>0:=by rw[L];unfold ee;omega
  simpa using this
end
theorem z_ (o pg:Int): ∀(n:Nat) (x:WD×PT),(ri o pg n x).1.1.length=x.1.1.length
 |0,x=>rfl
 |n+1,x=>by
  rw[ri,z_ o pg n];exact yf _ _ _ _ _
theorem Nu (s:WD) (o r pg lv:Int) (e:ET):(rU s o r pg lv e).1.length=s.1.length:=by
 unfold rU;split
 ·show(cZ _ _ _).length= _;rw[cG,z_]
 ·rfl
theorem qF (s:WD) (o r:Int) (gone:Bool) (pg f rt:Int):(jC s o r gone pg f rt).1.length=s.1.length:=by
 unfold jC;split
 ·rfl
 ·split
  ·exact Nu _ _ _ _ _ _
  ·rfl
theorem Nv (s:WD) (o r:Int) (gone:Bool) (pg rt:Int):(rV s o r gone pg rt).1.length=s.1.length:=by
 unfold rV;split
 ·rfl
 split
 ·split
  ·split
   ·rfl
   ·split
    ·show(cZ _ _ _).length= _;rw[cG,t_]
    ·exact t_ _ _ _ _
  ·rfl
 ·rfl
theorem S6 (s:WD) (r:Int) (gone:Bool):(cH s r gone).1=s.1:=by
 unfold cH;split<;>rfl
theorem B9 (v:Int): ∀(n:Nat) (h:HS),(fe v n h).s.1.length=h.s.1.length
 |0,h=>rfl
 |n+1,h=>by
  rw[fe,B9 v n];exact ua _ _ _ _ _
theorem Ww (h:HS) (v k a b c:Int):(run h v k a b c).1.s.1.length=h.s.1.length:=by
 unfold run;split
 ·show(gU h).s.1.length= _;unfold gU;split
  ·rfl
  ·split
   ·exact JS _ _ _
   ·rfl
 ·show(tB h a).s.1.length= _;unfold tB;split
  ·split
   ·rfl
   ·show(cH _ _ _).1.length= _;rw[S6,B9]
  ·rfl
 ·show(jS h v a b).s.1.length= _;unfold jS;split
  ·rfl
  split
  ·rfl
  split
  ·rfl
  split
  ·exact qF _ _ _ _ _ _ _
  ·exact(gN _ _ _ _).trans (qF _ _ _ _ _ _ _)
 ·show(qV h v a).s.1.length= _;unfold qV;split
  ·exact ua _ _ _ _ _
  ·rfl
 ·show(jX h v a b).s.1.length= _;unfold jX;split
  ·rfl
  split
  ·rfl
  split
  ·rfl
  ·exact Nv _ _ _ _ _ _
 ·rfl
 ·show(ko h v a b).s.1.length= _;unfold ko;split
  ·rfl
  ·exact cG _ _ _
 ·show(iF h v a b c).s.1.length= _;unfold iF;split<;>rfl
 ·show(jz h v a b c).s.1.length= _;unfold jz;split
  ·rfl
  split
  ·exact qF _ _ _ _ _ _ _
  ·exact qF _ _ _ _ _ _ _
 ·show(g_ h v a).s.1.length= _;unfold g_;split
  ·rfl
  split
  ·exact ua _ _ _ _ _
  ·rfl
 ·show(f_ h v a).s.1.length= _;unfold f_;split<;>rfl
 ·show(l7 h v a).s.1.length= _;unfold l7;split<;>rfl
 ·show(l8 h v a b).s.1.length= _;unfold l8;split
  ·rfl
  split<;>rfl
 ·show(l6 h v a).s.1.length= _;unfold l6;split<;>rfl
 ·rfl
 ·show(jf h v a).s.1.length= _;unfold jf;split<;>rfl
 ·show(dN h.s _).1.1.length= _;rw[(BU h.s _).1]
theorem P8 (h:HS) (v k a b c:Int):(kZ h v k a b c).s.1.length=h.s.1.length:=by
 unfold kZ;split
 ·exact Ww _ _ _ _ _ _
 ·rfl
theorem CU {h:HS} {v k a b c:Int} (f:iZ h v k a b c=0):(1<=k/\k<=17)/\(vj k=false->aV h.g v=true)/\iE k a b c=true:=by
 unfold iZ at f;split at f
 ·exact absurd f (by decide)
 rename_i d1;split at f
 ·exact absurd f (by decide)
 rename_i j;split at f
 ·exact absurd f (by decide)
 rename_i d;have i:iE k a b c=true:=by
  cases e:iE k a b c with
  |true=>rfl
  |false=>rw[e] at d1;simp at d1
 have d0: ¬ v<0:=λe=>d1 (by simp[e]);refine⟨?_,λe=>?_,i⟩
 ·unfold iE at i;rw[Cp,decide_eq_true_eq] at i;have d1:=i.1;unfold jW at d1;by_cases e:1<=k/\k<=17
  ·exact e
  ·rw[ao e] at d1;exact absurd d1 (by decide)
 ·rw[e] at j;have m:v≠0:=by
   intro l;rw[l] at j;exact absurd rfl j
  have:decide (v>0)=true:=decide_eq_true (by omega);rw[this,Bool.true_and] at d;simpa using d
section
variable {gh:Gh} {h:HS}
theorem HI.run (H:HI gh h) {v k a b c:Int} (i:1<=k/\k<=17) (d:vj k=false->aV h.g v=true) (f:0<=a): ∃dC,HI dC (run h v k a b c).1:=by
 have:k=1\/k=2\/k=3\/k=4\/k=5\/k=6\/k=7\/k=8\/k=9\/k=10\/k=11\/k=12\/k=13\/k=14\/k=15\/k=16\/k=17:=by omega
 rcases this with rfl|rfl|rfl|rfl|rfl|rfl|rfl|rfl|rfl|rfl|rfl|rfl|rfl|rfl|rfl|rfl|rfl
 ·obtain⟨g',e, _⟩:=H.Hd;exact⟨g',e⟩
 ·obtain⟨g',e, _⟩:=H.J5 a;exact⟨g',e⟩
 ·exact H.Ha (d rfl) a b
 ·exact H.Da (d rfl) a
 ·exact H.tL (d rfl) a b
 ·exact⟨gh,H⟩
 ·exact⟨gh,(H.store (d rfl) f b).1⟩
 ·exact⟨gh,H.offer v a b c⟩
 ·exact H.take (d rfl) a b c
 ·exact H.back (d rfl) a
 ·exact⟨gh,H.aas v a⟩
 ·refine⟨gh,?_⟩;show HI gh (l7 h v a);unfold l7;split
  ·exact H.po _
  ·exact H
 ·refine⟨gh,?_⟩;show HI gh (l8 h v a b);unfold l8;split
  ·exact H
  split
  ·exact H.po _
  ·exact H
 ·refine⟨gh,?_⟩;show HI gh (l6 h v a);unfold l6;split
  ·exact H
  ·exact H.po _
 ·exact⟨gh,H.po _⟩
 ·refine⟨gh,?_⟩;show HI gh (jf h v a);unfold jf;split
  ·exact H
  ·exact H.po _
 ·exact⟨gh,H.XQ _⟩
theorem HI.step (H:HI gh h) (v k:Int) {a:Int} (b c:Int) (e:0<=a): ∃dC,HI dC (kZ h v k a b c):=by
 unfold kZ;by_cases d:iZ h v k a b c=0
 ·rw[av d];obtain⟨h1,f, _⟩:=CU d;exact H.run h1 f e
 ·rw[ao d];exact⟨gh,H⟩
end
theorem HI.new {n:Nat} (r:4<=n/\n<=4096):HI noG (h0 n) where
 inv:=MM (F5 _) r.2
 rt:=λf o x h=>(by cases h)
 nl:=λf o l x i h=>(by cases h)
 sz:=by
  show(CF (16*n) (0:Int)).length=16*(CF n zD).length;rw[Ek,Ek]
 jo:=λh=>(by cases h)
 root:=λh=>(by cases h)
 own:=λh=>(by cases h)
 hc:=by
  have b: ∀i p,nj (h0 n) i p=none:=λi p=>rfl;have c: ∀i,lP (h0 n) i=[]:=λi=>rfl;have e: ∀{m:Nat} {d:DT},(CF n zD)[m]? =some d->d=zD:=λ{m d} h=>FX (B1 h);have s: ∀{m:Nat} {x:GT},(CF 16 zG)[m]? =some x->x=zG:=λ{m d} h=>FX (B1 h);have g: ∀q,nC (lP (h0 n)) q=0:=λq=>BZ λi t j=>by rw[c i] at j;cases j
  refine⟨λh=>?_,λ{m d} h=>?_,λ{m d} h k=>?_,λh=>?_,λ{i p a f} h=>?_,λi=>?_,λh=>?_,λ{m d} h=>?_,λ{m x} h=>?_,Ek,oh.new 16⟩
  ·rw[b] at h;cases h
  ·rw[e h];decide
  ·rw[e h] at k;exact absurd k (by decide)
  ·rw[b] at h;cases h
  ·rw[c i] at h;unfold cg at h;simp at h
  ·rw[c i];exact List.nodup_nil
  ·rw[b] at h;cases h
  ·rw[e h];unfold ee;rw[g];rfl
  ·rw[s h];unfold mS;rw[g];rfl
def jA (h h':HS):Prop:=h'.s=h.s/\h'.g=h.g
section
variable {gh:Gh} {h:HS} {v k a b c:Int}
theorem jA.refl:jA h h:=⟨rfl,rfl⟩
theorem S7 (H:HI gh h) (j:1<=k/\k<=17) (f:vj k=false->aV h.g v=true) (d:(run h v k a b c).2.2≠0):jA h (run h v k a b c).1:=by
 have:k=1\/k=2\/k=3\/k=4\/k=5\/k=6\/k=7\/k=8\/k=9\/k=10\/k=11\/k=12\/k=13\/k=14\/k=15\/k=16\/k=17:=by omega
 rcases this with rfl|rfl|rfl|rfl|rfl|rfl|rfl|rfl|rfl|rfl|rfl|rfl|rfl|rfl|rfl|rfl|rfl
 ·have d:pE h≠0:=d;show jA h (gU h);unfold pE at d;unfold gU;cases i:mR h.g with
  |none=>exact .refl
  |some n=>
   rw[i] at d;dsimp only at d ⊢;rw[ao d];exact .refl
 ·have d:Gy h a≠0:=d;show jA h (tB h a);unfold Gy at d;unfold tB;split
  ·rename_i c1;rw[av c1] at d;split
   ·exact .refl
   ·rename_i c2;rw[ao c2] at d;exact absurd rfl d
  ·exact .refl
 ·have d:qX h v a b≠0:=λe=>d (by show(yB h v a b).2=0;unfold yB;rw[av e]);show jA h (jS h v a b);rw[H.P3 (f rfl) d];exact .refl
 ·have d:(CC h v a).2≠0:=d;show jA h (qV h v a);unfold CC at d;unfold qV;split
  ·rename_i c1;rw[av c1] at d;exact absurd rfl d
  ·exact .refl
 ·have d:pC h v a b≠0:=d;show jA h (jX h v a b);rw[HI.JV d];exact .refl
 ·exact .refl
 ·have d:sq h v a≠0:=d;show jA h (ko h v a b);unfold sq at d;unfold ko;split
  ·exact .refl
  rename_i c1;rw[ao c1] at d;refine⟨?_,rfl⟩;show(cZ h.s.1 _ b,h.s.2)=h.s;unfold Cm at d;rw[show cZ h.s.1 (iK h v a 2).1 b=h.s.1 from ao λe=>d (av e)]
 ·show jA h (iF h v a b c);unfold iF;split
  ·exact⟨rfl,rfl⟩
  ·exact .refl
 ·have d:nA h v a b c≠0:=d;show jA h (jz h v a b c);rw[H.P6 (f rfl) d];exact .refl
 ·have d:pD h v a≠0:=d;show jA h (g_ h v a);rw[J1 d];exact .refl
 ·show jA h (f_ h v a);unfold f_;split
  ·exact .refl
  ·exact⟨rfl,rfl⟩
 ·show jA h (l7 h v a);unfold l7;split
  ·exact⟨rfl,rfl⟩
  ·exact .refl
 ·show jA h (l8 h v a b);unfold l8;split
  ·exact .refl
  split
  ·exact⟨rfl,rfl⟩
  ·exact .refl
 ·show jA h (l6 h v a);unfold l6;split
  ·exact .refl
  ·exact⟨rfl,rfl⟩
 ·exact⟨rfl,rfl⟩
 ·show jA h (jf h v a);unfold jf;split
  ·exact .refl
  ·exact⟨rfl,rfl⟩
 ·exact absurd rfl d
theorem HI.fail (H:HI gh h) (e:rN h v k a b c≠0):jA h (kZ h v k a b c)/\yx h v k a b c=0:=by
 unfold rN at e;unfold kZ yx;by_cases d:iZ h v k a b c=0
 ·rw[av d] at e ⊢;rw[av d,ao e];obtain⟨h1,f, _⟩:=CU d;exact⟨S7 H h1 f e,rfl⟩
 ·rw[ao d,ao d];exact⟨.refl,rfl⟩
end
theorem Wx {h:HS} {v:Int} (a:aV h.g v=true) (p:Int):fv h.g h.s v p=js h v.toNat p:=by unfold fv js;rw[av a];cases h.g v.toNat<;>rfl
section
variable {gh dC:Gh} {h:HS}
structure adj (h h':HS) (f o b:Int):Prop where
 g:h'.g=h.g
 gr:h'.gr=h.gr
 po:h'.po=h.po
 pg: ∀{i:Nat} {q:Int},js h' i q=js h i q
 ds:h'.s.2=h.s.2
 ld: ∀q,dK h'.s.1 q=if q=16*f+o then b else dK h.s.1 q
end
section
variable {gh:Gh} {h:HS} {v k a b c:Int} {l:List Int}
theorem He (d:iZ h v k a b c=0):kZ h v k a b c=(run h v k a b c).1/\rN h v k a b c=(run h v k a b c).2.2/\yx h v k a b c=if(run h v k a b c).2.2=0 then(run h v k a b c).2.1 else 0:=by
 unfold kZ rN yx;rw[av d,av d,av d];exact⟨rfl,rfl,rfl⟩
structure WS (h:HS) (v:Int) (l:List Int):Prop where
 hi: ∃gh,HI gh h
 lv:aV h.g 1=true
 tk:lP h 1=[]
 ct:4*12<=cd h.s.2 0+4*l.length
 pg: ∀a∈l, ∃f,js h 1 a=(f,3,0,())/\dK h.s.1 (16*f+3)=aH .u64 v a/\dK h.s.1 (16*f+4)=0
 no: ∀a,(js h 1 a).2.2.1=0->a∈l
end
section
variable {gh:Gh} {h:HS} {v k a b c:Int}
theorem E9 {g:Nat->Option GV} {n i:Nat} {f:GV->GV}:(bq g n (match g n with|some x=>some (f x)|none=>none) i).isSome=(g i).isSome/\(i≠n->bq g n (match g n with|some x=>some (f x)|none=>none) i=g i):=by grind[bq]
theorem ab8 (h:HS) (v a b:Int):(jS h v a b).g=h.g:=by
 unfold jS;split
 ·rfl
 split
 ·rfl
 split
 ·rfl
 split
 ·rfl
 ·rfl
theorem Wy (d:1<=k/\k<=17) (hc:vj k=false) (i:Nat):((run h v k a b c).1.g i).isSome=(h.g i).isSome:=by
 have:k=1\/k=2\/k=3\/k=4\/k=5\/k=6\/k=7\/k=8\/k=9\/k=10\/k=11\/k=12\/k=13\/k=14\/k=15\/k=16\/k=17:=by omega
 rcases this with rfl|rfl|rfl|rfl|rfl|rfl|rfl|rfl|rfl|rfl|rfl|rfl|rfl|rfl|rfl|rfl|rfl
 ·cases hc
 ·cases hc
 ·show((jS h v a b).g i).isSome= _;rw[ab8]
 ·show((qV h v a).g i).isSome= _;unfold qV;split<;>rfl
 ·show((jX h v a b).g i).isSome= _;unfold jX;split
  ·rfl
  split
  ·rfl
  split<;>rfl
 ·rfl
 ·show((ko h v a b).g i).isSome= _;unfold ko;split<;>rfl
 ·show((iF h v a b c).g i).isSome= _;unfold iF;split<;>rfl
 ·show((jz h v a b c).g i).isSome= _;unfold jz;split
  ·rfl
  split
  ·exact E9.1
  ·rfl
 ·show((g_ h v a).g i).isSome= _;unfold g_;split
  ·rfl
  split
  ·exact E9.1
  ·rfl
 ·show((f_ h v a).g i).isSome= _;unfold f_;split<;>rfl
 ·show((l7 h v a).g i).isSome= _;unfold l7;split<;>rfl
 ·show((l8 h v a b).g i).isSome= _;unfold l8;split
  ·rfl
  split<;>rfl
 ·show((l6 h v a).g i).isSome= _;unfold l6;split<;>rfl
 ·rfl
 ·show((jf h v a).g i).isSome= _;unfold jf;split<;>rfl
 ·cases hc
structure LS (n:Nat) (h:HS):Prop where
 hi: ∃gh,HI gh h
 g1: ∃x,h.g 1=some x
 go: ∀i,i≠1->h.g i=none
 ln:h.s.2.length=n
end
abbrev LT:Type:=Int×Int×Int×Int×Unit
abbrev AK:Type:=Int×Int×Int×Unit
abbrev CT:Type:=Int×Int×Int×Int×Unit
abbrev MT:Type:=Int×Int×Int×CT×Int×Int
def CI (t p:Int) (l:LT):Bool:=l.1==t&&l.2.1==p
def CV (ls:List LT) (t p:Int):List LT:=ls.filter λl=> !CI t p l
def Wz (ls:List LT) (t:Int):List LT:=ls.filter λl=> !(l.1==t)
def iX (ls:List LT) (t p:Int):List LT:=if p= -1 then Wz ls t else CV ls t p
def pF (ls:List LT) (sz:Int) (l:LT):List LT:=
 (if ls.any (CI l.1 l.2.1)=true then CV ls l.1 l.2.1 else if(ls.length:Int)=sz then ls.drop 1 else ls)++[l]
def mT (ls:List LT) (t p w:Int):Int×Int:=match ls.find? (CI t p) with
 |none=>(0,4)
 |some l=>if w<0\/w>7\/gL .i64 w l.2.2.2.1≠0 then(0,7) else(l.2.2.1,0)
structure vY where
 now:Int
 pins:List Int
 ws:List (Int×Int)
def AQ (e:vY) (n:Nat):vY:=if e.pins.getD n 0= -1 then{e with pins:=e.pins.set n e.now} else e
def rY (e:vY) (n:Nat):vY:={e with pins:=e.pins.set n (-1)}
def lh (e:vY) (f:Int):vY:=if e.ws.any (λx=>x.1==f)=true then e else{e with ws:=(f,e.now)::e.ws}
def eZ (e:vY):vY:=if e.pins.all (λp=>p== -1||p==e.now)=true then{e with now:=e.now+1} else e
def oS (e:vY):List Int:=mN ((e.ws.filter λx=>decide (x.2+2<=e.now)).map (·.1))
def AR (e:vY):vY:={e with ws:=e.ws.filter λx=> !decide (x.2+2<=e.now)}
structure bP where
 ls:List LT
 ph:Int
 vm:Int
 c:CT
 wk:Int×Int×FT
 fr:Int
 rs:Int×Int
 ak:Int
 fs:List Int
def cq (ls:List LT):bP:=⟨ls,0,0,(0,0,0,0,()),(0,0,(0,0,0,0,())),0,(0,0),0,[]⟩
structure MS where
 h:HS
 ep:vY
 bx:List (List AK)
 op:List Int
 cs:List bP
 kn:List Int
 ms:List MT
 sz:Int
def a7 (k:Int):Int:=if k=6 then 1 else if k=7 then 2 else 0
def lX (h:HS) (x:bP):Bool:=decide (a7 x.c.1>0)&&(aV h.g x.vm&&(iE x.c.1 x.c.2.1 x.c.2.2.1 x.c.2.2.2.1&&decide (x.c.2.1<1048576)))
def pa (s:MS) (n:Nat) (x:bP):Bool:=(B2 s.cs.length).any λi=>match s.cs[i]? with
 |none=>false
 |some y=>decide (i≠n/\x.vm=0)&&((x.c.1==1&&(y.ph==4&&y.c.1==2))||(x.c.1==2&&(decide (y.ph>=2)&&(decide (y.vm>0)&&y.vm==x.c.2.1))))
def gq (s:MS) (f:Int):MS:={s with h:=bD s.h (im s.h.s f),kn:=s.kn.filter (λx=> !(x==f)),ms:=s.ms++[(2,0,f,(0,0,0,0,()),0,0)]}
def cK (s:MS):MS×Nat:=((oS (eZ s.ep)).foldl gq {s with ep:=AR (eZ s.ep)},(oS (eZ s.ep)).length)
def e8 (s:MS) (h':HS):List Int:=((B2 h'.s.2.length).map λ(f:Nat)=>(f:Int)).filter λf=>(oV h'.s.2 f).1==5&& !s.kn.contains f
def cj (s:MS) (n:Nat) (x:bP):MS:={s with cs:=s.cs.set n x}
def cL (bx:List (List AK)) (op:List Int) (n:Nat) (t p:Int):Int×List (List AK)×List Int:=
 if t<1\/t>16\/p< -1\/p>=65536 then(0,bx,op)
 else if(bx.eraseIdx n).any (λq=>q.length==16)=true then(0,bx,op)
 else((op.length:Int)+1,(bx.zipIdx.map λ(q,i)=>if i=n then q else q++[((op.length:Int)+1,t,p,())]),op++[(bx.length:Int) - 1])
abbrev St:Type:=MS×(Int×Int)×Bool
def fI (s:MS) (n:Nat) (x:bP):St:=
 let h':=kZ s.h x.vm x.c.1 x.c.2.1 x.c.2.2.1 x.c.2.2.2.1
 let V:=yx s.h x.vm x.c.1 x.c.2.1 x.c.2.2.1 x.c.2.2.2.1
 let E:=rN s.h x.vm x.c.1 x.c.2.1 x.c.2.2.1 x.c.2.2.2.1
 let fs:=e8 s h'
 let s1:MS:={s with h:=h',kn:=s.kn++fs,ms:=s.ms++[(1,x.vm,0,x.c,V,E)]}
 let x1:bP:={x with rs:=(V,E),fs:=fs}
 if x.c.1=2\/x.c.1=4\/x.c.1=5\/x.c.1=10 then
  if E≠0 then(cj s1 n x1,(V,E),true)
  else
   let t:=if x.c.1=2 then aD .i64 x.c.2.1 else x.vm
   let p:=if x.c.1=2 then -1 else aD .i64 x.c.2.1
   let q:=cL s.bx s.op n t p
   (cj {s1 with bx:=q.2.1,op:=q.2.2} n {x1 with ls:=iX x.ls t p,ak:=q.1,ph:=4},(0,0),false)
 else(cj s1 n x1,(V,E),true)
def dg (s:MS) (n:Nat) (x:bP):St:=
 if lX s.h x=true then
  let e:=AQ s.ep n
  let a:=mT x.ls x.vm (x.c.2.1 / 16) (a7 x.c.1)
  if a.2=0 then(cj {s with ep:=e} n {x with ph:=3,fr:=a.1},(0,0),false)
  else(cj {s with ep:=e} n {x with ph:=2,wk:=lN s.h.s.1 (a9 s.h.g x.vm) (x.c.2.1 / 16) (a7 x.c.1) 0},(0,0),false)
 else if pa s n x=true then(s,(0,9),true)
 else if x.vm=0/\x.c=(17,0,0,0,()) then((cK s).1,(((cK s).2:Nat),0),true)
 else fI s n x
def jY (s:MS) (n:Nat) (x:bP):St:=
 let w:=bA s.h.s.1 (x.c.2.1 / 16) (a7 x.c.1) x.wk
 let x1:bP:={x with wk:=w}
 if w.2.1≠ -1 then(cj s n x1,(0,0),false)
 else if w.2.2.2.2.2.1≠0 then(cj {s with ep:=rY s.ep n} n x1,(0,w.2.2.2.2.2.1),true)
 else(cj s n {x1 with ls:=pF x.ls s.sz (x.vm,x.c.2.1 / 16,w.2.2.1,w.2.2.2.1,()),ph:=3,fr:=w.2.2.1},(0,0),false)
def fA (s:MS) (n:Nat) (x:bP):St:=
 let at_:=16*x.fr+x.c.2.1 % 16
 if x.c.1=7 then({s with h:=bD s.h (cZ s.h.s.1 at_ x.c.2.2.1,s.h.s.2),ep:=rY s.ep n,ms:=s.ms++[(4,0,at_,(0,0,0,0,()),x.c.2.2.1,0)]},(0,0),true)
 else({s with ep:=rY s.ep n,ms:=s.ms++[(3,0,at_,(0,0,0,0,()),dK s.h.s.1 at_,0)]},(dK s.h.s.1 at_,0),true)
def tK (s:MS) (a:Int):Bool:=decide (1<=a/\a<=(s.op.length:Int))&&s.op.getD (a - 1).toNat 0==0
def gV (s:MS) (x:bP):St:=if tK s x.ak=true then({s with ep:=x.fs.foldl lh s.ep},x.rs,true) else(s,(0,0),false)
def bL (s:MS) (n:Nat) (x:bP):St:=
 if x.ph=0 then((cK s).1,(0,0),false)
 else if x.ph=1 then dg s n x
 else if x.ph=2 then jY s n x
 else if x.ph=3 then fA s n x
 else gV s x
def ig (r:St) (n:Nat) (x:bP):St:=if r.2.2=true then(cj r.1 n (cq ((r.1.cs.getD n x).ls)),r.2.1,true) else(r.1,(0,0),false)
def tC (s:MS) (n:Nat):Option (AK×MS):=match s.bx[n]? with
 |some (a::q)=>some (a,{s with bx:=s.bx.set n q,op:=s.op.set (a.1 - 1).toNat (s.op.getD (a.1 - 1).toNat 0 - 1)})
 | _=>none
def i_ (s:MS) (n:Nat) (x:bP):St:=
 if x.ph=3 then ig (bL s n x) n x
 else match tC s n with
  |some (a,s1)=>(cj s1 n {x with ls:=iX x.ls a.2.1 a.2.2.1},(0,0),false)
  |none=>ig (bL s n x) n x
def aX (s:MS) (n:Int):St:=if n<0 then(s,(0,0),false) else match s.cs[n.toNat]? with
 |none=>(s,(0,0),false)
 |some x=>i_ s n.toNat x
def tD (s:MS) (n:Int):Int:=if n<0 then 2 else match s.cs[n.toNat]? with
 |none=>2
 |some x=>if x.ph=0 then 0 else 9
def eB (s:MS) (n vm:Int) (c:CT):MS:=if n<0 then s else match s.cs[n.toNat]? with
 |none=>s
 |some x=>if x.ph=0 then cj s n.toNat {x with ph:=1,vm:=vm,c:=c} else s
def m0 (b a:Nat) (c:Int):MS where
 h:=h0 b
 ep:=⟨0,CF a (-1),[]⟩
 bx:=CF a []
 op:=[]
 cs:=CF a (cq [])
 kn:=[]
 ms:=[]
 sz:=c
section
variable {gh:Gh} {h:HS} {v k a b c:Int}
end
abbrev cJ (a:Int):Prop:=0<=a/\a<18446744073709551616
structure MA (n:Nat) (s:MS):Prop where
 hi: ∃gh,HI gh s.h
 nn:1<=n/\n<=8
 lc:s.cs.length=n
 lb:s.bx.length=n
 lp:s.ep.pins.length=n
 sz:1<=s.sz/\s.sz<=64
 ph: ∀x∈s.cs,0<=x.ph/\x.ph<=4
 ar: ∀x∈s.cs,cJ x.c.2.1/\cJ x.c.2.2.1/\cJ x.c.2.2.2.1
 tl: ∀x∈s.cs,(x.ls.length:Int)<=s.sz
 k5: ∀f∈s.kn, ∃(m:Nat) (d:DT),f=(m:Int)/\s.h.s.2[m]? =some d/\d.1=5
 nk:s.kn.Nodup
 wk: ∀e∈s.ep.ws,e.1∈s.kn
 wn:(s.ep.ws.map (·.1)).Nodup
 fk: ∀x∈s.cs,x.ph=4-> ∀f∈x.fs,f∈s.kn/\f∉s.ep.ws.map (·.1)
 fn: ∀x∈s.cs,x.ph=4->x.fs.Nodup
 fd: ∀{i j:Nat} {x y:bP},s.cs[i]? =some x->s.cs[j]? =some y->i≠j->x.ph=4->y.ph=4-> ∀f∈x.fs,f∉y.fs
 ln: ∀x∈s.cs, ∀l∈x.ls, ∃m:Nat,l.2.2.1=(m:Int)/\m<s.h.s.2.length
 rc: ∀x∈s.cs,x.ph=3-> ∃m:Nat,x.fr=(m:Int)/\m<s.h.s.2.length
 wl: ∀x∈s.cs,x.ph=2->0<=x.wk.2.1/\x.wk.2.1<=3
 ak: ∀q∈s.bx, ∀a∈q,1<=a.1/\a.1<=(s.op.length:Int)
 bl: ∀q∈s.bx,q.length<=16
def mtA (a:AK) (t p:Int):Prop:=a.2.1=t/\(a.2.2.1= -1\/a.2.2.1=p)
def rZ (s:MS) (i:Nat) (f:Int):Prop:=(∃(z:Nat) (y:bP),s.cs[z]? =some y/\y.ph=4/\f∈y.fs)\/ ∃e∈s.ep.ws,e.1=f/\s.ep.pins.getD i 0<=e.2
def D4 (ta:Int->Bool) (s:MS) (i:Nat) (l:LT):Prop:=
 (1<=l.1/\l.1<=16/\0<=l.2.1/\l.2.1<65536)/\ ∃(m:Nat) (d:DT),l.2.2.1=(m:Int)/\s.h.s.2[m]? =some d/\
  ((d.1=4/\js s.h l.1.toNat l.2.1=(l.2.2.1,l.2.2.2.1,0,()))\/
    ((d.1=4\/d.1=5)/\ ∃q a,s.bx[i]? =some q/\a∈q/\mtA a l.1 l.2.1/\
      (d.1=5->ta l.2.2.1=false/\ ∃(z:Nat) (y:bP), ∃b∈q,s.cs[z]? =some y/\y.ph=4/\l.2.2.1∈y.fs/\b.1=y.ak/\a.1<=b.1)))
def D5 (gh:Gh) (ta:Int->Bool) (s:MS) (i:Nat) (x:bP):Prop:=
 ∃l:Nat,x.wk.2.1=(l:Int)/\l<=3/\x.wk.2.2=(0,0,0,0,())/\(gh x.wk.1=some (x.vm,l,px (l+1) (x.c.2.1 / 16))\/(iJ s.h.s x.wk.1/\rZ s i x.wk.1/\ta x.wk.1=true))
def AS (ta:Int->Bool) (s:MS) (i:Nat) (f:Int):Prop:=
 ∃(m:Nat) (d:DT),f=(m:Int)/\s.h.s.2[m]? =some d/\(d.1=4\/(d.1=5/\rZ s i f/\ta f=false))
def AT (y:bP):Int:=if y.c.1=2 then y.c.2.1 else y.vm
def AU (y:bP):Int:=if y.c.1=2 then -1 else y.c.2.1
def ju (q:List AK) (id:Int):Bool:=q.any λa=>a.1==id
structure MI (gh:Gh) (ta:Int->Bool) (n:Nat) (s:MS):Prop where
 hi:HI gh s.h
 nn:1<=n/\n<=8
 lc:s.cs.length=n
 lb:s.bx.length=n
 lp:s.ep.pins.length=n
 sz:1<=s.sz/\s.sz<=64
 ph: ∀x∈s.cs,0<=x.ph/\x.ph<=4
 ar: ∀x∈s.cs,cJ x.c.2.1/\cJ x.c.2.2.1/\cJ x.c.2.2.2.1
 tl: ∀x∈s.cs,(x.ls.length:Int)<=s.sz
 k5: ∀f∈s.kn, ∃(m:Nat) (d:DT),f=(m:Int)/\s.h.s.2[m]? =some d/\d.1=5
 nk:s.kn.Nodup
 wk: ∀e∈s.ep.ws,e.1∈s.kn/\0<=e.2/\e.2<=s.ep.now
 wn:(s.ep.ws.map (·.1)).Nodup
 fk: ∀x∈s.cs,x.ph=4-> ∀f∈x.fs,f∈s.kn/\f∉s.ep.ws.map (·.1)
 fn: ∀x∈s.cs,x.ph=4->x.fs.Nodup
 fd: ∀{i j:Nat} {x y:bP},s.cs[i]? =some x->s.cs[j]? =some y->i≠j->x.ph=4->y.ph=4-> ∀f∈x.fs,f∉y.fs
 kd: ∀{m:Nat} {d:DT},s.h.s.2[m]? =some d->d.1=5->(m:Int)∈s.kn/\((m:Int)∈s.ep.ws.map (·.1)\/ ∃x∈s.cs,x.ph=4/\(m:Int)∈x.fs)
 nw:0<=s.ep.now
 pn: ∀{i:Nat} {x:bP},s.cs[i]? =some x->if x.ph=2\/x.ph=3 then 0<=s.ep.pins.getD i 0/\s.ep.pins.getD i 0<=s.ep.now/\s.ep.now<=s.ep.pins.getD i 0+1 else s.ep.pins.getD i 0= -1
 ln: ∀{i:Nat} {x:bP},s.cs[i]? =some x-> ∀l∈x.ls,D4 ta s i l
 ac: ∀x∈s.cs,x.ph=2->aV s.h.g x.vm=true/\x.c.2.1<1048576/\(x.c.1=6\/x.c.1=7)
 wl: ∀{i:Nat} {x:bP},s.cs[i]? =some x->x.ph=2->D5 gh ta s i x
 rc: ∀{i:Nat} {x:bP},s.cs[i]? =some x->x.ph=3->AS ta s i x.fr/\(x.c.1=6\/x.c.1=7)
 wt: ∀x∈s.cs,x.ph=4->1<=x.ak/\x.ak<=(s.op.length:Int)/\1<=AT x/\AT x<=16/\ -1<=AU x/\AU x<65536
 wu: ∀{i j:Nat} {x y:bP},s.cs[i]? =some x->s.cs[j]? =some y->i≠j->x.ph=4->y.ph=4->x.ak≠y.ak
 aq: ∀{i:Nat} {q:List AK},s.bx[i]? =some q->q.Pairwise (λa b=>a.1<b.1)/\ ∀a∈q, ∃(j:Nat) (y:bP),j≠i/\s.cs[j]? =some y/\y.ph=4/\a=(y.ak,AT y,AU y,())
 oc: ∀id:Nat,id<s.op.length->s.op.getD id 0=(s.bx.countP (λq=>ju q ((id:Int)+1)):Nat)
section
variable {gh:Gh} {ta:Int->Bool} {n:Nat} {s:MS}
theorem aB {α:Type} {l:List α} {i:Nat} {x:α} (h:l[i]? =some x):x∈l:=B1 h
theorem j7 {α:Type} {l:List α} {i j:Nat} {x y:α} (h:(l.set i x)[j]? =some y):(j=i/\y=x)\/(j≠i/\l[j]? =some y):=by
 by_cases e:i=j
 ·subst e;have a:=(AP.1 h).1;rw[AY] at a;rw[AM a] at h;cases h;exact .inl ⟨rfl,rfl⟩
 ·rw[AL e] at h;exact .inr ⟨λc=>e c.symm,h⟩
theorem iu {α:Type} {l:List α} {i:Nat} {x y:α} (h:y∈l.set i x):y=x\/y∈l:=by
 obtain⟨j,a⟩:=DD h;rcases j7 a with ⟨_,e⟩|⟨_,e⟩
 ·exact .inl e
 ·exact .inr (B1 e)
end
section
variable {gh:Gh} {ta:Int->Bool} {n:Nat} {s s':MS} {i:Nat}
theorem rZ.dy {f:Int} (h:rZ s i f) (c: ∀{z:Nat} {y:bP},s.cs[z]? =some y->y.ph=4->s'.cs[z]? =some y) (d:s'.ep.ws=s.ep.ws) (g:s'.ep.pins.getD i 0=s.ep.pins.getD i 0):rZ s' i f:=by
 rcases h with ⟨z,y,h1,a,b⟩|⟨e,h1,a,b⟩
 ·exact .inl ⟨z,y,c h1 a,a,b⟩
 ·exact .inr ⟨e,by rw[d];exact h1,a,by rw[g];exact b⟩
theorem D4.dy {l:LT} (h:D4 ta s i l) (f:s'.h=s.h) (hb:s'.bx=s.bx) (j: ∀{z:Nat} {y:bP},s.cs[z]? =some y->y.ph=4->s'.cs[z]? =some y):D4 ta s' i l:=by
 obtain⟨h0,m,d,h1,k,c⟩:=h;refine⟨h0,m,d,h1,by rw[f];exact k,?_⟩;rw[f,hb];rcases c with c|⟨c,q,a,n,o,p,r⟩
 ·exact .inl c
 ·refine .inr ⟨c,q,a,n,o,p,λe=>?_⟩;obtain⟨t,z,y,b,u,g1,g,v,w,x⟩:=r e;exact⟨t,z,y,b,u,j g1 g,g,v,w,x⟩
theorem D5.dy {x:bP} (h:D5 gh ta s i x) (a:s'.h=s.h) (b: ∀{z:Nat} {y:bP},s.cs[z]? =some y->y.ph=4->s'.cs[z]? =some y) (d:s'.ep.ws=s.ep.ws) (e:s'.ep.pins.getD i 0=s.ep.pins.getD i 0):D5 gh ta s' i x:=by
 obtain⟨l,h1,f,g,j⟩:=h;refine⟨l,h1,f,g,?_⟩;rw[a];exact j.imp id λc=>⟨c.1,c.2.1.dy b d e,c.2.2⟩
theorem AS.dy {f:Int} (h:AS ta s i f) (a:s'.h=s.h) (b: ∀{z:Nat} {y:bP},s.cs[z]? =some y->y.ph=4->s'.cs[z]? =some y) (e:s'.ep.ws=s.ep.ws) (g:s'.ep.pins.getD i 0=s.ep.pins.getD i 0):AS ta s' i f:=by
 obtain⟨m,d,h1,j,k⟩:=h;refine⟨m,d,h1,by rw[a];exact j,?_⟩;exact k.imp id λc=>⟨c.1,c.2.1.dy b e g,c.2.2⟩
theorem MI.Dz (M:MI gh ta n s) {x x':bP} (L:s.cs[i]? =some x) (p:Int) (ms:List MT) (R:x.ph≠4) (w:x'.ph≠4) (k:s'={s with cs:=s.cs.set i x',ep:={s.ep with pins:=s.ep.pins.set i p},ms:=ms})
 (S:0<=x'.ph/\x'.ph<=4) (T:cJ x'.c.2.1/\cJ x'.c.2.2.1/\cJ x'.c.2.2.2.1) (U:(x'.ls.length:Int)<=s.sz)
 (V:if x'.ph=2\/x'.ph=3 then 0<=p/\p<=s.ep.now/\s.ep.now<=p+1 else p= -1) (W: ∀l∈x'.ls,D4 ta s i l) (X:x'.ph=2->aV s.h.g x'.vm=true/\x'.c.2.1<1048576/\(x'.c.1=6\/x'.c.1=7))
 (Y:x'.ph=2->D5 gh ta s' i x') (Z:x'.ph=3->AS ta s' i x'.fr/\(x'.c.1=6\/x'.c.1=7)):MI gh ta n s':=by
 have lY:i<s.cs.length:=(AP.1 L).1;have C: ∀{z:Nat} {y:bP},s.cs[z]? =some y->y.ph=4->s'.cs[z]? =some y:=λ{z y} h1 o=>by
  have e:i≠z:=λe=>by subst e;rw[L] at h1;cases h1;exact R o
  rw[k];show(s.cs.set i x')[z]? = _;rw[AL e];exact h1
 have t: ∀{z:Nat} {y:bP},s'.cs[z]? =some y->(z=i/\y=x')\/(z≠i/\s.cs[z]? =some y):=λh=>by
  rw[k] at h;exact j7 h
 have A: ∀{y:bP},y∈s'.cs->y=x'\/y∈s.cs:=λh=>by
  rw[k] at h;exact iu h
 have u:s'.h=s.h:=by rw[k]
 have hb:s'.bx=s.bx:=by rw[k]
 have N:s'.op=s.op:=by rw[k]
 have E:s'.kn=s.kn:=by rw[k]
 have D:s'.ep.ws=s.ep.ws:=by rw[k]
 have F:s'.ep.now=s.ep.now:=by rw[k]
 have O:s'.sz=s.sz:=by rw[k]
 have G:s'.ep.pins=s.ep.pins.set i p:=by rw[k]
 have hpi:s'.ep.pins.getD i 0=p:=by
  rw[G,Am,AM (by rw[M.lp, <-M.lc];exact lY)];rfl
 have H: ∀{j:Nat},j≠i->s'.ep.pins.getD j 0=s.ep.pins.getD j 0:=λ{j} r=>by
  rw[G,Am,AL (λe=>r e.symm),Am]
 refine⟨by rw[u];exact M.hi,M.nn,by rw[k];show(s.cs.set i x').length=n;rw[AY];exact M.lc,by rw[hb];exact M.lb,by rw[G,AY];exact M.lp,by rw[O];exact M.sz,λy f=>?_,λy f=>?_,λy f=>?_,
  by rw[E,u];exact M.k5,by rw[E];exact M.nk,by rw[D,E,F];exact M.wk,by rw[D];exact M.wn,λy f e=>?_,λy f e=>?_,λ{a b y z} h1 o I v B=>?_,λ{m d} h1 o=>?_,by rw[F];exact M.nw,λ{j y} h1=>?_,λ{j y} h1 l P=>?_,λy f e=>?_,λ{j y} h1 e=>?_,λ{j y} h1 e=>?_,λy f e=>?_,λ{a b y z} h1 o I v B=>?_,λ{j q} h1=>?_,by rw[N,hb];exact M.oc⟩
 ·rcases A f with rfl|f
  ·exact S
  ·exact M.ph y f
 ·rcases A f with rfl|f
  ·exact T
  ·exact M.ar y f
 ·rw[O];rcases A f with rfl|f
  ·exact U
  ·exact M.tl y f
 ·rcases A f with rfl|f
  ·exact absurd e w
  ·rw[E,D];exact M.fk y f e
 ·rcases A f with rfl|f
  ·exact absurd e w
  ·exact M.fn y f e
 ·rcases t h1 with ⟨_,rfl⟩|⟨_,h1⟩
  ·exact absurd v w
  ·rcases t o with ⟨_,rfl⟩|⟨_,o⟩
   ·exact absurd B w
   ·exact M.fd h1 o I v B
 ·rw[u] at h1;obtain⟨J,K⟩:=M.kd h1 o;rw[E,D];refine⟨J,K.imp id λ⟨y,f,v,B⟩=>?_⟩;obtain⟨j,r⟩:=DD f;exact⟨y,aB (C r v),v,B⟩
 ·rw[F];rcases t h1 with ⟨rfl,rfl⟩|⟨r,h1⟩
  ·rw[hpi];exact V
  ·rw[H r];exact M.pn h1
 ·rcases t h1 with ⟨rfl,rfl⟩|⟨r,h1⟩
  ·exact(W l P).dy u hb C
  ·exact(M.ln h1 l P).dy u hb C
 ·rw[u];rcases A f with rfl|f
  ·exact X e
  ·exact M.ac y f e
 ·rcases t h1 with ⟨rfl,rfl⟩|⟨r,h1⟩
  ·exact Y e
  ·exact(M.wl h1 e).dy u C D (H r)
 ·rcases t h1 with ⟨rfl,rfl⟩|⟨r,h1⟩
  ·exact Z e
  ·exact⟨(M.rc h1 e).1.dy u C D (H r),(M.rc h1 e).2⟩
 ·rw[N];rcases A f with rfl|f
  ·exact absurd e w
  ·exact M.wt y f e
 ·rcases t h1 with ⟨_,rfl⟩|⟨_,h1⟩
  ·exact absurd v w
  ·rcases t o with ⟨_,rfl⟩|⟨_,o⟩
   ·exact absurd B w
   ·exact M.wu h1 o I v B
 ·rw[hb] at h1;obtain⟨J,K⟩:=M.aq h1;refine⟨J,λa ha=>?_⟩;obtain⟨j2,y,g1,g2,Q,g4⟩:=K a ha;exact⟨j2,y,g1,C g2 Q,Q,g4⟩
theorem uc (M:MI gh ta n s) {x:bP} (b:s.cs[i]? =some x):s.ep.pins.set i (s.ep.pins.getD i 0)=s.ep.pins:=by
 have a:i<s.ep.pins.length:=by rw[M.lp, <-M.lc];exact(AP.1 b).1
 refine Ea λj=>?_;rw[FY];by_cases e:i=j
 ·subst e;rw[av rfl,av a,Am,B3 a];rfl
 ·rw[ao e]
theorem MI.ask (M:MI gh ta n s) (k vm:Int) {c:CT} (hc:cJ c.2.1/\cJ c.2.2.1/\cJ c.2.2.2.1):MI gh ta n (eB s k vm c):=by
 unfold eB;split
 ·exact M
 cases a:s.cs[k.toNat]? with
 |none=>exact M
 |some x=>
  dsimp only;split
  ·rename_i h0;have b:=M.pn a;rw[h0,ao (by decide)] at b;refine M.Dz (x':={x with ph:=1,vm:=vm,c:=c}) a (s.ep.pins.getD k.toNat 0) s.ms (by rw[h0];decide) (show ¬ (1:Int)=4 by decide) ?_ (show 0<=(1:Int)/\(1:Int)<=4 by decide) hc (M.tl x (aB a)) ?_ (λl d=>M.ln a l d) (λe=>absurd e (show ¬ (1:Int)=2 by decide)) (λe=>absurd e (show ¬ (1:Int)=2 by decide)) (λe=>absurd e (show ¬ (1:Int)=3 by decide))
   ·rw[uc M a];rfl
   ·show if(1:Int)=2\/(1:Int)=3 then _ else _;rw[ao (by decide)];exact b
  ·exact M
theorem MI.idle (M:MI gh ta n s) {x:bP} (a:s.cs[i]? =some x) (b:x.ph≠4) {ls:List LT} (c: ∀l∈ls,D4 ta s i l) (d:(ls.length:Int)<=s.sz) (ms:List MT):MI gh ta n {s with cs:=s.cs.set i (cq ls),ep:=rY s.ep i,ms:=ms}:=
 M.Dz (x':=cq ls) a (-1) ms b (show ¬ (0:Int)=4 by decide) rfl (show 0<=(0:Int)/\(0:Int)<=4 by decide) (show cJ 0/\cJ 0/\cJ 0 by decide) d (by show if(0:Int)=2\/(0:Int)=3 then _ else _;rw[ao (by decide)]) c (λe=>absurd e (show ¬ (0:Int)=2 by decide)) (λe=>absurd e (show ¬ (0:Int)=2 by decide)) (λe=>absurd e (show ¬ (0:Int)=3 by decide))
end
section
variable {gh:Gh} {ta:Int->Bool} {n:Nat} {s s':MS} {i:Nat}
def WtK (s s':MS):Prop:= ∀(z:Nat) (y:bP),s.cs[z]? =some y->y.ph=4-> ∃a,s'.cs[z]? =some a/\a.ph=4/\a.fs=y.fs/\a.ak=y.ak/\a.vm=y.vm/\a.c=y.c
theorem rZ.Bf {f:Int} (h:rZ s i f) (c:WtK s s') (d:s'.ep.ws=s.ep.ws) (g:s'.ep.pins.getD i 0=s.ep.pins.getD i 0):rZ s' i f:=by
 rcases h with ⟨z,y,h1,a,b⟩|⟨e,h1,a,b⟩
 ·obtain⟨j,g1,k,l, _⟩:=c z y h1 a;exact .inl ⟨z,j,g1,k,by rw[l];exact b⟩
 ·exact .inr ⟨e,by rw[d];exact h1,a,by rw[g];exact b⟩
theorem D5.Bf {x:bP} (h:D5 gh ta s i x) (a:s'.h=s.h) (b:WtK s s') (d:s'.ep.ws=s.ep.ws) (e:s'.ep.pins.getD i 0=s.ep.pins.getD i 0):D5 gh ta s' i x:=by
 obtain⟨l,h1,f,g,j⟩:=h;refine⟨l,h1,f,g,?_⟩;rw[a];exact j.imp id λc=>⟨c.1,c.2.1.Bf b d e,c.2.2⟩
theorem AS.Bf {f:Int} (h:AS ta s i f) (a:s'.h=s.h) (b:WtK s s') (e:s'.ep.ws=s.ep.ws) (g:s'.ep.pins.getD i 0=s.ep.pins.getD i 0):AS ta s' i f:=by
 obtain⟨m,d,h1,j,k⟩:=h;refine⟨m,d,h1,by rw[a];exact j,?_⟩;exact k.imp id λc=>⟨c.1,c.2.1.Bf b e g,c.2.2⟩
theorem ud {ls:List LT} {t p:Int} {l:LT} (h:l∈iX ls t p):l∈ls/\ ¬ (t=l.1/\(p= -1\/p=l.2.1)):=by
 unfold iX at h;split at h
 ·rename_i e;obtain⟨h1,a⟩:=Az.1 h;refine⟨h1,λc=>?_⟩;simp at a;exact a c.1.symm
 ·rename_i e;obtain⟨h1,a⟩:=Az.1 h;refine⟨h1,λc=>?_⟩;rcases c.2 with c2|c2
  ·exact e c2
  ·simp[CI] at a;exact a.elim (λf=>f c.1.symm) (λf=>f c2.symm)
theorem E_ (ls:List LT) (t p:Int):(iX ls t p).length<=ls.length:=by
 unfold iX;split<;>exact List.length_filter_le ..
theorem vI (a:AK) (q:List AK) (id:Int):ju (a::q) id=(a.1==id||ju q id):=rfl
theorem MI.pop (M:MI gh ta n s) {x:bP} (X:s.cs[i]? =some x) {a:AK} {q:List AK} (E:s.bx[i]? =some (a::q)):
 MI gh ta n {s with bx:=s.bx.set i q,op:=s.op.set (a.1 - 1).toNat (s.op.getD (a.1 - 1).toNat 0 - 1),cs:=s.cs.set i {x with ls:=iX x.ls a.2.1 a.2.2.1}}:=by
 have lY:i<s.cs.length:=(AP.1 X).1;have hib:i<s.bx.length:=by rw[M.lb, <-M.lc];exact lY
 generalize F:({s with bx:=s.bx.set i q,op:=s.op.set (a.1 - 1).toNat (s.op.getD (a.1 - 1).toNat 0 - 1),cs:=s.cs.set i {x with ls:=iX x.ls a.2.1 a.2.2.1}}:MS)=s';have v:s'.h=s.h:=by rw[<-F]
 have p:s'.ep=s.ep:=by rw[<-F]
 have O:s'.kn=s.kn:=by rw[<-F]
 have h_:s'.sz=s.sz:=by rw[<-F]
 have hb:s'.bx=s.bx.set i q:=by rw[<-F]
 have ho:s'.op=s.op.set (a.1 - 1).toNat (s.op.getD (a.1 - 1).toNat 0 - 1):=by rw[<-F]
 have fh:s'.cs=s.cs.set i {x with ls:=iX x.ls a.2.1 a.2.2.1}:=by rw[<-F]
 have Yz:s'.op.length=s.op.length:=by rw[ho,AY]
 have wx:s'.cs[i]? =some {x with ls:=iX x.ls a.2.1 a.2.2.1}:=by rw[fh,AM lY]
 have K:WtK s s':=λz y h1 A=>by
  by_cases e:i=z
  ·subst e;rw[X] at h1;cases h1;exact⟨_,wx,A,rfl,rfl,rfl,rfl⟩
  ·exact⟨y,by rw[fh,AL e];exact h1,A,rfl,rfl,rfl,rfl⟩
 have w: ∀{z:Nat} {y:bP},s'.cs[z]? =some y-> ∃f,s.cs[z]? =some f/\y.ph=f.ph/\y.vm=f.vm/\y.c=f.c/\y.wk=f.wk/\y.fr=f.fr/\y.ak=f.ak/\y.fs=f.fs/\(z≠i->y=f)/\y.ls.length<=f.ls.length:=λ{z y} h=>by
  rw[fh] at h;rcases j7 h with ⟨rfl,rfl⟩|⟨e,h⟩
  ·exact⟨x,X,rfl,rfl,rfl,rfl,rfl,rfl,rfl,λc=>absurd rfl c,E_ ..⟩
  ·exact⟨y,h,rfl,rfl,rfl,rfl,rfl,rfl,rfl,λ_=>rfl,F5 _⟩
 have G: ∀{y:bP},y∈s'.cs-> ∃f∈s.cs,y.ph=f.ph/\y.vm=f.vm/\y.c=f.c/\y.wk=f.wk/\y.fr=f.fr/\y.ak=f.ak/\y.fs=f.fs/\y.ls.length<=f.ls.length:=λh=>by
  obtain⟨z,hz⟩:=DD h;obtain⟨f,g1,B,t,L,Y,P,H,g8, _,g9⟩:=w hz;exact⟨f,aB g1,B,t,L,Y,P,H,g8,g9⟩
 obtain⟨hpw,vf⟩:=M.aq E;obtain⟨ja,ya,hja,hya,hpa,hea⟩:=vf a Be;obtain⟨ha1,Ub, _⟩:=M.wt ya (aB hya) hpa;have ea1:a.1=ya.ak:=by rw[hea]
 have IV: ∀b∈q,a.1<b.1:=(List.pairwise_cons.1 hpw).1;refine⟨by rw[v];exact M.hi,M.nn,by rw[fh,AY];exact M.lc,by rw[hb,AY];exact M.lb,by rw[p];exact M.lp,by rw[h_];exact M.sz,λy k=>?_,λy k=>?_,λy k=>?_,
  by rw[O,v];exact M.k5,by rw[O];exact M.nk,by rw[p,O];exact M.wk,by rw[p];exact M.wn,λy k e=>?_,λy k e=>?_,λ{a b y z} h1 A Z Q R=>?_,λ{m d} h1 A=>?_,by rw[p];exact M.nw,λ{j y} h1=>?_,λ{j y} h1 l hl=>?_,λy k e=>?_,λ{j y} h1 e=>?_,λ{j y} h1 e=>?_,λy k e=>?_,λ{a b y z} h1 A Z Q R=>?_,λ{j r} h1=>?_,λid Ko=>?_⟩
 ·obtain⟨f,o,g1, _⟩:=G k;rw[g1];exact M.ph f o
 ·obtain⟨f,o, _, _,t, _⟩:=G k;rw[t];exact M.ar f o
 ·obtain⟨f,o, _, _, _, _, _, _, _,g⟩:=G k;have:=M.tl f o;rw[h_];omega
 ·obtain⟨f,o,g1, _, _, _, _, _,H, _⟩:=G k;rw[H,O,p];exact M.fk f o (by rw[<-g1];exact e)
 ·obtain⟨f,o,g1, _, _, _, _, _,H, _⟩:=G k;rw[H];exact M.fn f o (by rw[<-g1];exact e)
 ·obtain⟨f,u,g1, _, _, _, _, _,H, _⟩:=w h1;obtain⟨z0,k0,C, _, _, _, _, _,k7, _⟩:=w A;rw[H,k7];exact M.fd u k0 Z (by rw[<-g1];exact Q) (by rw[<-C];exact R)
 ·rw[v] at h1;obtain⟨C,k2⟩:=M.kd h1 A;rw[O,p];refine⟨C,k2.imp id λ⟨y,k,Q,R⟩=>?_⟩;obtain⟨j,hj⟩:=DD k;obtain⟨I,p1,p2,p3, _⟩:=K j y hj Q;exact⟨I,aB p1,p2,by rw[p3];exact R⟩
 ·obtain⟨f,u,g1, _⟩:=w h1;rw[p,g1];exact M.pn u
 ·
  obtain⟨f,u, _, _, _, _, _, _, _,gj, _⟩:=w h1;by_cases e:j=i
  ·subst e;rw[wx] at h1;cases h1;obtain⟨l1,l2⟩:=ud hl;obtain⟨J,m,d,S,T,U⟩:=M.ln X l l1;refine⟨J,m,d,S,by rw[v];exact T,?_⟩;rw[v];refine U.imp id λ⟨V,qq,b,N,D,W,r8⟩=>⟨V,q,b,by rw[hb,AM hib],?_,W,λe5=>?_⟩
   ·rw[E] at N;cases N;rcases CD.1 D with rfl|D
    ·exact absurd W l2
    ·exact D
   ·obtain⟨r9,z,y,c,c0,c1,c2,c3,c4,c5⟩:=r8 e5;obtain⟨I,p1,p2,p3,p4, _⟩:=K z y c1 c2;rw[E] at N;cases N;have hbq:b∈q:=by
     rcases CD.1 D with rfl|D
     ·exact absurd W l2
     ·exact D
    have hcq:c∈q:=by
     rcases CD.1 c0 with rfl|c0
     ·have:=IV b hbq;omega
     ·exact c0
    exact⟨r9,z,I,c,hcq,p1,p2,by rw[p3];exact c3,by rw[p4];exact c4,c5⟩
  ·rw[gj e] at hl;obtain⟨J,m,d,S,T,U⟩:=M.ln u l hl;refine⟨J,m,d,S,by rw[v];exact T,?_⟩;rw[v];refine U.imp id λ⟨V,qq,b,N,D,W,r8⟩=>⟨V,qq,b,by rw[hb,AL (λc=>e c.symm)];exact N,D,W,λe5=>?_⟩;obtain⟨r9,z,y,c,c0,c1,c2,c3,c4,c5⟩:=r8 e5;obtain⟨I,p1,p2,p3,p4, _⟩:=K z y c1 c2;exact⟨r9,z,I,c,c0,p1,p2,by rw[p3];exact c3,by rw[p4];exact c4,c5⟩
 ·obtain⟨f,o,g1,B,t, _⟩:=G k;rw[v,B,t];exact M.ac f o (by rw[<-g1];exact e)
 ·obtain⟨f,u,g1,B,t,L, _⟩:=w h1;obtain⟨l,S,T,U,V⟩:=(M.wl u (by rw[<-g1];exact e)).Bf v K (by rw[p]) (by rw[p]);exact⟨l,by rw[L];exact S,T,by rw[L];exact U,by rw[L,B,t];exact V⟩
 ·obtain⟨f,u,g1,B,t,L,Y, _⟩:=w h1;have:=M.rc u (by rw[<-g1];exact e);rw[Y,t];exact⟨this.1.Bf v K (by rw[p]) (by rw[p]),this.2⟩
 ·obtain⟨f,o,g1,B,t, _, _,P, _⟩:=G k;have:=M.wt f o (by rw[<-g1];exact e);unfold AT AU at this ⊢;rw[Yz,B,t,P];exact this
 ·obtain⟨f,u,g1, _, _, _, _,P, _⟩:=w h1;obtain⟨z0,k0,C, _, _, _, _,k6, _⟩:=w A;rw[P,k6];exact M.wu u k0 Z (by rw[<-g1];exact Q) (by rw[<-C];exact R)
 ·
  have sub: ∃J,s.bx[j]? =some J/\r.Sublist J:=by
   rw[hb] at h1;rcases j7 h1 with ⟨rfl,rfl⟩|⟨_,h1⟩
   ·exact⟨_,E,List.sublist_cons_self ..⟩
   ·exact⟨r,h1,List.Sublist.refl _⟩
  obtain⟨J,k0,C⟩:=sub;obtain⟨k2,k3⟩:=M.aq k0;refine⟨k2.sublist C,λb hb=>?_⟩;obtain⟨j2,y,p1,p2,p3,p4⟩:=k3 b (C.subset hb);obtain⟨I,q1,q2,q3,q4,q5,q6⟩:=K j2 y p2 p3;refine⟨j2,I,p1,q1,q2,?_⟩;unfold AT AU at p4 ⊢;rw[q4,q5,q6];exact p4
 ·
  rw[Yz] at Ko;have hoc:=M.oc id Ko;have hbi:s.bx[i]=a::q:=(AP.1 E).2;have hnq:ju q a.1=false:=by
   unfold ju;rw[List.any_eq_false];intro b hb c;have:=IV b hb;have c':b.1=a.1:=by simpa using c
   omega
  have KB: ∀j:Int,((s.bx.set i q).countP (λr=>ju r j):Nat)=s.bx.countP (λr=>ju r j) - (if ju (a::q) j=true then 1 else 0)+(if ju q j=true then 1 else 0):=λj=>by
   rw[List.countP_set hib,hbi]
  rw[ho,hb,KB,Am,FY,vI];by_cases e:(a.1 - 1).toNat=id
  ·have ej:(id:Int)+1=a.1:=by omega
   rw[av e,av (by omega),ej,hnq];have o7:0<s.bx.countP (λr=>ju r a.1):=Dn.2 ⟨a::q,aB E,by rw[vI];simp⟩;rw[ej] at hoc;rw[e];simp only[beq_self_eq_true,Bool.true_or,if_true,Option.getD_some];rw[ao (by decide)];omega
  ·rw[ao e, <-Am,hoc];have:(a.1==(id:Int)+1)=false:=by
    simp;omega
   rw[this,Bool.false_or];split
   ·rename_i hp;have o7:0<s.bx.countP (λr=>ju r ((id:Int)+1)):=Dn.2 ⟨a::q,aB E,by rw[vI,hp,Bool.or_true]⟩;omega
   ·omega
end
section
variable {gh:Gh} {ta:Int->Bool} {n:Nat} {s s':MS} {i:Nat}
theorem B_ {l:List (Int×Int)} (h:(l.map (·.1)).Nodup) {a b:Int×Int} (d:a∈l) (hb:b∈l) (e:a.1=b.1):a=b:=by
 induction l with
 |nil=>cases d
 |cons c l f=>
  rw[DA,CB] at h;rcases CD.1 d with rfl|d
  ·rcases CD.1 hb with rfl|hb
   ·rfl
   ·exact absurd (Ap.2 ⟨b,hb,e.symm⟩) h.1
  ·rcases CD.1 hb with g|hb
   ·rw[g] at e;exact absurd (show c.1∈l.map (·.1) from Ap.2 ⟨a,d,e⟩) h.1
   ·exact f h.2 d hb
theorem MI.YG (M:MI gh ta n s):MI gh ta n {s with ep:=eZ s.ep}:=by
 unfold eZ;split
 ·rename_i h;rw[List.all_eq_true] at h;exact{M with
   wk:=λe g=>by
    obtain⟨a,b,c⟩:=M.wk e g;exact⟨a,b,Int.le_trans c (by show s.ep.now<=s.ep.now+1;omega)⟩
   nw:=by
    have:=M.nw;show 0<=s.ep.now+1;omega
   pn:=λ{j y} d=>by
    have:=M.pn d;show if y.ph=2\/y.ph=3 then 0<=s.ep.pins.getD j 0/\s.ep.pins.getD j 0<=s.ep.now+1/\s.ep.now+1<=s.ep.pins.getD j 0+1 else s.ep.pins.getD j 0= -1;split
    ·rename_i c;rw[av c] at this;have f:j<s.ep.pins.length:=by rw[M.lp, <-M.lc];exact(AP.1 d).1
     have i:s.ep.pins.getD j 0∈s.ep.pins:=by
      rw[Am,B3 f];exact List.getElem_mem f
     have:=h _ i;simp only[Bool.or_eq_true,beq_iff_eq] at this;omega
    ·rename_i c;rw[ao c] at this;exact this}
 ·exact M
def gW (s:MS) (f:Int):MS:={gq s f with ep:={s.ep with ws:=s.ep.ws.filter λx=> !(x.1==f)}}
theorem J6 (M:MI gh ta n s) {x:bP} (d:s.cs[i]? =some x) (g:x.ph=2\/x.ph=3) {f r:Int} (c:(f,r)∈s.ep.ws) (k:r+2<=s.ep.now) {f0:Int} (P:rZ s i f0):f0≠f/\rZ (gW s f) i f0:=by
 have h:=M.pn d;rw[av g] at h;have ne:f0≠f:=λe=>by
  subst e;rcases P with ⟨z,y,h1,a,b⟩|⟨e,h1,a,b⟩
  ·exact(M.fk y (aB h1) a f0 b).2 (Ap.2 ⟨_,c,rfl⟩)
  ·have:e=(f0,r):=by
    have j:=M.wn;exact B_ j h1 c a
   subst this;have b:s.ep.pins.getD i 0<=r:=b;omega
 refine⟨ne,?_⟩;rcases P with ⟨z,y,h1,a,b⟩|⟨e,h1,a,b⟩
 ·exact .inl ⟨z,y,h1,a,b⟩
 ·refine .inr ⟨e,Az.2 ⟨h1,?_⟩,a,b⟩;simp[a,ne]
theorem MI.gW (M:MI gh ta n s) {f r:Int} (F:(f,r)∈s.ep.ws) (L:r+2<=s.ep.now):MI gh ta n (gW s f):=by
 obtain⟨R, _, _⟩:=M.wk _ F;obtain⟨m,d,B,G,N⟩:=M.k5 f R;have B:f=(m:Int):=B;obtain⟨S, _,T,U⟩:=M.hi.O8 G N;have O:f∈s.ep.ws.map (·.1):=Ap.2 ⟨_,F,rfl⟩;have hmn:m<s.h.s.2.length:=(AP.1 G).1;have C:(Go.Proofs.YtlcenllcmeebhaaGreat.gW s f).h=bD s.h (s.h.s.1,s.h.s.2.set m zD):=by
  show bD s.h (im s.h.s f)= _;rw[B,S]
 have P:(Go.Proofs.YtlcenllcmeebhaaGreat.gW s f).h.s.2=s.h.s.2.set m zD:=by rw[C];rfl
 have V:(Go.Proofs.YtlcenllcmeebhaaGreat.gW s f).h.s.1=s.h.s.1:=by rw[C];rfl
 have W:(Go.Proofs.YtlcenllcmeebhaaGreat.gW s f).h.g=s.h.g:=by rw[C];rfl
 have D: ∀{k:Nat} {d':DT},s.h.s.2[k]? =some d'->(k:Int)≠f->(Go.Proofs.YtlcenllcmeebhaaGreat.gW s f).h.s.2[k]? =some d':=λ{k d'} h1 o=>by
  rw[P,AL (λc=>o (by rw[B,c]))];exact h1
 have H: ∀{k:Nat} {d':DT},s.h.s.2[k]? =some d'->d'.1=4->(k:Int)≠f:=λ{k d'} h1 o c=>by
  rw[B] at c;have:k=m:=by omega
  subst this;rw[G] at h1;cases h1;rw[N] at o;exact absurd o (by decide)
 have I: ∀{g:Int},g∈s.kn->g≠f->g∈(Go.Proofs.YtlcenllcmeebhaaGreat.gW s f).kn:=λ{g} h1 o=>Az.2 ⟨h1,by simp[o]⟩;have pg: ∀i q,js (Go.Proofs.YtlcenllcmeebhaaGreat.gW s f).h i q=js s.h i q:=λi q=>by rw[C];exact U.to id
 exact{M with
  hi:=by rw[C];exact T
  k5:=λg J=>by
   obtain⟨h1,o⟩:=Az.1 J;obtain⟨k,d',t,u,E⟩:=M.k5 g h1;exact⟨k,d',t,D u (by rw[<-t];simpa using o),E⟩
  nk:=M.nk.sublist DB
  wk:=λe X=>by
   obtain⟨h1,o⟩:=Az.1 X;obtain⟨t,u,E⟩:=M.wk e h1;exact⟨I t (by simpa using o),u,E⟩
  wn:=M.wn.sublist (DB.map _)
  fk:=λy K e g J=>by
   obtain⟨t,u⟩:=M.fk y K e g J;exact⟨I t λc=>u (by rw[c];exact O),λc=>u ((DB.map _).subset c)⟩
  kd:=λ{k d'} h1 o=>by
   rw[P] at h1;rcases j7 h1 with ⟨_,rfl⟩|⟨e,h1⟩
   ·exact absurd o (by decide)
   ·have ne:(k:Int)≠f:=λc=>e (by rw[B] at c;omega);obtain⟨t,u⟩:=M.kd h1 o;refine⟨I t ne,u.imp (λc=>?_) id⟩;obtain⟨e',g1,Q⟩:=Ap.1 c;exact Ap.2 ⟨e',Az.2 ⟨g1,by simp[Q,ne]⟩,Q⟩
  pn:=λ{j y} v=>M.pn v
  ln:=λ{j y} v l Y=>by
   obtain⟨Z,k,d',A,w,p⟩:=M.ln v l Y;have ne:(k:Int)≠f:=by
    rcases p with p|⟨x,q,a, _, _, _,r8⟩
    ·exact H w p.1
    ·rcases x with x|x
     ·exact H w x
     ·obtain⟨_,z,y,b, _,c1,c2,c3, _, _⟩:=r8 x;have:=(M.fk y (aB c1) c2 _ c3).2;exact λc=>this (by rw[A,c];exact O)
   refine⟨Z,k,d',A,D w ne,?_⟩;rw[pg];exact p
  ac:=λy K e=>by rw[W];exact M.ac y K e
  wl:=λ{j y} v e=>by
   obtain⟨l,A,w,p,x⟩:=M.wl v e;refine⟨l,A,w,p,x.imp id λ⟨c1,c2,c3⟩=>?_⟩;obtain⟨p1,p2⟩:=J6 M v (.inl e) F L c2;refine⟨?_,p2,c3⟩;obtain⟨k0,d',t,u,E⟩:=c1;exact⟨k0,d',D t (by rw[Int.toNat_of_nonneg k0];exact p1),u,by rw[V];exact E⟩
  rc:=λ{j y} v e=>by
   obtain⟨⟨k,d',A,w,p⟩,x⟩:=M.rc v e;refine⟨?_,x⟩;rcases p with p|⟨r5,r6,r7⟩
   ·exact⟨k,d',A,D w (H w p),.inl p⟩
   ·obtain⟨p1,p2⟩:=J6 M v (.inr e) F L r6;exact⟨k,d',A,D w (by rw[<-A];exact p1),.inr ⟨r5,p2,r7⟩⟩}
theorem MI.XR: ∀(L:List Int) {s:MS},MI gh ta n s->L.Nodup->(∀f∈L, ∃r,(f,r)∈s.ep.ws/\r+2<=s.ep.now)->MI gh ta n (L.foldl Go.Proofs.YtlcenllcmeebhaaGreat.gW s)
 |[], _,M, _, _=>M
 |f::L,s,M,a,b=>by
  obtain⟨r,h1,e⟩:=b f Be;refine MI.XR L (M.gW h1 e) (CB.1 a).2 λg d=>?_;obtain⟨r',h,i⟩:=b g (Bx _ d);refine⟨r',Az.2 ⟨h,?_⟩,i⟩;have:g≠f:=λc=>(CB.1 a).1 (by rw[<-c];exact d);simp[this]
theorem uf (e:vY): ∀(L:List Int) (s:MS),L.foldl gq {s with ep:=e}={L.foldl gq s with ep:=e}
 |[], _=>rfl
 |f::L,s=>uf e L (gq s f)
theorem Aa: ∀(L:List Int) (s:MS),(L.foldl gq s).ep=s.ep
 |[], _=>rfl
 |f::L,s=>Aa L (gq s f)
theorem E': ∀(L:List Int) (s:MS),L.foldl Go.Proofs.YtlcenllcmeebhaaGreat.gW s={L.foldl gq s with ep:={s.ep with ws:=s.ep.ws.filter λx=> !L.contains x.1}}
 |[],s=>by
  have:(s.ep.ws.filter λx=> !([]:List Int).contains x.1)=s.ep.ws:=FS.2 λx _=>rfl;rw[this];rfl
 |f::L,s=>by
  show L.foldl Go.Proofs.YtlcenllcmeebhaaGreat.gW (Go.Proofs.YtlcenllcmeebhaaGreat.gW s f)= _;rw[E' L,show(Go.Proofs.YtlcenllcmeebhaaGreat.gW s f)={gq s f with ep:={s.ep with ws:=s.ep.ws.filter λx=> !(x.1==f)}} from rfl,uf];show({L.foldl gq (gq s f) with ep:={s.ep with ws:=(s.ep.ws.filter λx=> !(x.1==f)).filter λx=> !L.contains x.1}}:MS)= _;rw[List.filter_filter];have:(λ(x:Int×Int)=>(!L.contains x.1)&& !(x.1==f))=λx=> !(f::L).contains x.1:=by
   funext x;rw[List.contains_cons];cases L.contains x.1<;>cases x.1==f<;>rfl
  rw[this];rfl
theorem Dd {e:vY} {f:Int}:f∈oS e<-> ∃r,(f,r)∈e.ws/\r+2<=e.now:=by
 unfold oS;rw[(lJ _).mem_iff,Ap];constructor
 ·rintro⟨⟨f',r⟩,h,rfl⟩;obtain⟨h1,a⟩:=Az.1 h;exact⟨r,h1,by simpa using a⟩
 ·rintro⟨r,h1,a⟩;exact⟨(f,r),Az.2 ⟨h1,by simpa using a⟩,rfl⟩
theorem Fa (M:MI gh ta n s):(cK s).1=(oS (eZ s.ep)).foldl Go.Proofs.YtlcenllcmeebhaaGreat.gW {s with ep:=eZ s.ep}:=by
 rw[E'];show(oS (eZ s.ep)).foldl gq {s with ep:=AR (eZ s.ep)}= _;rw[uf (AR (eZ s.ep)),uf (eZ s.ep)];have:(eZ s.ep).ws.filter (λx=> !decide (x.2+2<=(eZ s.ep).now))=(eZ s.ep).ws.filter λx=> !(oS (eZ s.ep)).contains x.1:=by
  refine List.filter_congr λx a=>?_;congr 1;rw[Bool.eq_iff_iff,List.contains_iff_mem,Dd,decide_eq_true_eq];refine⟨λh=>⟨x.2,a,h⟩,λ⟨r,h1,b⟩=>?_⟩;have:x=(x.1,r):=B_ M.YG.wn a h1 rfl;rw[this];exact b
 show({ (oS (eZ s.ep)).foldl gq s with ep:={eZ s.ep with ws:=(eZ s.ep).ws.filter λx=> !decide (x.2+2<=(eZ s.ep).now)}}:MS)= _;rw[this]
theorem MI.free (M:MI gh ta n s):MI gh ta n (cK s).1:=by
 rw[Fa M];refine MI.XR _ M.YG ?_ λf a=>Dd.1 a;unfold oS;refine(lJ _).nodup_iff.2 ?_;exact M.YG.wn.sublist (DB.map _)
end
namespace Inv
variable {g:Gh} {s:WD}
theorem ng (I:Inv g s) (nl:AA g s) {o r p t f:Int} {l:Nat} (v:g r=some (o,3,0)) (n:0<=p/\p<65536) (a:g f=some (o,l,px (l+1) p)):
 (∃m:Nat,l=m+1/\(bA s.1 p t (f,(l:Int),(0,0,0,0,()))).2.1=(m:Int)/\m<=3/\(bA s.1 p t (f,(l:Int),(0,0,0,0,()))).2.2=(0,0,0,0,())/\g (bA s.1 p t (f,(l:Int),(0,0,0,0,()))).1=some (o,m,px (m+1) p))\/
 ((bA s.1 p t (f,(l:Int),(0,0,0,0,()))).2.1= -1/\((bA s.1 p t (f,(l:Int),(0,0,0,0,()))).2.2.2.2.2.1=0->bz s r false p=((bA s.1 p t (f,(l:Int),(0,0,0,0,()))).2.2.1,(bA s.1 p t (f,(l:Int),(0,0,0,0,()))).2.2.2.1,0,()))):=by
 have w:=I.kd a;have x:=w.2.2.2.2.2;obtain⟨y,z,G⟩:=I.vU a;have hi:=dY p l;have h:=lz ⟨y,z⟩ n x;have A:uZ s.1 (dV f p (l:Int))=true:=by rw[h];exact jj (by omega) (by omega)
 have C:uY (B (dK s.1 (dV f p (l:Int)))).toNat=true:=by
  rw[h];cases hb:(aJ s.1 (16*f+px l p % 16)).1 with
  |true=>exact CS hb
  |false=>rw[I.wf a hi.1 hi.2 hb];decide+kernel
 rw[tO A C,h];have b:=I.sW a hi.1 hi.2;have i:=nl a hi.1 hi.2;have j:du (aJ s.1 (16*f+px l p % 16))=false->bz s r false p=ki p l (aJ s.1 (16*f+px l p % 16)):=λc=>I.fW v n ⟨a,c⟩;revert b i j;generalize aJ s.1 (16*f+px l p % 16)=e;intro b i j;unfold tookS;split
 ·exact .inr ⟨rfl,λc=>absurd c (show ¬ (4:Int)=0 by decide)⟩
 rename_i h1;have h1:e.1=true:=by simpa using h1
 split
 ·rename_i d;rw[Cp,decide_eq_true_eq] at d;obtain⟨m,q,u⟩:=b d.1;subst q;refine .inl ⟨m,rfl,?_,by omega,rfl,?_⟩
  ·show aZ .i64 ((m+1:Nat):Int) 1= _;rw[bE (by omega) (by omega)];omega
  ·rw[<-nR p (m+1)] at u;exact u
 rename_i d;split
 ·rename_i D;rw[Cp,beq_iff_eq] at D;have k:du e=false:=by
   cases c:du e with
   |false=>rfl
   |true=>exact absurd (by rw[show fV e.1 e.2.1 e.2.2.1 e.2.2.2.1=true from c,decide_eq_true (by omega:(l:Int)>0)];rfl) d
  have:=i h1 k;omega
 split
 ·rename_i E;rw[Cp,beq_iff_eq] at E;have F:l=0:=by omega
  subst F;have k:du e=false:=by
   cases c:du e with
   |false=>rfl
   |true=>
    obtain⟨m,q, _⟩:=b c;omega
  refine .inr ⟨rfl,λc=>?_⟩;rw[j k];unfold ki;rw[av h1,ao (by decide)];revert c;dsimp only;unfold yr;split
  ·intro c;exact absurd c (show ¬ (11:Int)=0 by decide)
  split
  ·intro _;rfl
  ·intro c;exact absurd c (show ¬ (7:Int)=0 by decide)
 ·exact .inr ⟨rfl,λc=>absurd c (show ¬ (11:Int)=0 by decide)⟩
theorem nh (I:Inv g s) {p t f:Int} {l:Nat} (c:0<=p/\p<65536) (e:l<=3) (G:iJ s f):(bA s.1 p t (f,(l:Int),(0,0,0,0,()))).2.1= -1/\(bA s.1 p t (f,(l:Int),(0,0,0,0,()))).2.2.2.2.2.1=4:=by
 obtain⟨h0,d,h1, _,h⟩:=G;have k:=I.len;have m:=I.le;have n:f.toNat<s.2.length:=(AP.1 h1).1;have hi:=dY p l;have a:=lz (f:=f) ⟨h0,by omega⟩ c e;have b:=h (px l p % 16) hi.1 hi.2;have i:uZ s.1 (dV f p (l:Int))=true:=by rw[a];exact jj (by omega) (by omega)
 have j:uY (B (dK s.1 (dV f p (l:Int)))).toNat=true:=by rw[a,b];decide+kernel
 rw[tO i j,a,Zh b];exact⟨rfl,rfl⟩
end Inv
section
variable {gh:Gh} {h:HS}
theorem HI.aau (H:HI gh h) {n:Nat} {d:DT} (c:h.s.2[n]? =some d) (d4:d.1=4\/d.1=5) {o:Int} (f:0<=o/\o<16) (b:Int):HI gh (bD h (cZ h.s.1 (16*(n:Int)+o) b,h.s.2))/\AB h (bD h (cZ h.s.1 (16*(n:Int)+o) b,h.s.2)) (λ_ _=>False):=by
 have d3:d.1≠3:=by omega
 have B:Inv.fy gh h.s (cZ h.s.1 (16*(n:Int)+o) b,h.s.2):=by
  refine iO H.inv ⟨cG _ _ _,rfl⟩ (λq e=>⟨n,d,c,d3,?_⟩) λ{i d d'} h1 a=>?_
  ·refine Ar λhc=>e ?_;show dK (cZ h.s.1 (16*(n:Int)+o) b) q= _;rw[mP (by omega)]
  ·rw[h1] at a;cases a;exact .inl rfl
 exact⟨H.side B H.hc,H.Db B (h':=bD h (cZ h.s.1 (16*(n:Int)+o) b,h.s.2)) rfl rfl _⟩
end
set_option maxRecDepth 100000
open Go.RX D
section
variable {gh:Gh} {ta:Int->Bool} {n:Nat} {s s':MS} {i:Nat}
theorem tP (M:MI gh ta n s) {v:Int} (b:aV s.h.g v=true): ∃x:GV,s.h.g v.toNat=some x/\a9 s.h.g v=x.root/\gh x.root=some (v,3,0)/\1<=v/\v<=16:=by
 obtain⟨x,a,c,hv,d,e⟩:=bZ b;refine⟨x,a,c,?_,by omega,by omega⟩;rw[M.hi.root a,Int.toNat_of_nonneg (by omega)]
theorem Iy (M:MI gh ta n s) {l:LT} (h:D4 ta s i l) (e:s'.h=s.h) (f: ∀{z:Nat} {y:bP},s.cs[z]? =some y->y.ph=4->s'.cs[z]? =some y):AS ta s' i l.2.2.1:=by
 obtain⟨_,m,d,h1,g,c⟩:=h;refine⟨m,d,h1,by rw[e];exact g,?_⟩;rcases c with c|⟨c,q,a,o,p,r,j⟩
 ·exact .inl c.1
 ·rcases c with c|c
  ·exact .inl c
  ·obtain⟨k,z,y,b, _,c1,c2,c3, _⟩:=j c;exact .inr ⟨c,.inl ⟨z,y,f c1 c2,c2,c3⟩,k⟩
theorem J7 (M:MI gh ta n s) {x:bP} (b:s.cs[i]? =some x) (h1:x.ph=1):AQ s.ep i={s.ep with pins:=s.ep.pins.set i s.ep.now}:=by
 have a:=M.pn b;rw[h1,ao (by decide)] at a;unfold AQ;rw[av a]
theorem Fb {x:bP} (a:s.cs[i]? =some x) (b:x.ph≠4) (x':bP): ∀{z:Nat} {y:bP},s.cs[z]? =some y->y.ph=4->(s.cs.set i x')[z]? =some y:=λ{z y} h1 c=>by
 have e:i≠z:=λe=>by subst e;rw[a] at h1;cases h1;exact b c
 rw[AL e];exact h1
theorem MI.FL (M:MI gh ta n s) {x:bP} (a:s.cs[i]? =some x) (h1:x.ph=1) (b:lX s.h x=true) {l:LT} (d:l∈x.ls):MI gh ta n {s with cs:=s.cs.set i {x with ph:=3,fr:=l.2.2.1},ep:=AQ s.ep i}:=by
 have g:x.c.1=6\/x.c.1=7:=by
  unfold lX at b;simp only[Cp,decide_eq_true_eq] at b;have:=b.1;unfold a7 at this;split at this
  ·exact .inl ‹_›
  split at this
  ·exact .inr ‹_›
  ·omega
 rw[J7 M a h1];have f:x.ph≠4:=by omega
 have j:=M.nw;refine M.Dz (x':={x with ph:=3,fr:=l.2.2.1}) a s.ep.now s.ms f (show ¬ (3:Int)=4 by decide) rfl (show 0<=(3:Int)/\(3:Int)<=4 by decide) (M.ar x (aB a)) (M.tl x (aB a)) ?_ (λl d=>M.ln a l d) (λe=>absurd e (show ¬ (3:Int)=2 by decide)) (λe=>absurd e (show ¬ (3:Int)=2 by decide)) (λ_=>⟨?_,g⟩)
 ·show if(3:Int)=2\/(3:Int)=3 then _ else _;rw[av (by decide)];omega
 ·exact Iy M (M.ln a l d) rfl (Fb a f _)
theorem MI.aav (M:MI gh ta n s) {x:bP} (a:s.cs[i]? =some x) (h1:x.ph=1) (b:lX s.h x=true):MI gh ta n {s with cs:=s.cs.set i {x with ph:=2,wk:=lN s.h.s.1 (a9 s.h.g x.vm) (x.c.2.1 / 16) (a7 x.c.1) 0},ep:=AQ s.ep i}:=by
 unfold lX at b;simp only[Cp,decide_eq_true_eq] at b;obtain⟨d,f, _,b⟩:=b;have k:x.c.1=6\/x.c.1=7:=by
  unfold a7 at d;split at d
  ·exact .inl ‹_›
  split at d
  ·exact .inr ‹_›
  ·omega
 rw[J7 M a h1];have m:x.ph≠4:=by omega
 have r:=M.nw;have j:=M.ar x (aB a);obtain⟨g,t,o,p,hv⟩:=tP M f;refine M.Dz (x':={x with ph:=2,wk:=lN s.h.s.1 (a9 s.h.g x.vm) (x.c.2.1 / 16) (a7 x.c.1) 0}) a s.ep.now s.ms m (show ¬ (2:Int)=4 by decide) rfl (show 0<=(2:Int)/\(2:Int)<=4 by decide) j (M.tl x (aB a)) ?_ (λl q=>M.ln a l q) (λ_=>⟨f,b,k⟩) (λ_=>?_) (λe=>absurd e (show ¬ (2:Int)=3 by decide))
 ·show if(2:Int)=2\/(2:Int)=3 then _ else _;rw[av (by decide)];omega
 ·refine⟨3,rfl,by decide,rfl,.inl ?_⟩;show gh (a9 s.h.g x.vm)=some (x.vm,3,px 4 (x.c.2.1 / 16));have:=j.1.1;rw[px4 (by omega),o];exact p
theorem tQ {a:Int} (h:0<=a/\a<1048576):0<=a / 16/\a / 16<65536:=by omega
theorem Fc {ls:List LT} {sz:Int} {l y:LT} (h:y∈pF ls sz l):y∈ls\/y=l:=by
 unfold pF at h;rcases List.mem_append.1 h with h|h
 ·left;split at h
  ·exact(Az.1 h).1
  split at h
  ·exact List.mem_of_mem_drop h
  ·exact h
 ·exact .inr (List.mem_singleton.1 h)
theorem S8 {ls:List LT} {sz:Int} {l:LT} (h:(ls.length:Int)<=sz) (h1:1<=sz):((pF ls sz l).length:Int)<=sz:=by
 unfold pF;rw[List.length_append];show((_+1:Nat):Int)<=sz;split
 ·rename_i hc;obtain⟨y,a,b⟩:=Ee.1 hc;have:(CV ls l.1 l.2.1).length<ls.length:=by
   unfold CV;refine List.length_filter_lt_length_iff_exists.2 ⟨y,a,?_⟩;rw[b];decide
  omega
 split
 ·rename_i e;rw[List.length_drop];omega
 ·omega
theorem MI.walk (M:MI gh ta n s) {x:bP} (a:s.cs[i]? =some x) (p:x.ph=2):MI gh ta n (ig (jY s i x) i x).1:=by
 have j:=aB a;have u:=M.ar x j;obtain⟨D,E,F⟩:=M.ac x j p;obtain⟨l,w1,G,N,b⟩:=M.wl a p;have k:=tQ ⟨u.1.1,E⟩;have q:x.ph≠4:=by omega
 have O:i<s.cs.length:=(AP.1 a).1;have v:=M.pn a;rw[p,av (by decide)] at v;have o:x.wk=(x.wk.1,(l:Int),(0,0,0,0,())):=Prod.ext rfl (Prod.ext w1 N);obtain⟨P,Q,W,H,R,S⟩:=tP M D;have idle: ∀w,MI gh ta n (ig (cj {s with ep:=rY s.ep i} i {x with wk:=w},((0:Int),(w.2.2.2.2.2.1:Int)),true) i x).1:=λw=>by
  unfold ig;rw[av rfl];have e:((cj {s with ep:=rY s.ep i} i {x with wk:=w}).cs.getD i x).ls=x.ls:=by
   show((s.cs.set i _).getD i x).ls= _;rw[Am,AM O];rfl
  show MI gh ta n (cj (cj {s with ep:=rY s.ep i} i {x with wk:=w}) i (cq (((cj {s with ep:=rY s.ep i} i {x with wk:=w}).cs.getD i x).ls)));rw[e];have T:cj (cj {s with ep:=rY s.ep i} i {x with wk:=w}) i (cq x.ls)={s with cs:=s.cs.set i (cq x.ls),ep:=rY s.ep i,ms:=s.ms}:=by
   unfold cj;dsimp only;rw[List.set_set]
  rw[T];exact M.idle a q (λl z=>M.ln a l z) (M.tl x j) s.ms
 unfold jY;dsimp only;split
 ·rename_i hc;show MI gh ta n (cj s i _);rcases b with b|b
  ·rcases M.hi.inv.ng M.hi.nl (t:=a7 x.c.1) H k b with ⟨m, _,f,g,I,k4⟩|⟨f, _⟩
   ·rw[o];refine M.Dz (x':={x with wk:=bA s.h.s.1 (x.c.2.1 / 16) (a7 x.c.1) (x.wk.1,(l:Int),(0,0,0,0,()))}) a (s.ep.pins.getD i 0) s.ms q q ?_ (M.ph x j) u (M.tl x j) ?_ (λl z=>M.ln a l z) (λ_=>⟨D,E,F⟩) (λ_=>⟨m,f,g,I,.inl k4⟩) (λe=>absurd p (by rw[show x.ph=3 from e];decide))
    ·rw[uc M a];rfl
    ·show if x.ph=2\/x.ph=3 then _ else _;rw[av (.inl p)];exact v
   ·rw[o] at hc;exact absurd f hc
  ·obtain⟨f, _⟩:=M.hi.inv.nh (t:=a7 x.c.1) k G b.1;rw[o] at hc;exact absurd f hc
 split
 ·exact idle _
 rename_i A r;have A:(bA s.h.s.1 (x.c.2.1 / 16) (a7 x.c.1) x.wk).2.1= -1:=Ar A;have r:(bA s.h.s.1 (x.c.2.1 / 16) (a7 x.c.1) x.wk).2.2.2.2.2.1=0:=Ar r;show MI gh ta n (cj s i _);have B:bz s.h.s P.root false (x.c.2.1 / 16)=((bA s.h.s.1 (x.c.2.1 / 16) (a7 x.c.1) x.wk).2.2.1,(bA s.h.s.1 (x.c.2.1 / 16) (a7 x.c.1) x.wk).2.2.2.1,0,()):=by
  rcases b with b|b
  ·rcases M.hi.inv.ng M.hi.nl (t:=a7 x.c.1) H k b with ⟨m, _,f,g,I,k4⟩|⟨f,g⟩
   ·rw[<-o] at f;rw[A] at f;omega
   ·rw[<-o] at g;exact g r
  ·obtain⟨_,g⟩:=M.hi.inv.nh (t:=a7 x.c.1) k G b.1;rw[<-o,r] at g;exact absurd g (by decide)
 revert B;generalize bA s.h.s.1 (x.c.2.1 / 16) (a7 x.c.1) x.wk=w;intro B;have J:js s.h x.vm.toNat (x.c.2.1 / 16)=(w.2.2.1,w.2.2.2.1,0,()):=by rw[bQ Q];exact B
 have U:nj s.h x.vm.toNat (x.c.2.1 / 16)=some w.2.2.1:=by rw[sr,J];rfl
 obtain⟨m,d,K,L,d4, _⟩:=M.hi.Uh U;have V:D4 ta s i (x.vm,x.c.2.1 / 16,w.2.2.1,w.2.2.2.1,()):=⟨⟨R,S,k.1,k.2⟩,m,d,K,L,.inl ⟨d4,J⟩⟩;refine M.Dz (x':={x with wk:=w,ls:=pF x.ls s.sz (x.vm,x.c.2.1 / 16,w.2.2.1,w.2.2.2.1,()),ph:=3,fr:=w.2.2.1}) a (s.ep.pins.getD i 0) s.ms q (show ¬ (3:Int)=4 by decide) ?_ (show 0<=(3:Int)/\(3:Int)<=4 by decide) u (S8 (M.tl x j) M.sz.1) ?_ ?_ (λe=>absurd e (show ¬ (3:Int)=2 by decide)) (λe=>absurd e (show ¬ (3:Int)=2 by decide)) (λ_=>⟨⟨m,d,K,L,.inl d4⟩,F⟩)
 ·rw[uc M a];rfl
 ·show if(3:Int)=2\/(3:Int)=3 then _ else _;rw[av (by decide)];exact v
 ·intro y C;rcases Fc C with C|rfl
  ·exact M.ln a y C
  ·exact V
theorem MI.word (M:MI gh ta n s) {f:Int} (R:AS ta s i f) {o:Int} (v:0<=o/\o<16) (b:Int):MI gh ta n {s with h:=bD s.h (cZ s.h.s.1 (16*f+o) b,s.h.s.2)}:=by
 obtain⟨m,d,w,t,u⟩:=R;subst w;obtain⟨H,P⟩:=M.hi.aau t (u.imp id λc=>c.1) v b;exact{M with
  hi:=H
  pn:=λ{j y} a=>M.pn a
  ln:=λ{j y} a l x=>by
   obtain⟨z,A,d',g,p,q⟩:=M.ln a l x;refine⟨z,A,d',g,p,?_⟩;show(_/\js (bD s.h (cZ s.h.s.1 (16*(m:Int)+o) b,s.h.s.2)) _ _= _)\/ _;rw[P.to id];exact q
  wl:=λ{j y} a e=>by
   obtain⟨l,g,p,q,B⟩:=M.wl a e;refine⟨l,g,p,q,B.imp id λ⟨c1,c2,c3⟩=>⟨?_,c2,c3⟩⟩;obtain⟨k0,d',r,C,D⟩:=c1;refine⟨k0,d',r,C,λk E F=>?_⟩;have ne:y.wk.1≠(m:Int):=λc=>by
    rcases u with I|⟨_, _,G⟩
    ·rw[c,show((m:Int)).toNat=m from rfl,t] at r;cases r;omega
    ·rw[c,G] at c3;cases c3
   show dK (cZ s.h.s.1 (16*(m:Int)+o) b) _=0;rw[mP (by omega)];exact D k E F}
theorem eM {s1:MS} {r:Int×Int} {x:bP} (h:s1.cs[i]? =some x):(ig (s1,r,true) i x).1={s1 with cs:=s1.cs.set i (cq x.ls)}:=by
 unfold ig;rw[av rfl];show cj s1 i (cq ((s1.cs.getD i x).ls))= _;rw[Am,h];rfl
theorem MI.reach (M:MI gh ta n s) {x:bP} (a:s.cs[i]? =some x) (f:x.ph=3):MI gh ta n (ig (fA s i x) i x).1:=by
 have d:=aB a;have e:x.ph≠4:=by omega
 unfold fA;dsimp only;split
 ·have M1:=M.word (M.rc a f).1 (o:=x.c.2.1 % 16) (by omega) x.c.2.2.1;rw[eM (by exact a)];exact M1.idle a e (λl b=>M1.ln a l b) (M1.tl x d) _
 ·rw[eM (by exact a)];exact M.idle a e (λl b=>M.ln a l b) (M.tl x d) _
end
structure NN (s s':WD):Prop where
 to: ∀{m:Nat} {d':DT},s'.2[m]? =some d'->d'.1=5-> ∃d,s.2[m]? =some d/\d.1=5
theorem NN.refl {s s':WD} (h:s'.2=s.2):NN s s':=⟨λ{m d'} h1 a=>⟨d',by rw[<-h];exact h1,a⟩⟩
theorem NN.trans {s t u:WD} (a:NN s t) (b:NN t u):NN s u:=⟨λh1 c=>by
 obtain⟨d,e,f⟩:=b.to h1 c;exact a.to e f⟩
theorem NN.ch {s:WD} {W:List Int} {f:Int} {g:DT->DT×Int} (b: ∀d,(g d).2=0->(g d).1.1=5->d.1=5):NN s (W,dL s.2 f g):=⟨λ{m d'} h1 a=>by
 have h1:(dL s.2 f g)[m]? =some d':=h1;by_cases c:f<0\/f>=s.2.length
 ·rw[yb c] at h1;exact⟨d',h1,a⟩
 ·rw[pJ (by omega)] at h1;split at h1
  ·rename_i e;rcases j7 h1 with ⟨rfl,rfl⟩|⟨_,h1⟩
   ·have h:f.toNat<s.2.length:=by omega
    refine⟨s.2.getD f.toNat zD,?_,b _ e a⟩;rw[Am,B3 h];rfl
   ·exact⟨d',h1,a⟩
  ·exact⟨d',h1,a⟩⟩
theorem J8 {k o:Int} (b:k≠5) (d:DT) (h0:(aO k o d).2=0) (a:(aO k o d).1.1=5):d.1=5:=by
 unfold aO at h0 a;dsimp only at h0 a;unfold mM at a;rw[av h0] at a;exact absurd a b
theorem aaw {x:Int} (d:DT) (h0:(ia x d).2=0) (a:(ia x d).1.1=5):d.1=5:=by
 unfold ia at h0 a;dsimp only at h0 a;unfold qQ at a;rw[av h0] at a;exact a
theorem NN.take {s:WD} {W:List Int} {k o:Int} (a:k≠5):NN s (W,dF s.2 k o):=by
 unfold dF;split
 ·exact .refl rfl
 ·exact .ch λd=>J8 a d
theorem NN.tk (s:WD) (o:Int) (g:Int->Int):NN s (iQ s o g):=NN.take (by decide)
theorem NN.lay (s:WD) (i:Int) (e:ET):NN s (dP s i e):= .refl rfl
theorem NN.down (o pg:Int): ∀(n:Nat) (x:WD×PT),NN x.1 (ri o pg n x).1
 |0,x=> .refl rfl
 |n+1,x=>NN.trans (NN.trans (NN.tk x.1 o λ_=>0) (NN.lay _ x.2.2.2.1 (cm (eA x.1 o)))) (NN.down o pg n (dP (iQ x.1 o λ_=>0) x.2.2.2.1 (cm (eA x.1 o)),(eA x.1 o,x.2.2.1 - 1,dV (eA x.1 o) pg (x.2.2.1 - 1),())))
theorem NN.map (s:WD) (o r:Int) (g:Bool) (pg f rt:Int):NN s (jC s o r g pg f rt):=by
 unfold jC;split
 ·exact .refl rfl
 split
 ·unfold rU;split
  ·exact NN.trans (NN.down o pg _ (s,dD s.1 r pg)) (NN.lay _ _ _)
  ·exact .refl rfl
 ·exact .refl rfl
theorem NN.don (h:HS) (v a b:Int):NN h.s (jS h v a b).s:=by
 have h1:NN h.s (kQ h v):=NN.take (by decide);have c:NN h.s (qW h v a b):=h1.trans (NN.map ..);unfold jS;split
 ·exact .refl rfl
 split
 ·exact .refl rfl
 split
 ·exact h1
 split
 ·exact c.trans (NN.ch λd=>J8 (by decide) d)
 ·exact c.trans (.refl rfl)
theorem NN.D6 (h:HS):NN h.s (gU h).s:=by
 unfold gU;split
 ·exact .refl rfl
 split
 ·exact NN.tk ..
 ·exact .refl rfl
theorem NN.tak (h:HS) (v a b c:Int):NN h.s (iq h v a b c).s:=NN.trans (NN.map ..) (NN.ch λd=>aaw d)
structure CE (gh dC:Gh) (h h':HS) (P:Nat->Int->Prop) (U:Int->Prop):Prop where
 hi:HI dC h'
 kd:KD h.s h'.s
 pg:AB h h' P
 gk: ∀{f:Int} {w:Int×Nat×Int},gh f=some w-> ¬ U w.1->dC f=some w\/iJ h'.s f
 gn: ∀{f:Int},iJ h.s f->iJ h'.s f
 lv: ∀{v:Int},¬ U v->aV h.g v=true->aV h'.g v=true
section
variable {gh dC:Gh} {ta:Int->Bool} {n:Nat} {s s':MS} {i:Nat} {h':HS} {P:Nat->Int->Prop} {U:Int->Prop}
theorem MI.quiet (M:MI gh ta n s) (C:CE gh dC s.h h' P λ_=>False) (N:NN s.h.s h'.s) (E: ∀{j:Nat} {q:Int},P j q->0<=q->q<65536->(js s.h j q).2.2.1≠0):MI dC ta n {s with h:=h'}:=by
 have B: ∀{m:Nat} {d:DT},s.h.s.2[m]? =some d->d.1=4-> ∃d',h'.s.2[m]? =some d'/\d'.1=4:=λ{m d} h1 F=>by
  obtain⟨d',g,b⟩:=C.kd.k4 h1 F;rcases b with b|b
  ·exact⟨d',g,b⟩
  ·obtain⟨d2,v,x⟩:=N.to g b;rw[h1] at v;cases v;omega
 exact{M with
  hi:=C.hi
  k5:=λf G=>by
   obtain⟨m,d,h1,D,H⟩:=M.k5 f G;obtain⟨d',g,b⟩:=C.kd.k5 D H;exact⟨m,d',h1,g,b⟩
  kd:=λ{m d} h1 D=>by
   obtain⟨d0,g,b⟩:=N.to h1 D;exact M.kd g b
  pn:=λ{j y} r=>M.pn r
  ln:=λ{j y} r l I=>by
   obtain⟨w,m,d,o,p,t⟩:=M.ln r l I;rcases t with ⟨i,u⟩|⟨i,q,a,u,z,A,J⟩
   ·obtain⟨d',g,b⟩:=B p i;refine⟨w,m,d',o,g,.inl ⟨b,?_⟩⟩;show js h' _ _= _;rw[C.pg.to (λc=>E c w.2.2.1 w.2.2.2 (by rw[u]))];exact u
   ·rcases i with i|i
    ·obtain⟨d',g,b⟩:=B p i;exact⟨w,m,d',o,g,.inr ⟨.inl b,q,a,u,z,A,λc=>by omega⟩⟩
    ·obtain⟨d',g,b⟩:=C.kd.k5 p i;exact⟨w,m,d',o,g,.inr ⟨.inr b,q,a,u,z,A,λ_=>J i⟩⟩
  ac:=λy K e=>by
   obtain⟨v,x⟩:=M.ac y K e;exact⟨C.lv id v,x⟩
  wl:=λ{j y} r e=>by
   obtain⟨l,o,p,t,i⟩:=M.wl r e;refine⟨l,o,p,t,?_⟩;rcases i with i|⟨c1,c2,c3⟩
   ·rcases C.gk i id with k|k
    ·exact .inl k
    ·obtain⟨k0,d,v,x, _⟩:=k;obtain⟨d0,g,b⟩:=N.to v x;rw[(M.hi.inv.kd i).2.2.1] at g;cases g;exact absurd b (show ¬ (3:Int)=5 by decide)
   ·exact .inr ⟨C.gn c1,c2,c3⟩
  rc:=λ{j y} r e=>by
   obtain⟨⟨m,d,o,p,t⟩,i⟩:=M.rc r e;refine⟨?_,i⟩;rcases t with t|⟨u,z,A⟩
   ·obtain⟨d',g,b⟩:=B p t;exact⟨m,d',o,g,.inl b⟩
   ·obtain⟨d',g,b⟩:=C.kd.k5 p u;exact⟨m,d',o,g,.inr ⟨b,z,A⟩⟩}
theorem HI.same {h:HS} (H:HI gh h) (c:HI dC h') (a:h'.s=h.s) (b:h'.g=h.g):HI gh h' where
 inv:=by rw[a];exact H.inv
 rt:=H.rt
 nl:=by rw[a];exact H.nl
 sz:=by rw[a];exact H.sz
 jo:=by rw[b];exact H.jo
 root:=by rw[b];exact H.root
 own:=by rw[b];exact H.own
 hc:=c.hc
theorem CE.same {h:HS} (H:HI gh h) (c:HI dC h') (a:h'.s=h.s) (b:h'.g=h.g):CE gh gh h h' (λ_ _=>False) (λ_=>False):=
 ⟨H.same c a b,.refl (by rw[a]),AB.of a b _,λh _=> .inl h,λh=>by rw[a];exact h,λ_ h=>by rw[b];exact h⟩
end
theorem ug: ∀(l m:List Int),l.Nodup->(∀x∈l,x∈m)->l.length<=m.length
 |[], _, _, _=>F6 _
 |a::l,m,b,c=>by
  have d:a∈m:=c a Be;have g:=ug l (m.erase a) (CB.1 b).2 λx f=>by
   have:x≠a:=λe=>(CB.1 b).1 (by rw[<-e];exact f);exact(List.mem_erase_of_ne this).2 (c x (Bx _ f))
  rw[List.length_erase_of_mem d] at g;have:0<m.length:=List.length_pos_of_mem d;rw[DR];omega
theorem P9 {α:Type} (i:Nat): ∀(l:List α) (k:Nat),(l.zipIdx k).countP (λx=>decide (x.2≠i))+(if k<=i/\i<k+l.length then 1 else 0)=l.length
 |[],k=>by
  rw[ao (by simp)];rfl
 |a::l,k=>by
  have b:=P9 i l (k+1);rw[G1,Do,DR];by_cases e:k=i
  ·subst e;rw[ao (by omega)] at b;rw[ao (by simp),av (by omega)];omega
  ·rw[av (by simpa using e)];by_cases c:k+1<=i/\i<k+1+l.length
   ·rw[av c] at b;rw[av (by omega)];omega
   ·rw[ao c] at b;rw[ao (by omega)];omega
section
variable {gh dC:Gh} {ta:Int->Bool} {n:Nat} {s s':MS} {i:Nat} {h':HS} {P:Nat->Int->Prop} {U:Int->Prop}
theorem iv {f:Int}:f∈e8 s h'<-> ∃(m:Nat) (d:DT),f=(m:Int)/\h'.s.2[m]? =some d/\d.1=5/\f∉s.kn:=by
 unfold e8;rw[Az,Ap];constructor
 ·rintro⟨⟨m,c,rfl⟩,b⟩;rw[DL] at c;have a:h'.s.2[m]? =some h'.s.2[m]:=B3 c;rw[Cp,nJ a] at b;refine⟨m, _,rfl,a,by simpa using b.1,by simpa using b.2⟩
 ·rintro⟨m,d,rfl,a,e,g⟩;refine⟨⟨m,DL.2 (AP.1 a).1,rfl⟩,?_⟩;rw[nJ a,e];simpa using g
theorem Ab:(e8 s h').Nodup:=by
 unfold e8;refine List.Pairwise.sublist DB ?_;rw[GD];exact FU.imp λh e=>h (by omega)
theorem MI.box (M:MI gh ta n s) {j:Nat} {q:List AK} (c:s.bx[j]? =some q):q.length<=8:=by
 obtain⟨h1,d⟩:=M.aq c;have f:(q.map (·.1)).Nodup:=by
  unfold List.Nodup;rw[GD];exact h1.imp λh e=>by omega
 have:=ug _ (s.cs.map (·.ak)) f λa g=>by
  obtain⟨b,hb,rfl⟩:=Ap.1 g;obtain⟨z,y, _,i, _,k4⟩:=d b hb;exact Ap.2 ⟨y,aB i,by rw[k4]⟩
 rw[DM,DM,M.lc] at this;have:=M.nn;omega
theorem MI.fG (M:MI gh ta n s) {j:Nat} {q:List AK} (b:s.bx[j]? =some q) {a:AK} (c:a∈q):a.1<=(s.op.length:Int):=by
 obtain⟨z,y, _,d,e,k4⟩:=(M.aq b).2 a c;have:=(M.wt y (aB d) e).2.1;rw[k4];exact this
theorem De (M:MI gh ta n s) (i:Nat) {t p:Int} (e:1<=t/\t<=16) (f: -1<=p/\p<65536):
 cL s.bx s.op i t p=((s.op.length:Int)+1,(s.bx.zipIdx.map λ(q,j)=>if j=i then q else q++[((s.op.length:Int)+1,t,p,())]),s.op++[(s.bx.length:Int) - 1]):=by
 unfold cL;rw[ao (by omega),ao ?_];intro c;obtain⟨q,b,a⟩:=Ee.1 c;obtain⟨j,d⟩:=DD (List.mem_of_mem_eraseIdx b);have:=M.box d;have a:q.length=16:=by simpa using a
 omega
theorem S9 {bx:List (List AK)} {i j:Nat} {x:AK} {a:List AK} (h:(bx.zipIdx.map λ(q,j)=>if j=i then q else q++[x])[j]? =some a): ∃q,bx[j]? =some q/\a=if j=i then q else q++[x]:=by
 rw[E5,GF] at h;cases hb:bx[j]? with
 |none=>rw[hb] at h;cases h
 |some q=>
  rw[hb] at h;refine⟨q,rfl,?_⟩;have:=Option.some.inj h;rw[<-this];show(if 0+j=i then _ else _)= _;rw[Nat.zero_add]
theorem post_at {bx:List (List AK)} {i j:Nat} {x:AK} {q:List AK} (h:bx[j]? =some q):(bx.zipIdx.map λ(q,j)=>if j=i then q else q++[x])[j]? =some (if j=i then q else q++[x]):=by
 rw[E5,GF,h];show some (if 0+j=i then _ else _)= _;rw[Nat.zero_add]
theorem Fe (q:List AK) (x:AK) (k:Int):ju (q++[x]) k=(ju q k||x.1==k):=by
 unfold ju;rw[List.any_append];simp
theorem J9 {α:Type}: ∀(l:List α) (k:Nat),(l.zipIdx k).map Prod.fst=l
 |[], _=>rfl
 |a::l,k=>by rw[G1,DA,J9 l (k+1)]
theorem S_ {bx:List (List AK)} {i:Nat} {x:AK} {k:Int} (a:x.1≠k):(bx.zipIdx.map λ(q,j)=>if j=i then q else q++[x]).countP (λq=>ju q k)=bx.countP λq=>ju q k:=by
 rw[Eo];have:((λq=>ju q k)∘λ(z:List AK×Nat)=>(match z with|(q,j)=>if j=i then q else q++[x]))=(λq=>ju q k)∘Prod.fst:=by
  funext ⟨q,j⟩;show ju (if j=i then q else q++[x]) k=ju q k;split
  ·rfl
  ·rw[Fe,beq_eq_false_iff_ne.2 a,Bool.or_false]
 rw[this, <-Eo,J9]
theorem Ta {bx:List (List AK)} {i:Nat} {x:AK} (hi:i<bx.length) (a: ∀q∈bx,ju q x.1=false):(bx.zipIdx.map λ(q,j)=>if j=i then q else q++[x]).countP (λq=>ju q x.1)=bx.length - 1:=by
 rw[Eo];have:(bx.zipIdx).countP ((λq=>ju q x.1)∘λ(z:List AK×Nat)=>(match z with|(q,j)=>if j=i then q else q++[x]))=bx.zipIdx.countP λz=>decide (z.2≠i):=by
  refine List.countP_congr λ⟨q,j⟩ b=>?_;have c:q∈bx:=(List.mem_zipIdx_iff_getElem?.1 b |> B1);show ju (if j=i then q else q++[x]) x.1=true<->decide (j≠i)=true;split
  ·rename_i e;rw[a q c,e];simp
  ·rename_i e;rw[Fe];simp[e]
 rw[this];have:=P9 i bx 0;rw[av (by omega)] at this;omega
end
end Go.Proofs.YtlcenllcmeebhaaGreat
