import Derived.Test.YtlcenllcmeebhaaGreatPGE
/-! What the statement leans on: texts joined and shortened by a program of mine. -/
set_option linter.unusedVariables false
set_option linter.unusedSimpArgs false
open Go renaming World->A2,Addr->AI,Value->BJ,MapEntry->F2
open Go.Proofs.Tryz renaming prog->AC
open List renaming getElem?_set_ne->Ag,getElem?_eq_some_iff->Aq,getElem?_set_self->B1,length_set->B2,getD_eq_getElem?_getD->B3,mem_map->B4,mem_filter->B6,mem_of_getElem?->B7,getElem?_eq_getElem->BP,range->Bx,getElem?_of_mem->CW,nodup_cons->DA,mem_cons_self->DB,mem_cons->DH,replicate->DQ,map_cons->Dg,mem_cons_of_mem->Dj,filter_sublist->Dk,mem_append_left->Dn,length_map->Dq,mem_append_right->Dr,mem_singleton->Dx,countP_pos_iff->FE,mem_range->FP,countP_cons->FQ,sum_cons->Fg,getElem?_map->Fi,ext_getElem?->Fm,length_cons->Fo,length_replicate->Ft,mem_append->Fw,countP_map->Fx,map_append->GF,sum_append->GG,filter_cons->GH,filter_eq_self->GI,nodup_range->GJ,any_eq_true->GS,eq_of_mem_replicate->Ga,getElem?_set->Gd,any_eq_false->Gi,length_append->Gj,zipIdx_cons->H4,pairwise_map->H5,getElem?_zipIdx->H6
open Classical renaming byContradiction->B5
open Int.ofNat renaming inj->BY
open Nat renaming eq_zero_or_pos->Dc,le_refl->FR,zero_le->G1,lt_succ_self->H7
open Go.IntKind renaming i64->Do
open Go.Value renaming nilFunc->E4
open Bool renaming and_eq_true->E5
open BitVec renaming ofInt->FS
open Int renaming toNat_of_nonneg->FU,toNat->GD
namespace Go.Proofs.YtlcenllcmeebhaaGreat.Mu
set_option maxRecDepth 100000
open Go.RX
abbrev sCl:List Sc:=[.int .i64,.int .u64,.int .u64,.int .u64]
abbrev sMk:List Sc:=[.int .i64,.int .i64,.int .i64,.int .i64,.int .u64,.int .u64,.int .u64,.int .u64,.int .i64]
noncomputable def U2:dD AC:={V0 with quiet:=[64,160,199,152,154,201,161,82,24]++V0.quiet}
noncomputable def U3:dD AC:={U2 with dyn:=some (.bu [.agg iv,.one .bool])}
theorem Sk (p:Option AI) (w:A2) (a:Int->A2->Prop):(aJ U2 (λ_=>[]) 160 [ag p] w a)=(
 p.isSome=true/\p.isSome=true/\(ad p 4).isSome=true/\cH w (ad (ad p 4) 1) λx=>ao w (a (aG .i64 (wO .u64 x 16)))):=by kernel_rfl
theorem Sm (p:Option AI) (w:A2) (e:Int->A2->Prop):(aJ U2 (λ_=>[]) 199 [ag p] w e)=(
 ∀w1,Ext w w1-> ∀c,Ext (w1.alloc (Obj.map ⟨[]⟩ 0)) c-> ∃(r:Nat), ∃(es:Array F2), ∃(a:Nat),some w1.heap.size=some r/\bD c r es a/\gS c r .i64 6 (aa 1) es a λb=> ∀d,Ext b d-> ∃(r:Nat), ∃(es:Array F2), ∃(a:Nat),some w1.heap.size=some r/\bD d r es a/\gS d r .i64 7 (aa 2) es a λb=>p.isSome=true/\p.isSome=true/\(ad p 4).isSome=true/\aR b (ad (ad p 4) 0) λx=> ∃(f:Int),jM b (some w1.heap.size) .i64 x (aa 0) (aa f)/\ao b (e
 f)):=by kernel_rfl
theorem Z0 (p:Option AI) (n:Int) (w:A2) (a:Option AI->A2->Prop):(aJ U2 (λ_=>[]) 64 [ag p,aa n] w a)=(
 ((!(p.isNone||decide (n<0)))=true->p.isSome=true)/\((!(p.isNone||decide (n<0)))=true->p.isSome=true)/\aj w (some !(p.isNone||decide (n<0))) (ad p 3) eJ λx=>aH (p.isNone||decide (n<0)||decide (n>=(↑x.2.1:Int))) (ao w (a none)) (e8 p 3 w λx=>(x.1.isSome=true/\0<=n/\n<(↑x.2.1:Int))/\fT w (ad x.1 (n.toNat*1)) λx=>ao w (a x))):=by kernel_rfl
theorem VZ (p:Option AI) (n v k a b c:Int) (w:A2) (f:Int->A2->Prop):(aJ U2 (λ_=>[]) 29 [ag p,aa n,aa v,.agg ⟨[aa k,ax a,ax b,ax c]⟩] w f)=(
 aM w ⟨[aa k,ax a,ax b,ax c]⟩ 31 λb d=> ∃(x:Option AI),af AC 64 [ag p,aa n] d (ag x)/\((!p.isNone)=true->p.isSome=true)/\((!p.isNone)=true->p.isSome=true)/\aj d (some !p.isNone) (ad p 0) jh λg=>aH (p.isNone||g.isNone) (ao d (f 10)) (aH x.isNone (ao d (f 2)) (cL x 2 d λh=>aH (h != 0) (ao d (f 9)) (aj d none (ae b) sW λ(e:Int×Int×Int×Int×Unit)=>x.isSome=true/\x.isSome=true/\aA d (ad x 2) [aa 1] λd=>cC d (ae b) sW
 e/\x.isSome=true/\x.isSome=true/\aA d (ad x 3) [aa v] λd=>cC d (ae b) sW e/\x.isSome=true/\x.isSome=true/\aA d (ad x 4) [aa e.1,ax e.2.1,ax e.2.2.1,ax e.2.2.2.1] λd=>ao d (f 0))))):=by kernel_rfl
theorem Sn (p:Option AI) (f g h k a b c i j:Int) (w:A2) (l:Unit->A2->Prop):(aJ U2 (λ_=>[]) 155 [ag p,.agg ⟨[aa f,aa g,aa h,aa k,ax a,ax b,ax c,ax i,aa j]⟩] w l)=(
 aM w ⟨[aa f,aa g,aa h,aa k,ax a,ax b,ax c,ax i,aa j]⟩ 86 λb d=>e8 p 5 d λx=>aj d none (ae b) T5 λ(e:Int×Int×Int×Int×Int×Int×Int×Int×Int×Unit)=>aM d {toList:=[aa e.1,aa e.2.1,aa e.2.2.1,aa e.2.2.2.1,ax e.2.2.2.2.1,ax e.2.2.2.2.2.1,ax e.2.2.2.2.2.2.1,ax e.2.2.2.2.2.2.2.1,aa e.2.2.2.2.2.2.2.2.1]} 86 λb d=> ∀w1,Ext d w1->mz w1 86 9 72 ⟨[aa 0,aa 0,.int .i64
 0,aa 0,ax 0,ax 0,ax 0,ax 0,aa 0]⟩ (x.1,x.2.1,x.2.2) (some ⟨b,0,none⟩,1,1) λ(r:Option AI×Nat×Nat) d=>p.isSome=true/\p.isSome=true/\aA d (ad p 5) [.slice r.1 r.2.1 r.2.2] λd=>ao d (l ())):=by kernel_rfl
abbrev pF (b:(Int×Int×Unit)×Bool×Unit->A2->Prop) (c:A2) (a:Nat):Prop:=
 aA c (ae a) [ax 0,aa 0] λd=>ao d λw1=>aj w1 none (ae a) cw λ(x:Int×Int×Unit)=>b ((x.1,x.2.1,()),false,()) w1
abbrev wh (a:Int):Prop:=
 0<=a/\a<(↑5:Int)
abbrev wi (n:Int) (e:(Int×Int×Unit)×Bool×Unit->A2->Prop) (g:A2) (f:Nat) (b:(Int×Int×Unit)×Bool×Unit) (c:Nat) (d:Option AI):Prop:=
 aA g (ae f) [ax b.1.1,aa b.1.2.1] λa=>aH (!b.2.1) (pF e a c) (bE d 1 a λx=>d.isSome=true/\aA a d [aa n,ag x,aa 0,aa 0,aa 0,ax 0,ax 0,ax 0,ag none,aa 0,ax 0,aa 0,aa 0,.slice none 0 0] λa=>aj a none (ae f) cw λ(x:Int×Int×Unit)=>aA a (ae c) [ax x.1,aa x.2.1] λa=>ao a λw1=>aj w1 none (ae c) cw λ(x:Int×Int×Unit)=>e ((x.1,x.2.1,()),true,()) w1)
abbrev wj (n:Int) (c:(Int×Int×Unit)×Bool×Unit->A2->Prop) (a:BJ×BJ×BJ×BJ×BJ×Unit) (d:Int) (b:Option AI) (e:A2) (f:Nat) (g:Nat):Prop:=
 zO AC (match [a.1,a.2.1,a.2.2.1,a.2.2.2.1,a.2.2.2.2.1].get?Internal d.toNat with|some x=>x|none=> .tuple ⟨[]⟩) (.bu [.agg [.int .u64,.int .i64],.one .bool]) [ag b] e λ(x:(Int×Int×Unit)×Bool×Unit) h=>wi n c h f x g b
abbrev wo (p:Option AI) (n:Int) (e:(Int×Int×Unit)×Bool×Unit->A2->Prop) (d:Option AI) (f:A2) (g:Nat):Prop:=
 cL d 2 f λx=>(az AC 68 (.el (.agg [.func,.func,.func,.func,.func])) [ag p] f λc a=>cC a (ad d 2) aT x/\True/\True/\wh x/\(zO AC (match [c.1,c.2.1,c.2.2.1,c.2.2.2.1,c.2.2.2.2.1].get?Internal x.toNat with|some x=>x|none=> .tuple ⟨[]⟩) (.bu [.agg [.int .u64,.int .i64],.one .bool]) [ag d] a λ(x:(Int×Int×Unit)×Bool×Unit) a=>aM a ⟨[ax 0,aa 0]⟩ 61 λb a=>wi n e a b
 x g d)/\aM a ⟨[ax 0,aa 0]⟩ 61 λb a=>wj n e c x d a b g)/\aM f ⟨[ax 0,aa 0]⟩ 61 λb a=>az AC 68 (.el (.agg [.func,.func,.func,.func,.func])) [ag p] a λc a=>cC a (ad d 2) aT x/\True/\True/\wh x/\wj n e c x d a b g
theorem So (p:Option AI) (n:Int) (w:A2) (c:(Int×Int×Unit)×Bool×Unit->A2->Prop):(bQ U3 (λ_=>[]) 31 [ag p,aa n] w c)=(
 aM w ⟨[ax 0,aa 0]⟩ 61 λb a=> ∃(x:Option AI),af AC 64 [ag p,aa n] a (ag x)/\aH x.isNone (pF c a b) (cL x 2 a λf=>aH (f != 3) (bE p 2 a λg=>az AC 66 (.bu [.agg [.int .i64,.int .i64,.int .i64],.one .bool]) [ag g,aa n] a λ(d:(Int×Int×Int×Unit)×Bool×Unit) a=>aM a ⟨[aa 0,aa 0,aa 0]⟩ 147 λe a=>aA a (ae e) [aa d.1.1,aa d.1.2.1,aa d.1.2.2.1] λa=>aH d.2.1 (true=true/\aR a (ad
 (ae e) 1) λh=>true=true/\aR a (ad (ae e) 2) λi=>az AC 67 (.bu []) [ag x,aa h,aa i] a λx a=>pF c a b) (wo p n c x a b)) (wo p n c x a b))):=by kernel_rfl
theorem HM (p:Option AI) (w:A2) (c:BJ×BJ×BJ×BJ×BJ×Unit->A2->Prop):(bQ U2 (λ_=>[]) 68 [ag p] w c)=(
 aM w ⟨[E4,E4,E4,E4,E4]⟩ 154 λb a=>aA a (ae b) [.func (.func 109) ⟨[ag p]⟩ ⟨[]⟩,.func (.func 110) ⟨[ag p]⟩ ⟨[]⟩,.func (.func 111) ⟨[ag p]⟩ ⟨[]⟩,.func (.func 112) ⟨[ag p]⟩ ⟨[]⟩,.func (.func 113) ⟨[ag p]⟩ ⟨[]⟩] λa=>ao a λw1=>aj w1 none (ae b) (.agg [.func,.func,.func,.func,.func]) λx=>c (x.1,x.2.1,x.2.2.1,x.2.2.2.1,x.2.2.2.2.1,()) w1):=by kernel_rfl
theorem HN (p:Option AI) (t g:Int) (w:A2) (a:Unit->A2->Prop):(aJ U2 (λ_=>[]) 67 [ag p,aa t,aa g] w a)=(
 aH (g== -1) (bE p 1 w λx=>az AC 107 (.el aT) [ag x,aa t] w λ(x:Int) b=>ao b (a ())) (bE p 1 w λx=>az AC 108 (.el rq) [ag x,aa t,aa g] w λx b=>ao b (a ()))):=by kernel_rfl
def um:Nat->aY:=(λ|4=>[(18,Go.RX.El.one (Go.RX.Sc.int Do))]| _=>[])
theorem Sp (p:Option AI) (w:A2) (b:Int->A2->Prop):(aJ U2 um 151 [ag p] w b)=(
 bE p 1 w λx=>az AC 197 (.el rq) [ag x] w λx a=>bE p 1 a λx=>az AC 198 (.el eJ) [ag x] a λx a=> ∃(I:Nat->Int×Unit->A2->Prop),(∃n, ∀w1,Ext a w1->I n (0,()) w1)/\ ∀(n:Nat) (s:Int×Unit) (w1:A2),I n s w1->aH (decide (s.1<(↑x.2.1:Int))) ((x.1.isSome=true/\0<=s.1/\s.1<(↑x.2.1:Int))/\aR w1 (ad x.1 (GD s.1*1)) λx=>bE p 0 w1 λf=>az AC 43 (.el aT) [ag f,aa x] w1 λ(h:Int) a=>sV p 4 a λg=> ∀w1,Ext a w1-> ∃(r:Nat), ∃
 (es:Array F2), ∃(c:Nat),g=some r/\bD w1 r es c/\z9 w1 r .i64 x es c λa=>az AC 155 (.bu []) [ag p,.agg {toList:=[aa 2,aa 0,aa x,aa 0,ax 0,ax 0,ax 0,ax 0,aa 0]}] a λx a=> ∀d,Ext a d-> ∃(e:Nat),e<n/\I e (aI .i64 s.1 1,()) d) (ao w1 (b (↑x.2.1:Int)))):=by kernel_rfl
theorem Sq (p x:Option AI) (w:A2) (c:(Int×Int×Unit)×Bool×Unit->A2->Prop):(bQ U2 (λ_=>[]) 109 [ag p,ag x] w c)=(
 aM w ⟨[ax 0,aa 0]⟩ 61 λb a=>az AC 151 (.el aT) [ag p] a λ(x:Int) a=>aA a (ae b) [ax 0,aa 0] λa=>ao a λw1=>aj w1 none (ae b) cw λ(x:Int×Int×Unit)=>c ((x.1,x.2.1,()),false,()) w1):=by kernel_rfl
theorem MM (p x:Option AI) (w:A2) (e:(Int×Int×Unit)×Bool×Unit->A2->Prop):(bQ U2 (λ_=>[]) 112 [ag p,ag x] w e)=(
 aM w ⟨[ax 0,aa 0]⟩ 61 λb a=>cL x 9 a λc=>x.isSome=true/\x.isSome=true/\(ad x 4).isSome=true/\cH a (ad (ad x 4) 1) λd=>bE p 1 a λh=>cL x 0 a λi=>az AC 158 (.el aT) [ag h,aa i] a λ(l:Int) a=>x.isSome=true/\x.isSome=true/\(ad x 4).isSome=true/\aR a (ad (ad x 4) 0) λj=>aH (j==7) (bE p 0 a λf=>x.isSome=true/\x.isSome=true/\(ad x 4).isSome=true/\cH a (ad (ad x 4) 2) λg=>az AC 23 (.el jh) [ag f] a λ
 k a=>cC a (ad (ad x 4) 2) ou g/\True/\True/\True/\az AC 38 (.el aT) [ag k,aa (aI .i64 (gq .i64 16 c) (aG .i64 (ff d 16))),ax g] a λ(m:Int) a=>x.isSome=true/\x.isSome=true/\(ad x 4).isSome=true/\cH a (ad (ad x 4) 2) λx=>az AC 155 (.bu []) [ag p,.agg {toList:=[aa 4,aa 0,aa (aI .i64 (gq .i64 16 c) (aG .i64 (ff d 16))),aa 0,ax 0,ax 0,ax 0,ax x,aa 0]}] a λx a=>aA a (ae b) [.int .u64
 0,aa 0] λa=>ao a λw1=>aj w1 none (ae b) cw λ(x:Int×Int×Unit)=>e ((x.1,x.2.1,()),true,()) w1) (bE p 0 a λx=>az AC 23 (.el jh) [ag x] a λx a=>az AC 37 (.bu [.one (.int .u64),.one (.int .i64)]) [ag x,aa (aI .i64 (gq .i64 16 c) (aG .i64 (ff d 16)))] a λ(x:Int×Int×Unit) a=>az AC 155 (.bu []) [ag p,.agg {toList:=[aa 3,aa 0,aa (aI .i64 (gq .i64 16 c) (aG .i64 (ff d 16))),aa 0,ax 0,ax 0,
 ax 0,ax x.1,aa 0]}] a λf a=>aA a (ae b) [ax x.1,aa 0] λa=>ao a λw1=>aj w1 none (ae b) cw λ(x:Int×Int×Unit)=>e ((x.1,x.2.1,()),true,()) w1)):=by kernel_rfl
theorem Sr (p x:Option AI) (w:A2) (e:(Int×Int×Unit)×Bool×Unit->A2->Prop):(bQ U2 (λ_=>[]) 111 [ag p,ag x] w e)=(
 aM w ⟨[ax 0,aa 0]⟩ 61 λb a=>bE x 8 a λg=>bE p 0 a λj=>az AC 23 (.el jh) [ag j] a λk a=>cC a (ad x 8) jh g/\True/\True/\az AC 22 (.el rq) [ag g,ag k] a λl a=>aH (!l) (aA a (ae b) [ax 0,aa 0] λa=>ao a λw1=>aj w1 none (ae b) cw λ(x:Int×Int×Unit)=>e ((x.1,x.2.1,()),false,()) w1) (bE x 8 a λm=> ∃(c:(Int×Int×Int×Int×Unit)×Bool×Unit),af AC 24 [ag m] a (.tuple {toList
 :=[.agg ⟨[aa c.1.1,aa c.1.2.1,aa c.1.2.2.1,aa c.1.2.2.2.1]⟩,.bool c.2.1]})/\aM a ⟨[aa 0,aa 0,aa 0,aa 0]⟩ 48 λd a=>aA a (ae d) [aa c.1.1,aa c.1.2.1,aa c.1.2.2.1,aa c.1.2.2.2.1] λa=>true=true/\aR a (ad (ae d) 3) λn=>aH (n != 0) (bE p 1 a λf=>cL x 0 a λx=>az AC 158 (.el aT) [ag f,aa x] a λ(x:Int) a=>true=true/\aR a (ad (ae d) 3) λx=>aA a (ae b) [ax 0,aa x]
 λa=>ao a λw1=>aj w1 none (ae b) cw λ(x:Int×Int×Unit)=>e ((x.1,x.2.1,()),true,()) w1) (bE x 1 a λf=>cL x 3 a λo=> ∃(h:Int),af AC 160 [ag x] a (aa h)/\true=true/\aR a (ad (ae d) 0) λq=>true=true/\aR a (ad (ae d) 1) λr=>az AC 159 (.el aT) [ag f,.agg ⟨[aa o,aa h,aa q,aa r]⟩] a λ(s:Int) a=>true=true/\aR a (ad (ae d) 0) λi=>x.isSome=true/\x.isSome=true/\aA a
 (ad x 2) [aa 3] λa=>cC a (ad (ae d) 0) aT i/\True/\x.isSome=true/\x.isSome=true/\aA a (ad x 9) [aa i] λa=>aA a (ae b) [ax 0,aa 0] λa=>ao a λw1=>aj w1 none (ae b) cw λ(x:Int×Int×Unit)=>e ((x.1,x.2.1,()),false,()) w1))):=by kernel_rfl
def uo:Nat->aY:=(λ|4=>[(24,Go.RX.El.one (Go.RX.Sc.int Do))]| _=>[])
theorem Ss (p x:Option AI) (w:A2) (d:(Int×Int×Unit)×Bool×Unit->A2->Prop):(bQ U2 uo 113 [ag p,ag x] w d)=(
 aM w ⟨[ax 0,aa 0]⟩ 61 λb a=>bE p 2 a λh=>cL x 12 a λi=> ∃e,af AC 161 [ag h,aa i] a (.bool e)/\aH (!e) (aA a (ae b) [ax 0,aa 0] λa=>ao a λw1=>aj w1 none (ae b) cw λ(x:Int×Int×Unit)=>d ((x.1,x.2.1,()),false,()) w1) (e8 x 13 a λc=> ∃(I:Nat->Int×Unit->A2->Prop),(∃n, ∀w1,Ext a w1->I n (0,()) w1)/\ ∀(n:Nat) (s:Int×Unit) (w1:A2),I n s w1->aH (decide (s.1<(↑c.2.1:Int))) ((c.1.isSome=true/\0<=s.1
 /\s.1<(↑c.2.1:Int))/\aR w1 (ad c.1 (GD s.1*1)) λx=>bE p 1 w1 λj=>az AC 162 (.el aT) [ag j,aa x] w1 λ(x:Int) a=> ∀f,Ext a f-> ∃(g:Nat),g<n/\I g (aI .i64 s.1 1,()) f) (x.isSome=true/\x.isSome=true/\aj w1 none (ad x 10) cw λ(x:Int×Int×Unit)=>aA w1 (ae b) [ax x.1,aa x.2.1] λa=>ao a λw1=>aj w1 none (ae b) cw λ(x:Int×Int×Unit)=>d ((x.1,x.2.1,()),true,()) w1))):=by kernel_rfl
theorem HO (p x:Option AI) (w:A2) (e:Bool->A2->Prop):(aJ U2 (λ_=>[]) 152 [ag p,ag x] w e)=(
 ∃(a:Int),af AC 199 [ag x] w (aa a)/\(decide (a>0)=true->p.isSome=true)/\(decide (a>0)=true->p.isSome=true)/\aj w (some (decide (a>0))) (ad p 0) jh λf=>(decide (a>0)=true->x.isSome=true)/\(decide (a>0)=true->x.isSome=true)/\aj w (some (decide (a>0))) (ad x 3) aT λ(g:Int)=> ∃b,(decide (a>0)=true->af AC 19 [ag f,aa g] w (.bool b))/\((decide (a>0)&&b)=true->x.isSome=true)/\((decide (a>0)&&b)=true->x.isSome=true)/\aj w
 (some (decide (a>0)&&b)) (ad x 4) sW λ(d:Int×Int×Int×Int×Unit)=> ∃c,((decide (a>0)&&b)=true->af AC 76 [.agg ⟨[aa d.1,ax d.2.1,ax d.2.2.1,ax d.2.2.2.1]⟩] w (.bool c))/\((decide (a>0)&&b&&c)=true->x.isSome=true)/\((decide (a>0)&&b&&c)=true->x.isSome=true)/\((decide (a>0)&&b&&c)=true->(ad x 4).isSome=true)/\aj w (some (decide (a>0)&&b&&c)) (ad (ad x 4) 1) ou λ(x:Int)=>ao w (e (decide (a>0)&&b&&c&&decide
 (x<1048576)))):=by kernel_rfl
def oe:Nat->aY:=(λ|2=>[(12,Go.RX.El.one (Go.RX.Sc.int Do))]| _=>[])
theorem Fa (p x:Option AI) (w:A2) (i:Bool->A2->Prop):(aJ U2 oe 154 [ag p,ag x] w i)=(
 e8 p 3 w λj=> ∃(I:Nat->Int×Unit->A2->Prop),(∃n, ∀w1,Ext w w1->I n (0,()) w1)/\ ∀(n:Nat) (s:Int×Unit) (w1:A2),I n s w1->aH (decide (s.1<(↑j.2.1:Int))) ((j.1.isSome=true/\0<=s.1/\s.1<(↑j.2.1:Int))/\fT w1 (ad j.1 (GD s.1*1)) λa=>Xy w1 a x/\((!decide (a=x))=true->x.isSome=true)/\((!decide (a=x))=true->x.isSome=true)/\aj w1 (some !decide (a=x)) (ad x 3) aT λ(k:Int)=>aH (decide (a=x)||k != 0) (∀f,Ext w1 f-> ∃(g:Nat),g<n/\I g (aI .i64 s.1 1,
 ()) f) (x.isSome=true/\x.isSome=true/\(ad x 4).isSome=true/\aR w1 (ad (ad x 4) 0) λd=>((d==1)=true->a.isSome=true)/\((d==1)=true->a.isSome=true)/\aj w1 (some (d==1)) (ad a 2) aT λ(h:Int)=>((d==1&&h==4)=true->a.isSome=true)/\((d==1&&h==4)=true->a.isSome=true)/\((d==1&&h==4)=true->(ad a 4).isSome=true)/\aj w1 (some (d==1&&h==4)) (ad (ad a 4) 0) aT λ(l:Int)=>aH (d==1&&h==4&&l==2) (ao w1 (i true)) (x.isSome=true/\
 x.isSome=true/\(ad x 4).isSome=true/\aR w1 (ad (ad x 4) 0) λb=>((b==2)=true->a.isSome=true)/\((b==2)=true->a.isSome=true)/\aj w1 (some (b==2)) (ad a 2) aT λ(c:Int)=>((b==2&&decide (c>=2))=true->a.isSome=true)/\((b==2&&decide (c>=2))=true->a.isSome=true)/\aj w1 (some (b==2&&decide (c>=2))) (ad a 3) aT λ(e:Int)=>((b==2&&decide (c>=2)&&decide (e>0))=true->a.isSome=true)/\((b==2&&decide (c>=2)&&decide (e>0))=true->a.isSome=true)/\
 aj w1 (some (b==2&&decide (c>=2)&&decide (e>0))) (ad a 3) aT λ(m:Int)=>((b==2&&decide (c>=2)&&decide (e>0))=true->x.isSome=true)/\((b==2&&decide (c>=2)&&decide (e>0))=true->x.isSome=true)/\((b==2&&decide (c>=2)&&decide (e>0))=true->(ad x 4).isSome=true)/\aj w1 (some (b==2&&decide (c>=2)&&decide (e>0))) (ad (ad x 4) 1) ou λ(x:Int)=>aH (b==2&&decide (c>=2)&&decide (e>0)&&aG .u64 m==x) (ao w1 (i true)) (∀f,Ext w1 f-> ∃(g:Nat),g<n/\
 I g (aI .i64 s.1 1,()) f)))) (ao w1 (i false))):=by kernel_rfl
def og:Nat->aY:=(λ|4=>[(4,Go.RX.El.one Go.RX.Sc.slice),(15,Go.RX.El.one (Go.RX.Sc.int Do))]| _=>[])
theorem Fb (p:Option AI) (w:A2) (f:Option AI×Nat×Nat->A2->Prop):(aJ U2 og 156 [ag p] w f)=(
 bE p 0 w λx=>az AC 18 (.el jh) [ag x] w λx a=> ∃(g:Int),af AC 62 [ag x] a (aa g)/\ ∃(I:Nat->(Option AI×Nat×Nat)×Int×Unit->A2->Prop),(∃n, ∀w1,Ext a w1->I n ((none,0,0),0,()) w1)/\ ∀(n:Nat) (s:(Option AI×Nat×Nat)×Int×Unit) (w1:A2),I n s w1->aH (decide (s.2.1<g)) (∃(c:(Int×Int×Int×Int×Unit)×Bool×Unit),af AC 25 [ag x,aa s.2.1] w1 (.tuple {toList:=[.agg ⟨[aa c.1.1,aa c.1.2.1,aa c.1.2.2.1,.int .i64
 c.1.2.2.2.1]⟩,.bool c.2.1]})/\aM w1 ⟨[aa 0,aa 0,aa 0,aa 0]⟩ 52 λb a=>aA a (ae b) [aa c.1.1,aa c.1.2.1,aa c.1.2.2.1,aa c.1.2.2.2.1] λa=>true=true/\aR a (ad (ae b) 0) λx=>((x==5)=true->p.isSome=true)/\((x==5)=true->p.isSome=true)/\aj a (some (x==5)) (ad p 4) N9 λj=> ∃h,((x==5)=true->jM a j .i64 s.2.1 (.bool false) (.bool h))/\aH (x==5&& !h) (sV p 4 a λx=> ∀w1,Ext a w1-> ∃(r:Nat), ∃(es:Array F2), ∃(i:Nat),x
 =some r/\bD w1 r es i/\gS w1 r .i64 s.2.1 (.bool true) es i λa=>aM a ⟨[aa s.2.1]⟩ 3 λb a=> ∀w1,Ext a w1->mz w1 3 1 8 ⟨[aa 0]⟩ (s.1.1,s.1.2.1,s.1.2.2) (some ⟨b,0,none⟩,1,1) λ(r:Option AI×Nat×Nat) a=> ∀d,Ext a d-> ∃(e:Nat),e<n/\I e ((r.1,r.2.1,r.2.2),aI .i64 s.2.1 1,()) d) (∀d,Ext a d-> ∃(e:Nat),e<n/\I e ((s.1.1,s.1.2.1,s.1.2.2),aI .i64 s.2.1 1,()) d)) (ao w1 (f (s.1.1,s.1.2.1,s.1.2.2)))):=by kernel_rfl
abbrev uq (b:(Int×Int×Unit)×Bool×Unit->A2->Prop) (c:A2) (a:Nat):Prop:=
 aA c (ae a) [ax 0,aa 0] λd=>ao d λw1=>aj w1 none (ae a) cw λ(x:Int×Int×Unit)=>b ((x.1,x.2.1,()),false,()) w1
abbrev nW (a:(Int×Int×Unit)×Bool×Unit->A2->Prop) (b:A2) (c:Nat):Prop:=
 ao b λw1=>aj w1 none (ae c) cw λ(x:Int×Int×Unit)=>a ((x.1,x.2.1,()),true,()) w1
abbrev ur (x:Option AI) (a:Int):Prop:=
 (a==0)=true->x.isSome=true
abbrev jc (x:Option AI) (c:(Int×Int×Unit)×Bool×Unit->A2->Prop) (a:A2) (b:Nat):Prop:=
 x.isSome=true/\x.isSome=true/\aj a none (ad x 10) cw λ(x:Int×Int×Unit)=>aA a (ae b) [ax x.1,aa x.2.1] λd=>nW c d b
abbrev uu (x:Option AI) (b:(Int×Int×Unit)×Bool×Unit->A2->Prop) (c:A2) (d:Int×Int×Unit) (e:Nat):Prop:=
 x.isSome=true/\x.isSome=true/\aA c (ad x 12) [aa d.1] λa=>x.isSome=true/\x.isSome=true/\aA a (ad x 2) [aa 4] λa=>uq b a e
abbrev nX (p:Option AI) (x:Option AI) (c:(Int×Int×Unit)×Bool×Unit->A2->Prop) (b:A2) (d:Nat) (e:Int) (f:Int):Prop:=
 x.isSome=true/\x.isSome=true/\(ad x 10).isSome=true/\aR b (ad (ad x 10) 1) λg=>aH (g != 0) (jc x c b d) (az AC 67 (.bu []) [ag x,aa e,aa (aG .i64 f)] b λk a=>bE p 2 a λh=>cL x 0 a λi=>az AC 157 (.bu [.one (.int .i64),.one (.int .i64)]) [ag h,aa i,aa e,aa (aG .i64 f)] a λ(j:Int×Int×Unit) a=>uu x c a j d)
theorem MN (p x:Option AI) (w:A2) (c:(Int×Int×Unit)×Bool×Unit->A2->Prop):(bQ U2 (λ_=>[]) 110 [ag p,ag x] w c)=(
 aM w ⟨[ax 0,aa 0]⟩ 61 λb a=> ∃l,af AC 152 [ag p,ag x] a (.bool l)/\aH l (az AC 153 (.bu []) [ag p,ag x] a λx a=>uq c a b) (∃m,af AC 154 [ag p,ag x] a (.bool m)/\aH m (aA a (ae b) [ax 0,aa 9] λa=>nW c a b) (cL x 3 a λe=>ur x e/\ur x e/\aj a (some (e==0)) (ad x 4) sW λ(f:Int×Int×Int×Int×Unit)=>aH (e==0&&(f.1==17&&(f.2.1==0&&(f.2.2.1==0&&
 (f.2.2.2.1==0&&true))))) (az AC 151 (.el aT) [ag p] a λ(x:Int) a=>aA a (ae b) [ax (aG .u64 x),aa 0] λa=>nW c a b) (bE p 0 a λr=>cL x 3 a λs=>x.isSome=true/\x.isSome=true/\aj a none (ad x 4) sW λ(g:Int×Int×Int×Int×Unit)=>az AC 42 (.el cw) [ag r,aa s,.agg ⟨[aa g.1,ax g.2.1,ax g.2.2.1,ax g.2.2.2.1]⟩] a λ(n:Int×Int×Unit) a=>x.isSome=true/\x.isSome=true/\aA a (ad x 10) [ax n.1,
 aa n.2.1] λa=>cL x 3 a λt=>x.isSome=true/\x.isSome=true/\aj a none (ad x 4) sW λ(h:Int×Int×Int×Int×Unit)=>x.isSome=true/\x.isSome=true/\aj a none (ad x 10) cw λ(o:Int×Int×Unit)=>az AC 155 (.bu []) [ag p,.agg {toList:=[aa 1,aa t,aa 0,aa h.1,ax h.2.1,ax h.2.2.1,ax h.2.2.2.1,ax o.1,aa o.2.1]}] a λA a=>az AC 156 (.el eJ) [ag p] a λi a=>x.isSome=true/\x.isSome=true/\
 aA a (ad x 13) [.slice i.1 i.2.1 i.2.2] λa=>cL x 3 a λj=>x.isSome=true/\x.isSome=true/\(ad x 4).isSome=true/\cH a (ad (ad x 4) 1) λk=>x.isSome=true/\x.isSome=true/\(ad x 4).isSome=true/\aR a (ad (ad x 4) 0) λd=>aH (d==2) (x.isSome=true/\x.isSome=true/\(ad x 4).isSome=true/\cH a (ad (ad x 4) 1) λq=>x.isSome=true/\x.isSome=true/\(ad x 10).isSome=true/\aR a (ad (ad x 10) 1) λu=>aH (u != 0) (jc x c a b) (az AC 67 (.bu []) [.pointer
 x,aa (aG .i64 q),aa (-1)] a λB a=>bE p 2 a λv=>cL x 0 a λy=>az AC 157 (.bu [.one (.int .i64),.one (.int .i64)]) [ag v,aa y,aa (aG .i64 q),aa (-1)] a λ(z:Int×Int×Unit) a=>uu x c a z b)) (aH (d==4) (aH (d==4) (nX p x c a b j k) (jc x c a b)) (aH (d==5) (aH (d==5) (nX p x c a b j k) (jc x c a b)) (aH (d==10) (nX p x c a b j k) (jc x c a
 b)))))))):=by kernel_rfl
theorem Su (p x:Option AI) (w:A2) (c:Unit->A2->Prop):(aJ U2 (λ_=>[]) 153 [ag p,ag x] w c)=(
 bE p 1 w λi=>cL x 0 w λj=>az AC 200 (.el aT) [ag i,aa j] w λ(q:Int) a=>bE x 1 a λk=>cL x 3 a λl=> ∃(d:Int),af AC 160 [ag x] a (aa d)/\ ∃(e:Int),af AC 199 [ag x] a (aa e)/\ ∃(b:Int×Int×Unit),af AC 201 [ag k,aa l,aa d,aa e] a (.tuple ⟨[aa b.1,aa b.2.1]⟩)/\aH (b.2.1==0) (x.isSome=true/\x.isSome=true/\aA a (ad x 2) [aa 3] λa=>x.isSome=true/\
 x.isSome=true/\aA a (ad x 9) [aa b.1] λa=>ao a (c ())) (bE p 0 a λm=>cL x 3 a λn=> ∃(f:Int),af AC 21 [ag m,aa n] a (aa f)/\ ∃(g:Int),af AC 160 [ag x] a (aa g)/\ ∃(h:Int),af AC 199 [ag x] a (aa h)/\az AC 20 (.el jh) [aa f,aa g,aa h] a λo a=>x.isSome=true/\x.isSome=true/\aA a (ad x 2) [aa 2] λa=>x.isSome=true/\x.isSome=true/\aA a (ad x 8)
 [ag o] λa=>ao a (c ()))):=by kernel_rfl
theorem MO (p:Option AI) (n:Int) (w:A2) (a:Int->A2->Prop):(aJ U2 (λ_=>[]) 49 [ag p,aa n] w a)=(
 ∃(x:Option AI),af AC 64 [ag p,aa n] w (ag x)/\aH x.isNone (ao w (a 0)) (cL x 2 w λx=>ao w (a x))):=by kernel_rfl
theorem MP (p:Option AI) (w:A2) (a:Option AI×Nat×Nat->A2->Prop):(aJ U2 (λ_=>[]) 41 [ag p] w a)=(
 aH p.isNone (ao w (a (none,0,0))) (e8 p 5 w λx=> ∀w1,Ext w w1->mz w1 86 9 72 ⟨[aa 0,aa 0,aa 0,aa 0,ax 0,ax 0,ax 0,ax 0,aa 0]⟩ (none,0,0) (x.1,x.2.1,x.2.2) λ(r:Option AI×Nat×Nat) b=>ao b (a (r.1,r.2.1,r.2.2)))):=by kernel_rfl
theorem MQ (p:Option AI) (n:Int) (w:A2) (a:Option AI×Nat×Nat->A2->Prop):(aJ U2 (λ_=>[]) 51 [ag p,aa n] w a)=(
 ∃(x:Option AI),af AC 64 [ag p,aa n] w (ag x)/\aH x.isNone (ao w (a (none,0,0))) (bE x 1 w λx=>az AC 83 (.el eJ) [ag x] w λx b=>ao b (a (x.1,x.2.1,x.2.2)))):=by kernel_rfl
theorem Sv (p:Option AI) (n:Int) (w:A2) (a:Int->A2->Prop):(aJ U2 (λ_=>[]) 50 [ag p,aa n] w a)=(
 ∃(x:Option AI),af AC 64 [ag p,aa n] w (ag x)/\aH x.isNone (ao w (a 0)) (bE p 2 w λx=> ∃(b:Int),af AC 82 [ag x,aa n] w (aa b)/\ao w (a b))):=by kernel_rfl
theorem MV (p:Option AI) (w:A2) (a:Option AI->A2->Prop):(aJ U2 (λ_=>[]) 17 [ag p] w a)=(
 aH p.isNone (ao w (a none)) (bE p 0 w λx=>ao w (a x))):=by kernel_rfl
theorem Fc (p:Option AI) (w:A2) (a:Option AI×Nat×Nat->A2->Prop):(aJ U2 (λ_=>[]) 32 [ag p] w a)=(
 aH p.isNone (ao w (a (none,0,0))) (bE p 1 w λx=>az AC 69 (.el eJ) [ag x] w λx b=>ao b (a (x.1,x.2.1,x.2.2)))):=by kernel_rfl
def wq:Nat->aY:=(λ|10=>[(45,Go.RX.El.one (Go.RX.Sc.int Do))]| _=>[])
theorem V2 (f c l:Int) (w:A2) (d:Option AI×Int×Unit->A2->Prop):(aJ U2 wq 52 [aa f,aa c,aa l] w d)=(
 az AC 40 (.bu [.one .ptr,.one (.int .i64)]) [aa f] w λ(x:Option AI×Int×Unit) a=>aH (x.2.1 != 0) (ao a (d (none,x.2.1,()))) (az AC 84 (.bu [.one .ptr,.one (.int .i64)]) [aa c] a λ(e:Option AI×Int×Unit) a=>aH (e.2.1 != 0) (ao a (d (none,e.2.1,()))) (∀w1,Ext a w1->aM (w1.alloc (Obj.map ⟨[]⟩ 0)) ⟨[ag x.1,ag e.1,ag none,.slice none 0 0,.map (some w1.heap.size),.slice none 0 0]⟩ 103 λb a=>az AC 85 (.bu [.one .ptr,.one (.int .i64)]) [aa c] a λ(x:
 Option AI×Int×Unit) a=>true=true/\true=true/\aA a (ad (ae b) 2) [ag x.1] λa=> ∃(I:Nat->Int×Unit->A2->Prop),(∃n, ∀w1,Ext a w1->I n (0,()) w1)/\ ∀(n:Nat) (s:Int×Unit) (w1:A2),I n s w1->aH (decide (s.1<c)) (az AC 86 (.bu [.one .ptr,.one (.int .i64)]) [aa l] w1 λ(x:Option AI×Int×Unit) a=>aH (x.2.1 != 0) (ao a (d (none,x.2.1,()))) (true=true/\true=true/\sT a (ad (ae b) 3) λg=>aM a {toList:=[aa s.1,ag x.1,aa 0,aa 0,aa 0,
 ax 0,ax 0,ax 0,ag none,aa 0,ax 0,aa 0,aa 0,.slice none 0 0]} 143 λj a=>aM a {toList:=[ag (ae j)]} 139 λk a=> ∀w1,Ext a w1->mz w1 139 1 8 ⟨[ag none]⟩ (g.1,g.2.1,g.2.2) (some ⟨k,0,none⟩,1,1) λ(r:Option AI×Nat×Nat) a=>true=true/\true=true/\aA a (ad (ae b) 3) [.slice r.1 r.2.1 r.2.2] λa=> ∀h,Ext a h-> ∃(i:Nat),i<n/\I i (aI .i64 s.1 1,()) h)) (ao w1 (d (some ⟨b,0,none⟩,0,())))))):=by kernel_rfl
end Go.Proofs.YtlcenllcmeebhaaGreat.Mu
namespace Go.Proofs.YtlcenllcmeebhaaGreat
set_option maxRecDepth 100000
open Go.RX D
namespace Inv
variable {g:Gh} {s s':WD}
structure fl (g:Gh) (s s':WD):Prop where
 len:s'.1.length=s.1.length/\s'.2.length=s.2.length
 ws: ∀{f o x k:Int} {l:Nat},g f=some (o,l,x)->0<=k->k<16->dE s'.1 (16*f+k)=dE s.1 (16*f+k)
 tb: ∀{n:Nat} {d:DT},s.2[n]? =some d->d.1=3->s'.2[n]? =some d
 bt: ∀{n:Nat} {d:DT},s'.2[n]? =some d->d.1=3->s.2[n]? =some d
 fz: ∀d∈s'.2,d.1=0->d=zD
theorem fl.Ye (B:fl g s s') {f o x k:Int} {l:Nat} (h:g f=some (o,l,x)) (h0:0<=k) (h1:k<16):aL s'.1 (16*f+k)=aL s.1 (16*f+k):=by
 unfold aL;rw[B.ws h h0 h1]
theorem beside (I:Inv g s) (B:fl g s s'):Inv g s' where
 len:=by rw[B.len.1,B.len.2];exact I.len
 le:=by rw[B.len.2];exact I.le
 fz:=B.fz
 kd:=λ{f o l x} h=>by
  obtain⟨a,b,c,d⟩:=I.kd h;rw[B.len.2];exact⟨a,b,B.tb c rfl,d⟩
 inj:=I.inj
 si:=λ{f o l x i} h h0 h1 e=>by
  rw[B.Ye h h0 h1] at e ⊢;exact I.si h h0 h1 e
 leaf:=λ{f o l x i} h h0 h1=>by
  rw[B.Ye h h0 h1];exact I.leaf h h0 h1
 Fl:=λ{f o l x} h m=>by
  obtain⟨f',h1,p⟩:=I.Fl h m;refine⟨f',h1,?_⟩;rw[B.Ye h1 (by omega) (by omega)];exact p
 wf:=λ{f o l x i} h h0 h1 j=>by
  rw[B.Ye h h0 h1] at j;rw[B.ws h h0 h1];exact I.wf h h0 h1 j
 tb:=λ{n d} h k=>I.tb (B.bt h k) k
theorem HP (B:fl g s s') {o p f:Int} {j:Nat} (h:dz g s o p f j):dz g s' o p f j:=
 ⟨h.1,by rw[B.Ye h.1 (eo p j).1 (eo p j).2];exact h.2⟩
theorem xH {r p:Int} (a: ¬ (0<=p/\p<65536)):bA s r false p=(0,0,2,()):=by
 unfold bA;rw[au (by decide),ay (by omega)]
theorem dQ (I:Inv g s) (B:fl g s s') {o r:Int} (b:g r=some (o,3,0)) (p:Int):bA s' r false p=bA s r false p:=by
 by_cases a:0<=p/\p<65536
 ·obtain⟨f,j, _,c⟩:=I.mv b a;rw[I.fH b a c,(I.beside B).fH b a (HP B c),B.Ye c.1 (eo p j).1 (eo p j).2]
 ·rw[xH a,xH a]
theorem m6 (B:fl g s s') (h:z6 g s):z6 g s':=λf o l x i a h0 h1 b c=>by
 rw[B.Ye a h0 h1] at b c;exact h a h0 h1 b c
theorem Z1 (s:WD) (r:Int) {p:Int} (a:0<=p/\p<65536):(bA s r false p).2.2.1=0\/bA s r false p=(0,0,4,()):=by
 unfold bA;rw[au (by decide),au (by omega)];split
 ·exact .inl rfl
 ·exact .inr rfl
theorem acn (I:Inv g s) (nl:z6 g s) {o r p:Int} (b:g r=some (o,3,0)) (c:0<=p/\p<65536) (h:(bA s r false p).2.2.1=0): ∃f,dz g s o p f 0/\(aL s.1 (16*f+px 0 p % 16)).1=true/\(dw s.1 r p).2.1=0:=by
 obtain⟨f,j, _,a⟩:=I.mv b c;rw[I.fH b c a] at h;have d:=Cy h;have e:=nl a.1 (eo p j).1 (eo p j).2 d a.2;subst e;refine⟨f,a,d,?_⟩;rw[(I.nK b c a).1];rfl
theorem aco (I:Inv g s) (nl:z6 g s) {o r p:Int} (a:g r=some (o,3,0)) (b:0<=p/\p<65536) (h:(bA s r false p).2.2.1=0):mg s o r p=0:=by
 obtain⟨_, _, _,e⟩:=I.acn nl a b h;unfold mg;rw[ay e]
theorem aaC (I:Inv g s) (nl:z6 g s) {o r p:Int} (a:g r=some (o,3,0)) (b:0<=p/\p<65536) (h:(bA s r false p).2.2.1=0):BX s o r false p=0:=by
 unfold BX;rw[ay h];exact I.aco nl a b h
theorem Px (I:Inv g s) {o r p:Int} (c:g r=some (o,3,0)) (h:(bA s r false p).2.2.1=0):(0<=p/\p<65536)/\0<=(bA s r false p).1:=by
 have a:0<=p/\p<65536:=by
  by_cases a:0<=p/\p<65536
  ·exact a
  ·rw[xH a] at h;exact absurd h (by decide)
 refine⟨a,?_⟩;obtain⟨f,j, _,i⟩:=I.mv c a;rw[I.fH c a i] at h ⊢;have b:=Cy h;have d:=lD s.1 (16*f+px j p % 16);unfold mi;rw[ay b];generalize aL s.1 (16*f+px j p % 16)=e at*
 obtain⟨ep,er,el,ef,k⟩:=e;dsimp only at b d;subst b;obtain⟨l,m,n,q,t⟩:=l7.1 d;dsimp only;split<;>omega
end Inv
set_option maxRecDepth 100000
open Go.RX D
def k8 {α:Type} (F:Nat->α) (v:Nat) (y:α):Nat->α:=λi=>if i=v then y else F i
theorem kT {α:Type} (F:Nat->α) (v:Nat) (y:α):k8 F v y v=y:=ay rfl
theorem nL {α:Type} {F:Nat->α} {v i:Nat} (h:i≠v) (y:α):k8 F v y i=F i:=au h
theorem CB (F:Nat->Nat) (v y:Nat): ∀n,((Bx n).map (k8 F v y)).sum+(if v<n then F v else 0)=((Bx n).map F).sum+(if v<n then y else 0)
 |0=>rfl
 |n+1=>by
  have b:=CB F v y n;rw[List.range_succ,GF,GF,GG,GG];simp only[Dg,List.map_nil,Fg,List.sum_nil];by_cases h:v=n
  ·subst h;rw[kT];rw[au (Nat.lt_irrefl _),au (Nat.lt_irrefl _)] at b;rw[ay (H7 _),ay (H7 _)];omega
  ·rw[nL (λe=>h e.symm)];by_cases a:v<n
   ·rw[ay a,ay a] at b;rw[ay (by omega),ay (by omega)];omega
   ·rw[au a,au a] at b;rw[au (by omega),au (by omega)];omega
def oM (tk:Nat->List TK) (q:TK->Bool):Nat:=((Bx 17).map λi=>(tk i).countP q).sum
theorem y8 (tk:Nat->List TK) (q:TK->Bool) {v:Nat} (hv:v<17) (y:List TK):oM (k8 tk v y) q+(tk v).countP q=oM tk q+y.countP q:=by
 have h:=CB (λi=>(tk i).countP q) v (y.countP q) 17;rw[ay hv,ay hv] at h;have e:(λi=>(k8 tk v y i).countP q)=k8 (λi=>(tk i).countP q) v (y.countP q):=by
  funext i;unfold k8;split<;>rfl
 unfold oM;rw[e];exact h
theorem y9 {tk:Nat->List TK} {q:TK->Bool} (h:0<oM tk q): ∃i t,i<17/\t∈tk i/\q t=true:=by
 unfold oM at h;have: ∀l:List Nat,0<(l.map λi=>(tk i).countP q).sum-> ∃i t,i∈l/\t∈tk i/\q t=true:=by
  intro l
  induction l with
  |nil=>intro h;simp at h
  |cons i l b=>
   intro h;rw[Dg,Fg] at h;by_cases h1:0<(tk i).countP q
   ·obtain⟨t,a,c⟩:=FE.1 h1;exact⟨i,t,DB,a,c⟩
   ·obtain⟨j,t,d,a⟩:=b (by omega);exact⟨j,t,Dj _ d,a⟩
 obtain⟨i,t,hi,a⟩:=this _ h;exact⟨i,t,FP.1 hi,a⟩
theorem Br {tk:Nat->List TK} {q:TK->Bool} (h: ∀i t,t∈tk i->q t=false):oM tk q=0:=by
 rcases Dc (oM tk q) with e|e
 ·exact e
 ·obtain⟨i,t, _,b,a⟩:=y9 e;rw[h i t b] at a;cases a
theorem nM {tk:Nat->List TK} {q:TK->Bool} {i:Nat} {t:TK} (hi:i<17) (a:t∈tk i) (b:q t=true):0<oM tk q:=by
 have h:=y8 tk q hi [];have c:0<(tk i).countP q:=FE.2 ⟨t,a,b⟩;simp only[List.countP_nil] at h;omega
def fc (tk:Nat->List TK) (f:Int):Nat:=oM tk λt=>t.2.2==f
def mM (tk:Nat->List TK) (a:Int):Nat:=oM tk λt=>t.2.1==a
abbrev Ij:Type:=Nat->Int->Option Int
def nj (fr:Ij) (v:Nat) (p:Int) (y:Option Int):Ij:=λi q=>if i=v/\q=p then y else fr i q
theorem fB (fr:Ij) (v:Nat) (p:Int) (y:Option Int):nj fr v p y v p=y:=ay ⟨rfl,rfl⟩
theorem bH {fr:Ij} {v i:Nat} {p q:Int} (h: ¬ (i=v/\q=p)) (y:Option Int):nj fr v p y i q=fr i q:=au h
def TQ (gr:List GT) (fr:Ij) (tk:Nat->List TK) (a:Int) (i o:Nat) (f:Int):Prop:=
 ∃k x,lV gr a=some k/\gr[k]? =some x/\x.1=(o:Int)/\x.2.2.1=(i:Int)/\fr o x.2.1=some f/\bZ (tk o) x.2.1=none
structure HC (fr:Ij) (tk:Nat->List TK) (ds:List DT) (gr:List GT):Prop where
 iM: ∀{i p f},fr i p=some f->1<=i/\i<=16/\0<=p/\p<65536
 kd: ∀{n:Nat} {d:DT},ds[n]? =some d->(d.1=0\/d.1=3\/d.1=4\/d.1=5)/\d.2.2.2.1=0/\0<=d.2.1/\d.2.1<=16
 Ts: ∀{n:Nat} {d:DT},ds[n]? =some d->d.1=4-> ∃(i:Nat) (p:Int),(i:Int)=d.2.1/\fr i p=some (n:Int)/\bZ (tk i) p=none
 own: ∀{i p f},fr i p=some f->bZ (tk i) p=none-> ∃(n:Nat) (d:DT),(n:Int)=f/\ds[n]? =some d/\d.1=4/\d.2.1=(i:Int)
 C7: ∀{i p a f},bZ (tk i) p=some (a,f)->fr i p=some f/\ ∃o:Nat,o≠i/\TQ gr fr tk a i o f
 nd: ∀i,((tk i).map (·.1)).Nodup
 inj: ∀{i p p' f},fr i p=some f->fr i p'=some f->bZ (tk i) p=none->bZ (tk i) p'=none->p=p'
 refs: ∀{n:Nat} {d:DT},ds[n]? =some d->d.2.2.1=(fc tk (n:Int):Int)
 uP: ∀{n:Nat} {x:GT},gr[n]? =some x->x.2.2.2.2.1=(mM tk (n:Int):Int)
 gl:gr.length=16
 gk:n5 gr
theorem fm {gr:List GT} {a:Int} {k:Nat}:lV gr a=some k<->(k:Int)=a/\k<gr.length/\gr.getD k zG≠zG:=by
 unfold lV;constructor
 ·intro h;split at h
  ·rename_i c;cases h;exact⟨by omega,by omega,c.2.2⟩
  ·cases h
 ·rintro⟨rfl,h1,b⟩;rw[ay ⟨by omega,by omega,b⟩];rfl
theorem getD_some {gr:List GT} {k:Nat} {x:GT} (h:gr[k]? =some x):gr.getD k zG=x:=by
 rw[B3,h];rfl
namespace HC
variable {fr:Ij} {tk:Nat->List TK} {ds:List DT} {gr:List GT}
theorem Ok (H:HC fr tk ds gr) {i:Nat} {t:TK} (h:t∈tk i):bZ (tk i) t.1=some t.2:=(jE (a:=t.2.1) (b:=t.2.2) (H.nd i)).2 h
theorem Kj (H:HC fr tk ds gr) {i:Nat} {p a f:Int} (h:bZ (tk i) p=some (a,f)):(p,a,f)∈tk i:=(jE (H.nd i)).1 h
theorem aaD (H:HC fr tk ds gr) {i:Nat} {p a f:Int} (h:bZ (tk i) p=some (a,f)): ∃(n:Nat) (d:DT) (o:Nat),(n:Int)=f/\ds[n]? =some d/\d.1=4/\d.2.1=(o:Int)/\o≠i/\TQ gr fr tk a i o f:=by
 obtain⟨_,o,e,g⟩:=H.C7 h;obtain⟨k,x,h1,j,l,m,b,c⟩:=g;obtain⟨n,d,q,r,s,t⟩:=H.own b c;exact⟨n,d,o,q,r,s,t,e,k,x,h1,j,l,m,b,c⟩
theorem at4 (H:HC fr tk ds gr) {i:Nat} {p f:Int} (h:fr i p=some f): ∃(n:Nat) (d:DT),(n:Int)=f/\ds[n]? =some d/\d.1=4:=by
 cases b:bZ (tk i) p with
 |none=>
  obtain⟨n,d,h1,c,e, _⟩:=H.own h b;exact⟨n,d,h1,c,e⟩
 |some y=>
  obtain⟨a,f'⟩:=y;obtain⟨n,d,o,h1,c,e, _⟩:=H.aaD b;have:=(H.C7 b).1;rw[h] at this;cases this;exact⟨n,d,h1,c,e⟩
theorem IF (H:HC fr tk ds gr) {n:Nat} (h:0<fc tk (n:Int)): ∃d,ds[n]? =some d/\d.1=4:=by
 obtain⟨i,t, _,a,b⟩:=y9 h;obtain⟨m,d,o,h1,c,f, _⟩:=H.aaD (H.Ok a);have g:t.2.2=(n:Int):=by simpa using b
 have e:m=n:=BY (h1.trans g);subst e;exact⟨d,c,f⟩
theorem Gr (H:HC fr tk ds gr) {g:List DT} (k: ∀{n:Nat} {d:DT},ds[n]? =some d->d.1=4->g[n]? =some d) (j: ∀{n:Nat} {d:DT},g[n]? =some d->ds[n]? =some d\/((d.1=0\/d.1=3\/d.1=5)/\d.2.2=(0,0,())/\0<=d.2.1/\d.2.1<=16)):HC fr tk g gr:=by
 have l: ∀{n:Nat} {d:DT},g[n]? =some d->(d.1=0\/d.1=3\/d.1=5)->fc tk (n:Int)=0:=λ{n d} h a=>by
  rcases Dc (fc tk (n:Int)) with e|e
  ·exact e
  ·obtain⟨d',b,c⟩:=H.IF e;have:=k b c;rw[h] at this;cases this;omega
 refine⟨H.iM,λ{n d} h=>?_,λ{n d} h c=>?_,λ{i p f} h m=>?_,H.C7,H.nd,H.inj,λ{n d} h=>?_,H.uP,H.gl,H.gk⟩
 ·rcases j h with h1|⟨h1,a,b⟩
  ·exact H.kd h1
  ·exact⟨by omega,by rw[a],b⟩
 ·rcases j h with h1|⟨h1,a⟩
  ·exact H.Ts h1 c
  ·omega
 ·obtain⟨n,d,h1,a,b,c⟩:=H.own h m;exact⟨n,d,h1,k a b,b,c⟩
 ·rcases j h with h1|⟨h1,a, _⟩
  ·exact H.refs h1
  ·rw[l h h1,a];rfl
theorem Py (H:HC fr tk ds gr) {zU:List GT} (d:zU.length=gr.length) (m:n5 zU) (r: ∀{n:Nat} {x y:GT},gr[n]? =some x->zU[n]? =some y->y.2.2.2.2.1=x.2.2.2.2.1) (e: ∀{n:Nat} {x:GT},gr[n]? =some x->x.2.2.2.2.1>0->zU[n]? =some x):HC fr tk ds zU:=by
 refine⟨H.iM,H.kd,H.Ts,H.own,λ{i p a f} h=>?_,H.nd,H.inj,H.refs,λ{n y} h=>?_,d.trans H.gl,m⟩
 ·obtain⟨h1,o,s,k,x,g,b,u⟩:=H.C7 h;refine⟨h1,o,s,k,x,?_,?_,u⟩
  ·obtain⟨c,z,j⟩:=fm.1 g;refine fm.2 ⟨c,by omega,?_⟩;have v:x.2.2.2.2.1>0:=by
    rw[H.uP b];have:=nM (q:=λt=>t.2.1==(k:Int)) (by have:=H.iM h1;omega:i<17) (H.Kj h) (by simp[c]);unfold mM;omega
   rw[getD_some (e b v)];rw[getD_some b] at j;exact j
  ·refine e b ?_;obtain⟨c, _⟩:=fm.1 g;rw[H.uP b];have:=nM (q:=λt=>t.2.1==(k:Int)) (by have:=H.iM h1;omega:i<17) (H.Kj h) (by simp[c]);unfold mM;omega
 ·have w:n<gr.length:=by rw[<-d];exact(Aq.1 h).1
  have l:gr[n]? =some gr[n]:=BP w;rw[r l h];exact H.uP l
end HC
set_option maxRecDepth 100000
open Go.RX D
theorem m7 (t:TK) (l:List TK) (p:Int):bZ (t::l) p=if t.1=p then some t.2 else bZ l p:=by
 unfold bZ;rw[List.find?_cons];by_cases e:t.1=p
 ·rw[ay e,show(t.1==p)=true by simpa using e];rfl
 ·rw[au e,show(t.1==p)=false by simpa using e]
theorem MW {l l':List TK} (h:l.Perm l') (nd:(l.map (·.1)).Nodup) (p:Int):bZ l p=bZ l' p:=by
 have c:(l'.map (·.1)).Nodup:=(h.map _).nodup_iff.1 nd;cases h1:bZ l p with
 |some x=>
  have:=(jE (a:=x.1) (b:=x.2) nd).1 h1;exact((jE (a:=x.1) (b:=x.2) c).2 (h.mem_iff.1 this)).symm
 |none=>
  symm;rw[qd] at h1 ⊢;exact λt d=>h1 t (h.mem_iff.2 d)
theorem Pz {t:TK} {l:List TK} (a:bZ l t.1=none) (nd:(l.map (·.1)).Nodup):((nh t l).map (·.1)).Nodup:=by
 refine((m5 t l).map _).nodup_iff.2 (DA.2 ⟨λb=>?_,nd⟩);obtain⟨x,c,e⟩:=B4.1 b;exact qd.1 a x c e
theorem Sw {t:TK} {l:List TK} (a:bZ l t.1=none) (nd:(l.map (·.1)).Nodup) (p:Int):bZ (nh t l) p=if t.1=p then some t.2 else bZ l p:=by
 rw[MW (m5 t l) (Pz a nd),m7]
theorem MX (l:List TK) (b p:Int):bZ (l.filter λt=> !(t.1==b)) p=if p=b then none else bZ l p:=by
 induction l with
 |nil=>unfold bZ;simp
 |cons t l c=>
  rw[GH];by_cases e:t.1=b
  ·rw[au (by simp[e]),c,m7];by_cases a:p=b
   ·rw[ay a,ay a]
   ·rw[au a,au a,au (λh=>a (h.symm.trans e))]
  ·rw[ay (by simpa using e),m7,m7,c];by_cases a:t.1=p
   ·rw[ay a,ay a,au (λh=>e (a.trans h))]
   ·rw[au a,au a]
theorem Bt {l:List TK} {b:Int} {x:Int×Int} (nd:(l.map (·.1)).Nodup) (h:bZ l b=some x):l.Perm ((b,x)::l.filter λt=> !(t.1==b)):=by
 induction l with
 |nil=>unfold bZ at h;simp at h
 |cons t l a=>
  rw[Dg,DA] at nd;rw[m7] at h;rw[GH];by_cases e:t.1=b
  ·rw[ay e] at h;cases h;rw[au (by simp[e])];have c:l.filter (λt=> !(t.1==b))=l:=GI.2 λu d=>by
    have:u.1≠b:=λf=>nd.1 (B4.2 ⟨u,d,f.trans e.symm⟩);simpa using this
   rw[c, <-e]
  ·rw[au e] at h;rw[ay (by simpa using e)];exact((a nd.2 h).cons t).trans (.swap _ _ _)
theorem V3 (q:TK->Bool) (t:TK) (l:List TK):(nh t l).countP q=l.countP q+(if q t=true then 1 else 0):=by
 rw[(m5 t l).countP_eq,FQ]
theorem Sy {l:List TK} {b:Int} {x:Int×Int} (nd:(l.map (·.1)).Nodup) (h:bZ l b=some x) (q:TK->Bool):l.countP q=(l.filter λt=> !(t.1==b)).countP q+(if q (b,x)=true then 1 else 0):=by
 rw[(Bt nd h).countP_eq,FQ]
theorem V4 {l:List TK} (b:Int) (nd:(l.map (·.1)).Nodup):((l.filter λt=> !(t.1==b)).map (·.1)).Nodup:=(Dk.map _).nodup nd
theorem CC {gr:List GT} {k j:Nat} {x y:GT} {a:Int} (f:gr[k]? =some x) (c:y≠zG) (h:lV gr a=some j):lV (gr.set k y) a=some j:=by
 obtain⟨h1,b,d⟩:=fm.1 h;refine fm.2 ⟨h1,by rw[B2];exact b,?_⟩;rw[B3];by_cases e:k=j
 ·subst e;rw[B1 b];exact c
 ·rw[Ag e, <-B3];exact d
theorem xI {gr:List GT} (a:n5 gr) {k:Nat} {x:GT} (b:gr[k]? =some x) (c:x≠zG) (n:Int):fC x n≠zG:=λe=>by
 rcases(a x (B7 b)).1 with h|⟨h, _⟩
 ·exact c h
 ·have:(fC x n).1=zG.1:=congrArg (·.1) e;have:x.1=0:=this;omega
namespace HC
variable {fr:Ij} {tk:Nat->List TK} {ds:List DT} {gr:List GT}
theorem YU (H:HC fr tk ds gr) {i:Nat} {p:Int} (h:fr i p=none):bZ (tk i) p=none:=by
 cases b:bZ (tk i) p with
 |none=>rfl
 |some y=>
  have:=(H.C7 (a:=y.1) (f:=y.2) b).1;rw[h] at this;cases this
theorem Gs (H:HC fr tk ds gr) {v n:Nat} {a:Int} {d0:DT} (hv:1<=v/\v<=16) (A:0<=a/\a<65536) (u:ds[n]? =some d0) (h0:d0.1=0) (w:fr v a=none):
 HC (nj fr v a (some (n:Int))) tk (ds.set n (4,(v:Int),0,0,())) gr:=by
 have q:n<ds.length:=(Aq.1 u).1;have r: ∀{d},ds[n]? =some d->d.1=4->False:=λ{d} h l=>by rw[u] at h;cases h;omega
 have B:fc tk (n:Int)=0:=by
  rcases Dc (fc tk (n:Int)) with e|e
  ·exact e
  ·obtain⟨d,h1,g⟩:=H.IF e;exact(r h1 g).elim
 have s: ∀{i p f},fr i p=some f-> ¬ (i=v/\p=a):=λ{i p f} h e=>by rw[e.1,e.2,w] at h;cases h
 have y: ∀{i p},fr i p=some (n:Int)->False:=λ{i p} h=>by
  obtain⟨m,d,h1,g,j⟩:=H.at4 h;have:m=n:=BY h1;subst this;exact r g j
 refine⟨λ{i p f} h=>?_,λ{m d} h=>?_,λ{m d} h l=>?_,λ{i p f} h t=>?_,λ{i p b f} h=>?_,H.nd,λ{i p p' f} h h' t C=>?_,λ{m d} h=>?_,H.uP,H.gl,H.gk⟩
 ·by_cases e:i=v/\p=a
  ·obtain⟨rfl,rfl⟩:=e;exact⟨hv.1,hv.2,A⟩
  ·rw[bH e] at h;exact H.iM h
 ·by_cases e:n=m
  ·subst e;rw[B1 q] at h;cases h;exact⟨.inr (.inr (.inl rfl)),rfl,by show 0<=(v:Int);omega,by show(v:Int)<=16;omega⟩
  ·rw[Ag e] at h;exact H.kd h
 ·by_cases e:n=m
  ·subst e;rw[B1 q] at h;cases h;exact⟨v,a,rfl,fB _ _ _ _,H.YU w⟩
  ·rw[Ag e] at h;obtain⟨i,p,h1,g,j⟩:=H.Ts h l;exact⟨i,p,h1,by rw[bH (s g)];exact g,j⟩
 ·by_cases e:i=v/\p=a
  ·obtain⟨rfl,rfl⟩:=e;rw[fB] at h;cases h;exact⟨n, _,rfl,B1 q,rfl,rfl⟩
  ·rw[bH e] at h;obtain⟨m,d,h1,g,j,l⟩:=H.own h t;refine⟨m,d,h1,?_,j,l⟩;rw[Ag (λe=>by subst e;exact r g j)];exact g
 ·obtain⟨h1,o,g,k,x,j,l,D,E,z,F⟩:=H.C7 h;exact⟨by rw[bH (s h1)];exact h1,o,g,k,x,j,l,D,E,by rw[bH (s z)];exact z,F⟩
 ·by_cases e:i=v/\p=a
  ·obtain⟨rfl,rfl⟩:=e;rw[fB] at h;cases h;by_cases e':p'=p
   ·exact e'.symm
   ·rw[bH (λc=>e' c.2)] at h';exact(y h').elim
  ·rw[bH e] at h;by_cases e':i=v/\p'=a
   ·obtain⟨rfl,rfl⟩:=e';rw[fB] at h';cases h';exact(y h).elim
   ·rw[bH e'] at h';exact H.inj h h' t C
 ·by_cases e:n=m
  ·subst e;rw[B1 q] at h;cases h;rw[B];rfl
  ·rw[Ag e] at h;exact H.refs h
theorem CD (H:HC fr tk ds gr) {v n:Nat} {a o:Int} (E:0<=o/\o<=16) (s:fr v a=some (n:Int)) (w:bZ (tk v) a=none) (B:fc tk (n:Int)=0):
 HC (nj fr v a none) tk (ds.set n (5,o,0,0,())) gr:=by
 obtain⟨j,d0,y,C,M,F⟩:=H.own s w;have y:j=n:=BY y;subst y;have z:j<ds.length:=(Aq.1 C).1;have G: ∀{i p b f},bZ (tk i) p=some (b,f)->f≠(j:Int):=λ{i p b f} h e=>by
  have N:=H.iM (H.C7 h).1;have:=nM (q:=λt=>t.2.2==(j:Int)) (by omega:i<17) (H.Kj h) (by simp[e]);unfold fc at B;omega
 refine⟨λ{i p f} h=>?_,λ{m d} h=>?_,λ{m d} h k4=>?_,λ{i p f} h u=>?_,λ{i p b f} h=>?_,H.nd,λ{i p p' f} h h' u I=>?_,λ{m d} h=>?_,H.uP,H.gl,H.gk⟩
 ·by_cases e:i=v/\p=a
  ·obtain⟨rfl,rfl⟩:=e;rw[fB] at h;cases h
  ·rw[bH e] at h;exact H.iM h
 ·by_cases e:j=m
  ·subst e;rw[B1 z] at h;cases h;exact⟨.inr (.inr (.inr rfl)),rfl,E⟩
  ·rw[Ag e] at h;exact H.kd h
 ·by_cases e:j=m
  ·subst e;rw[B1 z] at h;cases h;exact absurd k4 (show ¬ (5:Int)=4 by decide)
  ·rw[Ag e] at h;obtain⟨i,p,h1,g,l⟩:=H.Ts h k4;refine⟨i,p,h1,?_,l⟩;rw[bH (λc=>?_)]
   ·exact g
   ·rw[c.1,c.2,s] at g;cases g;exact e rfl
 ·by_cases e:i=v/\p=a
  ·obtain⟨rfl,rfl⟩:=e;rw[fB] at h;cases h
  ·rw[bH e] at h;obtain⟨m,d,h1,g,l,r⟩:=H.own h u;refine⟨m,d,h1,?_,l,r⟩;by_cases D:j=m
   ·subst D;rw[C] at g;cases g;rw[F] at r;have ev:v=i:=BY r;subst ev;rw[<-h1] at h;exact absurd ⟨rfl,H.inj h s u w⟩ e
   ·rw[Ag D];exact g
 ·obtain⟨h1,o',g,k,x,l,r,J,K,A,L⟩:=H.C7 h;refine⟨?_,o',g,k,x,l,r,J,K,?_,L⟩
  ·rw[bH (λc=>?_)]
   ·exact h1
   ·rw[c.1,c.2,w] at h;cases h
  ·rw[bH (λc=>?_)]
   ·exact A
   ·rw[c.1,c.2,s] at A;cases A;exact G h rfl
 ·by_cases e:i=v/\p=a
  ·obtain⟨rfl,rfl⟩:=e;rw[fB] at h;cases h
  ·rw[bH e] at h;by_cases e':i=v/\p'=a
   ·obtain⟨rfl,rfl⟩:=e';rw[fB] at h';cases h'
   ·rw[bH e'] at h';exact H.inj h h' u I
 ·by_cases e:j=m
  ·subst e;rw[B1 z] at h;cases h;rw[B];rfl
  ·rw[Ag e] at h;exact H.refs h
end HC
set_option maxRecDepth 100000
open Go.RX D
namespace HC
variable {fr:Ij} {tk:Nat->List TK} {ds:List DT} {gr:List GT}
theorem take (H:HC fr tk ds gr) {v o n k:Nat} {b:Int} {x:GT} {d0:DT} (hb:0<=b/\b<65536) (K:fr v b=none) (S:ds[n]? =some d0) (r:gr[k]? =some x) (C:x≠zG) (L:x.1=(o:Int)) (M:x.2.2.1=(v:Int)) (T:fr o x.2.1=some (n:Int)) (U:bZ (tk o) x.2.1=none)
 (V:n5 (gr.set k (fC x 1))):
 HC (nj fr v b (some (n:Int))) (k8 tk v (nh (b,(k:Int),(n:Int)) (tk v))) (ds.set n (d0.1,d0.2.1,d0.2.2.1+1,d0.2.2.2.1,())) (gr.set k (fC x 1)):=by
 have Z:n<ds.length:=(Aq.1 S).1;have D:k<gr.length:=(Aq.1 r).1;obtain⟨N,ro,F⟩:(1<=v/\v<=16)/\(1<=o/\o<=16)/\o≠v:=by
  rcases(H.gk x (B7 r)).1 with h|⟨h1,l,g, _⟩
  ·exact absurd h C
  ·rw[L] at h1 g;rw[M] at l g;exact⟨by omega,by omega,λe=>g (by rw[e])⟩
 have A: ∀{i p f},fr i p=some f-> ¬ (i=v/\p=b):=λ{i p f} h e=>by rw[e.1,e.2,K] at h;cases h
 have O:bZ (tk v) b=none:=H.YU K;have s: ∀i p,bZ (k8 tk v (nh (b,(k:Int),(n:Int)) (tk v)) i) p=if i=v/\p=b then some ((k:Int),(n:Int)) else bZ (tk i) p:=λi p=>by
  by_cases e:i=v
  ·subst e;rw[kT,Sw O (H.nd _)];by_cases w:p=b
   ·rw[ay w.symm,ay ⟨rfl,w⟩]
   ·rw[au (λh=>w h.symm),au (λh=>w h.2)]
  ·rw[nL e,au (λh=>e h.1)]
 have W: ∀{m:Nat} {d:DT},ds[m]? =some d-> ∃d':DT,(ds.set n (d0.1,d0.2.1,d0.2.2.1+1,d0.2.2.2.1,()))[m]? =some d'/\d'.1=d.1/\d'.2.1=d.2.1:=λ{m d} h=>by
  grind
 have G: ∀{m:Nat} {d':DT},(ds.set n (d0.1,d0.2.1,d0.2.2.1+1,d0.2.2.2.1,()))[m]? =some d'-> ∃d:DT,ds[m]? =some d/\d'.1=d.1/\d'.2.1=d.2.1/\d'.2.2.2.1=d.2.2.2.1/\d'.2.2.1=d.2.2.1+(if m=n then 1 else 0):=λ{m d'} h=>by
  grind
 have X: ∀{a:Int} {i o':Nat} {f:Int},TQ gr fr tk a i o' f->TQ (gr.set k (fC x 1)) (nj fr v b (some (n:Int))) (k8 tk v (nh (b,(k:Int),(n:Int)) (tk v))) a i o' f:=by
  rintro a i o' f ⟨j,y,h1,l,g,z,t,Y⟩;have P:=CC r (xI H.gk r C 1) h1;have Q:bZ (k8 tk v (nh (b,(k:Int),(n:Int)) (tk v)) o') y.2.1=none:=by
   rw[s,au (A t)];exact Y
  by_cases e:k=j
  ·subst e;rw[r] at l;cases l;exact⟨k,fC x 1,P,B1 D,g,z,by show nj fr v b _ o' x.2.1= _;rw[bH (A t)];exact t,Q⟩
  ·exact⟨j,y,P,by rw[Ag e];exact l,g,z,by rw[bH (A t)];exact t,Q⟩
 have R: ∀q:TK->Bool,oM (k8 tk v (nh (b,(k:Int),(n:Int)) (tk v))) q=oM tk q+(if q (b,(k:Int),(n:Int))=true then 1 else 0):=λq=>by
  have h1:=y8 tk q (by omega:v<17) (nh (b,(k:Int),(n:Int)) (tk v));rw[V3] at h1;omega
 refine⟨λ{i p f} h=>?_,λ{m d} h=>?_,λ{m d} h z=>?_,λ{i p f} h u=>?_,λ{i p c f} h=>?_,λi=>?_,λ{i p p' f} h h' u E=>?_,λ{m d} h=>?_,λ{m y} h=>?_,by rw[B2];exact H.gl,V⟩
 ·by_cases e:i=v/\p=b
  ·obtain⟨rfl,rfl⟩:=e;exact⟨N.1,N.2,hb⟩
  ·rw[bH e] at h;exact H.iM h
 ·obtain⟨d',h1,l,g,t, _⟩:=G h;rw[l,t,g];exact H.kd h1
 ·obtain⟨d',h1,l,g, _⟩:=G h;obtain⟨i,p,I,B,J⟩:=H.Ts h1 (by rw[<-l];exact z);exact⟨i,p,by rw[g];exact I,by rw[bH (A B)];exact B,by rw[s,au (A B)];exact J⟩
 ·by_cases e:i=v/\p=b
  ·rw[s,ay e] at u;cases u
  ·rw[bH e] at h;rw[s,au e] at u;obtain⟨m,d,h1,l,g,z⟩:=H.own h u;obtain⟨d',I,B,J⟩:=W l;exact⟨m,d',h1,I,by rw[B];exact g,by rw[J];exact z⟩
 ·rw[s] at h;by_cases e:i=v/\p=b
  ·rw[ay e] at h;cases h;obtain⟨rfl,rfl⟩:=e;refine⟨fB _ _ _ _,o,F,k,fC x 1,?_,B1 D,L,M,?_,?_⟩
   ·exact CC r (xI H.gk r C 1) (fm.2 ⟨rfl,D,by rw[getD_some r];exact C⟩)
   ·show nj fr i p _ o x.2.1= _;rw[bH (λc=>F c.1)];exact T
   ·show bZ (k8 tk i _ o) x.2.1=none;rw[nL F];exact U
  ·rw[au e] at h;obtain⟨h1,o',l,g⟩:=H.C7 h;exact⟨by rw[bH e];exact h1,o',l,X g⟩
 ·by_cases e:i=v
  ·subst e;rw[kT];exact Pz O (H.nd _)
  ·rw[nL e];exact H.nd i
 ·have e: ¬ (i=v/\p=b):=λc=>by rw[s,ay c] at u;cases u
  have e': ¬ (i=v/\p'=b):=λc=>by rw[s,ay c] at E;cases E
  rw[s,au e] at u;rw[s,au e'] at E;rw[bH e] at h;rw[bH e'] at h';exact H.inj h h' u E
 ·obtain⟨d',h1, _, _, _,t⟩:=G h;rw[t,H.refs h1];unfold fc;rw[R]
  grind
 ·have w:mM (k8 tk v (nh (b,(k:Int),(n:Int)) (tk v))) (m:Int)=mM tk (m:Int)+(if k=m then 1 else 0):=by
   unfold mM;rw[R]
   grind
  rw[w];by_cases e:k=m
  ·subst e;rw[B1 D] at h;cases h;rw[ay rfl];have:=H.uP r;show x.2.2.2.2.1+1= _;omega
  ·rw[Ag e] at h;rw[au e];have:=H.uP h;omega
theorem FZ (H:HC fr tk ds gr) {v n k:Nat} {b:Int} {x:GT} {d0:DT} (D:bZ (tk v) b=some ((k:Int),(n:Int))) (E:ds[n]? =some d0) (w:gr[k]? =some x) (P:x≠zG)
 (Q:n5 (gr.set k (fC x (-1)))):
 HC (nj fr v b none) (k8 tk v ((tk v).filter λt=> !(t.1==b))) (ds.set n (d0.1,d0.2.1,d0.2.2.1 - 1,d0.2.2.2.1,())) (gr.set k (fC x (-1))):=by
 have J:n<ds.length:=(Aq.1 E).1;have K:k<gr.length:=(Aq.1 w).1;have T:=H.iM (H.C7 D).1;have r: ∀i p,bZ (k8 tk v ((tk v).filter λt=> !(t.1==b)) i) p=if i=v/\p=b then none else bZ (tk i) p:=λi p=>by
  by_cases e:i=v
  ·subst e;rw[kT,MX];by_cases o:p=b
   ·rw[ay o,ay ⟨rfl,o⟩]
   ·rw[au o,au (λh=>o h.2)]
  ·rw[nL e,au (λh=>e h.1)]
 have z: ∀{i p},bZ (tk i) p=none-> ¬ (i=v/\p=b):=λ{i p} h e=>by rw[e.1,e.2,D] at h;cases h
 have R: ∀{m:Nat} {d:DT},ds[m]? =some d-> ∃d':DT,(ds.set n (d0.1,d0.2.1,d0.2.2.1 - 1,d0.2.2.2.1,()))[m]? =some d'/\d'.1=d.1/\d'.2.1=d.2.1:=λ{m d} h=>by
  by_cases e:n=m
  ·subst e;rw[E] at h;cases h;exact⟨_,B1 J,rfl,rfl⟩
  ·exact⟨d,by rw[Ag e];exact h,rfl,rfl⟩
 have F: ∀{m:Nat} {d':DT},(ds.set n (d0.1,d0.2.1,d0.2.2.1 - 1,d0.2.2.2.1,()))[m]? =some d'-> ∃d:DT,ds[m]? =some d/\d'.1=d.1/\d'.2.1=d.2.1/\d'.2.2.2.1=d.2.2.2.1/\d'.2.2.1=d.2.2.1 - (if m=n then 1 else 0):=λ{m d'} h=>by
  by_cases e:n=m
  ·subst e;rw[B1 J] at h;cases h;exact⟨d0,E,rfl,rfl,rfl,by rw[ay rfl]⟩
  ·rw[Ag e] at h;exact⟨d',h,rfl,rfl,rfl,by rw[au (λc=>e c.symm)];omega⟩
 have S: ∀{a:Int} {i o':Nat} {f:Int},TQ gr fr tk a i o' f->TQ (gr.set k (fC x (-1))) (nj fr v b none) (k8 tk v ((tk v).filter λt=> !(t.1==b))) a i o' f:=by
  rintro a i o' f ⟨j,y,h1,g,l,s,u,C⟩;have L:=CC w (xI H.gk w P (-1)) h1;have M:bZ (k8 tk v ((tk v).filter λt=> !(t.1==b)) o') y.2.1=none:=by
   rw[r,au (z C)];exact C
  by_cases e:k=j
  ·subst e;rw[w] at g;cases g;exact⟨k,fC x (-1),L,B1 K,l,s,by show nj fr v b _ o' x.2.1= _;rw[bH (z C)];exact u,M⟩
  ·exact⟨j,y,L,by rw[Ag e];exact g,l,s,by rw[bH (z C)];exact u,M⟩
 have N: ∀q:TK->Bool,oM (k8 tk v ((tk v).filter λt=> !(t.1==b))) q+(if q (b,(k:Int),(n:Int))=true then 1 else 0)=oM tk q:=λq=>by
  have h1:=y8 tk q (by omega:v<17) ((tk v).filter λt=> !(t.1==b));have g:=Sy (H.nd v) D q;omega
 refine⟨λ{i p f} h=>?_,λ{m d} h=>?_,λ{m d} h s=>?_,λ{i p f} h A=>?_,λ{i p c f} h=>?_,λi=>?_,λ{i p p' f} h h' A O=>?_,λ{m d} h=>?_,λ{m y} h=>?_,by rw[B2];exact H.gl,Q⟩
 ·by_cases e:i=v/\p=b
  ·rw[show nj fr v b none i p=none from ay e] at h;cases h
  ·rw[bH e] at h;exact H.iM h
 ·obtain⟨d',h1,g,l,u, _⟩:=F h;rw[g,u,l];exact H.kd h1
 ·obtain⟨d',h1,g,l, _⟩:=F h;obtain⟨i,p,G,I,B⟩:=H.Ts h1 (by rw[<-g];exact s);exact⟨i,p,by rw[l];exact G,by rw[bH (z B)];exact I,by rw[r,au (z B)];exact B⟩
 ·by_cases e:i=v/\p=b
  ·rw[show nj fr v b none i p=none from ay e] at h;cases h
  ·rw[bH e] at h;rw[r,au e] at A;obtain⟨m,d,h1,g,l,s⟩:=H.own h A;obtain⟨d',G,I,B⟩:=R g;exact⟨m,d',h1,G,by rw[I];exact l,by rw[B];exact s⟩
 ·rw[r] at h;by_cases e:i=v/\p=b
  ·rw[ay e] at h;cases h
  ·rw[au e] at h;obtain⟨h1,o',g,l⟩:=H.C7 h;exact⟨by rw[bH e];exact h1,o',g,S l⟩
 ·by_cases e:i=v
  ·subst e;rw[kT];exact V4 _ (H.nd _)
  ·rw[nL e];exact H.nd i
 ·have e: ¬ (i=v/\p=b):=λc=>by rw[show nj fr v b none i p=none from ay c] at h;cases h
  have e': ¬ (i=v/\p'=b):=λc=>by rw[show nj fr v b none i p'=none from ay c] at h';cases h'
  rw[r,au e] at A;rw[r,au e'] at O;rw[bH e] at h;rw[bH e'] at h';exact H.inj h h' A O
 ·obtain⟨d',h1, _, _, _,u⟩:=F h;have:=N λt=>t.2.2==(m:Int);rw[u,H.refs h1];unfold fc;dsimp only at this;by_cases e:m=n
  ·subst e;rw[ay (by simp)] at this;rw[ay rfl];omega
  ·rw[au (by simp;omega)] at this;rw[au e];omega
 ·have o:mM (k8 tk v ((tk v).filter λt=> !(t.1==b))) (m:Int)+(if k=m then 1 else 0)=mM tk (m:Int):=by
   have:=N λt=>t.2.1==(m:Int);dsimp only at this;unfold mM
   grind
  by_cases e:k=m
  ·subst e;rw[B1 K] at h;cases h;rw[ay rfl] at o;have:=H.uP w;show x.2.2.2.2.1+ -1= _;omega
  ·rw[Ag e] at h;rw[au e] at o;have:=H.uP h;omega
theorem gone (H:HC fr tk ds gr) {v:Nat} {z:List DT} (hv:1<=v/\v<=16) (Q:tk v=[]) (J: ∀{n:Nat} {d:DT},ds[n]? =some d->d.1=4->d.2.1=(v:Int)->d.2.2.1=0)
 (K: ∀{n:Nat} {d:DT},ds[n]? =some d->d.1=4->d.2.1≠(v:Int)->z[n]? =some d)
 (C: ∀{n:Nat} {d:DT},z[n]? =some d->(ds[n]? =some d/\ ¬ (d.1=4/\d.2.1=(v:Int)))\/((d.1=0\/d.1=3\/d.1=5)/\d.2.2=(0,0,())/\0<=d.2.1/\d.2.1<=16))
 (R:n5 (cM gr (v:Int))):
 HC (λi p=>if i=v then none else fr i p) tk z (cM gr (v:Int)):=by
 have D: ∀{i p b f},bZ (tk i) p=some (b,f)->i≠v:=λ{i p b f} h e=>by
  subst e;rw[Q] at h;unfold bZ at h;simp at h
 have L: ∀{a:Int} {i o:Nat} {f p:Int},bZ (tk i) p=some (a,f)->TQ gr fr tk a i o f->o≠v:=by
  rintro a i o f p l ⟨k,x,h1,g,j,r,M,E⟩ e;subst e;obtain⟨n,d,S,N,T,U⟩:=H.own M E;have h0:=J N T U;have F:=H.iM (H.C7 l).1;have:=nM (q:=λt=>t.2.2==(n:Int)) (by omega:i<17) (H.Kj l) (by simp[S]);have h1:=H.refs N;unfold fc at h1;omega
 have V: ∀{a:Int} {i o:Nat} {f p:Int},bZ (tk i) p=some (a,f)->TQ gr fr tk a i o f->TQ (cM gr (v:Int)) (λi p=>if i=v then none else fr i p) tk a i o f:=by
  intro a i o f p l w;have W:=L l w;have X:=D l;obtain⟨k,x,h1,g,j,r,M,E⟩:=w;have hh:oI (v:Int) x=false:=by
   unfold oI;rw[j,r]
   grind
  have F:(cM gr (v:Int))[k]? =some x:=by
   unfold cM
   grind
  obtain⟨s,u,A⟩:=fm.1 h1;refine⟨k,x,fm.2 ⟨s,by unfold cM;rw[Dq];exact u,?_⟩,F,j,r,?_,E⟩
  ·rw[getD_some F];rw[getD_some g] at A;exact A
  grind
 have Y: ∀{n:Nat} {d:DT},z[n]? =some d->(d.1=0\/d.1=3\/d.1=5)->d.2.2=(0,0,())->fc tk (n:Int)=0:=λ{n d} h g j=>by
  rcases Dc (fc tk (n:Int)) with e|e
  ·exact e
  ·obtain⟨d',s,u⟩:=H.IF e;by_cases O:d'.2.1=(v:Int)
   ·have:=H.refs s;have:=J s u O;omega
   ·have:=K s u O;rw[h] at this;cases this;omega
 refine⟨λ{i p f} h=>?_,λ{m d} h=>?_,λ{m d} h r=>?_,λ{i p f} h l=>?_,λ{i p c f} h=>?_,H.nd,λ{i p p' f} h h' l Z=>?_,λ{m d} h=>?_,λ{m y} h=>?_,by unfold cM;rw[Dq];exact H.gl,R⟩
 ·by_cases e:i=v
  ·rw[ay e] at h;cases h
  ·rw[au e] at h;exact H.iM h
 ·rcases C h with ⟨h1, _⟩|⟨h1,g,j⟩
  ·exact H.kd h1
  ·exact⟨by omega,by rw[g],j⟩
 ·rcases C h with ⟨h1,g⟩|⟨h1, _⟩
  ·obtain⟨i,p,s,u,A⟩:=H.Ts h1 r;exact⟨i,p,s,by rw[au (λe=>g ⟨r,by rw[<-s,e]⟩)];exact u,A⟩
  ·omega
 ·by_cases e:i=v
  ·rw[ay e] at h;cases h
  ·rw[au e] at h;obtain⟨m,d,h1,g,j,r⟩:=H.own h l;exact⟨m,d,h1,K g j (λc=>e (BY (r.symm.trans c))),j,r⟩
 ·obtain⟨h1,o,g,j⟩:=H.C7 h;exact⟨by rw[au (D h)];exact h1,o,g,V h j⟩
 ·by_cases e:i=v
  ·rw[ay e] at h;cases h
  ·rw[au e] at h h';exact H.inj h h' l Z
 ·rcases C h with ⟨h1, _⟩|⟨h1,g, _⟩
  ·exact H.refs h1
  ·rw[Y h h1 g,g];rfl
 ·unfold cM at h;rw[Fi] at h;obtain⟨x,P,B⟩:=Option.map_eq_some_iff.1 h;by_cases e:oI (v:Int) x=true
  ·rw[ay e] at B;subst B;have:mM tk (m:Int)=0:=by
    refine Br λi t l=>?_;cases G:t.2.1==(m:Int) with
    |false=>rfl
    |true=>
     have G:t.2.1=(m:Int):=by simpa using G
     have I:=H.Ok l;obtain⟨_,o, _,w⟩:=H.C7 (a:=t.2.1) (f:=t.2.2) I;have W:=L (a:=t.2.1) (f:=t.2.2) I w;have X:=D (b:=t.2.1) (f:=t.2.2) I;obtain⟨k,x',h1,g,j,r, _⟩:=w;obtain⟨s, _⟩:=fm.1 h1;have ek:k=m:=BY (s.trans G);subst ek;rw[P] at g;cases g;unfold oI at e;rw[j,r] at e
     grind
   rw[this];rfl
  ·rw[au e] at B;subst B;exact H.uP P
end HC
set_option maxRecDepth 100000
open Go.RX D
def m_ (h:HS):Ij:=λi p=>match h.g i with
 |some x=>if(bA h.s x.root false p).2.2.1=0 then some (bA h.s x.root false p).1 else none
 |none=>none
def mB (h:HS) (i:Nat):List TK:=match h.g i with
 |some x=>x.tk
 |none=>[]
def jJ (h:HS) (i:Nat) (p:Int):Int×Int×Int×Unit:=match h.g i with
 |some x=>bA h.s x.root false p
 |none=>(0,0,4,())
theorem bP {h:HS} {i:Nat} {x:GV} (a:h.g i=some x) (p:Int):jJ h i p=bA h.s x.root false p:=by grind[jJ]
theorem fZ {h:HS} {i:Nat} (a:h.g i=none) (p:Int):jJ h i p=(0,0,4,()):=by grind[jJ]
theorem rP (h:HS) (i:Nat) (p:Int):m_ h i p=if(jJ h i p).2.2.1=0 then some (jJ h i p).1 else none:=by grind[m_,jJ]
structure z7 (h h':HS) (P:Nat->Int->Prop):Prop where
 to: ∀{i:Nat} {q:Int},¬ P i q->jJ h' i q=jJ h i q
theorem z7.refl (h:HS) (P:Nat->Int->Prop):z7 h h P:=⟨λ_=>rfl⟩
theorem z7.of {h h':HS} (a:h'.s=h.s) (b:h'.g=h.g) (P:Nat->Int->Prop):z7 h h' P:=⟨by grind[jJ]⟩
theorem z7.trans {h1 c d:HS} {P:Nat->Int->Prop} (a:z7 h1 c P) (b:z7 c d P):z7 h1 d P:=⟨λe=>(b.to e).trans (a.to e)⟩
structure KD (s s':WD):Prop where
 k4: ∀{n:Nat} {d:DT},s.2[n]? =some d->d.1=4-> ∃d',s'.2[n]? =some d'/\(d'.1=4\/d'.1=5)
 k5: ∀{n:Nat} {d:DT},s.2[n]? =some d->d.1=5-> ∃d',s'.2[n]? =some d'/\d'.1=5
theorem KD.refl {s s':WD} (h:s'.2=s.2):KD s s':=⟨by grind,by grind⟩
theorem KD.trans {s t u:WD} (a:KD s t) (b:KD t u):KD s u:=by
 refine⟨λh1 e=>?_,λh1 f=>?_⟩
 ·obtain⟨d',d,c⟩:=a.k4 h1 e;rcases c with c|c
  ·exact b.k4 d c
  ·obtain:=b.k5 d
   grind
 ·obtain⟨d',d,c⟩:=a.k5 h1 f;exact b.k5 d c
theorem KD.set {s:WD} {W:List Int} {n:Nat} {d0 d1:DT} (h0:s.2[n]? =some d0) (a:d0.1=4->d1.1=4\/d1.1=5) (b:d0.1=5->d1.1=5):KD s (W,s.2.set n d1):=by
 refine⟨λh k=>?_,λh k=>?_⟩
 grind
 grind
theorem sM.kd {P:Int->Int->Prop} {o:Int} {g g':Gh} {s s':WD} (C:sM P o g g' s s'):KD s s':=by
 refine⟨λ{n d} h1 a=>⟨d,C.kp.ks h1 a,.inl a⟩,λh1=>?_⟩;obtain:=C.kk h1
 grind
def uB (gh dq:Gh) (s s':WD):Prop:=(∀(f:Int) (v:Int×Nat×Int),gh f=some v->dq f=some v\/iD s' f)/\ ∀f,iD s f->iD s' f
theorem uB.refl (gh:Gh) (s:WD):uB gh gh s s:=⟨by grind,λ_ h=>h⟩
theorem uB.trans {a b c:Gh} {s t u:WD} (h:uB a b s t) (k:uB b c t u):uB a c s u:=⟨λf v d=>(h.1 f v d).elim (k.1 f v) λc=> .inr (k.2 f c),λf c=>k.2 f (h.2 f c)⟩
theorem sM.gks {P:Int->Int->Prop} {o:Int} {g g':Gh} {s s':WD} (C:sM P o g g' s s'):uB g g' s s':=⟨λ_ _ h=>C.gk h,λ_ c=>c.kept C.kp⟩
theorem iD.kd {s s':WD} {f:Int} (h:iD s f) (K:KD s s') (b: ∀k:Int,0<=k->k<16->dE s'.1 (16*f+k)=dE s.1 (16*f+k)):iD s' f:=by
 obtain⟨h0,d,h1,a,c⟩:=h;obtain⟨d',e,g⟩:=K.k5 h1 a;exact⟨h0,by grind⟩
theorem uB.kd {g:Gh} {s s':WD} (K:KD s s') (a: ∀{n:Nat} {d:DT},s.2[n]? =some d->d.1=5-> ∀k:Int,0<=k->k<16->dE s'.1 (16*(n:Int)+k)=dE s.1 (16*(n:Int)+k)):uB g g s s':=⟨by grind,λf c=>by
 refine c.kd K λk0=>?_;obtain⟨⟩:=c
 grind⟩
structure uH (h h':HS) (P:Nat->Int->Prop) (f:Int):Prop where
 pg:z7 h h' P
 ws: ∀{m:Nat} {d d':DT},h.s.2[m]? =some d->d.1=4->h'.s.2[m]? =some d'->d'.1=4->(m:Int)≠f-> ∀k:Int,0<=k->k<16->dE h'.s.1 (16*(m:Int)+k)=dE h.s.1 (16*(m:Int)+k)
 kd:KD h.s h'.s
theorem uH.refl (h:HS) (P:Nat->Int->Prop) (f:Int):uH h h P f:=⟨z7.refl h P,by simp,.refl rfl⟩
theorem uH.mono {h h':HS} {P b:Nat->Int->Prop} {f:Int} (a:uH h h' P f) (d: ∀{i:Nat} {q:Int},P i q->b i q):uH h h' b f:=⟨⟨λe=>a.pg.to λc=>e (d c)⟩,a.ws,a.kd⟩
theorem uH.trans {h1 d e:HS} {P:Nat->Int->Prop} {f:Int} (a:uH h1 d P f) (b:uH d e P f):uH h1 e P f:=by
 refine⟨z7.trans a.pg b.pg,λg h l m i k k0 j=>?_,a.kd.trans b.kd⟩;obtain⟨d2,x1,c⟩:=a.kd.k4 g h;rcases c with c|c
 ·rw[b.ws x1 c l m i k k0 j,a.ws g h x1 c i k k0 j]
 ·obtain:=b.kd.k5 x1
  grind
structure HI (gh:Gh) (h:HS):Prop where
 inv:Inv gh h.s
 rt:Rt gh
 nl:z6 gh h.s
 sz:h.s.1.length=16*h.s.2.length
 iM: ∀{i:Nat} {x:GV},h.g i=some x->1<=i/\i<=16
 root: ∀{i:Nat} {x:GV},h.g i=some x->gh x.root=some ((i:Int),3,0)
 own: ∀{f o y:Int},gh f=some (o,3,y)-> ∃(i:Nat) (x:GV),(i:Int)=o/\h.g i=some x
 hc:HC (m_ h) (mB h) h.s.2 h.gr
theorem cN {h:HS} {i:Nat} {x:GV} (a:h.g i=some x) (p:Int):m_ h i p=if(bA h.s x.root false p).2.2.1=0 then some (bA h.s x.root false p).1 else none:=by grind[m_]
theorem f_ {h:HS} {i:Nat} (a:h.g i=none) (p:Int):m_ h i p=none:=by grind[m_]
theorem gf {h:HS} {i:Nat} {x:GV} (a:h.g i=some x):mB h i=x.tk:=by grind[mB]
theorem abB (h:HS) (v:Int):xR h v=mB h v.toNat:=rfl
section
variable {gh dq:Gh} {h:HS}
namespace HI
theorem rdy (H:HI gh h) {Q:Sys} (i:Dh Q h.s):B9 Q h where
 J4:=i
 sz:=by rw[H.sz];simp
 rr:=λv e=>by
  obtain⟨x,d,f⟩:=b_ e;have:=H.inv.vo (H.root d)
  grind
 pg:=λv t j=>by
  have:=H.hc.iM (H.hc.C7 (H.hc.Ok j)).1;omega
 new:=λv a b c x d e h0=>by
  obtain⟨x',g,f, _⟩:=b_ e;rw[d] at g;cases g;rw[f] at h0;have k:=H.root d;have l:=(H.inv.map k h0).2;have:m_ h v.toNat b=none:=by rw[cN d,au (by grind)]
  have:=H.hc.YU this;rw[gf d] at this
  grind
theorem yD (H:HI gh h) {v:Nat} {x:GV} (b:h.g v=some x) {p:Int} {s1 s':WD} (h1: ∀{i:Nat} {x:GV},h.g i=some x-> ∀q,bA s1 x.root false q=bA h.s x.root false q) (d:Inv gh s1) (C:sM (n7 (v:Int) 0 p) (v:Int) gh dq s1 s') {y:Option Int}
 (f:(if(bA s' x.root false p).2.2.1=0 then some (bA s' x.root false p).1 else none)=y) {h':HS} (j:h'.s=s') (k: ∀i,(h'.g i).map GV.root=(h.g i).map GV.root):m_ h'=nj (m_ h) v p y:=by
 funext i q;have hi:=k i;cases a:h.g i with
 |none=>
  rw[a] at hi;have l:=by simpa using hi
  rw[f_ l];have m: ¬ (i=v/\q=p):=λc=>by grind
  rw[bH m,f_ a]
 |some z=>
  obtain⟨z',n,o⟩: ∃z',h'.g i=some z'/\z'.root=z.root:=by
   cases hc:h'.g i with
   |none
   |some=>grind
  rw[cN n,j,o];by_cases e:i=v/\q=p
  ·obtain⟨rfl,rfl⟩:=e;rw[b] at a;cases a;rw[fB,f]
  ·rw[bH e,cN a];have r:bA s' z.root false q=bA h.s z.root false q:=by
    rw[<-h1 a];refine d.yW C.inv C.Dw C.root (H.root a) λc=>e ?_;obtain⟨c1,c2⟩:=c;exact⟨by omega,c2⟩
   rw[r]
theorem Gt (H:HI gh h) {v:Nat} {p:Int} {s1 s':WD} (h1: ∀{i:Nat} {x:GV},h.g i=some x-> ∀q,bA s1 x.root false q=bA h.s x.root false q) (b:Inv gh s1) (C:sM (n7 (v:Int) 0 p) (v:Int) gh dq s1 s') {h':HS} (d:h'.s=s') (k: ∀i,(h'.g i).map GV.root=(h.g i).map GV.root):z7 h h' (λi q=>i=v/\q=p):=by
 refine⟨λ{i q} e=>?_⟩;cases a:h.g i with
 |none=>
  unfold jJ;grind
 |some z=>
  obtain⟨z',f,j⟩: ∃z',h'.g i=some z'/\z'.root=z.root:=by
   cases hc:h'.g i with
   |none
   |some=>grind
  rw[bP f,bP a,d,j, <-h1 a];refine b.yW C.inv C.Dw C.root (H.root a) λc=>e ?_;obtain⟨c1,c2⟩:=c;exact⟨by omega,c2⟩
theorem base (H:HI gh h) {v:Nat} {p:Int} {s1 s':WD} (C:sM (n7 (v:Int) 0 p) (v:Int) gh dq s1 s') (e:s1.1.length=h.s.1.length/\s1.2.length=h.s.2.length) (nl:z6 gh s1) {h':HS} (c:h'.s=s') (j: ∀i,(h'.g i).map GV.root=(h.g i).map GV.root)
 (hc:HC (m_ h') (mB h') s'.2 h'.gr):HI dq h' where
 inv:=by rw[c];exact C.inv
 rt:=H.rt.dn C.root
 nl:=by
  rw[c];exact C.lg (λo q m a b=>a.2.trans b.2.symm) nl
 sz:=by
  rw[c,C.len.1,C.len.2,e.1,e.2];exact H.sz
 iM:=λ{i x} d=>by
  have hi:=j i;rw[d] at hi;cases hc:h.g i with
  |none=>grind
  |some=>exact H.iM hc
 root:=λ{i x} d=>by
  have hi:=j i;rw[d] at hi;cases hc:h.g i with
  |none=>grind
  |some=>
   rw[hc] at hi;have k:=by simpa using hi
   rw[k];exact C.root.to (H.root hc)
 own:=λ{f o y} l=>by
  obtain⟨i⟩:=H.own ((C.root o f y).1 l);cases hc:h'.g i with
  |none
  |some z=>grind
 hc:=by grind
theorem CF (H:HI gh h) {s':WD} (B:Inv.fl gh h.s s') {h':HS} (a:h'.s=s') (b:h'.g=h.g) (P:Nat->Int->Prop):z7 h h' P:=by
 refine⟨λ{i q} _=>?_⟩;cases hi:h.g i with
 |none=>rw[fZ hi,fZ (by grind)]
 |some=>rw[bP hi,bP (by rw[b];exact hi),a];exact H.inv.dQ B (H.root hi) q
theorem side (H:HI gh h) {s':WD} (B:Inv.fl gh h.s s') {zU:List GT} {NH:List Po.PT} (hc:HC (m_ h) (mB h) s'.2 zU):HI gh {s:=s',g:=h.g,gr:=zU,po:=NH} where
 inv:=H.inv.beside B
 rt:=H.rt
 nl:=Inv.m6 B H.nl
 sz:=by
  rw[B.len.1,B.len.2];exact H.sz
 iM:=H.iM
 root:=H.root
 own:=H.own
 hc:=by
  have e:m_ {s:=s',g:=h.g,gr:=zU,po:=NH}=m_ h:=by
   funext i p;cases a:h.g i with
   |none=>
    rw[f_ a];exact f_ (h:={s:=s',g:=h.g,gr:=zU,po:=NH}) a p
   |some=>
    rw[cN a,cN (h:={s:=s',g:=h.g,gr:=zU,po:=NH}) a];rw[H.inv.dQ B (H.root a)]
  rw[e];exact hc
end HI
end
set_option maxRecDepth 100000
open Go.RX D
theorem rt4 {o r:Int} (a:1<=o/\o<=16) (b:0<=r/\r<=65535):dP 4 o r 0=true:=by unfold dP jB;simp;omega
theorem rt5 {o:Int} (a:0<=o/\o<=16):dP 5 o 0 0=true:=by unfold dP jB;simp;omega
theorem HQ {o:Int} (a:1<=o/\o<=16):aO 4 o zD=((4,o,0,0,()),0):=by
 have b:dP 0 0 0 0=true:=by decide
 have e:gN 0 0 0 0 4 o=0:=by
  unfold gN;rw[b,au (by decide),au (by decide),ay (by decide),au (show ¬ (4:Int)=5 by decide),rt4 a ⟨by decide,by decide⟩,au (by decide)]
 unfold aO zD mG lf;dsimp only;rw[e];rfl
theorem MY {o:Int} (a:1<=o/\o<=16):aO 0 0 (4,o,0,0,())=(zD,0):=by
 have e:gN 4 o 0 0 0 0=0:=by
  unfold gN;rw[rt4 a ⟨by decide,by decide⟩,au (by decide),au (by decide),ay (by decide),au (show ¬ (0:Int)=5 by decide)];decide
 unfold aO mG lf;dsimp only;rw[e];rfl
theorem Bu {o v:Int} (a:1<=o/\o<=16):aO 5 v (4,o,0,0,())=((5,o,0,0,()),0):=by
 have e:gN 4 o 0 0 5 v=0:=by
  unfold gN;rw[rt4 a ⟨by decide,by decide⟩,au (by decide),au (by decide),ay (by decide),ay rfl,rt5 ⟨by omega,a.2⟩,au (by decide)]
 unfold aO mG lf;dsimp only;rw[e];rfl
theorem HR {o:Int} (a:0<=o/\o<=16):aO 0 0 (5,o,0,0,())=(zD,0):=by
 have e:gN 5 o 0 0 0 0=0:=by
  unfold gN;rw[rt5 a,au (by decide),au (by decide),ay (by decide),au (show ¬ (0:Int)=5 by decide)];decide
 unfold aO mG lf;dsimp only;rw[e];rfl
theorem aaE {o r x:Int} (a:1<=o/\o<=16) (b:0<=r/\r<=65535) (c:0<=r+x/\r+x<=65535):gX x (4,o,r,0,())=((4,o,r+x,0,()),0):=by
 have e:wU 4 o r 0 x=0:=by
  unfold wU;rw[rt4 a b,au (by decide),ay (.inr (.inr rfl)),au (by omega)]
 unfold gX qs;dsimp only;rw[e];rfl
theorem ym {ds:List DT} {n:Nat} {d d':DT} {G:DT->DT×Int} (h:ds[n]? =some d) (a:G d=(d',0)):dF ds (n:Int) G=ds.set n d'/\vn ds (n:Int) G=0:=by
 have c:n<ds.length:=(Aq.1 h).1;have b:ds.getD n zD=d:=by rw[B3,h];rfl
 constructor
 ·rw[o9 (by omega)];show(if(G (ds.getD n zD)).2=0 then ds.set n (G (ds.getD n zD)).1 else ds)= _;rw[b,a,ay rfl]
 ·rw[yB (by omega)];show(G (ds.getD n zD)).2=0;rw[b,a]
theorem zA {ds:List DT} {o:Int} (h:0<cj ds 0) (c: ∀d∈ds,d.1=0->d=zD) (e:1<=o/\o<=16): ∃i:Nat,i<ds.length/\ds[i]? =some zD/\e_ ds 4 o=(i:Int)/\dO ds 4 o=0/\dy ds 4 o=ds.set i (4,o,0,0,()):=by
 obtain⟨i,d,h1,f,a,g⟩:=Eo h;have j:d=zD:=c d (B7 a) g;subst j;obtain⟨k,b⟩:=ym a (HQ e);refine⟨i,f,a,?_,?_,?_⟩
 ·unfold e_;rw[h1];dsimp only;rw[ay b]
 ·unfold dO;rw[au (by omega),h1];exact b
 ·unfold dy;rw[h1];exact k
theorem vd {ds:List DT} {y o:Int} (h:dO ds y o=0):0<cj ds 0:=by
 rcases Dc (cj ds 0) with e|e
 ·unfold dO at h;rw[Xm e] at h;dsimp only at h;split at h<;>exact absurd h (by decide)
 ·exact e
theorem Sz {ds:List DT} {n:Nat} {d d':DT} (h:ds[n]? =some d):(ds.set n d').set n d=ds:=by
 apply Fm;intro i;have a:n<ds.length:=(Aq.1 h).1;by_cases e:n=i
 ·subst e;rw[B1 (by rw[B2];exact a),h]
 ·rw[Ag e,Ag e]
theorem o_ {ds:List DT} {n:Nat} {d:DT} (h:ds[n]? =some d):oE ds (n:Int)=d:=by
 have a:n<ds.length:=(Aq.1 h).1;unfold oE;rw[au (by omega)];show ds.getD n zD=d;rw[B3,h];rfl
theorem Kept.hc {fr:Ij} {tk:Nat->List TK} {s s':WD} {gr:List GT} (H:HC fr tk s.2 gr) (K:Kept s s'):HC fr tk s'.2 gr:=
 H.Gr K.ks λ{n d} h=>(K.nw h).elim .inl λe=> .inr ⟨by omega,e.2.1,by omega,e.2.2.2⟩
theorem ww (r:Int):gD .i64 0 r=0:=by
 have h: ∀x:BitVec 64,(FS 64 0) &&& x=0#64:=λx=>by
  rw[show FS 64 0=0#64 from rfl,BitVec.zero_and]
 show Do.wrap (((FS 64 0) &&& ~~~(FS 64 r)).toNat:Int)=0;rw[h];rfl
theorem Cl {ws:List Int} {a:Int} (h:(aL ws a).1=true):ux (B (dE ws a)).toNat=true:=by
 unfold aL eR Ib at h;cases b:ux (B (dE ws a)).toNat with
 |true=>rfl
 |false=>rw[b] at h;simp at h
theorem tj {ws:List Int} {p t f:Int} {l:Nat} {fd:FT} (hi:sq ws (dX f p (l:Int))=true) (a:ux (B (dE ws (dX f p (l:Int)))).toNat=true):
 bF ws p t (f,(l:Int),fd)=tookS f p t (l:Int) fd (aL ws (dX f p (l:Int))).1 (aL ws (dX f p (l:Int))).2.1 (aL ws (dX f p (l:Int))).2.2.1 (aL ws (dX f p (l:Int))).2.2.2.1:=by
 unfold bF;dsimp only;rw[au (by omega),a,au ?_]
 ·rfl
 ·unfold wH;rw[ay hi];decide
namespace Inv
variable {g:Gh} {s:WD}
theorem CG (I:Inv g s) {o r p t:Int} (d:g r=some (o,3,0)) (b:0<=p/\p<65536): ∀(n:Nat) {j:Nat} {f:Int},j+n=3->g f=some (o,j,px (j+1) p)->lO s.1 r p t n=(f,(j:Int),(0,0,0,0,()))
 |0,j,f,h,a=>by
  have:j=3:=by omega
  subst this;rw[px4 b] at a;rw[I.inj a d];rfl
 |n+1,j,f,h,a=>by
  obtain⟨f',h1,e⟩:=I.Fl a (by omega);have i:g f'=some (o,j+1,px (j+1+1) p):=h1;obtain⟨k,m,u⟩:=I.vo h1;obtain⟨c1,c2, _⟩:=I.vo a;have q:=I.CG (t:=t) d b n (j:=j+1) (by omega) i;have c:=lq ⟨k,m⟩ b (l:=j+1) (by omega);have v:=eo p (j+1);rw[lO,q,tj (by rw[c];exact iY (by omega) (by omega)) (by rw[c];exact Cl (by rw[e];rfl)),c,e];unfold tookS cd;dsimp only;rw[au (by decide),ay ?_]
  ·congr 2;rw[bC (by omega) (by omega)];omega
  ·have:fG true 0 false f=true:=dC ⟨c1,c2⟩;rw[this];simp
   try omega
theorem V5 (I:Inv g s) {o r p:Int} (u:g r=some (o,3,0)) (b:0<=p/\p<65536) {f:Int} {j:Nat} (a:dz g s o p f j):
 ((nb s.1 r p 0).1=(mi p j (aL s.1 (16*f+px j p % 16))).1/\(nb s.1 r p 0).2.1=(mi p j (aL s.1 (16*f+px j p % 16))).2.1/\((nb s.1 r p 0).2.2.2.1=0<->(mi p j (aL s.1 (16*f+px j p % 16))).2.2.1=0)):=by
 have A:=I.kd a.1;have C:=A.2.2.2.2.2;obtain⟨D,E,T⟩:=I.vo a.1;obtain⟨F,G,U⟩:=I.vo u;have hi:=eo p j;have d:=lq ⟨D,E⟩ b C;have v:=a.2;have H:=I.wf a.1 hi.1 hi.2;have J:=I.leaf a.1 hi.1 hi.2;have i:=lD s.1 (16*f+px j p % 16);have K:uM r p 0=false:=by
  unfold uM;have L:dX r p 3=16*r+px 3 p % 16:=lq ⟨F,G⟩ b (l:=3) (by omega);have V:=eo p 3;rw[L,decide_eq_false (by omega),decide_eq_false (by omega),decide_eq_false (by omega)];rfl
 have M:nb s.1 r p 0=(lO s.1 r p 0 4).2.2:=au (by rw[K];decide);have N:=I.CG (t:=0) u b (3 - j) (by omega) a.1;have O:sq s.1 (dX f p (j:Int))=true:=by rw[d];exact iY (by omega) (by omega)
 have P:ux (B (dE s.1 (dX f p (j:Int)))).toNat=true:=by
  rw[d];cases hb:(aL s.1 (16*f+px j p % 16)).1 with
  |true=>exact Cl hb
  |false=>rw[H hb];decide+kernel
 have w:lO s.1 r p 0 (3 - j+1)=tookS f p 0 (j:Int) (0,0,0,0,()) (aL s.1 (16*f+px j p % 16)).1 (aL s.1 (16*f+px j p % 16)).2.1 (aL s.1 (16*f+px j p % 16)).2.2.1 (aL s.1 (16*f+px j p % 16)).2.2.2.1:=by
  rw[lO,N,tj O P,d]
 generalize aL s.1 (16*f+px j p % 16)=e at*
 obtain⟨ep,er,el,ef,W⟩:=e;dsimp only at*
 have k: ∀x:FT,tookS f p 0 (j:Int) (0,0,0,0,()) ep er el ef=(f,-1,x)->nb s.1 r p 0=x:=λx y=>by
  rw[M];have h1:(lO s.1 r p 0 (3 - j+1)).2.1= -1:=by rw[w,y]
  have:=xy h1 j;rw[show 3 - j+1+j=4 by omega] at this;rw[this,w,y]
 cases ep with
 |false=>
  rw[k (wS (j:Int) 4) (by unfold tookS;rfl)];unfold mi wS;simp
 |true=>
  have c:fG true er el ef=false:=v;obtain⟨X,Y,Q,k4,k5⟩:=l7.1 i;rcases J rfl v with ⟨rfl,m⟩|⟨rfl,m,z⟩
  ·subst m;have R:er>0:=by
    refine B5 λhc=>?_;have:er=0:=by omega
    subst this;have:=dC ⟨Q,k4⟩;unfold dH cd at this;dsimp only at this;rw[this] at c;cases c
   have n:gE true er false ef 0=true:=by
    unfold gE;rw[i];have q:gD .i64 0 er=0:=ww er;rw[q];simp;omega
   rw[k (xQ 0 0 ef true er false ef) (by
    unfold tookS;rw[au (by decide),c,au (by decide),au (by decide),ay (by simp;omega)];rfl)]
   unfold mi xQ;rw[au (by omega),ay n,ay rfl,au (by decide)];simp
  ·have z:ef % 16=0:=z;subst m;have R:er>0:=by rcases k5 with h|h;exact h;cases h
   have n:gE true er true ef 0=true:=by
    unfold gE;rw[i];have q:gD .i64 0 er=0:=ww er;rw[q];simp;omega
   have S:aI .i64 ef (ff p 16)=ef+p % 16:=by
    have:ff p 16=p % 16:=by unfold ff;exact Int.tmod_eq_emod_of_nonneg b.1
    rw[this,aw (by omega) (by omega)]
   rw[k (xQ 1 0 (ef+p % 16) true er true ef) (by
    unfold tookS;rw[au (by decide),c,au (by decide),ay (by decide),S];rfl)]
   unfold mi xQ;rw[au (by omega),ay n,ay rfl,ay rfl];simp
end Inv
set_option maxRecDepth 100000
open Go.RX D
theorem Inv.PA {g:Gh} {s:WD} (I:Inv g s) (nl:z6 g s) {o r p t:Int} (c:g r=some (o,3,0)) (b:0<=p/\p<65536) (Q:0<=t/\t<=7):
 if(bA s r false p).2.2.1=0 then nb s.1 r p t=((bA s r false p).1,(bA s r false p).2.1,0,(if gE true (bA s r false p).2.1 false (bA s r false p).1 t=true then 0 else 7),()) else(nb s.1 r p t).2.2.2.1=4:=by
 obtain⟨f,j, _,a⟩:=I.mv c b;rw[I.fH c b a];have v:=I.kd a.1;have w:=v.2.2.2.2.2;obtain⟨y,z,R⟩:=I.vo a.1;obtain⟨A,C,S⟩:=I.vo c;have hi:=eo p j;have d:=lq ⟨y,z⟩ b w;have i:=a.2;have D:=I.wf a.1 hi.1 hi.2;have E:=nl a.1 hi.1 hi.2;have F:=I.leaf a.1 hi.1 hi.2;have G:=lD s.1 (16*f+px j p % 16);have H:uM r p t=false:=by
  unfold uM;have J:dX r p 3=16*r+px 3 p % 16:=lq ⟨A,C⟩ b (l:=3) (by omega);have T:=eo p 3;rw[J,decide_eq_false (by omega),decide_eq_false (by omega),decide_eq_false (by omega)];rfl
 have K:nb s.1 r p t=(lO s.1 r p t 4).2.2:=au (by rw[H];decide);have L:=I.CG (t:=t) c b (3 - j) (by omega) a.1;have M:sq s.1 (dX f p (j:Int))=true:=by rw[d];exact iY (by omega) (by omega)
 have N:ux (B (dE s.1 (dX f p (j:Int)))).toNat=true:=by
  rw[d];cases hb:(aL s.1 (16*f+px j p % 16)).1 with
  |true=>exact Cl hb
  |false=>rw[D hb];decide+kernel
 have n:lO s.1 r p t (3 - j+1)=tookS f p t (j:Int) (0,0,0,0,()) (aL s.1 (16*f+px j p % 16)).1 (aL s.1 (16*f+px j p % 16)).2.1 (aL s.1 (16*f+px j p % 16)).2.2.1 (aL s.1 (16*f+px j p % 16)).2.2.2.1:=by
  rw[lO,L,tj M N,d]
 generalize aL s.1 (16*f+px j p % 16)=e at*
 obtain⟨ep,er,el,ef,U⟩:=e;dsimp only at*
 have q: ∀x:FT,tookS f p t (j:Int) (0,0,0,0,()) ep er el ef=(f,-1,x)->nb s.1 r p t=x:=λx u=>by
  rw[K];have h1:(lO s.1 r p t (3 - j+1)).2.1= -1:=by rw[n,u]
  have:=xy h1 j;rw[show 3 - j+1+j=4 by omega] at this;rw[this,n,u]
 cases ep with
 |false=>
  rw[q (wS (j:Int) 4) (by unfold tookS;rfl)];unfold mi wS;simp
 |true=>
  have k:fG true er el ef=false:=i;obtain⟨V,W,O,k4,k5⟩:=l7.1 G;have P:=E rfl i;subst P;have m:el=false:=by
   rcases F rfl i with ⟨_,m⟩|⟨h, _⟩
   ·exact m
   ·exact absurd h (by decide)
  subst m;have X:er>0:=by
   refine B5 λhc=>?_;have:er=0:=by omega
   subst this;have:=dC ⟨O,k4⟩;unfold dH cd at this;dsimp only at this;rw[this] at k;cases k
  rw[q (xQ 0 t ef true er false ef) (by
   unfold tookS;rw[au (by decide),k,au (by decide),au (by decide),ay (by simp;omega)];rfl)]
  unfold mi xQ;rw[ay rfl,au (show ¬ ((0:Nat)=1) by decide)];dsimp only;rw[ay rfl,au (by omega)];split<;>rfl
theorem MZ {fr:Ij} {v:Nat} {p:Int} {y:Option Int} (h:fr v p=y):nj fr v p y=fr:=by
 funext i q;unfold nj;split
 ·rename_i c;rw[c.1,c.2,h]
 ·rfl
section
variable {gh:Gh} {h:HS}
namespace HI
theorem po (H:HI gh h) (NH:List Po.PT):HI gh (AF h NH):=
 ⟨H.inv,H.rt,H.nl,H.sz,H.iM,H.root,H.own,H.hc⟩
theorem grs (H:HI gh h) {zU:List GT} (hc:HC (m_ h) (mB h) h.s.2 zU):HI gh (yk h zU):=
 ⟨H.inv,H.rt,H.nl,H.sz,H.iM,H.root,H.own,hc⟩
theorem Z2 (H:HI gh h) (v a:Int):HI gh (fO h v a):=by
 unfold fO;split
 ·exact H
 ·refine H.grs (H.hc.Py (y6 _ _ _) (H.hc.gk.rev _ _) (λ{n x y} b c=>?_) λ{n x} b g=>?_)
  ·unfold lh at c;by_cases e:qG h.gr a v=0
   ·rw[ay e] at c;by_cases en:a.toNat=n
    ·subst en;rw[B1 (Aq.1 b).1] at c;cases c;unfold qG at e;cases d:lV h.gr a with
     |none=>rw[d] at e;exact absurd (show(4:Int)=0 from e) (by decide)
     |some k=>
      rw[d] at e;dsimp only at e;obtain⟨i,j,l⟩:=fm.1 d;have f:a.toNat=k:=by omega
      rw[f] at b;rw[getD_some b] at e;have:=(H.hc.gk x (B7 b)).2;split at e
      ·exact absurd e (by decide)
      ·split at e
       ·exact absurd e (by decide)
       ·show(0:Int)= _;omega
    ·rw[Ag en,b] at c;cases c;rfl
   ·rw[au e,b] at c;cases c;rfl
  ·unfold lh;by_cases e:qG h.gr a v=0
   ·rw[ay e];by_cases en:a.toNat=n
    ·subst en;unfold qG at e;cases d:lV h.gr a with
     |none=>rw[d] at e;exact absurd (show(4:Int)=0 from e) (by decide)
     |some k=>
      rw[d] at e;dsimp only at e;obtain⟨i,j,l⟩:=fm.1 d;have f:a.toNat=k:=by omega
      rw[f] at b;rw[getD_some b] at e;rw[ay g] at e;split at e
      ·exact absurd e (by decide)
      ·exact absurd e (by decide)
    ·rw[Ag en];exact b
   ·rw[au e];exact b
theorem offer (H:HI gh h) (v a b c:Int):HI gh (iz h v a b c):=by
 unfold iz;split
 ·have j: ∀{n:Nat} {x:GT},lj h.gr v a b=0->(ki h.gr v a b).toNat=n->h.gr[n]? =some x->x=zG:=λ{n x} e en d=>by
   unfold ki at en;rw[ay e] at en;have q:de h.gr eV h.gr.length≠[]:=λhc=>by
    unfold lj at e;split at e
    ·exact absurd e (by decide)
    ·split at e
     ·exact absurd e (by decide)
     ·exact absurd e (by decide)
   obtain⟨y,l,k⟩:=List.exists_cons_of_ne_nil q;have m:y∈de h.gr eV h.gr.length:=by rw[k];exact DB
   rw[k] at en;have en:y.toNat=n:=en;unfold de at m;obtain⟨i,hi,rfl⟩:=B4.1 m;have o:=(B6.1 hi).2;have r:i=n:=en;subst r;rw[getD_some d] at o;simpa[eV] using o
  have s:(jN h.gr v a b (c==1)).length=h.gr.length:=by
   unfold jN;split
   ·rw[B2]
   ·rfl
  refine H.grs (H.hc.Py s (H.hc.gk.off _ _ _ _) (λ{n x y} d f=>?_) λ{n x} d p=>?_)
  ·unfold jN at f;by_cases e:lj h.gr v a b=0
   ·rw[ay e] at f;by_cases en:(ki h.gr v a b).toNat=n
    ·have g:=j e en d;subst en;rw[B1 (Aq.1 d).1] at f;cases f;rw[g];rfl
    ·rw[Ag en,d] at f;cases f;rfl
   ·rw[au e,d] at f;cases f;rfl
  ·unfold jN;by_cases e:lj h.gr v a b=0
   ·rw[ay e];by_cases en:(ki h.gr v a b).toNat=n
    ·have g:=j e en d;rw[g] at p;exact absurd p (by decide)
    ·rw[Ag en];exact d
   ·rw[au e];exact d
 ·exact H
theorem Jt (H:HI gh h) {v:Int} (l:aU h.g v=true) {a b:Int} (e:oW h v a b=0): ∃dq,HI dq (jP h v a b)/\uH h (jP h v a b) (λi q=>i=v.toNat/\q=a) (-1)/\(jJ h v.toNat a).2.2.1=0/\jJ (jP h v a b) v.toNat a=((jJ h v.toNat a).1,b,0,())/\(jP h v a b).g=h.g/\uB gh dq h.s (jP h v a b).s:=by
 obtain⟨x,c,o,hv, _⟩:=b_ l;unfold oW at e;unfold jP;split at e
 ·exact absurd e (by decide)
 rename_i c1;rw[au c1];split at e
 ·exact absurd e (by decide)
 rename_i c2;rw[au c2];split at e
 ·exact absurd e (by decide)
 rename_i c3;rw[au c3];rw[o] at e ⊢;obtain⟨n,rfl⟩: ∃n:Nat,v=(n:Int):=⟨v.toNat,hv.symm⟩;have c:h.g n=some x:=c;obtain⟨u,g',C,f,j, _⟩:=H.inv.te (H.root c) e;have p:m_ h n a=some (bA h.s x.root false a).1:=by rw[cN c,ay f]
 have k:=H.yD c (s1:=h.s) (λ_ _=>rfl) H.inv C (y:=some (bA h.s x.root false a).1) (by rw[j,ay rfl]) (h':=bq h (rC h.s (n:Int) x.root false a b)) rfl (λ_=>rfl);rw[MZ p] at k;rw[show((n:Int)).toNat=n from rfl];have r:(bq h (rC h.s (n:Int) x.root false a b)).g n=some x:=c;refine⟨g',H.base C ⟨rfl,rfl⟩ H.nl rfl (λ_=>rfl) ?_,⟨H.Gt (λ_ _=>rfl) H.inv C (h':=bq h (rC h.s (n:Int) x.root false a b)) rfl (λ_=>rfl),λ{m d d'} h1 t _ _ _=>C.kp.ws h1 t,C.kd⟩,by rw[bP c];exact f,by rw[bP c,bP r];exact j,rfl,C.gks⟩;rw[k];exact Kept.hc H.hc C.kp
theorem Ju {v a b:Int} (e:oW h v a b≠0):jP h v a b=h:=by
 unfold oW at e;unfold jP;split
 ·rfl
 rename_i c1;rw[au c1] at e;split
 ·rfl
 rename_i c2;rw[au c2] at e;split
 ·rfl
 rename_i c3;rw[au c3] at e;rw[VM e];rfl
theorem te (H:HI gh h) {v:Int} (c:aU h.g v=true) (a b:Int): ∃dq,HI dq (jP h v a b):=by
 by_cases e:oW h v a b=0
 ·obtain⟨g',d, _⟩:=H.Jt c e;exact⟨g',d⟩
 ·rw[Ju e];exact⟨gh,H⟩
end HI
end
set_option maxRecDepth 100000
open Go.RX D
section
variable {gh:Gh} {h:HS}
theorem iH {gh:Gh} {s s':WD} (I:Inv gh s) (a:s'.1.length=s.1.length/\s'.2.length=s.2.length)
 (g: ∀b:Int,dE s'.1 b≠dE s.1 b-> ∃(n:Nat) (d:DT),s.2[n]? =some d/\d.1≠3/\16*(n:Int)<=b/\b<16*(n:Int)+16)
 (i: ∀{n:Nat} {d d':DT},s.2[n]? =some d->s'.2[n]? =some d'->(d'=d\/(d.1≠3/\d'.1≠3/\(d'.1=0->d'=zD)))):Inv.fl gh s s' where
 len:=a
 ws:=λ{f o x k l} j h0 h1=>by
  refine B5 λm=>?_;obtain⟨n,d,t,u,v,w⟩:=g _ m;have y:=I.kd j;have e:f.toNat=n:=by omega
  grind
 tb:=λ{n d} h p=>by
  grind
 bt:=λh p=>by
  grind
 fz:=λd q h0=>by
  obtain⟨n,c⟩:=CW q;have r:n<s.2.length:=by rw[<-a.2];exact(Aq.1 c).1
  have h':=BP r;rcases i h' c with e|⟨_, _,e⟩
  ·rw[e] at h0 ⊢;exact I.fz _ (B7 h') h0
  ·grind
theorem Bv {ds:List DT} {n m:Nat} {d0 d1 d d':DT} (h0:ds[n]? =some d0) (h:ds[m]? =some d) (h':(ds.set n d1)[m]? =some d'):(m=n/\d=d0/\d'=d1)\/(m≠n/\d'=d):=by
 grind
namespace HI
theorem TT (H:HI gh h) {i:Nat} {p f:Int} (b:m_ h i p=some f): ∃(n:Nat) (d:DT),f=(n:Int)/\h.s.2[n]? =some d/\d.1=4/\1<=d.2.1/\d.2.1<=16/\d=(4,d.2.1,(fc (mB h) (n:Int):Int),0,()):=by
 obtain⟨n,d,h1,a,c⟩:=H.hc.at4 b;obtain⟨j,q,g,e, _⟩:=H.hc.Ts a c;have:=H.hc.iM e;obtain:=H.hc.kd a;have k:=H.hc.refs a
 grind
structure abC (h h':HS) (v:Nat) (a b:Int) (f:Nat):Prop where
 g:h'.g=h.g
 gr:h'.gr=h.gr
 po:h'.po=h.po
 WW:(jJ h v a).2.2.1=4
 pg:jJ h' v a=((f:Int),b,0,())
 fr:h.s.2[f]? =some zD
 f4:h'.s.2[f]? =some (4,(v:Int),0,0,())
 ef:uH h h' (λi q=>i=v/\q=a) (f:Int)
 zr: ∀k:Int,0<=k->k<16->dE h'.s.1 (16*(f:Int)+k)=0
 ct:cj h.s.2 0<=cj h'.s.2 0+4
theorem PB (H:HI gh h) {v:Int} (X:aU h.g v=true) {a b:Int} (o:qz h v a b=0): ∃dq f,HI dq (jK h v a b)/\abC h (jK h v a b) v.toNat a b f/\ji h v=(f:Int)/\uB gh dq h.s (jK h v a b).s:=by
 obtain⟨x,p,K,hv,Y,Z⟩:=b_ X;unfold qz at o;unfold jK;by_cases L:a>=65536
 ·rw[ay L] at o;exact absurd o (by decide)
 rw[au L] at o ⊢;by_cases M:b<1\/b>7
 ·rw[ay M] at o;exact absurd o (by decide)
 rw[au M] at o ⊢;by_cases w:dO h.s.2 4 v=0
 case neg=>rw[ay w] at o;exact absurd o w
 rw[au (λe=>e w)] at o ⊢;obtain⟨n,uE,u,t1,t2,t3⟩:=zA (vd w) H.inv.fz ⟨Y,Z⟩;have N:ji h v=(n:Int):=t1;have r:kL h v=(h.s.1,h.s.2.set n (4,v,0,0,())):=by unfold kL;rw[t3]
 have hM:qy h v a b=jt (kL h v) v (aZ h.g v) false a (ji h v) b:=rfl;rw[au (λe=>e o)];rw[hM,N,K];rw[N,K] at o;obtain⟨m,rfl⟩: ∃m:Nat,v=(m:Int):=⟨v.toNat,hv.symm⟩;have p:h.g m=some x:=p;have hlen:=H.sz;have B:Inv.fl gh h.s (kL h (m:Int)):=by
  rw[r];refine iH H.inv ⟨rfl,by rw[B2]⟩ (λb hb=>absurd rfl hb) λ{i d d'} h1 A=>?_;rcases Bv u h1 A with ⟨_,e1,D⟩|⟨_,D⟩
  ·exact .inr ⟨by rw[e1];decide,by rw[D];exact(show ¬ (4:Int)=3 by decide),λc=>by rw[D] at c;exact absurd c (show ¬ (4:Int)=0 by decide)⟩
  ·exact .inl D
 have E:=H.inv.beside B;obtain⟨hp,g',C,O,q2,P, _,⟨f0,j,hE,hc⟩, _⟩:=E.map (H.root p) o;have hj:=(E.kd hE.1).2.2.2.2.2;have hcT:cj (kL h (m:Int)).2 0+1=cj h.s.2 0:=by
  rw[r];have:=th (d':=((4:Int),(m:Int),(0:Int),(0:Int),())) u 0;exact this
 have rb:m_ h m a=none:=by
  rw[cN p, <-H.inv.dQ B (H.root p),au (by rw[P];decide)]
 have hc1:HC (nj (m_ h) m a (some (n:Int))) (mB h) (kL h (m:Int)).2 h.gr:=by
  rw[r];exact H.hc.Gs (by omega) hp u rfl rb
 have NT:=Kept.hc hc1 C.kp;have kp:=C.kp;have Q:(kL h (m:Int)).1=h.s.1:=rfl;generalize jt (kL h (m:Int)) (m:Int) x.root false a (n:Int) b=l at*
 have qm:=H.yD p (λ{i z} F q=>H.inv.dQ B (H.root F) q) E C (y:=some (n:Int)) (by rw[O,ay rfl]) (h':=bq h l) rfl (λ_=>rfl);have G:HI g' (bq h l):=H.base C B.len (Inv.m6 B H.nl) rfl (λ_=>rfl) (by rw[qm];exact NT);have R:l.2[n]? =some (4,(m:Int),0,0,()):=C.kp.ks (by rw[r];exact B1 uE) rfl;have J1:l.2.length=h.s.2.length:=by rw[C.len.2,B.len.2]
 have WK:l.1.length=h.s.1.length:=by rw[C.len.1,B.len.1]
 have S:(eT l.1 (n:Int) (λ_=>0) 16).length=l.1.length:=gF _ _ _ _;have I: ∀b,dE (eT l.1 (n:Int) (λ_=>0) 16) b=if 16*(n:Int)<=b/\b<16*(n:Int)+16 then 0 else dE l.1 b:=λb=>tg (by omega) (by omega) 16 (FR _) b;generalize eT l.1 (n:Int) (λ_=>0) 16=W at S I ⊢;have T:Inv.fl g' l (W,l.2):=by
  refine iH C.inv ⟨S,rfl⟩ (λb hb=>⟨n, _,R,(show ¬ (4:Int)=3 by decide),?_⟩) λ{i d d'} h1 A=>?_
  ·grind
  ·rw[h1] at A;cases A;exact .inl rfl
 have H3:=G.side (zU:=h.gr) (NH:=h.po) T G.hc;have U: ∀{i:Nat} {q:Int},jJ {s:=(W,l.2),g:=h.g,gr:=h.gr,po:=h.po} i q=jJ (bq h l) i q:=λ{i q}=>by
  cases hi:h.g i with
  |none=>unfold jJ;rw[show(bq h l).g i=none from hi];dsimp only;rw[hi]
  |some z=>rw[bP (h:=bq h l) hi,bP (h:={s:=(W,l.2),g:=h.g,gr:=h.gr,po:=h.po}) hi];exact C.inv.dQ T (G.root hi) q
 refine⟨g',n,H3,⟨rfl,rfl,rfl,?_,?_,u,R,⟨⟨λ{i q} hn=>?_⟩,λ{i d d'} V h4 _ _ cW k k0 J=>?_,KD.trans (t:=kL h (m:Int)) (by rw[r];exact KD.set u (λc=>absurd c (by decide)) (λc=>absurd c (by decide))) (C.kd.trans (.refl rfl))⟩,λk k0 J=>?_,?_⟩,rfl,((uB.kd (by rw[r];exact KD.set u (λc=>absurd c (by decide)) (λc=>absurd c (by decide))) (λ_ _ _ _ _=>by rw[Q])).trans C.gks).trans (uB.kd (.refl rfl) λ{i d} V h5 k k0 J=>?_)⟩
 ·rw[show((m:Int)).toNat=m from rfl,bP p, <-H.inv.dQ B (H.root p)];exact P
 ·exact U.trans ((bP (h:=bq h l) p a).trans O)
 ·exact U.trans ((H.Gt (λ{i z} F q=>H.inv.dQ B (H.root F) q) E C (h':=bq h l) rfl (λ_=>rfl)).to hn)
 ·show dE W _= _;rw[I,au (by omega)];have NA:(kL h (m:Int)).2[i]? =some d:=by
   rw[r];show(h.s.2.set n _)[i]? = _;rw[Ag (by omega)];exact V
  rw[kp.ws NA h4 k k0 J,Q]
 ·show dE W _= _;rw[I,ay (by omega)]
 ·show _<=cj l.2 0+4;omega
 ·show dE W _= _
  grind
theorem PC (H:HI gh h) {v:Int} (j:aU h.g v=true) {a b:Int} (c:qz h v a b≠0):jK h v a b=h:=by
 obtain⟨x,q,r,hv,f,i⟩:=b_ j;unfold qz at c;unfold jK;split
 ·rfl
 rename_i c1;rw[au c1] at c;split
 ·rfl
 rename_i c2;rw[au c2] at c;split
 ·rename_i e;have:kL h v=(h.s.1,h.s.2):=by unfold kL;rw[Bf e]
  rw[this];rfl
 rename_i d;rw[au d] at c;have d:=B5 d;rw[ay c];obtain⟨n,k,l,t1,t2,t3⟩:=zA (vd d) H.inv.fz ⟨f,i⟩;have m:ji h v=n:=t1;have o:kL h v=(h.s.1,h.s.2.set n (4,v,0,0,())):=by unfold kL;rw[t3]
 have p:qy h v a b=jt _ v _ _ a _ b:=rfl;rw[p,Jj c,o,m];have:=ym (B1 k) (MY ⟨f,i⟩);rw[this.1,Sz l];rfl
theorem Gs (H:HI gh h) {v:Int} (c:aU h.g v=true) (a b:Int): ∃dq,HI dq (jK h v a b):=by
 by_cases e:qz h v a b=0
 ·obtain:=H.PB c e
  grind
 ·rw[H.PC c e];grind
structure abD (h h':HS) (v:Nat) (a:Int) (f:Nat):Prop where
 g:h'.g=h.g
 WW:(jJ h v a).2.2.1=0/\(jJ h v a).1=(f:Int)
 pg:jJ h' v a=(0,0,4,())
 f5:h'.s.2[f]? =some (5,(v:Int),0,0,())
 ef:uH h h' (λi q=>i=v/\q=a) (-1)
theorem PD (H:HI gh h) {v:Int} (B:aU h.g v=true) {a:Int} (e:wZ h v a=0): ∃dq f,HI dq (qx h v a)/\abD h (qx h v a) v.toNat a f/\uB gh dq h.s (qx h v a).s:=by
 obtain⟨x,l,L,hv,wJ,sN⟩:=b_ B;unfold qx;rw[ay e];obtain⟨m,rfl⟩: ∃m:Nat,v=(m:Int):=⟨v.toNat,hv.symm⟩;have l:h.g m=some x:=l;have M:fQ h.g h.s (m:Int) a=bA h.s x.root false a:=by
  unfold fQ;grind
 unfold wZ at e;rw[M] at e ⊢;rw[L];split at e
 ·exact absurd e (by decide)
 split at e
 ·rename_i c;exact absurd e c
 rename_i c1;have c1:(bA h.s x.root false a).2.2.1=0:=B5 c1;split at e
 ·exact absurd e (by decide)
 rename_i c2;split at e
 ·exact absurd e (by decide)
 rename_i c3;have u:m_ h m a=some (bA h.s x.root false a).1:=by rw[cN l,ay c1]
 obtain⟨n,d,D,w,d4,do1,do2,r⟩:=H.TT u;have E:bZ (mB h m) a=none:=by
  cases N:bZ (mB h m) a with
  |none=>rfl
  |some y=>
   refine absurd ((tD B (x:=x) l).2 ?_) c2;rw[gf l] at N;unfold NE
   grind
 rw[D] at c3 u ⊢;rw[o_ w] at c3;have F:fc (mB h) (n:Int)=0:=by
  have:=H.hc.refs w;omega
 have I:=(H.inv.Px (H.root l) c1).1;obtain⟨g',C,J, _⟩:=H.inv.DO (H.root l) I (H.inv.aaC H.nl (H.root l) I c1);have O:=Kept.hc H.hc C.kp;generalize nf h.s (m:Int) x.root false a=j at*
 have t:=C.kp.ks w d4;rw[F] at r;have r:d=(4,d.2.1,0,0,()):=r;have Q:d.2.1=(m:Int):=by
  obtain⟨R,d',S,K, _,T⟩:=H.hc.own u E;have:R=n:=BY S;subst this;rw[w] at K;cases K;exact T
 rw[Q] at r;rw[r] at t;have U:=ym (G:=aO 5 (m:Int)) t (Bu ⟨by omega,by omega⟩);rw[U.1];have V:=O.CD (o:=(m:Int)) ⟨by omega,by omega⟩ u E F;have A:Inv.fl g' j (j.1,j.2.set n (5,(m:Int),0,0,())):=by
  refine iH C.inv ⟨rfl,by rw[B2]⟩ (λb hb=>absurd rfl hb) λ{i d d'} h1 h2=>?_
  grind
 have W:=H.yD l (λ{i z} k q=>rfl) H.inv C (y:=none) (by rw[J];rfl) (h':=bq h j) rfl (λ_=>rfl);have X:=by
  funext i p;cases k:h.g i with
  |none=>exact(f_ (h:=bq h (j.1,j.2.set n (5,(m:Int),0,0,()))) k p).trans (f_ (h:=bq h j) k p).symm
  |some z=>
   refine(cN (h:=bq h (j.1,j.2.set n (5,(m:Int),0,0,()))) k p).trans (Eq.trans ?_ (cN (h:=bq h j) k p).symm);show(if(bA (j.1,j.2.set n (5,(m:Int),0,0,())) z.root false p).2.2.1=0 then some (bA (j.1,j.2.set n (5,(m:Int),0,0,())) z.root false p).1 else none)=if(bA j z.root false p).2.2.1=0 then some (bA j z.root false p).1 else none;rw[C.inv.dQ A (C.root.to (H.root k))]
 have Y:(bq h j).g m=some x:=l;have Z:n<j.2.length:=(Aq.1 t).1;have sp: ∀P,z7 (bq h j) (bq h (j.1,j.2.set n (5,(m:Int),0,0,()))) P:=λP=>⟨λ{i q} _=>by
  cases k:h.g i with
  |none=>exact(fZ (h:=bq h (j.1,j.2.set n (5,(m:Int),0,0,()))) k q).trans (fZ (h:=bq h j) k q).symm
  |some z=>exact(bP (h:=bq h (j.1,j.2.set n (5,(m:Int),0,0,()))) k q).trans ((C.inv.dQ A (C.root.to (H.root k)) q).trans (bP (h:=bq h j) k q).symm)⟩
 suffices hh:HI g' (bq h (j.1,j.2.set n (5,(m:Int),0,0,()))) from⟨g',n,hh,⟨rfl,by rw[show((m:Int)).toNat=m from rfl,bP l];exact⟨c1,D⟩,((sp (λ_ _=>False)).to (λc=>c)).trans ((bP Y a).trans J),B1 Z,z7.trans (H.Gt (λ_ _=>rfl) H.inv C (h':=bq h j) rfl (λ_=>rfl)) (sp _),λ{i d d'} h1 h4 _ _ _=>C.kp.ws h1 h4,C.kd.trans (KD.set t (λ_=> .inr rfl) (by grind))⟩,C.gks.trans (uB.kd (KD.set t (λ_=> .inr rfl) (λc=>absurd (show(4:Int)=5 from c) (by decide))) λ_ _ _ _ _=>rfl)⟩
 exact{inv:=C.inv.beside A,rt:=H.rt.dn C.root,nl:=Inv.m6 A (C.lg (λo q q' a b=>a.2.trans b.2.symm) H.nl),sz:=by
        show j.1.length=16*(j.2.set n (5,(m:Int),0,0,())).length;rw[B2,C.len.1,C.len.2];exact H.sz
       ,iM:=H.iM,root:=λ{i z} k=>C.root.to (H.root k),own:=λ{f o y} hf=>H.own ((C.root o f y).1 hf),hc:=by rw[X,W];exact V}
theorem CD (H:HI gh h) {v:Int} (b:aU h.g v=true) (a:Int): ∃dq,HI dq (qx h v a):=by
 by_cases e:wZ h v a=0
 ·obtain:=H.PD b e
  grind
 ·rw[show qx h v a=h from au e];grind
end HI
end
set_option maxRecDepth 100000
open Go.RX D
theorem Bw (k:Nat): ∀l:List TK,(∀t∈l,0<=t.2.1/\t.2.1<(k:Int))->l.length<=((Bx k).map λa=>l.countP λt=>t.2.1==((a:Nat):Int)).sum
 |[], _=>G1 _
 |t::l,h=>by
  have b:=Bw k l (by grind);have c:=h t DB;have e:(λa:Nat=>(t::l).countP λt=>t.2.1==((a:Nat):Int))=k8 (λa:Nat=>l.countP λt=>t.2.1==((a:Nat):Int)) t.2.1.toNat (l.countP (λu=>u.2.1==((t.2.1.toNat:Nat):Int))+1):=by
   funext a;rw[FQ];by_cases e:a=t.2.1.toNat
   ·subst e;rw[kT,ay (by simp;omega)]
   ·rw[nL e,au (by simp;omega)];rfl
  have:=CB
  grind
theorem PE {f:Nat->Nat} {c:Nat}: ∀l:List Nat,(∀x∈l,f x<=c)->(l.map f).sum<=c*l.length
 |[], _=>G1 _
 |x::l,h=>by
  have:=PE l λy a=>h y (by grind);have:=h x (by grind);rw[Dg,Fg,Fo,Nat.mul_add];omega
theorem M6 (tk:Nat->List TK) (q:TK->Bool):oM tk q=((Bx 17).flatMap tk).countP q:=by
 rw[List.countP_flatMap];rfl
theorem M7 (l:List TK) (k c:Nat) (h: ∀t∈l,0<=t.2.1/\t.2.1<(k:Int)) (hb: ∀a:Nat,a<k->(l.countP λt=>t.2.1==((a:Nat):Int))<=c):l.length<=c*k:=by
 have h1:=Bw k;have d:=PE _ λa b=>hb a (FP.1 b)
 grind
namespace HC
variable {fr:Ij} {tk:Nat->List TK} {ds:List DT} {gr:List GT}
theorem ids (H:HC fr tk ds gr) {i:Nat} {t:TK} (h:t∈tk i):0<=t.2.1/\t.2.1<((16:Nat):Int):=by
 obtain⟨_,o, _,k,x,h1, _⟩:=H.C7 (a:=t.2.1) (H.Ok h);obtain:=fm.1 h1;have:=H.gl;omega
theorem Jv (H:HC fr tk ds gr) (f:Int):fc tk f<=16000:=by
 have h0:=M6 tk;have b: ∀t∈(Bx 17).flatMap tk,0<=t.2.1/\t.2.1<16:=λt g=>by
  obtain⟨i, _,hi⟩:=List.mem_flatMap.1 g;exact H.ids hi
 have c: ∀a:Nat,a<16->oM tk λt=>t.2.1==a<=1000:=λa j=>by
  have h:a<gr.length:=by rw[H.gl];grind
  have d:=BP h;have c:=H.uP d;have:=(H.gk _ (B7 d)).2;unfold mM at c;omega
 unfold fc;rw[h0];generalize (Bx _).flatMap tk=e at h0 b;have h1:=List.countP_le_length (p:=λt=>t.2.2==f) (l:=e);have k:=M7 e 16 1000 b (by grind);omega
end HC
theorem M8 {gr:List GT} {k:Nat} {x:GT} (h:gr[k]? =some x) (y:GT):(gr.set k y).set k x=gr:=by
 apply Fm
 grind
section
variable {gh dq:Gh} {h:HS}
theorem HI.fin (H:HI gh h) {v:Nat} {p:Int} {s1 d l:WD} (C:sM (n7 (v:Int) 0 p) (v:Int) gh dq s1 d) (t:z6 gh s1) (m:s1.1.length=h.s.1.length/\s1.2.length=h.s.2.length) (B:Inv.fl dq d l) {h':HS} (j:h'.s=l) (D: ∀i,(h'.g i).map GV.root=(h.g i).map GV.root)
 {F:Ij} (u:m_ {h' with s:=d}=F) (hc:HC F (mB h') l.2 h'.gr):HI dq h':=by
 have n: ∀{i:Nat} {x:GV},h'.g i=some x-> ∃z,h.g i=some z/\x.root=z.root:=λ{i x} k=>by
  cases hc:h.g i with
  |none
  |some z=>grind
 have r: ∀{i:Nat} {x:GV},h'.g i=some x->dq x.root=some _:=λ{i x} k=>by
  obtain⟨z,c,w⟩:=n k;rw[w];exact C.root.to (H.root c)
 refine⟨by rw[j];exact C.inv.beside B,H.rt.dn C.root,by rw[j];exact Inv.m6 B (C.lg (λo q E a b=>a.2.trans b.2.symm) t),?_,λ{i x} k=>?_,r,λ{f o y} A=>?_,?_⟩
 ·rw[j,B.len.1,B.len.2,C.len.1,C.len.2,m.1,m.2];exact H.sz
 ·obtain⟨z,c, _⟩:=n k;exact H.iM c
 ·obtain⟨i,x,h1,G⟩:=H.own ((C.root o f y).1 A);cases hc:h'.g i with
  |none
  |some z=>grind
 ·have e:m_ h'=F:=by
   rw[<-u];funext i q;cases c:h'.g i with
   |none=>exact(f_ c q).trans (f_ (h:={h' with s:=d}) c q).symm
   |some z=>
    refine(cN c q).trans (Eq.trans ?_ (cN (h:={h' with s:=d}) c q).symm);rw[j,C.inv.dQ B (r c)]
  grind
theorem HI.Jw (H:HI gh h) {v:Nat} {p:Int} {b d:WD} (C:sM (n7 (v:Int) 0 p) (v:Int) gh dq h.s b) (B:Inv.fl dq b d) (f:d.1=b.1) (j:KD b d) {h':HS} (e:h'.s=d) (l: ∀i,(h'.g i).map GV.root=(h.g i).map GV.root):
 uH h h' (λi q=>i=v/\q=p) (-1)/\ ∀{i:Nat} {x:GV},h.g i=some x-> ∀q,jJ h' i q=bA b x.root false q:=by
 have m: ∀{i} {x},h.g i=some x-> ∃z,h'.g i=some z/\z.root=x.root:=λ{i x} a=>by
  cases hc:h'.g i with
  |none
  |some=>grind
 have key: ∀{i} {x},h.g i=some x-> ∀q,jJ h' i q=bA b _ _ q:=λa q=>by
  obtain⟨z,n,o⟩:=m a;rw[bP n,e,o];exact C.inv.dQ B (C.root.to (H.root a)) q
 refine⟨⟨⟨λ{i q} r=>?_⟩,λh1 t _ _ _ k k0 u=>?_,?_⟩,key⟩
 ·cases a:h.g i with
  |none=>
   have hi:=l i;rw[a] at hi;rw[fZ a,fZ (by simpa using hi)]
  |some x=>
   rw[key a,bP a];refine H.inv.yW C.inv C.Dw C.root (H.root a) λc=>r ?_;obtain⟨c1,c2⟩:=c;exact⟨by grind,c2⟩
 ·rw[e,f];exact C.kp.ws h1 t k k0 u
 ·rw[e];exact C.kd.trans j
theorem nS {g:Gh} {s:WD} (I:Inv g s) {n:Nat} {o r r':Int} (a:s.2[n]? =some (4,o,r,0,())):Inv.fl g s (s.1,s.2.set n (4,o,r',0,())):=
 iH I (by grind) (by grind) (by grind)
theorem kU {g:Nat->Option GV} {n:Nat} {x:GV} (a:g n=some x) (tk:List TK) (i:Nat):(bj g n (some {x with tk:=tk}) i).map GV.root=(g i).map GV.root:=by grind[bj]
theorem Jx {h':HS} {g:Nat->Option GV} {n:Nat} {x:GV} (b:h.g n=some x) (tk:List TK) (a:h'.g=bj h.g n (some {x with tk:=tk})):mB h'=k8 (mB h) n tk:=by
 unfold mB k8;rw[a];unfold bj
 grind
def NW (ds:List DT) (n:Nat) (o:Int):Prop:= ∃d:DT,ds[n]? =some d/\d.1=4/\d.2.1=o
theorem Kept.Ts {s s':WD} (K:Kept s s') (n:Nat) (o:Int):NW s'.2 n o<->NW s.2 n o:=by
 constructor
 ·rintro⟨d,h1,a,b⟩;rcases K.nw h1 with h|⟨⟩
  ·exact⟨d,h,a,b⟩
  omega
 ·rintro⟨d,h1,a,b⟩;exact⟨d,K.ks h1 a,a,b⟩
theorem V6 {ds:List DT} {n:Nat} {o r r':Int} (h:ds[n]? =some (4,o,r,0,())) (m:Nat) (o':Int):NW (ds.set n (4,o,r',0,())) m o'<->NW ds m o':=by grind[NW]
theorem HI.FZ (H:HI gh h) {v:Nat} {p id f:Int} {x:GV} (a:h.g v=some x) (J:bZ x.tk p=some (id,f)): ∃dq,HI dq (dt h (v:Int) p id f)/\(∀n o,NW (dt h (v:Int) p id f).s.2 n o<->NW h.s.2 n o)/\uH h (dt h (v:Int) p id f) (λi q=>i=v/\q=p) (-1)/\jJ (dt h (v:Int) p id f) v p=(0,0,4,())/\uB gh dq h.s (dt h (v:Int) p id f).s:=by
 have j:bZ (mB h v) p=some (id,f):=by rw[gf a];exact J
 obtain⟨l,o,X,K⟩:=H.hc.C7 j;obtain⟨k,y,g1,e,Y,L, _⟩:=K;obtain⟨n,d,M,r,d4,N,do2,O⟩:=H.TT l;subst M;obtain⟨P,Z,u⟩:=fm.1 g1;rw[getD_some e] at u;subst P;have Q:aZ h.g (v:Int)=x.root:=by
  have r:=H.iM a;unfold aZ;rw[ay (cm.2 ⟨by omega,x,a⟩)]
  grind
 have A:(bA h.s x.root false p).2.2.1=0:=by
  rw[cN a] at l
  grind
 have B:=(H.inv.Px (H.root a) A).1;obtain⟨g',C,D, _⟩:=H.inv.DO (H.root a) B (H.inv.aaC H.nl (H.root a) B A);have TO:=H.iM a;have oH:0<fc (mB h) (n:Int):=nM (q:=λt=>t.2.2==(n:Int)) (by omega:v<17) (H.hc.Kj j) (by simp);have acI:0<mM (mB h) (k:Int):=nM (q:=λt=>t.2.1==(k:Int)) (by omega:v<17) (H.hc.Kj j) (by simp);have acq:=H.hc.Jv (n:Int);have R:mr h.gr (k:Int) (v:Int)=0:=by
  unfold mr;rw[g1];dsimp only;rw[getD_some e,au (by rw[L];simp),au (by rw[H.hc.uP e];omega)]
 have E:eA h.gr (k:Int) (v:Int)=h.gr.set k (fC y (-1)):=by
  unfold eA;rw[ay R];show h.gr.set k (fC (h.gr.getD k zG) (-1))= _;rw[getD_some e]
 have S:=Kept.hc H.hc C.kp;have T:dt h (v:Int) p (k:Int) (n:Int)={s:=((nf h.s (v:Int) x.root false p).1,dF (nf h.s (v:Int) x.root false p).2 (n:Int) (gX (-1))),g:=bj h.g v (some {x with tk:=x.tk.filter λt=> !(t.1==p)}),gr:=h.gr.set k (fC y (-1)),po:=h.po}:=by
  unfold dt;rw[Q,E];show HS.mk _ (bj h.g v (match h.g v with|some x=> _|none=>none)) _ _= _;rw[a]
 rw[T];generalize nf h.s (v:Int) x.root false p=F at*
 have b:=C.kp.ks r d4;rw[O] at b;have U:=ym (G:=gX (-1)) b (aaE ⟨N,do2⟩ ⟨by omega,by omega⟩ ⟨by omega,by omega⟩);rw[U.1];have V:n5 (h.gr.set k (fC y (-1))):=by rw[<-E];exact H.hc.gk.back _ _
 have W:=S.FZ j b e u V;have I:=H.Jw C (nS C.inv b) rfl (KD.set b (λ_=> .inl rfl) (λc=>absurd (show(4:Int)=5 from c) (by decide))) (h':={s:=(F.1,F.2.set n (4,d.2.1,(fc (mB h) (n:Int):Int)+ -1,0,())),g:=bj h.g v (some {x with tk:=x.tk.filter λt=> !(t.1==p)}),gr:=h.gr.set k (fC y (-1)),po:=h.po}) rfl (λi=>kU a _ i);refine⟨g',H.fin C H.nl ⟨rfl,rfl⟩ (nS C.inv b) rfl (λi=>kU a _ i) (H.yD a (λ{i z} hz q=>rfl) H.inv C (y:=none) (by rw[D];rfl) rfl (λi=>kU a _ i)) ?_,λm w=>(V6 b m w).trans (C.kp.Ts m w),I.1,(I.2 a p).trans D,C.gks.trans (by grind[uB.kd,KD.set])⟩;rw[Jx (g:=h.g) a _ rfl, <-gf a];exact W
end
set_option maxRecDepth 100000
open Go.RX D
section
variable {gh dq:Gh} {h:HS}
theorem M9 {v p:Int} (h0:(fQ h.g h.s v p).2.2.1=0):aU h.g v=true/\ ∃x,h.g v.toNat=some x/\fQ h.g h.s v p=bA h.s x.root false p:=by grind[fQ]
theorem SA {v p:Int} {x:GV} (a:aU h.g v=true) (b:h.g v.toNat=some x) (hb: ¬ gZ h v p=true):bZ x.tk p=none:=by
 cases c:bZ _ p with
 |none=>rfl
 |some=>
  refine absurd ((tD a b).2 ?_) hb;unfold NE
  grind
theorem SB {gs:List GT} {k:Nat} {x:GT} {v:Int} (h:gs[k]? =some x) (d:x≠zG) (hv:x.2.2.1=v) (f:0<=x.2.2.2.2.1) (g:n5 gs):eA (gs.set k (fC x 1)) (k:Int) v=gs:=by
 have a:=(Aq.1 h).1;have h1:(gs.set k _)[k]? =some (fC x 1):=B1 a;have b:lV (gs.set k (fC x 1)) k=some k:=fm.2 (by grind[getD_some,xI]);have c:mr (gs.set k (fC x 1)) k v=0:=by
  unfold mr;rw[b];dsimp only;rw[getD_some h1,au (by show ¬ x.2.2.1≠v;grind),au (by show ¬ x.2.2.2.2.1+1=0;omega)]
 unfold eA;rw[ay c];show(gs.set k (fC x 1)).set k (fC ((gs.set k (fC x 1)).getD k zG) (-1))=gs;rw[getD_some h1];have e:fC (fC x 1) (-1)=x:=by
  unfold fC
  grind
 rw[e];exact M8 h _
theorem abE {v a b c:Int} (d:my h v a b c=0):ni h v a b c=lQ h.s (aZ h.g v) false b (lJ h a).1 (wK c):=by grind[my,ni]
theorem HI.Jy (H:HI gh h) {v a b c:Int} (T:aU h.g v=true) (U:my h v a b c=0):
 (ni h v a b c=0-> ∃dq,HI dq (ia h v a b c)/\uH h (ia h v a b c) (λi q=>i=v.toNat/\q=b) (-1)/\(jJ h v.toNat b).2.2.1=4/\jJ (ia h v a b c) v.toNat b=((lJ h a).1,wK c,0,())/\uB gh dq h.s (ia h v a b c).s)/\(ni h v a b c≠0->AG h v a b c=h):=by
 have A:=abE U;obtain⟨p4,r,B,V⟩:(lP h a).2.2.1=v/\(lJ h a).2.2.1=0/\ ¬ gZ h (lP h a).1 (lP h a).2.1=true/\gU h.gr a v (c==1)=0:=by
  grind[my]
 obtain⟨x,f,W,hv,wJ,sN⟩:=b_ T;obtain⟨k,D⟩: ∃k,lV h.gr a=some k:=by
  grind[gU,lV]
 obtain⟨t,X,u⟩:=fm.1 D;have j:h.gr[k]? =some h.gr[k]:=BP X;obtain⟨y,Y⟩: ∃y,y=h.gr[k]:=⟨_,rfl⟩;rw[<-Y] at j;rw[getD_some j] at u;have E:lP h a=y:=by
  unfold lP wT;rw[D];exact getD_some j
 have F:lJ h a=fQ h.g h.s y.1 y.2.1:=by unfold lJ;rw[E]
 rw[E] at p4 B;rw[F] at r;obtain⟨I,J,l,K⟩:=M9 r;have Z:=SA I l B;obtain⟨m,rfl⟩: ∃m:Nat,v=(m:Int):=⟨v.toNat,hv.symm⟩;have f:h.g m=some x:=f;obtain⟨o,L⟩: ∃o:Nat,y.1=(o:Int):=⟨y.1.toNat,by have:=cm.1 I;omega⟩;have l:h.g o=some J:=by rw[L] at l;exact l
 rw[K] at r;have w:m_ h o y.2.1=some (bA h.s J.root false y.2.1).1:=by rw[cN l,ay r]
 obtain⟨n,d,M,hd,d4,do1,do2,TU⟩:=H.TT w;rw[M] at w;have N:(lJ h a).1=(n:Int):=by rw[F,K,M]
 have O:dW h.gr a (m:Int) (c==1)=h.gr.set k (fC y 1):=by
  unfold dW;rw[ay V, <-t];show h.gr.set k (fC (h.gr.getD k zG) 1)= _;rw[getD_some j]
 refine⟨λe=>?_,λe=>?_⟩
 ·rw[A,W,N] at e;obtain⟨hp,g',C,P, _,Q, _⟩:=H.inv.map (H.root f) e;have acr:m_ h m b=none:=by rw[cN f,au (by rw[Q];decide)]
  have jI:ia h (m:Int) a b c={s:=((jt h.s (m:Int) x.root false b (n:Int) (wK c)).1,dF (jt h.s (m:Int) x.root false b (n:Int) (wK c)).2 (n:Int) (gX 1)),g:=bj h.g m (some {x with tk:=nh (b,a,(n:Int)) x.tk}),gr:=h.gr.set k (fC y 1),po:=h.po}:=by
   grind[ia,bj]
  rw[jI];have NT:=Kept.hc H.hc C.kp;generalize jt h.s (m:Int) x.root false b (n:Int) (wK c)=R at*
  have p:=C.kp.ks hd d4;rw[TU] at p;have acq:=H.hc.Jv (n:Int);have qB:=ym (G:=gX 1) p (aaE ⟨do1,do2⟩ ⟨by omega,by omega⟩ ⟨by omega,by omega⟩);rw[qB.1];have WV:n5 (h.gr.set k (fC y 1)):=by rw[<-O];exact H.hc.gk.take _ _ _
  have WH:=NT.take hp acr p j u L p4 w (by rw[gf l];exact Z) WV;have S:=H.Jw C (nS (r':=(fc (mB h) (n:Int):Int)+1) C.inv p) rfl (KD.set p (λ_=> .inl rfl) (λc=>absurd (show(4:Int)=5 from c) (by decide))) (h':={s:=(R.1,R.2.set n (4,d.2.1,(fc (mB h) (n:Int):Int)+1,0,())),g:=bj h.g m (some {x with tk:=nh (b,a,(n:Int)) x.tk}),gr:=h.gr.set k (fC y 1),po:=h.po}) rfl (λi=>kU f _ i)
  suffices hh:HI g' _ from⟨g',hh,S.1,by rw[show((m:Int)).toNat=m from rfl,bP f];exact Q,by rw[N];exact(S.2 f b).trans P,C.gks.trans (by grind[uB.kd,KD.set])⟩
  refine H.fin C H.nl ⟨rfl,rfl⟩ (nS C.inv p) rfl (λi=>kU f _ i) (H.yD f (λ{i z} hz q=>rfl) H.inv C (y:=some (n:Int)) (by rw[P];rfl) rfl (λi=>kU f _ i)) ?_;rw[Jx (g:=h.g) f _ rfl, <-gf f, <-t];exact WH
 ·rw[A] at e;unfold AG;rw[Jj e,O, <-t,SB j u p4 (H.hc.gk y (B7 j)).2.1 H.hc.gk]
theorem HI.PF (H:HI gh h) {v a b c:Int} (f:aU h.g v=true) (e:ni h v a b c≠0):jl h v a b c=h:=by
 unfold jl;by_cases d:my h v a b c=0
 ·rw[au λe=>e d,au e];exact(H.Jy f d).2 e
 grind
theorem SC {v a b c:Int} (e:ni h v a b c=0):my h v a b c=0:=by grind[ni,my]
theorem HI.PG (H:HI gh h) {v a b c:Int} (d:aU h.g v=true) (e:ni h v a b c=0):jl h v a b c=ia h v a b c/\ ∃dq,HI dq (ia h v a b c)/\uH h (ia h v a b c) (λi q=>i=v.toNat/\q=b) (-1)/\(jJ h v.toNat b).2.2.1=4/\jJ (ia h v a b c) v.toNat b=((lJ h a).1,wK c,0,())/\uB gh dq h.s (ia h v a b c).s:=by
 have f:=SC e;refine⟨?_,(H.Jy d f).1 e⟩;unfold jl
 grind
theorem HI.take (H:HI gh h) {v:Int} (d:aU h.g v=true) (a b c:Int): ∃dq,HI dq (jl h v a b c):=by
 by_cases e:ni h v a b c=0
 ·obtain:=H.PG d e
  grind
 ·rw[H.PF d e];grind
theorem HI.Jz (H:HI gh h) {v:Int} (b:aU h.g v=true) {a:Int} (e:oX h v a=0): ∃dq,HI dq (gV h v a)/\uH h (gV h v a) (λi q=>i=v.toNat/\q=a) (-1)/\jJ (gV h v a) v.toNat a=(0,0,4,())/\uB gh dq h.s (gV h v a).s:=by
 obtain⟨x,c,hv⟩:=b_ b;unfold oX at e;unfold gV;split at e
 grind
 split at e
 ·rename_i c2;have d:=(tD b c).1 c2;obtain:=H.FZ c d
  grind
 grind
theorem JA {v a:Int} (e:oX h v a≠0):gV h v a=h:=by grind[oX,gV]
theorem HI.back (H:HI gh h) {v:Int} (b:aU h.g v=true) (a:Int): ∃dq,HI dq (gV h v a):=by
 by_cases e:oX h v a=0
 ·obtain:=H.Jz b e
  grind
 ·rw[JA e];grind
theorem HI.fK {v:Nat}: ∀(n:Nat) {gh:Gh} {h:HS},HI gh h->(∃x,h.g v=some x)->(mB h v).length=n->
 ∃dq,HI dq (fK (v:Int) n h)/\(∃x,(fK (v:Int) n h).g v=some x)/\mB (fK (v:Int) n h) v=[]/\(∀i,i≠v->(fK (v:Int) n h).g i=h.g i)/\(∀m o,NW (fK (v:Int) n h).s.2 m o<->NW h.s.2 m o)/\uH h (fK (v:Int) n h) (λi _=>i=v) (-1)/\uB gh dq h.s (fK (v:Int) n h).s
 |0,gh,h,H,a,b=>⟨gh,H,a,List.length_eq_zero_iff.1 b,λ_ _=>rfl,λ_ _=>Iff.rfl,.refl _ _ _,uB.refl _ _⟩
 |n+1,gh,h,H,⟨x,a⟩,b=>by
  have r:xR h (v:Int)=x.tk:=by rw[abB];exact gf a
  have N:x.tk.length=n+1:=by rw[<-gf a];exact b
  have u:x.tk.map (·.1)≠[]:=λe=>by
   simp_all
  have f:=EB u (λy w=>by
   obtain⟨t,j,rfl⟩:=B4.1 w;have z:t∈mB h v:=by rw[gf a];exact j
   have:=H.hc.iM (H.hc.C7 (H.hc.Ok z)).1;omega)
  obtain⟨p,k⟩: ∃p,p=Ai (x.tk.map (·.1)):=⟨_,rfl⟩;rw[<-k] at f;obtain⟨t,j,O⟩:=B4.1 f;have d:=H.hc.nd v;rw[gf a] at d;have l:bZ x.tk p=some t.2:=(jE d).2 (by grind);have A:NE h (v:Int) p=t.2:=by
   grind[NE,bZ]
  have B:yl (v:Int) h=dt h (v:Int) p t.2.1 t.2.2:=by
   unfold yl;rw[r, <-k,A]
  obtain⟨P,C,Q,D, _,E⟩:=H.FZ (x:=x) a l;have q:(dt h (v:Int) p t.2.1 t.2.2).g v=some {x with tk:=x.tk.filter λt=> !(t.1==p)}:=by
   show bj h.g v (match h.g v with|some x=> _|none=>none) v= _;rw[a,fy]
  have F:(mB (dt h (v:Int) p t.2.1 t.2.2) v).length=n:=by
   rw[gf q];have:=(Bt d l).length_eq
   grind
  obtain⟨G,h1,I,J,K,R,L,M⟩:=HI.fK n C ⟨_,q⟩ F;have e:_root_.Go.Proofs.YtlcenllcmeebhaaGreat.fK (v:Int) (n+1) h=_root_.Go.Proofs.YtlcenllcmeebhaaGreat.fK (v:Int) n (dt h (v:Int) p t.2.1 t.2.2):=by rw[<-B];rfl
  rw[e];refine⟨G,h1,I,J,λi hi=>?_,by grind,uH.trans (D.mono λc=>c.1) L,E.trans M⟩;rw[K i hi];show bj h.g v _ i=h.g i;unfold bj;rw[au hi]
end
section
variable {gh dq:Gh} {h:HS}
theorem M_ {v:Int} {x:GV} (a:aU h.g v=true) (b:h.g v.toNat=some x) (p:Int):fQ h.g h.s v p=bA h.s x.root false p:=by grind[fQ]
theorem HI.word (H:HI gh h) {v:Int} (f:aU h.g v=true) {a t:Int} (u:0<=a) (k:0<=t/\t<=7):
 (a<1048576/\(fQ h.g h.s v (a / 16)).2.2.1=0/\iS h v a t=(16*(fQ h.g h.s v (a / 16)).1+a % 16,if gE true (fQ h.g h.s v (a / 16)).2.1 false (fQ h.g h.s v (a / 16)).1 t=true then 0 else 7)/\
  ∃n:Nat,(fQ h.g h.s v (a / 16)).1=(n:Int)/\n<h.s.2.length/\m_ h v.toNat (a / 16)=some (n:Int))\/
 ((a>=1048576/\(iS h v a t).2=2)\/(a<1048576/\fQ h.g h.s v (a / 16)=(0,0,4,())/\(iS h v a t).2=4)):=by
 obtain⟨x,b,l,hv,w,y⟩:=b_ f;rw[M_ f b];unfold iS;by_cases m:a>=1048576
 grind
 rw[au m,l];have o:=H.root b;have p:0<=a / 16/\a / 16<65536:=by omega
 have i:=H.inv.PA H.nl o p k;by_cases e:(bA h.s x.root false (a / 16)).2.2.1=0
 ·rw[ay e] at i;have j:m_ h v.toNat (a / 16)=some (bA h.s x.root false (a / 16)).1:=by rw[cN b,ay e]
  obtain⟨n,d,c,q, _⟩:=H.TT j;have r:=(Aq.1 q).1;have z:=H.inv.le;refine .inl ⟨by omega,e,?_,n,c,r,by rw[j,c]⟩;rw[i];rw[c,d_ (by omega) (by omega),aw (by omega) (by omega)]
 ·refine .inr (by grind[Inv.Z1])
theorem HI.SD (H:HI gh h) {n:Nat} {d:DT} (a:h.s.2[n]? =some d) (d4:d.1=4) {o:Int} (e:0<=o/\o<16) (b:Int):HI gh (bq h (dJ h.s.1 (16*(n:Int)+o) b,h.s.2))/\uH h (bq h (dJ h.s.1 (16*(n:Int)+o) b,h.s.2)) (λ_ _=>False) (n:Int):=by
 have B:Inv.fl gh h.s (dJ h.s.1 (16*n+o) b,h.s.2):=by
  refine iH H.inv ⟨cA _ _ _,rfl⟩ (λq c=>⟨n,d,a,?_⟩) λf=>?_
  ·refine B5 λhc=>c ?_;rw[mJ (by omega)]
  grind
 refine⟨H.side B H.hc,H.CF B (h':=bq h _) rfl rfl _,λ_ _ _ _ g k k0 i=>?_,.refl rfl⟩;exact mJ (by omega)
theorem HI.store (H:HI gh h) {v:Int} (c:aU h.g v=true) {a:Int} (f:0<=a) (b:Int):HI gh (jZ h v a b)/\z7 h (jZ h v a b) (λ_ _=>False):=by
 unfold jZ;by_cases e:(iS h v a 2).2≠0
 ·rw[ay e];exact⟨H,z7.refl _ _⟩
 rw[au e];rcases H.word c f (t:=2) (by grind) with ⟨_, _,i,n,j,s,k⟩|⟨_,u⟩
 ·rw[i];rw[j];obtain⟨m,d,l,p,d4, _⟩:=H.TT k;have:=BY l;subst this;obtain⟨q,r⟩:=H.SD p d4 (o:=a % 16) (by omega) b;exact⟨q,r.pg⟩
 grind
 grind
theorem HI.V7 (H:HI gh h) {n:Nat} {d:DT} (a:h.s.2[n]? =some d) (b:d.1=5):d=(5,d.2.1,0,0,())/\0<=d.2.1/\d.2.1<=16:=by
 obtain:=H.hc.kd a;have c:=H.hc.refs a;have:fc (mB h) n=0:=by
  rcases Dc _ with e|e
  ·exact e
  ·obtain:=H.hc.IF e
   grind
 grind
theorem HI.OL (H:HI gh h) {n:Nat} {d:DT} (a:h.s.2[n]? =some d) (e:d.1=5):fb h.s (n:Int)=(h.s.1,h.s.2.set n zD)/\iR h.s (n:Int)=0/\HI gh (bq h (h.s.1,h.s.2.set n zD))/\z7 h (bq h (h.s.1,h.s.2.set n zD)) (λ_ _=>False):=by
 obtain⟨l,o,p⟩:=H.V7 a e;have g:=a;rw[l] at g;have j:=ym (G:=aO 0 0) g (HR ⟨o,p⟩);have k:As h.s.2 n=true:=by
  unfold As
  grind
 have B:Inv.fl gh h.s (h.s.1,h.s.2.set n zD):=by
  refine iH H.inv ⟨rfl,by rw[B2]⟩ (λb hb=>absurd rfl hb) λ{i d0 d'} h1 q=>?_;rcases Bv a h1 q with ⟨_,r,f⟩|⟨_,f⟩
  ·exact .inr ⟨by rw[r,e];decide,by rw[f];decide,λ_=>f⟩
  ·exact .inl f
 refine⟨?_,?_,H.side B (H.hc.Gr (λ{m d0} h1 t=>?_) λ{m d0} h1=>?_),H.CF B (h':=bq h (h.s.1,h.s.2.set n zD)) rfl rfl _⟩
 ·unfold fb;rw[ay ⟨k,by rw[o_ a];exact e⟩,j.1]
 ·unfold iR;rw[k,au (by decide),o_ a,au (λc=>c e)];exact j.2
 grind
 ·grind[zD,Ag]
theorem V8 {s:WD} {f:Int} (a: ∀(n:Nat) (d:DT),f=(n:Int)->s.2[n]? =some d->d.1≠5):fb s f=s/\iR s f≠0:=by
 grind[As,oE,fb,iR]
theorem HI.free (H:HI gh h) (f:Int):HI gh (bq h (fb h.s f))/\(fb h.s f=h.s\/ ∃(n:Nat) (d:DT),f=(n:Int)/\h.s.2[n]? =some d/\d.1=5/\fb h.s f=(h.s.1,h.s.2.set n zD)):=by
 by_cases e: ∃(n:Nat) (d:DT),f=n/\h.s.2[n]? =some d/\d.1=5
 ·obtain⟨n,d,rfl,h1,b⟩:=e;obtain:=H.OL h1
  grind
 ·obtain⟨a⟩:=V8 (s:=h.s) (f:=f) (by grind);rw[a];exact⟨H,.inl rfl⟩
theorem HI.Xp (H:HI gh h): ∀n,HI gh (bq h (dI h.s n).1)
 |0=>H
 |n+1=>((HI.Xp H n).free _).1
theorem HI.Gu (H:HI gh h): ∃dq,HI dq (gP h)/\uH h (gP h) (λ_ q=> ¬ (0<=q/\q<65536)) (-1)/\uB gh dq h.s (gP h).s:=by
 unfold gP;cases hv:mL h.g with
 |none=>exact⟨gh,H,.refl _ _ _,uB.refl _ _⟩
 |some v=>
  dsimp only;by_cases e:rj h.s (v:Int)=0
  case neg=>rw[au e];exact⟨gh,H,.refl _ _ _,uB.refl _ _⟩
  rw[ay e];obtain⟨XR,z, _⟩:=nQ.1 hv;have U: ∀f,gh f≠some ((v:Int),3,0):=λf a=>by
   obtain⟨i,x,h1,t⟩:=H.own a;have:i=v:=BY h1;subst this;rw[z] at t;cases t
  obtain⟨_,J,b2,b3,C,K,D,V,X,E⟩:=H.inv.born (o:=(v:Int)) (by omega) U (vd e);have Y: ∀{f o y k:Int} {l:Nat},gh f=some (o,l,y)->0<=k->k<16->dE (iK h.s (v:Int) λ_=>0).1 (16*f+k)=dE h.s.1 (16*f+k):=λ{f o y k l} a k0 r=>by
   have cW:f≠eh h.s (v:Int):=λc=>by rw[c,J] at a;cases a
   exact D _ (by omega)
  have L: ∀k,0<=k->k<16->aL (iK h.s (v:Int) λ_=>0).1 (16*eh h.s (v:Int)+k)=zE:=λk k0 r=>YQ (V k k0 r);generalize (iK h.s (v:Int) λ_=>0)=s' at*
  generalize eh h.s (v:Int)=F at*
  have M: ∀{f o y k:Int} {l:Nat},gh f=some (o,l,y)->0<=k->k<16->aL s'.1 (16*f+k)=aL h.s.1 (16*f+k):=λa k0 r=>by unfold aL;rw[Y a k0 r]
  have A: ∀{f o y:Int} {l:Nat},gh f=some (o,l,y)->mD gh F (some ((v:Int),3,0)) f=some (o,l,y):=λ{f o y l} a=>by
   rw[aW (λc=>by rw[c,J] at a;cases a)];exact a
  have N: ∀{i:Nat} {x:GV},bj h.g v (some ⟨F,[]⟩) i=some x->(i=v/\x=⟨F,[]⟩)\/(i≠v/\h.g i=some x):=λ{i x} n=>by
   unfold bj at n;by_cases c:i=v
   ·rw[ay c] at n;cases n;exact .inl ⟨c,rfl⟩
   ·rw[au c] at n;exact .inr ⟨c,n⟩
  have hFl:F.toNat<h.s.2.length:=by omega
  have O: ∀{i:Nat} {p:Int},0<=p/\p<65536->jJ {h with s:=s',g:=bj h.g v (some ⟨F,[]⟩)} i p=jJ h i p:=λ{i p} b=>by
   by_cases c:i=v
   ·subst c;rw[fZ z,bP (h:={h with s:=s',g:=bj h.g i (some ⟨F,[]⟩)}) (x:=⟨F,[]⟩) (fy _ _ _)];show bA s' F false p= _;have P:=L (px 3 p % 16) (eo p 3).1 (eo p 3).2;have u:dz (mD gh F (some ((i:Int),3,0))) s' (i:Int) p F 3:=⟨by rw[px4 b];exact bI _ _ _,by rw[P];exact Ke⟩;rw[E.fH (bI _ _ _) b u,P,FY _ _ rfl]
   ·cases n:h.g i with
    |none=>
     rw[fZ n];exact fZ (h:={h with s:=s',g:=bj h.g v (some ⟨F,[]⟩)}) (show bj h.g v (some ⟨F,[]⟩) i=none by unfold bj;rw[au c];exact n) p
    |some x=>
     rw[bP n,bP (h:={h with s:=s',g:=bj h.g v (some ⟨F,[]⟩)}) (x:=x) (show bj h.g v (some ⟨F,[]⟩) i=some x by unfold bj;rw[au c];exact n)];show bA s' x.root false p= _;obtain⟨f,j, _,u⟩:=H.inv.mv (H.root n) b;have Q:=M u.1 (eo p j).1 (eo p j).2;have Z:dz (mD gh F (some ((v:Int),3,0))) s' (i:Int) p f j:=⟨A u.1,by rw[Q];exact u.2⟩;rw[H.inv.fH (H.root n) b u,E.fH (A (H.root n)) b Z,Q]
  have R: ∀(h:HS) {i:Nat} {p:Int},¬ (0<=p/\p<65536)->(jJ h i p).2.2.1≠0:=λh {i p} b=>by
   grind[jJ,Inv.xH]
  have iq:m_ {h with s:=s',g:=bj h.g v (some ⟨F,[]⟩)}=m_ h:=by
   funext i p;rw[rP,rP];by_cases b:0<=p/\p<65536
   ·rw[O b]
   ·rw[au (R _ b),au (R _ b)]
  have kO:mB {h with s:=s',g:=bj h.g v (some ⟨F,[]⟩)}=mB h:=by
   funext i;unfold mB;show(match bj h.g v (some ⟨F,[]⟩) i with|some x=>x.tk|none=>[])= _;unfold bj;by_cases c:i=v
   ·rw[ay c,c,z]
   ·rw[au c]<;>rfl
  have G:h.s.2[F.toNat]? =some zD:=K;have S:uH h {h with s:=s',g:=bj h.g v (some ⟨F,[]⟩)} (λ_ q=> ¬ (0<=q/\q<65536)) (-1):=by
   refine⟨⟨λhq=>O (B5 hq)⟩,λ{m d d'} h1 I _ _ _ k k0 r=>?_,?_⟩
   ·have hmF:m≠F.toNat:=λc=>by rw[c,G] at h1;cases h1;exact absurd I (by decide)
    exact D _ (by omega)
   ·show KD h.s s';have:=KD.set (s:=h.s) (W:=s'.1) (d1:=((3:Int),(v:Int),(0:Int),(0:Int),())) G (λc=>absurd c (by decide)) (λc=>absurd c (by decide));rw[<-C] at this;exact this
  suffices hh:HI (mD gh F (some ((v:Int),3,0))) {h with s:=s',g:=bj h.g v (some ⟨F,[]⟩)} from⟨_,hh,S,λf w a=> .inl (by
   obtain⟨o,l,x⟩:=w;exact A a),λf c=>c.kd S.kd λk k0 r=>by
   obtain⟨z0,d,T,z2, _⟩:=c;have:f.toNat≠F.toNat:=λe=>by rw[e,G] at T;cases T;exact absurd z2 (by decide)
   exact D _ (by omega)⟩
  refine⟨E,λf o x a=>?_,λf o l x k a k0 r b B=>?_,?_,λ{i x} n=>?_,λ{i x} n=>?_,λ{f o y} a=>?_,?_⟩
  ·by_cases c:f=F
   ·subst c;rw[bI] at a;cases a;rfl
   ·rw[aW c] at a;exact H.rt f o x a
  ·by_cases c:f=F
   ·subst c;have b:(aL s'.1 (16*f+k)).1=true:=b;rw[L k k0 r] at b;cases b
   ·rw[aW c] at a;have b:(aL s'.1 (16*f+k)).1=true:=b;have B:dH (aL s'.1 (16*f+k))=false:=B;rw[M a k0 r] at b B;exact H.nl a k0 r b B
  ·show s'.1.length=16*s'.2.length;rw[X,C,B2];exact H.sz
  ·rcases N n with ⟨c, _⟩|⟨_,c⟩
   ·omega
   ·exact H.iM c
  ·rcases N n with ⟨c,d⟩|⟨_,c⟩
   ·subst c;subst d;exact bI _ _ _
   ·exact A (H.root c)
  ·by_cases c:f=F
   ·subst c;rw[bI] at a;cases a;exact⟨v, _,rfl,fy _ _ _⟩
   ·rw[aW c] at a;obtain⟨i,x,h1,t⟩:=H.own a;refine⟨i,x,h1,?_⟩;show bj h.g v _ i=some x;unfold bj;rw[au (λc=>by subst c;rw[z] at t;cases t)];exact t
  ·rw[iq,kO];show HC (m_ h) (mB h) s'.2 h.gr;rw[C];refine H.hc.Gr (λ{m d} h1 I=>?_) λ{m d} h1=>?_
   ·rw[Ag (λc=>by subst c;rw[K] at h1;cases h1;exact absurd I (by decide))];exact h1
   grind
end
theorem tG {ds:List DT} {v:Int} {i:Nat}:i∈gA ds v<-> ∃d,ds[i]? =some d/\d.2.1=v:=by grind[gA]
theorem HT (ds:List DT) (v:Int):(gA ds v).Nodup:=List.Pairwise.filter _ GJ
theorem y_ {v:Int} (hv:1<=v/\v<=16): ∀(l:List Nat) (ds:List DT) (c:Int),l.Nodup->(∀i∈l, ∀d,ds[i]? =some d->d.1=4->d=(4,v,0,0,()))->
 (l.foldl (uO v) (ds,c)).1.length=ds.length/\ ∀n:Nat,((n∈l/\ ∃d,ds[n]? =some d/\d.1=4)->(l.foldl (uO v) (ds,c)).1[n]? =some (5,v,0,0,()))/\(¬ (n∈l/\ ∃d,ds[n]? =some d/\d.1=4)->(l.foldl (uO v) (ds,c)).1[n]? =ds[n]?)
 |[],ds,c, _, _=>⟨rfl,λn=>⟨λh=>(by cases h.1),λ_=>rfl⟩⟩
 |i::l,ds,c,b,m=>by
  rw[DA] at b;rw[List.foldl_cons];by_cases e:(oE ds (i:Int)).1=4
  ·rw[show uO v (ds,c) i=(dF ds (i:Int) (aO 5 v),c+1) from ay e];have hi:i<ds.length:=by
    refine B5 λhc=>?_;unfold oE at e;rw[ay (.inr (by omega))] at e;exact absurd e (by decide)
   have g:ds[i]? =some ds[i]:=BP hi;rw[o_ g] at e;have p:=m i DB _ g e;rw[p] at g;rw[(ym (G:=aO 5 v) g (Bu hv)).1];obtain⟨h1,f⟩:=y_ hv l (ds.set i (5,v,0,0,())) (c+1) b.2 λj k d o q=>by
    have r:i≠j:=λe=>b.1 (by rw[e];exact k);rw[Ag r] at o;exact m j (Dj _ k) d o q
   refine⟨h1.trans (B2 ..),λn=>⟨λa=>?_,λa=>?_⟩⟩
   ·by_cases en:i=n
    ·subst en;rw[(f i).2 (λc=>b.1 c.1),B1 hi]
    ·refine(f n).1 ⟨?_,?_⟩
     ·grind
     ·rw[Ag en];exact a.2
   grind
  ·rw[show uO v (ds,c) i=(ds,c) from au e];obtain⟨h1,f⟩:=y_ hv l ds c b.2 λj k=>m j (Dj _ k);refine⟨h1,λn=>⟨λa=>(f n).1 ⟨?_,a.2⟩,λa=>(f n).2 λc=>a ⟨Dj _ c.1,c.2⟩⟩⟩;rcases DH.1 a.1 with h|h
   ·subst h;obtain⟨d,s,t⟩:=a.2;rw[o_ s] at e;exact absurd t e
   ·exact h
theorem JB {s s':WD} (h:s'.1=s.1) (r:Int) (g:Bool) (p:Int):bA s' r g p=bA s r g p:=by grind[bA]
section
variable {gh:Gh} {h:HS}
theorem HI.gone (H:HI gh h) {v:Nat} {x:GV} (K:h.g v=some x) (O:mB h v=[]) (P: ∀n,NW h.s.2 n (v:Int)->fc (mB h) (n:Int)=0): ∃dq,HI dq (vD h (v:Int))/\uH h (vD h (v:Int)) (λi _=>i=v) (-1)/\(∀(f:Int) (w:Int×Nat×Int),gh f=some w->w.1≠(v:Int)->dq f=some w)/\ ∀f,iD h.s f->iD (vD h (v:Int)).s f:=by
 have hd:=H.iM K;have L:1<=(v:Int)/\(v:Int)<=16:=by omega
 obtain⟨Q,W,w1,X,F⟩:=H.inv.dropped H.rt (H.root K);have Y:aZ h.g (v:Int)=x.root:=by
  unfold aZ;rw[ay (cm.2 ⟨by omega,x,K⟩)];show(match h.g v with|some x=>x.root|none=> -1)= _;rw[K]
 have Z:vD h (v:Int)={s:=((cG h.s x.root false).1,(B8 (cG h.s x.root false).2 (v:Int)).1),g:=bj h.g v none,gr:=cM h.gr (v:Int),po:=(Po.cG 4 h.po (v:Int)).2}:=by
  unfold vD;rw[Y];rfl
 rw[Z];generalize cG h.s x.root false=s1 at*
 have hD4: ∀{n:Nat} {d:DT},s1.2[n]? =some d->d.1=4->h.s.2[n]? =some d:=λ{n d} h1 r=>by
  by_cases e: ∃l y,gh (n:Int)=some ((v:Int),l,y)
  ·rw[(F n).1 e] at h1;cases h1;exact absurd r (show ¬ (5:Int)=4 by decide)
  ·rw[(F n).2 e] at h1;exact h1
 have R: ∀{n:Nat} {d:DT},h.s.2[n]? =some d->d.1=4->s1.2[n]? =some d:=λ{n d} h1 r=>by
  rw[(F n).2 (λ⟨l,y,C⟩=>?_)]
  ·exact h1
  ·have:=(H.inv.kd C).2.2.1;rw[show((n:Int)).toNat=n from rfl,h1] at this;cases this;exact absurd r (show ¬ (3:Int)=4 by decide)
 have mC: ∀i∈gA s1.2 (v:Int), ∀d,s1.2[i]? =some d->d.1=4->d=(4,(v:Int),0,0,()):=λi hi d h1 r=>by
  obtain⟨d',D,G⟩:=tG.1 hi;rw[h1] at D;cases D;have E:=hD4 h1 r;obtain⟨_,I, _⟩:=H.hc.kd E;have J:=H.hc.refs E;rw[P i ⟨d,E,r,G⟩] at J;obtain⟨a,b,c,e,u⟩:=d;dsimp only at r I J G;rw[r,I,J,G];rfl
 obtain⟨f1,f2⟩:=y_ L (gA s1.2 (v:Int)) s1.2 0 (HT _ _) mC;have hoT:(B8 s1.2 (v:Int)).1=((gA s1.2 (v:Int)).foldl (uO (v:Int)) (s1.2,0)).1:=rfl;rw[<-hoT] at f1 f2;generalize (B8 s1.2 (v:Int)).1=j at*
 have B:Inv.fl (Kg gh (v:Int)) s1 (s1.1,j):=by
  refine iH Q ⟨rfl,f1⟩ (λb hb=>absurd rfl hb) λ{n d d'} h1 A=>?_;by_cases c:n∈gA s1.2 (v:Int)/\ ∃d,s1.2[n]? =some d/\d.1=4
  grind
  ·have A:j[n]? =some d':=A;rw[(f2 n).2 c,h1] at A;cases A;exact .inl rfl
 have S: ∀{i:Nat} {y:GV},bj h.g v none i=some y->i≠v/\h.g i=some y:=λ{i y} t=>by
  unfold bj at t;by_cases c:i=v
  ·rw[ay c] at t;cases t
  ·rw[au c] at t;exact⟨c,t⟩
 have M: ∀{i:Nat} {y:GV},i≠v->h.g i=some y->bj h.g v none i=some y:=λ{i y} hi t=>by
  unfold bj;rw[au hi];exact t
 have acs:mB {s:=(s1.1,j),g:=bj h.g v none,gr:=cM h.gr (v:Int),po:=(Po.cG 4 h.po (v:Int)).2}=mB h:=by
  funext i;unfold mB;show(match bj h.g v none i with|some x=>x.tk|none=>[])= _;unfold bj;by_cases c:i=v
  ·rw[ay c];subst c;exact O.symm
  ·rw[au c]<;>rfl
 have iq:m_ {s:=(s1.1,j),g:=bj h.g v none,gr:=cM h.gr (v:Int),po:=(Po.cG 4 h.po (v:Int)).2}=λi p=>if i=v then none else m_ h i p:=by
  funext i p;by_cases c:i=v
  ·rw[ay c];exact f_ (h:={s:=(s1.1,j),g:=bj h.g v none,gr:=cM h.gr (v:Int),po:=(Po.cG 4 h.po (v:Int)).2}) (show bj h.g v none i=none by unfold bj;rw[ay c]) p
  ·rw[au c];cases hi:h.g i with
   |none=>
    rw[f_ hi];exact f_ (h:={s:=(s1.1,j),g:=bj h.g v none,gr:=cM h.gr (v:Int),po:=(Po.cG 4 h.po (v:Int)).2}) (show bj h.g v none i=none by unfold bj;rw[au c];exact hi) p
   |some z=>
    rw[cN hi,cN (h:={s:=(s1.1,j),g:=bj h.g v none,gr:=cM h.gr (v:Int),po:=(Po.cG 4 h.po (v:Int)).2}) (M c hi)];rw[JB (s:=h.s) (s':=(s1.1,j)) w1]
 have T:uH h {s:=(s1.1,j),g:=bj h.g v none,gr:=cM h.gr (v:Int),po:=(Po.cG 4 h.po (v:Int)).2} (λi _=>i=v) (-1):=by
  refine⟨⟨λ{i q} c=>?_⟩,λ{m d d'} _ _ _ _ _ k _ _=>by show dE s1.1 _= _;rw[w1],λ{n d} h1 r=>?_,λ{n d} h1 h5=>?_⟩
  ·cases hi:h.g i with
   |none=>
    rw[fZ hi];exact fZ (h:={s:=(s1.1,j),g:=bj h.g v none,gr:=cM h.gr (v:Int),po:=(Po.cG 4 h.po (v:Int)).2}) (show bj h.g v none i=none by unfold bj;rw[au c];exact hi) q
   |some z=>
    rw[bP hi,bP (h:={s:=(s1.1,j),g:=bj h.g v none,gr:=cM h.gr (v:Int),po:=(Po.cG 4 h.po (v:Int)).2}) (M c hi)];exact JB (s:=h.s) (s':=(s1.1,j)) w1 _ _ _
  grind
  grind
 suffices hh:HI (Kg gh (v:Int)) {s:=(s1.1,j),g:=bj h.g v none,gr:=cM h.gr (v:Int),po:=(Po.cG 4 h.po (v:Int)).2} from⟨_,hh,T,λf w C hn=>c_.2 ⟨C,hn⟩,λf c=>c.kd T.kd λk _ _=>by show dE s1.1 _= _;rw[w1]⟩
 refine⟨Q.beside B,W,Inv.m6 B (λf o l y k C k0 D U V=>?_),?_,λ{i y} t=>H.iM (S t).2,λ{i y} t=>?_,λ{f o y} C=>?_,?_⟩
 ·rw[w1] at U V;exact H.nl (c_.1 C).1 k0 D U V
 ·show s1.1.length=16*j.length;rw[w1,f1,X];exact H.sz
 ·obtain⟨h1,A⟩:=S t;exact c_.2 ⟨H.root A,λc=>h1 (BY c)⟩
 ·obtain⟨h1,A⟩:=c_.1 C;obtain⟨i,y',I,J⟩:=H.own h1;exact⟨i,y',I,M (λc=>A (by show o= _;rw[<-I,c])) J⟩
 ·rw[iq,acs];refine H.hc.gone ⟨by omega,by omega⟩ O (λ{n d} h1 r N=>?_) (λ{n d} h1 r N=>?_) (λ{n d} h1=>?_) (H.hc.gk.drop _)
  ·rw[H.hc.refs h1,P n ⟨d,h1,r,N⟩];rfl
  ·show j[n]? =some d;rw[(f2 n).2 (λc=>?_)]
   ·exact R h1 r
   ·obtain⟨d',D,G⟩:=tG.1 c.1;rw[R h1 r] at D;cases D;exact N G
  ·have h1:j[n]? =some d:=h1;by_cases c:n∈gA s1.2 (v:Int)/\ ∃d,s1.2[n]? =some d/\d.1=4
   ·rw[(f2 n).1 c] at h1;cases h1;exact .inr ⟨.inr (.inr rfl),rfl,by show 0<=(v:Int);omega,L.2⟩
   ·rw[(f2 n).2 c] at h1;by_cases e: ∃l y,gh (n:Int)=some ((v:Int),l,y)
    ·rw[(F n).1 e] at h1;cases h1;exact .inr ⟨.inr (.inr rfl),rfl,by show 0<=(v:Int);omega,L.2⟩
    ·have E:=h1;rw[(F n).2 e] at h1;exact .inl ⟨h1,λk=>c ⟨tG.2 ⟨d,E,k.2⟩,d,E,k.1⟩⟩
theorem HI.JC (H:HI gh h) (a:Int): ∃dq,HI dq (s6 h a)/\uH h (s6 h a) (λi _=>i=a.toNat) (-1)/\(∀(f:Int) (w:Int×Nat×Int),gh f=some w->w.1≠a->dq f=some w\/iD (s6 h a).s f)/\ ∀f,iD h.s f->iD (s6 h a).s f:=by
 unfold s6;by_cases j:aU h.g a=true
 case neg=>rw[au j];exact⟨gh,H,.refl _ _ _,λ_ _ h _=> .inl h,λ_ h=>h⟩
 rw[ay j];by_cases hb:vC h.s.2 a=true
 case pos=>rw[ay hb];exact⟨gh,H,.refl _ _ _,by grind⟩
 rw[au hb];obtain⟨x,o,K,hv,L,M⟩:=b_ j;obtain⟨v,rfl⟩: ∃v:Nat,a=v:=⟨a.toNat,hv.symm⟩;obtain⟨g1,p,⟨x1,r⟩,u,N,y,z,l⟩:=HI.fK (xR h v).length H ⟨x,o⟩ rfl
 suffices A: ∀n,NW _ n v->fc _ _=0 by
  obtain⟨B,C,E2,b,k⟩:=p.gone r u A;exact⟨B,C,z.trans E2,λf w D m=>(l.1 f w D).imp (by grind) (k f),λf c=>k f (l.2 f c)⟩
 intro n m;rcases Dc _ with e|e
 ·exact e
 ·obtain⟨i,t,hi,E,F⟩:=y9 e;have O:i≠v:=λc=>by grind
  have G:t∈mB h i:=by
   unfold mB at E ⊢
   grind
  obtain⟨d,b,k,I⟩:=(y n _).1 m;have P:=nM (q:=λt=>t.2.2==n) hi G F;have J:=H.hc.refs b;refine absurd ?_ hb;refine GS.2 ⟨n,tG.2 ⟨d,b,I⟩,?_⟩;rw[o_ b];have:d.2.2.1>0:=by rw[J];unfold fc;omega
  grind
end
theorem zB (o pg:Int): ∀(n:Nat) (x:WD×PT),(qH o pg n x).1.1.length=x.1.1.length
 |0,x=>rfl
 |n+1,x=>by
  rw[qH,zB o pg n];exact xD _ _ _ _ _
theorem Na (s:WD) (o r pg lv:Int) (e:ET):(rB s o r pg lv e).1.length=s.1.length:=by
 unfold rB;split
 ·show(dJ _ _ _).length= _;rw[cA,zB]
 ·rfl
theorem qi (s:WD) (o r:Int) (gone:Bool) (pg f rt:Int):(jt s o r gone pg f rt).1.length=s.1.length:=by
 unfold jt;split
 ·rfl
 ·split
  ·exact Na _ _ _ _ _ _
  ·rfl
theorem Nb (s:WD) (o r:Int) (gone:Bool) (pg rt:Int):(rC s o r gone pg rt).1.length=s.1.length:=by
 unfold rC;split
 ·rfl
 split
 ·split
  ·split
   ·rfl
   ·split
    ·show(dJ _ _ _).length= _;rw[cA,tE]
    ·exact tE _ _ _ _
  ·rfl
 ·rfl
theorem SE (s:WD) (r:Int) (gone:Bool):(cG s r gone).1=s.1:=by
 unfold cG;split<;>rfl
theorem By (v:Int): ∀(n:Nat) (h:HS),(fK v n h).s.1.length=h.s.1.length
 |0,h=>rfl
 |n+1,h=>by
  rw[fK,By v n];exact tF _ _ _ _ _
theorem V9 (h:HS) (v k a b c:Int):(run h v k a b c).1.s.1.length=h.s.1.length:=by
 unfold run;split
 ·show(gP h).s.1.length= _;unfold gP;split
  ·rfl
  ·split
   ·exact Jq _ _ _
   ·rfl
 ·show(s6 h a).s.1.length= _;unfold s6;split
  ·split
   ·rfl
   ·show(cG _ _ _).1.length= _;rw[SE,By]
  ·rfl
 ·show(jK h v a b).s.1.length= _;unfold jK;split
  ·rfl
  split
  ·rfl
  split
  ·rfl
  split
  ·exact qi _ _ _ _ _ _ _
  ·exact(gF _ _ _ _).trans (qi _ _ _ _ _ _ _)
 ·show(qx h v a).s.1.length= _;unfold qx;split
  ·exact tF _ _ _ _ _
  ·rfl
 ·show(jP h v a b).s.1.length= _;unfold jP;split
  ·rfl
  split
  ·rfl
  split
  ·rfl
  ·exact Nb _ _ _ _ _ _
 ·rfl
 ·show(jZ h v a b).s.1.length= _;unfold jZ;split
  ·rfl
  ·exact cA _ _ _
 ·show(iz h v a b c).s.1.length= _;unfold iz;split<;>rfl
 ·show(jl h v a b c).s.1.length= _;unfold jl;split
  ·rfl
  split
  ·exact qi _ _ _ _ _ _ _
  ·exact qi _ _ _ _ _ _ _
 ·show(gV h v a).s.1.length= _;unfold gV;split
  ·rfl
  split
  ·exact tF _ _ _ _ _
  ·rfl
 ·show(fO h v a).s.1.length= _;unfold fO;split<;>rfl
 ·show(lX h v a).s.1.length= _;unfold lX;split<;>rfl
 ·show(lY h v a b).s.1.length= _;unfold lY;split
  ·rfl
  split<;>rfl
 ·show(lW h v a).s.1.length= _;unfold lW;split<;>rfl
 ·rfl
 ·show(iW h v a).s.1.length= _;unfold iW;split<;>rfl
 ·show(dI h.s _).1.1.length= _;rw[(Bl h.s _).1]
theorem Cm (h:HS) (v k a b c:Int):(kf h v k a b c).s.1.length=h.s.1.length:=by
 unfold kf;split
 ·exact V9 _ _ _ _ _ _
 ·rfl
theorem Co {h:HS} {v k a b c:Int} (f:iT h v k a b c=0):(1<=k/\k<=17)/\(uN k=false->aU h.g v=true)/\iy k a b c=true:=by
 unfold iT at f;split at f
 ·exact absurd f (by decide)
 rename_i d1;split at f
 ·exact absurd f (by decide)
 rename_i j;split at f
 ·exact absurd f (by decide)
 rename_i d;have i:iy k a b c=true:=by
  cases e:iy k a b c with
  |true=>rfl
  |false=>rw[e] at d1;simp at d1
 have d0: ¬ v<0:=λe=>d1 (by simp[e]);refine⟨?_,λe=>?_,i⟩
 ·unfold iy at i;rw[E5,decide_eq_true_eq] at i;have d1:=i.1;unfold jO at d1;by_cases e:1<=k/\k<=17
  ·exact e
  ·rw[au e] at d1;exact absurd d1 (by decide)
 ·rw[e] at j;have m:v≠0:=by
   intro l;rw[l] at j;exact absurd rfl j
  have:decide (v>0)=true:=decide_eq_true (by omega);rw[this,Bool.true_and] at d;simpa using d
section
variable {gh:Gh} {h:HS}
theorem HI.run (H:HI gh h) {v k a b c:Int} (i:1<=k/\k<=17) (d:uN k=false->aU h.g v=true) (f:0<=a): ∃dq,HI dq (run h v k a b c).1:=by
 have:k=1\/k=2\/k=3\/k=4\/k=5\/k=6\/k=7\/k=8\/k=9\/k=10\/k=11\/k=12\/k=13\/k=14\/k=15\/k=16\/k=17:=by omega
 rcases this with rfl|rfl|rfl|rfl|rfl|rfl|rfl|rfl|rfl|rfl|rfl|rfl|rfl|rfl|rfl|rfl|rfl
 ·obtain⟨g',e, _⟩:=H.Gu;exact⟨g',e⟩
 ·obtain⟨g',e, _⟩:=H.JC a;exact⟨g',e⟩
 ·exact H.Gs (d rfl) a b
 ·exact H.CD (d rfl) a
 ·exact H.te (d rfl) a b
 ·exact⟨gh,H⟩
 ·exact⟨gh,(H.store (d rfl) f b).1⟩
 ·exact⟨gh,H.offer v a b c⟩
 ·exact H.take (d rfl) a b c
 ·exact H.back (d rfl) a
 ·exact⟨gh,H.Z2 v a⟩
 ·refine⟨gh,?_⟩;show HI gh (lX h v a);unfold lX;split
  ·exact H.po _
  ·exact H
 ·refine⟨gh,?_⟩;show HI gh (lY h v a b);unfold lY;split
  ·exact H
  split
  ·exact H.po _
  ·exact H
 ·refine⟨gh,?_⟩;show HI gh (lW h v a);unfold lW;split
  ·exact H
  ·exact H.po _
 ·exact⟨gh,H.po _⟩
 ·refine⟨gh,?_⟩;show HI gh (iW h v a);unfold iW;split
  ·exact H
  ·exact H.po _
 ·exact⟨gh,H.Xp _⟩
theorem HI.step (H:HI gh h) (v k:Int) {a:Int} (b c:Int) (e:0<=a): ∃dq,HI dq (kf h v k a b c):=by
 unfold kf;by_cases d:iT h v k a b c=0
 ·rw[ay d];obtain⟨h1,f, _⟩:=Co d;exact H.run h1 f e
 ·rw[au d];exact⟨gh,H⟩
end
theorem HI.new {n:Nat} (r:4<=n/\n<=4096):HI noG (h0 n) where
 inv:=Mm (FR _) r.2
 rt:=λf o x h=>(by cases h)
 nl:=λf o l x i h=>(by cases h)
 sz:=by
  show(DQ (16*n) (0:Int)).length=16*(DQ n zD).length;rw[Ft,Ft]
 iM:=λh=>(by cases h)
 root:=λh=>(by cases h)
 own:=λh=>(by cases h)
 hc:=by
  have b: ∀i p,m_ (h0 n) i p=none:=λi p=>rfl;have c: ∀i,mB (h0 n) i=[]:=λi=>rfl;have e: ∀{m:Nat} {d:DT},(DQ n zD)[m]? =some d->d=zD:=λ{m d} h=>Ga (B7 h);have s: ∀{m:Nat} {x:GT},(DQ 16 zG)[m]? =some x->x=zG:=λ{m d} h=>Ga (B7 h);have g: ∀q,oM (mB (h0 n)) q=0:=λq=>Br λi t j=>by rw[c i] at j;cases j
  refine⟨λh=>?_,λ{m d} h=>?_,λ{m d} h k=>?_,λh=>?_,λ{i p a f} h=>?_,λi=>?_,λh=>?_,λ{m d} h=>?_,λ{m x} h=>?_,Ft,n5.new 16⟩
  ·rw[b] at h;cases h
  ·rw[e h];decide
  ·rw[e h] at k;exact absurd k (by decide)
  ·rw[b] at h;cases h
  ·rw[c i] at h;unfold bZ at h;simp at h
  ·rw[c i];exact List.nodup_nil
  ·rw[b] at h;cases h
  ·rw[e h];unfold fc;rw[g];rfl
  ·rw[s h];unfold mM;rw[g];rfl
def jm (h h':HS):Prop:=h'.s=h.s/\h'.g=h.g
section
variable {gh:Gh} {h:HS} {v k a b c:Int}
theorem jm.refl:jm h h:=⟨rfl,rfl⟩
theorem SF (H:HI gh h) (j:1<=k/\k<=17) (f:uN k=false->aU h.g v=true) (d:(run h v k a b c).2.2≠0):jm h (run h v k a b c).1:=by
 have:k=1\/k=2\/k=3\/k=4\/k=5\/k=6\/k=7\/k=8\/k=9\/k=10\/k=11\/k=12\/k=13\/k=14\/k=15\/k=16\/k=17:=by omega
 rcases this with rfl|rfl|rfl|rfl|rfl|rfl|rfl|rfl|rfl|rfl|rfl|rfl|rfl|rfl|rfl|rfl|rfl
 ·have d:oY h≠0:=d;show jm h (gP h);unfold oY at d;unfold gP;cases i:mL h.g with
  |none=>exact .refl
  |some n=>
   rw[i] at d;dsimp only at d ⊢;rw[au d];exact .refl
 ·have d:F1 h a≠0:=d;show jm h (s6 h a);unfold F1 at d;unfold s6;split
  ·rename_i c1;rw[ay c1] at d;split
   ·exact .refl
   ·rename_i c2;rw[au c2] at d;exact absurd rfl d
  ·exact .refl
 ·have d:qz h v a b≠0:=λe=>d (by show(xW h v a b).2=0;unfold xW;rw[ay e]);show jm h (jK h v a b);rw[H.PC (f rfl) d];exact .refl
 ·have d:(BZ h v a).2≠0:=d;show jm h (qx h v a);unfold BZ at d;unfold qx;split
  ·rename_i c1;rw[ay c1] at d;exact absurd rfl d
  ·exact .refl
 ·have d:oW h v a b≠0:=d;show jm h (jP h v a b);rw[HI.Ju d];exact .refl
 ·exact .refl
 ·have d:rO h v a≠0:=d;show jm h (jZ h v a b);unfold rO at d;unfold jZ;split
  ·exact .refl
  rename_i c1;rw[au c1] at d;refine⟨?_,rfl⟩;show(dJ h.s.1 _ b,h.s.2)=h.s;unfold wH at d;rw[show dJ h.s.1 (iS h v a 2).1 b=h.s.1 from au λe=>d (ay e)]
 ·show jm h (iz h v a b c);unfold iz;split
  ·exact⟨rfl,rfl⟩
  ·exact .refl
 ·have d:ni h v a b c≠0:=d;show jm h (jl h v a b c);rw[H.PF (f rfl) d];exact .refl
 ·have d:oX h v a≠0:=d;show jm h (gV h v a);rw[JA d];exact .refl
 ·show jm h (fO h v a);unfold fO;split
  ·exact .refl
  ·exact⟨rfl,rfl⟩
 ·show jm h (lX h v a);unfold lX;split
  ·exact⟨rfl,rfl⟩
  ·exact .refl
 ·show jm h (lY h v a b);unfold lY;split
  ·exact .refl
  split
  ·exact⟨rfl,rfl⟩
  ·exact .refl
 ·show jm h (lW h v a);unfold lW;split
  ·exact .refl
  ·exact⟨rfl,rfl⟩
 ·exact⟨rfl,rfl⟩
 ·show jm h (iW h v a);unfold iW;split
  ·exact .refl
  ·exact⟨rfl,rfl⟩
 ·exact absurd rfl d
theorem HI.fail (H:HI gh h) (e:qD h v k a b c≠0):jm h (kf h v k a b c)/\wL h v k a b c=0:=by
 unfold qD at e;unfold kf wL;by_cases d:iT h v k a b c=0
 ·rw[ay d] at e ⊢;rw[ay d,au e];obtain⟨h1,f, _⟩:=Co d;exact⟨SF H h1 f e,rfl⟩
 ·rw[au d,au d];exact⟨.refl,rfl⟩
end
section
variable {gh dq:Gh} {h:HS}
structure acS (h h':HS) (f o b:Int):Prop where
 g:h'.g=h.g
 gr:h'.gr=h.gr
 po:h'.po=h.po
 pg: ∀{i:Nat} {q:Int},jJ h' i q=jJ h i q
 ds:h'.s.2=h.s.2
 ld: ∀q,dE h'.s.1 q=if q=16*f+o then b else dE h.s.1 q
end
section
variable {gh:Gh} {h:HS} {v k a b c:Int} {l:List Int}
theorem Gv (d:iT h v k a b c=0):kf h v k a b c=(run h v k a b c).1/\qD h v k a b c=(run h v k a b c).2.2/\wL h v k a b c=if(run h v k a b c).2.2=0 then(run h v k a b c).2.1 else 0:=by
 unfold kf qD wL;rw[ay d,ay d,ay d];exact⟨rfl,rfl,rfl⟩
structure WS (h:HS) (v:Int) (l:List Int):Prop where
 hi: ∃gh,HI gh h
 lv:aU h.g 1=true
 tk:mB h 1=[]
 ct:4*12<=cj h.s.2 0+4*l.length
 pg: ∀a∈l, ∃f,jJ h 1 a=(f,3,0,())/\dE h.s.1 (16*f+3)=aI .u64 v a/\dE h.s.1 (16*f+4)=0
 no: ∀a,(jJ h 1 a).2.2.1=0->a∈l
end
section
variable {gh:Gh} {h:HS} {v k a b c:Int}
theorem EC {g:Nat->Option GV} {n i:Nat} {f:GV->GV}:(bj g n (match g n with|some x=>some (f x)|none=>none) i).isSome=(g i).isSome/\(i≠n->bj g n (match g n with|some x=>some (f x)|none=>none) i=g i):=by grind[bj]
theorem abF (h:HS) (v a b:Int):(jK h v a b).g=h.g:=by
 unfold jK;split
 ·rfl
 split
 ·rfl
 split
 ·rfl
 split
 ·rfl
 ·rfl
theorem V_ (d:1<=k/\k<=17) (hc:uN k=false) (i:Nat):((run h v k a b c).1.g i).isSome=(h.g i).isSome:=by
 have:k=1\/k=2\/k=3\/k=4\/k=5\/k=6\/k=7\/k=8\/k=9\/k=10\/k=11\/k=12\/k=13\/k=14\/k=15\/k=16\/k=17:=by omega
 rcases this with rfl|rfl|rfl|rfl|rfl|rfl|rfl|rfl|rfl|rfl|rfl|rfl|rfl|rfl|rfl|rfl|rfl
 ·cases hc
 ·cases hc
 ·show((jK h v a b).g i).isSome= _;rw[abF]
 ·show((qx h v a).g i).isSome= _;unfold qx;split<;>rfl
 ·show((jP h v a b).g i).isSome= _;unfold jP;split
  ·rfl
  split
  ·rfl
  split<;>rfl
 ·rfl
 ·show((jZ h v a b).g i).isSome= _;unfold jZ;split<;>rfl
 ·show((iz h v a b c).g i).isSome= _;unfold iz;split<;>rfl
 ·show((jl h v a b c).g i).isSome= _;unfold jl;split
  ·rfl
  split
  ·exact EC.1
  ·rfl
 ·show((gV h v a).g i).isSome= _;unfold gV;split
  ·rfl
  split
  ·exact EC.1
  ·rfl
 ·show((fO h v a).g i).isSome= _;unfold fO;split<;>rfl
 ·show((lX h v a).g i).isSome= _;unfold lX;split<;>rfl
 ·show((lY h v a b).g i).isSome= _;unfold lY;split
  ·rfl
  split<;>rfl
 ·show((lW h v a).g i).isSome= _;unfold lW;split<;>rfl
 ·rfl
 ·show((iW h v a).g i).isSome= _;unfold iW;split<;>rfl
 ·cases hc
structure LS (n:Nat) (h:HS):Prop where
 hi: ∃gh,HI gh h
 g1: ∃x,h.g 1=some x
 go: ∀i,i≠1->h.g i=none
 ln:h.s.2.length=n
theorem V' (H: ∃gh,HI gh h) (d:0<=a):(kf h v k a b c).s.2.length=h.s.2.length:=by
 obtain⟨gh,H⟩:=H;obtain⟨dq,e⟩:=H.step v k b c d;have h1:=H.sz;have f:=e.sz;rw[Cm] at f;omega
end
abbrev LT:Type:=Int×Int×Int×Int×Unit
abbrev AK:Type:=Int×Int×Int×Unit
abbrev CT:Type:=Int×Int×Int×Int×Unit
abbrev MT:Type:=Int×Int×Int×CT×Int×Int
def B_ (t p:Int) (l:LT):Bool:=l.1==t&&l.2.1==p
def Cp (ls:List LT) (t p:Int):List LT:=ls.filter λl=> !B_ t p l
def Wa (ls:List LT) (t:Int):List LT:=ls.filter λl=> !(l.1==t)
def jj (ls:List LT) (t p:Int):List LT:=if p= -1 then Wa ls t else Cp ls t p
def qI (ls:List LT) (sz:Int) (l:LT):List LT:=
 (if ls.any (B_ l.1 l.2.1)=true then Cp ls l.1 l.2.1 else if(ls.length:Int)=sz then ls.drop 1 else ls)++[l]
def mN (ls:List LT) (t p w:Int):Int×Int:=match ls.find? (B_ t p) with
 |none=>(0,4)
 |some l=>if w<0\/w>7\/gD .i64 w l.2.2.2.1≠0 then(0,7) else(l.2.2.1,0)
structure vq where
 now:Int
 pins:List Int
 ws:List (Int×Int)
def Aj (e:vq) (n:Nat):vq:=if e.pins.getD n 0= -1 then{e with pins:=e.pins.set n e.now} else e
def uQ (e:vq) (n:Nat):vq:={e with pins:=e.pins.set n (-1)}
def k9 (e:vq) (f:Int):vq:=if e.ws.any (λx=>x.1==f)=true then e else{e with ws:=(f,e.now)::e.ws}
def fi (e:vq):vq:=if e.pins.all (λp=>p== -1||p==e.now)=true then{e with now:=e.now+1} else e
def oz (e:vq):List Int:=mH ((e.ws.filter λx=>decide (x.2+2<=e.now)).map (·.1))
def Ca (e:vq):vq:={e with ws:=e.ws.filter λx=> !decide (x.2+2<=e.now)}
structure bY where
 ls:List LT
 ph:Int
 vm:Int
 c:CT
 wk:Int×Int×FT
 fr:Int
 rs:Int×Int
 ak:Int
 fs:List Int
def cI (ls:List LT):bY:=⟨ls,0,0,(0,0,0,0,()),(0,0,(0,0,0,0,())),0,(0,0),0,[]⟩
structure MS where
 h:HS
 ep:vq
 bx:List (List AK)
 op:List Int
 cs:List bY
 kn:List Int
 ms:List MT
 sz:Int
def a9 (k:Int):Int:=if k=6 then 1 else if k=7 then 2 else 0
def mj (h:HS) (x:bY):Bool:=decide (a9 x.c.1>0)&&(aU h.g x.vm&&(iy x.c.1 x.c.2.1 x.c.2.2.1 x.c.2.2.2.1&&decide (x.c.2.1<1048576)))
def qA (s:MS) (n:Nat) (x:bY):Bool:=(Bx s.cs.length).any λi=>match s.cs[i]? with
 |none=>false
 |some y=>decide (i≠n/\x.vm=0)&&((x.c.1==1&&(y.ph==4&&y.c.1==2))||(x.c.1==2&&(decide (y.ph>=2)&&(decide (y.vm>0)&&y.vm==x.c.2.1))))
def gQ (s:MS) (f:Int):MS:={s with h:=bq s.h (fb s.h.s f),kn:=s.kn.filter (λx=> !(x==f)),ms:=s.ms++[(2,0,f,(0,0,0,0,()),0,0)]}
def dA (s:MS):MS×Nat:=((oz (fi s.ep)).foldl gQ {s with ep:=Ca (fi s.ep)},(oz (fi s.ep)).length)
def eK (s:MS) (h':HS):List Int:=((Bx h'.s.2.length).map λ(f:Nat)=>(f:Int)).filter λf=>(oE h'.s.2 f).1==5&& !s.kn.contains f
def cB (s:MS) (n:Nat) (x:bY):MS:={s with cs:=s.cs.set n x}
def dB (bx:List (List AK)) (op:List Int) (n:Nat) (t p:Int):Int×List (List AK)×List Int:=
 if t<1\/t>16\/p< -1\/p>=65536 then(0,bx,op)
 else if(bx.eraseIdx n).any (λq=>q.length==16)=true then(0,bx,op)
 else((op.length:Int)+1,(bx.zipIdx.map λ(q,i)=>if i=n then q else q++[((op.length:Int)+1,t,p,())]),op++[(bx.length:Int) - 1])
abbrev St:Type:=MS×(Int×Int)×Bool
def iE (s:MS) (n:Nat) (x:bY):St:=
 let h':=kf s.h x.vm x.c.1 x.c.2.1 x.c.2.2.1 x.c.2.2.2.1
 let V:=wL s.h x.vm x.c.1 x.c.2.1 x.c.2.2.1 x.c.2.2.2.1
 let E:=qD s.h x.vm x.c.1 x.c.2.1 x.c.2.2.1 x.c.2.2.2.1
 let fs:=eK s h'
 let s1:MS:={s with h:=h',kn:=s.kn++fs,ms:=s.ms++[(1,x.vm,0,x.c,V,E)]}
 let x1:bY:={x with rs:=(V,E),fs:=fs}
 if x.c.1=2\/x.c.1=4\/x.c.1=5\/x.c.1=10 then
  if E≠0 then(cB s1 n x1,(V,E),true)
  else
   let t:=if x.c.1=2 then aG .i64 x.c.2.1 else x.vm
   let p:=if x.c.1=2 then -1 else aG .i64 x.c.2.1
   let q:=dB s.bx s.op n t p
   (cB {s1 with bx:=q.2.1,op:=q.2.2} n {x1 with ls:=jj x.ls t p,ak:=q.1,ph:=4},(0,0),false)
 else(cB s1 n x1,(V,E),true)
def dv (s:MS) (n:Nat) (x:bY):St:=
 if mj s.h x=true then
  let e:=Aj s.ep n
  let a:=mN x.ls x.vm (x.c.2.1 / 16) (a9 x.c.1)
  if a.2=0 then(cB {s with ep:=e} n {x with ph:=3,fr:=a.1},(0,0),false)
  else(cB {s with ep:=e} n {x with ph:=2,wk:=lO s.h.s.1 (aZ s.h.g x.vm) (x.c.2.1 / 16) (a9 x.c.1) 0},(0,0),false)
 else if qA s n x=true then(s,(0,9),true)
 else if x.vm=0/\x.c=(17,0,0,0,()) then((dA s).1,(((dA s).2:Nat),0),true)
 else iE s n x
def lu (s:MS) (n:Nat) (x:bY):St:=
 let w:=bF s.h.s.1 (x.c.2.1 / 16) (a9 x.c.1) x.wk
 let x1:bY:={x with wk:=w}
 if w.2.1≠ -1 then(cB s n x1,(0,0),false)
 else if w.2.2.2.2.2.1≠0 then(cB {s with ep:=uQ s.ep n} n x1,(0,w.2.2.2.2.2.1),true)
 else(cB s n {x1 with ls:=qI x.ls s.sz (x.vm,x.c.2.1 / 16,w.2.2.1,w.2.2.2.1,()),ph:=3,fr:=w.2.2.1},(0,0),false)
def fY (s:MS) (n:Nat) (x:bY):St:=
 let at_:=16*x.fr+x.c.2.1 % 16
 if x.c.1=7 then({s with h:=bq s.h (dJ s.h.s.1 at_ x.c.2.2.1,s.h.s.2),ep:=uQ s.ep n,ms:=s.ms++[(4,0,at_,(0,0,0,0,()),x.c.2.2.1,0)]},(0,0),true)
 else({s with ep:=uQ s.ep n,ms:=s.ms++[(3,0,at_,(0,0,0,0,()),dE s.h.s.1 at_,0)]},(dE s.h.s.1 at_,0),true)
def yn (s:MS) (a:Int):Bool:=decide (1<=a/\a<=(s.op.length:Int))&&s.op.getD (a - 1).toNat 0==0
def iF (s:MS) (x:bY):St:=if yn s x.ak=true then({s with ep:=x.fs.foldl k9 s.ep},x.rs,true) else(s,(0,0),false)
def bS (s:MS) (n:Nat) (x:bY):St:=
 if x.ph=0 then((dA s).1,(0,0),false)
 else if x.ph=1 then dv s n x
 else if x.ph=2 then lu s n x
 else if x.ph=3 then fY s n x
 else iF s x
def iO (r:St) (n:Nat) (x:bY):St:=if r.2.2=true then(cB r.1 n (cI ((r.1.cs.getD n x).ls)),r.2.1,true) else(r.1,(0,0),false)
def xX (s:MS) (n:Nat):Option (AK×MS):=match s.bx[n]? with
 |some (a::q)=>some (a,{s with bx:=s.bx.set n q,op:=s.op.set (a.1 - 1).toNat (s.op.getD (a.1 - 1).toNat 0 - 1)})
 | _=>none
def lZ (s:MS) (n:Nat) (x:bY):St:=
 if x.ph=3 then iO (bS s n x) n x
 else match xX s n with
  |some (a,s1)=>(cB s1 n {x with ls:=jj x.ls a.2.1 a.2.2.1},(0,0),false)
  |none=>iO (bS s n x) n x
def a8 (s:MS) (n:Int):St:=if n<0 then(s,(0,0),false) else match s.cs[n.toNat]? with
 |none=>(s,(0,0),false)
 |some x=>lZ s n.toNat x
def s7 (s:MS) (n:Int):Int:=if n<0 then 2 else match s.cs[n.toNat]? with
 |none=>2
 |some x=>if x.ph=0 then 0 else 9
def dU (s:MS) (n vm:Int) (c:CT):MS:=if n<0 then s else match s.cs[n.toNat]? with
 |none=>s
 |some x=>if x.ph=0 then cB s n.toNat {x with ph:=1,vm:=vm,c:=c} else s
def m0 (b a:Nat) (c:Int):MS where
 h:=h0 b
 ep:=⟨0,DQ a (-1),[]⟩
 bx:=DQ a []
 op:=[]
 cs:=DQ a (cI [])
 kn:=[]
 ms:=[]
 sz:=c
section
variable {gh:Gh} {h:HS} {v k a b c:Int}
end
abbrev cF (a:Int):Prop:=0<=a/\a<18446744073709551616
structure MA (n:Nat) (s:MS):Prop where
 hi: ∃gh,HI gh s.h
 nn:1<=n/\n<=8
 lc:s.cs.length=n
 lb:s.bx.length=n
 lp:s.ep.pins.length=n
 sz:1<=s.sz/\s.sz<=64
 ph: ∀x∈s.cs,0<=x.ph/\x.ph<=4
 ar: ∀x∈s.cs,cF x.c.2.1/\cF x.c.2.2.1/\cF x.c.2.2.2.1
 tl: ∀x∈s.cs,(x.ls.length:Int)<=s.sz
 k5: ∀f∈s.kn, ∃(m:Nat) (d:DT),f=(m:Int)/\s.h.s.2[m]? =some d/\d.1=5
 nk:s.kn.Nodup
 wk: ∀e∈s.ep.ws,e.1∈s.kn
 wn:(s.ep.ws.map (·.1)).Nodup
 fk: ∀x∈s.cs,x.ph=4-> ∀f∈x.fs,f∈s.kn/\f∉s.ep.ws.map (·.1)
 fn: ∀x∈s.cs,x.ph=4->x.fs.Nodup
 fd: ∀{i j:Nat} {x y:bY},s.cs[i]? =some x->s.cs[j]? =some y->i≠j->x.ph=4->y.ph=4-> ∀f∈x.fs,f∉y.fs
 ln: ∀x∈s.cs, ∀l∈x.ls, ∃m:Nat,l.2.2.1=(m:Int)/\m<s.h.s.2.length
 rc: ∀x∈s.cs,x.ph=3-> ∃m:Nat,x.fr=(m:Int)/\m<s.h.s.2.length
 wl: ∀x∈s.cs,x.ph=2->0<=x.wk.2.1/\x.wk.2.1<=3
 ak: ∀q∈s.bx, ∀a∈q,1<=a.1/\a.1<=(s.op.length:Int)
 bl: ∀q∈s.bx,q.length<=16
def mtA (a:AK) (t p:Int):Prop:=a.2.1=t/\(a.2.2.1= -1\/a.2.2.1=p)
def rF (s:MS) (i:Nat) (f:Int):Prop:=(∃(z:Nat) (y:bY),s.cs[z]? =some y/\y.ph=4/\f∈y.fs)\/ ∃e∈s.ep.ws,e.1=f/\s.ep.pins.getD i 0<=e.2
def Dy (ta:Int->Bool) (s:MS) (i:Nat) (l:LT):Prop:=
 (1<=l.1/\l.1<=16/\0<=l.2.1/\l.2.1<65536)/\ ∃(m:Nat) (d:DT),l.2.2.1=(m:Int)/\s.h.s.2[m]? =some d/\
  ((d.1=4/\jJ s.h l.1.toNat l.2.1=(l.2.2.1,l.2.2.2.1,0,()))\/
    ((d.1=4\/d.1=5)/\ ∃q a,s.bx[i]? =some q/\a∈q/\mtA a l.1 l.2.1/\
      (d.1=5->ta l.2.2.1=false/\ ∃(z:Nat) (y:bY), ∃b∈q,s.cs[z]? =some y/\y.ph=4/\l.2.2.1∈y.fs/\b.1=y.ak/\a.1<=b.1)))
def Dz (gh:Gh) (ta:Int->Bool) (s:MS) (i:Nat) (x:bY):Prop:=
 ∃l:Nat,x.wk.2.1=(l:Int)/\l<=3/\x.wk.2.2=(0,0,0,0,())/\(gh x.wk.1=some (x.vm,l,px (l+1) (x.c.2.1 / 16))\/(iD s.h.s x.wk.1/\rF s i x.wk.1/\ta x.wk.1=true))
def Ak (ta:Int->Bool) (s:MS) (i:Nat) (f:Int):Prop:=
 ∃(m:Nat) (d:DT),f=(m:Int)/\s.h.s.2[m]? =some d/\(d.1=4\/(d.1=5/\rF s i f/\ta f=false))
def Al (y:bY):Int:=if y.c.1=2 then y.c.2.1 else y.vm
def Am (y:bY):Int:=if y.c.1=2 then -1 else y.c.2.1
def jv (q:List AK) (id:Int):Bool:=q.any λa=>a.1==id
structure MI (gh:Gh) (ta:Int->Bool) (n:Nat) (s:MS):Prop where
 hi:HI gh s.h
 nn:1<=n/\n<=8
 lc:s.cs.length=n
 lb:s.bx.length=n
 lp:s.ep.pins.length=n
 sz:1<=s.sz/\s.sz<=64
 ph: ∀x∈s.cs,0<=x.ph/\x.ph<=4
 ar: ∀x∈s.cs,cF x.c.2.1/\cF x.c.2.2.1/\cF x.c.2.2.2.1
 tl: ∀x∈s.cs,(x.ls.length:Int)<=s.sz
 k5: ∀f∈s.kn, ∃(m:Nat) (d:DT),f=(m:Int)/\s.h.s.2[m]? =some d/\d.1=5
 nk:s.kn.Nodup
 wk: ∀e∈s.ep.ws,e.1∈s.kn/\0<=e.2/\e.2<=s.ep.now
 wn:(s.ep.ws.map (·.1)).Nodup
 fk: ∀x∈s.cs,x.ph=4-> ∀f∈x.fs,f∈s.kn/\f∉s.ep.ws.map (·.1)
 fn: ∀x∈s.cs,x.ph=4->x.fs.Nodup
 fd: ∀{i j:Nat} {x y:bY},s.cs[i]? =some x->s.cs[j]? =some y->i≠j->x.ph=4->y.ph=4-> ∀f∈x.fs,f∉y.fs
 kd: ∀{m:Nat} {d:DT},s.h.s.2[m]? =some d->d.1=5->(m:Int)∈s.kn/\((m:Int)∈s.ep.ws.map (·.1)\/ ∃x∈s.cs,x.ph=4/\(m:Int)∈x.fs)
 nw:0<=s.ep.now
 pn: ∀{i:Nat} {x:bY},s.cs[i]? =some x->if x.ph=2\/x.ph=3 then 0<=s.ep.pins.getD i 0/\s.ep.pins.getD i 0<=s.ep.now/\s.ep.now<=s.ep.pins.getD i 0+1 else s.ep.pins.getD i 0= -1
 ln: ∀{i:Nat} {x:bY},s.cs[i]? =some x-> ∀l∈x.ls,Dy ta s i l
 ac: ∀x∈s.cs,x.ph=2->aU s.h.g x.vm=true/\x.c.2.1<1048576/\(x.c.1=6\/x.c.1=7)
 wl: ∀{i:Nat} {x:bY},s.cs[i]? =some x->x.ph=2->Dz gh ta s i x
 rc: ∀{i:Nat} {x:bY},s.cs[i]? =some x->x.ph=3->Ak ta s i x.fr/\(x.c.1=6\/x.c.1=7)
 wt: ∀x∈s.cs,x.ph=4->1<=x.ak/\x.ak<=(s.op.length:Int)/\1<=Al x/\Al x<=16/\ -1<=Am x/\Am x<65536
 wu: ∀{i j:Nat} {x y:bY},s.cs[i]? =some x->s.cs[j]? =some y->i≠j->x.ph=4->y.ph=4->x.ak≠y.ak
 aq: ∀{i:Nat} {q:List AK},s.bx[i]? =some q->q.Pairwise (λa b=>a.1<b.1)/\ ∀a∈q, ∃(j:Nat) (y:bY),j≠i/\s.cs[j]? =some y/\y.ph=4/\a=(y.ak,Al y,Am y,())
 oc: ∀id:Nat,id<s.op.length->s.op.getD id 0=(s.bx.countP (λq=>jv q ((id:Int)+1)):Nat)
section
variable {gh:Gh} {ta:Int->Bool} {n:Nat} {s:MS}
theorem aC {α:Type} {l:List α} {i:Nat} {x:α} (h:l[i]? =some x):x∈l:=B7 h
theorem jQ {α:Type} {l:List α} {i j:Nat} {x y:α} (h:(l.set i x)[j]? =some y):(j=i/\y=x)\/(j≠i/\l[j]? =some y):=by
 by_cases e:i=j
 ·subst e;have a:=(Aq.1 h).1;rw[B2] at a;rw[B1 a] at h;cases h;exact .inl ⟨rfl,rfl⟩
 ·rw[Ag e] at h;exact .inr ⟨λc=>e c.symm,h⟩
theorem ig {α:Type} {l:List α} {i:Nat} {x y:α} (h:y∈l.set i x):y=x\/y∈l:=by
 obtain⟨j,a⟩:=CW h;rcases jQ a with ⟨_,e⟩|⟨_,e⟩
 ·exact .inl e
 ·exact .inr (B7 e)
end
section
variable {gh:Gh} {ta:Int->Bool} {n:Nat} {s s':MS} {i:Nat}
theorem rF.dn {f:Int} (h:rF s i f) (c: ∀{z:Nat} {y:bY},s.cs[z]? =some y->y.ph=4->s'.cs[z]? =some y) (d:s'.ep.ws=s.ep.ws) (g:s'.ep.pins.getD i 0=s.ep.pins.getD i 0):rF s' i f:=by
 rcases h with ⟨z,y,h1,a,b⟩|⟨e,h1,a,b⟩
 ·exact .inl ⟨z,y,c h1 a,a,b⟩
 ·exact .inr ⟨e,by rw[d];exact h1,a,by rw[g];exact b⟩
theorem Dy.dn {l:LT} (h:Dy ta s i l) (f:s'.h=s.h) (hb:s'.bx=s.bx) (j: ∀{z:Nat} {y:bY},s.cs[z]? =some y->y.ph=4->s'.cs[z]? =some y):Dy ta s' i l:=by
 obtain⟨h0,m,d,h1,k,c⟩:=h;refine⟨h0,m,d,h1,by rw[f];exact k,?_⟩;rw[f,hb];rcases c with c|⟨c,q,a,n,o,p,r⟩
 ·exact .inl c
 ·refine .inr ⟨c,q,a,n,o,p,λe=>?_⟩;obtain⟨t,z,y,b,u,g1,g,v,w,x⟩:=r e;exact⟨t,z,y,b,u,j g1 g,g,v,w,x⟩
theorem Dz.dn {x:bY} (h:Dz gh ta s i x) (a:s'.h=s.h) (b: ∀{z:Nat} {y:bY},s.cs[z]? =some y->y.ph=4->s'.cs[z]? =some y) (d:s'.ep.ws=s.ep.ws) (e:s'.ep.pins.getD i 0=s.ep.pins.getD i 0):Dz gh ta s' i x:=by
 obtain⟨l,h1,f,g,j⟩:=h;refine⟨l,h1,f,g,?_⟩;rw[a];exact j.imp id λc=>⟨c.1,c.2.1.dn b d e,c.2.2⟩
theorem Ak.dn {f:Int} (h:Ak ta s i f) (a:s'.h=s.h) (b: ∀{z:Nat} {y:bY},s.cs[z]? =some y->y.ph=4->s'.cs[z]? =some y) (e:s'.ep.ws=s.ep.ws) (g:s'.ep.pins.getD i 0=s.ep.pins.getD i 0):Ak ta s' i f:=by
 obtain⟨m,d,h1,j,k⟩:=h;refine⟨m,d,h1,by rw[a];exact j,?_⟩;exact k.imp id λc=>⟨c.1,c.2.1.dn b e g,c.2.2⟩
theorem MI.C8 (M:MI gh ta n s) {x x':bY} (L:s.cs[i]? =some x) (p:Int) (ms:List MT) (R:x.ph≠4) (w:x'.ph≠4) (k:s'={s with cs:=s.cs.set i x',ep:={s.ep with pins:=s.ep.pins.set i p},ms:=ms})
 (S:0<=x'.ph/\x'.ph<=4) (T:cF x'.c.2.1/\cF x'.c.2.2.1/\cF x'.c.2.2.2.1) (U:(x'.ls.length:Int)<=s.sz)
 (V:if x'.ph=2\/x'.ph=3 then 0<=p/\p<=s.ep.now/\s.ep.now<=p+1 else p= -1) (W: ∀l∈x'.ls,Dy ta s i l) (X:x'.ph=2->aU s.h.g x'.vm=true/\x'.c.2.1<1048576/\(x'.c.1=6\/x'.c.1=7))
 (Y:x'.ph=2->Dz gh ta s' i x') (Z:x'.ph=3->Ak ta s' i x'.fr/\(x'.c.1=6\/x'.c.1=7)):MI gh ta n s':=by
 have lT:i<s.cs.length:=(Aq.1 L).1;have C: ∀{z:Nat} {y:bY},s.cs[z]? =some y->y.ph=4->s'.cs[z]? =some y:=λ{z y} h1 o=>by
  have e:i≠z:=λe=>by subst e;rw[L] at h1;cases h1;exact R o
  rw[k];show(s.cs.set i x')[z]? = _;rw[Ag e];exact h1
 have t: ∀{z:Nat} {y:bY},s'.cs[z]? =some y->(z=i/\y=x')\/(z≠i/\s.cs[z]? =some y):=λh=>by
  rw[k] at h;exact jQ h
 have A: ∀{y:bY},y∈s'.cs->y=x'\/y∈s.cs:=λh=>by
  rw[k] at h;exact ig h
 have u:s'.h=s.h:=by rw[k]
 have hb:s'.bx=s.bx:=by rw[k]
 have N:s'.op=s.op:=by rw[k]
 have E:s'.kn=s.kn:=by rw[k]
 have D:s'.ep.ws=s.ep.ws:=by rw[k]
 have F:s'.ep.now=s.ep.now:=by rw[k]
 have O:s'.sz=s.sz:=by rw[k]
 have G:s'.ep.pins=s.ep.pins.set i p:=by rw[k]
 have hpi:s'.ep.pins.getD i 0=p:=by
  rw[G,B3,B1 (by rw[M.lp, <-M.lc];exact lT)];rfl
 have H: ∀{j:Nat},j≠i->s'.ep.pins.getD j 0=s.ep.pins.getD j 0:=λ{j} r=>by
  rw[G,B3,Ag (λe=>r e.symm),B3]
 refine⟨by rw[u];exact M.hi,M.nn,by rw[k];show(s.cs.set i x').length=n;rw[B2];exact M.lc,by rw[hb];exact M.lb,by rw[G,B2];exact M.lp,by rw[O];exact M.sz,λy f=>?_,λy f=>?_,λy f=>?_,
  by rw[E,u];exact M.k5,by rw[E];exact M.nk,by rw[D,E,F];exact M.wk,by rw[D];exact M.wn,λy f e=>?_,λy f e=>?_,λ{a b y z} h1 o I v B=>?_,λ{m d} h1 o=>?_,by rw[F];exact M.nw,λ{j y} h1=>?_,λ{j y} h1 l P=>?_,λy f e=>?_,λ{j y} h1 e=>?_,λ{j y} h1 e=>?_,λy f e=>?_,λ{a b y z} h1 o I v B=>?_,λ{j q} h1=>?_,by rw[N,hb];exact M.oc⟩
 ·rcases A f with rfl|f
  ·exact S
  ·exact M.ph y f
 ·rcases A f with rfl|f
  ·exact T
  ·exact M.ar y f
 ·rw[O];rcases A f with rfl|f
  ·exact U
  ·exact M.tl y f
 ·rcases A f with rfl|f
  ·exact absurd e w
  ·rw[E,D];exact M.fk y f e
 ·rcases A f with rfl|f
  ·exact absurd e w
  ·exact M.fn y f e
 ·rcases t h1 with ⟨_,rfl⟩|⟨_,h1⟩
  ·exact absurd v w
  ·rcases t o with ⟨_,rfl⟩|⟨_,o⟩
   ·exact absurd B w
   ·exact M.fd h1 o I v B
 ·rw[u] at h1;obtain⟨J,K⟩:=M.kd h1 o;rw[E,D];refine⟨J,K.imp id λ⟨y,f,v,B⟩=>?_⟩;obtain⟨j,r⟩:=CW f;exact⟨y,aC (C r v),v,B⟩
 ·rw[F];rcases t h1 with ⟨rfl,rfl⟩|⟨r,h1⟩
  ·rw[hpi];exact V
  ·rw[H r];exact M.pn h1
 ·rcases t h1 with ⟨rfl,rfl⟩|⟨r,h1⟩
  ·exact(W l P).dn u hb C
  ·exact(M.ln h1 l P).dn u hb C
 ·rw[u];rcases A f with rfl|f
  ·exact X e
  ·exact M.ac y f e
 ·rcases t h1 with ⟨rfl,rfl⟩|⟨r,h1⟩
  ·exact Y e
  ·exact(M.wl h1 e).dn u C D (H r)
 ·rcases t h1 with ⟨rfl,rfl⟩|⟨r,h1⟩
  ·exact Z e
  ·exact⟨(M.rc h1 e).1.dn u C D (H r),(M.rc h1 e).2⟩
 ·rw[N];rcases A f with rfl|f
  ·exact absurd e w
  ·exact M.wt y f e
 ·rcases t h1 with ⟨_,rfl⟩|⟨_,h1⟩
  ·exact absurd v w
  ·rcases t o with ⟨_,rfl⟩|⟨_,o⟩
   ·exact absurd B w
   ·exact M.wu h1 o I v B
 ·rw[hb] at h1;obtain⟨J,K⟩:=M.aq h1;refine⟨J,λa ha=>?_⟩;obtain⟨j2,y,g1,g2,Q,g4⟩:=K a ha;exact⟨j2,y,g1,C g2 Q,Q,g4⟩
theorem tH (M:MI gh ta n s) {x:bY} (b:s.cs[i]? =some x):s.ep.pins.set i (s.ep.pins.getD i 0)=s.ep.pins:=by
 have a:i<s.ep.pins.length:=by rw[M.lp, <-M.lc];exact(Aq.1 b).1
 refine Fm λj=>?_;rw[Gd];by_cases e:i=j
 ·subst e;rw[ay rfl,ay a,B3,BP a];rfl
 ·rw[au e]
theorem MI.ask (M:MI gh ta n s) (k vm:Int) {c:CT} (hc:cF c.2.1/\cF c.2.2.1/\cF c.2.2.2.1):MI gh ta n (dU s k vm c):=by
 unfold dU;split
 ·exact M
 cases a:s.cs[k.toNat]? with
 |none=>exact M
 |some x=>
  dsimp only;split
  ·rename_i h0;have b:=M.pn a;rw[h0,au (by decide)] at b;refine M.C8 (x':={x with ph:=1,vm:=vm,c:=c}) a (s.ep.pins.getD k.toNat 0) s.ms (by rw[h0];decide) (show ¬ (1:Int)=4 by decide) ?_ (show 0<=(1:Int)/\(1:Int)<=4 by decide) hc (M.tl x (aC a)) ?_ (λl d=>M.ln a l d) (λe=>absurd e (show ¬ (1:Int)=2 by decide)) (λe=>absurd e (show ¬ (1:Int)=2 by decide)) (λe=>absurd e (show ¬ (1:Int)=3 by decide))
   ·rw[tH M a];rfl
   ·show if(1:Int)=2\/(1:Int)=3 then _ else _;rw[au (by decide)];exact b
  ·exact M
theorem MI.idle (M:MI gh ta n s) {x:bY} (a:s.cs[i]? =some x) (b:x.ph≠4) {ls:List LT} (c: ∀l∈ls,Dy ta s i l) (d:(ls.length:Int)<=s.sz) (ms:List MT):MI gh ta n {s with cs:=s.cs.set i (cI ls),ep:=uQ s.ep i,ms:=ms}:=
 M.C8 (x':=cI ls) a (-1) ms b (show ¬ (0:Int)=4 by decide) rfl (show 0<=(0:Int)/\(0:Int)<=4 by decide) (show cF 0/\cF 0/\cF 0 by decide) d (by show if(0:Int)=2\/(0:Int)=3 then _ else _;rw[au (by decide)]) c (λe=>absurd e (show ¬ (0:Int)=2 by decide)) (λe=>absurd e (show ¬ (0:Int)=2 by decide)) (λe=>absurd e (show ¬ (0:Int)=3 by decide))
end
section
variable {gh:Gh} {ta:Int->Bool} {n:Nat} {s s':MS} {i:Nat}
def WtK (s s':MS):Prop:= ∀(z:Nat) (y:bY),s.cs[z]? =some y->y.ph=4-> ∃a,s'.cs[z]? =some a/\a.ph=4/\a.fs=y.fs/\a.ak=y.ak/\a.vm=y.vm/\a.c=y.c
theorem rF.AJ {f:Int} (h:rF s i f) (c:WtK s s') (d:s'.ep.ws=s.ep.ws) (g:s'.ep.pins.getD i 0=s.ep.pins.getD i 0):rF s' i f:=by
 rcases h with ⟨z,y,h1,a,b⟩|⟨e,h1,a,b⟩
 ·obtain⟨j,g1,k,l, _⟩:=c z y h1 a;exact .inl ⟨z,j,g1,k,by rw[l];exact b⟩
 ·exact .inr ⟨e,by rw[d];exact h1,a,by rw[g];exact b⟩
theorem Dz.AJ {x:bY} (h:Dz gh ta s i x) (a:s'.h=s.h) (b:WtK s s') (d:s'.ep.ws=s.ep.ws) (e:s'.ep.pins.getD i 0=s.ep.pins.getD i 0):Dz gh ta s' i x:=by
 obtain⟨l,h1,f,g,j⟩:=h;refine⟨l,h1,f,g,?_⟩;rw[a];exact j.imp id λc=>⟨c.1,c.2.1.AJ b d e,c.2.2⟩
theorem Ak.AJ {f:Int} (h:Ak ta s i f) (a:s'.h=s.h) (b:WtK s s') (e:s'.ep.ws=s.ep.ws) (g:s'.ep.pins.getD i 0=s.ep.pins.getD i 0):Ak ta s' i f:=by
 obtain⟨m,d,h1,j,k⟩:=h;refine⟨m,d,h1,by rw[a];exact j,?_⟩;exact k.imp id λc=>⟨c.1,c.2.1.AJ b e g,c.2.2⟩
theorem tI {ls:List LT} {t p:Int} {l:LT} (h:l∈jj ls t p):l∈ls/\ ¬ (t=l.1/\(p= -1\/p=l.2.1)):=by
 unfold jj at h;split at h
 ·rename_i e;obtain⟨h1,a⟩:=B6.1 h;refine⟨h1,λc=>?_⟩;simp at a;exact a c.1.symm
 ·rename_i e;obtain⟨h1,a⟩:=B6.1 h;refine⟨h1,λc=>?_⟩;rcases c.2 with c2|c2
  ·exact e c2
  ·simp[B_] at a;exact a.elim (λf=>f c.1.symm) (λf=>f c2.symm)
theorem ED (ls:List LT) (t p:Int):(jj ls t p).length<=ls.length:=by
 unfold jj;split<;>exact List.length_filter_le ..
theorem ve (a:AK) (q:List AK) (id:Int):jv (a::q) id=(a.1==id||jv q id):=rfl
theorem MI.pop (M:MI gh ta n s) {x:bY} (X:s.cs[i]? =some x) {a:AK} {q:List AK} (E:s.bx[i]? =some (a::q)):
 MI gh ta n {s with bx:=s.bx.set i q,op:=s.op.set (a.1 - 1).toNat (s.op.getD (a.1 - 1).toNat 0 - 1),cs:=s.cs.set i {x with ls:=jj x.ls a.2.1 a.2.2.1}}:=by
 have lT:i<s.cs.length:=(Aq.1 X).1;have hib:i<s.bx.length:=by rw[M.lb, <-M.lc];exact lT
 generalize F:({s with bx:=s.bx.set i q,op:=s.op.set (a.1 - 1).toNat (s.op.getD (a.1 - 1).toNat 0 - 1),cs:=s.cs.set i {x with ls:=jj x.ls a.2.1 a.2.2.1}}:MS)=s';have v:s'.h=s.h:=by rw[<-F]
 have p:s'.ep=s.ep:=by rw[<-F]
 have O:s'.kn=s.kn:=by rw[<-F]
 have gW:s'.sz=s.sz:=by rw[<-F]
 have hb:s'.bx=s.bx.set i q:=by rw[<-F]
 have ho:s'.op=s.op.set (a.1 - 1).toNat (s.op.getD (a.1 - 1).toNat 0 - 1):=by rw[<-F]
 have e9:s'.cs=s.cs.set i {x with ls:=jj x.ls a.2.1 a.2.2.1}:=by rw[<-F]
 have X_:s'.op.length=s.op.length:=by rw[ho,B2]
 have vG:s'.cs[i]? =some {x with ls:=jj x.ls a.2.1 a.2.2.1}:=by rw[e9,B1 lT]
 have K:WtK s s':=λz y h1 A=>by
  by_cases e:i=z
  ·subst e;rw[X] at h1;cases h1;exact⟨_,vG,A,rfl,rfl,rfl,rfl⟩
  ·exact⟨y,by rw[e9,Ag e];exact h1,A,rfl,rfl,rfl,rfl⟩
 have w: ∀{z:Nat} {y:bY},s'.cs[z]? =some y-> ∃f,s.cs[z]? =some f/\y.ph=f.ph/\y.vm=f.vm/\y.c=f.c/\y.wk=f.wk/\y.fr=f.fr/\y.ak=f.ak/\y.fs=f.fs/\(z≠i->y=f)/\y.ls.length<=f.ls.length:=λ{z y} h=>by
  rw[e9] at h;rcases jQ h with ⟨rfl,rfl⟩|⟨e,h⟩
  ·exact⟨x,X,rfl,rfl,rfl,rfl,rfl,rfl,rfl,λc=>absurd rfl c,ED ..⟩
  ·exact⟨y,h,rfl,rfl,rfl,rfl,rfl,rfl,rfl,λ_=>rfl,FR _⟩
 have G: ∀{y:bY},y∈s'.cs-> ∃f∈s.cs,y.ph=f.ph/\y.vm=f.vm/\y.c=f.c/\y.wk=f.wk/\y.fr=f.fr/\y.ak=f.ak/\y.fs=f.fs/\y.ls.length<=f.ls.length:=λh=>by
  obtain⟨z,hz⟩:=CW h;obtain⟨f,g1,B,t,L,Y,P,H,g8, _,g9⟩:=w hz;exact⟨f,aC g1,B,t,L,Y,P,H,g8,g9⟩
 obtain⟨hpw,uK⟩:=M.aq E;obtain⟨ja,ya,hja,hya,hpa,hea⟩:=uK a DB;obtain⟨ha1,X9, _⟩:=M.wt ya (aC hya) hpa;have ea1:a.1=ya.ak:=by rw[hea]
 have Ir: ∀b∈q,a.1<b.1:=(List.pairwise_cons.1 hpw).1;refine⟨by rw[v];exact M.hi,M.nn,by rw[e9,B2];exact M.lc,by rw[hb,B2];exact M.lb,by rw[p];exact M.lp,by rw[gW];exact M.sz,λy k=>?_,λy k=>?_,λy k=>?_,
  by rw[O,v];exact M.k5,by rw[O];exact M.nk,by rw[p,O];exact M.wk,by rw[p];exact M.wn,λy k e=>?_,λy k e=>?_,λ{a b y z} h1 A Z Q R=>?_,λ{m d} h1 A=>?_,by rw[p];exact M.nw,λ{j y} h1=>?_,λ{j y} h1 l hl=>?_,λy k e=>?_,λ{j y} h1 e=>?_,λ{j y} h1 e=>?_,λy k e=>?_,λ{a b y z} h1 A Z Q R=>?_,λ{j r} h1=>?_,λid JY=>?_⟩
 ·obtain⟨f,o,g1, _⟩:=G k;rw[g1];exact M.ph f o
 ·obtain⟨f,o, _, _,t, _⟩:=G k;rw[t];exact M.ar f o
 ·obtain⟨f,o, _, _, _, _, _, _, _,g⟩:=G k;have:=M.tl f o;rw[gW];omega
 ·obtain⟨f,o,g1, _, _, _, _, _,H, _⟩:=G k;rw[H,O,p];exact M.fk f o (by rw[<-g1];exact e)
 ·obtain⟨f,o,g1, _, _, _, _, _,H, _⟩:=G k;rw[H];exact M.fn f o (by rw[<-g1];exact e)
 ·obtain⟨f,u,g1, _, _, _, _, _,H, _⟩:=w h1;obtain⟨z0,k0,C, _, _, _, _, _,k7, _⟩:=w A;rw[H,k7];exact M.fd u k0 Z (by rw[<-g1];exact Q) (by rw[<-C];exact R)
 ·rw[v] at h1;obtain⟨C,k2⟩:=M.kd h1 A;rw[O,p];refine⟨C,k2.imp id λ⟨y,k,Q,R⟩=>?_⟩;obtain⟨j,hj⟩:=CW k;obtain⟨I,p1,p2,p3, _⟩:=K j y hj Q;exact⟨I,aC p1,p2,by rw[p3];exact R⟩
 ·obtain⟨f,u,g1, _⟩:=w h1;rw[p,g1];exact M.pn u
 ·
  obtain⟨f,u, _, _, _, _, _, _, _,gj, _⟩:=w h1;by_cases e:j=i
  ·subst e;rw[vG] at h1;cases h1;obtain⟨l1,l2⟩:=tI hl;obtain⟨J,m,d,S,T,U⟩:=M.ln X l l1;refine⟨J,m,d,S,by rw[v];exact T,?_⟩;rw[v];refine U.imp id λ⟨V,qq,b,N,D,W,r8⟩=>⟨V,q,b,by rw[hb,B1 hib],?_,W,λe5=>?_⟩
   ·rw[E] at N;cases N;rcases DH.1 D with rfl|D
    ·exact absurd W l2
    ·exact D
   ·obtain⟨r9,z,y,c,c0,c1,c2,c3,c4,c5⟩:=r8 e5;obtain⟨I,p1,p2,p3,p4, _⟩:=K z y c1 c2;rw[E] at N;cases N;have hbq:b∈q:=by
     rcases DH.1 D with rfl|D
     ·exact absurd W l2
     ·exact D
    have hcq:c∈q:=by
     rcases DH.1 c0 with rfl|c0
     ·have:=Ir b hbq;omega
     ·exact c0
    exact⟨r9,z,I,c,hcq,p1,p2,by rw[p3];exact c3,by rw[p4];exact c4,c5⟩
  ·rw[gj e] at hl;obtain⟨J,m,d,S,T,U⟩:=M.ln u l hl;refine⟨J,m,d,S,by rw[v];exact T,?_⟩;rw[v];refine U.imp id λ⟨V,qq,b,N,D,W,r8⟩=>⟨V,qq,b,by rw[hb,Ag (λc=>e c.symm)];exact N,D,W,λe5=>?_⟩;obtain⟨r9,z,y,c,c0,c1,c2,c3,c4,c5⟩:=r8 e5;obtain⟨I,p1,p2,p3,p4, _⟩:=K z y c1 c2;exact⟨r9,z,I,c,c0,p1,p2,by rw[p3];exact c3,by rw[p4];exact c4,c5⟩
 ·obtain⟨f,o,g1,B,t, _⟩:=G k;rw[v,B,t];exact M.ac f o (by rw[<-g1];exact e)
 ·obtain⟨f,u,g1,B,t,L, _⟩:=w h1;obtain⟨l,S,T,U,V⟩:=(M.wl u (by rw[<-g1];exact e)).AJ v K (by rw[p]) (by rw[p]);exact⟨l,by rw[L];exact S,T,by rw[L];exact U,by rw[L,B,t];exact V⟩
 ·obtain⟨f,u,g1,B,t,L,Y, _⟩:=w h1;have:=M.rc u (by rw[<-g1];exact e);rw[Y,t];exact⟨this.1.AJ v K (by rw[p]) (by rw[p]),this.2⟩
 ·obtain⟨f,o,g1,B,t, _, _,P, _⟩:=G k;have:=M.wt f o (by rw[<-g1];exact e);unfold Al Am at this ⊢;rw[X_,B,t,P];exact this
 ·obtain⟨f,u,g1, _, _, _, _,P, _⟩:=w h1;obtain⟨z0,k0,C, _, _, _, _,k6, _⟩:=w A;rw[P,k6];exact M.wu u k0 Z (by rw[<-g1];exact Q) (by rw[<-C];exact R)
 ·
  have sub: ∃J,s.bx[j]? =some J/\r.Sublist J:=by
   rw[hb] at h1;rcases jQ h1 with ⟨rfl,rfl⟩|⟨_,h1⟩
   ·exact⟨_,E,List.sublist_cons_self ..⟩
   ·exact⟨r,h1,List.Sublist.refl _⟩
  obtain⟨J,k0,C⟩:=sub;obtain⟨k2,k3⟩:=M.aq k0;refine⟨k2.sublist C,λb hb=>?_⟩;obtain⟨j2,y,p1,p2,p3,p4⟩:=k3 b (C.subset hb);obtain⟨I,q1,q2,q3,q4,q5,q6⟩:=K j2 y p2 p3;refine⟨j2,I,p1,q1,q2,?_⟩;unfold Al Am at p4 ⊢;rw[q4,q5,q6];exact p4
 ·
  rw[X_] at JY;have hoc:=M.oc id JY;have hbi:s.bx[i]=a::q:=(Aq.1 E).2;have hnq:jv q a.1=false:=by
   unfold jv;rw[Gi];intro b hb c;have:=Ir b hb;have c':b.1=a.1:=by simpa using c
   omega
  have Kc: ∀j:Int,((s.bx.set i q).countP (λr=>jv r j):Nat)=s.bx.countP (λr=>jv r j) - (if jv (a::q) j=true then 1 else 0)+(if jv q j=true then 1 else 0):=λj=>by
   rw[List.countP_set hib,hbi]
  rw[ho,hb,Kc,B3,Gd,ve];by_cases e:(a.1 - 1).toNat=id
  ·have ej:(id:Int)+1=a.1:=by omega
   rw[ay e,ay (by omega),ej,hnq];have oH:0<s.bx.countP (λr=>jv r a.1):=FE.2 ⟨a::q,aC E,by rw[ve];simp⟩;rw[ej] at hoc;rw[e];simp only[beq_self_eq_true,Bool.true_or,if_true,Option.getD_some];rw[au (by decide)];omega
  ·rw[au e, <-B3,hoc];have:(a.1==(id:Int)+1)=false:=by
    simp;omega
   rw[this,Bool.false_or];split
   ·rename_i hp;have oH:0<s.bx.countP (λr=>jv r ((id:Int)+1)):=FE.2 ⟨a::q,aC E,by rw[ve,hp,Bool.or_true]⟩;omega
   ·omega
end
section
variable {gh:Gh} {ta:Int->Bool} {n:Nat} {s s':MS} {i:Nat}
theorem Bz {l:List (Int×Int)} (h:(l.map (·.1)).Nodup) {a b:Int×Int} (d:a∈l) (hb:b∈l) (e:a.1=b.1):a=b:=by
 induction l with
 |nil=>cases d
 |cons c l f=>
  rw[Dg,DA] at h;rcases DH.1 d with rfl|d
  ·rcases DH.1 hb with rfl|hb
   ·rfl
   ·exact absurd (B4.2 ⟨b,hb,e.symm⟩) h.1
  ·rcases DH.1 hb with g|hb
   ·rw[g] at e;exact absurd (show c.1∈l.map (·.1) from B4.2 ⟨a,d,e⟩) h.1
   ·exact f h.2 d hb
theorem MI.Yh (M:MI gh ta n s):MI gh ta n {s with ep:=fi s.ep}:=by
 unfold fi;split
 ·rename_i h;rw[List.all_eq_true] at h;exact{M with
   wk:=λe g=>by
    obtain⟨a,b,c⟩:=M.wk e g;exact⟨a,b,Int.le_trans c (by show s.ep.now<=s.ep.now+1;omega)⟩
   nw:=by
    have:=M.nw;show 0<=s.ep.now+1;omega
   pn:=λ{j y} d=>by
    have:=M.pn d;show if y.ph=2\/y.ph=3 then 0<=s.ep.pins.getD j 0/\s.ep.pins.getD j 0<=s.ep.now+1/\s.ep.now+1<=s.ep.pins.getD j 0+1 else s.ep.pins.getD j 0= -1;split
    ·rename_i c;rw[ay c] at this;have f:j<s.ep.pins.length:=by rw[M.lp, <-M.lc];exact(Aq.1 d).1
     have i:s.ep.pins.getD j 0∈s.ep.pins:=by
      rw[B3,BP f];exact List.getElem_mem f
     have:=h _ i;simp only[Bool.or_eq_true,beq_iff_eq] at this;omega
    ·rename_i c;rw[au c] at this;exact this}
 ·exact M
def fL (s:MS) (f:Int):MS:={gQ s f with ep:={s.ep with ws:=s.ep.ws.filter λx=> !(x.1==f)}}
theorem JD (M:MI gh ta n s) {x:bY} (d:s.cs[i]? =some x) (g:x.ph=2\/x.ph=3) {f r:Int} (c:(f,r)∈s.ep.ws) (k:r+2<=s.ep.now) {f0:Int} (P:rF s i f0):f0≠f/\rF (fL s f) i f0:=by
 have h:=M.pn d;rw[ay g] at h;have ne:f0≠f:=λe=>by
  subst e;rcases P with ⟨z,y,h1,a,b⟩|⟨e,h1,a,b⟩
  ·exact(M.fk y (aC h1) a f0 b).2 (B4.2 ⟨_,c,rfl⟩)
  ·have:e=(f0,r):=by
    have j:=M.wn;exact Bz j h1 c a
   subst this;have b:s.ep.pins.getD i 0<=r:=b;omega
 refine⟨ne,?_⟩;rcases P with ⟨z,y,h1,a,b⟩|⟨e,h1,a,b⟩
 ·exact .inl ⟨z,y,h1,a,b⟩
 ·refine .inr ⟨e,B6.2 ⟨h1,?_⟩,a,b⟩;simp[a,ne]
theorem MI.fL (M:MI gh ta n s) {f r:Int} (F:(f,r)∈s.ep.ws) (L:r+2<=s.ep.now):MI gh ta n (fL s f):=by
 obtain⟨R, _, _⟩:=M.wk _ F;obtain⟨m,d,B,G,N⟩:=M.k5 f R;have B:f=(m:Int):=B;obtain⟨S, _,T,U⟩:=M.hi.OL G N;have O:f∈s.ep.ws.map (·.1):=B4.2 ⟨_,F,rfl⟩;have hmn:m<s.h.s.2.length:=(Aq.1 G).1;have C:(Go.Proofs.YtlcenllcmeebhaaGreat.fL s f).h=bq s.h (s.h.s.1,s.h.s.2.set m zD):=by
  show bq s.h (fb s.h.s f)= _;rw[B,S]
 have P:(Go.Proofs.YtlcenllcmeebhaaGreat.fL s f).h.s.2=s.h.s.2.set m zD:=by rw[C];rfl
 have V:(Go.Proofs.YtlcenllcmeebhaaGreat.fL s f).h.s.1=s.h.s.1:=by rw[C];rfl
 have W:(Go.Proofs.YtlcenllcmeebhaaGreat.fL s f).h.g=s.h.g:=by rw[C];rfl
 have D: ∀{k:Nat} {d':DT},s.h.s.2[k]? =some d'->(k:Int)≠f->(Go.Proofs.YtlcenllcmeebhaaGreat.fL s f).h.s.2[k]? =some d':=λ{k d'} h1 o=>by
  rw[P,Ag (λc=>o (by rw[B,c]))];exact h1
 have H: ∀{k:Nat} {d':DT},s.h.s.2[k]? =some d'->d'.1=4->(k:Int)≠f:=λ{k d'} h1 o c=>by
  rw[B] at c;have:k=m:=by omega
  subst this;rw[G] at h1;cases h1;rw[N] at o;exact absurd o (by decide)
 have I: ∀{g:Int},g∈s.kn->g≠f->g∈(Go.Proofs.YtlcenllcmeebhaaGreat.fL s f).kn:=λ{g} h1 o=>B6.2 ⟨h1,by simp[o]⟩;have pg: ∀i q,jJ (Go.Proofs.YtlcenllcmeebhaaGreat.fL s f).h i q=jJ s.h i q:=λi q=>by rw[C];exact U.to id
 exact{M with
  hi:=by rw[C];exact T
  k5:=λg J=>by
   obtain⟨h1,o⟩:=B6.1 J;obtain⟨k,d',t,u,E⟩:=M.k5 g h1;exact⟨k,d',t,D u (by rw[<-t];simpa using o),E⟩
  nk:=M.nk.sublist Dk
  wk:=λe X=>by
   obtain⟨h1,o⟩:=B6.1 X;obtain⟨t,u,E⟩:=M.wk e h1;exact⟨I t (by simpa using o),u,E⟩
  wn:=M.wn.sublist (Dk.map _)
  fk:=λy K e g J=>by
   obtain⟨t,u⟩:=M.fk y K e g J;exact⟨I t λc=>u (by rw[c];exact O),λc=>u ((Dk.map _).subset c)⟩
  kd:=λ{k d'} h1 o=>by
   rw[P] at h1;rcases jQ h1 with ⟨_,rfl⟩|⟨e,h1⟩
   ·exact absurd o (by decide)
   ·have ne:(k:Int)≠f:=λc=>e (by rw[B] at c;omega);obtain⟨t,u⟩:=M.kd h1 o;refine⟨I t ne,u.imp (λc=>?_) id⟩;obtain⟨e',g1,Q⟩:=B4.1 c;exact B4.2 ⟨e',B6.2 ⟨g1,by simp[Q,ne]⟩,Q⟩
  pn:=λ{j y} v=>M.pn v
  ln:=λ{j y} v l Y=>by
   obtain⟨Z,k,d',A,w,p⟩:=M.ln v l Y;have ne:(k:Int)≠f:=by
    rcases p with p|⟨x,q,a, _, _, _,r8⟩
    ·exact H w p.1
    ·rcases x with x|x
     ·exact H w x
     ·obtain⟨_,z,y,b, _,c1,c2,c3, _, _⟩:=r8 x;have:=(M.fk y (aC c1) c2 _ c3).2;exact λc=>this (by rw[A,c];exact O)
   refine⟨Z,k,d',A,D w ne,?_⟩;rw[pg];exact p
  ac:=λy K e=>by rw[W];exact M.ac y K e
  wl:=λ{j y} v e=>by
   obtain⟨l,A,w,p,x⟩:=M.wl v e;refine⟨l,A,w,p,x.imp id λ⟨c1,c2,c3⟩=>?_⟩;obtain⟨p1,p2⟩:=JD M v (.inl e) F L c2;refine⟨?_,p2,c3⟩;obtain⟨k0,d',t,u,E⟩:=c1;exact⟨k0,d',D t (by rw[FU k0];exact p1),u,by rw[V];exact E⟩
  rc:=λ{j y} v e=>by
   obtain⟨⟨k,d',A,w,p⟩,x⟩:=M.rc v e;refine⟨?_,x⟩;rcases p with p|⟨r5,r6,r7⟩
   ·exact⟨k,d',A,D w (H w p),.inl p⟩
   ·obtain⟨p1,p2⟩:=JD M v (.inr e) F L r6;exact⟨k,d',A,D w (by rw[<-A];exact p1),.inr ⟨r5,p2,r7⟩⟩}
theorem MI.Xq: ∀(L:List Int) {s:MS},MI gh ta n s->L.Nodup->(∀f∈L, ∃r,(f,r)∈s.ep.ws/\r+2<=s.ep.now)->MI gh ta n (L.foldl Go.Proofs.YtlcenllcmeebhaaGreat.fL s)
 |[], _,M, _, _=>M
 |f::L,s,M,a,b=>by
  obtain⟨r,h1,e⟩:=b f DB;refine MI.Xq L (M.fL h1 e) (DA.1 a).2 λg d=>?_;obtain⟨r',h,i⟩:=b g (Dj _ d);refine⟨r',B6.2 ⟨h,?_⟩,i⟩;have:g≠f:=λc=>(DA.1 a).1 (by rw[<-c];exact d);simp[this]
theorem tJ (e:vq): ∀(L:List Int) (s:MS),L.foldl gQ {s with ep:=e}={L.foldl gQ s with ep:=e}
 |[], _=>rfl
 |f::L,s=>tJ e L (gQ s f)
theorem EE: ∀(L:List Int) (s:MS),L.foldl Go.Proofs.YtlcenllcmeebhaaGreat.fL s={L.foldl gQ s with ep:={s.ep with ws:=s.ep.ws.filter λx=> !L.contains x.1}}
 |[],s=>by
  have:(s.ep.ws.filter λx=> !([]:List Int).contains x.1)=s.ep.ws:=GI.2 λx _=>rfl;rw[this];rfl
 |f::L,s=>by
  show L.foldl Go.Proofs.YtlcenllcmeebhaaGreat.fL (Go.Proofs.YtlcenllcmeebhaaGreat.fL s f)= _;rw[EE L,show(Go.Proofs.YtlcenllcmeebhaaGreat.fL s f)={gQ s f with ep:={s.ep with ws:=s.ep.ws.filter λx=> !(x.1==f)}} from rfl,tJ];show({L.foldl gQ (gQ s f) with ep:={s.ep with ws:=(s.ep.ws.filter λx=> !(x.1==f)).filter λx=> !L.contains x.1}}:MS)= _;rw[List.filter_filter];have:(λ(x:Int×Int)=>(!L.contains x.1)&& !(x.1==f))=λx=> !(f::L).contains x.1:=by
   funext x;rw[List.contains_cons];cases L.contains x.1<;>cases x.1==f<;>rfl
  rw[this];rfl
theorem CH {e:vq} {f:Int}:f∈oz e<-> ∃r,(f,r)∈e.ws/\r+2<=e.now:=by
 unfold oz;rw[(lE _).mem_iff,B4];constructor
 ·rintro⟨⟨f',r⟩,h,rfl⟩;obtain⟨h1,a⟩:=B6.1 h;exact⟨r,h1,by simpa using a⟩
 ·rintro⟨r,h1,a⟩;exact⟨(f,r),B6.2 ⟨h1,by simpa using a⟩,rfl⟩
theorem EF (M:MI gh ta n s):(dA s).1=(oz (fi s.ep)).foldl Go.Proofs.YtlcenllcmeebhaaGreat.fL {s with ep:=fi s.ep}:=by
 rw[EE];show(oz (fi s.ep)).foldl gQ {s with ep:=Ca (fi s.ep)}= _;rw[tJ (Ca (fi s.ep)),tJ (fi s.ep)];have:(fi s.ep).ws.filter (λx=> !decide (x.2+2<=(fi s.ep).now))=(fi s.ep).ws.filter λx=> !(oz (fi s.ep)).contains x.1:=by
  refine List.filter_congr λx a=>?_;congr 1;rw[Bool.eq_iff_iff,List.contains_iff_mem,CH,decide_eq_true_eq];refine⟨λh=>⟨x.2,a,h⟩,λ⟨r,h1,b⟩=>?_⟩;have:x=(x.1,r):=Bz M.Yh.wn a h1 rfl;rw[this];exact b
 show({ (oz (fi s.ep)).foldl gQ s with ep:={fi s.ep with ws:=(fi s.ep).ws.filter λx=> !decide (x.2+2<=(fi s.ep).now)}}:MS)= _;rw[this]
theorem MI.free (M:MI gh ta n s):MI gh ta n (dA s).1:=by
 rw[EF M];refine MI.Xq _ M.Yh ?_ λf a=>CH.1 a;unfold oz;refine(lE _).nodup_iff.2 ?_;exact M.Yh.wn.sublist (Dk.map _)
end
namespace Inv
variable {g:Gh} {s:WD}
theorem qj (I:Inv g s) (nl:z6 g s) {o r p t f:Int} {l:Nat} (v:g r=some (o,3,0)) (n:0<=p/\p<65536) (a:g f=some (o,l,px (l+1) p)):
 (∃m:Nat,l=m+1/\(bF s.1 p t (f,(l:Int),(0,0,0,0,()))).2.1=(m:Int)/\m<=3/\(bF s.1 p t (f,(l:Int),(0,0,0,0,()))).2.2=(0,0,0,0,())/\g (bF s.1 p t (f,(l:Int),(0,0,0,0,()))).1=some (o,m,px (m+1) p))\/
 ((bF s.1 p t (f,(l:Int),(0,0,0,0,()))).2.1= -1/\((bF s.1 p t (f,(l:Int),(0,0,0,0,()))).2.2.2.2.2.1=0->bA s r false p=((bF s.1 p t (f,(l:Int),(0,0,0,0,()))).2.2.1,(bF s.1 p t (f,(l:Int),(0,0,0,0,()))).2.2.2.1,0,()))):=by
 have w:=I.kd a;have x:=w.2.2.2.2.2;obtain⟨y,z,G⟩:=I.vo a;have hi:=eo p l;have h:=lq ⟨y,z⟩ n x;have A:sq s.1 (dX f p (l:Int))=true:=by rw[h];exact iY (by omega) (by omega)
 have C:ux (B (dE s.1 (dX f p (l:Int)))).toNat=true:=by
  rw[h];cases hb:(aL s.1 (16*f+px l p % 16)).1 with
  |true=>exact Cl hb
  |false=>rw[I.wf a hi.1 hi.2 hb];decide+kernel
 rw[tj A C,h];have b:=I.si a hi.1 hi.2;have i:=nl a hi.1 hi.2;have j:dH (aL s.1 (16*f+px l p % 16))=false->bA s r false p=mi p l (aL s.1 (16*f+px l p % 16)):=λc=>I.fH v n ⟨a,c⟩;revert b i j;generalize aL s.1 (16*f+px l p % 16)=e;intro b i j;unfold tookS;split
 ·exact .inr ⟨rfl,λc=>absurd c (show ¬ (4:Int)=0 by decide)⟩
 rename_i h1;have h1:e.1=true:=by simpa using h1
 split
 ·rename_i d;rw[E5,decide_eq_true_eq] at d;obtain⟨m,q,u⟩:=b d.1;subst q;refine .inl ⟨m,rfl,?_,by omega,rfl,?_⟩
  ·show aX .i64 ((m+1:Nat):Int) 1= _;rw[bC (by omega) (by omega)];omega
  ·rw[<-nJ p (m+1)] at u;exact u
 rename_i d;split
 ·rename_i D;rw[E5,beq_iff_eq] at D;have k:dH e=false:=by
   cases c:dH e with
   |false=>rfl
   |true=>exact absurd (by rw[show fG e.1 e.2.1 e.2.2.1 e.2.2.2.1=true from c,decide_eq_true (by omega:(l:Int)>0)];rfl) d
  have:=i h1 k;omega
 split
 ·rename_i E;rw[E5,beq_iff_eq] at E;have F:l=0:=by omega
  subst F;have k:dH e=false:=by
   cases c:dH e with
   |false=>rfl
   |true=>
    obtain⟨m,q, _⟩:=b c;omega
  refine .inr ⟨rfl,λc=>?_⟩;rw[j k];unfold mi;rw[ay h1,au (by decide)];revert c;dsimp only;unfold xQ;split
  ·intro c;exact absurd c (show ¬ (11:Int)=0 by decide)
  split
  ·intro _;rfl
  ·intro c;exact absurd c (show ¬ (7:Int)=0 by decide)
 ·exact .inr ⟨rfl,λc=>absurd c (show ¬ (11:Int)=0 by decide)⟩
theorem ql (I:Inv g s) {p t f:Int} {l:Nat} (c:0<=p/\p<65536) (e:l<=3) (G:iD s f):(bF s.1 p t (f,(l:Int),(0,0,0,0,()))).2.1= -1/\(bF s.1 p t (f,(l:Int),(0,0,0,0,()))).2.2.2.2.2.1=4:=by
 obtain⟨h0,d,h1, _,h⟩:=G;have k:=I.len;have m:=I.le;have n:f.toNat<s.2.length:=(Aq.1 h1).1;have hi:=eo p l;have a:=lq (f:=f) ⟨h0,by omega⟩ c e;have b:=h (px l p % 16) hi.1 hi.2;have i:sq s.1 (dX f p (l:Int))=true:=by rw[a];exact iY (by omega) (by omega)
 have j:ux (B (dE s.1 (dX f p (l:Int)))).toNat=true:=by rw[a,b];decide+kernel
 rw[tj i j,a,YQ b];exact⟨rfl,rfl⟩
end Inv
section
variable {gh:Gh} {h:HS}
theorem HI.Z4 (H:HI gh h) {n:Nat} {d:DT} (c:h.s.2[n]? =some d) (d4:d.1=4\/d.1=5) {o:Int} (f:0<=o/\o<16) (b:Int):HI gh (bq h (dJ h.s.1 (16*(n:Int)+o) b,h.s.2))/\z7 h (bq h (dJ h.s.1 (16*(n:Int)+o) b,h.s.2)) (λ_ _=>False):=by
 have d3:d.1≠3:=by omega
 have B:Inv.fl gh h.s (dJ h.s.1 (16*(n:Int)+o) b,h.s.2):=by
  refine iH H.inv ⟨cA _ _ _,rfl⟩ (λq e=>⟨n,d,c,d3,?_⟩) λ{i d d'} h1 a=>?_
  ·refine B5 λhc=>e ?_;show dE (dJ h.s.1 (16*(n:Int)+o) b) q= _;rw[mJ (by omega)]
  ·rw[h1] at a;cases a;exact .inl rfl
 exact⟨H.side B H.hc,H.CF B (h':=bq h (dJ h.s.1 (16*(n:Int)+o) b,h.s.2)) rfl rfl _⟩
end
set_option maxRecDepth 100000
open Go.RX D
section
variable {gh:Gh} {ta:Int->Bool} {n:Nat} {s s':MS} {i:Nat}
theorem xJ (M:MI gh ta n s) {v:Int} (b:aU s.h.g v=true): ∃x:GV,s.h.g v.toNat=some x/\aZ s.h.g v=x.root/\gh x.root=some (v,3,0)/\1<=v/\v<=16:=by
 obtain⟨x,a,c,d⟩:=b_ b;refine⟨x,a,c,?_,by omega⟩;rw[M.hi.root a,FU (by omega)]
theorem HU (M:MI gh ta n s) {l:LT} (h:Dy ta s i l) (g:s'.h=s.h) (j: ∀{z:Nat} {y:bY},s.cs[z]? =some y->y.ph=4->s'.cs[z]? =some y):Ak ta s' i l.2.2.1:=by
 obtain⟨_,m,d,h1,k,c⟩:=h;refine⟨m,d,h1,by grind,?_⟩;rcases c with c|⟨c,q,a,o,p,r,e⟩
 ·grind
 ·rcases c with c|c
  ·grind
  ·obtain⟨f,z,y,b, _,c1,c2,c3, _⟩:=e c;exact .inr ⟨c,.inl (by grind),f⟩
theorem JE (M:MI gh ta n s) {x:bY} (a:s.cs[i]? =some x) (h1:x.ph=1):Aj s.ep i={s.ep with pins:=s.ep.pins.set i s.ep.now}:=by
 have b:=M.pn a;unfold Aj
 grind
theorem EG {x:bY} (a:s.cs[i]? =some x) (b:x.ph≠4) (x':bY): ∀{z:Nat} {y:bY},s.cs[z]? =some y->y.ph=4->(s.cs.set i x')[z]? =some y:=by grind
theorem MI.Fy (M:MI gh ta n s) {x:bY} (a:s.cs[i]? =some x) (h1:x.ph=1) (b:mj s.h x=true) {l:LT} (d:l∈x.ls):MI gh ta n {s with cs:=s.cs.set i {x with ph:=3,fr:=l.2.2.1},ep:=Aj s.ep i}:=by
 have f:x.c.1=6\/x.c.1=7:=by
  unfold mj at b;simp at b;have:=b.1;unfold a9 at this
  grind
 rw[JE M a h1];have e:x.ph≠4:=by omega
 have g:=M.nw;refine M.C8 a _ _ e (by grind) rfl (by grind) (M.ar x (aC a)) (M.tl x (aC a)) ?_ (λl d=>M.ln a l d) (by grind) (by grind) λ_=>⟨?_,f⟩
 grind
 ·exact HU M (M.ln a l d) rfl (EG a e _)
theorem MI.Z5 (M:MI gh ta n s) {x:bY} (a:s.cs[i]? =some x) (h1:x.ph=1) (b:mj s.h x=true):MI gh ta n {s with cs:=s.cs.set i {x with ph:=2,wk:=lO s.h.s.1 (aZ s.h.g x.vm) (x.c.2.1 / 16) (a9 x.c.1) 0},ep:=Aj s.ep i}:=by
 unfold mj at b;simp at b;obtain⟨d,e,b⟩:=b;have p:x.c.1=6\/x.c.1=7:=by
  unfold a9 at d
  grind
 rw[JE M a h1];have f:x.ph≠4:=by omega
 have q:=M.nw;have j:=M.ar x (aC a);obtain⟨g,r,k,m,hv⟩:=xJ M e;refine M.C8 a _ s.ms f (by grind) rfl (by grind) j (M.tl x (aC a)) ?_ (λl o=>M.ln a l o) (by grind) (λ_=>?_) (by grind)
 grind
 ·refine⟨3,rfl,by decide,rfl,.inl ?_⟩;show gh _=some (x.vm,3,px 4 (x.c.2.1 / 16));rw[px4 (by omega),k];exact m
theorem xK {a:Int} (h:0<=a/\a<1048576):0<=a / 16/\a / 16<65536:=by omega
theorem EH {ls:List LT} {sz:Int} {l y:LT} (h:y∈qI ls sz l):y∈ls\/y=l:=by
 rcases Fw.1 h with h|h
 ·left;split at h
  ·exact(B6.1 h).1
  grind
 grind
theorem SG {ls:List LT} {sz:Int} {l:LT} (h:(ls.length:Int)<=sz) (h1:1<=sz):((qI ls sz l).length:Int)<=sz:=by
 unfold qI;rw[Gj];show(_+1: )<=sz;split
 ·have:(Cp ls l.1 l.2.1).length<ls.length:=by
   unfold Cp
   simp_all
  omega
 grind
theorem MI.walk (M:MI gh ta n s) {x:bY} (a:s.cs[i]? =some x) (p:x.ph=2):MI gh ta n (iO (lu s i x) i x).1:=by
 have j:=aC a;have u:=M.ar x j;obtain⟨C,D,E⟩:=M.ac x j p;obtain⟨l,w1,F,N,b⟩:=M.wl a p;have k:=xK ⟨u.1.1,D⟩;have q:x.ph≠4:=by omega
 have V:i<s.cs.length:=(Aq.1 a).1;have G:=M.pn a;rw[p,ay (by decide)] at G;have o:x.wk=(x.wk.1,(l:Int),(0,0,0,0,())):=Prod.ext rfl (Prod.ext w1 N);obtain⟨O,P,W,H,Q,R⟩:=xJ M C;have idle: ∀w,MI gh ta n (iO (cB {s with ep:=uQ s.ep i} i {x with wk:=w},((0:Int),(w.2.2.2.2.2.1:Int)),true) i x).1:=λw=>by
  unfold iO;rw[ay rfl];have e:((cB {s with ep:=uQ s.ep i} i {x with wk:=w}).cs.getD i x).ls=x.ls:=by
   show((s.cs.set i _).getD i x).ls= _
   grind
  rw[e];have S:cB (cB {s with ep:=uQ s.ep i} i {x with wk:=w}) i (cI x.ls)={s with cs:=s.cs.set i (cI x.ls),ep:=uQ s.ep i,ms:=s.ms}:=by
   unfold cB;dsimp only;rw[List.set_set]
  rw[S];exact M.idle a q (λl v=>M.ln a l v) (M.tl x j) s.ms
 unfold lu;dsimp only;split
 ·rename_i hc;show MI gh ta n (cB s i _);rcases b with b|b
  ·rcases M.hi.inv.qj M.hi.nl (t:=a9 x.c.1) H k b with ⟨m, _,f,g,I,k4⟩|⟨f, _⟩
   ·rw[o];refine M.C8 (x':={x with wk:=bF s.h.s.1 (x.c.2.1 / 16) (a9 x.c.1) (x.wk.1,(l:Int),(0,0,0,0,()))}) a (s.ep.pins.getD i 0) s.ms q q ?_ (M.ph x j) u (M.tl x j) ?_ (λl v=>M.ln a l v) (λ_=>⟨C,D,E⟩) (λ_=>⟨m,f,g,I,.inl k4⟩) (by grind)
    ·rw[tH M a];rfl
    ·rw[ay (.inl p)];exact G
   ·rw[o] at hc;exact absurd f hc
  ·obtain⟨f, _⟩:=M.hi.inv.ql (t:=a9 x.c.1) k F b.1;rw[o] at hc;exact absurd f hc
 split
 ·exact idle _
 rename_i z r;have z:=B5 z;have r:(bF s.h.s.1 (x.c.2.1 / 16) (a9 x.c.1) x.wk).2.2.2.2.2.1=0:=B5 r;show MI gh ta n (cB s i _);have A:bA s.h.s O.root false (x.c.2.1 / 16)=((bF s.h.s.1 (x.c.2.1 / 16) (a9 x.c.1) x.wk).2.2.1,(bF s.h.s.1 (x.c.2.1 / 16) (a9 x.c.1) x.wk).2.2.2.1,0,()):=by
  rcases b with b|b
  ·rcases M.hi.inv.qj M.hi.nl (t:=a9 x.c.1) H k b with ⟨m, _,f,g,I,k4⟩|⟨f,g⟩
   ·rw[<-o] at f;rw[z] at f;omega
   ·rw[<-o] at g;exact g r
  ·obtain⟨_,g⟩:=M.hi.inv.ql (t:=a9 x.c.1) k F b.1;rw[<-o,r] at g;exact absurd g (by decide)
 revert A;generalize bF s.h.s.1 (x.c.2.1 / 16) (a9 x.c.1) x.wk=w;intro A;have J:jJ s.h x.vm.toNat (x.c.2.1 / 16)=(w.2.2.1,w.2.2.2.1,0,()):=by rw[bP P];exact A
 have T:m_ s.h x.vm.toNat (x.c.2.1 / 16)=some w.2.2.1:=by rw[rP,J];rfl
 obtain⟨m,d,K,L,d4, _⟩:=M.hi.TT T;have U:Dy ta s i (x.vm,x.c.2.1 / 16,w.2.2.1,w.2.2.2.1,()):=⟨⟨Q,R,k.1,k.2⟩,m,d,K,L,.inl ⟨d4,J⟩⟩;refine M.C8 (x':={x with wk:=w,ls:=qI x.ls s.sz (x.vm,x.c.2.1 / 16,w.2.2.1,w.2.2.2.1,()),ph:=3,fr:=w.2.2.1}) a (s.ep.pins.getD i 0) s.ms q (show ¬ (3:Int)=4 by decide) ?_ (show 0<=(3:Int)/\(3:Int)<=4 by decide) u (SG (M.tl x j) M.sz.1) ?_ ?_ (λe=>absurd e (show ¬ (3:Int)=2 by decide)) (by grind) (λ_=>⟨⟨m,d,K,L,.inl d4⟩,E⟩)
 ·rw[tH M a];rfl
 grind
 ·intro y B;rcases EH B with B|rfl
  ·exact M.ln a y B
  ·exact U
theorem MI.word (M:MI gh ta n s) {f:Int} (R:Ak ta s i f) {o:Int} (r:0<=o/\o<16) (b:Int):MI gh ta n {s with h:=bq s.h (dJ s.h.s.1 (16*f+o) b,s.h.s.2)}:=by
 obtain⟨m,d,t,u,F⟩:=R;subst t;obtain⟨H,P⟩:=M.hi.Z4 u (by omega) r b;exact{M with
  hi:=H
  ln:=λ{j y} a l v=>by
   obtain⟨w,x,d',g,p,q⟩:=M.ln a l v;refine⟨w,x,d',g,p,?_⟩;rw[P.to id];exact q
  wl:=λ{j y} a e=>by
   obtain⟨l,g,p,q,z⟩:=M.wl a e;refine⟨l,g,p,q,z.imp id λ⟨c1,c2,c3⟩=>⟨?_,c2,c3⟩⟩;obtain⟨k0,d',A,B,C⟩:=c1;refine⟨k0,d',A,B,λk D E=>?_⟩;have ne:y.wk.1≠m:=λc=>by
    grind
   show dE (dJ _ _ b) _=0;rw[mJ (by omega)];exact C k D E}
theorem i_ {s1:MS} {r:Int×Int} {x:bY} (h:s1.cs[i]? =some x):(iO (s1,r,true) i x).1={s1 with cs:=s1.cs.set i (cI x.ls)}:=by
 unfold iO;rw[B3,h];rfl
theorem MI.reach (M:MI gh ta n s) {x:bY} (a:s.cs[i]? =some x) (f:x.ph=3):MI gh ta n (iO (fY s i x) i x).1:=by
 have d:=aC a;have e:x.ph≠4:=by omega
 unfold fY;split
 ·have M1:=M.word (M.rc a f).1 (o:=x.c.2.1 % 16) (by omega) x.c.2.2.1;rw[i_ (by grind)];exact M1.idle a e (λl b=>M1.ln a l b) (M1.tl x d) _
 ·rw[i_ (by grind)];exact M.idle a e (λl b=>M.ln a l b) (M.tl x d) _
end
structure NN (s s':WD):Prop where
 to: ∀{m:Nat} {d':DT},s'.2[m]? =some d'->d'.1=5-> ∃d,s.2[m]? =some d/\d.1=5
theorem NN.refl {s s':WD} (h:s'.2=s.2):NN s s':=⟨λ{m d'} h1 a=>⟨d',by rw[<-h];exact h1,a⟩⟩
theorem NN.trans {s t u:WD} (a:NN s t) (b:NN t u):NN s u:=⟨λh1 c=>by
 obtain⟨d,e,f⟩:=b.to h1 c;exact a.to e f⟩
theorem NN.ch {s:WD} {W:List Int} {f:Int} {g:DT->DT×Int} (b: ∀d,(g d).2=0->(g d).1.1=5->d.1=5):NN s (W,dF s.2 f g):=⟨λ{m d'} h1 a=>by
 have h1:(dF s.2 f g)[m]? =some d':=h1;by_cases c:f<0\/f>=s.2.length
 ·rw[xz c] at h1;exact⟨d',h1,a⟩
 ·rw[o9 (by omega)] at h1;split at h1
  ·rename_i e;rcases jQ h1 with ⟨rfl,rfl⟩|⟨_,h1⟩
   ·have h:f.toNat<s.2.length:=by omega
    refine⟨s.2.getD f.toNat zD,?_,b _ e a⟩;rw[B3,BP h];rfl
   ·exact⟨d',h1,a⟩
  ·exact⟨d',h1,a⟩⟩
theorem JF {k o:Int} (b:k≠5) (d:DT) (h0:(aO k o d).2=0) (a:(aO k o d).1.1=5):d.1=5:=by
 unfold aO at h0 a;dsimp only at h0 a;unfold mG at a;rw[ay h0] at a;exact absurd a b
theorem Z6 {x:Int} (d:DT) (h0:(gX x d).2=0) (a:(gX x d).1.1=5):d.1=5:=by
 unfold gX at h0 a;dsimp only at h0 a;unfold qs at a;rw[ay h0] at a;exact a
theorem NN.take {s:WD} {W:List Int} {k o:Int} (a:k≠5):NN s (W,dy s.2 k o):=by
 unfold dy;split
 ·exact .refl rfl
 ·exact .ch λd=>JF a d
theorem NN.tk (s:WD) (o:Int) (g:Int->Int):NN s (iK s o g):=NN.take (by decide)
theorem NN.lay (s:WD) (i:Int) (e:ET):NN s (dN s i e):= .refl rfl
theorem NN.down (o pg:Int): ∀(n:Nat) (x:WD×PT),NN x.1 (qH o pg n x).1
 |0,x=> .refl rfl
 |n+1,x=>NN.trans (NN.trans (NN.tk x.1 o λ_=>0) (NN.lay _ x.2.2.2.1 (cd (eh x.1 o)))) (NN.down o pg n (dN (iK x.1 o λ_=>0) x.2.2.2.1 (cd (eh x.1 o)),(eh x.1 o,x.2.2.1 - 1,dX (eh x.1 o) pg (x.2.2.1 - 1),())))
theorem NN.map (s:WD) (o r:Int) (g:Bool) (pg f rt:Int):NN s (jt s o r g pg f rt):=by
 unfold jt;split
 ·exact .refl rfl
 split
 ·unfold rB;split
  ·exact NN.trans (NN.down o pg _ (s,dw s.1 r pg)) (NN.lay _ _ _)
  ·exact .refl rfl
 ·exact .refl rfl
theorem NN.don (h:HS) (v a b:Int):NN h.s (jK h v a b).s:=by
 have h1:NN h.s (kL h v):=NN.take (by decide);have c:NN h.s (qy h v a b):=h1.trans (NN.map ..);unfold jK;split
 ·exact .refl rfl
 split
 ·exact .refl rfl
 split
 ·exact h1
 split
 ·exact c.trans (NN.ch λd=>JF (by decide) d)
 ·exact c.trans (.refl rfl)
theorem NN.DC (h:HS):NN h.s (gP h).s:=by
 unfold gP;split
 ·exact .refl rfl
 split
 ·exact NN.tk ..
 ·exact .refl rfl
theorem NN.tak (h:HS) (v a b c:Int):NN h.s (ia h v a b c).s:=NN.trans (NN.map ..) (NN.ch λd=>Z6 d)
structure CE (gh dq:Gh) (h h':HS) (P:Nat->Int->Prop) (U:Int->Prop):Prop where
 hi:HI dq h'
 kd:KD h.s h'.s
 pg:z7 h h' P
 gk: ∀{f:Int} {w:Int×Nat×Int},gh f=some w-> ¬ U w.1->dq f=some w\/iD h'.s f
 gn: ∀{f:Int},iD h.s f->iD h'.s f
 lv: ∀{v:Int},¬ U v->aU h.g v=true->aU h'.g v=true
section
variable {gh dq:Gh} {ta:Int->Bool} {n:Nat} {s s':MS} {i:Nat} {h':HS} {P:Nat->Int->Prop} {U:Int->Prop}
theorem MI.quiet (M:MI gh ta n s) (C:CE gh dq s.h h' P λ_=>False) (N:NN s.h.s h'.s) (E: ∀{j:Nat} {q:Int},P j q->0<=q->q<65536->(jJ s.h j q).2.2.1≠0):MI dq ta n {s with h:=h'}:=by
 have B: ∀{m:Nat} {d:DT},s.h.s.2[m]? =some d->d.1=4-> ∃d',h'.s.2[m]? =some d'/\d'.1=4:=λ{m d} h1 F=>by
  obtain⟨d',g,b⟩:=C.kd.k4 h1 F;rcases b with b|b
  ·exact⟨d',g,b⟩
  ·obtain⟨d2,v,x⟩:=N.to g b;rw[h1] at v;cases v;omega
 exact{M with
  hi:=C.hi
  k5:=λf G=>by
   obtain⟨m,d,h1,D,H⟩:=M.k5 f G;obtain⟨d',g,b⟩:=C.kd.k5 D H;exact⟨m,d',h1,g,b⟩
  kd:=λ{m d} h1 D=>by
   obtain⟨d0,g,b⟩:=N.to h1 D;exact M.kd g b
  pn:=λ{j y} r=>M.pn r
  ln:=λ{j y} r l I=>by
   obtain⟨w,m,d,o,p,t⟩:=M.ln r l I;rcases t with ⟨i,u⟩|⟨i,q,a,u,z,A,J⟩
   ·obtain⟨d',g,b⟩:=B p i;refine⟨w,m,d',o,g,.inl ⟨b,?_⟩⟩;show jJ h' _ _= _;rw[C.pg.to (λc=>E c w.2.2.1 w.2.2.2 (by rw[u]))];exact u
   ·rcases i with i|i
    ·obtain⟨d',g,b⟩:=B p i;exact⟨w,m,d',o,g,.inr ⟨.inl b,q,a,u,z,A,λc=>by omega⟩⟩
    ·obtain⟨d',g,b⟩:=C.kd.k5 p i;exact⟨w,m,d',o,g,.inr ⟨.inr b,q,a,u,z,A,λ_=>J i⟩⟩
  ac:=λy K e=>by
   obtain⟨v,x⟩:=M.ac y K e;exact⟨C.lv id v,x⟩
  wl:=λ{j y} r e=>by
   obtain⟨l,o,p,t,i⟩:=M.wl r e;refine⟨l,o,p,t,?_⟩;rcases i with i|⟨c1,c2,c3⟩
   ·rcases C.gk i id with k|k
    ·exact .inl k
    ·obtain⟨k0,d,v,x, _⟩:=k;obtain⟨d0,g,b⟩:=N.to v x;rw[(M.hi.inv.kd i).2.2.1] at g;cases g;exact absurd b (show ¬ (3:Int)=5 by decide)
   ·exact .inr ⟨C.gn c1,c2,c3⟩
  rc:=λ{j y} r e=>by
   obtain⟨⟨m,d,o,p,t⟩,i⟩:=M.rc r e;refine⟨?_,i⟩;rcases t with t|⟨u,z,A⟩
   ·obtain⟨d',g,b⟩:=B p t;exact⟨m,d',o,g,.inl b⟩
   ·obtain⟨d',g,b⟩:=C.kd.k5 p u;exact⟨m,d',o,g,.inr ⟨b,z,A⟩⟩}
theorem HI.same {h:HS} (H:HI gh h) (c:HI dq h') (a:h'.s=h.s) (b:h'.g=h.g):HI gh h' where
 inv:=by rw[a];exact H.inv
 rt:=H.rt
 nl:=by rw[a];exact H.nl
 sz:=by rw[a];exact H.sz
 iM:=by rw[b];exact H.iM
 root:=by rw[b];exact H.root
 own:=by rw[b];exact H.own
 hc:=c.hc
theorem CE.same {h:HS} (H:HI gh h) (c:HI dq h') (a:h'.s=h.s) (b:h'.g=h.g):CE gh gh h h' (λ_ _=>False) (λ_=>False):=
 ⟨H.same c a b,.refl (by rw[a]),z7.of a b _,λh _=> .inl h,λh=>by rw[a];exact h,λ_ h=>by rw[b];exact h⟩
end
theorem tK: ∀(l m:List Int),l.Nodup->(∀x∈l,x∈m)->l.length<=m.length
 |[], _, _, _=>G1 _
 |a::l,m,b,c=>by
  have d:a∈m:=c a DB;have g:=tK l (m.erase a) (DA.1 b).2 λx f=>by
   have:x≠a:=λe=>(DA.1 b).1 (by rw[<-e];exact f);exact(List.mem_erase_of_ne this).2 (c x (Dj _ f))
  rw[List.length_erase_of_mem d] at g;have:0<m.length:=List.length_pos_of_mem d;rw[Fo];omega
theorem PH {α:Type} (i:Nat): ∀(l:List α) (k:Nat),(l.zipIdx k).countP (λx=>decide (x.2≠i))+(if k<=i/\i<k+l.length then 1 else 0)=l.length
 |[],k=>by
  rw[au (by simp)];rfl
 |a::l,k=>by
  have b:=PH i l (k+1);rw[H4,FQ,Fo];by_cases e:k=i
  ·subst e;rw[au (by omega)] at b;rw[au (by simp),ay (by omega)];omega
  ·rw[ay (by simpa using e)];by_cases c:k+1<=i/\i<k+1+l.length
   ·rw[ay c] at b;rw[ay (by omega)];omega
   ·rw[au c] at b;rw[au (by omega)];omega
section
variable {gh dq:Gh} {ta:Int->Bool} {n:Nat} {s s':MS} {i:Nat} {h':HS} {P:Nat->Int->Prop} {U:Int->Prop}
theorem ij {f:Int}:f∈eK s h'<-> ∃(m:Nat) (d:DT),f=(m:Int)/\h'.s.2[m]? =some d/\d.1=5/\f∉s.kn:=by
 unfold eK;rw[B6,B4];constructor
 ·rintro⟨⟨m,c,rfl⟩,b⟩;rw[FP] at c;have a:h'.s.2[m]? =some h'.s.2[m]:=BP c;rw[E5,o_ a] at b;refine⟨m, _,rfl,a,by simpa using b.1,by simpa using b.2⟩
 ·rintro⟨m,d,rfl,a,e,g⟩;refine⟨⟨m,FP.2 (Aq.1 a).1,rfl⟩,?_⟩;rw[o_ a,e];simpa using g
theorem zC:(eK s h').Nodup:=by
 unfold eK;refine List.Pairwise.sublist Dk ?_;rw[H5];exact GJ.imp λh e=>h (by omega)
theorem MI.box (M:MI gh ta n s) {j:Nat} {q:List AK} (c:s.bx[j]? =some q):q.length<=8:=by
 obtain⟨h1,d⟩:=M.aq c;have f:(q.map (·.1)).Nodup:=by
  unfold List.Nodup;rw[H5];exact h1.imp λh e=>by omega
 have:=tK _ (s.cs.map (·.ak)) f λa g=>by
  obtain⟨b,hb,rfl⟩:=B4.1 g;obtain⟨z,y, _,i, _,k4⟩:=d b hb;exact B4.2 ⟨y,aC i,by rw[k4]⟩
 rw[Dq,Dq,M.lc] at this;have:=M.nn;omega
theorem MI.fI (M:MI gh ta n s) {j:Nat} {q:List AK} (b:s.bx[j]? =some q) {a:AK} (c:a∈q):a.1<=(s.op.length:Int):=by
 obtain⟨z,y, _,d,e,k4⟩:=(M.aq b).2 a c;have:=(M.wt y (aC d) e).2.1;rw[k4];exact this
theorem CI (M:MI gh ta n s) (i:Nat) {t p:Int} (e:1<=t/\t<=16) (f: -1<=p/\p<65536):
 dB s.bx s.op i t p=((s.op.length:Int)+1,(s.bx.zipIdx.map λ(q,j)=>if j=i then q else q++[((s.op.length:Int)+1,t,p,())]),s.op++[(s.bx.length:Int) - 1]):=by
 unfold dB;rw[au (by omega),au ?_];intro c;obtain⟨q,b,a⟩:=GS.1 c;obtain⟨j,d⟩:=CW (List.mem_of_mem_eraseIdx b);have:=M.box d;have a:q.length=16:=by simpa using a
 omega
theorem SH {bx:List (List AK)} {i j:Nat} {x:AK} {a:List AK} (h:(bx.zipIdx.map λ(q,j)=>if j=i then q else q++[x])[j]? =some a): ∃q,bx[j]? =some q/\a=if j=i then q else q++[x]:=by
 rw[Fi,H6] at h;cases hb:bx[j]? with
 |none=>rw[hb] at h;cases h
 |some q=>
  rw[hb] at h;refine⟨q,rfl,?_⟩;have:=Option.some.inj h;rw[<-this];show(if 0+j=i then _ else _)= _;rw[Nat.zero_add]
theorem post_at {bx:List (List AK)} {i j:Nat} {x:AK} {q:List AK} (h:bx[j]? =some q):(bx.zipIdx.map λ(q,j)=>if j=i then q else q++[x])[j]? =some (if j=i then q else q++[x]):=by
 rw[Fi,H6,h];show some (if 0+j=i then _ else _)= _;rw[Nat.zero_add]
theorem EI (q:List AK) (x:AK) (k:Int):jv (q++[x]) k=(jv q k||x.1==k):=by
 unfold jv;rw[List.any_append];simp
theorem JG {α:Type}: ∀(l:List α) (k:Nat),(l.zipIdx k).map Prod.fst=l
 |[], _=>rfl
 |a::l,k=>by rw[H4,Dg,JG l (k+1)]
theorem SI {bx:List (List AK)} {i:Nat} {x:AK} {k:Int} (a:x.1≠k):(bx.zipIdx.map λ(q,j)=>if j=i then q else q++[x]).countP (λq=>jv q k)=bx.countP λq=>jv q k:=by
 rw[Fx];have:((λq=>jv q k)∘λ(z:List AK×Nat)=>(match z with|(q,j)=>if j=i then q else q++[x]))=(λq=>jv q k)∘Prod.fst:=by
  funext ⟨q,j⟩;show jv (if j=i then q else q++[x]) k=jv q k;split
  ·rfl
  ·rw[EI,beq_eq_false_iff_ne.2 a,Bool.or_false]
 rw[this, <-Fx,JG]
theorem SJ {bx:List (List AK)} {i:Nat} {x:AK} (hi:i<bx.length) (a: ∀q∈bx,jv q x.1=false):(bx.zipIdx.map λ(q,j)=>if j=i then q else q++[x]).countP (λq=>jv q x.1)=bx.length - 1:=by
 rw[Fx];have:(bx.zipIdx).countP ((λq=>jv q x.1)∘λ(z:List AK×Nat)=>(match z with|(q,j)=>if j=i then q else q++[x]))=bx.zipIdx.countP λz=>decide (z.2≠i):=by
  refine List.countP_congr λ⟨q,j⟩ b=>?_;have c:q∈bx:=(List.mem_zipIdx_iff_getElem?.1 b |> B7);show jv (if j=i then q else q++[x]) x.1=true<->decide (j≠i)=true;split
  ·rename_i e;rw[a q c,e];simp
  ·rename_i e;rw[EI];simp[e]
 rw[this];have:=PH i bx 0;rw[ay (by omega)] at this;omega
end
section
variable {gh dq:Gh} {ta:Int->Bool} {n:Nat} {s:MS} {i:Nat} {h':HS} {P:Nat->Int->Prop} {U:Int->Prop}
def Yi (gh:Gh) (ta:Int->Bool) (fs:List Int) (f:Int):Bool:=if fs.contains f=true then(gh f).isSome else ta f
def AL (s:MS) (h':HS) (i:Nat) (x:bY) (t p:Int) (rs:Int×Int) (ms:List MT):MS:=
 {s with h:=h',kn:=s.kn++eK s h',ms:=ms,bx:=(dB s.bx s.op i t p).2.1,op:=(dB s.bx s.op i t p).2.2,cs:=s.cs.set i {x with rs:=rs,fs:=eK s h',ls:=jj x.ls t p,ak:=(dB s.bx s.op i t p).1,ph:=4}}
theorem MI.Xr (M:MI gh ta n s) {x:bY} (hx:s.cs[i]? =some x) (h1:x.ph=1) (hbx:s.bx[i]? =some []) (C:CE gh dq s.h h' P U) {t p:Int} (ht:1<=t/\t<=16) (hp: -1<=p/\p<65536) (sL:Al x=t) (Tz:Am x=p)
 (hP: ∀{j:Nat} {q:Int},P j q->0<=q->q<65536->(j:Int)=t/\(p= -1\/p=q)) (hU: ∀{j:Nat} {y:bY},s.cs[j]? =some y->y.ph=2-> ¬ U y.vm) (rs:Int×Int) (ms:List MT):
 MI dq (Yi gh ta (eK s h')) n (AL s h' i x t p rs ms):=by
 have lT:i<s.cs.length:=(Aq.1 hx).1;have h4:x.ph≠4:=by omega
 generalize Y:AL s h' i x t p rs ms=s';have J:s'.h=h':=by rw[<-Y];rfl
 have R:s'.ep=s.ep:=by rw[<-Y];rfl
 have hk:s'.kn=s.kn++eK s h':=by rw[<-Y];rfl
 have gW:s'.sz=s.sz:=by rw[<-Y];rfl
 have hb:s'.bx=s.bx.zipIdx.map λ(q,j)=>if j=i then q else q++[((s.op.length:Int)+1,t,p,())]:=by rw[<-Y];unfold AL;dsimp only;rw[CI M i ht hp]
 have ho:s'.op=s.op++[(s.bx.length:Int) - 1]:=by rw[<-Y];unfold AL;dsimp only;rw[CI M i ht hp]
 have e9:s'.cs=s.cs.set i {x with rs:=rs,fs:=eK s h',ls:=jj x.ls t p,ak:=(s.op.length:Int)+1,ph:=4}:=by rw[<-Y];unfold AL;dsimp only;rw[CI M i ht hp]
 have X_:s'.op.length=s.op.length+1:=by rw[ho,Gj];rfl
 have Ya:s'.bx.length=s.bx.length:=by rw[hb,Dq,List.length_zipIdx]
 generalize Z:({x with rs:=rs,fs:=eK s h',ls:=jj x.ls t p,ak:=(s.op.length:Int)+1,ph:=4}:bY)=x' at e9;have O:x'.ph=4:=by rw[<-Z]
 have X:x'.fs=eK s h':=by rw[<-Z]
 have xa:x'.ak=(s.op.length:Int)+1:=by rw[<-Z]
 have xl:x'.ls=jj x.ls t p:=by rw[<-Z]
 have xc:x'.c=x.c:=by rw[<-Z]
 have xT:Al x'=t:=by rw[<-sL, <-Z];rfl
 have xP:Am x'=p:=by rw[<-Tz, <-Z];rfl
 have vG:s'.cs[i]? =some x':=by rw[e9,B1 lT]
 have hw: ∀{z:Nat} {y:bY},s.cs[z]? =some y->y.ph=4->s'.cs[z]? =some y:=λ{z y} h1 h2=>by rw[e9];exact EG hx h4 _ h1 h2
 have Q: ∀{z:Nat} {y:bY},s'.cs[z]? =some y->(z=i/\y=x')\/(z≠i/\s.cs[z]? =some y):=λh=>by rw[e9] at h;exact jQ h
 have hm: ∀{y:bY},y∈s'.cs->y=x'\/y∈s.cs:=λh=>by rw[e9] at h;exact ig h
 have hbg: ∀{j:Nat} {q:List AK},s.bx[j]? =some q->j≠i->s'.bx[j]? =some (q++[((s.op.length:Int)+1,t,p,())]):=λ{j q} h e=>by rw[hb,post_at h,au e]
 have acu: ∀{m:Nat} {d:DT},s.h.s.2[m]? =some d->(m:Int)∈s.kn->d.1=5:=λ{m d} h1 h2=>by
  obtain⟨m',d',A,u,S⟩:=M.k5 _ h2;have:m=m':=by omega
  subst this;rw[h1] at u;cases u;exact S
 have Ub: ∀{m:Nat} {d d':DT},s.h.s.2[m]? =some d->d.1≠5->h'.s.2[m]? =some d'->d'.1=5->(m:Int)∈eK s h':=λh1 h2 h3 h5=>ij.2 ⟨_, _,rfl,h3,h5,λc=>h2 (acu h1 c)⟩;have OM: ∀{m:Nat} {d:DT},s.h.s.2[m]? =some d->d.1=4->(m:Int)∈eK s h'->Yi gh ta (eK s h') (m:Int)=false:=λ{m d} h1 h4 G=>by
  unfold Yi;rw[ay (by simpa using G)];cases hgm:gh (m:Int) with
  |none=>rfl
  |some w=>
   obtain⟨o,l,y⟩:=w;have:=(M.hi.inv.kd hgm).2.2.1;rw[show((m:Int)).toNat=m from rfl,h1] at this;cases this;exact absurd h4 (show ¬ (3:Int)=4 by decide)
 have abG: ∀{f:Int},f∈s.kn->Yi gh ta (eK s h') f=ta f:=λ{f} B=>by
  unfold Yi;rw[au];intro c;have c:f∈eK s h':=by simpa using c
  obtain⟨_, _, _, _, _,k⟩:=ij.1 c;exact k B
 have YX: ∀{m:Nat} {d:DT},s.h.s.2[m]? =some d->d.1=5->Yi gh ta (eK s h') (m:Int)=ta (m:Int):=λh1 h2=>abG (M.kd h1 h2).1;have JH: ∀{j:Nat} {f:Int},rF s j f->rF s' j f:=λh=>h.dn hw (by rw[R]) (by rw[R]);have JI: ∀{j:Nat} {f:Int},f∈eK s h'->rF s' j f:=λh=> .inl ⟨i,x',vG,O,by rw[X];exact h⟩;have PI: ∀{l:LT},(1<=l.1/\l.1<=16/\0<=l.2.1/\l.2.1<65536)->jJ s.h l.1.toNat l.2.1=(l.2.2.1,l.2.2.2.1,0,())-> ¬ (t=l.1/\(p= -1\/p=l.2.1))-> ∃(m:Nat) (d:DT),l.2.2.1=(m:Int)/\h'.s.2[m]? =some d/\d.1=4/\jJ h' l.1.toNat l.2.1=(l.2.2.1,l.2.2.2.1,0,()):=λ{l} L E D=>by
  have Au:jJ h' l.1.toNat l.2.1=(l.2.2.1,l.2.2.2.1,0,()):=by
   rw[C.pg.to λc=>D ?_]
   ·exact E
   ·obtain⟨c1,c2⟩:=hP c L.2.2.1 L.2.2.2;exact⟨by omega,c2⟩
  have iq:m_ h' l.1.toNat l.2.1=some l.2.2.1:=by rw[rP,Au];rfl
  obtain⟨m,d,A,u,S, _⟩:=C.hi.TT iq;exact⟨m,d,A,u,S,Au⟩
 refine⟨by rw[J];exact C.hi,M.nn,by rw[e9,B2];exact M.lc,by rw[Ya];exact M.lb,by rw[R];exact M.lp,by rw[gW];exact M.sz,λy v=>?_,λy v=>?_,λy v=>?_,
  λf B=>?_,?_,λe B=>?_,by rw[R];exact M.wn,λy v e=>?_,λy v e=>?_,λ{a b y z} g H sv A u=>?_,λ{m d} g H=>?_,by rw[R];exact M.nw,λ{j y} g=>?_,λ{j y} g l hl=>?_,λy v e=>?_,λ{j y} g e=>?_,λ{j y} g e=>?_,λy v e=>?_,λ{a b y z} g H sv A u=>?_,λ{j r} g=>?_,λid JY=>?_⟩
 ·rcases hm v with rfl|v
  ·rw[O];decide
  ·exact M.ph y v
 ·rcases hm v with rfl|v
  ·rw[xc];exact M.ar x (aC hx)
  ·exact M.ar y v
 ·rw[gW];rcases hm v with rfl|v
  ·rw[xl];have:=ED x.ls t p;have:=M.tl x (aC hx);omega
  ·exact M.tl y v
 ·
  rw[J];rw[hk] at B;rcases Fw.1 B with B|B
  ·obtain⟨m,d,A,u,S⟩:=M.k5 f B;obtain⟨d',g1,T⟩:=C.kd.k5 u S;exact⟨m,d',A,g1,T⟩
  ·obtain⟨m,d,A,u,S, _⟩:=ij.1 B;exact⟨m,d,A,u,S⟩
 ·rw[hk];refine List.nodup_append.2 ⟨M.nk,zC,λa K b hb c=>?_⟩;subst c;obtain⟨_, _, _, _, _,k⟩:=ij.1 hb;exact k K
 ·rw[R] at B ⊢;obtain⟨a,b,c⟩:=M.wk e B;rw[hk];exact⟨Dn _ a,b,c⟩
 ·rw[hk,R];rcases hm v with rfl|v
  ·intro f B;rw[X] at B;refine⟨Dr _ B,λc=>?_⟩;obtain⟨_, _, _, _, _,k⟩:=ij.1 B;obtain⟨e',I,F⟩:=B4.1 c;exact k (by rw[<-F];exact(M.wk e' I).1)
  ·intro f B;obtain⟨a,b⟩:=M.fk y v e f B;exact⟨Dn _ a,b⟩
 ·rcases hm v with rfl|v
  ·rw[X];exact zC
  ·exact M.fn y v e
 ·rcases Q g with ⟨_,rfl⟩|⟨_,g⟩
  ·rcases Q H with ⟨q, _⟩|⟨_,H⟩
   ·omega
   ·intro f B c;rw[X] at B;obtain⟨_, _, _, _, _,k⟩:=ij.1 B;exact k (M.fk z (aC H) u f c).1
  ·rcases Q H with ⟨_,rfl⟩|⟨_,H⟩
   ·intro f B c;rw[X] at c;obtain⟨_, _, _, _, _,k⟩:=ij.1 c;exact k (M.fk y (aC g) A f B).1
   ·exact M.fd g H sv A u
 ·rw[J] at g;rw[hk,R];by_cases c:(m:Int)∈eK s h'
  ·exact⟨Dr _ c,.inr ⟨x',aC vG,O,by rw[X];exact c⟩⟩
  ·have hkm:(m:Int)∈s.kn:=B5 λG=>c (ij.2 ⟨m,d,rfl,g,H,G⟩);obtain⟨m',d',A,u,S⟩:=M.k5 _ hkm;have:m=m':=by omega
   subst this;obtain⟨_,T⟩:=M.kd u S;refine⟨Dn _ hkm,T.imp id λ⟨y,v,I,F⟩=>?_⟩;obtain⟨j,V⟩:=CW v;exact⟨y,aC (hw V I),I,F⟩
 ·rw[R];rcases Q g with ⟨rfl,rfl⟩|⟨_,g⟩
  ·have:=M.pn hx;rw[h1,au (by decide)] at this;rw[O,au (by decide)];exact this
  ·exact M.pn g
 ·
  rcases Q g with ⟨rfl,rfl⟩|⟨V,g⟩
  ·rw[xl] at hl;obtain⟨l1,l2⟩:=tI hl;obtain⟨L,m,d,E,D,N⟩:=M.ln hx l l1;rcases N with ⟨_,N⟩|⟨_,q,a,r5,r6, _⟩
   ·obtain⟨m',d',g1,T,g3,g4⟩:=PI L N l2;exact⟨L,m',d',g1,by rw[J];exact T,.inl ⟨g3,by rw[J];exact g4⟩⟩
   ·rw[hbx] at r5;cases r5;cases r6
  ·obtain⟨L,m,d,E,D,N⟩:=M.ln g l hl;rcases N with ⟨d4,N⟩|⟨W,q,a,r5,r6,r7,r8⟩
   ·by_cases l2:t=l.1/\(p= -1\/p=l.2.1)
    ·obtain⟨d',A,u⟩:=C.kd.k4 D d4;have NS:j<s.bx.length:=by rw[M.lb, <-M.lc];exact(Aq.1 g).1
     refine⟨L,m,d',E,by rw[J];exact A,.inr ⟨u, _, _,hbg (BP NS) V,Dr _ (Dx.2 rfl),l2,λe5=>?_⟩⟩;have G:=Ub D (by omega) A e5;rw[E];exact⟨OM D d4 G,i,x', _,Dr _ (Dx.2 rfl),vG,O,by rw[X];exact G,xa.symm,Int.le_refl _⟩
    ·obtain⟨m',d',g1,T,g3,g4⟩:=PI L N l2;exact⟨L,m',d',g1,by rw[J];exact T,.inl ⟨g3,by rw[J];exact g4⟩⟩
   ·rcases W with d4|d5
    ·obtain⟨d',A,u⟩:=C.kd.k4 D d4;refine⟨L,m,d',E,by rw[J];exact A,.inr ⟨u, _,a,hbg r5 V,Dn _ r6,r7,λe5=>?_⟩⟩;have G:=Ub D (by omega) A e5;have:=M.fI r5 r6;rw[E];exact⟨OM D d4 G,i,x', _,Dr _ (Dx.2 rfl),vG,O,by rw[X];exact G,xa.symm,by show a.1<=(s.op.length:Int)+1;omega⟩
    ·obtain⟨d',A,u⟩:=C.kd.k5 D d5;refine⟨L,m,d',E,by rw[J];exact A,.inr ⟨.inr u, _,a,hbg r5 V,Dn _ r6,r7,λ_=>?_⟩⟩;obtain⟨I,z,y',b,F,q3,q4,q5,q6,q7⟩:=r8 d5;refine⟨?_,z,y',b,Dn _ F,hw q3 q4,q4,q5,q6,q7⟩;rw[E,YX D d5, <-E];exact I
 ·rw[J];rcases hm v with rfl|v
  ·rw[O] at e;exact absurd e (by decide)
  ·obtain⟨j,V⟩:=CW v;obtain⟨I,F⟩:=M.ac y v e;exact⟨C.lv (hU V e) I,F⟩
 ·rcases Q g with ⟨_,rfl⟩|⟨_,g⟩
  ·rw[O] at e;exact absurd e (by decide)
  ·obtain⟨l,E,D,N,W⟩:=M.wl g e;refine⟨l,E,D,N,?_⟩;rw[J];rcases W with W|⟨c1,c2,c3⟩
   ·rcases C.gk W (hU g e) with k|k
    ·exact .inl k
    ·have G:y.wk.1∈eK s h':=by
      obtain⟨q0,d',I,F, _⟩:=k;have h3:=(M.hi.inv.kd W).2.2.1;have:=Ub h3 (by show ¬ (3:Int)=5;decide) I F;rw[FU q0] at this;exact this
     refine .inr ⟨k,JI G,?_⟩;unfold Yi;rw[ay (by simpa using G),W];rfl
   ·refine .inr ⟨C.gn c1,JH c2,?_⟩;obtain⟨q0,d',I,F, _⟩:=c1;have:=YX I F;rw[FU q0] at this;rw[this];exact c3
 ·rcases Q g with ⟨_,rfl⟩|⟨_,g⟩
  ·rw[O] at e;exact absurd e (by decide)
  ·obtain⟨⟨m,d,E,D,N⟩,W⟩:=M.rc g e;refine⟨?_,W⟩;rcases N with d4|⟨d5,c2,c3⟩
   ·obtain⟨d',A,u⟩:=C.kd.k4 D d4;refine⟨m,d',E,by rw[J];exact A,?_⟩;rcases u with u|u
    ·exact .inl u
    ·have G:=Ub D (by omega) A u;rw[E];exact .inr ⟨u,JI G,OM D d4 G⟩
   ·obtain⟨d',A,u⟩:=C.kd.k5 D d5;refine⟨m,d',E,by rw[J];exact A,.inr ⟨u,JH c2,?_⟩⟩;rw[E,YX D d5, <-E];exact c3
 ·rw[X_];rcases hm v with rfl|v
  ·rw[xT,xP,xa];omega
  ·have:=M.wt y v e;omega
 ·rcases Q g with ⟨_,rfl⟩|⟨_,g⟩
  ·rcases Q H with ⟨q, _⟩|⟨_,H⟩
   ·omega
   ·have:=M.wt z (aC H) u;rw[xa];omega
  ·rcases Q H with ⟨_,rfl⟩|⟨_,H⟩
   ·have:=M.wt y (aC g) A;rw[xa];omega
   ·exact M.wu g H sv A u
 ·rw[hb] at g;obtain⟨q,I,F⟩:=SH g;obtain⟨g1,T⟩:=M.aq I;have dn: ∀a∈q, ∃(z:Nat) (y:bY),z≠j/\s'.cs[z]? =some y/\y.ph=4/\a=(y.ak,Al y,Am y,()):=λa K=>by
   obtain⟨z,y,f1,f2,f3,f4⟩:=T a K;exact⟨z,y,f1,hw f2 f3,f3,f4⟩
  by_cases e:j=i
  ·rw[ay e] at F;rw[F];exact⟨g1,dn⟩
  ·rw[au e] at F;rw[F];refine⟨List.pairwise_append.2 ⟨g1,List.pairwise_singleton ..,λa K b hb=>?_⟩,λa K=>?_⟩
   ·have:=M.fI I K;rw[Dx.1 hb];show a.1<(s.op.length:Int)+1;omega
   ·rcases Fw.1 K with K|K
    ·exact dn a K
    ·refine⟨i,x',λc=>e c.symm,vG,O,?_⟩;rw[Dx.1 K,xa,xT,xP]
 ·rw[X_] at JY;rw[ho,hb,B3];by_cases e:id<s.op.length
  ·rw[SI (by show(s.op.length:Int)+1≠ _;omega),List.getElem?_append_left e, <-B3];exact M.oc id e
  ·have e:id=s.op.length:=by omega
   subst e;have acv:i<s.bx.length:=by rw[M.lb, <-M.lc];exact lT
   rw[List.getElem?_append_right (FR _),Nat.sub_self];have:=SJ (i:=i) (x:=(((s.op.length:Int)+1,t,p,()):AK)) acv λq hq=>by
    unfold jv;rw[Gi];intro a K c;obtain⟨j,V⟩:=CW hq;have:=M.fI V K;have c:a.1=(s.op.length:Int)+1:=by simpa using c
    omega
   show(s.bx.length:Int) - 1= _;rw[this];omega
end
section
variable {gh dq:Gh} {h h':HS} {v k a b c:Int}
theorem SK {g g':Nat->Option GV} (a: ∀i,(g' i).isSome=(g i).isSome) (v:Int):aU g' v=aU g v:=by unfold aU;rw[a]
theorem Nc (w:Int) (a:aU h.g w=true):aU (gP h).g w=true:=by
 unfold gP;split
 ·exact a
 split
 ·obtain⟨b,x,c⟩:=cm.1 a;refine cm.2 ⟨b,?_⟩;show∃x,bj h.g _ _ w.toNat=some x;unfold bj;split
  ·exact⟨_,rfl⟩
  ·exact⟨x,c⟩
 ·exact a
theorem wx (v:Int): ∀(n:Nat) (h:HS) (w:Int),aU (fK v n h).g w=aU h.g w
 |0, _, _=>rfl
 |n+1,h,w=>by
  show aU (fK v n (yl v h)).g w= _;rw[wx v n];unfold yl;exact sd ..
theorem SL {a w:Int} (e:w≠a) (b:aU h.g w=true):aU (s6 h a).g w=true:=by
 unfold s6;split
 ·rename_i la;split
  ·exact b
  ·rw[<-wx a (xR h a).length] at b;obtain⟨c,x,d⟩:=cm.1 b;obtain⟨hv, _⟩:=cm.1 la;refine cm.2 ⟨c,x,?_⟩;show bj (fK a (xR h a).length h).g a.toNat none w.toNat=some x;unfold bj;rw[au (by omega)];exact d
 ·exact b
theorem CE.run (d:HI dq (run h v k a b c).1) {P:Nat->Int->Prop} {f:Int} (E:uH h (run h v k a b c).1 P f) (G:uB gh dq h.s (run h v k a b c).1.s) (e:1<=k/\k<=17) (hc:uN k=false):CE gh dq h (run h v k a b c).1 P (λ_=>False):=
 ⟨d,E.kd,E.pg,λh1 _=>G.1 _ _ h1,λh1=>G.2 _ h1,λ{w} _ h1=>by rw[SK (V_ e hc)];exact h1⟩
theorem SN (d:k=6\/k=8\/(11<=k/\k<=16)):(run h v k a b c).1.s=h.s/\(run h v k a b c).1.g=h.g:=by
 have:k=6\/k=8\/k=11\/k=12\/k=13\/k=14\/k=15\/k=16:=by omega
 rcases this with rfl|rfl|rfl|rfl|rfl|rfl|rfl|rfl
 ·exact⟨rfl,rfl⟩
 ·show(iz h v a b c).s=h.s/\(iz h v a b c).g=h.g;unfold iz;split<;>exact⟨rfl,rfl⟩
 ·show(fO h v a).s=h.s/\(fO h v a).g=h.g;unfold fO;split<;>exact⟨rfl,rfl⟩
 ·show(lX h v a).s=h.s/\(lX h v a).g=h.g;unfold lX;split<;>exact⟨rfl,rfl⟩
 ·show(lY h v a b).s=h.s/\(lY h v a b).g=h.g;unfold lY;split
  ·exact⟨rfl,rfl⟩
  split<;>exact⟨rfl,rfl⟩
 ·show(lW h v a).s=h.s/\(lW h v a).g=h.g;unfold lW;split<;>exact⟨rfl,rfl⟩
 ·exact⟨rfl,rfl⟩
 ·show(iW h v a).s=h.s/\(iW h v a).g=h.g;unfold iW;split<;>exact⟨rfl,rfl⟩
theorem EJ (d:qD h v k a b c=0) (e:iT h v k a b c=0):(run h v k a b c).2.2=0:=by unfold qD at d;rw[ay e] at d;exact d
theorem HV (H:HI gh h) (z:0<=a) (A: ¬ (v=0/\k=17/\a=0/\b=0/\c=0)) (B:k=7-> ¬ (aU h.g v=true/\iy k a b c=true/\a<1048576)) (C:qD h v k a b c≠0\/ ¬ (k=2\/k=4\/k=5\/k=10)):
 ∃dq P,CE gh dq h (kf h v k a b c) P (λ_=>False)/\NN h.s (kf h v k a b c).s/\ ∀{j:Nat} {q:Int},P j q->0<=q->q<65536->(jJ h j q).2.2.1≠0:=by
 obtain⟨g1,D⟩:=H.step v k b c z;have same:(kf h v k a b c).s=h.s->(kf h v k a b c).g=h.g-> ∃dq P,CE gh dq h (kf h v k a b c) P (λ_=>False)/\NN h.s (kf h v k a b c).s/\ ∀{j:Nat} {q:Int},P j q->0<=q->q<65536->(jJ h j q).2.2.1≠0:=λl m=>
  ⟨gh, _,CE.same H D l m,.refl (by rw[l]),λc=>c.elim⟩
 by_cases r:qD h v k a b c=0
 case neg=>
  obtain⟨e, _⟩:=H.fail r;exact same e.1 e.2
 have L:=C.resolve_left λc=>c r;by_cases i:iT h v k a b c=0
 case neg=>
  have e:kf h v k a b c=h:=au i;rw[e] at same ⊢;exact same rfl rfl
 have d:=EJ r i;obtain⟨x,t,p⟩:=Co i;have e:kf h v k a b c=(run h v k a b c).1:=ay i;by_cases F:k=6\/k=8\/(11<=k/\k<=16)
 ·obtain⟨l,m⟩:=SN (h:=h) (v:=v) (a:=a) (b:=b) (c:=c) F;exact same (by rw[e];exact l) (by rw[e];exact m)
 rw[e];have:k=1\/k=3\/k=7\/k=9\/k=17:=by omega
 rcases this with rfl|rfl|rfl|rfl|rfl
 ·obtain⟨g',n,E,G⟩:=H.Gu;exact⟨g', _,⟨n,E.kd,E.pg,λh1 _=>G.1 _ _ h1,λh1=>G.2 _ h1,λ{w} _ h1=>Nc w h1⟩,NN.DC h,λ{j q} c I J=>absurd ⟨I,J⟩ c⟩
 ·have d:qz h v a b=0:=by
   have d:(xW h v a b).2=0:=d;unfold xW at d;split at d
   ·assumption
   ·exact d
  obtain⟨g',f,n,O, _,G⟩:=H.PB (t rfl) (a:=a) (b:=b) d;refine⟨g', _,CE.run (k:=3) n O.ef G x rfl,NN.don ..,λ{j q} o _ _=>?_⟩;rw[o.1,o.2,O.WW];decide
 ·exfalso;refine B rfl ⟨t rfl,p,?_⟩;refine B5 λo=>?_;have d:rO h v a=0:=d;unfold rO iS at d;rw[ay (show a>=1048576 by omega),ay (show((0:Int),(2:Int)).2≠0 by decide)] at d;exact absurd d (show ¬ (2:Int)=0 by decide)
 ·obtain⟨l,g',n,E,K, _,G⟩:=H.PG (t rfl) (a:=a) (b:=b) (c:=c) d;have m:(run h v 9 a b c).1=ia h v a b c:=l;rw[<-m] at n E G;refine⟨g', _,CE.run (k:=9) n E G x rfl,by rw[m];exact NN.tak ..,λ{j q} o _ _=>?_⟩;rw[o.1,o.2,K];decide
 ·exfalso;have hv:v=0:=by
   unfold iT at i;split at i
   ·exact absurd i (by decide)
   split at i
   ·exact absurd i (by decide)
   rename_i y;by_cases e:v=0
   ·exact e
   ·have:(v==0)=false:=by simpa using e
    rw[this] at y;exact absurd rfl y
  have u:a=0/\b=0/\c=0:=by
   unfold iy at p;simp[jO] at p;exact p
  exact A ⟨hv,rfl,u.1,u.2.1,u.2.2⟩
theorem Nd (H:HI gh h) (J:0<=a) (n:qD h v k a b c=0) (A:k=2\/k=4\/k=5\/k=10):
 ∃dq,CE gh dq h (kf h v k a b c) (λj q=>if k=2 then j=a.toNat else j=v.toNat/\q=a) (λw=>k=2/\w=a)/\(k=2->(1<=a/\a<=16)/\v=0)/\(k≠2->(1<=v/\v<=16)/\a<65536):=by
 have l:iT h v k a b c=0:=by
  refine B5 λl=>?_;unfold qD at n;rw[au l] at n;exact l n
 have d:=EJ n l;obtain⟨B,o,K⟩:=Co l;have e:kf h v k a b c=(run h v k a b c).1:=ay l;rw[e];have fin: ∀{dq:Gh} {f:Int},k≠2->uN k=false->a<65536->HI dq (run h v k a b c).1->uH h (run h v k a b c).1 (λi q=>i=v.toNat/\q=a) f->uB gh dq h.s (run h v k a b c).1.s-> ∃dq,CE gh dq h (run h v k a b c).1 (λj q=>if k=2 then j=a.toNat else j=v.toNat/\q=a) (λw=>k=2/\w=a)/\(k=2->(1<=a/\a<=16)/\v=0)/\(k≠2->(1<=v/\v<=16)/\a<65536):=λ{dq f} y hc D m E G=>by
  obtain⟨_, _, _, _,p,r⟩:=b_ (o hc);have C:=CE.run m E G B hc;refine⟨dq,⟨C.hi,C.kd,⟨λ{i q} t=>C.pg.to λu=>t ?_⟩,λh1 _=>C.gk h1 id,C.gn,λ_ h1=>C.lv id h1⟩,λc=>absurd c y,λ_=>⟨⟨p,r⟩,D⟩⟩;show if k=2 then _ else _;rw[au y];exact u
 rcases A with rfl|rfl|rfl|rfl
 ·obtain⟨g',m,E,F,I⟩:=H.JC a;have la:aU h.g a=true:=by
   have d:F1 h a=0:=d;unfold F1 at d;split at d
   ·assumption
   ·exact absurd d (by decide)
  obtain⟨_, _, _, _,p,r⟩:=b_ la;refine⟨g',⟨m,E.kd,⟨λ{i q} t=>E.pg.to λu=>t ?_⟩,λ{f w} h1 x=>F f w h1 λc=>x ⟨rfl,c⟩,λh1=>I _ h1,λ{w} h1 x=>SL (λc=>h1 ⟨rfl,c⟩) x⟩,λ_=>⟨⟨p,r⟩,?_⟩,λc=>absurd rfl c⟩
  ·show if(2:Int)=2 then _ else _;rw[ay rfl];exact u
  ·unfold iT at l;split at l
   ·exact absurd l (by decide)
   split at l
   ·exact absurd l (by decide)
   rename_i z;by_cases e:v=0
   ·exact e
   ·have:(v==0)=false:=by simpa using e
    rw[this] at z;exact absurd rfl z
 ·have d:wZ h v a=0:=by
   have d:(BZ h v a).2=0:=d;unfold BZ at d;split at d
   ·assumption
   ·exact d
  obtain⟨g',f,m,O,G⟩:=H.PD (o rfl) d;refine fin (by decide) rfl ?_ m O.ef G;unfold wZ at d;split at d
  ·exact absurd d (by decide)
  ·omega
 ·have d:oW h v a b=0:=d;obtain⟨g',m,E, _, _, _,G⟩:=H.Jt (o rfl) d;refine fin (by decide) rfl ?_ m E G;unfold oW at d;split at d
  ·exact absurd d (by decide)
  ·omega
 ·have d:oX h v a=0:=d;obtain⟨g',m,E, _,G⟩:=H.Jz (o rfl) d;refine fin (by decide) rfl ?_ m E G;unfold oX at d;split at d
  ·exact absurd d (by decide)
  ·omega
end
end Go.Proofs.YtlcenllcmeebhaaGreat
