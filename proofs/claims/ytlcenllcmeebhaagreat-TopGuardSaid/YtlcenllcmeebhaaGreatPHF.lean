import Derived.Test.YtlcenllcmeebhaaGreatPHE
/-! What the statement leans on: texts joined and shortened by a program of mine. -/
set_option linter.unusedVariables false
set_option linter.unusedSimpArgs false
open Go renaming World->A2,Addr->Ab,Value->BK,MapEntry->Da
open Go.Proofs.Tryz renaming prog->AC
open List renaming getElem?_set_ne->Ad,getElem?_eq_some_iff->Ae,getElem?_set_self->Av,length_set->B1,getD_eq_getElem?_getD->B2,mem_map->B3,mem_filter->B5,mem_of_getElem?->BJ,getElem?_eq_getElem->BL,range->BO,getElem?_of_mem->Bp,nodup_cons->Bs,mem_cons_self->Bv,mem_cons->Bx,replicate->Bz,map_cons->C7,mem_cons_of_mem->CH,filter_sublist->CN,mem_append_left->CO,length_map->CV,mem_append_right->CX,mem_singleton->Cb,countP_pos_iff->Db,mem_range->Dc,countP_cons->De,sum_cons->Dv,getElem?_map->E4,ext_getElem?->E5,length_cons->E6,length_replicate->E9,mem_append->EO,countP_map->EU,map_append->F0,sum_append->FF,filter_cons->FS,filter_eq_self->Ff,nodup_range->Fs,any_eq_true->Fu,eq_of_mem_replicate->Fv,getElem?_set->Fw,any_eq_false->Fx,length_append->G1,zipIdx_cons->GS,pairwise_map->Ga,getElem?_zipIdx->Gd
open Classical renaming byContradiction->B4
open Int.ofNat renaming inj->BN
open Nat renaming eq_zero_or_pos->C6,le_refl->Dl,zero_le->EW,lt_succ_self->Gi
open Go.IntKind renaming i64->CP
open Go.Value renaming nilFunc->DA
open Bool renaming and_eq_true->DB
open BitVec renaming ofInt->Dn
open Int renaming toNat_of_nonneg->Do,toNat->EY
namespace Go.Proofs.YtlcenllcmeebhaaGreat.Mu
set_option maxRecDepth 100000
open Go.RX
abbrev sCl:List Sc:=[.int .i64,.int .u64,.int .u64,.int .u64]
abbrev sMk:List Sc:=[.int .i64,.int .i64,.int .i64,.int .i64,.int .u64,.int .u64,.int .u64,.int .u64,.int .i64]
noncomputable def U2:dj AC:={V0 with quiet:=[64,160,199,152,154,201,161,82,24]++V0.quiet}
noncomputable def U3:dj AC:={U2 with ZF:=some (.bu [.agg iI,.one .bool])}
theorem RA (p:Option Ab) (w:A2) (a:Int->A2->Prop):(aN U2 (λ_=>[]) 160 [ag p] w a)=(
 p.isSome=true/\p.isSome=true/\(ad p 4).isSome=true/\cB w (ad (ad p 4) 1) λx=>ao w (a (aw .i64 (wD .u64 x 16)))):=by kernel_rfl
theorem RB (p:Option Ab) (w:A2) (e:Int->A2->Prop):(aN U2 (λ_=>[]) 199 [ag p] w e)=(
 ∀w1,Ext w w1-> ∀c,Ext (w1.alloc (Obj.map ⟨[]⟩ 0)) c-> ∃(r:Nat), ∃(es:Array Da), ∃(a:Nat),some w1.heap.size=some r/\bE c r es a/\gS c r .i64 6 (aa 1) es a λb=> ∀d,Ext b d-> ∃(r:Nat), ∃(es:Array Da), ∃(a:Nat),some w1.heap.size=some r/\bE d r es a/\gS d r .i64 7 (aa 2) es a λb=>p.isSome=true/\p.isSome=true/\(ad p 4).isSome=true/\aU b (ad (ad p 4) 0) λx=> ∃(f:Int),jP b (some w1.heap.size) .i64 x (aa 0) (aa f)/\ao b (e
 f)):=by kernel_rfl
theorem Zq (p:Option Ab) (n:Int) (w:A2) (a:Option Ab->A2->Prop):(aN U2 (λ_=>[]) 64 [ag p,aa n] w a)=(
 ((!(p.isNone||decide (n<0)))=true->p.isSome=true)/\((!(p.isNone||decide (n<0)))=true->p.isSome=true)/\aj w (some !(p.isNone||decide (n<0))) (ad p 3) iu λx=>aL (p.isNone||decide (n<0)||decide (n>=(↑x.2.1:Int))) (ao w (a none)) (fC p 3 w λx=>(x.1.isSome=true/\0<=n/\n<(↑x.2.1:Int))/\fR w (ad x.1 (n.toNat*1)) λx=>ao w (a x))):=by kernel_rfl
theorem Vu (p:Option Ab) (n v k a b c:Int) (w:A2) (f:Int->A2->Prop):(aN U2 (λ_=>[]) 29 [ag p,aa n,aa v,.agg ⟨[aa k,ay a,ay b,ay c]⟩] w f)=(
 aK w ⟨[aa k,ay a,ay b,ay c]⟩ 31 λb d=> ∃(x:Option Ab),ah AC 64 [ag p,aa n] d (ag x)/\((!p.isNone)=true->p.isSome=true)/\((!p.isNone)=true->p.isSome=true)/\aj d (some !p.isNone) (ad p 0) kQ λg=>aL (p.isNone||g.isNone) (ao d (f 10)) (aL x.isNone (ao d (f 2)) (cv x 2 d λh=>aL (h != 0) (ao d (f 9)) (aj d none (ae b) wG λ(e:Int×Int×Int×Int×Unit)=>x.isSome=true/\x.isSome=true/\aC d (ad x 2) [aa 1] λd=>cP d (ae b) wG
 e/\x.isSome=true/\x.isSome=true/\aC d (ad x 3) [aa v] λd=>cP d (ae b) wG e/\x.isSome=true/\x.isSome=true/\aC d (ad x 4) [aa e.1,ay e.2.1,ay e.2.2.1,ay e.2.2.2.1] λd=>ao d (f 0))))):=by kernel_rfl
theorem RC (p:Option Ab) (f g h k a b c i j:Int) (w:A2) (l:Unit->A2->Prop):(aN U2 (λ_=>[]) 155 [ag p,.agg ⟨[aa f,aa g,aa h,aa k,ay a,ay b,ay c,ay i,aa j]⟩] w l)=(
 aK w ⟨[aa f,aa g,aa h,aa k,ay a,ay b,ay c,ay i,aa j]⟩ 86 λb d=>fC p 5 d λx=>aj d none (ae b) abO λ(e:Int×Int×Int×Int×Int×Int×Int×Int×Int×Unit)=>aK d {toList:=[aa e.1,aa e.2.1,aa e.2.2.1,aa e.2.2.2.1,ay e.2.2.2.2.1,ay e.2.2.2.2.2.1,ay e.2.2.2.2.2.2.1,ay e.2.2.2.2.2.2.2.1,aa e.2.2.2.2.2.2.2.2.1]} 86 λb d=> ∀w1,Ext d w1->m7 w1 86 9 72 ⟨[aa 0,aa 0,.int .i64
 0,aa 0,ay 0,ay 0,ay 0,ay 0,aa 0]⟩ (x.1,x.2.1,x.2.2) (some ⟨b,0,none⟩,1,1) λ(r:Option Ab×Nat×Nat) d=>p.isSome=true/\p.isSome=true/\aC d (ad p 5) [.slice r.1 r.2.1 r.2.2] λd=>ao d (l ())):=by kernel_rfl
abbrev pF (b:(Int×Int×Unit)×Bool×Unit->A2->Prop) (c:A2) (a:Nat):Prop:=
 aC c (ae a) [ay 0,aa 0] λd=>ao d λw1=>aj w1 none (ae a) cK λ(x:Int×Int×Unit)=>b ((x.1,x.2.1,()),false,()) w1
abbrev vZ (a:Int):Prop:=
 0<=a/\a<(↑5:Int)
abbrev v7 (n:Int) (e:(Int×Int×Unit)×Bool×Unit->A2->Prop) (g:A2) (f:Nat) (b:(Int×Int×Unit)×Bool×Unit) (c:Nat) (d:Option Ab):Prop:=
 aC g (ae f) [ay b.1.1,aa b.1.2.1] λa=>aL (!b.2.1) (pF e a c) (bN d 1 a λx=>d.isSome=true/\aC a d [aa n,ag x,aa 0,aa 0,aa 0,ay 0,ay 0,ay 0,ag none,aa 0,ay 0,aa 0,aa 0,.slice none 0 0] λa=>aj a none (ae f) cK λ(x:Int×Int×Unit)=>aC a (ae c) [ay x.1,aa x.2.1] λa=>ao a λw1=>aj w1 none (ae c) cK λ(x:Int×Int×Unit)=>e ((x.1,x.2.1,()),true,()) w1)
abbrev v8 (n:Int) (c:(Int×Int×Unit)×Bool×Unit->A2->Prop) (a:BK×BK×BK×BK×BK×Unit) (d:Int) (b:Option Ab) (e:A2) (f:Nat) (g:Nat):Prop:=
 wR AC (match [a.1,a.2.1,a.2.2.1,a.2.2.2.1,a.2.2.2.2.1].get?Internal d.toNat with|some x=>x|none=> .tuple ⟨[]⟩) (.bu [.agg [.int .u64,.int .i64],.one .bool]) [ag b] e λ(x:(Int×Int×Unit)×Bool×Unit) h=>v7 n c h f x g b
abbrev v9 (p:Option Ab) (n:Int) (e:(Int×Int×Unit)×Bool×Unit->A2->Prop) (d:Option Ab) (f:A2) (g:Nat):Prop:=
 cv d 2 f λx=>(aD AC 68 (.el (.agg [.func,.func,.func,.func,.func])) [ag p] f λc a=>cP a (ad d 2) aV x/\True/\True/\vZ x/\(wR AC (match [c.1,c.2.1,c.2.2.1,c.2.2.2.1,c.2.2.2.2.1].get?Internal x.toNat with|some x=>x|none=> .tuple ⟨[]⟩) (.bu [.agg [.int .u64,.int .i64],.one .bool]) [ag d] a λ(x:(Int×Int×Unit)×Bool×Unit) a=>aK a ⟨[ay 0,aa 0]⟩ 61 λb a=>v7 n e a b
 x g d)/\aK a ⟨[ay 0,aa 0]⟩ 61 λb a=>v8 n e c x d a b g)/\aK f ⟨[ay 0,aa 0]⟩ 61 λb a=>aD AC 68 (.el (.agg [.func,.func,.func,.func,.func])) [ag p] a λc a=>cP a (ad d 2) aV x/\True/\True/\vZ x/\v8 n e c x d a b g
theorem RD (p:Option Ab) (n:Int) (w:A2) (c:(Int×Int×Unit)×Bool×Unit->A2->Prop):(bQ U3 (λ_=>[]) 31 [ag p,aa n] w c)=(
 aK w ⟨[ay 0,aa 0]⟩ 61 λb a=> ∃(x:Option Ab),ah AC 64 [ag p,aa n] a (ag x)/\aL x.isNone (pF c a b) (cv x 2 a λf=>aL (f != 3) (bN p 2 a λg=>aD AC 66 (.bu [.agg [.int .i64,.int .i64,.int .i64],.one .bool]) [ag g,aa n] a λ(d:(Int×Int×Int×Unit)×Bool×Unit) a=>aK a ⟨[aa 0,aa 0,aa 0]⟩ 147 λe a=>aC a (ae e) [aa d.1.1,aa d.1.2.1,aa d.1.2.2.1] λa=>aL d.2.1 (true=true/\aU a (ad
 (ae e) 1) λh=>true=true/\aU a (ad (ae e) 2) λi=>aD AC 67 (.bu []) [ag x,aa h,aa i] a λx a=>pF c a b) (v9 p n c x a b)) (v9 p n c x a b))):=by kernel_rfl
theorem G9 (p:Option Ab) (w:A2) (c:BK×BK×BK×BK×BK×Unit->A2->Prop):(bQ U2 (λ_=>[]) 68 [ag p] w c)=(
 aK w ⟨[DA,DA,DA,DA,DA]⟩ 154 λb a=>aC a (ae b) [.func (.func 109) ⟨[ag p]⟩ ⟨[]⟩,.func (.func 110) ⟨[ag p]⟩ ⟨[]⟩,.func (.func 111) ⟨[ag p]⟩ ⟨[]⟩,.func (.func 112) ⟨[ag p]⟩ ⟨[]⟩,.func (.func 113) ⟨[ag p]⟩ ⟨[]⟩] λa=>ao a λw1=>aj w1 none (ae b) (.agg [.func,.func,.func,.func,.func]) λx=>c (x.1,x.2.1,x.2.2.1,x.2.2.2.1,x.2.2.2.2.1,()) w1):=by kernel_rfl
theorem G_ (p:Option Ab) (t g:Int) (w:A2) (a:Unit->A2->Prop):(aN U2 (λ_=>[]) 67 [ag p,aa t,aa g] w a)=(
 aL (g== -1) (bN p 1 w λx=>aD AC 107 (.el aV) [ag x,aa t] w λ(x:Int) b=>ao b (a ())) (bN p 1 w λx=>aD AC 108 (.el oI) [ag x,aa t,aa g] w λx b=>ao b (a ()))):=by kernel_rfl
def tU:Nat->aZ:=(λ|4=>[(18,Go.RX.El.one (Go.RX.Sc.int CP))]| _=>[])
theorem RE (p:Option Ab) (w:A2) (b:Int->A2->Prop):(aN U2 tU 151 [ag p] w b)=(
 bN p 1 w λx=>aD AC 197 (.el oI) [ag x] w λx a=>bN p 1 a λx=>aD AC 198 (.el iu) [ag x] a λx a=> ∃(I:Nat->Int×Unit->A2->Prop),(∃n, ∀w1,Ext a w1->I n (0,()) w1)/\ ∀(n:Nat) (s:Int×Unit) (w1:A2),I n s w1->aL (decide (s.1<(↑x.2.1:Int))) ((x.1.isSome=true/\0<=s.1/\s.1<(↑x.2.1:Int))/\aU w1 (ad x.1 (EY s.1*1)) λx=>bN p 0 w1 λf=>aD AC 43 (.el aV) [ag f,aa x] w1 λ(h:Int) a=>uv p 4 a λg=> ∀w1,Ext a w1-> ∃(r:Nat), ∃
 (es:Array Da), ∃(c:Nat),g=some r/\bE w1 r es c/\zS w1 r .i64 x es c λa=>aD AC 155 (.bu []) [ag p,.agg {toList:=[aa 2,aa 0,aa x,aa 0,ay 0,ay 0,ay 0,ay 0,aa 0]}] a λx a=> ∀d,Ext a d-> ∃(e:Nat),e<n/\I e (aB .i64 s.1 1,()) d) (ao w1 (b (↑x.2.1:Int)))):=by kernel_rfl
theorem RF (p x:Option Ab) (w:A2) (c:(Int×Int×Unit)×Bool×Unit->A2->Prop):(bQ U2 (λ_=>[]) 109 [ag p,ag x] w c)=(
 aK w ⟨[ay 0,aa 0]⟩ 61 λb a=>aD AC 151 (.el aV) [ag p] a λ(x:Int) a=>aC a (ae b) [ay 0,aa 0] λa=>ao a λw1=>aj w1 none (ae b) cK λ(x:Int×Int×Unit)=>c ((x.1,x.2.1,()),false,()) w1):=by kernel_rfl
theorem L4 (p x:Option Ab) (w:A2) (e:(Int×Int×Unit)×Bool×Unit->A2->Prop):(bQ U2 (λ_=>[]) 112 [ag p,ag x] w e)=(
 aK w ⟨[ay 0,aa 0]⟩ 61 λb a=>cv x 9 a λc=>x.isSome=true/\x.isSome=true/\(ad x 4).isSome=true/\cB a (ad (ad x 4) 1) λd=>bN p 1 a λh=>cv x 0 a λi=>aD AC 158 (.el aV) [ag h,aa i] a λ(l:Int) a=>x.isSome=true/\x.isSome=true/\(ad x 4).isSome=true/\aU a (ad (ad x 4) 0) λj=>aL (j==7) (bN p 0 a λf=>x.isSome=true/\x.isSome=true/\(ad x 4).isSome=true/\cB a (ad (ad x 4) 2) λg=>aD AC 23 (.el kQ) [ag f] a λ
 k a=>cP a (ad (ad x 4) 2) ou g/\True/\True/\True/\aD AC 38 (.el aV) [ag k,aa (aB .i64 (ir .i64 16 c) (aw .i64 (bH d 16))),ay g] a λ(m:Int) a=>x.isSome=true/\x.isSome=true/\(ad x 4).isSome=true/\cB a (ad (ad x 4) 2) λx=>aD AC 155 (.bu []) [ag p,.agg {toList:=[aa 4,aa 0,aa (aB .i64 (ir .i64 16 c) (aw .i64 (bH d 16))),aa 0,ay 0,ay 0,ay 0,ay x,aa 0]}] a λx a=>aC a (ae b) [.int .u64
 0,aa 0] λa=>ao a λw1=>aj w1 none (ae b) cK λ(x:Int×Int×Unit)=>e ((x.1,x.2.1,()),true,()) w1) (bN p 0 a λx=>aD AC 23 (.el kQ) [ag x] a λx a=>aD AC 37 (.bu [.one (.int .u64),.one (.int .i64)]) [ag x,aa (aB .i64 (ir .i64 16 c) (aw .i64 (bH d 16)))] a λ(x:Int×Int×Unit) a=>aD AC 155 (.bu []) [ag p,.agg {toList:=[aa 3,aa 0,aa (aB .i64 (ir .i64 16 c) (aw .i64 (bH d 16))),aa 0,ay 0,ay 0,
 ay 0,ay x.1,aa 0]}] a λf a=>aC a (ae b) [ay x.1,aa 0] λa=>ao a λw1=>aj w1 none (ae b) cK λ(x:Int×Int×Unit)=>e ((x.1,x.2.1,()),true,()) w1)):=by kernel_rfl
theorem RG (p x:Option Ab) (w:A2) (e:(Int×Int×Unit)×Bool×Unit->A2->Prop):(bQ U2 (λ_=>[]) 111 [ag p,ag x] w e)=(
 aK w ⟨[ay 0,aa 0]⟩ 61 λb a=>bN x 8 a λg=>bN p 0 a λj=>aD AC 23 (.el kQ) [ag j] a λk a=>cP a (ad x 8) kQ g/\True/\True/\aD AC 22 (.el oI) [ag g,ag k] a λl a=>aL (!l) (aC a (ae b) [ay 0,aa 0] λa=>ao a λw1=>aj w1 none (ae b) cK λ(x:Int×Int×Unit)=>e ((x.1,x.2.1,()),false,()) w1) (bN x 8 a λm=> ∃(c:(Int×Int×Int×Int×Unit)×Bool×Unit),ah AC 24 [ag m] a (.tuple {toList
 :=[.agg ⟨[aa c.1.1,aa c.1.2.1,aa c.1.2.2.1,aa c.1.2.2.2.1]⟩,.bool c.2.1]})/\aK a ⟨[aa 0,aa 0,aa 0,aa 0]⟩ 48 λd a=>aC a (ae d) [aa c.1.1,aa c.1.2.1,aa c.1.2.2.1,aa c.1.2.2.2.1] λa=>true=true/\aU a (ad (ae d) 3) λn=>aL (n != 0) (bN p 1 a λf=>cv x 0 a λx=>aD AC 158 (.el aV) [ag f,aa x] a λ(x:Int) a=>true=true/\aU a (ad (ae d) 3) λx=>aC a (ae b) [ay 0,aa x]
 λa=>ao a λw1=>aj w1 none (ae b) cK λ(x:Int×Int×Unit)=>e ((x.1,x.2.1,()),true,()) w1) (bN x 1 a λf=>cv x 3 a λo=> ∃(h:Int),ah AC 160 [ag x] a (aa h)/\true=true/\aU a (ad (ae d) 0) λq=>true=true/\aU a (ad (ae d) 1) λr=>aD AC 159 (.el aV) [ag f,.agg ⟨[aa o,aa h,aa q,aa r]⟩] a λ(s:Int) a=>true=true/\aU a (ad (ae d) 0) λi=>x.isSome=true/\x.isSome=true/\aC a
 (ad x 2) [aa 3] λa=>cP a (ad (ae d) 0) aV i/\True/\x.isSome=true/\x.isSome=true/\aC a (ad x 9) [aa i] λa=>aC a (ae b) [ay 0,aa 0] λa=>ao a λw1=>aj w1 none (ae b) cK λ(x:Int×Int×Unit)=>e ((x.1,x.2.1,()),false,()) w1))):=by kernel_rfl
def tV:Nat->aZ:=(λ|4=>[(24,Go.RX.El.one (Go.RX.Sc.int CP))]| _=>[])
theorem RH (p x:Option Ab) (w:A2) (d:(Int×Int×Unit)×Bool×Unit->A2->Prop):(bQ U2 tV 113 [ag p,ag x] w d)=(
 aK w ⟨[ay 0,aa 0]⟩ 61 λb a=>bN p 2 a λh=>cv x 12 a λi=> ∃e,ah AC 161 [ag h,aa i] a (.bool e)/\aL (!e) (aC a (ae b) [ay 0,aa 0] λa=>ao a λw1=>aj w1 none (ae b) cK λ(x:Int×Int×Unit)=>d ((x.1,x.2.1,()),false,()) w1) (fC x 13 a λc=> ∃(I:Nat->Int×Unit->A2->Prop),(∃n, ∀w1,Ext a w1->I n (0,()) w1)/\ ∀(n:Nat) (s:Int×Unit) (w1:A2),I n s w1->aL (decide (s.1<(↑c.2.1:Int))) ((c.1.isSome=true/\0<=s.1
 /\s.1<(↑c.2.1:Int))/\aU w1 (ad c.1 (EY s.1*1)) λx=>bN p 1 w1 λj=>aD AC 162 (.el aV) [ag j,aa x] w1 λ(x:Int) a=> ∀f,Ext a f-> ∃(g:Nat),g<n/\I g (aB .i64 s.1 1,()) f) (x.isSome=true/\x.isSome=true/\aj w1 none (ad x 10) cK λ(x:Int×Int×Unit)=>aC w1 (ae b) [ay x.1,aa x.2.1] λa=>ao a λw1=>aj w1 none (ae b) cK λ(x:Int×Int×Unit)=>d ((x.1,x.2.1,()),true,()) w1))):=by kernel_rfl
theorem Ha (p x:Option Ab) (w:A2) (e:Bool->A2->Prop):(aN U2 (λ_=>[]) 152 [ag p,ag x] w e)=(
 ∃(a:Int),ah AC 199 [ag x] w (aa a)/\(decide (a>0)=true->p.isSome=true)/\(decide (a>0)=true->p.isSome=true)/\aj w (some (decide (a>0))) (ad p 0) kQ λf=>(decide (a>0)=true->x.isSome=true)/\(decide (a>0)=true->x.isSome=true)/\aj w (some (decide (a>0))) (ad x 3) aV λ(g:Int)=> ∃b,(decide (a>0)=true->ah AC 19 [ag f,aa g] w (.bool b))/\((decide (a>0)&&b)=true->x.isSome=true)/\((decide (a>0)&&b)=true->x.isSome=true)/\aj w
 (some (decide (a>0)&&b)) (ad x 4) wG λ(d:Int×Int×Int×Int×Unit)=> ∃c,((decide (a>0)&&b)=true->ah AC 76 [.agg ⟨[aa d.1,ay d.2.1,ay d.2.2.1,ay d.2.2.2.1]⟩] w (.bool c))/\((decide (a>0)&&b&&c)=true->x.isSome=true)/\((decide (a>0)&&b&&c)=true->x.isSome=true)/\((decide (a>0)&&b&&c)=true->(ad x 4).isSome=true)/\aj w (some (decide (a>0)&&b&&c)) (ad (ad x 4) 1) ou λ(x:Int)=>ao w (e (decide (a>0)&&b&&c&&decide
 (x<1048576)))):=by kernel_rfl
def oh:Nat->aZ:=(λ|2=>[(12,Go.RX.El.one (Go.RX.Sc.int CP))]| _=>[])
theorem EJ (p x:Option Ab) (w:A2) (i:Bool->A2->Prop):(aN U2 oh 154 [ag p,ag x] w i)=(
 fC p 3 w λj=> ∃(I:Nat->Int×Unit->A2->Prop),(∃n, ∀w1,Ext w w1->I n (0,()) w1)/\ ∀(n:Nat) (s:Int×Unit) (w1:A2),I n s w1->aL (decide (s.1<(↑j.2.1:Int))) ((j.1.isSome=true/\0<=s.1/\s.1<(↑j.2.1:Int))/\fR w1 (ad j.1 (EY s.1*1)) λa=>W6 w1 a x/\((!decide (a=x))=true->x.isSome=true)/\((!decide (a=x))=true->x.isSome=true)/\aj w1 (some !decide (a=x)) (ad x 3) aV λ(k:Int)=>aL (decide (a=x)||k != 0) (∀f,Ext w1 f-> ∃(g:Nat),g<n/\I g (aB .i64 s.1 1,
 ()) f) (x.isSome=true/\x.isSome=true/\(ad x 4).isSome=true/\aU w1 (ad (ad x 4) 0) λd=>((d==1)=true->a.isSome=true)/\((d==1)=true->a.isSome=true)/\aj w1 (some (d==1)) (ad a 2) aV λ(h:Int)=>((d==1&&h==4)=true->a.isSome=true)/\((d==1&&h==4)=true->a.isSome=true)/\((d==1&&h==4)=true->(ad a 4).isSome=true)/\aj w1 (some (d==1&&h==4)) (ad (ad a 4) 0) aV λ(l:Int)=>aL (d==1&&h==4&&l==2) (ao w1 (i true)) (x.isSome=true/\
 x.isSome=true/\(ad x 4).isSome=true/\aU w1 (ad (ad x 4) 0) λb=>((b==2)=true->a.isSome=true)/\((b==2)=true->a.isSome=true)/\aj w1 (some (b==2)) (ad a 2) aV λ(c:Int)=>((b==2&&decide (c>=2))=true->a.isSome=true)/\((b==2&&decide (c>=2))=true->a.isSome=true)/\aj w1 (some (b==2&&decide (c>=2))) (ad a 3) aV λ(e:Int)=>((b==2&&decide (c>=2)&&decide (e>0))=true->a.isSome=true)/\((b==2&&decide (c>=2)&&decide (e>0))=true->a.isSome=true)/\
 aj w1 (some (b==2&&decide (c>=2)&&decide (e>0))) (ad a 3) aV λ(m:Int)=>((b==2&&decide (c>=2)&&decide (e>0))=true->x.isSome=true)/\((b==2&&decide (c>=2)&&decide (e>0))=true->x.isSome=true)/\((b==2&&decide (c>=2)&&decide (e>0))=true->(ad x 4).isSome=true)/\aj w1 (some (b==2&&decide (c>=2)&&decide (e>0))) (ad (ad x 4) 1) ou λ(x:Int)=>aL (b==2&&decide (c>=2)&&decide (e>0)&&aw .u64 m==x) (ao w1 (i true)) (∀f,Ext w1 f-> ∃(g:Nat),g<n/\
 I g (aB .i64 s.1 1,()) f)))) (ao w1 (i false))):=by kernel_rfl
def om:Nat->aZ:=(λ|4=>[(4,Go.RX.El.one Go.RX.Sc.slice),(15,Go.RX.El.one (Go.RX.Sc.int CP))]| _=>[])
theorem EK (p:Option Ab) (w:A2) (f:Option Ab×Nat×Nat->A2->Prop):(aN U2 om 156 [ag p] w f)=(
 bN p 0 w λx=>aD AC 18 (.el kQ) [ag x] w λx a=> ∃(g:Int),ah AC 62 [ag x] a (aa g)/\ ∃(I:Nat->(Option Ab×Nat×Nat)×Int×Unit->A2->Prop),(∃n, ∀w1,Ext a w1->I n ((none,0,0),0,()) w1)/\ ∀(n:Nat) (s:(Option Ab×Nat×Nat)×Int×Unit) (w1:A2),I n s w1->aL (decide (s.2.1<g)) (∃(c:(Int×Int×Int×Int×Unit)×Bool×Unit),ah AC 25 [ag x,aa s.2.1] w1 (.tuple {toList:=[.agg ⟨[aa c.1.1,aa c.1.2.1,aa c.1.2.2.1,.int .i64
 c.1.2.2.2.1]⟩,.bool c.2.1]})/\aK w1 ⟨[aa 0,aa 0,aa 0,aa 0]⟩ 52 λb a=>aC a (ae b) [aa c.1.1,aa c.1.2.1,aa c.1.2.2.1,aa c.1.2.2.2.1] λa=>true=true/\aU a (ad (ae b) 0) λx=>((x==5)=true->p.isSome=true)/\((x==5)=true->p.isSome=true)/\aj a (some (x==5)) (ad p 4) Ns λj=> ∃h,((x==5)=true->jP a j .i64 s.2.1 (.bool false) (.bool h))/\aL (x==5&& !h) (uv p 4 a λx=> ∀w1,Ext a w1-> ∃(r:Nat), ∃(es:Array Da), ∃(i:Nat),x
 =some r/\bE w1 r es i/\gS w1 r .i64 s.2.1 (.bool true) es i λa=>aK a ⟨[aa s.2.1]⟩ 3 λb a=> ∀w1,Ext a w1->m7 w1 3 1 8 ⟨[aa 0]⟩ (s.1.1,s.1.2.1,s.1.2.2) (some ⟨b,0,none⟩,1,1) λ(r:Option Ab×Nat×Nat) a=> ∀d,Ext a d-> ∃(e:Nat),e<n/\I e ((r.1,r.2.1,r.2.2),aB .i64 s.2.1 1,()) d) (∀d,Ext a d-> ∃(e:Nat),e<n/\I e ((s.1.1,s.1.2.1,s.1.2.2),aB .i64 s.2.1 1,()) d)) (ao w1 (f (s.1.1,s.1.2.1,s.1.2.2)))):=by kernel_rfl
abbrev tW (b:(Int×Int×Unit)×Bool×Unit->A2->Prop) (c:A2) (a:Nat):Prop:=
 aC c (ae a) [ay 0,aa 0] λd=>ao d λw1=>aj w1 none (ae a) cK λ(x:Int×Int×Unit)=>b ((x.1,x.2.1,()),false,()) w1
abbrev nV (a:(Int×Int×Unit)×Bool×Unit->A2->Prop) (b:A2) (c:Nat):Prop:=
 ao b λw1=>aj w1 none (ae c) cK λ(x:Int×Int×Unit)=>a ((x.1,x.2.1,()),true,()) w1
abbrev tX (x:Option Ab) (a:Int):Prop:=
 (a==0)=true->x.isSome=true
abbrev jd (x:Option Ab) (c:(Int×Int×Unit)×Bool×Unit->A2->Prop) (a:A2) (b:Nat):Prop:=
 x.isSome=true/\x.isSome=true/\aj a none (ad x 10) cK λ(x:Int×Int×Unit)=>aC a (ae b) [ay x.1,aa x.2.1] λd=>nV c d b
abbrev tY (x:Option Ab) (b:(Int×Int×Unit)×Bool×Unit->A2->Prop) (c:A2) (d:Int×Int×Unit) (e:Nat):Prop:=
 x.isSome=true/\x.isSome=true/\aC c (ad x 12) [aa d.1] λa=>x.isSome=true/\x.isSome=true/\aC a (ad x 2) [aa 4] λa=>tW b a e
abbrev nW (p:Option Ab) (x:Option Ab) (c:(Int×Int×Unit)×Bool×Unit->A2->Prop) (b:A2) (d:Nat) (e:Int) (f:Int):Prop:=
 x.isSome=true/\x.isSome=true/\(ad x 10).isSome=true/\aU b (ad (ad x 10) 1) λg=>aL (g != 0) (jd x c b d) (aD AC 67 (.bu []) [ag x,aa e,aa (aw .i64 f)] b λk a=>bN p 2 a λh=>cv x 0 a λi=>aD AC 157 (.bu [.one (.int .i64),.one (.int .i64)]) [ag h,aa i,aa e,aa (aw .i64 f)] a λ(j:Int×Int×Unit) a=>tY x c a j d)
theorem L5 (p x:Option Ab) (w:A2) (c:(Int×Int×Unit)×Bool×Unit->A2->Prop):(bQ U2 (λ_=>[]) 110 [ag p,ag x] w c)=(
 aK w ⟨[ay 0,aa 0]⟩ 61 λb a=> ∃l,ah AC 152 [ag p,ag x] a (.bool l)/\aL l (aD AC 153 (.bu []) [ag p,ag x] a λx a=>tW c a b) (∃m,ah AC 154 [ag p,ag x] a (.bool m)/\aL m (aC a (ae b) [ay 0,aa 9] λa=>nV c a b) (cv x 3 a λe=>tX x e/\tX x e/\aj a (some (e==0)) (ad x 4) wG λ(f:Int×Int×Int×Int×Unit)=>aL (e==0&&(f.1==17&&(f.2.1==0&&(f.2.2.1==0&&
 (f.2.2.2.1==0&&true))))) (aD AC 151 (.el aV) [ag p] a λ(x:Int) a=>aC a (ae b) [ay (aw .u64 x),aa 0] λa=>nV c a b) (bN p 0 a λr=>cv x 3 a λs=>x.isSome=true/\x.isSome=true/\aj a none (ad x 4) wG λ(g:Int×Int×Int×Int×Unit)=>aD AC 42 (.el cK) [ag r,aa s,.agg ⟨[aa g.1,ay g.2.1,ay g.2.2.1,ay g.2.2.2.1]⟩] a λ(n:Int×Int×Unit) a=>x.isSome=true/\x.isSome=true/\aC a (ad x 10) [ay n.1,
 aa n.2.1] λa=>cv x 3 a λt=>x.isSome=true/\x.isSome=true/\aj a none (ad x 4) wG λ(h:Int×Int×Int×Int×Unit)=>x.isSome=true/\x.isSome=true/\aj a none (ad x 10) cK λ(o:Int×Int×Unit)=>aD AC 155 (.bu []) [ag p,.agg {toList:=[aa 1,aa t,aa 0,aa h.1,ay h.2.1,ay h.2.2.1,ay h.2.2.2.1,ay o.1,aa o.2.1]}] a λA a=>aD AC 156 (.el iu) [ag p] a λi a=>x.isSome=true/\x.isSome=true/\
 aC a (ad x 13) [.slice i.1 i.2.1 i.2.2] λa=>cv x 3 a λj=>x.isSome=true/\x.isSome=true/\(ad x 4).isSome=true/\cB a (ad (ad x 4) 1) λk=>x.isSome=true/\x.isSome=true/\(ad x 4).isSome=true/\aU a (ad (ad x 4) 0) λd=>aL (d==2) (x.isSome=true/\x.isSome=true/\(ad x 4).isSome=true/\cB a (ad (ad x 4) 1) λq=>x.isSome=true/\x.isSome=true/\(ad x 10).isSome=true/\aU a (ad (ad x 10) 1) λu=>aL (u != 0) (jd x c a b) (aD AC 67 (.bu []) [.pointer
 x,aa (aw .i64 q),aa (-1)] a λB a=>bN p 2 a λv=>cv x 0 a λy=>aD AC 157 (.bu [.one (.int .i64),.one (.int .i64)]) [ag v,aa y,aa (aw .i64 q),aa (-1)] a λ(z:Int×Int×Unit) a=>tY x c a z b)) (aL (d==4) (aL (d==4) (nW p x c a b j k) (jd x c a b)) (aL (d==5) (aL (d==5) (nW p x c a b j k) (jd x c a b)) (aL (d==10) (nW p x c a b j k) (jd x c a
 b)))))))):=by kernel_rfl
theorem RI (p x:Option Ab) (w:A2) (c:Unit->A2->Prop):(aN U2 (λ_=>[]) 153 [ag p,ag x] w c)=(
 bN p 1 w λi=>cv x 0 w λj=>aD AC 200 (.el aV) [ag i,aa j] w λ(q:Int) a=>bN x 1 a λk=>cv x 3 a λl=> ∃(d:Int),ah AC 160 [ag x] a (aa d)/\ ∃(e:Int),ah AC 199 [ag x] a (aa e)/\ ∃(b:Int×Int×Unit),ah AC 201 [ag k,aa l,aa d,aa e] a (.tuple ⟨[aa b.1,aa b.2.1]⟩)/\aL (b.2.1==0) (x.isSome=true/\x.isSome=true/\aC a (ad x 2) [aa 3] λa=>x.isSome=true/\
 x.isSome=true/\aC a (ad x 9) [aa b.1] λa=>ao a (c ())) (bN p 0 a λm=>cv x 3 a λn=> ∃(f:Int),ah AC 21 [ag m,aa n] a (aa f)/\ ∃(g:Int),ah AC 160 [ag x] a (aa g)/\ ∃(h:Int),ah AC 199 [ag x] a (aa h)/\aD AC 20 (.el kQ) [aa f,aa g,aa h] a λo a=>x.isSome=true/\x.isSome=true/\aC a (ad x 2) [aa 2] λa=>x.isSome=true/\x.isSome=true/\aC a (ad x 8)
 [ag o] λa=>ao a (c ()))):=by kernel_rfl
def v_:Nat->aZ:=(λ|10=>[(45,Go.RX.El.one (Go.RX.Sc.int CP))]| _=>[])
theorem Vv (f c l:Int) (w:A2) (d:Option Ab×Int×Unit->A2->Prop):(aN U2 v_ 52 [aa f,aa c,aa l] w d)=(
 aD AC 40 (.bu [.one .ptr,.one (.int .i64)]) [aa f] w λ(x:Option Ab×Int×Unit) a=>aL (x.2.1 != 0) (ao a (d (none,x.2.1,()))) (aD AC 84 (.bu [.one .ptr,.one (.int .i64)]) [aa c] a λ(e:Option Ab×Int×Unit) a=>aL (e.2.1 != 0) (ao a (d (none,e.2.1,()))) (∀w1,Ext a w1->aK (w1.alloc (Obj.map ⟨[]⟩ 0)) ⟨[ag x.1,ag e.1,ag none,.slice none 0 0,.map (some w1.heap.size),.slice none 0 0]⟩ 103 λb a=>aD AC 85 (.bu [.one .ptr,.one (.int .i64)]) [aa c] a λ(x:
 Option Ab×Int×Unit) a=>true=true/\true=true/\aC a (ad (ae b) 2) [ag x.1] λa=> ∃(I:Nat->Int×Unit->A2->Prop),(∃n, ∀w1,Ext a w1->I n (0,()) w1)/\ ∀(n:Nat) (s:Int×Unit) (w1:A2),I n s w1->aL (decide (s.1<c)) (aD AC 86 (.bu [.one .ptr,.one (.int .i64)]) [aa l] w1 λ(x:Option Ab×Int×Unit) a=>aL (x.2.1 != 0) (ao a (d (none,x.2.1,()))) (true=true/\true=true/\sw a (ad (ae b) 3) λg=>aK a {toList:=[aa s.1,ag x.1,aa 0,aa 0,aa 0,
 ay 0,ay 0,ay 0,ag none,aa 0,ay 0,aa 0,aa 0,.slice none 0 0]} 143 λj a=>aK a {toList:=[ag (ae j)]} 139 λk a=> ∀w1,Ext a w1->m7 w1 139 1 8 ⟨[ag none]⟩ (g.1,g.2.1,g.2.2) (some ⟨k,0,none⟩,1,1) λ(r:Option Ab×Nat×Nat) a=>true=true/\true=true/\aC a (ad (ae b) 3) [.slice r.1 r.2.1 r.2.2] λa=> ∀h,Ext a h-> ∃(i:Nat),i<n/\I i (aB .i64 s.1 1,()) h)) (ao w1 (d (some ⟨b,0,none⟩,0,())))))):=by kernel_rfl
end Go.Proofs.YtlcenllcmeebhaaGreat.Mu
namespace Go.Proofs.YtlcenllcmeebhaaGreat
set_option maxRecDepth 100000
open Go.RX D
namespace Inv
variable {g:Gh} {s s':WD}
structure fm (g:Gh) (s s':WD):Prop where
 len:s'.1.length=s.1.length/\s'.2.length=s.2.length
 ws: ∀{f o x k:Int} {l:Nat},g f=some (o,l,x)->0<=k->k<16->dJ s'.1 (16*f+k)=dJ s.1 (16*f+k)
 tb: ∀{n:Nat} {d:DT},s.2[n]? =some d->d.1=3->s'.2[n]? =some d
 bt: ∀{n:Nat} {d:DT},s'.2[n]? =some d->d.1=3->s.2[n]? =some d
 fz: ∀d∈s'.2,d.1=0->d=zD
theorem fm.XF (B:fm g s s') {f o x k:Int} {l:Nat} (h:g f=some (o,l,x)) (h0:0<=k) (h1:k<16):aM s'.1 (16*f+k)=aM s.1 (16*f+k):=by
 unfold aM;rw[B.ws h h0 h1]
theorem beside (I:Inv g s) (B:fm g s s'):Inv g s' where
 len:=by rw[B.len.1,B.len.2];exact I.len
 le:=by rw[B.len.2];exact I.le
 fz:=B.fz
 kd:=λ{f o l x} h=>by
  obtain⟨a,b,c,d⟩:=I.kd h;rw[B.len.2];exact⟨a,b,B.tb c rfl,d⟩
 inj:=I.inj
 rX:=λ{f o l x i} h h0 h1 e=>by
  rw[B.XF h h0 h1] at e ⊢;exact I.rX h h0 h1 e
 leaf:=λ{f o l x i} h h0 h1=>by
  rw[B.XF h h0 h1];exact I.leaf h h0 h1
 EV:=λ{f o l x} h m=>by
  obtain⟨f',h1,p⟩:=I.EV h m;refine⟨f',h1,?_⟩;rw[B.XF h1 (by omega) (by omega)];exact p
 wf:=λ{f o l x i} h h0 h1 j=>by
  rw[B.XF h h0 h1] at j;rw[B.ws h h0 h1];exact I.wf h h0 h1 j
 tb:=λ{n d} h k=>I.tb (B.bt h k) k
theorem Hc (B:fm g s s') {o p f:Int} {j:Nat} (h:dC g s o p f j):dC g s' o p f j:=
 ⟨h.1,by rw[B.XF h.1 (eH p j).1 (eH p j).2];exact h.2⟩
theorem xq {r p:Int} (a: ¬ (0<=p/\p<65536)):bA s r false p=(0,0,2,()):=by
 unfold bA;rw[au (by decide),az (by omega)]
theorem dT (I:Inv g s) (B:fm g s s') {o r:Int} (b:g r=some (o,3,0)) (p:Int):bA s' r false p=bA s r false p:=by
 by_cases a:0<=p/\p<65536
 ·obtain⟨f,j, _,c⟩:=I.mn b a;rw[I.fI b a c,(I.beside B).fI b a (Hc B c),B.XF c.1 (eH p j).1 (eH p j).2]
 ·rw[xq a,xq a]
theorem mY (B:fm g s s') (h:zO g s):zO g s':=λf o l x i a h0 h1 b c=>by
 rw[B.XF a h0 h1] at b c;exact h a h0 h1 b c
theorem Zr (s:WD) (r:Int) {p:Int} (a:0<=p/\p<65536):(bA s r false p).2.2.1=0\/bA s r false p=(0,0,4,()):=by
 unfold bA;rw[au (by decide),au (by omega)];split
 ·exact .inl rfl
 ·exact .inr rfl
theorem ab7 (I:Inv g s) (nl:zO g s) {o r p:Int} (b:g r=some (o,3,0)) (c:0<=p/\p<65536) (h:(bA s r false p).2.2.1=0): ∃f,dC g s o p f 0/\(aM s.1 (16*f+px 0 p % 16)).1=true/\(dz s.1 r p).2.1=0:=by
 obtain⟨f,j, _,a⟩:=I.mn b c;rw[I.fI b c a] at h;have d:=Cj h;have e:=nl a.1 (eH p j).1 (eH p j).2 d a.2;subst e;refine⟨f,a,d,?_⟩;rw[(I.nI b c a).1];rfl
theorem ab8 (I:Inv g s) (nl:zO g s) {o r p:Int} (a:g r=some (o,3,0)) (b:0<=p/\p<65536) (h:(bA s r false p).2.2.1=0):l8 s o r p=0:=by
 obtain⟨_, _, _,e⟩:=I.ab7 nl a b h;unfold l8;rw[az e]
theorem aaz (I:Inv g s) (nl:zO g s) {o r p:Int} (a:g r=some (o,3,0)) (b:0<=p/\p<65536) (h:(bA s r false p).2.2.1=0):BI s o r false p=0:=by
 unfold BI;rw[az h];exact I.ab8 nl a b h
theorem OT (I:Inv g s) {o r p:Int} (c:g r=some (o,3,0)) (h:(bA s r false p).2.2.1=0):(0<=p/\p<65536)/\0<=(bA s r false p).1:=by
 have a:0<=p/\p<65536:=by
  by_cases a:0<=p/\p<65536
  ·exact a
  ·rw[xq a] at h;exact absurd h (by decide)
 refine⟨a,?_⟩;obtain⟨f,j, _,i⟩:=I.mn c a;rw[I.fI c a i] at h ⊢;have b:=Cj h;have d:=lx s.1 (16*f+px j p % 16);unfold l9;rw[az b];generalize aM s.1 (16*f+px j p % 16)=e at*
 obtain⟨ep,er,el,ef,k⟩:=e;dsimp only at b d;subst b;obtain⟨l,m,n,q,t⟩:=lW.1 d;dsimp only;split<;>omega
end Inv
set_option maxRecDepth 100000
open Go.RX D
def kS {α:Type} (F:Nat->α) (v:Nat) (y:α):Nat->α:=λi=>if i=v then y else F i
theorem kK {α:Type} (F:Nat->α) (v:Nat) (y:α):kS F v y v=y:=az rfl
theorem nJ {α:Type} {F:Nat->α} {v i:Nat} (h:i≠v) (y:α):kS F v y i=F i:=au h
theorem Cm (F:Nat->Nat) (v y:Nat): ∀n,((BO n).map (kS F v y)).sum+(if v<n then F v else 0)=((BO n).map F).sum+(if v<n then y else 0)
 |0=>rfl
 |n+1=>by
  have b:=Cm F v y n;rw[List.range_succ,F0,F0,FF,FF];simp only[C7,List.map_nil,Dv,List.sum_nil];by_cases h:v=n
  ·subst h;rw[kK];rw[au (Nat.lt_irrefl _),au (Nat.lt_irrefl _)] at b;rw[az (Gi _),az (Gi _)];omega
  ·rw[nJ (λe=>h e.symm)];by_cases a:v<n
   ·rw[az a,az a] at b;rw[az (by omega),az (by omega)];omega
   ·rw[au a,au a] at b;rw[au (by omega),au (by omega)];omega
def oN (tk:Nat->List TK) (q:TK->Bool):Nat:=((BO 17).map λi=>(tk i).countP q).sum
theorem yR (tk:Nat->List TK) (q:TK->Bool) {v:Nat} (hv:v<17) (y:List TK):oN (kS tk v y) q+(tk v).countP q=oN tk q+y.countP q:=by
 have h:=Cm (λi=>(tk i).countP q) v (y.countP q) 17;rw[az hv,az hv] at h;have e:(λi=>(kS tk v y i).countP q)=kS (λi=>(tk i).countP q) v (y.countP q):=by
  funext i;unfold kS;split<;>rfl
 unfold oN;rw[e];exact h
theorem yS {tk:Nat->List TK} {q:TK->Bool} (h:0<oN tk q): ∃i t,i<17/\t∈tk i/\q t=true:=by
 unfold oN at h;have: ∀l:List Nat,0<(l.map λi=>(tk i).countP q).sum-> ∃i t,i∈l/\t∈tk i/\q t=true:=by
  intro l
  induction l with
  |nil=>intro h;simp at h
  |cons i l b=>
   intro h;rw[C7,Dv] at h;by_cases h1:0<(tk i).countP q
   ·obtain⟨t,a,c⟩:=Db.1 h1;exact⟨i,t,Bv,a,c⟩
   ·obtain⟨j,t,d,a⟩:=b (by omega);exact⟨j,t,CH _ d,a⟩
 obtain⟨i,t,hi,a⟩:=this _ h;exact⟨i,t,Dc.1 hi,a⟩
theorem Ba {tk:Nat->List TK} {q:TK->Bool} (h: ∀i t,t∈tk i->q t=false):oN tk q=0:=by
 rcases C6 (oN tk q) with e|e
 ·exact e
 ·obtain⟨i,t, _,b,a⟩:=yS e;rw[h i t b] at a;cases a
theorem nK {tk:Nat->List TK} {q:TK->Bool} {i:Nat} {t:TK} (hi:i<17) (a:t∈tk i) (b:q t=true):0<oN tk q:=by
 have h:=yR tk q hi [];have c:0<(tk i).countP q:=Db.2 ⟨t,a,b⟩;simp only[List.countP_nil] at h;omega
def ff (tk:Nat->List TK) (f:Int):Nat:=oN tk λt=>t.2.2==f
def mK (tk:Nat->List TK) (a:Int):Nat:=oN tk λt=>t.2.1==a
abbrev HA:Type:=Nat->Int->Option Int
def nh (fr:HA) (v:Nat) (p:Int) (y:Option Int):HA:=λi q=>if i=v/\q=p then y else fr i q
theorem fB (fr:HA) (v:Nat) (p:Int) (y:Option Int):nh fr v p y v p=y:=az ⟨rfl,rfl⟩
theorem bI {fr:HA} {v i:Nat} {p q:Int} (h: ¬ (i=v/\q=p)) (y:Option Int):nh fr v p y i q=fr i q:=au h
def Tj (gr:List GT) (fr:HA) (tk:Nat->List TK) (a:Int) (i o:Nat) (f:Int):Prop:=
 ∃k x,lN gr a=some k/\gr[k]? =some x/\x.1=(o:Int)/\x.2.2.1=(i:Int)/\fr o x.2.1=some f/\b_ (tk o) x.2.1=none
structure HC (fr:HA) (tk:Nat->List TK) (ds:List DT) (gr:List GT):Prop where
 jg: ∀{i p f},fr i p=some f->1<=i/\i<=16/\0<=p/\p<65536
 kd: ∀{n:Nat} {d:DT},ds[n]? =some d->(d.1=0\/d.1=3\/d.1=4\/d.1=5)/\d.2.2.2.1=0/\0<=d.2.1/\d.2.1<=16
 SS: ∀{n:Nat} {d:DT},ds[n]? =some d->d.1=4-> ∃(i:Nat) (p:Int),(i:Int)=d.2.1/\fr i p=some (n:Int)/\b_ (tk i) p=none
 own: ∀{i p f},fr i p=some f->b_ (tk i) p=none-> ∃(n:Nat) (d:DT),(n:Int)=f/\ds[n]? =some d/\d.1=4/\d.2.1=(i:Int)
 CL: ∀{i p a f},b_ (tk i) p=some (a,f)->fr i p=some f/\ ∃o:Nat,o≠i/\Tj gr fr tk a i o f
 nd: ∀i,((tk i).map (·.1)).Nodup
 inj: ∀{i p p' f},fr i p=some f->fr i p'=some f->b_ (tk i) p=none->b_ (tk i) p'=none->p=p'
 refs: ∀{n:Nat} {d:DT},ds[n]? =some d->d.2.2.1=(ff tk (n:Int):Int)
 uA: ∀{n:Nat} {x:GT},gr[n]? =some x->x.2.2.2.2.1=(mK tk (n:Int):Int)
 gl:gr.length=16
 gk:nY gr
theorem fo {gr:List GT} {a:Int} {k:Nat}:lN gr a=some k<->(k:Int)=a/\k<gr.length/\gr.getD k zG≠zG:=by
 unfold lN;constructor
 ·intro h;split at h
  ·rename_i c;cases h;exact⟨by omega,by omega,c.2.2⟩
  ·cases h
 ·rintro⟨rfl,h1,b⟩;rw[az ⟨by omega,by omega,b⟩];rfl
theorem getD_some {gr:List GT} {k:Nat} {x:GT} (h:gr[k]? =some x):gr.getD k zG=x:=by
 rw[B2,h];rfl
namespace HC
variable {fr:HA} {tk:Nat->List TK} {ds:List DT} {gr:List GT}
theorem NG (H:HC fr tk ds gr) {i:Nat} {t:TK} (h:t∈tk i):b_ (tk i) t.1=some t.2:=(jF (a:=t.2.1) (b:=t.2.2) (H.nd i)).2 h
theorem JT (H:HC fr tk ds gr) {i:Nat} {p a f:Int} (h:b_ (tk i) p=some (a,f)):(p,a,f)∈tk i:=(jF (H.nd i)).1 h
theorem aaA (H:HC fr tk ds gr) {i:Nat} {p a f:Int} (h:b_ (tk i) p=some (a,f)): ∃(n:Nat) (d:DT) (o:Nat),(n:Int)=f/\ds[n]? =some d/\d.1=4/\d.2.1=(o:Int)/\o≠i/\Tj gr fr tk a i o f:=by
 obtain⟨_,o,e,g⟩:=H.CL h;obtain⟨k,x,h1,j,l,m,b,c⟩:=g;obtain⟨n,d,q,r,s,t⟩:=H.own b c;exact⟨n,d,o,q,r,s,t,e,k,x,h1,j,l,m,b,c⟩
theorem at4 (H:HC fr tk ds gr) {i:Nat} {p f:Int} (h:fr i p=some f): ∃(n:Nat) (d:DT),(n:Int)=f/\ds[n]? =some d/\d.1=4:=by
 cases b:b_ (tk i) p with
 |none=>
  obtain⟨n,d,h1,c,e, _⟩:=H.own h b;exact⟨n,d,h1,c,e⟩
 |some y=>
  obtain⟨a,f'⟩:=y;obtain⟨n,d,o,h1,c,e, _⟩:=H.aaA b;have:=(H.CL b).1;rw[h] at this;cases this;exact⟨n,d,h1,c,e⟩
theorem H_ (H:HC fr tk ds gr) {n:Nat} (h:0<ff tk (n:Int)): ∃d,ds[n]? =some d/\d.1=4:=by
 obtain⟨i,t, _,a,b⟩:=yS h;obtain⟨m,d,o,h1,c,f, _⟩:=H.aaA (H.NG a);have g:t.2.2=(n:Int):=by simpa using b
 have e:m=n:=BN (h1.trans g);subst e;exact⟨d,c,f⟩
theorem FY (H:HC fr tk ds gr) {g:List DT} (k: ∀{n:Nat} {d:DT},ds[n]? =some d->d.1=4->g[n]? =some d) (j: ∀{n:Nat} {d:DT},g[n]? =some d->ds[n]? =some d\/((d.1=0\/d.1=3\/d.1=5)/\d.2.2=(0,0,())/\0<=d.2.1/\d.2.1<=16)):HC fr tk g gr:=by
 have l: ∀{n:Nat} {d:DT},g[n]? =some d->(d.1=0\/d.1=3\/d.1=5)->ff tk (n:Int)=0:=λ{n d} h a=>by
  rcases C6 (ff tk (n:Int)) with e|e
  ·exact e
  ·obtain⟨d',b,c⟩:=H.H_ e;have:=k b c;rw[h] at this;cases this;omega
 refine⟨H.jg,λ{n d} h=>?_,λ{n d} h c=>?_,λ{i p f} h m=>?_,H.CL,H.nd,H.inj,λ{n d} h=>?_,H.uA,H.gl,H.gk⟩
 ·rcases j h with h1|⟨h1,a,b⟩
  ·exact H.kd h1
  ·exact⟨by omega,by rw[a],b⟩
 ·rcases j h with h1|⟨h1,a⟩
  ·exact H.SS h1 c
  ·omega
 ·obtain⟨n,d,h1,a,b,c⟩:=H.own h m;exact⟨n,d,h1,k a b,b,c⟩
 ·rcases j h with h1|⟨h1,a, _⟩
  ·exact H.refs h1
  ·rw[l h h1,a];rfl
theorem OU (H:HC fr tk ds gr) {zB:List GT} (d:zB.length=gr.length) (m:nY zB) (r: ∀{n:Nat} {x y:GT},gr[n]? =some x->zB[n]? =some y->y.2.2.2.2.1=x.2.2.2.2.1) (e: ∀{n:Nat} {x:GT},gr[n]? =some x->x.2.2.2.2.1>0->zB[n]? =some x):HC fr tk ds zB:=by
 refine⟨H.jg,H.kd,H.SS,H.own,λ{i p a f} h=>?_,H.nd,H.inj,H.refs,λ{n y} h=>?_,d.trans H.gl,m⟩
 ·obtain⟨h1,o,s,k,x,g,b,u⟩:=H.CL h;refine⟨h1,o,s,k,x,?_,?_,u⟩
  ·obtain⟨c,z,j⟩:=fo.1 g;refine fo.2 ⟨c,by omega,?_⟩;have v:x.2.2.2.2.1>0:=by
    rw[H.uA b];have:=nK (q:=λt=>t.2.1==(k:Int)) (by have:=H.jg h1;omega:i<17) (H.JT h) (by simp[c]);unfold mK;omega
   rw[getD_some (e b v)];rw[getD_some b] at j;exact j
  ·refine e b ?_;obtain⟨c, _⟩:=fo.1 g;rw[H.uA b];have:=nK (q:=λt=>t.2.1==(k:Int)) (by have:=H.jg h1;omega:i<17) (H.JT h) (by simp[c]);unfold mK;omega
 ·have w:n<gr.length:=by rw[<-d];exact(Ae.1 h).1
  have l:gr[n]? =some gr[n]:=BL w;rw[r l h];exact H.uA l
end HC
set_option maxRecDepth 100000
open Go.RX D
theorem m5 (t:TK) (l:List TK) (p:Int):b_ (t::l) p=if t.1=p then some t.2 else b_ l p:=by
 unfold b_;rw[List.find?_cons];by_cases e:t.1=p
 ·rw[az e,show(t.1==p)=true by simpa using e];rfl
 ·rw[au e,show(t.1==p)=false by simpa using e]
theorem L6 {l l':List TK} (h:l.Perm l') (nd:(l.map (·.1)).Nodup) (p:Int):b_ l p=b_ l' p:=by
 have c:(l'.map (·.1)).Nodup:=(h.map _).nodup_iff.1 nd;cases h1:b_ l p with
 |some x=>
  have:=(jF (a:=x.1) (b:=x.2) nd).1 h1;exact((jF (a:=x.1) (b:=x.2) c).2 (h.mem_iff.1 this)).symm
 |none=>
  symm;rw[qe] at h1 ⊢;exact λt d=>h1 t (h.mem_iff.2 d)
theorem OV {t:TK} {l:List TK} (a:b_ l t.1=none) (nd:(l.map (·.1)).Nodup):((nf t l).map (·.1)).Nodup:=by
 refine((mX t l).map _).nodup_iff.2 (Bs.2 ⟨λb=>?_,nd⟩);obtain⟨x,c,e⟩:=B3.1 b;exact qe.1 a x c e
theorem RJ {t:TK} {l:List TK} (a:b_ l t.1=none) (nd:(l.map (·.1)).Nodup) (p:Int):b_ (nf t l) p=if t.1=p then some t.2 else b_ l p:=by
 rw[L6 (mX t l) (OV a nd),m5]
theorem L7 (l:List TK) (b p:Int):b_ (l.filter λt=> !(t.1==b)) p=if p=b then none else b_ l p:=by
 induction l with
 |nil=>unfold b_;simp
 |cons t l c=>
  rw[FS];by_cases e:t.1=b
  ·rw[au (by simp[e]),c,m5];by_cases a:p=b
   ·rw[az a,az a]
   ·rw[au a,au a,au (λh=>a (h.symm.trans e))]
  ·rw[az (by simpa using e),m5,m5,c];by_cases a:t.1=p
   ·rw[az a,az a,au (λh=>e (a.trans h))]
   ·rw[au a,au a]
theorem Bb {l:List TK} {b:Int} {x:Int×Int} (nd:(l.map (·.1)).Nodup) (h:b_ l b=some x):l.Perm ((b,x)::l.filter λt=> !(t.1==b)):=by
 induction l with
 |nil=>unfold b_ at h;simp at h
 |cons t l a=>
  rw[C7,Bs] at nd;rw[m5] at h;rw[FS];by_cases e:t.1=b
  ·rw[az e] at h;cases h;rw[au (by simp[e])];have c:l.filter (λt=> !(t.1==b))=l:=Ff.2 λu d=>by
    have:u.1≠b:=λf=>nd.1 (B3.2 ⟨u,d,f.trans e.symm⟩);simpa using this
   rw[c, <-e]
  ·rw[au e] at h;rw[az (by simpa using e)];exact((a nd.2 h).cons t).trans (.swap _ _ _)
theorem Vw (q:TK->Bool) (t:TK) (l:List TK):(nf t l).countP q=l.countP q+(if q t=true then 1 else 0):=by
 rw[(mX t l).countP_eq,De]
theorem RK {l:List TK} {b:Int} {x:Int×Int} (nd:(l.map (·.1)).Nodup) (h:b_ l b=some x) (q:TK->Bool):l.countP q=(l.filter λt=> !(t.1==b)).countP q+(if q (b,x)=true then 1 else 0):=by
 rw[(Bb nd h).countP_eq,De]
theorem Vx {l:List TK} (b:Int) (nd:(l.map (·.1)).Nodup):((l.filter λt=> !(t.1==b)).map (·.1)).Nodup:=(CN.map _).nodup nd
theorem Co {gr:List GT} {k j:Nat} {x y:GT} {a:Int} (f:gr[k]? =some x) (c:y≠zG) (h:lN gr a=some j):lN (gr.set k y) a=some j:=by
 obtain⟨h1,b,d⟩:=fo.1 h;refine fo.2 ⟨h1,by rw[B1];exact b,?_⟩;rw[B2];by_cases e:k=j
 ·subst e;rw[Av b];exact c
 ·rw[Ad e, <-B2];exact d
theorem xr {gr:List GT} (a:nY gr) {k:Nat} {x:GT} (b:gr[k]? =some x) (c:x≠zG) (n:Int):fD x n≠zG:=λe=>by
 rcases(a x (BJ b)).1 with h|⟨h, _⟩
 ·exact c h
 ·have:(fD x n).1=zG.1:=congrArg (·.1) e;have:x.1=0:=this;omega
namespace HC
variable {fr:HA} {tk:Nat->List TK} {ds:List DT} {gr:List GT}
theorem Yp (H:HC fr tk ds gr) {i:Nat} {p:Int} (h:fr i p=none):b_ (tk i) p=none:=by
 cases b:b_ (tk i) p with
 |none=>rfl
 |some y=>
  have:=(H.CL (a:=y.1) (f:=y.2) b).1;rw[h] at this;cases this
theorem FZ (H:HC fr tk ds gr) {v n:Nat} {a:Int} {d0:DT} (hv:1<=v/\v<=16) (A:0<=a/\a<65536) (u:ds[n]? =some d0) (h0:d0.1=0) (w:fr v a=none):
 HC (nh fr v a (some (n:Int))) tk (ds.set n (4,(v:Int),0,0,())) gr:=by
 have q:n<ds.length:=(Ae.1 u).1;have r: ∀{d},ds[n]? =some d->d.1=4->False:=λ{d} h l=>by rw[u] at h;cases h;omega
 have B:ff tk (n:Int)=0:=by
  rcases C6 (ff tk (n:Int)) with e|e
  ·exact e
  ·obtain⟨d,h1,g⟩:=H.H_ e;exact(r h1 g).elim
 have s: ∀{i p f},fr i p=some f-> ¬ (i=v/\p=a):=λ{i p f} h e=>by rw[e.1,e.2,w] at h;cases h
 have y: ∀{i p},fr i p=some (n:Int)->False:=λ{i p} h=>by
  obtain⟨m,d,h1,g,j⟩:=H.at4 h;have:m=n:=BN h1;subst this;exact r g j
 refine⟨λ{i p f} h=>?_,λ{m d} h=>?_,λ{m d} h l=>?_,λ{i p f} h t=>?_,λ{i p b f} h=>?_,H.nd,λ{i p p' f} h h' t C=>?_,λ{m d} h=>?_,H.uA,H.gl,H.gk⟩
 ·by_cases e:i=v/\p=a
  ·obtain⟨rfl,rfl⟩:=e;exact⟨hv.1,hv.2,A⟩
  ·rw[bI e] at h;exact H.jg h
 ·by_cases e:n=m
  ·subst e;rw[Av q] at h;cases h;exact⟨.inr (.inr (.inl rfl)),rfl,by show 0<=(v:Int);omega,by show(v:Int)<=16;omega⟩
  ·rw[Ad e] at h;exact H.kd h
 ·by_cases e:n=m
  ·subst e;rw[Av q] at h;cases h;exact⟨v,a,rfl,fB _ _ _ _,H.Yp w⟩
  ·rw[Ad e] at h;obtain⟨i,p,h1,g,j⟩:=H.SS h l;exact⟨i,p,h1,by rw[bI (s g)];exact g,j⟩
 ·by_cases e:i=v/\p=a
  ·obtain⟨rfl,rfl⟩:=e;rw[fB] at h;cases h;exact⟨n, _,rfl,Av q,rfl,rfl⟩
  ·rw[bI e] at h;obtain⟨m,d,h1,g,j,l⟩:=H.own h t;refine⟨m,d,h1,?_,j,l⟩;rw[Ad (λe=>by subst e;exact r g j)];exact g
 ·obtain⟨h1,o,g,k,x,j,l,D,E,z,F⟩:=H.CL h;exact⟨by rw[bI (s h1)];exact h1,o,g,k,x,j,l,D,E,by rw[bI (s z)];exact z,F⟩
 ·by_cases e:i=v/\p=a
  ·obtain⟨rfl,rfl⟩:=e;rw[fB] at h;cases h;by_cases e':p'=p
   ·exact e'.symm
   ·rw[bI (λc=>e' c.2)] at h';exact(y h').elim
  ·rw[bI e] at h;by_cases e':i=v/\p'=a
   ·obtain⟨rfl,rfl⟩:=e';rw[fB] at h';cases h';exact(y h).elim
   ·rw[bI e'] at h';exact H.inj h h' t C
 ·by_cases e:n=m
  ·subst e;rw[Av q] at h;cases h;rw[B];rfl
  ·rw[Ad e] at h;exact H.refs h
theorem Cp (H:HC fr tk ds gr) {v n:Nat} {a o:Int} (E:0<=o/\o<=16) (s:fr v a=some (n:Int)) (w:b_ (tk v) a=none) (B:ff tk (n:Int)=0):
 HC (nh fr v a none) tk (ds.set n (5,o,0,0,())) gr:=by
 obtain⟨j,d0,y,C,M,F⟩:=H.own s w;have y:j=n:=BN y;subst y;have z:j<ds.length:=(Ae.1 C).1;have G: ∀{i p b f},b_ (tk i) p=some (b,f)->f≠(j:Int):=λ{i p b f} h e=>by
  have N:=H.jg (H.CL h).1;have:=nK (q:=λt=>t.2.2==(j:Int)) (by omega:i<17) (H.JT h) (by simp[e]);unfold ff at B;omega
 refine⟨λ{i p f} h=>?_,λ{m d} h=>?_,λ{m d} h k4=>?_,λ{i p f} h u=>?_,λ{i p b f} h=>?_,H.nd,λ{i p p' f} h h' u I=>?_,λ{m d} h=>?_,H.uA,H.gl,H.gk⟩
 ·by_cases e:i=v/\p=a
  ·obtain⟨rfl,rfl⟩:=e;rw[fB] at h;cases h
  ·rw[bI e] at h;exact H.jg h
 ·by_cases e:j=m
  ·subst e;rw[Av z] at h;cases h;exact⟨.inr (.inr (.inr rfl)),rfl,E⟩
  ·rw[Ad e] at h;exact H.kd h
 ·by_cases e:j=m
  ·subst e;rw[Av z] at h;cases h;exact absurd k4 (show ¬ (5:Int)=4 by decide)
  ·rw[Ad e] at h;obtain⟨i,p,h1,g,l⟩:=H.SS h k4;refine⟨i,p,h1,?_,l⟩;rw[bI (λc=>?_)]
   ·exact g
   ·rw[c.1,c.2,s] at g;cases g;exact e rfl
 ·by_cases e:i=v/\p=a
  ·obtain⟨rfl,rfl⟩:=e;rw[fB] at h;cases h
  ·rw[bI e] at h;obtain⟨m,d,h1,g,l,r⟩:=H.own h u;refine⟨m,d,h1,?_,l,r⟩;by_cases D:j=m
   ·subst D;rw[C] at g;cases g;rw[F] at r;have ev:v=i:=BN r;subst ev;rw[<-h1] at h;exact absurd ⟨rfl,H.inj h s u w⟩ e
   ·rw[Ad D];exact g
 ·obtain⟨h1,o',g,k,x,l,r,J,K,A,L⟩:=H.CL h;refine⟨?_,o',g,k,x,l,r,J,K,?_,L⟩
  ·rw[bI (λc=>?_)]
   ·exact h1
   ·rw[c.1,c.2,w] at h;cases h
  ·rw[bI (λc=>?_)]
   ·exact A
   ·rw[c.1,c.2,s] at A;cases A;exact G h rfl
 ·by_cases e:i=v/\p=a
  ·obtain⟨rfl,rfl⟩:=e;rw[fB] at h;cases h
  ·rw[bI e] at h;by_cases e':i=v/\p'=a
   ·obtain⟨rfl,rfl⟩:=e';rw[fB] at h';cases h'
   ·rw[bI e'] at h';exact H.inj h h' u I
 ·by_cases e:j=m
  ·subst e;rw[Av z] at h;cases h;rw[B];rfl
  ·rw[Ad e] at h;exact H.refs h
end HC
set_option maxRecDepth 100000
open Go.RX D
namespace HC
variable {fr:HA} {tk:Nat->List TK} {ds:List DT} {gr:List GT}
theorem take (H:HC fr tk ds gr) {v o n k:Nat} {b:Int} {x:GT} {d0:DT} (hb:0<=b/\b<65536) (K:fr v b=none) (S:ds[n]? =some d0) (r:gr[k]? =some x) (C:x≠zG) (L:x.1=(o:Int)) (M:x.2.2.1=(v:Int)) (T:fr o x.2.1=some (n:Int)) (U:b_ (tk o) x.2.1=none)
 (V:nY (gr.set k (fD x 1))):
 HC (nh fr v b (some (n:Int))) (kS tk v (nf (b,(k:Int),(n:Int)) (tk v))) (ds.set n (d0.1,d0.2.1,d0.2.2.1+1,d0.2.2.2.1,())) (gr.set k (fD x 1)):=by
 have Z:n<ds.length:=(Ae.1 S).1;have D:k<gr.length:=(Ae.1 r).1;obtain⟨N,ro,F⟩:(1<=v/\v<=16)/\(1<=o/\o<=16)/\o≠v:=by
  rcases(H.gk x (BJ r)).1 with h|⟨h1,l,g, _⟩
  ·exact absurd h C
  ·rw[L] at h1 g;rw[M] at l g;exact⟨by omega,by omega,λe=>g (by rw[e])⟩
 have A: ∀{i p f},fr i p=some f-> ¬ (i=v/\p=b):=λ{i p f} h e=>by rw[e.1,e.2,K] at h;cases h
 have O:b_ (tk v) b=none:=H.Yp K;have s: ∀i p,b_ (kS tk v (nf (b,(k:Int),(n:Int)) (tk v)) i) p=if i=v/\p=b then some ((k:Int),(n:Int)) else b_ (tk i) p:=λi p=>by
  by_cases e:i=v
  ·subst e;rw[kK,RJ O (H.nd _)];by_cases w:p=b
   ·rw[az w.symm,az ⟨rfl,w⟩]
   ·rw[au (λh=>w h.symm),au (λh=>w h.2)]
  ·rw[nJ e,au (λh=>e h.1)]
 have W: ∀{m:Nat} {d:DT},ds[m]? =some d-> ∃d':DT,(ds.set n (d0.1,d0.2.1,d0.2.2.1+1,d0.2.2.2.1,()))[m]? =some d'/\d'.1=d.1/\d'.2.1=d.2.1:=λ{m d} h=>by
  grind
 have G: ∀{m:Nat} {d':DT},(ds.set n (d0.1,d0.2.1,d0.2.2.1+1,d0.2.2.2.1,()))[m]? =some d'-> ∃d:DT,ds[m]? =some d/\d'.1=d.1/\d'.2.1=d.2.1/\d'.2.2.2.1=d.2.2.2.1/\d'.2.2.1=d.2.2.1+(if m=n then 1 else 0):=λ{m d'} h=>by
  grind
 have X: ∀{a:Int} {i o':Nat} {f:Int},Tj gr fr tk a i o' f->Tj (gr.set k (fD x 1)) (nh fr v b (some (n:Int))) (kS tk v (nf (b,(k:Int),(n:Int)) (tk v))) a i o' f:=by
  rintro a i o' f ⟨j,y,h1,l,g,z,t,Y⟩;have P:=Co r (xr H.gk r C 1) h1;have Q:b_ (kS tk v (nf (b,(k:Int),(n:Int)) (tk v)) o') y.2.1=none:=by
   rw[s,au (A t)];exact Y
  by_cases e:k=j
  ·subst e;rw[r] at l;cases l;exact⟨k,fD x 1,P,Av D,g,z,by show nh fr v b _ o' x.2.1= _;rw[bI (A t)];exact t,Q⟩
  ·exact⟨j,y,P,by rw[Ad e];exact l,g,z,by rw[bI (A t)];exact t,Q⟩
 have R: ∀q:TK->Bool,oN (kS tk v (nf (b,(k:Int),(n:Int)) (tk v))) q=oN tk q+(if q (b,(k:Int),(n:Int))=true then 1 else 0):=λq=>by
  have h1:=yR tk q (by omega:v<17) (nf (b,(k:Int),(n:Int)) (tk v));rw[Vw] at h1;omega
 refine⟨λ{i p f} h=>?_,λ{m d} h=>?_,λ{m d} h z=>?_,λ{i p f} h u=>?_,λ{i p c f} h=>?_,λi=>?_,λ{i p p' f} h h' u E=>?_,λ{m d} h=>?_,λ{m y} h=>?_,by rw[B1];exact H.gl,V⟩
 ·by_cases e:i=v/\p=b
  ·obtain⟨rfl,rfl⟩:=e;exact⟨N.1,N.2,hb⟩
  ·rw[bI e] at h;exact H.jg h
 ·obtain⟨d',h1,l,g,t, _⟩:=G h;rw[l,t,g];exact H.kd h1
 ·obtain⟨d',h1,l,g, _⟩:=G h;obtain⟨i,p,I,B,J⟩:=H.SS h1 (by rw[<-l];exact z);exact⟨i,p,by rw[g];exact I,by rw[bI (A B)];exact B,by rw[s,au (A B)];exact J⟩
 ·by_cases e:i=v/\p=b
  ·rw[s,az e] at u;cases u
  ·rw[bI e] at h;rw[s,au e] at u;obtain⟨m,d,h1,l,g,z⟩:=H.own h u;obtain⟨d',I,B,J⟩:=W l;exact⟨m,d',h1,I,by rw[B];exact g,by rw[J];exact z⟩
 ·rw[s] at h;by_cases e:i=v/\p=b
  ·rw[az e] at h;cases h;obtain⟨rfl,rfl⟩:=e;refine⟨fB _ _ _ _,o,F,k,fD x 1,?_,Av D,L,M,?_,?_⟩
   ·exact Co r (xr H.gk r C 1) (fo.2 ⟨rfl,D,by rw[getD_some r];exact C⟩)
   ·show nh fr i p _ o x.2.1= _;rw[bI (λc=>F c.1)];exact T
   ·show b_ (kS tk i _ o) x.2.1=none;rw[nJ F];exact U
  ·rw[au e] at h;obtain⟨h1,o',l,g⟩:=H.CL h;exact⟨by rw[bI e];exact h1,o',l,X g⟩
 ·by_cases e:i=v
  ·subst e;rw[kK];exact OV O (H.nd _)
  ·rw[nJ e];exact H.nd i
 ·have e: ¬ (i=v/\p=b):=λc=>by rw[s,az c] at u;cases u
  have e': ¬ (i=v/\p'=b):=λc=>by rw[s,az c] at E;cases E
  rw[s,au e] at u;rw[s,au e'] at E;rw[bI e] at h;rw[bI e'] at h';exact H.inj h h' u E
 ·obtain⟨d',h1, _, _, _,t⟩:=G h;rw[t,H.refs h1];unfold ff;rw[R]
  grind
 ·have w:mK (kS tk v (nf (b,(k:Int),(n:Int)) (tk v))) (m:Int)=mK tk (m:Int)+(if k=m then 1 else 0):=by
   unfold mK;rw[R]
   grind
  rw[w];by_cases e:k=m
  ·subst e;rw[Av D] at h;cases h;rw[az rfl];have:=H.uA r;show x.2.2.2.2.1+1= _;omega
  ·rw[Ad e] at h;rw[au e];have:=H.uA h;omega
theorem FD (H:HC fr tk ds gr) {v n k:Nat} {b:Int} {x:GT} {d0:DT} (D:b_ (tk v) b=some ((k:Int),(n:Int))) (E:ds[n]? =some d0) (w:gr[k]? =some x) (P:x≠zG)
 (Q:nY (gr.set k (fD x (-1)))):
 HC (nh fr v b none) (kS tk v ((tk v).filter λt=> !(t.1==b))) (ds.set n (d0.1,d0.2.1,d0.2.2.1 - 1,d0.2.2.2.1,())) (gr.set k (fD x (-1))):=by
 have J:n<ds.length:=(Ae.1 E).1;have K:k<gr.length:=(Ae.1 w).1;have T:=H.jg (H.CL D).1;have r: ∀i p,b_ (kS tk v ((tk v).filter λt=> !(t.1==b)) i) p=if i=v/\p=b then none else b_ (tk i) p:=λi p=>by
  by_cases e:i=v
  ·subst e;rw[kK,L7];by_cases o:p=b
   ·rw[az o,az ⟨rfl,o⟩]
   ·rw[au o,au (λh=>o h.2)]
  ·rw[nJ e,au (λh=>e h.1)]
 have z: ∀{i p},b_ (tk i) p=none-> ¬ (i=v/\p=b):=λ{i p} h e=>by rw[e.1,e.2,D] at h;cases h
 have R: ∀{m:Nat} {d:DT},ds[m]? =some d-> ∃d':DT,(ds.set n (d0.1,d0.2.1,d0.2.2.1 - 1,d0.2.2.2.1,()))[m]? =some d'/\d'.1=d.1/\d'.2.1=d.2.1:=λ{m d} h=>by
  by_cases e:n=m
  ·subst e;rw[E] at h;cases h;exact⟨_,Av J,rfl,rfl⟩
  ·exact⟨d,by rw[Ad e];exact h,rfl,rfl⟩
 have F: ∀{m:Nat} {d':DT},(ds.set n (d0.1,d0.2.1,d0.2.2.1 - 1,d0.2.2.2.1,()))[m]? =some d'-> ∃d:DT,ds[m]? =some d/\d'.1=d.1/\d'.2.1=d.2.1/\d'.2.2.2.1=d.2.2.2.1/\d'.2.2.1=d.2.2.1 - (if m=n then 1 else 0):=λ{m d'} h=>by
  by_cases e:n=m
  ·subst e;rw[Av J] at h;cases h;exact⟨d0,E,rfl,rfl,rfl,by rw[az rfl]⟩
  ·rw[Ad e] at h;exact⟨d',h,rfl,rfl,rfl,by rw[au (λc=>e c.symm)];omega⟩
 have S: ∀{a:Int} {i o':Nat} {f:Int},Tj gr fr tk a i o' f->Tj (gr.set k (fD x (-1))) (nh fr v b none) (kS tk v ((tk v).filter λt=> !(t.1==b))) a i o' f:=by
  rintro a i o' f ⟨j,y,h1,g,l,s,u,C⟩;have L:=Co w (xr H.gk w P (-1)) h1;have M:b_ (kS tk v ((tk v).filter λt=> !(t.1==b)) o') y.2.1=none:=by
   rw[r,au (z C)];exact C
  by_cases e:k=j
  ·subst e;rw[w] at g;cases g;exact⟨k,fD x (-1),L,Av K,l,s,by show nh fr v b _ o' x.2.1= _;rw[bI (z C)];exact u,M⟩
  ·exact⟨j,y,L,by rw[Ad e];exact g,l,s,by rw[bI (z C)];exact u,M⟩
 have N: ∀q:TK->Bool,oN (kS tk v ((tk v).filter λt=> !(t.1==b))) q+(if q (b,(k:Int),(n:Int))=true then 1 else 0)=oN tk q:=λq=>by
  have h1:=yR tk q (by omega:v<17) ((tk v).filter λt=> !(t.1==b));have g:=RK (H.nd v) D q;omega
 refine⟨λ{i p f} h=>?_,λ{m d} h=>?_,λ{m d} h s=>?_,λ{i p f} h A=>?_,λ{i p c f} h=>?_,λi=>?_,λ{i p p' f} h h' A O=>?_,λ{m d} h=>?_,λ{m y} h=>?_,by rw[B1];exact H.gl,Q⟩
 ·by_cases e:i=v/\p=b
  ·rw[show nh fr v b none i p=none from az e] at h;cases h
  ·rw[bI e] at h;exact H.jg h
 ·obtain⟨d',h1,g,l,u, _⟩:=F h;rw[g,u,l];exact H.kd h1
 ·obtain⟨d',h1,g,l, _⟩:=F h;obtain⟨i,p,G,I,B⟩:=H.SS h1 (by rw[<-g];exact s);exact⟨i,p,by rw[l];exact G,by rw[bI (z B)];exact I,by rw[r,au (z B)];exact B⟩
 ·by_cases e:i=v/\p=b
  ·rw[show nh fr v b none i p=none from az e] at h;cases h
  ·rw[bI e] at h;rw[r,au e] at A;obtain⟨m,d,h1,g,l,s⟩:=H.own h A;obtain⟨d',G,I,B⟩:=R g;exact⟨m,d',h1,G,by rw[I];exact l,by rw[B];exact s⟩
 ·rw[r] at h;by_cases e:i=v/\p=b
  ·rw[az e] at h;cases h
  ·rw[au e] at h;obtain⟨h1,o',g,l⟩:=H.CL h;exact⟨by rw[bI e];exact h1,o',g,S l⟩
 ·by_cases e:i=v
  ·subst e;rw[kK];exact Vx _ (H.nd _)
  ·rw[nJ e];exact H.nd i
 ·have e: ¬ (i=v/\p=b):=λc=>by rw[show nh fr v b none i p=none from az c] at h;cases h
  have e': ¬ (i=v/\p'=b):=λc=>by rw[show nh fr v b none i p'=none from az c] at h';cases h'
  rw[r,au e] at A;rw[r,au e'] at O;rw[bI e] at h;rw[bI e'] at h';exact H.inj h h' A O
 ·obtain⟨d',h1, _, _, _,u⟩:=F h;have:=N λt=>t.2.2==(m:Int);rw[u,H.refs h1];unfold ff;dsimp only at this;by_cases e:m=n
  ·subst e;rw[az (by simp)] at this;rw[az rfl];omega
  ·rw[au (by simp;omega)] at this;rw[au e];omega
 ·have o:mK (kS tk v ((tk v).filter λt=> !(t.1==b))) (m:Int)+(if k=m then 1 else 0)=mK tk (m:Int):=by
   have:=N λt=>t.2.1==(m:Int);dsimp only at this;unfold mK
   grind
  by_cases e:k=m
  ·subst e;rw[Av K] at h;cases h;rw[az rfl] at o;have:=H.uA w;show x.2.2.2.2.1+ -1= _;omega
  ·rw[Ad e] at h;rw[au e] at o;have:=H.uA h;omega
theorem gone (H:HC fr tk ds gr) {v:Nat} {z:List DT} (hv:1<=v/\v<=16) (Q:tk v=[]) (J: ∀{n:Nat} {d:DT},ds[n]? =some d->d.1=4->d.2.1=(v:Int)->d.2.2.1=0)
 (K: ∀{n:Nat} {d:DT},ds[n]? =some d->d.1=4->d.2.1≠(v:Int)->z[n]? =some d)
 (C: ∀{n:Nat} {d:DT},z[n]? =some d->(ds[n]? =some d/\ ¬ (d.1=4/\d.2.1=(v:Int)))\/((d.1=0\/d.1=3\/d.1=5)/\d.2.2=(0,0,())/\0<=d.2.1/\d.2.1<=16))
 (R:nY (cQ gr (v:Int))):
 HC (λi p=>if i=v then none else fr i p) tk z (cQ gr (v:Int)):=by
 have D: ∀{i p b f},b_ (tk i) p=some (b,f)->i≠v:=λ{i p b f} h e=>by
  subst e;rw[Q] at h;unfold b_ at h;simp at h
 have L: ∀{a:Int} {i o:Nat} {f p:Int},b_ (tk i) p=some (a,f)->Tj gr fr tk a i o f->o≠v:=by
  rintro a i o f p l ⟨k,x,h1,g,j,r,M,E⟩ e;subst e;obtain⟨n,d,S,N,T,U⟩:=H.own M E;have h0:=J N T U;have F:=H.jg (H.CL l).1;have:=nK (q:=λt=>t.2.2==(n:Int)) (by omega:i<17) (H.JT l) (by simp[S]);have h1:=H.refs N;unfold ff at h1;omega
 have V: ∀{a:Int} {i o:Nat} {f p:Int},b_ (tk i) p=some (a,f)->Tj gr fr tk a i o f->Tj (cQ gr (v:Int)) (λi p=>if i=v then none else fr i p) tk a i o f:=by
  intro a i o f p l w;have W:=L l w;have X:=D l;obtain⟨k,x,h1,g,j,r,M,E⟩:=w;have hh:oK (v:Int) x=false:=by
   unfold oK;rw[j,r]
   grind
  have F:(cQ gr (v:Int))[k]? =some x:=by
   unfold cQ
   grind
  obtain⟨s,u,A⟩:=fo.1 h1;refine⟨k,x,fo.2 ⟨s,by unfold cQ;rw[CV];exact u,?_⟩,F,j,r,?_,E⟩
  ·rw[getD_some F];rw[getD_some g] at A;exact A
  grind
 have Y: ∀{n:Nat} {d:DT},z[n]? =some d->(d.1=0\/d.1=3\/d.1=5)->d.2.2=(0,0,())->ff tk (n:Int)=0:=λ{n d} h g j=>by
  rcases C6 (ff tk (n:Int)) with e|e
  ·exact e
  ·obtain⟨d',s,u⟩:=H.H_ e;by_cases O:d'.2.1=(v:Int)
   ·have:=H.refs s;have:=J s u O;omega
   ·have:=K s u O;rw[h] at this;cases this;omega
 refine⟨λ{i p f} h=>?_,λ{m d} h=>?_,λ{m d} h r=>?_,λ{i p f} h l=>?_,λ{i p c f} h=>?_,H.nd,λ{i p p' f} h h' l Z=>?_,λ{m d} h=>?_,λ{m y} h=>?_,by unfold cQ;rw[CV];exact H.gl,R⟩
 ·by_cases e:i=v
  ·rw[az e] at h;cases h
  ·rw[au e] at h;exact H.jg h
 ·rcases C h with ⟨h1, _⟩|⟨h1,g,j⟩
  ·exact H.kd h1
  ·exact⟨by omega,by rw[g],j⟩
 ·rcases C h with ⟨h1,g⟩|⟨h1, _⟩
  ·obtain⟨i,p,s,u,A⟩:=H.SS h1 r;exact⟨i,p,s,by rw[au (λe=>g ⟨r,by rw[<-s,e]⟩)];exact u,A⟩
  ·omega
 ·by_cases e:i=v
  ·rw[az e] at h;cases h
  ·rw[au e] at h;obtain⟨m,d,h1,g,j,r⟩:=H.own h l;exact⟨m,d,h1,K g j (λc=>e (BN (r.symm.trans c))),j,r⟩
 ·obtain⟨h1,o,g,j⟩:=H.CL h;exact⟨by rw[au (D h)];exact h1,o,g,V h j⟩
 ·by_cases e:i=v
  ·rw[az e] at h;cases h
  ·rw[au e] at h h';exact H.inj h h' l Z
 ·rcases C h with ⟨h1, _⟩|⟨h1,g, _⟩
  ·exact H.refs h1
  ·rw[Y h h1 g,g];rfl
 ·unfold cQ at h;rw[E4] at h;obtain⟨x,P,B⟩:=Option.map_eq_some_iff.1 h;by_cases e:oK (v:Int) x=true
  ·rw[az e] at B;subst B;have:mK tk (m:Int)=0:=by
    refine Ba λi t l=>?_;cases G:t.2.1==(m:Int) with
    |false=>rfl
    |true=>
     have G:t.2.1=(m:Int):=by simpa using G
     have I:=H.NG l;obtain⟨_,o, _,w⟩:=H.CL (a:=t.2.1) (f:=t.2.2) I;have W:=L (a:=t.2.1) (f:=t.2.2) I w;have X:=D (b:=t.2.1) (f:=t.2.2) I;obtain⟨k,x',h1,g,j,r, _⟩:=w;obtain⟨s, _⟩:=fo.1 h1;have ek:k=m:=BN (s.trans G);subst ek;rw[P] at g;cases g;unfold oK at e;rw[j,r] at e
     grind
   rw[this];rfl
  ·rw[au e] at B;subst B;exact H.uA P
end HC
set_option maxRecDepth 100000
open Go.RX D
def m8 (h:HS):HA:=λi p=>match h.g i with
 |some x=>if(bA h.s x.root false p).2.2.1=0 then some (bA h.s x.root false p).1 else none
 |none=>none
def my (h:HS) (i:Nat):List TK:=match h.g i with
 |some x=>x.tk
 |none=>[]
def jN (h:HS) (i:Nat) (p:Int):Int×Int×Int×Unit:=match h.g i with
 |some x=>bA h.s x.root false p
 |none=>(0,0,4,())
theorem bT {h:HS} {i:Nat} {x:GV} (a:h.g i=some x) (p:Int):jN h i p=bA h.s x.root false p:=by grind[jN]
theorem f_ {h:HS} {i:Nat} (a:h.g i=none) (p:Int):jN h i p=(0,0,4,()):=by grind[jN]
theorem rK (h:HS) (i:Nat) (p:Int):m8 h i p=if(jN h i p).2.2.1=0 then some (jN h i p).1 else none:=by grind[m8,jN]
structure zQ (h h':HS) (P:Nat->Int->Prop):Prop where
 to: ∀{i:Nat} {q:Int},¬ P i q->jN h' i q=jN h i q
theorem zQ.refl (h:HS) (P:Nat->Int->Prop):zQ h h P:=⟨λ_=>rfl⟩
theorem zQ.of {h h':HS} (a:h'.s=h.s) (b:h'.g=h.g) (P:Nat->Int->Prop):zQ h h' P:=⟨by grind[jN]⟩
theorem zQ.trans {h1 c d:HS} {P:Nat->Int->Prop} (a:zQ h1 c P) (b:zQ c d P):zQ h1 d P:=⟨λe=>(b.to e).trans (a.to e)⟩
structure KD (s s':WD):Prop where
 k4: ∀{n:Nat} {d:DT},s.2[n]? =some d->d.1=4-> ∃d',s'.2[n]? =some d'/\(d'.1=4\/d'.1=5)
 k5: ∀{n:Nat} {d:DT},s.2[n]? =some d->d.1=5-> ∃d',s'.2[n]? =some d'/\d'.1=5
theorem KD.refl {s s':WD} (h:s'.2=s.2):KD s s':=⟨by grind,by grind⟩
theorem KD.trans {s t u:WD} (a:KD s t) (b:KD t u):KD s u:=by
 refine⟨λh1 e=>?_,λh1 f=>?_⟩
 ·obtain⟨d',d,c⟩:=a.k4 h1 e;rcases c with c|c
  ·exact b.k4 d c
  ·obtain:=b.k5 d
   grind
 ·obtain⟨d',d,c⟩:=a.k5 h1 f;exact b.k5 d c
theorem KD.set {s:WD} {W:List Int} {n:Nat} {d0 d1:DT} (h0:s.2[n]? =some d0) (a:d0.1=4->d1.1=4\/d1.1=5) (b:d0.1=5->d1.1=5):KD s (W,s.2.set n d1):=by
 refine⟨λh k=>?_,λh k=>?_⟩
 grind
 grind
theorem sq.kd {P:Int->Int->Prop} {o:Int} {g g':Gh} {s s':WD} (C:sq P o g g' s s'):KD s s':=by
 refine⟨λ{n d} h1 a=>⟨d,C.kp.ks h1 a,.inl a⟩,λh1=>?_⟩;obtain:=C.kk h1
 grind
def uf (gh dw:Gh) (s s':WD):Prop:=(∀(f:Int) (v:Int×Nat×Int),gh f=some v->dw f=some v\/iB s' f)/\ ∀f,iB s f->iB s' f
theorem uf.refl (gh:Gh) (s:WD):uf gh gh s s:=⟨by grind,λ_ h=>h⟩
theorem uf.trans {a b c:Gh} {s t u:WD} (h:uf a b s t) (k:uf b c t u):uf a c s u:=⟨λf v d=>(h.1 f v d).elim (k.1 f v) λc=> .inr (k.2 f c),λf c=>k.2 f (h.2 f c)⟩
theorem sq.gks {P:Int->Int->Prop} {o:Int} {g g':Gh} {s s':WD} (C:sq P o g g' s s'):uf g g' s s':=⟨λ_ _ h=>C.gk h,λ_ c=>c.kept C.kp⟩
theorem iB.kd {s s':WD} {f:Int} (h:iB s f) (K:KD s s') (b: ∀k:Int,0<=k->k<16->dJ s'.1 (16*f+k)=dJ s.1 (16*f+k)):iB s' f:=by
 obtain⟨h0,d,h1,a,c⟩:=h;obtain⟨d',e,g⟩:=K.k5 h1 a;exact⟨h0,by grind⟩
theorem uf.kd {g:Gh} {s s':WD} (K:KD s s') (a: ∀{n:Nat} {d:DT},s.2[n]? =some d->d.1=5-> ∀k:Int,0<=k->k<16->dJ s'.1 (16*(n:Int)+k)=dJ s.1 (16*(n:Int)+k)):uf g g s s':=⟨by grind,λf c=>by
 refine c.kd K λk0=>?_;obtain⟨⟩:=c
 grind⟩
structure uj (h h':HS) (P:Nat->Int->Prop) (f:Int):Prop where
 pg:zQ h h' P
 ws: ∀{m:Nat} {d d':DT},h.s.2[m]? =some d->d.1=4->h'.s.2[m]? =some d'->d'.1=4->(m:Int)≠f-> ∀k:Int,0<=k->k<16->dJ h'.s.1 (16*(m:Int)+k)=dJ h.s.1 (16*(m:Int)+k)
 kd:KD h.s h'.s
theorem uj.refl (h:HS) (P:Nat->Int->Prop) (f:Int):uj h h P f:=⟨zQ.refl h P,by simp,.refl rfl⟩
theorem uj.mono {h h':HS} {P b:Nat->Int->Prop} {f:Int} (a:uj h h' P f) (d: ∀{i:Nat} {q:Int},P i q->b i q):uj h h' b f:=⟨⟨λe=>a.pg.to λc=>e (d c)⟩,a.ws,a.kd⟩
theorem uj.trans {h1 d e:HS} {P:Nat->Int->Prop} {f:Int} (a:uj h1 d P f) (b:uj d e P f):uj h1 e P f:=by
 refine⟨zQ.trans a.pg b.pg,λg h l m i k k0 j=>?_,a.kd.trans b.kd⟩;obtain⟨d2,x1,c⟩:=a.kd.k4 g h;rcases c with c|c
 ·rw[b.ws x1 c l m i k k0 j,a.ws g h x1 c i k k0 j]
 ·obtain:=b.kd.k5 x1
  grind
structure HI (gh:Gh) (h:HS):Prop where
 inv:Inv gh h.s
 rt:Rt gh
 nl:zO gh h.s
 sz:h.s.1.length=16*h.s.2.length
 jg: ∀{i:Nat} {x:GV},h.g i=some x->1<=i/\i<=16
 root: ∀{i:Nat} {x:GV},h.g i=some x->gh x.root=some ((i:Int),3,0)
 own: ∀{f o y:Int},gh f=some (o,3,y)-> ∃(i:Nat) (x:GV),(i:Int)=o/\h.g i=some x
 hc:HC (m8 h) (my h) h.s.2 h.gr
theorem cR {h:HS} {i:Nat} {x:GV} (a:h.g i=some x) (p:Int):m8 h i p=if(bA h.s x.root false p).2.2.1=0 then some (bA h.s x.root false p).1 else none:=by grind[m8]
theorem gf {h:HS} {i:Nat} (a:h.g i=none) (p:Int):m8 h i p=none:=by grind[m8]
theorem gi {h:HS} {i:Nat} {x:GV} (a:h.g i=some x):my h i=x.tk:=by grind[my]
theorem abp (h:HS) (v:Int):xE h v=my h v.toNat:=rfl
section
variable {gh dw:Gh} {h:HS}
namespace HI
theorem rdy (H:HI gh h) {Q:Sys} (i:M_ Q h.s):BQ Q h where
 Nb:=i
 sz:=by rw[H.sz];simp
 rr:=λv e=>by
  obtain⟨x,d,f⟩:=cg e;have:=H.inv.vf (H.root d)
  grind
 pg:=λv t j=>by
  have:=H.hc.jg (H.hc.CL (H.hc.NG j)).1;omega
 new:=λv a b c x d e h0=>by
  obtain⟨x',g,f, _⟩:=cg e;rw[d] at g;cases g;rw[f] at h0;have k:=H.root d;have l:=(H.inv.map k h0).2;have:m8 h v.toNat b=none:=by rw[cR d,au (by grind)]
  have:=H.hc.Yp this;rw[gi d] at this
  grind
theorem yp (H:HI gh h) {v:Nat} {x:GV} (b:h.g v=some x) {p:Int} {s1 s':WD} (h1: ∀{i:Nat} {x:GV},h.g i=some x-> ∀q,bA s1 x.root false q=bA h.s x.root false q) (d:Inv gh s1) (C:sq (n9 (v:Int) 0 p) (v:Int) gh dw s1 s') {y:Option Int}
 (f:(if(bA s' x.root false p).2.2.1=0 then some (bA s' x.root false p).1 else none)=y) {h':HS} (j:h'.s=s') (k: ∀i,(h'.g i).map GV.root=(h.g i).map GV.root):m8 h'=nh (m8 h) v p y:=by
 funext i q;have hi:=k i;cases a:h.g i with
 |none=>
  rw[a] at hi;have l:=by simpa using hi
  rw[gf l];have m: ¬ (i=v/\q=p):=λc=>by grind
  rw[bI m,gf a]
 |some z=>
  obtain⟨z',n,o⟩: ∃z',h'.g i=some z'/\z'.root=z.root:=by
   cases hc:h'.g i with
   |none
   |some=>grind
  rw[cR n,j,o];by_cases e:i=v/\q=p
  ·obtain⟨rfl,rfl⟩:=e;rw[b] at a;cases a;rw[fB,f]
  ·rw[bI e,cR a];have r:bA s' z.root false q=bA h.s z.root false q:=by
    rw[<-h1 a];refine d.yM C.inv C.Dd C.root (H.root a) λc=>e ?_;obtain⟨c1,c2⟩:=c;exact⟨by omega,c2⟩
   rw[r]
theorem F1 (H:HI gh h) {v:Nat} {p:Int} {s1 s':WD} (h1: ∀{i:Nat} {x:GV},h.g i=some x-> ∀q,bA s1 x.root false q=bA h.s x.root false q) (b:Inv gh s1) (C:sq (n9 (v:Int) 0 p) (v:Int) gh dw s1 s') {h':HS} (d:h'.s=s') (k: ∀i,(h'.g i).map GV.root=(h.g i).map GV.root):zQ h h' (λi q=>i=v/\q=p):=by
 refine⟨λ{i q} e=>?_⟩;cases a:h.g i with
 |none=>
  unfold jN;grind
 |some z=>
  obtain⟨z',f,j⟩: ∃z',h'.g i=some z'/\z'.root=z.root:=by
   cases hc:h'.g i with
   |none
   |some=>grind
  rw[bT f,bT a,d,j, <-h1 a];refine b.yM C.inv C.Dd C.root (H.root a) λc=>e ?_;obtain⟨c1,c2⟩:=c;exact⟨by omega,c2⟩
theorem base (H:HI gh h) {v:Nat} {p:Int} {s1 s':WD} (C:sq (n9 (v:Int) 0 p) (v:Int) gh dw s1 s') (e:s1.1.length=h.s.1.length/\s1.2.length=h.s.2.length) (nl:zO gh s1) {h':HS} (c:h'.s=s') (j: ∀i,(h'.g i).map GV.root=(h.g i).map GV.root)
 (hc:HC (m8 h') (my h') s'.2 h'.gr):HI dw h' where
 inv:=by rw[c];exact C.inv
 rt:=H.rt.dq C.root
 nl:=by
  rw[c];exact C.lg (λo q m a b=>a.2.trans b.2.symm) nl
 sz:=by
  rw[c,C.len.1,C.len.2,e.1,e.2];exact H.sz
 jg:=λ{i x} d=>by
  have hi:=j i;rw[d] at hi;cases hc:h.g i with
  |none=>grind
  |some=>exact H.jg hc
 root:=λ{i x} d=>by
  have hi:=j i;rw[d] at hi;cases hc:h.g i with
  |none=>grind
  |some=>
   rw[hc] at hi;have k:=by simpa using hi
   rw[k];exact C.root.to (H.root hc)
 own:=λ{f o y} l=>by
  obtain⟨i⟩:=H.own ((C.root o f y).1 l);cases hc:h'.g i with
  |none
  |some z=>grind
 hc:=by grind
theorem Cq (H:HI gh h) {s':WD} (B:Inv.fm gh h.s s') {h':HS} (a:h'.s=s') (b:h'.g=h.g) (P:Nat->Int->Prop):zQ h h' P:=by
 refine⟨λ{i q} _=>?_⟩;cases hi:h.g i with
 |none=>rw[f_ hi,f_ (by grind)]
 |some=>rw[bT hi,bT (by rw[b];exact hi),a];exact H.inv.dT B (H.root hi) q
theorem side (H:HI gh h) {s':WD} (B:Inv.fm gh h.s s') {zB:List GT} {MP:List Po.PT} (hc:HC (m8 h) (my h) s'.2 zB):HI gh {s:=s',g:=h.g,gr:=zB,po:=MP} where
 inv:=H.inv.beside B
 rt:=H.rt
 nl:=Inv.mY B H.nl
 sz:=by
  rw[B.len.1,B.len.2];exact H.sz
 jg:=H.jg
 root:=H.root
 own:=H.own
 hc:=by
  have e:m8 {s:=s',g:=h.g,gr:=zB,po:=MP}=m8 h:=by
   funext i p;cases a:h.g i with
   |none=>
    rw[gf a];exact gf (h:={s:=s',g:=h.g,gr:=zB,po:=MP}) a p
   |some=>
    rw[cR a,cR (h:={s:=s',g:=h.g,gr:=zB,po:=MP}) a];rw[H.inv.dT B (H.root a)]
  rw[e];exact hc
end HI
end
set_option maxRecDepth 100000
open Go.RX D
theorem rt4 {o r:Int} (a:1<=o/\o<=16) (b:0<=r/\r<=65535):dR 4 o r 0=true:=by unfold dR jD;simp;omega
theorem rt5 {o:Int} (a:0<=o/\o<=16):dR 5 o 0 0=true:=by unfold dR jD;simp;omega
theorem Hd {o:Int} (a:1<=o/\o<=16):aP 4 o zD=((4,o,0,0,()),0):=by
 have b:dR 0 0 0 0=true:=by decide
 have e:gN 0 0 0 0 4 o=0:=by
  unfold gN;rw[b,au (by decide),au (by decide),az (by decide),au (show ¬ (4:Int)=5 by decide),rt4 a ⟨by decide,by decide⟩,au (by decide)]
 unfold aP zD mF kV;dsimp only;rw[e];rfl
theorem L8 {o:Int} (a:1<=o/\o<=16):aP 0 0 (4,o,0,0,())=(zD,0):=by
 have e:gN 4 o 0 0 0 0=0:=by
  unfold gN;rw[rt4 a ⟨by decide,by decide⟩,au (by decide),au (by decide),az (by decide),au (show ¬ (0:Int)=5 by decide)];decide
 unfold aP mF kV;dsimp only;rw[e];rfl
theorem Bc {o v:Int} (a:1<=o/\o<=16):aP 5 v (4,o,0,0,())=((5,o,0,0,()),0):=by
 have e:gN 4 o 0 0 5 v=0:=by
  unfold gN;rw[rt4 a ⟨by decide,by decide⟩,au (by decide),au (by decide),az (by decide),az rfl,rt5 ⟨by omega,a.2⟩,au (by decide)]
 unfold aP mF kV;dsimp only;rw[e];rfl
theorem He {o:Int} (a:0<=o/\o<=16):aP 0 0 (5,o,0,0,())=(zD,0):=by
 have e:gN 5 o 0 0 0 0=0:=by
  unfold gN;rw[rt5 a,au (by decide),au (by decide),az (by decide),au (show ¬ (0:Int)=5 by decide)];decide
 unfold aP mF kV;dsimp only;rw[e];rfl
theorem aaB {o r x:Int} (a:1<=o/\o<=16) (b:0<=r/\r<=65535) (c:0<=r+x/\r+x<=65535):gX x (4,o,r,0,())=((4,o,r+x,0,()),0):=by
 have e:wK 4 o r 0 x=0:=by
  unfold wK;rw[rt4 a b,au (by decide),az (.inr (.inr rfl)),au (by omega)]
 unfold gX qt;dsimp only;rw[e];rfl
theorem yb {ds:List DT} {n:Nat} {d d':DT} {G:DT->DT×Int} (h:ds[n]? =some d) (a:G d=(d',0)):dF ds (n:Int) G=ds.set n d'/\vd ds (n:Int) G=0:=by
 have c:n<ds.length:=(Ae.1 h).1;have b:ds.getD n zD=d:=by rw[B2,h];rfl
 constructor
 ·rw[o_ (by omega)];show(if(G (ds.getD n zD)).2=0 then ds.set n (G (ds.getD n zD)).1 else ds)= _;rw[b,a,az rfl]
 ·rw[ym (by omega)];show(G (ds.getD n zD)).2=0;rw[b,a]
theorem zm {ds:List DT} {o:Int} (h:0<cA ds 0) (c: ∀d∈ds,d.1=0->d=zD) (e:1<=o/\o<=16): ∃i:Nat,i<ds.length/\ds[i]? =some zD/\fc ds 4 o=(i:Int)/\dQ ds 4 o=0/\dB ds 4 o=ds.set i (4,o,0,0,()):=by
 obtain⟨i,d,h1,f,a,g⟩:=DX h;have j:d=zD:=c d (BJ a) g;subst j;obtain⟨k,b⟩:=yb a (Hd e);refine⟨i,f,a,?_,?_,?_⟩
 ·unfold fc;rw[h1];dsimp only;rw[az b]
 ·unfold dQ;rw[au (by omega),h1];exact b
 ·unfold dB;rw[h1];exact k
theorem uX {ds:List DT} {y o:Int} (h:dQ ds y o=0):0<cA ds 0:=by
 rcases C6 (cA ds 0) with e|e
 ·unfold dQ at h;rw[WM e] at h;dsimp only at h;split at h<;>exact absurd h (by decide)
 ·exact e
theorem RM {ds:List DT} {n:Nat} {d d':DT} (h:ds[n]? =some d):(ds.set n d').set n d=ds:=by
 apply E5;intro i;have a:n<ds.length:=(Ae.1 h).1;by_cases e:n=i
 ·subst e;rw[Av (by rw[B1];exact a),h]
 ·rw[Ad e,Ad e]
theorem pa {ds:List DT} {n:Nat} {d:DT} (h:ds[n]? =some d):qp ds (n:Int)=d:=by
 have a:n<ds.length:=(Ae.1 h).1;unfold qp;rw[au (by omega)];show ds.getD n zD=d;rw[B2,h];rfl
theorem Kept.hc {fr:HA} {tk:Nat->List TK} {s s':WD} {gr:List GT} (H:HC fr tk s.2 gr) (K:Kept s s'):HC fr tk s'.2 gr:=
 H.FY K.ks λ{n d} h=>(K.nw h).elim .inl λe=> .inr ⟨by omega,e.2.1,by omega,e.2.2.2⟩
theorem wc (r:Int):gD .i64 0 r=0:=by
 have h: ∀x:BitVec 64,(Dn 64 0) &&& x=0#64:=λx=>by
  rw[show Dn 64 0=0#64 from rfl,BitVec.zero_and]
 show CP.wrap (((Dn 64 0) &&& ~~~(Dn 64 r)).toNat:Int)=0;rw[h];rfl
theorem B7 {ws:List Int} {a:Int} (h:(aM ws a).1=true):ua (B (dJ ws a)).toNat=true:=by
 unfold aM eY Hs at h;cases b:ua (B (dJ ws a)).toNat with
 |true=>rfl
 |false=>rw[b] at h;simp at h
theorem sO {ws:List Int} {p t f:Int} {l:Nat} {fd:FT} (hi:ri ws (dY f p (l:Int))=true) (a:ua (B (dJ ws (dY f p (l:Int)))).toNat=true):
 bG ws p t (f,(l:Int),fd)=tookS f p t (l:Int) fd (aM ws (dY f p (l:Int))).1 (aM ws (dY f p (l:Int))).2.1 (aM ws (dY f p (l:Int))).2.2.1 (aM ws (dY f p (l:Int))).2.2.2.1:=by
 unfold bG;dsimp only;rw[au (by omega),a,au ?_]
 ·rfl
 ·unfold zM;rw[az hi];decide
namespace Inv
variable {g:Gh} {s:WD}
theorem Cr (I:Inv g s) {o r p t:Int} (d:g r=some (o,3,0)) (b:0<=p/\p<65536): ∀(n:Nat) {j:Nat} {f:Int},j+n=3->g f=some (o,j,px (j+1) p)->lG s.1 r p t n=(f,(j:Int),(0,0,0,0,()))
 |0,j,f,h,a=>by
  have:j=3:=by omega
  subst this;rw[Z1 b] at a;rw[I.inj a d];rfl
 |n+1,j,f,h,a=>by
  obtain⟨f',h1,e⟩:=I.EV a (by omega);have i:g f'=some (o,j+1,px (j+1+1) p):=h1;obtain⟨k,m,u⟩:=I.vf h1;obtain⟨c1,c2, _⟩:=I.vf a;have q:=I.Cr (t:=t) d b n (j:=j+1) (by omega) i;have c:=k8 ⟨k,m⟩ b (l:=j+1) (by omega);have v:=eH p (j+1);rw[lG,q,sO (by rw[c];exact iZ (by omega) (by omega)) (by rw[c];exact B7 (by rw[e];rfl)),c,e];unfold tookS cj;dsimp only;rw[au (by decide),az ?_]
  ·congr 2;rw[bD (by omega) (by omega)];omega
  ·have:fH true 0 false f=true:=dE ⟨c1,c2⟩;rw[this];simp
   try omega
theorem Vy (I:Inv g s) {o r p:Int} (u:g r=some (o,3,0)) (b:0<=p/\p<65536) {f:Int} {j:Nat} (a:dC g s o p f j):
 ((m_ s.1 r p 0).1=(l9 p j (aM s.1 (16*f+px j p % 16))).1/\(m_ s.1 r p 0).2.1=(l9 p j (aM s.1 (16*f+px j p % 16))).2.1/\((m_ s.1 r p 0).2.2.2.1=0<->(l9 p j (aM s.1 (16*f+px j p % 16))).2.2.1=0)):=by
 have A:=I.kd a.1;have C:=A.2.2.2.2.2;obtain⟨D,E,T⟩:=I.vf a.1;obtain⟨F,G,U⟩:=I.vf u;have hi:=eH p j;have d:=k8 ⟨D,E⟩ b C;have v:=a.2;have H:=I.wf a.1 hi.1 hi.2;have J:=I.leaf a.1 hi.1 hi.2;have i:=lx s.1 (16*f+px j p % 16);have K:uw r p 0=false:=by
  unfold uw;have L:dY r p 3=16*r+px 3 p % 16:=k8 ⟨F,G⟩ b (l:=3) (by omega);have V:=eH p 3;rw[L,decide_eq_false (by omega),decide_eq_false (by omega),decide_eq_false (by omega)];rfl
 have M:m_ s.1 r p 0=(lG s.1 r p 0 4).2.2:=au (by rw[K];decide);have N:=I.Cr (t:=0) u b (3 - j) (by omega) a.1;have O:ri s.1 (dY f p (j:Int))=true:=by rw[d];exact iZ (by omega) (by omega)
 have P:ua (B (dJ s.1 (dY f p (j:Int)))).toNat=true:=by
  rw[d];cases hb:(aM s.1 (16*f+px j p % 16)).1 with
  |true=>exact B7 hb
  |false=>rw[H hb];decide+kernel
 have w:lG s.1 r p 0 (3 - j+1)=tookS f p 0 (j:Int) (0,0,0,0,()) (aM s.1 (16*f+px j p % 16)).1 (aM s.1 (16*f+px j p % 16)).2.1 (aM s.1 (16*f+px j p % 16)).2.2.1 (aM s.1 (16*f+px j p % 16)).2.2.2.1:=by
  rw[lG,N,sO O P,d]
 generalize aM s.1 (16*f+px j p % 16)=e at*
 obtain⟨ep,er,el,ef,W⟩:=e;dsimp only at*
 have k: ∀x:FT,tookS f p 0 (j:Int) (0,0,0,0,()) ep er el ef=(f,-1,x)->m_ s.1 r p 0=x:=λx y=>by
  rw[M];have h1:(lG s.1 r p 0 (3 - j+1)).2.1= -1:=by rw[w,y]
  have:=xd h1 j;rw[show 3 - j+1+j=4 by omega] at this;rw[this,w,y]
 cases ep with
 |false=>
  rw[k (wI (j:Int) 4) (by unfold tookS;rfl)];unfold l9 wI;simp
 |true=>
  have c:fH true er el ef=false:=v;obtain⟨X,Y,Q,k4,k5⟩:=lW.1 i;rcases J rfl v with ⟨rfl,m⟩|⟨rfl,m,z⟩
  ·subst m;have R:er>0:=by
    refine B4 λhc=>?_;have:er=0:=by omega
    subst this;have:=dE ⟨Q,k4⟩;unfold dG cj at this;dsimp only at this;rw[this] at c;cases c
   have n:gE true er false ef 0=true:=by
    unfold gE;rw[i];have q:gD .i64 0 er=0:=wc er;rw[q];simp;omega
   rw[k (xD 0 0 ef true er false ef) (by
    unfold tookS;rw[au (by decide),c,au (by decide),au (by decide),az (by simp;omega)];rfl)]
   unfold l9 xD;rw[au (by omega),az n,az rfl,au (by decide)];simp
  ·have z:ef % 16=0:=z;subst m;have R:er>0:=by rcases k5 with h|h;exact h;cases h
   have n:gE true er true ef 0=true:=by
    unfold gE;rw[i];have q:gD .i64 0 er=0:=wc er;rw[q];simp;omega
   have S:aB .i64 ef (bH p 16)=ef+p % 16:=by
    have:bH p 16=p % 16:=by unfold bH;exact Int.tmod_eq_emod_of_nonneg b.1
    rw[this,ax (by omega) (by omega)]
   rw[k (xD 1 0 (ef+p % 16) true er true ef) (by
    unfold tookS;rw[au (by decide),c,au (by decide),az (by decide),S];rfl)]
   unfold l9 xD;rw[au (by omega),az n,az rfl,az rfl];simp
end Inv
set_option maxRecDepth 100000
open Go.RX D
theorem Inv.OW {g:Gh} {s:WD} (I:Inv g s) (nl:zO g s) {o r p t:Int} (c:g r=some (o,3,0)) (b:0<=p/\p<65536) (Q:0<=t/\t<=7):
 if(bA s r false p).2.2.1=0 then m_ s.1 r p t=((bA s r false p).1,(bA s r false p).2.1,0,(if gE true (bA s r false p).2.1 false (bA s r false p).1 t=true then 0 else 7),()) else(m_ s.1 r p t).2.2.2.1=4:=by
 obtain⟨f,j, _,a⟩:=I.mn c b;rw[I.fI c b a];have v:=I.kd a.1;have w:=v.2.2.2.2.2;obtain⟨y,z,R⟩:=I.vf a.1;obtain⟨A,C,S⟩:=I.vf c;have hi:=eH p j;have d:=k8 ⟨y,z⟩ b w;have i:=a.2;have D:=I.wf a.1 hi.1 hi.2;have E:=nl a.1 hi.1 hi.2;have F:=I.leaf a.1 hi.1 hi.2;have G:=lx s.1 (16*f+px j p % 16);have H:uw r p t=false:=by
  unfold uw;have J:dY r p 3=16*r+px 3 p % 16:=k8 ⟨A,C⟩ b (l:=3) (by omega);have T:=eH p 3;rw[J,decide_eq_false (by omega),decide_eq_false (by omega),decide_eq_false (by omega)];rfl
 have K:m_ s.1 r p t=(lG s.1 r p t 4).2.2:=au (by rw[H];decide);have L:=I.Cr (t:=t) c b (3 - j) (by omega) a.1;have M:ri s.1 (dY f p (j:Int))=true:=by rw[d];exact iZ (by omega) (by omega)
 have N:ua (B (dJ s.1 (dY f p (j:Int)))).toNat=true:=by
  rw[d];cases hb:(aM s.1 (16*f+px j p % 16)).1 with
  |true=>exact B7 hb
  |false=>rw[D hb];decide+kernel
 have n:lG s.1 r p t (3 - j+1)=tookS f p t (j:Int) (0,0,0,0,()) (aM s.1 (16*f+px j p % 16)).1 (aM s.1 (16*f+px j p % 16)).2.1 (aM s.1 (16*f+px j p % 16)).2.2.1 (aM s.1 (16*f+px j p % 16)).2.2.2.1:=by
  rw[lG,L,sO M N,d]
 generalize aM s.1 (16*f+px j p % 16)=e at*
 obtain⟨ep,er,el,ef,U⟩:=e;dsimp only at*
 have q: ∀x:FT,tookS f p t (j:Int) (0,0,0,0,()) ep er el ef=(f,-1,x)->m_ s.1 r p t=x:=λx u=>by
  rw[K];have h1:(lG s.1 r p t (3 - j+1)).2.1= -1:=by rw[n,u]
  have:=xd h1 j;rw[show 3 - j+1+j=4 by omega] at this;rw[this,n,u]
 cases ep with
 |false=>
  rw[q (wI (j:Int) 4) (by unfold tookS;rfl)];unfold l9 wI;simp
 |true=>
  have k:fH true er el ef=false:=i;obtain⟨V,W,O,k4,k5⟩:=lW.1 G;have P:=E rfl i;subst P;have m:el=false:=by
   rcases F rfl i with ⟨_,m⟩|⟨h, _⟩
   ·exact m
   ·exact absurd h (by decide)
  subst m;have X:er>0:=by
   refine B4 λhc=>?_;have:er=0:=by omega
   subst this;have:=dE ⟨O,k4⟩;unfold dG cj at this;dsimp only at this;rw[this] at k;cases k
  rw[q (xD 0 t ef true er false ef) (by
   unfold tookS;rw[au (by decide),k,au (by decide),au (by decide),az (by simp;omega)];rfl)]
  unfold l9 xD;rw[az rfl,au (show ¬ ((0:Nat)=1) by decide)];dsimp only;rw[az rfl,au (by omega)];split<;>rfl
theorem L9 {fr:HA} {v:Nat} {p:Int} {y:Option Int} (h:fr v p=y):nh fr v p y=fr:=by
 funext i q;unfold nh;split
 ·rename_i c;rw[c.1,c.2,h]
 ·rfl
section
variable {gh:Gh} {h:HS}
namespace HI
theorem po (H:HI gh h) (MP:List Po.PT):HI gh (Ar h MP):=
 ⟨H.inv,H.rt,H.nl,H.sz,H.jg,H.root,H.own,H.hc⟩
theorem grs (H:HI gh h) {zB:List GT} (hc:HC (m8 h) (my h) h.s.2 zB):HI gh (x9 h zB):=
 ⟨H.inv,H.rt,H.nl,H.sz,H.jg,H.root,H.own,hc⟩
theorem Zt (H:HI gh h) (v a:Int):HI gh (fM h v a):=by
 unfold fM;split
 ·exact H
 ·refine H.grs (H.hc.OU (yP _ _ _) (H.hc.gk.rev _ _) (λ{n x y} b c=>?_) λ{n x} b g=>?_)
  ·unfold kX at c;by_cases e:qH h.gr a v=0
   ·rw[az e] at c;by_cases en:a.toNat=n
    ·subst en;rw[Av (Ae.1 b).1] at c;cases c;unfold qH at e;cases d:lN h.gr a with
     |none=>rw[d] at e;exact absurd (show(4:Int)=0 from e) (by decide)
     |some k=>
      rw[d] at e;dsimp only at e;obtain⟨i,j,l⟩:=fo.1 d;have f:a.toNat=k:=by omega
      rw[f] at b;rw[getD_some b] at e;have:=(H.hc.gk x (BJ b)).2;split at e
      ·exact absurd e (by decide)
      ·split at e
       ·exact absurd e (by decide)
       ·show(0:Int)= _;omega
    ·rw[Ad en,b] at c;cases c;rfl
   ·rw[au e,b] at c;cases c;rfl
  ·unfold kX;by_cases e:qH h.gr a v=0
   ·rw[az e];by_cases en:a.toNat=n
    ·subst en;unfold qH at e;cases d:lN h.gr a with
     |none=>rw[d] at e;exact absurd (show(4:Int)=0 from e) (by decide)
     |some k=>
      rw[d] at e;dsimp only at e;obtain⟨i,j,l⟩:=fo.1 d;have f:a.toNat=k:=by omega
      rw[f] at b;rw[getD_some b] at e;rw[az g] at e;split at e
      ·exact absurd e (by decide)
      ·exact absurd e (by decide)
    ·rw[Ad en];exact b
   ·rw[au e];exact b
theorem offer (H:HI gh h) (v a b c:Int):HI gh (iy h v a b c):=by
 unfold iy;split
 ·have j: ∀{n:Nat} {x:GT},kY h.gr v a b=0->(kh h.gr v a b).toNat=n->h.gr[n]? =some x->x=zG:=λ{n x} e en d=>by
   unfold kh at en;rw[az e] at en;have q:db h.gr e8 h.gr.length≠[]:=λhc=>by
    unfold kY at e;split at e
    ·exact absurd e (by decide)
    ·split at e
     ·exact absurd e (by decide)
     ·exact absurd e (by decide)
   obtain⟨y,l,k⟩:=List.exists_cons_of_ne_nil q;have m:y∈db h.gr e8 h.gr.length:=by rw[k];exact Bv
   rw[k] at en;have en:y.toNat=n:=en;unfold db at m;obtain⟨i,hi,rfl⟩:=B3.1 m;have o:=(B5.1 hi).2;have r:i=n:=en;subst r;rw[getD_some d] at o;simpa[e8] using o
  have s:(jQ h.gr v a b (c==1)).length=h.gr.length:=by
   unfold jQ;split
   ·rw[B1]
   ·rfl
  refine H.grs (H.hc.OU s (H.hc.gk.off _ _ _ _) (λ{n x y} d f=>?_) λ{n x} d p=>?_)
  ·unfold jQ at f;by_cases e:kY h.gr v a b=0
   ·rw[az e] at f;by_cases en:(kh h.gr v a b).toNat=n
    ·have g:=j e en d;subst en;rw[Av (Ae.1 d).1] at f;cases f;rw[g];rfl
    ·rw[Ad en,d] at f;cases f;rfl
   ·rw[au e,d] at f;cases f;rfl
  ·unfold jQ;by_cases e:kY h.gr v a b=0
   ·rw[az e];by_cases en:(kh h.gr v a b).toNat=n
    ·have g:=j e en d;rw[g] at p;exact absurd p (by decide)
    ·rw[Ad en];exact d
   ·rw[au e];exact d
 ·exact H
theorem IZ (H:HI gh h) {v:Int} (l:aW h.g v=true) {a b:Int} (e:oW h v a b=0): ∃dw,HI dw (jT h v a b)/\uj h (jT h v a b) (λi q=>i=v.toNat/\q=a) (-1)/\(jN h v.toNat a).2.2.1=0/\jN (jT h v a b) v.toNat a=((jN h v.toNat a).1,b,0,())/\(jT h v a b).g=h.g/\uf gh dw h.s (jT h v a b).s:=by
 obtain⟨x,c,o,hv, _⟩:=cg l;unfold oW at e;unfold jT;split at e
 ·exact absurd e (by decide)
 rename_i c1;rw[au c1];split at e
 ·exact absurd e (by decide)
 rename_i c2;rw[au c2];split at e
 ·exact absurd e (by decide)
 rename_i c3;rw[au c3];rw[o] at e ⊢;obtain⟨n,rfl⟩: ∃n:Nat,v=(n:Int):=⟨v.toNat,hv.symm⟩;have c:h.g n=some x:=c;obtain⟨u,g',C,f,j, _⟩:=H.inv.sM (H.root c) e;have p:m8 h n a=some (bA h.s x.root false a).1:=by rw[cR c,az f]
 have k:=H.yp c (s1:=h.s) (λ_ _=>rfl) H.inv C (y:=some (bA h.s x.root false a).1) (by rw[j,az rfl]) (h':=bC h (rA h.s (n:Int) x.root false a b)) rfl (λ_=>rfl);rw[L9 p] at k;rw[show((n:Int)).toNat=n from rfl];have r:(bC h (rA h.s (n:Int) x.root false a b)).g n=some x:=c;refine⟨g',H.base C ⟨rfl,rfl⟩ H.nl rfl (λ_=>rfl) ?_,⟨H.F1 (λ_ _=>rfl) H.inv C (h':=bC h (rA h.s (n:Int) x.root false a b)) rfl (λ_=>rfl),λ{m d d'} h1 t _ _ _=>C.kp.ws h1 t,C.kd⟩,by rw[bT c];exact f,by rw[bT c,bT r];exact j,rfl,C.gks⟩;rw[k];exact Kept.hc H.hc C.kp
theorem I0 {v a b:Int} (e:oW h v a b≠0):jT h v a b=h:=by
 unfold oW at e;unfold jT;split
 ·rfl
 rename_i c1;rw[au c1] at e;split
 ·rfl
 rename_i c2;rw[au c2] at e;split
 ·rfl
 rename_i c3;rw[au c3] at e;rw[Vh e];rfl
theorem sM (H:HI gh h) {v:Int} (c:aW h.g v=true) (a b:Int): ∃dw,HI dw (jT h v a b):=by
 by_cases e:oW h v a b=0
 ·obtain⟨g',d, _⟩:=H.IZ c e;exact⟨g',d⟩
 ·rw[I0 e];exact⟨gh,H⟩
end HI
end
set_option maxRecDepth 100000
open Go.RX D
section
variable {gh:Gh} {h:HS}
theorem iG {gh:Gh} {s s':WD} (I:Inv gh s) (a:s'.1.length=s.1.length/\s'.2.length=s.2.length)
 (g: ∀b:Int,dJ s'.1 b≠dJ s.1 b-> ∃(n:Nat) (d:DT),s.2[n]? =some d/\d.1≠3/\16*(n:Int)<=b/\b<16*(n:Int)+16)
 (i: ∀{n:Nat} {d d':DT},s.2[n]? =some d->s'.2[n]? =some d'->(d'=d\/(d.1≠3/\d'.1≠3/\(d'.1=0->d'=zD)))):Inv.fm gh s s' where
 len:=a
 ws:=λ{f o x k l} j h0 h1=>by
  refine B4 λm=>?_;obtain⟨n,d,t,u,v,w⟩:=g _ m;have y:=I.kd j;have e:f.toNat=n:=by omega
  grind
 tb:=λ{n d} h p=>by
  grind
 bt:=λh p=>by
  grind
 fz:=λd q h0=>by
  obtain⟨n,c⟩:=Bp q;have r:n<s.2.length:=by rw[<-a.2];exact(Ae.1 c).1
  have h':=BL r;rcases i h' c with e|⟨_, _,e⟩
  ·rw[e] at h0 ⊢;exact I.fz _ (BJ h') h0
  ·grind
theorem Be {ds:List DT} {n m:Nat} {d0 d1 d d':DT} (h0:ds[n]? =some d0) (h:ds[m]? =some d) (h':(ds.set n d1)[m]? =some d'):(m=n/\d=d0/\d'=d1)\/(m≠n/\d'=d):=by
 grind
namespace HI
theorem Tm (H:HI gh h) {i:Nat} {p f:Int} (b:m8 h i p=some f): ∃(n:Nat) (d:DT),f=(n:Int)/\h.s.2[n]? =some d/\d.1=4/\1<=d.2.1/\d.2.1<=16/\d=(4,d.2.1,(ff (my h) (n:Int):Int),0,()):=by
 obtain⟨n,d,h1,a,c⟩:=H.hc.at4 b;obtain⟨j,q,g,e, _⟩:=H.hc.SS a c;have:=H.hc.jg e;obtain:=H.hc.kd a;have k:=H.hc.refs a
 grind
structure abq (h h':HS) (v:Nat) (a b:Int) (f:Nat):Prop where
 g:h'.g=h.g
 gr:h'.gr=h.gr
 po:h'.po=h.po
 Wh:(jN h v a).2.2.1=4
 pg:jN h' v a=((f:Int),b,0,())
 fr:h.s.2[f]? =some zD
 f4:h'.s.2[f]? =some (4,(v:Int),0,0,())
 ef:uj h h' (λi q=>i=v/\q=a) (f:Int)
 zr: ∀k:Int,0<=k->k<16->dJ h'.s.1 (16*(f:Int)+k)=0
 ct:cA h.s.2 0<=cA h'.s.2 0+4
theorem OX (H:HI gh h) {v:Int} (V:aW h.g v=true) {a b:Int} (l:qz h v a b=0): ∃dw f,HI dw (jO h v a b)/\abq h (jO h v a b) v.toNat a b f/\jl h v=(f:Int)/\uf gh dw h.s (jO h v a b).s:=by
 obtain⟨x,o,J,hv,X,Y⟩:=cg V;unfold qz at l;unfold jO;by_cases K:a>=65536
 ·rw[az K] at l;exact absurd l (by decide)
 rw[au K] at l ⊢;by_cases L:b<1\/b>7
 ·rw[az L] at l;exact absurd l (by decide)
 rw[au L] at l ⊢;by_cases u:dQ h.s.2 4 v=0
 case neg=>rw[az u] at l;exact absurd l u
 rw[au (λe=>e u)] at l ⊢;obtain⟨n,Z,r,t1,t2,t3⟩:=zm (uX u) H.inv.fz ⟨X,Y⟩;have M:jl h v=(n:Int):=t1;have p:kr h v=(h.s.1,h.s.2.set n (4,v,0,0,())):=by unfold kr;rw[t3]
 have hM:qy h v a b=jv (kr h v) v (a6 h.g v) false a (jl h v) b:=rfl;rw[au (λe=>e l)];rw[hM,M,J];rw[M,J] at l;obtain⟨m,rfl⟩: ∃m:Nat,v=(m:Int):=⟨v.toNat,hv.symm⟩;have o:h.g m=some x:=o;have hlen:=H.sz;have B:Inv.fm gh h.s (kr h (m:Int)):=by
  rw[p];refine iG H.inv ⟨rfl,by rw[B1]⟩ (λb hb=>absurd rfl hb) λ{i d d'} h1 w=>?_;rcases Be r h1 w with ⟨_,e1,A⟩|⟨_,A⟩
  ·exact .inr ⟨by rw[e1];decide,by rw[A];exact(show ¬ (4:Int)=3 by decide),λc=>by rw[A] at c;exact absurd c (show ¬ (4:Int)=0 by decide)⟩
  ·exact .inl A
 have D:=H.inv.beside B;obtain⟨hp,g',C,N,q2,O, _,⟨f0,j,hE,hc⟩, _⟩:=D.map (H.root o) l;have hj:=(D.kd hE.1).2.2.2.2.2;have Wi:cA (kr h (m:Int)).2 0+1=cA h.s.2 0:=by
  rw[p];have:=ky (d':=((4:Int),(m:Int),(0:Int),(0:Int),())) r 0;exact this
 have q_:m8 h m a=none:=by
  rw[cR o, <-H.inv.dT B (H.root o),au (by rw[O];decide)]
 have ZW:HC (nh (m8 h) m a (some (n:Int))) (my h) (kr h (m:Int)).2 h.gr:=by
  rw[p];exact H.hc.FZ (by omega) hp r rfl q_
 have M8:=Kept.hc ZW C.kp;have kp:=C.kp;have P:(kr h (m:Int)).1=h.s.1:=rfl;generalize jv (kr h (m:Int)) (m:Int) x.root false a (n:Int) b=s2 at*
 have oD:=H.yp o (λ{i z} E q=>H.inv.dT B (H.root E) q) D C (y:=some (n:Int)) (by rw[N,az rfl]) (h':=bC h s2) rfl (λ_=>rfl);have F:HI g' (bC h s2):=H.base C B.len (Inv.mY B H.nl) rfl (λ_=>rfl) (by rw[oD];exact M8);have Q:s2.2[n]? =some (4,(m:Int),0,0,()):=C.kp.ks (by rw[p];exact Av Z) rfl;have Hx:s2.2.length=h.s.2.length:=by rw[C.len.2,B.len.2]
 have V_:s2.1.length=h.s.1.length:=by rw[C.len.1,B.len.1]
 have R:(eZ s2.1 (n:Int) (λ_=>0) 16).length=s2.1.length:=gH _ _ _ _;have G: ∀b,dJ (eZ s2.1 (n:Int) (λ_=>0) 16) b=if 16*(n:Int)<=b/\b<16*(n:Int)+16 then 0 else dJ s2.1 b:=λb=>sN (by omega) (by omega) 16 (Dl _) b;generalize eZ s2.1 (n:Int) (λ_=>0) 16=W at R G ⊢;have S:Inv.fm g' s2 (W,s2.2):=by
  refine iG C.inv ⟨R,rfl⟩ (λb hb=>⟨n, _,Q,(show ¬ (4:Int)=3 by decide),?_⟩) λ{i d d'} h1 w=>?_
  ·grind
  ·rw[h1] at w;cases w;exact .inl rfl
 have H3:=F.side (zB:=h.gr) (MP:=h.po) S F.hc;have T: ∀{i:Nat} {q:Int},jN {s:=(W,s2.2),g:=h.g,gr:=h.gr,po:=h.po} i q=jN (bC h s2) i q:=λ{i q}=>by
  cases hi:h.g i with
  |none=>unfold jN;rw[show(bC h s2).g i=none from hi];dsimp only;rw[hi]
  |some z=>rw[bT (h:=bC h s2) hi,bT (h:={s:=(W,s2.2),g:=h.g,gr:=h.gr,po:=h.po}) hi];exact C.inv.dT S (F.root hi) q
 refine⟨g',n,H3,⟨rfl,rfl,rfl,?_,?_,r,Q,⟨⟨λ{i q} hn=>?_⟩,λ{i d d'} U h4 _ _ cG k k0 I=>?_,KD.trans (t:=kr h (m:Int)) (by rw[p];exact KD.set r (λc=>absurd c (by decide)) (λc=>absurd c (by decide))) (C.kd.trans (.refl rfl))⟩,λk k0 I=>?_,?_⟩,rfl,((uf.kd (by rw[p];exact KD.set r (λc=>absurd c (by decide)) (λc=>absurd c (by decide))) (λ_ _ _ _ _=>by rw[P])).trans C.gks).trans (uf.kd (.refl rfl) λ{i d} U h5 k k0 I=>?_)⟩
 ·rw[show((m:Int)).toNat=m from rfl,bT o, <-H.inv.dT B (H.root o)];exact O
 ·exact T.trans ((bT (h:=bC h s2) o a).trans N)
 ·exact T.trans ((H.F1 (λ{i z} E q=>H.inv.dT B (H.root E) q) D C (h':=bC h s2) rfl (λ_=>rfl)).to hn)
 ·show dJ W _= _;rw[G,au (by omega)];have ML:(kr h (m:Int)).2[i]? =some d:=by
   rw[p];show(h.s.2.set n _)[i]? = _;rw[Ad (by omega)];exact U
  rw[kp.ws ML h4 k k0 I,P]
 ·show dJ W _= _;rw[G,az (by omega)]
 ·show _<=cA s2.2 0+4;omega
 ·show dJ W _= _
  grind
theorem OY (H:HI gh h) {v:Int} (j:aW h.g v=true) {a b:Int} (c:qz h v a b≠0):jO h v a b=h:=by
 obtain⟨x,q,r,hv,f,i⟩:=cg j;unfold qz at c;unfold jO;split
 ·rfl
 rename_i c1;rw[au c1] at c;split
 ·rfl
 rename_i c2;rw[au c2] at c;split
 ·rename_i e;have:kr h v=(h.s.1,h.s.2):=by unfold kr;rw[A1 e]
  rw[this];rfl
 rename_i d;rw[au d] at c;have d:=B4 d;rw[az c];obtain⟨n,k,l,t1,t2,t3⟩:=zm (uX d) H.inv.fz ⟨f,i⟩;have m:jl h v=n:=t1;have o:kr h v=(h.s.1,h.s.2.set n (4,v,0,0,())):=by unfold kr;rw[t3]
 have p:qy h v a b=jv _ v _ _ a _ b:=rfl;rw[p,IP c,o,m];have:=yb (Av k) (L8 ⟨f,i⟩);rw[this.1,RM l];rfl
theorem FZ (H:HI gh h) {v:Int} (c:aW h.g v=true) (a b:Int): ∃dw,HI dw (jO h v a b):=by
 by_cases e:qz h v a b=0
 ·obtain:=H.OX c e
  grind
 ·rw[H.OY c e];grind
structure abr (h h':HS) (v:Nat) (a:Int) (f:Nat):Prop where
 g:h'.g=h.g
 Wh:(jN h v a).2.2.1=0/\(jN h v a).1=(f:Int)
 pg:jN h' v a=(0,0,4,())
 f5:h'.s.2[f]? =some (5,(v:Int),0,0,())
 ef:uj h h' (λi q=>i=v/\q=a) (-1)
theorem OZ (H:HI gh h) {v:Int} (A:aW h.g v=true) {a:Int} (e:wN h v a=0): ∃dw f,HI dw (qx h v a)/\abr h (qx h v a) v.toNat a f/\uf gh dw h.s (qx h v a).s:=by
 obtain⟨x,k,K,hv,wy,sr⟩:=cg A;unfold qx;rw[az e];obtain⟨m,rfl⟩: ∃m:Nat,v=(m:Int):=⟨v.toNat,hv.symm⟩;have k:h.g m=some x:=k;have L:fO h.g h.s (m:Int) a=bA h.s x.root false a:=by
  unfold fO;grind
 unfold wN at e;rw[L] at e ⊢;rw[K];split at e
 ·exact absurd e (by decide)
 split at e
 ·rename_i c;exact absurd e c
 rename_i c1;have c1:(bA h.s x.root false a).2.2.1=0:=B4 c1;split at e
 ·exact absurd e (by decide)
 rename_i c2;split at e
 ·exact absurd e (by decide)
 rename_i c3;have t:m8 h m a=some (bA h.s x.root false a).1:=by rw[cR k,az c1]
 obtain⟨n,d,B,u,d4,do1,do2,l⟩:=H.Tm t;have D:b_ (my h m) a=none:=by
  cases M:b_ (my h m) a with
  |none=>rfl
  |some y=>
   refine absurd ((s_ A (x:=x) k).2 ?_) c2;rw[gi k] at M;unfold MN
   grind
 rw[B] at c3 t ⊢;rw[pa u] at c3;have E:ff (my h) (n:Int)=0:=by
  have:=H.hc.refs u;omega
 have F:=(H.inv.OT (H.root k) c1).1;obtain⟨g',C,I, _⟩:=H.inv.Dt (H.root k) F (H.inv.aaz H.nl (H.root k) F c1);have N:=Kept.hc H.hc C.kp;generalize nb h.s (m:Int) x.root false a=s2 at*
 have r:=C.kp.ks u d4;rw[E] at l;have l:d=(4,d.2.1,0,0,()):=l;have O:d.2.1=(m:Int):=by
  obtain⟨Q,d',R,J, _,S⟩:=H.hc.own t D;have:Q=n:=BN R;subst this;rw[u] at J;cases J;exact S
 rw[O] at l;rw[l] at r;have T:=yb (G:=aP 5 (m:Int)) r (Bc ⟨by omega,by omega⟩);rw[T.1];have U:=N.Cp (o:=(m:Int)) ⟨by omega,by omega⟩ t D E;have w:Inv.fm g' s2 (s2.1,s2.2.set n (5,(m:Int),0,0,())):=by
  refine iG C.inv ⟨rfl,by rw[B1]⟩ (λb hb=>absurd rfl hb) λ{i d d'} h1 h2=>?_
  grind
 have V:=H.yp k (λ{i z} j q=>rfl) H.inv C (y:=none) (by rw[I];rfl) (h':=bC h s2) rfl (λ_=>rfl);have W:=by
  funext i p;cases j:h.g i with
  |none=>exact(gf (h:=bC h (s2.1,s2.2.set n (5,(m:Int),0,0,()))) j p).trans (gf (h:=bC h s2) j p).symm
  |some z=>
   refine(cR (h:=bC h (s2.1,s2.2.set n (5,(m:Int),0,0,()))) j p).trans (Eq.trans ?_ (cR (h:=bC h s2) j p).symm);show(if(bA (s2.1,s2.2.set n (5,(m:Int),0,0,())) z.root false p).2.2.1=0 then some (bA (s2.1,s2.2.set n (5,(m:Int),0,0,())) z.root false p).1 else none)=if(bA s2 z.root false p).2.2.1=0 then some (bA s2 z.root false p).1 else none;rw[C.inv.dT w (C.root.to (H.root j))]
 have X:(bC h s2).g m=some x:=k;have Y:n<s2.2.length:=(Ae.1 r).1;have sp: ∀P,zQ (bC h s2) (bC h (s2.1,s2.2.set n (5,(m:Int),0,0,()))) P:=λP=>⟨λ{i q} _=>by
  cases j:h.g i with
  |none=>exact(f_ (h:=bC h (s2.1,s2.2.set n (5,(m:Int),0,0,()))) j q).trans (f_ (h:=bC h s2) j q).symm
  |some z=>exact(bT (h:=bC h (s2.1,s2.2.set n (5,(m:Int),0,0,()))) j q).trans ((C.inv.dT w (C.root.to (H.root j)) q).trans (bT (h:=bC h s2) j q).symm)⟩
 suffices Z:HI g' (bC h (s2.1,s2.2.set n (5,(m:Int),0,0,()))) from⟨g',n,Z,⟨rfl,by rw[show((m:Int)).toNat=m from rfl,bT k];exact⟨c1,B⟩,((sp (λ_ _=>False)).to (λc=>c)).trans ((bT X a).trans I),Av Y,zQ.trans (H.F1 (λ_ _=>rfl) H.inv C (h':=bC h s2) rfl (λ_=>rfl)) (sp _),λ{i d d'} h1 h4 _ _ _=>C.kp.ws h1 h4,C.kd.trans (KD.set r (λ_=> .inr rfl) (by grind))⟩,C.gks.trans (uf.kd (KD.set r (λ_=> .inr rfl) (λc=>absurd (show(4:Int)=5 from c) (by decide))) λ_ _ _ _ _=>rfl)⟩
 exact{inv:=C.inv.beside w,rt:=H.rt.dq C.root,nl:=Inv.mY w (C.lg (λo q q' a b=>a.2.trans b.2.symm) H.nl),sz:=by
        show s2.1.length=16*(s2.2.set n (5,(m:Int),0,0,())).length;rw[B1,C.len.1,C.len.2];exact H.sz
       ,jg:=H.jg,root:=λ{i z} j=>C.root.to (H.root j),own:=λ{f o y} hf=>H.own ((C.root o f y).1 hf),hc:=by rw[W,V];exact U}
theorem Cp (H:HI gh h) {v:Int} (b:aW h.g v=true) (a:Int): ∃dw,HI dw (qx h v a):=by
 by_cases e:wN h v a=0
 ·obtain:=H.OZ b e
  grind
 ·rw[show qx h v a=h from au e];grind
end HI
end
set_option maxRecDepth 100000
open Go.RX D
theorem Bf (k:Nat): ∀l:List TK,(∀t∈l,0<=t.2.1/\t.2.1<(k:Int))->l.length<=((BO k).map λa=>l.countP λt=>t.2.1==((a:Nat):Int)).sum
 |[], _=>EW _
 |t::l,h=>by
  have b:=Bf k l (by grind);have c:=h t Bv;have e:(λa:Nat=>(t::l).countP λt=>t.2.1==((a:Nat):Int))=kS (λa:Nat=>l.countP λt=>t.2.1==((a:Nat):Int)) t.2.1.toNat (l.countP (λu=>u.2.1==((t.2.1.toNat:Nat):Int))+1):=by
   funext a;rw[De];by_cases e:a=t.2.1.toNat
   ·subst e;rw[kK,az (by simp;omega)]
   ·rw[nJ e,au (by simp;omega)];rfl
  have:=Cm
  grind
theorem O0 {f:Nat->Nat} {c:Nat}: ∀l:List Nat,(∀x∈l,f x<=c)->(l.map f).sum<=c*l.length
 |[], _=>EW _
 |x::l,h=>by
  have:=O0 l λy a=>h y (by grind);have:=h x (by grind);rw[C7,Dv,E6,Nat.mul_add];omega
theorem L_ (tk:Nat->List TK) (q:TK->Bool):oN tk q=((BO 17).flatMap tk).countP q:=by
 rw[List.countP_flatMap];rfl
theorem Ma (l:List TK) (k c:Nat) (h: ∀t∈l,0<=t.2.1/\t.2.1<(k:Int)) (hb: ∀a:Nat,a<k->(l.countP λt=>t.2.1==((a:Nat):Int))<=c):l.length<=c*k:=by
 have h1:=Bf k;have d:=O0 _ λa b=>hb a (Dc.1 b)
 grind
namespace HC
variable {fr:HA} {tk:Nat->List TK} {ds:List DT} {gr:List GT}
theorem ids (H:HC fr tk ds gr) {i:Nat} {t:TK} (h:t∈tk i):0<=t.2.1/\t.2.1<((16:Nat):Int):=by
 obtain⟨_,o, _,k,x,h1, _⟩:=H.CL (a:=t.2.1) (H.NG h);obtain:=fo.1 h1;have:=H.gl;omega
theorem I3 (H:HC fr tk ds gr) (f:Int):ff tk f<=16000:=by
 have h0:=L_ tk;have b: ∀t∈(BO 17).flatMap tk,0<=t.2.1/\t.2.1<16:=λt g=>by
  obtain⟨i, _,hi⟩:=List.mem_flatMap.1 g;exact H.ids hi
 have c: ∀a:Nat,a<16->oN tk λt=>t.2.1==a<=1000:=λa j=>by
  have h:a<gr.length:=by rw[H.gl];grind
  have d:=BL h;have c:=H.uA d;have:=(H.gk _ (BJ d)).2;unfold mK at c;omega
 unfold ff;rw[h0];generalize (BO _).flatMap tk=e at h0 b;have h1:=List.countP_le_length (p:=λt=>t.2.2==f) (l:=e);have k:=Ma e 16 1000 b (by grind);omega
end HC
theorem Mb {gr:List GT} {k:Nat} {x:GT} (h:gr[k]? =some x) (y:GT):(gr.set k y).set k x=gr:=by
 apply E5
 grind
section
variable {gh dw:Gh} {h:HS}
theorem HI.fin (H:HI gh h) {v:Nat} {p:Int} {s1 s2 s3:WD} (C:sq (n9 (v:Int) 0 p) (v:Int) gh dw s1 s2) (n:zO gh s1) (k:s1.1.length=h.s.1.length/\s1.2.length=h.s.2.length) (B:Inv.fm dw s2 s3) {h':HS} (d:h'.s=s3) (w: ∀i,(h'.g i).map GV.root=(h.g i).map GV.root)
 {F:HA} (r:m8 {h' with s:=s2}=F) (hc:HC F (my h') s3.2 h'.gr):HI dw h':=by
 have l: ∀{i:Nat} {x:GV},h'.g i=some x-> ∃z,h.g i=some z/\x.root=z.root:=λ{i x} j=>by
  cases hc:h.g i with
  |none
  |some z=>grind
 have m: ∀{i:Nat} {x:GV},h'.g i=some x->dw x.root=some _:=λ{i x} j=>by
  obtain⟨z,c,t⟩:=l j;rw[t];exact C.root.to (H.root c)
 refine⟨by rw[d];exact C.inv.beside B,H.rt.dq C.root,by rw[d];exact Inv.mY B (C.lg (λo q A a b=>a.2.trans b.2.symm) n),?_,λ{i x} j=>?_,m,λ{f o y} u=>?_,?_⟩
 ·rw[d,B.len.1,B.len.2,C.len.1,C.len.2,k.1,k.2];exact H.sz
 ·obtain⟨z,c, _⟩:=l j;exact H.jg c
 ·obtain⟨i,x,h1,D⟩:=H.own ((C.root o f y).1 u);cases hc:h'.g i with
  |none
  |some z=>grind
 ·have e:m8 h'=F:=by
   rw[<-r];funext i q;cases c:h'.g i with
   |none=>exact(gf c q).trans (gf (h:={h' with s:=s2}) c q).symm
   |some z=>
    refine(cR c q).trans (Eq.trans ?_ (cR (h:={h' with s:=s2}) c q).symm);rw[d,C.inv.dT B (m c)]
  grind
theorem HI.I4 (H:HI gh h) {v:Nat} {p:Int} {s2 s3:WD} (C:sq (n9 (v:Int) 0 p) (v:Int) gh dw h.s s2) (B:Inv.fm dw s2 s3) (d:s3.1=s2.1) (e:KD s2 s3) {h':HS} (b:h'.s=s3) (f: ∀i,(h'.g i).map GV.root=(h.g i).map GV.root):
 uj h h' (λi q=>i=v/\q=p) (-1)/\ ∀{i:Nat} {x:GV},h.g i=some x-> ∀q,jN h' i q=bA s2 x.root false q:=by
 have j: ∀{i} {x},h.g i=some x-> ∃z,h'.g i=some z/\z.root=x.root:=λ{i x} a=>by
  cases hc:h'.g i with
  |none
  |some=>grind
 have key: ∀{i} {x},h.g i=some x-> ∀q,jN h' i q=bA s2 _ _ q:=λa q=>by
  obtain⟨z,l,m⟩:=j a;rw[bT l,b,m];exact C.inv.dT B (C.root.to (H.root a)) q
 refine⟨⟨⟨λ{i q} n=>?_⟩,λh1 o _ _ _ k k0 r=>?_,?_⟩,key⟩
 ·cases a:h.g i with
  |none=>
   have hi:=f i;rw[a] at hi;rw[f_ a,f_ (by simpa using hi)]
  |some x=>
   rw[key a,bT a];refine H.inv.yM C.inv C.Dd C.root (H.root a) λc=>n ?_;obtain⟨c1,c2⟩:=c;exact⟨by grind,c2⟩
 ·rw[b,d];exact C.kp.ws h1 o k k0 r
 ·rw[b];exact C.kd.trans e
theorem nR {g:Gh} {s:WD} (I:Inv g s) {n:Nat} {o r r':Int} (a:s.2[n]? =some (4,o,r,0,())):Inv.fm g s (s.1,s.2.set n (4,o,r',0,())):=
 iG I (by grind) (by grind) (by grind)
theorem kL {g:Nat->Option GV} {n:Nat} {x:GV} (a:g n=some x) (tk:List TK) (i:Nat):(bq g n (some {x with tk:=tk}) i).map GV.root=(g i).map GV.root:=by grind[bq]
theorem I5 {h':HS} {g:Nat->Option GV} {n:Nat} {x:GV} (b:h.g n=some x) (tk:List TK) (a:h'.g=bq h.g n (some {x with tk:=tk})):my h'=kS (my h) n tk:=by
 unfold my kS;rw[a];unfold bq
 grind
def Nc (ds:List DT) (n:Nat) (o:Int):Prop:= ∃d:DT,ds[n]? =some d/\d.1=4/\d.2.1=o
theorem Kept.SS {s s':WD} (K:Kept s s') (n:Nat) (o:Int):Nc s'.2 n o<->Nc s.2 n o:=by
 constructor
 ·rintro⟨d,h1,a,b⟩;rcases K.nw h1 with h|⟨⟩
  ·exact⟨d,h,a,b⟩
  omega
 ·rintro⟨d,h1,a,b⟩;exact⟨d,K.ks h1 a,a,b⟩
theorem Vz {ds:List DT} {n:Nat} {o r r':Int} (h:ds[n]? =some (4,o,r,0,())) (m:Nat) (o':Int):Nc (ds.set n (4,o,r',0,())) m o'<->Nc ds m o':=by grind[Nc]
theorem HI.FD (H:HI gh h) {v:Nat} {p id f:Int} {x:GV} (a:h.g v=some x) (I:b_ x.tk p=some (id,f)): ∃dw,HI dw (du h (v:Int) p id f)/\(∀n o,Nc (du h (v:Int) p id f).s.2 n o<->Nc h.s.2 n o)/\uj h (du h (v:Int) p id f) (λi q=>i=v/\q=p) (-1)/\jN (du h (v:Int) p id f) v p=(0,0,4,())/\uf gh dw h.s (du h (v:Int) p id f).s:=by
 have j:b_ (my h v) p=some (id,f):=by rw[gi a];exact I
 obtain⟨l,o,X,J⟩:=H.hc.CL j;obtain⟨k,y,g1,e,Y,K, _⟩:=J;obtain⟨n,d,L,r,d4,M,N,O⟩:=H.Tm l;subst L;obtain⟨P,Z,u⟩:=fo.1 g1;rw[getD_some e] at u;subst P;have Q:a6 h.g (v:Int)=x.root:=by
  have r:=H.jg a;unfold a6;rw[az (cq.2 ⟨by omega,x,a⟩)]
  grind
 have A:(bA h.s x.root false p).2.2.1=0:=by
  rw[cR a] at l
  grind
 have B:=(H.inv.OT (H.root a) A).1;obtain⟨g',C,D, _⟩:=H.inv.Dt (H.root a) B (H.inv.aaz H.nl (H.root a) B A);have Tg:=H.jg a;have oJ:0<ff (my h) (n:Int):=nK (q:=λt=>t.2.2==(n:Int)) (by omega:v<17) (H.hc.JT j) (by simp);have acn:0<mK (my h) (k:Int):=nK (q:=λt=>t.2.1==(k:Int)) (by omega:v<17) (H.hc.JT j) (by simp);have ab_:=H.hc.I3 (n:Int);have R:mm h.gr (k:Int) (v:Int)=0:=by
  unfold mm;rw[g1];dsimp only;rw[getD_some e,au (by rw[K];simp),au (by rw[H.hc.uA e];omega)]
 have E:eJ h.gr (k:Int) (v:Int)=h.gr.set k (fD y (-1)):=by
  unfold eJ;rw[az R];show h.gr.set k (fD (h.gr.getD k zG) (-1))= _;rw[getD_some e]
 have S:=Kept.hc H.hc C.kp;have T:du h (v:Int) p (k:Int) (n:Int)={s:=((nb h.s (v:Int) x.root false p).1,dF (nb h.s (v:Int) x.root false p).2 (n:Int) (gX (-1))),g:=bq h.g v (some {x with tk:=x.tk.filter λt=> !(t.1==p)}),gr:=h.gr.set k (fD y (-1)),po:=h.po}:=by
  unfold du;rw[Q,E];show HS.mk _ (bq h.g v (match h.g v with|some x=> _|none=>none)) _ _= _;rw[a]
 rw[T];generalize nb h.s (v:Int) x.root false p=s2 at*
 have b:=C.kp.ks r d4;rw[O] at b;have U:=yb (G:=gX (-1)) b (aaB ⟨M,N⟩ ⟨by omega,by omega⟩ ⟨by omega,by omega⟩);rw[U.1];have V:nY (h.gr.set k (fD y (-1))):=by rw[<-E];exact H.hc.gk.back _ _
 have W:=S.FD j b e u V;have F:=H.I4 C (nR C.inv b) rfl (KD.set b (λ_=> .inl rfl) (λc=>absurd (show(4:Int)=5 from c) (by decide))) (h':={s:=(s2.1,s2.2.set n (4,d.2.1,(ff (my h) (n:Int):Int)+ -1,0,())),g:=bq h.g v (some {x with tk:=x.tk.filter λt=> !(t.1==p)}),gr:=h.gr.set k (fD y (-1)),po:=h.po}) rfl (λi=>kL a _ i);refine⟨g',H.fin C H.nl ⟨rfl,rfl⟩ (nR C.inv b) rfl (λi=>kL a _ i) (H.yp a (λ{i z} hz q=>rfl) H.inv C (y:=none) (by rw[D];rfl) rfl (λi=>kL a _ i)) ?_,λm w=>(Vz b m w).trans (C.kp.SS m w),F.1,(F.2 a p).trans D,C.gks.trans (by grind[uf.kd,KD.set])⟩;rw[I5 (g:=h.g) a _ rfl, <-gi a];exact W
end
set_option maxRecDepth 100000
open Go.RX D
section
variable {gh dw:Gh} {h:HS}
theorem Me {v p:Int} (h0:(fO h.g h.s v p).2.2.1=0):aW h.g v=true/\ ∃x,h.g v.toNat=some x/\fO h.g h.s v p=bA h.s x.root false p:=by grind[fO]
theorem RN {v p:Int} {x:GV} (a:aW h.g v=true) (b:h.g v.toNat=some x) (hb: ¬ gY h v p=true):b_ x.tk p=none:=by
 cases c:b_ _ p with
 |none=>rfl
 |some=>
  refine absurd ((s_ a b).2 ?_) hb;unfold MN
  grind
theorem RO {gs:List GT} {k:Nat} {x:GT} {v:Int} (h:gs[k]? =some x) (d:x≠zG) (hv:x.2.2.1=v) (f:0<=x.2.2.2.2.1) (g:nY gs):eJ (gs.set k (fD x 1)) (k:Int) v=gs:=by
 have a:=(Ae.1 h).1;have h1:(gs.set k _)[k]? =some (fD x 1):=Av a;have b:lN (gs.set k (fD x 1)) k=some k:=fo.2 (by grind[getD_some,xr]);have c:mm (gs.set k (fD x 1)) k v=0:=by
  unfold mm;rw[b];dsimp only;rw[getD_some h1,au (by show ¬ x.2.2.1≠v;grind),au (by show ¬ x.2.2.2.2.1+1=0;omega)]
 unfold eJ;rw[az c];show(gs.set k (fD x 1)).set k (fD ((gs.set k (fD x 1)).getD k zG) (-1))=gs;rw[getD_some h1];have e:fD (fD x 1) (-1)=x:=by
  unfold fD
  grind
 rw[e];exact Mb h _
theorem abt {v a b c:Int} (d:mq h v a b c=0):ng h v a b c=lK h.s (a6 h.g v) false b (lB h a).1 (wz c):=by grind[mq,ng]
theorem HI.I6 (H:HI gh h) {v a b c:Int} (S:aW h.g v=true) (T:mq h v a b c=0):
 (ng h v a b c=0-> ∃dw,HI dw (ia h v a b c)/\uj h (ia h v a b c) (λi q=>i=v.toNat/\q=b) (-1)/\(jN h v.toNat b).2.2.1=4/\jN (ia h v a b c) v.toNat b=((lB h a).1,wz c,0,())/\uf gh dw h.s (ia h v a b c).s)/\(ng h v a b c≠0->As h v a b c=h):=by
 have A:=abt T;obtain⟨p4,r,B,U⟩:(lH h a).2.2.1=v/\(lB h a).2.2.1=0/\ ¬ gY h (lH h a).1 (lH h a).2.1=true/\gV h.gr a v (c==1)=0:=by
  grind[mq]
 obtain⟨x,f,V,hv,wy,sr⟩:=cg S;obtain⟨k,D⟩: ∃k,lN h.gr a=some k:=by
  grind[gV,lN]
 obtain⟨t,W,u⟩:=fo.1 D;have j:h.gr[k]? =some h.gr[k]:=BL W;obtain⟨y,X⟩: ∃y,y=h.gr[k]:=⟨_,rfl⟩;rw[<-X] at j;rw[getD_some j] at u;have E:lH h a=y:=by
  unfold lH wJ;rw[D];exact getD_some j
 have F:lB h a=fO h.g h.s y.1 y.2.1:=by unfold lB;rw[E]
 rw[E] at p4 B;rw[F] at r;obtain⟨I,J,l,K⟩:=Me r;have Y:=RN I l B;obtain⟨m,rfl⟩: ∃m:Nat,v=(m:Int):=⟨v.toNat,hv.symm⟩;have f:h.g m=some x:=f;obtain⟨o,L⟩: ∃o:Nat,y.1=(o:Int):=⟨y.1.toNat,by have:=cq.1 I;omega⟩;have l:h.g o=some J:=by rw[L] at l;exact l
 rw[K] at r;have w:m8 h o y.2.1=some (bA h.s J.root false y.2.1).1:=by rw[cR l,az r]
 obtain⟨n,d,M,Z,d4,do1,do2,Tn⟩:=H.Tm w;rw[M] at w;have N:(lB h a).1=(n:Int):=by rw[F,K,M]
 have O:dX h.gr a (m:Int) (c==1)=h.gr.set k (fD y 1):=by
  unfold dX;rw[az U, <-t];show h.gr.set k (fD (h.gr.getD k zG) 1)= _;rw[getD_some j]
 refine⟨λe=>?_,λe=>?_⟩
 ·rw[A,V,N] at e;obtain⟨hp,g',C,P, _,Q, _⟩:=H.inv.map (H.root f) e;have ab':m8 h m b=none:=by rw[cR f,au (by rw[Q];decide)]
  have jM:ia h (m:Int) a b c={s:=((jv h.s (m:Int) x.root false b (n:Int) (wz c)).1,dF (jv h.s (m:Int) x.root false b (n:Int) (wz c)).2 (n:Int) (gX 1)),g:=bq h.g m (some {x with tk:=nf (b,a,(n:Int)) x.tk}),gr:=h.gr.set k (fD y 1),po:=h.po}:=by
   grind[ia,bq]
  rw[jM];have M8:=Kept.hc H.hc C.kp;generalize jv h.s (m:Int) x.root false b (n:Int) (wz c)=s2 at*
  have p:=C.kp.ks Z d4;rw[Tn] at p;have ab_:=H.hc.I3 (n:Int);have qC:=yb (G:=gX 1) p (aaB ⟨do1,do2⟩ ⟨by omega,by omega⟩ ⟨by omega,by omega⟩);rw[qC.1];have Wg:nY (h.gr.set k (fD y 1)):=by rw[<-O];exact H.hc.gk.take _ _ _
  have V6:=M8.take hp ab' p j u L p4 w (by rw[gi l];exact Y) Wg;have R:=H.I4 C (nR (r':=(ff (my h) (n:Int):Int)+1) C.inv p) rfl (KD.set p (λ_=> .inl rfl) (λc=>absurd (show(4:Int)=5 from c) (by decide))) (h':={s:=(s2.1,s2.2.set n (4,d.2.1,(ff (my h) (n:Int):Int)+1,0,())),g:=bq h.g m (some {x with tk:=nf (b,a,(n:Int)) x.tk}),gr:=h.gr.set k (fD y 1),po:=h.po}) rfl (λi=>kL f _ i)
  suffices hh:HI g' _ from⟨g',hh,R.1,by rw[show((m:Int)).toNat=m from rfl,bT f];exact Q,by rw[N];exact(R.2 f b).trans P,C.gks.trans (by grind[uf.kd,KD.set])⟩
  refine H.fin C H.nl ⟨rfl,rfl⟩ (nR C.inv p) rfl (λi=>kL f _ i) (H.yp f (λ{i z} hz q=>rfl) H.inv C (y:=some (n:Int)) (by rw[P];rfl) rfl (λi=>kL f _ i)) ?_;rw[I5 (g:=h.g) f _ rfl, <-gi f, <-t];exact V6
 ·rw[A] at e;unfold As;rw[IP e,O, <-t,RO j u p4 (H.hc.gk y (BJ j)).2.1 H.hc.gk]
theorem HI.O1 (H:HI gh h) {v a b c:Int} (f:aW h.g v=true) (e:ng h v a b c≠0):jo h v a b c=h:=by
 unfold jo;by_cases d:mq h v a b c=0
 ·rw[au λe=>e d,au e];exact(H.I6 f d).2 e
 grind
theorem RP {v a b c:Int} (e:ng h v a b c=0):mq h v a b c=0:=by grind[ng,mq]
theorem HI.O3 (H:HI gh h) {v a b c:Int} (d:aW h.g v=true) (e:ng h v a b c=0):jo h v a b c=ia h v a b c/\ ∃dw,HI dw (ia h v a b c)/\uj h (ia h v a b c) (λi q=>i=v.toNat/\q=b) (-1)/\(jN h v.toNat b).2.2.1=4/\jN (ia h v a b c) v.toNat b=((lB h a).1,wz c,0,())/\uf gh dw h.s (ia h v a b c).s:=by
 have f:=RP e;refine⟨?_,(H.I6 d f).1 e⟩;unfold jo
 grind
theorem HI.take (H:HI gh h) {v:Int} (d:aW h.g v=true) (a b c:Int): ∃dw,HI dw (jo h v a b c):=by
 by_cases e:ng h v a b c=0
 ·obtain:=H.O3 d e
  grind
 ·rw[H.O1 d e];grind
theorem HI.I7 (H:HI gh h) {v:Int} (b:aW h.g v=true) {a:Int} (e:oX h v a=0): ∃dw,HI dw (gW h v a)/\uj h (gW h v a) (λi q=>i=v.toNat/\q=a) (-1)/\jN (gW h v a) v.toNat a=(0,0,4,())/\uf gh dw h.s (gW h v a).s:=by
 obtain⟨x,c,hv⟩:=cg b;unfold oX at e;unfold gW;split at e
 grind
 split at e
 ·rename_i c2;have d:=(s_ b c).1 c2;obtain:=H.FD c d
  grind
 grind
theorem I8 {v a:Int} (e:oX h v a≠0):gW h v a=h:=by grind[oX,gW]
theorem HI.back (H:HI gh h) {v:Int} (b:aW h.g v=true) (a:Int): ∃dw,HI dw (gW h v a):=by
 by_cases e:oX h v a=0
 ·obtain:=H.I7 b e
  grind
 ·rw[I8 e];grind
theorem HI.fK {v:Nat}: ∀(n:Nat) {gh:Gh} {h:HS},HI gh h->(∃x,h.g v=some x)->(my h v).length=n->
 ∃dw,HI dw (fK (v:Int) n h)/\(∃x,(fK (v:Int) n h).g v=some x)/\my (fK (v:Int) n h) v=[]/\(∀i,i≠v->(fK (v:Int) n h).g i=h.g i)/\(∀m o,Nc (fK (v:Int) n h).s.2 m o<->Nc h.s.2 m o)/\uj h (fK (v:Int) n h) (λi _=>i=v) (-1)/\uf gh dw h.s (fK (v:Int) n h).s
 |0,gh,h,H,a,b=>⟨gh,H,a,List.length_eq_zero_iff.1 b,λ_ _=>rfl,λ_ _=>Iff.rfl,.refl _ _ _,uf.refl _ _⟩
 |n+1,gh,h,H,⟨x,a⟩,b=>by
  have r:xE h (v:Int)=x.tk:=by rw[abp];exact gi a
  have N:x.tk.length=n+1:=by rw[<-gi a];exact b
  have u:x.tk.map (·.1)≠[]:=λe=>by
   simp_all
  have f:=Ee u (λy w=>by
   obtain⟨t,j,rfl⟩:=B3.1 w;have z:t∈my h v:=by rw[gi a];exact j
   have:=H.hc.jg (H.hc.CL (H.hc.NG z)).1;omega)
  obtain⟨p,k⟩: ∃p,p=z4 (x.tk.map (·.1)):=⟨_,rfl⟩;rw[<-k] at f;obtain⟨t,j,O⟩:=B3.1 f;have d:=H.hc.nd v;rw[gi a] at d;have l:b_ x.tk p=some t.2:=(jF d).2 (by grind);have A:MN h (v:Int) p=t.2:=by
   grind[MN,b_]
  have B:x_ (v:Int) h=du h (v:Int) p t.2.1 t.2.2:=by
   unfold x_;rw[r, <-k,A]
  obtain⟨P,C,Q,D, _,E⟩:=H.FD (x:=x) a l;have q:(du h (v:Int) p t.2.1 t.2.2).g v=some {x with tk:=x.tk.filter λt=> !(t.1==p)}:=by
   show bq h.g v (match h.g v with|some x=> _|none=>none) v= _;rw[a,fy]
  have F:(my (du h (v:Int) p t.2.1 t.2.2) v).length=n:=by
   rw[gi q];have:=(Bb d l).length_eq
   grind
  obtain⟨G,h1,I,J,K,R,L,M⟩:=HI.fK n C ⟨_,q⟩ F;have e:_root_.Go.Proofs.YtlcenllcmeebhaaGreat.fK (v:Int) (n+1) h=_root_.Go.Proofs.YtlcenllcmeebhaaGreat.fK (v:Int) n (du h (v:Int) p t.2.1 t.2.2):=by rw[<-B];rfl
  rw[e];refine⟨G,h1,I,J,λi hi=>?_,by grind,uj.trans (D.mono λc=>c.1) L,E.trans M⟩;rw[K i hi];show bq h.g v _ i=h.g i;unfold bq;rw[au hi]
end
section
variable {gh dw:Gh} {h:HS}
theorem Mf {v:Int} {x:GV} (a:aW h.g v=true) (b:h.g v.toNat=some x) (p:Int):fO h.g h.s v p=bA h.s x.root false p:=by grind[fO]
theorem HI.word (H:HI gh h) {v:Int} (f:aW h.g v=true) {a t:Int} (u:0<=a) (k:0<=t/\t<=7):
 (a<1048576/\(fO h.g h.s v (a / 16)).2.2.1=0/\iT h v a t=(16*(fO h.g h.s v (a / 16)).1+a % 16,if gE true (fO h.g h.s v (a / 16)).2.1 false (fO h.g h.s v (a / 16)).1 t=true then 0 else 7)/\
  ∃n:Nat,(fO h.g h.s v (a / 16)).1=(n:Int)/\n<h.s.2.length/\m8 h v.toNat (a / 16)=some (n:Int))\/
 ((a>=1048576/\(iT h v a t).2=2)\/(a<1048576/\fO h.g h.s v (a / 16)=(0,0,4,())/\(iT h v a t).2=4)):=by
 obtain⟨x,b,l,hv,w,y⟩:=cg f;rw[Mf f b];unfold iT;by_cases m:a>=1048576
 grind
 rw[au m,l];have o:=H.root b;have p:0<=a / 16/\a / 16<65536:=by omega
 have i:=H.inv.OW H.nl o p k;by_cases e:(bA h.s x.root false (a / 16)).2.2.1=0
 ·rw[az e] at i;have j:m8 h v.toNat (a / 16)=some (bA h.s x.root false (a / 16)).1:=by rw[cR b,az e]
  obtain⟨n,d,c,q, _⟩:=H.Tm j;have r:=(Ae.1 q).1;have z:=H.inv.le;refine .inl ⟨by omega,e,?_,n,c,r,by rw[j,c]⟩;rw[i];rw[c,eo (by omega) (by omega),ax (by omega) (by omega)]
 ·refine .inr (by grind[Inv.Zr])
theorem HI.RQ (H:HI gh h) {n:Nat} {d:DT} (a:h.s.2[n]? =some d) (d4:d.1=4) {o:Int} (e:0<=o/\o<16) (b:Int):HI gh (bC h (dK h.s.1 (16*(n:Int)+o) b,h.s.2))/\uj h (bC h (dK h.s.1 (16*(n:Int)+o) b,h.s.2)) (λ_ _=>False) (n:Int):=by
 have B:Inv.fm gh h.s (dK h.s.1 (16*n+o) b,h.s.2):=by
  refine iG H.inv ⟨cF _ _ _,rfl⟩ (λq c=>⟨n,d,a,?_⟩) λf=>?_
  ·refine B4 λhc=>c ?_;rw[mH (by omega)]
  grind
 refine⟨H.side B H.hc,H.Cq B (h':=bC h _) rfl rfl _,λ_ _ _ _ g k k0 i=>?_,.refl rfl⟩;exact mH (by omega)
theorem HI.store (H:HI gh h) {v:Int} (c:aW h.g v=true) {a:Int} (f:0<=a) (b:Int):HI gh (j_ h v a b)/\zQ h (j_ h v a b) (λ_ _=>False):=by
 unfold j_;by_cases e:(iT h v a 2).2≠0
 ·rw[az e];exact⟨H,zQ.refl _ _⟩
 rw[au e];rcases H.word c f (t:=2) (by grind) with ⟨_, _,i,n,j,s,k⟩|⟨_,u⟩
 ·rw[i];rw[j];obtain⟨m,d,l,p,d4, _⟩:=H.Tm k;have:=BN l;subst this;obtain⟨q,r⟩:=H.RQ p d4 (o:=a % 16) (by omega) b;exact⟨q,r.pg⟩
 grind
 grind
theorem HI.VA (H:HI gh h) {n:Nat} {d:DT} (a:h.s.2[n]? =some d) (b:d.1=5):d=(5,d.2.1,0,0,())/\0<=d.2.1/\d.2.1<=16:=by
 obtain:=H.hc.kd a;have c:=H.hc.refs a;have:ff (my h) n=0:=by
  rcases C6 _ with e|e
  ·exact e
  ·obtain:=H.hc.H_ e
   grind
 grind
theorem HI.N6 (H:HI gh h) {n:Nat} {d:DT} (a:h.s.2[n]? =some d) (e:d.1=5):iC h.s (n:Int)=(h.s.1,h.s.2.set n zD)/\jS h.s (n:Int)=0/\HI gh (bC h (h.s.1,h.s.2.set n zD))/\zQ h (bC h (h.s.1,h.s.2.set n zD)) (λ_ _=>False):=by
 obtain⟨l,o,p⟩:=H.VA a e;have g:=a;rw[l] at g;have j:=yb (G:=aP 0 0) g (He ⟨o,p⟩);have k:By h.s.2 n=true:=by
  unfold By
  grind
 have B:Inv.fm gh h.s (h.s.1,h.s.2.set n zD):=by
  refine iG H.inv ⟨rfl,by rw[B1]⟩ (λb hb=>absurd rfl hb) λ{i d0 d'} h1 q=>?_;rcases Be a h1 q with ⟨_,r,f⟩|⟨_,f⟩
  ·exact .inr ⟨by rw[r,e];decide,by rw[f];decide,λ_=>f⟩
  ·exact .inl f
 refine⟨?_,?_,H.side B (H.hc.FY (λ{m d0} h1 t=>?_) λ{m d0} h1=>?_),H.Cq B (h':=bC h (h.s.1,h.s.2.set n zD)) rfl rfl _⟩
 ·unfold iC;rw[az ⟨k,by rw[pa a];exact e⟩,j.1]
 ·unfold jS;rw[k,au (by decide),pa a,au (λc=>c e)];exact j.2
 grind
 ·grind[zD,Ad]
theorem VB {s:WD} {f:Int} (a: ∀(n:Nat) (d:DT),f=(n:Int)->s.2[n]? =some d->d.1≠5):iC s f=s/\jS s f≠0:=by
 grind[By,qp,iC,jS]
theorem HI.free (H:HI gh h) (f:Int):HI gh (bC h (iC h.s f))/\(iC h.s f=h.s\/ ∃(n:Nat) (d:DT),f=(n:Int)/\h.s.2[n]? =some d/\d.1=5/\iC h.s f=(h.s.1,h.s.2.set n zD)):=by
 by_cases e: ∃(n:Nat) (d:DT),f=n/\h.s.2[n]? =some d/\d.1=5
 ·obtain⟨n,d,rfl,h1,b⟩:=e;obtain:=H.N6 h1
  grind
 ·obtain⟨a⟩:=VB (s:=h.s) (f:=f) (by grind);rw[a];exact⟨H,.inl rfl⟩
theorem HI.WR (H:HI gh h): ∀n,HI gh (bC h (dH h.s n).1)
 |0=>H
 |n+1=>((HI.WR H n).free _).1
theorem HI.F2 (H:HI gh h): ∃dw,HI dw (gP h)/\uj h (gP h) (λ_ q=> ¬ (0<=q/\q<65536)) (-1)/\uf gh dw h.s (gP h).s:=by
 unfold gP;cases hv:mJ h.g with
 |none=>exact⟨gh,H,.refl _ _ _,uf.refl _ _⟩
 |some v=>
  dsimp only;by_cases e:rj h.s (v:Int)=0
  case neg=>rw[au e];exact⟨gh,H,.refl _ _ _,uf.refl _ _⟩
  rw[az e];obtain⟨Xm,z, _⟩:=nP.1 hv;have U: ∀f,gh f≠some ((v:Int),3,0):=λf a=>by
   obtain⟨i,x,h1,t⟩:=H.own a;have:i=v:=BN h1;subst this;rw[z] at t;cases t
  obtain⟨_,J,b2,b3,C,K,D,V,X,E⟩:=H.inv.born (o:=(v:Int)) (by omega) U (uX e);have Y: ∀{f o y k:Int} {l:Nat},gh f=some (o,l,y)->0<=k->k<16->dJ (iN h.s (v:Int) λ_=>0).1 (16*f+k)=dJ h.s.1 (16*f+k):=λ{f o y k l} a k0 r=>by
   have cG:f≠eA h.s (v:Int):=λc=>by rw[c,J] at a;cases a
   exact D _ (by omega)
  have L: ∀k,0<=k->k<16->aM (iN h.s (v:Int) λ_=>0).1 (16*eA h.s (v:Int)+k)=zE:=λk k0 r=>Yl (V k k0 r);generalize (iN h.s (v:Int) λ_=>0)=s' at*
  generalize eA h.s (v:Int)=F at*
  have M: ∀{f o y k:Int} {l:Nat},gh f=some (o,l,y)->0<=k->k<16->aM s'.1 (16*f+k)=aM h.s.1 (16*f+k):=λa k0 r=>by unfold aM;rw[Y a k0 r]
  have A: ∀{f o y:Int} {l:Nat},gh f=some (o,l,y)->mB gh F (some ((v:Int),3,0)) f=some (o,l,y):=λ{f o y l} a=>by
   rw[aX (λc=>by rw[c,J] at a;cases a)];exact a
  have N: ∀{i:Nat} {x:GV},bq h.g v (some ⟨F,[]⟩) i=some x->(i=v/\x=⟨F,[]⟩)\/(i≠v/\h.g i=some x):=λ{i x} n=>by
   unfold bq at n;by_cases c:i=v
   ·rw[az c] at n;cases n;exact .inl ⟨c,rfl⟩
   ·rw[au c] at n;exact .inr ⟨c,n⟩
  have hFl:F.toNat<h.s.2.length:=by omega
  have O: ∀{i:Nat} {p:Int},0<=p/\p<65536->jN {h with s:=s',g:=bq h.g v (some ⟨F,[]⟩)} i p=jN h i p:=λ{i p} b=>by
   by_cases c:i=v
   ·subst c;rw[f_ z,bT (h:={h with s:=s',g:=bq h.g i (some ⟨F,[]⟩)}) (x:=⟨F,[]⟩) (fy _ _ _)];show bA s' F false p= _;have P:=L (px 3 p % 16) (eH p 3).1 (eH p 3).2;have u:dC (mB gh F (some ((i:Int),3,0))) s' (i:Int) p F 3:=⟨by rw[Z1 b];exact bJ _ _ _,by rw[P];exact JO⟩;rw[E.fI (bJ _ _ _) b u,P,FC _ _ rfl]
   ·cases n:h.g i with
    |none=>
     rw[f_ n];exact f_ (h:={h with s:=s',g:=bq h.g v (some ⟨F,[]⟩)}) (show bq h.g v (some ⟨F,[]⟩) i=none by unfold bq;rw[au c];exact n) p
    |some x=>
     rw[bT n,bT (h:={h with s:=s',g:=bq h.g v (some ⟨F,[]⟩)}) (x:=x) (show bq h.g v (some ⟨F,[]⟩) i=some x by unfold bq;rw[au c];exact n)];show bA s' x.root false p= _;obtain⟨f,j, _,u⟩:=H.inv.mn (H.root n) b;have Q:=M u.1 (eH p j).1 (eH p j).2;have Z:dC (mB gh F (some ((v:Int),3,0))) s' (i:Int) p f j:=⟨A u.1,by rw[Q];exact u.2⟩;rw[H.inv.fI (H.root n) b u,E.fI (A (H.root n)) b Z,Q]
  have R: ∀(h:HS) {i:Nat} {p:Int},¬ (0<=p/\p<65536)->(jN h i p).2.2.1≠0:=λh {i p} b=>by
   grind[jN,Inv.xq]
  have im:m8 {h with s:=s',g:=bq h.g v (some ⟨F,[]⟩)}=m8 h:=by
   funext i p;rw[rK,rK];by_cases b:0<=p/\p<65536
   ·rw[O b]
   ·rw[au (R _ b),au (R _ b)]
  have kz:my {h with s:=s',g:=bq h.g v (some ⟨F,[]⟩)}=my h:=by
   funext i;unfold my;show(match bq h.g v (some ⟨F,[]⟩) i with|some x=>x.tk|none=>[])= _;unfold bq;by_cases c:i=v
   ·rw[az c,c,z]
   ·rw[au c]<;>rfl
  have G:h.s.2[F.toNat]? =some zD:=K;have S:uj h {h with s:=s',g:=bq h.g v (some ⟨F,[]⟩)} (λ_ q=> ¬ (0<=q/\q<65536)) (-1):=by
   refine⟨⟨λhq=>O (B4 hq)⟩,λ{m d d'} h1 I _ _ _ k k0 r=>?_,?_⟩
   ·have hmF:m≠F.toNat:=λc=>by rw[c,G] at h1;cases h1;exact absurd I (by decide)
    exact D _ (by omega)
   ·show KD h.s s';have:=KD.set (s:=h.s) (W:=s'.1) (d1:=((3:Int),(v:Int),(0:Int),(0:Int),())) G (λc=>absurd c (by decide)) (λc=>absurd c (by decide));rw[<-C] at this;exact this
  suffices hh:HI (mB gh F (some ((v:Int),3,0))) {h with s:=s',g:=bq h.g v (some ⟨F,[]⟩)} from⟨_,hh,S,λf w a=> .inl (by
   obtain⟨o,l,x⟩:=w;exact A a),λf c=>c.kd S.kd λk k0 r=>by
   obtain⟨z0,d,T,z2, _⟩:=c;have:f.toNat≠F.toNat:=λe=>by rw[e,G] at T;cases T;exact absurd z2 (by decide)
   exact D _ (by omega)⟩
  refine⟨E,λf o x a=>?_,λf o l x k a k0 r b B=>?_,?_,λ{i x} n=>?_,λ{i x} n=>?_,λ{f o y} a=>?_,?_⟩
  ·by_cases c:f=F
   ·subst c;rw[bJ] at a;cases a;rfl
   ·rw[aX c] at a;exact H.rt f o x a
  ·by_cases c:f=F
   ·subst c;have b:(aM s'.1 (16*f+k)).1=true:=b;rw[L k k0 r] at b;cases b
   ·rw[aX c] at a;have b:(aM s'.1 (16*f+k)).1=true:=b;have B:dG (aM s'.1 (16*f+k))=false:=B;rw[M a k0 r] at b B;exact H.nl a k0 r b B
  ·show s'.1.length=16*s'.2.length;rw[X,C,B1];exact H.sz
  ·rcases N n with ⟨c, _⟩|⟨_,c⟩
   ·omega
   ·exact H.jg c
  ·rcases N n with ⟨c,d⟩|⟨_,c⟩
   ·subst c;subst d;exact bJ _ _ _
   ·exact A (H.root c)
  ·by_cases c:f=F
   ·subst c;rw[bJ] at a;cases a;exact⟨v, _,rfl,fy _ _ _⟩
   ·rw[aX c] at a;obtain⟨i,x,h1,t⟩:=H.own a;refine⟨i,x,h1,?_⟩;show bq h.g v _ i=some x;unfold bq;rw[au (λc=>by subst c;rw[z] at t;cases t)];exact t
  ·rw[im,kz];show HC (m8 h) (my h) s'.2 h.gr;rw[C];refine H.hc.FY (λ{m d} h1 I=>?_) λ{m d} h1=>?_
   ·rw[Ad (λc=>by subst c;rw[K] at h1;cases h1;exact absurd I (by decide))];exact h1
   grind
end
theorem te {ds:List DT} {v:Int} {i:Nat}:i∈gB ds v<-> ∃d,ds[i]? =some d/\d.2.1=v:=by grind[gB]
theorem Hf (ds:List DT) (v:Int):(gB ds v).Nodup:=List.Pairwise.filter _ Fs
theorem yT {v:Int} (hv:1<=v/\v<=16): ∀(l:List Nat) (ds:List DT) (c:Int),l.Nodup->(∀i∈l, ∀d,ds[i]? =some d->d.1=4->d=(4,v,0,0,()))->
 (l.foldl (uz v) (ds,c)).1.length=ds.length/\ ∀n:Nat,((n∈l/\ ∃d,ds[n]? =some d/\d.1=4)->(l.foldl (uz v) (ds,c)).1[n]? =some (5,v,0,0,()))/\(¬ (n∈l/\ ∃d,ds[n]? =some d/\d.1=4)->(l.foldl (uz v) (ds,c)).1[n]? =ds[n]?)
 |[],ds,c, _, _=>⟨rfl,λn=>⟨λh=>(by cases h.1),λ_=>rfl⟩⟩
 |i::l,ds,c,b,m=>by
  rw[Bs] at b;rw[List.foldl_cons];by_cases e:(qp ds (i:Int)).1=4
  ·rw[show uz v (ds,c) i=(dF ds (i:Int) (aP 5 v),c+1) from az e];have hi:i<ds.length:=by
    refine B4 λhc=>?_;unfold qp at e;rw[az (.inr (by omega))] at e;exact absurd e (by decide)
   have g:ds[i]? =some ds[i]:=BL hi;rw[pa g] at e;have p:=m i Bv _ g e;rw[p] at g;rw[(yb (G:=aP 5 v) g (Bc hv)).1];obtain⟨h1,f⟩:=yT hv l (ds.set i (5,v,0,0,())) (c+1) b.2 λj k d o q=>by
    have r:i≠j:=λe=>b.1 (by rw[e];exact k);rw[Ad r] at o;exact m j (CH _ k) d o q
   refine⟨h1.trans (B1 ..),λn=>⟨λa=>?_,λa=>?_⟩⟩
   ·by_cases en:i=n
    ·subst en;rw[(f i).2 (λc=>b.1 c.1),Av hi]
    ·refine(f n).1 ⟨?_,?_⟩
     ·grind
     ·rw[Ad en];exact a.2
   grind
  ·rw[show uz v (ds,c) i=(ds,c) from au e];obtain⟨h1,f⟩:=yT hv l ds c b.2 λj k=>m j (CH _ k);refine⟨h1,λn=>⟨λa=>(f n).1 ⟨?_,a.2⟩,λa=>(f n).2 λc=>a ⟨CH _ c.1,c.2⟩⟩⟩;rcases Bx.1 a.1 with h|h
   ·subst h;obtain⟨d,s,t⟩:=a.2;rw[pa s] at e;exact absurd t e
   ·exact h
theorem I9 {s s':WD} (h:s'.1=s.1) (r:Int) (g:Bool) (p:Int):bA s' r g p=bA s r g p:=by grind[bA]
section
variable {gh:Gh} {h:HS}
theorem HI.gone (H:HI gh h) {v:Nat} {x:GV} (K:h.g v=some x) (O:my h v=[]) (P: ∀n,Nc h.s.2 n (v:Int)->ff (my h) (n:Int)=0): ∃dw,HI dw (vu h (v:Int))/\uj h (vu h (v:Int)) (λi _=>i=v) (-1)/\(∀(f:Int) (w:Int×Nat×Int),gh f=some w->w.1≠(v:Int)->dw f=some w)/\ ∀f,iB h.s f->iB (vu h (v:Int)).s f:=by
 have hd:=H.jg K;have L:1<=(v:Int)/\(v:Int)<=16:=by omega
 obtain⟨Q,W,w1,X,F⟩:=H.inv.dropped H.rt (H.root K);have Y:a6 h.g (v:Int)=x.root:=by
  unfold a6;rw[az (cq.2 ⟨by omega,x,K⟩)];show(match h.g v with|some x=>x.root|none=> -1)= _;rw[K]
 have Z:vu h (v:Int)={s:=((cH h.s x.root false).1,(BP (cH h.s x.root false).2 (v:Int)).1),g:=bq h.g v none,gr:=cQ h.gr (v:Int),po:=(Po.cH 4 h.po (v:Int)).2}:=by
  unfold vu;rw[Y];rfl
 rw[Z];generalize cH h.s x.root false=s1 at*
 have hD4: ∀{n:Nat} {d:DT},s1.2[n]? =some d->d.1=4->h.s.2[n]? =some d:=λ{n d} h1 r=>by
  by_cases e: ∃l y,gh (n:Int)=some ((v:Int),l,y)
  ·rw[(F n).1 e] at h1;cases h1;exact absurd r (show ¬ (5:Int)=4 by decide)
  ·rw[(F n).2 e] at h1;exact h1
 have R: ∀{n:Nat} {d:DT},h.s.2[n]? =some d->d.1=4->s1.2[n]? =some d:=λ{n d} h1 r=>by
  rw[(F n).2 (λ⟨l,y,C⟩=>?_)]
  ·exact h1
  ·have:=(H.inv.kd C).2.2.1;rw[show((n:Int)).toNat=n from rfl,h1] at this;cases this;exact absurd r (show ¬ (3:Int)=4 by decide)
 have mz: ∀i∈gB s1.2 (v:Int), ∀d,s1.2[i]? =some d->d.1=4->d=(4,(v:Int),0,0,()):=λi hi d h1 r=>by
  obtain⟨d',D,G⟩:=te.1 hi;rw[h1] at D;cases D;have E:=hD4 h1 r;obtain⟨_,I, _⟩:=H.hc.kd E;have J:=H.hc.refs E;rw[P i ⟨d,E,r,G⟩] at J;obtain⟨a,b,c,e,u⟩:=d;dsimp only at r I J G;rw[r,I,J,G];rfl
 obtain⟨f1,f2⟩:=yT L (gB s1.2 (v:Int)) s1.2 0 (Hf _ _) mz;have hoT:(BP s1.2 (v:Int)).1=((gB s1.2 (v:Int)).foldl (uz (v:Int)) (s1.2,0)).1:=rfl;rw[<-hoT] at f1 f2;generalize (BP s1.2 (v:Int)).1=j at*
 have B:Inv.fm (JQ gh (v:Int)) s1 (s1.1,j):=by
  refine iG Q ⟨rfl,f1⟩ (λb hb=>absurd rfl hb) λ{n d d'} h1 A=>?_;by_cases c:n∈gB s1.2 (v:Int)/\ ∃d,s1.2[n]? =some d/\d.1=4
  grind
  ·have A:j[n]? =some d':=A;rw[(f2 n).2 c,h1] at A;cases A;exact .inl rfl
 have S: ∀{i:Nat} {y:GV},bq h.g v none i=some y->i≠v/\h.g i=some y:=λ{i y} t=>by
  unfold bq at t;by_cases c:i=v
  ·rw[az c] at t;cases t
  ·rw[au c] at t;exact⟨c,t⟩
 have M: ∀{i:Nat} {y:GV},i≠v->h.g i=some y->bq h.g v none i=some y:=λ{i y} hi t=>by
  unfold bq;rw[au hi];exact t
 have aca:my {s:=(s1.1,j),g:=bq h.g v none,gr:=cQ h.gr (v:Int),po:=(Po.cH 4 h.po (v:Int)).2}=my h:=by
  funext i;unfold my;show(match bq h.g v none i with|some x=>x.tk|none=>[])= _;unfold bq;by_cases c:i=v
  ·rw[az c];subst c;exact O.symm
  ·rw[au c]<;>rfl
 have im:m8 {s:=(s1.1,j),g:=bq h.g v none,gr:=cQ h.gr (v:Int),po:=(Po.cH 4 h.po (v:Int)).2}=λi p=>if i=v then none else m8 h i p:=by
  funext i p;by_cases c:i=v
  ·rw[az c];exact gf (h:={s:=(s1.1,j),g:=bq h.g v none,gr:=cQ h.gr (v:Int),po:=(Po.cH 4 h.po (v:Int)).2}) (show bq h.g v none i=none by unfold bq;rw[az c]) p
  ·rw[au c];cases hi:h.g i with
   |none=>
    rw[gf hi];exact gf (h:={s:=(s1.1,j),g:=bq h.g v none,gr:=cQ h.gr (v:Int),po:=(Po.cH 4 h.po (v:Int)).2}) (show bq h.g v none i=none by unfold bq;rw[au c];exact hi) p
   |some z=>
    rw[cR hi,cR (h:={s:=(s1.1,j),g:=bq h.g v none,gr:=cQ h.gr (v:Int),po:=(Po.cH 4 h.po (v:Int)).2}) (M c hi)];rw[I9 (s:=h.s) (s':=(s1.1,j)) w1]
 have T:uj h {s:=(s1.1,j),g:=bq h.g v none,gr:=cQ h.gr (v:Int),po:=(Po.cH 4 h.po (v:Int)).2} (λi _=>i=v) (-1):=by
  refine⟨⟨λ{i q} c=>?_⟩,λ{m d d'} _ _ _ _ _ k _ _=>by show dJ s1.1 _= _;rw[w1],λ{n d} h1 r=>?_,λ{n d} h1 h5=>?_⟩
  ·cases hi:h.g i with
   |none=>
    rw[f_ hi];exact f_ (h:={s:=(s1.1,j),g:=bq h.g v none,gr:=cQ h.gr (v:Int),po:=(Po.cH 4 h.po (v:Int)).2}) (show bq h.g v none i=none by unfold bq;rw[au c];exact hi) q
   |some z=>
    rw[bT hi,bT (h:={s:=(s1.1,j),g:=bq h.g v none,gr:=cQ h.gr (v:Int),po:=(Po.cH 4 h.po (v:Int)).2}) (M c hi)];exact I9 (s:=h.s) (s':=(s1.1,j)) w1 _ _ _
  grind
  grind
 suffices hh:HI (JQ gh (v:Int)) {s:=(s1.1,j),g:=bq h.g v none,gr:=cQ h.gr (v:Int),po:=(Po.cH 4 h.po (v:Int)).2} from⟨_,hh,T,λf w C hn=>c_.2 ⟨C,hn⟩,λf c=>c.kd T.kd λk _ _=>by show dJ s1.1 _= _;rw[w1]⟩
 refine⟨Q.beside B,W,Inv.mY B (λf o l y k C k0 D U V=>?_),?_,λ{i y} t=>H.jg (S t).2,λ{i y} t=>?_,λ{f o y} C=>?_,?_⟩
 ·rw[w1] at U V;exact H.nl (c_.1 C).1 k0 D U V
 ·show s1.1.length=16*j.length;rw[w1,f1,X];exact H.sz
 ·obtain⟨h1,A⟩:=S t;exact c_.2 ⟨H.root A,λc=>h1 (BN c)⟩
 ·obtain⟨h1,A⟩:=c_.1 C;obtain⟨i,y',I,J⟩:=H.own h1;exact⟨i,y',I,M (λc=>A (by show o= _;rw[<-I,c])) J⟩
 ·rw[im,aca];refine H.hc.gone ⟨by omega,by omega⟩ O (λ{n d} h1 r N=>?_) (λ{n d} h1 r N=>?_) (λ{n d} h1=>?_) (H.hc.gk.drop _)
  ·rw[H.hc.refs h1,P n ⟨d,h1,r,N⟩];rfl
  ·show j[n]? =some d;rw[(f2 n).2 (λc=>?_)]
   ·exact R h1 r
   ·obtain⟨d',D,G⟩:=te.1 c.1;rw[R h1 r] at D;cases D;exact N G
  ·have h1:j[n]? =some d:=h1;by_cases c:n∈gB s1.2 (v:Int)/\ ∃d,s1.2[n]? =some d/\d.1=4
   ·rw[(f2 n).1 c] at h1;cases h1;exact .inr ⟨.inr (.inr rfl),rfl,by show 0<=(v:Int);omega,L.2⟩
   ·rw[(f2 n).2 c] at h1;by_cases e: ∃l y,gh (n:Int)=some ((v:Int),l,y)
    ·rw[(F n).1 e] at h1;cases h1;exact .inr ⟨.inr (.inr rfl),rfl,by show 0<=(v:Int);omega,L.2⟩
    ·have E:=h1;rw[(F n).2 e] at h1;exact .inl ⟨h1,λk=>c ⟨te.2 ⟨d,E,k.2⟩,d,E,k.1⟩⟩
theorem HI.I_ (H:HI gh h) (a:Int): ∃dw,HI dw (sE h a)/\uj h (sE h a) (λi _=>i=a.toNat) (-1)/\(∀(f:Int) (w:Int×Nat×Int),gh f=some w->w.1≠a->dw f=some w\/iB (sE h a).s f)/\ ∀f,iB h.s f->iB (sE h a).s f:=by
 unfold sE;by_cases j:aW h.g a=true
 case neg=>rw[au j];exact⟨gh,H,.refl _ _ _,λ_ _ h _=> .inl h,λ_ h=>h⟩
 rw[az j];by_cases hb:vt h.s.2 a=true
 case pos=>rw[az hb];exact⟨gh,H,.refl _ _ _,by grind⟩
 rw[au hb];obtain⟨x,o,K,hv,L,M⟩:=cg j;obtain⟨v,rfl⟩: ∃v:Nat,a=v:=⟨a.toNat,hv.symm⟩;obtain⟨g1,p,⟨x1,r⟩,u,N,y,z,l⟩:=HI.fK (xE h v).length H ⟨x,o⟩ rfl
 suffices A: ∀n,Nc _ n v->ff _ _=0 by
  obtain⟨B,C,E2,b,k⟩:=p.gone r u A;exact⟨B,C,z.trans E2,λf w D m=>(l.1 f w D).imp (by grind) (k f),λf c=>k f (l.2 f c)⟩
 intro n m;rcases C6 _ with e|e
 ·exact e
 ·obtain⟨i,t,hi,E,F⟩:=yS e;have O:i≠v:=λc=>by grind
  have G:t∈my h i:=by
   unfold my at E ⊢
   grind
  obtain⟨d,b,k,I⟩:=(y n _).1 m;have P:=nK (q:=λt=>t.2.2==n) hi G F;have J:=H.hc.refs b;refine absurd ?_ hb;refine Fu.2 ⟨n,te.2 ⟨d,b,I⟩,?_⟩;rw[pa b];have:d.2.2.1>0:=by rw[J];unfold ff;omega
  grind
end
theorem zn (o pg:Int): ∀(n:Nat) (x:WD×PT),(qI o pg n x).1.1.length=x.1.1.length
 |0,x=>rfl
 |n+1,x=>by
  rw[qI,zn o pg n];exact xj _ _ _ _ _
theorem Mg (s:WD) (o r pg lv:Int) (e:ET):(rz s o r pg lv e).1.length=s.1.length:=by
 unfold rz;split
 ·show(dK _ _ _).length= _;rw[cF,zn]
 ·rfl
theorem qj (s:WD) (o r:Int) (gone:Bool) (pg f rt:Int):(jv s o r gone pg f rt).1.length=s.1.length:=by
 unfold jv;split
 ·rfl
 ·split
  ·exact Mg _ _ _ _ _ _
  ·rfl
theorem Mh (s:WD) (o r:Int) (gone:Bool) (pg rt:Int):(rA s o r gone pg rt).1.length=s.1.length:=by
 unfold rA;split
 ·rfl
 split
 ·split
  ·split
   ·rfl
   ·split
    ·show(dK _ _ _).length= _;rw[cF,tc]
    ·exact tc _ _ _ _
  ·rfl
 ·rfl
theorem RR (s:WD) (r:Int) (gone:Bool):(cH s r gone).1=s.1:=by
 unfold cH;split<;>rfl
theorem Bh (v:Int): ∀(n:Nat) (h:HS),(fK v n h).s.1.length=h.s.1.length
 |0,h=>rfl
 |n+1,h=>by
  rw[fK,Bh v n];exact td _ _ _ _ _
theorem VC (h:HS) (v k a b c:Int):(run h v k a b c).1.s.1.length=h.s.1.length:=by
 unfold run;split
 ·show(gP h).s.1.length= _;unfold gP;split
  ·rfl
  ·split
   ·exact IX _ _ _
   ·rfl
 ·show(sE h a).s.1.length= _;unfold sE;split
  ·split
   ·rfl
   ·show(cH _ _ _).1.length= _;rw[RR,Bh]
  ·rfl
 ·show(jO h v a b).s.1.length= _;unfold jO;split
  ·rfl
  split
  ·rfl
  split
  ·rfl
  split
  ·exact qj _ _ _ _ _ _ _
  ·exact(gH _ _ _ _).trans (qj _ _ _ _ _ _ _)
 ·show(qx h v a).s.1.length= _;unfold qx;split
  ·exact td _ _ _ _ _
  ·rfl
 ·show(jT h v a b).s.1.length= _;unfold jT;split
  ·rfl
  split
  ·rfl
  split
  ·rfl
  ·exact Mh _ _ _ _ _ _
 ·rfl
 ·show(j_ h v a b).s.1.length= _;unfold j_;split
  ·rfl
  ·exact cF _ _ _
 ·show(iy h v a b c).s.1.length= _;unfold iy;split<;>rfl
 ·show(jo h v a b c).s.1.length= _;unfold jo;split
  ·rfl
  split
  ·exact qj _ _ _ _ _ _ _
  ·exact qj _ _ _ _ _ _ _
 ·show(gW h v a).s.1.length= _;unfold gW;split
  ·rfl
  split
  ·exact td _ _ _ _ _
  ·rfl
 ·show(fM h v a).s.1.length= _;unfold fM;split<;>rfl
 ·show(lQ h v a).s.1.length= _;unfold lQ;split<;>rfl
 ·show(lR h v a b).s.1.length= _;unfold lR;split
  ·rfl
  split<;>rfl
 ·show(lP h v a).s.1.length= _;unfold lP;split<;>rfl
 ·rfl
 ·show(iX h v a).s.1.length= _;unfold iX;split<;>rfl
 ·show(dH h.s _).1.1.length= _;rw[(A7 h.s _).1]
theorem O4 (h:HS) (v k a b c:Int):(kN h v k a b c).s.1.length=h.s.1.length:=by
 unfold kN;split
 ·exact VC _ _ _ _ _ _
 ·rfl
theorem B8 {h:HS} {v k a b c:Int} (f:iU h v k a b c=0):(1<=k/\k<=17)/\(ux k=false->aW h.g v=true)/\iw k a b c=true:=by
 unfold iU at f;split at f
 ·exact absurd f (by decide)
 rename_i d1;split at f
 ·exact absurd f (by decide)
 rename_i j;split at f
 ·exact absurd f (by decide)
 rename_i d;have i:iw k a b c=true:=by
  cases e:iw k a b c with
  |true=>rfl
  |false=>rw[e] at d1;simp at d1
 have d0: ¬ v<0:=λe=>d1 (by simp[e]);refine⟨?_,λe=>?_,i⟩
 ·unfold iw at i;rw[DB,decide_eq_true_eq] at i;have d1:=i.1;unfold jR at d1;by_cases e:1<=k/\k<=17
  ·exact e
  ·rw[au e] at d1;exact absurd d1 (by decide)
 ·rw[e] at j;have m:v≠0:=by
   intro l;rw[l] at j;exact absurd rfl j
  have:decide (v>0)=true:=decide_eq_true (by omega);rw[this,Bool.true_and] at d;simpa using d
section
variable {gh:Gh} {h:HS}
theorem HI.run (H:HI gh h) {v k a b c:Int} (i:1<=k/\k<=17) (d:ux k=false->aW h.g v=true) (f:0<=a): ∃dw,HI dw (run h v k a b c).1:=by
 have:k=1\/k=2\/k=3\/k=4\/k=5\/k=6\/k=7\/k=8\/k=9\/k=10\/k=11\/k=12\/k=13\/k=14\/k=15\/k=16\/k=17:=by omega
 rcases this with rfl|rfl|rfl|rfl|rfl|rfl|rfl|rfl|rfl|rfl|rfl|rfl|rfl|rfl|rfl|rfl|rfl
 ·obtain⟨g',e, _⟩:=H.F2;exact⟨g',e⟩
 ·obtain⟨g',e, _⟩:=H.I_ a;exact⟨g',e⟩
 ·exact H.FZ (d rfl) a b
 ·exact H.Cp (d rfl) a
 ·exact H.sM (d rfl) a b
 ·exact⟨gh,H⟩
 ·exact⟨gh,(H.store (d rfl) f b).1⟩
 ·exact⟨gh,H.offer v a b c⟩
 ·exact H.take (d rfl) a b c
 ·exact H.back (d rfl) a
 ·exact⟨gh,H.Zt v a⟩
 ·refine⟨gh,?_⟩;show HI gh (lQ h v a);unfold lQ;split
  ·exact H.po _
  ·exact H
 ·refine⟨gh,?_⟩;show HI gh (lR h v a b);unfold lR;split
  ·exact H
  split
  ·exact H.po _
  ·exact H
 ·refine⟨gh,?_⟩;show HI gh (lP h v a);unfold lP;split
  ·exact H
  ·exact H.po _
 ·exact⟨gh,H.po _⟩
 ·refine⟨gh,?_⟩;show HI gh (iX h v a);unfold iX;split
  ·exact H
  ·exact H.po _
 ·exact⟨gh,H.WR _⟩
theorem HI.step (H:HI gh h) (v k:Int) {a:Int} (b c:Int) (e:0<=a): ∃dw,HI dw (kN h v k a b c):=by
 unfold kN;by_cases d:iU h v k a b c=0
 ·rw[az d];obtain⟨h1,f, _⟩:=B8 d;exact H.run h1 f e
 ·rw[au d];exact⟨gh,H⟩
end
theorem HI.new {n:Nat} (r:4<=n/\n<=4096):HI Wc (h0 n) where
 inv:=LG (Dl _) r.2
 rt:=λf o x h=>(by cases h)
 nl:=λf o l x i h=>(by cases h)
 sz:=by
  show(Bz (16*n) (0:Int)).length=16*(Bz n zD).length;rw[E9,E9]
 jg:=λh=>(by cases h)
 root:=λh=>(by cases h)
 own:=λh=>(by cases h)
 hc:=by
  have b: ∀i p,m8 (h0 n) i p=none:=λi p=>rfl;have c: ∀i,my (h0 n) i=[]:=λi=>rfl;have e: ∀{m:Nat} {d:DT},(Bz n zD)[m]? =some d->d=zD:=λ{m d} h=>Fv (BJ h);have s: ∀{m:Nat} {x:GT},(Bz 16 zG)[m]? =some x->x=zG:=λ{m d} h=>Fv (BJ h);have g: ∀q,oN (my (h0 n)) q=0:=λq=>Ba λi t j=>by rw[c i] at j;cases j
  refine⟨λh=>?_,λ{m d} h=>?_,λ{m d} h k=>?_,λh=>?_,λ{i p a f} h=>?_,λi=>?_,λh=>?_,λ{m d} h=>?_,λ{m x} h=>?_,E9,nY.new 16⟩
  ·rw[b] at h;cases h
  ·rw[e h];decide
  ·rw[e h] at k;exact absurd k (by decide)
  ·rw[b] at h;cases h
  ·rw[c i] at h;unfold b_ at h;simp at h
  ·rw[c i];exact List.nodup_nil
  ·rw[b] at h;cases h
  ·rw[e h];unfold ff;rw[g];rfl
  ·rw[s h];unfold mK;rw[g];rfl
def jq (h h':HS):Prop:=h'.s=h.s/\h'.g=h.g
section
variable {gh:Gh} {h:HS} {v k a b c:Int}
theorem jq.refl:jq h h:=⟨rfl,rfl⟩
theorem RU (H:HI gh h) (j:1<=k/\k<=17) (f:ux k=false->aW h.g v=true) (d:(run h v k a b c).2.2≠0):jq h (run h v k a b c).1:=by
 have:k=1\/k=2\/k=3\/k=4\/k=5\/k=6\/k=7\/k=8\/k=9\/k=10\/k=11\/k=12\/k=13\/k=14\/k=15\/k=16\/k=17:=by omega
 rcases this with rfl|rfl|rfl|rfl|rfl|rfl|rfl|rfl|rfl|rfl|rfl|rfl|rfl|rfl|rfl|rfl|rfl
 ·have d:oY h≠0:=d;show jq h (gP h);unfold oY at d;unfold gP;cases i:mJ h.g with
  |none=>exact .refl
  |some n=>
   rw[i] at d;dsimp only at d ⊢;rw[au d];exact .refl
 ·have d:FE h a≠0:=d;show jq h (sE h a);unfold FE at d;unfold sE;split
  ·rename_i c1;rw[az c1] at d;split
   ·exact .refl
   ·rename_i c2;rw[au c2] at d;exact absurd rfl d
  ·exact .refl
 ·have d:qz h v a b≠0:=λe=>d (by show(xJ h v a b).2=0;unfold xJ;rw[az e]);show jq h (jO h v a b);rw[H.OY (f rfl) d];exact .refl
 ·have d:(BM h v a).2≠0:=d;show jq h (qx h v a);unfold BM at d;unfold qx;split
  ·rename_i c1;rw[az c1] at d;exact absurd rfl d
  ·exact .refl
 ·have d:oW h v a b≠0:=d;show jq h (jT h v a b);rw[HI.I0 d];exact .refl
 ·exact .refl
 ·have d:rJ h v a≠0:=d;show jq h (j_ h v a b);unfold rJ at d;unfold j_;split
  ·exact .refl
  rename_i c1;rw[au c1] at d;refine⟨?_,rfl⟩;show(dK h.s.1 _ b,h.s.2)=h.s;unfold zM at d;rw[show dK h.s.1 (iT h v a 2).1 b=h.s.1 from au λe=>d (az e)]
 ·show jq h (iy h v a b c);unfold iy;split
  ·exact⟨rfl,rfl⟩
  ·exact .refl
 ·have d:ng h v a b c≠0:=d;show jq h (jo h v a b c);rw[H.O1 (f rfl) d];exact .refl
 ·have d:oX h v a≠0:=d;show jq h (gW h v a);rw[I8 d];exact .refl
 ·show jq h (fM h v a);unfold fM;split
  ·exact .refl
  ·exact⟨rfl,rfl⟩
 ·show jq h (lQ h v a);unfold lQ;split
  ·exact⟨rfl,rfl⟩
  ·exact .refl
 ·show jq h (lR h v a b);unfold lR;split
  ·exact .refl
  split
  ·exact⟨rfl,rfl⟩
  ·exact .refl
 ·show jq h (lP h v a);unfold lP;split
  ·exact .refl
  ·exact⟨rfl,rfl⟩
 ·exact⟨rfl,rfl⟩
 ·show jq h (iX h v a);unfold iX;split
  ·exact .refl
  ·exact⟨rfl,rfl⟩
 ·exact absurd rfl d
theorem HI.fail (H:HI gh h) (e:sd h v k a b c≠0):jq h (kN h v k a b c)/\xF h v k a b c=0:=by
 unfold sd at e;unfold kN xF;by_cases d:iU h v k a b c=0
 ·rw[az d] at e ⊢;rw[az d,au e];obtain⟨h1,f, _⟩:=B8 d;exact⟨RU H h1 f e,rfl⟩
 ·rw[au d,au d];exact⟨.refl,rfl⟩
end
section
variable {gh dw:Gh} {h:HS}
structure acx (h h':HS) (f o b:Int):Prop where
 g:h'.g=h.g
 gr:h'.gr=h.gr
 po:h'.po=h.po
 pg: ∀{i:Nat} {q:Int},jN h' i q=jN h i q
 ds:h'.s.2=h.s.2
 ld: ∀q,dJ h'.s.1 q=if q=16*f+o then b else dJ h.s.1 q
end
section
variable {gh:Gh} {h:HS} {v k a b c:Int} {l:List Int}
theorem F3 (d:iU h v k a b c=0):kN h v k a b c=(run h v k a b c).1/\sd h v k a b c=(run h v k a b c).2.2/\xF h v k a b c=if(run h v k a b c).2.2=0 then(run h v k a b c).2.1 else 0:=by
 unfold kN sd xF;rw[az d,az d,az d];exact⟨rfl,rfl,rfl⟩
structure WS (h:HS) (v:Int) (l:List Int):Prop where
 hi: ∃gh,HI gh h
 lv:aW h.g 1=true
 tk:my h 1=[]
 ct:4*12<=cA h.s.2 0+4*l.length
 pg: ∀a∈l, ∃f,jN h 1 a=(f,3,0,())/\dJ h.s.1 (16*f+3)=aB .u64 v a/\dJ h.s.1 (16*f+4)=0
 no: ∀a,(jN h 1 a).2.2.1=0->a∈l
end
section
variable {gh:Gh} {h:HS} {v k a b c:Int}
theorem Ef {g:Nat->Option GV} {n i:Nat} {f:GV->GV}:(bq g n (match g n with|some x=>some (f x)|none=>none) i).isSome=(g i).isSome/\(i≠n->bq g n (match g n with|some x=>some (f x)|none=>none) i=g i):=by grind[bq]
theorem abu (h:HS) (v a b:Int):(jO h v a b).g=h.g:=by
 unfold jO;split
 ·rfl
 split
 ·rfl
 split
 ·rfl
 split
 ·rfl
 ·rfl
theorem VD (d:1<=k/\k<=17) (hc:ux k=false) (i:Nat):((run h v k a b c).1.g i).isSome=(h.g i).isSome:=by
 have:k=1\/k=2\/k=3\/k=4\/k=5\/k=6\/k=7\/k=8\/k=9\/k=10\/k=11\/k=12\/k=13\/k=14\/k=15\/k=16\/k=17:=by omega
 rcases this with rfl|rfl|rfl|rfl|rfl|rfl|rfl|rfl|rfl|rfl|rfl|rfl|rfl|rfl|rfl|rfl|rfl
 ·cases hc
 ·cases hc
 ·show((jO h v a b).g i).isSome= _;rw[abu]
 ·show((qx h v a).g i).isSome= _;unfold qx;split<;>rfl
 ·show((jT h v a b).g i).isSome= _;unfold jT;split
  ·rfl
  split
  ·rfl
  split<;>rfl
 ·rfl
 ·show((j_ h v a b).g i).isSome= _;unfold j_;split<;>rfl
 ·show((iy h v a b c).g i).isSome= _;unfold iy;split<;>rfl
 ·show((jo h v a b c).g i).isSome= _;unfold jo;split
  ·rfl
  split
  ·exact Ef.1
  ·rfl
 ·show((gW h v a).g i).isSome= _;unfold gW;split
  ·rfl
  split
  ·exact Ef.1
  ·rfl
 ·show((fM h v a).g i).isSome= _;unfold fM;split<;>rfl
 ·show((lQ h v a).g i).isSome= _;unfold lQ;split<;>rfl
 ·show((lR h v a b).g i).isSome= _;unfold lR;split
  ·rfl
  split<;>rfl
 ·show((lP h v a).g i).isSome= _;unfold lP;split<;>rfl
 ·rfl
 ·show((iX h v a).g i).isSome= _;unfold iX;split<;>rfl
 ·cases hc
structure LS (n:Nat) (h:HS):Prop where
 hi: ∃gh,HI gh h
 g1: ∃x,h.g 1=some x
 go: ∀i,i≠1->h.g i=none
 ln:h.s.2.length=n
end
abbrev LT:Type:=Int×Int×Int×Int×Unit
abbrev AK:Type:=Int×Int×Int×Unit
abbrev CT:Type:=Int×Int×Int×Int×Unit
abbrev MT:Type:=Int×Int×Int×CT×Int×Int
def BR (t p:Int) (l:LT):Bool:=l.1==t&&l.2.1==p
def B9 (ls:List LT) (t p:Int):List LT:=ls.filter λl=> !BR t p l
def VE (ls:List LT) (t:Int):List LT:=ls.filter λl=> !(l.1==t)
def jm (ls:List LT) (t p:Int):List LT:=if p= -1 then VE ls t else B9 ls t p
def qJ (ls:List LT) (sz:Int) (l:LT):List LT:=
 (if ls.any (BR l.1 l.2.1)=true then B9 ls l.1 l.2.1 else if(ls.length:Int)=sz then ls.drop 1 else ls)++[l]
def mL (ls:List LT) (t p w:Int):Int×Int:=match ls.find? (BR t p) with
 |none=>(0,4)
 |some l=>if w<0\/w>7\/gD .i64 w l.2.2.2.1≠0 then(0,7) else(l.2.2.1,0)
structure vh where
 now:Int
 pins:List Int
 ws:List (Int×Int)
def z5 (e:vh) (n:Nat):vh:=if e.pins.getD n 0= -1 then{e with pins:=e.pins.set n e.now} else e
def uB (e:vh) (n:Nat):vh:={e with pins:=e.pins.set n (-1)}
def kT (e:vh) (f:Int):vh:=if e.ws.any (λx=>x.1==f)=true then e else{e with ws:=(f,e.now)::e.ws}
def fj (e:vh):vh:=if e.pins.all (λp=>p== -1||p==e.now)=true then{e with now:=e.now+1} else e
def oy (e:vh):List Int:=n7 ((e.ws.filter λx=>decide (x.2+2<=e.now)).map (·.1))
def BS (e:vh):vh:={e with ws:=e.ws.filter λx=> !decide (x.2+2<=e.now)}
structure bZ where
 ls:List LT
 ph:Int
 vm:Int
 c:CT
 wk:Int×Int×FT
 fr:Int
 rs:Int×Int
 ak:Int
 fs:List Int
def cL (ls:List LT):bZ:=⟨ls,0,0,(0,0,0,0,()),(0,0,(0,0,0,0,())),0,(0,0),0,[]⟩
structure MS where
 h:HS
 ep:vh
 bx:List (List AK)
 op:List Int
 cs:List bZ
 kn:List Int
 ms:List MT
 sz:Int
def a9 (k:Int):Int:=if k=6 then 1 else if k=7 then 2 else 0
def l_ (h:HS) (x:bZ):Bool:=decide (a9 x.c.1>0)&&(aW h.g x.vm&&(iw x.c.1 x.c.2.1 x.c.2.2.1 x.c.2.2.2.1&&decide (x.c.2.1<1048576)))
def qA (s:MS) (n:Nat) (x:bZ):Bool:=(BO s.cs.length).any λi=>match s.cs[i]? with
 |none=>false
 |some y=>decide (i≠n/\x.vm=0)&&((x.c.1==1&&(y.ph==4&&y.c.1==2))||(x.c.1==2&&(decide (y.ph>=2)&&(decide (y.vm>0)&&y.vm==x.c.2.1))))
def ib (s:MS) (f:Int):MS:={s with h:=bC s.h (iC s.h.s f),kn:=s.kn.filter (λx=> !(x==f)),ms:=s.ms++[(2,0,f,(0,0,0,0,()),0,0)]}
def dL (s:MS):MS×Nat:=((oy (fj s.ep)).foldl ib {s with ep:=BS (fj s.ep)},(oy (fj s.ep)).length)
def eR (s:MS) (h':HS):List Int:=((BO h'.s.2.length).map λ(f:Nat)=>(f:Int)).filter λf=>(qp h'.s.2 f).1==5&& !s.kn.contains f
def cD (s:MS) (n:Nat) (x:bZ):MS:={s with cs:=s.cs.set n x}
def dD (bx:List (List AK)) (op:List Int) (n:Nat) (t p:Int):Int×List (List AK)×List Int:=
 if t<1\/t>16\/p< -1\/p>=65536 then(0,bx,op)
 else if(bx.eraseIdx n).any (λq=>q.length==16)=true then(0,bx,op)
 else((op.length:Int)+1,(bx.zipIdx.map λ(q,i)=>if i=n then q else q++[((op.length:Int)+1,t,p,())]),op++[(bx.length:Int) - 1])
abbrev St:Type:=MS×(Int×Int)×Bool
def iD (s:MS) (n:Nat) (x:bZ):St:=
 let h':=kN s.h x.vm x.c.1 x.c.2.1 x.c.2.2.1 x.c.2.2.2.1
 let V:=xF s.h x.vm x.c.1 x.c.2.1 x.c.2.2.1 x.c.2.2.2.1
 let E:=sd s.h x.vm x.c.1 x.c.2.1 x.c.2.2.1 x.c.2.2.2.1
 let fs:=eR s h'
 let s1:MS:={s with h:=h',kn:=s.kn++fs,ms:=s.ms++[(1,x.vm,0,x.c,V,E)]}
 let x1:bZ:={x with rs:=(V,E),fs:=fs}
 if x.c.1=2\/x.c.1=4\/x.c.1=5\/x.c.1=10 then
  if E≠0 then(cD s1 n x1,(V,E),true)
  else
   let t:=if x.c.1=2 then aw .i64 x.c.2.1 else x.vm
   let p:=if x.c.1=2 then -1 else aw .i64 x.c.2.1
   let q:=dD s.bx s.op n t p
   (cD {s1 with bx:=q.2.1,op:=q.2.2} n {x1 with ls:=jm x.ls t p,ak:=q.1,ph:=4},(0,0),false)
 else(cD s1 n x1,(V,E),true)
def dy (s:MS) (n:Nat) (x:bZ):St:=
 if l_ s.h x=true then
  let e:=z5 s.ep n
  let a:=mL x.ls x.vm (x.c.2.1 / 16) (a9 x.c.1)
  if a.2=0 then(cD {s with ep:=e} n {x with ph:=3,fr:=a.1},(0,0),false)
  else(cD {s with ep:=e} n {x with ph:=2,wk:=lG s.h.s.1 (a6 s.h.g x.vm) (x.c.2.1 / 16) (a9 x.c.1) 0},(0,0),false)
 else if qA s n x=true then(s,(0,9),true)
 else if x.vm=0/\x.c=(17,0,0,0,()) then((dL s).1,(((dL s).2:Nat),0),true)
 else iD s n x
def k_ (s:MS) (n:Nat) (x:bZ):St:=
 let w:=bG s.h.s.1 (x.c.2.1 / 16) (a9 x.c.1) x.wk
 let x1:bZ:={x with wk:=w}
 if w.2.1≠ -1 then(cD s n x1,(0,0),false)
 else if w.2.2.2.2.2.1≠0 then(cD {s with ep:=uB s.ep n} n x1,(0,w.2.2.2.2.2.1),true)
 else(cD s n {x1 with ls:=qJ x.ls s.sz (x.vm,x.c.2.1 / 16,w.2.2.1,w.2.2.2.1,()),ph:=3,fr:=w.2.2.1},(0,0),false)
def fY (s:MS) (n:Nat) (x:bZ):St:=
 let at_:=16*x.fr+x.c.2.1 % 16
 if x.c.1=7 then({s with h:=bC s.h (dK s.h.s.1 at_ x.c.2.2.1,s.h.s.2),ep:=uB s.ep n,ms:=s.ms++[(4,0,at_,(0,0,0,0,()),x.c.2.2.1,0)]},(0,0),true)
 else({s with ep:=uB s.ep n,ms:=s.ms++[(3,0,at_,(0,0,0,0,()),dJ s.h.s.1 at_,0)]},(dJ s.h.s.1 at_,0),true)
def yc (s:MS) (a:Int):Bool:=decide (1<=a/\a<=(s.op.length:Int))&&s.op.getD (a - 1).toNat 0==0
def iE (s:MS) (x:bZ):St:=if yc s x.ak=true then({s with ep:=x.fs.foldl kT s.ep},x.rs,true) else(s,(0,0),false)
def bV (s:MS) (n:Nat) (x:bZ):St:=
 if x.ph=0 then((dL s).1,(0,0),false)
 else if x.ph=1 then dy s n x
 else if x.ph=2 then k_ s n x
 else if x.ph=3 then fY s n x
 else iE s x
def iR (r:St) (n:Nat) (x:bZ):St:=if r.2.2=true then(cD r.1 n (cL ((r.1.cs.getD n x).ls)),r.2.1,true) else(r.1,(0,0),false)
def xK (s:MS) (n:Nat):Option (AK×MS):=match s.bx[n]? with
 |some (a::q)=>some (a,{s with bx:=s.bx.set n q,op:=s.op.set (a.1 - 1).toNat (s.op.getD (a.1 - 1).toNat 0 - 1)})
 | _=>none
def lS (s:MS) (n:Nat) (x:bZ):St:=
 if x.ph=3 then iR (bV s n x) n x
 else match xK s n with
  |some (a,s1)=>(cD s1 n {x with ls:=jm x.ls a.2.1 a.2.2.1},(0,0),false)
  |none=>iR (bV s n x) n x
def cd (s:MS) (n:Int):St:=if n<0 then(s,(0,0),false) else match s.cs[n.toNat]? with
 |none=>(s,(0,0),false)
 |some x=>lS s n.toNat x
def Df (s:MS) (n:Int):Int:=if n<0 then 2 else match s.cs[n.toNat]? with
 |none=>2
 |some x=>if x.ph=0 then 0 else 9
def fP (s:MS) (n vm:Int) (c:CT):MS:=if n<0 then s else match s.cs[n.toNat]? with
 |none=>s
 |some x=>if x.ph=0 then cD s n.toNat {x with ph:=1,vm:=vm,c:=c} else s
def m0 (b a:Nat) (c:Int):MS where
 h:=h0 b
 ep:=⟨0,Bz a (-1),[]⟩
 bx:=Bz a []
 op:=[]
 cs:=Bz a (cL [])
 kn:=[]
 ms:=[]
 sz:=c
section
variable {gh:Gh} {h:HS} {v k a b c:Int}
end
abbrev dh (a:Int):Prop:=0<=a/\a<18446744073709551616
structure MA (n:Nat) (s:MS):Prop where
 hi: ∃gh,HI gh s.h
 nn:1<=n/\n<=8
 lc:s.cs.length=n
 lb:s.bx.length=n
 lp:s.ep.pins.length=n
 sz:1<=s.sz/\s.sz<=64
 ph: ∀x∈s.cs,0<=x.ph/\x.ph<=4
 ar: ∀x∈s.cs,dh x.c.2.1/\dh x.c.2.2.1/\dh x.c.2.2.2.1
 tl: ∀x∈s.cs,(x.ls.length:Int)<=s.sz
 k5: ∀f∈s.kn, ∃(m:Nat) (d:DT),f=(m:Int)/\s.h.s.2[m]? =some d/\d.1=5
 nk:s.kn.Nodup
 wk: ∀e∈s.ep.ws,e.1∈s.kn
 wn:(s.ep.ws.map (·.1)).Nodup
 fk: ∀x∈s.cs,x.ph=4-> ∀f∈x.fs,f∈s.kn/\f∉s.ep.ws.map (·.1)
 fn: ∀x∈s.cs,x.ph=4->x.fs.Nodup
 fd: ∀{i j:Nat} {x y:bZ},s.cs[i]? =some x->s.cs[j]? =some y->i≠j->x.ph=4->y.ph=4-> ∀f∈x.fs,f∉y.fs
 ln: ∀x∈s.cs, ∀l∈x.ls, ∃m:Nat,l.2.2.1=(m:Int)/\m<s.h.s.2.length
 rc: ∀x∈s.cs,x.ph=3-> ∃m:Nat,x.fr=(m:Int)/\m<s.h.s.2.length
 wl: ∀x∈s.cs,x.ph=2->0<=x.wk.2.1/\x.wk.2.1<=3
 ak: ∀q∈s.bx, ∀a∈q,1<=a.1/\a.1<=(s.op.length:Int)
 bl: ∀q∈s.bx,q.length<=16
def mtA (a:AK) (t p:Int):Prop:=a.2.1=t/\(a.2.2.1= -1\/a.2.2.1=p)
def rB (s:MS) (i:Nat) (f:Int):Prop:=(∃(z:Nat) (y:bZ),s.cs[z]? =some y/\y.ph=4/\f∈y.fs)\/ ∃e∈s.ep.ws,e.1=f/\s.ep.pins.getD i 0<=e.2
def Dg (ta:Int->Bool) (s:MS) (i:Nat) (l:LT):Prop:=
 (1<=l.1/\l.1<=16/\0<=l.2.1/\l.2.1<65536)/\ ∃(m:Nat) (d:DT),l.2.2.1=(m:Int)/\s.h.s.2[m]? =some d/\
  ((d.1=4/\jN s.h l.1.toNat l.2.1=(l.2.2.1,l.2.2.2.1,0,()))\/
    ((d.1=4\/d.1=5)/\ ∃q a,s.bx[i]? =some q/\a∈q/\mtA a l.1 l.2.1/\
      (d.1=5->ta l.2.2.1=false/\ ∃(z:Nat) (y:bZ), ∃b∈q,s.cs[z]? =some y/\y.ph=4/\l.2.2.1∈y.fs/\b.1=y.ak/\a.1<=b.1)))
def Dh (gh:Gh) (ta:Int->Bool) (s:MS) (i:Nat) (x:bZ):Prop:=
 ∃l:Nat,x.wk.2.1=(l:Int)/\l<=3/\x.wk.2.2=(0,0,0,0,())/\(gh x.wk.1=some (x.vm,l,px (l+1) (x.c.2.1 / 16))\/(iB s.h.s x.wk.1/\rB s i x.wk.1/\ta x.wk.1=true))
def z6 (ta:Int->Bool) (s:MS) (i:Nat) (f:Int):Prop:=
 ∃(m:Nat) (d:DT),f=(m:Int)/\s.h.s.2[m]? =some d/\(d.1=4\/(d.1=5/\rB s i f/\ta f=false))
def z7 (y:bZ):Int:=if y.c.1=2 then y.c.2.1 else y.vm
def z8 (y:bZ):Int:=if y.c.1=2 then -1 else y.c.2.1
def jz (q:List AK) (id:Int):Bool:=q.any λa=>a.1==id
structure MI (gh:Gh) (ta:Int->Bool) (n:Nat) (s:MS):Prop where
 hi:HI gh s.h
 nn:1<=n/\n<=8
 lc:s.cs.length=n
 lb:s.bx.length=n
 lp:s.ep.pins.length=n
 sz:1<=s.sz/\s.sz<=64
 ph: ∀x∈s.cs,0<=x.ph/\x.ph<=4
 ar: ∀x∈s.cs,dh x.c.2.1/\dh x.c.2.2.1/\dh x.c.2.2.2.1
 tl: ∀x∈s.cs,(x.ls.length:Int)<=s.sz
 k5: ∀f∈s.kn, ∃(m:Nat) (d:DT),f=(m:Int)/\s.h.s.2[m]? =some d/\d.1=5
 nk:s.kn.Nodup
 wk: ∀e∈s.ep.ws,e.1∈s.kn/\0<=e.2/\e.2<=s.ep.now
 wn:(s.ep.ws.map (·.1)).Nodup
 fk: ∀x∈s.cs,x.ph=4-> ∀f∈x.fs,f∈s.kn/\f∉s.ep.ws.map (·.1)
 fn: ∀x∈s.cs,x.ph=4->x.fs.Nodup
 fd: ∀{i j:Nat} {x y:bZ},s.cs[i]? =some x->s.cs[j]? =some y->i≠j->x.ph=4->y.ph=4-> ∀f∈x.fs,f∉y.fs
 kd: ∀{m:Nat} {d:DT},s.h.s.2[m]? =some d->d.1=5->(m:Int)∈s.kn/\((m:Int)∈s.ep.ws.map (·.1)\/ ∃x∈s.cs,x.ph=4/\(m:Int)∈x.fs)
 nw:0<=s.ep.now
 pn: ∀{i:Nat} {x:bZ},s.cs[i]? =some x->if x.ph=2\/x.ph=3 then 0<=s.ep.pins.getD i 0/\s.ep.pins.getD i 0<=s.ep.now/\s.ep.now<=s.ep.pins.getD i 0+1 else s.ep.pins.getD i 0= -1
 ln: ∀{i:Nat} {x:bZ},s.cs[i]? =some x-> ∀l∈x.ls,Dg ta s i l
 ac: ∀x∈s.cs,x.ph=2->aW s.h.g x.vm=true/\x.c.2.1<1048576/\(x.c.1=6\/x.c.1=7)
 wl: ∀{i:Nat} {x:bZ},s.cs[i]? =some x->x.ph=2->Dh gh ta s i x
 rc: ∀{i:Nat} {x:bZ},s.cs[i]? =some x->x.ph=3->z6 ta s i x.fr/\(x.c.1=6\/x.c.1=7)
 wt: ∀x∈s.cs,x.ph=4->1<=x.ak/\x.ak<=(s.op.length:Int)/\1<=z7 x/\z7 x<=16/\ -1<=z8 x/\z8 x<65536
 wu: ∀{i j:Nat} {x y:bZ},s.cs[i]? =some x->s.cs[j]? =some y->i≠j->x.ph=4->y.ph=4->x.ak≠y.ak
 aq: ∀{i:Nat} {q:List AK},s.bx[i]? =some q->q.Pairwise (λa b=>a.1<b.1)/\ ∀a∈q, ∃(j:Nat) (y:bZ),j≠i/\s.cs[j]? =some y/\y.ph=4/\a=(y.ak,z7 y,z8 y,())
 oc: ∀id:Nat,id<s.op.length->s.op.getD id 0=(s.bx.countP (λq=>jz q ((id:Int)+1)):Nat)
section
variable {gh:Gh} {ta:Int->Bool} {n:Nat} {s:MS}
theorem aH {α:Type} {l:List α} {i:Nat} {x:α} (h:l[i]? =some x):x∈l:=BJ h
theorem jU {α:Type} {l:List α} {i j:Nat} {x y:α} (h:(l.set i x)[j]? =some y):(j=i/\y=x)\/(j≠i/\l[j]? =some y):=by
 by_cases e:i=j
 ·subst e;have a:=(Ae.1 h).1;rw[B1] at a;rw[Av a] at h;cases h;exact .inl ⟨rfl,rfl⟩
 ·rw[Ad e] at h;exact .inr ⟨λc=>e c.symm,h⟩
theorem ig {α:Type} {l:List α} {i:Nat} {x y:α} (h:y∈l.set i x):y=x\/y∈l:=by
 obtain⟨j,a⟩:=Bp h;rcases jU a with ⟨_,e⟩|⟨_,e⟩
 ·exact .inl e
 ·exact .inr (BJ e)
end
section
variable {gh:Gh} {ta:Int->Bool} {n:Nat} {s s':MS} {i:Nat}
theorem rB.dq {f:Int} (h:rB s i f) (c: ∀{z:Nat} {y:bZ},s.cs[z]? =some y->y.ph=4->s'.cs[z]? =some y) (d:s'.ep.ws=s.ep.ws) (g:s'.ep.pins.getD i 0=s.ep.pins.getD i 0):rB s' i f:=by
 rcases h with ⟨z,y,h1,a,b⟩|⟨e,h1,a,b⟩
 ·exact .inl ⟨z,y,c h1 a,a,b⟩
 ·exact .inr ⟨e,by rw[d];exact h1,a,by rw[g];exact b⟩
theorem Dg.dq {l:LT} (h:Dg ta s i l) (f:s'.h=s.h) (hb:s'.bx=s.bx) (j: ∀{z:Nat} {y:bZ},s.cs[z]? =some y->y.ph=4->s'.cs[z]? =some y):Dg ta s' i l:=by
 obtain⟨h0,m,d,h1,k,c⟩:=h;refine⟨h0,m,d,h1,by rw[f];exact k,?_⟩;rw[f,hb];rcases c with c|⟨c,q,a,n,o,p,r⟩
 ·exact .inl c
 ·refine .inr ⟨c,q,a,n,o,p,λe=>?_⟩;obtain⟨t,z,y,b,u,g1,g,v,w,x⟩:=r e;exact⟨t,z,y,b,u,j g1 g,g,v,w,x⟩
theorem Dh.dq {x:bZ} (h:Dh gh ta s i x) (a:s'.h=s.h) (b: ∀{z:Nat} {y:bZ},s.cs[z]? =some y->y.ph=4->s'.cs[z]? =some y) (d:s'.ep.ws=s.ep.ws) (e:s'.ep.pins.getD i 0=s.ep.pins.getD i 0):Dh gh ta s' i x:=by
 obtain⟨l,h1,f,g,j⟩:=h;refine⟨l,h1,f,g,?_⟩;rw[a];exact j.imp id λc=>⟨c.1,c.2.1.dq b d e,c.2.2⟩
theorem z6.dq {f:Int} (h:z6 ta s i f) (a:s'.h=s.h) (b: ∀{z:Nat} {y:bZ},s.cs[z]? =some y->y.ph=4->s'.cs[z]? =some y) (e:s'.ep.ws=s.ep.ws) (g:s'.ep.pins.getD i 0=s.ep.pins.getD i 0):z6 ta s' i f:=by
 obtain⟨m,d,h1,j,k⟩:=h;refine⟨m,d,h1,by rw[a];exact j,?_⟩;exact k.imp id λc=>⟨c.1,c.2.1.dq b e g,c.2.2⟩
theorem MI.CZ (M:MI gh ta n s) {x x':bZ} (L:s.cs[i]? =some x) (p:Int) (ms:List MT) (R:x.ph≠4) (w:x'.ph≠4) (k:s'={s with cs:=s.cs.set i x',ep:={s.ep with pins:=s.ep.pins.set i p},ms:=ms})
 (S:0<=x'.ph/\x'.ph<=4) (T:dh x'.c.2.1/\dh x'.c.2.2.1/\dh x'.c.2.2.2.1) (U:(x'.ls.length:Int)<=s.sz)
 (V:if x'.ph=2\/x'.ph=3 then 0<=p/\p<=s.ep.now/\s.ep.now<=p+1 else p= -1) (W: ∀l∈x'.ls,Dg ta s i l) (X:x'.ph=2->aW s.h.g x'.vm=true/\x'.c.2.1<1048576/\(x'.c.1=6\/x'.c.1=7))
 (Y:x'.ph=2->Dh gh ta s' i x') (Z:x'.ph=3->z6 ta s' i x'.fr/\(x'.c.1=6\/x'.c.1=7)):MI gh ta n s':=by
 have nX:i<s.cs.length:=(Ae.1 L).1;have C: ∀{z:Nat} {y:bZ},s.cs[z]? =some y->y.ph=4->s'.cs[z]? =some y:=λ{z y} h1 o=>by
  have e:i≠z:=λe=>by subst e;rw[L] at h1;cases h1;exact R o
  rw[k];show(s.cs.set i x')[z]? = _;rw[Ad e];exact h1
 have t: ∀{z:Nat} {y:bZ},s'.cs[z]? =some y->(z=i/\y=x')\/(z≠i/\s.cs[z]? =some y):=λh=>by
  rw[k] at h;exact jU h
 have A: ∀{y:bZ},y∈s'.cs->y=x'\/y∈s.cs:=λh=>by
  rw[k] at h;exact ig h
 have u:s'.h=s.h:=by rw[k]
 have hb:s'.bx=s.bx:=by rw[k]
 have N:s'.op=s.op:=by rw[k]
 have E:s'.kn=s.kn:=by rw[k]
 have D:s'.ep.ws=s.ep.ws:=by rw[k]
 have F:s'.ep.now=s.ep.now:=by rw[k]
 have O:s'.sz=s.sz:=by rw[k]
 have G:s'.ep.pins=s.ep.pins.set i p:=by rw[k]
 have hpi:s'.ep.pins.getD i 0=p:=by
  rw[G,B2,Av (by rw[M.lp, <-M.lc];exact nX)];rfl
 have H: ∀{j:Nat},j≠i->s'.ep.pins.getD j 0=s.ep.pins.getD j 0:=λ{j} r=>by
  rw[G,B2,Ad (λe=>r e.symm),B2]
 refine⟨by rw[u];exact M.hi,M.nn,by rw[k];show(s.cs.set i x').length=n;rw[B1];exact M.lc,by rw[hb];exact M.lb,by rw[G,B1];exact M.lp,by rw[O];exact M.sz,λy f=>?_,λy f=>?_,λy f=>?_,
  by rw[E,u];exact M.k5,by rw[E];exact M.nk,by rw[D,E,F];exact M.wk,by rw[D];exact M.wn,λy f e=>?_,λy f e=>?_,λ{a b y z} h1 o I v B=>?_,λ{m d} h1 o=>?_,by rw[F];exact M.nw,λ{j y} h1=>?_,λ{j y} h1 l P=>?_,λy f e=>?_,λ{j y} h1 e=>?_,λ{j y} h1 e=>?_,λy f e=>?_,λ{a b y z} h1 o I v B=>?_,λ{j q} h1=>?_,by rw[N,hb];exact M.oc⟩
 ·rcases A f with rfl|f
  ·exact S
  ·exact M.ph y f
 ·rcases A f with rfl|f
  ·exact T
  ·exact M.ar y f
 ·rw[O];rcases A f with rfl|f
  ·exact U
  ·exact M.tl y f
 ·rcases A f with rfl|f
  ·exact absurd e w
  ·rw[E,D];exact M.fk y f e
 ·rcases A f with rfl|f
  ·exact absurd e w
  ·exact M.fn y f e
 ·rcases t h1 with ⟨_,rfl⟩|⟨_,h1⟩
  ·exact absurd v w
  ·rcases t o with ⟨_,rfl⟩|⟨_,o⟩
   ·exact absurd B w
   ·exact M.fd h1 o I v B
 ·rw[u] at h1;obtain⟨J,K⟩:=M.kd h1 o;rw[E,D];refine⟨J,K.imp id λ⟨y,f,v,B⟩=>?_⟩;obtain⟨j,r⟩:=Bp f;exact⟨y,aH (C r v),v,B⟩
 ·rw[F];rcases t h1 with ⟨rfl,rfl⟩|⟨r,h1⟩
  ·rw[hpi];exact V
  ·rw[H r];exact M.pn h1
 ·rcases t h1 with ⟨rfl,rfl⟩|⟨r,h1⟩
  ·exact(W l P).dq u hb C
  ·exact(M.ln h1 l P).dq u hb C
 ·rw[u];rcases A f with rfl|f
  ·exact X e
  ·exact M.ac y f e
 ·rcases t h1 with ⟨rfl,rfl⟩|⟨r,h1⟩
  ·exact Y e
  ·exact(M.wl h1 e).dq u C D (H r)
 ·rcases t h1 with ⟨rfl,rfl⟩|⟨r,h1⟩
  ·exact Z e
  ·exact⟨(M.rc h1 e).1.dq u C D (H r),(M.rc h1 e).2⟩
 ·rw[N];rcases A f with rfl|f
  ·exact absurd e w
  ·exact M.wt y f e
 ·rcases t h1 with ⟨_,rfl⟩|⟨_,h1⟩
  ·exact absurd v w
  ·rcases t o with ⟨_,rfl⟩|⟨_,o⟩
   ·exact absurd B w
   ·exact M.wu h1 o I v B
 ·rw[hb] at h1;obtain⟨J,K⟩:=M.aq h1;refine⟨J,λa ha=>?_⟩;obtain⟨j2,y,g1,g2,Q,g4⟩:=K a ha;exact⟨j2,y,g1,C g2 Q,Q,g4⟩
theorem tg (M:MI gh ta n s) {x:bZ} (b:s.cs[i]? =some x):s.ep.pins.set i (s.ep.pins.getD i 0)=s.ep.pins:=by
 have a:i<s.ep.pins.length:=by rw[M.lp, <-M.lc];exact(Ae.1 b).1
 refine E5 λj=>?_;rw[Fw];by_cases e:i=j
 ·subst e;rw[az rfl,az a,B2,BL a];rfl
 ·rw[au e]
theorem MI.ask (M:MI gh ta n s) (k vm:Int) {c:CT} (hc:dh c.2.1/\dh c.2.2.1/\dh c.2.2.2.1):MI gh ta n (fP s k vm c):=by
 unfold fP;split
 ·exact M
 cases a:s.cs[k.toNat]? with
 |none=>exact M
 |some x=>
  dsimp only;split
  ·rename_i h0;have b:=M.pn a;rw[h0,au (by decide)] at b;refine M.CZ (x':={x with ph:=1,vm:=vm,c:=c}) a (s.ep.pins.getD k.toNat 0) s.ms (by rw[h0];decide) (show ¬ (1:Int)=4 by decide) ?_ (show 0<=(1:Int)/\(1:Int)<=4 by decide) hc (M.tl x (aH a)) ?_ (λl d=>M.ln a l d) (λe=>absurd e (show ¬ (1:Int)=2 by decide)) (λe=>absurd e (show ¬ (1:Int)=2 by decide)) (λe=>absurd e (show ¬ (1:Int)=3 by decide))
   ·rw[tg M a];rfl
   ·show if(1:Int)=2\/(1:Int)=3 then _ else _;rw[au (by decide)];exact b
  ·exact M
theorem MI.idle (M:MI gh ta n s) {x:bZ} (a:s.cs[i]? =some x) (b:x.ph≠4) {ls:List LT} (c: ∀l∈ls,Dg ta s i l) (d:(ls.length:Int)<=s.sz) (ms:List MT):MI gh ta n {s with cs:=s.cs.set i (cL ls),ep:=uB s.ep i,ms:=ms}:=
 M.CZ (x':=cL ls) a (-1) ms b (show ¬ (0:Int)=4 by decide) rfl (show 0<=(0:Int)/\(0:Int)<=4 by decide) (show dh 0/\dh 0/\dh 0 by decide) d (by show if(0:Int)=2\/(0:Int)=3 then _ else _;rw[au (by decide)]) c (λe=>absurd e (show ¬ (0:Int)=2 by decide)) (λe=>absurd e (show ¬ (0:Int)=2 by decide)) (λe=>absurd e (show ¬ (0:Int)=3 by decide))
end
section
variable {gh:Gh} {ta:Int->Bool} {n:Nat} {s s':MS} {i:Nat}
def WtK (s s':MS):Prop:= ∀(z:Nat) (y:bZ),s.cs[z]? =some y->y.ph=4-> ∃a,s'.cs[z]? =some a/\a.ph=4/\a.fs=y.fs/\a.ak=y.ak/\a.vm=y.vm/\a.c=y.c
theorem rB.Aw {f:Int} (h:rB s i f) (c:WtK s s') (d:s'.ep.ws=s.ep.ws) (g:s'.ep.pins.getD i 0=s.ep.pins.getD i 0):rB s' i f:=by
 rcases h with ⟨z,y,h1,a,b⟩|⟨e,h1,a,b⟩
 ·obtain⟨j,g1,k,l, _⟩:=c z y h1 a;exact .inl ⟨z,j,g1,k,by rw[l];exact b⟩
 ·exact .inr ⟨e,by rw[d];exact h1,a,by rw[g];exact b⟩
theorem Dh.Aw {x:bZ} (h:Dh gh ta s i x) (a:s'.h=s.h) (b:WtK s s') (d:s'.ep.ws=s.ep.ws) (e:s'.ep.pins.getD i 0=s.ep.pins.getD i 0):Dh gh ta s' i x:=by
 obtain⟨l,h1,f,g,j⟩:=h;refine⟨l,h1,f,g,?_⟩;rw[a];exact j.imp id λc=>⟨c.1,c.2.1.Aw b d e,c.2.2⟩
theorem z6.Aw {f:Int} (h:z6 ta s i f) (a:s'.h=s.h) (b:WtK s s') (e:s'.ep.ws=s.ep.ws) (g:s'.ep.pins.getD i 0=s.ep.pins.getD i 0):z6 ta s' i f:=by
 obtain⟨m,d,h1,j,k⟩:=h;refine⟨m,d,h1,by rw[a];exact j,?_⟩;exact k.imp id λc=>⟨c.1,c.2.1.Aw b e g,c.2.2⟩
theorem th {ls:List LT} {t p:Int} {l:LT} (h:l∈jm ls t p):l∈ls/\ ¬ (t=l.1/\(p= -1\/p=l.2.1)):=by
 unfold jm at h;split at h
 ·rename_i e;obtain⟨h1,a⟩:=B5.1 h;refine⟨h1,λc=>?_⟩;simp at a;exact a c.1.symm
 ·rename_i e;obtain⟨h1,a⟩:=B5.1 h;refine⟨h1,λc=>?_⟩;rcases c.2 with c2|c2
  ·exact e c2
  ·simp[BR] at a;exact a.elim (λf=>f c.1.symm) (λf=>f c2.symm)
theorem Eg (ls:List LT) (t p:Int):(jm ls t p).length<=ls.length:=by
 unfold jm;split<;>exact List.length_filter_le ..
theorem uY (a:AK) (q:List AK) (id:Int):jz (a::q) id=(a.1==id||jz q id):=rfl
theorem MI.pop (M:MI gh ta n s) {x:bZ} (X:s.cs[i]? =some x) {a:AK} {q:List AK} (E:s.bx[i]? =some (a::q)):
 MI gh ta n {s with bx:=s.bx.set i q,op:=s.op.set (a.1 - 1).toNat (s.op.getD (a.1 - 1).toNat 0 - 1),cs:=s.cs.set i {x with ls:=jm x.ls a.2.1 a.2.2.1}}:=by
 have nX:i<s.cs.length:=(Ae.1 X).1;have hib:i<s.bx.length:=by rw[M.lb, <-M.lc];exact nX
 generalize F:({s with bx:=s.bx.set i q,op:=s.op.set (a.1 - 1).toNat (s.op.getD (a.1 - 1).toNat 0 - 1),cs:=s.cs.set i {x with ls:=jm x.ls a.2.1 a.2.2.1}}:MS)=s';have v:s'.h=s.h:=by rw[<-F]
 have p:s'.ep=s.ep:=by rw[<-F]
 have O:s'.kn=s.kn:=by rw[<-F]
 have gx:s'.sz=s.sz:=by rw[<-F]
 have hb:s'.bx=s.bx.set i q:=by rw[<-F]
 have ho:s'.op=s.op.set (a.1 - 1).toNat (s.op.getD (a.1 - 1).toNat 0 - 1):=by rw[<-F]
 have fq:s'.cs=s.cs.set i {x with ls:=jm x.ls a.2.1 a.2.2.1}:=by rw[<-F]
 have XB:s'.op.length=s.op.length:=by rw[ho,B1]
 have vy:s'.cs[i]? =some {x with ls:=jm x.ls a.2.1 a.2.2.1}:=by rw[fq,Av nX]
 have K:WtK s s':=λz y h1 A=>by
  by_cases e:i=z
  ·subst e;rw[X] at h1;cases h1;exact⟨_,vy,A,rfl,rfl,rfl,rfl⟩
  ·exact⟨y,by rw[fq,Ad e];exact h1,A,rfl,rfl,rfl,rfl⟩
 have w: ∀{z:Nat} {y:bZ},s'.cs[z]? =some y-> ∃f,s.cs[z]? =some f/\y.ph=f.ph/\y.vm=f.vm/\y.c=f.c/\y.wk=f.wk/\y.fr=f.fr/\y.ak=f.ak/\y.fs=f.fs/\(z≠i->y=f)/\y.ls.length<=f.ls.length:=λ{z y} h=>by
  rw[fq] at h;rcases jU h with ⟨rfl,rfl⟩|⟨e,h⟩
  ·exact⟨x,X,rfl,rfl,rfl,rfl,rfl,rfl,rfl,λc=>absurd rfl c,Eg ..⟩
  ·exact⟨y,h,rfl,rfl,rfl,rfl,rfl,rfl,rfl,λ_=>rfl,Dl _⟩
 have G: ∀{y:bZ},y∈s'.cs-> ∃f∈s.cs,y.ph=f.ph/\y.vm=f.vm/\y.c=f.c/\y.wk=f.wk/\y.fr=f.fr/\y.ak=f.ak/\y.fs=f.fs/\y.ls.length<=f.ls.length:=λh=>by
  obtain⟨z,hz⟩:=Bp h;obtain⟨f,g1,B,t,L,Y,P,H,g8, _,g9⟩:=w hz;exact⟨f,aH g1,B,t,L,Y,P,H,g8,g9⟩
 obtain⟨hpw,uq⟩:=M.aq E;obtain⟨ja,ya,hja,hya,hpa,hea⟩:=uq a Bv;obtain⟨ha1,XA, _⟩:=M.wt ya (aH hya) hpa;have ea1:a.1=ya.ak:=by rw[hea]
 have HN: ∀b∈q,a.1<b.1:=(List.pairwise_cons.1 hpw).1;refine⟨by rw[v];exact M.hi,M.nn,by rw[fq,B1];exact M.lc,by rw[hb,B1];exact M.lb,by rw[p];exact M.lp,by rw[gx];exact M.sz,λy k=>?_,λy k=>?_,λy k=>?_,
  by rw[O,v];exact M.k5,by rw[O];exact M.nk,by rw[p,O];exact M.wk,by rw[p];exact M.wn,λy k e=>?_,λy k e=>?_,λ{a b y z} h1 A Z Q R=>?_,λ{m d} h1 A=>?_,by rw[p];exact M.nw,λ{j y} h1=>?_,λ{j y} h1 l hl=>?_,λy k e=>?_,λ{j y} h1 e=>?_,λ{j y} h1 e=>?_,λy k e=>?_,λ{a b y z} h1 A Z Q R=>?_,λ{j r} h1=>?_,λid Ju=>?_⟩
 ·obtain⟨f,o,g1, _⟩:=G k;rw[g1];exact M.ph f o
 ·obtain⟨f,o, _, _,t, _⟩:=G k;rw[t];exact M.ar f o
 ·obtain⟨f,o, _, _, _, _, _, _, _,g⟩:=G k;have:=M.tl f o;rw[gx];omega
 ·obtain⟨f,o,g1, _, _, _, _, _,H, _⟩:=G k;rw[H,O,p];exact M.fk f o (by rw[<-g1];exact e)
 ·obtain⟨f,o,g1, _, _, _, _, _,H, _⟩:=G k;rw[H];exact M.fn f o (by rw[<-g1];exact e)
 ·obtain⟨f,u,g1, _, _, _, _, _,H, _⟩:=w h1;obtain⟨z0,k0,C, _, _, _, _, _,k7, _⟩:=w A;rw[H,k7];exact M.fd u k0 Z (by rw[<-g1];exact Q) (by rw[<-C];exact R)
 ·rw[v] at h1;obtain⟨C,k2⟩:=M.kd h1 A;rw[O,p];refine⟨C,k2.imp id λ⟨y,k,Q,R⟩=>?_⟩;obtain⟨j,hj⟩:=Bp k;obtain⟨I,p1,p2,p3, _⟩:=K j y hj Q;exact⟨I,aH p1,p2,by rw[p3];exact R⟩
 ·obtain⟨f,u,g1, _⟩:=w h1;rw[p,g1];exact M.pn u
 ·
  obtain⟨f,u, _, _, _, _, _, _, _,gj, _⟩:=w h1;by_cases e:j=i
  ·subst e;rw[vy] at h1;cases h1;obtain⟨l1,l2⟩:=th hl;obtain⟨J,m,d,S,T,U⟩:=M.ln X l l1;refine⟨J,m,d,S,by rw[v];exact T,?_⟩;rw[v];refine U.imp id λ⟨V,qq,b,N,D,W,r8⟩=>⟨V,q,b,by rw[hb,Av hib],?_,W,λe5=>?_⟩
   ·rw[E] at N;cases N;rcases Bx.1 D with rfl|D
    ·exact absurd W l2
    ·exact D
   ·obtain⟨r9,z,y,c,c0,c1,c2,c3,c4,c5⟩:=r8 e5;obtain⟨I,p1,p2,p3,p4, _⟩:=K z y c1 c2;rw[E] at N;cases N;have hbq:b∈q:=by
     rcases Bx.1 D with rfl|D
     ·exact absurd W l2
     ·exact D
    have hcq:c∈q:=by
     rcases Bx.1 c0 with rfl|c0
     ·have:=HN b hbq;omega
     ·exact c0
    exact⟨r9,z,I,c,hcq,p1,p2,by rw[p3];exact c3,by rw[p4];exact c4,c5⟩
  ·rw[gj e] at hl;obtain⟨J,m,d,S,T,U⟩:=M.ln u l hl;refine⟨J,m,d,S,by rw[v];exact T,?_⟩;rw[v];refine U.imp id λ⟨V,qq,b,N,D,W,r8⟩=>⟨V,qq,b,by rw[hb,Ad (λc=>e c.symm)];exact N,D,W,λe5=>?_⟩;obtain⟨r9,z,y,c,c0,c1,c2,c3,c4,c5⟩:=r8 e5;obtain⟨I,p1,p2,p3,p4, _⟩:=K z y c1 c2;exact⟨r9,z,I,c,c0,p1,p2,by rw[p3];exact c3,by rw[p4];exact c4,c5⟩
 ·obtain⟨f,o,g1,B,t, _⟩:=G k;rw[v,B,t];exact M.ac f o (by rw[<-g1];exact e)
 ·obtain⟨f,u,g1,B,t,L, _⟩:=w h1;obtain⟨l,S,T,U,V⟩:=(M.wl u (by rw[<-g1];exact e)).Aw v K (by rw[p]) (by rw[p]);exact⟨l,by rw[L];exact S,T,by rw[L];exact U,by rw[L,B,t];exact V⟩
 ·obtain⟨f,u,g1,B,t,L,Y, _⟩:=w h1;have:=M.rc u (by rw[<-g1];exact e);rw[Y,t];exact⟨this.1.Aw v K (by rw[p]) (by rw[p]),this.2⟩
 ·obtain⟨f,o,g1,B,t, _, _,P, _⟩:=G k;have:=M.wt f o (by rw[<-g1];exact e);unfold z7 z8 at this ⊢;rw[XB,B,t,P];exact this
 ·obtain⟨f,u,g1, _, _, _, _,P, _⟩:=w h1;obtain⟨z0,k0,C, _, _, _, _,k6, _⟩:=w A;rw[P,k6];exact M.wu u k0 Z (by rw[<-g1];exact Q) (by rw[<-C];exact R)
 ·
  have sub: ∃J,s.bx[j]? =some J/\r.Sublist J:=by
   rw[hb] at h1;rcases jU h1 with ⟨rfl,rfl⟩|⟨_,h1⟩
   ·exact⟨_,E,List.sublist_cons_self ..⟩
   ·exact⟨r,h1,List.Sublist.refl _⟩
  obtain⟨J,k0,C⟩:=sub;obtain⟨k2,k3⟩:=M.aq k0;refine⟨k2.sublist C,λb hb=>?_⟩;obtain⟨j2,y,p1,p2,p3,p4⟩:=k3 b (C.subset hb);obtain⟨I,q1,q2,q3,q4,q5,q6⟩:=K j2 y p2 p3;refine⟨j2,I,p1,q1,q2,?_⟩;unfold z7 z8 at p4 ⊢;rw[q4,q5,q6];exact p4
 ·
  rw[XB] at Ju;have hoc:=M.oc id Ju;have hbi:s.bx[i]=a::q:=(Ae.1 E).2;have hnq:jz q a.1=false:=by
   unfold jz;rw[Fx];intro b hb c;have:=HN b hb;have c':b.1=a.1:=by simpa using c
   omega
  have JM: ∀j:Int,((s.bx.set i q).countP (λr=>jz r j):Nat)=s.bx.countP (λr=>jz r j) - (if jz (a::q) j=true then 1 else 0)+(if jz q j=true then 1 else 0):=λj=>by
   rw[List.countP_set hib,hbi]
  rw[ho,hb,JM,B2,Fw,uY];by_cases e:(a.1 - 1).toNat=id
  ·have ej:(id:Int)+1=a.1:=by omega
   rw[az e,az (by omega),ej,hnq];have oJ:0<s.bx.countP (λr=>jz r a.1):=Db.2 ⟨a::q,aH E,by rw[uY];simp⟩;rw[ej] at hoc;rw[e];simp only[beq_self_eq_true,Bool.true_or,if_true,Option.getD_some];rw[au (by decide)];omega
  ·rw[au e, <-B2,hoc];have:(a.1==(id:Int)+1)=false:=by
    simp;omega
   rw[this,Bool.false_or];split
   ·rename_i hp;have oJ:0<s.bx.countP (λr=>jz r ((id:Int)+1)):=Db.2 ⟨a::q,aH E,by rw[uY,hp,Bool.or_true]⟩;omega
   ·omega
end
section
variable {gh:Gh} {ta:Int->Bool} {n:Nat} {s s':MS} {i:Nat}
theorem Bi {l:List (Int×Int)} (h:(l.map (·.1)).Nodup) {a b:Int×Int} (d:a∈l) (hb:b∈l) (e:a.1=b.1):a=b:=by
 induction l with
 |nil=>cases d
 |cons c l f=>
  rw[C7,Bs] at h;rcases Bx.1 d with rfl|d
  ·rcases Bx.1 hb with rfl|hb
   ·rfl
   ·exact absurd (B3.2 ⟨b,hb,e.symm⟩) h.1
  ·rcases Bx.1 hb with g|hb
   ·rw[g] at e;exact absurd (show c.1∈l.map (·.1) from B3.2 ⟨a,d,e⟩) h.1
   ·exact f h.2 d hb
theorem MI.XI (M:MI gh ta n s):MI gh ta n {s with ep:=fj s.ep}:=by
 unfold fj;split
 ·rename_i h;rw[List.all_eq_true] at h;exact{M with
   wk:=λe g=>by
    obtain⟨a,b,c⟩:=M.wk e g;exact⟨a,b,Int.le_trans c (by show s.ep.now<=s.ep.now+1;omega)⟩
   nw:=by
    have:=M.nw;show 0<=s.ep.now+1;omega
   pn:=λ{j y} d=>by
    have:=M.pn d;show if y.ph=2\/y.ph=3 then 0<=s.ep.pins.getD j 0/\s.ep.pins.getD j 0<=s.ep.now+1/\s.ep.now+1<=s.ep.pins.getD j 0+1 else s.ep.pins.getD j 0= -1;split
    ·rename_i c;rw[az c] at this;have f:j<s.ep.pins.length:=by rw[M.lp, <-M.lc];exact(Ae.1 d).1
     have i:s.ep.pins.getD j 0∈s.ep.pins:=by
      rw[B2,BL f];exact List.getElem_mem f
     have:=h _ i;simp only[Bool.or_eq_true,beq_iff_eq] at this;omega
    ·rename_i c;rw[au c] at this;exact this}
 ·exact M
def gQ (s:MS) (f:Int):MS:={ib s f with ep:={s.ep with ws:=s.ep.ws.filter λx=> !(x.1==f)}}
theorem Ja (M:MI gh ta n s) {x:bZ} (d:s.cs[i]? =some x) (g:x.ph=2\/x.ph=3) {f r:Int} (c:(f,r)∈s.ep.ws) (k:r+2<=s.ep.now) {f0:Int} (P:rB s i f0):f0≠f/\rB (gQ s f) i f0:=by
 have h:=M.pn d;rw[az g] at h;have ne:f0≠f:=λe=>by
  subst e;rcases P with ⟨z,y,h1,a,b⟩|⟨e,h1,a,b⟩
  ·exact(M.fk y (aH h1) a f0 b).2 (B3.2 ⟨_,c,rfl⟩)
  ·have:e=(f0,r):=by
    have j:=M.wn;exact Bi j h1 c a
   subst this;have b:s.ep.pins.getD i 0<=r:=b;omega
 refine⟨ne,?_⟩;rcases P with ⟨z,y,h1,a,b⟩|⟨e,h1,a,b⟩
 ·exact .inl ⟨z,y,h1,a,b⟩
 ·refine .inr ⟨e,B5.2 ⟨h1,?_⟩,a,b⟩;simp[a,ne]
theorem MI.gQ (M:MI gh ta n s) {f r:Int} (F:(f,r)∈s.ep.ws) (L:r+2<=s.ep.now):MI gh ta n (gQ s f):=by
 obtain⟨R, _, _⟩:=M.wk _ F;obtain⟨m,d,B,G,N⟩:=M.k5 f R;have B:f=(m:Int):=B;obtain⟨S, _,T,U⟩:=M.hi.N6 G N;have O:f∈s.ep.ws.map (·.1):=B3.2 ⟨_,F,rfl⟩;have hmn:m<s.h.s.2.length:=(Ae.1 G).1;have C:(Go.Proofs.YtlcenllcmeebhaaGreat.gQ s f).h=bC s.h (s.h.s.1,s.h.s.2.set m zD):=by
  show bC s.h (iC s.h.s f)= _;rw[B,S]
 have P:(Go.Proofs.YtlcenllcmeebhaaGreat.gQ s f).h.s.2=s.h.s.2.set m zD:=by rw[C];rfl
 have V:(Go.Proofs.YtlcenllcmeebhaaGreat.gQ s f).h.s.1=s.h.s.1:=by rw[C];rfl
 have W:(Go.Proofs.YtlcenllcmeebhaaGreat.gQ s f).h.g=s.h.g:=by rw[C];rfl
 have D: ∀{k:Nat} {d':DT},s.h.s.2[k]? =some d'->(k:Int)≠f->(Go.Proofs.YtlcenllcmeebhaaGreat.gQ s f).h.s.2[k]? =some d':=λ{k d'} h1 o=>by
  rw[P,Ad (λc=>o (by rw[B,c]))];exact h1
 have H: ∀{k:Nat} {d':DT},s.h.s.2[k]? =some d'->d'.1=4->(k:Int)≠f:=λ{k d'} h1 o c=>by
  rw[B] at c;have:k=m:=by omega
  subst this;rw[G] at h1;cases h1;rw[N] at o;exact absurd o (by decide)
 have I: ∀{g:Int},g∈s.kn->g≠f->g∈(Go.Proofs.YtlcenllcmeebhaaGreat.gQ s f).kn:=λ{g} h1 o=>B5.2 ⟨h1,by simp[o]⟩;have pg: ∀i q,jN (Go.Proofs.YtlcenllcmeebhaaGreat.gQ s f).h i q=jN s.h i q:=λi q=>by rw[C];exact U.to id
 exact{M with
  hi:=by rw[C];exact T
  k5:=λg J=>by
   obtain⟨h1,o⟩:=B5.1 J;obtain⟨k,d',t,u,E⟩:=M.k5 g h1;exact⟨k,d',t,D u (by rw[<-t];simpa using o),E⟩
  nk:=M.nk.sublist CN
  wk:=λe X=>by
   obtain⟨h1,o⟩:=B5.1 X;obtain⟨t,u,E⟩:=M.wk e h1;exact⟨I t (by simpa using o),u,E⟩
  wn:=M.wn.sublist (CN.map _)
  fk:=λy K e g J=>by
   obtain⟨t,u⟩:=M.fk y K e g J;exact⟨I t λc=>u (by rw[c];exact O),λc=>u ((CN.map _).subset c)⟩
  kd:=λ{k d'} h1 o=>by
   rw[P] at h1;rcases jU h1 with ⟨_,rfl⟩|⟨e,h1⟩
   ·exact absurd o (by decide)
   ·have ne:(k:Int)≠f:=λc=>e (by rw[B] at c;omega);obtain⟨t,u⟩:=M.kd h1 o;refine⟨I t ne,u.imp (λc=>?_) id⟩;obtain⟨e',g1,Q⟩:=B3.1 c;exact B3.2 ⟨e',B5.2 ⟨g1,by simp[Q,ne]⟩,Q⟩
  pn:=λ{j y} v=>M.pn v
  ln:=λ{j y} v l Y=>by
   obtain⟨Z,k,d',A,w,p⟩:=M.ln v l Y;have ne:(k:Int)≠f:=by
    rcases p with p|⟨x,q,a, _, _, _,r8⟩
    ·exact H w p.1
    ·rcases x with x|x
     ·exact H w x
     ·obtain⟨_,z,y,b, _,c1,c2,c3, _, _⟩:=r8 x;have:=(M.fk y (aH c1) c2 _ c3).2;exact λc=>this (by rw[A,c];exact O)
   refine⟨Z,k,d',A,D w ne,?_⟩;rw[pg];exact p
  ac:=λy K e=>by rw[W];exact M.ac y K e
  wl:=λ{j y} v e=>by
   obtain⟨l,A,w,p,x⟩:=M.wl v e;refine⟨l,A,w,p,x.imp id λ⟨c1,c2,c3⟩=>?_⟩;obtain⟨p1,p2⟩:=Ja M v (.inl e) F L c2;refine⟨?_,p2,c3⟩;obtain⟨k0,d',t,u,E⟩:=c1;exact⟨k0,d',D t (by rw[Do k0];exact p1),u,by rw[V];exact E⟩
  rc:=λ{j y} v e=>by
   obtain⟨⟨k,d',A,w,p⟩,x⟩:=M.rc v e;refine⟨?_,x⟩;rcases p with p|⟨r5,r6,r7⟩
   ·exact⟨k,d',A,D w (H w p),.inl p⟩
   ·obtain⟨p1,p2⟩:=Ja M v (.inr e) F L r6;exact⟨k,d',A,D w (by rw[<-A];exact p1),.inr ⟨r5,p2,r7⟩⟩}
theorem MI.WT: ∀(L:List Int) {s:MS},MI gh ta n s->L.Nodup->(∀f∈L, ∃r,(f,r)∈s.ep.ws/\r+2<=s.ep.now)->MI gh ta n (L.foldl Go.Proofs.YtlcenllcmeebhaaGreat.gQ s)
 |[], _,M, _, _=>M
 |f::L,s,M,a,b=>by
  obtain⟨r,h1,e⟩:=b f Bv;refine MI.WT L (M.gQ h1 e) (Bs.1 a).2 λg d=>?_;obtain⟨r',h,i⟩:=b g (CH _ d);refine⟨r',B5.2 ⟨h,?_⟩,i⟩;have:g≠f:=λc=>(Bs.1 a).1 (by rw[<-c];exact d);simp[this]
theorem tj (e:vh): ∀(L:List Int) (s:MS),L.foldl ib {s with ep:=e}={L.foldl ib s with ep:=e}
 |[], _=>rfl
 |f::L,s=>tj e L (ib s f)
theorem Eh: ∀(L:List Int) (s:MS),L.foldl Go.Proofs.YtlcenllcmeebhaaGreat.gQ s={L.foldl ib s with ep:={s.ep with ws:=s.ep.ws.filter λx=> !L.contains x.1}}
 |[],s=>by
  have:(s.ep.ws.filter λx=> !([]:List Int).contains x.1)=s.ep.ws:=Ff.2 λx _=>rfl;rw[this];rfl
 |f::L,s=>by
  show L.foldl Go.Proofs.YtlcenllcmeebhaaGreat.gQ (Go.Proofs.YtlcenllcmeebhaaGreat.gQ s f)= _;rw[Eh L,show(Go.Proofs.YtlcenllcmeebhaaGreat.gQ s f)={ib s f with ep:={s.ep with ws:=s.ep.ws.filter λx=> !(x.1==f)}} from rfl,tj];show({L.foldl ib (ib s f) with ep:={s.ep with ws:=(s.ep.ws.filter λx=> !(x.1==f)).filter λx=> !L.contains x.1}}:MS)= _;rw[List.filter_filter];have:(λ(x:Int×Int)=>(!L.contains x.1)&& !(x.1==f))=λx=> !(f::L).contains x.1:=by
   funext x;rw[List.contains_cons];cases L.contains x.1<;>cases x.1==f<;>rfl
  rw[this];rfl
theorem Cs {e:vh} {f:Int}:f∈oy e<-> ∃r,(f,r)∈e.ws/\r+2<=e.now:=by
 unfold oy;rw[(ly _).mem_iff,B3];constructor
 ·rintro⟨⟨f',r⟩,h,rfl⟩;obtain⟨h1,a⟩:=B5.1 h;exact⟨r,h1,by simpa using a⟩
 ·rintro⟨r,h1,a⟩;exact⟨(f,r),B5.2 ⟨h1,by simpa using a⟩,rfl⟩
theorem Ei (M:MI gh ta n s):(dL s).1=(oy (fj s.ep)).foldl Go.Proofs.YtlcenllcmeebhaaGreat.gQ {s with ep:=fj s.ep}:=by
 rw[Eh];show(oy (fj s.ep)).foldl ib {s with ep:=BS (fj s.ep)}= _;rw[tj (BS (fj s.ep)),tj (fj s.ep)];have:(fj s.ep).ws.filter (λx=> !decide (x.2+2<=(fj s.ep).now))=(fj s.ep).ws.filter λx=> !(oy (fj s.ep)).contains x.1:=by
  refine List.filter_congr λx a=>?_;congr 1;rw[Bool.eq_iff_iff,List.contains_iff_mem,Cs,decide_eq_true_eq];refine⟨λh=>⟨x.2,a,h⟩,λ⟨r,h1,b⟩=>?_⟩;have:x=(x.1,r):=Bi M.XI.wn a h1 rfl;rw[this];exact b
 show({ (oy (fj s.ep)).foldl ib s with ep:={fj s.ep with ws:=(fj s.ep).ws.filter λx=> !decide (x.2+2<=(fj s.ep).now)}}:MS)= _;rw[this]
theorem MI.free (M:MI gh ta n s):MI gh ta n (dL s).1:=by
 rw[Ei M];refine MI.WT _ M.XI ?_ λf a=>Cs.1 a;unfold oy;refine(ly _).nodup_iff.2 ?_;exact M.XI.wn.sublist (CN.map _)
end
namespace Inv
variable {g:Gh} {s:WD}
theorem ql (I:Inv g s) (nl:zO g s) {o r p t f:Int} {l:Nat} (v:g r=some (o,3,0)) (n:0<=p/\p<65536) (a:g f=some (o,l,px (l+1) p)):
 (∃m:Nat,l=m+1/\(bG s.1 p t (f,(l:Int),(0,0,0,0,()))).2.1=(m:Int)/\m<=3/\(bG s.1 p t (f,(l:Int),(0,0,0,0,()))).2.2=(0,0,0,0,())/\g (bG s.1 p t (f,(l:Int),(0,0,0,0,()))).1=some (o,m,px (m+1) p))\/
 ((bG s.1 p t (f,(l:Int),(0,0,0,0,()))).2.1= -1/\((bG s.1 p t (f,(l:Int),(0,0,0,0,()))).2.2.2.2.2.1=0->bA s r false p=((bG s.1 p t (f,(l:Int),(0,0,0,0,()))).2.2.1,(bG s.1 p t (f,(l:Int),(0,0,0,0,()))).2.2.2.1,0,()))):=by
 have w:=I.kd a;have x:=w.2.2.2.2.2;obtain⟨y,z,G⟩:=I.vf a;have hi:=eH p l;have h:=k8 ⟨y,z⟩ n x;have A:ri s.1 (dY f p (l:Int))=true:=by rw[h];exact iZ (by omega) (by omega)
 have C:ua (B (dJ s.1 (dY f p (l:Int)))).toNat=true:=by
  rw[h];cases hb:(aM s.1 (16*f+px l p % 16)).1 with
  |true=>exact B7 hb
  |false=>rw[I.wf a hi.1 hi.2 hb];decide+kernel
 rw[sO A C,h];have b:=I.rX a hi.1 hi.2;have i:=nl a hi.1 hi.2;have j:dG (aM s.1 (16*f+px l p % 16))=false->bA s r false p=l9 p l (aM s.1 (16*f+px l p % 16)):=λc=>I.fI v n ⟨a,c⟩;revert b i j;generalize aM s.1 (16*f+px l p % 16)=e;intro b i j;unfold tookS;split
 ·exact .inr ⟨rfl,λc=>absurd c (show ¬ (4:Int)=0 by decide)⟩
 rename_i h1;have h1:e.1=true:=by simpa using h1
 split
 ·rename_i d;rw[DB,decide_eq_true_eq] at d;obtain⟨m,q,u⟩:=b d.1;subst q;refine .inl ⟨m,rfl,?_,by omega,rfl,?_⟩
  ·show aY .i64 ((m+1:Nat):Int) 1= _;rw[bD (by omega) (by omega)];omega
  ·rw[<-nH p (m+1)] at u;exact u
 rename_i d;split
 ·rename_i D;rw[DB,beq_iff_eq] at D;have k:dG e=false:=by
   cases c:dG e with
   |false=>rfl
   |true=>exact absurd (by rw[show fH e.1 e.2.1 e.2.2.1 e.2.2.2.1=true from c,decide_eq_true (by omega:(l:Int)>0)];rfl) d
  have:=i h1 k;omega
 split
 ·rename_i E;rw[DB,beq_iff_eq] at E;have F:l=0:=by omega
  subst F;have k:dG e=false:=by
   cases c:dG e with
   |false=>rfl
   |true=>
    obtain⟨m,q, _⟩:=b c;omega
  refine .inr ⟨rfl,λc=>?_⟩;rw[j k];unfold l9;rw[az h1,au (by decide)];revert c;dsimp only;unfold xD;split
  ·intro c;exact absurd c (show ¬ (11:Int)=0 by decide)
  split
  ·intro _;rfl
  ·intro c;exact absurd c (show ¬ (7:Int)=0 by decide)
 ·exact .inr ⟨rfl,λc=>absurd c (show ¬ (11:Int)=0 by decide)⟩
theorem qm (I:Inv g s) {p t f:Int} {l:Nat} (c:0<=p/\p<65536) (e:l<=3) (G:iB s f):(bG s.1 p t (f,(l:Int),(0,0,0,0,()))).2.1= -1/\(bG s.1 p t (f,(l:Int),(0,0,0,0,()))).2.2.2.2.2.1=4:=by
 obtain⟨h0,d,h1, _,h⟩:=G;have k:=I.len;have m:=I.le;have n:f.toNat<s.2.length:=(Ae.1 h1).1;have hi:=eH p l;have a:=k8 (f:=f) ⟨h0,by omega⟩ c e;have b:=h (px l p % 16) hi.1 hi.2;have i:ri s.1 (dY f p (l:Int))=true:=by rw[a];exact iZ (by omega) (by omega)
 have j:ua (B (dJ s.1 (dY f p (l:Int)))).toNat=true:=by rw[a,b];decide+kernel
 rw[sO i j,a,Yl b];exact⟨rfl,rfl⟩
end Inv
section
variable {gh:Gh} {h:HS}
theorem HI.Zv (H:HI gh h) {n:Nat} {d:DT} (c:h.s.2[n]? =some d) (d4:d.1=4\/d.1=5) {o:Int} (f:0<=o/\o<16) (b:Int):HI gh (bC h (dK h.s.1 (16*(n:Int)+o) b,h.s.2))/\zQ h (bC h (dK h.s.1 (16*(n:Int)+o) b,h.s.2)) (λ_ _=>False):=by
 have d3:d.1≠3:=by omega
 have B:Inv.fm gh h.s (dK h.s.1 (16*(n:Int)+o) b,h.s.2):=by
  refine iG H.inv ⟨cF _ _ _,rfl⟩ (λq e=>⟨n,d,c,d3,?_⟩) λ{i d d'} h1 a=>?_
  ·refine B4 λhc=>e ?_;show dJ (dK h.s.1 (16*(n:Int)+o) b) q= _;rw[mH (by omega)]
  ·rw[h1] at a;cases a;exact .inl rfl
 exact⟨H.side B H.hc,H.Cq B (h':=bC h (dK h.s.1 (16*(n:Int)+o) b,h.s.2)) rfl rfl _⟩
end
set_option maxRecDepth 100000
open Go.RX D
section
variable {gh:Gh} {ta:Int->Bool} {n:Nat} {s s':MS} {i:Nat}
theorem xv (M:MI gh ta n s) {v:Int} (b:aW s.h.g v=true): ∃x:GV,s.h.g v.toNat=some x/\a6 s.h.g v=x.root/\gh x.root=some (v,3,0)/\1<=v/\v<=16:=by
 obtain⟨x,a,c,d⟩:=cg b;refine⟨x,a,c,?_,by omega⟩;rw[M.hi.root a,Do (by omega)]
theorem Hg (M:MI gh ta n s) {l:LT} (h:Dg ta s i l) (g:s'.h=s.h) (j: ∀{z:Nat} {y:bZ},s.cs[z]? =some y->y.ph=4->s'.cs[z]? =some y):z6 ta s' i l.2.2.1:=by
 obtain⟨_,m,d,h1,k,c⟩:=h;refine⟨m,d,h1,by grind,?_⟩;rcases c with c|⟨c,q,a,o,p,r,e⟩
 ·grind
 ·rcases c with c|c
  ·grind
  ·obtain⟨f,z,y,b, _,c1,c2,c3, _⟩:=e c;exact .inr ⟨c,.inl (by grind),f⟩
theorem Jb (M:MI gh ta n s) {x:bZ} (a:s.cs[i]? =some x) (h1:x.ph=1):z5 s.ep i={s.ep with pins:=s.ep.pins.set i s.ep.now}:=by
 have b:=M.pn a;unfold z5
 grind
theorem Ej {x:bZ} (a:s.cs[i]? =some x) (b:x.ph≠4) (x':bZ): ∀{z:Nat} {y:bZ},s.cs[z]? =some y->y.ph=4->(s.cs.set i x')[z]? =some y:=by grind
theorem MI.Fa (M:MI gh ta n s) {x:bZ} (a:s.cs[i]? =some x) (h1:x.ph=1) (b:l_ s.h x=true) {l:LT} (d:l∈x.ls):MI gh ta n {s with cs:=s.cs.set i {x with ph:=3,fr:=l.2.2.1},ep:=z5 s.ep i}:=by
 have f:x.c.1=6\/x.c.1=7:=by
  unfold l_ at b;simp at b;have:=b.1;unfold a9 at this
  grind
 rw[Jb M a h1];have e:x.ph≠4:=by omega
 have g:=M.nw;refine M.CZ a _ _ e (by grind) rfl (by grind) (M.ar x (aH a)) (M.tl x (aH a)) ?_ (λl d=>M.ln a l d) (by grind) (by grind) λ_=>⟨?_,f⟩
 grind
 ·exact Hg M (M.ln a l d) rfl (Ej a e _)
theorem MI.Zw (M:MI gh ta n s) {x:bZ} (a:s.cs[i]? =some x) (h1:x.ph=1) (b:l_ s.h x=true):MI gh ta n {s with cs:=s.cs.set i {x with ph:=2,wk:=lG s.h.s.1 (a6 s.h.g x.vm) (x.c.2.1 / 16) (a9 x.c.1) 0},ep:=z5 s.ep i}:=by
 unfold l_ at b;simp at b;obtain⟨d,e,b⟩:=b;have p:x.c.1=6\/x.c.1=7:=by
  unfold a9 at d
  grind
 rw[Jb M a h1];have f:x.ph≠4:=by omega
 have q:=M.nw;have j:=M.ar x (aH a);obtain⟨g,r,k,m,hv⟩:=xv M e;refine M.CZ a _ s.ms f (by grind) rfl (by grind) j (M.tl x (aH a)) ?_ (λl o=>M.ln a l o) (by grind) (λ_=>?_) (by grind)
 grind
 ·refine⟨3,rfl,by decide,rfl,.inl ?_⟩;show gh _=some (x.vm,3,px 4 (x.c.2.1 / 16));rw[Z1 (by omega),k];exact m
theorem xx {a:Int} (h:0<=a/\a<1048576):0<=a / 16/\a / 16<65536:=by omega
theorem Ek {ls:List LT} {sz:Int} {l y:LT} (h:y∈qJ ls sz l):y∈ls\/y=l:=by
 rcases EO.1 h with h|h
 ·left;split at h
  ·exact(B5.1 h).1
  grind
 grind
theorem RV {ls:List LT} {sz:Int} {l:LT} (h:(ls.length:Int)<=sz) (h1:1<=sz):((qJ ls sz l).length:Int)<=sz:=by
 unfold qJ;rw[G1];show(_+1: )<=sz;split
 ·have:(B9 ls l.1 l.2.1).length<ls.length:=by
   unfold B9
   simp_all
  omega
 grind
theorem MI.walk (M:MI gh ta n s) {x:bZ} (a:s.cs[i]? =some x) (p:x.ph=2):MI gh ta n (iR (k_ s i x) i x).1:=by
 have j:=aH a;have u:=M.ar x j;obtain⟨C,D,E⟩:=M.ac x j p;obtain⟨l,w1,F,N,b⟩:=M.wl a p;have k:=xx ⟨u.1.1,D⟩;have q:x.ph≠4:=by omega
 have V:i<s.cs.length:=(Ae.1 a).1;have G:=M.pn a;rw[p,az (by decide)] at G;have o:x.wk=(x.wk.1,(l:Int),(0,0,0,0,())):=Prod.ext rfl (Prod.ext w1 N);obtain⟨O,P,W,H,Q,R⟩:=xv M C;have idle: ∀w,MI gh ta n (iR (cD {s with ep:=uB s.ep i} i {x with wk:=w},((0:Int),(w.2.2.2.2.2.1:Int)),true) i x).1:=λw=>by
  unfold iR;rw[az rfl];have e:((cD {s with ep:=uB s.ep i} i {x with wk:=w}).cs.getD i x).ls=x.ls:=by
   show((s.cs.set i _).getD i x).ls= _
   grind
  rw[e];have S:cD (cD {s with ep:=uB s.ep i} i {x with wk:=w}) i (cL x.ls)={s with cs:=s.cs.set i (cL x.ls),ep:=uB s.ep i,ms:=s.ms}:=by
   unfold cD;dsimp only;rw[List.set_set]
  rw[S];exact M.idle a q (λl v=>M.ln a l v) (M.tl x j) s.ms
 unfold k_;dsimp only;split
 ·rename_i hc;show MI gh ta n (cD s i _);rcases b with b|b
  ·rcases M.hi.inv.ql M.hi.nl (t:=a9 x.c.1) H k b with ⟨m, _,f,g,I,k4⟩|⟨f, _⟩
   ·rw[o];refine M.CZ (x':={x with wk:=bG s.h.s.1 (x.c.2.1 / 16) (a9 x.c.1) (x.wk.1,(l:Int),(0,0,0,0,()))}) a (s.ep.pins.getD i 0) s.ms q q ?_ (M.ph x j) u (M.tl x j) ?_ (λl v=>M.ln a l v) (λ_=>⟨C,D,E⟩) (λ_=>⟨m,f,g,I,.inl k4⟩) (by grind)
    ·rw[tg M a];rfl
    ·rw[az (.inl p)];exact G
   ·rw[o] at hc;exact absurd f hc
  ·obtain⟨f, _⟩:=M.hi.inv.qm (t:=a9 x.c.1) k F b.1;rw[o] at hc;exact absurd f hc
 split
 ·exact idle _
 rename_i z r;have z:=B4 z;have r:(bG s.h.s.1 (x.c.2.1 / 16) (a9 x.c.1) x.wk).2.2.2.2.2.1=0:=B4 r;show MI gh ta n (cD s i _);have A:bA s.h.s O.root false (x.c.2.1 / 16)=((bG s.h.s.1 (x.c.2.1 / 16) (a9 x.c.1) x.wk).2.2.1,(bG s.h.s.1 (x.c.2.1 / 16) (a9 x.c.1) x.wk).2.2.2.1,0,()):=by
  rcases b with b|b
  ·rcases M.hi.inv.ql M.hi.nl (t:=a9 x.c.1) H k b with ⟨m, _,f,g,I,k4⟩|⟨f,g⟩
   ·rw[<-o] at f;rw[z] at f;omega
   ·rw[<-o] at g;exact g r
  ·obtain⟨_,g⟩:=M.hi.inv.qm (t:=a9 x.c.1) k F b.1;rw[<-o,r] at g;exact absurd g (by decide)
 revert A;generalize bG s.h.s.1 (x.c.2.1 / 16) (a9 x.c.1) x.wk=w;intro A;have J:jN s.h x.vm.toNat (x.c.2.1 / 16)=(w.2.2.1,w.2.2.2.1,0,()):=by rw[bT P];exact A
 have T:m8 s.h x.vm.toNat (x.c.2.1 / 16)=some w.2.2.1:=by rw[rK,J];rfl
 obtain⟨m,d,K,L,d4, _⟩:=M.hi.Tm T;have U:Dg ta s i (x.vm,x.c.2.1 / 16,w.2.2.1,w.2.2.2.1,()):=⟨⟨Q,R,k.1,k.2⟩,m,d,K,L,.inl ⟨d4,J⟩⟩;refine M.CZ (x':={x with wk:=w,ls:=qJ x.ls s.sz (x.vm,x.c.2.1 / 16,w.2.2.1,w.2.2.2.1,()),ph:=3,fr:=w.2.2.1}) a (s.ep.pins.getD i 0) s.ms q (show ¬ (3:Int)=4 by decide) ?_ (show 0<=(3:Int)/\(3:Int)<=4 by decide) u (RV (M.tl x j) M.sz.1) ?_ ?_ (λe=>absurd e (show ¬ (3:Int)=2 by decide)) (by grind) (λ_=>⟨⟨m,d,K,L,.inl d4⟩,E⟩)
 ·rw[tg M a];rfl
 grind
 ·intro y B;rcases Ek B with B|rfl
  ·exact M.ln a y B
  ·exact U
theorem MI.word (M:MI gh ta n s) {f:Int} (R:z6 ta s i f) {o:Int} (r:0<=o/\o<16) (b:Int):MI gh ta n {s with h:=bC s.h (dK s.h.s.1 (16*f+o) b,s.h.s.2)}:=by
 obtain⟨m,d,t,u,F⟩:=R;subst t;obtain⟨H,P⟩:=M.hi.Zv u (by omega) r b;exact{M with
  hi:=H
  ln:=λ{j y} a l v=>by
   obtain⟨w,x,d',g,p,q⟩:=M.ln a l v;refine⟨w,x,d',g,p,?_⟩;rw[P.to id];exact q
  wl:=λ{j y} a e=>by
   obtain⟨l,g,p,q,z⟩:=M.wl a e;refine⟨l,g,p,q,z.imp id λ⟨c1,c2,c3⟩=>⟨?_,c2,c3⟩⟩;obtain⟨k0,d',A,B,C⟩:=c1;refine⟨k0,d',A,B,λk D E=>?_⟩;have ne:y.wk.1≠m:=λc=>by
    grind
   show dJ (dK _ _ b) _=0;rw[mH (by omega)];exact C k D E}
theorem jc {s1:MS} {r:Int×Int} {x:bZ} (h:s1.cs[i]? =some x):(iR (s1,r,true) i x).1={s1 with cs:=s1.cs.set i (cL x.ls)}:=by
 unfold iR;rw[B2,h];rfl
theorem MI.reach (M:MI gh ta n s) {x:bZ} (a:s.cs[i]? =some x) (f:x.ph=3):MI gh ta n (iR (fY s i x) i x).1:=by
 have d:=aH a;have e:x.ph≠4:=by omega
 unfold fY;split
 ·have M1:=M.word (M.rc a f).1 (o:=x.c.2.1 % 16) (by omega) x.c.2.2.1;rw[jc (by grind)];exact M1.idle a e (λl b=>M1.ln a l b) (M1.tl x d) _
 ·rw[jc (by grind)];exact M.idle a e (λl b=>M.ln a l b) (M.tl x d) _
end
structure NN (s s':WD):Prop where
 to: ∀{m:Nat} {d':DT},s'.2[m]? =some d'->d'.1=5-> ∃d,s.2[m]? =some d/\d.1=5
theorem NN.refl {s s':WD} (h:s'.2=s.2):NN s s':=⟨λ{m d'} h1 a=>⟨d',by rw[<-h];exact h1,a⟩⟩
theorem NN.trans {s t u:WD} (a:NN s t) (b:NN t u):NN s u:=⟨λh1 c=>by
 obtain⟨d,e,f⟩:=b.to h1 c;exact a.to e f⟩
theorem NN.ch {s:WD} {W:List Int} {f:Int} {g:DT->DT×Int} (b: ∀d,(g d).2=0->(g d).1.1=5->d.1=5):NN s (W,dF s.2 f g):=⟨λ{m d'} h1 a=>by
 have h1:(dF s.2 f g)[m]? =some d':=h1;by_cases c:f<0\/f>=s.2.length
 ·rw[xe c] at h1;exact⟨d',h1,a⟩
 ·rw[o_ (by omega)] at h1;split at h1
  ·rename_i e;rcases jU h1 with ⟨rfl,rfl⟩|⟨_,h1⟩
   ·have h:f.toNat<s.2.length:=by omega
    refine⟨s.2.getD f.toNat zD,?_,b _ e a⟩;rw[B2,BL h];rfl
   ·exact⟨d',h1,a⟩
  ·exact⟨d',h1,a⟩⟩
theorem Jc {k o:Int} (b:k≠5) (d:DT) (h0:(aP k o d).2=0) (a:(aP k o d).1.1=5):d.1=5:=by
 unfold aP at h0 a;dsimp only at h0 a;unfold mF at a;rw[az h0] at a;exact absurd a b
theorem Zx {x:Int} (d:DT) (h0:(gX x d).2=0) (a:(gX x d).1.1=5):d.1=5:=by
 unfold gX at h0 a;dsimp only at h0 a;unfold qt at a;rw[az h0] at a;exact a
theorem NN.take {s:WD} {W:List Int} {k o:Int} (a:k≠5):NN s (W,dB s.2 k o):=by
 unfold dB;split
 ·exact .refl rfl
 ·exact .ch λd=>Jc a d
theorem NN.tk (s:WD) (o:Int) (g:Int->Int):NN s (iN s o g):=NN.take (by decide)
theorem NN.lay (s:WD) (i:Int) (e:ET):NN s (dP s i e):= .refl rfl
theorem NN.down (o pg:Int): ∀(n:Nat) (x:WD×PT),NN x.1 (qI o pg n x).1
 |0,x=> .refl rfl
 |n+1,x=>NN.trans (NN.trans (NN.tk x.1 o λ_=>0) (NN.lay _ x.2.2.2.1 (cj (eA x.1 o)))) (NN.down o pg n (dP (iN x.1 o λ_=>0) x.2.2.2.1 (cj (eA x.1 o)),(eA x.1 o,x.2.2.1 - 1,dY (eA x.1 o) pg (x.2.2.1 - 1),())))
theorem NN.map (s:WD) (o r:Int) (g:Bool) (pg f rt:Int):NN s (jv s o r g pg f rt):=by
 unfold jv;split
 ·exact .refl rfl
 split
 ·unfold rz;split
  ·exact NN.trans (NN.down o pg _ (s,dz s.1 r pg)) (NN.lay _ _ _)
  ·exact .refl rfl
 ·exact .refl rfl
theorem NN.don (h:HS) (v a b:Int):NN h.s (jO h v a b).s:=by
 have h1:NN h.s (kr h v):=NN.take (by decide);have c:NN h.s (qy h v a b):=h1.trans (NN.map ..);unfold jO;split
 ·exact .refl rfl
 split
 ·exact .refl rfl
 split
 ·exact h1
 split
 ·exact c.trans (NN.ch λd=>Jc (by decide) d)
 ·exact c.trans (.refl rfl)
theorem NN.JU (h:HS):NN h.s (gP h).s:=by
 unfold gP;split
 ·exact .refl rfl
 split
 ·exact NN.tk ..
 ·exact .refl rfl
theorem NN.tak (h:HS) (v a b c:Int):NN h.s (ia h v a b c).s:=NN.trans (NN.map ..) (NN.ch λd=>Zx d)
structure CE (gh dw:Gh) (h h':HS) (P:Nat->Int->Prop) (U:Int->Prop):Prop where
 hi:HI dw h'
 kd:KD h.s h'.s
 pg:zQ h h' P
 gk: ∀{f:Int} {w:Int×Nat×Int},gh f=some w-> ¬ U w.1->dw f=some w\/iB h'.s f
 gn: ∀{f:Int},iB h.s f->iB h'.s f
 lv: ∀{v:Int},¬ U v->aW h.g v=true->aW h'.g v=true
section
variable {gh dw:Gh} {ta:Int->Bool} {n:Nat} {s s':MS} {i:Nat} {h':HS} {P:Nat->Int->Prop} {U:Int->Prop}
theorem MI.quiet (M:MI gh ta n s) (C:CE gh dw s.h h' P λ_=>False) (N:NN s.h.s h'.s) (E: ∀{j:Nat} {q:Int},P j q->0<=q->q<65536->(jN s.h j q).2.2.1≠0):MI dw ta n {s with h:=h'}:=by
 have B: ∀{m:Nat} {d:DT},s.h.s.2[m]? =some d->d.1=4-> ∃d',h'.s.2[m]? =some d'/\d'.1=4:=λ{m d} h1 F=>by
  obtain⟨d',g,b⟩:=C.kd.k4 h1 F;rcases b with b|b
  ·exact⟨d',g,b⟩
  ·obtain⟨d2,v,x⟩:=N.to g b;rw[h1] at v;cases v;omega
 exact{M with
  hi:=C.hi
  k5:=λf G=>by
   obtain⟨m,d,h1,D,H⟩:=M.k5 f G;obtain⟨d',g,b⟩:=C.kd.k5 D H;exact⟨m,d',h1,g,b⟩
  kd:=λ{m d} h1 D=>by
   obtain⟨d0,g,b⟩:=N.to h1 D;exact M.kd g b
  pn:=λ{j y} r=>M.pn r
  ln:=λ{j y} r l I=>by
   obtain⟨w,m,d,o,p,t⟩:=M.ln r l I;rcases t with ⟨i,u⟩|⟨i,q,a,u,z,A,J⟩
   ·obtain⟨d',g,b⟩:=B p i;refine⟨w,m,d',o,g,.inl ⟨b,?_⟩⟩;show jN h' _ _= _;rw[C.pg.to (λc=>E c w.2.2.1 w.2.2.2 (by rw[u]))];exact u
   ·rcases i with i|i
    ·obtain⟨d',g,b⟩:=B p i;exact⟨w,m,d',o,g,.inr ⟨.inl b,q,a,u,z,A,λc=>by omega⟩⟩
    ·obtain⟨d',g,b⟩:=C.kd.k5 p i;exact⟨w,m,d',o,g,.inr ⟨.inr b,q,a,u,z,A,λ_=>J i⟩⟩
  ac:=λy K e=>by
   obtain⟨v,x⟩:=M.ac y K e;exact⟨C.lv id v,x⟩
  wl:=λ{j y} r e=>by
   obtain⟨l,o,p,t,i⟩:=M.wl r e;refine⟨l,o,p,t,?_⟩;rcases i with i|⟨c1,c2,c3⟩
   ·rcases C.gk i id with k|k
    ·exact .inl k
    ·obtain⟨k0,d,v,x, _⟩:=k;obtain⟨d0,g,b⟩:=N.to v x;rw[(M.hi.inv.kd i).2.2.1] at g;cases g;exact absurd b (show ¬ (3:Int)=5 by decide)
   ·exact .inr ⟨C.gn c1,c2,c3⟩
  rc:=λ{j y} r e=>by
   obtain⟨⟨m,d,o,p,t⟩,i⟩:=M.rc r e;refine⟨?_,i⟩;rcases t with t|⟨u,z,A⟩
   ·obtain⟨d',g,b⟩:=B p t;exact⟨m,d',o,g,.inl b⟩
   ·obtain⟨d',g,b⟩:=C.kd.k5 p u;exact⟨m,d',o,g,.inr ⟨b,z,A⟩⟩}
theorem HI.same {h:HS} (H:HI gh h) (c:HI dw h') (a:h'.s=h.s) (b:h'.g=h.g):HI gh h' where
 inv:=by rw[a];exact H.inv
 rt:=H.rt
 nl:=by rw[a];exact H.nl
 sz:=by rw[a];exact H.sz
 jg:=by rw[b];exact H.jg
 root:=by rw[b];exact H.root
 own:=by rw[b];exact H.own
 hc:=c.hc
theorem CE.same {h:HS} (H:HI gh h) (c:HI dw h') (a:h'.s=h.s) (b:h'.g=h.g):CE gh gh h h' (λ_ _=>False) (λ_=>False):=
 ⟨H.same c a b,.refl (by rw[a]),zQ.of a b _,λh _=> .inl h,λh=>by rw[a];exact h,λ_ h=>by rw[b];exact h⟩
end
theorem tn: ∀(l m:List Int),l.Nodup->(∀x∈l,x∈m)->l.length<=m.length
 |[], _, _, _=>EW _
 |a::l,m,b,c=>by
  have d:a∈m:=c a Bv;have g:=tn l (m.erase a) (Bs.1 b).2 λx f=>by
   have:x≠a:=λe=>(Bs.1 b).1 (by rw[<-e];exact f);exact(List.mem_erase_of_ne this).2 (c x (CH _ f))
  rw[List.length_erase_of_mem d] at g;have:0<m.length:=List.length_pos_of_mem d;rw[E6];omega
theorem O5 {α:Type} (i:Nat): ∀(l:List α) (k:Nat),(l.zipIdx k).countP (λx=>decide (x.2≠i))+(if k<=i/\i<k+l.length then 1 else 0)=l.length
 |[],k=>by
  rw[au (by simp)];rfl
 |a::l,k=>by
  have b:=O5 i l (k+1);rw[GS,De,E6];by_cases e:k=i
  ·subst e;rw[au (by omega)] at b;rw[au (by simp),az (by omega)];omega
  ·rw[az (by simpa using e)];by_cases c:k+1<=i/\i<k+1+l.length
   ·rw[az c] at b;rw[az (by omega)];omega
   ·rw[au c] at b;rw[au (by omega)];omega
section
variable {gh dw:Gh} {ta:Int->Bool} {n:Nat} {s s':MS} {i:Nat} {h':HS} {P:Nat->Int->Prop} {U:Int->Prop}
theorem ij {f:Int}:f∈eR s h'<-> ∃(m:Nat) (d:DT),f=(m:Int)/\h'.s.2[m]? =some d/\d.1=5/\f∉s.kn:=by
 unfold eR;rw[B5,B3];constructor
 ·rintro⟨⟨m,c,rfl⟩,b⟩;rw[Dc] at c;have a:h'.s.2[m]? =some h'.s.2[m]:=BL c;rw[DB,pa a] at b;refine⟨m, _,rfl,a,by simpa using b.1,by simpa using b.2⟩
 ·rintro⟨m,d,rfl,a,e,g⟩;refine⟨⟨m,Dc.2 (Ae.1 a).1,rfl⟩,?_⟩;rw[pa a,e];simpa using g
theorem zo:(eR s h').Nodup:=by
 unfold eR;refine List.Pairwise.sublist CN ?_;rw[Ga];exact Fs.imp λh e=>h (by omega)
theorem MI.box (M:MI gh ta n s) {j:Nat} {q:List AK} (c:s.bx[j]? =some q):q.length<=8:=by
 obtain⟨h1,d⟩:=M.aq c;have f:(q.map (·.1)).Nodup:=by
  unfold List.Nodup;rw[Ga];exact h1.imp λh e=>by omega
 have:=tn _ (s.cs.map (·.ak)) f λa g=>by
  obtain⟨b,hb,rfl⟩:=B3.1 g;obtain⟨z,y, _,i, _,k4⟩:=d b hb;exact B3.2 ⟨y,aH i,by rw[k4]⟩
 rw[CV,CV,M.lc] at this;have:=M.nn;omega
theorem MI.fa (M:MI gh ta n s) {j:Nat} {q:List AK} (b:s.bx[j]? =some q) {a:AK} (c:a∈q):a.1<=(s.op.length:Int):=by
 obtain⟨z,y, _,d,e,k4⟩:=(M.aq b).2 a c;have:=(M.wt y (aH d) e).2.1;rw[k4];exact this
theorem Ct (M:MI gh ta n s) (i:Nat) {t p:Int} (e:1<=t/\t<=16) (f: -1<=p/\p<65536):
 dD s.bx s.op i t p=((s.op.length:Int)+1,(s.bx.zipIdx.map λ(q,j)=>if j=i then q else q++[((s.op.length:Int)+1,t,p,())]),s.op++[(s.bx.length:Int) - 1]):=by
 unfold dD;rw[au (by omega),au ?_];intro c;obtain⟨q,b,a⟩:=Fu.1 c;obtain⟨j,d⟩:=Bp (List.mem_of_mem_eraseIdx b);have:=M.box d;have a:q.length=16:=by simpa using a
 omega
theorem RW {bx:List (List AK)} {i j:Nat} {x:AK} {a:List AK} (h:(bx.zipIdx.map λ(q,j)=>if j=i then q else q++[x])[j]? =some a): ∃q,bx[j]? =some q/\a=if j=i then q else q++[x]:=by
 rw[E4,Gd] at h;cases hb:bx[j]? with
 |none=>rw[hb] at h;cases h
 |some q=>
  rw[hb] at h;refine⟨q,rfl,?_⟩;have:=Option.some.inj h;rw[<-this];show(if 0+j=i then _ else _)= _;rw[Nat.zero_add]
theorem post_at {bx:List (List AK)} {i j:Nat} {x:AK} {q:List AK} (h:bx[j]? =some q):(bx.zipIdx.map λ(q,j)=>if j=i then q else q++[x])[j]? =some (if j=i then q else q++[x]):=by
 rw[E4,Gd,h];show some (if 0+j=i then _ else _)= _;rw[Nat.zero_add]
theorem Em (q:List AK) (x:AK) (k:Int):jz (q++[x]) k=(jz q k||x.1==k):=by
 unfold jz;rw[List.any_append];simp
theorem Jd {α:Type}: ∀(l:List α) (k:Nat),(l.zipIdx k).map Prod.fst=l
 |[], _=>rfl
 |a::l,k=>by rw[GS,C7,Jd l (k+1)]
theorem RY {bx:List (List AK)} {i:Nat} {x:AK} {k:Int} (a:x.1≠k):(bx.zipIdx.map λ(q,j)=>if j=i then q else q++[x]).countP (λq=>jz q k)=bx.countP λq=>jz q k:=by
 rw[EU];have:((λq=>jz q k)∘λ(z:List AK×Nat)=>(match z with|(q,j)=>if j=i then q else q++[x]))=(λq=>jz q k)∘Prod.fst:=by
  funext ⟨q,j⟩;show jz (if j=i then q else q++[x]) k=jz q k;split
  ·rfl
  ·rw[Em,beq_eq_false_iff_ne.2 a,Bool.or_false]
 rw[this, <-EU,Jd]
theorem RZ {bx:List (List AK)} {i:Nat} {x:AK} (hi:i<bx.length) (a: ∀q∈bx,jz q x.1=false):(bx.zipIdx.map λ(q,j)=>if j=i then q else q++[x]).countP (λq=>jz q x.1)=bx.length - 1:=by
 rw[EU];have:(bx.zipIdx).countP ((λq=>jz q x.1)∘λ(z:List AK×Nat)=>(match z with|(q,j)=>if j=i then q else q++[x]))=bx.zipIdx.countP λz=>decide (z.2≠i):=by
  refine List.countP_congr λ⟨q,j⟩ b=>?_;have c:q∈bx:=(List.mem_zipIdx_iff_getElem?.1 b |> BJ);show jz (if j=i then q else q++[x]) x.1=true<->decide (j≠i)=true;split
  ·rename_i e;rw[a q c,e];simp
  ·rename_i e;rw[Em];simp[e]
 rw[this];have:=O5 i bx 0;rw[az (by omega)] at this;omega
end
section
variable {gh dw:Gh} {ta:Int->Bool} {n:Nat} {s:MS} {i:Nat} {h':HS} {P:Nat->Int->Prop} {U:Int->Prop}
def XJ (gh:Gh) (ta:Int->Bool) (fs:List Int) (f:Int):Bool:=if fs.contains f=true then(gh f).isSome else ta f
def Ax (s:MS) (h':HS) (i:Nat) (x:bZ) (t p:Int) (rs:Int×Int) (ms:List MT):MS:=
 {s with h:=h',kn:=s.kn++eR s h',ms:=ms,bx:=(dD s.bx s.op i t p).2.1,op:=(dD s.bx s.op i t p).2.2,cs:=s.cs.set i {x with rs:=rs,fs:=eR s h',ls:=jm x.ls t p,ak:=(dD s.bx s.op i t p).1,ph:=4}}
theorem MI.WU (M:MI gh ta n s) {x:bZ} (hx:s.cs[i]? =some x) (h1:x.ph=1) (hbx:s.bx[i]? =some []) (C:CE gh dw s.h h' P U) {t p:Int} (ht:1<=t/\t<=16) (hp: -1<=p/\p<65536) (sk:z7 x=t) (SY:z8 x=p)
 (hP: ∀{j:Nat} {q:Int},P j q->0<=q->q<65536->(j:Int)=t/\(p= -1\/p=q)) (hU: ∀{j:Nat} {y:bZ},s.cs[j]? =some y->y.ph=2-> ¬ U y.vm) (rs:Int×Int) (ms:List MT):
 MI dw (XJ gh ta (eR s h')) n (Ax s h' i x t p rs ms):=by
 have nX:i<s.cs.length:=(Ae.1 hx).1;have h4:x.ph≠4:=by omega
 generalize Y:Ax s h' i x t p rs ms=s';have J:s'.h=h':=by rw[<-Y];rfl
 have R:s'.ep=s.ep:=by rw[<-Y];rfl
 have hk:s'.kn=s.kn++eR s h':=by rw[<-Y];rfl
 have gx:s'.sz=s.sz:=by rw[<-Y];rfl
 have hb:s'.bx=s.bx.zipIdx.map λ(q,j)=>if j=i then q else q++[((s.op.length:Int)+1,t,p,())]:=by rw[<-Y];unfold Ax;dsimp only;rw[Ct M i ht hp]
 have ho:s'.op=s.op++[(s.bx.length:Int) - 1]:=by rw[<-Y];unfold Ax;dsimp only;rw[Ct M i ht hp]
 have fq:s'.cs=s.cs.set i {x with rs:=rs,fs:=eR s h',ls:=jm x.ls t p,ak:=(s.op.length:Int)+1,ph:=4}:=by rw[<-Y];unfold Ax;dsimp only;rw[Ct M i ht hp]
 have XB:s'.op.length=s.op.length+1:=by rw[ho,G1];rfl
 have XC:s'.bx.length=s.bx.length:=by rw[hb,CV,List.length_zipIdx]
 generalize Z:({x with rs:=rs,fs:=eR s h',ls:=jm x.ls t p,ak:=(s.op.length:Int)+1,ph:=4}:bZ)=x' at fq;have O:x'.ph=4:=by rw[<-Z]
 have X:x'.fs=eR s h':=by rw[<-Z]
 have xa:x'.ak=(s.op.length:Int)+1:=by rw[<-Z]
 have xl:x'.ls=jm x.ls t p:=by rw[<-Z]
 have xc:x'.c=x.c:=by rw[<-Z]
 have xT:z7 x'=t:=by rw[<-sk, <-Z];rfl
 have xP:z8 x'=p:=by rw[<-SY, <-Z];rfl
 have vy:s'.cs[i]? =some x':=by rw[fq,Av nX]
 have hw: ∀{z:Nat} {y:bZ},s.cs[z]? =some y->y.ph=4->s'.cs[z]? =some y:=λ{z y} h1 h2=>by rw[fq];exact Ej hx h4 _ h1 h2
 have Q: ∀{z:Nat} {y:bZ},s'.cs[z]? =some y->(z=i/\y=x')\/(z≠i/\s.cs[z]? =some y):=λh=>by rw[fq] at h;exact jU h
 have hm: ∀{y:bZ},y∈s'.cs->y=x'\/y∈s.cs:=λh=>by rw[fq] at h;exact ig h
 have hbg: ∀{j:Nat} {q:List AK},s.bx[j]? =some q->j≠i->s'.bx[j]? =some (q++[((s.op.length:Int)+1,t,p,())]):=λ{j q} h e=>by rw[hb,post_at h,au e]
 have acb: ∀{m:Nat} {d:DT},s.h.s.2[m]? =some d->(m:Int)∈s.kn->d.1=5:=λ{m d} h1 h2=>by
  obtain⟨m',d',A,u,S⟩:=M.k5 _ h2;have:m=m':=by omega
  subst this;rw[h1] at u;cases u;exact S
 have TC: ∀{m:Nat} {d d':DT},s.h.s.2[m]? =some d->d.1≠5->h'.s.2[m]? =some d'->d'.1=5->(m:Int)∈eR s h':=λh1 h2 h3 h5=>ij.2 ⟨_, _,rfl,h3,h5,λc=>h2 (acb h1 c)⟩;have N7: ∀{m:Nat} {d:DT},s.h.s.2[m]? =some d->d.1=4->(m:Int)∈eR s h'->XJ gh ta (eR s h') (m:Int)=false:=λ{m d} h1 h4 G=>by
  unfold XJ;rw[az (by simpa using G)];cases hgm:gh (m:Int) with
  |none=>rfl
  |some w=>
   obtain⟨o,l,y⟩:=w;have:=(M.hi.inv.kd hgm).2.2.1;rw[show((m:Int)).toNat=m from rfl,h1] at this;cases this;exact absurd h4 (show ¬ (3:Int)=4 by decide)
 have abv: ∀{f:Int},f∈s.kn->XJ gh ta (eR s h') f=ta f:=λ{f} B=>by
  unfold XJ;rw[au];intro c;have c:f∈eR s h':=by simpa using c
  obtain⟨_, _, _, _, _,k⟩:=ij.1 c;exact k B
 have Ys: ∀{m:Nat} {d:DT},s.h.s.2[m]? =some d->d.1=5->XJ gh ta (eR s h') (m:Int)=ta (m:Int):=λh1 h2=>abv (M.kd h1 h2).1;have Je: ∀{j:Nat} {f:Int},rB s j f->rB s' j f:=λh=>h.dq hw (by rw[R]) (by rw[R]);have Jf: ∀{j:Nat} {f:Int},f∈eR s h'->rB s' j f:=λh=> .inl ⟨i,x',vy,O,by rw[X];exact h⟩;have O6: ∀{l:LT},(1<=l.1/\l.1<=16/\0<=l.2.1/\l.2.1<65536)->jN s.h l.1.toNat l.2.1=(l.2.2.1,l.2.2.2.1,0,())-> ¬ (t=l.1/\(p= -1\/p=l.2.1))-> ∃(m:Nat) (d:DT),l.2.2.1=(m:Int)/\h'.s.2[m]? =some d/\d.1=4/\jN h' l.1.toNat l.2.1=(l.2.2.1,l.2.2.2.1,0,()):=λ{l} L E D=>by
  have Ah:jN h' l.1.toNat l.2.1=(l.2.2.1,l.2.2.2.1,0,()):=by
   rw[C.pg.to λc=>D ?_]
   ·exact E
   ·obtain⟨c1,c2⟩:=hP c L.2.2.1 L.2.2.2;exact⟨by omega,c2⟩
  have im:m8 h' l.1.toNat l.2.1=some l.2.2.1:=by rw[rK,Ah];rfl
  obtain⟨m,d,A,u,S, _⟩:=C.hi.Tm im;exact⟨m,d,A,u,S,Ah⟩
 refine⟨by rw[J];exact C.hi,M.nn,by rw[fq,B1];exact M.lc,by rw[XC];exact M.lb,by rw[R];exact M.lp,by rw[gx];exact M.sz,λy v=>?_,λy v=>?_,λy v=>?_,
  λf B=>?_,?_,λe B=>?_,by rw[R];exact M.wn,λy v e=>?_,λy v e=>?_,λ{a b y z} g H se A u=>?_,λ{m d} g H=>?_,by rw[R];exact M.nw,λ{j y} g=>?_,λ{j y} g l hl=>?_,λy v e=>?_,λ{j y} g e=>?_,λ{j y} g e=>?_,λy v e=>?_,λ{a b y z} g H se A u=>?_,λ{j r} g=>?_,λid Ju=>?_⟩
 ·rcases hm v with rfl|v
  ·rw[O];decide
  ·exact M.ph y v
 ·rcases hm v with rfl|v
  ·rw[xc];exact M.ar x (aH hx)
  ·exact M.ar y v
 ·rw[gx];rcases hm v with rfl|v
  ·rw[xl];have:=Eg x.ls t p;have:=M.tl x (aH hx);omega
  ·exact M.tl y v
 ·
  rw[J];rw[hk] at B;rcases EO.1 B with B|B
  ·obtain⟨m,d,A,u,S⟩:=M.k5 f B;obtain⟨d',g1,T⟩:=C.kd.k5 u S;exact⟨m,d',A,g1,T⟩
  ·obtain⟨m,d,A,u,S, _⟩:=ij.1 B;exact⟨m,d,A,u,S⟩
 ·rw[hk];refine List.nodup_append.2 ⟨M.nk,zo,λa K b hb c=>?_⟩;subst c;obtain⟨_, _, _, _, _,k⟩:=ij.1 hb;exact k K
 ·rw[R] at B ⊢;obtain⟨a,b,c⟩:=M.wk e B;rw[hk];exact⟨CO _ a,b,c⟩
 ·rw[hk,R];rcases hm v with rfl|v
  ·intro f B;rw[X] at B;refine⟨CX _ B,λc=>?_⟩;obtain⟨_, _, _, _, _,k⟩:=ij.1 B;obtain⟨e',I,F⟩:=B3.1 c;exact k (by rw[<-F];exact(M.wk e' I).1)
  ·intro f B;obtain⟨a,b⟩:=M.fk y v e f B;exact⟨CO _ a,b⟩
 ·rcases hm v with rfl|v
  ·rw[X];exact zo
  ·exact M.fn y v e
 ·rcases Q g with ⟨_,rfl⟩|⟨_,g⟩
  ·rcases Q H with ⟨q, _⟩|⟨_,H⟩
   ·omega
   ·intro f B c;rw[X] at B;obtain⟨_, _, _, _, _,k⟩:=ij.1 B;exact k (M.fk z (aH H) u f c).1
  ·rcases Q H with ⟨_,rfl⟩|⟨_,H⟩
   ·intro f B c;rw[X] at c;obtain⟨_, _, _, _, _,k⟩:=ij.1 c;exact k (M.fk y (aH g) A f B).1
   ·exact M.fd g H se A u
 ·rw[J] at g;rw[hk,R];by_cases c:(m:Int)∈eR s h'
  ·exact⟨CX _ c,.inr ⟨x',aH vy,O,by rw[X];exact c⟩⟩
  ·have hkm:(m:Int)∈s.kn:=B4 λG=>c (ij.2 ⟨m,d,rfl,g,H,G⟩);obtain⟨m',d',A,u,S⟩:=M.k5 _ hkm;have:m=m':=by omega
   subst this;obtain⟨_,T⟩:=M.kd u S;refine⟨CO _ hkm,T.imp id λ⟨y,v,I,F⟩=>?_⟩;obtain⟨j,V⟩:=Bp v;exact⟨y,aH (hw V I),I,F⟩
 ·rw[R];rcases Q g with ⟨rfl,rfl⟩|⟨_,g⟩
  ·have:=M.pn hx;rw[h1,au (by decide)] at this;rw[O,au (by decide)];exact this
  ·exact M.pn g
 ·
  rcases Q g with ⟨rfl,rfl⟩|⟨V,g⟩
  ·rw[xl] at hl;obtain⟨l1,l2⟩:=th hl;obtain⟨L,m,d,E,D,N⟩:=M.ln hx l l1;rcases N with ⟨_,N⟩|⟨_,q,a,r5,r6, _⟩
   ·obtain⟨m',d',g1,T,g3,g4⟩:=O6 L N l2;exact⟨L,m',d',g1,by rw[J];exact T,.inl ⟨g3,by rw[J];exact g4⟩⟩
   ·rw[hbx] at r5;cases r5;cases r6
  ·obtain⟨L,m,d,E,D,N⟩:=M.ln g l hl;rcases N with ⟨d4,N⟩|⟨W,q,a,r5,r6,r7,r8⟩
   ·by_cases l2:t=l.1/\(p= -1\/p=l.2.1)
    ·obtain⟨d',A,u⟩:=C.kd.k4 D d4;have Jw:j<s.bx.length:=by rw[M.lb, <-M.lc];exact(Ae.1 g).1
     refine⟨L,m,d',E,by rw[J];exact A,.inr ⟨u, _, _,hbg (BL Jw) V,CX _ (Cb.2 rfl),l2,λe5=>?_⟩⟩;have G:=TC D (by omega) A e5;rw[E];exact⟨N7 D d4 G,i,x', _,CX _ (Cb.2 rfl),vy,O,by rw[X];exact G,xa.symm,Int.le_refl _⟩
    ·obtain⟨m',d',g1,T,g3,g4⟩:=O6 L N l2;exact⟨L,m',d',g1,by rw[J];exact T,.inl ⟨g3,by rw[J];exact g4⟩⟩
   ·rcases W with d4|d5
    ·obtain⟨d',A,u⟩:=C.kd.k4 D d4;refine⟨L,m,d',E,by rw[J];exact A,.inr ⟨u, _,a,hbg r5 V,CO _ r6,r7,λe5=>?_⟩⟩;have G:=TC D (by omega) A e5;have:=M.fa r5 r6;rw[E];exact⟨N7 D d4 G,i,x', _,CX _ (Cb.2 rfl),vy,O,by rw[X];exact G,xa.symm,by show a.1<=(s.op.length:Int)+1;omega⟩
    ·obtain⟨d',A,u⟩:=C.kd.k5 D d5;refine⟨L,m,d',E,by rw[J];exact A,.inr ⟨.inr u, _,a,hbg r5 V,CO _ r6,r7,λ_=>?_⟩⟩;obtain⟨I,z,y',b,F,q3,q4,q5,q6,q7⟩:=r8 d5;refine⟨?_,z,y',b,CO _ F,hw q3 q4,q4,q5,q6,q7⟩;rw[E,Ys D d5, <-E];exact I
 ·rw[J];rcases hm v with rfl|v
  ·rw[O] at e;exact absurd e (by decide)
  ·obtain⟨j,V⟩:=Bp v;obtain⟨I,F⟩:=M.ac y v e;exact⟨C.lv (hU V e) I,F⟩
 ·rcases Q g with ⟨_,rfl⟩|⟨_,g⟩
  ·rw[O] at e;exact absurd e (by decide)
  ·obtain⟨l,E,D,N,W⟩:=M.wl g e;refine⟨l,E,D,N,?_⟩;rw[J];rcases W with W|⟨c1,c2,c3⟩
   ·rcases C.gk W (hU g e) with k|k
    ·exact .inl k
    ·have G:y.wk.1∈eR s h':=by
      obtain⟨q0,d',I,F, _⟩:=k;have h3:=(M.hi.inv.kd W).2.2.1;have:=TC h3 (by show ¬ (3:Int)=5;decide) I F;rw[Do q0] at this;exact this
     refine .inr ⟨k,Jf G,?_⟩;unfold XJ;rw[az (by simpa using G),W];rfl
   ·refine .inr ⟨C.gn c1,Je c2,?_⟩;obtain⟨q0,d',I,F, _⟩:=c1;have:=Ys I F;rw[Do q0] at this;rw[this];exact c3
 ·rcases Q g with ⟨_,rfl⟩|⟨_,g⟩
  ·rw[O] at e;exact absurd e (by decide)
  ·obtain⟨⟨m,d,E,D,N⟩,W⟩:=M.rc g e;refine⟨?_,W⟩;rcases N with d4|⟨d5,c2,c3⟩
   ·obtain⟨d',A,u⟩:=C.kd.k4 D d4;refine⟨m,d',E,by rw[J];exact A,?_⟩;rcases u with u|u
    ·exact .inl u
    ·have G:=TC D (by omega) A u;rw[E];exact .inr ⟨u,Jf G,N7 D d4 G⟩
   ·obtain⟨d',A,u⟩:=C.kd.k5 D d5;refine⟨m,d',E,by rw[J];exact A,.inr ⟨u,Je c2,?_⟩⟩;rw[E,Ys D d5, <-E];exact c3
 ·rw[XB];rcases hm v with rfl|v
  ·rw[xT,xP,xa];omega
  ·have:=M.wt y v e;omega
 ·rcases Q g with ⟨_,rfl⟩|⟨_,g⟩
  ·rcases Q H with ⟨q, _⟩|⟨_,H⟩
   ·omega
   ·have:=M.wt z (aH H) u;rw[xa];omega
  ·rcases Q H with ⟨_,rfl⟩|⟨_,H⟩
   ·have:=M.wt y (aH g) A;rw[xa];omega
   ·exact M.wu g H se A u
 ·rw[hb] at g;obtain⟨q,I,F⟩:=RW g;obtain⟨g1,T⟩:=M.aq I;have dq: ∀a∈q, ∃(z:Nat) (y:bZ),z≠j/\s'.cs[z]? =some y/\y.ph=4/\a=(y.ak,z7 y,z8 y,()):=λa K=>by
   obtain⟨z,y,f1,f2,f3,f4⟩:=T a K;exact⟨z,y,f1,hw f2 f3,f3,f4⟩
  by_cases e:j=i
  ·rw[az e] at F;rw[F];exact⟨g1,dq⟩
  ·rw[au e] at F;rw[F];refine⟨List.pairwise_append.2 ⟨g1,List.pairwise_singleton ..,λa K b hb=>?_⟩,λa K=>?_⟩
   ·have:=M.fa I K;rw[Cb.1 hb];show a.1<(s.op.length:Int)+1;omega
   ·rcases EO.1 K with K|K
    ·exact dq a K
    ·refine⟨i,x',λc=>e c.symm,vy,O,?_⟩;rw[Cb.1 K,xa,xT,xP]
 ·rw[XB] at Ju;rw[ho,hb,B2];by_cases e:id<s.op.length
  ·rw[RY (by show(s.op.length:Int)+1≠ _;omega),List.getElem?_append_left e, <-B2];exact M.oc id e
  ·have e:id=s.op.length:=by omega
   subst e;have acd:i<s.bx.length:=by rw[M.lb, <-M.lc];exact nX
   rw[List.getElem?_append_right (Dl _),Nat.sub_self];have:=RZ (i:=i) (x:=(((s.op.length:Int)+1,t,p,()):AK)) acd λq hq=>by
    unfold jz;rw[Fx];intro a K c;obtain⟨j,V⟩:=Bp hq;have:=M.fa V K;have c:a.1=(s.op.length:Int)+1:=by simpa using c
    omega
   show(s.bx.length:Int) - 1= _;rw[this];omega
end
section
variable {gh dw:Gh} {h h':HS} {v k a b c:Int}
theorem R2 {g g':Nat->Option GV} (a: ∀i,(g' i).isSome=(g i).isSome) (v:Int):aW g' v=aW g v:=by unfold aW;rw[a]
theorem Mi (w:Int) (a:aW h.g w=true):aW (gP h).g w=true:=by
 unfold gP;split
 ·exact a
 split
 ·obtain⟨b,x,c⟩:=cq.1 a;refine cq.2 ⟨b,?_⟩;show∃x,bq h.g _ _ w.toNat=some x;unfold bq;split
  ·exact⟨_,rfl⟩
  ·exact⟨x,c⟩
 ·exact a
theorem wg (v:Int): ∀(n:Nat) (h:HS) (w:Int),aW (fK v n h).g w=aW h.g w
 |0, _, _=>rfl
 |n+1,h,w=>by
  show aW (fK v n (x_ v h)).g w= _;rw[wg v n];unfold x_;exact rU ..
theorem R3 {a w:Int} (e:w≠a) (b:aW h.g w=true):aW (sE h a).g w=true:=by
 unfold sE;split
 ·rename_i la;split
  ·exact b
  ·rw[<-wg a (xE h a).length] at b;obtain⟨c,x,d⟩:=cq.1 b;obtain⟨hv, _⟩:=cq.1 la;refine cq.2 ⟨c,x,?_⟩;show bq (fK a (xE h a).length h).g a.toNat none w.toNat=some x;unfold bq;rw[au (by omega)];exact d
 ·exact b
theorem CE.run (d:HI dw (run h v k a b c).1) {P:Nat->Int->Prop} {f:Int} (E:uj h (run h v k a b c).1 P f) (G:uf gh dw h.s (run h v k a b c).1.s) (e:1<=k/\k<=17) (hc:ux k=false):CE gh dw h (run h v k a b c).1 P (λ_=>False):=
 ⟨d,E.kd,E.pg,λh1 _=>G.1 _ _ h1,λh1=>G.2 _ h1,λ{w} _ h1=>by rw[R2 (VD e hc)];exact h1⟩
theorem R4 (d:k=6\/k=8\/(11<=k/\k<=16)):(run h v k a b c).1.s=h.s/\(run h v k a b c).1.g=h.g:=by
 have:k=6\/k=8\/k=11\/k=12\/k=13\/k=14\/k=15\/k=16:=by omega
 rcases this with rfl|rfl|rfl|rfl|rfl|rfl|rfl|rfl
 ·exact⟨rfl,rfl⟩
 ·show(iy h v a b c).s=h.s/\(iy h v a b c).g=h.g;unfold iy;split<;>exact⟨rfl,rfl⟩
 ·show(fM h v a).s=h.s/\(fM h v a).g=h.g;unfold fM;split<;>exact⟨rfl,rfl⟩
 ·show(lQ h v a).s=h.s/\(lQ h v a).g=h.g;unfold lQ;split<;>exact⟨rfl,rfl⟩
 ·show(lR h v a b).s=h.s/\(lR h v a b).g=h.g;unfold lR;split
  ·exact⟨rfl,rfl⟩
  split<;>exact⟨rfl,rfl⟩
 ·show(lP h v a).s=h.s/\(lP h v a).g=h.g;unfold lP;split<;>exact⟨rfl,rfl⟩
 ·exact⟨rfl,rfl⟩
 ·show(iX h v a).s=h.s/\(iX h v a).g=h.g;unfold iX;split<;>exact⟨rfl,rfl⟩
theorem En (d:sd h v k a b c=0) (e:iU h v k a b c=0):(run h v k a b c).2.2=0:=by unfold sd at d;rw[az e] at d;exact d
theorem Hh (H:HI gh h) (y:0<=a) (z: ¬ (v=0/\k=17/\a=0/\b=0/\c=0)) (A:k=7-> ¬ (aW h.g v=true/\iw k a b c=true/\a<1048576)) (B:sd h v k a b c≠0\/ ¬ (k=2\/k=4\/k=5\/k=10)):
 ∃dw P,CE gh dw h (kN h v k a b c) P (λ_=>False)/\NN h.s (kN h v k a b c).s/\ ∀{j:Nat} {q:Int},P j q->0<=q->q<65536->(jN h j q).2.2.1≠0:=by
 obtain⟨g1,C⟩:=H.step v k b c y;have same:(kN h v k a b c).s=h.s->(kN h v k a b c).g=h.g-> ∃dw P,CE gh dw h (kN h v k a b c) P (λ_=>False)/\NN h.s (kN h v k a b c).s/\ ∀{j:Nat} {q:Int},P j q->0<=q->q<65536->(jN h j q).2.2.1≠0:=λl m=>
  ⟨gh, _,CE.same H C l m,.refl (by rw[l]),λc=>c.elim⟩
 by_cases p:sd h v k a b c=0
 case neg=>
  obtain⟨e, _⟩:=H.fail p;exact same e.1 e.2
 have K:=B.resolve_left λc=>c p;by_cases i:iU h v k a b c=0
 case neg=>
  have e:kN h v k a b c=h:=au i;rw[e] at same ⊢;exact same rfl rfl
 have d:=En p i;obtain⟨u,r,o⟩:=B8 i;have e:kN h v k a b c=(run h v k a b c).1:=az i;by_cases D:k=6\/k=8\/(11<=k/\k<=16)
 ·obtain⟨l,m⟩:=R4 (h:=h) (v:=v) (a:=a) (b:=b) (c:=c) D;exact same (by rw[e];exact l) (by rw[e];exact m)
 rw[e];have:k=1\/k=3\/k=7\/k=9\/k=17:=by omega
 rcases this with rfl|rfl|rfl|rfl|rfl
 ·obtain⟨g',n,E,G⟩:=H.F2;exact⟨g', _,⟨n,E.kd,E.pg,λh1 _=>G.1 _ _ h1,λh1=>G.2 _ h1,λ{w} _ h1=>Mi w h1⟩,NN.JU h,λ{j q} c F I=>absurd ⟨F,I⟩ c⟩
 ·have d:qz h v a b=0:=by
   have d:(xJ h v a b).2=0:=d;unfold xJ at d;split at d
   ·assumption
   ·exact d
  obtain⟨g',f,n,O, _,G⟩:=H.OX (r rfl) (a:=a) (b:=b) d;refine⟨g', _,CE.run (k:=3) n O.ef G u rfl,NN.don ..,λ{j q} cc _ _=>?_⟩;rw[cc.1,cc.2,O.Wh];decide
 ·exfalso;refine A rfl ⟨r rfl,o,?_⟩;refine B4 λcc=>?_;have d:rJ h v a=0:=d;unfold rJ iT at d;rw[az (show a>=1048576 by omega),az (show((0:Int),(2:Int)).2≠0 by decide)] at d;exact absurd d (show ¬ (2:Int)=0 by decide)
 ·obtain⟨l,g',n,E,J, _,G⟩:=H.O3 (r rfl) (a:=a) (b:=b) (c:=c) d;have m:(run h v 9 a b c).1=ia h v a b c:=l;rw[<-m] at n E G;refine⟨g', _,CE.run (k:=9) n E G u rfl,by rw[m];exact NN.tak ..,λ{j q} cc _ _=>?_⟩;rw[cc.1,cc.2,J];decide
 ·exfalso;have hv:v=0:=by
   unfold iU at i;split at i
   ·exact absurd i (by decide)
   split at i
   ·exact absurd i (by decide)
   rename_i x;by_cases e:v=0
   ·exact e
   ·have:(v==0)=false:=by simpa using e
    rw[this] at x;exact absurd rfl x
  have t:a=0/\b=0/\c=0:=by
   unfold iw at o;simp[jR] at o;exact o
  exact z ⟨hv,rfl,t.1,t.2.1,t.2.2⟩
theorem Mj (H:HI gh h) (I:0<=a) (n:sd h v k a b c=0) (z:k=2\/k=4\/k=5\/k=10):
 ∃dw,CE gh dw h (kN h v k a b c) (λj q=>if k=2 then j=a.toNat else j=v.toNat/\q=a) (λw=>k=2/\w=a)/\(k=2->(1<=a/\a<=16)/\v=0)/\(k≠2->(1<=v/\v<=16)/\a<65536):=by
 have l:iU h v k a b c=0:=by
  refine B4 λl=>?_;unfold sd at n;rw[au l] at n;exact l n
 have d:=En n l;obtain⟨A,o,J⟩:=B8 l;have e:kN h v k a b c=(run h v k a b c).1:=az l;rw[e];have fin: ∀{dw:Gh} {f:Int},k≠2->ux k=false->a<65536->HI dw (run h v k a b c).1->uj h (run h v k a b c).1 (λi q=>i=v.toNat/\q=a) f->uf gh dw h.s (run h v k a b c).1.s-> ∃dw,CE gh dw h (run h v k a b c).1 (λj q=>if k=2 then j=a.toNat else j=v.toNat/\q=a) (λw=>k=2/\w=a)/\(k=2->(1<=a/\a<=16)/\v=0)/\(k≠2->(1<=v/\v<=16)/\a<65536):=λ{dw f} x hc B m E G=>by
  obtain⟨_, _, _, _,p,r⟩:=cg (o hc);have C:=CE.run m E G A hc;refine⟨dw,⟨C.hi,C.kd,⟨λ{i q} t=>C.pg.to λcc=>t ?_⟩,λh1 _=>C.gk h1 id,C.gn,λ_ h1=>C.lv id h1⟩,λc=>absurd c x,λ_=>⟨⟨p,r⟩,B⟩⟩;show if k=2 then _ else _;rw[au x];exact cc
 rcases z with rfl|rfl|rfl|rfl
 ·obtain⟨g',m,E,D,F⟩:=H.I_ a;have la:aW h.g a=true:=by
   have d:FE h a=0:=d;unfold FE at d;split at d
   ·assumption
   ·exact absurd d (by decide)
  obtain⟨_, _, _, _,p,r⟩:=cg la;refine⟨g',⟨m,E.kd,⟨λ{i q} t=>E.pg.to λcc=>t ?_⟩,λ{f w} h1 u=>D f w h1 λc=>u ⟨rfl,c⟩,λh1=>F _ h1,λ{w} h1 u=>R3 (λc=>h1 ⟨rfl,c⟩) u⟩,λ_=>⟨⟨p,r⟩,?_⟩,λc=>absurd rfl c⟩
  ·show if(2:Int)=2 then _ else _;rw[az rfl];exact cc
  ·unfold iU at l;split at l
   ·exact absurd l (by decide)
   split at l
   ·exact absurd l (by decide)
   rename_i y;by_cases e:v=0
   ·exact e
   ·have:(v==0)=false:=by simpa using e
    rw[this] at y;exact absurd rfl y
 ·have d:wN h v a=0:=by
   have d:(BM h v a).2=0:=d;unfold BM at d;split at d
   ·assumption
   ·exact d
  obtain⟨g',f,m,O,G⟩:=H.OZ (o rfl) d;refine fin (by decide) rfl ?_ m O.ef G;unfold wN at d;split at d
  ·exact absurd d (by decide)
  ·omega
 ·have d:oW h v a b=0:=d;obtain⟨g',m,E, _, _, _,G⟩:=H.IZ (o rfl) d;refine fin (by decide) rfl ?_ m E G;unfold oW at d;split at d
  ·exact absurd d (by decide)
  ·omega
 ·have d:oX h v a=0:=d;obtain⟨g',m,E, _,G⟩:=H.I7 (o rfl) d;refine fin (by decide) rfl ?_ m E G;unfold oX at d;split at d
  ·exact absurd d (by decide)
  ·omega
end
end Go.Proofs.YtlcenllcmeebhaaGreat
