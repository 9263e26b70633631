import Derived.Test.YtlcenllcmeebhaaGreatPAE
/-! What the statement leans on: texts joined and shortened by a program of mine. -/
set_option linter.unusedVariables false
set_option linter.unusedSimpArgs false
open Go renaming World->A2,Addr->AC,Value->B4,MapEntry->Do
open Go.Proofs.Tryz renaming prog->AB
open List renaming getElem?_set_ne->AF,getElem?_set_self->AG,getElem?_eq_some_iff->AH,mem_map->AT,length_set->Ae,getD_eq_getElem?_getD->B1,mem_filter->B2,getElem?_eq_getElem->B3,mem_of_getElem?->B5,range->BO,mem_cons_self->BX,mem_cons_of_mem->Bs,nodup_cons->Bx,mem_cons->C5,mem_append->Ca,replicate->Cc,mem_append_right->DB,map_cons->DE,filter_sublist->DH,getElem?_of_mem->DN,map_append->Db,mem_range->Dd,length_map->Dh,length_cons->Dl,mem_append_left->Dr,countP_pos_iff->Dw,countP_cons->E4,getElem?_map->E5,nodup_append->FQ,sum_cons->FR,ext_getElem?->FS,any_eq_true->FU,length_replicate->FV,countP_map->Fh,sum_append->Fw,filter_cons->Fx,filter_eq_self->G1,nodup_range->GD,eq_of_mem_replicate->GF,getElem?_set->GG,zipIdx_cons->GH,pairwise_map->GI,getElem?_zipIdx->GJ
open Int.ofNat renaming inj->Ap
open Classical renaming byContradiction->Aq
open Nat renaming eq_zero_or_pos->Cd,le_refl->F4,zero_le->Ft,lt_succ_self->GS
open Bool renaming and_eq_true->DA,not_eq_true'->Ga
open Go.IntKind renaming i64->DQ
open Go.Value renaming nilFunc->Dn
open BitVec renaming ofInt->FC
namespace Go.Proofs.YtlcenllcmeebhaaGreat
set_option maxRecDepth 100000
open Go.RX D
section
variable {D G:List Nat} {w0 w w1:A2} {L L0 Ls:List (Nat×List B4)}
theorem cw.Xg {M1 M2 M1':List (Nat×Obj)} {L':List (Nat×List B4)} (H:cw D G w0 w L (M1++M2)) (K:cw [] (L.map (·.1)++M1.map (·.1)) w w1 L' M1'):cw D G w0 w1 L' (M1'++M2):=by
 have f:=H.nd;rw[Db,FQ] at f;have g: ∀x∈L.map (·.1)++M1.map (·.1),w0.heap.size<=x\/x∈G:=λx c=>by
  rcases Ca.1 c with c|c
  ·obtain⟨y,d,rfl⟩:=AT.1 c;exact H.base.own y d
  ·obtain⟨y,d,rfl⟩:=AT.1 c;exact H.own y (Dr _ d)
 have h: ∀x,w.heap.size<=x\/x∈L.map (·.1)++M1.map (·.1)->w0.heap.size<=x\/x∈G:=λx c=>by
  rcases c with c|c
  ·exact .inl (Nat.le_trans H.base.fr.size c)
  ·exact g x c
 have i: ∀r∈D,r∉L.map (·.1)++M1.map (·.1):=λr j c=>by
  rcases Ca.1 c with c|c
  ·obtain⟨y,d,e⟩:=AT.1 c;exact aL.dj (H.base.dk y d) (H.base.pQ r j).2 (λ_ _ _ hc=>by cases hc) e
  ·obtain⟨y,d,e⟩:=AT.1 c;exact H.nD y (Dr _ d) (by rw[e];exact j)
 have k: ∀y∈M2,y.1∉L.map (·.1)++M1.map (·.1):=λy d c=>by
  rcases Ca.1 c with c|c
  ·obtain⟨x,c,e⟩:=AT.1 c;exact H.Gb c (DB _ d) e
  ·exact f.2.2 _ c _ (AT.2 ⟨y,d,rfl⟩) rfl
 have l: ∀y∈M2,y.1<w.heap.size:=λy d=>(Array.getElem?_eq_some_iff.1 (H.obj y (DB _ d)).1).1;refine⟨H.base.frame K.base.fr g i K.base.dk (λx c=>h _ (K.base.own x c)) K.base.nd,λx c=>?_,λx c=>?_,?_,λx c=>?_⟩
 ·rcases Ca.1 c with c|c
  ·exact K.obj x c
  ·obtain⟨n,o⟩:=H.obj x (DB _ c);exact⟨by rw[K.base.fr.block x.1 (l x c) (k x c)];exact n,o⟩
 ·rcases Ca.1 c with c|c
  ·exact h _ (K.own x c)
  ·exact H.own x (DB _ c)
 ·rw[Db,FQ];refine⟨K.nd,f.2.1,λa p b hb e=>?_⟩;subst e;obtain⟨x,c,rfl⟩:=AT.1 p;obtain⟨y,d,e⟩:=AT.1 hb;rcases K.own x c with q|q
  ·have:=l y d;omega
  ·exact k y d (by rw[e];exact q)
 ·rcases Ca.1 c with c|c
  ·intro m;rcases K.own x c with q|q
   ·have:=(Array.getElem?_eq_some_iff.1 (H.base.pQ _ m).2).1;omega
   ·exact i _ m q
  ·exact H.nD x (DB _ c)
theorem cw.Pw {M1 M2:List (Nat×Obj)} (H:cw D G w0 w L (M1++M2)):cw [] (L.map (·.1)++M1.map (·.1)) w w L M1:=by
 have b:=H.nd;rw[Db,FQ] at b;exact⟨⟨Fr.refl _ w,H.base.dk,λx a=> .inr (Dr _ (AT.2 ⟨x,a,rfl⟩)),H.base.nd,λx a=>(by cases a)⟩,λx a=>H.obj x (Dr _ a),λx a=> .inr (DB _ (AT.2 ⟨x,a,rfl⟩)),b.1,λx a=>List.not_mem_nil⟩
end
end Go.Proofs.YtlcenllcmeebhaaGreat
namespace Go.Proofs.YtlcenllcmeebhaaGreat.Mu
set_option maxRecDepth 100000
open Go.RX
abbrev sCl:List Sc:=[.int .i64,.int .u64,.int .u64,.int .u64]
abbrev sMk:List Sc:=[.int .i64,.int .i64,.int .i64,.int .i64,.int .u64,.int .u64,.int .u64,.int .u64,.int .i64]
noncomputable def U2:dJ AB:={V0 with quiet:=[64,160,199,152,154,201,161,82,24]++V0.quiet}
noncomputable def U3:dJ AB:={U2 with Z7:=some (.bu [.agg iP,.one .bool])}
theorem Si (p:Option AC) (w:A2) (a:Int->A2->Prop):(aK U2 (λ_=>[]) 160 [ag p] w a)=(
 p.isSome=true/\p.isSome=true/\(ad p 4).isSome=true/\cK w (ad (ad p 4) 1) λx=>au w (a (aF .i64 (wS .u64 x 16)))):=by kernel_rfl
theorem Sj (p:Option AC) (w:A2) (e:Int->A2->Prop):(aK U2 (λ_=>[]) 199 [ag p] w e)=(
 ∀w1,Ext w w1-> ∀c,Ext (w1.alloc (Obj.map ⟨[]⟩ 0)) c-> ∃(r:Nat), ∃(es:Array Do), ∃(a:Nat),some w1.heap.size=some r/\bF c r es a/\gR c r .i64 6 (aa 1) es a λb=> ∀d,Ext b d-> ∃(r:Nat), ∃(es:Array Do), ∃(a:Nat),some w1.heap.size=some r/\bF d r es a/\gR d r .i64 7 (aa 2) es a λb=>p.isSome=true/\p.isSome=true/\(ad p 4).isSome=true/\aU b (ad (ad p 4) 0) λx=> ∃(f:Int),jS b (some w1.heap.size) .i64 x (aa 0) (aa f)/\au b (e
 f)):=by kernel_rfl
theorem ZS (p:Option AC) (n:Int) (w:A2) (a:Option AC->A2->Prop):(aK U2 (λ_=>[]) 64 [ag p,aa n] w a)=(
 ((!(p.isNone||decide (n<0)))=true->p.isSome=true)/\((!(p.isNone||decide (n<0)))=true->p.isSome=true)/\aj w (some !(p.isNone||decide (n<0))) (ad p 3) ff λx=>aI (p.isNone||decide (n<0)||decide (n>=(↑x.2.1:Int))) (au w (a none)) (fg p 3 w λx=>(x.1.isSome=true/\0<=n/\n<(↑x.2.1:Int))/\fZ w (ad x.1 (n.toNat*1)) λx=>au w (a x))):=by kernel_rfl
theorem VS (p:Option AC) (n v k a b c:Int) (w:A2) (f:Int->A2->Prop):(aK U2 (λ_=>[]) 29 [ag p,aa n,aa v,.agg ⟨[aa k,ay a,ay b,ay c]⟩] w f)=(
 aN w ⟨[aa k,ay a,ay b,ay c]⟩ 31 λb d=> ∃(x:Option AC),ae AB 64 [ag p,aa n] d (ag x)/\((!p.isNone)=true->p.isSome=true)/\((!p.isNone)=true->p.isSome=true)/\aj d (some !p.isNone) (ad p 0) kW λg=>aI (p.isNone||g.isNone) (au d (f 10)) (aI x.isNone (au d (f 2)) (cM x 2 d λh=>aI (h != 0) (au d (f 9)) (aj d none (af b) s8 λ(e:Int×Int×Int×Int×Unit)=>x.isSome=true/\x.isSome=true/\az d (ad x 2) [aa 1] λd=>cI d (af b) s8
 e/\x.isSome=true/\x.isSome=true/\az d (ad x 3) [aa v] λd=>cI d (af b) s8 e/\x.isSome=true/\x.isSome=true/\az d (ad x 4) [aa e.1,ay e.2.1,ay e.2.2.1,ay e.2.2.2.1] λd=>au d (f 0))))):=by kernel_rfl
theorem Sk (p:Option AC) (f g h k a b c i j:Int) (w:A2) (l:Unit->A2->Prop):(aK U2 (λ_=>[]) 155 [ag p,.agg ⟨[aa f,aa g,aa h,aa k,ay a,ay b,ay c,ay i,aa j]⟩] w l)=(
 aN w ⟨[aa f,aa g,aa h,aa k,ay a,ay b,ay c,ay i,aa j]⟩ 86 λb d=>fg p 5 d λx=>aj d none (af b) Yz λ(e:Int×Int×Int×Int×Int×Int×Int×Int×Int×Unit)=>aN d {toList:=[aa e.1,aa e.2.1,aa e.2.2.1,aa e.2.2.2.1,ay e.2.2.2.2.1,ay e.2.2.2.2.2.1,ay e.2.2.2.2.2.2.1,ay e.2.2.2.2.2.2.2.1,aa e.2.2.2.2.2.2.2.2.1]} 86 λb d=> ∀w1,Ext d w1->mz w1 86 9 72 ⟨[aa 0,aa 0,.int .i64
 0,aa 0,ay 0,ay 0,ay 0,ay 0,aa 0]⟩ (x.1,x.2.1,x.2.2) (some ⟨b,0,none⟩,1,1) λ(r:Option AC×Nat×Nat) d=>p.isSome=true/\p.isSome=true/\az d (ad p 5) [.slice r.1 r.2.1 r.2.2] λd=>au d (l ())):=by kernel_rfl
abbrev pK (b:(Int×Int×Unit)×Bool×Unit->A2->Prop) (c:A2) (a:Nat):Prop:=
 az c (af a) [ay 0,aa 0] λd=>au d λw1=>aj w1 none (af a) cF λ(x:Int×Int×Unit)=>b ((x.1,x.2.1,()),false,()) w1
abbrev wy (a:Int):Prop:=
 0<=a/\a<(↑5:Int)
abbrev wz (n:Int) (e:(Int×Int×Unit)×Bool×Unit->A2->Prop) (g:A2) (f:Nat) (b:(Int×Int×Unit)×Bool×Unit) (c:Nat) (d:Option AC):Prop:=
 az g (af f) [ay b.1.1,aa b.1.2.1] λa=>aI (!b.2.1) (pK e a c) (bG d 1 a λx=>d.isSome=true/\az a d [aa n,ag x,aa 0,aa 0,aa 0,ay 0,ay 0,ay 0,ag none,aa 0,ay 0,aa 0,aa 0,.slice none 0 0] λa=>aj a none (af f) cF λ(x:Int×Int×Unit)=>az a (af c) [ay x.1,aa x.2.1] λa=>au a λw1=>aj w1 none (af c) cF λ(x:Int×Int×Unit)=>e ((x.1,x.2.1,()),true,()) w1)
abbrev wC (n:Int) (c:(Int×Int×Unit)×Bool×Unit->A2->Prop) (a:B4×B4×B4×B4×B4×Unit) (d:Int) (b:Option AC) (e:A2) (f:Nat) (g:Nat):Prop:=
 zZ AB (match [a.1,a.2.1,a.2.2.1,a.2.2.2.1,a.2.2.2.2.1].get?Internal d.toNat with|some x=>x|none=> .tuple ⟨[]⟩) (.bu [.agg [.int .u64,.int .i64],.one .bool]) [ag b] e λ(x:(Int×Int×Unit)×Bool×Unit) h=>wz n c h f x g b
abbrev wD (p:Option AC) (n:Int) (e:(Int×Int×Unit)×Bool×Unit->A2->Prop) (d:Option AC) (f:A2) (g:Nat):Prop:=
 cM d 2 f λx=>(aA AB 68 (.el (.agg [.func,.func,.func,.func,.func])) [ag p] f λc a=>cI a (ad d 2) aT x/\True/\True/\wy x/\(zZ AB (match [c.1,c.2.1,c.2.2.1,c.2.2.2.1,c.2.2.2.2.1].get?Internal x.toNat with|some x=>x|none=> .tuple ⟨[]⟩) (.bu [.agg [.int .u64,.int .i64],.one .bool]) [ag d] a λ(x:(Int×Int×Unit)×Bool×Unit) a=>aN a ⟨[ay 0,aa 0]⟩ 61 λb a=>wz n e a b
 x g d)/\aN a ⟨[ay 0,aa 0]⟩ 61 λb a=>wC n e c x d a b g)/\aN f ⟨[ay 0,aa 0]⟩ 61 λb a=>aA AB 68 (.el (.agg [.func,.func,.func,.func,.func])) [ag p] a λc a=>cI a (ad d 2) aT x/\True/\True/\wy x/\wC n e c x d a b g
theorem Sm (p:Option AC) (n:Int) (w:A2) (c:(Int×Int×Unit)×Bool×Unit->A2->Prop):(bQ U3 (λ_=>[]) 31 [ag p,aa n] w c)=(
 aN w ⟨[ay 0,aa 0]⟩ 61 λb a=> ∃(x:Option AC),ae AB 64 [ag p,aa n] a (ag x)/\aI x.isNone (pK c a b) (cM x 2 a λf=>aI (f != 3) (bG p 2 a λg=>aA AB 66 (.bu [.agg [.int .i64,.int .i64,.int .i64],.one .bool]) [ag g,aa n] a λ(d:(Int×Int×Int×Unit)×Bool×Unit) a=>aN a ⟨[aa 0,aa 0,aa 0]⟩ 147 λe a=>az a (af e) [aa d.1.1,aa d.1.2.1,aa d.1.2.2.1] λa=>aI d.2.1 (true=true/\aU a (ad
 (af e) 1) λh=>true=true/\aU a (ad (af e) 2) λi=>aA AB 67 (.bu []) [ag x,aa h,aa i] a λx a=>pK c a b) (wD p n c x a b)) (wD p n c x a b))):=by kernel_rfl
theorem HO (p:Option AC) (w:A2) (c:B4×B4×B4×B4×B4×Unit->A2->Prop):(bQ U2 (λ_=>[]) 68 [ag p] w c)=(
 aN w ⟨[Dn,Dn,Dn,Dn,Dn]⟩ 154 λb a=>az a (af b) [.func (.func 109) ⟨[ag p]⟩ ⟨[]⟩,.func (.func 110) ⟨[ag p]⟩ ⟨[]⟩,.func (.func 111) ⟨[ag p]⟩ ⟨[]⟩,.func (.func 112) ⟨[ag p]⟩ ⟨[]⟩,.func (.func 113) ⟨[ag p]⟩ ⟨[]⟩] λa=>au a λw1=>aj w1 none (af b) (.agg [.func,.func,.func,.func,.func]) λx=>c (x.1,x.2.1,x.2.2.1,x.2.2.2.1,x.2.2.2.2.1,()) w1):=by kernel_rfl
theorem HP (p:Option AC) (t g:Int) (w:A2) (a:Unit->A2->Prop):(aK U2 (λ_=>[]) 67 [ag p,aa t,aa g] w a)=(
 aI (g== -1) (bG p 1 w λx=>aA AB 107 (.el aT) [ag x,aa t] w λ(x:Int) b=>au b (a ())) (bG p 1 w λx=>aA AB 108 (.el rE) [ag x,aa t,aa g] w λx b=>au b (a ()))):=by kernel_rfl
def uy:Nat->aZ:=(λ|4=>[(18,Go.RX.El.one (Go.RX.Sc.int DQ))]| _=>[])
theorem Sn (p:Option AC) (w:A2) (b:Int->A2->Prop):(aK U2 uy 151 [ag p] w b)=(
 bG p 1 w λx=>aA AB 197 (.el rE) [ag x] w λx a=>bG p 1 a λx=>aA AB 198 (.el ff) [ag x] a λx a=> ∃(I:Nat->Int×Unit->A2->Prop),(∃n, ∀w1,Ext a w1->I n (0,()) w1)/\ ∀(n:Nat) (s:Int×Unit) (w1:A2),I n s w1->aI (decide (s.1<(↑x.2.1:Int))) ((x.1.isSome=true/\0<=s.1/\s.1<(↑x.2.1:Int))/\aU w1 (ad x.1 (Int.toNat s.1*1)) λx=>bG p 0 w1 λf=>aA AB 43 (.el aT) [ag f,aa x] w1 λ(h:Int) a=>s7 p 4 a λg=> ∀w1,Ext a w1-> ∃(r:Nat), ∃
 (es:Array Do), ∃(c:Nat),g=some r/\bF w1 r es c/\Aj w1 r .i64 x es c λa=>aA AB 155 (.bu []) [ag p,.agg {toList:=[aa 2,aa 0,aa x,aa 0,ay 0,ay 0,ay 0,ay 0,aa 0]}] a λx a=> ∀d,Ext a d-> ∃(e:Nat),e<n/\I e (aJ .i64 s.1 1,()) d) (au w1 (b (↑x.2.1:Int)))):=by kernel_rfl
theorem So (p x:Option AC) (w:A2) (c:(Int×Int×Unit)×Bool×Unit->A2->Prop):(bQ U2 (λ_=>[]) 109 [ag p,ag x] w c)=(
 aN w ⟨[ay 0,aa 0]⟩ 61 λb a=>aA AB 151 (.el aT) [ag p] a λ(x:Int) a=>az a (af b) [ay 0,aa 0] λa=>au a λw1=>aj w1 none (af b) cF λ(x:Int×Int×Unit)=>c ((x.1,x.2.1,()),false,()) w1):=by kernel_rfl
theorem ME (p x:Option AC) (w:A2) (e:(Int×Int×Unit)×Bool×Unit->A2->Prop):(bQ U2 (λ_=>[]) 112 [ag p,ag x] w e)=(
 aN w ⟨[ay 0,aa 0]⟩ 61 λb a=>cM x 9 a λc=>x.isSome=true/\x.isSome=true/\(ad x 4).isSome=true/\cK a (ad (ad x 4) 1) λd=>bG p 1 a λh=>cM x 0 a λi=>aA AB 158 (.el aT) [ag h,aa i] a λ(l:Int) a=>x.isSome=true/\x.isSome=true/\(ad x 4).isSome=true/\aU a (ad (ad x 4) 0) λj=>aI (j==7) (bG p 0 a λf=>x.isSome=true/\x.isSome=true/\(ad x 4).isSome=true/\cK a (ad (ad x 4) 2) λg=>aA AB 23 (.el kW) [ag f] a λ
 k a=>cI a (ad (ad x 4) 2) rD g/\True/\True/\True/\aA AB 38 (.el aT) [ag k,aa (aJ .i64 (iy .i64 16 c) (aF .i64 (eZ d 16))),ay g] a λ(m:Int) a=>x.isSome=true/\x.isSome=true/\(ad x 4).isSome=true/\cK a (ad (ad x 4) 2) λx=>aA AB 155 (.bu []) [ag p,.agg {toList:=[aa 4,aa 0,aa (aJ .i64 (iy .i64 16 c) (aF .i64 (eZ d 16))),aa 0,ay 0,ay 0,ay 0,ay x,aa 0]}] a λx a=>az a (af b) [.int .u64
 0,aa 0] λa=>au a λw1=>aj w1 none (af b) cF λ(x:Int×Int×Unit)=>e ((x.1,x.2.1,()),true,()) w1) (bG p 0 a λx=>aA AB 23 (.el kW) [ag x] a λx a=>aA AB 37 (.bu [.one (.int .u64),.one (.int .i64)]) [ag x,aa (aJ .i64 (iy .i64 16 c) (aF .i64 (eZ d 16)))] a λ(x:Int×Int×Unit) a=>aA AB 155 (.bu []) [ag p,.agg {toList:=[aa 3,aa 0,aa (aJ .i64 (iy .i64 16 c) (aF .i64 (eZ d 16))),aa 0,ay 0,ay 0,
 ay 0,ay x.1,aa 0]}] a λf a=>az a (af b) [ay x.1,aa 0] λa=>au a λw1=>aj w1 none (af b) cF λ(x:Int×Int×Unit)=>e ((x.1,x.2.1,()),true,()) w1)):=by kernel_rfl
theorem Sp (p x:Option AC) (w:A2) (e:(Int×Int×Unit)×Bool×Unit->A2->Prop):(bQ U2 (λ_=>[]) 111 [ag p,ag x] w e)=(
 aN w ⟨[ay 0,aa 0]⟩ 61 λb a=>bG x 8 a λg=>bG p 0 a λj=>aA AB 23 (.el kW) [ag j] a λk a=>cI a (ad x 8) kW g/\True/\True/\aA AB 22 (.el rE) [ag g,ag k] a λl a=>aI (!l) (az a (af b) [ay 0,aa 0] λa=>au a λw1=>aj w1 none (af b) cF λ(x:Int×Int×Unit)=>e ((x.1,x.2.1,()),false,()) w1) (bG x 8 a λm=> ∃(c:(Int×Int×Int×Int×Unit)×Bool×Unit),ae AB 24 [ag m] a (.tuple {toList
 :=[.agg ⟨[aa c.1.1,aa c.1.2.1,aa c.1.2.2.1,aa c.1.2.2.2.1]⟩,.bool c.2.1]})/\aN a ⟨[aa 0,aa 0,aa 0,aa 0]⟩ 48 λd a=>az a (af d) [aa c.1.1,aa c.1.2.1,aa c.1.2.2.1,aa c.1.2.2.2.1] λa=>true=true/\aU a (ad (af d) 3) λn=>aI (n != 0) (bG p 1 a λf=>cM x 0 a λx=>aA AB 158 (.el aT) [ag f,aa x] a λ(x:Int) a=>true=true/\aU a (ad (af d) 3) λx=>az a (af b) [ay 0,aa x]
 λa=>au a λw1=>aj w1 none (af b) cF λ(x:Int×Int×Unit)=>e ((x.1,x.2.1,()),true,()) w1) (bG x 1 a λf=>cM x 3 a λo=> ∃(h:Int),ae AB 160 [ag x] a (aa h)/\true=true/\aU a (ad (af d) 0) λq=>true=true/\aU a (ad (af d) 1) λr=>aA AB 159 (.el aT) [ag f,.agg ⟨[aa o,aa h,aa q,aa r]⟩] a λ(s:Int) a=>true=true/\aU a (ad (af d) 0) λi=>x.isSome=true/\x.isSome=true/\az a
 (ad x 2) [aa 3] λa=>cI a (ad (af d) 0) aT i/\True/\x.isSome=true/\x.isSome=true/\az a (ad x 9) [aa i] λa=>az a (af b) [ay 0,aa 0] λa=>au a λw1=>aj w1 none (af b) cF λ(x:Int×Int×Unit)=>e ((x.1,x.2.1,()),false,()) w1))):=by kernel_rfl
def uz:Nat->aZ:=(λ|4=>[(24,Go.RX.El.one (Go.RX.Sc.int DQ))]| _=>[])
theorem Sq (p x:Option AC) (w:A2) (d:(Int×Int×Unit)×Bool×Unit->A2->Prop):(bQ U2 uz 113 [ag p,ag x] w d)=(
 aN w ⟨[ay 0,aa 0]⟩ 61 λb a=>bG p 2 a λh=>cM x 12 a λi=> ∃e,ae AB 161 [ag h,aa i] a (.bool e)/\aI (!e) (az a (af b) [ay 0,aa 0] λa=>au a λw1=>aj w1 none (af b) cF λ(x:Int×Int×Unit)=>d ((x.1,x.2.1,()),false,()) w1) (fg x 13 a λc=> ∃(I:Nat->Int×Unit->A2->Prop),(∃n, ∀w1,Ext a w1->I n (0,()) w1)/\ ∀(n:Nat) (s:Int×Unit) (w1:A2),I n s w1->aI (decide (s.1<(↑c.2.1:Int))) ((c.1.isSome=true/\0<=s.1
 /\s.1<(↑c.2.1:Int))/\aU w1 (ad c.1 (Int.toNat s.1*1)) λx=>bG p 1 w1 λj=>aA AB 162 (.el aT) [ag j,aa x] w1 λ(x:Int) a=> ∀f,Ext a f-> ∃(g:Nat),g<n/\I g (aJ .i64 s.1 1,()) f) (x.isSome=true/\x.isSome=true/\aj w1 none (ad x 10) cF λ(x:Int×Int×Unit)=>az w1 (af b) [ay x.1,aa x.2.1] λa=>au a λw1=>aj w1 none (af b) cF λ(x:Int×Int×Unit)=>d ((x.1,x.2.1,()),true,()) w1))):=by kernel_rfl
theorem HQ (p x:Option AC) (w:A2) (e:Bool->A2->Prop):(aK U2 (λ_=>[]) 152 [ag p,ag x] w e)=(
 ∃(a:Int),ae AB 199 [ag x] w (aa a)/\(decide (a>0)=true->p.isSome=true)/\(decide (a>0)=true->p.isSome=true)/\aj w (some (decide (a>0))) (ad p 0) kW λf=>(decide (a>0)=true->x.isSome=true)/\(decide (a>0)=true->x.isSome=true)/\aj w (some (decide (a>0))) (ad x 3) aT λ(g:Int)=> ∃b,(decide (a>0)=true->ae AB 19 [ag f,aa g] w (.bool b))/\((decide (a>0)&&b)=true->x.isSome=true)/\((decide (a>0)&&b)=true->x.isSome=true)/\aj w
 (some (decide (a>0)&&b)) (ad x 4) s8 λ(d:Int×Int×Int×Int×Unit)=> ∃c,((decide (a>0)&&b)=true->ae AB 76 [.agg ⟨[aa d.1,ay d.2.1,ay d.2.2.1,ay d.2.2.2.1]⟩] w (.bool c))/\((decide (a>0)&&b&&c)=true->x.isSome=true)/\((decide (a>0)&&b&&c)=true->x.isSome=true)/\((decide (a>0)&&b&&c)=true->(ad x 4).isSome=true)/\aj w (some (decide (a>0)&&b&&c)) (ad (ad x 4) 1) rD λ(x:Int)=>au w (e (decide (a>0)&&b&&c&&decide
 (x<1048576)))):=by kernel_rfl
def oo:Nat->aZ:=(λ|2=>[(12,Go.RX.El.one (Go.RX.Sc.int DQ))]| _=>[])
theorem Fa (p x:Option AC) (w:A2) (i:Bool->A2->Prop):(aK U2 oo 154 [ag p,ag x] w i)=(
 fg p 3 w λj=> ∃(I:Nat->Int×Unit->A2->Prop),(∃n, ∀w1,Ext w w1->I n (0,()) w1)/\ ∀(n:Nat) (s:Int×Unit) (w1:A2),I n s w1->aI (decide (s.1<(↑j.2.1:Int))) ((j.1.isSome=true/\0<=s.1/\s.1<(↑j.2.1:Int))/\fZ w1 (ad j.1 (Int.toNat s.1*1)) λa=>Xr w1 a x/\((!decide (a=x))=true->x.isSome=true)/\((!decide (a=x))=true->x.isSome=true)/\aj w1 (some !decide (a=x)) (ad x 3) aT λ(k:Int)=>aI (decide (a=x)||k != 0) (∀f,Ext w1 f-> ∃(g:Nat),g<n/\I g (aJ .i64 s.1 1,
 ()) f) (x.isSome=true/\x.isSome=true/\(ad x 4).isSome=true/\aU w1 (ad (ad x 4) 0) λd=>((d==1)=true->a.isSome=true)/\((d==1)=true->a.isSome=true)/\aj w1 (some (d==1)) (ad a 2) aT λ(h:Int)=>((d==1&&h==4)=true->a.isSome=true)/\((d==1&&h==4)=true->a.isSome=true)/\((d==1&&h==4)=true->(ad a 4).isSome=true)/\aj w1 (some (d==1&&h==4)) (ad (ad a 4) 0) aT λ(l:Int)=>aI (d==1&&h==4&&l==2) (au w1 (i true)) (x.isSome=true/\
 x.isSome=true/\(ad x 4).isSome=true/\aU w1 (ad (ad x 4) 0) λb=>((b==2)=true->a.isSome=true)/\((b==2)=true->a.isSome=true)/\aj w1 (some (b==2)) (ad a 2) aT λ(c:Int)=>((b==2&&decide (c>=2))=true->a.isSome=true)/\((b==2&&decide (c>=2))=true->a.isSome=true)/\aj w1 (some (b==2&&decide (c>=2))) (ad a 3) aT λ(e:Int)=>((b==2&&decide (c>=2)&&decide (e>0))=true->a.isSome=true)/\((b==2&&decide (c>=2)&&decide (e>0))=true->a.isSome=true)/\
 aj w1 (some (b==2&&decide (c>=2)&&decide (e>0))) (ad a 3) aT λ(m:Int)=>((b==2&&decide (c>=2)&&decide (e>0))=true->x.isSome=true)/\((b==2&&decide (c>=2)&&decide (e>0))=true->x.isSome=true)/\((b==2&&decide (c>=2)&&decide (e>0))=true->(ad x 4).isSome=true)/\aj w1 (some (b==2&&decide (c>=2)&&decide (e>0))) (ad (ad x 4) 1) rD λ(x:Int)=>aI (b==2&&decide (c>=2)&&decide (e>0)&&aF .u64 m==x) (au w1 (i true)) (∀f,Ext w1 f-> ∃(g:Nat),g<n/\
 I g (aJ .i64 s.1 1,()) f)))) (au w1 (i false))):=by kernel_rfl
def oq:Nat->aZ:=(λ|4=>[(4,Go.RX.El.one Go.RX.Sc.slice),(15,Go.RX.El.one (Go.RX.Sc.int DQ))]| _=>[])
theorem Fb (p:Option AC) (w:A2) (f:Option AC×Nat×Nat->A2->Prop):(aK U2 oq 156 [ag p] w f)=(
 bG p 0 w λx=>aA AB 18 (.el kW) [ag x] w λx a=> ∃(g:Int),ae AB 62 [ag x] a (aa g)/\ ∃(I:Nat->(Option AC×Nat×Nat)×Int×Unit->A2->Prop),(∃n, ∀w1,Ext a w1->I n ((none,0,0),0,()) w1)/\ ∀(n:Nat) (s:(Option AC×Nat×Nat)×Int×Unit) (w1:A2),I n s w1->aI (decide (s.2.1<g)) (∃(c:(Int×Int×Int×Int×Unit)×Bool×Unit),ae AB 25 [ag x,aa s.2.1] w1 (.tuple {toList:=[.agg ⟨[aa c.1.1,aa c.1.2.1,aa c.1.2.2.1,.int .i64
 c.1.2.2.2.1]⟩,.bool c.2.1]})/\aN w1 ⟨[aa 0,aa 0,aa 0,aa 0]⟩ 52 λb a=>az a (af b) [aa c.1.1,aa c.1.2.1,aa c.1.2.2.1,aa c.1.2.2.2.1] λa=>true=true/\aU a (ad (af b) 0) λx=>((x==5)=true->p.isSome=true)/\((x==5)=true->p.isSome=true)/\aj a (some (x==5)) (ad p 4) N_ λj=> ∃h,((x==5)=true->jS a j .i64 s.2.1 (.bool false) (.bool h))/\aI (x==5&& !h) (s7 p 4 a λx=> ∀w1,Ext a w1-> ∃(r:Nat), ∃(es:Array Do), ∃(i:Nat),x
 =some r/\bF w1 r es i/\gR w1 r .i64 s.2.1 (.bool true) es i λa=>aN a ⟨[aa s.2.1]⟩ 3 λb a=> ∀w1,Ext a w1->mz w1 3 1 8 ⟨[aa 0]⟩ (s.1.1,s.1.2.1,s.1.2.2) (some ⟨b,0,none⟩,1,1) λ(r:Option AC×Nat×Nat) a=> ∀d,Ext a d-> ∃(e:Nat),e<n/\I e ((r.1,r.2.1,r.2.2),aJ .i64 s.2.1 1,()) d) (∀d,Ext a d-> ∃(e:Nat),e<n/\I e ((s.1.1,s.1.2.1,s.1.2.2),aJ .i64 s.2.1 1,()) d)) (au w1 (f (s.1.1,s.1.2.1,s.1.2.2)))):=by kernel_rfl
abbrev uA (b:(Int×Int×Unit)×Bool×Unit->A2->Prop) (c:A2) (a:Nat):Prop:=
 az c (af a) [ay 0,aa 0] λd=>au d λw1=>aj w1 none (af a) cF λ(x:Int×Int×Unit)=>b ((x.1,x.2.1,()),false,()) w1
abbrev nX (a:(Int×Int×Unit)×Bool×Unit->A2->Prop) (b:A2) (c:Nat):Prop:=
 au b λw1=>aj w1 none (af c) cF λ(x:Int×Int×Unit)=>a ((x.1,x.2.1,()),true,()) w1
abbrev uB (x:Option AC) (a:Int):Prop:=
 (a==0)=true->x.isSome=true
abbrev jk (x:Option AC) (c:(Int×Int×Unit)×Bool×Unit->A2->Prop) (a:A2) (b:Nat):Prop:=
 x.isSome=true/\x.isSome=true/\aj a none (ad x 10) cF λ(x:Int×Int×Unit)=>az a (af b) [ay x.1,aa x.2.1] λd=>nX c d b
abbrev uC (x:Option AC) (b:(Int×Int×Unit)×Bool×Unit->A2->Prop) (c:A2) (d:Int×Int×Unit) (e:Nat):Prop:=
 x.isSome=true/\x.isSome=true/\az c (ad x 12) [aa d.1] λa=>x.isSome=true/\x.isSome=true/\az a (ad x 2) [aa 4] λa=>uA b a e
abbrev nY (p:Option AC) (x:Option AC) (c:(Int×Int×Unit)×Bool×Unit->A2->Prop) (b:A2) (d:Nat) (e:Int) (f:Int):Prop:=
 x.isSome=true/\x.isSome=true/\(ad x 10).isSome=true/\aU b (ad (ad x 10) 1) λg=>aI (g != 0) (jk x c b d) (aA AB 67 (.bu []) [ag x,aa e,aa (aF .i64 f)] b λk a=>bG p 2 a λh=>cM x 0 a λi=>aA AB 157 (.bu [.one (.int .i64),.one (.int .i64)]) [ag h,aa i,aa e,aa (aF .i64 f)] a λ(j:Int×Int×Unit) a=>uC x c a j d)
theorem MF (p x:Option AC) (w:A2) (c:(Int×Int×Unit)×Bool×Unit->A2->Prop):(bQ U2 (λ_=>[]) 110 [ag p,ag x] w c)=(
 aN w ⟨[ay 0,aa 0]⟩ 61 λb a=> ∃l,ae AB 152 [ag p,ag x] a (.bool l)/\aI l (aA AB 153 (.bu []) [ag p,ag x] a λx a=>uA c a b) (∃m,ae AB 154 [ag p,ag x] a (.bool m)/\aI m (az a (af b) [ay 0,aa 9] λa=>nX c a b) (cM x 3 a λe=>uB x e/\uB x e/\aj a (some (e==0)) (ad x 4) s8 λ(f:Int×Int×Int×Int×Unit)=>aI (e==0&&(f.1==17&&(f.2.1==0&&(f.2.2.1==0&&
 (f.2.2.2.1==0&&true))))) (aA AB 151 (.el aT) [ag p] a λ(x:Int) a=>az a (af b) [ay (aF .u64 x),aa 0] λa=>nX c a b) (bG p 0 a λr=>cM x 3 a λs=>x.isSome=true/\x.isSome=true/\aj a none (ad x 4) s8 λ(g:Int×Int×Int×Int×Unit)=>aA AB 42 (.el cF) [ag r,aa s,.agg ⟨[aa g.1,ay g.2.1,ay g.2.2.1,ay g.2.2.2.1]⟩] a λ(n:Int×Int×Unit) a=>x.isSome=true/\x.isSome=true/\az a (ad x 10) [ay n.1,
 aa n.2.1] λa=>cM x 3 a λt=>x.isSome=true/\x.isSome=true/\aj a none (ad x 4) s8 λ(h:Int×Int×Int×Int×Unit)=>x.isSome=true/\x.isSome=true/\aj a none (ad x 10) cF λ(o:Int×Int×Unit)=>aA AB 155 (.bu []) [ag p,.agg {toList:=[aa 1,aa t,aa 0,aa h.1,ay h.2.1,ay h.2.2.1,ay h.2.2.2.1,ay o.1,aa o.2.1]}] a λA a=>aA AB 156 (.el ff) [ag p] a λi a=>x.isSome=true/\x.isSome=true/\
 az a (ad x 13) [.slice i.1 i.2.1 i.2.2] λa=>cM x 3 a λj=>x.isSome=true/\x.isSome=true/\(ad x 4).isSome=true/\cK a (ad (ad x 4) 1) λk=>x.isSome=true/\x.isSome=true/\(ad x 4).isSome=true/\aU a (ad (ad x 4) 0) λd=>aI (d==2) (x.isSome=true/\x.isSome=true/\(ad x 4).isSome=true/\cK a (ad (ad x 4) 1) λq=>x.isSome=true/\x.isSome=true/\(ad x 10).isSome=true/\aU a (ad (ad x 10) 1) λu=>aI (u != 0) (jk x c a b) (aA AB 67 (.bu []) [.pointer
 x,aa (aF .i64 q),aa (-1)] a λB a=>bG p 2 a λv=>cM x 0 a λy=>aA AB 157 (.bu [.one (.int .i64),.one (.int .i64)]) [ag v,aa y,aa (aF .i64 q),aa (-1)] a λ(z:Int×Int×Unit) a=>uC x c a z b)) (aI (d==4) (aI (d==4) (nY p x c a b j k) (jk x c a b)) (aI (d==5) (aI (d==5) (nY p x c a b j k) (jk x c a b)) (aI (d==10) (nY p x c a b j k) (jk x c a
 b)))))))):=by kernel_rfl
theorem Sr (p x:Option AC) (w:A2) (c:Unit->A2->Prop):(aK U2 (λ_=>[]) 153 [ag p,ag x] w c)=(
 bG p 1 w λi=>cM x 0 w λj=>aA AB 200 (.el aT) [ag i,aa j] w λ(q:Int) a=>bG x 1 a λk=>cM x 3 a λl=> ∃(d:Int),ae AB 160 [ag x] a (aa d)/\ ∃(e:Int),ae AB 199 [ag x] a (aa e)/\ ∃(b:Int×Int×Unit),ae AB 201 [ag k,aa l,aa d,aa e] a (.tuple ⟨[aa b.1,aa b.2.1]⟩)/\aI (b.2.1==0) (x.isSome=true/\x.isSome=true/\az a (ad x 2) [aa 3] λa=>x.isSome=true/\
 x.isSome=true/\az a (ad x 9) [aa b.1] λa=>au a (c ())) (bG p 0 a λm=>cM x 3 a λn=> ∃(f:Int),ae AB 21 [ag m,aa n] a (aa f)/\ ∃(g:Int),ae AB 160 [ag x] a (aa g)/\ ∃(h:Int),ae AB 199 [ag x] a (aa h)/\aA AB 20 (.el kW) [aa f,aa g,aa h] a λo a=>x.isSome=true/\x.isSome=true/\az a (ad x 2) [aa 2] λa=>x.isSome=true/\x.isSome=true/\az a (ad x 8)
 [ag o] λa=>au a (c ()))):=by kernel_rfl
theorem MH (p:Option AC) (n:Int) (w:A2) (a:Int->A2->Prop):(aK U2 (λ_=>[]) 49 [ag p,aa n] w a)=(
 ∃(x:Option AC),ae AB 64 [ag p,aa n] w (ag x)/\aI x.isNone (au w (a 0)) (cM x 2 w λx=>au w (a x))):=by kernel_rfl
theorem MJ (p:Option AC) (w:A2) (a:Option AC×Nat×Nat->A2->Prop):(aK U2 (λ_=>[]) 41 [ag p] w a)=(
 aI p.isNone (au w (a (none,0,0))) (fg p 5 w λx=> ∀w1,Ext w w1->mz w1 86 9 72 ⟨[aa 0,aa 0,aa 0,aa 0,ay 0,ay 0,ay 0,ay 0,aa 0]⟩ (none,0,0) (x.1,x.2.1,x.2.2) λ(r:Option AC×Nat×Nat) b=>au b (a (r.1,r.2.1,r.2.2)))):=by kernel_rfl
theorem MK (p:Option AC) (n:Int) (w:A2) (a:Option AC×Nat×Nat->A2->Prop):(aK U2 (λ_=>[]) 51 [ag p,aa n] w a)=(
 ∃(x:Option AC),ae AB 64 [ag p,aa n] w (ag x)/\aI x.isNone (au w (a (none,0,0))) (bG x 1 w λx=>aA AB 83 (.el ff) [ag x] w λx b=>au b (a (x.1,x.2.1,x.2.2)))):=by kernel_rfl
theorem Ss (p:Option AC) (n:Int) (w:A2) (a:Int->A2->Prop):(aK U2 (λ_=>[]) 50 [ag p,aa n] w a)=(
 ∃(x:Option AC),ae AB 64 [ag p,aa n] w (ag x)/\aI x.isNone (au w (a 0)) (bG p 2 w λx=> ∃(b:Int),ae AB 82 [ag x,aa n] w (aa b)/\au w (a b))):=by kernel_rfl
theorem ML (p:Option AC) (w:A2) (a:Option AC->A2->Prop):(aK U2 (λ_=>[]) 17 [ag p] w a)=(
 aI p.isNone (au w (a none)) (bG p 0 w λx=>au w (a x))):=by kernel_rfl
theorem Fc (p:Option AC) (w:A2) (a:Option AC×Nat×Nat->A2->Prop):(aK U2 (λ_=>[]) 32 [ag p] w a)=(
 aI p.isNone (au w (a (none,0,0))) (bG p 1 w λx=>aA AB 69 (.el ff) [ag x] w λx b=>au b (a (x.1,x.2.1,x.2.2)))):=by kernel_rfl
def wE:Nat->aZ:=(λ|10=>[(45,Go.RX.El.one (Go.RX.Sc.int DQ))]| _=>[])
theorem VT (f c l:Int) (w:A2) (d:Option AC×Int×Unit->A2->Prop):(aK U2 wE 52 [aa f,aa c,aa l] w d)=(
 aA AB 40 (.bu [.one .ptr,.one (.int .i64)]) [aa f] w λ(x:Option AC×Int×Unit) a=>aI (x.2.1 != 0) (au a (d (none,x.2.1,()))) (aA AB 84 (.bu [.one .ptr,.one (.int .i64)]) [aa c] a λ(e:Option AC×Int×Unit) a=>aI (e.2.1 != 0) (au a (d (none,e.2.1,()))) (∀w1,Ext a w1->aN (w1.alloc (Obj.map ⟨[]⟩ 0)) ⟨[ag x.1,ag e.1,ag none,.slice none 0 0,.map (some w1.heap.size),.slice none 0 0]⟩ 103 λb a=>aA AB 85 (.bu [.one .ptr,.one (.int .i64)]) [aa c] a λ(x:
 Option AC×Int×Unit) a=>true=true/\true=true/\az a (ad (af b) 2) [ag x.1] λa=> ∃(I:Nat->Int×Unit->A2->Prop),(∃n, ∀w1,Ext a w1->I n (0,()) w1)/\ ∀(n:Nat) (s:Int×Unit) (w1:A2),I n s w1->aI (decide (s.1<c)) (aA AB 86 (.bu [.one .ptr,.one (.int .i64)]) [aa l] w1 λ(x:Option AC×Int×Unit) a=>aI (x.2.1 != 0) (au a (d (none,x.2.1,()))) (true=true/\true=true/\sZ a (ad (af b) 3) λg=>aN a {toList:=[aa s.1,ag x.1,aa 0,aa 0,aa 0,
 ay 0,ay 0,ay 0,ag none,aa 0,ay 0,aa 0,aa 0,.slice none 0 0]} 143 λj a=>aN a {toList:=[ag (af j)]} 139 λk a=> ∀w1,Ext a w1->mz w1 139 1 8 ⟨[ag none]⟩ (g.1,g.2.1,g.2.2) (some ⟨k,0,none⟩,1,1) λ(r:Option AC×Nat×Nat) a=>true=true/\true=true/\az a (ad (af b) 3) [.slice r.1 r.2.1 r.2.2] λa=> ∀h,Ext a h-> ∃(i:Nat),i<n/\I i (aJ .i64 s.1 1,()) h)) (au w1 (d (some ⟨b,0,none⟩,0,())))))):=by kernel_rfl
end Go.Proofs.YtlcenllcmeebhaaGreat.Mu
namespace Go.Proofs.YtlcenllcmeebhaaGreat
set_option maxRecDepth 100000
open Go.RX D
namespace Inv
variable {g:Gh} {s s':WD}
structure fx (g:Gh) (s s':WD):Prop where
 len:s'.1.length=s.1.length/\s'.2.length=s.2.length
 ws: ∀{f o x k:Int} {l:Nat},g f=some (o,l,x)->0<=k->k<16->dC s'.1 (16*f+k)=dC s.1 (16*f+k)
 tb: ∀{n:Nat} {d:DT},s.2[n]? =some d->d.1=3->s'.2[n]? =some d
 bt: ∀{n:Nat} {d:DT},s'.2[n]? =some d->d.1=3->s.2[n]? =some d
 fz: ∀d∈s'.2,d.1=0->d=zD
theorem fx.X5 (B:fx g s s') {f o x k:Int} {l:Nat} (h:g f=some (o,l,x)) (h0:0<=k) (h1:k<16):aH s'.1 (16*f+k)=aH s.1 (16*f+k):=by
 unfold aH;rw[B.ws h h0 h1]
theorem beside (I:Inv g s) (B:fx g s s'):Inv g s' where
 len:=by rw[B.len.1,B.len.2];exact I.len
 le:=by rw[B.len.2];exact I.le
 fz:=B.fz
 kd:=λ{f o l x} h=>by
  obtain⟨a,b,c,d⟩:=I.kd h;rw[B.len.2];exact⟨a,b,B.tb c rfl,d⟩
 inj:=I.inj
 sr:=λ{f o l x i} h h0 h1 e=>by
  rw[B.X5 h h0 h1] at e ⊢;exact I.sr h h0 h1 e
 leaf:=λ{f o l x i} h h0 h1=>by
  rw[B.X5 h h0 h1];exact I.leaf h h0 h1
 Fl:=λ{f o l x} h m=>by
  obtain⟨f',h1,p⟩:=I.Fl h m;refine⟨f',h1,?_⟩;rw[B.X5 h1 (by omega) (by omega)];exact p
 wf:=λ{f o l x i} h h0 h1 j=>by
  rw[B.X5 h h0 h1] at j;rw[B.ws h h0 h1];exact I.wf h h0 h1 j
 tb:=λ{n d} h k=>I.tb (B.bt h k) k
theorem HR (B:fx g s s') {o p f:Int} {j:Nat} (h:dH g s o p f j):dH g s' o p f j:=
 ⟨h.1,by rw[B.X5 h.1 (dZ p j).1 (dZ p j).2];exact h.2⟩
theorem xL {r p:Int} (a: ¬ (0<=p/\p<65536)):bz s r false p=(0,0,2,()):=by
 unfold bz;rw[ao (by decide),av (by omega)]
theorem dU (I:Inv g s) (B:fx g s s') {o r:Int} (b:g r=some (o,3,0)) (p:Int):bz s' r false p=bz s r false p:=by
 by_cases a:0<=p/\p<65536
 ·obtain⟨f,j, _,c⟩:=I.mv b a;rw[I.fP b a c,(I.beside B).fP b a (HR B c),B.X5 c.1 (dZ p j).1 (dZ p j).2]
 ·rw[xL a,xL a]
theorem m7 (B:fx g s s') (h:Ag g s):Ag g s':=λf o l x i a h0 h1 b c=>by
 rw[B.X5 a h0 h1] at b c;exact h a h0 h1 b c
theorem ZT (s:WD) (r:Int) {p:Int} (a:0<=p/\p<65536):(bz s r false p).2.2.1=0\/bz s r false p=(0,0,4,()):=by
 unfold bz;rw[ao (by decide),ao (by omega)];split
 ·exact .inl rfl
 ·exact .inr rfl
theorem ace (I:Inv g s) (nl:Ag g s) {o r p:Int} (b:g r=some (o,3,0)) (c:0<=p/\p<65536) (h:(bz s r false p).2.2.1=0): ∃f,dH g s o p f 0/\(aH s.1 (16*f+px 0 p % 16)).1=true/\(dE s.1 r p).2.1=0:=by
 obtain⟨f,j, _,a⟩:=I.mv b c;rw[I.fP b c a] at h;have d:=CF h;have e:=nl a.1 (dZ p j).1 (dZ p j).2 d a.2;subst e;refine⟨f,a,d,?_⟩;rw[(I.nK b c a).1];rfl
theorem acf (I:Inv g s) (nl:Ag g s) {o r p:Int} (a:g r=some (o,3,0)) (b:0<=p/\p<65536) (h:(bz s r false p).2.2.1=0):ma s o r p=0:=by
 obtain⟨_, _, _,e⟩:=I.ace nl a b h;unfold ma;rw[av e]
theorem aay (I:Inv g s) (nl:Ag g s) {o r p:Int} (a:g r=some (o,3,0)) (b:0<=p/\p<65536) (h:(bz s r false p).2.2.1=0):B_ s o r false p=0:=by
 unfold B_;rw[av h];exact I.acf nl a b h
theorem Px (I:Inv g s) {o r p:Int} (c:g r=some (o,3,0)) (h:(bz s r false p).2.2.1=0):(0<=p/\p<65536)/\0<=(bz s r false p).1:=by
 have a:0<=p/\p<65536:=by
  by_cases a:0<=p/\p<65536
  ·exact a
  ·rw[xL a] at h;exact absurd h (by decide)
 refine⟨a,?_⟩;obtain⟨f,j, _,i⟩:=I.mv c a;rw[I.fP c a i] at h ⊢;have b:=CF h;have d:=lE s.1 (16*f+px j p % 16);unfold ka;rw[av b];generalize aH s.1 (16*f+px j p % 16)=e at*
 obtain⟨ep,er,el,ef,k⟩:=e;dsimp only at b d;subst b;obtain⟨l,m,n,q,t⟩:=l6.1 d;dsimp only;split<;>omega
end Inv
set_option maxRecDepth 100000
open Go.RX D
def kZ {α:Type} (F:Nat->α) (v:Nat) (y:α):Nat->α:=λi=>if i=v then y else F i
theorem kR {α:Type} (F:Nat->α) (v:Nat) (y:α):kZ F v y v=y:=av rfl
theorem nL {α:Type} {F:Nat->α} {v i:Nat} (h:i≠v) (y:α):kZ F v y i=F i:=ao h
theorem CH (F:Nat->Nat) (v y:Nat): ∀n,((BO n).map (kZ F v y)).sum+(if v<n then F v else 0)=((BO n).map F).sum+(if v<n then y else 0)
 |0=>rfl
 |n+1=>by
  have b:=CH F v y n;rw[List.range_succ,Db,Db,Fw,Fw];simp only[DE,List.map_nil,FR,List.sum_nil];by_cases h:v=n
  ·subst h;rw[kR];rw[ao (Nat.lt_irrefl _),ao (Nat.lt_irrefl _)] at b;rw[av (GS _),av (GS _)];omega
  ·rw[nL (λe=>h e.symm)];by_cases a:v<n
   ·rw[av a,av a] at b;rw[av (by omega),av (by omega)];omega
   ·rw[ao a,ao a] at b;rw[ao (by omega),ao (by omega)];omega
def ni (tk:Nat->List TK) (q:TK->Bool):Nat:=((BO 17).map λi=>(tk i).countP q).sum
theorem zf (tk:Nat->List TK) (q:TK->Bool) {v:Nat} (hv:v<17) (y:List TK):ni (kZ tk v y) q+(tk v).countP q=ni tk q+y.countP q:=by
 have h:=CH (λi=>(tk i).countP q) v (y.countP q) 17;rw[av hv,av hv] at h;have e:(λi=>(kZ tk v y i).countP q)=kZ (λi=>(tk i).countP q) v (y.countP q):=by
  funext i;unfold kZ;split<;>rfl
 unfold ni;rw[e];exact h
theorem zg {tk:Nat->List TK} {q:TK->Bool} (h:0<ni tk q): ∃i t,i<17/\t∈tk i/\q t=true:=by
 unfold ni at h;have: ∀l:List Nat,0<(l.map λi=>(tk i).countP q).sum-> ∃i t,i∈l/\t∈tk i/\q t=true:=by
  intro l
  induction l with
  |nil=>intro h;simp at h
  |cons i l b=>
   intro h;rw[DE,FR] at h;by_cases h1:0<(tk i).countP q
   ·obtain⟨t,a,c⟩:=Dw.1 h1;exact⟨i,t,BX,a,c⟩
   ·obtain⟨j,t,d,a⟩:=b (by omega);exact⟨j,t,Bs _ d,a⟩
 obtain⟨i,t,hi,a⟩:=this _ h;exact⟨i,t,Dd.1 hi,a⟩
theorem BD {tk:Nat->List TK} {q:TK->Bool} (h: ∀i t,t∈tk i->q t=false):ni tk q=0:=by
 rcases Cd (ni tk q) with e|e
 ·exact e
 ·obtain⟨i,t, _,b,a⟩:=zg e;rw[h i t b] at a;cases a
theorem nM {tk:Nat->List TK} {q:TK->Bool} {i:Nat} {t:TK} (hi:i<17) (a:t∈tk i) (b:q t=true):0<ni tk q:=by
 have h:=zf tk q hi [];have c:0<(tk i).countP q:=Dw.2 ⟨t,a,b⟩;simp only[List.countP_nil] at h;omega
def eh (tk:Nat->List TK) (f:Int):Nat:=ni tk λt=>t.2.2==f
def mO (tk:Nat->List TK) (a:Int):Nat:=ni tk λt=>t.2.1==a
abbrev Il:Type:=Nat->Int->Option Int
def nj (fr:Il) (v:Nat) (p:Int) (y:Option Int):Il:=λi q=>if i=v/\q=p then y else fr i q
theorem fM (fr:Il) (v:Nat) (p:Int) (y:Option Int):nj fr v p y v p=y:=av ⟨rfl,rfl⟩
theorem bH {fr:Il} {v i:Nat} {p q:Int} (h: ¬ (i=v/\q=p)) (y:Option Int):nj fr v p y i q=fr i q:=ao h
def TN (gr:List GT) (fr:Il) (tk:Nat->List TK) (a:Int) (i o:Nat) (f:Int):Prop:=
 ∃k x,lU gr a=some k/\gr[k]? =some x/\x.1=(o:Int)/\x.2.2.1=(i:Int)/\fr o x.2.1=some f/\cg (tk o) x.2.1=none
structure HC (fr:Il) (tk:Nat->List TK) (ds:List DT) (gr:List GT):Prop where
 jm: ∀{i p f},fr i p=some f->1<=i/\i<=16/\0<=p/\p<65536
 kd: ∀{n:Nat} {d:DT},ds[n]? =some d->(d.1=0\/d.1=3\/d.1=4\/d.1=5)/\d.2.2.2.1=0/\0<=d.2.1/\d.2.1<=16
 Tq: ∀{n:Nat} {d:DT},ds[n]? =some d->d.1=4-> ∃(i:Nat) (p:Int),(i:Int)=d.2.1/\fr i p=some (n:Int)/\cg (tk i) p=none
 own: ∀{i p f},fr i p=some f->cg (tk i) p=none-> ∃(n:Nat) (d:DT),(n:Int)=f/\ds[n]? =some d/\d.1=4/\d.2.1=(i:Int)
 C8: ∀{i p a f},cg (tk i) p=some (a,f)->fr i p=some f/\ ∃o:Nat,o≠i/\TN gr fr tk a i o f
 nd: ∀i,((tk i).map (·.1)).Nodup
 inj: ∀{i p p' f},fr i p=some f->fr i p'=some f->cg (tk i) p=none->cg (tk i) p'=none->p=p'
 refs: ∀{n:Nat} {d:DT},ds[n]? =some d->d.2.2.1=(eh tk (n:Int):Int)
 uY: ∀{n:Nat} {x:GT},gr[n]? =some x->x.2.2.2.2.1=(mO tk (n:Int):Int)
 gl:gr.length=16
 gk:n6 gr
theorem fy {gr:List GT} {a:Int} {k:Nat}:lU gr a=some k<->(k:Int)=a/\k<gr.length/\gr.getD k zG≠zG:=by
 unfold lU;constructor
 ·intro h;split at h
  ·rename_i c;cases h;exact⟨by omega,by omega,c.2.2⟩
  ·cases h
 ·rintro⟨rfl,h1,b⟩;rw[av ⟨by omega,by omega,b⟩];rfl
theorem getD_some {gr:List GT} {k:Nat} {x:GT} (h:gr[k]? =some x):gr.getD k zG=x:=by
 rw[B1,h];rfl
namespace HC
variable {fr:Il} {tk:Nat->List TK} {ds:List DT} {gr:List GT}
theorem Ol (H:HC fr tk ds gr) {i:Nat} {t:TK} (h:t∈tk i):cg (tk i) t.1=some t.2:=(jN (a:=t.2.1) (b:=t.2.2) (H.nd i)).2 h
theorem Kf (H:HC fr tk ds gr) {i:Nat} {p a f:Int} (h:cg (tk i) p=some (a,f)):(p,a,f)∈tk i:=(jN (H.nd i)).1 h
theorem aaz (H:HC fr tk ds gr) {i:Nat} {p a f:Int} (h:cg (tk i) p=some (a,f)): ∃(n:Nat) (d:DT) (o:Nat),(n:Int)=f/\ds[n]? =some d/\d.1=4/\d.2.1=(o:Int)/\o≠i/\TN gr fr tk a i o f:=by
 obtain⟨_,o,e,g⟩:=H.C8 h;obtain⟨k,x,h1,j,l,m,b,c⟩:=g;obtain⟨n,d,q,r,s,t⟩:=H.own b c;exact⟨n,d,o,q,r,s,t,e,k,x,h1,j,l,m,b,c⟩
theorem at4 (H:HC fr tk ds gr) {i:Nat} {p f:Int} (h:fr i p=some f): ∃(n:Nat) (d:DT),(n:Int)=f/\ds[n]? =some d/\d.1=4:=by
 cases b:cg (tk i) p with
 |none=>
  obtain⟨n,d,h1,c,e, _⟩:=H.own h b;exact⟨n,d,h1,c,e⟩
 |some y=>
  obtain⟨a,f'⟩:=y;obtain⟨n,d,o,h1,c,e, _⟩:=H.aaz b;have:=(H.C8 b).1;rw[h] at this;cases this;exact⟨n,d,h1,c,e⟩
theorem IF (H:HC fr tk ds gr) {n:Nat} (h:0<eh tk (n:Int)): ∃d,ds[n]? =some d/\d.1=4:=by
 obtain⟨i,t, _,a,b⟩:=zg h;obtain⟨m,d,o,h1,c,f, _⟩:=H.aaz (H.Ol a);have g:t.2.2=(n:Int):=by simpa using b
 have e:m=n:=Ap (h1.trans g);subst e;exact⟨d,c,f⟩
theorem Gv (H:HC fr tk ds gr) {g:List DT} (k: ∀{n:Nat} {d:DT},ds[n]? =some d->d.1=4->g[n]? =some d) (j: ∀{n:Nat} {d:DT},g[n]? =some d->ds[n]? =some d\/((d.1=0\/d.1=3\/d.1=5)/\d.2.2=(0,0,())/\0<=d.2.1/\d.2.1<=16)):HC fr tk g gr:=by
 have l: ∀{n:Nat} {d:DT},g[n]? =some d->(d.1=0\/d.1=3\/d.1=5)->eh tk (n:Int)=0:=λ{n d} h a=>by
  rcases Cd (eh tk (n:Int)) with e|e
  ·exact e
  ·obtain⟨d',b,c⟩:=H.IF e;have:=k b c;rw[h] at this;cases this;omega
 refine⟨H.jm,λ{n d} h=>?_,λ{n d} h c=>?_,λ{i p f} h m=>?_,H.C8,H.nd,H.inj,λ{n d} h=>?_,H.uY,H.gl,H.gk⟩
 ·rcases j h with h1|⟨h1,a,b⟩
  ·exact H.kd h1
  ·exact⟨by omega,by rw[a],b⟩
 ·rcases j h with h1|⟨h1,a⟩
  ·exact H.Tq h1 c
  ·omega
 ·obtain⟨n,d,h1,a,b,c⟩:=H.own h m;exact⟨n,d,h1,k a b,b,c⟩
 ·rcases j h with h1|⟨h1,a, _⟩
  ·exact H.refs h1
  ·rw[l h h1,a];rfl
theorem Py (H:HC fr tk ds gr) {z7:List GT} (d:z7.length=gr.length) (m:n6 z7) (r: ∀{n:Nat} {x y:GT},gr[n]? =some x->z7[n]? =some y->y.2.2.2.2.1=x.2.2.2.2.1) (e: ∀{n:Nat} {x:GT},gr[n]? =some x->x.2.2.2.2.1>0->z7[n]? =some x):HC fr tk ds z7:=by
 refine⟨H.jm,H.kd,H.Tq,H.own,λ{i p a f} h=>?_,H.nd,H.inj,H.refs,λ{n y} h=>?_,d.trans H.gl,m⟩
 ·obtain⟨h1,o,s,k,x,g,b,u⟩:=H.C8 h;refine⟨h1,o,s,k,x,?_,?_,u⟩
  ·obtain⟨c,z,j⟩:=fy.1 g;refine fy.2 ⟨c,by omega,?_⟩;have v:x.2.2.2.2.1>0:=by
    rw[H.uY b];have:=nM (q:=λt=>t.2.1==(k:Int)) (by have:=H.jm h1;omega:i<17) (H.Kf h) (by simp[c]);unfold mO;omega
   rw[getD_some (e b v)];rw[getD_some b] at j;exact j
  ·refine e b ?_;obtain⟨c, _⟩:=fy.1 g;rw[H.uY b];have:=nM (q:=λt=>t.2.1==(k:Int)) (by have:=H.jm h1;omega:i<17) (H.Kf h) (by simp[c]);unfold mO;omega
 ·have w:n<gr.length:=by rw[<-d];exact(AH.1 h).1
  have l:gr[n]? =some gr[n]:=B3 w;rw[r l h];exact H.uY l
end HC
set_option maxRecDepth 100000
open Go.RX D
theorem m8 (t:TK) (l:List TK) (p:Int):cg (t::l) p=if t.1=p then some t.2 else cg l p:=by
 unfold cg;rw[List.find?_cons];by_cases e:t.1=p
 ·rw[av e,show(t.1==p)=true by simpa using e];rfl
 ·rw[ao e,show(t.1==p)=false by simpa using e]
theorem MM {l l':List TK} (h:l.Perm l') (nd:(l.map (·.1)).Nodup) (p:Int):cg l p=cg l' p:=by
 have c:(l'.map (·.1)).Nodup:=(h.map _).nodup_iff.1 nd;cases h1:cg l p with
 |some x=>
  have:=(jN (a:=x.1) (b:=x.2) nd).1 h1;exact((jN (a:=x.1) (b:=x.2) c).2 (h.mem_iff.1 this)).symm
 |none=>
  symm;rw[ql] at h1 ⊢;exact λt d=>h1 t (h.mem_iff.2 d)
theorem Pz {t:TK} {l:List TK} (a:cg l t.1=none) (nd:(l.map (·.1)).Nodup):((mF t l).map (·.1)).Nodup:=by
 refine((m6 t l).map _).nodup_iff.2 (Bx.2 ⟨λb=>?_,nd⟩);obtain⟨x,c,e⟩:=AT.1 b;exact ql.1 a x c e
theorem Su {t:TK} {l:List TK} (a:cg l t.1=none) (nd:(l.map (·.1)).Nodup) (p:Int):cg (mF t l) p=if t.1=p then some t.2 else cg l p:=by
 rw[MM (m6 t l) (Pz a nd),m8]
theorem MN (l:List TK) (b p:Int):cg (l.filter λt=> !(t.1==b)) p=if p=b then none else cg l p:=by
 induction l with
 |nil=>unfold cg;simp
 |cons t l c=>
  rw[Fx];by_cases e:t.1=b
  ·rw[ao (by simp[e]),c,m8];by_cases a:p=b
   ·rw[av a,av a]
   ·rw[ao a,ao a,ao (λh=>a (h.symm.trans e))]
  ·rw[av (by simpa using e),m8,m8,c];by_cases a:t.1=p
   ·rw[av a,av a,ao (λh=>e (a.trans h))]
   ·rw[ao a,ao a]
theorem BE {l:List TK} {b:Int} {x:Int×Int} (nd:(l.map (·.1)).Nodup) (h:cg l b=some x):l.Perm ((b,x)::l.filter λt=> !(t.1==b)):=by
 induction l with
 |nil=>unfold cg at h;simp at h
 |cons t l a=>
  rw[DE,Bx] at nd;rw[m8] at h;rw[Fx];by_cases e:t.1=b
  ·rw[av e] at h;cases h;rw[ao (by simp[e])];have c:l.filter (λt=> !(t.1==b))=l:=G1.2 λu d=>by
    have:u.1≠b:=λf=>nd.1 (AT.2 ⟨u,d,f.trans e.symm⟩);simpa using this
   rw[c, <-e]
  ·rw[ao e] at h;rw[av (by simpa using e)];exact((a nd.2 h).cons t).trans (.swap _ _ _)
theorem VU (q:TK->Bool) (t:TK) (l:List TK):(mF t l).countP q=l.countP q+(if q t=true then 1 else 0):=by
 rw[(m6 t l).countP_eq,E4]
theorem Sv {l:List TK} {b:Int} {x:Int×Int} (nd:(l.map (·.1)).Nodup) (h:cg l b=some x) (q:TK->Bool):l.countP q=(l.filter λt=> !(t.1==b)).countP q+(if q (b,x)=true then 1 else 0):=by
 rw[(BE nd h).countP_eq,E4]
theorem VV {l:List TK} (b:Int) (nd:(l.map (·.1)).Nodup):((l.filter λt=> !(t.1==b)).map (·.1)).Nodup:=(DH.map _).nodup nd
theorem CI {gr:List GT} {k j:Nat} {x y:GT} {a:Int} (f:gr[k]? =some x) (c:y≠zG) (h:lU gr a=some j):lU (gr.set k y) a=some j:=by
 obtain⟨h1,b,d⟩:=fy.1 h;refine fy.2 ⟨h1,by rw[Ae];exact b,?_⟩;rw[B1];by_cases e:k=j
 ·subst e;rw[AG b];exact c
 ·rw[AF e, <-B1];exact d
theorem xM {gr:List GT} (a:n6 gr) {k:Nat} {x:GT} (b:gr[k]? =some x) (c:x≠zG) (n:Int):fo x n≠zG:=λe=>by
 rcases(a x (B5 b)).1 with h|⟨h, _⟩
 ·exact c h
 ·have:(fo x n).1=zG.1:=congrArg (·.1) e;have:x.1=0:=this;omega
namespace HC
variable {fr:Il} {tk:Nat->List TK} {ds:List DT} {gr:List GT}
theorem YO (H:HC fr tk ds gr) {i:Nat} {p:Int} (h:fr i p=none):cg (tk i) p=none:=by
 cases b:cg (tk i) p with
 |none=>rfl
 |some y=>
  have:=(H.C8 (a:=y.1) (f:=y.2) b).1;rw[h] at this;cases this
theorem Gw (H:HC fr tk ds gr) {v n:Nat} {a:Int} {d0:DT} (hv:1<=v/\v<=16) (A:0<=a/\a<65536) (u:ds[n]? =some d0) (h0:d0.1=0) (w:fr v a=none):
 HC (nj fr v a (some (n:Int))) tk (ds.set n (4,(v:Int),0,0,())) gr:=by
 have q:n<ds.length:=(AH.1 u).1;have r: ∀{d},ds[n]? =some d->d.1=4->False:=λ{d} h l=>by rw[u] at h;cases h;omega
 have B:eh tk (n:Int)=0:=by
  rcases Cd (eh tk (n:Int)) with e|e
  ·exact e
  ·obtain⟨d,h1,g⟩:=H.IF e;exact(r h1 g).elim
 have s: ∀{i p f},fr i p=some f-> ¬ (i=v/\p=a):=λ{i p f} h e=>by rw[e.1,e.2,w] at h;cases h
 have y: ∀{i p},fr i p=some (n:Int)->False:=λ{i p} h=>by
  obtain⟨m,d,h1,g,j⟩:=H.at4 h;have:m=n:=Ap h1;subst this;exact r g j
 refine⟨λ{i p f} h=>?_,λ{m d} h=>?_,λ{m d} h l=>?_,λ{i p f} h t=>?_,λ{i p b f} h=>?_,H.nd,λ{i p p' f} h h' t C=>?_,λ{m d} h=>?_,H.uY,H.gl,H.gk⟩
 ·by_cases e:i=v/\p=a
  ·obtain⟨rfl,rfl⟩:=e;exact⟨hv.1,hv.2,A⟩
  ·rw[bH e] at h;exact H.jm h
 ·by_cases e:n=m
  ·subst e;rw[AG q] at h;cases h;exact⟨.inr (.inr (.inl rfl)),rfl,by show 0<=(v:Int);omega,by show(v:Int)<=16;omega⟩
  ·rw[AF e] at h;exact H.kd h
 ·by_cases e:n=m
  ·subst e;rw[AG q] at h;cases h;exact⟨v,a,rfl,fM _ _ _ _,H.YO w⟩
  ·rw[AF e] at h;obtain⟨i,p,h1,g,j⟩:=H.Tq h l;exact⟨i,p,h1,by rw[bH (s g)];exact g,j⟩
 ·by_cases e:i=v/\p=a
  ·obtain⟨rfl,rfl⟩:=e;rw[fM] at h;cases h;exact⟨n, _,rfl,AG q,rfl,rfl⟩
  ·rw[bH e] at h;obtain⟨m,d,h1,g,j,l⟩:=H.own h t;refine⟨m,d,h1,?_,j,l⟩;rw[AF (λe=>by subst e;exact r g j)];exact g
 ·obtain⟨h1,o,g,k,x,j,l,D,E,z,F⟩:=H.C8 h;exact⟨by rw[bH (s h1)];exact h1,o,g,k,x,j,l,D,E,by rw[bH (s z)];exact z,F⟩
 ·by_cases e:i=v/\p=a
  ·obtain⟨rfl,rfl⟩:=e;rw[fM] at h;cases h;by_cases e':p'=p
   ·exact e'.symm
   ·rw[bH (λc=>e' c.2)] at h';exact(y h').elim
  ·rw[bH e] at h;by_cases e':i=v/\p'=a
   ·obtain⟨rfl,rfl⟩:=e';rw[fM] at h';cases h';exact(y h).elim
   ·rw[bH e'] at h';exact H.inj h h' t C
 ·by_cases e:n=m
  ·subst e;rw[AG q] at h;cases h;rw[B];rfl
  ·rw[AF e] at h;exact H.refs h
theorem CJ (H:HC fr tk ds gr) {v n:Nat} {a o:Int} (E:0<=o/\o<=16) (s:fr v a=some (n:Int)) (w:cg (tk v) a=none) (B:eh tk (n:Int)=0):
 HC (nj fr v a none) tk (ds.set n (5,o,0,0,())) gr:=by
 obtain⟨j,d0,y,C,M,F⟩:=H.own s w;have y:j=n:=Ap y;subst y;have z:j<ds.length:=(AH.1 C).1;have G: ∀{i p b f},cg (tk i) p=some (b,f)->f≠(j:Int):=λ{i p b f} h e=>by
  have N:=H.jm (H.C8 h).1;have:=nM (q:=λt=>t.2.2==(j:Int)) (by omega:i<17) (H.Kf h) (by simp[e]);unfold eh at B;omega
 refine⟨λ{i p f} h=>?_,λ{m d} h=>?_,λ{m d} h k4=>?_,λ{i p f} h u=>?_,λ{i p b f} h=>?_,H.nd,λ{i p p' f} h h' u I=>?_,λ{m d} h=>?_,H.uY,H.gl,H.gk⟩
 ·by_cases e:i=v/\p=a
  ·obtain⟨rfl,rfl⟩:=e;rw[fM] at h;cases h
  ·rw[bH e] at h;exact H.jm h
 ·by_cases e:j=m
  ·subst e;rw[AG z] at h;cases h;exact⟨.inr (.inr (.inr rfl)),rfl,E⟩
  ·rw[AF e] at h;exact H.kd h
 ·by_cases e:j=m
  ·subst e;rw[AG z] at h;cases h;exact absurd k4 (show ¬ (5:Int)=4 by decide)
  ·rw[AF e] at h;obtain⟨i,p,h1,g,l⟩:=H.Tq h k4;refine⟨i,p,h1,?_,l⟩;rw[bH (λc=>?_)]
   ·exact g
   ·rw[c.1,c.2,s] at g;cases g;exact e rfl
 ·by_cases e:i=v/\p=a
  ·obtain⟨rfl,rfl⟩:=e;rw[fM] at h;cases h
  ·rw[bH e] at h;obtain⟨m,d,h1,g,l,r⟩:=H.own h u;refine⟨m,d,h1,?_,l,r⟩;by_cases D:j=m
   ·subst D;rw[C] at g;cases g;rw[F] at r;have ev:v=i:=Ap r;subst ev;rw[<-h1] at h;exact absurd ⟨rfl,H.inj h s u w⟩ e
   ·rw[AF D];exact g
 ·obtain⟨h1,o',g,k,x,l,r,J,K,A,L⟩:=H.C8 h;refine⟨?_,o',g,k,x,l,r,J,K,?_,L⟩
  ·rw[bH (λc=>?_)]
   ·exact h1
   ·rw[c.1,c.2,w] at h;cases h
  ·rw[bH (λc=>?_)]
   ·exact A
   ·rw[c.1,c.2,s] at A;cases A;exact G h rfl
 ·by_cases e:i=v/\p=a
  ·obtain⟨rfl,rfl⟩:=e;rw[fM] at h;cases h
  ·rw[bH e] at h;by_cases e':i=v/\p'=a
   ·obtain⟨rfl,rfl⟩:=e';rw[fM] at h';cases h'
   ·rw[bH e'] at h';exact H.inj h h' u I
 ·by_cases e:j=m
  ·subst e;rw[AG z] at h;cases h;rw[B];rfl
  ·rw[AF e] at h;exact H.refs h
end HC
set_option maxRecDepth 100000
open Go.RX D
namespace HC
variable {fr:Il} {tk:Nat->List TK} {ds:List DT} {gr:List GT}
theorem take (H:HC fr tk ds gr) {v o n k:Nat} {b:Int} {x:GT} {d0:DT} (hb:0<=b/\b<65536) (L:fr v b=none) (F:ds[n]? =some d0) (r:gr[k]? =some x) (C:x≠zG) (M:x.1=(o:Int)) (N:x.2.2.1=(v:Int)) (U:fr o x.2.1=some (n:Int)) (V:cg (tk o) x.2.1=none)
 (W:n6 (gr.set k (fo x 1))):
 HC (nj fr v b (some (n:Int))) (kZ tk v (mF (b,(k:Int),(n:Int)) (tk v))) (ds.set n (d0.1,d0.2.1,d0.2.2.1+1,d0.2.2.2.1,())) (gr.set k (fo x 1)):=by
 have O:n<ds.length:=(AH.1 F).1;have D:k<gr.length:=(AH.1 r).1;obtain⟨P,ro,G⟩:(1<=v/\v<=16)/\(1<=o/\o<=16)/\o≠v:=by
  rcases(H.gk x (B5 r)).1 with h|⟨h1,l,g, _⟩
  ·exact absurd h C
  ·rw[M] at h1 g;rw[N] at l g;exact⟨by omega,by omega,λe=>g (by rw[e])⟩
 have A: ∀{i p f},fr i p=some f-> ¬ (i=v/\p=b):=λ{i p f} h e=>by rw[e.1,e.2,L] at h;cases h
 have Q:cg (tk v) b=none:=H.YO L;have s: ∀i p,cg (kZ tk v (mF (b,(k:Int),(n:Int)) (tk v)) i) p=if i=v/\p=b then some ((k:Int),(n:Int)) else cg (tk i) p:=λi p=>by
  by_cases e:i=v
  ·subst e;rw[kR,Su Q (H.nd _)];by_cases w:p=b
   ·rw[av w.symm,av ⟨rfl,w⟩]
   ·rw[ao (λh=>w h.symm),ao (λh=>w h.2)]
  ·rw[nL e,ao (λh=>e h.1)]
 have X: ∀{m:Nat} {d:DT},ds[m]? =some d-> ∃d':DT,(ds.set n (d0.1,d0.2.1,d0.2.2.1+1,d0.2.2.2.1,()))[m]? =some d'/\d'.1=d.1/\d'.2.1=d.2.1:=λ{m d} h=>by
  by_cases e:n=m
  ·subst e;rw[F] at h;cases h;exact⟨_,AG O,rfl,rfl⟩
  ·exact⟨d,by rw[AF e];exact h,rfl,rfl⟩
 have I: ∀{m:Nat} {d':DT},(ds.set n (d0.1,d0.2.1,d0.2.2.1+1,d0.2.2.2.1,()))[m]? =some d'-> ∃d:DT,ds[m]? =some d/\d'.1=d.1/\d'.2.1=d.2.1/\d'.2.2.2.1=d.2.2.2.1/\d'.2.2.1=d.2.2.1+(if m=n then 1 else 0):=λ{m d'} h=>by
  by_cases e:n=m
  ·subst e;rw[AG O] at h;cases h;exact⟨d0,F,rfl,rfl,rfl,by rw[av rfl]⟩
  ·rw[AF e] at h;exact⟨d',h,rfl,rfl,rfl,by rw[ao (λc=>e c.symm)];omega⟩
 have Y: ∀{a:Int} {i o':Nat} {f:Int},TN gr fr tk a i o' f->TN (gr.set k (fo x 1)) (nj fr v b (some (n:Int))) (kZ tk v (mF (b,(k:Int),(n:Int)) (tk v))) a i o' f:=by
  rintro a i o' f ⟨j,y,h1,l,g,z,t,Z⟩;have R:=CI r (xM H.gk r C 1) h1;have S:cg (kZ tk v (mF (b,(k:Int),(n:Int)) (tk v)) o') y.2.1=none:=by
   rw[s,ao (A t)];exact Z
  by_cases e:k=j
  ·subst e;rw[r] at l;cases l;exact⟨k,fo x 1,R,AG D,g,z,by show nj fr v b _ o' x.2.1= _;rw[bH (A t)];exact t,S⟩
  ·exact⟨j,y,R,by rw[AF e];exact l,g,z,by rw[bH (A t)];exact t,S⟩
 have T: ∀q:TK->Bool,ni (kZ tk v (mF (b,(k:Int),(n:Int)) (tk v))) q=ni tk q+(if q (b,(k:Int),(n:Int))=true then 1 else 0):=λq=>by
  have h1:=zf tk q (by omega:v<17) (mF (b,(k:Int),(n:Int)) (tk v));rw[VU] at h1;omega
 refine⟨λ{i p f} h=>?_,λ{m d} h=>?_,λ{m d} h z=>?_,λ{i p f} h u=>?_,λ{i p c f} h=>?_,λi=>?_,λ{i p p' f} h h' u E=>?_,λ{m d} h=>?_,λ{m y} h=>?_,by rw[Ae];exact H.gl,W⟩
 ·by_cases e:i=v/\p=b
  ·obtain⟨rfl,rfl⟩:=e;exact⟨P.1,P.2,hb⟩
  ·rw[bH e] at h;exact H.jm h
 ·obtain⟨d',h1,l,g,t, _⟩:=I h;rw[l,t,g];exact H.kd h1
 ·obtain⟨d',h1,l,g, _⟩:=I h;obtain⟨i,p,J,B,K⟩:=H.Tq h1 (by rw[<-l];exact z);exact⟨i,p,by rw[g];exact J,by rw[bH (A B)];exact B,by rw[s,ao (A B)];exact K⟩
 ·by_cases e:i=v/\p=b
  ·rw[s,av e] at u;cases u
  ·rw[bH e] at h;rw[s,ao e] at u;obtain⟨m,d,h1,l,g,z⟩:=H.own h u;obtain⟨d',J,B,K⟩:=X l;exact⟨m,d',h1,J,by rw[B];exact g,by rw[K];exact z⟩
 ·rw[s] at h;by_cases e:i=v/\p=b
  ·rw[av e] at h;cases h;obtain⟨rfl,rfl⟩:=e;refine⟨fM _ _ _ _,o,G,k,fo x 1,?_,AG D,M,N,?_,?_⟩
   ·exact CI r (xM H.gk r C 1) (fy.2 ⟨rfl,D,by rw[getD_some r];exact C⟩)
   ·show nj fr i p _ o x.2.1= _;rw[bH (λc=>G c.1)];exact U
   ·show cg (kZ tk i _ o) x.2.1=none;rw[nL G];exact V
  ·rw[ao e] at h;obtain⟨h1,o',l,g⟩:=H.C8 h;exact⟨by rw[bH e];exact h1,o',l,Y g⟩
 ·by_cases e:i=v
  ·subst e;rw[kR];exact Pz Q (H.nd _)
  ·rw[nL e];exact H.nd i
 ·have e: ¬ (i=v/\p=b):=λc=>by rw[s,av c] at u;cases u
  have e': ¬ (i=v/\p'=b):=λc=>by rw[s,av c] at E;cases E
  rw[s,ao e] at u;rw[s,ao e'] at E;rw[bH e] at h;rw[bH e'] at h';exact H.inj h h' u E
 ·obtain⟨d',h1, _, _, _,t⟩:=I h;rw[t,H.refs h1];unfold eh;rw[T];dsimp only;by_cases e:m=n
  ·subst e;rw[av rfl,av (by simp)];omega
  ·rw[ao e,ao (by simp;omega)];omega
 ·have w:mO (kZ tk v (mF (b,(k:Int),(n:Int)) (tk v))) (m:Int)=mO tk (m:Int)+(if k=m then 1 else 0):=by
   unfold mO;rw[T];dsimp only;by_cases e:k=m
   ·subst e;rw[av rfl,av (by simp)]
   ·rw[ao e,ao (by simp;omega)]
  rw[w];by_cases e:k=m
  ·subst e;rw[AG D] at h;cases h;rw[av rfl];have:=H.uY r;show x.2.2.2.2.1+1= _;omega
  ·rw[AF e] at h;rw[ao e];have:=H.uY h;omega
theorem F2 (H:HC fr tk ds gr) {v n k:Nat} {b:Int} {x:GT} {d0:DT} (D:cg (tk v) b=some ((k:Int),(n:Int))) (E:ds[n]? =some d0) (w:gr[k]? =some x) (P:x≠zG)
 (Q:n6 (gr.set k (fo x (-1)))):
 HC (nj fr v b none) (kZ tk v ((tk v).filter λt=> !(t.1==b))) (ds.set n (d0.1,d0.2.1,d0.2.2.1 - 1,d0.2.2.2.1,())) (gr.set k (fo x (-1))):=by
 have J:n<ds.length:=(AH.1 E).1;have K:k<gr.length:=(AH.1 w).1;have T:=H.jm (H.C8 D).1;have r: ∀i p,cg (kZ tk v ((tk v).filter λt=> !(t.1==b)) i) p=if i=v/\p=b then none else cg (tk i) p:=λi p=>by
  by_cases e:i=v
  ·subst e;rw[kR,MN];by_cases o:p=b
   ·rw[av o,av ⟨rfl,o⟩]
   ·rw[ao o,ao (λh=>o h.2)]
  ·rw[nL e,ao (λh=>e h.1)]
 have z: ∀{i p},cg (tk i) p=none-> ¬ (i=v/\p=b):=λ{i p} h e=>by rw[e.1,e.2,D] at h;cases h
 have R: ∀{m:Nat} {d:DT},ds[m]? =some d-> ∃d':DT,(ds.set n (d0.1,d0.2.1,d0.2.2.1 - 1,d0.2.2.2.1,()))[m]? =some d'/\d'.1=d.1/\d'.2.1=d.2.1:=λ{m d} h=>by
  by_cases e:n=m
  ·subst e;rw[E] at h;cases h;exact⟨_,AG J,rfl,rfl⟩
  ·exact⟨d,by rw[AF e];exact h,rfl,rfl⟩
 have F: ∀{m:Nat} {d':DT},(ds.set n (d0.1,d0.2.1,d0.2.2.1 - 1,d0.2.2.2.1,()))[m]? =some d'-> ∃d:DT,ds[m]? =some d/\d'.1=d.1/\d'.2.1=d.2.1/\d'.2.2.2.1=d.2.2.2.1/\d'.2.2.1=d.2.2.1 - (if m=n then 1 else 0):=λ{m d'} h=>by
  by_cases e:n=m
  ·subst e;rw[AG J] at h;cases h;exact⟨d0,E,rfl,rfl,rfl,by rw[av rfl]⟩
  ·rw[AF e] at h;exact⟨d',h,rfl,rfl,rfl,by rw[ao (λc=>e c.symm)];omega⟩
 have S: ∀{a:Int} {i o':Nat} {f:Int},TN gr fr tk a i o' f->TN (gr.set k (fo x (-1))) (nj fr v b none) (kZ tk v ((tk v).filter λt=> !(t.1==b))) a i o' f:=by
  rintro a i o' f ⟨j,y,h1,g,l,s,u,C⟩;have L:=CI w (xM H.gk w P (-1)) h1;have M:cg (kZ tk v ((tk v).filter λt=> !(t.1==b)) o') y.2.1=none:=by
   rw[r,ao (z C)];exact C
  by_cases e:k=j
  ·subst e;rw[w] at g;cases g;exact⟨k,fo x (-1),L,AG K,l,s,by show nj fr v b _ o' x.2.1= _;rw[bH (z C)];exact u,M⟩
  ·exact⟨j,y,L,by rw[AF e];exact g,l,s,by rw[bH (z C)];exact u,M⟩
 have N: ∀q:TK->Bool,ni (kZ tk v ((tk v).filter λt=> !(t.1==b))) q+(if q (b,(k:Int),(n:Int))=true then 1 else 0)=ni tk q:=λq=>by
  have h1:=zf tk q (by omega:v<17) ((tk v).filter λt=> !(t.1==b));have g:=Sv (H.nd v) D q;omega
 refine⟨λ{i p f} h=>?_,λ{m d} h=>?_,λ{m d} h s=>?_,λ{i p f} h A=>?_,λ{i p c f} h=>?_,λi=>?_,λ{i p p' f} h h' A O=>?_,λ{m d} h=>?_,λ{m y} h=>?_,by rw[Ae];exact H.gl,Q⟩
 ·by_cases e:i=v/\p=b
  ·rw[show nj fr v b none i p=none from av e] at h;cases h
  ·rw[bH e] at h;exact H.jm h
 ·obtain⟨d',h1,g,l,u, _⟩:=F h;rw[g,u,l];exact H.kd h1
 ·obtain⟨d',h1,g,l, _⟩:=F h;obtain⟨i,p,G,I,B⟩:=H.Tq h1 (by rw[<-g];exact s);exact⟨i,p,by rw[l];exact G,by rw[bH (z B)];exact I,by rw[r,ao (z B)];exact B⟩
 ·by_cases e:i=v/\p=b
  ·rw[show nj fr v b none i p=none from av e] at h;cases h
  ·rw[bH e] at h;rw[r,ao e] at A;obtain⟨m,d,h1,g,l,s⟩:=H.own h A;obtain⟨d',G,I,B⟩:=R g;exact⟨m,d',h1,G,by rw[I];exact l,by rw[B];exact s⟩
 ·rw[r] at h;by_cases e:i=v/\p=b
  ·rw[av e] at h;cases h
  ·rw[ao e] at h;obtain⟨h1,o',g,l⟩:=H.C8 h;exact⟨by rw[bH e];exact h1,o',g,S l⟩
 ·by_cases e:i=v
  ·subst e;rw[kR];exact VV _ (H.nd _)
  ·rw[nL e];exact H.nd i
 ·have e: ¬ (i=v/\p=b):=λc=>by rw[show nj fr v b none i p=none from av c] at h;cases h
  have e': ¬ (i=v/\p'=b):=λc=>by rw[show nj fr v b none i p'=none from av c] at h';cases h'
  rw[r,ao e] at A;rw[r,ao e'] at O;rw[bH e] at h;rw[bH e'] at h';exact H.inj h h' A O
 ·obtain⟨d',h1, _, _, _,u⟩:=F h;have:=N λt=>t.2.2==(m:Int);rw[u,H.refs h1];unfold eh;dsimp only at this;by_cases e:m=n
  ·subst e;rw[av (by simp)] at this;rw[av rfl];omega
  ·rw[ao (by simp;omega)] at this;rw[ao e];omega
 ·have o:mO (kZ tk v ((tk v).filter λt=> !(t.1==b))) (m:Int)+(if k=m then 1 else 0)=mO tk (m:Int):=by
   have:=N λt=>t.2.1==(m:Int);dsimp only at this;unfold mO;by_cases e:k=m
   ·subst e;rw[av (by simp)] at this;rw[av rfl];exact this
   ·rw[ao (by simp;omega)] at this;rw[ao e];exact this
  by_cases e:k=m
  ·subst e;rw[AG K] at h;cases h;rw[av rfl] at o;have:=H.uY w;show x.2.2.2.2.1+ -1= _;omega
  ·rw[AF e] at h;rw[ao e] at o;have:=H.uY h;omega
theorem gone (H:HC fr tk ds gr) {v:Nat} {B:List DT} (hv:1<=v/\v<=16) (T:tk v=[]) (O: ∀{n:Nat} {d:DT},ds[n]? =some d->d.1=4->d.2.1=(v:Int)->d.2.2.1=0)
 (P: ∀{n:Nat} {d:DT},ds[n]? =some d->d.1=4->d.2.1≠(v:Int)->B[n]? =some d)
 (F: ∀{n:Nat} {d:DT},B[n]? =some d->(ds[n]? =some d/\ ¬ (d.1=4/\d.2.1=(v:Int)))\/((d.1=0\/d.1=3\/d.1=5)/\d.2.2=(0,0,())/\0<=d.2.1/\d.2.1<=16))
 (U:n6 (cP gr (v:Int))):
 HC (λi p=>if i=v then none else fr i p) tk B (cP gr (v:Int)):=by
 have G: ∀{i p b f},cg (tk i) p=some (b,f)->i≠v:=λ{i p b f} h e=>by
  subst e;rw[T] at h;unfold cg at h;simp at h
 have Q: ∀{a:Int} {i o:Nat} {f p:Int},cg (tk i) p=some (a,f)->TN gr fr tk a i o f->o≠v:=by
  rintro a i o f p l ⟨k,x,h1,g,j,r,I,J⟩ e;subst e;obtain⟨n,d,z,u,V,W⟩:=H.own I J;have h0:=O u V W;have K:=H.jm (H.C8 l).1;have:=nM (q:=λt=>t.2.2==(n:Int)) (by omega:i<17) (H.Kf l) (by simp[z]);have h1:=H.refs u;unfold eh at h1;omega
 have X: ∀{a:Int} {i o:Nat} {f p:Int},cg (tk i) p=some (a,f)->TN gr fr tk a i o f->TN (cP gr (v:Int)) (λi p=>if i=v then none else fr i p) tk a i o f:=by
  intro a i o f p l A;have C:=Q l A;have L:=G l;obtain⟨k,x,h1,g,j,r,I,J⟩:=A;have Y:mE (v:Int) x=false:=by
   unfold mE;rw[j,r];have z:((o:Int)==(v:Int))=false:=by simpa using λe=>C (Ap e)
   have u:((i:Int)==(v:Int))=false:=by simpa using λe=>L (Ap e)
   rw[z,u];simp
  have K:(cP gr (v:Int))[k]? =some x:=by
   unfold cP;rw[E5,g];show some (if mE (v:Int) x=true then zG else x)=some x;rw[Y];rfl
  obtain⟨s,w,D⟩:=fy.1 h1;refine⟨k,x,fy.2 ⟨s,by unfold cP;rw[Dh];exact w,?_⟩,K,j,r,?_,J⟩
  ·rw[getD_some K];rw[getD_some g] at D;exact D
  ·show(if o=v then none else fr o x.2.1)=some f;rw[ao C];exact I
 have Z: ∀{n:Nat} {d:DT},B[n]? =some d->(d.1=0\/d.1=3\/d.1=5)->d.2.2=(0,0,())->eh tk (n:Int)=0:=λ{n d} h g j=>by
  rcases Cd (eh tk (n:Int)) with e|e
  ·exact e
  ·obtain⟨d',s,w⟩:=H.IF e;by_cases R:d'.2.1=(v:Int)
   ·have:=H.refs s;have:=O s w R;omega
   ·have:=P s w R;rw[h] at this;cases this;omega
 refine⟨λ{i p f} h=>?_,λ{m d} h=>?_,λ{m d} h r=>?_,λ{i p f} h l=>?_,λ{i p c f} h=>?_,H.nd,λ{i p p' f} h h' l pR=>?_,λ{m d} h=>?_,λ{m y} h=>?_,by unfold cP;rw[Dh];exact H.gl,U⟩
 ·by_cases e:i=v
  ·rw[av e] at h;cases h
  ·rw[ao e] at h;exact H.jm h
 ·rcases F h with ⟨h1, _⟩|⟨h1,g,j⟩
  ·exact H.kd h1
  ·exact⟨by omega,by rw[g],j⟩
 ·rcases F h with ⟨h1,g⟩|⟨h1, _⟩
  ·obtain⟨i,p,s,w,D⟩:=H.Tq h1 r;exact⟨i,p,s,by rw[ao (λe=>g ⟨r,by rw[<-s,e]⟩)];exact w,D⟩
  ·omega
 ·by_cases e:i=v
  ·rw[av e] at h;cases h
  ·rw[ao e] at h;obtain⟨m,d,h1,g,j,r⟩:=H.own h l;exact⟨m,d,h1,P g j (λc=>e (Ap (r.symm.trans c))),j,r⟩
 ·obtain⟨h1,o,g,j⟩:=H.C8 h;exact⟨by rw[ao (G h)];exact h1,o,g,X h j⟩
 ·by_cases e:i=v
  ·rw[av e] at h;cases h
  ·rw[ao e] at h h';exact H.inj h h' l pR
 ·rcases F h with ⟨h1, _⟩|⟨h1,g, _⟩
  ·exact H.refs h1
  ·rw[Z h h1 g,g];rfl
 ·unfold cP at h;rw[E5] at h;obtain⟨x,S,E⟩:=Option.map_eq_some_iff.1 h;by_cases e:mE (v:Int) x=true
  ·rw[av e] at E;subst E;have:mO tk (m:Int)=0:=by
    refine BD λi t l=>?_;cases M:t.2.1==(m:Int) with
    |false=>rfl
    |true=>
     have M:t.2.1=(m:Int):=by simpa using M
     have N:=H.Ol l;obtain⟨_,o, _,A⟩:=H.C8 (a:=t.2.1) (f:=t.2.2) N;have C:=Q (a:=t.2.1) (f:=t.2.2) N A;have L:=G (b:=t.2.1) (f:=t.2.2) N;obtain⟨k,x',h1,g,j,r, _⟩:=A;obtain⟨s, _⟩:=fy.1 h1;have ek:k=m:=Ap (s.trans M);subst ek;rw[S] at g;cases g;unfold mE at e;rw[j,r] at e;have z:((o:Int)==(v:Int))=false:=by simpa using λe=>C (Ap e)
     have u:((i:Int)==(v:Int))=false:=by simpa using λe=>L (Ap e)
     rw[z,u] at e;simp at e
   rw[this];rfl
  ·rw[ao e] at E;subst E;exact H.uY S
end HC
set_option maxRecDepth 100000
open Go.RX D
def mC (h:HS):Il:=λi p=>match h.g i with
 |some x=>if(bz h.s x.root false p).2.2.1=0 then some (bz h.s x.root false p).1 else none
 |none=>none
def lM (h:HS) (i:Nat):List TK:=match h.g i with
 |some x=>x.tk
 |none=>[]
def jo (h:HS) (i:Nat) (p:Int):Int×Int×Int×Unit:=match h.g i with
 |some x=>bz h.s x.root false p
 |none=>(0,0,4,())
theorem bP {h:HS} {i:Nat} {x:GV} (a:h.g i=some x) (p:Int):jo h i p=bz h.s x.root false p:=by unfold jo;rw[a]
theorem fH {h:HS} {i:Nat} (a:h.g i=none) (p:Int):jo h i p=(0,0,4,()):=by unfold jo;rw[a]
theorem rW (h:HS) (i:Nat) (p:Int):mC h i p=if(jo h i p).2.2.1=0 then some (jo h i p).1 else none:=by
 unfold mC jo;cases h.g i with
 |none=>rfl
 |some x=>rfl
structure Ah (h h':HS) (P:Nat->Int->Prop):Prop where
 to: ∀{i:Nat} {q:Int},¬ P i q->jo h' i q=jo h i q
theorem Ah.refl (h:HS) (P:Nat->Int->Prop):Ah h h P:=⟨λ_=>rfl⟩
theorem Ah.of {h h':HS} (a:h'.s=h.s) (b:h'.g=h.g) (P:Nat->Int->Prop):Ah h h' P:=⟨λ{i q} _=>by unfold jo;rw[a,b]⟩
theorem Ah.trans {h1 c d:HS} {P:Nat->Int->Prop} (a:Ah h1 c P) (b:Ah c d P):Ah h1 d P:=⟨λe=>(b.to e).trans (a.to e)⟩
structure KD (s s':WD):Prop where
 k4: ∀{n:Nat} {d:DT},s.2[n]? =some d->d.1=4-> ∃d',s'.2[n]? =some d'/\(d'.1=4\/d'.1=5)
 k5: ∀{n:Nat} {d:DT},s.2[n]? =some d->d.1=5-> ∃d',s'.2[n]? =some d'/\d'.1=5
theorem KD.refl {s s':WD} (h:s'.2=s.2):KD s s':=⟨λ{n d} h1 a=>⟨d,by rw[h];exact h1,.inl a⟩,λ{n d} h1 b=>⟨d,by rw[h];exact h1,b⟩⟩
theorem KD.trans {s t u:WD} (a:KD s t) (b:KD t u):KD s u:=by
 refine⟨λh1 e=>?_,λh1 f=>?_⟩
 ·obtain⟨d',d,c⟩:=a.k4 h1 e;rcases c with c|c
  ·exact b.k4 d c
  ·obtain⟨d2,f1,f2⟩:=b.k5 d c;exact⟨d2,f1,.inr f2⟩
 ·obtain⟨d',d,c⟩:=a.k5 h1 f;exact b.k5 d c
theorem KD.set {s:WD} {W:List Int} {n:Nat} {d0 d1:DT} (h0:s.2[n]? =some d0) (a:d0.1=4->d1.1=4\/d1.1=5) (b:d0.1=5->d1.1=5):KD s (W,s.2.set n d1):=by
 have c:n<s.2.length:=(AH.1 h0).1;have key: ∀{m:Nat} {d:DT},s.2[m]? =some d->(m=n/\d=d0/\(s.2.set n d1)[m]? =some d1)\/(s.2.set n d1)[m]? =some d:=λ{m d} h=>by
  by_cases e:n=m
  ·subst e;rw[h0] at h;cases h;exact .inl ⟨rfl,rfl,AG c⟩
  ·rw[AF e];exact .inr h
 refine⟨λh k=>?_,λh k=>?_⟩
 ·rcases key h with ⟨_,rfl,e⟩|e
  ·exact⟨_,e,a k⟩
  ·exact⟨_,e,.inl k⟩
 ·rcases key h with ⟨_,rfl,e⟩|e
  ·exact⟨_,e,b k⟩
  ·exact⟨_,e,k⟩
theorem sT.kd {P:Int->Int->Prop} {o:Int} {g g':Gh} {s s':WD} (C:sT P o g g' s s'):KD s s':=by
 refine⟨λ{n d} h1 a=>⟨d,C.kp.ks h1 a,.inl a⟩,λ{n d} h1 b=>?_⟩;obtain⟨d',c,f⟩:=C.kk h1 (.inr b);refine⟨d',c,f.elim id λe=>?_⟩;rw[b] at e;exact absurd e.2 (by decide)
def uK (gh dA:Gh) (s s':WD):Prop:=(∀(f:Int) (v:Int×Nat×Int),gh f=some v->dA f=some v\/iH s' f)/\ ∀f,iH s f->iH s' f
theorem uK.refl (gh:Gh) (s:WD):uK gh gh s s:=⟨λ_ _ h=> .inl h,λ_ h=>h⟩
theorem uK.trans {a b c:Gh} {s t u:WD} (h:uK a b s t) (k:uK b c t u):uK a c s u:=⟨λf v d=>(h.1 f v d).elim (k.1 f v) λc=> .inr (k.2 f c),λf c=>k.2 f (h.2 f c)⟩
theorem sT.gks {P:Int->Int->Prop} {o:Int} {g g':Gh} {s s':WD} (C:sT P o g g' s s'):uK g g' s s':=⟨λ_ _ h=>C.gk h,λ_ c=>c.kept C.kp⟩
theorem iH.kd {s s':WD} {f:Int} (h:iH s f) (K:KD s s') (b: ∀k:Int,0<=k->k<16->dC s'.1 (16*f+k)=dC s.1 (16*f+k)):iH s' f:=by
 obtain⟨h0,d,h1,c,e⟩:=h;obtain⟨d',g,i⟩:=K.k5 h1 c;exact⟨h0,d',g,i,λk k0 a=>by rw[b k k0 a];exact e k k0 a⟩
theorem uK.kd {g:Gh} {s s':WD} (K:KD s s') (a: ∀{n:Nat} {d:DT},s.2[n]? =some d->d.1=5-> ∀k:Int,0<=k->k<16->dC s'.1 (16*(n:Int)+k)=dC s.1 (16*(n:Int)+k)):uK g g s s':=⟨λ_ _ h=> .inl h,λf c=>by
 refine c.kd K λk k0 b=>?_;obtain⟨h0,d,h1,e, _⟩:=c;have:=a h1 e k k0 b;rw[show((f.toNat:Nat):Int)=f by omega] at this;exact this⟩
structure uQ (h h':HS) (P:Nat->Int->Prop) (f:Int):Prop where
 pg:Ah h h' P
 ws: ∀{m:Nat} {d d':DT},h.s.2[m]? =some d->d.1=4->h'.s.2[m]? =some d'->d'.1=4->(m:Int)≠f-> ∀k:Int,0<=k->k<16->dC h'.s.1 (16*(m:Int)+k)=dC h.s.1 (16*(m:Int)+k)
 kd:KD h.s h'.s
theorem uQ.refl (h:HS) (P:Nat->Int->Prop) (f:Int):uQ h h P f:=⟨Ah.refl h P,λ_ _ _ _ _ _ _ _=>rfl,.refl rfl⟩
theorem uQ.mono {h h':HS} {P b:Nat->Int->Prop} {f:Int} (a:uQ h h' P f) (d: ∀{i:Nat} {q:Int},P i q->b i q):uQ h h' b f:=⟨⟨λe=>a.pg.to λc=>e (d c)⟩,a.ws,a.kd⟩
theorem uQ.trans {h1 g h:HS} {P:Nat->Int->Prop} {f:Int} (a:uQ h1 g P f) (b:uQ g h P f):uQ h1 h P f:=by
 refine⟨Ah.trans a.pg b.pg,λ{m d d'} i j l e n k k0 o=>?_,a.kd.trans b.kd⟩;obtain⟨d2,x1,c⟩:=a.kd.k4 i j;rcases c with c|c
 ·rw[b.ws x1 c l e n k k0 o,a.ws i j x1 c n k k0 o]
 ·obtain⟨d3,p,q⟩:=b.kd.k5 x1 c;rw[l] at p;cases p;rw[q] at e;exact absurd e (by decide)
structure HI (gh:Gh) (h:HS):Prop where
 inv:Inv gh h.s
 rt:Rt gh
 nl:Ag gh h.s
 sz:h.s.1.length=16*h.s.2.length
 jm: ∀{i:Nat} {x:GV},h.g i=some x->1<=i/\i<=16
 root: ∀{i:Nat} {x:GV},h.g i=some x->gh x.root=some ((i:Int),3,0)
 own: ∀{f o y:Int},gh f=some (o,3,y)-> ∃(i:Nat) (x:GV),(i:Int)=o/\h.g i=some x
 hc:HC (mC h) (lM h) h.s.2 h.gr
theorem cQ {h:HS} {i:Nat} {x:GV} (a:h.g i=some x) (p:Int):mC h i p=if(bz h.s x.root false p).2.2.1=0 then some (bz h.s x.root false p).1 else none:=by
 unfold mC;rw[a]
theorem gm {h:HS} {i:Nat} (a:h.g i=none) (p:Int):mC h i p=none:=by
 unfold mC;rw[a]
theorem gq {h:HS} {i:Nat} {x:GV} (a:h.g i=some x):lM h i=x.tk:=by unfold lM;rw[a]
theorem Xi (h:HS) (v:Int):vC h v=lM h v.toNat:=rfl
section
variable {gh dA:Gh} {h:HS}
namespace HI
theorem rdy (H:HI gh h) {Q:Sys} (m:NX Q h.s):Cf Q h where
 NH:=m
 sz:=by rw[H.sz];exact F4 _
 rr:=λv e=>by
  obtain⟨x,d,g, _⟩:=bZ e;rw[g];have:=H.inv.vA (H.root d);exact⟨this.1,this.2.1⟩
 pg:=λv t j=>by
  rw[Xi] at j;have:=H.hc.jm (H.hc.C8 (a:=t.2.1) (f:=t.2.2) (H.hc.Ol j)).1;omega
 new:=λv a b c x d e h0=>by
  obtain⟨x',k,g,hv, _⟩:=bZ e;rw[d] at k;cases k;rw[g] at h0;have l:=H.root d;rw[hv] at l;have i:=(H.inv.map l h0).2;obtain⟨_, _, _, _,i, _⟩:=i;have:mC h v.toNat b=none:=by rw[cQ d,ao (by rw[i];decide)]
  have:=H.hc.YO this;rw[gq d] at this;exact this
theorem yM (H:HI gh h) {v:Nat} {x:GV} (b:h.g v=some x) {p:Int} {s1 s':WD} (h1: ∀{i:Nat} {x:GV},h.g i=some x-> ∀q,bz s1 x.root false q=bz h.s x.root false q) (d:Inv gh s1) (C:sT (n_ (v:Int) 0 p) (v:Int) gh dA s1 s') {y:Option Int}
 (f:(if(bz s' x.root false p).2.2.1=0 then some (bz s' x.root false p).1 else none)=y) {h':HS} (j:h'.s=s') (k: ∀i,(h'.g i).map GV.root=(h.g i).map GV.root):mC h'=nj (mC h) v p y:=by
 funext i q;have hi:=k i;cases a:h.g i with
 |none=>
  rw[a] at hi;have l:h'.g i=none:=by simpa using hi
  rw[gm l];have m: ¬ (i=v/\q=p):=λc=>by rw[c.1,b] at a;cases a
  rw[bH m,gm a]
 |some z=>
  rw[a] at hi;obtain⟨z',n,r⟩: ∃z',h'.g i=some z'/\z'.root=z.root:=by
   cases hc:h'.g i with
   |none=>rw[hc] at hi;cases hi
   |some z'=>rw[hc] at hi;exact⟨z',rfl,by simpa using hi⟩
  rw[cQ n,j,r];by_cases e:i=v/\q=p
  ·obtain⟨rfl,rfl⟩:=e;rw[b] at a;cases a;rw[fM,f]
  ·rw[bH e,cQ a];have t:bz s' z.root false q=bz h.s z.root false q:=by
    rw[<-h1 a q];refine d.za C.inv C.Dv C.root (o:=(i:Int)) (H.root a) λc=>e ?_;obtain⟨c1,c2⟩:=c;exact⟨Ap c1,c2⟩
   rw[t]
theorem Gx (H:HI gh h) {v:Nat} {p:Int} {s1 s':WD} (h1: ∀{i:Nat} {x:GV},h.g i=some x-> ∀q,bz s1 x.root false q=bz h.s x.root false q) (d:Inv gh s1) (C:sT (n_ (v:Int) 0 p) (v:Int) gh dA s1 s') {h':HS} (e:h'.s=s') (f: ∀i,(h'.g i).map GV.root=(h.g i).map GV.root):Ah h h' (λi q=>i=v/\q=p):=by
 refine⟨λ{i q} b=>?_⟩;have hi:=f i;cases a:h.g i with
 |none=>
  rw[a] at hi;have b:h'.g i=none:=by simpa using hi
  unfold jo;rw[b,a]
 |some z=>
  rw[a] at hi;obtain⟨z',j,k⟩: ∃z',h'.g i=some z'/\z'.root=z.root:=by
   cases hc:h'.g i with
   |none=>rw[hc] at hi;cases hi
   |some z'=>rw[hc] at hi;exact⟨z',rfl,by simpa using hi⟩
  rw[bP j,bP a,e,k, <-h1 a q];refine d.za C.inv C.Dv C.root (o:=(i:Int)) (H.root a) λc=>b ?_;obtain⟨c1,c2⟩:=c;exact⟨Ap c1,c2⟩
theorem base (H:HI gh h) {v:Nat} {p:Int} {s1 s':WD} (C:sT (n_ (v:Int) 0 p) (v:Int) gh dA s1 s') (j:s1.1.length=h.s.1.length/\s1.2.length=h.s.2.length) (nl:Ag gh s1) {h':HS} (c:h'.s=s') (d: ∀i,(h'.g i).map GV.root=(h.g i).map GV.root)
 (hc:HC (mC h') (lM h') s'.2 h'.gr):HI dA h' where
 inv:=by rw[c];exact C.inv
 rt:=H.rt.dv C.root
 nl:=by
  rw[c];exact C.lg (λo q n a b=>a.2.trans b.2.symm) nl
 sz:=by
  rw[c,C.len.1,C.len.2,j.1,j.2];exact H.sz
 jm:=λ{i x} e=>by
  have hi:=d i;rw[e] at hi;cases hc:h.g i with
  |none=>rw[hc] at hi;cases hi
  |some z=>exact H.jm hc
 root:=λ{i x} e=>by
  have hi:=d i;rw[e] at hi;cases hc:h.g i with
  |none=>rw[hc] at hi;cases hi
  |some z=>
   rw[hc] at hi;have k:x.root=z.root:=by simpa using hi
   rw[k];exact C.root.to (H.root hc)
 own:=λ{f o y} l=>by
  obtain⟨i,x,h1,m⟩:=H.own ((C.root o f y).1 l);have hi:=d i;rw[m] at hi;cases hc:h'.g i with
  |none=>rw[hc] at hi;cases hi
  |some z=>exact⟨i,z,h1,hc⟩
 hc:=by rw[c];exact hc
theorem CK (H:HI gh h) {s':WD} (B:Inv.fx gh h.s s') {h':HS} (b:h'.s=s') (a:h'.g=h.g) (P:Nat->Int->Prop):Ah h h' P:=by
 refine⟨λ{i q} _=>?_⟩;cases hi:h.g i with
 |none=>rw[fH hi,fH (by rw[a];exact hi)]
 |some z=>rw[bP hi,bP (by rw[a];exact hi),b];exact H.inv.dU B (H.root hi) q
theorem side (H:HI gh h) {s':WD} (B:Inv.fx gh h.s s') {z7:List GT} {NG:List Po.PT} (hc:HC (mC h) (lM h) s'.2 z7):HI gh {s:=s',g:=h.g,gr:=z7,po:=NG} where
 inv:=H.inv.beside B
 rt:=H.rt
 nl:=Inv.m7 B H.nl
 sz:=by
  show s'.1.length=16*s'.2.length;rw[B.len.1,B.len.2];exact H.sz
 jm:=H.jm
 root:=H.root
 own:=H.own
 hc:=by
  have e:mC {s:=s',g:=h.g,gr:=z7,po:=NG}=mC h:=by
   funext i p;cases a:h.g i with
   |none=>
    rw[gm a];exact gm (h:={s:=s',g:=h.g,gr:=z7,po:=NG}) a p
   |some x=>
    rw[cQ a,cQ (h:={s:=s',g:=h.g,gr:=z7,po:=NG}) a];show(if(bz s' x.root false p).2.2.1=0 then _ else _)= _;rw[H.inv.dU B (H.root a)]
  rw[e];exact hc
end HI
end
set_option maxRecDepth 100000
open Go.RX D
theorem rt4 {o r:Int} (a:1<=o/\o<=16) (b:0<=r/\r<=65535):dT 4 o r 0=true:=by unfold dT jK;simp;omega
theorem rt5 {o:Int} (a:0<=o/\o<=16):dT 5 o 0 0=true:=by unfold dT jK;simp;omega
theorem HT {o:Int} (a:1<=o/\o<=16):aO 4 o zD=((4,o,0,0,()),0):=by
 have b:dT 0 0 0 0=true:=by decide
 have e:gN 0 0 0 0 4 o=0:=by
  unfold gN;rw[b,ao (by decide),ao (by decide),av (by decide),ao (show ¬ (4:Int)=5 by decide),rt4 a ⟨by decide,by decide⟩,ao (by decide)]
 unfold aO zD mI k_;dsimp only;rw[e];rfl
theorem MO {o:Int} (a:1<=o/\o<=16):aO 0 0 (4,o,0,0,())=(zD,0):=by
 have e:gN 4 o 0 0 0 0=0:=by
  unfold gN;rw[rt4 a ⟨by decide,by decide⟩,ao (by decide),ao (by decide),av (by decide),ao (show ¬ (0:Int)=5 by decide)];decide
 unfold aO mI k_;dsimp only;rw[e];rfl
theorem BF {o v:Int} (a:1<=o/\o<=16):aO 5 v (4,o,0,0,())=((5,o,0,0,()),0):=by
 have e:gN 4 o 0 0 5 v=0:=by
  unfold gN;rw[rt4 a ⟨by decide,by decide⟩,ao (by decide),ao (by decide),av (by decide),av rfl,rt5 ⟨by omega,a.2⟩,ao (by decide)]
 unfold aO mI k_;dsimp only;rw[e];rfl
theorem HU {o:Int} (a:0<=o/\o<=16):aO 0 0 (5,o,0,0,())=(zD,0):=by
 have e:gN 5 o 0 0 0 0=0:=by
  unfold gN;rw[rt5 a,ao (by decide),ao (by decide),av (by decide),ao (show ¬ (0:Int)=5 by decide)];decide
 unfold aO mI k_;dsimp only;rw[e];rfl
theorem aaA {o r x:Int} (a:1<=o/\o<=16) (b:0<=r/\r<=65535) (c:0<=r+x/\r+x<=65535):g_ x (4,o,r,0,())=((4,o,r+x,0,()),0):=by
 have e:wY 4 o r 0 x=0:=by
  unfold wY;rw[rt4 a b,ao (by decide),av (.inr (.inr rfl)),ao (by omega)]
 unfold g_ qC;dsimp only;rw[e];rfl
theorem yz {ds:List DT} {n:Nat} {d d':DT} {G:DT->DT×Int} (h:ds[n]? =some d) (a:G d=(d',0)):dD ds (n:Int) G=ds.set n d'/\vz ds (n:Int) G=0:=by
 have c:n<ds.length:=(AH.1 h).1;have b:ds.getD n zD=d:=by rw[B1,h];rfl
 constructor
 ·rw[pf (by omega)];show(if(G (ds.getD n zD)).2=0 then ds.set n (G (ds.getD n zD)).1 else ds)= _;rw[b,a,av rfl]
 ·rw[yK (by omega)];show(G (ds.getD n zD)).2=0;rw[b,a]
theorem zM {ds:List DT} {o:Int} (h:0<cq ds 0) (c: ∀d∈ds,d.1=0->d=zD) (e:1<=o/\o<=16): ∃i:Nat,i<ds.length/\ds[i]? =some zD/\fh ds 4 o=(i:Int)/\dN ds 4 o=0/\dG ds 4 o=ds.set i (4,o,0,0,()):=by
 obtain⟨i,d,h1,f,a,g⟩:=Em h;have j:d=zD:=c d (B5 a) g;subst j;obtain⟨k,b⟩:=yz a (HT e);refine⟨i,f,a,?_,?_,?_⟩
 ·unfold fh;rw[h1];dsimp only;rw[av b]
 ·unfold dN;rw[ao (by omega),h1];exact b
 ·unfold dG;rw[h1];exact k
theorem vn {ds:List DT} {y o:Int} (h:dN ds y o=0):0<cq ds 0:=by
 rcases Cd (cq ds 0) with e|e
 ·unfold dN at h;rw[Xe e] at h;dsimp only at h;split at h<;>exact absurd h (by decide)
 ·exact e
theorem Sw {ds:List DT} {n:Nat} {d d':DT} (h:ds[n]? =some d):(ds.set n d').set n d=ds:=by
 apply FS;intro i;have a:n<ds.length:=(AH.1 h).1;by_cases e:n=i
 ·subst e;rw[AG (by rw[Ae];exact a),h]
 ·rw[AF e,AF e]
theorem ny {ds:List DT} {n:Nat} {d:DT} (h:ds[n]? =some d):oH ds (n:Int)=d:=by
 have a:n<ds.length:=(AH.1 h).1;unfold oH;rw[ao (by omega)];show ds.getD n zD=d;rw[B1,h];rfl
theorem Kept.hc {fr:Il} {tk:Nat->List TK} {s s':WD} {gr:List GT} (H:HC fr tk s.2 gr) (K:Kept s s'):HC fr tk s'.2 gr:=
 H.Gv K.ks λ{n d} h=>(K.nw h).elim .inl λe=> .inr ⟨by omega,e.2.1,by omega,e.2.2.2⟩
theorem wF (r:Int):gF .i64 0 r=0:=by
 have h: ∀x:BitVec 64,(FC 64 0) &&& x=0#64:=λx=>by
  rw[show FC 64 0=0#64 from rfl,BitVec.zero_and]
 show DQ.wrap (((FC 64 0) &&& ~~~(FC 64 r)).toNat:Int)=0;rw[h];rfl
theorem Cs {ws:List Int} {a:Int} (h:(aH ws a).1=true):uG (B (dC ws a)).toNat=true:=by
 unfold aH e9 Ic at h;cases b:uG (B (dC ws a)).toNat with
 |true=>rfl
 |false=>rw[b] at h;simp at h
theorem tC {ws:List Int} {p t f:Int} {l:Nat} {fd:FT} (hi:uH ws (dQ f p (l:Int))=true) (a:uG (B (dC ws (dQ f p (l:Int)))).toNat=true):
 bE ws p t (f,(l:Int),fd)=tookS f p t (l:Int) fd (aH ws (dQ f p (l:Int))).1 (aH ws (dQ f p (l:Int))).2.1 (aH ws (dQ f p (l:Int))).2.2.1 (aH ws (dQ f p (l:Int))).2.2.2.1:=by
 unfold bE;dsimp only;rw[ao (by omega),a,ao ?_]
 ·rfl
 ·unfold BT;rw[av hi];decide
namespace Inv
variable {g:Gh} {s:WD}
theorem CL (I:Inv g s) {o r p t:Int} (d:g r=some (o,3,0)) (b:0<=p/\p<65536): ∀(n:Nat) {j:Nat} {f:Int},j+n=3->g f=some (o,j,px (j+1) p)->lK s.1 r p t n=(f,(j:Int),(0,0,0,0,()))
 |0,j,f,h,a=>by
  have:j=3:=by omega
  subst this;rw[px4 b] at a;rw[I.inj a d];rfl
 |n+1,j,f,h,a=>by
  obtain⟨f',h1,e⟩:=I.Fl a (by omega);have i:g f'=some (o,j+1,px (j+1+1) p):=h1;obtain⟨k,m,u⟩:=I.vA h1;obtain⟨c1,c2, _⟩:=I.vA a;have q:=I.CL (t:=t) d b n (j:=j+1) (by omega) i;have c:=lq ⟨k,m⟩ b (l:=j+1) (by omega);have v:=dZ p (j+1);rw[lK,q,tC (by rw[c];exact jh (by omega) (by omega)) (by rw[c];exact Cs (by rw[e];rfl)),c,e];unfold tookS b_;dsimp only;rw[ao (by decide),av ?_]
  ·congr 2;rw[bD (by omega) (by omega)];omega
  ·have:fO true 0 false f=true:=dI ⟨c1,c2⟩;rw[this];simp
   try omega
theorem VW (I:Inv g s) {o r p:Int} (u:g r=some (o,3,0)) (b:0<=p/\p<65536) {f:Int} {j:Nat} (a:dH g s o p f j):
 ((nc s.1 r p 0).1=(ka p j (aH s.1 (16*f+px j p % 16))).1/\(nc s.1 r p 0).2.1=(ka p j (aH s.1 (16*f+px j p % 16))).2.1/\((nc s.1 r p 0).2.2.2.1=0<->(ka p j (aH s.1 (16*f+px j p % 16))).2.2.1=0)):=by
 have A:=I.kd a.1;have C:=A.2.2.2.2.2;obtain⟨D,E,T⟩:=I.vA a.1;obtain⟨F,G,U⟩:=I.vA u;have hi:=dZ p j;have d:=lq ⟨D,E⟩ b C;have v:=a.2;have H:=I.wf a.1 hi.1 hi.2;have J:=I.leaf a.1 hi.1 hi.2;have i:=lE s.1 (16*f+px j p % 16);have K:uV r p 0=false:=by
  unfold uV;have L:dQ r p 3=16*r+px 3 p % 16:=lq ⟨F,G⟩ b (l:=3) (by omega);have V:=dZ p 3;rw[L,decide_eq_false (by omega),decide_eq_false (by omega),decide_eq_false (by omega)];rfl
 have M:nc s.1 r p 0=(lK s.1 r p 0 4).2.2:=ao (by rw[K];decide);have N:=I.CL (t:=0) u b (3 - j) (by omega) a.1;have O:uH s.1 (dQ f p (j:Int))=true:=by rw[d];exact jh (by omega) (by omega)
 have P:uG (B (dC s.1 (dQ f p (j:Int)))).toNat=true:=by
  rw[d];cases hb:(aH s.1 (16*f+px j p % 16)).1 with
  |true=>exact Cs hb
  |false=>rw[H hb];decide+kernel
 have w:lK s.1 r p 0 (3 - j+1)=tookS f p 0 (j:Int) (0,0,0,0,()) (aH s.1 (16*f+px j p % 16)).1 (aH s.1 (16*f+px j p % 16)).2.1 (aH s.1 (16*f+px j p % 16)).2.2.1 (aH s.1 (16*f+px j p % 16)).2.2.2.1:=by
  rw[lK,N,tC O P,d]
 generalize aH s.1 (16*f+px j p % 16)=e at*
 obtain⟨ep,er,el,ef,W⟩:=e;dsimp only at*
 have k: ∀x:FT,tookS f p 0 (j:Int) (0,0,0,0,()) ep er el ef=(f,-1,x)->nc s.1 r p 0=x:=λx y=>by
  rw[M];have h1:(lK s.1 r p 0 (3 - j+1)).2.1= -1:=by rw[w,y]
  have:=xC h1 j;rw[show 3 - j+1+j=4 by omega] at this;rw[this,w,y]
 cases ep with
 |false=>
  rw[k (wW (j:Int) 4) (by unfold tookS;rfl)];unfold ka wW;simp
 |true=>
  have c:fO true er el ef=false:=v;obtain⟨X,Y,Q,k4,k5⟩:=l6.1 i;rcases J rfl v with ⟨rfl,m⟩|⟨rfl,m,z⟩
  ·subst m;have R:er>0:=by
    refine Aq λhc=>?_;have:er=0:=by omega
    subst this;have:=dI ⟨Q,k4⟩;unfold dp b_ at this;dsimp only at this;rw[this] at c;cases c
   have n:gH true er false ef 0=true:=by
    unfold gH;rw[i];have q:gF .i64 0 er=0:=wF er;rw[q];simp;omega
   rw[k (xX 0 0 ef true er false ef) (by
    unfold tookS;rw[ao (by decide),c,ao (by decide),ao (by decide),av (by simp;omega)];rfl)]
   unfold ka xX;rw[ao (by omega),av n,av rfl,ao (by decide)];simp
  ·have z:ef % 16=0:=z;subst m;have R:er>0:=by rcases k5 with h|h;exact h;cases h
   have n:gH true er true ef 0=true:=by
    unfold gH;rw[i];have q:gF .i64 0 er=0:=wF er;rw[q];simp;omega
   have S:aJ .i64 ef (eZ p 16)=ef+p % 16:=by
    have:eZ p 16=p % 16:=by unfold eZ;exact Int.tmod_eq_emod_of_nonneg b.1
    rw[this,ax (by omega) (by omega)]
   rw[k (xX 1 0 (ef+p % 16) true er true ef) (by
    unfold tookS;rw[ao (by decide),c,ao (by decide),av (by decide),S];rfl)]
   unfold ka xX;rw[ao (by omega),av n,av rfl,av rfl];simp
end Inv
set_option maxRecDepth 100000
open Go.RX D
theorem Inv.PA {g:Gh} {s:WD} (I:Inv g s) (nl:Ag g s) {o r p t:Int} (c:g r=some (o,3,0)) (b:0<=p/\p<65536) (Q:0<=t/\t<=7):
 if(bz s r false p).2.2.1=0 then nc s.1 r p t=((bz s r false p).1,(bz s r false p).2.1,0,(if gH true (bz s r false p).2.1 false (bz s r false p).1 t=true then 0 else 7),()) else(nc s.1 r p t).2.2.2.1=4:=by
 obtain⟨f,j, _,a⟩:=I.mv c b;rw[I.fP c b a];have v:=I.kd a.1;have w:=v.2.2.2.2.2;obtain⟨y,z,R⟩:=I.vA a.1;obtain⟨A,C,S⟩:=I.vA c;have hi:=dZ p j;have d:=lq ⟨y,z⟩ b w;have i:=a.2;have D:=I.wf a.1 hi.1 hi.2;have E:=nl a.1 hi.1 hi.2;have F:=I.leaf a.1 hi.1 hi.2;have G:=lE s.1 (16*f+px j p % 16);have H:uV r p t=false:=by
  unfold uV;have J:dQ r p 3=16*r+px 3 p % 16:=lq ⟨A,C⟩ b (l:=3) (by omega);have T:=dZ p 3;rw[J,decide_eq_false (by omega),decide_eq_false (by omega),decide_eq_false (by omega)];rfl
 have K:nc s.1 r p t=(lK s.1 r p t 4).2.2:=ao (by rw[H];decide);have L:=I.CL (t:=t) c b (3 - j) (by omega) a.1;have M:uH s.1 (dQ f p (j:Int))=true:=by rw[d];exact jh (by omega) (by omega)
 have N:uG (B (dC s.1 (dQ f p (j:Int)))).toNat=true:=by
  rw[d];cases hb:(aH s.1 (16*f+px j p % 16)).1 with
  |true=>exact Cs hb
  |false=>rw[D hb];decide+kernel
 have n:lK s.1 r p t (3 - j+1)=tookS f p t (j:Int) (0,0,0,0,()) (aH s.1 (16*f+px j p % 16)).1 (aH s.1 (16*f+px j p % 16)).2.1 (aH s.1 (16*f+px j p % 16)).2.2.1 (aH s.1 (16*f+px j p % 16)).2.2.2.1:=by
  rw[lK,L,tC M N,d]
 generalize aH s.1 (16*f+px j p % 16)=e at*
 obtain⟨ep,er,el,ef,U⟩:=e;dsimp only at*
 have q: ∀x:FT,tookS f p t (j:Int) (0,0,0,0,()) ep er el ef=(f,-1,x)->nc s.1 r p t=x:=λx u=>by
  rw[K];have h1:(lK s.1 r p t (3 - j+1)).2.1= -1:=by rw[n,u]
  have:=xC h1 j;rw[show 3 - j+1+j=4 by omega] at this;rw[this,n,u]
 cases ep with
 |false=>
  rw[q (wW (j:Int) 4) (by unfold tookS;rfl)];unfold ka wW;simp
 |true=>
  have k:fO true er el ef=false:=i;obtain⟨V,W,O,k4,k5⟩:=l6.1 G;have P:=E rfl i;subst P;have m:el=false:=by
   rcases F rfl i with ⟨_,m⟩|⟨h, _⟩
   ·exact m
   ·exact absurd h (by decide)
  subst m;have X:er>0:=by
   refine Aq λhc=>?_;have:er=0:=by omega
   subst this;have:=dI ⟨O,k4⟩;unfold dp b_ at this;dsimp only at this;rw[this] at k;cases k
  rw[q (xX 0 t ef true er false ef) (by
   unfold tookS;rw[ao (by decide),k,ao (by decide),ao (by decide),av (by simp;omega)];rfl)]
  unfold ka xX;rw[av rfl,ao (show ¬ ((0:Nat)=1) by decide)];dsimp only;rw[av rfl,ao (by omega)];split<;>rfl
theorem MP {fr:Il} {v:Nat} {p:Int} {y:Option Int} (h:fr v p=y):nj fr v p y=fr:=by
 funext i q;unfold nj;split
 ·rename_i c;rw[c.1,c.2,h]
 ·rfl
section
variable {gh:Gh} {h:HS}
namespace HI
theorem po (H:HI gh h) (NG:List Po.PT):HI gh (AQ h NG):=
 ⟨H.inv,H.rt,H.nl,H.sz,H.jm,H.root,H.own,H.hc⟩
theorem grs (H:HI gh h) {z7:List GT} (hc:HC (mC h) (lM h) h.s.2 z7):HI gh (yx h z7):=
 ⟨H.inv,H.rt,H.nl,H.sz,H.jm,H.root,H.own,hc⟩
theorem ZU (H:HI gh h) (v a:Int):HI gh (fW h v a):=by
 unfold fW;split
 ·exact H
 ·refine H.grs (H.hc.Py (zd _ _ _) (H.hc.gk.rev _ _) (λ{n x y} b c=>?_) λ{n x} b g=>?_)
  ·unfold lh at c;by_cases e:qP h.gr a v=0
   ·rw[av e] at c;by_cases en:a.toNat=n
    ·subst en;rw[AG (AH.1 b).1] at c;cases c;unfold qP at e;cases d:lU h.gr a with
     |none=>rw[d] at e;exact absurd (show(4:Int)=0 from e) (by decide)
     |some k=>
      rw[d] at e;dsimp only at e;obtain⟨i,j,l⟩:=fy.1 d;have f:a.toNat=k:=by omega
      rw[f] at b;rw[getD_some b] at e;have:=(H.hc.gk x (B5 b)).2;split at e
      ·exact absurd e (by decide)
      ·split at e
       ·exact absurd e (by decide)
       ·show(0:Int)= _;omega
    ·rw[AF en,b] at c;cases c;rfl
   ·rw[ao e,b] at c;cases c;rfl
  ·unfold lh;by_cases e:qP h.gr a v=0
   ·rw[av e];by_cases en:a.toNat=n
    ·subst en;unfold qP at e;cases d:lU h.gr a with
     |none=>rw[d] at e;exact absurd (show(4:Int)=0 from e) (by decide)
     |some k=>
      rw[d] at e;dsimp only at e;obtain⟨i,j,l⟩:=fy.1 d;have f:a.toNat=k:=by omega
      rw[f] at b;rw[getD_some b] at e;rw[av g] at e;split at e
      ·exact absurd e (by decide)
      ·exact absurd e (by decide)
    ·rw[AF en];exact b
   ·rw[ao e];exact b
theorem offer (H:HI gh h) (v a b c:Int):HI gh (iD h v a b c):=by
 unfold iD;split
 ·have j: ∀{n:Nat} {x:GT},lj h.gr v a b=0->(km h.gr v a b).toNat=n->h.gr[n]? =some x->x=zG:=λ{n x} e en d=>by
   unfold km at en;rw[av e] at en;have q:cN h.gr eA h.gr.length≠[]:=λhc=>by
    unfold lj at e;split at e
    ·exact absurd e (by decide)
    ·split at e
     ·exact absurd e (by decide)
     ·exact absurd e (by decide)
   obtain⟨y,l,k⟩:=List.exists_cons_of_ne_nil q;have m:y∈cN h.gr eA h.gr.length:=by rw[k];exact BX
   rw[k] at en;have en:y.toNat=n:=en;unfold cN at m;obtain⟨i,hi,rfl⟩:=AT.1 m;have o:=(B2.1 hi).2;have r:i=n:=en;subst r;rw[getD_some d] at o;simpa[eA] using o
  have s:(jT h.gr v a b (c==1)).length=h.gr.length:=by
   unfold jT;split
   ·rw[Ae]
   ·rfl
  refine H.grs (H.hc.Py s (H.hc.gk.off _ _ _ _) (λ{n x y} d f=>?_) λ{n x} d p=>?_)
  ·unfold jT at f;by_cases e:lj h.gr v a b=0
   ·rw[av e] at f;by_cases en:(km h.gr v a b).toNat=n
    ·have g:=j e en d;subst en;rw[AG (AH.1 d).1] at f;cases f;rw[g];rfl
    ·rw[AF en,d] at f;cases f;rfl
   ·rw[ao e,d] at f;cases f;rfl
  ·unfold jT;by_cases e:lj h.gr v a b=0
   ·rw[av e];by_cases en:(km h.gr v a b).toNat=n
    ·have g:=j e en d;rw[g] at p;exact absurd p (by decide)
    ·rw[AF en];exact d
   ·rw[ao e];exact d
 ·exact H
theorem Js (H:HI gh h) {v:Int} (l:aV h.g v=true) {a b:Int} (e:oY h v a b=0): ∃dA,HI dA (jW h v a b)/\uQ h (jW h v a b) (λi q=>i=v.toNat/\q=a) (-1)/\(jo h v.toNat a).2.2.1=0/\jo (jW h v a b) v.toNat a=((jo h v.toNat a).1,b,0,())/\(jW h v a b).g=h.g/\uK gh dA h.s (jW h v a b).s:=by
 obtain⟨x,c,o,hv, _⟩:=bZ l;unfold oY at e;unfold jW;split at e
 ·exact absurd e (by decide)
 rename_i c1;rw[ao c1];split at e
 ·exact absurd e (by decide)
 rename_i c2;rw[ao c2];split at e
 ·exact absurd e (by decide)
 rename_i c3;rw[ao c3];rw[o] at e ⊢;obtain⟨n,rfl⟩: ∃n:Nat,v=(n:Int):=⟨v.toNat,hv.symm⟩;have c:h.g n=some x:=c;obtain⟨u,g',C,f,j, _⟩:=H.inv.tx (H.root c) e;have p:mC h n a=some (bz h.s x.root false a).1:=by rw[cQ c,av f]
 have k:=H.yM c (s1:=h.s) (λ_ _=>rfl) H.inv C (y:=some (bz h.s x.root false a).1) (by rw[j,av rfl]) (h':=bA h (rI h.s (n:Int) x.root false a b)) rfl (λ_=>rfl);rw[MP p] at k;rw[show((n:Int)).toNat=n from rfl];have r:(bA h (rI h.s (n:Int) x.root false a b)).g n=some x:=c;refine⟨g',H.base C ⟨rfl,rfl⟩ H.nl rfl (λ_=>rfl) ?_,⟨H.Gx (λ_ _=>rfl) H.inv C (h':=bA h (rI h.s (n:Int) x.root false a b)) rfl (λ_=>rfl),λ{m d d'} h1 t _ _ _=>C.kp.ws h1 t,C.kd⟩,by rw[bP c];exact f,by rw[bP c,bP r];exact j,rfl,C.gks⟩;rw[k];exact Kept.hc H.hc C.kp
theorem Jt {v a b:Int} (e:oY h v a b≠0):jW h v a b=h:=by
 unfold oY at e;unfold jW;split
 ·rfl
 rename_i c1;rw[ao c1] at e;split
 ·rfl
 rename_i c2;rw[ao c2] at e;split
 ·rfl
 rename_i c3;rw[ao c3] at e;rw[VF e];rfl
theorem tx (H:HI gh h) {v:Int} (c:aV h.g v=true) (a b:Int): ∃dA,HI dA (jW h v a b):=by
 by_cases e:oY h v a b=0
 ·obtain⟨g',d, _⟩:=H.Js c e;exact⟨g',d⟩
 ·rw[Jt e];exact⟨gh,H⟩
end HI
end
set_option maxRecDepth 100000
open Go.RX D
section
variable {gh:Gh} {h:HS}
theorem iN {gh:Gh} {s s':WD} (I:Inv gh s) (g:s'.1.length=s.1.length/\s'.2.length=s.2.length)
 (j: ∀b:Int,dC s'.1 b≠dC s.1 b-> ∃(n:Nat) (d:DT),s.2[n]? =some d/\d.1≠3/\16*(n:Int)<=b/\b<16*(n:Int)+16)
 (i: ∀{n:Nat} {d d':DT},s.2[n]? =some d->s'.2[n]? =some d'->(d'=d\/(d.1≠3/\d'.1≠3/\(d'.1=0->d'=zD)))):Inv.fx gh s s' where
 len:=g
 ws:=λ{f o x k l} m h0 h1=>by
  refine Aq λp=>?_;obtain⟨n,d,q,r,w,y⟩:=j _ p;have t:=I.kd m;have e:f.toNat=n:=by omega
  have a:=t.2.2.1;rw[e,q] at a;cases a;exact r rfl
 tb:=λ{n d} h a=>by
  have c:n<s'.2.length:=by rw[g.2];exact(AH.1 h).1
  have h':s'.2[n]? =some s'.2[n]:=B3 c;rcases i h h' with e|⟨e, _⟩
  ·rw[h',e]
  ·exact absurd a e
 bt:=λ{n d} h a=>by
  have c:n<s.2.length:=by rw[<-g.2];exact(AH.1 h).1
  have h':s.2[n]? =some s.2[n]:=B3 c;rcases i h' h with e|⟨_,e, _⟩
  ·rw[h',e]
  ·exact absurd a e
 fz:=λd u h0=>by
  obtain⟨n,c⟩:=DN u;have v:n<s.2.length:=by rw[<-g.2];exact(AH.1 c).1
  have h':s.2[n]? =some s.2[n]:=B3 v;rcases i h' c with e|⟨_, _,e⟩
  ·rw[e] at h0 ⊢;exact I.fz _ (B5 h') h0
  ·exact e h0
theorem qt {ds:List DT} {n m:Nat} {d0 d1 d d':DT} (h0:ds[n]? =some d0) (h:ds[m]? =some d) (h':(ds.set n d1)[m]? =some d'):(m=n/\d=d0/\d'=d1)\/(m≠n/\d'=d):=by
 by_cases e:n=m
 ·subst e;rw[AG (AH.1 h0).1] at h';rw[h0] at h;cases h;cases h';exact .inl ⟨rfl,rfl,rfl⟩
 ·rw[AF e,h] at h';cases h';exact .inr ⟨λc=>e c.symm,rfl⟩
namespace HI
theorem TQ (H:HI gh h) {i:Nat} {p f:Int} (o:mC h i p=some f): ∃(n:Nat) (d:DT),f=(n:Int)/\h.s.2[n]? =some d/\d.1=4/\1<=d.2.1/\d.2.1<=16/\d=(4,d.2.1,(eh (lM h) (n:Int):Int),0,()):=by
 obtain⟨n,d,h1,g,k⟩:=H.hc.at4 o;obtain⟨j,q,t,r, _⟩:=H.hc.Tq g k;have:=H.hc.jm r;obtain⟨_,l, _⟩:=H.hc.kd g;have m:=H.hc.refs g;refine⟨n,d,h1.symm,g,k,by omega,by omega,?_⟩;obtain⟨a,b,c,e,u⟩:=d;dsimp only at k l m;rw[k,l,m]
structure abx (h h':HS) (v:Nat) (a b:Int) (f:Nat):Prop where
 g:h'.g=h.g
 gr:h'.gr=h.gr
 po:h'.po=h.po
 WI:(jo h v a).2.2.1=4
 pg:jo h' v a=((f:Int),b,0,())
 fr:h.s.2[f]? =some zD
 f4:h'.s.2[f]? =some (4,(v:Int),0,0,())
 ef:uQ h h' (λi q=>i=v/\q=a) (f:Int)
 zr: ∀k:Int,0<=k->k<16->dC h'.s.1 (16*(f:Int)+k)=0
 ct:cq h.s.2 0<=cq h'.s.2 0+4
theorem PB (H:HI gh h) {v:Int} (X:aV h.g v=true) {a b:Int} (o:qI h v a b=0): ∃dA f,HI dA (jR h v a b)/\abx h (jR h v a b) v.toNat a b f/\iU h v=(f:Int)/\uK gh dA h.s (jR h v a b).s:=by
 obtain⟨x,p,M,hv,Y,Z⟩:=bZ X;unfold qI at o;unfold jR;by_cases N:a>=65536
 ·rw[av N] at o;exact absurd o (by decide)
 rw[ao N] at o ⊢;by_cases O:b<1\/b>7
 ·rw[av O] at o;exact absurd o (by decide)
 rw[ao O] at o ⊢;by_cases A:dN h.s.2 4 v=0
 case neg=>rw[av A] at o;exact absurd o A
 rw[ao (λe=>e A)] at o ⊢;obtain⟨n,uN,u,t1,t2,t3⟩:=zM (vn A) H.inv.fz ⟨Y,Z⟩;have P:iU h v=(n:Int):=t1;have r:kf h v=(h.s.1,h.s.2.set n (4,v,0,0,())):=by unfold kf;rw[t3]
 have hM:qH h v a b=jB (kf h v) v (a6 h.g v) false a (iU h v) b:=rfl;rw[ao (λe=>e o)];rw[hM,P,M];rw[P,M] at o;obtain⟨m,rfl⟩: ∃m:Nat,v=(m:Int):=⟨v.toNat,hv.symm⟩;have p:h.g m=some x:=p;have hlen:=H.sz;have B:Inv.fx gh h.s (kf h (m:Int)):=by
  rw[r];refine iN H.inv ⟨rfl,by rw[Ae]⟩ (λb hb=>absurd rfl hb) λ{i d d'} h1 D=>?_;rcases qt u h1 D with ⟨_,e1,E⟩|⟨_,E⟩
  ·exact .inr ⟨by rw[e1];decide,by rw[E];exact(show ¬ (4:Int)=3 by decide),λc=>by rw[E] at c;exact absurd c (show ¬ (4:Int)=0 by decide)⟩
  ·exact .inl E
 have F:=H.inv.beside B;obtain⟨hp,g',C,Q,q2,R, _,⟨f0,j,hE,hc⟩, _⟩:=F.map (H.root p) o;have hj:=(F.kd hE.1).2.2.2.2.2;have hcT:cq (kf h (m:Int)).2 0+1=cq h.s.2 0:=by
  rw[r];have:=tB (d':=((4:Int),(m:Int),(0:Int),(0:Int),())) u 0;rw[av (show zD.1=0 from rfl),ao (show ¬ (4:Int)=0 by decide)] at this;exact this
 have rq:mC h m a=none:=by
  rw[cQ p, <-H.inv.dU B (H.root p),ao (by rw[R];decide)]
 have hc1:HC (nj (mC h) m a (some (n:Int))) (lM h) (kf h (m:Int)).2 h.gr:=by
  rw[r];exact H.hc.Gw (by omega) hp u rfl rq
 have NV:=Kept.hc hc1 C.kp;have kp:=C.kp;have S:(kf h (m:Int)).1=h.s.1:=rfl;generalize jB (kf h (m:Int)) (m:Int) x.root false a (n:Int) b=l at*
 have qx:=H.yM p (λ{i z} I q=>H.inv.dU B (H.root I) q) F C (y:=some (n:Int)) (by rw[Q,av rfl]) (h':=bA h l) rfl (λ_=>rfl);have J:HI g' (bA h l):=H.base C B.len (Inv.m7 B H.nl) rfl (λ_=>rfl) (by rw[qx];exact NV);have K:l.2[n]? =some (4,(m:Int),0,0,()):=C.kp.ks (by rw[r];exact AG uN) rfl;have FB:l.2.length=h.s.2.length:=by rw[C.len.2,B.len.2]
 have Wx:l.1.length=h.s.1.length:=by rw[C.len.1,B.len.1]
 have T:(e_ l.1 (n:Int) (λ_=>0) 16).length=l.1.length:=gJ _ _ _ _;have w: ∀b,dC (e_ l.1 (n:Int) (λ_=>0) 16) b=if 16*(n:Int)<=b/\b<16*(n:Int)+16 then 0 else dC l.1 b:=λb=>tA (by omega) (by omega) 16 (F4 _) b;generalize e_ l.1 (n:Int) (λ_=>0) 16=W at T w ⊢;have U:Inv.fx g' l (W,l.2):=by
  refine iN C.inv ⟨T,rfl⟩ (λb hb=>⟨n, _,K,(show ¬ (4:Int)=3 by decide),?_⟩) λ{i d d'} h1 D=>?_
  ·refine Aq λhc=>hb ?_;show dC W b= _;rw[w b,ao hc]
  ·rw[h1] at D;cases D;exact .inl rfl
 have H3:=J.side (z7:=h.gr) (NG:=h.po) U J.hc;have V: ∀{i:Nat} {q:Int},jo {s:=(W,l.2),g:=h.g,gr:=h.gr,po:=h.po} i q=jo (bA h l) i q:=λ{i q}=>by
  cases hi:h.g i with
  |none=>unfold jo;rw[show(bA h l).g i=none from hi];dsimp only;rw[hi]
  |some z=>rw[bP (h:=bA h l) hi,bP (h:={s:=(W,l.2),g:=h.g,gr:=h.gr,po:=h.po}) hi];exact C.inv.dU U (J.root hi) q
 refine⟨g',n,H3,⟨rfl,rfl,rfl,?_,?_,u,K,⟨⟨λ{i q} hn=>?_⟩,λ{i d d'} G h4 _ _ cY k k0 L=>?_,KD.trans (t:=kf h (m:Int)) (by rw[r];exact KD.set u (λc=>absurd c (by decide)) (λc=>absurd c (by decide))) (C.kd.trans (.refl rfl))⟩,λk k0 L=>?_,?_⟩,rfl,((uK.kd (by rw[r];exact KD.set u (λc=>absurd c (by decide)) (λc=>absurd c (by decide))) (λ_ _ _ _ _=>by rw[S])).trans C.gks).trans (uK.kd (.refl rfl) λ{i d} G h5 k k0 L=>?_)⟩
 ·rw[show((m:Int)).toNat=m from rfl,bP p, <-H.inv.dU B (H.root p)];exact R
 ·exact V.trans ((bP (h:=bA h l) p a).trans Q)
 ·exact V.trans ((H.Gx (λ{i z} I q=>H.inv.dU B (H.root I) q) F C (h':=bA h l) rfl (λ_=>rfl)).to hn)
 ·show dC W _= _;rw[w,ao (by omega)];have Ny:(kf h (m:Int)).2[i]? =some d:=by
   rw[r];show(h.s.2.set n _)[i]? = _;rw[AF (by omega)];exact G
  rw[kp.ws Ny h4 k k0 L,S]
 ·show dC W _= _;rw[w,av (by omega)]
 ·show _<=cq l.2 0+4;omega
 ·show dC W _= _;have ko:i≠n:=λc=>by
   subst c;rw[K] at G;cases G;exact absurd (show(4:Int)=5 from h5) (by decide)
  rw[w,ao (by omega)]
theorem PC (H:HI gh h) {v:Int} (j:aV h.g v=true) {a b:Int} (c:qI h v a b≠0):jR h v a b=h:=by
 obtain⟨x,q,r,hv,f,i⟩:=bZ j;unfold qI at c;unfold jR;split
 ·rfl
 rename_i c1;rw[ao c1] at c;split
 ·rfl
 rename_i c2;rw[ao c2] at c;split
 ·rename_i e;have:kf h v=(h.s.1,h.s.2):=by unfold kf;rw[Br e]
  rw[this];rfl
 rename_i d;rw[ao d] at c;have d:dN h.s.2 4 v=0:=Aq d;rw[av c];obtain⟨n,k,l,t1,t2,t3⟩:=zM (vn d) H.inv.fz ⟨f,i⟩;have m:iU h v=(n:Int):=t1;have o:kf h v=(h.s.1,h.s.2.set n (4,v,0,0,())):=by unfold kf;rw[t3]
 have p:qH h v a b=jB (kf h v) v (a6 h.g v) false a (iU h v) b:=rfl;rw[p,Jj c,o,m];have:=yz (G:=aO 0 0) (show(h.s.2.set n (4,v,0,0,()))[n]? =some (4,v,0,0,()) from AG k) (MO ⟨f,i⟩);dsimp only;rw[this.1,Sw l];rfl
theorem Gw (H:HI gh h) {v:Int} (c:aV h.g v=true) (a b:Int): ∃dA,HI dA (jR h v a b):=by
 by_cases e:qI h v a b=0
 ·obtain⟨g', _,d, _⟩:=H.PB c e;exact⟨g',d⟩
 ·rw[H.PC c e];exact⟨gh,H⟩
structure aby (h h':HS) (v:Nat) (a:Int) (f:Nat):Prop where
 g:h'.g=h.g
 WI:(jo h v a).2.2.1=0/\(jo h v a).1=(f:Int)
 pg:jo h' v a=(0,0,4,())
 f5:h'.s.2[f]? =some (5,(v:Int),0,0,())
 ef:uQ h h' (λi q=>i=v/\q=a) (-1)
theorem PD (H:HI gh h) {v:Int} (D:aV h.g v=true) {a:Int} (e:xe h v a=0): ∃dA f,HI dA (qG h v a)/\aby h (qG h v a) v.toNat a f/\uK gh dA h.s (qG h v a).s:=by
 obtain⟨x,l,N,hv,wP,sL⟩:=bZ D;unfold qG;rw[av e];obtain⟨m,rfl⟩: ∃m:Nat,v=(m:Int):=⟨v.toNat,hv.symm⟩;have l:h.g m=some x:=l;have O:fq h.g h.s (m:Int) a=bz h.s x.root false a:=by
  unfold fq;rw[av D];show(match h.g m with|some x=> _|none=> _)= _;rw[l]
 unfold xe at e;rw[O] at e ⊢;rw[N];split at e
 ·exact absurd e (by decide)
 split at e
 ·rename_i c;exact absurd e c
 rename_i c1;have c1:(bz h.s x.root false a).2.2.1=0:=Aq c1;split at e
 ·exact absurd e (by decide)
 rename_i c2;split at e
 ·exact absurd e (by decide)
 rename_i c3;have w:mC h m a=some (bz h.s x.root false a).1:=by rw[cQ l,av c1]
 obtain⟨n,d,F,A,d4,do1,do2,u⟩:=H.TQ w;have I:cg (lM h m) a=none:=by
  cases J:cg (lM h m) a with
  |none=>rfl
  |some y=>
   refine absurd ((tL D (x:=x) l).2 ?_) c2;rw[gq l] at J;unfold ND;rw[show h.g ((m:Int)).toNat=some x from l];dsimp only;rw[J];rfl
 rw[F] at c3 w ⊢;rw[ny A] at c3;have K:eh (lM h) (n:Int)=0:=by
  have:=H.hc.refs A;omega
 have L:=(H.inv.Px (H.root l) c1).1;obtain⟨g',C,M, _⟩:=H.inv.DL (H.root l) L (H.inv.aay H.nl (H.root l) L c1);have Q:=Kept.hc H.hc C.kp;generalize nf h.s (m:Int) x.root false a=j at*
 have t:=C.kp.ks A d4;rw[K] at u;have u:d=(4,d.2.1,0,0,()):=u;have R:d.2.1=(m:Int):=by
  obtain⟨S,d',E,r, _,T⟩:=H.hc.own w I;have:S=n:=Ap E;subst this;rw[A] at r;cases r;exact T
 rw[R] at u;rw[u] at t;have U:=yz (G:=aO 5 (m:Int)) t (BF ⟨by omega,by omega⟩);rw[U.1];have V:=Q.CJ (o:=(m:Int)) ⟨by omega,by omega⟩ w I K;have B:Inv.fx g' j (j.1,j.2.set n (5,(m:Int),0,0,())):=by
  refine iN C.inv ⟨rfl,by rw[Ae]⟩ (λb hb=>absurd rfl hb) λ{i d d'} h1 W=>?_;rcases qt t h1 W with ⟨_,E,r⟩|⟨_,r⟩
  ·exact .inr ⟨by rw[E];exact(show ¬ (4:Int)=3 by decide),by rw[r];exact(show ¬ (5:Int)=3 by decide),λc=>by rw[r] at c;exact absurd c (show ¬ (5:Int)=0 by decide)⟩
  ·exact .inl r
 have X:=H.yM l (λ{i z} k q=>rfl) H.inv C (y:=none) (by rw[M];rfl) (h':=bA h j) rfl (λ_=>rfl);have Y:mC (bA h (j.1,j.2.set n (5,(m:Int),0,0,())))=mC (bA h j):=by
  funext i p;cases k:h.g i with
  |none=>exact(gm (h:=bA h (j.1,j.2.set n (5,(m:Int),0,0,()))) k p).trans (gm (h:=bA h j) k p).symm
  |some z=>
   refine(cQ (h:=bA h (j.1,j.2.set n (5,(m:Int),0,0,()))) k p).trans (Eq.trans ?_ (cQ (h:=bA h j) k p).symm);show(if(bz (j.1,j.2.set n (5,(m:Int),0,0,())) z.root false p).2.2.1=0 then some (bz (j.1,j.2.set n (5,(m:Int),0,0,())) z.root false p).1 else none)=if(bz j z.root false p).2.2.1=0 then some (bz j z.root false p).1 else none;rw[C.inv.dU B (C.root.to (H.root k))]
 have Z:(bA h j).g m=some x:=l;have iS:n<j.2.length:=(AH.1 t).1;have sp: ∀P,Ah (bA h j) (bA h (j.1,j.2.set n (5,(m:Int),0,0,()))) P:=λP=>⟨λ{i q} _=>by
  cases k:h.g i with
  |none=>exact(fH (h:=bA h (j.1,j.2.set n (5,(m:Int),0,0,()))) k q).trans (fH (h:=bA h j) k q).symm
  |some z=>exact(bP (h:=bA h (j.1,j.2.set n (5,(m:Int),0,0,()))) k q).trans ((C.inv.dU B (C.root.to (H.root k)) q).trans (bP (h:=bA h j) k q).symm)⟩
 suffices hh:HI g' (bA h (j.1,j.2.set n (5,(m:Int),0,0,()))) from⟨g',n,hh,⟨rfl,by rw[show((m:Int)).toNat=m from rfl,bP l];exact⟨c1,F⟩,((sp (λ_ _=>False)).to (λc=>c)).trans ((bP Z a).trans M),AG iS,Ah.trans (H.Gx (λ_ _=>rfl) H.inv C (h':=bA h j) rfl (λ_=>rfl)) (sp _),λ{i d d'} h1 h4 _ _ _=>C.kp.ws h1 h4,C.kd.trans (KD.set t (λ_=> .inr rfl) (λc=>absurd (show(4:Int)=5 from c) (by decide)))⟩,C.gks.trans (uK.kd (KD.set t (λ_=> .inr rfl) (λc=>absurd (show(4:Int)=5 from c) (by decide))) λ_ _ _ _ _=>rfl)⟩
 exact{inv:=C.inv.beside B,rt:=H.rt.dv C.root,nl:=Inv.m7 B (C.lg (λo q q' a b=>a.2.trans b.2.symm) H.nl),sz:=by
        show j.1.length=16*(j.2.set n (5,(m:Int),0,0,())).length;rw[Ae,C.len.1,C.len.2];exact H.sz
       ,jm:=H.jm,root:=λ{i z} k=>C.root.to (H.root k),own:=λ{f o y} hf=>H.own ((C.root o f y).1 hf),hc:=by rw[Y,X];exact V}
theorem CJ (H:HI gh h) {v:Int} (b:aV h.g v=true) (a:Int): ∃dA,HI dA (qG h v a):=by
 by_cases e:xe h v a=0
 ·obtain⟨g', _,c, _⟩:=H.PD b e;exact⟨g',c⟩
 ·rw[show qG h v a=h from ao e];exact⟨gh,H⟩
end HI
end
set_option maxRecDepth 100000
open Go.RX D
theorem BG (k:Nat): ∀l:List TK,(∀t∈l,0<=t.2.1/\t.2.1<(k:Int))->l.length<=((BO k).map λa=>l.countP λt=>t.2.1==((a:Nat):Int)).sum
 |[], _=>Ft _
 |t::l,h=>by
  have c:=BG k l λu b=>h u (Bs _ b);have d:=h t BX;have e:(λa:Nat=>(t::l).countP λt=>t.2.1==((a:Nat):Int))=kZ (λa:Nat=>l.countP λt=>t.2.1==((a:Nat):Int)) t.2.1.toNat (l.countP (λu=>u.2.1==((t.2.1.toNat:Nat):Int))+1):=by
   funext a;rw[E4];by_cases e:a=t.2.1.toNat
   ·subst e;rw[kR,av (by simp;omega)]
   ·rw[nL e,ao (by simp;omega)];rfl
  have:=CH (λa:Nat=>l.countP λt=>t.2.1==((a:Nat):Int)) t.2.1.toNat (l.countP (λu=>u.2.1==((t.2.1.toNat:Nat):Int))+1) k;rw[av (by omega),av (by omega)] at this;rw[e,Dl];omega
theorem PE {f:Nat->Nat} {c:Nat}: ∀l:List Nat,(∀x∈l,f x<=c)->(l.map f).sum<=c*l.length
 |[], _=>Ft _
 |x::l,h=>by
  have:=PE l λy a=>h y (Bs _ a);have:=h x BX;rw[DE,FR,Dl,Nat.mul_add];omega
theorem MQ (tk:Nat->List TK) (q:TK->Bool):ni tk q=((BO 17).flatMap tk).countP q:=by
 unfold ni;rw[List.countP_flatMap];rfl
theorem MV (l:List TK) (k c:Nat) (h: ∀t∈l,0<=t.2.1/\t.2.1<(k:Int)) (hb: ∀a:Nat,a<k->(l.countP λt=>t.2.1==((a:Nat):Int))<=c):l.length<=c*k:=by
 have h1:=BG k l h;have b:=PE (f:=λa:Nat=>l.countP λt=>t.2.1==((a:Nat):Int)) (c:=c) (BO k) λa d=>hb a (Dd.1 d);rw[List.length_range] at b;exact Nat.le_trans h1 b
namespace HC
variable {fr:Il} {tk:Nat->List TK} {ds:List DT} {gr:List GT}
theorem ids (H:HC fr tk ds gr) {i:Nat} {t:TK} (h:t∈tk i):0<=t.2.1/\t.2.1<((16:Nat):Int):=by
 obtain⟨_,o, _,k,x,h1,b, _⟩:=H.C8 (a:=t.2.1) (f:=t.2.2) (H.Ol h);obtain⟨c,d, _⟩:=fy.1 h1;have:=H.gl;omega
theorem Ju (H:HC fr tk ds gr) (f:Int):eh tk f<=16000:=by
 have h0: ∀q,ni tk q=((BO 17).flatMap tk).countP q:=MQ tk;have d: ∀t∈(BO 17).flatMap tk,0<=t.2.1/\t.2.1<((16:Nat):Int):=λt h=>by
  obtain⟨i, _,hi⟩:=List.mem_flatMap.1 h;exact H.ids hi
 have b: ∀a:Nat,a<16->ni tk (λt=>t.2.1==((a:Nat):Int))<=1000:=λa c=>by
  have j:a<gr.length:=by rw[H.gl];exact c
  have e:gr[a]? =some gr[a]:=B3 j;have b:=H.uY e;have:=(H.gk _ (B5 e)).2;unfold mO at b;omega
 unfold eh;rw[h0];generalize (BO 17).flatMap tk=g at h0 d;have h1:=List.countP_le_length (p:=λt:TK=>t.2.2==f) (l:=g);have k:=MV g 16 1000 d λa c=>by rw[<-h0];exact b a c
 omega
end HC
theorem MW {gr:List GT} {k:Nat} {x:GT} (h:gr[k]? =some x) (y:GT):(gr.set k y).set k x=gr:=by
 apply FS;intro i;have a:k<gr.length:=(AH.1 h).1;by_cases e:k=i
 ·subst e;rw[AG (by rw[Ae];exact a),h]
 ·rw[AF e,AF e]
section
variable {gh dA:Gh} {h:HS}
theorem HI.fin (H:HI gh h) {v:Nat} {p:Int} {s1 d l:WD} (C:sT (n_ (v:Int) 0 p) (v:Int) gh dA s1 d) (u:Ag gh s1) (m:s1.1.length=h.s.1.length/\s1.2.length=h.s.2.length) (B:Inv.fx dA d l) {h':HS} (j:h'.s=l) (n: ∀i,(h'.g i).map GV.root=(h.g i).map GV.root)
 {F:Il} (w:mC {h' with s:=d}=F) (hc:HC F (lM h') l.2 h'.gr):HI dA h':=by
 have r: ∀{i:Nat} {x:GV},h'.g i=some x-> ∃z,h.g i=some z/\x.root=z.root:=λ{i x} k=>by
  have hi:=n i;rw[k] at hi;cases hc:h.g i with
  |none=>rw[hc] at hi;cases hi
  |some z=>rw[hc] at hi;exact⟨z,rfl,by simpa using hi⟩
 have t: ∀{i:Nat} {x:GV},h'.g i=some x->dA x.root=some ((i:Int),3,0):=λ{i x} k=>by
  obtain⟨z,c,A⟩:=r k;rw[A];exact C.root.to (H.root c)
 refine⟨by rw[j];exact C.inv.beside B,H.rt.dv C.root,by rw[j];exact Inv.m7 B (C.lg (λo q G a b=>a.2.trans b.2.symm) u),?_,λ{i x} k=>?_,t,λ{f o y} D=>?_,?_⟩
 ·rw[j,B.len.1,B.len.2,C.len.1,C.len.2,m.1,m.2];exact H.sz
 ·obtain⟨z,c, _⟩:=r k;exact H.jm c
 ·obtain⟨i,x,h1,E⟩:=H.own ((C.root o f y).1 D);have hi:=n i;rw[E] at hi;cases hc:h'.g i with
  |none=>rw[hc] at hi;cases hi
  |some z=>exact⟨i,z,h1,hc⟩
 ·have e:mC h'=F:=by
   rw[<-w];funext i q;cases c:h'.g i with
   |none=>exact(gm c q).trans (gm (h:={h' with s:=d}) c q).symm
   |some z=>
    refine(cQ c q).trans (Eq.trans ?_ (cQ (h:={h' with s:=d}) c q).symm);show _=if(bz d z.root false q).2.2.1=0 then some (bz d z.root false q).1 else none;rw[j,C.inv.dU B (t c)]
  rw[e,j];exact hc
theorem HI.Jv (H:HI gh h) {v:Nat} {p:Int} {b e:WD} (C:sT (n_ (v:Int) 0 p) (v:Int) gh dA h.s b) (B:Inv.fx dA b e) (l:e.1=b.1) (n:KD b e) {h':HS} (f:h'.s=e) (j: ∀i,(h'.g i).map GV.root=(h.g i).map GV.root):
 uQ h h' (λi q=>i=v/\q=p) (-1)/\ ∀{i:Nat} {x:GV},h.g i=some x-> ∀q,jo h' i q=bz b x.root false q:=by
 have r: ∀{i:Nat} {x:GV},h.g i=some x-> ∃z,h'.g i=some z/\z.root=x.root:=λ{i x} a=>by
  have hi:=j i;rw[a] at hi;cases hc:h'.g i with
  |none=>rw[hc] at hi;cases hi
  |some z=>rw[hc] at hi;exact⟨z,rfl,by simpa using hi⟩
 have key: ∀{i:Nat} {x:GV},h.g i=some x-> ∀q,jo h' i q=bz b x.root false q:=λ{i x} a q=>by
  obtain⟨z,t,u⟩:=r a;rw[bP t,f,u];exact C.inv.dU B (C.root.to (H.root a)) q
 refine⟨⟨⟨λ{i q} w=>?_⟩,λ{m d d'} h1 y _ _ _ k k0 A=>?_,?_⟩,key⟩
 ·cases a:h.g i with
  |none=>
   have hi:=j i;rw[a] at hi;rw[fH a,fH (by simpa using hi)]
  |some x=>
   rw[key a,bP a];refine H.inv.za C.inv C.Dv C.root (o:=(i:Int)) (H.root a) λc=>w ?_;obtain⟨c1,c2⟩:=c;exact⟨Ap c1,c2⟩
 ·rw[f,l];exact C.kp.ws h1 y k k0 A
 ·rw[f];exact C.kd.trans n
theorem nT {g:Gh} {s:WD} (I:Inv g s) {n:Nat} {o r r':Int} (e:s.2[n]? =some (4,o,r,0,())):Inv.fx g s (s.1,s.2.set n (4,o,r',0,())):=
 iN I ⟨rfl,by rw[Ae]⟩ (λb hb=>absurd rfl hb) λ{i d d'} h1 f=>by
  rcases qt e h1 f with ⟨_,h,a⟩|⟨_,a⟩
  ·exact .inr ⟨by rw[h];exact(show ¬ (4:Int)=3 by decide),by rw[a];exact(show ¬ (4:Int)=3 by decide),λc=>by rw[a] at c;exact absurd c (show ¬ (4:Int)=0 by decide)⟩
  ·exact .inl a
theorem kS {g:Nat->Option GV} {n:Nat} {x:GV} (a:g n=some x) (tk:List TK) (i:Nat):(bj g n (some {x with tk:=tk}) i).map GV.root=(g i).map GV.root:=by
 unfold bj;by_cases e:i=n
 ·subst e;rw[av rfl,a];rfl
 ·rw[ao e]
theorem Jw {h':HS} {g:Nat->Option GV} {n:Nat} {x:GV} (b:h.g n=some x) (tk:List TK) (a:h'.g=bj h.g n (some {x with tk:=tk})):lM h'=kZ (lM h) n tk:=by
 funext i;unfold lM kZ;rw[a];unfold bj;by_cases e:i=n
 ·rw[av e,av e]
 ·rw[ao e,ao e]
def NY (ds:List DT) (n:Nat) (o:Int):Prop:= ∃d:DT,ds[n]? =some d/\d.1=4/\d.2.1=o
theorem Kept.Tq {s s':WD} (K:Kept s s') (n:Nat) (o:Int):NY s'.2 n o<->NY s.2 n o:=by
 constructor
 ·rintro⟨d,h1,a,b⟩;rcases K.nw h1 with h|⟨h, _⟩
  ·exact⟨d,h,a,b⟩
  ·omega
 ·rintro⟨d,h1,a,b⟩;exact⟨d,K.ks h1 a,a,b⟩
theorem VX {ds:List DT} {n:Nat} {o r r':Int} (h:ds[n]? =some (4,o,r,0,())) (m:Nat) (o':Int):NY (ds.set n (4,o,r',0,())) m o'<->NY ds m o':=by
 have b:n<ds.length:=(AH.1 h).1;unfold NY;by_cases e:n=m
 ·subst e;rw[AG b,h];constructor
  ·rintro⟨d,h1,c,a⟩;cases h1;exact⟨_,rfl,rfl,a⟩
  ·rintro⟨d,h1,c,a⟩;cases h1;exact⟨_,rfl,rfl,a⟩
 ·rw[AF e]
theorem HI.F2 (H:HI gh h) {v:Nat} {p id f:Int} {x:GV} (a:h.g v=some x) (J:cg x.tk p=some (id,f)): ∃dA,HI dA (dx h (v:Int) p id f)/\(∀n o,NY (dx h (v:Int) p id f).s.2 n o<->NY h.s.2 n o)/\uQ h (dx h (v:Int) p id f) (λi q=>i=v/\q=p) (-1)/\jo (dx h (v:Int) p id f) v p=(0,0,4,())/\uK gh dA h.s (dx h (v:Int) p id f).s:=by
 have j:cg (lM h v) p=some (id,f):=by rw[gq a];exact J
 obtain⟨l,o,Y,K⟩:=H.hc.C8 j;obtain⟨k,y,g1,e,Z,L, _⟩:=K;obtain⟨n,d,M,r,d4,N,O,P⟩:=H.TQ l;subst M;obtain⟨Q,k2,u⟩:=fy.1 g1;rw[getD_some e] at u;subst Q;have R:a6 h.g (v:Int)=x.root:=by
  have r:=H.jm a;unfold a6;rw[av (cd.2 ⟨by omega,x,a⟩)];show(match h.g v with|some x=>x.root|none=> -1)= _;rw[a]
 have A:(bz h.s x.root false p).2.2.1=0:=by
  rw[cQ a] at l;by_cases c:(bz h.s x.root false p).2.2.1=0
  ·exact c
  ·rw[ao c] at l;cases l
 have B:=(H.inv.Px (H.root a) A).1;obtain⟨g',C,D, _⟩:=H.inv.DL (H.root a) B (H.inv.aay H.nl (H.root a) B A);have TL:=H.jm a;have oz:0<eh (lM h) (n:Int):=nM (q:=λt=>t.2.2==(n:Int)) (by omega:v<17) (H.hc.Kf j) (by simp);have acB:0<mO (lM h) (k:Int):=nM (q:=λt=>t.2.1==(k:Int)) (by omega:v<17) (H.hc.Kf j) (by simp);have ach:=H.hc.Ju (n:Int);have S:mq h.gr (k:Int) (v:Int)=0:=by
  unfold mq;rw[g1];dsimp only;rw[getD_some e,ao (by rw[L];simp),ao (by rw[H.hc.uY e];omega)]
 have E:eO h.gr (k:Int) (v:Int)=h.gr.set k (fo y (-1)):=by
  unfold eO;rw[av S];show h.gr.set k (fo (h.gr.getD k zG) (-1))= _;rw[getD_some e]
 have T:=Kept.hc H.hc C.kp;have U:dx h (v:Int) p (k:Int) (n:Int)={s:=((nf h.s (v:Int) x.root false p).1,dD (nf h.s (v:Int) x.root false p).2 (n:Int) (g_ (-1))),g:=bj h.g v (some {x with tk:=x.tk.filter λt=> !(t.1==p)}),gr:=h.gr.set k (fo y (-1)),po:=h.po}:=by
  unfold dx;rw[R,E];show HS.mk _ (bj h.g v (match h.g v with|some x=> _|none=>none)) _ _= _;rw[a]
 rw[U];generalize nf h.s (v:Int) x.root false p=F at*
 have b:=C.kp.ks r d4;rw[P] at b;have V:=yz (G:=g_ (-1)) b (aaA ⟨N,O⟩ ⟨by omega,by omega⟩ ⟨by omega,by omega⟩);rw[V.1];have W:n6 (h.gr.set k (fo y (-1))):=by rw[<-E];exact H.hc.gk.back _ _
 have X:=T.F2 j b e u W;have I:=H.Jv C (nT (r':=(eh (lM h) (n:Int):Int)+ -1) C.inv b) rfl (KD.set b (λ_=> .inl rfl) (λc=>absurd (show(4:Int)=5 from c) (by decide))) (h':={s:=(F.1,F.2.set n (4,d.2.1,(eh (lM h) (n:Int):Int)+ -1,0,())),g:=bj h.g v (some {x with tk:=x.tk.filter λt=> !(t.1==p)}),gr:=h.gr.set k (fo y (-1)),po:=h.po}) rfl (λi=>kS a _ i);refine⟨g',H.fin C H.nl ⟨rfl,rfl⟩ (nT C.inv b) rfl (λi=>kS a _ i) (H.yM a (λ{i z} hz q=>rfl) H.inv C (y:=none) (by rw[D];rfl) rfl (λi=>kS a _ i)) ?_,λm w=>(VX b m w).trans (C.kp.Tq m w),I.1,(I.2 a p).trans D,C.gks.trans (uK.kd (KD.set b (λ_=> .inl rfl) (λc=>absurd (show(4:Int)=5 from c) (by decide))) λ_ _ _ _ _=>rfl)⟩;rw[Jw (g:=h.g) a _ rfl, <-gq a];exact X
end
set_option maxRecDepth 100000
open Go.RX D
section
variable {gh dA:Gh} {h:HS}
theorem MX {v p:Int} (h0:(fq h.g h.s v p).2.2.1=0):aV h.g v=true/\ ∃x,h.g v.toNat=some x/\fq h.g h.s v p=bz h.s x.root false p:=by
 unfold fq at h0 ⊢;by_cases a:aV h.g v=true
 ·obtain⟨x,b, _⟩:=bZ a;rw[av a,b];exact⟨a,x,rfl,rfl⟩
 ·rw[ao a] at h0;exact absurd h0 (by decide)
theorem Sy {v p:Int} {x:GV} (b:aV h.g v=true) (a:h.g v.toNat=some x) (hb: ¬ h_ h v p=true):cg x.tk p=none:=by
 cases c:cg x.tk p with
 |none=>rfl
 |some y=>
  refine absurd ((tL b a).2 ?_) hb;unfold ND;rw[a];dsimp only;rw[c];rfl
theorem Sz {gs:List GT} {k:Nat} {x:GT} {v:Int} (h:gs[k]? =some x) (g:x≠zG) (hv:x.2.2.1=v) (m:0<=x.2.2.2.2.1) (i:n6 gs):eO (gs.set k (fo x 1)) (k:Int) v=gs:=by
 have f:k<gs.length:=(AH.1 h).1;have h1:(gs.set k (fo x 1))[k]? =some (fo x 1):=AG f;have j:lU (gs.set k (fo x 1)) (k:Int)=some k:=fy.2 ⟨rfl,by rw[Ae];exact f,by rw[getD_some h1];exact xM i h g 1⟩;have l:mq (gs.set k (fo x 1)) (k:Int) v=0:=by
  unfold mq;rw[j];dsimp only;rw[getD_some h1,ao (by show ¬ x.2.2.1≠v;rw[hv];simp),ao (by show ¬ x.2.2.2.2.1+1=0;omega)]
 unfold eO;rw[av l];show(gs.set k (fo x 1)).set k (fo ((gs.set k (fo x 1)).getD k zG) (-1))=gs;rw[getD_some h1];have e:fo (fo x 1) (-1)=x:=by
  obtain⟨a,b,c,d,e,u⟩:=x;unfold fo;dsimp only;rw[show e+1+ -1=e by omega]
 rw[e];exact MW h _
theorem abz {v a b c:Int} (d:my h v a b c=0):nh h v a b c=lQ h.s (a6 h.g v) false b (lL h a).1 (wQ c):=by
 unfold my at d;unfold nh;split at d
 ·exact absurd d (by decide)
 rename_i c1;rw[ao c1];split at d
 ·exact absurd d (by decide)
 rename_i c2;rw[ao c2];split at d
 ·exact absurd d (by decide)
 rename_i c3;rw[ao c3];split at d
 ·exact absurd d (by decide)
 rename_i c4;rw[ao c4];split at d
 ·exact absurd d (by decide)
 rename_i c5;rw[ao c5];split at d
 ·exact absurd d (by decide)
 rename_i c6;rw[ao c6,ao (λe=>e d)]
theorem HI.Jx (H:HI gh h) {v a b c:Int} (W:aV h.g v=true) (f:my h v a b c=0):
 (nh h v a b c=0-> ∃dA,HI dA (ij h v a b c)/\uQ h (ij h v a b c) (λi q=>i=v.toNat/\q=b) (-1)/\(jo h v.toNat b).2.2.1=4/\jo (ij h v a b c) v.toNat b=((lL h a).1,wQ c,0,())/\uK gh dA h.s (ij h v a b c).s)/\(nh h v a b c≠0->AR h v a b c=h):=by
 have J:=abz f;obtain⟨p4,t,K,u⟩:(lP h a).2.2.1=v/\(lL h a).2.2.1=0/\ ¬ h_ h (lP h a).1 (lP h a).2.1=true/\gU h.gr a v (c==1)=0:=by
  unfold my at f;split at f
  ·exact absurd f (by decide)
  split at f
  ·exact absurd f (by decide)
  split at f
  ·exact absurd f (by decide)
  split at f
  ·exact absurd f (by decide)
  rename_i c4;split at f
  ·exact absurd f (by decide)
  rename_i c5;split at f
  ·exact absurd f (by decide)
  rename_i c6;exact⟨Aq λe=>c4 (.inl e),Aq c5,c6,f⟩
 obtain⟨x,j,L,hv,wP,sL⟩:=bZ W;obtain⟨k,w⟩: ∃k,lU h.gr a=some k:=by
  unfold gU at u;cases w:lU h.gr a with
  |none=>rw[w] at u;exact absurd (show(4:Int)=0 from u) (by decide)
  |some k=>exact⟨k,rfl⟩
 obtain⟨B,X,D⟩:=fy.1 w;have l:h.gr[k]? =some h.gr[k]:=B3 X;obtain⟨y,Y⟩: ∃y,y=h.gr[k]:=⟨_,rfl⟩;rw[<-Y] at l;rw[getD_some l] at D;have M:lP h a=y:=by
  unfold lP wX;rw[w];exact getD_some l
 have N:lL h a=fq h.g h.s y.1 y.2.1:=by unfold lL;rw[M]
 rw[M] at p4 K;rw[N] at t;obtain⟨O,P,r,Q⟩:=MX t;have Z:=Sy O r K;obtain⟨m,rfl⟩: ∃m:Nat,v=(m:Int):=⟨v.toNat,hv.symm⟩;have j:h.g m=some x:=j;obtain⟨o,R⟩: ∃o:Nat,y.1=(o:Int):=⟨y.1.toNat,by have:=cd.1 O;omega⟩;have r:h.g o=some P:=by rw[R] at r;exact r
 rw[Q] at t;have E:mC h o y.2.1=some (bz h.s P.root false y.2.1).1:=by rw[cQ r,av t]
 obtain⟨n,d,S,hd,d4,do1,do2,TR⟩:=H.TQ E;rw[S] at E;have F:(lL h a).1=(n:Int):=by rw[N,Q,S]
 have I:eo h.gr a (m:Int) (c==1)=h.gr.set k (fo y 1):=by
  unfold eo;rw[av u, <-B];show h.gr.set k (fo (h.gr.getD k zG) 1)= _;rw[getD_some l]
 refine⟨λe=>?_,λe=>?_⟩
 ·rw[J,L,F] at e;obtain⟨hp,g',C,T, _,U, _⟩:=H.inv.map (H.root j) e;have aci:mC h m b=none:=by rw[cQ j,ao (by rw[U];decide)]
  have jz:ij h (m:Int) a b c={s:=((jB h.s (m:Int) x.root false b (n:Int) (wQ c)).1,dD (jB h.s (m:Int) x.root false b (n:Int) (wQ c)).2 (n:Int) (g_ 1)),g:=bj h.g m (some {x with tk:=mF (b,a,(n:Int)) x.tk}),gr:=h.gr.set k (fo y 1),po:=h.po}:=by
   unfold ij;rw[L,F,I];show HS.mk _ (bj h.g m (match h.g m with|some x=> _|none=>none)) _ _= _;rw[j]
  rw[jz];have NV:=Kept.hc H.hc C.kp;generalize jB h.s (m:Int) x.root false b (n:Int) (wQ c)=A at*
  have p:=C.kp.ks hd d4;rw[TR] at p;have ach:=H.hc.Ju (n:Int);have qL:=yz (G:=g_ 1) p (aaA ⟨do1,do2⟩ ⟨by omega,by omega⟩ ⟨by omega,by omega⟩);rw[qL.1];have WH:n6 (h.gr.set k (fo y 1)):=by rw[<-I];exact H.hc.gk.take _ _ _
  have Wu:=NV.take hp aci p l D R p4 E (by rw[gq r];exact Z) WH;have V:=H.Jv C (nT (r':=(eh (lM h) (n:Int):Int)+1) C.inv p) rfl (KD.set p (λ_=> .inl rfl) (λc=>absurd (show(4:Int)=5 from c) (by decide))) (h':={s:=(A.1,A.2.set n (4,d.2.1,(eh (lM h) (n:Int):Int)+1,0,())),g:=bj h.g m (some {x with tk:=mF (b,a,(n:Int)) x.tk}),gr:=h.gr.set k (fo y 1),po:=h.po}) rfl (λi=>kS j _ i)
  suffices hh:HI g' {s:=(A.1,A.2.set n (4,d.2.1,(eh (lM h) (n:Int):Int)+1,0,())),g:=bj h.g m (some {x with tk:=mF (b,a,(n:Int)) x.tk}),gr:=h.gr.set k (fo y 1),po:=h.po} from⟨g',hh,V.1,by rw[show((m:Int)).toNat=m from rfl,bP j];exact U,by rw[F];exact(V.2 j b).trans T,C.gks.trans (uK.kd (KD.set p (λ_=> .inl rfl) (λc=>absurd (show(4:Int)=5 from c) (by decide))) λ_ _ _ _ _=>rfl)⟩
  refine H.fin C H.nl ⟨rfl,rfl⟩ (nT C.inv p) rfl (λi=>kS j _ i) (H.yM j (λ{i z} hz q=>rfl) H.inv C (y:=some (n:Int)) (by rw[T];rfl) rfl (λi=>kS j _ i)) ?_;rw[Jw (g:=h.g) j _ rfl, <-gq j, <-B];exact Wu
 ·rw[J] at e;unfold AR;rw[Jj e,I, <-B,Sz l D p4 (H.hc.gk y (B5 l)).2.1 H.hc.gk]
theorem HI.PF (H:HI gh h) {v a b c:Int} (f:aV h.g v=true) (e:nh h v a b c≠0):jv h v a b c=h:=by
 unfold jv;by_cases d:my h v a b c=0
 ·rw[ao (λe=>e d),ao e];exact(H.Jx f d).2 e
 ·exact av d
theorem SA {v a b c:Int} (e:nh h v a b c=0):my h v a b c=0:=by
 unfold nh at e;unfold my;split at e
 ·exact absurd e (by decide)
 rename_i c1;rw[ao c1];split at e
 ·exact absurd e (by decide)
 rename_i c2;rw[ao c2];split at e
 ·exact absurd e (by decide)
 rename_i c3;rw[ao c3];split at e
 ·exact absurd e (by decide)
 rename_i c4;rw[ao c4];split at e
 ·exact absurd e (by decide)
 rename_i c5;rw[ao c5];split at e
 ·exact absurd e (by decide)
 rename_i c6;rw[ao c6];split at e
 ·rename_i c7;exact absurd e c7
 rename_i c7;exact Aq c7
theorem HI.PG (H:HI gh h) {v a b c:Int} (f:aV h.g v=true) (e:nh h v a b c=0):jv h v a b c=ij h v a b c/\ ∃dA,HI dA (ij h v a b c)/\uQ h (ij h v a b c) (λi q=>i=v.toNat/\q=b) (-1)/\(jo h v.toNat b).2.2.1=4/\jo (ij h v a b c) v.toNat b=((lL h a).1,wQ c,0,())/\uK gh dA h.s (ij h v a b c).s:=by
 have d:=SA e;refine⟨?_,(H.Jx f d).1 e⟩;unfold jv;rw[ao (λe=>e d),av e]
theorem HI.take (H:HI gh h) {v:Int} (d:aV h.g v=true) (a b c:Int): ∃dA,HI dA (jv h v a b c):=by
 by_cases e:nh h v a b c=0
 ·obtain⟨h1,g',f, _⟩:=H.PG d e;rw[h1];exact⟨g',f⟩
 ·rw[H.PF d e];exact⟨gh,H⟩
theorem HI.Jy (H:HI gh h) {v:Int} (b:aV h.g v=true) {a:Int} (e:oZ h v a=0): ∃dA,HI dA (gV h v a)/\uQ h (gV h v a) (λi q=>i=v.toNat/\q=a) (-1)/\jo (gV h v a) v.toNat a=(0,0,4,())/\uK gh dA h.s (gV h v a).s:=by
 obtain⟨x,c,k,hv, _⟩:=bZ b;unfold oZ at e;unfold gV;split at e
 ·exact absurd e (by decide)
 rename_i c1;rw[ao c1];split at e
 ·rename_i c2;rw[av c2];have d:=(tL b c).1 c2;obtain⟨m,rfl⟩: ∃m:Nat,v=(m:Int):=⟨v.toNat,hv.symm⟩;obtain⟨g',f, _,E,j⟩:=H.F2 (x:=x) c d;exact⟨g',f,E,j⟩
 ·exact absurd e (by decide)
theorem Jz {v a:Int} (e:oZ h v a≠0):gV h v a=h:=by
 unfold oZ at e;unfold gV;split
 ·rfl
 rename_i c1;rw[ao c1] at e;split
 ·rename_i c2;rw[av c2] at e;exact absurd rfl e
 ·rfl
theorem HI.back (H:HI gh h) {v:Int} (b:aV h.g v=true) (a:Int): ∃dA,HI dA (gV h v a):=by
 by_cases e:oZ h v a=0
 ·obtain⟨g',c, _⟩:=H.Jy b e;exact⟨g',c⟩
 ·rw[Jz e];exact⟨gh,H⟩
theorem HI.fa {v:Nat}: ∀(n:Nat) {gh:Gh} {h:HS},HI gh h->(∃x,h.g v=some x)->(lM h v).length=n->
 ∃dA,HI dA (fa (v:Int) n h)/\(∃x,(fa (v:Int) n h).g v=some x)/\lM (fa (v:Int) n h) v=[]/\(∀i,i≠v->(fa (v:Int) n h).g i=h.g i)/\(∀m o,NY (fa (v:Int) n h).s.2 m o<->NY h.s.2 m o)/\uQ h (fa (v:Int) n h) (λi _=>i=v) (-1)/\uK gh dA h.s (fa (v:Int) n h).s
 |0,gh,h,H,d,j=>⟨gh,H,d,List.length_eq_zero_iff.1 j,λ_ _=>rfl,λ_ _=>Iff.rfl,.refl _ _ _,uK.refl _ _⟩
 |n+1,gh,h,H,⟨x,d⟩,j=>by
  have z:vC h (v:Int)=x.tk:=by rw[Xi];exact gq d
  have A:x.tk.length=n+1:=by rw[<-gq d];exact j
  have B:x.tk.map (·.1)≠[]:=λe=>by
   have:=congrArg List.length e;rw[Dh,A] at this;simp at this
  have r:=EA B (λy C=>by
   obtain⟨t,k,rfl⟩:=AT.1 C;have D:t∈lM h v:=by rw[gq d];exact k
   have:=H.hc.jm (H.hc.C8 (a:=t.2.1) (f:=t.2.2) (H.hc.Ol D)).1;omega)
  obtain⟨p,u⟩: ∃p,p=As (x.tk.map (·.1)):=⟨_,rfl⟩;rw[<-u] at r;obtain⟨t,k,E⟩:=AT.1 r;have l:=H.hc.nd v;rw[gq d] at l;have q:cg x.tk p=some t.2:=(jN (a:=t.2.1) (b:=t.2.2) l).2 (by rw[<-E];exact k);have F:ND h (v:Int) p=t.2:=by
   unfold ND;show(match h.g v with|some x=>(cg x.tk p).getD (0,0)|none=>(0,0))= _;rw[d];dsimp only;rw[q];rfl
  have G:yy (v:Int) h=dx h (v:Int) p t.2.1 t.2.2:=by
   unfold yy;rw[z, <-u,F]
  obtain⟨U,I,J,K, _,L⟩:=H.F2 (x:=x) d q;have w:(dx h (v:Int) p t.2.1 t.2.2).g v=some {x with tk:=x.tk.filter λt=> !(t.1==p)}:=by
   show bj h.g v (match h.g v with|some x=> _|none=>none) v= _;rw[d,fK]
  have M:(lM (dx h (v:Int) p t.2.1 t.2.2) v).length=n:=by
   rw[gq w];have:=(BE l q).length_eq;rw[Dl] at this;show(x.tk.filter λt=> !(t.1==p)).length=n;omega
  obtain⟨N,h1,O,P,Q,R,S,T⟩:=HI.fa n I ⟨_,w⟩ M;have e:_root_.Go.Proofs.YtlcenllcmeebhaaGreat.fa (v:Int) (n+1) h=_root_.Go.Proofs.YtlcenllcmeebhaaGreat.fa (v:Int) n (dx h (v:Int) p t.2.1 t.2.2):=by rw[<-G];rfl
  rw[e];refine⟨N,h1,O,P,λi hi=>?_,λm o=>(R m o).trans (J m o),uQ.trans (K.mono λc=>c.1) S,L.trans T⟩;rw[Q i hi];show bj h.g v _ i=h.g i;unfold bj;rw[ao hi]
end
section
variable {gh dA:Gh} {h:HS}
theorem MY {v:Int} {x:GV} (a:aV h.g v=true) (b:h.g v.toNat=some x) (p:Int):fq h.g h.s v p=bz h.s x.root false p:=by
 unfold fq;rw[av a,b]
theorem HI.word (H:HI gh h) {v:Int} (j:aV h.g v=true) {a t:Int} (u:0<=a) (m:0<=t/\t<=7):
 (a<1048576/\(fq h.g h.s v (a / 16)).2.2.1=0/\iI h v a t=(16*(fq h.g h.s v (a / 16)).1+a % 16,if gH true (fq h.g h.s v (a / 16)).2.1 false (fq h.g h.s v (a / 16)).1 t=true then 0 else 7)/\
  ∃n:Nat,(fq h.g h.s v (a / 16)).1=(n:Int)/\n<h.s.2.length/\mC h v.toNat (a / 16)=some (n:Int))\/
 ((a>=1048576/\(iI h v a t).2=2)\/(a<1048576/\fq h.g h.s v (a / 16)=(0,0,4,())/\(iI h v a t).2=4)):=by
 obtain⟨x,c,o,hv,w,y⟩:=bZ j;rw[MY j c];unfold iI;by_cases f:a>=1048576
 ·rw[av f];exact .inr (.inl ⟨f,rfl⟩)
 rw[ao f,o];have p:=H.root c;have k:0<=a / 16/\a / 16<65536:=by omega
 have b:=H.inv.PA H.nl p k m;by_cases e:(bz h.s x.root false (a / 16)).2.2.1=0
 ·rw[av e] at b;have l:mC h v.toNat (a / 16)=some (bz h.s x.root false (a / 16)).1:=by rw[cQ c,av e]
  obtain⟨n,d,i,q, _⟩:=H.TQ l;have r:n<h.s.2.length:=(AH.1 q).1;have z:=H.inv.le;refine .inl ⟨by omega,e,?_,n,i,r,by rw[l,i]⟩;rw[b];dsimp only;rw[i,eJ (by omega) (by omega),ax (by omega) (by omega)]
 ·rw[ao e] at b;refine .inr (.inr ⟨by omega,(Inv.ZT _ _ k).resolve_left e,b⟩)
theorem HI.SB (H:HI gh h) {n:Nat} {d:DT} (c:h.s.2[n]? =some d) (d4:d.1=4) {o:Int} (f:0<=o/\o<16) (b:Int):HI gh (bA h (cW h.s.1 (16*(n:Int)+o) b,h.s.2))/\uQ h (bA h (cW h.s.1 (16*(n:Int)+o) b,h.s.2)) (λ_ _=>False) (n:Int):=by
 have B:Inv.fx gh h.s (cW h.s.1 (16*(n:Int)+o) b,h.s.2):=by
  refine iN H.inv ⟨cG _ _ _,rfl⟩ (λq e=>⟨n,d,c,by rw[d4];decide,?_⟩) λ{i d d'} h1 a=>?_
  ·refine Aq λhc=>e ?_;show dC (cW h.s.1 (16*(n:Int)+o) b) q= _;rw[mL (by omega)]
  ·rw[h1] at a;cases a;exact .inl rfl
 refine⟨H.side B H.hc,H.CK B (h':=bA h (cW h.s.1 (16*(n:Int)+o) b,h.s.2)) rfl rfl _,λ{m d d'} _ _ _ _ g k k0 j=>?_,.refl rfl⟩;show dC (cW h.s.1 (16*(n:Int)+o) b) _= _;exact mL (by omega)
theorem HI.store (H:HI gh h) {v:Int} (f:aV h.g v=true) {a:Int} (i:0<=a) (b:Int):HI gh (kj h v a b)/\Ah h (kj h v a b) (λ_ _=>False):=by
 unfold kj;by_cases e:(iI h v a 2).2≠0
 ·rw[av e];exact⟨H,Ah.refl _ _⟩
 rw[ao e];have e:(iI h v a 2).2=0:=Aq e;rcases H.word f i (t:=2) (by decide) with ⟨_, _,j,n,k,u,l⟩|⟨_,c⟩|⟨_, _,c⟩
 ·rw[j];dsimp only;rw[k];obtain⟨m,d,p,q,d4, _⟩:=H.TQ l;have:n=m:=Ap p;subst this;obtain⟨r,s⟩:=H.SB q d4 (o:=a % 16) (by omega) b;exact⟨r,s.pg⟩
 ·rw[c] at e;exact absurd e (by decide)
 ·rw[c] at e;exact absurd e (by decide)
theorem HI.VY (H:HI gh h) {n:Nat} {d:DT} (f:h.s.2[n]? =some d) (i:d.1=5):d=(5,d.2.1,0,0,())/\0<=d.2.1/\d.2.1<=16:=by
 obtain⟨_,j,l,m⟩:=H.hc.kd f;have g:=H.hc.refs f;have:eh (lM h) (n:Int)=0:=by
  rcases Cd (eh (lM h) (n:Int)) with e|e
  ·exact e
  ·obtain⟨d',k,o⟩:=H.hc.IF e;rw[f] at k;cases k;omega
 rw[this] at g;refine⟨?_,l,m⟩;obtain⟨a,b,c,e,u⟩:=d;dsimp only at i j g;rw[i,j,g];rfl
theorem HI.OM (H:HI gh h) {n:Nat} {d:DT} (a:h.s.2[n]? =some d) (e:d.1=5):ig h.s (n:Int)=(h.s.1,h.s.2.set n zD)/\ju h.s (n:Int)=0/\HI gh (bA h (h.s.1,h.s.2.set n zD))/\Ah h (bA h (h.s.1,h.s.2.set n zD)) (λ_ _=>False):=by
 have l:n<h.s.2.length:=(AH.1 a).1;obtain⟨o,p,q⟩:=H.VY a e;have g:=a;rw[o] at g;have j:=yz (G:=aO 0 0) g (HU ⟨p,q⟩);have k:xk h.s.2 (n:Int)=true:=by
  unfold xk;simp only[Ga,decide_eq_false_iff_not];simp;omega
 have B:Inv.fx gh h.s (h.s.1,h.s.2.set n zD):=by
  refine iN H.inv ⟨rfl,by rw[Ae]⟩ (λb hb=>absurd rfl hb) λ{i d0 d'} h1 r=>?_;rcases qt a h1 r with ⟨_,t,f⟩|⟨_,f⟩
  ·exact .inr ⟨by rw[t,e];decide,by rw[f];decide,λ_=>f⟩
  ·exact .inl f
 refine⟨?_,?_,H.side B (H.hc.Gv (λ{m d0} h1 u=>?_) λ{m d0} h1=>?_),H.CK B (h':=bA h (h.s.1,h.s.2.set n zD)) rfl rfl _⟩
 ·unfold ig;rw[av ⟨k,by rw[ny a];exact e⟩,j.1]
 ·unfold ju;rw[k,ao (by decide),ny a,ao (λc=>c e)];exact j.2
 ·show(h.s.2.set n zD)[m]? = _;rw[AF (λc=>by subst c;rw[a] at h1;cases h1;omega)];exact h1
 ·have h1:(h.s.2.set n zD)[m]? =some d0:=h1;by_cases c:n=m
  ·subst c;rw[AG l] at h1;cases h1;exact .inr ⟨.inl rfl,rfl,by decide,by decide⟩
  ·rw[AF c] at h1;exact .inl h1
theorem VZ {s:WD} {f:Int} (g: ∀(n:Nat) (d:DT),f=(n:Int)->s.2[n]? =some d->d.1≠5):ig s f=s/\ju s f≠0:=by
 by_cases e:xk s.2 f=true
 ·have i:0<=f/\f<s.2.length:=by
   have a:=e;unfold xk at a;simp only[Ga,decide_eq_false_iff_not] at a;simp at a;omega
  have b:s.2[f.toNat]? =some s.2[f.toNat]:=B3 (by omega);have h:=g f.toNat _ (by omega) b;have hv:(oH s.2 f).1≠5:=by
   have:=ny b;rw[show((f.toNat:Nat):Int)=f by omega] at this;rw[this];exact h
  unfold ig ju;rw[ao (λc=>hv c.2),e,ao (by decide),av hv];exact⟨rfl,by decide⟩
 ·unfold ig ju;have e:xk s.2 f=false:=by simpa using e
  rw[e,ao (by simp),av rfl];exact⟨rfl,by decide⟩
theorem HI.free (H:HI gh h) (f:Int):HI gh (bA h (ig h.s f))/\(ig h.s f=h.s\/ ∃(n:Nat) (d:DT),f=(n:Int)/\h.s.2[n]? =some d/\d.1=5/\ig h.s f=(h.s.1,h.s.2.set n zD)):=by
 by_cases e: ∃(n:Nat) (d:DT),f=(n:Int)/\h.s.2[n]? =some d/\d.1=5
 ·obtain⟨n,d,rfl,h1,a⟩:=e;obtain⟨b, _,c, _⟩:=H.OM h1 a;rw[b];exact⟨c,.inr ⟨n,d,rfl,h1,a,rfl⟩⟩
 ·obtain⟨b, _⟩:=VZ (s:=h.s) (f:=f) λn d h1 a g=>e ⟨n,d,h1,a,g⟩;rw[b];exact⟨H,.inl rfl⟩
theorem HI.Xj (H:HI gh h): ∀n,HI gh (bA h (dL h.s n).1)
 |0=>H
 |n+1=>((HI.Xj H n).free (n:Int)).1
theorem HI.Gy (H:HI gh h): ∃dA,HI dA (gP h)/\uQ h (gP h) (λ_ q=> ¬ (0<=q/\q<65536)) (-1)/\uK gh dA h.s (gP h).s:=by
 unfold gP;cases hv:mN h.g with
 |none=>exact⟨gh,H,.refl _ _ _,uK.refl _ _⟩
 |some v=>
  dsimp only;by_cases e:rz h.s (v:Int)=0
  case neg=>rw[ao e];exact⟨gh,H,.refl _ _ _,uK.refl _ _⟩
  rw[av e];obtain⟨XL,z, _⟩:=nR.1 hv;have U: ∀f,gh f≠some ((v:Int),3,0):=λf a=>by
   obtain⟨i,x,h1,t⟩:=H.own a;have:i=v:=Ap h1;subst this;rw[z] at t;cases t
  obtain⟨_,J,b2,b3,C,K,D,V,X,E⟩:=H.inv.born (o:=(v:Int)) (by omega) U (vn e);have Y: ∀{f o y k:Int} {l:Nat},gh f=some (o,l,y)->0<=k->k<16->dC (iF h.s (v:Int) λ_=>0).1 (16*f+k)=dC h.s.1 (16*f+k):=λ{f o y k l} a k0 r=>by
   have cY:f≠dX h.s (v:Int):=λc=>by rw[c,J] at a;cases a
   exact D _ (by omega)
  have L: ∀k,0<=k->k<16->aH (iF h.s (v:Int) λ_=>0).1 (16*dX h.s (v:Int)+k)=zE:=λk k0 r=>YK (V k k0 r);generalize (iF h.s (v:Int) λ_=>0)=s' at*
  generalize dX h.s (v:Int)=F at*
  have M: ∀{f o y k:Int} {l:Nat},gh f=some (o,l,y)->0<=k->k<16->aH s'.1 (16*f+k)=aH h.s.1 (16*f+k):=λa k0 r=>by unfold aH;rw[Y a k0 r]
  have A: ∀{f o y:Int} {l:Nat},gh f=some (o,l,y)->mh gh F (some ((v:Int),3,0)) f=some (o,l,y):=λ{f o y l} a=>by
   rw[aX (λc=>by rw[c,J] at a;cases a)];exact a
  have N: ∀{i:Nat} {x:GV},bj h.g v (some ⟨F,[]⟩) i=some x->(i=v/\x=⟨F,[]⟩)\/(i≠v/\h.g i=some x):=λ{i x} n=>by
   unfold bj at n;by_cases c:i=v
   ·rw[av c] at n;cases n;exact .inl ⟨c,rfl⟩
   ·rw[ao c] at n;exact .inr ⟨c,n⟩
  have Z:F.toNat<h.s.2.length:=by omega
  have O: ∀{i:Nat} {p:Int},0<=p/\p<65536->jo {h with s:=s',g:=bj h.g v (some ⟨F,[]⟩)} i p=jo h i p:=λ{i p} b=>by
   by_cases c:i=v
   ·subst c;rw[fH z,bP (h:={h with s:=s',g:=bj h.g i (some ⟨F,[]⟩)}) (x:=⟨F,[]⟩) (fK _ _ _)];show bz s' F false p= _;have P:=L (px 3 p % 16) (dZ p 3).1 (dZ p 3).2;have u:dH (mh gh F (some ((i:Int),3,0))) s' (i:Int) p F 3:=⟨by rw[px4 b];exact bI _ _ _,by rw[P];exact Kb⟩;rw[E.fP (bI _ _ _) b u,P,F1 _ _ rfl]
   ·cases n:h.g i with
    |none=>
     rw[fH n];exact fH (h:={h with s:=s',g:=bj h.g v (some ⟨F,[]⟩)}) (show bj h.g v (some ⟨F,[]⟩) i=none by unfold bj;rw[ao c];exact n) p
    |some x=>
     rw[bP n,bP (h:={h with s:=s',g:=bj h.g v (some ⟨F,[]⟩)}) (x:=x) (show bj h.g v (some ⟨F,[]⟩) i=some x by unfold bj;rw[ao c];exact n)];show bz s' x.root false p= _;obtain⟨f,j, _,u⟩:=H.inv.mv (H.root n) b;have Q:=M u.1 (dZ p j).1 (dZ p j).2;have jy:dH (mh gh F (some ((v:Int),3,0))) s' (i:Int) p f j:=⟨A u.1,by rw[Q];exact u.2⟩;rw[H.inv.fP (H.root n) b u,E.fP (A (H.root n)) b jy,Q]
  have R: ∀(h:HS) {i:Nat} {p:Int},¬ (0<=p/\p<65536)->(jo h i p).2.2.1≠0:=λh {i p} b=>by
   unfold jo;cases h.g i with
   |none=>exact(show ¬ (4:Int)=0 by decide)
   |some x=>dsimp only;rw[Inv.xL b];decide
  have gz:mC {h with s:=s',g:=bj h.g v (some ⟨F,[]⟩)}=mC h:=by
   funext i p;rw[rW,rW];by_cases b:0<=p/\p<65536
   ·rw[O b]
   ·rw[ao (R _ b),ao (R _ b)]
  have kL:lM {h with s:=s',g:=bj h.g v (some ⟨F,[]⟩)}=lM h:=by
   funext i;unfold lM;show(match bj h.g v (some ⟨F,[]⟩) i with|some x=>x.tk|none=>[])= _;unfold bj;by_cases c:i=v
   ·rw[av c,c,z]
   ·rw[ao c]<;>rfl
  have G:h.s.2[F.toNat]? =some zD:=K;have S:uQ h {h with s:=s',g:=bj h.g v (some ⟨F,[]⟩)} (λ_ q=> ¬ (0<=q/\q<65536)) (-1):=by
   refine⟨⟨λhq=>O (Aq hq)⟩,λ{m d d'} h1 I _ _ _ k k0 r=>?_,?_⟩
   ·have hmF:m≠F.toNat:=λc=>by rw[c,G] at h1;cases h1;exact absurd I (by decide)
    exact D _ (by omega)
   ·show KD h.s s';have:=KD.set (s:=h.s) (W:=s'.1) (d1:=((3:Int),(v:Int),(0:Int),(0:Int),())) G (λc=>absurd c (by decide)) (λc=>absurd c (by decide));rw[<-C] at this;exact this
  suffices hh:HI (mh gh F (some ((v:Int),3,0))) {h with s:=s',g:=bj h.g v (some ⟨F,[]⟩)} from⟨_,hh,S,λf w a=> .inl (by
   obtain⟨o,l,x⟩:=w;exact A a),λf c=>c.kd S.kd λk k0 r=>by
   obtain⟨z0,d,T,z2, _⟩:=c;have:f.toNat≠F.toNat:=λe=>by rw[e,G] at T;cases T;exact absurd z2 (by decide)
   exact D _ (by omega)⟩
  refine⟨E,λf o x a=>?_,λf o l x k a k0 r b B=>?_,?_,λ{i x} n=>?_,λ{i x} n=>?_,λ{f o y} a=>?_,?_⟩
  ·by_cases c:f=F
   ·subst c;rw[bI] at a;cases a;rfl
   ·rw[aX c] at a;exact H.rt f o x a
  ·by_cases c:f=F
   ·subst c;have b:(aH s'.1 (16*f+k)).1=true:=b;rw[L k k0 r] at b;cases b
   ·rw[aX c] at a;have b:(aH s'.1 (16*f+k)).1=true:=b;have B:dp (aH s'.1 (16*f+k))=false:=B;rw[M a k0 r] at b B;exact H.nl a k0 r b B
  ·show s'.1.length=16*s'.2.length;rw[X,C,Ae];exact H.sz
  ·rcases N n with ⟨c, _⟩|⟨_,c⟩
   ·omega
   ·exact H.jm c
  ·rcases N n with ⟨c,d⟩|⟨_,c⟩
   ·subst c;subst d;exact bI _ _ _
   ·exact A (H.root c)
  ·by_cases c:f=F
   ·subst c;rw[bI] at a;cases a;exact⟨v, _,rfl,fK _ _ _⟩
   ·rw[aX c] at a;obtain⟨i,x,h1,t⟩:=H.own a;refine⟨i,x,h1,?_⟩;show bj h.g v _ i=some x;unfold bj;rw[ao (λc=>by subst c;rw[z] at t;cases t)];exact t
  ·rw[gz,kL];show HC (mC h) (lM h) s'.2 h.gr;rw[C];refine H.hc.Gv (λ{m d} h1 I=>?_) λ{m d} h1=>?_
   ·rw[AF (λc=>by subst c;rw[K] at h1;cases h1;exact absurd I (by decide))];exact h1
   ·by_cases c:F.toNat=m
    ·subst c;rw[AG Z] at h1;cases h1;exact .inr ⟨.inr (.inl rfl),rfl,by show 0<=(v:Int);omega,by show(v:Int)<=16;omega⟩
    ·rw[AF c] at h1;exact .inl h1
end
theorem tO {ds:List DT} {v:Int} {i:Nat}:i∈fX ds v<-> ∃d,ds[i]? =some d/\d.2.1=v:=by
 unfold fX;rw[B2,Dd];constructor
 ·rintro⟨h1,a⟩;have b:ds[i]? =some ds[i]:=B3 h1;rw[b] at a;exact⟨_,b,by simpa using a⟩
 ·rintro⟨d,h1,a⟩;exact⟨(AH.1 h1).1,by rw[h1];simpa using a⟩
theorem HV (ds:List DT) (v:Int):(fX ds v).Nodup:=List.Pairwise.filter _ GD
theorem zh {v:Int} (hv:1<=v/\v<=16): ∀(l:List Nat) (ds:List DT) (c:Int),l.Nodup->(∀i∈l, ∀d,ds[i]? =some d->d.1=4->d=(4,v,0,0,()))->
 (l.foldl (uX v) (ds,c)).1.length=ds.length/\ ∀n:Nat,((n∈l/\ ∃d,ds[n]? =some d/\d.1=4)->(l.foldl (uX v) (ds,c)).1[n]? =some (5,v,0,0,()))/\(¬ (n∈l/\ ∃d,ds[n]? =some d/\d.1=4)->(l.foldl (uX v) (ds,c)).1[n]? =ds[n]?)
 |[],ds,c, _, _=>⟨rfl,λn=>⟨λh=>(by cases h.1),λ_=>rfl⟩⟩
 |i::l,ds,c,f,m=>by
  rw[Bx] at f;rw[List.foldl_cons];by_cases e:(oH ds (i:Int)).1=4
  ·rw[show uX v (ds,c) i=(dD ds (i:Int) (aO 5 v),c+1) from av e];have hi:i<ds.length:=by
    refine Aq λhc=>?_;unfold oH at e;rw[av (.inr (by omega))] at e;exact absurd e (by decide)
   have g:ds[i]? =some ds[i]:=B3 hi;rw[ny g] at e;have p:=m i BX _ g e;rw[p] at g;rw[(yz (G:=aO 5 v) g (BF hv)).1];obtain⟨h1,b⟩:=zh hv l (ds.set i (5,v,0,0,())) (c+1) f.2 λj k d o q=>by
    have r:i≠j:=λe=>f.1 (by rw[e];exact k);rw[AF r] at o;exact m j (Bs _ k) d o q
   refine⟨h1.trans (Ae ..),λn=>⟨λa=>?_,λa=>?_⟩⟩
   ·by_cases en:i=n
    ·subst en;rw[(b i).2 (λc=>f.1 c.1),AG hi]
    ·refine(b n).1 ⟨?_,?_⟩
     ·rcases C5.1 a.1 with h|h
      ·exact absurd h.symm en
      ·exact h
     ·rw[AF en];exact a.2
   ·have en:i≠n:=λen=>by subst en;exact a ⟨BX, _,g,rfl⟩
    rw[(b n).2 (λc=>a ⟨Bs _ c.1,by rw[AF en] at c;exact c.2⟩),AF en]
  ·rw[show uX v (ds,c) i=(ds,c) from ao e];obtain⟨h1,b⟩:=zh hv l ds c f.2 λj k=>m j (Bs _ k);refine⟨h1,λn=>⟨λa=>(b n).1 ⟨?_,a.2⟩,λa=>(b n).2 λc=>a ⟨Bs _ c.1,c.2⟩⟩⟩;rcases C5.1 a.1 with h|h
   ·subst h;obtain⟨d,s,t⟩:=a.2;rw[ny s] at e;exact absurd t e
   ·exact h
theorem JA {s s':WD} (h:s'.1=s.1) (r:Int) (g:Bool) (p:Int):bz s' r g p=bz s r g p:=by
 unfold bz;rw[h]
section
variable {gh:Gh} {h:HS}
theorem HI.gone (H:HI gh h) {v:Nat} {x:GV} (K:h.g v=some x) (P:lM h v=[]) (Q: ∀n,NY h.s.2 n (v:Int)->eh (lM h) (n:Int)=0): ∃dA,HI dA (vM h (v:Int))/\uQ h (vM h (v:Int)) (λi _=>i=v) (-1)/\(∀(f:Int) (w:Int×Nat×Int),gh f=some w->w.1≠(v:Int)->dA f=some w)/\ ∀f,iH h.s f->iH (vM h (v:Int)).s f:=by
 have hd:=H.jm K;have L:1<=(v:Int)/\(v:Int)<=16:=by omega
 obtain⟨R,W,w1,X,F⟩:=H.inv.dropped H.rt (H.root K);have Y:a6 h.g (v:Int)=x.root:=by
  unfold a6;rw[av (cd.2 ⟨by omega,x,K⟩)];show(match h.g v with|some x=>x.root|none=> -1)= _;rw[K]
 have Z:vM h (v:Int)={s:=((cH h.s x.root false).1,(Ce (cH h.s x.root false).2 (v:Int)).1),g:=bj h.g v none,gr:=cP h.gr (v:Int),po:=(Po.cH 4 h.po (v:Int)).2}:=by
  unfold vM;rw[Y];rfl
 rw[Z];generalize cH h.s x.root false=s1 at*
 have hD4: ∀{n:Nat} {d:DT},s1.2[n]? =some d->d.1=4->h.s.2[n]? =some d:=λ{n d} h1 r=>by
  by_cases e: ∃l y,gh (n:Int)=some ((v:Int),l,y)
  ·rw[(F n).1 e] at h1;cases h1;exact absurd r (show ¬ (5:Int)=4 by decide)
  ·rw[(F n).2 e] at h1;exact h1
 have M: ∀{n:Nat} {d:DT},h.s.2[n]? =some d->d.1=4->s1.2[n]? =some d:=λ{n d} h1 r=>by
  rw[(F n).2 (λ⟨l,y,G⟩=>?_)]
  ·exact h1
  ·have:=(H.inv.kd G).2.2.1;rw[show((n:Int)).toNat=n from rfl,h1] at this;cases this;exact absurd r (show ¬ (3:Int)=4 by decide)
 have mD: ∀i∈fX s1.2 (v:Int), ∀d,s1.2[i]? =some d->d.1=4->d=(4,(v:Int),0,0,()):=λi hi d h1 r=>by
  obtain⟨d',I,J⟩:=tO.1 hi;rw[h1] at I;cases I;have C:=hD4 h1 r;obtain⟨_,D, _⟩:=H.hc.kd C;have E:=H.hc.refs C;rw[Q i ⟨d,C,r,J⟩] at E;obtain⟨a,b,c,e,u⟩:=d;dsimp only at r D E J;rw[r,D,E,J];rfl
 obtain⟨f1,f2⟩:=zh L (fX s1.2 (v:Int)) s1.2 0 (HV _ _) mD;have hoT:(Ce s1.2 (v:Int)).1=((fX s1.2 (v:Int)).foldl (uX (v:Int)) (s1.2,0)).1:=rfl;rw[<-hoT] at f1 f2;generalize (Ce s1.2 (v:Int)).1=j at*
 have B:Inv.fx (Kd gh (v:Int)) s1 (s1.1,j):=by
  refine iN R ⟨rfl,f1⟩ (λb hb=>absurd rfl hb) λ{n d d'} h1 t=>?_;by_cases c:n∈fX s1.2 (v:Int)/\ ∃d,s1.2[n]? =some d/\d.1=4
  ·have t:j[n]? =some d':=t;rw[(f2 n).1 c] at t;cases t;obtain⟨_,d0,D,E⟩:=c;rw[h1] at D;cases D;exact .inr ⟨by rw[E];decide,(show ¬ (5:Int)=3 by decide),λc=>absurd c (show ¬ (5:Int)=0 by decide)⟩
  ·have t:j[n]? =some d':=t;rw[(f2 n).2 c,h1] at t;cases t;exact .inl rfl
 have S: ∀{i:Nat} {y:GV},bj h.g v none i=some y->i≠v/\h.g i=some y:=λ{i y} A=>by
  unfold bj at A;by_cases c:i=v
  ·rw[av c] at A;cases A
  ·rw[ao c] at A;exact⟨c,A⟩
 have N: ∀{i:Nat} {y:GV},i≠v->h.g i=some y->bj h.g v none i=some y:=λ{i y} hi A=>by
  unfold bj;rw[ao hi];exact A
 have acj:lM {s:=(s1.1,j),g:=bj h.g v none,gr:=cP h.gr (v:Int),po:=(Po.cH 4 h.po (v:Int)).2}=lM h:=by
  funext i;unfold lM;show(match bj h.g v none i with|some x=>x.tk|none=>[])= _;unfold bj;by_cases c:i=v
  ·rw[av c];subst c;exact P.symm
  ·rw[ao c]<;>rfl
 have gz:mC {s:=(s1.1,j),g:=bj h.g v none,gr:=cP h.gr (v:Int),po:=(Po.cH 4 h.po (v:Int)).2}=λi p=>if i=v then none else mC h i p:=by
  funext i p;by_cases c:i=v
  ·rw[av c];exact gm (h:={s:=(s1.1,j),g:=bj h.g v none,gr:=cP h.gr (v:Int),po:=(Po.cH 4 h.po (v:Int)).2}) (show bj h.g v none i=none by unfold bj;rw[av c]) p
  ·rw[ao c];cases hi:h.g i with
   |none=>
    rw[gm hi];exact gm (h:={s:=(s1.1,j),g:=bj h.g v none,gr:=cP h.gr (v:Int),po:=(Po.cH 4 h.po (v:Int)).2}) (show bj h.g v none i=none by unfold bj;rw[ao c];exact hi) p
   |some z=>
    rw[cQ hi,cQ (h:={s:=(s1.1,j),g:=bj h.g v none,gr:=cP h.gr (v:Int),po:=(Po.cH 4 h.po (v:Int)).2}) (N c hi)];rw[JA (s:=h.s) (s':=(s1.1,j)) w1]
 have T:uQ h {s:=(s1.1,j),g:=bj h.g v none,gr:=cP h.gr (v:Int),po:=(Po.cH 4 h.po (v:Int)).2} (λi _=>i=v) (-1):=by
  refine⟨⟨λ{i q} c=>?_⟩,λ{m d d'} _ _ _ _ _ k _ _=>by show dC s1.1 _= _;rw[w1],λ{n d} h1 r=>?_,λ{n d} h1 h5=>?_⟩
  ·cases hi:h.g i with
   |none=>
    rw[fH hi];exact fH (h:={s:=(s1.1,j),g:=bj h.g v none,gr:=cP h.gr (v:Int),po:=(Po.cH 4 h.po (v:Int)).2}) (show bj h.g v none i=none by unfold bj;rw[ao c];exact hi) q
   |some z=>
    rw[bP hi,bP (h:={s:=(s1.1,j),g:=bj h.g v none,gr:=cP h.gr (v:Int),po:=(Po.cH 4 h.po (v:Int)).2}) (N c hi)];exact JA (s:=h.s) (s':=(s1.1,j)) w1 _ _ _
  ·have C:=M h1 r;show∃d',j[n]? =some d'/\ _;by_cases c:n∈fX s1.2 (v:Int)/\ ∃d,s1.2[n]? =some d/\d.1=4
   ·exact⟨_,(f2 n).1 c,.inr rfl⟩
   ·exact⟨d,by rw[(f2 n).2 c];exact C,.inl r⟩
  ·show∃d',j[n]? =some d'/\ _;have C: ∃d',s1.2[n]? =some d'/\d'.1=5:=by
    by_cases e: ∃l y,gh (n:Int)=some ((v:Int),l,y)
    ·exact⟨_,(F n).1 e,rfl⟩
    ·exact⟨d,by rw[(F n).2 e];exact h1,h5⟩
   obtain⟨d',D,E⟩:=C;by_cases c:n∈fX s1.2 (v:Int)/\ ∃d,s1.2[n]? =some d/\d.1=4
   ·exact⟨_,(f2 n).1 c,rfl⟩
   ·exact⟨d',by rw[(f2 n).2 c];exact D,E⟩
 suffices hh:HI (Kd gh (v:Int)) {s:=(s1.1,j),g:=bj h.g v none,gr:=cP h.gr (v:Int),po:=(Po.cH 4 h.po (v:Int)).2} from⟨_,hh,T,λf w G hn=>di.2 ⟨G,hn⟩,λf c=>c.kd T.kd λk _ _=>by show dC s1.1 _= _;rw[w1]⟩
 refine⟨R.beside B,W,Inv.m7 B (λf o l y k G k0 I U V=>?_),?_,λ{i y} A=>H.jm (S A).2,λ{i y} A=>?_,λ{f o y} G=>?_,?_⟩
 ·rw[w1] at U V;exact H.nl (di.1 G).1 k0 I U V
 ·show s1.1.length=16*j.length;rw[w1,f1,X];exact H.sz
 ·obtain⟨h1,t⟩:=S A;exact di.2 ⟨H.root t,λc=>h1 (Ap c)⟩
 ·obtain⟨h1,t⟩:=di.1 G;obtain⟨i,y',D,E⟩:=H.own h1;exact⟨i,y',D,N (λc=>t (by show o= _;rw[<-D,c])) E⟩
 ·rw[gz,acj];refine H.hc.gone ⟨by omega,by omega⟩ P (λ{n d} h1 r O=>?_) (λ{n d} h1 r O=>?_) (λ{n d} h1=>?_) (H.hc.gk.drop _)
  ·rw[H.hc.refs h1,Q n ⟨d,h1,r,O⟩];rfl
  ·show j[n]? =some d;rw[(f2 n).2 (λc=>?_)]
   ·exact M h1 r
   ·obtain⟨d',I,J⟩:=tO.1 c.1;rw[M h1 r] at I;cases I;exact O J
  ·have h1:j[n]? =some d:=h1;by_cases c:n∈fX s1.2 (v:Int)/\ ∃d,s1.2[n]? =some d/\d.1=4
   ·rw[(f2 n).1 c] at h1;cases h1;exact .inr ⟨.inr (.inr rfl),rfl,by show 0<=(v:Int);omega,L.2⟩
   ·rw[(f2 n).2 c] at h1;by_cases e: ∃l y,gh (n:Int)=some ((v:Int),l,y)
    ·rw[(F n).1 e] at h1;cases h1;exact .inr ⟨.inr (.inr rfl),rfl,by show 0<=(v:Int);omega,L.2⟩
    ·have C:=h1;rw[(F n).2 e] at h1;exact .inl ⟨h1,λk=>c ⟨tO.2 ⟨d,C,k.2⟩,d,C,k.1⟩⟩
theorem HI.JB (H:HI gh h) (a:Int): ∃dA,HI dA (te h a)/\uQ h (te h a) (λi _=>i=a.toNat) (-1)/\(∀(f:Int) (w:Int×Nat×Int),gh f=some w->w.1≠a->dA f=some w\/iH (te h a).s f)/\ ∀f,iH h.s f->iH (te h a).s f:=by
 unfold te;by_cases k:aV h.g a=true
 case neg=>rw[ao k];exact⟨gh,H,.refl _ _ _,λ_ _ h _=> .inl h,λ_ h=>h⟩
 rw[av k];by_cases hb:tu h.s.2 a=true
 case pos=>rw[av hb];exact⟨gh,H,.refl _ _ _,λ_ _ h _=> .inl h,λ_ h=>h⟩
 rw[ao hb];obtain⟨x,l,M,hv,N,O⟩:=bZ k;obtain⟨v,rfl⟩: ∃v:Nat,a=(v:Int):=⟨a.toNat,hv.symm⟩;have l:h.g v=some x:=l;obtain⟨g1,u,⟨x1,y⟩,p,z,A,B,r⟩:=HI.fa (vC h (v:Int)).length H ⟨x,l⟩ rfl
 suffices C: ∀n,NY (_root_.Go.Proofs.YtlcenllcmeebhaaGreat.fa (v:Int) (vC h (v:Int)).length h).s.2 n (v:Int)->eh (lM (_root_.Go.Proofs.YtlcenllcmeebhaaGreat.fa (v:Int) (vC h (v:Int)).length h)) (n:Int)=0 by
  obtain⟨D,E,E2,b,m⟩:=u.gone y p C;exact⟨D,E,B.trans E2,λf w F o=>(r.1 f w F).imp (λe=>b f w e o) (m f),λf c=>m f (r.2 f c)⟩
 intro n o;rcases Cd (eh (lM (_root_.Go.Proofs.YtlcenllcmeebhaaGreat.fa (v:Int) (vC h (v:Int)).length h)) (n:Int)) with e|e
 ·exact e
 ·obtain⟨i,t,hi,j,G⟩:=zg e;have I:i≠v:=λc=>by rw[c,p] at j;cases j
  have J:t∈lM h i:=by
   unfold lM at j ⊢;rw[z i I] at j;exact j
  obtain⟨d,b,m,K⟩:=(A n (v:Int)).1 o;have P:=nM (q:=λt=>t.2.2==(n:Int)) hi J G;have L:=H.hc.refs b;refine absurd ?_ hb;unfold tu;refine FU.2 ⟨n,tO.2 ⟨d,b,K⟩,?_⟩;rw[ny b];have:d.2.2.1>0:=by rw[L];unfold eh;omega
  simpa using this
end
theorem zN (o pg:Int): ∀(n:Nat) (x:WD×PT),(qQ o pg n x).1.1.length=x.1.1.length
 |0,x=>rfl
 |n+1,x=>by
  rw[qQ,zN o pg n];exact xH _ _ _ _ _
theorem MZ (s:WD) (o r pg lv:Int) (e:ET):(rH s o r pg lv e).1.length=s.1.length:=by
 unfold rH;split
 ·show(cW _ _ _).length= _;rw[cG,zN]
 ·rfl
theorem qu (s:WD) (o r:Int) (gone:Bool) (pg f rt:Int):(jB s o r gone pg f rt).1.length=s.1.length:=by
 unfold jB;split
 ·rfl
 ·split
  ·exact MZ _ _ _ _ _ _
  ·rfl
theorem M6 (s:WD) (o r:Int) (gone:Bool) (pg rt:Int):(rI s o r gone pg rt).1.length=s.1.length:=by
 unfold rI;split
 ·rfl
 split
 ·split
  ·split
   ·rfl
   ·split
    ·show(cW _ _ _).length= _;rw[cG,tM]
    ·exact tM _ _ _ _
  ·rfl
 ·rfl
theorem SC (s:WD) (r:Int) (gone:Bool):(cH s r gone).1=s.1:=by
 unfold cH;split<;>rfl
theorem BH (v:Int): ∀(n:Nat) (h:HS),(fa v n h).s.1.length=h.s.1.length
 |0,h=>rfl
 |n+1,h=>by
  rw[fa,BH v n];exact tN _ _ _ _ _
theorem V2 (h:HS) (v k a b c:Int):(run h v k a b c).1.s.1.length=h.s.1.length:=by
 unfold run;split
 ·show(gP h).s.1.length= _;unfold gP;split
  ·rfl
  ·split
   ·exact Jq _ _ _
   ·rfl
 ·show(te h a).s.1.length= _;unfold te;split
  ·split
   ·rfl
   ·show(cH _ _ _).1.length= _;rw[SC,BH]
  ·rfl
 ·show(jR h v a b).s.1.length= _;unfold jR;split
  ·rfl
  split
  ·rfl
  split
  ·rfl
  split
  ·exact qu _ _ _ _ _ _ _
  ·exact(gJ _ _ _ _).trans (qu _ _ _ _ _ _ _)
 ·show(qG h v a).s.1.length= _;unfold qG;split
  ·exact tN _ _ _ _ _
  ·rfl
 ·show(jW h v a b).s.1.length= _;unfold jW;split
  ·rfl
  split
  ·rfl
  split
  ·rfl
  ·exact M6 _ _ _ _ _ _
 ·rfl
 ·show(kj h v a b).s.1.length= _;unfold kj;split
  ·rfl
  ·exact cG _ _ _
 ·show(iD h v a b c).s.1.length= _;unfold iD;split<;>rfl
 ·show(jv h v a b c).s.1.length= _;unfold jv;split
  ·rfl
  split
  ·exact qu _ _ _ _ _ _ _
  ·exact qu _ _ _ _ _ _ _
 ·show(gV h v a).s.1.length= _;unfold gV;split
  ·rfl
  split
  ·exact tN _ _ _ _ _
  ·rfl
 ·show(fW h v a).s.1.length= _;unfold fW;split<;>rfl
 ·show(lW h v a).s.1.length= _;unfold lW;split<;>rfl
 ·show(lX h v a b).s.1.length= _;unfold lX;split
  ·rfl
  split<;>rfl
 ·show(lV h v a).s.1.length= _;unfold lV;split<;>rfl
 ·rfl
 ·show(jc h v a).s.1.length= _;unfold jc;split<;>rfl
 ·show(dL h.s _).1.1.length= _;rw[(By h.s _).1]
theorem PH (h:HS) (v k a b c:Int):(kU h v k a b c).s.1.length=h.s.1.length:=by
 unfold kU;split
 ·exact V2 _ _ _ _ _ _
 ·rfl
theorem Ct {h:HS} {v k a b c:Int} (f:iY h v k a b c=0):(1<=k/\k<=17)/\(uW k=false->aV h.g v=true)/\iC k a b c=true:=by
 unfold iY at f;split at f
 ·exact absurd f (by decide)
 rename_i d1;split at f
 ·exact absurd f (by decide)
 rename_i j;split at f
 ·exact absurd f (by decide)
 rename_i d;have i:iC k a b c=true:=by
  cases e:iC k a b c with
  |true=>rfl
  |false=>rw[e] at d1;simp at d1
 have d0: ¬ v<0:=λe=>d1 (by simp[e]);refine⟨?_,λe=>?_,i⟩
 ·unfold iC at i;rw[DA,decide_eq_true_eq] at i;have d1:=i.1;unfold jV at d1;by_cases e:1<=k/\k<=17
  ·exact e
  ·rw[ao e] at d1;exact absurd d1 (by decide)
 ·rw[e] at j;have m:v≠0:=by
   intro l;rw[l] at j;exact absurd rfl j
  have:decide (v>0)=true:=decide_eq_true (by omega);rw[this,Bool.true_and] at d;simpa using d
section
variable {gh:Gh} {h:HS}
theorem HI.run (H:HI gh h) {v k a b c:Int} (i:1<=k/\k<=17) (d:uW k=false->aV h.g v=true) (f:0<=a): ∃dA,HI dA (run h v k a b c).1:=by
 have:k=1\/k=2\/k=3\/k=4\/k=5\/k=6\/k=7\/k=8\/k=9\/k=10\/k=11\/k=12\/k=13\/k=14\/k=15\/k=16\/k=17:=by omega
 rcases this with rfl|rfl|rfl|rfl|rfl|rfl|rfl|rfl|rfl|rfl|rfl|rfl|rfl|rfl|rfl|rfl|rfl
 ·obtain⟨g',e, _⟩:=H.Gy;exact⟨g',e⟩
 ·obtain⟨g',e, _⟩:=H.JB a;exact⟨g',e⟩
 ·exact H.Gw (d rfl) a b
 ·exact H.CJ (d rfl) a
 ·exact H.tx (d rfl) a b
 ·exact⟨gh,H⟩
 ·exact⟨gh,(H.store (d rfl) f b).1⟩
 ·exact⟨gh,H.offer v a b c⟩
 ·exact H.take (d rfl) a b c
 ·exact H.back (d rfl) a
 ·exact⟨gh,H.ZU v a⟩
 ·refine⟨gh,?_⟩;show HI gh (lW h v a);unfold lW;split
  ·exact H.po _
  ·exact H
 ·refine⟨gh,?_⟩;show HI gh (lX h v a b);unfold lX;split
  ·exact H
  split
  ·exact H.po _
  ·exact H
 ·refine⟨gh,?_⟩;show HI gh (lV h v a);unfold lV;split
  ·exact H
  ·exact H.po _
 ·exact⟨gh,H.po _⟩
 ·refine⟨gh,?_⟩;show HI gh (jc h v a);unfold jc;split
  ·exact H
  ·exact H.po _
 ·exact⟨gh,H.Xj _⟩
theorem HI.step (H:HI gh h) (v k:Int) {a:Int} (b c:Int) (e:0<=a): ∃dA,HI dA (kU h v k a b c):=by
 unfold kU;by_cases d:iY h v k a b c=0
 ·rw[av d];obtain⟨h1,f, _⟩:=Ct d;exact H.run h1 f e
 ·rw[ao d];exact⟨gh,H⟩
end
theorem HI.new {n:Nat} (r:4<=n/\n<=4096):HI noG (h0 n) where
 inv:=Mg (F4 _) r.2
 rt:=λf o x h=>(by cases h)
 nl:=λf o l x i h=>(by cases h)
 sz:=by
  show(Cc (16*n) (0:Int)).length=16*(Cc n zD).length;rw[FV,FV]
 jm:=λh=>(by cases h)
 root:=λh=>(by cases h)
 own:=λh=>(by cases h)
 hc:=by
  have b: ∀i p,mC (h0 n) i p=none:=λi p=>rfl;have c: ∀i,lM (h0 n) i=[]:=λi=>rfl;have e: ∀{m:Nat} {d:DT},(Cc n zD)[m]? =some d->d=zD:=λ{m d} h=>GF (B5 h);have s: ∀{m:Nat} {x:GT},(Cc 16 zG)[m]? =some x->x=zG:=λ{m d} h=>GF (B5 h);have g: ∀q,ni (lM (h0 n)) q=0:=λq=>BD λi t j=>by rw[c i] at j;cases j
  refine⟨λh=>?_,λ{m d} h=>?_,λ{m d} h k=>?_,λh=>?_,λ{i p a f} h=>?_,λi=>?_,λh=>?_,λ{m d} h=>?_,λ{m x} h=>?_,FV,n6.new 16⟩
  ·rw[b] at h;cases h
  ·rw[e h];decide
  ·rw[e h] at k;exact absurd k (by decide)
  ·rw[b] at h;cases h
  ·rw[c i] at h;unfold cg at h;simp at h
  ·rw[c i];exact List.nodup_nil
  ·rw[b] at h;cases h
  ·rw[e h];unfold eh;rw[g];rfl
  ·rw[s h];unfold mO;rw[g];rfl
def jx (h h':HS):Prop:=h'.s=h.s/\h'.g=h.g
section
variable {gh:Gh} {h:HS} {v k a b c:Int}
theorem jx.refl:jx h h:=⟨rfl,rfl⟩
theorem SD (H:HI gh h) (j:1<=k/\k<=17) (f:uW k=false->aV h.g v=true) (d:(run h v k a b c).2.2≠0):jx h (run h v k a b c).1:=by
 have:k=1\/k=2\/k=3\/k=4\/k=5\/k=6\/k=7\/k=8\/k=9\/k=10\/k=11\/k=12\/k=13\/k=14\/k=15\/k=16\/k=17:=by omega
 rcases this with rfl|rfl|rfl|rfl|rfl|rfl|rfl|rfl|rfl|rfl|rfl|rfl|rfl|rfl|rfl|rfl|rfl
 ·have d:o7 h≠0:=d;show jx h (gP h);unfold o7 at d;unfold gP;cases i:mN h.g with
  |none=>exact .refl
  |some n=>
   rw[i] at d;dsimp only at d ⊢;rw[ao d];exact .refl
 ·have d:F3 h a≠0:=d;show jx h (te h a);unfold F3 at d;unfold te;split
  ·rename_i c1;rw[av c1] at d;split
   ·exact .refl
   ·rename_i c2;rw[ao c2] at d;exact absurd rfl d
  ·exact .refl
 ·have d:qI h v a b≠0:=λe=>d (by show(yc h v a b).2=0;unfold yc;rw[av e]);show jx h (jR h v a b);rw[H.PC (f rfl) d];exact .refl
 ·have d:(Cb h v a).2≠0:=d;show jx h (qG h v a);unfold Cb at d;unfold qG;split
  ·rename_i c1;rw[av c1] at d;exact absurd rfl d
  ·exact .refl
 ·have d:oY h v a b≠0:=d;show jx h (jW h v a b);rw[HI.Jt d];exact .refl
 ·exact .refl
 ·have d:rV h v a≠0:=d;show jx h (kj h v a b);unfold rV at d;unfold kj;split
  ·exact .refl
  rename_i c1;rw[ao c1] at d;refine⟨?_,rfl⟩;show(cW h.s.1 _ b,h.s.2)=h.s;unfold BT at d;rw[show cW h.s.1 (iI h v a 2).1 b=h.s.1 from ao λe=>d (av e)]
 ·show jx h (iD h v a b c);unfold iD;split
  ·exact⟨rfl,rfl⟩
  ·exact .refl
 ·have d:nh h v a b c≠0:=d;show jx h (jv h v a b c);rw[H.PF (f rfl) d];exact .refl
 ·have d:oZ h v a≠0:=d;show jx h (gV h v a);rw[Jz d];exact .refl
 ·show jx h (fW h v a);unfold fW;split
  ·exact .refl
  ·exact⟨rfl,rfl⟩
 ·show jx h (lW h v a);unfold lW;split
  ·exact⟨rfl,rfl⟩
  ·exact .refl
 ·show jx h (lX h v a b);unfold lX;split
  ·exact .refl
  split
  ·exact⟨rfl,rfl⟩
  ·exact .refl
 ·show jx h (lV h v a);unfold lV;split
  ·exact .refl
  ·exact⟨rfl,rfl⟩
 ·exact⟨rfl,rfl⟩
 ·show jx h (jc h v a);unfold jc;split
  ·exact .refl
  ·exact⟨rfl,rfl⟩
 ·exact absurd rfl d
theorem HI.fail (H:HI gh h) (e:sM h v k a b c≠0):jx h (kU h v k a b c)/\xY h v k a b c=0:=by
 unfold sM at e;unfold kU xY;by_cases d:iY h v k a b c=0
 ·rw[av d] at e ⊢;rw[av d,ao e];obtain⟨h1,f, _⟩:=Ct d;exact⟨SD H h1 f e,rfl⟩
 ·rw[ao d,ao d];exact⟨.refl,rfl⟩
end
theorem V3 {h:HS} {v:Int} (a:aV h.g v=true) (p:Int):fq h.g h.s v p=jo h v.toNat p:=by unfold fq jo;rw[av a];cases h.g v.toNat<;>rfl
section
variable {gh dA:Gh} {h:HS}
structure acL (h h':HS) (f o b:Int):Prop where
 g:h'.g=h.g
 gr:h'.gr=h.gr
 po:h'.po=h.po
 pg: ∀{i:Nat} {q:Int},jo h' i q=jo h i q
 ds:h'.s.2=h.s.2
 ld: ∀q,dC h'.s.1 q=if q=16*f+o then b else dC h.s.1 q
end
section
variable {gh:Gh} {h:HS} {v k a b c:Int} {l:List Int}
theorem Gz (d:iY h v k a b c=0):kU h v k a b c=(run h v k a b c).1/\sM h v k a b c=(run h v k a b c).2.2/\xY h v k a b c=if(run h v k a b c).2.2=0 then(run h v k a b c).2.1 else 0:=by
 unfold kU sM xY;rw[av d,av d,av d];exact⟨rfl,rfl,rfl⟩
structure WS (h:HS) (v:Int) (l:List Int):Prop where
 hi: ∃gh,HI gh h
 lv:aV h.g 1=true
 tk:lM h 1=[]
 ct:4*12<=cq h.s.2 0+4*l.length
 pg: ∀a∈l, ∃f,jo h 1 a=(f,3,0,())/\dC h.s.1 (16*f+3)=aJ .u64 v a/\dC h.s.1 (16*f+4)=0
 no: ∀a,(jo h 1 a).2.2.1=0->a∈l
end
section
variable {gh:Gh} {h:HS} {v k a b c:Int}
theorem EB {g:Nat->Option GV} {n i:Nat} {f:GV->GV}:(bj g n (match g n with|some x=>some (f x)|none=>none) i).isSome=(g i).isSome/\(i≠n->bj g n (match g n with|some x=>some (f x)|none=>none) i=g i):=by
 unfold bj;by_cases e:i=n
 ·rw[av e];subst e;refine⟨by cases g i<;>rfl,λc=>absurd rfl c⟩
 ·rw[ao e];exact⟨rfl,λ_=>rfl⟩
theorem abA (h:HS) (v a b:Int):(jR h v a b).g=h.g:=by
 unfold jR;split
 ·rfl
 split
 ·rfl
 split
 ·rfl
 split
 ·rfl
 ·rfl
theorem V4 (d:1<=k/\k<=17) (hc:uW k=false) (i:Nat):((run h v k a b c).1.g i).isSome=(h.g i).isSome:=by
 have:k=1\/k=2\/k=3\/k=4\/k=5\/k=6\/k=7\/k=8\/k=9\/k=10\/k=11\/k=12\/k=13\/k=14\/k=15\/k=16\/k=17:=by omega
 rcases this with rfl|rfl|rfl|rfl|rfl|rfl|rfl|rfl|rfl|rfl|rfl|rfl|rfl|rfl|rfl|rfl|rfl
 ·cases hc
 ·cases hc
 ·show((jR h v a b).g i).isSome= _;rw[abA]
 ·show((qG h v a).g i).isSome= _;unfold qG;split<;>rfl
 ·show((jW h v a b).g i).isSome= _;unfold jW;split
  ·rfl
  split
  ·rfl
  split<;>rfl
 ·rfl
 ·show((kj h v a b).g i).isSome= _;unfold kj;split<;>rfl
 ·show((iD h v a b c).g i).isSome= _;unfold iD;split<;>rfl
 ·show((jv h v a b c).g i).isSome= _;unfold jv;split
  ·rfl
  split
  ·exact EB.1
  ·rfl
 ·show((gV h v a).g i).isSome= _;unfold gV;split
  ·rfl
  split
  ·exact EB.1
  ·rfl
 ·show((fW h v a).g i).isSome= _;unfold fW;split<;>rfl
 ·show((lW h v a).g i).isSome= _;unfold lW;split<;>rfl
 ·show((lX h v a b).g i).isSome= _;unfold lX;split
  ·rfl
  split<;>rfl
 ·show((lV h v a).g i).isSome= _;unfold lV;split<;>rfl
 ·rfl
 ·show((jc h v a).g i).isSome= _;unfold jc;split<;>rfl
 ·cases hc
structure LS (n:Nat) (h:HS):Prop where
 hi: ∃gh,HI gh h
 g1: ∃x,h.g 1=some x
 go: ∀i,i≠1->h.g i=none
 ln:h.s.2.length=n
end
abbrev LT:Type:=Int×Int×Int×Int×Unit
abbrev AK:Type:=Int×Int×Int×Unit
abbrev CT:Type:=Int×Int×Int×Int×Unit
abbrev MT:Type:=Int×Int×Int×CT×Int×Int
def Cg (t p:Int) (l:LT):Bool:=l.1==t&&l.2.1==p
def Cu (ls:List LT) (t p:Int):List LT:=ls.filter λl=> !Cg t p l
def V5 (ls:List LT) (t:Int):List LT:=ls.filter λl=> !(l.1==t)
def js (ls:List LT) (t p:Int):List LT:=if p= -1 then V5 ls t else Cu ls t p
def o8 (ls:List LT) (sz:Int) (l:LT):List LT:=
 (if ls.any (Cg l.1 l.2.1)=true then Cu ls l.1 l.2.1 else if(ls.length:Int)=sz then ls.drop 1 else ls)++[l]
def mP (ls:List LT) (t p w:Int):Int×Int:=match ls.find? (Cg t p) with
 |none=>(0,4)
 |some l=>if w<0\/w>7\/gF .i64 w l.2.2.2.1≠0 then(0,7) else(l.2.2.1,0)
structure vD where
 now:Int
 pins:List Int
 ws:List (Int×Int)
def Au (e:vD) (n:Nat):vD:=if e.pins.getD n 0= -1 then{e with pins:=e.pins.set n e.now} else e
def rL (e:vD) (n:Nat):vD:={e with pins:=e.pins.set n (-1)}
def k8 (e:vD) (f:Int):vD:=if e.ws.any (λx=>x.1==f)=true then e else{e with ws:=(f,e.now)::e.ws}
def ft (e:vD):vD:=if e.pins.all (λp=>p== -1||p==e.now)=true then{e with now:=e.now+1} else e
def oE (e:vD):List Int:=mJ ((e.ws.filter λx=>decide (x.2+2<=e.now)).map (·.1))
def Ci (e:vD):vD:={e with ws:=e.ws.filter λx=> !decide (x.2+2<=e.now)}
structure bW where
 ls:List LT
 ph:Int
 vm:Int
 c:CT
 wk:Int×Int×FT
 fr:Int
 rs:Int×Int
 ak:Int
 fs:List Int
def cC (ls:List LT):bW:=⟨ls,0,0,(0,0,0,0,()),(0,0,(0,0,0,0,())),0,(0,0),0,[]⟩
structure MS where
 h:HS
 ep:vD
 bx:List (List AK)
 op:List Int
 cs:List bW
 kn:List Int
 ms:List MT
 sz:Int
def a9 (k:Int):Int:=if k=6 then 1 else if k=7 then 2 else 0
def mi (h:HS) (x:bW):Bool:=decide (a9 x.c.1>0)&&(aV h.g x.vm&&(iC x.c.1 x.c.2.1 x.c.2.2.1 x.c.2.2.2.1&&decide (x.c.2.1<1048576)))
def qJ (s:MS) (n:Nat) (x:bW):Bool:=(BO s.cs.length).any λi=>match s.cs[i]? with
 |none=>false
 |some y=>decide (i≠n/\x.vm=0)&&((x.c.1==1&&(y.ph==4&&y.c.1==2))||(x.c.1==2&&(decide (y.ph>=2)&&(decide (y.vm>0)&&y.vm==x.c.2.1))))
def ik (s:MS) (f:Int):MS:={s with h:=bA s.h (ig s.h.s f),kn:=s.kn.filter (λx=> !(x==f)),ms:=s.ms++[(2,0,f,(0,0,0,0,()),0,0)]}
def dO (s:MS):MS×Nat:=((oE (ft s.ep)).foldl ik {s with ep:=Ci (ft s.ep)},(oE (ft s.ep)).length)
def eV (s:MS) (h':HS):List Int:=((BO h'.s.2.length).map λ(f:Nat)=>(f:Int)).filter λf=>(oH h'.s.2 f).1==5&& !s.kn.contains f
def cj (s:MS) (n:Nat) (x:bW):MS:={s with cs:=s.cs.set n x}
def dy (bx:List (List AK)) (op:List Int) (n:Nat) (t p:Int):Int×List (List AK)×List Int:=
 if t<1\/t>16\/p< -1\/p>=65536 then(0,bx,op)
 else if(bx.eraseIdx n).any (λq=>q.length==16)=true then(0,bx,op)
 else((op.length:Int)+1,(bx.zipIdx.map λ(q,i)=>if i=n then q else q++[((op.length:Int)+1,t,p,())]),op++[(bx.length:Int) - 1])
abbrev St:Type:=MS×(Int×Int)×Bool
def iJ (s:MS) (n:Nat) (x:bW):St:=
 let h':=kU s.h x.vm x.c.1 x.c.2.1 x.c.2.2.1 x.c.2.2.2.1
 let V:=xY s.h x.vm x.c.1 x.c.2.1 x.c.2.2.1 x.c.2.2.2.1
 let E:=sM s.h x.vm x.c.1 x.c.2.1 x.c.2.2.1 x.c.2.2.2.1
 let fs:=eV s h'
 let s1:MS:={s with h:=h',kn:=s.kn++fs,ms:=s.ms++[(1,x.vm,0,x.c,V,E)]}
 let x1:bW:={x with rs:=(V,E),fs:=fs}
 if x.c.1=2\/x.c.1=4\/x.c.1=5\/x.c.1=10 then
  if E≠0 then(cj s1 n x1,(V,E),true)
  else
   let t:=if x.c.1=2 then aF .i64 x.c.2.1 else x.vm
   let p:=if x.c.1=2 then -1 else aF .i64 x.c.2.1
   let q:=dy s.bx s.op n t p
   (cj {s1 with bx:=q.2.1,op:=q.2.2} n {x1 with ls:=js x.ls t p,ak:=q.1,ph:=4},(0,0),false)
 else(cj s1 n x1,(V,E),true)
def dB (s:MS) (n:Nat) (x:bW):St:=
 if mi s.h x=true then
  let e:=Au s.ep n
  let a:=mP x.ls x.vm (x.c.2.1 / 16) (a9 x.c.1)
  if a.2=0 then(cj {s with ep:=e} n {x with ph:=3,fr:=a.1},(0,0),false)
  else(cj {s with ep:=e} n {x with ph:=2,wk:=lK s.h.s.1 (a6 s.h.g x.vm) (x.c.2.1 / 16) (a9 x.c.1) 0},(0,0),false)
 else if qJ s n x=true then(s,(0,9),true)
 else if x.vm=0/\x.c=(17,0,0,0,()) then((dO s).1,(((dO s).2:Nat),0),true)
 else iJ s n x
def lx (s:MS) (n:Nat) (x:bW):St:=
 let w:=bE s.h.s.1 (x.c.2.1 / 16) (a9 x.c.1) x.wk
 let x1:bW:={x with wk:=w}
 if w.2.1≠ -1 then(cj s n x1,(0,0),false)
 else if w.2.2.2.2.2.1≠0 then(cj {s with ep:=rL s.ep n} n x1,(0,w.2.2.2.2.2.1),true)
 else(cj s n {x1 with ls:=o8 x.ls s.sz (x.vm,x.c.2.1 / 16,w.2.2.1,w.2.2.2.1,()),ph:=3,fr:=w.2.2.1},(0,0),false)
def gi (s:MS) (n:Nat) (x:bW):St:=
 let at_:=16*x.fr+x.c.2.1 % 16
 if x.c.1=7 then({s with h:=bA s.h (cW s.h.s.1 at_ x.c.2.2.1,s.h.s.2),ep:=rL s.ep n,ms:=s.ms++[(4,0,at_,(0,0,0,0,()),x.c.2.2.1,0)]},(0,0),true)
 else({s with ep:=rL s.ep n,ms:=s.ms++[(3,0,at_,(0,0,0,0,()),dC s.h.s.1 at_,0)]},(dC s.h.s.1 at_,0),true)
def yA (s:MS) (a:Int):Bool:=decide (1<=a/\a<=(s.op.length:Int))&&s.op.getD (a - 1).toNat 0==0
def iK (s:MS) (x:bW):St:=if yA s x.ak=true then({s with ep:=x.fs.foldl k8 s.ep},x.rs,true) else(s,(0,0),false)
def bS (s:MS) (n:Nat) (x:bW):St:=
 if x.ph=0 then((dO s).1,(0,0),false)
 else if x.ph=1 then dB s n x
 else if x.ph=2 then lx s n x
 else if x.ph=3 then gi s n x
 else iK s x
def iV (r:St) (n:Nat) (x:bW):St:=if r.2.2=true then(cj r.1 n (cC ((r.1.cs.getD n x).ls)),r.2.1,true) else(r.1,(0,0),false)
def ye (s:MS) (n:Nat):Option (AK×MS):=match s.bx[n]? with
 |some (a::q)=>some (a,{s with bx:=s.bx.set n q,op:=s.op.set (a.1 - 1).toNat (s.op.getD (a.1 - 1).toNat 0 - 1)})
 | _=>none
def lY (s:MS) (n:Nat) (x:bW):St:=
 if x.ph=3 then iV (bS s n x) n x
 else match ye s n with
  |some (a,s1)=>(cj s1 n {x with ls:=js x.ls a.2.1 a.2.2.1},(0,0),false)
  |none=>iV (bS s n x) n x
def bh (s:MS) (n:Int):St:=if n<0 then(s,(0,0),false) else match s.cs[n.toNat]? with
 |none=>(s,(0,0),false)
 |some x=>lY s n.toNat x
def qK (s:MS) (n:Int):Int:=if n<0 then 2 else match s.cs[n.toNat]? with
 |none=>2
 |some x=>if x.ph=0 then 0 else 9
def eM (s:MS) (n vm:Int) (c:CT):MS:=if n<0 then s else match s.cs[n.toNat]? with
 |none=>s
 |some x=>if x.ph=0 then cj s n.toNat {x with ph:=1,vm:=vm,c:=c} else s
def m0 (b a:Nat) (c:Int):MS where
 h:=h0 b
 ep:=⟨0,Cc a (-1),[]⟩
 bx:=Cc a []
 op:=[]
 cs:=Cc a (cC [])
 kn:=[]
 ms:=[]
 sz:=c
section
variable {gh:Gh} {h:HS} {v k a b c:Int}
end
abbrev cL (a:Int):Prop:=0<=a/\a<18446744073709551616
structure MA (n:Nat) (s:MS):Prop where
 hi: ∃gh,HI gh s.h
 nn:1<=n/\n<=8
 lc:s.cs.length=n
 lb:s.bx.length=n
 lp:s.ep.pins.length=n
 sz:1<=s.sz/\s.sz<=64
 ph: ∀x∈s.cs,0<=x.ph/\x.ph<=4
 ar: ∀x∈s.cs,cL x.c.2.1/\cL x.c.2.2.1/\cL x.c.2.2.2.1
 tl: ∀x∈s.cs,(x.ls.length:Int)<=s.sz
 k5: ∀f∈s.kn, ∃(m:Nat) (d:DT),f=(m:Int)/\s.h.s.2[m]? =some d/\d.1=5
 nk:s.kn.Nodup
 wk: ∀e∈s.ep.ws,e.1∈s.kn
 wn:(s.ep.ws.map (·.1)).Nodup
 fk: ∀x∈s.cs,x.ph=4-> ∀f∈x.fs,f∈s.kn/\f∉s.ep.ws.map (·.1)
 fn: ∀x∈s.cs,x.ph=4->x.fs.Nodup
 fd: ∀{i j:Nat} {x y:bW},s.cs[i]? =some x->s.cs[j]? =some y->i≠j->x.ph=4->y.ph=4-> ∀f∈x.fs,f∉y.fs
 ln: ∀x∈s.cs, ∀l∈x.ls, ∃m:Nat,l.2.2.1=(m:Int)/\m<s.h.s.2.length
 rc: ∀x∈s.cs,x.ph=3-> ∃m:Nat,x.fr=(m:Int)/\m<s.h.s.2.length
 wl: ∀x∈s.cs,x.ph=2->0<=x.wk.2.1/\x.wk.2.1<=3
 ak: ∀q∈s.bx, ∀a∈q,1<=a.1/\a.1<=(s.op.length:Int)
 bl: ∀q∈s.bx,q.length<=16
def mtA (a:AK) (t p:Int):Prop:=a.2.1=t/\(a.2.2.1= -1\/a.2.2.1=p)
def rM (s:MS) (i:Nat) (f:Int):Prop:=(∃(z:Nat) (y:bW),s.cs[z]? =some y/\y.ph=4/\f∈y.fs)\/ ∃e∈s.ep.ws,e.1=f/\s.ep.pins.getD i 0<=e.2
def Dx (ta:Int->Bool) (s:MS) (i:Nat) (l:LT):Prop:=
 (1<=l.1/\l.1<=16/\0<=l.2.1/\l.2.1<65536)/\ ∃(m:Nat) (d:DT),l.2.2.1=(m:Int)/\s.h.s.2[m]? =some d/\
  ((d.1=4/\jo s.h l.1.toNat l.2.1=(l.2.2.1,l.2.2.2.1,0,()))\/
    ((d.1=4\/d.1=5)/\ ∃q a,s.bx[i]? =some q/\a∈q/\mtA a l.1 l.2.1/\
      (d.1=5->ta l.2.2.1=false/\ ∃(z:Nat) (y:bW), ∃b∈q,s.cs[z]? =some y/\y.ph=4/\l.2.2.1∈y.fs/\b.1=y.ak/\a.1<=b.1)))
def Dy (gh:Gh) (ta:Int->Bool) (s:MS) (i:Nat) (x:bW):Prop:=
 ∃l:Nat,x.wk.2.1=(l:Int)/\l<=3/\x.wk.2.2=(0,0,0,0,())/\(gh x.wk.1=some (x.vm,l,px (l+1) (x.c.2.1 / 16))\/(iH s.h.s x.wk.1/\rM s i x.wk.1/\ta x.wk.1=true))
def Av (ta:Int->Bool) (s:MS) (i:Nat) (f:Int):Prop:=
 ∃(m:Nat) (d:DT),f=(m:Int)/\s.h.s.2[m]? =some d/\(d.1=4\/(d.1=5/\rM s i f/\ta f=false))
def Aw (y:bW):Int:=if y.c.1=2 then y.c.2.1 else y.vm
def Ax (y:bW):Int:=if y.c.1=2 then -1 else y.c.2.1
def jD (q:List AK) (id:Int):Bool:=q.any λa=>a.1==id
structure MI (gh:Gh) (ta:Int->Bool) (n:Nat) (s:MS):Prop where
 hi:HI gh s.h
 nn:1<=n/\n<=8
 lc:s.cs.length=n
 lb:s.bx.length=n
 lp:s.ep.pins.length=n
 sz:1<=s.sz/\s.sz<=64
 ph: ∀x∈s.cs,0<=x.ph/\x.ph<=4
 ar: ∀x∈s.cs,cL x.c.2.1/\cL x.c.2.2.1/\cL x.c.2.2.2.1
 tl: ∀x∈s.cs,(x.ls.length:Int)<=s.sz
 k5: ∀f∈s.kn, ∃(m:Nat) (d:DT),f=(m:Int)/\s.h.s.2[m]? =some d/\d.1=5
 nk:s.kn.Nodup
 wk: ∀e∈s.ep.ws,e.1∈s.kn/\0<=e.2/\e.2<=s.ep.now
 wn:(s.ep.ws.map (·.1)).Nodup
 fk: ∀x∈s.cs,x.ph=4-> ∀f∈x.fs,f∈s.kn/\f∉s.ep.ws.map (·.1)
 fn: ∀x∈s.cs,x.ph=4->x.fs.Nodup
 fd: ∀{i j:Nat} {x y:bW},s.cs[i]? =some x->s.cs[j]? =some y->i≠j->x.ph=4->y.ph=4-> ∀f∈x.fs,f∉y.fs
 kd: ∀{m:Nat} {d:DT},s.h.s.2[m]? =some d->d.1=5->(m:Int)∈s.kn/\((m:Int)∈s.ep.ws.map (·.1)\/ ∃x∈s.cs,x.ph=4/\(m:Int)∈x.fs)
 nw:0<=s.ep.now
 pn: ∀{i:Nat} {x:bW},s.cs[i]? =some x->if x.ph=2\/x.ph=3 then 0<=s.ep.pins.getD i 0/\s.ep.pins.getD i 0<=s.ep.now/\s.ep.now<=s.ep.pins.getD i 0+1 else s.ep.pins.getD i 0= -1
 ln: ∀{i:Nat} {x:bW},s.cs[i]? =some x-> ∀l∈x.ls,Dx ta s i l
 ac: ∀x∈s.cs,x.ph=2->aV s.h.g x.vm=true/\x.c.2.1<1048576/\(x.c.1=6\/x.c.1=7)
 wl: ∀{i:Nat} {x:bW},s.cs[i]? =some x->x.ph=2->Dy gh ta s i x
 rc: ∀{i:Nat} {x:bW},s.cs[i]? =some x->x.ph=3->Av ta s i x.fr/\(x.c.1=6\/x.c.1=7)
 wt: ∀x∈s.cs,x.ph=4->1<=x.ak/\x.ak<=(s.op.length:Int)/\1<=Aw x/\Aw x<=16/\ -1<=Ax x/\Ax x<65536
 wu: ∀{i j:Nat} {x y:bW},s.cs[i]? =some x->s.cs[j]? =some y->i≠j->x.ph=4->y.ph=4->x.ak≠y.ak
 aq: ∀{i:Nat} {q:List AK},s.bx[i]? =some q->q.Pairwise (λa b=>a.1<b.1)/\ ∀a∈q, ∃(j:Nat) (y:bW),j≠i/\s.cs[j]? =some y/\y.ph=4/\a=(y.ak,Aw y,Ax y,())
 oc: ∀id:Nat,id<s.op.length->s.op.getD id 0=(s.bx.countP (λq=>jD q ((id:Int)+1)):Nat)
section
variable {gh:Gh} {ta:Int->Bool} {n:Nat} {s:MS}
theorem aE {α:Type} {l:List α} {i:Nat} {x:α} (h:l[i]? =some x):x∈l:=B5 h
theorem jX {α:Type} {l:List α} {i j:Nat} {x y:α} (h:(l.set i x)[j]? =some y):(j=i/\y=x)\/(j≠i/\l[j]? =some y):=by
 by_cases e:i=j
 ·subst e;have a:=(AH.1 h).1;rw[Ae] at a;rw[AG a] at h;cases h;exact .inl ⟨rfl,rfl⟩
 ·rw[AF e] at h;exact .inr ⟨λc=>e c.symm,h⟩
theorem im {α:Type} {l:List α} {i:Nat} {x y:α} (h:y∈l.set i x):y=x\/y∈l:=by
 obtain⟨j,a⟩:=DN h;rcases jX a with ⟨_,e⟩|⟨_,e⟩
 ·exact .inl e
 ·exact .inr (B5 e)
end
section
variable {gh:Gh} {ta:Int->Bool} {n:Nat} {s s':MS} {i:Nat}
theorem rM.dv {f:Int} (h:rM s i f) (c: ∀{z:Nat} {y:bW},s.cs[z]? =some y->y.ph=4->s'.cs[z]? =some y) (d:s'.ep.ws=s.ep.ws) (g:s'.ep.pins.getD i 0=s.ep.pins.getD i 0):rM s' i f:=by
 rcases h with ⟨z,y,h1,a,b⟩|⟨e,h1,a,b⟩
 ·exact .inl ⟨z,y,c h1 a,a,b⟩
 ·exact .inr ⟨e,by rw[d];exact h1,a,by rw[g];exact b⟩
theorem Dx.dv {l:LT} (h:Dx ta s i l) (f:s'.h=s.h) (hb:s'.bx=s.bx) (j: ∀{z:Nat} {y:bW},s.cs[z]? =some y->y.ph=4->s'.cs[z]? =some y):Dx ta s' i l:=by
 obtain⟨h0,m,d,h1,k,c⟩:=h;refine⟨h0,m,d,h1,by rw[f];exact k,?_⟩;rw[f,hb];rcases c with c|⟨c,q,a,n,o,p,r⟩
 ·exact .inl c
 ·refine .inr ⟨c,q,a,n,o,p,λe=>?_⟩;obtain⟨t,z,y,b,u,g1,g,v,w,x⟩:=r e;exact⟨t,z,y,b,u,j g1 g,g,v,w,x⟩
theorem Dy.dv {x:bW} (h:Dy gh ta s i x) (a:s'.h=s.h) (b: ∀{z:Nat} {y:bW},s.cs[z]? =some y->y.ph=4->s'.cs[z]? =some y) (d:s'.ep.ws=s.ep.ws) (e:s'.ep.pins.getD i 0=s.ep.pins.getD i 0):Dy gh ta s' i x:=by
 obtain⟨l,h1,f,g,j⟩:=h;refine⟨l,h1,f,g,?_⟩;rw[a];exact j.imp id λc=>⟨c.1,c.2.1.dv b d e,c.2.2⟩
theorem Av.dv {f:Int} (h:Av ta s i f) (a:s'.h=s.h) (b: ∀{z:Nat} {y:bW},s.cs[z]? =some y->y.ph=4->s'.cs[z]? =some y) (e:s'.ep.ws=s.ep.ws) (g:s'.ep.pins.getD i 0=s.ep.pins.getD i 0):Av ta s' i f:=by
 obtain⟨m,d,h1,j,k⟩:=h;refine⟨m,d,h1,by rw[a];exact j,?_⟩;exact k.imp id λc=>⟨c.1,c.2.1.dv b e g,c.2.2⟩
theorem MI.C9 (M:MI gh ta n s) {x x':bW} (L:s.cs[i]? =some x) (p:Int) (ms:List MT) (R:x.ph≠4) (w:x'.ph≠4) (k:s'={s with cs:=s.cs.set i x',ep:={s.ep with pins:=s.ep.pins.set i p},ms:=ms})
 (S:0<=x'.ph/\x'.ph<=4) (T:cL x'.c.2.1/\cL x'.c.2.2.1/\cL x'.c.2.2.2.1) (U:(x'.ls.length:Int)<=s.sz)
 (V:if x'.ph=2\/x'.ph=3 then 0<=p/\p<=s.ep.now/\s.ep.now<=p+1 else p= -1) (W: ∀l∈x'.ls,Dx ta s i l) (X:x'.ph=2->aV s.h.g x'.vm=true/\x'.c.2.1<1048576/\(x'.c.1=6\/x'.c.1=7))
 (Y:x'.ph=2->Dy gh ta s' i x') (Z:x'.ph=3->Av ta s' i x'.fr/\(x'.c.1=6\/x'.c.1=7)):MI gh ta n s':=by
 have mA:i<s.cs.length:=(AH.1 L).1;have C: ∀{z:Nat} {y:bW},s.cs[z]? =some y->y.ph=4->s'.cs[z]? =some y:=λ{z y} h1 o=>by
  have e:i≠z:=λe=>by subst e;rw[L] at h1;cases h1;exact R o
  rw[k];show(s.cs.set i x')[z]? = _;rw[AF e];exact h1
 have t: ∀{z:Nat} {y:bW},s'.cs[z]? =some y->(z=i/\y=x')\/(z≠i/\s.cs[z]? =some y):=λh=>by
  rw[k] at h;exact jX h
 have A: ∀{y:bW},y∈s'.cs->y=x'\/y∈s.cs:=λh=>by
  rw[k] at h;exact im h
 have u:s'.h=s.h:=by rw[k]
 have hb:s'.bx=s.bx:=by rw[k]
 have N:s'.op=s.op:=by rw[k]
 have E:s'.kn=s.kn:=by rw[k]
 have D:s'.ep.ws=s.ep.ws:=by rw[k]
 have F:s'.ep.now=s.ep.now:=by rw[k]
 have O:s'.sz=s.sz:=by rw[k]
 have G:s'.ep.pins=s.ep.pins.set i p:=by rw[k]
 have hpi:s'.ep.pins.getD i 0=p:=by
  rw[G,B1,AG (by rw[M.lp, <-M.lc];exact mA)];rfl
 have H: ∀{j:Nat},j≠i->s'.ep.pins.getD j 0=s.ep.pins.getD j 0:=λ{j} r=>by
  rw[G,B1,AF (λe=>r e.symm),B1]
 refine⟨by rw[u];exact M.hi,M.nn,by rw[k];show(s.cs.set i x').length=n;rw[Ae];exact M.lc,by rw[hb];exact M.lb,by rw[G,Ae];exact M.lp,by rw[O];exact M.sz,λy f=>?_,λy f=>?_,λy f=>?_,
  by rw[E,u];exact M.k5,by rw[E];exact M.nk,by rw[D,E,F];exact M.wk,by rw[D];exact M.wn,λy f e=>?_,λy f e=>?_,λ{a b y z} h1 o I v B=>?_,λ{m d} h1 o=>?_,by rw[F];exact M.nw,λ{j y} h1=>?_,λ{j y} h1 l P=>?_,λy f e=>?_,λ{j y} h1 e=>?_,λ{j y} h1 e=>?_,λy f e=>?_,λ{a b y z} h1 o I v B=>?_,λ{j q} h1=>?_,by rw[N,hb];exact M.oc⟩
 ·rcases A f with rfl|f
  ·exact S
  ·exact M.ph y f
 ·rcases A f with rfl|f
  ·exact T
  ·exact M.ar y f
 ·rw[O];rcases A f with rfl|f
  ·exact U
  ·exact M.tl y f
 ·rcases A f with rfl|f
  ·exact absurd e w
  ·rw[E,D];exact M.fk y f e
 ·rcases A f with rfl|f
  ·exact absurd e w
  ·exact M.fn y f e
 ·rcases t h1 with ⟨_,rfl⟩|⟨_,h1⟩
  ·exact absurd v w
  ·rcases t o with ⟨_,rfl⟩|⟨_,o⟩
   ·exact absurd B w
   ·exact M.fd h1 o I v B
 ·rw[u] at h1;obtain⟨J,K⟩:=M.kd h1 o;rw[E,D];refine⟨J,K.imp id λ⟨y,f,v,B⟩=>?_⟩;obtain⟨j,r⟩:=DN f;exact⟨y,aE (C r v),v,B⟩
 ·rw[F];rcases t h1 with ⟨rfl,rfl⟩|⟨r,h1⟩
  ·rw[hpi];exact V
  ·rw[H r];exact M.pn h1
 ·rcases t h1 with ⟨rfl,rfl⟩|⟨r,h1⟩
  ·exact(W l P).dv u hb C
  ·exact(M.ln h1 l P).dv u hb C
 ·rw[u];rcases A f with rfl|f
  ·exact X e
  ·exact M.ac y f e
 ·rcases t h1 with ⟨rfl,rfl⟩|⟨r,h1⟩
  ·exact Y e
  ·exact(M.wl h1 e).dv u C D (H r)
 ·rcases t h1 with ⟨rfl,rfl⟩|⟨r,h1⟩
  ·exact Z e
  ·exact⟨(M.rc h1 e).1.dv u C D (H r),(M.rc h1 e).2⟩
 ·rw[N];rcases A f with rfl|f
  ·exact absurd e w
  ·exact M.wt y f e
 ·rcases t h1 with ⟨_,rfl⟩|⟨_,h1⟩
  ·exact absurd v w
  ·rcases t o with ⟨_,rfl⟩|⟨_,o⟩
   ·exact absurd B w
   ·exact M.wu h1 o I v B
 ·rw[hb] at h1;obtain⟨J,K⟩:=M.aq h1;refine⟨J,λa ha=>?_⟩;obtain⟨j2,y,g1,g2,Q,g4⟩:=K a ha;exact⟨j2,y,g1,C g2 Q,Q,g4⟩
theorem tP (M:MI gh ta n s) {x:bW} (b:s.cs[i]? =some x):s.ep.pins.set i (s.ep.pins.getD i 0)=s.ep.pins:=by
 have a:i<s.ep.pins.length:=by rw[M.lp, <-M.lc];exact(AH.1 b).1
 refine FS λj=>?_;rw[GG];by_cases e:i=j
 ·subst e;rw[av rfl,av a,B1,B3 a];rfl
 ·rw[ao e]
theorem MI.ask (M:MI gh ta n s) (k vm:Int) {c:CT} (hc:cL c.2.1/\cL c.2.2.1/\cL c.2.2.2.1):MI gh ta n (eM s k vm c):=by
 unfold eM;split
 ·exact M
 cases a:s.cs[k.toNat]? with
 |none=>exact M
 |some x=>
  dsimp only;split
  ·rename_i h0;have b:=M.pn a;rw[h0,ao (by decide)] at b;refine M.C9 (x':={x with ph:=1,vm:=vm,c:=c}) a (s.ep.pins.getD k.toNat 0) s.ms (by rw[h0];decide) (show ¬ (1:Int)=4 by decide) ?_ (show 0<=(1:Int)/\(1:Int)<=4 by decide) hc (M.tl x (aE a)) ?_ (λl d=>M.ln a l d) (λe=>absurd e (show ¬ (1:Int)=2 by decide)) (λe=>absurd e (show ¬ (1:Int)=2 by decide)) (λe=>absurd e (show ¬ (1:Int)=3 by decide))
   ·rw[tP M a];rfl
   ·show if(1:Int)=2\/(1:Int)=3 then _ else _;rw[ao (by decide)];exact b
  ·exact M
theorem MI.idle (M:MI gh ta n s) {x:bW} (a:s.cs[i]? =some x) (b:x.ph≠4) {ls:List LT} (c: ∀l∈ls,Dx ta s i l) (d:(ls.length:Int)<=s.sz) (ms:List MT):MI gh ta n {s with cs:=s.cs.set i (cC ls),ep:=rL s.ep i,ms:=ms}:=
 M.C9 (x':=cC ls) a (-1) ms b (show ¬ (0:Int)=4 by decide) rfl (show 0<=(0:Int)/\(0:Int)<=4 by decide) (show cL 0/\cL 0/\cL 0 by decide) d (by show if(0:Int)=2\/(0:Int)=3 then _ else _;rw[ao (by decide)]) c (λe=>absurd e (show ¬ (0:Int)=2 by decide)) (λe=>absurd e (show ¬ (0:Int)=2 by decide)) (λe=>absurd e (show ¬ (0:Int)=3 by decide))
end
section
variable {gh:Gh} {ta:Int->Bool} {n:Nat} {s s':MS} {i:Nat}
def WtK (s s':MS):Prop:= ∀(z:Nat) (y:bW),s.cs[z]? =some y->y.ph=4-> ∃a,s'.cs[z]? =some a/\a.ph=4/\a.fs=y.fs/\a.ak=y.ak/\a.vm=y.vm/\a.c=y.c
theorem rM.AU {f:Int} (h:rM s i f) (c:WtK s s') (d:s'.ep.ws=s.ep.ws) (g:s'.ep.pins.getD i 0=s.ep.pins.getD i 0):rM s' i f:=by
 rcases h with ⟨z,y,h1,a,b⟩|⟨e,h1,a,b⟩
 ·obtain⟨j,g1,k,l, _⟩:=c z y h1 a;exact .inl ⟨z,j,g1,k,by rw[l];exact b⟩
 ·exact .inr ⟨e,by rw[d];exact h1,a,by rw[g];exact b⟩
theorem Dy.AU {x:bW} (h:Dy gh ta s i x) (a:s'.h=s.h) (b:WtK s s') (d:s'.ep.ws=s.ep.ws) (e:s'.ep.pins.getD i 0=s.ep.pins.getD i 0):Dy gh ta s' i x:=by
 obtain⟨l,h1,f,g,j⟩:=h;refine⟨l,h1,f,g,?_⟩;rw[a];exact j.imp id λc=>⟨c.1,c.2.1.AU b d e,c.2.2⟩
theorem Av.AU {f:Int} (h:Av ta s i f) (a:s'.h=s.h) (b:WtK s s') (e:s'.ep.ws=s.ep.ws) (g:s'.ep.pins.getD i 0=s.ep.pins.getD i 0):Av ta s' i f:=by
 obtain⟨m,d,h1,j,k⟩:=h;refine⟨m,d,h1,by rw[a];exact j,?_⟩;exact k.imp id λc=>⟨c.1,c.2.1.AU b e g,c.2.2⟩
theorem tQ {ls:List LT} {t p:Int} {l:LT} (h:l∈js ls t p):l∈ls/\ ¬ (t=l.1/\(p= -1\/p=l.2.1)):=by
 unfold js at h;split at h
 ·rename_i e;obtain⟨h1,a⟩:=B2.1 h;refine⟨h1,λc=>?_⟩;simp at a;exact a c.1.symm
 ·rename_i e;obtain⟨h1,a⟩:=B2.1 h;refine⟨h1,λc=>?_⟩;rcases c.2 with c2|c2
  ·exact e c2
  ·simp[Cg] at a;exact a.elim (λf=>f c.1.symm) (λf=>f c2.symm)
theorem EC (ls:List LT) (t p:Int):(js ls t p).length<=ls.length:=by
 unfold js;split<;>exact List.length_filter_le ..
theorem vo (a:AK) (q:List AK) (id:Int):jD (a::q) id=(a.1==id||jD q id):=rfl
theorem MI.pop (M:MI gh ta n s) {x:bW} (X:s.cs[i]? =some x) {a:AK} {q:List AK} (E:s.bx[i]? =some (a::q)):
 MI gh ta n {s with bx:=s.bx.set i q,op:=s.op.set (a.1 - 1).toNat (s.op.getD (a.1 - 1).toNat 0 - 1),cs:=s.cs.set i {x with ls:=js x.ls a.2.1 a.2.2.1}}:=by
 have mA:i<s.cs.length:=(AH.1 X).1;have hib:i<s.bx.length:=by rw[M.lb, <-M.lc];exact mA
 generalize F:({s with bx:=s.bx.set i q,op:=s.op.set (a.1 - 1).toNat (s.op.getD (a.1 - 1).toNat 0 - 1),cs:=s.cs.set i {x with ls:=js x.ls a.2.1 a.2.2.1}}:MS)=s';have v:s'.h=s.h:=by rw[<-F]
 have p:s'.ep=s.ep:=by rw[<-F]
 have O:s'.kn=s.kn:=by rw[<-F]
 have gW:s'.sz=s.sz:=by rw[<-F]
 have hb:s'.bx=s.bx.set i q:=by rw[<-F]
 have ho:s'.op=s.op.set (a.1 - 1).toNat (s.op.getD (a.1 - 1).toNat 0 - 1):=by rw[<-F]
 have fj:s'.cs=s.cs.set i {x with ls:=js x.ls a.2.1 a.2.2.1}:=by rw[<-F]
 have XZ:s'.op.length=s.op.length:=by rw[ho,Ae]
 have vO:s'.cs[i]? =some {x with ls:=js x.ls a.2.1 a.2.2.1}:=by rw[fj,AG mA]
 have K:WtK s s':=λz y h1 A=>by
  by_cases e:i=z
  ·subst e;rw[X] at h1;cases h1;exact⟨_,vO,A,rfl,rfl,rfl,rfl⟩
  ·exact⟨y,by rw[fj,AF e];exact h1,A,rfl,rfl,rfl,rfl⟩
 have w: ∀{z:Nat} {y:bW},s'.cs[z]? =some y-> ∃f,s.cs[z]? =some f/\y.ph=f.ph/\y.vm=f.vm/\y.c=f.c/\y.wk=f.wk/\y.fr=f.fr/\y.ak=f.ak/\y.fs=f.fs/\(z≠i->y=f)/\y.ls.length<=f.ls.length:=λ{z y} h=>by
  rw[fj] at h;rcases jX h with ⟨rfl,rfl⟩|⟨e,h⟩
  ·exact⟨x,X,rfl,rfl,rfl,rfl,rfl,rfl,rfl,λc=>absurd rfl c,EC ..⟩
  ·exact⟨y,h,rfl,rfl,rfl,rfl,rfl,rfl,rfl,λ_=>rfl,F4 _⟩
 have G: ∀{y:bW},y∈s'.cs-> ∃f∈s.cs,y.ph=f.ph/\y.vm=f.vm/\y.c=f.c/\y.wk=f.wk/\y.fr=f.fr/\y.ak=f.ak/\y.fs=f.fs/\y.ls.length<=f.ls.length:=λh=>by
  obtain⟨z,hz⟩:=DN h;obtain⟨f,g1,B,t,L,Y,P,H,g8, _,g9⟩:=w hz;exact⟨f,aE g1,B,t,L,Y,P,H,g8,g9⟩
 obtain⟨hpw,uT⟩:=M.aq E;obtain⟨ja,ya,hja,hya,hpa,hea⟩:=uT a BX;obtain⟨ha1,TJ, _⟩:=M.wt ya (aE hya) hpa;have ea1:a.1=ya.ak:=by rw[hea]
 have Is: ∀b∈q,a.1<b.1:=(List.pairwise_cons.1 hpw).1;refine⟨by rw[v];exact M.hi,M.nn,by rw[fj,Ae];exact M.lc,by rw[hb,Ae];exact M.lb,by rw[p];exact M.lp,by rw[gW];exact M.sz,λy k=>?_,λy k=>?_,λy k=>?_,
  by rw[O,v];exact M.k5,by rw[O];exact M.nk,by rw[p,O];exact M.wk,by rw[p];exact M.wn,λy k e=>?_,λy k e=>?_,λ{a b y z} h1 A Z Q R=>?_,λ{m d} h1 A=>?_,by rw[p];exact M.nw,λ{j y} h1=>?_,λ{j y} h1 l hl=>?_,λy k e=>?_,λ{j y} h1 e=>?_,λ{j y} h1 e=>?_,λy k e=>?_,λ{a b y z} h1 A Z Q R=>?_,λ{j r} h1=>?_,λid JX=>?_⟩
 ·obtain⟨f,o,g1, _⟩:=G k;rw[g1];exact M.ph f o
 ·obtain⟨f,o, _, _,t, _⟩:=G k;rw[t];exact M.ar f o
 ·obtain⟨f,o, _, _, _, _, _, _, _,g⟩:=G k;have:=M.tl f o;rw[gW];omega
 ·obtain⟨f,o,g1, _, _, _, _, _,H, _⟩:=G k;rw[H,O,p];exact M.fk f o (by rw[<-g1];exact e)
 ·obtain⟨f,o,g1, _, _, _, _, _,H, _⟩:=G k;rw[H];exact M.fn f o (by rw[<-g1];exact e)
 ·obtain⟨f,u,g1, _, _, _, _, _,H, _⟩:=w h1;obtain⟨z0,k0,C, _, _, _, _, _,k7, _⟩:=w A;rw[H,k7];exact M.fd u k0 Z (by rw[<-g1];exact Q) (by rw[<-C];exact R)
 ·rw[v] at h1;obtain⟨C,k2⟩:=M.kd h1 A;rw[O,p];refine⟨C,k2.imp id λ⟨y,k,Q,R⟩=>?_⟩;obtain⟨j,hj⟩:=DN k;obtain⟨I,p1,p2,p3, _⟩:=K j y hj Q;exact⟨I,aE p1,p2,by rw[p3];exact R⟩
 ·obtain⟨f,u,g1, _⟩:=w h1;rw[p,g1];exact M.pn u
 ·
  obtain⟨f,u, _, _, _, _, _, _, _,gj, _⟩:=w h1;by_cases e:j=i
  ·subst e;rw[vO] at h1;cases h1;obtain⟨l1,l2⟩:=tQ hl;obtain⟨J,m,d,S,T,U⟩:=M.ln X l l1;refine⟨J,m,d,S,by rw[v];exact T,?_⟩;rw[v];refine U.imp id λ⟨V,qq,b,N,D,W,r8⟩=>⟨V,q,b,by rw[hb,AG hib],?_,W,λe5=>?_⟩
   ·rw[E] at N;cases N;rcases C5.1 D with rfl|D
    ·exact absurd W l2
    ·exact D
   ·obtain⟨r9,z,y,c,c0,c1,c2,c3,c4,c5⟩:=r8 e5;obtain⟨I,p1,p2,p3,p4, _⟩:=K z y c1 c2;rw[E] at N;cases N;have hbq:b∈q:=by
     rcases C5.1 D with rfl|D
     ·exact absurd W l2
     ·exact D
    have hcq:c∈q:=by
     rcases C5.1 c0 with rfl|c0
     ·have:=Is b hbq;omega
     ·exact c0
    exact⟨r9,z,I,c,hcq,p1,p2,by rw[p3];exact c3,by rw[p4];exact c4,c5⟩
  ·rw[gj e] at hl;obtain⟨J,m,d,S,T,U⟩:=M.ln u l hl;refine⟨J,m,d,S,by rw[v];exact T,?_⟩;rw[v];refine U.imp id λ⟨V,qq,b,N,D,W,r8⟩=>⟨V,qq,b,by rw[hb,AF (λc=>e c.symm)];exact N,D,W,λe5=>?_⟩;obtain⟨r9,z,y,c,c0,c1,c2,c3,c4,c5⟩:=r8 e5;obtain⟨I,p1,p2,p3,p4, _⟩:=K z y c1 c2;exact⟨r9,z,I,c,c0,p1,p2,by rw[p3];exact c3,by rw[p4];exact c4,c5⟩
 ·obtain⟨f,o,g1,B,t, _⟩:=G k;rw[v,B,t];exact M.ac f o (by rw[<-g1];exact e)
 ·obtain⟨f,u,g1,B,t,L, _⟩:=w h1;obtain⟨l,S,T,U,V⟩:=(M.wl u (by rw[<-g1];exact e)).AU v K (by rw[p]) (by rw[p]);exact⟨l,by rw[L];exact S,T,by rw[L];exact U,by rw[L,B,t];exact V⟩
 ·obtain⟨f,u,g1,B,t,L,Y, _⟩:=w h1;have:=M.rc u (by rw[<-g1];exact e);rw[Y,t];exact⟨this.1.AU v K (by rw[p]) (by rw[p]),this.2⟩
 ·obtain⟨f,o,g1,B,t, _, _,P, _⟩:=G k;have:=M.wt f o (by rw[<-g1];exact e);unfold Aw Ax at this ⊢;rw[XZ,B,t,P];exact this
 ·obtain⟨f,u,g1, _, _, _, _,P, _⟩:=w h1;obtain⟨z0,k0,C, _, _, _, _,k6, _⟩:=w A;rw[P,k6];exact M.wu u k0 Z (by rw[<-g1];exact Q) (by rw[<-C];exact R)
 ·
  have sub: ∃J,s.bx[j]? =some J/\r.Sublist J:=by
   rw[hb] at h1;rcases jX h1 with ⟨rfl,rfl⟩|⟨_,h1⟩
   ·exact⟨_,E,List.sublist_cons_self ..⟩
   ·exact⟨r,h1,List.Sublist.refl _⟩
  obtain⟨J,k0,C⟩:=sub;obtain⟨k2,k3⟩:=M.aq k0;refine⟨k2.sublist C,λb hb=>?_⟩;obtain⟨j2,y,p1,p2,p3,p4⟩:=k3 b (C.subset hb);obtain⟨I,q1,q2,q3,q4,q5,q6⟩:=K j2 y p2 p3;refine⟨j2,I,p1,q1,q2,?_⟩;unfold Aw Ax at p4 ⊢;rw[q4,q5,q6];exact p4
 ·
  rw[XZ] at JX;have hoc:=M.oc id JX;have hbi:s.bx[i]=a::q:=(AH.1 E).2;have hnq:jD q a.1=false:=by
   unfold jD;rw[List.any_eq_false];intro b hb c;have:=Is b hb;have c':b.1=a.1:=by simpa using c
   omega
  have J': ∀j:Int,((s.bx.set i q).countP (λr=>jD r j):Nat)=s.bx.countP (λr=>jD r j) - (if jD (a::q) j=true then 1 else 0)+(if jD q j=true then 1 else 0):=λj=>by
   rw[List.countP_set hib,hbi]
  rw[ho,hb,J',B1,GG,vo];by_cases e:(a.1 - 1).toNat=id
  ·have ej:(id:Int)+1=a.1:=by omega
   rw[av e,av (by omega),ej,hnq];have oz:0<s.bx.countP (λr=>jD r a.1):=Dw.2 ⟨a::q,aE E,by rw[vo];simp⟩;rw[ej] at hoc;rw[e];simp only[beq_self_eq_true,Bool.true_or,if_true,Option.getD_some];rw[ao (by decide)];omega
  ·rw[ao e, <-B1,hoc];have:(a.1==(id:Int)+1)=false:=by
    simp;omega
   rw[this,Bool.false_or];split
   ·rename_i hp;have oz:0<s.bx.countP (λr=>jD r ((id:Int)+1)):=Dw.2 ⟨a::q,aE E,by rw[vo,hp,Bool.or_true]⟩;omega
   ·omega
end
section
variable {gh:Gh} {ta:Int->Bool} {n:Nat} {s s':MS} {i:Nat}
theorem BI {l:List (Int×Int)} (h:(l.map (·.1)).Nodup) {a b:Int×Int} (d:a∈l) (hb:b∈l) (e:a.1=b.1):a=b:=by
 induction l with
 |nil=>cases d
 |cons c l f=>
  rw[DE,Bx] at h;rcases C5.1 d with rfl|d
  ·rcases C5.1 hb with rfl|hb
   ·rfl
   ·exact absurd (AT.2 ⟨b,hb,e.symm⟩) h.1
  ·rcases C5.1 hb with g|hb
   ·rw[g] at e;exact absurd (show c.1∈l.map (·.1) from AT.2 ⟨a,d,e⟩) h.1
   ·exact f h.2 d hb
theorem MI.X9 (M:MI gh ta n s):MI gh ta n {s with ep:=ft s.ep}:=by
 unfold ft;split
 ·rename_i h;rw[List.all_eq_true] at h;exact{M with
   wk:=λe g=>by
    obtain⟨a,b,c⟩:=M.wk e g;exact⟨a,b,Int.le_trans c (by show s.ep.now<=s.ep.now+1;omega)⟩
   nw:=by
    have:=M.nw;show 0<=s.ep.now+1;omega
   pn:=λ{j y} d=>by
    have:=M.pn d;show if y.ph=2\/y.ph=3 then 0<=s.ep.pins.getD j 0/\s.ep.pins.getD j 0<=s.ep.now+1/\s.ep.now+1<=s.ep.pins.getD j 0+1 else s.ep.pins.getD j 0= -1;split
    ·rename_i c;rw[av c] at this;have f:j<s.ep.pins.length:=by rw[M.lp, <-M.lc];exact(AH.1 d).1
     have i:s.ep.pins.getD j 0∈s.ep.pins:=by
      rw[B1,B3 f];exact List.getElem_mem f
     have:=h _ i;simp only[Bool.or_eq_true,beq_iff_eq] at this;omega
    ·rename_i c;rw[ao c] at this;exact this}
 ·exact M
def gQ (s:MS) (f:Int):MS:={ik s f with ep:={s.ep with ws:=s.ep.ws.filter λx=> !(x.1==f)}}
theorem JC (M:MI gh ta n s) {x:bW} (d:s.cs[i]? =some x) (g:x.ph=2\/x.ph=3) {f r:Int} (c:(f,r)∈s.ep.ws) (k:r+2<=s.ep.now) {f0:Int} (P:rM s i f0):f0≠f/\rM (gQ s f) i f0:=by
 have h:=M.pn d;rw[av g] at h;have ne:f0≠f:=λe=>by
  subst e;rcases P with ⟨z,y,h1,a,b⟩|⟨e,h1,a,b⟩
  ·exact(M.fk y (aE h1) a f0 b).2 (AT.2 ⟨_,c,rfl⟩)
  ·have:e=(f0,r):=by
    have j:=M.wn;exact BI j h1 c a
   subst this;have b:s.ep.pins.getD i 0<=r:=b;omega
 refine⟨ne,?_⟩;rcases P with ⟨z,y,h1,a,b⟩|⟨e,h1,a,b⟩
 ·exact .inl ⟨z,y,h1,a,b⟩
 ·refine .inr ⟨e,B2.2 ⟨h1,?_⟩,a,b⟩;simp[a,ne]
theorem MI.gQ (M:MI gh ta n s) {f r:Int} (F:(f,r)∈s.ep.ws) (L:r+2<=s.ep.now):MI gh ta n (gQ s f):=by
 obtain⟨R, _, _⟩:=M.wk _ F;obtain⟨m,d,B,G,N⟩:=M.k5 f R;have B:f=(m:Int):=B;obtain⟨S, _,T,U⟩:=M.hi.OM G N;have O:f∈s.ep.ws.map (·.1):=AT.2 ⟨_,F,rfl⟩;have hmn:m<s.h.s.2.length:=(AH.1 G).1;have C:(Go.Proofs.YtlcenllcmeebhaaGreat.gQ s f).h=bA s.h (s.h.s.1,s.h.s.2.set m zD):=by
  show bA s.h (ig s.h.s f)= _;rw[B,S]
 have P:(Go.Proofs.YtlcenllcmeebhaaGreat.gQ s f).h.s.2=s.h.s.2.set m zD:=by rw[C];rfl
 have V:(Go.Proofs.YtlcenllcmeebhaaGreat.gQ s f).h.s.1=s.h.s.1:=by rw[C];rfl
 have W:(Go.Proofs.YtlcenllcmeebhaaGreat.gQ s f).h.g=s.h.g:=by rw[C];rfl
 have D: ∀{k:Nat} {d':DT},s.h.s.2[k]? =some d'->(k:Int)≠f->(Go.Proofs.YtlcenllcmeebhaaGreat.gQ s f).h.s.2[k]? =some d':=λ{k d'} h1 o=>by
  rw[P,AF (λc=>o (by rw[B,c]))];exact h1
 have H: ∀{k:Nat} {d':DT},s.h.s.2[k]? =some d'->d'.1=4->(k:Int)≠f:=λ{k d'} h1 o c=>by
  rw[B] at c;have:k=m:=by omega
  subst this;rw[G] at h1;cases h1;rw[N] at o;exact absurd o (by decide)
 have I: ∀{g:Int},g∈s.kn->g≠f->g∈(Go.Proofs.YtlcenllcmeebhaaGreat.gQ s f).kn:=λ{g} h1 o=>B2.2 ⟨h1,by simp[o]⟩;have pg: ∀i q,jo (Go.Proofs.YtlcenllcmeebhaaGreat.gQ s f).h i q=jo s.h i q:=λi q=>by rw[C];exact U.to id
 exact{M with
  hi:=by rw[C];exact T
  k5:=λg J=>by
   obtain⟨h1,o⟩:=B2.1 J;obtain⟨k,d',t,u,E⟩:=M.k5 g h1;exact⟨k,d',t,D u (by rw[<-t];simpa using o),E⟩
  nk:=M.nk.sublist DH
  wk:=λe X=>by
   obtain⟨h1,o⟩:=B2.1 X;obtain⟨t,u,E⟩:=M.wk e h1;exact⟨I t (by simpa using o),u,E⟩
  wn:=M.wn.sublist (DH.map _)
  fk:=λy K e g J=>by
   obtain⟨t,u⟩:=M.fk y K e g J;exact⟨I t λc=>u (by rw[c];exact O),λc=>u ((DH.map _).subset c)⟩
  kd:=λ{k d'} h1 o=>by
   rw[P] at h1;rcases jX h1 with ⟨_,rfl⟩|⟨e,h1⟩
   ·exact absurd o (by decide)
   ·have ne:(k:Int)≠f:=λc=>e (by rw[B] at c;omega);obtain⟨t,u⟩:=M.kd h1 o;refine⟨I t ne,u.imp (λc=>?_) id⟩;obtain⟨e',g1,Q⟩:=AT.1 c;exact AT.2 ⟨e',B2.2 ⟨g1,by simp[Q,ne]⟩,Q⟩
  pn:=λ{j y} v=>M.pn v
  ln:=λ{j y} v l Y=>by
   obtain⟨Z,k,d',A,w,p⟩:=M.ln v l Y;have ne:(k:Int)≠f:=by
    rcases p with p|⟨x,q,a, _, _, _,r8⟩
    ·exact H w p.1
    ·rcases x with x|x
     ·exact H w x
     ·obtain⟨_,z,y,b, _,c1,c2,c3, _, _⟩:=r8 x;have:=(M.fk y (aE c1) c2 _ c3).2;exact λc=>this (by rw[A,c];exact O)
   refine⟨Z,k,d',A,D w ne,?_⟩;rw[pg];exact p
  ac:=λy K e=>by rw[W];exact M.ac y K e
  wl:=λ{j y} v e=>by
   obtain⟨l,A,w,p,x⟩:=M.wl v e;refine⟨l,A,w,p,x.imp id λ⟨c1,c2,c3⟩=>?_⟩;obtain⟨p1,p2⟩:=JC M v (.inl e) F L c2;refine⟨?_,p2,c3⟩;obtain⟨k0,d',t,u,E⟩:=c1;exact⟨k0,d',D t (by rw[Int.toNat_of_nonneg k0];exact p1),u,by rw[V];exact E⟩
  rc:=λ{j y} v e=>by
   obtain⟨⟨k,d',A,w,p⟩,x⟩:=M.rc v e;refine⟨?_,x⟩;rcases p with p|⟨r5,r6,r7⟩
   ·exact⟨k,d',A,D w (H w p),.inl p⟩
   ·obtain⟨p1,p2⟩:=JC M v (.inr e) F L r6;exact⟨k,d',A,D w (by rw[<-A];exact p1),.inr ⟨r5,p2,r7⟩⟩}
theorem MI.Xk: ∀(L:List Int) {s:MS},MI gh ta n s->L.Nodup->(∀f∈L, ∃r,(f,r)∈s.ep.ws/\r+2<=s.ep.now)->MI gh ta n (L.foldl Go.Proofs.YtlcenllcmeebhaaGreat.gQ s)
 |[], _,M, _, _=>M
 |f::L,s,M,a,b=>by
  obtain⟨r,h1,e⟩:=b f BX;refine MI.Xk L (M.gQ h1 e) (Bx.1 a).2 λg d=>?_;obtain⟨r',h,i⟩:=b g (Bs _ d);refine⟨r',B2.2 ⟨h,?_⟩,i⟩;have:g≠f:=λc=>(Bx.1 a).1 (by rw[<-c];exact d);simp[this]
theorem tR (e:vD): ∀(L:List Int) (s:MS),L.foldl ik {s with ep:=e}={L.foldl ik s with ep:=e}
 |[], _=>rfl
 |f::L,s=>tR e L (ik s f)
theorem ED: ∀(L:List Int) (s:MS),L.foldl Go.Proofs.YtlcenllcmeebhaaGreat.gQ s={L.foldl ik s with ep:={s.ep with ws:=s.ep.ws.filter λx=> !L.contains x.1}}
 |[],s=>by
  have:(s.ep.ws.filter λx=> !([]:List Int).contains x.1)=s.ep.ws:=G1.2 λx _=>rfl;rw[this];rfl
 |f::L,s=>by
  show L.foldl Go.Proofs.YtlcenllcmeebhaaGreat.gQ (Go.Proofs.YtlcenllcmeebhaaGreat.gQ s f)= _;rw[ED L,show(Go.Proofs.YtlcenllcmeebhaaGreat.gQ s f)={ik s f with ep:={s.ep with ws:=s.ep.ws.filter λx=> !(x.1==f)}} from rfl,tR];show({L.foldl ik (ik s f) with ep:={s.ep with ws:=(s.ep.ws.filter λx=> !(x.1==f)).filter λx=> !L.contains x.1}}:MS)= _;rw[List.filter_filter];have:(λ(x:Int×Int)=>(!L.contains x.1)&& !(x.1==f))=λx=> !(f::L).contains x.1:=by
   funext x;rw[List.contains_cons];cases L.contains x.1<;>cases x.1==f<;>rfl
  rw[this];rfl
theorem CM {e:vD} {f:Int}:f∈oE e<-> ∃r,(f,r)∈e.ws/\r+2<=e.now:=by
 unfold oE;rw[(lF _).mem_iff,AT];constructor
 ·rintro⟨⟨f',r⟩,h,rfl⟩;obtain⟨h1,a⟩:=B2.1 h;exact⟨r,h1,by simpa using a⟩
 ·rintro⟨r,h1,a⟩;exact⟨(f,r),B2.2 ⟨h1,by simpa using a⟩,rfl⟩
theorem EE (M:MI gh ta n s):(dO s).1=(oE (ft s.ep)).foldl Go.Proofs.YtlcenllcmeebhaaGreat.gQ {s with ep:=ft s.ep}:=by
 rw[ED];show(oE (ft s.ep)).foldl ik {s with ep:=Ci (ft s.ep)}= _;rw[tR (Ci (ft s.ep)),tR (ft s.ep)];have:(ft s.ep).ws.filter (λx=> !decide (x.2+2<=(ft s.ep).now))=(ft s.ep).ws.filter λx=> !(oE (ft s.ep)).contains x.1:=by
  refine List.filter_congr λx a=>?_;congr 1;rw[Bool.eq_iff_iff,List.contains_iff_mem,CM,decide_eq_true_eq];refine⟨λh=>⟨x.2,a,h⟩,λ⟨r,h1,b⟩=>?_⟩;have:x=(x.1,r):=BI M.X9.wn a h1 rfl;rw[this];exact b
 show({ (oE (ft s.ep)).foldl ik s with ep:={ft s.ep with ws:=(ft s.ep).ws.filter λx=> !decide (x.2+2<=(ft s.ep).now)}}:MS)= _;rw[this]
theorem MI.free (M:MI gh ta n s):MI gh ta n (dO s).1:=by
 rw[EE M];refine MI.Xk _ M.X9 ?_ λf a=>CM.1 a;unfold oE;refine(lF _).nodup_iff.2 ?_;exact M.X9.wn.sublist (DH.map _)
end
namespace Inv
variable {g:Gh} {s:WD}
theorem qv (I:Inv g s) (nl:Ag g s) {o r p t f:Int} {l:Nat} (v:g r=some (o,3,0)) (n:0<=p/\p<65536) (a:g f=some (o,l,px (l+1) p)):
 (∃m:Nat,l=m+1/\(bE s.1 p t (f,(l:Int),(0,0,0,0,()))).2.1=(m:Int)/\m<=3/\(bE s.1 p t (f,(l:Int),(0,0,0,0,()))).2.2=(0,0,0,0,())/\g (bE s.1 p t (f,(l:Int),(0,0,0,0,()))).1=some (o,m,px (m+1) p))\/
 ((bE s.1 p t (f,(l:Int),(0,0,0,0,()))).2.1= -1/\((bE s.1 p t (f,(l:Int),(0,0,0,0,()))).2.2.2.2.2.1=0->bz s r false p=((bE s.1 p t (f,(l:Int),(0,0,0,0,()))).2.2.1,(bE s.1 p t (f,(l:Int),(0,0,0,0,()))).2.2.2.1,0,()))):=by
 have w:=I.kd a;have x:=w.2.2.2.2.2;obtain⟨y,z,G⟩:=I.vA a;have hi:=dZ p l;have h:=lq ⟨y,z⟩ n x;have A:uH s.1 (dQ f p (l:Int))=true:=by rw[h];exact jh (by omega) (by omega)
 have C:uG (B (dC s.1 (dQ f p (l:Int)))).toNat=true:=by
  rw[h];cases hb:(aH s.1 (16*f+px l p % 16)).1 with
  |true=>exact Cs hb
  |false=>rw[I.wf a hi.1 hi.2 hb];decide+kernel
 rw[tC A C,h];have b:=I.sr a hi.1 hi.2;have i:=nl a hi.1 hi.2;have j:dp (aH s.1 (16*f+px l p % 16))=false->bz s r false p=ka p l (aH s.1 (16*f+px l p % 16)):=λc=>I.fP v n ⟨a,c⟩;revert b i j;generalize aH s.1 (16*f+px l p % 16)=e;intro b i j;unfold tookS;split
 ·exact .inr ⟨rfl,λc=>absurd c (show ¬ (4:Int)=0 by decide)⟩
 rename_i h1;have h1:e.1=true:=by simpa using h1
 split
 ·rename_i d;rw[DA,decide_eq_true_eq] at d;obtain⟨m,q,u⟩:=b d.1;subst q;refine .inl ⟨m,rfl,?_,by omega,rfl,?_⟩
  ·show aY .i64 ((m+1:Nat):Int) 1= _;rw[bD (by omega) (by omega)];omega
  ·rw[<-nJ p (m+1)] at u;exact u
 rename_i d;split
 ·rename_i D;rw[DA,beq_iff_eq] at D;have k:dp e=false:=by
   cases c:dp e with
   |false=>rfl
   |true=>exact absurd (by rw[show fO e.1 e.2.1 e.2.2.1 e.2.2.2.1=true from c,decide_eq_true (by omega:(l:Int)>0)];rfl) d
  have:=i h1 k;omega
 split
 ·rename_i E;rw[DA,beq_iff_eq] at E;have F:l=0:=by omega
  subst F;have k:dp e=false:=by
   cases c:dp e with
   |false=>rfl
   |true=>
    obtain⟨m,q, _⟩:=b c;omega
  refine .inr ⟨rfl,λc=>?_⟩;rw[j k];unfold ka;rw[av h1,ao (by decide)];revert c;dsimp only;unfold xX;split
  ·intro c;exact absurd c (show ¬ (11:Int)=0 by decide)
  split
  ·intro _;rfl
  ·intro c;exact absurd c (show ¬ (7:Int)=0 by decide)
 ·exact .inr ⟨rfl,λc=>absurd c (show ¬ (11:Int)=0 by decide)⟩
theorem qw (I:Inv g s) {p t f:Int} {l:Nat} (c:0<=p/\p<65536) (e:l<=3) (G:iH s f):(bE s.1 p t (f,(l:Int),(0,0,0,0,()))).2.1= -1/\(bE s.1 p t (f,(l:Int),(0,0,0,0,()))).2.2.2.2.2.1=4:=by
 obtain⟨h0,d,h1, _,h⟩:=G;have k:=I.len;have m:=I.le;have n:f.toNat<s.2.length:=(AH.1 h1).1;have hi:=dZ p l;have a:=lq (f:=f) ⟨h0,by omega⟩ c e;have b:=h (px l p % 16) hi.1 hi.2;have i:uH s.1 (dQ f p (l:Int))=true:=by rw[a];exact jh (by omega) (by omega)
 have j:uG (B (dC s.1 (dQ f p (l:Int)))).toNat=true:=by rw[a,b];decide+kernel
 rw[tC i j,a,YK b];exact⟨rfl,rfl⟩
end Inv
section
variable {gh:Gh} {h:HS}
theorem HI.ZW (H:HI gh h) {n:Nat} {d:DT} (c:h.s.2[n]? =some d) (d4:d.1=4\/d.1=5) {o:Int} (f:0<=o/\o<16) (b:Int):HI gh (bA h (cW h.s.1 (16*(n:Int)+o) b,h.s.2))/\Ah h (bA h (cW h.s.1 (16*(n:Int)+o) b,h.s.2)) (λ_ _=>False):=by
 have d3:d.1≠3:=by omega
 have B:Inv.fx gh h.s (cW h.s.1 (16*(n:Int)+o) b,h.s.2):=by
  refine iN H.inv ⟨cG _ _ _,rfl⟩ (λq e=>⟨n,d,c,d3,?_⟩) λ{i d d'} h1 a=>?_
  ·refine Aq λhc=>e ?_;show dC (cW h.s.1 (16*(n:Int)+o) b) q= _;rw[mL (by omega)]
  ·rw[h1] at a;cases a;exact .inl rfl
 exact⟨H.side B H.hc,H.CK B (h':=bA h (cW h.s.1 (16*(n:Int)+o) b,h.s.2)) rfl rfl _⟩
end
set_option maxRecDepth 100000
open Go.RX D
section
variable {gh:Gh} {ta:Int->Bool} {n:Nat} {s s':MS} {i:Nat}
theorem xN (M:MI gh ta n s) {v:Int} (b:aV s.h.g v=true): ∃x:GV,s.h.g v.toNat=some x/\a6 s.h.g v=x.root/\gh x.root=some (v,3,0)/\1<=v/\v<=16:=by
 obtain⟨x,a,c,hv,d,e⟩:=bZ b;refine⟨x,a,c,?_,by omega,by omega⟩;rw[M.hi.root a,Int.toNat_of_nonneg (by omega)]
theorem HW (M:MI gh ta n s) {l:LT} (h:Dx ta s i l) (e:s'.h=s.h) (f: ∀{z:Nat} {y:bW},s.cs[z]? =some y->y.ph=4->s'.cs[z]? =some y):Av ta s' i l.2.2.1:=by
 obtain⟨_,m,d,h1,g,c⟩:=h;refine⟨m,d,h1,by rw[e];exact g,?_⟩;rcases c with c|⟨c,q,a,o,p,r,j⟩
 ·exact .inl c.1
 ·rcases c with c|c
  ·exact .inl c
  ·obtain⟨k,z,y,b, _,c1,c2,c3, _⟩:=j c;exact .inr ⟨c,.inl ⟨z,y,f c1 c2,c2,c3⟩,k⟩
theorem JD (M:MI gh ta n s) {x:bW} (b:s.cs[i]? =some x) (h1:x.ph=1):Au s.ep i={s.ep with pins:=s.ep.pins.set i s.ep.now}:=by
 have a:=M.pn b;rw[h1,ao (by decide)] at a;unfold Au;rw[av a]
theorem EF {x:bW} (a:s.cs[i]? =some x) (b:x.ph≠4) (x':bW): ∀{z:Nat} {y:bW},s.cs[z]? =some y->y.ph=4->(s.cs.set i x')[z]? =some y:=λ{z y} h1 c=>by
 have e:i≠z:=λe=>by subst e;rw[a] at h1;cases h1;exact b c
 rw[AF e];exact h1
theorem MI.Fi (M:MI gh ta n s) {x:bW} (a:s.cs[i]? =some x) (h1:x.ph=1) (b:mi s.h x=true) {l:LT} (d:l∈x.ls):MI gh ta n {s with cs:=s.cs.set i {x with ph:=3,fr:=l.2.2.1},ep:=Au s.ep i}:=by
 have g:x.c.1=6\/x.c.1=7:=by
  unfold mi at b;simp only[DA,decide_eq_true_eq] at b;have:=b.1;unfold a9 at this;split at this
  ·exact .inl ‹_›
  split at this
  ·exact .inr ‹_›
  ·omega
 rw[JD M a h1];have f:x.ph≠4:=by omega
 have j:=M.nw;refine M.C9 (x':={x with ph:=3,fr:=l.2.2.1}) a s.ep.now s.ms f (show ¬ (3:Int)=4 by decide) rfl (show 0<=(3:Int)/\(3:Int)<=4 by decide) (M.ar x (aE a)) (M.tl x (aE a)) ?_ (λl d=>M.ln a l d) (λe=>absurd e (show ¬ (3:Int)=2 by decide)) (λe=>absurd e (show ¬ (3:Int)=2 by decide)) (λ_=>⟨?_,g⟩)
 ·show if(3:Int)=2\/(3:Int)=3 then _ else _;rw[av (by decide)];omega
 ·exact HW M (M.ln a l d) rfl (EF a f _)
theorem MI.ZX (M:MI gh ta n s) {x:bW} (a:s.cs[i]? =some x) (h1:x.ph=1) (b:mi s.h x=true):MI gh ta n {s with cs:=s.cs.set i {x with ph:=2,wk:=lK s.h.s.1 (a6 s.h.g x.vm) (x.c.2.1 / 16) (a9 x.c.1) 0},ep:=Au s.ep i}:=by
 unfold mi at b;simp only[DA,decide_eq_true_eq] at b;obtain⟨d,f, _,b⟩:=b;have k:x.c.1=6\/x.c.1=7:=by
  unfold a9 at d;split at d
  ·exact .inl ‹_›
  split at d
  ·exact .inr ‹_›
  ·omega
 rw[JD M a h1];have m:x.ph≠4:=by omega
 have r:=M.nw;have j:=M.ar x (aE a);obtain⟨g,t,o,p,hv⟩:=xN M f;refine M.C9 (x':={x with ph:=2,wk:=lK s.h.s.1 (a6 s.h.g x.vm) (x.c.2.1 / 16) (a9 x.c.1) 0}) a s.ep.now s.ms m (show ¬ (2:Int)=4 by decide) rfl (show 0<=(2:Int)/\(2:Int)<=4 by decide) j (M.tl x (aE a)) ?_ (λl q=>M.ln a l q) (λ_=>⟨f,b,k⟩) (λ_=>?_) (λe=>absurd e (show ¬ (2:Int)=3 by decide))
 ·show if(2:Int)=2\/(2:Int)=3 then _ else _;rw[av (by decide)];omega
 ·refine⟨3,rfl,by decide,rfl,.inl ?_⟩;show gh (a6 s.h.g x.vm)=some (x.vm,3,px 4 (x.c.2.1 / 16));have:=j.1.1;rw[px4 (by omega),o];exact p
theorem xO {a:Int} (h:0<=a/\a<1048576):0<=a / 16/\a / 16<65536:=by omega
theorem EG {ls:List LT} {sz:Int} {l y:LT} (h:y∈o8 ls sz l):y∈ls\/y=l:=by
 unfold o8 at h;rcases Ca.1 h with h|h
 ·left;split at h
  ·exact(B2.1 h).1
  split at h
  ·exact List.mem_of_mem_drop h
  ·exact h
 ·exact .inr (List.mem_singleton.1 h)
theorem SE {ls:List LT} {sz:Int} {l:LT} (h:(ls.length:Int)<=sz) (h1:1<=sz):((o8 ls sz l).length:Int)<=sz:=by
 unfold o8;rw[List.length_append];show((_+1:Nat):Int)<=sz;split
 ·rename_i hc;obtain⟨y,a,b⟩:=FU.1 hc;have:(Cu ls l.1 l.2.1).length<ls.length:=by
   unfold Cu;refine List.length_filter_lt_length_iff_exists.2 ⟨y,a,?_⟩;rw[b];decide
  omega
 split
 ·rename_i e;rw[List.length_drop];omega
 ·omega
theorem MI.walk (M:MI gh ta n s) {x:bW} (a:s.cs[i]? =some x) (p:x.ph=2):MI gh ta n (iV (lx s i x) i x).1:=by
 have j:=aE a;have u:=M.ar x j;obtain⟨D,E,F⟩:=M.ac x j p;obtain⟨l,w1,G,N,b⟩:=M.wl a p;have k:=xO ⟨u.1.1,E⟩;have q:x.ph≠4:=by omega
 have O:i<s.cs.length:=(AH.1 a).1;have v:=M.pn a;rw[p,av (by decide)] at v;have o:x.wk=(x.wk.1,(l:Int),(0,0,0,0,())):=Prod.ext rfl (Prod.ext w1 N);obtain⟨P,Q,W,H,R,S⟩:=xN M D;have idle: ∀w,MI gh ta n (iV (cj {s with ep:=rL s.ep i} i {x with wk:=w},((0:Int),(w.2.2.2.2.2.1:Int)),true) i x).1:=λw=>by
  unfold iV;rw[av rfl];have e:((cj {s with ep:=rL s.ep i} i {x with wk:=w}).cs.getD i x).ls=x.ls:=by
   show((s.cs.set i _).getD i x).ls= _;rw[B1,AG O];rfl
  show MI gh ta n (cj (cj {s with ep:=rL s.ep i} i {x with wk:=w}) i (cC (((cj {s with ep:=rL s.ep i} i {x with wk:=w}).cs.getD i x).ls)));rw[e];have T:cj (cj {s with ep:=rL s.ep i} i {x with wk:=w}) i (cC x.ls)={s with cs:=s.cs.set i (cC x.ls),ep:=rL s.ep i,ms:=s.ms}:=by
   unfold cj;dsimp only;rw[List.set_set]
  rw[T];exact M.idle a q (λl z=>M.ln a l z) (M.tl x j) s.ms
 unfold lx;dsimp only;split
 ·rename_i hc;show MI gh ta n (cj s i _);rcases b with b|b
  ·rcases M.hi.inv.qv M.hi.nl (t:=a9 x.c.1) H k b with ⟨m, _,f,g,I,k4⟩|⟨f, _⟩
   ·rw[o];refine M.C9 (x':={x with wk:=bE s.h.s.1 (x.c.2.1 / 16) (a9 x.c.1) (x.wk.1,(l:Int),(0,0,0,0,()))}) a (s.ep.pins.getD i 0) s.ms q q ?_ (M.ph x j) u (M.tl x j) ?_ (λl z=>M.ln a l z) (λ_=>⟨D,E,F⟩) (λ_=>⟨m,f,g,I,.inl k4⟩) (λe=>absurd p (by rw[show x.ph=3 from e];decide))
    ·rw[tP M a];rfl
    ·show if x.ph=2\/x.ph=3 then _ else _;rw[av (.inl p)];exact v
   ·rw[o] at hc;exact absurd f hc
  ·obtain⟨f, _⟩:=M.hi.inv.qw (t:=a9 x.c.1) k G b.1;rw[o] at hc;exact absurd f hc
 split
 ·exact idle _
 rename_i A r;have A:(bE s.h.s.1 (x.c.2.1 / 16) (a9 x.c.1) x.wk).2.1= -1:=Aq A;have r:(bE s.h.s.1 (x.c.2.1 / 16) (a9 x.c.1) x.wk).2.2.2.2.2.1=0:=Aq r;show MI gh ta n (cj s i _);have B:bz s.h.s P.root false (x.c.2.1 / 16)=((bE s.h.s.1 (x.c.2.1 / 16) (a9 x.c.1) x.wk).2.2.1,(bE s.h.s.1 (x.c.2.1 / 16) (a9 x.c.1) x.wk).2.2.2.1,0,()):=by
  rcases b with b|b
  ·rcases M.hi.inv.qv M.hi.nl (t:=a9 x.c.1) H k b with ⟨m, _,f,g,I,k4⟩|⟨f,g⟩
   ·rw[<-o] at f;rw[A] at f;omega
   ·rw[<-o] at g;exact g r
  ·obtain⟨_,g⟩:=M.hi.inv.qw (t:=a9 x.c.1) k G b.1;rw[<-o,r] at g;exact absurd g (by decide)
 revert B;generalize bE s.h.s.1 (x.c.2.1 / 16) (a9 x.c.1) x.wk=w;intro B;have J:jo s.h x.vm.toNat (x.c.2.1 / 16)=(w.2.2.1,w.2.2.2.1,0,()):=by rw[bP Q];exact B
 have U:mC s.h x.vm.toNat (x.c.2.1 / 16)=some w.2.2.1:=by rw[rW,J];rfl
 obtain⟨m,d,K,L,d4, _⟩:=M.hi.TQ U;have V:Dx ta s i (x.vm,x.c.2.1 / 16,w.2.2.1,w.2.2.2.1,()):=⟨⟨R,S,k.1,k.2⟩,m,d,K,L,.inl ⟨d4,J⟩⟩;refine M.C9 (x':={x with wk:=w,ls:=o8 x.ls s.sz (x.vm,x.c.2.1 / 16,w.2.2.1,w.2.2.2.1,()),ph:=3,fr:=w.2.2.1}) a (s.ep.pins.getD i 0) s.ms q (show ¬ (3:Int)=4 by decide) ?_ (show 0<=(3:Int)/\(3:Int)<=4 by decide) u (SE (M.tl x j) M.sz.1) ?_ ?_ (λe=>absurd e (show ¬ (3:Int)=2 by decide)) (λe=>absurd e (show ¬ (3:Int)=2 by decide)) (λ_=>⟨⟨m,d,K,L,.inl d4⟩,F⟩)
 ·rw[tP M a];rfl
 ·show if(3:Int)=2\/(3:Int)=3 then _ else _;rw[av (by decide)];exact v
 ·intro y C;rcases EG C with C|rfl
  ·exact M.ln a y C
  ·exact V
theorem MI.word (M:MI gh ta n s) {f:Int} (R:Av ta s i f) {o:Int} (v:0<=o/\o<16) (b:Int):MI gh ta n {s with h:=bA s.h (cW s.h.s.1 (16*f+o) b,s.h.s.2)}:=by
 obtain⟨m,d,w,t,u⟩:=R;subst w;obtain⟨H,P⟩:=M.hi.ZW t (u.imp id λc=>c.1) v b;exact{M with
  hi:=H
  pn:=λ{j y} a=>M.pn a
  ln:=λ{j y} a l x=>by
   obtain⟨z,A,d',g,p,q⟩:=M.ln a l x;refine⟨z,A,d',g,p,?_⟩;show(_/\jo (bA s.h (cW s.h.s.1 (16*(m:Int)+o) b,s.h.s.2)) _ _= _)\/ _;rw[P.to id];exact q
  wl:=λ{j y} a e=>by
   obtain⟨l,g,p,q,B⟩:=M.wl a e;refine⟨l,g,p,q,B.imp id λ⟨c1,c2,c3⟩=>⟨?_,c2,c3⟩⟩;obtain⟨k0,d',r,C,D⟩:=c1;refine⟨k0,d',r,C,λk E F=>?_⟩;have ne:y.wk.1≠(m:Int):=λc=>by
    rcases u with I|⟨_, _,G⟩
    ·rw[c,show((m:Int)).toNat=m from rfl,t] at r;cases r;omega
    ·rw[c,G] at c3;cases c3
   show dC (cW s.h.s.1 (16*(m:Int)+o) b) _=0;rw[mL (by omega)];exact D k E F}
theorem jj {s1:MS} {r:Int×Int} {x:bW} (h:s1.cs[i]? =some x):(iV (s1,r,true) i x).1={s1 with cs:=s1.cs.set i (cC x.ls)}:=by
 unfold iV;rw[av rfl];show cj s1 i (cC ((s1.cs.getD i x).ls))= _;rw[B1,h];rfl
theorem MI.reach (M:MI gh ta n s) {x:bW} (a:s.cs[i]? =some x) (f:x.ph=3):MI gh ta n (iV (gi s i x) i x).1:=by
 have d:=aE a;have e:x.ph≠4:=by omega
 unfold gi;dsimp only;split
 ·have M1:=M.word (M.rc a f).1 (o:=x.c.2.1 % 16) (by omega) x.c.2.2.1;rw[jj (by exact a)];exact M1.idle a e (λl b=>M1.ln a l b) (M1.tl x d) _
 ·rw[jj (by exact a)];exact M.idle a e (λl b=>M.ln a l b) (M.tl x d) _
end
structure NN (s s':WD):Prop where
 to: ∀{m:Nat} {d':DT},s'.2[m]? =some d'->d'.1=5-> ∃d,s.2[m]? =some d/\d.1=5
theorem NN.refl {s s':WD} (h:s'.2=s.2):NN s s':=⟨λ{m d'} h1 a=>⟨d',by rw[<-h];exact h1,a⟩⟩
theorem NN.trans {s t u:WD} (a:NN s t) (b:NN t u):NN s u:=⟨λh1 c=>by
 obtain⟨d,e,f⟩:=b.to h1 c;exact a.to e f⟩
theorem NN.ch {s:WD} {W:List Int} {f:Int} {g:DT->DT×Int} (b: ∀d,(g d).2=0->(g d).1.1=5->d.1=5):NN s (W,dD s.2 f g):=⟨λ{m d'} h1 a=>by
 have h1:(dD s.2 f g)[m]? =some d':=h1;by_cases c:f<0\/f>=s.2.length
 ·rw[xD c] at h1;exact⟨d',h1,a⟩
 ·rw[pf (by omega)] at h1;split at h1
  ·rename_i e;rcases jX h1 with ⟨rfl,rfl⟩|⟨_,h1⟩
   ·have h:f.toNat<s.2.length:=by omega
    refine⟨s.2.getD f.toNat zD,?_,b _ e a⟩;rw[B1,B3 h];rfl
   ·exact⟨d',h1,a⟩
  ·exact⟨d',h1,a⟩⟩
theorem JE {k o:Int} (b:k≠5) (d:DT) (h0:(aO k o d).2=0) (a:(aO k o d).1.1=5):d.1=5:=by
 unfold aO at h0 a;dsimp only at h0 a;unfold mI at a;rw[av h0] at a;exact absurd a b
theorem ZY {x:Int} (d:DT) (h0:(g_ x d).2=0) (a:(g_ x d).1.1=5):d.1=5:=by
 unfold g_ at h0 a;dsimp only at h0 a;unfold qC at a;rw[av h0] at a;exact a
theorem NN.take {s:WD} {W:List Int} {k o:Int} (a:k≠5):NN s (W,dG s.2 k o):=by
 unfold dG;split
 ·exact .refl rfl
 ·exact .ch λd=>JE a d
theorem NN.tk (s:WD) (o:Int) (g:Int->Int):NN s (iF s o g):=NN.take (by decide)
theorem NN.lay (s:WD) (i:Int) (e:ET):NN s (dK s i e):= .refl rfl
theorem NN.down (o pg:Int): ∀(n:Nat) (x:WD×PT),NN x.1 (qQ o pg n x).1
 |0,x=> .refl rfl
 |n+1,x=>NN.trans (NN.trans (NN.tk x.1 o λ_=>0) (NN.lay _ x.2.2.2.1 (b_ (dX x.1 o)))) (NN.down o pg n (dK (iF x.1 o λ_=>0) x.2.2.2.1 (b_ (dX x.1 o)),(dX x.1 o,x.2.2.1 - 1,dQ (dX x.1 o) pg (x.2.2.1 - 1),())))
theorem NN.map (s:WD) (o r:Int) (g:Bool) (pg f rt:Int):NN s (jB s o r g pg f rt):=by
 unfold jB;split
 ·exact .refl rfl
 split
 ·unfold rH;split
  ·exact NN.trans (NN.down o pg _ (s,dE s.1 r pg)) (NN.lay _ _ _)
  ·exact .refl rfl
 ·exact .refl rfl
theorem NN.don (h:HS) (v a b:Int):NN h.s (jR h v a b).s:=by
 have h1:NN h.s (kf h v):=NN.take (by decide);have c:NN h.s (qH h v a b):=h1.trans (NN.map ..);unfold jR;split
 ·exact .refl rfl
 split
 ·exact .refl rfl
 split
 ·exact h1
 split
 ·exact c.trans (NN.ch λd=>JE (by decide) d)
 ·exact c.trans (.refl rfl)
theorem NN.Kg (h:HS):NN h.s (gP h).s:=by
 unfold gP;split
 ·exact .refl rfl
 split
 ·exact NN.tk ..
 ·exact .refl rfl
theorem NN.tak (h:HS) (v a b c:Int):NN h.s (ij h v a b c).s:=NN.trans (NN.map ..) (NN.ch λd=>ZY d)
structure CE (gh dA:Gh) (h h':HS) (P:Nat->Int->Prop) (U:Int->Prop):Prop where
 hi:HI dA h'
 kd:KD h.s h'.s
 pg:Ah h h' P
 gk: ∀{f:Int} {w:Int×Nat×Int},gh f=some w-> ¬ U w.1->dA f=some w\/iH h'.s f
 gn: ∀{f:Int},iH h.s f->iH h'.s f
 lv: ∀{v:Int},¬ U v->aV h.g v=true->aV h'.g v=true
section
variable {gh dA:Gh} {ta:Int->Bool} {n:Nat} {s s':MS} {i:Nat} {h':HS} {P:Nat->Int->Prop} {U:Int->Prop}
theorem MI.quiet (M:MI gh ta n s) (C:CE gh dA s.h h' P λ_=>False) (N:NN s.h.s h'.s) (E: ∀{j:Nat} {q:Int},P j q->0<=q->q<65536->(jo s.h j q).2.2.1≠0):MI dA ta n {s with h:=h'}:=by
 have B: ∀{m:Nat} {d:DT},s.h.s.2[m]? =some d->d.1=4-> ∃d',h'.s.2[m]? =some d'/\d'.1=4:=λ{m d} h1 F=>by
  obtain⟨d',g,b⟩:=C.kd.k4 h1 F;rcases b with b|b
  ·exact⟨d',g,b⟩
  ·obtain⟨d2,v,x⟩:=N.to g b;rw[h1] at v;cases v;omega
 exact{M with
  hi:=C.hi
  k5:=λf G=>by
   obtain⟨m,d,h1,D,H⟩:=M.k5 f G;obtain⟨d',g,b⟩:=C.kd.k5 D H;exact⟨m,d',h1,g,b⟩
  kd:=λ{m d} h1 D=>by
   obtain⟨d0,g,b⟩:=N.to h1 D;exact M.kd g b
  pn:=λ{j y} r=>M.pn r
  ln:=λ{j y} r l I=>by
   obtain⟨w,m,d,o,p,t⟩:=M.ln r l I;rcases t with ⟨i,u⟩|⟨i,q,a,u,z,A,J⟩
   ·obtain⟨d',g,b⟩:=B p i;refine⟨w,m,d',o,g,.inl ⟨b,?_⟩⟩;show jo h' _ _= _;rw[C.pg.to (λc=>E c w.2.2.1 w.2.2.2 (by rw[u]))];exact u
   ·rcases i with i|i
    ·obtain⟨d',g,b⟩:=B p i;exact⟨w,m,d',o,g,.inr ⟨.inl b,q,a,u,z,A,λc=>by omega⟩⟩
    ·obtain⟨d',g,b⟩:=C.kd.k5 p i;exact⟨w,m,d',o,g,.inr ⟨.inr b,q,a,u,z,A,λ_=>J i⟩⟩
  ac:=λy K e=>by
   obtain⟨v,x⟩:=M.ac y K e;exact⟨C.lv id v,x⟩
  wl:=λ{j y} r e=>by
   obtain⟨l,o,p,t,i⟩:=M.wl r e;refine⟨l,o,p,t,?_⟩;rcases i with i|⟨c1,c2,c3⟩
   ·rcases C.gk i id with k|k
    ·exact .inl k
    ·obtain⟨k0,d,v,x, _⟩:=k;obtain⟨d0,g,b⟩:=N.to v x;rw[(M.hi.inv.kd i).2.2.1] at g;cases g;exact absurd b (show ¬ (3:Int)=5 by decide)
   ·exact .inr ⟨C.gn c1,c2,c3⟩
  rc:=λ{j y} r e=>by
   obtain⟨⟨m,d,o,p,t⟩,i⟩:=M.rc r e;refine⟨?_,i⟩;rcases t with t|⟨u,z,A⟩
   ·obtain⟨d',g,b⟩:=B p t;exact⟨m,d',o,g,.inl b⟩
   ·obtain⟨d',g,b⟩:=C.kd.k5 p u;exact⟨m,d',o,g,.inr ⟨b,z,A⟩⟩}
theorem HI.same {h:HS} (H:HI gh h) (c:HI dA h') (a:h'.s=h.s) (b:h'.g=h.g):HI gh h' where
 inv:=by rw[a];exact H.inv
 rt:=H.rt
 nl:=by rw[a];exact H.nl
 sz:=by rw[a];exact H.sz
 jm:=by rw[b];exact H.jm
 root:=by rw[b];exact H.root
 own:=by rw[b];exact H.own
 hc:=c.hc
theorem CE.same {h:HS} (H:HI gh h) (c:HI dA h') (a:h'.s=h.s) (b:h'.g=h.g):CE gh gh h h' (λ_ _=>False) (λ_=>False):=
 ⟨H.same c a b,.refl (by rw[a]),Ah.of a b _,λh _=> .inl h,λh=>by rw[a];exact h,λ_ h=>by rw[b];exact h⟩
end
theorem tS: ∀(l m:List Int),l.Nodup->(∀x∈l,x∈m)->l.length<=m.length
 |[], _, _, _=>Ft _
 |a::l,m,b,c=>by
  have d:a∈m:=c a BX;have g:=tS l (m.erase a) (Bx.1 b).2 λx f=>by
   have:x≠a:=λe=>(Bx.1 b).1 (by rw[<-e];exact f);exact(List.mem_erase_of_ne this).2 (c x (Bs _ f))
  rw[List.length_erase_of_mem d] at g;have:0<m.length:=List.length_pos_of_mem d;rw[Dl];omega
theorem PI {α:Type} (i:Nat): ∀(l:List α) (k:Nat),(l.zipIdx k).countP (λx=>decide (x.2≠i))+(if k<=i/\i<k+l.length then 1 else 0)=l.length
 |[],k=>by
  rw[ao (by simp)];rfl
 |a::l,k=>by
  have b:=PI i l (k+1);rw[GH,E4,Dl];by_cases e:k=i
  ·subst e;rw[ao (by omega)] at b;rw[ao (by simp),av (by omega)];omega
  ·rw[av (by simpa using e)];by_cases c:k+1<=i/\i<k+1+l.length
   ·rw[av c] at b;rw[av (by omega)];omega
   ·rw[ao c] at b;rw[ao (by omega)];omega
section
variable {gh dA:Gh} {ta:Int->Bool} {n:Nat} {s s':MS} {i:Nat} {h':HS} {P:Nat->Int->Prop} {U:Int->Prop}
theorem iq {f:Int}:f∈eV s h'<-> ∃(m:Nat) (d:DT),f=(m:Int)/\h'.s.2[m]? =some d/\d.1=5/\f∉s.kn:=by
 unfold eV;rw[B2,AT];constructor
 ·rintro⟨⟨m,c,rfl⟩,b⟩;rw[Dd] at c;have a:h'.s.2[m]? =some h'.s.2[m]:=B3 c;rw[DA,ny a] at b;refine⟨m, _,rfl,a,by simpa using b.1,by simpa using b.2⟩
 ·rintro⟨m,d,rfl,a,e,g⟩;refine⟨⟨m,Dd.2 (AH.1 a).1,rfl⟩,?_⟩;rw[ny a,e];simpa using g
theorem zO:(eV s h').Nodup:=by
 unfold eV;refine List.Pairwise.sublist DH ?_;rw[GI];exact GD.imp λh e=>h (by omega)
theorem MI.box (M:MI gh ta n s) {j:Nat} {q:List AK} (c:s.bx[j]? =some q):q.length<=8:=by
 obtain⟨h1,d⟩:=M.aq c;have f:(q.map (·.1)).Nodup:=by
  unfold List.Nodup;rw[GI];exact h1.imp λh e=>by omega
 have:=tS _ (s.cs.map (·.ak)) f λa g=>by
  obtain⟨b,hb,rfl⟩:=AT.1 g;obtain⟨z,y, _,i, _,k4⟩:=d b hb;exact AT.2 ⟨y,aE i,by rw[k4]⟩
 rw[Dh,Dh,M.lc] at this;have:=M.nn;omega
theorem MI.fQ (M:MI gh ta n s) {j:Nat} {q:List AK} (b:s.bx[j]? =some q) {a:AK} (c:a∈q):a.1<=(s.op.length:Int):=by
 obtain⟨z,y, _,d,e,k4⟩:=(M.aq b).2 a c;have:=(M.wt y (aE d) e).2.1;rw[k4];exact this
theorem CN (M:MI gh ta n s) (i:Nat) {t p:Int} (e:1<=t/\t<=16) (f: -1<=p/\p<65536):
 dy s.bx s.op i t p=((s.op.length:Int)+1,(s.bx.zipIdx.map λ(q,j)=>if j=i then q else q++[((s.op.length:Int)+1,t,p,())]),s.op++[(s.bx.length:Int) - 1]):=by
 unfold dy;rw[ao (by omega),ao ?_];intro c;obtain⟨q,b,a⟩:=FU.1 c;obtain⟨j,d⟩:=DN (List.mem_of_mem_eraseIdx b);have:=M.box d;have a:q.length=16:=by simpa using a
 omega
theorem SF {bx:List (List AK)} {i j:Nat} {x:AK} {a:List AK} (h:(bx.zipIdx.map λ(q,j)=>if j=i then q else q++[x])[j]? =some a): ∃q,bx[j]? =some q/\a=if j=i then q else q++[x]:=by
 rw[E5,GJ] at h;cases hb:bx[j]? with
 |none=>rw[hb] at h;cases h
 |some q=>
  rw[hb] at h;refine⟨q,rfl,?_⟩;have:=Option.some.inj h;rw[<-this];show(if 0+j=i then _ else _)= _;rw[Nat.zero_add]
theorem post_at {bx:List (List AK)} {i j:Nat} {x:AK} {q:List AK} (h:bx[j]? =some q):(bx.zipIdx.map λ(q,j)=>if j=i then q else q++[x])[j]? =some (if j=i then q else q++[x]):=by
 rw[E5,GJ,h];show some (if 0+j=i then _ else _)= _;rw[Nat.zero_add]
theorem EH (q:List AK) (x:AK) (k:Int):jD (q++[x]) k=(jD q k||x.1==k):=by
 unfold jD;rw[List.any_append];simp
theorem JF {α:Type}: ∀(l:List α) (k:Nat),(l.zipIdx k).map Prod.fst=l
 |[], _=>rfl
 |a::l,k=>by rw[GH,DE,JF l (k+1)]
theorem SG {bx:List (List AK)} {i:Nat} {x:AK} {k:Int} (a:x.1≠k):(bx.zipIdx.map λ(q,j)=>if j=i then q else q++[x]).countP (λq=>jD q k)=bx.countP λq=>jD q k:=by
 rw[Fh];have:((λq=>jD q k)∘λ(z:List AK×Nat)=>(match z with|(q,j)=>if j=i then q else q++[x]))=(λq=>jD q k)∘Prod.fst:=by
  funext ⟨q,j⟩;show jD (if j=i then q else q++[x]) k=jD q k;split
  ·rfl
  ·rw[EH,beq_eq_false_iff_ne.2 a,Bool.or_false]
 rw[this, <-Fh,JF]
theorem SH {bx:List (List AK)} {i:Nat} {x:AK} (hi:i<bx.length) (a: ∀q∈bx,jD q x.1=false):(bx.zipIdx.map λ(q,j)=>if j=i then q else q++[x]).countP (λq=>jD q x.1)=bx.length - 1:=by
 rw[Fh];have:(bx.zipIdx).countP ((λq=>jD q x.1)∘λ(z:List AK×Nat)=>(match z with|(q,j)=>if j=i then q else q++[x]))=bx.zipIdx.countP λz=>decide (z.2≠i):=by
  refine List.countP_congr λ⟨q,j⟩ b=>?_;have c:q∈bx:=(List.mem_zipIdx_iff_getElem?.1 b |> B5);show jD (if j=i then q else q++[x]) x.1=true<->decide (j≠i)=true;split
  ·rename_i e;rw[a q c,e];simp
  ·rename_i e;rw[EH];simp[e]
 rw[this];have:=PI i bx 0;rw[av (by omega)] at this;omega
end
end Go.Proofs.YtlcenllcmeebhaaGreat
