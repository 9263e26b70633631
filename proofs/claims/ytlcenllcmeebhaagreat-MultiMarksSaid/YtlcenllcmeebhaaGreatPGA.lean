import Derived.CallsIn
import Derived.OrdersIn
import Derived.Below
import Derived.Laws.Sem
import Derived.KernelRfl
import Derived.Laws.StructEq
import Derived.Laws.Small
import Derived.WalkSpells
import Derived.ChangeKeysEq
import Derived.RangeFuncLeaves
import Derived.Laws.World
import Derived.Laws.NewFold
import Derived.OwnWalkIn
import Derived.ChangeMaps4
import Derived.Maps.RangeRun
import Derived.RangeFuncRecord
import Derived.LaidEqlPtr
import Derived.Conc.LoneSelect
import Derived.Laws.Append
import Derived.Test.YtlcenllcmeebhaaGreatProg
import Derived.Deep.Slices
import Derived.ProofKit
import Derived.OpenShut
/-! What the statement leans on: texts joined and shortened by a program of mine. -/
set_option linter.unusedVariables false
set_option linter.unusedSimpArgs false
open Go renaming World->A2,Value->AC,Addr->Ag,TypeId->Aq,Program->B1,IntKind->B5,FuncId->B6,MapEntry->Dj
open False renaming elim->AI
open Go.Sem renaming run_bind->B2,run_pure->B4
open Go.Result renaming andThen_ok->B3,andThen->Dk
open Go.Region renaming ready->B7,wanted->Bx,binds->Do,schedule->Ga,linearise->NG
open List renaming range->BJ,mem_filter->DA,mem_cons->DQ,all_eq_true->E5,mem_range->F2,mem_append->FQ,length_append->FR,mem_map->Gd,getElem?_cons_zero->Gi,map_toArray->Gj,map_cons->H4,map_nil->H5,range'->H6,countP_singleton->H7,all_cons->Ih,getElem?_eq_getElem->Ik,mem_cons_self->In,getElem?_toArray->Io,getElem?_cons_succ->J3,range'_succ->J5,countP_append->J6,length_cons->NI,take_add_one->NK,take_set_of_le->NL,drop_set_of_lt->NP,mem_cons_of_mem->NR,find?_some->O2,filter_cons->OW,range_eq_range'->Oa,countP_eq_zero->Of,range_succ->Oh,flatMap_cons->Oj,take_left'->Ou
open Go.Op renaming equalIn->BP
open Bool renaming and_eq_true->BY,false_eq_true->FS,or_eq_true->GD,not_eq_true'->HB,or_false->J7,not_false->Ox
open Array renaming getElem?_eq_some_iff->CW,getElem?_setIfInBounds_ne->Dn,replicate->FU,getD_eq_getD_getElem?->GF,all_eq_true_iff_forall_mem->HZ,mk->JR,ext'->JS,mapM_eq_mapM_toList->JU,getD->JW,getElem?_eq_getElem->JX,mem_of_getElem?->K1,getElem?_modify->PP
open BitVec renaming ofInt->DB
open Go.Act renaming put->DH,put_comm->FE,eval->GG
open Option.some renaming injEq->Dc
open Go.MapKept renaming run_getObj_map->Dg,run_checkKey->Dq,run_findKey->Dr,IsKey->Hb,run_setObj_map->Hh
open Nat renaming le_refl->Dx,blt->Fg,add_mul->Fi,testBit_or->GH,zero_add->Kb,strongRecOn->Kf,mul_le_mul_right->PS,lt_of_lt_of_le->Pl,div_eq_of_lt->Pp
open Go.Fence renaming wide->E4
open Go.IntKind renaming i64->FP,u64->Rg
open Go.Calls renaming mono->Fm
open Go.Instr renaming findNow->Fo,lookup->Ft,fill->Hq,indexAt->Hr,sureAddr->I1,index->I2,extract->ID,mapUpdate->Ki,sliceBound->S0,sliceBounds->S1,sliceAt->S2,makeSlice->T0,buildSlice->T2
open Go.World renaming putObj->Fw,cell?->LL,setCell->M4
open Go.Builtin renaming firstCells->Fx,len_->GI,zeroCells->GJ,lenOf->M5,append_->N6,delete_->N7,nextslicecap->T3,copy_->T_
open Go.Region.linearise renaming go->G1
open Option renaming map_some->GS,getD_some->IR,map_none->TD
open Go.Conc renaming G->If,solo->TE,rcase->TJ
namespace Go.RX
open Go.RowKit
def Ext (w w':A2):Prop:=Below w.heap.size w w'
theorem Ext.refl (w:A2):Ext w w:=Below.refl _ w
theorem Ext.trans {a b c:A2} (h:Ext a b) (k:Ext b c):Ext a c:=Below.trans h (Below.mono k h.size)
theorem Ext.drew (w:A2):Ext w {w with drawn:=w.drawn+1}:=⟨rfl,rfl,rfl,Dx _,λ_ _=>rfl⟩
theorem Ext.alloc (w:A2) (o:Obj):Ext w (w.alloc o):=Below.alloc (Below.refl _ w) (Dx _) o
theorem Ext.size {w w':A2} (h:Ext w w'):w.heap.size<=w'.heap.size:=Below.size h
theorem Ext.block {w w':A2} (h:Ext w w') {k:Nat} (a:k<w.heap.size):w'.heap[k]? =w.heap[k]? :=Below.block h k a
theorem Ext.obj {w w':A2} (h:Ext w w') {k:Nat} {o:Obj} (a:w.heap[k]? =some o):w'.heap[k]? =some o:=by
 rw[h.block (CW.1 a).1];exact a
theorem Gx {w:A2} {a:Ag} {v:AC} (h:w.cell? a=some v):a.block<w.heap.size:=by
 unfold LL at h;cases b:w.heap[a.block]? with
 |none=>simp[b] at h
 |some o=>exact(CW.1 b).1
theorem Ext.cell {w w':A2} (h:Ext w w') {a:Ag} {v:AC} (b:w.cell? a=some v):w'.cell? a=some v:=by
 rw[Below.cell h (Gx b)];exact b
inductive Sc where
 |int (k:B5)|bool|str|ptr|slice|map|chan|func|zV (f:B6) (n:Nat)|Xx
 deriving DecidableEq
@[reducible] def DF:Nat->Type
 |0=>Unit
 |n+1=>Option Ag×DF n
def xj:(n:Nat)->DF n->List AC
 |0, _=>[]
 |n+1,x=> .pointer x.1::xj n x.2
def mO:(n:Nat)->List AC->Option (DF n)
 |0,[]=>some ()
 |n+1,.pointer a::r=>match mO n r with
  |some y=>some (a,y)
  |none=>none
 | _, _=>none
theorem tN: ∀{n:Nat} {l:List AC} {x:DF n},mO n l=some x->xj n x=l
 |0,[], _, _=>rfl
 |0, _:: _, _,h=>by simp[mO] at h
 |n+1,[], _,h=>by simp[mO] at h
 |n+1,v::r,x,h=>by
  cases v<;>simp only[mO] at h<;>(try (cases h;done));split at h
  ·rename_i y a;cases h;simp only[xj,tN a]
  ·cases h
@[reducible] def Sc.T:Sc->Type
 | .int _=>Int
 | .bool=>Bool
 | .str=>ByteArray
 | .ptr=>Option Ag
 | .slice=>Option Ag×Nat×Nat
 | .map=>Option Nat
 | .chan=>Option Nat
 | .func=>AC
 | .zV _ n=>DF n
 | .Xx=>Nat
def Sc.gR:(s:Sc)->s.T->AC
 | .int k,n=> .int k n
 | .bool,b=> .bool b
 | .str,s=> .string s
 | .ptr,a=> .pointer a
 | .slice,x=> .slice x.1 x.2.1 x.2.2
 | .map,r=> .map r
 | .chan,r=> .chan r
 | .func,v=>v
 | .zV f n,x=> .func (.func f) #[] ⟨xj n x⟩
 | .Xx,y=> .func (.yield y) #[] #[]
def Sc.proj:(s:Sc)->AC->Option s.T
 | .int k,.int d n=>if k=d then some n else none
 | .bool,.bool b=>some b
 | .str,.string s=>some s
 | .ptr,.pointer a=>some a
 | .slice,.slice a n c=>some (a,n,c)
 | .map,.map r=>some r
 | .chan,.chan r=>some r
 | .func,v=>some v
 | .zV f n,.func (.func f') ⟨[]⟩ ⟨l⟩=>if f=f' then mO n l else none
 | .Xx,.func (.yield y) ⟨[]⟩ ⟨[]⟩=>some y
 | _, _=>none
theorem Sc.ib {s:Sc} {v:AC} {x:s.T} (h:s.proj v=some x):s.gR x=v:=by
 cases s with
 |zV f n=>
  cases v with
  |func fn first a=>
   obtain⟨b⟩:=first
   obtain⟨c⟩:=a;cases fn<;>cases b<;>simp only[Sc.proj] at h<;>(try (cases h;done));split at h
   ·subst_vars
    simp only[Sc.gR,tN h]
   ·cases h
  | _=>simp[Sc.proj] at h
 |Xx=>
  cases v with
  |func fn first a=>
   obtain⟨b⟩:=first
   obtain⟨c⟩:=a;cases fn<;>cases b<;>cases c<;>simp only[Sc.proj] at h<;>first|(cases h;done)|(cases h;rfl)
  | _=>simp[Sc.proj] at h
 | _=>
   cases v<;>simp only[Sc.proj] at h<;>
    first
     |(cases h;rfl)
     |(split at h<;>cases h;subst_vars;rfl)
     |(cases h)
@[reducible] def jg:List Sc->Type
 |[]=>Unit
 |s::r=>s.T×jg r
def a_:(l:List Sc)->jg l->List AC
 |[], _=>[]
 |s::r,x=>s.gR x.1::a_ r x.2
def l4:(l:List Sc)->List AC->Option (jg l)
 |[],[]=>some ()
 |s::r,v::vs=>match s.proj v,l4 r vs with
  |some x,some y=>some (x,y)
  | _, _=>none
 | _, _=>none
theorem pz: ∀{l:List Sc} {vs:List AC} {x:jg l},l4 l vs=some x->a_ l x=vs
 |[],[], _, _=>rfl
 |[], _:: _, _,h=>by simp[l4] at h
 | _:: _,[], _,h=>by simp[l4] at h
 |s::r,v::vs,x,h=>by
  simp only[l4] at h;cases h1:s.proj v with
  |none=>simp[h1] at h
  |some a=>
   cases c:l4 r vs with
   |none=>simp[h1,c] at h
   |some b=>
    simp only[h1,c] at h;cases h;simp only[a_,Sc.ib h1,pz c]
inductive El where
 |one (s:Sc)|agg (l:List Sc)
@[reducible] def El.T:El->Type
 | .one s=>s.T
 | .agg l=>jg l
def El.gR:(e:El)->e.T->AC
 | .one s,x=>s.gR x
 | .agg l,x=> .agg ⟨a_ l x⟩
def El.proj:(e:El)->AC->Option e.T
 | .one s,v=>s.proj v
 | .agg l,.agg ⟨vs⟩=>l4 l vs
 | .agg _, _=>none
theorem El.ib {e:El} {v:AC} {x:e.T} (h:e.proj v=some x):e.gR x=v:=by
 cases e with
 |one s=>exact Sc.ib h
 |agg l=>
  cases v with
  |agg cs=>obtain⟨vs⟩:=cs;exact congrArg (λl=>Value.agg ⟨l⟩) (pz h)
  | _=>simp[El.proj] at h
@[reducible] def oq:List El->Type
 |[]=>Unit
 |e::r=>e.T×oq r
def uR:(l:List El)->oq l->List AC
 |[], _=>[]
 |e::r,x=>e.gR x.1::uR r x.2
def nA:(l:List El)->List AC->Option (oq l)
 |[],[]=>some ()
 |s::r,v::vs=>match s.proj v,nA r vs with
  |some x,some y=>some (x,y)
  | _, _=>none
 | _, _=>none
theorem vH: ∀{l:List El} {vs:List AC} {x:oq l},nA l vs=some x->uR l x=vs
 |[],[], _, _=>rfl
 |[], _:: _, _,h=>by simp[nA] at h
 | _:: _,[], _,h=>by simp[nA] at h
 |s::r,v::vs,x,h=>by
  simp only[nA] at h;cases h1:s.proj v with
  |none=>simp[h1] at h
  |some a=>
   cases c:nA r vs with
   |none=>simp[h1,c] at h
   |some b=>
    simp only[h1,c] at h;cases h;simp only[uR,El.ib h1,vH c]
inductive Sh where
 |el (e:El)|bu (l:List El)
@[reducible] def Sh.T:Sh->Type
 | .el e=>e.T
 | .bu l=>oq l
def Sh.gR:(s:Sh)->s.T->AC
 | .el e,x=>e.gR x
 | .bu l,x=> .tuple ⟨uR l x⟩
def Sh.proj:(s:Sh)->AC->Option s.T
 | .el e,v=>e.proj v
 | .bu l,.tuple ⟨vs⟩=>nA l vs
 | .bu _, _=>none
theorem Sh.ib {e:Sh} {v:AC} {x:e.T} (h:e.proj v=some x):e.gR x=v:=by
 cases e with
 |el s=>exact El.ib h
 |bu l=>
  cases v with
  |tuple cs=>obtain⟨vs⟩:=cs;exact congrArg (λl=>Value.tuple ⟨l⟩) (vH h)
  | _=>simp[Sh.proj] at h
def Ax (P:B1):Nat->Aq->Option (List Sc)
 |0, _=>none
 |d+1,t=>match P.underlying t with
  |some (.int k)=>some [.int k]
  |some .bool=>some [.bool]
  |some .string=>some [.str]
  |some (.pointer _)=>some [.ptr]
  |some (.slice _)=>some [.slice]
  |some (.map _ _)=>some [.map]
  |some (.chan _ _)=>some [.chan]
  |some (.func _ _ _)=>some [.func]
  |some (.struct fs)=>fs.toList.foldr (λf c=>match Ax P d f.type,c with|some a,some b=>some (a++b)| _, _=>none) (some [])
  |some (.array n e)=>match Ax P d e with
   |some a=>if n<=64 then some (List.replicate n a).flatten else none
   |none=>none
  | _=>none
def uI (P:B1) (t:Aq):Option El:=
 match P.underlying t with
 |some (.struct _)|some (.array _ _)=>(Ax P 20 t).map .agg
 | _=>match Ax P 20 t with
   |some [s]=>some (.one s)
   | _=>none
def WZ (P:B1):List Aq->Option (List El)
 |[]=>some []
 |t::r=>match uI P t,WZ P r with
  |some e,some l=>some (e::l)
  | _, _=>none
def aaP (P:B1) (f:B6):Sh:=
 match P.funcs[f]? with
 |some fn=>match fn.resultTypes.toList with
  |[t]=>match uI P t with
   |some e=> .el e
   |none=> .bu []
  |ts=>match WZ P ts with
   |some l=> .bu l
   |none=> .bu []
 |none=> .bu []
def aI (k:B5) (x y:Int):Int:=k.wrap (x+y)
def aX (k:B5) (x y:Int):Int:=k.wrap (x - y)
def gq (k:B5) (x y:Int):Int:=k.wrap (x*y)
def wO (k:B5) (x y:Int):Int:=k.wrap (x.tdiv y)
def ff (x y:Int):Int:=x.tmod y
def wP (k:B5) (x y:Int):Int:=k.wrap (DB k.bits x &&& DB k.bits y).toNat
def orI (k:B5) (x y:Int):Int:=k.wrap (DB k.bits x ||| DB k.bits y).toNat
def aae (k:B5) (x y:Int):Int:=k.wrap (DB k.bits x ^^^ DB k.bits y).toNat
def gD (k:B5) (x y:Int):Int:=k.wrap (DB k.bits x &&& ~~~ (DB k.bits y)).toNat
def Dm (k:B5) (x y:Int):Int:=k.wrap (x*2 ^ (min y.toNat k.bits))
def J9 (k:B5) (x y:Int):Int:=x.fdiv (2 ^ (min y.toNat k.bits))
def aG (k:B5) (x:Int):Int:=k.wrap x
def aaf (k:B5) (x:Int):Int:=k.wrap (DB k.bits (if k.signed then -1 else k.max) ^^^ DB k.bits x).toNat
def ko (x y:Int):Int:=if y<x then y else x
def Dp (x y:Int):Int:=if y>x then y else x
structure PR where
 ob:Option Prop
 v:AC
def pa:Operand->Bool
 | .const (.int _ n)=>decide (n≠0)
 | _=>false
def pN:Operand->Bool
 | .const (.int _ n)=>decide (0<=n)
 | _=>false
def kq:Operand->Bool
 | .const (.pointer none)| .const (.slice none _ _)| .const (.map none)| .const .nilFunc=>true
 | _=>false
def OO (op:BinOp) (k:B5) (x y:Int) (a:Operand):Option PR:=
 match op with
 | .add=>some ⟨none,.int k (aI k x y)⟩
 | .sub=>some ⟨none,.int k (aX k x y)⟩
 | .mul=>some ⟨none,.int k (gq k x y)⟩
 | .quo=>some ⟨if pa a then none else some (y≠0),.int k (wO k x y)⟩
 | .rem=>some ⟨if pa a then none else some (y≠0),.int k (ff x y)⟩
 | .and=>some ⟨none,.int k (wP k x y)⟩
 | .or=>some ⟨none,.int k (orI k x y)⟩
 | .xor=>some ⟨none,.int k (aae k x y)⟩
 | .andNot=>some ⟨none,.int k (gD k x y)⟩
 | .eql=>some ⟨none,.bool (x==y)⟩
 | .neq=>some ⟨none,.bool (x != y)⟩
 | .lss=>some ⟨none,.bool (decide (x<y))⟩
 | .leq=>some ⟨none,.bool (decide (x<=y))⟩
 | .gtr=>some ⟨none,.bool (decide (x>y))⟩
 | .geq=>some ⟨none,.bool (decide (x>=y))⟩
 | _=>none
def jV (P:B1) (t:Aq):Option Bool:=
 match P.underlying t with
 |some (.struct _)|some (.array _ _)=>some true
 |some _=>some false
 |none=>none
def qE (P:B1) (t:Aq) (cs:List AC) (off:Nat):Option AC:=
 match jV P t,P.info? t with
 |some true,some i=>some (.agg ⟨(cs.drop off).take i.size⟩)
 |some false, _=>cs[off]?
 | _, _=>none
def NZ (P:B1) (g:Aq->AC->AC->Option Bool) (xs ys:List AC):List Field->Option Bool
 |[]=>some true
 |f::fs=>if f.name≠ "_" then
   match qE P f.type xs f.offset,qE P f.type ys f.offset with
   |some a,some b=>match g f.type a b,NZ P g xs ys fs with
    |some r,some s=>some (r&&s)
    | _, _=>none
   | _, _=>none
  else NZ P g xs ys fs
def eqV (P:B1):Nat->Aq->AC->AC->Option Bool
 |0, _, _, _=>none
 |d+1,t,x,y=>
  match P.underlying t with
  |some .bool=>match x,y with
   | .bool a,.bool b=>some (a==b)
   | _, _=>none
  |some (.int _)=>match x,y with
   | .int k a,.int c b=>if k=c then some (a==b) else none
   | _, _=>none
  |some .string=>match x,y with
   | .string a,.string b=>some (a==b)
   | _, _=>none
  |some (.struct fs)=>match x,y with
   | .agg ⟨xs⟩,.agg ⟨ys⟩=>if P.stoodInHeld t then none else NZ P (eqV P d) xs ys fs.toList
   | _, _=>none
  | _=>none
def Yn (P:B1) (op:BinOp) (t:Aq) (d c:Operand) (x y:AC):Option PR:=
 match x,y with
 | .int k a,.int e b=>
   match op with
   | .shl=>some ⟨if pN c then none else some (0<=b),.int k (Dm k a b)⟩
   | .shr=>some ⟨if pN c then none else some (0<=b),.int k (J9 k a b)⟩
   |op=>if k=e then OO op k a b c else none
 | .bool a,.bool b=>
   match op,P.underlying t with
   | .eql,some .bool=>some ⟨none,.bool (a==b)⟩
   | .neq,some .bool=>some ⟨none,.bool (!(a==b))⟩
   | _, _=>none
 | .pointer p,.pointer q=>
   match op,P.underlying t with
   | .eql,some (.pointer _)=>if kq c then some ⟨none,.bool p.isNone⟩ else if kq d then some ⟨none,.bool q.isNone⟩ else none
   | .neq,some (.pointer _)=>if kq c then some ⟨none,.bool (!p.isNone)⟩ else if kq d then some ⟨none,.bool (!q.isNone)⟩ else none
   | _, _=>none
 | .slice p _ _,.slice q _ _=>
   match op,P.underlying t with
   | .eql,some (.slice _)=>if kq c then some ⟨none,.bool p.isNone⟩ else if kq d then some ⟨none,.bool q.isNone⟩ else none
   | .neq,some (.slice _)=>if kq c then some ⟨none,.bool (!p.isNone)⟩ else if kq d then some ⟨none,.bool (!q.isNone)⟩ else none
   | _, _=>none
 | .map p,.map q=>
   match op,P.underlying t with
   | .eql,some (.map _ _)=>if kq c then some ⟨none,.bool p.isNone⟩ else if kq d then some ⟨none,.bool q.isNone⟩ else none
   | .neq,some (.map _ _)=>if kq c then some ⟨none,.bool (!p.isNone)⟩ else if kq d then some ⟨none,.bool (!q.isNone)⟩ else none
   | _, _=>none
 | .string a,.string b=>
   match op with
   | .eql=>some ⟨none,.bool (a==b)⟩
   | .neq=>some ⟨none,.bool (!(a==b))⟩
   | _=>none
 | .agg xs,.agg ys=>
   if P.eqGuardType P.depth t then none else
   match op,eqV P Op.maxDepth t (.agg xs) (.agg ys) with
   | .eql,some r=>some ⟨none,.bool r⟩
   | .neq,some r=>some ⟨none,.bool (!r)⟩
   | _, _=>none
 | _, _=>none
def unV (op:UnOp) (x:AC):Option PR:=
 match op,x with
 | .not,.bool b=>some ⟨none,.bool (!b)⟩
 | .neg,.int k n=>some ⟨none,.int k (aX k 0 n)⟩
 | .xor,.int k n=>some ⟨none,.int k (aaf k n)⟩
 | _, _=>none
def W6 (P:B1) (src dst:Aq) (x:AC):Option PR:=
 match P.underlying src,P.underlying dst,x with
 |some _,some (.int k),.int _ n=>some ⟨none,.int k (aG k n)⟩
 |some .string,some .string,.string s=>some ⟨none,.string s⟩
 | _, _, _=>none
def xk (P:B1) (t:Aq) (i:Nat):Option Field:=
 match P.underlying t with
 |some (.struct fs)=>fs[i]?
 | _=>none
def maps (ρ:Operand->Option AC):List Operand->Option (List AC)
 |[]=>some []
 |x::r=>match ρ x,maps ρ r with
  |some v,some l=>some (v::l)
  | _, _=>none
def Ay (ρ:Operand->Option AC):List (Nat×Operand)->Option (List (Nat×AC))
 |[]=>some []
 |(i,x)::r=>match ρ x,Ay ρ r with
  |some v,some l=>some ((i,v)::l)
  | _, _=>none
def ad (p:Option Ag) (n:Nat):Option Ag:=p.map (·.add n)
def Cb:List AC->B5->Option (List Int)
 |[], _=>some []
 | .int a n::r,k=>if k=a then(match Cb r k with|some l=>some (n::l)|none=>none) else none
 | _, _=>none
def J_ (l:List Int) (i:Int):Int:=l.getD i.toNat 0
def Yo (l:List AC) (i:Int):AC:=l.getD i.toNat undef
def eT (a:Nat->Option (Nat×Nat)) (cells:List AC):List (Nat×AC)->Option (List AC)
 |[]=>some cells
 |(i,v)::rest=>match a i with
  |none=>none
  |some (off,size)=>
   if(Nat.beq v.cells.toList.length size&&Nat.ble (off+size) cells.length)=true then eT a (cells.take off++(v.cells.toList++cells.drop (off+size))) rest else none
def Az (a:Nat->Option (Nat×Nat)) (cells:Array AC) (ps:List (Nat×AC)):Option (Array AC):=
 match eT a cells.toList ps with
 |some l=>some ⟨l⟩
 |none=>none
theorem DV: ∀(vs:List AC) (k off:Nat) (cs:List AC),off+k+vs.length<=cs.length->
 (vs.zipIdx k).foldl (λ(cs:Array AC) (x:AC×Nat)=>cs.setIfInBounds (off+x.2) x.1) ⟨cs⟩=⟨cs.take (off+k)++(vs++cs.drop (off+k+vs.length))⟩
 |[],k,off,cs,h=>by simp
 |v::vs,k,off,cs,h=>by
  simp only[NI] at h;simp;rw[DV vs (k+1) off (cs.set (off+k) v) (by simp;omega)];congr 1
  grind[NK,NL,NP]
theorem DW (a:Nat->Option (Nat×Nat)): ∀(ps:List (Nat×AC)) (cells r:List AC),eT a cells ps=some r->Hq a ⟨cells⟩ ps=some ⟨r⟩
 |[],cells,r,h=>by cases h;rfl
 |(i,v)::rest,cells,r,h=>by
  unfold eT at h;unfold Hq;split at h
  ·cases h
  ·rename_i off size b;split at h
   ·rename_i hc;simp only[BY,Nat.beq_eq,Nat.ble_eq] at hc;obtain⟨h1,e⟩:=hc;have c:v.cells.size=size:=by simpa using h1
    have d: ¬ ((decide (v.cells.size≠size)||decide (off+v.cells.size>(JR cells).size))=true):=by
     simp[c];omega
    simp only[b,d];have:=DV v.cells.toList 0 off cells (by simp only[h1];omega);have f:v.cells.zipIdx=⟨v.cells.toList.zipIdx 0⟩:=by
     apply JS;simp
    have g:v.cells.zipIdx.foldl (λ(cs:Array AC) (x:AC×Nat)=>cs.setIfInBounds (off+x.2) x.1) ⟨cells⟩=⟨cells.take off++(v.cells.toList++cells.drop (off+size))⟩:=by
     grind
    refine Eq.trans ?_ (DW a rest _ r h)
    grind
   ·cases h
theorem yE {a:Nat->Option (Nat×Nat)} {cells:Array AC} {ps:List (Nat×AC)} {cs:Array AC} (h:Az a cells ps=some cs):Hq a cells ps=some cs:=by
 unfold Az at h;split at h
 ·rename_i l b;cases h;exact DW a ps _ l b
 grind
def F4 (P:B1) (t:Aq) (parts:List (Nat×AC)):Option (Array AC):=
 match P.info? t with
 |some i=>match i.zero with
  |some z=>match P.underlying t with
   |some (.struct fs)=>if fs.toList.all (λf=>(P.info? f.type).isSome) then Az ((fs.toList.map λf=>(f.offset,P.cellsOf f.type))[·]?) z.cells parts else none
   |some (.array _ e)=>match P.info? e with
    |some a=>Az (λi=>some (i*a.size,a.size)) z.cells parts
    |none=>none
   | _=>none
  |none=>none
 |none=>none
def W7 (s:ByteArray) (i:Int):Int:=(((s.data.toList)[i.toNat]?.getD 0).toNat:Int)
def iw (ρ:Operand->Option AC) (d:Nat):Option Operand->Option (Int)
 |none=>some d
 |some x=>match ρ x with
  |some (.int _ n)=>some n
  | _=>none
def pop (P:B1) (ρ:Operand->Option AC) (o:Oper):Option PR:=
 match o.op with
 | .move x=>match ρ x with
   |some v=>some ⟨none,v⟩
   |none=>none
 | .assign x=>match ρ x with
   |some v=>some ⟨none,v⟩
   |none=>none
 | .nilCheck x=>match ρ x with
   |some (.pointer p)=>some ⟨some (p.isSome=true),.pointer p⟩
   |some (.func (.func f) fs cs)=>some ⟨none,.func (.func f) fs cs⟩
   | _=>none
 | .binOp op t x y _=>match ρ x,ρ y with
   |some a,some b=>Yn P op t x y a b
   | _, _=>none
 | .unOp op _ x=>match ρ x with
   |some a=>unV op a
   |none=>none
 | .convert s d x=>match ρ x with
   |some a=>W6 P s d a
   |none=>none
 | .fieldAddr s x f=>match ρ x,xk P s f with
   |some (.pointer p),some fd=>match P.info? fd.type with
    |some i=>if i.size=0 then none else some ⟨some (p.isSome=true),.pointer (ad p fd.offset)⟩
    |none=>none
   | _, _=>none
 | .field t x f=>match ρ x,xk P t f with
   |some (.agg ⟨cs⟩),some fd=>match qE P fd.type cs fd.offset with
    |some v=>some ⟨none,v⟩
    |none=>none
   | _, _=>none
 | .indexAddr t x ix=>match P.underlying t,ρ x,ρ ix with
   |some (.array len e),some (.pointer p),some (.int _ i)=>match P.info? e with
    |some g=>if len<=1 then none else some ⟨some (p.isSome=true/\0<=i/\i<len),.pointer (ad p (i.toNat*g.size))⟩
    |none=>none
   |some (.slice e),some (.slice p len _),some (.int _ i)=>match P.info? e with
    |some g=>some ⟨some (p.isSome=true/\0<=i/\i<len),.pointer (ad p (i.toNat*g.size))⟩
    |none=>none
   | _, _, _=>none
 | .index t x ix=>match P.underlying t,ρ x,ρ ix with
   |some (.array len e),some (.agg ⟨cs⟩),some (.int _ i)=>match P.info? e with
    |some g=>match ix with
     | .const (.int _ n)=>if 0<=n/\n<len then(match qE P e cs (n.toNat*g.size) with
      |some v=>some ⟨none,v⟩
      |none=>none) else none
     | _=>match P.underlying e with
       |some (.int k)=>match Cb cs k with
        |some j=>if cs.length=len/\g.size=1 then some ⟨some (0<=i/\i<len),.int k (J_ j i)⟩ else none
        |none=>none
       |some (.struct _)=>if cs.length=len/\g.size=1 then some ⟨some (0<=i/\i<len),.agg ⟨[Yo cs i]⟩⟩ else none
       | _=>none
    |none=>none
   |some .string,some (.string s),some (.int _ i)=>some ⟨some (0<=i/\i<s.size),.int .u8 (W7 s i)⟩
   | _, _, _=>none
 | .makeFunc fn first q=>match maps ρ first.toList,maps ρ q.toList with
   |some a,some b=>some ⟨none,.func fn ⟨a⟩ ⟨b⟩⟩
   | _, _=>none
 | .extract x i=>match ρ x with
   |some (.tuple ⟨vs⟩)=>match vs[i]? with
    |some v=>some ⟨none,v⟩
    |none=>none
   | _=>none
 | .build t parts=>match Ay ρ parts.toList with
   |some ps=>match F4 P t ps with
    |some cs=>some ⟨none,.agg cs⟩
    |none=>none
   |none=>none
 | .slice t x lo hi mx=>match P.underlying t,ρ x with
   |some (.slice e),some (.slice p len cap)=>match P.info? e,iw ρ 0 lo,iw ρ len hi,iw ρ cap mx with
    |some g,some l,some h,some m=>if hi.isNone&&mx.isSome then none else
     some ⟨some (0<=l/\l<=h/\h<=m/\m<=cap),.slice (if m.toNat=l.toNat then p else ad p (l.toNat*g.size)) (h.toNat - l.toNat) (m.toNat - l.toNat)⟩
    | _, _, _, _=>none
   |some .string,some (.string s)=>match iw ρ 0 lo,iw ρ s.size hi with
    |some l,some h=>if mx.isSome then none else some ⟨some (0<=l/\l<=h/\h<=s.size),.string (s.extract l.toNat h.toNat)⟩
    | _, _=>none
   | _, _=>none
 | .call c=>match c.callee with
   | .builtin .len=>match c.args.toList,c.argTypes.toList with
     |[x],[t]=>match ρ x,P.underlying t with
      |some (.slice _ n _),some (.slice _)=>some ⟨none,.int .i64 n⟩
      |some (.string s),some .string=>some ⟨none,.int .i64 s.size⟩
      |some (.agg _),some (.array n _)=>some ⟨none,.int .i64 n⟩
      | _, _=>none
     | _, _=>none
   | .builtin .min=>match c.args.toList with
     |[x,y]=>match ρ x,ρ y with
      |some (.int k a),some (.int _ b)=>some ⟨none,.int k (ko a b)⟩
      | _, _=>none
     | _=>none
   | .builtin .max=>match c.args.toList with
     |[x,y]=>match ρ x,ρ y with
      |some (.int k a),some (.int _ b)=>some ⟨none,.int k (Dp a b)⟩
      | _, _=>none
     | _=>none
   | _=>none
 | _=>none
section
variable {P:B1}
theorem bz {t:Aq} {d:TypeDesc} (h:P.underlying t=some d) (w:A2):(underlying t).run P w= .ok d w:=run_underlying h w
theorem ft {t:Aq} {i:TypeInfo} (h:P.info? t=some i) (w:A2):(typeInfo t).run P w= .ok i w:=by
 unfold typeInfo;simp[h]
theorem dj {t:Aq} {i:TypeInfo} (h:P.info? t=some i) (w:A2):(sizeOf t).run P w= .ok i.size w:=by
 unfold sizeOf;simp[ft h]
theorem uZ {t:Aq} {b:Bool} (h:jV P t=some b) (w:A2):(isAgg t).run P w= .ok b w:=by
 unfold jV at h;unfold isAgg;cases a:P.underlying t with
 |none=>grind
 |some d=>cases d<;>simp_all [bz]
theorem kQ {t:Aq} {cs:List AC} {off:Nat} {v:AC} (h:qE P t cs off=some v) (w:A2):(part t ⟨cs⟩ off).run P w= .ok v w:=by
 unfold qE at h;unfold part;cases hb:jV P t with
 |none=>grind
 |some b=>
  simp[uZ hb];cases b with
  |true=>
   cases hi:P.info? t with
   |none
   |some i=>
    simp_all[dj]
  |false=>
   simp_all
theorem IH: ∀(d:Nat) (t:Aq) (x y:AC) (r:Bool),eqV P d t x y=some r-> ∀w,(BP d t x y).run P w= .ok r w:=by
 intro d
 induction d with
 |zero=>intro t x y r h;simp[eqV] at h
 |succ d j=>
  intro t x y r h w;unfold eqV at h;split at h
  ·rename_i c;split at h
   ·cases h;simp[BP,bz c]
   ·cases h
  ·rename_i k0 c;split at h
   ·split at h
    ·cases h;subst_vars;simp[BP,bz c]
    ·cases h
   ·cases h
  ·rename_i c;split at h
   ·cases h;simp[BP,bz c]
   ·cases h
  ·rename_i fs c;split at h
   ·rename_i xs ys;split at h
    ·cases h
    ·rename_i k;have e:P.fieldsOf t=fs:=by simp[Program.fieldsOf,c]
     rw[run_equalIn_struct w d t ⟨xs⟩ ⟨ys⟩ (by rw[e];exact c) (by simpa using k),e];clear c e;generalize fs.toList=l at h
     induction l generalizing r with
     |nil=>simp only[NZ,Dc] at h;subst h;simp[Op.eqFields]
     |cons f l i=>
      simp only[NZ] at h;unfold Op.eqFields;split
      ·rename_i g;rw[if_pos g] at h;split at h
       ·rename_i a b m hb;split at h
        ·rename_i n p h1 o;cases h;simp only[B2,kQ m,kQ hb,B3,j _ _ _ _ h1];cases n
         ·simp
         ·simp[i _ o]
        ·cases h
       ·cases h
      ·rename_i g;rw[if_neg g] at h;exact i _ h
   ·cases h
  ·cases h
end
section
variable {P:B1} {ρ:Operand->Option AC} {ev:Operand->AC}
theorem l5 (a: ∀x v,ρ x=some v->ev x=v): ∀{l:List Operand} {vs:List AC},maps ρ l=some vs->l.map ev=vs
 |[],vs,h=>by grind[maps]
 |x::r,vs,h=>by
  simp[maps] at h;split at h
  ·rename_i h1 b;cases h;simp[a _ _ h1,l5 a b]
  grind
theorem yF (a: ∀x v,ρ x=some v->ev x=v): ∀{l:List (Nat×Operand)} {vs:List (Nat×AC)},Ay ρ l=some vs->(l.map λ(i,x)=>(i,ev x))=vs
 |[],vs,h=>by grind[Ay]
 |i::r,vs,h=>by
  simp[Ay] at h;split at h
  ·rename_i b;have:=yF a b
   grind
  grind
theorem w_ (op:BinOp) (t:Aq) (x y:Operand) (k c:B5) (a b:Int) (w:A2):(eqGuard op t x y (.int k a) (.int c b)).run P w= .ok () w:=by
 unfold eqGuard;simp
theorem AM {t:Aq} (c:P.underlying t=some .bool) (d:Nat) (a b:Bool) (w:A2):(BP (d+1) t (.bool a) (.bool b)).run P w= .ok (a==b) w:=by
 simp[BP,bz c]
theorem rQ {t e:Aq} (a:P.underlying t=some (.pointer e)) (d:Nat) (p:Option Ag) (w:A2):(BP (d+1) t (.pointer p) (.pointer none)).run P w= .ok p.isNone w:=by
 cases p<;>simp[BP,bz a]
theorem nO {t e:Aq} (a:P.underlying t=some (.pointer e)) (d:Nat) (p:Option Ag) (w:A2):(BP (d+1) t (.pointer none) (.pointer p)).run P w= .ok p.isNone w:=by
 cases p<;>simp[BP,bz a]
theorem tO {t e:Aq} (a:P.underlying t=some (.slice e)) (d:Nat) (p:Option Ag) (n c b f:Nat) (w:A2):(BP (d+1) t (.slice p n c) (.slice none b f)).run P w= .ok p.isNone w:=by
 cases p<;>simp[BP,bz a]
theorem tP {t e:Aq} (a:P.underlying t=some (.slice e)) (d:Nat) (p:Option Ag) (n c b f:Nat) (w:A2):(BP (d+1) t (.slice none b f) (.slice p n c)).run P w= .ok p.isNone w:=by
 cases p<;>simp[BP,bz a]
theorem zd {t k e:Aq} (a:P.underlying t=some (.map k e)) (d:Nat) (p:Option Nat) (w:A2):(BP (d+1) t (.map p) (.map none)).run P w= .ok p.isNone w:=by
 cases p<;>simp[BP,bz a]
theorem ze {t k e:Aq} (a:P.underlying t=some (.map k e)) (d:Nat) (p:Option Nat) (w:A2):(BP (d+1) t (.map none) (.map p)).run P w= .ok p.isNone w:=by
 cases p<;>simp[BP,bz a]
theorem dY {t:Aq} {x y:AC} {r:Bool} {w:A2} (h: ∀d,(BP (d+1) t x y).run P w= .ok r w):(Op.equal t x y).run P w= .ok r w:=h _
theorem Ud {op:BinOp} {t:Aq} {i e:Operand} {x y:AC} {l:PR} (j: ∀v,e= .const v->y=v) (m: ∀v,i= .const v->x=v)
 (h:Yn P op t i e x y=some l) (o: ∀p,l.ob=some p->p) (w:A2):
 (do eqGuard op t i e x y;binOp op t x y).run P w= .ok l.v w:=by
 unfold Yn at h;split at h
 ·
  rename_i k a F b;simp only[B2,w_,B3];have B:pa e=true->b≠0:=by
   intro hc;unfold pa at hc;split at hc
   ·rename_i C n;have:=j _ rfl;cases this;simpa using hc
   ·cases hc
  have z:pN e=true->0<=b:=by
   intro hc;unfold pN at hc;split at hc
   ·rename_i C n;have:=j _ rfl;cases this;simpa using hc
   ·cases hc
  split at h
  ·cases h;have h0:0<=b:=by
    by_cases hc:pN e=true
    ·exact z hc
    ·exact o (0<=b) (by simp[hc])
   simp[binOp,Op.shift,Dm,Int.not_lt.2 h0]
  ·cases h;have h0:0<=b:=by
    by_cases hc:pN e=true
    ·exact z hc
    ·exact o (0<=b) (by simp[hc])
   simp[binOp,Op.shift,J9,Int.not_lt.2 h0]
  ·rename_i G H;split at h
   ·subst_vars
    cases op<;>simp only[OO] at h<;>(try cases h)<;>
     first
      |(simp[binOp,Op.intArith,aI,aX,gq];done)
      |(simp[binOp,Op.intBits,wP,orI,aae,gD];done)
      |(simp[binOp,Op.intCmp];done)
      |(have h0:b≠0:=by
         by_cases hc:pa e=true
         ·exact B hc
         ·exact o (b≠0) (by simp[hc])
        simp[binOp,Op.intDiv,h0,wO,ff])
   ·cases h
 ·
  rename_i a b;split at h
  ·rename_i c;cases h;simp[eqGuard,binOp,dY λd=>AM c d a b w]
  ·rename_i c;cases h;simp[eqGuard,binOp,dY λd=>AM c d a b w]
  ·cases h
 ·
  rename_i p q;have f:kq e=true->q=none:=by
   intro hc;unfold kq at hc;split at hc<;>first|(have:=j _ rfl;cases this<;>rfl)|(cases hc)
  have g:kq i=true->p=none:=by
   intro hc;unfold kq at hc;split at hc<;>first|(have:=m _ rfl;cases this<;>rfl)|(cases hc)
  split at h
  ·rename_i c;split at h
   ·rename_i hc;cases h;rw[f hc];simp[eqGuard,binOp,dY λd=>rQ c d p w]
   ·split at h
    ·rename_i hc;cases h;rw[g hc];simp[eqGuard,binOp,dY λd=>nO c d q w]
    ·cases h
  ·rename_i c;split at h
   ·rename_i hc;cases h;rw[f hc];simp[eqGuard,binOp,dY λd=>rQ c d p w]
   ·split at h
    ·rename_i hc;cases h;rw[g hc];simp[eqGuard,binOp,dY λd=>nO c d q w]
    ·cases h
  ·cases h
 ·
  rename_i p _ _ q _ _;have f:kq e=true->q=none:=by
   intro hc;unfold kq at hc;split at hc<;>first|(have:=j _ rfl;cases this<;>rfl)|(cases hc)
  have g:kq i=true->p=none:=by
   intro hc;unfold kq at hc;split at hc<;>first|(have:=m _ rfl;cases this<;>rfl)|(cases hc)
  split at h
  ·rename_i c;split at h
   ·rename_i hc;cases h;rw[f hc];simp[eqGuard,binOp,dY λd=>tO c d p _ _ _ _ w]
   ·split at h
    ·rename_i hc;cases h;rw[g hc];simp[eqGuard,binOp,dY λd=>tP c d q _ _ _ _ w]
    ·cases h
  ·rename_i c;split at h
   ·rename_i hc;cases h;rw[f hc];simp[eqGuard,binOp,dY λd=>tO c d p _ _ _ _ w]
   ·split at h
    ·rename_i hc;cases h;rw[g hc];simp[eqGuard,binOp,dY λd=>tP c d q _ _ _ _ w]
    ·cases h
  ·cases h
 ·
  rename_i p q;have f:kq e=true->q=none:=by
   intro hc;unfold kq at hc;split at hc<;>first|(have:=j _ rfl;cases this<;>rfl)|(cases hc)
  have g:kq i=true->p=none:=by
   intro hc;unfold kq at hc;split at hc<;>first|(have:=m _ rfl;cases this<;>rfl)|(cases hc)
  split at h
  ·rename_i c;split at h
   ·rename_i hc;cases h;rw[f hc];simp[eqGuard,binOp,dY λd=>zd c d p w]
   ·split at h
    ·rename_i hc;cases h;rw[g hc];simp[eqGuard,binOp,dY λd=>ze c d q w]
    ·cases h
  ·rename_i c;split at h
   ·rename_i hc;cases h;rw[f hc];simp[eqGuard,binOp,dY λd=>zd c d p w]
   ·split at h
    ·rename_i hc;cases h;rw[g hc];simp[eqGuard,binOp,dY λd=>ze c d q w]
    ·cases h
  ·cases h
 ·
  rename_i a b;split at h
  ·cases h;simp[eqGuard,binOp,Op.stringOp,beq_toListBytes]
  ·cases h;simp[eqGuard,binOp,Op.stringOp,beq_toListBytes]
  ·cases h
 ·
  rename_i xs ys;split at h
  ·cases h
  ·rename_i D;have E:P.eqGuardType P.depth t=false:=by simpa using D
   have A: ∀op:BinOp,(eqGuard op t i e (.agg xs) (.agg ys)).run P w= .ok () w:=by
    intro op;unfold eqGuard;cases op<;>simp[E]
   split at h
   ·rename_i r s;cases h;simp only[B2,A,B3];have u:(Op.equal t (.agg xs) (.agg ys)).run P w= .ok r w:=IH (P:=P) _ _ _ _ _ s w;simp[binOp,u]
   ·rename_i r s;cases h;simp only[B2,A,B3];have u:(Op.equal t (.agg xs) (.agg ys)).run P w= .ok r w:=IH (P:=P) _ _ _ _ _ s w;simp[binOp,u]
   ·cases h
 ·cases h
end
section
variable {P:B1} {ρ:Operand->Option AC} {ev:Operand->AC}
theorem zf: ∀{cs:List AC} {k:B5} {a:List Int},Cb cs k=some a-> ∀i,i<cs.length->cs[i]? =some (.int k (a.getD i 0))
 |c::cs,k,a,h,i,hi=>by
  unfold Cb at h;split at h
  grind
  ·rename_i e n r f b;cases b;split at h
   ·subst_vars
    split at h
    ·rename_i l d;cases h;cases i with
     |zero=>simp
     |succ i=>simpa using zf d i (by grind)
    grind
   ·cases h
  ·cases h
theorem vI {t:Aq} {f:Nat} {fd:Field} (a:xk P t f=some fd): ∃fs,P.underlying t=some (.struct fs)/\fs[f]? =some fd:=by
 grind[xk]
theorem ES {t e:Aq} {a:TypeInfo} (p:Ag) (k:B5) (i:Int) (len:Nat) (c: ¬ len<=1) (b:P.underlying t=some (.array len e)) (hi:P.info? e=some a) (h0:0<=i) (h1:i<len) (w:A2):
 (Hr t (.pointer (some p)) (.int k i)).run P w= .ok (.pointer (some (p.add (i.toNat*a.size)))) w:=by
 simp[Hr,asIntOf,I1,bz b,dj hi,h0,h1]
theorem run_indexAt_slice {t e:Aq} {a:TypeInfo} (p:Ag) (k:B5) (i:Int) (len cap:Nat) (b:P.underlying t=some (.slice e)) (hi:P.info? e=some a) (h0:0<=i) (h1:i<len) (w:A2):
 (Hr t (.slice (some p) len cap) (.int k i)).run P w= .ok (.pointer (some (p.add (i.toNat*a.size)))) w:=by
 simp[Hr,asIntOf,bz b,dj hi,h0,h1]
theorem eZ {α:Type} {p:Option α} (h:p.isSome=true): ∃a,p=some a:=Option.isSome_iff_exists.1 h
theorem kR (a: ∀x v,ρ x=some v->ev x=v) {d:Nat} {x:Operand} {n:Int} (h:iw ρ d (some x)=some n): ∃k,ev x= .int k n:=by grind[iw]
theorem run_sliceBound (k:B5) (n:Int) (y:Nat) (c:BoundsCode) (h0:0<=n) (h1:n<=y) (w:A2):(S0 (.int k n) y c).run P w= .ok n.toNat w:=by
 simp[S0,asIntOf,h0,h1]
theorem n8 (b: ∀x v,ρ x=some v->ev x=v) {isS:Bool} {len cap:Nat} {lo hi mx:Option Operand} {l h m:Int}
 (a:iw ρ 0 lo=some l) (c:iw ρ len hi=some h) (g:iw ρ cap mx=some m) (n: ¬ (hi.isNone=true/\mx.isSome=true))
 (h0:0<=l) (h1:l<=h) (o:h<=m) (p:m<=cap) (w:A2):
 (S1 isS len cap (lo.map ev) (hi.map ev) (mx.map ev)).run P w= .ok (l.toNat,h.toNat,m.toNat) w:=by
 unfold S1;have a1:h<=((m.toNat:Nat):Int):=by omega
 have q:l<=((h.toNat:Nat):Int):=by omega
 have i:0<=h:=by omega
 have r:0<=m:=by omega
 cases mx with
 |none=>
  simp only[iw,Dc] at g;subst g;have j:h<=(cap:Int):=o;cases hi with
  |none=>
   simp only[iw,Dc] at c;subst c;cases lo with
   |none=>simp only[iw,Dc] at a;subst a;simp
   |some x=>obtain⟨k,d⟩:=kR b a;simp[d,run_sliceBound k l len _ h0 h1]
  |some y=>
   obtain⟨e,f⟩:=kR b c;cases lo with
   |none=>simp only[iw,Dc] at a;subst a;cases isS<;>simp[f,run_sliceBound e h cap _ i j]
   |some x=>obtain⟨k,d⟩:=kR b a;cases isS<;>simp[d,f,run_sliceBound e h cap _ i j,run_sliceBound k l h.toNat _ h0 q]
 |some z=>
  obtain⟨s,t⟩:=kR b g;cases hi with
  |none=>simp at n
  |some y=>
   obtain⟨e,f⟩:=kR b c;cases lo with
   |none=>simp only[iw,Dc] at a;subst a;cases isS<;>simp[f,t,run_sliceBound s m cap _ r p,run_sliceBound e h m.toNat _ i a1]
   |some x=>obtain⟨k,d⟩:=kR b a;simp_all[run_sliceBound]
theorem PN {s:ByteArray} {i:Int} (h0:0<=i) (h1:i<s.size):s[i.toNat]? =some (s.data[i.toNat]?.getD 0):=by
 simp_all
 rfl
theorem run_places: ∀(l:List Field),(l.all λf=>(P.info? f.type).isSome)=true-> ∀w:A2,
 (l.mapM (m:=Sem) λf=>do pure (f.offset, <-sizeOf f.type)).run P w= .ok (l.map λf=>(f.offset,P.cellsOf f.type)) w
 |[], _,w=>by rfl
 |f::l,h,w=>by
  simp only[Ih,BY] at h;obtain⟨i,hi⟩:=eZ h.1;have a:P.cellsOf f.type=i.size:=by simp[Program.cellsOf,hi]
  have b:=run_places l
  simp_all[dj]
theorem PO {t:Aq} {parts:Array (Nat×AC)} {ps:List (Nat×AC)} {cs:Array AC} (e:parts.toList=ps) (h:F4 P t ps=some cs) (w:A2):
 (Instr.build t parts).run P w= .ok (.agg cs) w:=by
 unfold F4 at h;split at h
 ·rename_i i hi;split at h
  ·rename_i z b;unfold Instr.build zeroValue;simp only[B2,ft hi,B3,b,B4];split at h
   ·rename_i fs a;split at h
    ·rename_i c;have f:=run_places (P:=P) fs.toList (by simpa using c) w
     simp_all[JU,yE,bz]
    ·cases h
   ·rename_i n el a;split at h
    ·rename_i g d;simp only[bz a,B3,B2,dj d,e,yE h];rfl
    ·cases h
   ·cases h
  ·cases h
 ·cases h
theorem OP {o:Oper} {H:PR} (g: ∀x v,ρ x=some v->ev x=v) (hc: ∀v,ev (.const v)=v) (h:pop P ρ o=some H) (u: ∀p,H.ob=some p->p) (w:A2):
 (execOp ev o).run P w= .ok (.value H.v) w:=by
 obtain⟨dst,op,type,pos,after,guard⟩:=o;unfold pop at h;cases op<;>simp only at h<;>(try (cases h;done))<;>unfold execOp<;>simp only
 case move x=>
  split at h
  ·rename_i v hv;cases h;simp[g _ _ hv]
  ·cases h
 case assign x=>
  split at h
  ·rename_i v hv;cases h;simp[g _ _ hv]
  ·cases h
 case build t parts=>
  split at h
  ·rename_i ps S;split at h
   ·rename_i cs e9;cases h;have e:=yF g S;have e':(parts.map λ(i,x)=>(i,ev x)).toList=ps:=by rw[<-e];simp
    simp[PO e' e9]
   ·cases h
  ·cases h
 case nilCheck x=>
  split at h
  ·rename_i p hv;cases h;obtain⟨a,rfl⟩:=eZ (u _ rfl);simp[g _ _ hv]
  ·rename_i f fs cs hv;cases h;simp[g _ _ hv]
  ·cases h
 case binOp op t x y yt=>
  split at h
  ·rename_i a b r hb;have T:=Ud (P:=P) (λv hv=>by rw[<-g _ _ hb,hv,hc]) (λv hv=>by rw[<-g _ _ r,hv,hc]) h u w;simp only[g _ _ r,g _ _ hb];rw[B2,T];rfl
  ·cases h
 case unOp op t x=>
  split at h
  ·rename_i a r;simp only[g _ _ r];unfold unV at h;split at h<;>(try cases h)<;>simp[Op.unary,Op.intArith,Op.intBits,aX,aaf]
  ·cases h
 case convert s d x=>
  split at h
  ·rename_i a r;simp only[g _ _ r];unfold W6 at h;split at h
   ·rename_i ds k k' n h1 A;cases h;cases ds<;>simp[convert,bz h1,bz A,Conv.intToInt,aG]
   ·rename_i A I;cases h;simp[convert,bz A,bz I]
   ·cases h
  ·cases h
 case makeFunc fn first Q=>
  split at h
  ·rename_i a b r hb;cases h;have J:=l5 g r;have U:=l5 g hb;have V:first.map ev=⟨a⟩:=by rw[<-J];cases first;simp
   have W:Q.map ev=⟨b⟩:=by rw[<-U];cases Q;simp
   simp[Instr.makeFunc,V,W]
  ·cases h
 case slice t x lo hi mx=>
  split at h
  ·rename_i e p len cap q j;split at h
   ·rename_i C l X m Y D K Z;split at h
    ·cases h
    ·rename_i R;cases h;obtain⟨h0,h1,A,I⟩:=u _ rfl;have abP: ¬ (hi.isNone=true/\mx.isSome=true):=by simpa using R
     have hb:=n8 (P:=P) (isS:=true) g D K Z abP h0 h1 A I w;simp only[g _ _ j];simp[S2,bz q,Instr.slice,hb,dj Y,ad]
   ·cases h
  ·rename_i s q j;split at h
   ·rename_i l X D K;split at h
    ·cases h
    ·rename_i R;cases h;obtain⟨h0,h1,A⟩:=u _ rfl;have hmx:mx=none:=by cases mx<;>simp_all
     subst hmx;have hb:=n8 (P:=P) (isS:=false) (cap:=s.size) (mx:=none) g D K rfl (by simp) h0 h1 A (by simp) w;simp only[TD] at hb;simp only[g _ _ j];simp[S2,bz q,Instr.slice,hb]
   ·cases h
  ·cases h
 case fieldAddr s x f=>
  split at h
  ·rename_i p fd j L;split at h
   ·rename_i i hi;split at h
    ·cases h
    ·rename_i hz;cases h;obtain⟨a,rfl⟩:=eZ (u _ rfl);obtain⟨fs,q,M⟩:=vI L;simp[Instr.fieldAt,bz q,M,g _ _ j,I1,fieldPlace,dj hi,hz,ad]
   ·cases h
  ·cases h
 case field t x f=>
  split at h
  ·rename_i cs fd j L;split at h
   ·rename_i v hv;cases h;obtain⟨fs,q,M⟩:=vI L;simp[Instr.field,bz q,M,g _ _ j,asAgg,kQ hv]
   ·cases h
  ·cases h
 case indexAddr t x ix=>
  split at h
  ·rename_i len e p k i q j z;split at h
   ·rename_i C hi;split at h
    ·cases h
    ·rename_i D;cases h;obtain⟨B,h0,h1⟩:=u _ rfl;obtain⟨a,rfl⟩:=eZ B;simp[g _ _ j,g _ _ z,ES a k i len D q hi h0 h1,ad]
   ·cases h
  ·rename_i e p len cap k i q j z;split at h
   ·rename_i C hi;cases h;obtain⟨B,h0,h1⟩:=u _ rfl;obtain⟨a,rfl⟩:=eZ B;simp[g _ _ j,g _ _ z,run_indexAt_slice a k i len cap q hi h0 h1,ad]
   ·cases h
  ·cases h
 case index t x ix=>
  split at h
  ·rename_i len e cs k i q j z;split at h
   ·rename_i C hi;split at h
    ·rename_i k2 n;have hn:(Value.int k2 n)= .int k i:=by rw[<-g _ _ z,hc]
     cases hn;split at h
     ·rename_i hb;split at h
      ·rename_i v hv;cases h;simp[I2,asIntOf,bz q,g _ _ j,hc,hb.1,hb.2,dj hi,kQ hv]
      ·cases h
     ·cases h
    ·split at h
     ·rename_i k3 N;split at h
      ·rename_i ns hns;split at h
       ·rename_i F;cases h;obtain⟨h0,h1⟩:=u _ rfl;have G:i.toNat<cs.length:=by omega
        have jq:=zf hns i.toNat G;have B:qE P e cs (i.toNat*C.size)=some (.int k3 (J_ ns i)):=by
         rw[F.2,Nat.mul_one];unfold qE;have:jV P e=some false:=by unfold jV;simp[N]
         simp[this,jq,J_]
        simp[I2,asIntOf,bz q,g _ _ j,g _ _ z,h0,h1,dj hi,kQ B]
       ·cases h
      ·cases h
     ·rename_i fs N;split at h
      ·rename_i F;cases h;obtain⟨h0,h1⟩:=u _ rfl;have G:i.toNat<cs.length:=by omega
       have B:qE P e cs (i.toNat*C.size)=some (.agg ⟨[Yo cs i]⟩):=by
        rw[F.2,Nat.mul_one];unfold qE;have:jV P e=some true:=by unfold jV;simp[N]
        simp only[this,hi,F.2,Yo];have J:List.take 1 (List.drop i.toNat cs)=[cs.getD i.toNat undef]:=by
         rw[List.drop_eq_getElem_cons G,List.getD_eq_getElem?_getD,Ik G];rfl
        rw[J]
       simp[I2,asIntOf,bz q,g _ _ j,g _ _ z,h0,h1,dj hi,kQ B]
      ·cases h
     ·cases h
   ·cases h
  ·rename_i s k i q j z;cases h;obtain⟨h0,h1⟩:=u _ rfl;have hg:=PN h0 h1;simp[I2,asIntOf,bz q,g _ _ j,g _ _ z,h0,hg,W7]
  ·cases h
 case extract x i=>
  split at h
  ·rename_i vs j;split at h
   ·rename_i v hv;cases h;simp[g _ _ j,ID,hv]
   ·cases h
  ·cases h
 case call c=>
  obtain⟨callee,args,argTypes⟩:=c;simp only at h;split at h
  ·
   split at h
   ·rename_i x t r ht;have E:args= #[x]:=by cases args;simp_all
    have et:argTypes= #[t]:=by cases argTypes;simp_all
    subst E et;split at h<;>(try cases h)
    ·rename_i j q;simp[resolve,invoke,builtin,GI,g _ _ j,bz q,goInt]
    ·rename_i j q;simp[resolve,invoke,builtin,GI,g _ _ j,bz q,goInt]
    ·rename_i j q;simp[resolve,invoke,builtin,GI,g _ _ j,bz q,goInt]
   ·cases h
  ·
   split at h
   ·rename_i x y r;have E:args= #[x,y]:=by cases args;simp_all
    subst E;split at h<;>(try cases h);rename_i j O;simp[resolve,invoke,builtin,Builtin.min_,Builtin.min2,g _ _ j,g _ _ O,ko]
   ·cases h
  ·split at h
   ·rename_i x y r;have E:args= #[x,y]:=by cases args;simp_all
    subst E;split at h<;>(try cases h);rename_i j O;simp[resolve,invoke,builtin,Builtin.max_,Builtin.max2,g _ _ j,g _ _ O,Dp]
   ·cases h
  ·cases h
end
structure bO where
 t:Nat
 ch:List (Nat×Bool)
 g:Option Bool
 v:AC
 k:Option Bool
def bW:List bO->Nat->Option bO
 |[], _=>none
 |e::r,t=>if e.t=t then some e else bW r t
structure Entry (P:B1) where
 f:B6
 fn:List AC->Option (Prop×AC)
 ok: ∀args pre v,fn args=some (pre,v)->pre-> ∀w,Calls P f ⟨args⟩ w (λe w'=>e= .returned v/\Ext w w')
structure dD (P:B1) where
 si:List (Entry P)
 quiet:List B6
 sh:List (B6×Sh)
 mixed:P.follows .mixedOrders=true
 vr:Bool:=false
 cl:List (Aq×Sc):=[]
 dyn:Option Sh:=none
def OQ:List (B6×Sh)->B6->Option Sh
 |[], _=>none
 |(g,s)::r,f=>if g=f then some s else OQ r f
def uD {P:B1} (C:dD P) (f:B6):Sh:=
 match OQ C.sh f with
 |some s=>s
 |none=>aaP P f
def OR:List (Aq×Sc)->Aq->Option Sc
 |[], _=>none
 |(g,s)::r,t=>if g=t then some s else OR r t
def elC {P:B1} (C:dD P) (t:Aq):Option El:=
 match uI P t with
 |some (.one .func)=>match OR C.cl t with
  |some s=>some (.one s)
  |none=>some (.one .func)
 |e=>e
def xY {P:B1}:List (Entry P)->B6->Option (Entry P)
 |[], _=>none
 |e::r,f=>if e.f=f then some e else xY r f
def cU (first:Array AC) (a:List AC) (cap:Array AC):List AC:=first.toList++(a++cap.toList)
def bJ (P:B1) (a:B6):Bool:=
 match P.funcs[a]? with
 |some fn=>fn.body.isSome&& !(fn.name== "runtime.NumGoroutine")
 |none=>false
def af (P:B1) (f:B6) (args:List AC) (w:A2) (v:AC):Prop:=
 ∀w',Ext w w'->Calls P f ⟨args⟩ w' (λe a=>e= .returned v/\Ext w' a)
def aD (P:B1) (f:B6) (s:Sh) (args:List AC) (w:A2) (R:s.T->A2->Prop):Prop:=
 Calls P f ⟨args⟩ w (λe w'=> ∃x:s.T,e= .returned (s.gR x)/\R x w')
theorem aD.mono {P:B1} {f:B6} {s:Sh} {args:List AC} {w:A2} {R a:s.T->A2->Prop} (h:aD P f s args w R) (k: ∀x w',R x w'->a x w'):aD P f s args w a:=
 Fm h (by grind)
def dp (_:Nat) (_:Op):Prop:=False
def cC (w:A2) (p:Option Ag):(e:El)->e.T->Prop
 | .one s,x=> ∃a,p=some a/\w.cell? a=some (s.gR x)
 | .agg l,x=> ∃a,p=some a/\ ∀i,i<l.length->w.cell? (a.add i)=(a_ l x)[i]?
def pO:El->Nat->Bool
 | .one _, _=>false
 | .agg l,n=>l.length != n
def oB (w:A2) (p:Option Ag) (n:Nat) (vs:List AC):Prop:=
 match p with
 |none=>vs=[]
 |some a=>vs.length=n/\ ∀i,i<n->w.cell? (a.add i)=vs[i]?
def TX (w:A2) (p:Option Ag) (n:Nat):Prop:=
 ∃a,p=some a/\ ∀i,i<n->(w.cell? (a.add i)).isSome=true/\w.frozen? (a.add i)=false
def putAt (w:A2) (a:Ag):List AC->Nat->A2
 |[], _=>w
 |v::r,i=>putAt (w.setCell (a.add i) v) a r (i+1)
def js (w:A2) (p:Option Ag) (vs:List AC):A2:=
 match p with
 |some a=>putAt w a vs 0
 |none=>w
def mz (w:A2) (e:Aq) (size bytes:Nat) (z:Array AC) (s x:Option Ag×Nat×Nat) (R:Option Ag×Nat×Nat->A2->Prop):Prop:=
 ∃fI new,oB w s.1 (s.2.1*size) fI/\oB w x.1 (x.2.1*size) new/\
  (s.2.1+x.2.1<=s.2.2->(new=[]\/(TX w (s.1.map (·.add (s.2.1*size))) new.length/\new.all (·.oneCell')=true))/\
   R (s.1,s.2.1+x.2.1,s.2.2) (js w (s.1.map (·.add (s.2.1*size))) new))/\
  (s.2.2<s.2.1+x.2.1->T3 (s.2.1+x.2.1) s.2.2*bytes<=2 ^ 48/\
   ∀c,s.2.1+x.2.1<=c->R (some ⟨w.heap.size,0,none⟩,s.2.1+x.2.1,c) (w.drew.alloc (.cells (⟨fI⟩++⟨new⟩++GJ z (c - (s.2.1+x.2.1))) e)))
def cpR (w:A2) (size:Nat) (d x:Option Ag×Nat) (R:Int->A2->Prop):Prop:=
 ∃new,oB w x.1 (Nat.min x.2 d.2*size) new/\(d.1=none\/new=[]\/(TX w d.1 new.length/\new.all (·.oneCell')=true))/\R (Nat.min x.2 d.2:Nat) (js w d.1 new)
def ml (P:B1) (l:Nat) (args:List AC) (w:A2) (R:Bool->A2->Prop):Prop:=
 ∃rec,w.heap[l]? =some (.loop rec)/\args.length=rec.params.size/\
  RoundIn E4 0 P l rec.fn ((rec.params.zip ⟨args⟩).foldl (λtmps (t,a)=>tmps.setIfInBounds t a) rec.tmps) rec.assign rec.body w
   (λe w'=> ∃b,e= .returned (.bool b)/\R b w')
def gu (g:Option Bool) (p:Prop):Prop:=
 match g with
 |none=>p
 |some b=>b=true->p
@[reducible] def aj (w:A2) (g:Option Bool) (p:Option Ag) (el:El) (K:el.T->Prop):Prop:= ∃x:el.T,gu g (cC w p el x)/\K x
@[reducible] def aA (w:A2) (p:Option Ag) (vs:List AC) (K:A2->Prop):Prop:= ∀w1,Ext w w1->(vs.all (·.oneCell')=true/\TX w1 p vs.length)/\K (js w1 p vs)
@[reducible] def aM (w:A2) (cs:Array AC) (e:Aq) (K:Nat->A2->Prop):Prop:= ∀w1,Ext w w1->K w1.heap.size (w1.alloc (.cells cs e))
def az (P:B1) (f:B6) (s:Sh) (args:List AC) (w:A2) (K:s.T->A2->Prop):Prop:= ∀w1,Ext w w1->aD P f s args w1 K
def aah (bytes:Nat) (n m:Int):Prop:=0<=n/\n<=m/\m<2 ^ 63/\bytes*m<=2 ^ 48
def nC (z:Array AC) (n:Nat):Array AC:=(Array.range n).map ((if n=0 then #[] else z)[· % (if n=0 then #[] else z).size]!)
def zO (P:B1) (v:AC) (s:Sh) (b:List AC) (w:A2) (K:s.T->A2->Prop):Prop:=
 ∀w1,Ext w w1-> ∃a first cap,v= .func (.func a) first cap/\bJ P a=true/\aD P a s (cU first b cap) w1 K
def NJ (w:A2) (bytes size:Nat) (n m:Int) (z:Array AC) (e:Aq) (K:Nat->A2->Prop):Prop:= ∀w1,Ext w w1->aah bytes n m/\K w1.heap.size (w1.alloc (.cells (nC z (m.toNat*size)) e))
@[reducible] def ao (w:A2) (K:A2->Prop):Prop:= ∀w1,Ext w w1->K w1
def Yp (a b:List (Nat×Bool)):Bool:=a.all λx=>b.contains x
def xL (env:List bO) (ch:List (Nat×Bool)):Operand->Option AC
 | .tmp t=>match bW env t with
   |some ⟨_,c, _,v, _⟩=>if Yp c ch then some v else none
   |none=>none
 | .const v=>some v
 | .global g=>some (.pointer (some ⟨g,0,none⟩))
 | .func f=>some (.func (.func f) #[] #[])
def dx (ops:Array Oper) (j:Nat):Option Nat:=(ops[j]?).bind (·.dst)
def lit:Bool->Bool->Bool
 |true,x=>x
 |false,x=> !x
def abQ (b:Bool):Option Bool->Option Bool
 |none=>some b
 |some g=>some (g&&b)
def gd (ops:Array Oper) (env:List bO) (o:Oper):Option (Option (List (Nat×Bool)×Option Bool)):=
 match o.guard with
 |none=>some (some ([],none))
 |some (j,b)=>match dx ops j with
  |some d=>match bW env d with
   |some e=>match e.k with
    |some a=>if a=b then some (some ([],none)) else some none
    |none=>match e.v with
     | .bool x=>some (some ((j,b)::e.ch,abQ (lit b x) e.g))
     | _=>none
   |none=>none
  |none=>none
def settle (j:Nat) (b:Bool) (e:bO):bO:=
 if e.ch.contains (j, !b) then⟨e.t,[],none,undef,none⟩
 else if e.ch.contains (j,b) then
  match e.ch.filter (λx=>x != (j,b)) with
  |[]=>⟨e.t,[],none,e.v,none⟩
  |c::r=>⟨e.t,c::r,e.g,e.v,none⟩
 else e
def oN (ops:Array Oper) (N:Nat) (env:List bO) (ch:List (Nat×Bool)):Option Nat->Bool
 |none=>true
 |some d=>decide (d<N)&&ch.all (λx=>dx ops x.1 != some d)&&env.all λe=>e.ch.all λx=>dx ops x.1 != some d
def l_ (env:List bO) (d:Option Nat) (ch:List (Nat×Bool)) (g:Option Bool) (v:AC):List bO:=
 match d with
 |some d=>⟨d,ch,g,v,none⟩::env
 |none=>env
def wQ (env:List bO) (d:Option Nat) (ch:List (Nat×Bool)) (g:Option Bool) (v:AC) (K:List bO->Prop):Prop:=
 match d with
 |some d=>K (⟨d,ch,g,v,none⟩::env)
 |none=>K env
theorem nE {env:List bO} {d:Option Nat} {ch:List (Nat×Bool)} {g:Option Bool} {v:AC} {K:List bO->Prop}:wQ env d ch g v K=K (l_ env d ch g v):=by cases d<;>rfl
def jx:List bO->(List bO->Prop)->Prop
 |[],K=>K []
 |⟨t,ch,g,v,k⟩::r,K=>jx r (λr=>K (⟨t,ch,g,v,k⟩::r))
theorem jC: ∀{l:List bO} {K:List bO->Prop},jx l K=K l
 |[], _=>rfl
 |⟨_, _, _, _, _⟩::r,K=>by simp only[jx];exact jC
def Ue (ops:Array Oper) (t:Nat):Option Nat:=(BJ ops.size).find? λj=>dx ops j==some t
def bD (w:A2) (r:Nat) (es:Array Dj) (a:Nat):Prop:=w.heap[r]? =some (.map es a)
def jM (w:A2) (p:Option Nat) (k:B5) (n:Int) (z v:AC):Prop:=
 ∃r es a,p=some r/\bD w r es a/\match Fo (.int k) (.int k n) es.toList 0 with
  |some none=>v=z
  |some (some (_,u))=>v=u
  |none=>False
def mm (w:A2) (p:Option Nat) (k:B5) (n:Int) (z v:AC) (b:Bool):Prop:=
 ∃r es a,p=some r/\bD w r es a/\match Fo (.int k) (.int k n) es.toList 0 with
  |some none=>v=z/\b=false
  |some (some (_,u))=>v=u/\b=true
  |none=>False
def gS (w:A2) (r:Nat) (k:B5) (n:Int) (val:AC) (es:Array Dj) (a:Nat) (K:A2->Prop):Prop:=
 match Fo (.int k) (.int k n) es.toList 0 with
 |some none=>K (w.putObj r (.map (es.push {key:= .int k n,val,born:=a}) (a+1)))
 |some (some (i, _))=>K (w.putObj r (.map (es.modify i λe=>{e with key:= .int k n,val}) a))
 |none=>False
def z9 (w:A2) (r:Nat) (k:B5) (n:Int) (es:Array Dj) (a:Nat) (K:A2->Prop):Prop:=
 match Fo (.int k) (.int k n) es.toList 0 with
 |some none=>K (w.putObj r (.map es a))
 |some (some (i, _))=>K (w.putObj r (.map (es.eraseIdxIfInBounds i) a))
 |none=>False
def RgP (w:A2) (p:Option Nat) (K:Nat->A2->Prop):Prop:= ∀w1,Ext w w1-> ∃r es a,p=some r/\bD w1 r es a/\K w1.heap.size (w1.alloc (.mapIter (some r) a #[] a))
def NxP (w:A2) (p:Option Ag) (f:A2->Prop) (g:AC->AC->A2->Prop):Prop:= ∀w1,Ext w w1-> ∃(r m b:Nat) (seen:Array Nat) (c:Nat) (es:Array Dj) (d:Nat),p=some ⟨r,0,none⟩/\w1.heap[r]? =some (.mapIter (some m) b seen c)/\bD w1 m es d/\b<=c/\(∀e∈es.toList,e.born<b)/\
 ((∀e∈es.toList,seen.contains e.born=true)-> ∀a,Ext w1 a->f a)/\
 ∀e∈es.toList,seen.contains e.born=false-> ∀a,Ext w1 a->g e.key e.val (a.putObj r (.mapIter (some m) b (seen.push e.born) d))
def z_ (w:A2) (p:Option Ag) (k v:AC):Prop:= ∃(r m b:Nat) (seen:Array Nat) (es:Array Dj) (a:Nat) (e:Dj),p=some ⟨r,0,none⟩/\w.heap[r]? =some (.mapIter (some m) b (seen.push e.born) a)/\bD w m es a/\e∈es.toList/\(es.toList.map (·.born)).Nodup/\k=e.key/\v=e.val
def TY (w:A2) (p:Option Nat) (n:Nat):Prop:= ∃r es a,p=some r/\bD w r es a/\n=es.size
def ChO (w:A2) (r cap:Nat) (a:List AC) (s n:Nat):Prop:=w.heap[r]? =some (.chan cap ⟨a⟩ false s n false)
def ChL (w:A2) (p:Option Nat) (n:Nat):Prop:= ∃r cap a s m,p=some r/\ChO w r cap a s m/\n=a.length
def Xy (w:A2) (p q:Option Ag):Prop:= ∀a b,p=some a->q=some b->a≠b->(∃c t,w.heap[a.block]? =some (.cells c t (0,0)))/\ ∃c t,w.heap[b.block]? =some (.cells c t (0,0))
def xm (P:B1) (ρ:Operand->Option AC) (c:Call):Option (Option Nat):=match c.args.toList,c.argTypes.toList with
 |[x],[t]=>match P.underlying t,ρ x with
  |some (.chan _ _),some (.chan p)=>some p
  | _, _=>none
 | _, _=>none
def Cc (P:B1) (ρ:Operand->Option AC):Op->Option (Option Ag×Option Ag)
 | .binOp .eql t x y _=>match P.underlying t,ρ x,ρ y with
   |some (.pointer e),some (.pointer p),some (.pointer q)=>match P.info? e with
    |some i=>if i.size=0 then none else some (p,q)
    |none=>none
   | _, _, _=>none
 | _=>none
def W8 (P:B1) (ops:Array Oper) (d i:Nat):Option El:=match ops.toList.find? λo=>match o.op with
 | .extract (.tmp t) j=>t==d&&j==i
 | _=>false with
 |some o=>uI P o.type
 |none=>none
def Cd (P:B1) (ρ:Operand->Option AC) (c:Call):Option (Option Nat):=match c.args.toList,c.argTypes.toList with
 |[x],[t]=>match P.underlying t,ρ x with
  |some (.map _ _),some (.map p)=>some p
  | _, _=>none
 | _, _=>none
def oA {P:B1} (C:dD P) (ops:Array Oper) (env:List bO) (ch:List (Nat×Bool)) (g:Option Bool) (o:Oper) (w:A2) (K:AC->Prop):Prop:=
 let ρ:=xL env ch
 match o.op with
 | .load t x=>match ρ x,elC C t,P.info? t with
   |some (.pointer p),some el,some i=>if pO el i.size=true then dp 1 o.op else aj w g p el (λx=>K (el.gR x))
   | _, _, _=>dp 2 o.op
 | .lookup D m ix ok=>match ok,P.underlying D,ρ m,ρ ix with
   |false,some (.map s r),some (.map p),some (.int k n)=>match P.underlying s,uI P r,P.info? r with
    |some (.int A),some el,some i=>match i.zero with
     |some z=>if k=A then∃x:el.T,gu g (jM w p k n z (el.gR x))/\K (el.gR x) else dp 51 o.op
     |none=>dp 52 o.op
    | _, _, _=>dp 53 o.op
   |true,some (.map s r),some (.map p),some (.int k n)=>match P.underlying s,uI P r,P.info? r with
    |some (.int A),some el,some i=>match i.zero with
     |some z=>if k=A then∃x:el.T, ∃b:Bool,gu g (mm w p k n z (el.gR x) b)/\K (.tuple ⟨[el.gR x,.bool b]⟩) else dp 51 o.op
     |none=>dp 52 o.op
    | _, _, _=>dp 53 o.op
   | _, _, _, _=>dp 54 o.op
 | .pick c x y=>match c with
   | .tmp t=>match bW env t with
     |some E=>match E.k with
      |some true=>match ρ x with
       |some v=>K v
       |none=>dp 31 o.op
      |some false=>match ρ y with
       |some v=>K v
       |none=>dp 32 o.op
      |none=>match Ue ops t with
       |some j=>match ρ c,xL env ((j,true)::ch) x,xL env ((j,false)::ch) y with
        |some (.bool b),some (.bool u),some (.bool v)=>match x,y with
         | _,.const (.bool false)=>K (.bool (b&&u))
         | .const (.bool true), _=>K (.bool (b||v))
         | _, _=>K (.bool (bif b then u else v))
        | _, _, _=>dp 3 o.op
       |none=>dp 4 o.op
     |none=>dp 33 o.op
   | _=>dp 5 o.op
 | .entry F=>match ρ F,o.dst with
   |some (.pointer p),some d=>match W8 P ops d 0,W8 P ops d 1 with
    |some a,none=> ∃x:a.T, ∃v:AC,gu g (z_ w p (a.gR x) v)/\K (.tuple ⟨[a.gR x,v]⟩)
    |some a,some h=> ∃x:a.T, ∃y:h.T,gu g (z_ w p (a.gR x) (h.gR y))/\K (.tuple ⟨[a.gR x,h.gR y]⟩)
    |none,some h=> ∃v:AC, ∃y:h.T,gu g (z_ w p v (h.gR y))/\K (.tuple ⟨[v,h.gR y]⟩)
    |none,none=>dp 71 o.op
   | _, _=>dp 72 o.op
 | .call c=>match c.callee with
   | .builtin .len=>match Cd P ρ c with
     |some p=> ∃n:Nat,gu g (TY w p n)/\K (.int .i64 n)
     |none=>match xm P ρ c with
      |some p=> ∃n:Nat,gu g (ChL w p n)/\K (.int .i64 n)
      |none=>match pop P ρ o with
       |some ⟨none,v⟩=>K v
       |some ⟨some p,v⟩=>gu g p/\K v
       |none=>dp 9 o.op
   | .value f=>match ρ f,maps ρ c.args.toList with
     |some (.func (.func l) first cap),some B=>
      if bJ P l=true then
       match xY C.si l with
       |some e=>match e.fn (cU first B cap) with
        |some (pre,v)=>gu g pre/\K v
        |none=>dp 6 o.op
       |none=> ∃x:(uD C l).T,gu g (af P l (cU first B cap) w ((uD C l).gR x))/\K ((uD C l).gR x)
      else dp 7 o.op
     | _, _=>dp 8 o.op
   | _=>match pop P ρ o with
     |some ⟨none,v⟩=>K v
     |some ⟨some p,v⟩=>gu g p/\K v
     |none=>dp 9 o.op
 | .binOp .. =>match pop P ρ o with
   |some ⟨none,v⟩=>K v
   |some ⟨some p,v⟩=>gu g p/\K v
   |none=>match Cc P ρ o.op with
    |some (p,q)=>gu g (Xy w p q)/\K (.bool (decide (p=q)))
    |none=>dp 10 o.op
 | _=>match pop P ρ o with
   |some ⟨none,v⟩=>K v
   |some ⟨some p,v⟩=>gu g p/\K v
   |none=>dp 10 o.op
def Yq (P:B1) (e:Aq):Array AC:=match P.info? e with
 |some i=>match i.zero with
  |some z=>z.cells
  |none=> #[]
 |none=> #[]
def uS (v:AC):List AC:=v.cells.toList
def DX (vs:List AC):Bool:=vs.all (·.oneCell')
def eop {P:B1} (C:dD P) (ρ:Operand->Option AC) (o:Oper) (w:A2) (K:AC->A2->Prop):Prop:=
 match o.op with
 | .store t x y=>match ρ x,ρ y,P.info? t with
   |some (.pointer p),some v,some i=>if(uS v).length=i.size then
     aA w p (uS v) (λa=>K undef a)
    else dp 11 o.op
   | _, _, _=>dp 12 o.op
 | .alloc e=>match P.info? e with
   |some i=>match i.zero with
    |some z=>match Fg 64 i.size with
     |true=>aM w (Yq P e) e (λb a=>K (.pointer (some ⟨b,0,none⟩)) a)
     |false=>aM w z.cells e (λb a=>K (.pointer (some ⟨b,0,none⟩)) a)
    |none=>dp 13 o.op
   |none=>dp 14 o.op
 | .box e x=>match ρ x with
   |some v=>aM w v.cells e (λb a=>K (.pointer (some ⟨b,0,none⟩)) a)
   |none=>dp 15 o.op
 | .buildSlice t len parts=>match P.underlying t,Ay ρ parts.toList with
   |some (.slice e),some ps=>match P.info? e with
    |some i=>match i.zero with
     |some z=>match Az (λk=>some (k*i.size,i.size)) ⟨(BJ (len*i.size)).map (z.cells.toList[· % z.cells.toList.length]!)⟩ ps with
      |some cs=>if len*i.size<=2 ^ 24 then aM w cs e (λb a=>K (.slice (some ⟨b,0,none⟩) len len) a) else dp 101 o.op
      |none=>dp 102 o.op
     |none=>dp 103 o.op
    |none=>dp 104 o.op
   | _, _=>dp 105 o.op
 | .makeSlice t l c=>match P.underlying t,ρ l,ρ c with
   |some (.slice e),some (.int _ n),some (.int _ m)=>match P.info? e with
    |some i=>match i.zero with
     |some z=>NJ w i.bytes i.size n m z.cells e (λb a=>K (.slice (some ⟨b,0,none⟩) n.toNat m.toNat) a)
     |none=>dp 106 o.op
    |none=>dp 107 o.op
   | _, _, _=>dp 108 o.op
 | .mapUpdate t m x v=>match P.underlying t,ρ m,ρ x,ρ v with
   |some (.map g _),some (.map p),some (.int k n),some val=>match P.underlying g with
    |some (.int h)=>if k=h then∀w1,Ext w w1-> ∃r es d,p=some r/\bD w1 r es d/\gS w1 r k n val es d (λa=>K undef a) else dp 55 o.op
    | _=>dp 56 o.op
   | _, _, _, _=>dp 57 o.op
 | .insert t m x v=>match P.underlying t,ρ m,ρ x,ρ v with
   |some (.map g _),some (.map p),some (.int k n),some val=>match P.underlying g with
    |some (.int h)=>if k=h then∀w1,Ext w w1-> ∃r es d,p=some r/\bD w1 r es d/\gS w1 r k n val es d (λa=>K undef a) else dp 55 o.op
    | _=>dp 56 o.op
   | _, _, _, _=>dp 57 o.op
 | .makeMap _ r=>match r with
   |none=> ∀w1,Ext w w1->K (.map (some w1.heap.size)) (w1.alloc (.map #[] 0))
   |some _=>dp 109 o.op
 | .makeChan t s=>match P.underlying t,ρ s with
   |some (.chan _ e),some (.int _ n)=>match P.info? e with
    |some i=>if 0<=n/\n<=2 ^ 32/\i.bytes*n<=2 ^ 47 then∀w1,Ext w w1->K (.chan (some w1.heap.size)) (w1.alloc (.chan n.toNat #[] false 0 0 false)) else dp 118 o.op
    |none=>dp 119 o.op
   | _, _=>dp 120 o.op
 | .range B x=>match P.underlying B,ρ x with
   |some (.map _ _),some (.map p)=>RgP w p (λb a=>K (.pointer (some ⟨b,0,none⟩)) a)
   | _, _=>dp 73 o.op
 | .next D b=>match b,ρ D with
   |false,some (.pointer p)=>NxP w p (λa=>K (.tuple ⟨[.bool false]⟩) a) (λk v a=>K (.tuple ⟨[.bool true,k,v]⟩) a)
   | _, _=>dp 74 o.op
 | .call c=>match c.callee with
   | .builtin .delete=>match c.args.toList,c.argTypes.toList with
     |[m,x],[t, _]=>match P.underlying t,ρ m,ρ x with
      |some (.map g _),some (.map p),some (.int k n)=>match P.underlying g with
       |some (.int h)=>if k=h then∀w1,Ext w w1-> ∃r es d,p=some r/\bD w1 r es d/\z9 w1 r k n es d (λa=>K (.tuple ⟨[]⟩) a) else dp 75 o.op
       | _=>dp 76 o.op
      | _, _, _=>dp 77 o.op
     | _, _=>dp 78 o.op
   | .builtin .append=>match c.args.toList,c.argTypes.toList with
     |[s,x],[t,u]=>match P.underlying t,P.underlying u,ρ s,ρ x with
      |some (.slice e),some (.slice _),some (.slice p n m),some (.slice q k l)=>match P.info? e with
       |some i=>match i.zero with
        |some z=>if i.bytes=0 then dp 110 o.op else∀w1,Ext w w1->mz w1 e i.size i.bytes z.cells (p,n,m) (q,k,l) (λr a=>K (.slice r.1 r.2.1 r.2.2) a)
        |none=>dp 111 o.op
       |none=>dp 112 o.op
      | _, _, _, _=>dp 113 o.op
     | _, _=>dp 114 o.op
   | .builtin .copy=>match c.args.toList,c.argTypes.toList with
     |[s,x],[t, _]=>match P.underlying t,ρ s,ρ x with
      |some (.slice e),some (.slice p n _),some (.slice q k _)=>match P.info? e with
       |some i=> ∀w1,Ext w w1->cpR w1 i.size (p,n) (q,k) (λr a=>K (.int .i64 r) a)
       |none=>dp 115 o.op
      | _, _, _=>dp 116 o.op
     | _, _=>dp 117 o.op
   | .value f=>match C.dyn,f with
    |some s,.tmp t=>match ρ (.tmp t),maps ρ c.args.toList with
     |some v,some j=>zO P v s j w (λx a=>K (s.gR x) a)
     | _, _=>dp 70 o.op
    | _, _=>match ρ f,maps ρ c.args.toList with
     |some (.func (.yield l) first _),some j=> ∀w1,Ext w w1->ml P l (first.toList++j) w1 (λb a=>K (.bool b) a)
     |some (.func (.func A) first cap),some j=>
      if bJ P A=true then
       az P A (uD C A) (cU first j cap) w (λx a=>K ((uD C A).gR x) a)
      else dp 16 o.op
     | _, _=>dp 17 o.op
   | _=>dp 18 o.op
 | _=>dp 19 o.op
def aH (b:Bool) (x y:Prop):Prop:=match b with
 |true=>x
 |false=>y
theorem ab {b:Bool} {x y:Prop} (a:b=true->x) (c:b=false->y):aH b x y:=by
 cases b
 ·exact c rfl
 ·exact a rfl
theorem DY {b:Bool} {x y:Prop} (h:aH b x y) (e:b=true):x:=by subst e;exact h
theorem AN {b:Bool} {x y:Prop} (h:aH b x y) (e:b=false):y:=by subst e;exact h
def Om {P:B1} (C:dD P) (ρ:Operand->Option AC) (o:Oper):Bool:=
 match o.op with
 | .store .. | .alloc _| .box .. | .buildSlice .. | .makeSlice .. | .makeMap .. | .makeChan .. | .mapUpdate .. | .insert .. | .range .. | .next .. =>true
 | .call c=>match c.callee with
   | .value f=>match C.dyn,f with
    |some _,.tmp _=>true
    | _, _=>match ρ f with
     |some (.func (.func a) _ _)=> !((xY C.si a).isSome||C.quiet.contains a)
     | _=>true
   | .builtin .append=>true
   | .builtin .copy=>true
   | .builtin .delete=>true
   | _=>false
 | _=>false
def Y4:Op->Bool
 | .binOp .. =>true
 | .convert .. =>true
 | .call _=>true
 | _=>false
def yq {P:B1} (C:dD P) (o:Oper) (v:AC) (K:AC->Prop):Prop:=
 match C.vr&&Y4 o.op,v with
 |true,.int k e=> ∀x,x=e->K (.int k x)
 | _, _=>K v
theorem rR {P:B1} {C:dD P} {o:Oper} {v:AC} {K:AC->Prop} (h:yq C o v K):K v:=by
 unfold yq at h
 grind
def N2 {P:B1} (C:dD P) (ops:Array Oper) (N:Nat) (o:Oper):Nat->List bO->A2->(List bO->A2->Prop)->Prop
 |0, _, _, _=>dp 20 o.op
 |n+1,env,w,K=>match gd ops env o with
  |none=>dp 21 o.op
  |some none=>if oN ops N env [] o.dst then wQ env o.dst [] none undef (λenv=>K env w) else dp 25 o.op
  |some (some (ch,g))=>
   if oN ops N env ch o.dst then
    if Om C (xL env ch) o then
     match ch.getLast? with
     |none=>eop C (xL env []) o w (λv a=>wQ env o.dst [] none v (λenv=>K env a))
     |some (j, _)=>match dx ops j with
      |some d=>match bW env d with
       |some e=>match e.v with
        | .bool x=>if e.ch.isEmpty then
           aH x (jx (env.map (settle j true)) λenv=>N2 C ops N o n (⟨d,[],none,.bool true,some true⟩::env) w K)
            (jx (env.map (settle j false)) λenv=>N2 C ops N o n (⟨d,[],none,.bool false,some false⟩::env) w K)
          else dp 22 o.op
        | _=>dp 26 o.op
       |none=>dp 27 o.op
      |none=>dp 28 o.op
    else oA C ops env ch g o w (λv=>yq C o v (λv=>wQ env o.dst ch g v (λenv=>K env w)))
   else dp 24 o.op
def FG {P:B1} (C:dD P) (ops:Array Oper) (N:Nat) (i:Nat) (env:List bO) (w:A2) (K:List bO->A2->Prop):Prop:=
 match ops[i]? with
 |none=>False
 |some ⟨dst,op,type,pos,after,guard⟩=>N2 C ops N ⟨dst,op,type,pos,after,guard⟩ 40 env w K
def rxL {P:B1} (C:dD P) (ops:Array Oper) (N:Nat):List Nat->List bO->A2->(List bO->A2->Prop)->Prop
 |[],env,w,K=>K env w
 |i::r,env,w,K=>FG C ops N i env w (λenv w=>rxL C ops N r env w K)
def jS (ops:Array Oper) (tmps:Array AC) (ch:List (Nat×Bool)):Prop:= ∀x∈ch,yielded ops tmps x.1=some x.2
def Tx (ops:Array Oper) (tmps:Array AC) (ch:List (Nat×Bool)):Option Bool->Prop
 |none=>ch=[]
 |some γ=>ch≠[]/\(γ=true<->jS ops tmps ch)
structure Fit (S:Nat->Option (Option AC)) (ops:Array Oper) (N:Nat) (D:List Deferred) (env:List bO) (a:Act):Prop where
 off: ∀t x,S t=some x->a.tmps[t]? =x
 size:a.tmps.size=N
 qo:a.defers=D
 yes: ∀t e,bW env t=some e->jS ops a.tmps e.ch->a.tmps[t]? =some e.v
 no: ∀t e,bW env t=some e-> ¬ jS ops a.tmps e.ch->a.tmps[t]? =some undef
 Fq: ∀e∈env,Tx ops a.tmps e.ch e.g
 BH: ∀e∈env, ∀b,e.k=some b->e.v= .bool b/\e.ch=[]
theorem bT: ∀{env:List bO} {t:Nat} {e:bO},bW env t=some e->e∈env
 |x::r,t,e,h=>by
  simp[bW] at h;split at h
  grind
  ·exact NR _ (bT h)
theorem Uf {a b:List (Nat×Bool)} (h:Yp a b=true) {ops:Array Oper} {tmps:Array AC} (hb:jS ops tmps b):jS ops tmps a:=λx c=>by
 simp only[Yp,E5] at h;exact hb x (by grind)
variable {S:Nat->Option (Option AC)} {ops:Array Oper} {N:Nat} {D:List Deferred} {env:List bO} {a:Act}
theorem Fit.ev (h:Fit S ops N D env a) {ch:List (Nat×Bool)} (hc:jS ops a.tmps ch) {x:Operand} {v:AC} (b:xL env ch x=some v):a.eval x=v:=by
 cases x with
 |tmp t=>
  simp[xL] at b;split at b
  ·rename_i c;split at b
   ·rename_i d;cases b;have:=h.yes t _ c (Uf d hc);simp[GG,this]
   grind
  grind
 |const
 |global g
 |func=>simp[xL] at b;simp[GG,b]
theorem EU {j:Nat} {d:Option Nat} {u:AC} (h: ∀k,d=some k->dx ops j≠some k):yielded ops (a.put d u).tmps j=yielded ops a.tmps j:=by
 cases d with
 |none=>rfl
 |some k=>
  have b:=h k rfl;unfold yielded;unfold dx at b;cases f:ops[j]?.bind _ with
  |none=>rfl
  |some t=>
   have c:k≠t:=λe=>b (by grind);simp[DH,Dn c]
theorem II {ch:List (Nat×Bool)} {d:Option Nat} {u:AC} (h: ∀k,d=some k->ch.all (λx=>dx ops x.1 != some k)=true):jS ops (a.put d u).tmps ch<->jS ops a.tmps ch:=by
 have: ∀x∈ch,yielded ops (a.put d u).tmps _=yielded ops _ x.1:=λx b=>EU (by grind);constructor
 ·intro c x b;rw[<-this x b];exact c x b
 ·intro c x b;rw[this x b];exact c x b
theorem Fit.put (h:Fit S ops N D env a) {ch:List (Nat×Bool)} {g:Option Bool} {d:Option Nat} {v u:AC} (m:oN ops N env ch d=true) (w: ∀k,d=some k->S k=none)
 (o:Tx ops a.tmps ch g) (h1:jS ops a.tmps ch->u=v) (h0: ¬ jS ops a.tmps ch->u=undef):Fit S ops N D (l_ env d ch g v) (a.put d u):=by
 cases d with
 |none=>exact h
 |some k=>
  simp only[oN,BY,decide_eq_true_eq] at m;obtain⟨⟨p,hc⟩,y⟩:=m;have c0:jS ops (a.put (some k) u).tmps ch<->jS ops a.tmps ch:=II (by grind);have c1: ∀e∈env,(jS ops (a.put (some k) u).tmps e.ch<->jS ops a.tmps e.ch):=λe hm=>II (by grind);have n:k<a.tmps.size:=by rw[h.size];exact p
  refine⟨λt x q=>?_,by simp[DH,h.size],h.qo,?_,?_,?_,?_⟩
  ·have r:k≠t:=λe=>by grind
   simp[DH,Dn r,h.off t x q]
  ·intro t e c i;simp only[l_,bW] at c;split at c
   ·rename_i f;cases c;subst f;simp[DH,n,h1 (c0.1 i)]
   ·rename_i f;have:=h.yes t e c ((c1 e (bT c)).1 i);simp[DH,Dn f,this]
  ·intro t e c i;simp only[l_,bW] at c;split at c
   ·rename_i f;cases c;subst f;simp[DH,n,h0 (λj=>i (c0.2 j))]
   ·rename_i f;have:=h.no t e c (λj=>i ((c1 e (bT c)).2 j));simp[DH,Dn f,this]
  ·intro e hm;have key: ∀(ch) (g:Option Bool),(jS ops (a.put (some k) u).tmps ch<->jS ops a.tmps ch)->Tx ops a.tmps ch g->Tx ops (a.put (some k) u).tmps ch g:=by
    intro ch g s l;cases g with
    |none=>exact l
    |some γ=>exact⟨l.1,l.2.trans s.symm⟩
   simp only[l_,DQ] at hm;rcases hm with rfl|hm
   ·exact key _ _ c0 o
   ·exact key _ _ (c1 e hm) (h.Fq e hm)
  ·intro e hm b hb;simp only[l_,DQ] at hm;rcases hm with rfl|hm
   ·cases hb
   ·exact h.BH e hm b hb
def yr:AC->Option Bool
 | .bool b=>some b
 | _=>none
theorem lA {j d:Nat} (b:dx ops j=some d) {v:AC} (hv:a.tmps[d]? =some v):yielded ops a.tmps j=yr v:=by
 unfold yielded;unfold dx at b
 simp_all
 cases v<;>rfl
theorem dZ:jS ops a.tmps []:=λb=>by simp
theorem On (h:Fit S ops N D env a) {o:Oper} {ch:List (Nat×Bool)} {g:Option Bool} (c:gd ops env o=some (some (ch,g))):
 Tx ops a.tmps ch g/\(Bx o (yielded ops a.tmps)=true<->jS ops a.tmps ch):=by
 unfold gd at c;unfold Bx;split at c
 ·rename_i l;cases c;exact⟨rfl,by simp[jS,l]⟩
 ·rename_i j b l;split at c
  ·rename_i d p;split at c
   ·rename_i e f;split at c
    ·rename_i t u;obtain⟨hv,i⟩:=h.BH e (bT f) t u;have r:=lA (a:=a) p (h.yes d e f (by rw[i];exact dZ));rw[hv] at r;split at c
     ·rename_i hb;cases c;refine⟨rfl,?_⟩;simp[l,r,yr,hb,jS]
     ·cases c
    ·split at c
     ·rename_i x v;cases c;have q:(yielded ops a.tmps j=some b)<->jS ops a.tmps e.ch/\x=b:=by
       by_cases hc:jS ops a.tmps e.ch
       ·have h1:=h.yes d e f hc;rw[lA (a:=a) p h1,v];simp[yr,hc]
       ·have h1:=h.no d e f hc;rw[lA (a:=a) p h1];simp[undef,yr,hc]
      have i:jS ops a.tmps ((j,b)::e.ch)<->yielded ops a.tmps j=some b:=by
       constructor
       ·intro m;exact m (j,b) In
       ·intro m y k;rcases DQ.1 k with rfl|k
        ·exact m
        ·exact(q.1 m).1 y k
      refine⟨?_,?_⟩
      ·have n:=h.Fq e (bT f);cases s:e.g with
       |none=>
        rw[s] at n;have w:jS ops a.tmps e.ch:=by rw[show e.ch=[] from n];intro y k;cases k
        refine⟨by simp,?_⟩;rw[i,q];cases b<;>simp[w,lit]
       |some γ=>
        rw[s] at n;refine⟨by simp,?_⟩;rw[i,q, <-n.2];cases b<;>simp[lit]
      ·rw[i];simp[l]
     ·cases c
   ·cases c
  ·cases c
theorem Cr (h:Fit S ops N D env a) {o:Oper} (c:gd ops env o=some none):Bx o (yielded ops a.tmps)=false:=by
 unfold gd at c;unfold Bx;split at c
 ·cases c
 ·rename_i j b m;split at c
  ·rename_i d g;split at c
   ·rename_i e f;split at c
    ·rename_i i k;obtain⟨hv,l⟩:=h.BH e (bT f) i k;have n:=lA g (h.yes d e f (by rw[l];exact dZ))
     grind[yr]
    grind
   ·cases c
  ·cases c
theorem u0 {f:bO->bO} (a: ∀e,(f e).t=e.t): ∀{l:List bO} {t:Nat} {e:bO},bW (l.map f) t=some e-> ∃b,bW l t=some b/\e=f b
 |x::r,t,e,h=>by
  simp[bW,a] at h ⊢;split at h
  grind
  ·rename_i c;rw[if_neg c];exact u0 a h
theorem DZ (j:Nat) (b:Bool) (e:bO):(settle j b e).t=e.t:=by
 grind[settle]
theorem u5 {j:Nat} {b:Bool} (m:yielded ops a.tmps j=some b) (e:bO) (f:Tx ops a.tmps e.ch e.g):
 Tx ops a.tmps (settle j b e).ch (settle j b e).g/\(jS ops a.tmps e.ch->jS ops a.tmps (settle j b e).ch/\(settle j b e).v=e.v)/\(¬ jS ops a.tmps e.ch->(¬ jS ops a.tmps (settle j b e).ch\/(settle j b e).v=undef))/\
 (¬ jS ops a.tmps (settle j b e).ch-> ¬ jS ops a.tmps e.ch):=by
 unfold settle;split
 ·rename_i hc;have n: ¬ jS ops a.tmps e.ch:=λd=>by
   have:=d (j, !b)
   grind
  exact⟨rfl,λd=>absurd d n,λ_=> .inr rfl,λd=>absurd dZ d⟩
 ·split
  ·rename_i p hc;have h:jS ops a.tmps e.ch<->jS ops a.tmps (e.ch.filter (λx=>x != (j,b))):=by
    constructor
    ·intro d x k;exact d x (DA.1 k).1
    ·intro d x k;by_cases o:x=(j,b)
     ·rw[o];exact m
     ·exact d x (by grind)
   split
   ·rename_i i;rw[i] at h;exact⟨rfl,λ_=>⟨dZ,rfl⟩,by grind,λd=>absurd dZ d⟩
   ·rename_i c r i;rw[i] at h
    simp_all
    cases l:e.g with
    |none=>rw[l] at f;have:e.ch=[]:=f;rw[this] at hc;simp at hc
    |some γ=>rw[l] at f;exact⟨by simp,f.2.trans h⟩
  grind
theorem Fit.settle (h:Fit S ops N D env a) {j d:Nat} {b:Bool} {e:bO} (n:dx ops j=some d) (o:bW env d=some e) (p:e.ch=[]) (hv:e.v= .bool b):
 Fit S ops N D (⟨d,[],none,.bool b,some b⟩::env.map (settle j b)) a:=by
 have h1:=h.yes d e o (by rw[p];exact dZ);have k:=lA (a:=a) n h1;rw[hv] at k;refine⟨h.off,h.size,h.qo,?_,?_,?_,?_⟩
 ·intro t l g hc;simp only[bW] at g;split at g
  grind
  ·obtain⟨c,f,rfl⟩:=u0 (DZ j b) g;obtain⟨_,s1,w, _⟩:=u5 (a:=a) k c (h.Fq c (bT f));by_cases m:jS ops a.tmps c.ch
   ·rw[h.yes t c f m,(s1 m).2]
   ·rw[h.no t c f m]
    grind
 ·intro t l g hc;simp only[bW] at g;split at g
  ·cases g;exact absurd dZ hc
  ·obtain⟨c,f,rfl⟩:=u0 (DZ j b) g;obtain⟨_, _, _,q⟩:=u5 (a:=a) k c (h.Fq c (bT f));exact h.no t c f (q hc)
 ·intro l hm;rcases DQ.1 hm with rfl|hm
  ·exact rfl
  ·obtain⟨c,f,rfl⟩:=Gd.1 hm;exact(u5 (a:=a) k c (h.Fq c f)).1
 ·intro l hm r i;rcases DQ.1 hm with rfl|hm
  grind
  ·obtain⟨c,f,rfl⟩:=Gd.1 hm;unfold RX.settle at i ⊢;split at i
   ·cases i
   ·rename_i s;rw[if_neg s];split at i
    grind
    ·rename_i u;rw[if_neg u];exact h.BH c f r i
variable {P:B1}
def di (P:B1) (o:Oper) (a:Act) (w:A2) (v:AC):Prop:=
 match (execOp a.eval o).run P w with
 | .ok (.value u) w'=>w'=w/\u=v
 | .ok (.enter f args) w'=>w'=w/\Calls P f args w (λe b=>e= .returned v/\Ext w b)
 | _=>False
theorem bN {o:Oper} {a:Act} {w:A2} {v:AC} (h:(execOp a.eval o).run P w= .ok (.value v) w):di P o a w v:=by
 grind[di]
theorem cD: ∀(l:List Sc) (x:jg l),(a_ l x).length=l.length
 |[], _=>rfl
 | _::r,x=>by simp[a_,cD]
theorem vJ {w:A2} {a:Ag} {v:AC} (h:w.cell? a=some v):(load a).run P w= .ok v w:=by simp[h]
theorem run_loadCellsFrom {w:A2} {a:Ag}: ∀(vs:List AC) (k:Nat) (b:Array AC),(∀i,i<vs.length->w.cell? (a.add (k+i))=vs[i]?)->
 (loadCellsFrom a k vs.length b).run P w= .ok (b++vs.toArray) w
 |[],k,b, _=>by rfl
 |v::vs,k,b,h=>by
  have h0:=by simpa using h 0
  have c:=run_loadCellsFrom vs _ (b.push v) λi hi=>by
   have:=h (i+1) (by grind);rw[show k+1+i=k+(i+1) by omega,this];rfl
  simp only[NI,loadCellsFrom,B2,vJ h0,B3,c];simp
theorem tn {w w':A2} (h:Ext w w') {p:Option Ag} {el:El} {x:el.T} (c:cC w p el x):cC w' p el x:=by
 cases el with
 |one=>obtain⟨a,b,hc⟩:=c;exact⟨a,b,h.cell hc⟩
 |agg l=>
  obtain⟨a,b,hc⟩:=c;refine⟨a,b,λi hi=>?_⟩;have h1:=hc i hi;have d:i<(a_ l x).length:=by have:=cD l x;omega
  rw[Ik d] at h1 ⊢;exact h.cell h1
theorem tq {w:A2} {a:Ag} {t:Aq} {el:El} {b:TypeInfo} {x:el.T} (h:uI P t=some el) (hi:P.info? t=some b)
 (f: ¬ pO el b.size=true) (e:cC w (some a) el x):(loadVar t a).run P w= .ok (el.gR x) w:=by
 unfold loadVar;cases el with
 |one s=>
  have c:jV P t=some false:=by
   grind[uI,jV,Ax,Option.map_eq_some_iff]
  obtain⟨a',d,hc⟩:=e;cases d;simp only[B2,uZ c,B3,FS,if_false,vJ hc];rfl
 |agg l=>
  have c:jV P t=some true:=by
   grind[uI,jV,Ax]
  obtain⟨a',d,hc⟩:=e;cases d;have g:l.length=b.size:=by simpa[pO] using f
  have:=run_loadCellsFrom (P:=P) (w:=w) (a:=a) (a_ l x) 0 #[] (by simpa[cD] using hc);rw[cD,g] at this;simp only[B2,uZ c,B3,if_true,dj hi,loadCells,this];simp[El.gR]
theorem Ug {C:dD P} {w:A2} {a:Ag} {t:Aq} {el:El} {c:TypeInfo} {x:el.T} (b:elC C t=some el) (hi:P.info? t=some c)
 (e: ¬ pO el c.size=true) (d:cC w (some a) el x):(loadVar t a).run P w= .ok (el.gR x) w:=by
 unfold elC at b;split at b
 ·rename_i h0;split at b
  ·cases b;have f:=d;exact tq (el:= .one .func) h0 hi ‹_› f
  grind[tq]
 ·exact tq b hi e d
theorem IJ: ∀{l:List (Entry P)} {f:B6} {e:Entry P},xY l f=some e->e.f=f
 |x::r,f,e,h=>by
  simp[xY] at h;split at h
  grind
  ·exact IJ h
theorem il {g:Option Bool} {p:Prop} {ops:Array Oper} {tmps:Array AC} {ch:List (Nat×Bool)} (h:gu g p) (a:Tx ops tmps ch g) (hc:jS ops tmps ch):p:=by
 cases g with
 |none=>exact h
 |some=>exact h (a.2.2 hc)
theorem tQ {f:B6} {args:Array AC} {w:A2}
 (h:bJ P f=true):
 (callFunc f args).run P w= .ok (.enter f args) w:=by
 unfold callFunc;unfold bJ at h;cases a:P.funcs[f]? with
 |none=>simp[a] at h
 |some fn=>
  simp_all
  grind[eZ]
theorem tr {ev:Operand->AC} {dst:Option Nat} {type:Aq} {pos:String} {after:Array Edge} {guard:Option (Nat×Bool)} {f:Operand} {args:Array Operand} {ts:Array Aq}
 {a:B6} {first cap:Array AC} {b:List AC} (c:ev f= .func (.func a) first cap) (d:args.toList.map ev=b) {w:A2}
 (h:bJ P a=true):
 (execOp ev ⟨dst,.call ⟨.value f,args,ts⟩,type,pos,after,guard⟩).run P w= .ok (.enter a ⟨cU first b cap⟩) w:=by
 have e:first++args.map ev++cap=⟨cU first b cap⟩:=by
  simp_all[cU]
 simp only[execOp,resolve,Deferred.ofValue,c,B2,B4,B3,invoke];rw[e];exact tQ h
variable {S:Nat->Option (Option AC)} {ops:Array Oper} {N:Nat} {D:List Deferred} {env:List bO} {a:Act}
theorem zg {kd:B5} {n:Int}: ∀(l:List Dj) (i0 i:Nat) (v:AC),Fo (.int kd) (.int kd n) l i0=some (some (i,v))->i0<=i/\ ∃e,l[i - i0]? =some e/\e.key= .int kd n/\e.val=v
 |e::es,i0,i,v,h=>by
  unfold Fo at h;split at h
  ·rename_i a;obtain⟨rfl,rfl⟩:=h;simp;cases b:e.key<;>rw[b] at a<;>simp[Instr.sameNow] at a
   grind
  ·obtain:=zg es (i0+1) i v h
   grind
  ·cases h
theorem AO {t d l:Aq} {kd:B5} {n:Int} {val:AC} {w:A2} {r:Nat} {es:Array Dj} {f:Nat} {K:A2->Prop} (g:P.underlying t=some (.map d l)) (a:P.underlying d=some (.int kd)) (hb:bD w r es f)
 (h:gS w r kd n val es f K): ∃j,(Ki t (.map (some r)) (.int kd n) val).run P w= .ok () j/\K j:=by
 have b:=hb;have k:Hb (.int kd) (.int kd n):=by rfl
 unfold gS at h;split at h
 ·rename_i c;refine⟨_,?_,h⟩;simp[Ki,run_underlying g,Dg b,Dq a k,Dr a c,Hh _ b,Dk,Fw]
 ·rename_i i v c;obtain⟨_,e,m,o, _⟩:=zg _ _ _ _ c;refine⟨_,?_,h⟩;have p:=by simpa using m
  simp[Ki,run_underlying g,Dg b,Dq a k,Dr a c,p,o,Instr.keyThatStays,Instr.sameBits,Hh _ b,Dk,Fw]
 grind
theorem PQ {t d e:Aq} {kd:B5} {n:Int} {w:A2} {p:Option Nat} {i:TypeInfo} {z v:AC} (f:P.underlying t=some (.map d e)) (a:P.underlying d=some (.int kd)) (hi:P.info? e=some i) (l:i.zero=some z)
 (h:jM w p kd n z v):(Ft t (.map p) (.int kd n) false).run P w= .ok v w:=by
 obtain⟨r,es,m,rfl,hb,b⟩:=h;have g:=hb;have k:Hb (.int kd) (.int kd n):=by rfl
 split at b
 ·rename_i c;subst b;simp[Ft,run_underlying f,Dg g,Dq a k,Dr a c,zeroValue,ft hi,l]
 ·rename_i j u c;subst b;simp[Ft,run_underlying f,Dg g,Dq a k,Dr a c,Dk]
 grind
theorem Ko {t d e:Aq} {kd:B5} {n:Int} {w:A2} {p:Option Nat} {i:TypeInfo} {z v:AC} {b:Bool} (f:P.underlying t=some (.map d e)) (a:P.underlying d=some (.int kd)) (hi:P.info? e=some i) (l:i.zero=some z)
 (h:mm w p kd n z v b):(Ft t (.map p) (.int kd n) true).run P w= .ok (.tuple ⟨[v,.bool b]⟩) w:=by
 obtain⟨r,es,o,rfl,hb,m⟩:=h;have g:=hb;have k:Hb (.int kd) (.int kd n):=by rfl
 split at m
 ·rename_i c
  simp_all
  simp[Ft,run_underlying f,Dg g,Dq a k,Dr a c,zeroValue,ft hi,l,Dk]
 ·rename_i j u c
  simp_all
  simp[Ft,run_underlying f,Dg g,Dq a k,Dr a c,Dk]
 grind
theorem nT {w:A2} {p:Option Ag} {k v:AC} (h:z_ w p k v):(Instr.entry (.pointer p)).run P w= .ok (.tuple ⟨[k,v]⟩) w:=by
 obtain⟨r,m,a,seen,es,b,e,rfl,c,hb,d,f,rfl,rfl⟩:=h;exact run_entry_at w r m a seen es b e c hb d f
theorem yG {w w':A2} {p:Option Ag} {k v:AC} (a:Ext w w') (h:z_ w p k v):z_ w' p k v:=by
 obtain⟨r,m,b,seen,es,c,e,h1,d,hb,f⟩:=h;exact⟨r,m,b,seen,es,c,e,h1,a.obj d,a.obj hb,f⟩
theorem EV {ρ:Operand->Option AC} {c:Call} {p:Option Nat} (h:Cd P ρ c=some p): ∃x t a b,c.args= #[x]/\c.argTypes= #[t]/\P.underlying t=some (.map a b)/\ρ x=some (.map p):=by
 unfold Cd at h;split at h
 ·rename_i x t f g;split at h
  ·rename_i a b p' d e;cases h;refine⟨x,t,a,b,?_,?_,d,e⟩
   grind
   grind
  grind
 grind
theorem CM {ρ:Operand->Option AC} {c:Call} {p:Option Nat} (h:xm P ρ c=some p): ∃x t d a,c.args= #[x]/\c.argTypes= #[t]/\P.underlying t=some (.chan d a)/\ρ x=some (.chan p):=by
 unfold xm at h;split at h
 ·rename_i x t g i;split at h
  ·rename_i b a p' e f;cases h;refine⟨x,t,b,a,?_,?_,e,f⟩
   grind
   grind
  grind
 grind
theorem IK {w w':A2} {p q:Option Ag} (e:Ext w w') (h:Xy w p q):Xy w' p q:=λa b h1 f g=>by
 obtain⟨⟨c,t,i⟩,d,u,j⟩:=h a b h1 f g;exact⟨⟨c,t,e.obj i⟩,d,u,e.obj j⟩
theorem Y5 {ρ:Operand->Option AC} {ev:Operand->AC} (j: ∀x v,ρ x=some v->ev x=v) {o:Oper} {p q:Option Ag} {w:A2} (h:Cc P ρ o.op=some (p,q)) (k:Xy w p q):
 (execOp ev o).run P w= .ok (.value (.bool (decide (p=q)))) w:=by
 obtain⟨dst,op,type,pos,after,guard⟩:=o;unfold Cc at h;simp only at h;split at h
 ·rename_i t x y z;split at h
  ·rename_i e p' A f l m;split at h
   ·rename_i i hi;split at h
    ·cases h
    ·rename_i n;cases h;simp only[execOp,j _ _ l,j _ _ m];cases p with
     |none=>
      cases q with
      |none=>
       have:=dY (P:=P) (w:=w) λd=>nO f d none w;simp[eqGuard,binOp,this]
      |some b=>
       have:=dY (w:=w) λd=>nO f d (some b) w;simp[eqGuard,binOp,this]
     |some a=>
      cases q with
      |none=>
       have:=dY (P:=P) λd=>rQ f d (some a) w;simp[eqGuard,binOp,this]
      |some b=>
       by_cases g:a=b
       ·subst g;have:=run_eql_ptr_same w a f hi;simp[eqGuard,this]
       ·obtain⟨⟨c,B,r⟩,d,u,s⟩:=k a b rfl rfl g;have:=run_eql_ptr_other w f hi n g r s;simp[eqGuard,this,g]
   ·cases h
  ·cases h
 ·cases h
theorem yw {C:dD P} {ch:List (Nat×Bool)} {g:Option Bool} {o:Oper} {w:A2} {K:AC->Prop} (l:Fit S ops N D env a) (G:Tx ops a.tmps ch g)
 (h:oA C ops env ch g o w K): ∃v,K v/\(jS ops a.tmps ch-> ∀w',Ext w w'->di P o a w' v):=by
 have Ny: ∀v,a.eval (.const v)=v:=λ_=>rfl;have pure: ∀(J:PR),pop P (xL env ch) o=some J->(match J.ob with|none=>K J.v|some p=>gu g p/\K J.v)->
  ∃v,K v/\(jS ops a.tmps ch-> ∀w',Ext w w'->di P o a w' v):=by
  intro J E i;cases Q:J.ob with
  |none=>
   rw[Q] at i;exact⟨J.v,i,λhc w' _=>bN (OP (λx v A=>l.ev hc A) Ny E (λp L=>by rw[Q] at L;cases L) w')⟩
  |some p=>
   rw[Q] at i;exact⟨J.v,i.2,λhc w' _=>bN (OP (λx v A=>l.ev hc A) Ny E (λp' L=>by rw[Q] at L;cases L;exact il i.1 G hc) w')⟩
 have R:(match pop P (xL env ch) o with|some ⟨none,v⟩=>K v|some ⟨some p,v⟩=>gu g p/\K v|none=>False)->
  ∃v,K v/\(jS ops a.tmps ch-> ∀w',Ext w w'->di P o a w' v):=by
  intro T;split at T
  ·rename_i v E;exact pure ⟨none,v⟩ E T
  ·rename_i p v E;exact pure ⟨some p,v⟩ E T
  ·exact T.elim
 obtain⟨dst,op,type,pos,after,guard⟩:=o;unfold oA at h;cases op with
 |load t x=>
  simp only at h;split at h
  ·rename_i p el ti A H hi;split at h
   ·exact AI h
   ·rename_i hs;obtain⟨x',M,i⟩:=h;refine⟨_,i,λhc w' B=>bN ?_⟩;have Tm:=tn B (il M G hc);have E: ∃a0,p=some a0:=by cases el<;>(obtain⟨a0,h0, _⟩:=Tm;exact⟨a0,h0⟩)
    obtain⟨a0,rfl⟩:=E;simp[execOp,Instr.loadAt,l.ev hc A,I1,Ug H hi hs Tm]
  ·exact AI h
 |lookup xt m ix ok=>
  simp only at h;split at h
  ·rename_i U V p kd n F W X;split at h
   ·rename_i kd' el ti Y H hi;split at h
    ·rename_i z I;split at h
     ·rename_i Z;subst Z;obtain⟨x',M,i⟩:=h;refine⟨_,i,λhc w' B=>bN ?_⟩;have hl:=il M G hc;have zR:jM w' p kd n z (el.gR x'):=by
       obtain⟨r,es,O,h1,h2,h3⟩:=hl;exact⟨r,es,O,h1,B.obj h2,h3⟩
      simp only[execOp,B2,l.ev hc W,l.ev hc X,PQ F Y hi I zR,B3,B4]
     ·exact AI h
    ·exact AI h
   ·exact AI h
  ·rename_i U V p kd n F W X;split at h
   ·rename_i kd' el ti Y H hi;split at h
    ·rename_i z I;split at h
     ·rename_i Z;subst Z;obtain⟨x',b',M,i⟩:=h;refine⟨_,i,λhc w' B=>bN ?_⟩;have hl:=il M G hc;have zR:mm w' p kd n z (el.gR x') b':=by
       obtain⟨r,es,O,h1,h2,h3⟩:=hl;exact⟨r,es,O,h1,B.obj h2,h3⟩
      simp only[execOp,B2,l.ev hc W,l.ev hc X,Ko F Y hi I zR,B3,B4]
     ·exact AI h
    ·exact AI h
   ·exact AI h
  ·exact AI h
 |pick c x y=>
  simp only at h;split at h
  ·rename_i t;split at h
   ·rename_i ec hec;have known: ∀(b:Bool),ec.k=some b->jS ops a.tmps ch->a.eval (.tmp t)= .bool b:=by
     intro b hb _;obtain⟨hv,qB⟩:=l.BH ec (bT hec) b hb;have:=l.yes t ec hec (by rw[qB];exact dZ);simp[GG,this,hv]
    split at h
    ·rename_i i;split at h
     ·rename_i v hv;refine⟨v,h,λhc w' _=>bN ?_⟩;have eb:=known true i hc;simp[execOp,eb,l.ev hc hv,asBool]
     ·exact AI h
    ·rename_i i;split at h
     ·rename_i v hv;refine⟨v,h,λhc w' _=>bN ?_⟩;have eb:=known false i hc;simp[execOp,eb,l.ev hc hv,asBool]
     ·exact AI h
    ·split at h
     ·rename_i j hj;have zW:dx ops j=some t:=by
       have:=O2 hj;simpa using this
      have key: ∀(b u v:Bool),xL env ch (.tmp t)=some (.bool b)->xL env ((j,true)::ch) x=some (.bool u)->xL env ((j,false)::ch) y=some (.bool v)->
       ∀w',jS ops a.tmps ch->di P ⟨dst,.pick (.tmp t) x y,type,pos,after,guard⟩ a w' (.bool (bif b then u else v)):=by
       intro b u v hb F hv w' hc;refine bN ?_;have eb:=l.ev hc hb;have hyj:yielded ops a.tmps j=some b:=by
        unfold yielded;unfold dx at zW;simp only[zW,Option.bind_some];have:a.tmps[t]? =some (.bool b):=by
         unfold GG at eb;simp only[GF] at eb;cases ht:a.tmps[t]? with
         |none=>rw[ht] at eb;simp[undef] at eb
         |some z=>rw[ht] at eb;simp at eb;rw[eb]
        rw[this]
       cases b with
       |true=>
        have eu:=l.ev (ch:=(j,true)::ch) (λz I=>by
         rcases DQ.1 I with rfl|I
         ·exact hyj
         ·exact hc z I) F
        simp[execOp,eb,eu,asBool]
       |false=>
        have eu:=l.ev (ch:=(j,false)::ch) (λz I=>by
         rcases DQ.1 I with rfl|I
         ·exact hyj
         ·exact hc z I) hv
        simp[execOp,eb,eu,asBool]
      split at h
      ·rename_i b u v hb F hv;split at h
       ·cases (show v=false by simp only[xL,Dc,Value.bool.injEq] at hv;exact hv.symm);refine⟨_,h,λhc w' _=>?_⟩;have:=key b u false hb F hv w' hc;cases b<;>exact this
       ·cases (show u=true by simp only[xL,Dc,Value.bool.injEq] at F;exact F.symm);refine⟨_,h,λhc w' _=>?_⟩;have:=key b true v hb F hv w' hc;cases b<;>exact this
       ·exact⟨_,h,λhc w' _=>key b u v hb F hv w' hc⟩
      ·exact AI h
     ·exact AI h
   ·exact AI h
  ·exact AI h
 |call c=>
  obtain⟨callee,args,ts⟩:=c;cases callee with
  |value f=>
   simp only at h;split at h
   ·rename_i fS first cap acU hf has
    split at h
    ·rename_i rb;split at h
     ·rename_i e H;split at h
      ·rename_i pre v abR;refine⟨v,h.2,λhc w' _=>?_⟩;have dM:=tr (P:=P) (dst:=dst) (type:=type) (pos:=pos) (after:=after) (guard:=guard) (ts:=ts) (l.ev hc hf) (l5 (λx v A=>l.ev hc A) has) (w:=w') rb;unfold di;rw[dM];refine⟨rfl,?_⟩;have:=e.ok _ _ _ abR (il h.1 G hc) w';rw[IJ H] at this;exact this
      ·exact AI h
     ·obtain⟨x,hq,i⟩:=h;refine⟨_,i,λhc w' B=>?_⟩;have dM:=tr (P:=P) (dst:=dst) (type:=type) (pos:=pos) (after:=after) (guard:=guard) (ts:=ts) (l.ev hc hf) (l5 (λx v A=>l.ev hc A) has) (w:=w') rb;unfold di;rw[dM];exact⟨rfl,il hq G hc w' B⟩
    ·exact AI h
   ·exact AI h
  |invoke r m=>exact R h
  |builtin b=>
   cases b with
   |len=>
    simp only at h;split at h
    ·rename_i p E;obtain⟨n,hn,i⟩:=h;refine⟨_,i,λhc w' B=>bN ?_⟩;obtain⟨x,t,U,V,rfl,rfl,F,A⟩:=EV E;obtain⟨r,es,O,rfl,hb,rfl⟩:=il hn G hc;have sg:w'.heap[r]? =some (.map es O):=B.obj hb;simp[execOp,resolve,invoke,builtin,GI,l.ev hc A,run_underlying F,Dg sg,goInt,Dk]
    ·split at h
     ·rename_i p E;obtain⟨n,hn,i⟩:=h;refine⟨_,i,λhc w' B=>bN ?_⟩;obtain⟨x,t,U,V,rfl,rfl,F,A⟩:=CM E;obtain⟨r,cap,q_,s,m,rfl,hb,rfl⟩:=il hn G hc;have sg:w'.heap[r]? =some (.chan cap ⟨q_⟩ false s m false):=B.obj hb;have uC:(getObj r).run P w'= .ok (.chan cap ⟨q_⟩ false s m false) w':=by simp[getObj,Sem.run,sg]
      simp[execOp,resolve,invoke,builtin,GI,l.ev hc A,run_underlying F,uC,goInt,Dk]
     ·exact R h
   | _=>exact R h
 |entry it=>
  simp only at h;split at h
  ·rename_i p d A;split at h
   ·obtain⟨x,v,H,i⟩:=h;refine⟨_,i,λhc w' B=>bN ?_⟩;simp only[execOp,B2,l.ev hc A,nT (yG B (il H G hc)),B3,B4]
   ·obtain⟨x,v,H,i⟩:=h;refine⟨_,i,λhc w' B=>bN ?_⟩;simp only[execOp,B2,l.ev hc A,nT (yG B (il H G hc)),B3,B4]
   ·obtain⟨x,v,H,i⟩:=h;refine⟨_,i,λhc w' B=>bN ?_⟩;simp only[execOp,B2,l.ev hc A,nT (yG B (il H G hc)),B3,B4]
   ·exact AI h
  ·exact AI h
 |binOp op t x y yt=>
  simp only at h;split at h
  ·rename_i v E;exact pure ⟨none,v⟩ E h
  ·rename_i p v E;exact pure ⟨some p,v⟩ E h
  ·split at h
   ·rename_i p q E;obtain⟨hq,i⟩:=h;exact⟨_,i,λhc w' B=>bN (Y5 (o:=⟨dst,.binOp op t x y yt,type,pos,after,guard⟩) (λx v A=>l.ev hc A) E (IK B (il hq G hc)))⟩
   ·exact AI h
 | _=>exact R h
variable {P:B1}
def WF (r:Option Nat):Fence:={E4 with round:=r}
theorem jF {r:Option Nat} {n:Nat} {f:B6} {args:Array AC} {w:A2} {R:Ending->A2->Prop}:CallsIn (WF r) n P f args w R<->Calls P f args w R:=
 callsIn_wide
theorem W9 (r:Option Nat) (f:B6):(WF r).fn f:=trivial
theorem IL (r:Option Nat) (n:Nat):(WF r).room n:=room_wide n
theorem zK {w:A2} {p q:Ag} {v:AC} (h:(w.cell? q).isSome=true):((w.setCell p v).cell? q).isSome=true:=by
 unfold LL at h ⊢;simp[M4]
 grind
theorem Tk {w:A2} {p q:Ag} {v:AC}:(w.setCell p v).frozen? q=w.frozen? q:=by
 simp
theorem CN {w:A2} {a:Ag} {v:AC} (hv:v.oneCell'=true) (h:(w.cell? a).isSome=true) (b:w.frozen? a=false):(store a v).run P w= .ok () (w.setCell a v):=by
 rw[run_store P w a v _ hv]
 grind
theorem jd: ∀(vs:List AC) (a:Ag) (i:Nat) (w:A2),DX vs=true->(∀j,j<vs.length->(w.cell? (a.add (i+j))).isSome=true/\w.frozen? (a.add (i+j))=false)->
 (storeCells a vs i).run P w= .ok () (putAt w a vs i)
 |[],a,i,w, _, _=>by rfl
 |v::r,a,i,w,b,h=>by
  simp only[DX,Ih,BY] at b;have h0:=h 0;simp at h0;have c:=jd r a (i+1) (w.setCell (a.add i) v) b.2 (λj d=>by
   simp_all
   grind[zK])
  simp[storeCells,CN b.1 h0.1 h0.2,c,putAt]
theorem wrap_i64 {n:Int} (h0: -(2 ^ 63)<=n) (h1:n<2 ^ 63):FP.wrap n=n:=by
 show(if(true&&decide (n % 2 ^ 64>=2 ^ 63))=true then n % 2 ^ 64 - 2 ^ 64 else n % 2 ^ 64)=n
 grind
theorem run_makeSlice {t e:Aq} {i:TypeInfo} {z:AC} (b:P.underlying t=some (.slice e)) (hi:P.info? e=some i) (c:i.zero=some z) (k d:B5) {n m:Int} (h:aah i.bytes n m) (w:A2):
 (T0 t (.int k n) (.int d m)).run P w= .ok (.slice (some ⟨w.heap.size,0,none⟩) n.toNat m.toNat) (w.alloc (.cells (nC z.cells (m.toNat*i.size)) e)):=by
 obtain⟨h0,h1,p,q⟩:=h;have wn:FP.wrap n=n:=wrap_i64 (by omega) (by omega);have f:FP.wrap m=m:=wrap_i64 (by omega) (by omega);have g: ¬ m<0:=by omega
 have j: ¬ n<0:=by omega
 have l: ¬ n>m:=by omega
 have o: ¬ (i.bytes*m>2 ^ 48):=by omega
 unfold T0;simp only[B2,bz b,B3,asInt,asIntOf,B4,ft hi,wn,f,g,j,l,o,decide_false,J7,FS,if_false,run_askRoom,dj hi,newRow];by_cases a:m.toNat*i.size=0
 ·simp[a,nC]
 ·simp[a,nC,zeroValue,ft hi,c]
theorem xq {w:A2} {p:Option Ag} {n size len cap:Nat} {vs:List AC} (h:oB w p (n*size) vs):(Fx size n (.slice p len cap)).run P w= .ok ⟨vs⟩ w:=by
 cases p with
 |none=>subst h;rfl
 |some a=>
  obtain⟨b⟩:=h;have:=run_loadCellsFrom (P:=P) (w:=w) (a:=a) vs 0 #[] (by grind);rw[b] at this;simp only[Fx,loadCells,this];simp
theorem D4 {w:A2} {p:Option Ag} {n:Nat} {vs:List AC} (h:oB w p n vs):oB w.drew p n vs:=h
theorem PU {ts:Array Aq} {t u e:Aq} {i:TypeInfo} {ty:Aq} {p q:Option Ag} {n m k l:Nat} (c:ts= #[t,u]) (d:P.underlying t=some (.slice e))
 (hi:P.info? e=some i) {w:A2} {R:Int->A2->Prop} (h:cpR w i.size (p,n) (q,k) R):
 ∃r b,(T_ ts ty #[.slice p n m,.slice q k l]).run P w= .ok (.int .i64 r) b/\R r b:=by
 subst c;obtain⟨new,f,g,j⟩:=h;have o:(Fx i.size _ (.slice q k l)).run P w= .ok ⟨new⟩ w:=xq f;refine⟨_, _,?_,j⟩;unfold T_;have h0: #[t,u][0]? =some t:=rfl;simp only[h0,Io,Gi,J3,B2,bz d,B3,dj hi,M5,B4,o];cases p with
 |none=>
  rfl
 |some a=>
  rcases g with h|rfl|⟨⟨a',s,hc⟩,v⟩
  ·cases h
  ·rfl
  ·cases s;have x:=jd (P:=P) new a 0 w v (by grind);simp only[B2,x,B3,B4,goInt];rfl
theorem Gy {ts:Array Aq} {t u e y:Aq} {i:TypeInfo} {z:AC} {ty:Aq} {p q:Option Ag} {n m k l:Nat} (A:ts= #[t,u]) (f:P.underlying t=some (.slice e)) (g:P.underlying u=some (.slice y))
 (hi:P.info? e=some i) (B:i.zero=some z) (hb:i.bytes≠0) {w:A2} {R:Option Ag×Nat×Nat->A2->Prop} (h:mz w e i.size i.bytes z.cells (p,n,m) (q,k,l) R):
 ∃r o,(N6 ts ty #[.slice p n m,.slice q k l]).run P w= .ok (.slice r.1 r.2.1 r.2.2) o/\R r o:=by
 subst A;obtain⟨fI,new,C,s,D,E⟩:=h;have F:(Fx i.size k (.slice q k l)).run P w= .ok ⟨new⟩ w:=xq s;by_cases b:n+k<=m
 ·obtain⟨G,d⟩:=D b;refine⟨_, _,?_,d⟩;unfold N6;have h0:(#[t,u]:Array Aq)[0]? =some t:=rfl;have h1:(#[t,u]:Array Aq)[1]? =some u:=rfl;simp only[h0,h1,Io,Gi,J3,B2,bz f,bz g,B3,dj hi,M5,B4,FS,if_false,b,if_true,Ox,F];cases p with
  |none=>
   simp only[B4,js,TD]
  |some a=>
   rcases G with rfl|⟨⟨a',v,hc⟩,H⟩
   ·simp[storeCells,js,putAt]
   ·simp only[GS,Dc] at v;subst v;have I:=jd (P:=P) new (a.add (n*i.size)) 0 w H (λj J=>by simpa using hc j J);rw[B2,I];rfl
 ·obtain⟨K,d⟩:=E (by show m<n+k;omega);have L:=λc hc=>d c hc;have M: ∀(x:Nat),n+k<=(Question.appendCap (n+k) m e).cut x:=λx=>by simp[Question.cut]
  refine⟨_, _,?_,L ((Question.appendCap (n+k) m e).cut (w.tape w.drawn (.appendCap (n+k) m e))) (M _)⟩;unfold N6;have h0:(#[t,u]:Array Aq)[0]? =some t:=rfl;have h1:(#[t,u]:Array Aq)[1]? =some u:=rfl;have N: ¬ (((n+k:Nat):Int)>FP.max/\(False\/i.bytes=0)):=by simp[hb]
  have O: ¬ (T3 (n+k) m*i.bytes>2 ^ 48):=by simp only at K;omega
  have Q:(Fx i.size n (.slice p n m)).run P w.drew= .ok ⟨fI⟩ w.drew:=xq (D4 C);have S:(Fx i.size k (.slice q k l)).run P w.drew= .ok ⟨new⟩ w.drew:=xq (D4 s);simp only[h0,h1,Io,Gi,J3,B2,bz f,bz g,B3,dj hi,M5,B4,FS,if_false,b,Ox,if_true,
   ft hi]
  rw[if_neg N];simp only[B2,ft hi,B3,O,if_false,run_choose_drew,Question.forced,FS,run_askRoom,Q,S,zeroValue,B,newRow,B4,run_newObj_alloc];rfl
theorem zL {t e:Aq} {i:TypeInfo} {z:AC} {len:Nat} {parts:Array (Nat×AC)} {ps:List (Nat×AC)} {cs:Array AC} (c:P.underlying t=some (.slice e)) (hi:P.info? e=some i) (d:i.zero=some z)
 (f:parts.toList=ps) (g:Az (λk=>some (k*i.size,i.size)) ⟨(BJ (len*i.size)).map (z.cells.toList[· % z.cells.toList.length]!)⟩ ps=some cs) (j:len*i.size<=2 ^ 24) (w:A2):
 (T2 t len parts).run P w= .ok (.slice (some ⟨w.heap.size,0,none⟩) len len) (w.alloc (.cells cs e)):=by
 have h: ¬ len*i.size>2 ^ 24:=by omega
 have a:Hq (λk=>some (k*i.size,i.size)) ((Array.range (len*i.size)).map ((if len*i.size=0 then #[] else z.cells)[· % (if len*i.size=0 then #[] else z.cells).size]!)) ps=some cs:=by
  rw[<-yE g];congr 1
  grind
 unfold T2;simp only[B2,bz c,B3,dj hi,h,newRow];by_cases b:len*i.size=0
 simp_all
 ·simp only[b,if_false] at a;simp only[b,if_false,zeroValue,B2,ft hi,B3,d,B4,f,a];simp
theorem cP {r:Option Nat} {ev:Operand->AC} {o:Oper} (h: ∀c,o.op≠ .defer c):o.semAt (WF r).round ev=execOp ev o:=Oper.semAt_eq _ _ _ h
variable {S:Nat->Option (Option AC)} {ops:Array Oper} {N:Nat} {D:List Deferred} {env:List bO} {a:Act}
def eM (o:Oper):Bool:=
 match o.op with
 | .alloc _| .box .. | .buildSlice .. | .makeSlice .. | .makeMap .. | .makeChan .. =>true
 | _=>false
def BR (C:dD P) (o:Oper):Bool:=
 match o.op with
 | .move _| .assign _| .pick .. | .alloc _| .box .. | .buildSlice .. | .makeSlice .. | .makeMap .. | .makeChan .. | .build .. | .load .. | .nilCheck _| .binOp .. | .unOp .. | .convert .. | .makeFunc .. | .slice .. | .fieldAddr .. | .field .. | .indexAddr .. | .index .. | .extract .. | .lookup .. =>false
 | .call c=>match c.callee with
   | .value (.func f)=> !((xY C.si f).isSome||C.quiet.contains f)
   | .builtin .len| .builtin .min| .builtin .max=>false
   | _=>true
 | _=>true
theorem PV {C:dD P} {ρ:Operand->Option AC} {o:Oper} (a: ∀f,ρ (.func f)=some (.func (.func f) #[] #[])) (h:BR C o=false) (b:Om C ρ o=true):eM o=true:=by
 grind[BR,Om,eM]
theorem Gz {P:B1} {ts:Array Aq} {ty t u d k:Aq} {kd:B5} {n:Int} {w:A2} {r:Nat} {es:Array Dj} {e:Nat} {K:A2->Prop} (l:ts= #[t,u]) (f:P.underlying t=some (.map d k)) (a:P.underlying d=some (.int kd)) (hb:bD w r es e)
 (h:z9 w r kd n es e K): ∃g,(N7 ts ty #[.map (some r),.int kd n]).run P w= .ok (.tuple #[]) g/\K g:=by
 subst l;have b:=hb;have j:Hb (.int kd) (.int kd n):=by rfl
 unfold z9 at h;split at h
 ·rename_i c;refine⟨_,?_,h⟩;simp[N7,run_underlying f,Dg b,Dq a j,Dr a c,Hh _ b,Fw]
 ·rename_i i v c;refine⟨_,?_,h⟩;simp[N7,run_underlying f,Dg b,Dq a j,Dr a c,Hh _ b,Dk,Fw]
 grind
theorem Y7 {r:Option Nat} {o:Oper} {w w':A2} {K:AC->A2->Prop} {next:Act->A2->Prop} {Q:Exit->Act->A2->Prop} (A:Fit S ops N D env a)
 {C:dD P} (h:eop C (xL env []) o w K) (I:Ext w w') (G: ∀v H,K v H->(eM o=true->Ext w' H)->next (a.put o.dst v) H):o.wpIn (WF r) 0 P a w' next Q:=by
 have hc:jS ops a.tmps []:=λx g=>by cases g
 refine⟨λ_ _=>trivial,?_⟩;obtain⟨dst,op,type,pos,after,guard⟩:=o;unfold eop at h;cases op<;>simp only at h<;>(try exact AI h)
 case store t x y=>
  rw[cP (by simp)];split at h
  ·rename_i p v i g hy hi;split at h
   ·rename_i R;obtain⟨⟨ho,a0,hp,Y8⟩,B⟩:=h w' I;subst hp;have gW:v.cells.size=i.size:=by simpa[uS] using R
    have vj:=jd (P:=P) (uS v) a0 0 w' ho (λj hj=>by simpa using Y8 j hj);have:(execOp a.eval ⟨dst,.store t x y,type,pos,after,guard⟩).run P w'= .ok .skip (js w' (some a0) (uS v)):=by
     simp only[execOp,Instr.storeAt,A.ev hc g,A.ev hc hy,I1,storeVar,B2,B4,B3,dj hi,gW,ne_eq,not_true,if_false];rw[show v.cells.toList=uS v from rfl,vj];rfl
    rw[this];exact G _ _ B (λE=>by simp[eM] at E)
   ·exact AI h
  ·exact AI h
 case mapUpdate t m x v=>
  rw[cP (by simp)];split at h
  ·rename_i kt T p kd n val J U g hv;split at h
   ·rename_i kd' V;split at h
    ·rename_i W;subst W;obtain⟨r,es,M,rfl,hb,X⟩:=h w' I;obtain⟨H,dM,B⟩:=AO J V hb X;have:(execOp a.eval ⟨dst,.mapUpdate t m x v,type,pos,after,guard⟩).run P w'= .ok .skip H:=by
      simp only[execOp,B2,A.ev hc U,A.ev hc g,A.ev hc hv,dM,B3,B4]
     rw[this];exact G _ _ B (λE=>by simp[eM] at E)
    ·exact AI h
   ·exact AI h
  ·exact AI h
 case insert t m x v=>
  rw[cP (by simp)];split at h
  ·rename_i kt T p kd n val J U g hv;split at h
   ·rename_i kd' V;split at h
    ·rename_i W;subst W;obtain⟨r,es,M,rfl,hb,X⟩:=h w' I;obtain⟨H,dM,B⟩:=AO J V hb X;have:(execOp a.eval ⟨dst,.insert t m x v,type,pos,after,guard⟩).run P w'= .ok .skip H:=by
      simp only[execOp,B2,A.ev hc U,A.ev hc g,A.ev hc hv,dM,B3,B4]
     rw[this];exact G _ _ B (λE=>by simp[eM] at E)
    ·exact AI h
   ·exact AI h
  ·exact AI h
 case alloc e=>
  rw[cP (by simp)];split at h
  ·rename_i i hi;split at h
   ·rename_i z O;have h:aM w z.cells e (λb H=>K (.pointer (some ⟨b,0,none⟩)) H):=by
     have e1:Yq P e=z.cells:=by unfold Yq;simp only[hi,O]
     split at h
     ·rw[e1] at h;exact h
     ·exact h
    have B:=h w' I;have:(execOp a.eval ⟨dst,.alloc e,type,pos,after,guard⟩).run P w'= .ok (.value (.pointer (some ⟨w'.heap.size,0,none⟩))) (w'.alloc (.cells z.cells e)):=by
     simp[execOp,Instr.alloc,zeroValue,ft hi,O,newVar,newRow]
    rw[this];exact G _ _ B (λ_=>Ext.alloc _ _)
   ·exact AI h
  ·exact AI h
 case box e x=>
  rw[cP (by simp)];split at h
  ·rename_i v hv;have B:=h w' I;have:(execOp a.eval ⟨dst,.box e x,type,pos,after,guard⟩).run P w'= .ok (.value (.pointer (some ⟨w'.heap.size,0,none⟩))) (w'.alloc (.cells v.cells e)):=by
    simp[execOp,Instr.box,A.ev hc hv,newVar,newRow]
   rw[this];exact G _ _ B (λ_=>Ext.alloc _ _)
  ·exact AI h
 case buildSlice t len parts=>
  rw[cP (by simp)];split at h
  ·rename_i el ps J Tw;split at h
   ·rename_i i hi;split at h
    ·rename_i z O;split at h
     ·rename_i cs e9;split at h
      ·rename_i hlen;have B:=h w' I;have e:=yF (λx v g=>A.ev hc g) Tw;have e':(parts.map λ(i,x)=>(i,a.eval x)).toList=ps:=by rw[<-e];simp
       have dM:=zL (P:=P) J hi O e' e9 hlen w';have:(execOp a.eval ⟨dst,.buildSlice t len parts,type,pos,after,guard⟩).run P w'= .ok (.value (.slice (some ⟨w'.heap.size,0,none⟩) len len)) (w'.alloc (.cells cs el)):=by
        simp only[execOp,B2,dM,B3,B4]
       rw[this];exact G _ _ B (λ_=>Ext.alloc _ _)
      ·exact AI h
     ·exact AI h
    ·exact AI h
   ·exact AI h
  ·exact AI h
 case makeSlice t l c=>
  rw[cP (by simp)];split at h
  ·rename_i el k n k' m J hl BI;split at h
   ·rename_i i hi;split at h
    ·rename_i z O;obtain⟨jI,B⟩:=h w' I;have dM:=run_makeSlice (P:=P) J hi O k k' jI w';have:(execOp a.eval ⟨dst,.makeSlice t l c,type,pos,after,guard⟩).run P w'= .ok (.value (.slice (some ⟨w'.heap.size,0,none⟩) n.toNat m.toNat)) (w'.alloc (.cells (nC z.cells (m.toNat*i.size)) el)):=by
      simp only[execOp,A.ev hc hl,A.ev hc BI,B2,dM,B3,B4]
     rw[this];exact G _ _ B (λ_=>Ext.alloc _ _)
    ·exact AI h
   ·exact AI h
  ·exact AI h
 case makeMap t rs=>
  rw[cP (by simp)];split at h
  ·have B:=h w' I;have:(execOp a.eval ⟨dst,.makeMap t none,type,pos,after,guard⟩).run P w'= .ok (.value (.map (some w'.heap.size))) (w'.alloc (.map #[] 0)):=by
    simp[execOp,Instr.makeMap]
   rw[this];exact G _ _ B (λ_=>Ext.alloc _ _)
  ·exact AI h
 case makeChan t sz=>
  rw[cP (by simp)];split at h
  ·rename_i d e k n J R;split at h
   ·rename_i i hi;split at h
    ·rename_i hn;have B:=h w' I;have hb: ¬ (n<0\/n>FP.max\/i.bytes*n>2 ^ 48 - 112):=by
      have:FP.max=9223372036854775807:=by decide
      omega
     have:(execOp a.eval ⟨dst,.makeChan t sz,type,pos,after,guard⟩).run P w'= .ok (.value (.chan (some w'.heap.size))) (w'.alloc (.chan n.toNat #[] false 0 0 false)):=by
      have sg: ¬ (n<0\/9223372036854775807<n\/281474976710544<(i.bytes:Int)*n):=by omega
      simp[execOp,Instr.makeChan,A.ev hc R,asInt,asIntOf,run_underlying J,ft hi];exact λc=>absurd c sg
     rw[this];exact G _ _ B (λ_=>Ext.alloc _ _)
    ·exact AI h
   ·exact AI h
  ·exact AI h
 case range xt x=>
  rw[cP (by simp)];split at h
  ·rename_i kt T p J g;obtain⟨r,es,M,rfl,hb,B⟩:=h w' I;have sg:w'.heap[r]? =some (.map es M):=hb;have:(execOp a.eval ⟨dst,.range xt x,type,pos,after,guard⟩).run P w'= .ok (.value (.pointer (some ⟨w'.heap.size,0,none⟩))) (w'.alloc (.mapIter (some r) M #[] M)):=by
    simp[execOp,Instr.range,A.ev hc g,run_underlying J,Dg sg,Dk]
   rw[this];exact G _ _ B (λE=>by simp[eM] at E)
  ·exact AI h
 case next it b=>
  rw[cP (by simp)];split at h
  ·rename_i p g;obtain⟨r,m,since,seen,last,es,M,rfl,hr,hb,wD,hold,k0,k1⟩:=h w' I;rcases run_next_at (P:=P) w' type r m since last seen es M hr hb hold wD with ⟨h0,dM⟩|⟨e,L,w1,wE,dM⟩
   ·have:(execOp a.eval ⟨dst,.next it false,type,pos,after,guard⟩).run P w'= .ok (.value (.tuple ⟨[.bool false]⟩)) w':=by
     simp only[execOp,B2,A.ev hc g,dM,B3,B4]
    rw[this];refine G _ _ (k0 (λe L=>?_) w' (Ext.refl _)) (λE=>by simp[eM] at E);unfold leftOf at h0;have h1:=Array.eq_empty_of_size_eq_zero h0;rw[Array.filter_eq_empty_iff] at h1;simpa using h1 e (by simpa using L)
   ·have:(execOp a.eval ⟨dst,.next it false,type,pos,after,guard⟩).run P w'= .ok (.value (.tuple ⟨[.bool true,e.key,e.val]⟩)) (w1.putObj r (.mapIter (some m) since (seen.push e.born) M)):=by
     simp only[execOp,B2,A.ev hc g,dM,B3,B4];rfl
    rw[this];unfold leftOf at L;have jH:e∈es.toList/\seen.contains e.born=false:=by simpa using L
    refine G _ _ (k1 e jH.1 jH.2 w1 ?_) (λE=>by simp[eM] at E);rcases wE with rfl|rfl
    ·exact Ext.refl _
    ·exact⟨rfl,rfl,rfl,Dx _,λk B=>rfl⟩
  ·exact AI h
 case call c=>
  obtain⟨callee,args,ts⟩:=c;rw[cP (by simp)];simp only at h;split at h
  ·
   split at h
   ·rename_i m x t u Oo aai;split at h
    ·rename_i kt T p kd n J U g;split at h
     ·rename_i kd' V;split at h
      ·rename_i W;subst W;obtain⟨r,es,M,rfl,hb,X⟩:=h w' I;have Y:args= #[m,x]:=by cases args;simp_all
       have et':ts= #[t,u]:=by cases ts;simp_all
       obtain⟨H,dM,B⟩:=Gz (P:=P) (ty:=type) et' J V hb X;have:(execOp a.eval ⟨dst,.call ⟨.builtin .delete,args,ts⟩,type,pos,after,guard⟩).run P w'= .ok (.value (.tuple ⟨[]⟩)) H:=by
        subst Y;simp only[execOp,resolve,B2,B4,B3,invoke,builtin,Gj,H4,H5,A.ev hc U,A.ev hc g,dM]
       rw[this];exact G _ _ B (λE=>by simp[eM] at E)
      ·exact AI h
     ·exact AI h
    ·exact AI h
   ·exact AI h
  ·
   split at h
   ·rename_i s x t u Oo aai;split at h
    ·rename_i e ue p n m q k l J hu' R g;split at h
     ·rename_i i hi;split at h
      ·rename_i z O;split at h
       ·exact AI h
       ·rename_i hb;have Tz:=h w' I;have Y:args= #[s,x]:=by cases args;simp_all
        have T:ts= #[t,u]:=by cases ts;simp_all
        obtain⟨res,H,dM,Z⟩:=Gy (P:=P) (ty:=type) T J hu' hi O hb Tz;have:(execOp a.eval ⟨dst,.call ⟨.builtin .append,args,ts⟩,type,pos,after,guard⟩).run P w'= .ok (.value (.slice res.1 res.2.1 res.2.2)) H:=by
         subst Y;simp only[execOp,resolve,B2,B4,B3,invoke,builtin,Gj,H4,H5,A.ev hc R,A.ev hc g,dM]
        rw[this];exact G _ _ Z (λE=>by simp[eM] at E)
      ·exact AI h
     ·exact AI h
    ·exact AI h
   ·exact AI h
  ·
   split at h
   ·rename_i s x t u Oo aai;split at h
    ·rename_i e p n m q k l J R g;split at h
     ·rename_i i hi;have Tz:=h w' I;have Y:args= #[s,x]:=by cases args;simp_all
      have T:ts= #[t,u]:=by cases ts;simp_all
      obtain⟨res,H,dM,Z⟩:=PU (P:=P) (ty:=type) (m:=m) (l:=l) T J hi Tz;have:(execOp a.eval ⟨dst,.call ⟨.builtin .copy,args,ts⟩,type,pos,after,guard⟩).run P w'= .ok (.value (.int .i64 res)) H:=by
       subst Y;simp only[execOp,resolve,B2,B4,B3,invoke,builtin,Gj,H4,H5,A.ev hc R,A.ev hc g,dM]
      rw[this];exact G _ _ Z (λE=>by simp[eM] at E)
     ·exact AI h
    ·exact AI h
   ·exact AI h
  ·rename_i f;split at h
   ·
    rename_i s t;split at h
    ·rename_i v acU hf has;obtain⟨fS,first,cap,rfl,rb,B⟩:=h w' I;have dM:=tr (P:=P) (dst:=dst) (type:=type) (pos:=pos) (after:=after) (guard:=guard) (ts:=ts) (A.ev hc hf) (l5 (λx v g=>A.ev hc g) has) (w:=w') rb;rw[dM];refine⟨by simp[WF,E4],?_⟩;refine(jF (n:=0 - 1)).2 ?_;refine Fm B λe H ⟨x,L,g⟩=>?_;subst L;exact G _ _ g (λE=>by simp[eM] at E)
    ·exact AI h
   rename_i f _ _ _;split at h
   ·
    rename_i l first cp acU hf has
    obtain⟨rec,Aa,hlen,Y9⟩:=h w' I;have e:(first++args.map a.eval:Array AC)=⟨first.toList++acU⟩:=by
     have:=l5 (λx v g=>A.ev hc g) has;rw[<-this];obtain⟨l1⟩:=first;obtain⟨l2⟩:=args
     simp
    have dM:=run_yield (P:=P) (args:=⟨first.toList++acU⟩) Aa (by simpa using hlen);have:(execOp a.eval ⟨dst,.call ⟨.value f,args,ts⟩,type,pos,after,guard⟩).run P w'= .ok (.round l rec.fn ((rec.params.zip ⟨first.toList++acU⟩).foldl (λtmps (t,a)=>tmps.setIfInBounds t a) rec.tmps) rec.assign rec.body) w':=by
     simp only[execOp,resolve,Deferred.ofValue,A.ev hc hf,B2,B4,B3,invoke];rw[e,dM]
    rw[this];refine⟨by simp[WF,E4],?_⟩;refine RoundIn.mono (F:=WF r) (n:=0 - 1) Y9 λe H ⟨b,L,Z⟩=>?_;subst L;exact G _ _ Z (λE=>by simp[eM] at E)
   ·rename_i fS first cap acU hf has
    split at h
    ·rename_i rb;have B:=h w' I;have dM:=tr (P:=P) (dst:=dst) (type:=type) (pos:=pos) (after:=after) (guard:=guard) (ts:=ts) (A.ev hc hf) (l5 (λx v g=>A.ev hc g) has) (w:=w') rb;rw[dM];refine⟨by simp[WF,E4],?_⟩;refine(jF (n:=0 - 1)).2 ?_;refine Fm B λe H ⟨x,L,g⟩=>?_;subst L;exact G _ _ g (λE=>by simp[eM] at E)
    ·exact AI h
   ·exact AI h
  ·exact AI h
theorem AP {o:Oper} {c:Call} (b:o.op= .defer c) {w:A2} {v:AC} (h:di P o a w v):False:=by
 obtain⟨dst,op,type⟩:=o;unfold di execOp at h
 simp_all
 generalize (resolve _ c type).run P w=res at h;cases res<;>simp at h
def Wr (S:Nat->Option (Option AC)) (ops:Array Oper):Prop:= ∀o∈ops, ∀k,o.dst=some k->S k=none
theorem CO {α:Type} {l:List α} (h:l.getLast?=none):l=[]:=List.getLast?_eq_none_iff.1 h
theorem yH {r:Option Nat} {C:dD P} {i:Nat} {o:Oper} {Q:Exit->Act->A2->Prop} (y:ops[i]? =some o) (l: ∀k,o.dst=some k->S k=none):
 ∀(n:Nat) (env:List bO) (w w':A2) (K:List bO->A2->Prop),Fit S ops N D env a->N2 C ops N o n env w K->Ext w w'->
 wpOpIn (WF r) 0 P ops Q i (λa1 w1=>(BR C o=false->Ext w' w1)/\ ∃cX H,K cX H/\Fit S ops N D cX a1/\Ext H w1) a w'
 |0, _, _, _, _, _,h, _=>AI h
 |n+1,env,w,w',K,b,h,j=>by
  simp only[N2,nE,jC] at h;split at h
  ·exact AI h
  ·rename_i E;have z:=Cr b E;split at h
   ·rename_i s;unfold wpOpIn;simp only[y];rw[if_neg (by rw[z];simp)];exact⟨λ_ _=>trivial,λ_=>Ext.refl _, _,w,h,b.put s l rfl (λ_=>rfl) (λm=>absurd dZ m),j⟩
   ·exact AI h
  ·rename_i ch g E;obtain⟨A,z⟩:=On b E;split at h
   ·rename_i s;split at h
    ·rename_i L;split at h
     ·rename_i M;have:ch=[]:=CO M;subst this;unfold wpOpIn;simp only[y];rw[if_pos (z.2 dZ)];refine Y7 b h j λv F p q=>⟨λO=>q (PV (C:=C) (ρ:=xL env []) (λ_=>rfl) O L), _,F,p,?_,Ext.refl _⟩;exact b.put s l rfl (λ_=>rfl) (λm=>absurd dZ m)
     ·split at h
      ·rename_i d I;split at h
       ·rename_i e B;split at h
        ·rename_i x q;split at h
         ·rename_i R;have J:e.ch=[]:=by simpa using R
          cases x with
          |true=>exact yH y l n _ w w' K (b.settle I B J q) h j
          |false=>exact yH y l n _ w w' K (b.settle I B J q) h j
         ·exact AI h
        ·exact AI h
       ·exact AI h
      ·exact AI h
    ·obtain⟨v,p,T⟩:=yw b A h;replace p:=rR p;unfold wpOpIn;simp only[y];by_cases hc:jS ops a.tmps ch
     ·rw[if_pos (z.2 hc)];have t:=T hc w' j;have U: ∀c,o.op≠ .defer c:=by
       intro c V;exact AP V t
      refine⟨λ_ _=>trivial,?_⟩;rw[cP U];unfold di at t;split at t
      ·rename_i u F dM;obtain⟨rfl,rfl⟩:=t;rw[dM];exact⟨λ_=>Ext.refl _, _,w,p,b.put s l A (λ_=>rfl) (λm=>absurd hc m),j⟩
      ·rename_i f args F dM;obtain⟨rfl,W⟩:=t;rw[dM];refine⟨by simp[WF,E4],(jF (n:=0 - 1)).2 ?_⟩;refine Fm W λe X ⟨B,q⟩=>?_;subst B;exact⟨λ_=>q, _,w,p,b.put s l A (λ_=>rfl) (λm=>absurd hc m),j.trans q⟩
      ·exact t.elim
     ·rw[if_neg (λG=>hc (z.1 G))];exact⟨λ_ _=>trivial,λ_=>Ext.refl _, _,w,p,b.put s l A (λG=>absurd G hc) (λ_=>rfl),j⟩
   ·exact AI h
theorem D5 {r:Option Nat} {C:dD P} {i:Nat} {w w':A2} {K:List bO->A2->Prop} {Q:Exit->Act->A2->Prop} (c:Wr S ops) (d:Fit S ops N D env a)
 (h:FG C ops N i env w K) (e:Ext w w'):wpOpIn (WF r) 0 P ops Q i (λa1 w1=>(((ops[i]?).map (BR C)).getD true=false->Ext w' w1)/\ ∃cX b,K cX b/\Fit S ops N D cX a1/\Ext b w1) a w':=by
 unfold FG at h;cases f:ops[i]? with
 |none=>grind
 |some o=>
  simp_all
  have:=yH (r:=r) (Q:=Q) f (c o (by grind)) _ env w w' K d h e;omega
theorem OS {r:Option Nat} {C:dD P} {Q:Exit->Act->A2->Prop} (e:Wr S ops): ∀(l:List Nat) (env:List bO) (a:Act) (w w':A2) (K:List bO->A2->Prop),Fit S ops N D env a->
 rxL C ops N l env w K->Ext w w'->(∀env a w w',K env w->Fit S ops N D env a->Ext w w'->Q .normal a w')->wpOpsIn (WF r) 0 P ops Q l a w'
 |[],env,a,w,w',K,b,h,c,d=>d env a w w' h b c
 |i::l,env,a,w,w',K,b,h,c,d=>by
  exact wpOpIn_mono (λa1 w1 ⟨_,cX,f,g,j,k⟩=>OS e l cX a1 f w1 K j g k d) (D5 e b h c)
variable {P:B1}
def mn (r:Option Nat) (P:B1) (ops:Array Oper) (Q:Exit->Act->A2->Prop) (H_:Nat->Bool) (T:Nat->A2->Prop):Nat->Array Bool->Act->A2->Prop
 |0,b,a,w=> ∀w',Ext w w'->B7 .any ops b=[]/\Q .normal a w'
 |fuel+1,b,a,w=> ∀w',Ext w w'->(B7 .any ops b=[]->Q .normal a w')/\
  ∀i∈B7 .any ops b,wpOpIn (WF r) 0 P ops Q i (λa1 w1=>(H_ i=false->Ext w' w1)/\(H_ i=true->T i w1)/\mn r P ops Q H_ T fuel (b.setIfInBounds i true) a1 w1) a w'
section
variable {r:Option Nat} {ops:Array Oper} {Q:Exit->Act->A2->Prop} {H_:Nat->Bool} {T:Nat->A2->Prop}
theorem nP {b:Nat} {c:Array Bool} {a:Act} {w w':A2} (h:mn r P ops Q H_ T b c a w) (d:Ext w w'):mn r P ops Q H_ T b c a w':=by
 cases b with
 |zero
 |succ=>exact λe f=>h e (d.trans f)
theorem zh: ∀(fuel:Nat) (b:Array Bool) (a:Act) (w:A2),mn r P ops Q H_ T fuel b a w->wpAnyIn (WF r) 0 P .any ops Q fuel b a w
 |0, _, _,w,h=>h w (Ext.refl w)
 |fuel+1, _, _,w,h=>⟨(h w (Ext.refl w)).1,λi hi=>wpOpIn_mono (λa1 w1 c=>zh fuel _ a1 w1 c.2.2) ((h w (Ext.refl w)).2 i hi)⟩
theorem pA {T T':Nat->A2->Prop} (e: ∀j w,T' j w->T j w): ∀(fuel:Nat) (b:Array Bool) (a:Act) (w:A2),mn r P ops Q H_ T' fuel b a w->mn r P ops Q H_ T fuel b a w
 |0, _, _, _,h=>h
 |fuel+1, _, _, _,h=>λw' c=>⟨(h w' c).1,λi hi=>wpOpIn_mono (λa1 w1 d=>⟨d.1,by grind,pA e fuel _ a1 w1 d.2.2⟩) ((h w' c).2 i hi)⟩
def fM (P:B1) (ops:Array Oper) (o:Oper) (v:AC) (a:Act) (w:A2):Prop:=
 (Bx o (yielded ops a.tmps)=true/\ ∀w',Ext w w'->di P o a w' v)\/
 (Bx o (yielded ops a.tmps)=false/\v=undef)
theorem fM.of_same {o:Oper} {v:AC} {a a':Act} {w:A2} (b:fM P ops o v a w) (c:execOp a'.eval o=execOp a.eval o)
 (d:Bx o (yielded ops a'.tmps)=Bx o (yielded ops a.tmps)):fM P ops o v a' w:=by grind[fM,di]
theorem fM.op {i:Nat} {o:Oper} {v:AC} {a:Act} {w w':A2} (hi:ops[i]? =some o) (d:fM P ops o v a w) (g:Ext w w') {K:Act->A2->Prop}
 (h: ∀w1,Ext w' w1->K (a.put o.dst v) w1):wpOpIn (WF r) 0 P ops Q i K a w':=by
 unfold wpOpIn;simp only[hi];rcases d with ⟨j,k⟩
 ·rw[if_pos j];have b:=k w' g;refine⟨λ_ _=>trivial,?_⟩;rw[cP (λc l=>AP l b)];unfold di at b;split at b
  ·rename_i u m dM;obtain⟨rfl,rfl⟩:=b;rw[dM];exact h _ (Ext.refl _)
  ·rename_i f args m dM;obtain⟨rfl,p⟩:=b;rw[dM];refine⟨by simp[WF,E4],(jF (n:=0 - 1)).2 ?_⟩;refine Fm p λe q=>?_
   grind
  ·exact b.elim
 ·simp_all
  exact⟨λ_ _=>trivial,h _ (Ext.refl _)⟩
def yx (ops:Array Oper) (o:Oper) (a a0:Act):Prop:=execOp a.eval o=execOp a0.eval o/\Bx o (yielded ops a.tmps)=Bx o (yielded ops a0.tmps)
theorem Kp {j:Nat} {g k:Oper} {v:AC} {a0:Act} (t:ops[j]? =some k) (y:g.apart ops k=true)
 (z: ∀cs b,g.op≠ .select cs b) (A: ∀cs b,k.op≠ .select cs b) (p: ∀c,k.op≠ .defer c)
 (C: ∀c a w,¬ Q (.panic c) a w) {K:Act->A2->Prop} {a:Act} {w':A2}
 (i:yx ops g a a0) (h:wpOpIn (WF r) 0 P ops Q j K (a.put g.dst v) w'):
 wpOpIn (WF r) 0 P ops Q j (λa1 w1=>yx ops g a1 a0/\K (a1.put g.dst v) w1) a w':=by
 obtain⟨h1,m,q⟩:=Oper.apart_spec y;have dn: ∀(a:Act),yx ops g a a0-> ∀u,yx ops g (a.put k.dst u) a0:=λa i u=>
  ⟨(execOp_put g z a k.dst u q).trans i.1,(wanted_put g a k.dst u q).trans i.2⟩
 unfold wpOpIn at*
 simp only[t] at*
 rw[wanted_put k a g.dst v h1] at h;split
 ·rename_i o;simp only[o,if_true] at h;refine⟨λ_ _=>trivial,?_⟩;have h:=h.2;rw[cP p,execOp_put k A a g.dst v h1] at h;rw[cP p];generalize (execOp a.eval k).run P w'=res at*
  cases res with
  |ok x B=>
   cases x<;>simp only[Oper.uponIn] at h ⊢
   case value u=>exact⟨dn a i u,by rw[<-FE a v u m];exact h⟩
   case skip=>exact⟨dn a i _,by rw[<-FE a v undef m];exact h⟩
   case defer d=>
    refine⟨dn ({a with defers:=d::a.defers}:Act) ⟨i.1,i.2⟩ undef,?_⟩;rw[<-FE _ v undef m, <-Act.put_defers];exact h
   case enter f args=>
    refine⟨h.1,CallsIn.mono h.2 λe s n=>?_⟩;cases e with
    |returned u=>exact⟨dn a i u,by rw[<-FE a v u m];exact n⟩
    |panicked c=>grind
    |outgrown=>exact n
   case row row args=>exact⟨h.1,RowsIn.mono h.2 λu s n=>⟨dn a i u,by rw[<-FE a v u m];exact n⟩⟩
   case round l f tmps assign body=>
    refine⟨h.1,RoundIn.mono h.2 λe s n=>?_⟩;cases e with
    |returned u=>exact⟨dn a i u,by rw[<-FE a v u m];exact n⟩
    |panicked c=>simp_all
    |outgrown=>exact n
  |halt x B=>
   cases x<;>simp only[Oper.uponIn] at h ⊢
   grind
 ·rename_i o;simp only[o] at h;exact⟨λ_ _=>trivial,dn a i _,by rw[<-FE a v undef m];exact h.2⟩
def mfO (o:Oper):Bool:=match o.op with
 | .move _=>true
 | .assign _=>true
 | .extract .. =>true
 | _=>false
theorem fM.mf {o:Oper} {v:AC} {a:Act} {w w1:A2} (g:mfO o=true) (f:fM P ops o v a w):fM P ops o v a w1:=by
 obtain⟨dst,op,type,pos,after,guard⟩:=o;cases op with
 |move x
 |assign x=>
  rcases f with ⟨b,c⟩|d
  ·refine .inl ⟨b,λh _=>?_⟩;have:=c w (Ext.refl w);simp only[di,execOp,B4] at this ⊢;omega
  ·exact .inr d
 |extract x k=>
  rcases f with ⟨b,c⟩|d
  ·refine .inl ⟨b,λh _=>?_⟩;have:=c w (Ext.refl w);cases e:a.eval x with
   |tuple vs=>
    cases hv:vs[k]? with
    |none=>simp[di,execOp,ID,e,hv] at this
    |some u=>
     simp only[di,execOp,ID,e,hv,B2,B4,B3] at this ⊢;omega
   | _=>simp[di,execOp,ID,e] at this
  ·exact .inr d
 | _=>cases g
theorem tR {i:Nat} {g:Oper} {v:AC} {W:Nat->Bool} {T T':Nat->A2->Prop} {a0:Act} (hi:ops[i]? =some g) (J:H_ i=false) (D: ∀(j:Nat) (o:Oper),ops[j]? =some o->(∀cs b,o.op≠ .select cs b)/\ ∀c,o.op≠ .defer c)
 (R: ∀c a w,¬ Q (.panic c) a w) (E: ∀j w,T' j w->T j w):
 ∀(t:Nat) (d:Array Bool) (a:Act) (w:A2),
  (∀j m,ops[j]? =some m->j≠i->d.getD j true=false->W j=false->g.apart ops m=true/\(H_ j=false\/mfO g=true\/ ∀w1,T' j w1->fM P ops g v a0 w1))->
  (∀j,W j=true->d.getD j true=false/\ ∃m,ops[j]? =some m/\ ∃e∈m.after,Do .any e=true/\(e.on=i\/W e.on=true))->
  i∈B7 .any ops d->yx ops g a a0->fM P ops g v a0 w->
  mn r P ops Q H_ T' t (d.setIfInBounds i true) (a.put g.dst v) w->mn r P ops Q H_ T (t+1) d a w:=by
 have nil: ∀(d:Array Bool),i∈B7 .any ops d->B7 .any ops d≠[]:=λl K h=>by rw[h] at K;cases K
 intro t
 induction t with
 |zero=>
  intro d a w _ _ u s x H w' n;refine⟨λh=>absurd h (nil d u),λj y=>?_⟩;by_cases p:j=i
  ·subst p;refine(x.of_same s.1 s.2).op hi n λw1 h1=>⟨λ_=>h1,(λf=>by rw[J] at f;cases f),pA E _ _ _ _ (nP H (n.trans h1))⟩
  ·have:=ready_mono y p;rw[(H w' n).1] at this;cases this
 |succ t S=>
  intro d a w L U u s x H w' n;refine⟨λh=>absurd h (nil d u),λj y=>?_⟩;by_cases p:j=i
  ·subst p;refine(x.of_same s.1 s.2).op hi n λw1 h1=>⟨λ_=>h1,(λf=>by rw[J] at f;cases f),pA E _ _ _ _ (nP H (n.trans h1))⟩
  ·have h1:=(H w' n).2 j (ready_mono y p);obtain⟨M,m,z,mC⟩:=mem_ready.1 y;have acK:=(mem_ready.1 u).1;have F:W j=false:=by
    grind
   obtain⟨V,q⟩:=L j m z p M F;have G:=Kp z V (D i g hi).1 (D j m z).1 (D j m z).2 R s h1;refine wpOpIn_mono (λa1 w1 X=>?_) G;obtain⟨Y,N,O,I⟩:=X;refine⟨N,λf=>E _ _ (O f),?_⟩;refine S (d.setIfInBounds j true) a1 w1 ?_ ?_ (ready_mono u (Ne.symm p)) Y ?_ ?_
   ·intro k ok I Z A B;refine L k ok I Z ?_ B;by_cases C:j=k
    ·subst C;exact M
    ·rw[getD_set_ne true C] at A;exact A
   ·intro k B;obtain⟨A,rest⟩:=U k B;refine⟨?_,rest⟩;have C:j≠k:=λe=>by rw[e,B] at F;cases F
    rw[getD_set_ne true C];exact A
   ·have fI:Ext w' w1->fM P ops g v a0 w1:=λoC=>by
     have hww:=n.trans oC;rcases x with ⟨wE,hq1⟩|hn
     ·exact .inl ⟨wE,λw2 G=>hq1 w2 (hww.trans G)⟩
     ·exact .inr hn
    cases f:H_ j with
    |false=>exact fI (N f)
    |true=>
     rcases q with q|q|q
     ·rw[q] at f;cases f
     ·exact x.mf q
     ·exact q w1 (O f)
   ·rw[Array.setIfInBounds_comm _ _ p];exact I
end
def aak (C:dD P) (ops:Array Oper) (N:Nat) (o:Oper) (env:List bO) (w:A2) (K:List bO->Prop):Prop:=
 match gd ops env o with
 |none=>dp 41 o.op
 |some none=>if oN ops N env [] o.dst then wQ env o.dst [] none undef K else dp 42 o.op
 |some (some (ch,g))=>
  if oN ops N env ch o.dst then oA C ops env ch g o w (λv=>yq C o v (λv=>wQ env o.dst ch g v K)) else dp 43 o.op
def rxQ (C:dD P) (ops:Array Oper) (N:Nat) (i:Nat) (env:List bO) (w:A2) (K:List bO->Prop):Prop:=
 match ops[i]? with
 |none=>False
 |some ⟨dst,op,type,pos,after,guard⟩=>aak C ops N ⟨dst,op,type,pos,after,guard⟩ env w K
def Yu {P:B1} (C:dD P) (ops:Array Oper) (env:List bO) (ch:List (Nat×Bool)) (g:Option Bool) (o:Oper) (w:A2) (K:(A2->Prop)->AC->Prop):Prop:=
 let ρ:=xL env ch
 match o.op with
 | .load t x=>match ρ x,elC C t,P.info? t with
   |some (.pointer p),some el,some i=>if pO el i.size=true then dp 61 o.op else aj w g p el (λx=>K (λw=>gu g (cC w p el x)) (el.gR x))
   | _, _, _=>dp 62 o.op
 | .entry _=>dp 63 o.op
 | .lookup r m ix ok=>match ok,P.underlying r,ρ m,ρ ix with
   |false,some (.map h d),some (.map p),some (.int k n)=>match P.underlying h,uI P d,P.info? d with
    |some (.int j),some el,some i=>match i.zero with
     |some z=>if k=j then∃x:el.T,gu g (jM w p k n z (el.gR x))/\K (λw=>gu g (jM w p k n z (el.gR x))) (el.gR x) else dp 61 o.op
     |none=>dp 62 o.op
    | _, _, _=>dp 63 o.op
   |true,some (.map h d),some (.map p),some (.int k n)=>match P.underlying h,uI P d,P.info? d with
    |some (.int j),some el,some i=>match i.zero with
     |some z=>if k=j then∃x:el.T, ∃b:Bool,gu g (mm w p k n z (el.gR x) b)/\K (λw=>gu g (mm w p k n z (el.gR x) b)) (.tuple ⟨[el.gR x,.bool b]⟩) else dp 61 o.op
     |none=>dp 62 o.op
    | _, _, _=>dp 63 o.op
   | _, _, _, _=>dp 64 o.op
 | .pick .. =>oA C ops env ch g o w (λv=>K (λ_=>True) v)
 | .call c=>match c.callee with
   | .value f=>match ρ f,maps ρ c.args.toList with
     |some (.func (.func a) first cap),some l=>
      if bJ P a=true then
       match xY C.si a with
       |some e=>match e.fn (cU first l cap) with
        |some (pre,v)=>gu g pre/\K (λ_=>True) v
        |none=>dp 64 o.op
       |none=> ∃x:(uD C a).T,gu g (af P a (cU first l cap) w ((uD C a).gR x))/\K (λw=>gu g (af P a (cU first l cap) w ((uD C a).gR x))) ((uD C a).gR x)
      else dp 65 o.op
     | _, _=>dp 66 o.op
   | .builtin .len=>match Cd P ρ c with
     |some p=> ∃n:Nat,gu g (TY w p n)/\K (λw=>gu g (TY w p n)) (.int .i64 n)
     |none=>match xm P ρ c with
      |some p=> ∃n:Nat,gu g (ChL w p n)/\K (λw=>gu g (ChL w p n)) (.int .i64 n)
      |none=>oA C ops env ch g o w (λv=>K (λ_=>True) v)
   | _=>oA C ops env ch g o w (λv=>K (λ_=>True) v)
 | .binOp .. =>match pop P ρ o with
   |some ⟨none,v⟩=>K (λ_=>True) v
   |some ⟨some p,v⟩=>gu g p/\K (λ_=>True) v
   |none=>match Cc P ρ o.op with
    |some (p,q)=>gu g (Xy w p q)/\K (λw=>gu g (Xy w p q)) (.bool (decide (p=q)))
    |none=>dp 67 o.op
 | _=>oA C ops env ch g o w (λv=>K (λ_=>True) v)
def UpC (p:A2->Prop):Prop:= ∀w w',p w->Ext w w'->p w'
theorem nF {g:Option Bool} {p:A2->Prop} (h:UpC p):UpC (λw=>gu g (p w)):=by
 intro w w' a b;cases g with
 |none=>exact h w w' a b
 |some=>exact λhb=>h w w' (a hb) b
def OT (op:Op):Bool:=match op with
 | .load .. =>false
 | .lookup .. =>false
 | .entry _=>false
 | .binOp .. =>false
 | .call c=>(match c.callee with| .value _=>false| .builtin .len=>false| _=>true)
 | _=>true
theorem Kq {C:dD P} {ops:Array Oper} {env:List bO} {ch:List (Nat×Bool)} {g:Option Bool} {o:Oper} {w:A2} {K:AC->Prop} (e:OT o.op=true)
 (h:oA C ops env ch g o w K): ∃v,K v/\ ∀i,oA C ops env ch g o i (λu=>u=v):=by
 obtain⟨dst,op,type,pos,after,guard⟩:=o;cases op with
 |load t x=>cases e
 |lookup a b c d=>cases e
 |entry a=>cases e
 |binOp op t x y j=>cases e
 |pick c x y=>
  unfold oA at h;simp only at h;unfold oA;simp only;split at h
  ·split at h
   ·split at h
    ·split at h
     ·exact⟨_,h,λ_=>rfl⟩
     ·exact h.elim
    ·split at h
     ·exact⟨_,h,λ_=>rfl⟩
     ·exact h.elim
    ·split at h
     ·split at h
      ·split at h
       ·exact⟨_,h,λ_=>rfl⟩
       ·exact⟨_,h,λ_=>rfl⟩
       ·exact⟨_,h,λ_=>rfl⟩
      ·exact h.elim
     ·exact h.elim
   ·exact h.elim
  ·exact h.elim
 |call c=>
  obtain⟨callee,args,ts⟩:=c;cases callee with
  |value f=>cases e
  |builtin b=>
   cases b with
   |len=>cases e
   | _=>
     unfold oA at h;simp only at h;unfold oA;simp only;split at h
     ·exact⟨_,h,λ_=>rfl⟩
     ·exact⟨_,h.2,λ_=>⟨h.1,rfl⟩⟩
     ·exact h.elim
  | _=>
    unfold oA at h;simp only at h;unfold oA;simp only;split at h
    ·exact⟨_,h,λ_=>rfl⟩
    ·exact⟨_,h.2,λ_=>⟨h.1,rfl⟩⟩
    ·exact h.elim
 | _=>
   unfold oA at h;simp only at h;unfold oA;simp only;split at h
   ·exact⟨_,h,λ_=>rfl⟩
   ·exact⟨_,h.2,λ_=>⟨h.1,rfl⟩⟩
   ·exact h.elim
theorem PW {C:dD P} {ops:Array Oper} {env:List bO} {ch:List (Nat×Bool)} {g:Option Bool} {o:Oper} {w:A2} {K:(A2->Prop)->AC->Prop} (h:Yu C ops env ch g o w K):
 ∃p v,K p v/\p w/\UpC p/\ ∀j,p j->oA C ops env ch g o j (λu=>u=v):=by
 obtain⟨dst,op,type,pos,after,guard⟩:=o;have st:OT op=true->oA C ops env ch g ⟨dst,op,type,pos,after,guard⟩ w (λv=>K (λ_=>True) v)->
  ∃p v,K p v/\p w/\UpC p/\ ∀j,p j->oA C ops env ch g ⟨dst,op,type,pos,after,guard⟩ j (λu=>u=v):=λS h=>by
  obtain⟨v,k,hv⟩:=Kq (o:=⟨dst,op,type,pos,after,guard⟩) S h;exact⟨_,v,k,trivial,λ_ _ _ _=>trivial,λj _=>hv j⟩
 unfold Yu at h;cases op with
 |load t x=>
  simp only at h;split at h
  ·rename_i p el i h1 A G;split at h
   ·exact h.elim
   ·rename_i hb;obtain⟨x',T,k⟩:=h;refine⟨_, _,k,T,nF λw w' d l=>tn l d,λj d=>?_⟩;unfold oA;simp only[h1,A,G,if_neg hb];exact⟨x',d,rfl⟩
  ·exact h.elim
 |entry a=>exact h.elim
 |lookup xt m ix ok=>
  simp only at h;split at h
  ·rename_i U V p kd n h1 A G;split at h
   ·rename_i W el X L M N;split at h
    ·rename_i z O;split at h
     ·rename_i Q;obtain⟨x,B,k⟩:=h;refine⟨_, _,k,B,nF λw w' d l=>?_,λj d=>?_⟩
      ·obtain⟨r,es,H,D,E,F⟩:=d;exact⟨r,es,H,D,l.obj E,F⟩
      ·unfold oA;simp only[h1,A,G,L,M,N,O,if_pos Q];exact⟨x,d,rfl⟩
     ·exact h.elim
    ·exact h.elim
   ·exact h.elim
  ·rename_i U V p kd n h1 A G;split at h
   ·rename_i W el X L M N;split at h
    ·rename_i z O;split at h
     ·rename_i Q;obtain⟨x,b,B,k⟩:=h;refine⟨_, _,k,B,nF λw w' d l=>?_,λj d=>?_⟩
      ·obtain⟨r,es,H,D,E,F⟩:=d;exact⟨r,es,H,D,l.obj E,F⟩
      ·unfold oA;simp only[h1,A,G,L,M,N,O,if_pos Q];exact⟨x,b,d,rfl⟩
     ·exact h.elim
    ·exact h.elim
   ·exact h.elim
  ·exact h.elim
 |call c=>
  obtain⟨callee,args,ts⟩:=c;cases callee with
  |value f=>
   simp only at h;split at h
   ·rename_i fS first cap acU h1 A
    split at h
    ·rename_i hc;split at h
     ·rename_i e R;split at h
      ·rename_i pre v Y;refine⟨_,v,h.2,trivial,λ_ _ _ _=>trivial,λj _=>?_⟩;unfold oA;simp only[h1,A,if_pos hc,R,Y];exact⟨h.1,trivial⟩
      ·exact h.elim
     ·rename_i R;obtain⟨x,B,k⟩:=h;refine⟨_, _,k,B,nF λw w' d l=>λj A=>d j (l.trans A),λj d=>?_⟩;unfold oA;simp only[h1,A,if_pos hc,R];exact⟨x,d,rfl⟩
    ·exact h.elim
   ·exact h.elim
  |builtin b=>
   cases b with
   |len=>
    simp only at h;split at h
    ·rename_i p d;obtain⟨n,B,k⟩:=h;refine⟨_, _,k,B,nF λw w' d l=>?_,λj I=>?_⟩
     ·obtain⟨r,es,H,D,E,F⟩:=d;exact⟨r,es,H,D,l.obj E,F⟩
     ·unfold oA;simp only[d];exact⟨n,I,rfl⟩
    ·rename_i d;split at h
     ·rename_i p J;obtain⟨n,B,k⟩:=h;refine⟨_, _,k,B,nF λw w' d l=>?_,λj I=>?_⟩
      ·obtain⟨r,cap,Z,s,m,D,E,F⟩:=d;exact⟨r,cap,Z,s,m,D,l.obj E,F⟩
      ·unfold oA;simp only[d,J];exact⟨n,I,rfl⟩
     ·rename_i J;unfold oA at h;simp only[d,J] at h;split at h
      ·rename_i v hv;refine⟨_,v,h,trivial,λ_ _ _ _=>trivial,λj _=>?_⟩;unfold oA;simp only[d,J,hv]
      ·rename_i p v hv;refine⟨_,v,h.2,trivial,λ_ _ _ _=>trivial,λj _=>?_⟩;unfold oA;simp only[d,J,hv];exact⟨h.1,trivial⟩
      ·exact h.elim
   | _=>exact st rfl h
  | _=>exact st rfl h
 |binOp op t x y yt=>
  simp only at h;split at h
  ·rename_i v hv;refine⟨_,v,h,trivial,λ_ _ _ _=>trivial,λj _=>?_⟩;unfold oA;simp only[hv]
  ·rename_i p v hv;refine⟨_,v,h.2,trivial,λ_ _ _ _=>trivial,λj _=>?_⟩;unfold oA;simp only[hv];exact⟨h.1,trivial⟩
  ·rename_i hv;split at h
   ·rename_i p q d;refine⟨_, _,h.2,h.1,nF λw w' d l=>IK l d,λj I=>?_⟩;unfold oA;simp only[hv,d];exact⟨I,trivial⟩
   ·exact h.elim
 | _=>exact st rfl h
def W_ (C:dD P) (ops:Array Oper) (N:Nat) (o:Oper) (env:List bO) (w:A2) (K:(A2->Prop)->List bO->Prop):Prop:=
 match gd ops env o with
 |none=>dp 44 o.op
 |some none=>if oN ops N env [] o.dst then wQ env o.dst [] none undef (K λ_=>True) else dp 45 o.op
 |some (some (ch,g))=>
  if oN ops N env ch o.dst then Yu C ops env ch g o w (λp v=>yq C o v (λv=>wQ env o.dst ch g v (K p))) else dp 46 o.op
def Yv (C:dD P) (ops:Array Oper) (N:Nat) (i:Nat) (env:List bO) (w:A2) (K:(A2->Prop)->List bO->Prop):Prop:=
 match ops[i]? with
 |none=>False
 |some ⟨dst,op,type,pos,after,guard⟩=>W_ C ops N ⟨dst,op,type,pos,after,guard⟩ env w K
def AA (j:Nat) (w:A2):List (Nat×(A2->Prop))->Prop->Prop
 |[],K=>K
 |(W,p)::r,K=>match W.testBit j with
  |true=>AA j w r K
  |false=>p w/\AA j w r K
theorem pW {j:Nat} {w:A2}: ∀{l:List (Nat×(A2->Prop))} {K:Prop},AA j w l K<->(∀e∈l,e.1.testBit j=false->e.2 w)/\K
 |[],K=>by simp[AA]
 |(W,p)::r,K=>by
  unfold AA;cases h:W.testBit j with
  |true
  |false=>simp only[pW,List.forall_mem_cons];grind
def Oq (ops:Array Oper):Bool:=ops.toList.all λo=>match o.op with| .select .. | .defer _=>false| _=>true
def sb (i:Nat):Nat:=1 <<< i
theorem xZ (i j:Nat):(sb i).testBit j=decide (i=j):=by simp[sb,Nat.one_shiftLeft,Nat.testBit_two_pow]
def AB:List Nat->Nat
 |[]=>0
 |x::r=>sb x ||| AB r
theorem tu: ∀(l:List Nat) (j:Nat),(AB l).testBit j=decide (j∈l)
 |[],j=>by simp[AB]
 |x::r,j=>by
  rw[AB,GH,xZ,tu]
  grind
theorem and_zero {a b j:Nat} (h:((a &&& b)==0)=true) (c:a.testBit j=true):b.testBit j=false:=by
 have:=congrArg (λm=>m.testBit j) (by simpa using h: )
 grind
theorem PX {a b:Nat} (h:((a &&& b) != 0)=true): ∃j,a.testBit j=true/\b.testBit j=true:=by
 have h':=by simpa using h
 obtain:=Nat.exists_testBit_of_ne_zero h'
 grind
theorem Uh {a b j:Nat} (h:((a &&& b)==a)=true) (c:a.testBit j=true):b.testBit j=true:=by grind
theorem Ui {a b:Nat} (h:((a &&& b)==a)=false): ∃j,a.testBit j=true/\b.testBit j=false:=by
 apply Classical.byContradiction;intro;have:a &&& b=a:=by
  apply Nat.eq_of_testBit_eq
  grind
 grind
def JV (o:Oper):Nat:=AB ((o.after.toList.filter λe=>Do .any e).map (·.on))
def Wv (o:Oper):Nat:=match o.dst with
 |some d=>sb d
 |none=>0
def lkM (ops:Array Oper) (o:Oper):Nat:=AB (o.looksAt ops)
def TA (L i e:Nat):Bool:= !L.testBit i&&(e &&& L)==e
def Ia (L i:Nat):List (Oper×Nat)->Nat->Nat
 |[],W=>W
 |(o,j)::r,W=>Ia L i r (if !L.testBit j&&(JV o &&& (W ||| sb i)) != 0 then W ||| sb j else W)
def Fu (ops:Array Oper) (x y:Oper):Bool:=(Wv x &&& (lkM ops y ||| Wv y))==0&&(Wv y &&& lkM ops x)==0
def frM (C:dD P) (ops:Array Oper) (L i W:Nat) (x:Oper) (Z:List (Oper×Nat)):Bool:=
 Z.all λz=>z.2==i||L.testBit z.2||W.testBit z.2||(Fu ops x z.1&&(!BR C z.1||mfO x))
def nxM (C:dD P) (Z:List (Oper×Nat)) (L:Nat):Option (Nat×Bool):=
 match Z.find? λz=>TA L z.2 (JV z.1)&& !BR C z.1&& !eM z.1 with
 |some z=>some (z.2,true)
 |none=>match Z.find? λz=>TA L z.2 (JV z.1) with
  |some z=>some (z.2,false)
  |none=>none
def frS (ops:Array Oper) (L i W:Nat) (x:Oper) (Z:List (Oper×Nat)):Bool:=
 Z.all λz=>z.2==i||L.testBit z.2||W.testBit z.2||Fu ops x z.1
inductive Sd where
 |nil|q (i:Nat) (m:Option Nat) (r:Sd)|alt (i:Nat) (r t:Sd)|stop
def oZ (C:dD P) (ops:Array Oper) (Z:List (Oper×Nat)):Nat->Nat->Option Sd
 |0,L=>if Z.all λz=> !TA L z.2 (JV z.1) then some .nil else none
 |n+1,L=>match nxM C Z L with
  |none=>none
  |some (i,true)=>match ops[i]? with
   |some x=>if TA L i (JV x)&& !BR C x then
     if frM C ops L i (Ia L i Z 0) x Z then match oZ C ops Z n (L ||| sb i) with
      |some l=>some (.q i none l)
      |none=>none
     else if frS ops L i (Ia L i Z 0) x Z then match oZ C ops Z n (L ||| sb i) with
      |some l=>some (.q i (some (Ia L i Z 0)) l)
      |none=>none
     else none
    else none
   |none=>none
  |some (_,false)=>(Z.filter λz=>TA L z.2 (JV z.1)).foldr (λz c=>match c with
   |none=>none
   |some b=>match oZ C ops Z n (L ||| sb z.2) with
    |some a=>some (.alt z.2 a b)
    |none=>none) (some .stop)
def Y_ (C:dD P) (ops:Array Oper):Option Sd:=oZ C ops ops.toList.zipIdx ops.size 0
def n6 (C:dD P) (ops:Array Oper) (i:Nat):Bool:=((ops[i]?).map (BR C)).getD true
def Ot (C:dD P) (ops:Array Oper) (i:Nat) (w:A2) (l:List (Nat×(A2->Prop))) (K:Prop):Prop:=
 match n6 C ops i with
 |true=>AA i w l K
 |false=>K
def Yw (C:dD P) (ops:Array Oper) (N:Nat) (i:Nat) (a:List (Nat×(A2->Prop))) (env:List bO) (w:A2) (F:List bO->A2->Prop):Prop:=match a with
 |[]=>FG C ops N i env w F
 |e::a=>FG C ops N i env w (λenv w=>Ot C ops i w (e::a) (F env w))
def Yx (t:Sd) (a b:Prop):Prop:=match t with
 | .stop=>a
 | _=>a/\b
def Fv (C:dD P) (ops:Array Oper) (N:Nat):Sd->List (Nat×(A2->Prop))->List bO->A2->(List bO->A2->Prop)->Prop
 | .nil, _,env,w,K=>K env w
 | .q i none r,a,env,w,K=>rxQ C ops N i env w (λenv=>Fv C ops N r a env w K)
 | .q i (some W) r,a,env,w,K=>Yv C ops N i env w (λp env=>Fv C ops N r ((W,p)::a) env w K)
 | .alt i r t,a,env,w,K=>Yx t (Yw C ops N i a env w (λenv w=>Fv C ops N r a env w K)) (Fv C ops N t a env w K)
 | .stop, _, _, _, _=>True
def aal (C:dD P) (ops:Array Oper) (N:Nat) (l:Sd) (env:List bO) (w:A2) (K:List bO->A2->Prop):Prop:=Fv C ops N l [] env w K
def Yy (C:dD P) (ops:Array Oper) (N:Nat) (env:List bO) (w:A2) (K:List bO->A2->Prop):Prop:=
 match Y_ C ops with
 |some l=>aal C ops N l env w K
 |none=>False
def Ip (j:Nat) (x:Sd):Sd->Prop
 | .alt i r t=>(j=i/\x=r)\/Ip j x t
 | _=>False
def Valid (C:dD P) (ops:Array Oper):Nat->Sd->Array Bool->Prop
 |0,t,a=>t= .nil/\B7 .any ops a=[]
 |n+1,t,a=>match t with
  | .q i m r=>i∈B7 .any ops a/\n6 C ops i=false/\
    (∃W:Nat->Bool,(∀c,ops[i]? =some c-> ∀j b,ops[j]? =some b->j≠i->a.getD j true=false->W j=false->c.apart ops b=true/\(BR C b=false\/mfO c=true\/ ∃w,m=some w/\w.testBit j=false))/\
     (∀j,W j=true->a.getD j true=false/\ ∃b,ops[j]? =some b/\ ∃e∈b.after,Do .any e=true/\(e.on=i\/W e.on=true)))/\
    Valid C ops n r (a.setIfInBounds i true)
  | .alt i r d=>i∈B7 .any ops a/\ ∀j∈B7 .any ops a, ∃x,Ip j x (.alt i r d)/\Valid C ops n x (a.setIfInBounds j true)
  | _=>False
def Ac (ops:Array Oper) (L:Nat) (a:Array Bool):Prop:=a.size=ops.size/\ ∀j,a.getD j false=L.testBit j
theorem Ac.un {ops:Array Oper} {L:Nat} {a:Array Bool} (h:Ac ops L a) {j:Nat} (b:j<ops.size):a.getD j true=L.testBit j:=by
 rw[<-h.2];have:j<a.size:=by rw[h.1];grind
 grind
theorem Ac.set {ops:Array Oper} {L:Nat} {a:Array Bool} (h:Ac ops L a) {i:Nat} (hi:i<ops.size):Ac ops (L ||| sb i) (a.setIfInBounds i true):=by
 refine⟨by simp[h.1],λj=>?_⟩;rw[GH,xZ, <-h.2];by_cases e:i=j
 ·subst e;have:i<a.size:=by rw[h.1];omega
  simp[this]
 simp_all
theorem Ac.zero (ops:Array Oper):Ac ops 0 (FU ops.size false):=by
 refine⟨by simp,λj=>?_⟩;simp[JW]
theorem pP {ops:Array Oper} {o:Oper} {j:Nat}:(o,j)∈ops.toList.zipIdx<->ops[j]? =some o:=by grind
theorem F5 {o:Oper} {j:Nat}:(JV o).testBit j=true<-> ∃e∈o.after,Do .any e=true/\e.on=j:=by
 grind[JV,tu]
theorem mV {ops:Array Oper} {L:Nat} {c:Array Bool} (h:Ac ops L c) {i:Nat}:i∈B7 .any ops c<-> ∃o,ops[i]? =some o/\TA L i (JV o)=true:=by
 unfold B7;rw[DA,F2];constructor
 ·rintro⟨hi,hc⟩;rw[h.un hi] at hc;simp only[BY] at hc;have a:=JX hi;refine⟨ops[i],a,?_⟩;rw[a] at hc;simp only[GS,IR,HZ] at hc;unfold TA;rw[BY];refine⟨hc.1,?_⟩;cases f:(JV _ &&& L)==JV _ with
  |true=>rfl
  |false=>
   obtain⟨j,h1,g⟩:=Ui f;obtain⟨e,d,hb,rfl⟩:=F5.1 h1;have:=hc.2 e d;rw[hb,h.2,g] at this;cases this
 ·rintro⟨o,a,b⟩;have hi:=(CW.1 a).1;unfold TA at b;rw[BY] at b;refine⟨hi,?_⟩;rw[h.un hi,BY];refine⟨b.1,?_⟩;rw[a];simp only[GS,IR,HZ];intro e d;rw[h.2];cases hb:Do .any e with
  |false=>rfl
  |true=>rw[Uh b.2 (F5.2 (by grind))];rfl
theorem D6 {L i:Nat}: ∀(Z:List (Oper×Nat)) (W j:Nat),W.testBit j=true->(Ia L i Z W).testBit j=true
 |[], _, _,h=>h
 |k::r,W,j,h=>by
  refine D6 r _ j ?_
  grind
theorem OU {L i:Nat}: ∀(Z:List (Oper×Nat)) (W:Nat),(∀x,(Ia L i Z W).testBit x=true->W.testBit x=true\/(L.testBit x=false/\ ∃o,(o,x)∈Z/\ ∃k,(JV o).testBit k=true/\(k=i\/(Ia L i Z W).testBit k=true)))
 |[], _, _,h=> .inl h
 |(o,j)::r,W,x,h=>by
  unfold Ia at h ⊢;rcases OU r _ x h with h1|⟨h1,o',b,c⟩
  ·split at h1
   ·rename_i hc;rw[GH,xZ,GD,decide_eq_true_eq] at h1;rcases h1 with h1|rfl
    ·exact .inl h1
    ·rw[BY] at hc;obtain⟨k,d,a⟩:=PX hc.2;rw[GH,xZ,GD,decide_eq_true_eq] at a
     grind[In,D6]
   ·exact .inl h1
  grind
theorem OV {ops:Array Oper} {x y:Oper} (h:Fu ops x y=true):x.apart ops y=true:=by
 unfold Fu at h;rw[BY] at h;obtain⟨h1,b⟩:=h;unfold Oper.apart;rw[BY];constructor
 ·cases a:x.dst with
  |none=>rfl
  |some d=>
   have hb:(Wv x).testBit d=true:=by simp[Wv,a,xZ]
   have:=and_zero h1 hb;rw[GH,Bool.or_eq_false_iff] at this;obtain⟨a1,c⟩:=this;unfold lkM at a1;rw[tu] at a1
   grind[Wv,xZ]
 ·cases a:y.dst with
  |none=>rfl
  |some d=>
   have hb:(Wv y).testBit d=true:=by simp[Wv,a,xZ]
   grind[and_zero,lkM,tu]
theorem IM {F:Nat->Option Sd}: ∀(l:List (Oper×Nat)) (t:Sd),l.foldr (λz e=>match e with
 |none=>none
 |some b=>match F z.2 with
  |some a=>some (.alt z.2 a b)
  |none=>none) (some Sd.stop)=some t->(l=[]/\t= .stop)\/(∃i r d,t= .alt i r d/\(∃o,(o,i)∈l)/\ ∀z∈l, ∃x,Ip z.2 x t/\F z.2=some x)
 |[],t,h=>by
  grind
 |z::l,t,h=>by
  rw[List.foldr_cons] at h;split at h
  ·cases h
  ·rename_i b hb;split at h
   ·rename_i a f;cases h;refine .inr ⟨z.2,a,b,rfl,by grind,λy c=>?_⟩;rcases DQ.1 c with rfl|c
    ·exact⟨a,.inl (by grind),f⟩
    ·rcases IM l b hb with ⟨rfl, _⟩|⟨i,r,d, _, _,g⟩
     ·cases c
     ·obtain⟨x,h1,j⟩:=g y c;exact⟨x,.inr h1,j⟩
   grind
theorem pX {C:dD P} {ops:Array Oper}: ∀(n L:Nat) (m:Array Bool) (l:Sd),Ac ops L m->oZ C ops ops.toList.zipIdx n L=some l->Valid C ops n l m
 |0,L,m,l,a,h=>by
  simp only[oZ] at h;split at h
  ·rename_i hc;cases h;refine⟨rfl,?_⟩;rw[List.eq_nil_iff_forall_not_mem];intro j b;obtain⟨o,c,u⟩:=(mV a).1 b;have:=E5.1 hc (o,j) (pP.2 c);rw[u] at this;cases this
  ·cases h
 |n+1,L,m,l,a,h=>by
  have E: ∀i j,(Ia L i ops.toList.zipIdx 0).testBit j=true->m.getD j true=false/\ ∃d,ops[j]? =some d/\ ∃e∈d.after,Do .any e=true/\(e.on=i\/(Ia L i ops.toList.zipIdx 0).testBit e.on=true):=by
   intro i j f;rcases OU ops.toList.zipIdx 0 j f with h1|⟨h1,o,p,k,J,K⟩
   ·simp at h1
   ·have c:=pP.1 p;obtain⟨e,v,hb,rfl⟩:=F5.1 J;exact⟨by rw[a.un (CW.1 c).1];exact h1,o,c,e,v,hb,K⟩
  simp only[oZ] at h;split at h
  ·cases h
  ·rename_i i _;split at h
   ·rename_i x g;have hi:i<ops.size:=(CW.1 g).1;split at h
    ·rename_i hc;rw[BY,HB] at hc;have G:n6 C ops i=false:=by unfold n6;rw[g];exact hc.2
     split at h
     ·rename_i w;split at h
      ·rename_i l' y;cases h;have A:=pX n _ _ l' (a.set hi) y;refine⟨(mV a).2 ⟨x,g,hc.1⟩,G,⟨λj=>(Ia L i ops.toList.zipIdx 0).testBit j,?_,λj=>E i j⟩,A⟩;intro M q j d b B s f;rw[g] at q;cases q;have:=E5.1 w (d,j) (pP.2 b);rw[a.un (CW.1 b).1] at s;have D:(Ia L i ops.toList.zipIdx 0).testBit j=false:=f;simp only[s,D,J7,GD,beq_iff_eq,BY,HB] at this;rcases this with h1|h1
       ·exact absurd h1 B
       ·exact⟨OV h1.1,h1.2.imp id .inl⟩
      ·cases h
     ·split at h
      ·rename_i w;split at h
       ·rename_i l' y;cases h;have A:=pX n _ _ l' (a.set hi) y;refine⟨(mV a).2 ⟨x,g,hc.1⟩,G,⟨λj=>(Ia L i ops.toList.zipIdx 0).testBit j,?_,λj=>E i j⟩,A⟩;intro M q j d b B s f;rw[g] at q;cases q;have:=E5.1 w (d,j) (pP.2 b);rw[a.un (CW.1 b).1] at s;have D:(Ia L i ops.toList.zipIdx 0).testBit j=false:=f;simp only[s,D,J7,GD,beq_iff_eq] at this;rcases this with h1|h1
        ·exact absurd h1 B
        ·exact⟨OV h1,.inr (.inr ⟨_,rfl,f⟩)⟩
       ·cases h
      ·cases h
    ·cases h
   ·cases h
  ·rename_i t;rcases IM (F:=λj=>oZ C ops ops.toList.zipIdx n (L ||| sb j)) _ l h with ⟨v, _⟩|⟨i,r,O,rfl,⟨o,c⟩,N⟩
   ·
    exfalso;unfold nxM at t;split at t
    ·cases t
    ·split at t
     ·rename_i z H;have h1:=O2 H;have p:=List.mem_of_find?_eq_some H;have:z∈(ops.toList.zipIdx).filter λz=>TA L z.2 (JV z.1):=DA.2 ⟨p,h1⟩;rw[v] at this;cases this
     ·cases t
   ·rw[DA] at c;refine⟨(mV a).2 ⟨o,pP.1 c.1,c.2⟩,λj b=>?_⟩;obtain⟨d,I,u⟩:=(mV a).1 b;obtain⟨x,h1,p⟩:=N (d,j) (DA.2 ⟨pP.2 I,u⟩);exact⟨x,h1,pX n _ _ x (a.set (CW.1 I).1) p⟩
section
variable {r:Option Nat} {S:Nat->Option (Option AC)} {ops:Array Oper} {N:Nat} {D:List Deferred} {Q:Exit->Act->A2->Prop}
theorem Y' {C:dD P} {i:Nat} {env:List bO} {a:Act} {w:A2} {K:List bO->Prop} (l:Wr S ops) (b:Fit S ops N D env a) (h:rxQ C ops N i env w K):
 ∃o u cX,ops[i]? =some o/\K cX/\Fit S ops N D cX (a.put o.dst u)/\fM P ops o u a w:=by
 unfold rxQ at h;cases k:ops[i]? with
 |none=>simp[k] at h
 |some o=>
  simp only[k,aak,nE] at h;have e:=l o (by grind);split at h
  ·exact AI h
  ·rename_i f;split at h
   ·rename_i c;exact⟨o,undef, _,rfl,h,b.put c e rfl (λ_=>rfl) (by grind),.inr ⟨Cr b f,rfl⟩⟩
   ·exact AI h
  ·rename_i ch g f;obtain⟨j,m⟩:=On b f;split at h
   ·rename_i c;obtain⟨v,d,n⟩:=yw b j h;replace d:=rR d;by_cases hc:jS ops a.tmps ch
    ·exact⟨o,v, _,rfl,d,b.put c e j (λ_=>rfl) (λp=>absurd hc p),.inl ⟨m.2 hc,n hc⟩⟩
    ·refine⟨o,undef, _,rfl,d,b.put c e j (λq=>absurd q hc) (λ_=>rfl),.inr ⟨?_,rfl⟩⟩
     simp_all
   ·exact AI h
theorem Uj {C:dD P} {i:Nat} {env:List bO} {a:Act} {w:A2} {K:(A2->Prop)->List bO->Prop} (t:Wr S ops) (c:Fit S ops N D env a) (h:Yv C ops N i env w K):
 ∃o u cX p,ops[i]? =some o/\K p cX/\Fit S ops N D cX (a.put o.dst u)/\p w/\UpC p/\ ∀b,p b->fM P ops o u a b:=by
 unfold Yv at h;cases q:ops[i]? with
 |none=>simp[q] at h
 |some o=>
  simp only[q,W_,nE] at h;have j:=t o (by grind);split at h
  ·exact AI h
  ·rename_i k;split at h
   ·rename_i d;exact⟨o,undef, _, _,rfl,h,c.put d j rfl (λ_=>rfl) (by grind),trivial,λ_ _ _ _=>trivial,λ_ _=> .inr ⟨Cr c k,rfl⟩⟩
   ·exact AI h
  ·rename_i ch g k;obtain⟨l,x⟩:=On c k;split at h
   ·rename_i d;obtain⟨p,v,f,r,s,y⟩:=PW h;replace f:=rR f;have z: ∀b,p b->jS ops a.tmps ch-> ∀w',Ext b w'->di P o a w' v:=λb m hc=>by
     obtain⟨B,e,n⟩:=yw c l (y b m);subst e;exact n hc
    by_cases hc:jS ops a.tmps ch
    ·exact⟨o,v, _,p,rfl,f,c.put d j l (λ_=>rfl) (λA=>absurd hc A),r,s,λb m=> .inl ⟨x.2 hc,z b m hc⟩⟩
    ·refine⟨o,undef, _,p,rfl,f,c.put d j l (λn=>absurd n hc) (λ_=>rfl),r,s,λb _=> .inr ⟨?_,rfl⟩⟩
     simp_all
   ·exact AI h
def AD (a:List (Nat×(A2->Prop))) (j:Nat) (w:A2):Prop:= ∀e∈a,e.1.testBit j=false->e.2 w
theorem IN {C:dD P} {a:List (Nat×(A2->Prop))} {env:List bO} {w:A2} {K:List bO->A2->Prop} {j:Nat} {x:Sd}: ∀{t:Sd},Fv C ops N t a env w K->Ip j x t->Yw C ops N j a env w (λenv w=>Fv C ops N x a env w K)
 | .alt i r t,h,hi=>by
   rw[Fv] at h;have h1:Yw C ops N i a env w λenv w=>Fv C ops N r a env w K:=by
    grind[Yx]
   rcases hi with ⟨rfl,rfl⟩|hi
   ·omega
   ·refine IN ?_ hi;unfold Yx at h;split at h
    ·cases hi
    grind
theorem Za {C:dD P} (G:Wr S ops) (Ab:Oq ops=true) (U: ∀c a w,¬ Q (.panic c) a w): ∀(n:Nat) (l:Sd) (f:Array Bool) (d:List (Nat×(A2->Prop))) (env:List bO) (a:Act) (w:A2) (K:List bO->A2->Prop),(∀e∈d,UpC e.2)->Fit S ops N D env a->
 Valid C ops n l f->Fv C ops N l d env w K->(∀env a w w',K env w->Fit S ops N D env a->Ext w w'->Q .normal a w')->
 mn r P ops Q (n6 C ops) (AD d) n f a w:=by
 have V: ∀(j:Nat) (o:Oper),ops[j]? =some o->(∀cs b,o.op≠ .select cs b)/\ ∀c,o.op≠ .defer c:=λj o g=>by
  have:=E5.1 Ab o (Array.mem_toList_iff.2 (K1 g));constructor
  ·intro cs b he;simp[he] at this
  ·intro c he;simp[he] at this
 intro n
 induction n with
 |zero=>
  intro l f d env a w K _ s hv h v w' H;obtain⟨rfl,hv⟩:=hv;exact⟨hv,v env a w w' h s H⟩
 |succ n I=>
  intro l f d env a w K z s hv h v;cases l with
  |nil=>exact hv.elim
  |stop=>exact hv.elim
  |q i m l=>
   obtain⟨X,Y,⟨W,Z,XB⟩,A⟩:=hv;cases m with
   |none=>
    obtain⟨o,u,cX,g,x,y,B⟩:=Y' G s h;have J:=I l (f.setIfInBounds i true) d cX (a.put o.dst u) w K z y A x v;exact tR (W:=W) (a0:=a) g Y V U (λ_ _ h=>h) n f a w (λj L k M O R=>by
     have:=Z o g j L k M O R;refine⟨this.1,?_⟩;rcases this.2 with h|h|⟨w,h, _⟩
     ·exact .inl (by unfold n6;rw[k];exact h)
     ·exact .inr (.inl h)
     ·cases h) XB X ⟨rfl,rfl⟩ B J
   |some T=>
    obtain⟨o,u,cX,p,g,x,y,hp,hu,B⟩:=Uj G s h;have J:=I l (f.setIfInBounds i true) ((T,p)::d) cX (a.put o.dst u) w K (λe he=>by
     rcases DQ.1 he with rfl|he
     ·exact hu
     ·exact z e he) y A x v
    exact tR (W:=W) (a0:=a) (T':=AD ((T,p)::d)) g Y V U (λ_ _ h e he=>h e (NR _ he)) n f a w (λj L k M O R=>by
     have:=Z o g j L k M O R;refine⟨this.1,?_⟩;rcases this.2 with h|h|⟨w,h,hb⟩
     ·exact .inl (by unfold n6;rw[k];exact h)
     ·exact .inr (.inl h)
     ·cases h;exact .inr (.inr λw1 hT=>B w1 (hT (T,p) In hb))) XB X ⟨rfl,rfl⟩ (B w hp) J
  |alt i l0 t=>
   obtain⟨hri,mC⟩:=hv;intro w' H;refine⟨λhe=>absurd hri (by rw[he];simp),λj k=>?_⟩;obtain⟨l,lL,A⟩:=mC j k;have h:=IN h lL;have h':FG C ops N j env w (λenv w=>(n6 C ops j=true->AD d j w)/\Fv C ops N l d env w K):=by
    cases d with
    |nil=>
     have h:FG C ops N j env w (λenv w=>Fv C ops N l [] env w K):=h
     simp_all[n6,AD,Fv]
    |cons E F=>
     have e:(λ(env:List bO) (w:A2)=>(n6 C ops j=true->AD (E::F) j w)/\Fv C ops N l (E::F) env w K)=λenv w=>Ot C ops j w (E::F) (Fv C ops N l (E::F) env w K):=by
      funext env w;unfold Ot;cases n6 C ops j with
      |true=>exact propext ⟨λh=>pW.2 ⟨h.1 rfl,h.2⟩,λh=>⟨λ_=>(pW.1 h).1,(pW.1 h).2⟩⟩
      |false=>simp
     rw[e];exact h
   refine wpOpIn_mono (λa1 w1 hh=>?_) (D5 G s h' H);obtain⟨hx,cX,wr,⟨XF,x⟩,y,wE⟩:=hh;exact⟨hx,λhe e hm hb=>z e hm wr w1 ((XF he) e hm hb) wE,nP (I l _ d cX a1 wr K z y A x v) wE⟩
theorem Uk {C:dD P} (d:Wr S ops) (e:Oq ops=true) (f: ∀c a w,¬ Q (.panic c) a w) (env:List bO) (a:Act) (w:A2) (K:List bO->A2->Prop) (g:Fit S ops N D env a)
 (h:Yy C ops N env w K) (i: ∀env a w w',K env w->Fit S ops N D env a->Ext w w'->Q .normal a w'):
 mn r P ops Q (n6 C ops) (AD []) ops.size (FU ops.size false) a w:=by
 unfold Yy aal at h;split at h
 ·rename_i l b;have hv:=pX _ 0 _ l (Ac.zero ops) b
  grind[Za]
 grind
end
variable {P:B1}
def jW (l:List bO):List bO:=
 match l.filter λe=> !e.ch.isEmpty with
 |[]=>l
 |bad=>l.filter λe=>e.ch.isEmpty&& !(bad.any λb=>b.t==e.t)
def plain (l:List bO):Prop:= ∀e∈l,e.ch=[]/\e.g=none
theorem iI {p:bO->Bool}: ∀{l:List bO} {t:Nat} {e:bO},bW (l.filter p) t=some e->(∀x∈l,x.t=t->p x=true)->bW l t=some e
 |x::r,t,e,h,d=>by
  by_cases a:p x=true
  ·simp only[OW,a,if_true,bW] at h;simp only[bW];split
   grind
   ·rename_i b
    simp_all
    exact iI h (by grind)
  ·simp only[OW,a] at h;have c:x.t≠t:=λb=>a (by grind);simp only[bW,c];exact iI h (by grind)
theorem yy: ∀{l:List bO} {t:Nat} {e:bO},bW l t=some e->e.t=t
 |x::r,t,e,h=>by
  simp[bW] at h;split at h
  grind
  ·exact yy h
variable {S:Nat->Option (Option AC)} {N:Nat} {D:List Deferred} {env:List bO} {a:Act}
theorem Fit.PY {ops ops':Array Oper} (h:Fit S ops N D env a) (b:plain env):Fit S ops' N D env a:=by
 have nil: ∀(o),jS o a.tmps []:=λo g=>by simp
 refine⟨h.off,h.size,h.qo,λt e c _=>h.yes t e c (by rw[(b e (bT c)).1];grind),λt e c f=>absurd (by rw[(b e (bT c)).1];grind) f,λe d=>?_,h.BH⟩;rw[(b e d).2];exact(b e d).1
theorem AQ {ops ops':Array Oper} (h:Fit S ops N D env a):Fit S ops' N D (jW env) a/\plain (jW env):=by
 have m: ∀e∈env,e.ch=[]->e.g=none:=λe b hc=>by
  have:=h.Fq e b;cases j:e.g with
  |none=>rfl
  |some γ=>rw[j] at this;exact absurd hc this.1
 have nil: ∀(o:Array Oper),jS o a.tmps []:=λo x f=>by cases f
 have i: ∀e∈jW env,e.ch=[]/\e∈env:=by
  intro e b;unfold jW at b;split at b
  simp_all
  grind
 have k: ∀t e,bW (jW env) t=some e->bW env t=some e:=by
  intro t e b;unfold jW at b;split at b
  ·exact b
  ·rename_i n p;refine iI b λx f q=>?_;have r:=bT b
   grind[yy]
 have d:plain (jW env):=λe b=>⟨(i e b).1,by grind⟩;refine⟨⟨h.off,h.size,h.qo,λt e l _=>h.yes t e (k t e l) (by grind[bT]),by grind[bT],λe c=>?_,λe c=>h.BH e (i e c).2⟩,d⟩;rw[(d e c).2];exact(d e c).1
def jy:Code->Option Nat
 | .region id _ _=>some id
 | .seq a b=>match jy a with
   |some i=>some i
   |none=>jy b
 | .cond _ a b=>match jy a with
   |some i=>some i
   |none=>jy b
 | .block _ b=>jy b
 | .loop b=>jy b
 | _=>none
def TZ (ops:Array Oper):List Nat:=ops.toList.filterMap (·.dst)
def writes:Code->List Nat
 | .region _ ops _=>TZ ops
 | .seq a b=>writes a++writes b
 | .cond _ a b=>writes a++writes b
 | .block _ b=>writes b
 | .loop b=>writes b
 | _=>[]
abbrev aY:=List (Nat×El)
def kY:(l:aY)->oq (l.map (·.2))->List bO
 |[], _=>[]
 |(t,s)::r,x=>⟨t,[],none,s.gR x.1,none⟩::kY r x.2
def oP:(l:aY)->List bO->Option (oq (l.map (·.2)))
 |[], _=>some ()
 |(t,s)::r,env=>match bW env t with
  |some e=>match s.proj e.v,oP r env with
   |some x,some y=>some (x,y)
   | _, _=>none
  |none=>none
def Xb (op:Op):Bool:=match op with
 | .send .. | .select .. =>true
 | _=>false
def aaU (ops:Array Oper):Bool:=ops.toList.any λo=>Xb o.op
def l6 (n k:Nat):Array Bool:=⟨(BJ n).map λi=>Fg i k⟩
def T1 (ops:Array Oper):Bool:=(BJ ops.size).all λk=>B7 .any ops (l6 ops.size k)==[k]
theorem EW {n k:Nat} (h:k<n):(l6 n k).setIfInBounds k true=l6 n (k+1):=by
 simp[l6];apply List.ext_getElem
 ·simp
 ·intro i a;rw[List.getElem_set];simp only[List.getElem_map,List.getElem_range];split
  ·subst_vars
   simp
  ·rw[Bool.eq_iff_iff,Nat.blt_eq,Nat.blt_eq];omega
theorem IP {ops:Array Oper} (h:T1 ops=true): ∀(fuel t k:Nat) (a:List Nat),k+fuel=ops.size->G1 .any ops fuel t (l6 ops.size k) a=a.reverse++H6 k fuel
 |0,t,k,a, _=>by simp[G1]
 |fuel+1,t,k,a,c=>by
  have b:=by
   simp[T1] at h;exact h k (by omega)
  change (match (B7 .any ops _)[t % (B7 .any ops _).length]? with
   |some i=>G1 .any ops fuel _ _ _
   |none=>a.reverse)= _
  rw[b];simp[Nat.mod_one,Gi];rw[EW (by omega),IP h fuel _ _ _ (by omega)];simp[J5]
def CmR (P:B1) (o:Oper) (a:Act) (w:A2) (v:AC) (w':A2):Prop:=
 ∃cases bl sh,(execOp a.eval o).run P w= .ok (.comm cases bl sh) w/\
  ∀fr cs es,stepG P true (If fr cs) w= .comm (If fr cs) cases bl sh w es->step P (TE (If fr cs) w)= .next (TE (If (fr.finish v) cs) w')
def Tn (P:B1) (ops:Array Oper) (Q:Act->A2->Prop):List Nat->Act->A2->Prop
 |[],a,w=>Q a w
 |i::l,a,w=> ∃o,ops[i]? =some o/\Bx o (yielded ops a.tmps)=true/\(∀c,o.op≠ .defer c)/\
  ∃v w',((execOp a.eval o).run P w= .ok (.value v) w'\/CmR P o a w v w')/\Tn P ops Q l (a.put o.dst v) w'
theorem D7 {ops:Array Oper} {Q b:Act->A2->Prop} (c: ∀a w,Q a w->b a w): ∀(l:List Nat) (a:Act) (w:A2),Tn P ops Q l a w->Tn P ops b l a w
 |[],a,w,h=>c a w h
 |i::l,a,w,h=>by
  obtain⟨o,d,e,f,v,w',g,j⟩:=h;exact⟨o,d,e,f,v,w',g,D7 c l _ _ j⟩
theorem mW {r:Option Nat} {ops:Array Oper} {Q:Act->A2->Prop}: ∀(l:List Nat) (a:Act) (w:A2),Tn P ops Q l a w-> ∀(b:Frame) (k:List Item) (cs:List Frame),
 ∃a' w',Q a' w'/\StepsIn (Machine.fenced P (WF r)) P (lone (b.atR a (.inRegion ops l::k)) cs w) (lone (b.atR a' k) cs w')
 |[],a,w,h,b,k,cs=>⟨a,w,h,.one (fenced_calm (n:=0) (W9 r _) (IL r _) rfl) stepR_region_end⟩
 |i::l,a,w,h,b,k,cs=>by
  obtain⟨o,c,j,m,v,w',p,q⟩:=h;obtain⟨a',s,t,u⟩:=mW l _ _ q b k cs;have d:=stepGR_op (P:=P) (b:=b) (k:=k) (cs:=cs) (w:=w) (rest:=l) c j;rw[Oper.semAt_eq _ _ _ m] at d;have f:(b.atR a (.inRegion ops (i::l)::k)).finish v=b.atR (a.put o.dst v) (.inRegion ops l::k):=by rw[Frame.finish_atR,c];rfl
  have h0:(lone (b.atR a (.inRegion ops (i::l)::k)) cs w).fenced P (WF r):=fenced_oper (n:=0) (W9 r _) (IL r _) c (λ_ _=>trivial);refine⟨a',s,t,.head h0 ?_ u⟩;rcases p with e|⟨g,bl,sh,e,hc⟩
  ·refine step_lone_go ?_;rw[d, <-f];simp[stepG.apply,e]
  ·rw[<-f];have key: ∀x:Sem Next,x.run P w= .ok (.comm g bl sh) w-> ∃es,stepG.apply P true (b.atR a (.inRegion ops (i::l)::k)) cs none x w= .comm _ g bl sh w es:=λx y=>by
    simp only[stepG.apply,Sem.runT_eq,y,GStep.after];exact⟨_,rfl⟩
   obtain⟨es,z⟩:=key _ e;exact hc _ _ es (d.trans z)
theorem An {r:Option Nat} {id:Nat} {ops:Array Oper} {d:Bool} {Q:Exit->Act->A2->Prop} {a:Act} {w:A2} (j:P.follows .mixedOrders=true) (l:T1 ops=true)
 (h: ∀w',Ext w w'->Tn P ops (Q .normal) (BJ ops.size) a w'):(Code.region id ops d).wpIn (WF r) 0 P Q a w:=by
 intro b k cs _ hb f;cases d with
 |false=>
  obtain⟨a',w',c,g⟩:=mW _ _ _ (h w (Ext.refl w)) b k cs;exact⟨.normal,a',w',c,StepsIn.head (fenced_calm hb f rfl) stepR_region g⟩
 |true=>
  obtain⟨a',w',c,g⟩:=mW (r:=r) _ _ _ (h _ (Ext.drew w)) b k cs;refine⟨.normal,a',w',c,StepsIn.head (fenced_calm hb f rfl) (stepR_region_draw) ?_⟩;have e: ∀t,Ga (P.follows .mixedOrders) ops t=BJ ops.size:=λt=>by
   simp only[Ga,j,NG];have m:FU ops.size false=l6 ops.size 0:=by
    apply Array.ext
    ·simp[l6]
    ·have: ∀i,Fg i 0=false:=λi=>by rfl
     simp[l6,this]
   grind[IP,Oa]
  grind
def Iq (op:Op):Bool:=match op with
 | .load .. | .fieldAddr .. | .indexAddr .. | .build .. | .field .. | .extract .. | .binOp .. | .move _| .assign _| .convert .. =>true
 | _=>false
theorem PZ {s:Sem AC} {f:B6} {args:Array AC} {w w':A2} (h:(do pure (Next.value (<-s)):Sem Next).run P w= .ok (.enter f args) w'):False:=by
 cases a:s.run P w with
 |ok
 |halt=>simp_all
theorem AR {o:Oper} {a:Act} {w:A2} {v:AC} (h:Iq o.op=true) (d:di P o a w v):(execOp a.eval o).run P w= .ok (.value v) w/\ ∀c,o.op≠ .defer c:=by
 obtain⟨dst,op,type,pos,after,guard⟩:=o;have e: ∀f args w',(execOp a.eval ⟨dst,op,type,pos,after,guard⟩).run P w≠ .ok (.enter f args) w':=λf args w' b=>by
  cases op<;>simp[Iq,FS] at h<;>first|exact PZ b|(simp[execOp] at b;done)
 refine⟨?_,λc hc=>by subst hc;cases h⟩
 grind[di]
def cop (P:B1) (ρ:Operand->Option AC) (op:Op) (w:A2) (K:AC->A2->Prop):Prop:=match op with
 | .send ch x=>match ρ ch,ρ x with
   |some (.chan p),some v=> ∀w1,Ext w w1-> ∃r cap a s m,p=some r/\ChO w1 r cap a s m/\a.length<cap/\K undef (w1.putObj r (.chan cap ⟨a++[v]⟩ false (s+1) m false))
   | _, _=>dp 130 op
 | .select cs bl=>match bl,cs.toList with
   |false,[c]=>match c.send,ρ c.chan,P.info? c.elem,uI P c.elem with
    |none,some (.chan p),some i,some el=>match i.zero with
     |some z=> ∀w1,Ext w w1-> ∃r cap a s m,p=some r/\ChO w1 r cap a s m/\(a=[]->K (.tuple ⟨[.int .i64 (-1),.bool false,z]⟩) w1)/\
      ∀v vs,a=v::vs-> ∃x:el.T,v=el.gR x/\K (.tuple ⟨[.int .i64 0,.bool true,el.gR x]⟩) (w1.putObj r (.chan cap ⟨vs⟩ false s (m+1) false))
     |none=>dp 131 op
    | _, _, _, _=>dp 132 op
   | _, _=>dp 133 op
 | _=>dp 134 op
theorem zj (w:A2) (r cap:Nat) (a:Array AC) (cl:Bool) (s m:Nat) (b:Bool):w.setChan r cap a cl s m b=w.putObj r (.chan cap a cl s m b):=rfl
theorem OX {ρ:Operand->Option AC} {a:Act} (d: ∀x v,ρ x=some v->a.eval x=v) {o:Oper} {w w':A2} {K:AC->A2->Prop} (h:cop P ρ o.op w K) (g:Ext w w'):
 (∀c,o.op≠ .defer c)/\ ∃v j,CmR P o a w' v j/\K v j:=by
 obtain⟨dst,op,type,pos,after,guard⟩:=o;unfold cop at h;simp only at h;split at h
 ·rename_i ch x;refine⟨λc hc=>(by cases hc),?_⟩;split at h
  ·rename_i p v e hv;obtain⟨r,cap,k,s,m,rfl,hc,l,f⟩:=h w' g;refine⟨_, _,⟨_, _, _,(by simp only[execOp,d _ _ e,d _ _ hv];rfl),λfr cs es b=>?_⟩,f⟩;have:=Go.Conc.step_lone_send_room (z':= .tuple #[]) b hc (by simpa using l);rw[this,zj];simp
  ·exact h.elim
 ·rename_i cs bl;refine⟨λc hc=>(by cases hc),?_⟩;split at h
  ·rename_i c e9;split at h
   ·rename_i p i el n e hi y;split at h
    ·rename_i z q;obtain⟨r,cap,k,s,m,rfl,hc,h0,h1⟩:=h w' g;have t:cs= #[c]:=by cases cs;simp_all
     have dM:(execOp a.eval ⟨dst,.select cs false,type,pos,after,guard⟩).run P w'= .ok (.comm #[TJ r z] false .select) w':=by
      subst t;have u:(zeroValue c.elem).run P w'= .ok z w':=by simp[zeroValue,ft hi,q]
      simp[execOp,n,d _ _ e,u,TJ]
     cases k with
     |nil=>exact⟨_, _,⟨_, _, _,dM,λfr cs es b=>Go.Conc.step_lone_select_default b hc⟩,h0 rfl⟩
     |cons v vs=>
      obtain⟨x,rfl,f⟩:=h1 v vs rfl;refine⟨_, _,⟨_, _, _,dM,λfr cs es b=>?_⟩,f⟩;have:=Go.Conc.step_lone_select_recv_buf b hc (by simp);rw[this,zj];simp[goInt]
    ·exact h.elim
   ·exact h.elim
  ·exact h.elim
 ·exact h.elim
def rxC (C:dD P) (ops:Array Oper) (N:Nat):List Nat->List bO->A2->(List bO->A2->Prop)->Prop
 |[],env,w,K=>K env w
 |i::r,env,w,K=>match ops[i]? with
  |none=>False
  |some ⟨dst,op,type,pos,after,guard⟩=>match guard with
   |some _=>dp 135 op
   |none=>if oN ops N env [] dst then match Xb op with
     |true=>cop P (xL env []) op w (λv a=>wQ env dst [] none v (λenv=>rxC C ops N r env a K))
     |false=>if Iq op then oA C ops env [] none ⟨dst,op,type,pos,after,none⟩ w (λv=>wQ env dst [] none v (λenv=>rxC C ops N r env w K)) else dp 136 op
    else dp 137 op
theorem F6 {ops:Array Oper} {C:dD P} (f:Wr S ops): ∀(l:List Nat) (env:List bO) (a:Act) (w w':A2) (K:List bO->A2->Prop),Fit S ops N D env a->rxC C ops N l env w K->Ext w w'->
 Tn P ops (λa1 w1=> ∃cX j,K cX j/\Fit S ops N D cX a1/\Ext j w1) l a w'
 |[],env,a,w,w',K,b,h,c=>⟨env,w,h,b,c⟩
 |i::l,env,a,w,w',K,b,h,c=>by
  unfold rxC at h;split at h
  ·exact h.elim
  ·rename_i dst op type pos after guard k;have n:=f _ (K1 k);split at h
   ·exact h.elim
   ·split at h
    ·rename_i p;have m: ∀v,Fit S ops N D (l_ env dst [] none v) (a.put dst v):=λv=>b.put p n rfl (λ_=>rfl) (λd=>absurd dZ d);refine⟨_,k,(by simp[Bx]),?_⟩;split at h
     ·obtain⟨d,v,q,hc,e⟩:=OX (o:=⟨dst,op,type,pos,after,none⟩) (a:=a) (λx v r=>b.ev dZ r) h c;rw[nE] at e;exact⟨d,v,q,.inr hc,F6 f l _ _ _ _ K (m v) e (Ext.refl _)⟩
     ·split at h
      ·rename_i s;obtain⟨v,e,t⟩:=yw (g:=none) b rfl h;obtain⟨u,d⟩:=AR s (t dZ w' c);rw[nE] at e;exact⟨d,v,w',.inl u,F6 f l _ _ _ _ K (m v) e c⟩
      ·exact h.elim
    ·exact h.elim
def nr (o:Oper):List Nat:=(o.after.toList.filter λe=>Do .any e).map (·.on)
def F7 (o:Oper):List Nat:=o.op.operands.toList.filterMap λ| .tmp t=>some t| _=>none
def aaW (op:Op):Bool:=match op with
 | .select .. =>true
 | _=>false
def Xc (ops:Array Oper) (i:Nat):Bool:=match ops[i]? with
 |none=>false
 |some o=>o.guard.isNone&& !aaW o.op&&((F7 o).all λt=>(BJ ops.size).all λj=>dx ops j != some t||(nr o).contains j)&&((nr o).all λj=>Fg j i)&&
  (o.dst.isNone||(BJ i).all λj=>dx ops j != o.dst)&&(Nat.beq (i+1) ops.size||(BJ ops.size).any λk=>Fg i k&&match ops[k]? with
   |some x=>(nr x).contains i
   |none=>false)
def FI (ops:Array Oper):Bool:=(BJ ops.size).all (Xc ops)
def wpS (P:B1) (ops:Array Oper) (Q:Act->A2->Prop):List Nat->Act->A2->Prop
 |[], _, _=>False
 |[i],a,w=> ∃o,ops[i]? =some o/\(∀c,o.op≠ .defer c)/\ ∃v w',CmR P o a w v w'/\Q (a.put o.dst v) w'
 |i::j::l,a,w=> ∃o,ops[i]? =some o/\(∀c,o.op≠ .defer c)/\ ∃v,(execOp a.eval o).run P w= .ok (.value v) w/\wpS P ops Q (j::l) (a.put o.dst v) w
theorem D8 {ops:Array Oper} {Q d:Act->A2->Prop} (e: ∀a w,Q a w->d a w): ∀(l:List Nat) (a:Act) (w:A2),wpS P ops Q l a w->wpS P ops d l a w
 |[i],a,w,h=>by
  obtain⟨o,b,c,v,w',hc,h⟩:=h;exact⟨o,b,c,v,w',hc,e _ _ h⟩
 |i::j::l,a,w,h=>by
  obtain⟨o,b,c,v,f,h⟩:=h;exact⟨o,b,c,v,f,D8 e _ _ _ h⟩
def CX (ops:Array Oper) (a:Act) (v:Nat->AC) (k:Nat):Nat->Act
 |0=>a
 |i+1=>(CX ops a v k i).put (dx ops (k+i)) (v i)
theorem AS {ops:Array Oper} {a:Act} {v:Nat->AC} {k:Nat}: ∀i,CX ops (a.put (dx ops k) (v 0)) (λj=>v (j+1)) (k+1) i=CX ops a v k (i+1)
 |0=>rfl
 |i+1=>by
  show(CX ops _ _ _ i).put _ _=(CX ops a v k _).put _ _;rw[AS,show k+1+i=k+(i+1) by omega]
theorem F8 {ops:Array Oper} {i:Nat} {o:Oper} (h:ops[i]? =some o):dx ops i=o.dst:=by grind[dx]
theorem IQ {ops:Array Oper} {Q:Act->A2->Prop} {w:A2}: ∀(d k:Nat) (a:Act),wpS P ops Q (H6 k (d+1)) a w->
 ∃(v:Nat->AC),(∀i,i<d-> ∃o,ops[k+i]? =some o/\(∀c,o.op≠ .defer c)/\(execOp (CX ops a v k i).eval o).run P w= .ok (.value (v i)) w)/\
  ∃o,ops[k+d]? =some o/\(∀c,o.op≠ .defer c)/\ ∃u w',CmR P o (CX ops a v k d) w u w'/\Q ((CX ops a v k d).put o.dst u) w'
 |0,k,a,h=>by
  obtain⟨o,h1,f,u,w',b,l⟩:=h;exact⟨λ_=>undef,by grind,o,h1,f,u,w',b,l⟩
 |d+1,k,a,h=>by
  rw[J5] at h;have e:H6 (k+1) (d+1)=(k+1)::H6 (k+1+1) d:=J5;rw[e] at h;obtain⟨o,h1,m,g,f,b⟩:=h;rw[<-e] at b;obtain⟨v,q,n,r,p,u,w',k4,k5⟩:=IQ d (k+1) _ b
  let j:Nat->AC:=λi=>match i with
   |0=>g
   |i+1=>v i
  have sh: ∀i,CX ops (a.put o.dst g) v (k+1) i=CX ops a j k (i+1):=λi=>by
   rw[<-AS,F8 h1]
  refine⟨j,λi hi=>?_,n,by grind,p,u,w',?_,?_⟩
  ·cases i with
   |zero=>exact⟨o,h1,m,f⟩
   |succ i=>
    grind
  ·rw[<-sh d];exact k4
  ·rw[<-sh d];exact k5
structure SR (ops:Array Oper) (m:Nat) (v:Nat->AC) (a:Act) (S:Nat->Prop) (b:Act):Prop where
 df:b.defers=a.defers
 sz:b.tmps.size=a.tmps.size
 yes: ∀j t,j<m->S j->dx ops j=some t->b.tmps[t]? =if t<a.tmps.size then some (v j) else none
 no: ∀t,(∀j,j<m->S j->dx ops j≠some t)->b.tmps[t]? =a.tmps[t]?
theorem SR.step {ops:Array Oper} {m:Nat} {v:Nat->AC} {a b:Act} {S S':Nat->Prop} (h:SR ops m v a S b) {i:Nat} (hi:i<m) (l: ∀j,S' j<->S j\/j=i) (o: ∀j t,j<m->dx ops j=some t->dx ops i=some t->j=i):SR ops m v a S' (b.put (dx ops i) (v i)):=by
 cases n:dx ops i with
 |none=>
  refine⟨h.df,h.sz,λj t k f g=>?_,λt g=>h.no t (by grind)⟩;rcases(l j).1 f with f|rfl
  ·exact h.yes j t k f g
  grind
 |some d=>
  have p:(b.put (some d) (v i)).tmps.size=a.tmps.size:=by simp[DH,h.sz]
  refine⟨h.df,p,λj t k f g=>?_,λt g=>?_⟩
  ·by_cases e:t=d
   ·subst e;have:j=i:=o j t k g n;subst this;simp only[DH];rw[Array.getElem?_setIfInBounds];simp[h.sz]
   ·rcases(l j).1 f with f|rfl
    ·have:(b.put (some d) (v i)).tmps[t]? =b.tmps[t]? :=by simp[DH,Dn (λc=>e c.symm)]
     rw[this];exact h.yes j t k f g
    grind
  ·have q:d≠t:=λe=>g i hi ((l i).2 (.inr rfl)) (by rw[n,e]);have:(b.put (some d) (v i)).tmps[t]? =b.tmps[t]? :=by simp[DH,Dn q]
   rw[this];exact h.no t (by grind)
theorem SR.eq {ops:Array Oper} {m:Nat} {v:Nat->AC} {a b c:Act} {S T:Nat->Prop} (h:SR ops m v a S b) (k:SR ops m v a T c) (i: ∀j,j<m->(S j<->T j)):b=c:=by
 have:=by
  apply JS;apply List.ext_getElem?;intro t;have e:b.tmps[t]? =c.tmps[t]? :=by
   by_cases l: ∃j,j<m/\S j/\dx ops j=some t
   ·obtain⟨j,d,f,g⟩:=l;rw[h.yes j t d f g,k.yes j t d ((i j d).1 f) g]
   ·rw[h.no t (by grind),k.no t (by grind)]
  simpa
 cases b;cases c;have h1:=h.df.trans k.df.symm
 grind
theorem fo {ops:Array Oper} (a:FI ops=true) {i:Nat} {o:Oper} (d:ops[i]? =some o):
 o.guard=none/\(∀cs b,o.op≠ .select cs b)/\(∀t∈F7 o, ∀j,j<ops.size->dx ops j=some t->j∈nr o)/\(∀j∈nr o,j<i)/\(∀j t,j<i->dx ops j=some t->dx ops i≠some t)/\
  (i+1=ops.size\/ ∃k x,i<k/\ops[k]? =some x/\i∈nr x):=by
 have hi:=(CW.1 d).1;unfold FI at a;rw[E5] at a;have h:=a i (F2.2 hi);unfold Xc at h;rw[d] at h;simp at h;obtain⟨⟨⟨⟨⟨h1,f⟩,l⟩,g⟩,m⟩,n⟩:=h;refine⟨h1,λcs b e=>(by rw[e] at f;cases f),by grind,g,λj t p q c=>?_,?_⟩
 ·grind[F8]
 grind
theorem AT {ops:Array Oper} {a:Array Bool} (d:a.size=ops.size) {i:Nat}:i∈B7 .any ops a<-> ∃o,ops[i]? =some o/\a.getD i false=false/\ ∀j∈nr o,a.getD j false=true:=by
 have c:i<ops.size->(a.getD i true=a.getD i false):=λh=>by simp[JW,d,h]
 unfold B7;rw[DA,F2];constructor
 ·rintro⟨hi,hc⟩;obtain⟨o,b⟩: ∃o,ops[i]? =some o:=⟨_,JX hi⟩;rw[b,c hi] at hc;simp only[GS,IR,BY,HB,HZ] at hc;refine⟨o,b,hc.1,λj f=>?_⟩;obtain⟨e,g,rfl⟩:=Gd.1 f
  grind
 ·rintro⟨o,b,h1,k⟩;have hi:i<ops.size:=(CW.1 b).1;refine⟨hi,?_⟩;rw[b,c hi];simp only[GS,IR,BY,HB,HZ,GD];refine⟨h1,λe g=>?_⟩;by_cases hb:Do .any e=true
  ·exact .inr (k e.on (Gd.2 (by grind)))
  grind
theorem yI {l:Array Bool} {i j:Nat} (hi:i<l.size):(l.setIfInBounds i true).getD j false=true<->l.getD j false=true\/j=i:=by
 by_cases j=i
 simp_all
 ·simp
  grind
theorem Ul {ops:Array Oper} {Q:Act->A2->Prop} {a:Act} {w:A2} (z:FI ops=true) {m:Nat} (hm:ops.size=m+1) (h:wpS P ops Q (BJ (m+1)) a w):
 ∀(s t:Nat) (f:Array Bool) (b:Act),f.size=ops.size->(BJ ops.size).countP (λj=> !f.getD j false)=s->f.getD m false=false->
  (∀i o,ops[i]? =some o->f.getD i false=true-> ∀j∈nr o,f.getD j false=true)->
  (∃v:Nat->AC,(∀i,i<m-> ∃o,ops[i]? =some o/\(∀c,o.op≠ .defer c)/\(execOp (CX ops a v 0 i).eval o).run P w= .ok (.value (v i)) w)/\
   (∃o,ops[m]? =some o/\(∀c,o.op≠ .defer c)/\ ∃u w',CmR P o (CX ops a v 0 m) w u w'/\Q ((CX ops a v 0 m).put o.dst u) w')/\SR ops m v a (λj=>f.getD j false=true) b)->
  Tn P ops Q (G1 .any ops s t f []) b w:=by
 intro s
 induction s with
 |zero=>
  intro t f b y hc B _ _;exfalso;rw[Of] at hc;have:=hc m (F2.2 (by omega));rw[B] at this;exact this rfl
 |succ s ih=>
  intro t f b y hc B T J;obtain⟨v,hv,⟨K,C,U,u,w',V,W⟩,E⟩:=J;have X: ∀i j t,i<m->j<m->dx ops i=some t->dx ops j=some t->j=i:=λi j t hi g h1 p=>by
   obtain⟨oi,l, _⟩:=hv i hi;obtain⟨oj,F, _⟩:=hv j g;rcases Nat.lt_trichotomy i j with q|q|q
   ·exact absurd p ((fo z F).2.2.2.2.1 i t q h1)
   ·exact q.symm
   ·exact absurd h1 ((fo z l).2.2.2.2.1 j t q p)
  have L: ∀k,k<=m->SR ops m v a (λj=>j<k) (CX ops a v 0 k):=by
   intro k
   induction k with
   |zero=>exact λ_=>⟨rfl,rfl,λj t _ hs=>absurd hs (Nat.not_lt_zero _),λt _=>rfl⟩
   |succ k M=>
    intro r;have:=(M (by omega)).step (S':=λj=>j<k+1) (i:=k) (by omega) (λj=>by omega) (λj t g h1 p=>X k j t (by omega) g p h1);show SR ops m v a _ ((CX ops a v 0 k).put (dx ops (0+k)) (v k));rw[Kb];exact this
  have same: ∀i o,ops[i]? =some o->i<=m->(∀j∈nr o,f.getD j false=true)->execOp b.eval o=execOp (CX ops a v 0 i).eval o:=λi o l hi D=>by
   obtain⟨_,hns,JT,Y, _, _⟩:=fo z l;refine execOp_congr o hns λx J=>?_;cases x with
   |tmp t=>
    have ht:t∈F7 o:=List.mem_filterMap.2 ⟨.tmp t,by simpa using J,rfl⟩;have key:b.tmps[t]? =(CX ops a v 0 i).tmps[t]? :=by
     by_cases g: ∃j,j<ops.size/\dx ops j=some t
     ·obtain⟨j,Z,N⟩:=g;have G:=JT t ht j Z N;have O:=Y j G;rw[E.yes j t (by omega) (D j G) N,(L i hi).yes j t (by omega) O N]
     ·rw[E.no t λj zW _ R=>g ⟨j,by omega,R⟩,(L i hi).no t λj zW _ R=>g ⟨j,by omega,R⟩]
    simp only[GG,GF,key]
   | _=>rfl
  have wt: ∀i o,ops[i]? =some o-> ∀c:Act,Bx o (yielded ops c.tmps)=true:=λi o l c=>by
   unfold Bx;rw[(fo z l).1]
  simp only[G1];change Tn P ops Q (match (B7 .any ops f)[t % (B7 .any ops f).length]? with
   |some i=>G1 .any ops s (t / (B7 .any ops f).length) (f.setIfInBounds i true) [i]
   |none=>[].reverse) b w
  cases hi:(B7 .any ops f)[t % (B7 .any ops f).length]? with
  |none=>
   exfalso;have FH:B7 .any ops f=[]:=by
    cases hr:B7 .any ops f with
    |nil=>rfl
    |cons x xs=>
     rw[hr] at hi;have Y:t % (x::xs).length<(x::xs).length:=Nat.mod_lt _ (by simp);rw[List.getElem?_eq_none_iff] at hi;omega
   have least: ∀k,k<=m->(∀j,j<k->f.getD j false=true)->f.getD k false=true:=λk r g=>by
    cases A:f.getD k false with
    |true=>rfl
    |false=>
     exfalso;obtain⟨o,l⟩: ∃o,ops[k]? =some o:=⟨_,JX (by omega)⟩;have:k∈B7 .any ops f:=(AT y).2 ⟨o,l,A,λj G=>g j ((fo z l).2.2.2.1 j G)⟩;rw[FH] at this;cases this
   have all: ∀k,k<=m->f.getD k false=true:=by
    intro k
    induction k using Kf with
    | _ k M=>exact λr=>least k r λj g=>M j g (by omega)
   rw[all m (Dx _)] at B;cases B
  |some i=>
   simp only[];rw[linearise_go_acc,List.reverse_singleton,List.singleton_append];have hir:=List.mem_of_getElem? hi;obtain⟨o,l,lT,D⟩:=(AT y).1 hir;have H:i<ops.size:=(CW.1 l).1;by_cases him:i=m
   ·subst him;rw[C] at l;cases l;have all: ∀d k,k+d=i->k<i->f.getD k false=true:=by
     intro d
     induction d using Kf with
     | _ d ihd=>
       intro k r hki;obtain⟨ok,jI, _⟩:=hv k hki;rcases(fo z jI).2.2.2.2.2 with q|⟨j,x,hkj,I,uK⟩
       ·omega
       ·have Z:j<ops.size:=(CW.1 I).1;by_cases O:j=i
        ·subst O;rw[C] at I;cases I;exact D k uK
        ·exact T j x I (ihd (i - j) (by omega) j (by omega) (by omega)) k uK
    have heq:b=CX ops a v 0 i:=E.eq (L i (Dx _)) λj g=>⟨λ_=>g,λ_=>all (i - j) j (by omega) g⟩;have hf:s=0:=by
     have h1:(BJ ops.size).countP (λj=> !f.getD j false)<=1:=by
      rw[hm,Oh,J6];have:(BJ i).countP (λj=> !f.getD j false)=0:=Of.2 λj g=>by
       rw[all (i - j) j (by have:=F2.1 g;omega) (F2.1 g)];decide
      rw[this];exact Nat.le_trans (by rw[Kb];exact List.countP_le_length) (Dx 1)
     omega
    subst hf;refine⟨K,C,wt i K C b,U,u,w',.inr ?_,?_⟩
    ·rw[heq];exact V
    ·rw[heq];exact W
   ·have S:i<m:=by omega
    obtain⟨o',F,hn,dM⟩:=hv i S;rw[l] at F;cases F;refine⟨o,l,wt i o l b,hn,v i,w,.inl (by rw[same i o l (by omega) D];exact dM),?_⟩;have NM:(f.setIfInBounds i true).size=ops.size:=by simp[y]
    refine ih _ _ _ NM ?_ ?_ ?_ ⟨v,hv,⟨K,C,U,u,w',V,W⟩,?_⟩
    ·
     have Zb: ∀n,i<n->(BJ n).countP (λj=> !f.getD j false)=(BJ n).countP (λj=> !(f.setIfInBounds i true).getD j false)+1:=by
      intro n
      induction n with
      |zero=>intro h;omega
      |succ n ihn=>
       intro lL;rw[Oh,J6,J6];by_cases e:i=n
       ·subst e;have h1:(BJ i).countP (λj=> !(f.setIfInBounds i true).getD j false)=(BJ i).countP (λj=> !f.getD j false):=by
         refine List.countP_congr λj g=>?_;have g:=F2.1 g;have:(f.setIfInBounds i true).getD j false=f.getD j false:=by
          simp only[GF];rw[Dn (by omega)]
         rw[this]
        have p:(f.setIfInBounds i true).getD i false=true:=(yI (by rw[y];exact H)).2 (.inr rfl);rw[h1,H7,H7,p,lT];rfl
       ·have p:(f.setIfInBounds i true).getD n false=f.getD n false:=by
         simp only[GF];rw[Dn e]
        rw[ihn (by omega),H7,H7,p];omega
     have:=Zb ops.size H;omega
    ·have:(f.setIfInBounds i true).getD m false=f.getD m false:=by
      simp only[GF];rw[Dn him]
     rw[this];exact B
    ·intro k x r A j g;rw[yI (by rw[y];exact H)] at A ⊢;rcases A with A|rfl
     ·exact .inl (T k x r A j g)
     ·rw[l] at r;cases r;exact .inl (D j g)
    ·have:=E.step (S':=λj=>(f.setIfInBounds i true).getD j false=true) S (λj=>yI (by rw[y];exact H)) (λj t g h1 p=>X i j t S g p h1);rw[F8 l] at this;exact this
theorem Xe {ops:Array Oper} {Q:Act->A2->Prop} (c:FI ops=true) {w:A2}: ∀(l:List Nat) (a:Act),wpS P ops Q l a w->Tn P ops Q l a w
 |[i],a,h=>by
  obtain⟨o,b,d,v,w',hc,e⟩:=h;exact⟨o,b,by unfold Bx;rw[(fo c b).1],d,v,w',.inr hc,e⟩
 |i::j::l,a,h=>by
  obtain⟨o,b,d,v,f,g⟩:=h;exact⟨o,b,by unfold Bx;rw[(fo c b).1],d,v,w,.inl f,Xe c _ _ g⟩
theorem Ao {r:Option Nat} {id:Nat} {ops:Array Oper} {f:Bool} {Q:Exit->Act->A2->Prop} {a:Act} {w:A2} (s:P.follows .mixedOrders=true) (g:FI ops=true) (h0:0<ops.size)
 (h: ∀w',Ext w w'->wpS P ops (Q .normal) (BJ ops.size) a w'):(Code.region id ops f).wpIn (WF r) 0 P Q a w:=by
 intro b k cs _ hb l;cases f with
 |false=>
  obtain⟨a',w',c,d⟩:=mW (r:=r) _ _ _ (Xe g _ _ (h w (Ext.refl w))) b k cs;exact⟨.normal,a',w',c,StepsIn.head (fenced_calm hb l rfl) stepR_region d⟩
 |true=>
  have e:=h _ (Ext.drew w);obtain⟨m,n⟩: ∃m,ops.size=m+1:=⟨ops.size - 1,by omega⟩;have key: ∀t,Tn P ops (Q .normal) (Ga (P.follows .mixedOrders) ops t) a {w with drawn:=w.drawn+1}:=λt=>by
   simp only[Ga,s,Bool.true_or,if_true,NG];rw[n] at e;have x:=IQ m 0 a (by rw[<-Oa];exact e);obtain⟨v,hv,o,A,y,u,w',hc,c⟩:=x;have p: ∀j,(FU ops.size false).getD j false=false:=λj=>by
    by_cases z:j<ops.size<;>simp[JW,z]
   refine Ul g n e ops.size t _ a (by simp) ?_ (p m) (λi o _ q=>by rw[p] at q;cases q) ⟨v,λi hi=>?_,⟨o,?_,y,u,w',hc,c⟩,⟨rfl,rfl,by simp_all,λt _=>rfl⟩⟩
   simp_all
   grind
   grind
  obtain⟨a',w',c,d⟩:=mW (r:=r) _ _ _ (key _) b k cs;exact⟨.normal,a',w',c,StepsIn.head (fenced_calm hb l rfl) (stepR_region_draw) d⟩
def rxP (C:dD P) (ops:Array Oper) (N:Nat):List Nat->List bO->A2->(List bO->A2->Prop)->Prop
 |[], _, _, _=>False
 |i::r,env,w,K=>match ops[i]? with
  |none=>False
  |some ⟨dst,op,type,pos,after, _⟩=>if oN ops N env [] dst then match r with
    |[]=>cop P (xL env []) op w (λv a=>wQ env dst [] none v (λenv=>K env a))
    |j::l=>if Iq op then oA C ops env [] none ⟨dst,op,type,pos,after,none⟩ w (λv=>wQ env dst [] none v (λenv=>rxP C ops N (j::l) env w K)) else dp 138 op
   else dp 139 op
theorem OY {ops:Array Oper} {C:dD P} (k:FI ops=true) (m:Wr S ops): ∀(l:List Nat) (env:List bO) (a:Act) (w w':A2) (K:List bO->A2->Prop),Fit S ops N D env a->rxP C ops N l env w K->Ext w w'->
 wpS P ops (λa1 w1=> ∃cX n,K cX n/\Fit S ops N D cX a1/\Ext n w1) l a w'
 |[], _, _, _, _, _, _,h, _=>h.elim
 |i::r,env,a,w,w',K,e,h,f=>by
  unfold rxP at h;split at h
  ·exact h.elim
  ·rename_i dst op type pos after guard d;have s:=m _ (K1 d);have t:guard=none:=(fo k d).1;subst t;split at h
   ·rename_i u;have p: ∀v,Fit S ops N D (l_ env dst [] none v) (a.put dst v):=λv=>e.put u s rfl (λ_=>rfl) (λb=>absurd dZ b);split at h
    ·obtain⟨b,v,q,hc,c⟩:=OX (o:=⟨dst,op,type,pos,after,none⟩) (a:=a) (λx v y=>e.ev dZ y) h f;rw[nE] at c;exact⟨_,d,b,v,q,hc, _,q,c,p v,Ext.refl _⟩
    ·rename_i j l;split at h
     ·rename_i z;obtain⟨v,c,A⟩:=yw (g:=none) e rfl h;obtain⟨B,b⟩:=AR (o:=⟨dst,op,type,pos,after,none⟩) z (A dZ w' f);rw[nE] at c;exact⟨_,d,b,v,B,OY k m (j::l) _ _ _ _ K (p v) c f⟩
     ·exact h.elim
   ·exact h.elim
def Ov (C:dD P) (N:Nat) (ops:Array Oper) (a:Bool) (env:List bO) (w:A2) (K:List bO->A2->Prop):Prop:=
 if aaU ops then
  if T1 ops then rxC C ops N (BJ ops.size) env w (λenv w=>jx (jW env) λenv=>K env w)
  else if FI ops&&Fg 0 ops.size then rxP C ops N (BJ ops.size) env w (λenv w=>jx (jW env) λenv=>K env w) else False
 else if a then
  if Oq ops then Yy C ops N env w (λenv w=>jx (jW env) λenv=>K env w) else False
 else rxL C ops N (BJ ops.size) env w (λenv w=>jx (jW env) λenv=>K env w)
inductive Md where
 |run|to (b:Nat) (K:List bO->A2->Prop)|Ww (b:Nat)
def atR (b:Nat) (y:Code):Bool:=match jy y with
 |some i=>Nat.beq i b
 |none=>false
def FJ (b:Nat):Code->Option Code
 | .seq _ y=>match atR b y with
   |true=>some y
   |false=>FJ b y
 | _=>none
def oG (b:Nat):Code->List Nat
 | .seq x y=>writes x++(match atR b y with
   |true=>[]
   |false=>oG b y)
 | _=>[]
def aan (b:Nat):Code->Bool
 | .seq x y=>match atR b x with
   |true=>true
   |false=>aan b y
 |c=>atR b c
def aaX (aQ:Nat->aY) (c y:Code):Option (Nat×aY):=match jy c with
 |none=>none
 |some a=>match aQ (1000000+a) with
  |[]=>none
  |(b, _)::sl=>match aan b y with
   |true=>some (b,sl)
   |false=>none
def N4 (sl:aY) (J:oq (sl.map (·.2))->A2->Prop) (env:List bO) (w:A2):Prop:=match oP sl env with
 |some s=>J s w
 |none=>False
def cz (C:dD P) (aQ:Nat->aY) (N:Nat):Code->Md->List bO->A2->(List bO->A2->Prop)->(Nat->List bO->A2->Prop)->(List bO->A2->Prop)->Prop
 | .skip,.run,env,w,Kn, _, _=>Kn env w
 | .region _ ops g,.run,env,w,Kn, _, _=>Ov C N ops g env w Kn
 | .seq x y,m,env,w,Kn,Kx,Kr=>match m with
   | .run=>match aaX aQ x y with
     |none=>cz C aQ N x .run env w (λenv w=>cz C aQ N y .run env w Kn Kx Kr) Kx Kr
     |some (b,sl)=> ∃J:oq (sl.map (·.2))->A2->Prop,
      cz C aQ N x .run env w (λenv w=>match atR b y with
       |true=>N4 sl J env w
       |false=>cz C aQ N y (.to b (N4 sl J)) env w Kn Kx Kr) Kx Kr/\
      ∀s w1,J s w1->jx (kY sl s++env.filter λe=> !(oG b (.seq x y)).contains e.t) λcX=>match atR b y with
       |true=>cz C aQ N y .run cX w1 Kn Kx Kr
       |false=>cz C aQ N y (.Ww b) cX w1 Kn Kx Kr
   | .to b K=>cz C aQ N x .run env w (λenv w=>match atR b y with
    |true=>K env w
    |false=>cz C aQ N y (.to b K) env w Kn Kx Kr) Kx Kr
   | .Ww b=>match atR b y with
    |true=>cz C aQ N y .run env w Kn Kx Kr
    |false=>cz C aQ N y (.Ww b) env w Kn Kx Kr
 | .cond c x y,.run,env,w,Kn,Kx,Kr=>match xL env [] c with
   |some (.bool b)=>aH b (cz C aQ N x .run env w Kn Kx Kr) (cz C aQ N y .run env w Kn Kx Kr)
   | _=>False
 | .block id x,.run,env,w,Kn,Kx,Kr=>cz C aQ N x .run env w Kn (λa env w=>if a=id then Kn env w else Kx a env w) Kr
 | .loop x,.run,env,w, _,Kx,Kr=>
   let sl:=aQ ((jy x).getD 0)
   match oP sl env with
   |none=>False
   |some h=> ∃I:Nat->oq (sl.map (·.2))->A2->Prop,(∃n, ∀w1,Ext w w1->I n h w1)/\
    ∀n s w1,I n s w1->jx (kY sl s++env.filter λe=> !(writes x).contains e.t) λcX=>cz C aQ N x .run cX w1
     (λi j=>match oP sl i with
      |some k=> ∀d,Ext j d-> ∃f,f<n/\I f k d
      |none=>False) Kx Kr
 | .exit id,.run,env,w, _,Kx, _=>Kx id env w
 | .ret,.run,env,w, _, _,Kr=>Kr env w
 | _, _, _, _, _, _, _=>False
@[reducible] def rH (C:dD P) (aQ:Nat->aY) (N:Nat) (c:Code) (env:List bO) (w:A2) (Kn:List bO->A2->Prop) (Kx:Nat->List bO->A2->Prop) (Kr:List bO->A2->Prop):Prop:=
 cz C aQ N c .run env w Kn Kx Kr
def Qp (S:Nat->Option (Option AC)) (N:Nat) (D:List Deferred) (Kn:List bO->A2->Prop) (Kx:Nat->List bO->A2->Prop) (Kr:List bO->A2->Prop):Exit->Act->A2->Prop
 | .normal,a,w=> ∃env b,Kn env b/\plain env/\Fit S #[] N D env a/\Ext b w
 | .exit id,a,w=> ∃env b,Kx id env b/\plain env/\Fit S #[] N D env a/\Ext b w
 | .ret,a,w=> ∃env b,Kr env b/\plain env/\Fit S #[] N D env a/\Ext b w
 | _, _, _=>False
theorem Um {ops:Array Oper} (h: ∀k∈TZ ops,S k=none):Wr S ops:=λo a k b=>h k (by
 simp[TZ]
 grind)
theorem P0 {r:Option Nat} {C:dD P} {id:Nat} {ops:Array Oper} {b:Bool} {w w':A2} {Kn:List bO->A2->Prop} {Kx:Nat->List bO->A2->Prop} {Kr:List bO->A2->Prop}
 (m: ∀k∈TZ ops,S k=none) (n:plain env) (o:Fit S #[] N D env a) (h:Ov C N ops b env w Kn) (d:Ext w w'):
 (Code.region id ops b).wpIn (WF r) 0 P (Qp S N D Kn Kx Kr) a w':=by
 have e:Fit S ops N D env a:=o.PY n;have f:=Um m;have p: ∀env a w w',Kn (jW env) w->Fit S ops N D env a->Ext w w'->Qp S N D Kn Kx Kr .normal a w':=λenv a w w' q l s=>
  ⟨_,w,q,(AQ (ops':= #[]) l).2,(AQ l).1,s⟩
 have t: ∀c a w,¬ Qp S N D Kn Kx Kr (.panic c) a w:=λ_ _ _ h=>h;simp only[Ov,jC] at h;split at h
 ·split at h
  ·rename_i u;refine An C.mixed u λg i=>?_;have:=F6 (C:=C) f _ env a w g _ e h (d.trans i)
   grind[D7]
  ·split at h
   ·rename_i j
    simp_all
    refine Ao C.mixed j.1 j.2 λg i=>?_;have:=OY (C:=C) j.1 f _ env a w g _ e h (d.trans i)
    grind[D8]
   ·exact h.elim
 cases b with
 |false=>exact wpIn_region (by grind[OS])
 |true=>
  simp only[if_true] at h;split at h
  ·rename_i v;exact wpIn_region_any C.mixed (zh _ _ _ _ (nP (Uk (C:=C) f v t env a w _ e h p) (d.trans (Ext.drew _))))
  ·exact AI h
theorem tw: ∀{l:aY} {s:oq (l.map (·.2))} {e:bO},e∈kY l s->e.ch=[]/\e.g=none
 |sc::r,s,e,h=>by
  simp[kY] at h;rcases h with rfl|h;simp
  ·exact tw h
theorem Ce: ∀{l:aY} {s:oq (l.map (·.2))} {e:bO},e∈kY l s->e.k=none
 |t::r,s,e,h=>by
  simp[kY] at h;rcases h with rfl|h
  ·rfl
  ·exact Ce h
theorem l8: ∀{l m:List bO} {t:Nat} {e:bO},bW (l++m) t=some e->(bW l t=some e)\/(bW l t=none/\bW m t=some e)
 |[],m,t,e,h=> .inr ⟨rfl,h⟩
 |x::r,m,t,e,h=>by
  simp[bW] at h ⊢;split at h
  grind
  ·rename_i a;rw[if_neg a];exact l8 h
theorem pY: ∀{l:aY} {env:List bO} {s:oq (l.map (·.2))} {t:Nat} {e:bO},oP l env=some s->bW (kY l s) t=some e-> ∃e',bW env t=some e'/\e'.v=e.v
 |(t0,sc)::r,env,s,t,e,a,h=>by
  simp only[oP] at a;split at a
  ·rename_i c d;split at a
   ·rename_i x y f b;cases a;simp only[kY,bW] at h;split at h
    ·grind[El.ib]
    ·exact pY b h
   ·cases a
  ·cases a
theorem yJ {l:List bO} {p:bO->Bool} {t:Nat} {e:bO} (h:bW (l.filter p) t=some e):e∈l/\p e=true:=by
 have:=bT h;simpa
theorem zk {F:Fence} {m:Nat} {Q:Exit->Act->A2->Prop} {c:Code} (R:Nat->Act->A2->Prop) {n0:Nat} {a:Act} {w:A2} (h0:R n0 a w)
 (round: ∀n a w,R n a w->c.wpIn F m P (Exit.then (λa' w'=> ∃d,d<n/\R d a' w') Q) a w):(Code.loop c).wpIn F m P Q a w:=by
 intro b k cs i hb g;have key: ∀j a w,R j a w->
  ∃e a' w',Q e a' w'/\ArrivesIn (Machine.fenced P F) P (lone (b.atR a (.code c:: .inLoop c::k)) cs w) b k cs e a' w':=by
  intro j
  induction j using Kf with
  | _ j l=>
    intro a w o;obtain⟨e,p,q,f,h⟩:=round j a w o b _ cs i hb g;cases e with
    |normal=>
     obtain⟨d,r,s⟩:=f;obtain⟨t,u,v,x,y⟩:=l d r _ _ s;exact⟨t,u,v,x,.of_steps (StepsIn.trans h (.one (fenced_calm hb g rfl) stepR_inLoop)) y⟩
    |exit
    |goto
    |ret
    |panic
    |outgrown=>exact⟨_,p,q,f,‹_›⟩
 obtain⟨e,a',w',f,h⟩:=key _ a w h0;exact⟨e,a',w',f,.of_steps (.one (fenced_calm hb g rfl) stepR_loop) h⟩
theorem Zc (b:Nat) (c:Code): ∀t:Nat,t∈oG b c->t∈writes c:=by
 induction c with
 |seq=>
  grind[oG,writes]
 | _=>intro t h;cases h
structure YD (P:B1) (r:Option Nat) (C:dD P) (aQ:Nat->aY) (N:Nat) (D:List Deferred) (c:Code):Prop where
 run: ∀(S:Nat->Option (Option AC)) (env:List bO) (a:Act) (w w':A2) (Kn:List bO->A2->Prop) (Kx:Nat->List bO->A2->Prop) (Kr:List bO->A2->Prop),
  (∀k∈writes c,S k=none)->plain env->Fit S #[] N D env a->cz C aQ N c .run env w Kn Kx Kr->Ext w w'->c.wpIn (WF r) 0 P (Qp S N D Kn Kx Kr) a w'
 to: ∀(b:Nat) (K:List bO->A2->Prop) (S:Nat->Option (Option AC)) (env:List bO) (a:Act) (w w':A2) (Kn:List bO->A2->Prop) (Kx:Nat->List bO->A2->Prop) (Kr:List bO->A2->Prop) (Q:Exit->Act->A2->Prop),
  (∀k∈oG b c,S k=none)->plain env->Fit S #[] N D env a->cz C aQ N c (.to b K) env w Kn Kx Kr->Ext w w'->(∀id a w,Qp S N D Kn Kx Kr (.exit id) a w->Q (.exit id) a w)->(∀a w,Qp S N D Kn Kx Kr .ret a w->Q .ret a w)->
  (∀y cX a1 w1 zY,FJ b c=some y->K cX w1->plain cX->Fit S #[] N D cX a1->Ext w1 zY->y.wpIn (WF r) 0 P Q a1 zY)->c.wpIn (WF r) 0 P Q a w'
 Ww: ∀(b:Nat) (S:Nat->Option (Option AC)) (env:List bO) (a:Act) (w w':A2) (Kn:List bO->A2->Prop) (Kx:Nat->List bO->A2->Prop) (Kr:List bO->A2->Prop) (y:Code),
  FJ b c=some y->(∀k∈writes c,S k=none)->plain env->Fit S #[] N D env a->cz C aQ N c (.Ww b) env w Kn Kx Kr->Ext w w'->y.wpIn (WF r) 0 P (Qp S N D Kn Kx Kr) a w'
theorem YD.of {r:Option Nat} {C:dD P} {aQ:Nat->aY} {c:Code} (h: ∀(S:Nat->Option (Option AC)) (env:List bO) (a:Act) (w w':A2) (Kn:List bO->A2->Prop) (Kx:Nat->List bO->A2->Prop) (Kr:List bO->A2->Prop),
 (∀k∈writes c,S k=none)->plain env->Fit S #[] N D env a->cz C aQ N c .run env w Kn Kx Kr->Ext w w'->c.wpIn (WF r) 0 P (Qp S N D Kn Kx Kr) a w')
 (h1: ∀b K env w Kn Kx Kr,¬ cz C aQ N c (.to b K) env w Kn Kx Kr) (d: ∀b env w Kn Kx Kr,¬ cz C aQ N c (.Ww b) env w Kn Kx Kr):YD P r C aQ N D c:=
 ⟨h,by grind,by grind⟩
theorem GK {r:Option Nat} {C:dD P} {aQ:Nat->aY}: ∀c:Code,YD P r C aQ N D c:=by
 intro c
 induction c with
 |skip=>exact .of (λS env a w w' Kn Kx Kr _ g f h l=>wpIn_skip ⟨env,w,h,g,f,l⟩) (λ_ _ _ _ _ _ _ h=>h) (λ_ _ _ _ _ _ h=>h)
 |region id ops draw=>exact .of (λS env a w w' Kn Kx Kr u g f h l=>P0 u g f h l) (λ_ _ _ _ _ _ _ h=>h) (λ_ _ _ _ _ _ h=>h)
 |seq x y TC M=>
  refine⟨?_,?_,?_⟩
  ·intro S env a w w' Kn Kx Kr u g f h l;simp only[cz] at h;split at h
   ·refine wpIn_seq (wpIn_mono (TC.run S env a w w' _ Kx Kr (λk d=>u k (by simp[writes,d])) g f h l) ?_);intro e a1 w1 o;cases e with
    |normal=>
     obtain⟨cX,p,d,X,Y,Z⟩:=o;exact M.run S cX a1 p w1 Kn Kx Kr (λk d=>u k (by simp[writes,d])) X Y d Z
    | _=>exact o
   ·rename_i b sl _;obtain⟨J,q,hJ⟩:=h;simp only[jC] at hJ
    let i:Nat->Option (Option AC):=λt=>if(oG b (.seq x y)).contains t then none else some (a.tmps[t]?)
    let dn:=env.filter λe=> !(oG b (.seq x y)).contains e.t
    have nil: ∀(tm:Array AC),jS #[] tm []:=λtm x q=>by cases q
    have DI: ∀t e,bW dn t=some e->a.tmps[t]? =some e.v/\(oG b (.seq x y)).contains t=false/\e.ch=[]:=by
     intro t e he;have ht:=yy he;have H:=yJ he;have F:(oG b (.seq x y)).contains t=false:=by rw[<-ht];simpa using H.2
     have A:bW env t=some e:=iI he (λy _ hyt=>by rw[hyt,F];rfl);exact⟨f.yes t e A (by rw[(g e H.1).1];exact nil _),F,(g e H.1).1⟩
    have head: ∀(m:List bO) (j:Act) (s:oq (sl.map (·.2))),plain m->Fit i #[] N D m j->oP sl m=some s->Fit i #[] N D (kY sl s++dn) j/\plain (kY sl s++dn):=by
     intro m j s sK B zZ;have O:plain (kY sl s++dn):=λe he=>by
      rcases FQ.1 he with he|he
      ·exact tw he
      ·exact g e (by simpa[dn] using(DA.1 he).1)
     refine⟨⟨B.off,B.size,B.qo,λt e he _=>?_,λt e he hn=>absurd (by rw[(O e (bT he)).1];exact nil _) hn,(λe he=>by rw[(O e he).2];exact(O e he).1),λe he b hb=>by
      rcases FQ.1 he with he|he
      ·rw[Ce he] at hb;cases hb
      ·exact f.BH e (DA.1 he).1 b hb⟩,O⟩
     rcases l8 he with he|⟨_,he⟩
     ·obtain⟨e',jH,hv⟩:=pY zZ he;rw[<-hv];exact B.yes t e' jH (by rw[(sK e' (bT jH)).1];exact nil _)
     ·obtain⟨hv,F, _⟩:=DI t e he;have:=B.off t (a.tmps[t]?) (by simp only[i,F];rfl);rw[this,hv]
    have N5:Fit i #[] N D env a:=⟨λt x q=>by
     simp only[i] at q;split at q
     ·cases q
     ·cases q;rfl,f.size,f.qo,f.yes,f.no,f.Fq,f.BH⟩
    have back: ∀{m:List bO} {j:Act},Fit i #[] N D m j->Fit S #[] N D m j:=λ{m j} A=>⟨λt z G=>by
     have F:(oG b (.seq x y)).contains t=false:=by
      cases hc:(oG b (.seq x y)).contains t with
      |false=>rfl
      |true=>have:=u t (Zc b _ t (by simpa using hc));rw[this] at G;cases G
     have h1:=A.off t (a.tmps[t]?) (by simp only[i,F];rfl);rw[h1];exact f.off t z G,A.size,A.qo,A.yes,A.no,A.Fq,A.BH⟩
    have hS1: ∀k∈oG b (.seq x y),i k=none:=λk d=>by simp[i,d]
    have abZ: ∀k∈writes x,i k=none:=λk d=>hS1 k (by simp[oG,d]);have bx: ∀(id:Nat) (a:Act) (w:A2),Qp i N D Kn Kx Kr (.exit id) a w->Qp S N D Kn Kx Kr (.exit id) a w:=λid a w ⟨R,p,d,T,U,V⟩=>⟨R,p,d,T,back U,V⟩;have br: ∀(a:Act) (w:A2),Qp i N D Kn Kx Kr .ret a w->Qp S N D Kn Kx Kr .ret a w:=λa w ⟨R,p,d,T,U,V⟩=>⟨R,p,d,T,back U,V⟩;have G: ∀k∈writes y,S k=none:=λk d=>u k (by simp[writes,d]);refine wpIn_seq (wpIn_mono (TC.run i env a w w' _ Kx Kr abZ g N5 q l) ?_);intro e a1 w1 o;cases e with
    |normal=>
     obtain⟨cX,p,d,X,Y,Z⟩:=o;cases E:atR b y with
     |true=>
      simp only[E] at d hJ;unfold N4 at d;split at d
      ·rename_i s H;obtain⟨XI,XJ⟩:=head cX a1 s X Y H;exact M.run S _ a1 p w1 Kn Kx Kr G XJ (back XI) (hJ s p d) Z
      ·exact d.elim
     |false=>
      simp only[E] at d hJ;have ab0: ∀k∈oG b y,i k=none:=λk d=>hS1 k (by simp[oG,E,d]);refine M.to b (N4 sl J) i cX a1 p w1 Kn Kx Kr _ ab0 X Y d Z bx br ?_;intro y' m j L BM W hK sK B uF;unfold N4 at hK;split at hK
      ·rename_i s H;obtain⟨XI,XJ⟩:=head m j s sK B H;exact M.Ww b S _ j L BM Kn Kx Kr y' W G XJ (back XI) (hJ s L hK) uF
      ·exact hK.elim
    |exit id=>exact bx id a1 w1 o
    |ret=>exact br a1 w1 o
    | _=>exact o
  ·intro b K S env a w w' Kn Kx Kr Q u g f h l q hr J';simp only[cz] at h;refine wpIn_seq (wpIn_mono (TC.run S env a w w' _ Kx Kr (λk d=>u k (by simp[oG,d])) g f h l) ?_);intro e a1 w1 o;cases e with
   |normal=>
    obtain⟨cX,p,d,X,Y,Z⟩:=o;cases E:atR b y with
    |true=>
     simp only[E] at d;exact J' y cX a1 p w1 (by simp[FJ,E]) d X Y Z
    |false=>
     simp only[E] at d;exact M.to b K S cX a1 p w1 Kn Kx Kr Q (λk d=>u k (by simp[oG,E,d])) X Y d Z q hr (λy' m j L BM W=>J' y' m j L BM (by simp[FJ,E,W]))
   |exit id=>exact q id a1 w1 o
   |ret=>exact hr a1 w1 o
   | _=>exact o.elim
  ·intro b S env a w w' Kn Kx Kr y' W u g f h l;simp only[cz] at h;have G: ∀k∈writes y,S k=none:=λk d=>u k (by simp[writes,d]);cases E:atR b y with
   |true=>
    simp only[E] at h;simp only[FJ,E,Dc] at W;subst W;exact M.run S env a w w' Kn Kx Kr G g f h l
   |false=>
    simp only[E] at h;simp only[FJ,E] at W;exact M.Ww b S env a w w' Kn Kx Kr y' W G g f h l
 |cond c x y TC M=>
  refine .of ?_ (λ_ _ _ _ _ _ _ h=>h) (λ_ _ _ _ _ _ h=>h);intro S env a w w' Kn Kx Kr u g f h l;simp only[cz] at h;split at h
  ·rename_i b hb;have XK:=f.ev (ch:=[]) (λ_ q=>by cases q) hb;refine wpIn_cond_split XK (λht=>TC.run S env a w w' Kn Kx Kr (λk d=>u k (by simp[writes,d])) g f (DY h ht) l) (λht=>M.run S env a w w' Kn Kx Kr (λk d=>u k (by simp[writes,d])) g f (AN h ht) l)
  ·exact AI h
 |block id x ih=>
  refine .of ?_ (λ_ _ _ _ _ _ _ h=>h) (λ_ _ _ _ _ _ h=>h);intro S env a w w' Kn Kx Kr u g f h l;refine wpIn_block (wpIn_mono (ih.run S env a w w' Kn _ Kr u g f h l) ?_);intro e a1 w1 o;cases e with
  |exit XH=>
   obtain⟨cX,p,d,rest⟩:=o;simp only[Exit.inBlock];split
   ·rename_i he;simp only[he,if_true] at d;exact⟨cX,p,d,rest⟩
   ·rename_i he;simp only[he,if_false] at d;exact⟨cX,p,d,rest⟩
  | _=>exact o
 |exit id=>exact .of (λS env a w w' Kn Kx Kr _ g f h l=>wpIn_exit ⟨env,w,h,g,f,l⟩) (λ_ _ _ _ _ _ _ h=>h) (λ_ _ _ _ _ _ h=>h)
 |ret=>exact .of (λS env a w w' Kn Kx Kr _ g f h l=>wpIn_ret ⟨env,w,h,g,f,l⟩) (λ_ _ _ _ _ _ _ h=>h) (λ_ _ _ _ _ _ h=>h)
 |loop x ih=>
  refine .of ?_ (λ_ _ _ _ _ _ _ h=>h) (λ_ _ _ _ _ _ h=>h);intro S env a w w' Kn Kx Kr u g f h l;simp only[cz,jC] at h;split at h
  ·exact AI h
  ·rename_i s0 hs0;obtain⟨I,⟨n0,h0⟩,oQ⟩:=h
   let sl:=aQ ((jy x).getD 0)
   let i:Nat->Option (Option AC):=λt=>if(writes x).contains t then none else some (a.tmps[t]?)
   let dn:=env.filter λe=> !(writes x).contains e.t
   have nil: ∀(tm:Array AC),jS #[] tm []:=λtm x q=>by cases q
   have DI: ∀t e,bW dn t=some e->a.tmps[t]? =some e.v/\(writes x).contains t=false/\e.ch=[]:=by
    intro t e he;have ht:=yy he;have H:=yJ he;have F:(writes x).contains t=false:=by rw[<-ht];simpa using H.2
    have A:bW env t=some e:=iI he (λy _ hyt=>by rw[hyt,F];rfl);exact⟨f.yes t e A (by rw[(g e H.1).1];exact nil _),F,(g e H.1).1⟩
   have head: ∀(m:List bO) (j:Act) (s:oq (sl.map (·.2))),plain m->Fit i #[] N D m j->oP sl m=some s->Fit i #[] N D (kY sl s++dn) j/\plain (kY sl s++dn):=by
    intro m j s sK B zZ;have O:plain (kY sl s++dn):=λe he=>by
     rcases FQ.1 he with he|he
     ·exact tw he
     ·exact g e (by simpa[dn] using(DA.1 he).1)
    refine⟨⟨B.off,B.size,B.qo,λt e he _=>?_,λt e he hn=>absurd (by rw[(O e (bT he)).1];exact nil _) hn,(λe he=>by rw[(O e he).2];exact(O e he).1),λe he b hb=>by
     rcases FQ.1 he with he|he
     ·rw[Ce he] at hb;cases hb
     ·exact f.BH e (DA.1 he).1 b hb⟩,O⟩
    rcases l8 he with he|⟨_,he⟩
    ·obtain⟨e',jH,hv⟩:=pY zZ he;rw[<-hv];exact B.yes t e' jH (by rw[(sK e' (bT jH)).1];exact nil _)
    ·obtain⟨hv,F, _⟩:=DI t e he;have:=B.off t (a.tmps[t]?) (by simp only[i,F];rfl);rw[this,hv]
   have N5:Fit i #[] N D env a:=⟨λt x q=>by
    simp only[i] at q;split at q
    ·cases q
    ·cases q;rfl,f.size,f.qo,f.yes,f.no,f.Fq,f.BH⟩
   have back: ∀{m:List bO} {j:Act},Fit i #[] N D m j->Fit S #[] N D m j:=λ{m j} A=>⟨λt y G=>by
    have F:(writes x).contains t=false:=by
     cases hc:(writes x).contains t with
     |false=>rfl
     |true=>have:=u t (by simpa[writes] using hc);rw[this] at G;cases G
    have h1:=A.off t (a.tmps[t]?) (by simp only[i,F];rfl);rw[h1];exact f.off t y G,A.size,A.qo,A.yes,A.no,A.Fq,A.BH⟩
   have hS1: ∀k∈writes x,i k=none:=λk d=>by simp[i,d]
   obtain⟨hF4,hp4⟩:=head env a s0 g N5 hs0;refine zk (λn j L=> ∃s,I n s L/\Fit i #[] N D (kY sl s++dn) j/\plain (kY sl s++dn)) (n0:=n0) ⟨s0,h0 w' l,hF4,hp4⟩ ?_;intro n j L ⟨s,hI,B,sK⟩;have hb:=ih.run i _ j L L _ Kx Kr hS1 sK B (oQ n s L hI) (Ext.refl _);refine wpIn_mono hb ?_;intro e a3 w3 o;cases e with
   |normal=>
    obtain⟨R,p,d,T,U,V⟩:=o;simp only[Exit.then];split at d
    ·rename_i s3 hs3;obtain⟨n',jo,hI'⟩:=d w3 V;obtain⟨XI,XJ⟩:=head R a3 s3 T U hs3;exact⟨n',jo,s3,hI',XI,XJ⟩
    ·exact d.elim
   |exit id=>obtain⟨R,p,d,T,U,V⟩:=o;exact⟨R,p,d,T,back U,V⟩
   |ret=>obtain⟨R,p,d,T,U,V⟩:=o;exact⟨R,p,d,T,back U,V⟩
   | _=>exact o
 | _=>exact .of (λS env a w w' Kn Kx Kr u g f h l=>AI h) (λ_ _ _ _ _ _ _ h=>h) (λ_ _ _ _ _ _ h=>h)
theorem pZ {r:Option Nat} {C:dD P} {aQ:Nat->aY}: ∀(c:Code) (S:Nat->Option (Option AC)) (env:List bO) (a:Act) (w w':A2) (Kn:List bO->A2->Prop) (Kx:Nat->List bO->A2->Prop) (Kr:List bO->A2->Prop),
 (∀k∈writes c,S k=none)->plain env->Fit S #[] N D env a->rH C aQ N c env w Kn Kx Kr->Ext w w'->c.wpIn (WF r) 0 P (Qp S N D Kn Kx Kr) a w':=λc=>(GK c).run
def jz:List AC->Nat->List bO
 |[], _=>[]
 |v::r,i=>⟨i,[],none,v,none⟩::jz r (i+1)
def nG:List ResultVar->List bO->Option (List AC)
 |[], _=>some []
 | .tmp t::r,env=>match bW env t,nG r env with
   |some e,some l=>some (e.v::l)
   | _, _=>none
 | .cell .. :: _, _=>none
def Ka (l:List AC):AC:=
 match l with
 |[v]=>v
 |l=> .tuple ⟨l⟩
def aJ (C:dD P) (aQ:Nat->aY) (f:B6) (args:List AC) (w:A2) (Post:(uD C f).T->A2->Prop):Prop:=
 match P.funcs[f]? with
 |none=>False
 |some fn=>match fn.body with
  |none=>False
  |some c=>
   let fin:List bO->A2->Prop:=λenv w=>match nG fn.results.toList env with
    |some l=>match (uD C f).proj (Ka l) with
     |some x=>ao w (λw1=>Post x w1)
     |none=>False
    |none=>False
   if args.length<=fn.ntmps then rH C aQ fn.ntmps c (jz args 0) w fin (λ_ _ _=>False) fin else False
theorem pB: ∀{l:List AC} {i t:Nat} {e:bO},bW (jz l i) t=some e->i<=t/\l[t - i]? =some e.v/\e.ch=[]/\e.g=none
 |v::r,i,t,e,h=>by
  simp[jz,bW] at h;split at h
  grind
  ·obtain:=pB h
   grind
theorem yK: ∀{l:List AC} {i:Nat} {e:bO},e∈jz l i->e.k=none
 |v::r,i,e,h=>by
  simp[jz] at h;rcases h with rfl|h
  ·rfl
  ·exact yK h
theorem rS: ∀{l:List AC} {i:Nat} {e:bO},e∈jz l i->e.ch=[]/\e.g=none
 |v::r,i,e,h=>by
  simp[jz] at h;rcases h with rfl|h;simp
  ·exact rS h
def nv (tmps:Array AC):ResultVar->Sem AC
 | .tmp t=>pure (tmps.getD t undef)
 | .cell a t=>do loadVar t (<-asAddr (tmps.getD a undef))
theorem vK {tmps:Array AC} {w:A2}: ∀{l:List ResultVar} {env:List bO} {vs:List AC},nG l env=some vs->(∀t e,bW env t=some e->tmps[t]? =some e.v)->
 (l.mapM (nv tmps)).run P w= .ok vs w
 |[], _, _,h, _=>by simp_all[nG]
 | .tmp t::r,env,vs,h,hv=>by
   simp[nG] at h;split at h
   ·rename_i e l b a;have c:=vK (w:=w) a hv
    simp_all[nv]
   grind
theorem EX {fn:Func} {tmps:Array AC} {w:A2} {env:List bO} {vs:List AC} (h:nG fn.results.toList env=some vs) (hv: ∀t e,bW env t=some e->tmps[t]? =some e.v):
 (results fn tmps).run P w= .ok (Ka vs) w:=by
 have h1:=vK (P:=P) (w:=w) h hv;have a:(fn.results.mapM (nv tmps)).run P w= .ok ⟨vs⟩ w:=by
  simp_all[JU]
 have e:results fn tmps=(do
  let vs<-fn.results.mapM (nv tmps)
  pure _):=rfl
 rw[e,B2,a]
 match vs with
 |[]=>rfl
 |[v]=>rfl
 |v::u::r=>rfl
theorem ai {C:dD P} {aQ:Nat->aY} {f:B6} {args:List AC} {w:A2} {Post:(uD C f).T->A2->Prop} (h:aJ C aQ f args w Post):aD P f (uD C f) args w Post:=by
 unfold aJ at h;split at h
 ·exact AI h
 ·rename_i fn p;split at h
  ·exact AI h
  ·rename_i c hb;simp only at h;split at h
   ·rename_i B;have g:plain (jz args 0):=λe a=>rS a;have nil: ∀(o:Array Oper) (k:Array AC),jS o k []:=λo k x d=>by cases d
    have q:Fit (λ_=>none) #[] fn.ntmps [] (jz args 0) {tmps:=(⟨args⟩:Array AC)++FU (fn.ntmps - args.length) undef,defers:=[]}:=by
     refine⟨(λ_ _ d=>by cases d),(by simp;omega),rfl,λt e a _=>?_,λt e a s=>absurd (by rw[(g e (bT a)).1];exact nil _ _) s,(λe a=>by rw[(g e a).2];exact(g e a).1),by grind[yK]⟩;obtain⟨_,hv, _⟩:=pB a
     grind
    have u:=pZ (r:=none) (C:=C) (aQ:=aQ) c (λ_=>none) _ _ w w _ _ _ (λ_ _=>rfl) g q h (Ext.refl w);refine calls_of_wp p hb ((wpIn_wide (n:=0)).1 (wpIn_mono u ?_));have fin: ∀a1 w1,(∃env j,(match nG fn.results.toList env with
     |some l=>match (uD C f).proj (Ka l) with
      |some x=> ∀w1,Ext j w1->Post x w1
      |none=>False
     |none=>False)/\plain env/\Fit (λ_=>none) #[] fn.ntmps [] env a1/\Ext j w1)->a1.defers=[]/\ ∃v,(results fn a1.tmps).run P w1= .ok v w1/\ ∃x:(uD C f).T,Ending.returned v= .returned ((uD C f).gR x)/\Post x w1:=by
     intro a1 w1 ⟨env,j,b,y,m,z⟩;split at b
     ·rename_i l A;split at b
      ·rename_i x d;refine⟨m.qo, _,EX A (λt e a=>m.yes t e a (by rw[(y e (bT a)).1];exact nil _ _)),x,by rw[Sh.ib d],b w1 z⟩
      ·exact b.elim
     ·exact b.elim
    intro e a1 w1 i;cases e with
    |normal=>exact fin a1 w1 i
    |ret=>exact fin a1 w1 i
    |exit id=>obtain⟨_, _,b, _⟩:=i;exact b.elim
    | _=>exact(show False from i).elim
   ·exact AI h
variable {P:B1}
abbrev qp:=List bO->List Nat->A2->Prop
def marks (D:List Nat):List Deferred:=D.map λr=>{target:= .collected r,args:= #[]}
def x9:Code->Bool
 | .rangeFunc .. =>true
 | .seq a b=>x9 a||x9 b
 | .cond _ a b=>x9 a||x9 b
 | .block _ b=>x9 b
 | .loop b=>x9 b
 | _=>false
def sS (w:A2) (l:Nat) (rec:Loop) (st:LoopState) (a:Option Code):A2:=w.putObj l (.loop {rec with state:=st,pending:=a})
def cQ (w:A2) (l:Nat) (rec:Loop) (st:LoopState) (a:Option Code):Prop:=w.heap[l]? =some (.loop {rec with state:=st,pending:=a})
def DJ:List Nat->A2->Prop
 |[], _=>True
 |r::D,w=>w.heap[r]? =some (.deferred (some []))/\DJ D (w.putObj r (.deferred none))
def mo:List Nat->A2->A2
 |[],w=>w
 |r::D,w=>mo D (w.putObj r (.deferred none))
def BN (l:Nat) (rec:Loop) (w:A2) (K:A2->Prop):Prop:= ∀a,Ext w a-> ∃b,cQ a l rec .ready b/\K (sS a l rec .busy b)
def sj (l:Nat) (rec:Loop) (a:Option Code) (w:A2) (R:Bool->A2->Prop):Prop:= ∀b,Ext w b-> ∃st c,cQ b l rec st c/\R a.isNone (sS b l rec (if a.isNone then .ready else .done) a)
def Dd (l:Nat) (rec:Loop) (n m:Nat) (w:A2) (K:Prop):Prop:=(∃a,cQ w l rec .ready a)/\n=m/\K
def sk (D:List Nat) (w:A2) (K:A2->Prop):Prop:= ∀w1,Ext w w1->DJ D w1/\K (mo D w1)
def zS (P:B1) (b:B6) (args:Nat->List AC) (ps:Array Nat) (w:A2) {T:Type} (c:T->List AC) (d:Nat->Loop->T->A2->(Bool->A2->Prop)->Prop) (f:Nat->Loop->A2->Prop):Prop:=
 ∀w1,Ext w w1-> ∀rec:Loop,rec.params=ps->rec.defers=w1.heap.size->rec.state= .ready->rec.pending=none->
  (∀(x:T) a R,d (w1.heap.size+1) rec x a R->ml P (w1.heap.size+1) (c x) a R)->
  Calls P b ⟨args (w1.heap.size+1)⟩ ((w1.alloc (.deferred (some []))).alloc (.loop rec)) (λe g=> ∃v,e= .returned v/\f w1.heap.size rec g)
def IS (C:dD P) (aQ:Nat->aY) (N:Nat) (l:Nat) (rec:Loop) (ps:List Nat) (assign body:Code) (env:List bO) (args:List AC) (w:A2) (R:Bool->A2->Prop):Prop:=
 Dd l rec args.length ps.length w
 (jx ((ps.zip args).reverse.map (λx=>⟨x.1,[],none,x.2,none⟩)++env) λb=>rH C aQ N assign b w
  (λcX a=>BN l rec a λc=>
   rH C aQ N body cX c
    (λ_ a=>sj l rec none a R)
    (λid _ a=>sj l rec (some (.exit id)) a R)
    (λ_ a=>sj l rec (some .ret) a R))
  (λ_ _ _=>False) (λ_ _=>False))
def du (l:Nat) (rec:Loop) (a:A2) (Kn:A2->Prop) (Kx:Nat->A2->Prop) (Kr:A2->Prop):Prop:=
 ∃st b,cQ a l rec st b/\st≠ .busy/\
  match b with
  |none=>Kn (sS a l rec .exhausted (none))
  |some (.exit id)=>Kx id (sS a l rec .exhausted (some (.exit id)))
  |some .ret=>Kr (sS a l rec .exhausted (some .ret))
  | _=>False
def NO (C:dD P) (aQ:Nat->aY) (N:Nat):Code->List bO->List Nat->A2->qp->(Nat->qp)->qp->Prop
 | .seq x y,env,D,w,Kn,Kx,Kr=>NO C aQ N x env D w (λenv D w=>NO C aQ N y env D w Kn Kx Kr) Kx Kr
 | .cond c x y,env,D,w,Kn,Kx,Kr=>match xL env [] c with
   |some (.bool b)=>aH b (NO C aQ N x env D w Kn Kx Kr) (NO C aQ N y env D w Kn Kx Kr)
   | _=>False
 | .block id x,env,D,w,Kn,Kx,Kr=>NO C aQ N x env D w Kn (λf env D w=>if f=id then Kn env D w else Kx f env D w) Kr
 | .loop x,env,D,w,Kn,Kx,Kr=>
   if x9 x then
    let sl:=aQ ((jy x).getD 0)
    match oP sl env with
    |none=>False
    |some j=> ∃I:Nat->oq (sl.map (·.2))->List Nat->A2->Prop,(∃n, ∀w1,Ext w w1->I n j D w1)/\
     ∀n s D1 w1,I n s D1 w1->jx (kY sl s++env.filter λe=> !(writes x).contains e.t) λcX=>NO C aQ N x cX D1 w1
      (λk D2 m=>match oP sl k with
       |some o=> ∀d,Ext m d-> ∃h,h<n/\I h o D2 d
       |none=>False) Kx Kr
   else rH C aQ N (.loop x) env w (λenv w=>Kn env D w) (λid env w=>Kx id env D w) (λenv w=>Kr env D w)
 | .rangeFunc g ps assign body,env,D,w,Kn,Kx,Kr=>
   match xL env [] g with
   |some (.func (.func i) first cap)=>
    if bJ P i&&ps.toList.all (λp=>decide (p<N)) then
     zS P i (λy=>cU first [.func (.yield y) #[] #[]] cap) ps w (λ(x:oq ((aQ ((jy body).getD 0)).map (·.2)))=>uR _ x)
      (λl rec x d R=>IS C aQ N l rec ps.toList assign body env (uR _ x) d R)
      (λr rec q=>du (r+1) rec q (λa=>Kn env (r::D) a) (λid a=>Kx id env (r::D) a) (λa=>Kr env (r::D) a))
    else False
   | _=>False
 |c,env,D,w,Kn,Kx,Kr=>rH C aQ N c env w (λenv w=>Kn env D w) (λid env w=>Kx id env D w) (λenv w=>Kr env D w)
def QpF (S:Nat->Option (Option AC)) (N:Nat) (Kn:qp) (Kx:Nat->qp) (Kr:qp):Exit->Act->A2->Prop
 | .normal,a,w=> ∃env D b,Kn env D b/\plain env/\Fit S #[] N (marks D) env a/\Ext b w
 | .exit id,a,w=> ∃env D b,Kx id env D b/\plain env/\Fit S #[] N (marks D) env a/\Ext b w
 | .ret,a,w=> ∃env D b,Kr env D b/\plain env/\Fit S #[] N (marks D) env a/\Ext b w
 | _, _, _=>False
theorem Zd {S:Nat->Option (Option AC)} {N:Nat} {Kn:qp} {Kx:Nat->qp} {Kr:qp} {D:List Nat}: ∀(e:Exit) (a:Act) (w:A2),
 Qp S N (marks D) (λenv w=>Kn env D w) (λid env w=>Kx id env D w) (λenv w=>Kr env D w) e a w->QpF S N Kn Kx Kr e a w
 | .normal, _, _,⟨env,b,h⟩=>⟨env,D,b,h⟩
 | .exit _, _, _,⟨env,b,h⟩=>⟨env,D,b,h⟩
 | .ret, _, _,⟨env,b,h⟩=>⟨env,D,b,h⟩
theorem zl {N:Nat} {D:List Deferred}: ∀(l:List (Nat×AC)) (env:List bO) (tmps:Array AC),(∀x∈l,x.1<N)->plain env->Fit (λ_=>none) #[] N D env {tmps,defers:=D}->
 Fit (λ_=>none) #[] N D (l.reverse.map (λx=>⟨x.1,[],none,x.2,none⟩)++env) {tmps:=l.foldl (λtmps (t,a)=>tmps.setIfInBounds t a) tmps,defers:=D}/\plain (l.reverse.map (λx=>(⟨x.1,[],none,x.2,none⟩:bO))++env)
 |[],env,tmps, _,b,h=>⟨h,b⟩
 |(t,v)::r,env,tmps,c,b,h=>by
  have f:plain (⟨t,[],none,v,none⟩::env):=λe he=>by
   rcases DQ.1 he with rfl|he;simp
   ·exact b e he
  have h1:=by
   have:=h.put (g:=none) (d:=some t) (u:=v) (by
    have:=c (t,v) (by grind);simp[oN,this];intro e he;rw[(b e he).1];simp) (λ_ _=>rfl) rfl (λ_=>rfl) (λi=>absurd (λx j=>by cases j) i)
   exact this
  have:=zl r _ _ (by grind) f h1
  grind
theorem GL {w:A2} {l:Nat} {rec:Loop} {a:Option Code} (h:cQ w l rec .ready a):(Instr.beginRound l).run P w= .ok () (w.putObj l (.loop {rec with state:= .busy,pending:=a})):=
 run_beginRound h rfl
theorem yL {w:A2} {l:Nat} {rec:Loop} {st:LoopState} {b:Option Code} (a:Option Code) (h:cQ w l rec st b):
 (Instr.endRound l a).run P w= .ok (.bool a.isNone) (w.putObj l (.loop {rec with state:=if a.isNone then .ready else .done,pending:=a})):=
 run_endRound (r:={rec with state:=st,pending:=b}) a h
theorem GM {C:dD P} {aQ:Nat->aY} {N l:Nat} {rec:Loop} {assign body:Code} {env:List bO} {args:List AC} {w:A2} {R:Bool->A2->Prop} {tmps:Array AC} {D0:List Deferred}
 (u:rec.tmps=tmps) (v:rec.assign=assign) (hb:rec.body=body) (y: ∀p∈rec.params.toList,p<N) (z:plain env) (b:Fit (λ_=>none) #[] N D0 env {tmps,defers:=D0})
 (h:IS C aQ N l rec rec.params.toList assign body env args w R):ml P l args w R:=by
 obtain⟨⟨A,B⟩,E,o⟩:=h;rw[jC] at o;refine⟨{rec with state:= .ready,pending:=A},B,by simpa using E,?_⟩;have G:Fit (λ_=>none) #[] N [] env {tmps,defers:=[]}:=⟨b.off,b.size,rfl,b.yes,b.no,b.Fq,b.BH⟩;obtain⟨H,I⟩:=zl (D:=[]) (rec.params.toList.zip args) env tmps (λx J=>y x.1 (List.of_mem_zip J).1) z G;have e:(rec.params.zip (⟨args⟩:Array AC)).foldl (λtmps (t,a)=>tmps.setIfInBounds t a) rec.tmps=(rec.params.toList.zip args).foldl (λtmps (t,a)=>tmps.setIfInBounds t a) tmps:=by
  rw[u, <-Array.foldl_toList];simp
 rw[e,v,hb];refine roundIn_of_wpIn (F:=WF none) trivial ?_;have h1:=pZ (r:=some l) (C:=C) (aQ:=aQ) assign (λ_=>none) _ _ w w _ _ _ (λ_ _=>rfl) I H o (Ext.refl w);refine wpIn_mono h1 ?_;intro K a1 w1 k;cases K with
 |normal=>
  obtain⟨cX,V,m,L,M,O⟩:=k;obtain⟨W,Q,S⟩:=m w1 O;refine⟨_,GL Q,?_⟩;have T:=pZ (r:=some l) (C:=C) (aQ:=aQ) body (λ_=>none) _ _ _ _ _ _ _ (λ_ _=>rfl) L M S (Ext.refl _);refine wpIn_mono T ?_;intro U X n j;cases U with
  |normal=>
   obtain⟨_,q,d, _, _,f⟩:=j;obtain⟨st,s,g,i⟩:=d n f;exact⟨_, _,yL none g,true,rfl,i⟩
  |exit id=>
   obtain⟨_,q,d, _, _,f⟩:=j;obtain⟨st,s,g,i⟩:=d n f;exact⟨_, _,yL (some (.exit id)) g,false,rfl,i⟩
  |ret=>
   obtain⟨_,q,d, _, _,f⟩:=j;obtain⟨st,s,g,i⟩:=d n f;exact⟨_, _,yL (some .ret) g,false,rfl,i⟩
  |goto t
  |panic c
  |outgrown=>exact AI j
 |exit id
 |ret=>obtain⟨_, _,m, _⟩:=k;exact AI m
 |goto t
 |panic c
 |outgrown=>exact AI k
variable {P:B1} {N:Nat}
theorem AU {C:dD P} {aQ:Nat->aY} {c:Code} {S:Nat->Option (Option AC)} {env:List bO} {D:List Nat} {a:Act} {w w':A2} {Kn:qp} {Kx:Nat->qp} {Kr:qp}
 (b: ∀k∈writes c,S k=none) (d:plain env) (e:Fit S #[] N (marks D) env a) (h:rH C aQ N c env w (λenv w=>Kn env D w) (λid env w=>Kx id env D w) (λenv w=>Kr env D w)) (f:Ext w w'):
 c.wpIn (WF none) 0 P (QpF S N Kn Kx Kr) a w':=
 wpIn_mono (pZ c S env a w w' _ _ _ b d e h f) Zd
theorem GN {w:A2} {l:Nat} {rec:Loop} {st:LoopState} {a:Option Code} (h:cQ w l rec st a) (hb:st≠ .busy):
 (Instr.endLoop l).run P w= .ok a (w.putObj l (.loop {rec with state:= .exhausted,pending:=a})):=
 run_endLoop h hb
theorem Ze {C:dD P} {aQ:Nat->aY}: ∀(c:Code) (S:Nat->Option (Option AC)) (env:List bO) (D:List Nat) (a:Act) (w w':A2) (Kn:qp) (Kx:Nat->qp) (Kr:qp),
 (∀k∈writes c,S k=none)->plain env->Fit S #[] N (marks D) env a->NO C aQ N c env D w Kn Kx Kr->Ext w w'->c.wpIn (WF none) 0 P (QpF S N Kn Kx Kr) a w':=by
 intro c
 induction c with
 |seq x y Q T=>
  intro S env D a w w' Kn Kx Kr j i d h l;refine wpIn_seq (wpIn_mono (Q S env D a w w' _ Kx Kr (λk f=>j k (by simp[writes,f])) i d h l) ?_);intro e a1 w1 r;cases e with
  |normal=>
   obtain⟨cX,D1,u,f,Db,sy,wE⟩:=r;exact T S cX D1 a1 u w1 Kn Kx Kr (λk f=>j k (by simp[writes,f])) Db sy f wE
  | _=>exact r
 |cond c x y Q T=>
  intro S env D a w w' Kn Kx Kr j i d h l;simp only[NO] at h;split at h
  ·rename_i b hb;have U:=d.ev (ch:=[]) (λ_ m=>by cases m) hb;exact wpIn_cond_split U (λF=>Q S env D a w w' Kn Kx Kr (λk f=>j k (by simp[writes,f])) i d (DY h F) l) (λF=>T S env D a w w' Kn Kx Kr (λk f=>j k (by simp[writes,f])) i d (AN h F) l)
  ·exact AI h
 |block id x V=>
  intro S env D a w w' Kn Kx Kr j i d h l;refine wpIn_block (wpIn_mono (V S env D a w w' Kn _ Kr j i d h l) ?_);intro e a1 w1 r;cases e with
  |exit XH=>
   obtain⟨cX,D1,u,f,rest⟩:=r;simp only[Exit.inBlock];split
   ·rename_i he;simp only[he,if_true] at f;exact⟨cX,D1,u,f,rest⟩
   ·rename_i he;simp only[he,if_false] at f;exact⟨cX,D1,u,f,rest⟩
  | _=>exact r
 |loop x V=>
  intro S env D a w w' Kn Kx Kr j i d h l;simp only[NO,jC] at h;split at h
  ·split at h
   ·exact AI h
   ·rename_i Z hs0;obtain⟨I,⟨n0,h0⟩,oQ⟩:=h
    let sl:=aQ ((jy x).getD 0)
    let o:Nat->Option (Option AC):=λt=>if(writes x).contains t then none else some (a.tmps[t]?)
    let dn:=env.filter λe=> !(writes x).contains e.t
    have nil: ∀(tm:Array AC),jS #[] tm []:=λtm x m=>by cases m
    have DI: ∀t e,bW dn t=some e->a.tmps[t]? =some e.v/\(writes x).contains t=false/\e.ch=[]:=by
     intro t e he;have F:=yy he;have W:=yJ he;have E:(writes x).contains t=false:=by rw[<-F];simpa using W.2
     have z:bW env t=some e:=iI he (λy _ hyt=>by rw[hyt,E];rfl);exact⟨d.yes t e z (by rw[(i e W.1).1];exact nil _),E,(i e W.1).1⟩
    have head: ∀(A:List bO) (D2:List Nat) (p:Act) (s:oq (sl.map (·.2))),plain A->Fit o #[] N (marks D2) A p->oP sl A=some s->Fit o #[] N (marks D2) (kY sl s++dn) p/\plain (kY sl s++dn):=by
     intro A D2 p s X q zZ;have O:plain (kY sl s++dn):=λe he=>by
      rcases FQ.1 he with he|he
      ·exact tw he
      ·exact i e (by simpa[dn] using(DA.1 he).1)
     refine⟨⟨q.off,q.size,q.qo,λt e he _=>?_,λt e he hn=>absurd (by rw[(O e (bT he)).1];exact nil _) hn,(λe he=>by rw[(O e he).2];exact(O e he).1),λe he b hb=>by
     rcases FQ.1 he with he|he
     ·rw[Ce he] at hb;cases hb
     ·exact d.BH e (DA.1 he).1 b hb⟩,O⟩
     rcases l8 he with he|⟨_,he⟩
     ·obtain⟨e',jH,hv⟩:=pY zZ he;rw[<-hv];exact q.yes t e' jH (by rw[(X e' (bT jH)).1];exact nil _)
     ·obtain⟨hv,E, _⟩:=DI t e he;have:=q.off t (a.tmps[t]?) (by simp only[o,E];rfl);rw[this,hv]
    have N5:Fit o #[] N (marks D) env a:=⟨λt x m=>by
     simp only[o] at m;split at m
     ·cases m
     ·cases m;rfl,d.size,d.qo,d.yes,d.no,d.Fq,d.BH⟩
    have back: ∀{A:List bO} {D2:List Nat} {p:Act},Fit o #[] N (marks D2) A p->Fit S #[] N (marks D2) A p:=λ{A D2 p} z=>⟨λt y Y=>by
     have E:(writes x).contains t=false:=by
      cases hc:(writes x).contains t with
      |false=>rfl
      |true=>have:=j t (by simpa[writes] using hc);rw[this] at Y;cases Y
     have h1:=z.off t (a.tmps[t]?) (by simp only[o,E];rfl);rw[h1];exact d.off t y Y,z.size,z.qo,z.yes,z.no,z.Fq,z.BH⟩
    have hS1: ∀k∈writes x,o k=none:=λk f=>by simp[o,f]
    obtain⟨hF4,hp4⟩:=head env D a Z i N5 hs0;refine zk (λn p G=> ∃s D2,I n s D2 G/\Fit o #[] N (marks D2) (kY sl s++dn) p/\plain (kY sl s++dn)) (n0:=n0) ⟨Z,D,h0 w' l,hF4,hp4⟩ ?_;intro n p G ⟨s,D2,hI,q,X⟩;have hb:=V o _ D2 p G G _ Kx Kr hS1 X q (oQ n s D2 G hI) (Ext.refl _);refine wpIn_mono hb ?_;intro e a3 w3 r;cases e with
    |normal=>
     obtain⟨H,D3,u,f,J,K,L⟩:=r;simp only[Exit.then];split at f
     ·rename_i s3 hs3;obtain⟨n',jo,hI'⟩:=f w3 L;obtain⟨XI,XJ⟩:=head H D3 a3 s3 J K hs3;exact⟨n',jo,s3,D3,hI',XI,XJ⟩
     ·exact AI f
    |exit id=>obtain⟨H,D3,u,f,J,K,L⟩:=r;exact⟨H,D3,u,f,J,back K,L⟩
    |ret=>obtain⟨H,D3,u,f,J,K,L⟩:=r;exact⟨H,D3,u,f,J,back K,L⟩
    | _=>exact r
  ·exact AU (C:=C) (aQ:=aQ) j i d h l
 |rangeFunc g ps assign body _ _=>
  intro S env D a w w' Kn Kx Kr j i d h l;simp only[NO] at h;split at h
  ·rename_i fS first cap hg
   split at h
   ·rename_i jI;simp only[BY,E5,decide_eq_true_eq] at jI;obtain⟨DG,Tw⟩:=jI;have U:=d.ev (ch:=[]) (λ_ m=>by cases m) hg;refine wpIn_rangeFunc λfn _=>?_
    let M:Loop:={state:= .ready,pending:=none,fn,tmps:=a.tmps,params:=ps,assign,body,defers:=w'.heap.size}
    have hF':Fit (λ_=>none) #[] N (marks D) env {tmps:=a.tmps,defers:=marks D}:=⟨(λ_ _ m=>by cases m),d.size,rfl,d.yes,d.no,d.Fq,d.BH⟩;have f:=h w' l M rfl rfl rfl rfl (λ_ w3 R hr=>GM (C:=C) (aQ:=aQ) (rec:=M) rfl rfl rfl Tw i hF' hr);have aa0:(first++ #[Value.func (.yield (w'.heap.size+1)) #[] #[]]++cap:Array AC)=⟨cU first [.func (.yield (w'.heap.size+1)) #[] #[]] cap⟩:=by
     unfold cU;obtain⟨l1⟩:=first;obtain⟨l3⟩:=cap
     simp
    refine⟨w'.heap.size+1,[{target:= .collected w'.heap.size,args:= #[]}],(w'.alloc (.deferred (some []))).alloc (.loop M),{target:= .fn (.func fS) cap,args:=first++ #[.func (.yield (w'.heap.size+1)) #[] #[]]},(w'.alloc (.deferred (some []))).alloc (.loop M),fS,
     ⟨cU first [.func (.yield (w'.heap.size+1)) #[] #[]] cap⟩,(w'.alloc (.deferred (some []))).alloc (.loop M),run_enterLoop_outer _ _ _ _ _,?_,λ_ _=>trivial,?_,by simp[WF,E4],?_⟩
    ·simp only[resolve,U,Deferred.ofValue,B4,Gj,H4,H5];rfl
    ·simp only[invoke];rw[aa0];exact tQ DG
    ·refine(jF (n:=0 - 1)).2 (f.mono λe w4 ⟨v,he,st,pd,sL,vj,B⟩=>?_);subst he;have J':=GN (P:=P) sL vj;have q:Fit S #[] N (marks (w'.heap.size::D)) env {a with defers:=[{target:= .collected w'.heap.size,args:= #[]}]++a.defers}:=
      ⟨d.off,d.size,by simp[marks,d.qo],d.yes,d.no,d.Fq,d.BH⟩
     refine⟨pd, _,J',?_⟩
     match pd,B with
     |none,B=>exact⟨env, _, _,B,i,q,Ext.refl _⟩
     |some (.exit id),B=>exact wpIn_exit ⟨env, _, _,B,i,q,Ext.refl _⟩
     |some .ret,B=>exact wpIn_ret ⟨env, _, _,B,i,q,Ext.refl _⟩
   ·exact AI h
  ·exact AI h
 | _=>intro S env D a w w' Kn Kx Kr j i d h l;exact AU (C:=C) (aQ:=aQ) j i d h l
def Ds (P:B1) (w:A2):List ResultVar->List bO->(List AC->Prop)->Prop
 |[], _,K=>K []
 | .tmp t::r,env,K=>match bW env t with
   |some e=>Ds P w r env (λl=>K (e.v::l))
   |none=>False
 | .cell t ty::r,env,K=>match bW env t with
   |some e=>match e.v,uI P ty,P.info? ty with
    | .pointer p,some el,some i=>if pO el i.size=true then False else aj w none p el (λx=>Ds P w r env (λl=>K (el.gR x::l)))
    | _, _, _=>False
   |none=>False
def T4 (s:Sh) (Post:s.T->A2->Prop) (w:A2) (l:List AC):Prop:=
 match s.proj (Ka l) with
 |some x=>Post x w
 |none=>False
def byD (D:List Nat) (x:Prop) (y:Nat->List Nat->Prop):Prop:=match D with
 |[]=>x
 |r::D=>y r D
def Ow (s:Sh) (rs:List ResultVar) (Post:s.T->A2->Prop):qp:=λenv D w=>byD D (ao w (λw1=>Ds P w1 rs env (T4 s Post w1)))
 (λr D=>sk (r::D) w (λw1=>Ds P w1 rs env (T4 s Post w1)))
def bQ (C:dD P) (aQ:Nat->aY) (f:B6) (args:List AC) (w:A2) (Post:(uD C f).T->A2->Prop):Prop:=
 match P.funcs[f]? with
 |none=>False
 |some fn=>match fn.body with
  |none=>False
  |some c=>
   if args.length<=fn.ntmps then NO C aQ fn.ntmps c (jz args 0) [] w (Ow (P:=P) (uD C f) fn.results.toList Post) (λ_ _ _ _=>False) (Ow (P:=P) (uD C f) fn.results.toList Post) else False
theorem yM {tmps:Array AC} {w:A2}: ∀{l:List ResultVar} {env:List bO} {K:List AC->Prop},Ds P w l env K->(∀t e,bW env t=some e->tmps[t]? =some e.v)->
 ∃vs,(l.mapM (nv tmps)).run P w= .ok vs w/\K vs
 |[], _, _,h, _=>⟨[],by simp,h⟩
 | .tmp t::r,env,K,h,hv=>by
   simp only[Ds] at h;split at h
   ·rename_i e a;obtain⟨vs,dM,b⟩:=yM h hv
    simp_all[nv]
   ·exact AI h
 | .cell t ty::r,env,K,h,hv=>by
   simp only[Ds] at h;split at h
   ·rename_i e a;split at h
    ·rename_i p el i d f hi;split at h
     ·exact AI h
     ·rename_i g;obtain⟨x,c,j⟩:=h;obtain⟨vs,dM,b⟩:=yM j hv;refine⟨el.gR x::vs,?_,b⟩;have k: ∃a0,p=some a0:=by cases el<;>(obtain⟨a0,h0, _⟩:=c;exact⟨a0,h0⟩)
      obtain⟨a0,rfl⟩:=k;have m:=tq (P:=P) f hi g c;have n:tmps.getD t undef= .pointer (some a0):=by simp[hv t e a,d]
      simp only[List.mapM_cons,B2,nv,n,asAddr,B4,B3,m,dM]
    ·exact AI h
   ·exact AI h
theorem tS {fn:Func} {tmps:Array AC} {R:Ending->A2->Prop}: ∀(D:List Nat) (w:A2),DJ D w->(∃v,(results fn tmps).run P (mo D w)= .ok v (mo D w)/\R (.returned v) (mo D w))->
 LeavesInM (WF none) 0 P fn tmps R (marks D) .returning w
 |[],w, _,h=>h
 |r::D,w,a,h=>⟨by simp,.inl ⟨r, _,rfl,run_takeDeferred a.1,tS D _ a.2 h⟩⟩
theorem aP {C:dD P} {aQ:Nat->aY} {f:B6} {args:List AC} {w:A2} {Post:(uD C f).T->A2->Prop} (h:bQ C aQ f args w Post):aD P f (uD C f) args w Post:=by
 unfold bQ at h;split at h
 ·exact AI h
 ·rename_i fn s;split at h
  ·exact AI h
  ·rename_i c hb;split at h
   ·rename_i H;have g:plain (jz args 0):=λe a=>rS a;have nil: ∀(o:Array Oper) (m:Array AC),jS o m []:=λo m x d=>by cases d
    have y:Fit (λ_=>none) #[] fn.ntmps (marks []) (jz args 0) {tmps:=(⟨args⟩:Array AC)++FU (fn.ntmps - args.length) undef,defers:=[]}:=by
     refine⟨(λ_ _ d=>by cases d),(by simp;omega),rfl,λt e a _=>?_,λt e a z=>absurd (by rw[(g e (bT a)).1];exact nil _ _) z,(λe a=>by rw[(g e a).2];exact(g e a).1),λe a b hb=>by rw[yK a] at hb;cases hb⟩;obtain⟨_,hv, _⟩:=pB a
     grind
    have A:=Ze (C:=C) (aQ:=aQ) c (λ_=>none) _ _ _ w w _ _ _ (λ_ _=>rfl) g y h (Ext.refl w);refine(jF (r:=none) (n:=0)).1 (callsIn_of_wp_marks s hb trivial (wpIn_mono A ?_));have fin: ∀a1 w1,(∃env D l,Ow (P:=P) (uD C f) fn.results.toList Post env D l/\plain env/\Fit (λ_=>none) #[] fn.ntmps (marks D) env a1/\Ext l w1)->
     LeavesInM (WF none) 0 P fn a1.tmps (λe w'=> ∃x:(uD C f).T,e= .returned ((uD C f).gR x)/\Post x w') a1.defers .returning w1:=by
     intro a1 w1 ⟨env,D,l,i,B,p,q⟩;obtain⟨E,F⟩:DJ D w1/\Ds P (mo D w1) fn.results.toList env (T4 (uD C f) Post (mo D w1)):=by
      cases D with
      |nil=>exact⟨trivial,i w1 q⟩
      |cons r D=>exact i w1 q
     rw[p.qo];refine tS D w1 E ?_;obtain⟨vs,dM,j⟩:=yM F (λt e a=>p.yes t e a (by rw[(B e (bT a)).1];exact nil _ _));unfold T4 at j;split at j
     ·rename_i x d;refine⟨Ka vs,?_,x,by rw[Sh.ib d],j⟩;have G:(fn.results.mapM (nv a1.tmps)).run P (mo D w1)= .ok ⟨vs⟩ (mo D w1):=by
       rw[JU,Sem.run_map,dM];rfl
      have e:results fn a1.tmps=(do
       let vs<-fn.results.mapM (nv a1.tmps)
       pure _):=rfl
      rw[e,B2,G];simp only[B3,B4]
      match vs with
      |[]=>rfl
      |[v]=>rfl
      |v::u::r=>simp[Ka]
     ·exact AI j
    intro e a1 w1 k;cases e with
    |normal=>exact fin a1 w1 k
    |ret=>exact fin a1 w1 k
    |exit id=>obtain⟨_, _, _,i, _⟩:=k;exact AI i
    | _=>exact AI k
   ·exact AI h
theorem putObj_size (w:A2) (b:Nat) (o:Obj):(w.putObj b o).heap.size=w.heap.size:=by simp
theorem fx {w:A2} {b k:Nat} {o:Obj} (h:k≠b):(w.putObj b o).heap[k]? =w.heap[k]? :=by
 simp[Fw,Ne.symm h]
theorem jR {w:A2} {b:Nat} {o:Obj} (h:b<w.heap.size):(w.putObj b o).heap[b]? =some o:=by
 simp[Fw,h]
theorem Wu (w:A2) (a:Ag) (v:AC):(w.setCell a v).heap.size=w.heap.size:=by simp
theorem GO {w:A2} {a:Ag} {k:Nat} {v:AC} (h:k≠a.block):(w.setCell a v).heap[k]? =w.heap[k]? :=by
 simp[M4,PP,Ne.symm h]
theorem Ag.u6 (a:Ag) (n:Nat):(a.add n).block=a.block:=by
 unfold Addr.add;grind
theorem rT: ∀(vs:List AC) (w:A2) (a:Ag) (i:Nat),(putAt w a vs i).heap.size=w.heap.size
 |[], _, _, _=>rfl
 |v::r,w,a,i=>by simp[putAt,rT]
theorem mP: ∀(vs:List AC) (w:A2) (a:Ag) (i k:Nat),k≠a.block->(putAt w a vs i).heap[k]? =w.heap[k]?
 |[], _, _, _, _, _=>rfl
 |v::r,w,a,i,k,h=>by
  simp[putAt];rw[mP r _ a _ k h,GO (by rw[Ag.u6];omega)]
theorem Below.putAt {n:Nat} {w w':A2} (h:Below n w w') (a:Ag) (c:n<=a.block): ∀(vs:List AC) (i:Nat),Below n w (putAt w' a vs i):=by
 intro vs i
 induction vs generalizing w' i with
 |nil=>exact h
 |cons v r b=>
  exact b (h.setCell (by rw[Ag.u6];omega) v) _
theorem EY {n:Nat} {w w':A2} (h:Below n w w') {b:Nat} (hb:n<=b) (o:Obj):Below n w (w'.putObj b o):=
 ⟨h.os,h.tape,h.output,by rw[putObj_size];exact h.size,λk a=>by rw[fx (by omega)];exact h.block k a⟩
theorem Ext.js {w w':A2} (h:Ext w w') {a:Ag} (b:w.heap.size<=a.block) (vs:List AC):Ext w (js w' (some a) vs):=Below.putAt h a b vs 0
theorem Ext.putObj {w w':A2} (h:Ext w w') {b:Nat} (hb:w.heap.size<=b) (o:Obj):Ext w (w'.putObj b o):=EY h hb o
theorem Ext.iU {w w':A2} (h:Ext w w') (o:Obj):Ext w (w'.alloc o):=h.trans (Ext.alloc w' o)
def bL (w:A2) (b:Nat) (l:List AC):Prop:= ∃t,w.heap[b]? =some (.cells ⟨l⟩ t (0,0))
theorem bL.lt {w:A2} {b:Nat} {l:List AC} (h:bL w b l):b<w.heap.size:=by
 obtain⟨⟩:=h;grind
theorem bL.ext {w w':A2} {b:Nat} {l:List AC} (h:bL w b l) (k:Ext w w'):bL w' b l:=by
 obtain⟨t,h⟩:=h;exact⟨t,k.obj h⟩
theorem lB (w:A2) (o:Obj):(w.alloc o).heap.size=w.heap.size+1:=by simp
theorem fp (w:A2) (o:Obj):(w.alloc o).heap[w.heap.size]? =some o:=by
 show(w.heap.push o)[w.heap.size]? =some o;simp
theorem bL.new (w:A2) (l:List AC) (t:Aq):bL (w.alloc (.cells ⟨l⟩ t)) w.heap.size l:=⟨t,fp _ _⟩
theorem bL.same {w w':A2} {b:Nat} {l:List AC} (h:bL w b l) (k:w'.heap[b]? =w.heap[b]?):bL w' b l:=by
 obtain⟨t⟩:=h;exact⟨t,by grind⟩
theorem bL.Xf {w:A2} {b:Nat} {l:List AC} (h:bL w b l) {a:Ag} (c:b≠a.block) (vs:List AC):bL (js w (some a) vs) b l:=
 h.same (mP vs w a 0 b c)
theorem bL.putObj {w:A2} {b:Nat} {l:List AC} (h:bL w b l) {k:Nat} (a:b≠k) (o:Obj):bL (w.putObj k o) b l:=h.same (fx a)
theorem N8 (b o n:Nat):Addr.add ⟨b,o,none⟩ n=⟨b,o+n,none⟩:=by
 unfold Addr.add;simp
theorem aV (b o n:Nat):ad (some ⟨b,o,none⟩) n=some ⟨b,o+n,none⟩:=by simp[ad,N8]
theorem bL.cell {w:A2} {b:Nat} {l:List AC} (h:bL w b l) (o:Nat):w.cell? ⟨b,o,none⟩=l[o]? :=by
 obtain⟨t,h⟩:=h;simp[LL,h]
theorem bL.cellAt {w:A2} {b:Nat} {l:List AC} (h:bL w b l) (o n:Nat):w.cell? (Addr.add ⟨b,o,none⟩ n)=l[o+n]? :=by rw[N8,h.cell]
theorem bL.Ks {w:A2} {b:Nat} {l:List AC} (h:bL w b l) (a:Ag) (c:a.block=b):w.frozen? a=false:=by
 obtain⟨t,h⟩:=h;simp[World.frozen?,c,h]
theorem bL.om {w:A2} {b o:Nat} {l:List AC} (h:bL w b l) {s:Sc} {x:s.T} (a:l[o]? =some (s.gR x)):cC w (some ⟨b,o,none⟩) (.one s) x:=
 ⟨_,rfl,by rw[h.cell];omega⟩
theorem bL.rdA {w:A2} {b o:Nat} {l:List AC} (h:bL w b l) {ss:List Sc} {x:jg ss} (a: ∀i,i<ss.length->l[o+i]? =(a_ ss x)[i]?):cC w (some ⟨b,o,none⟩) (.agg ss) x:=
 ⟨_,rfl,λhi=>by rw[h.cellAt];grind⟩
theorem bL.oB {w:A2} {b o n:Nat} {l vs:List AC} (h:bL w b l) (a:vs.length=n) (c: ∀i,i<n->l[o+i]? =vs[i]?):oB w (some ⟨b,o,none⟩) n vs:=
 ⟨a,λhi=>by rw[h.cellAt];grind⟩
theorem bL.st {w:A2} {b o n:Nat} {l:List AC} (h:bL w b l) (a:o+n<=l.length):TX w (some ⟨b,o,none⟩) n:=
 ⟨_,rfl,λi hi=>⟨by rw[h.cellAt,Ik (by omega)];rfl,h.Ks _ (Ag.u6 _ _)⟩⟩
theorem CP {w:A2} {b o:Nat} {l:List AC} {t:Aq} (h:w.heap[b]? =some (.cells ⟨l⟩ t (0,0))) (v:AC):(w.setCell ⟨b,o,none⟩ v).heap[b]? =some (.cells ⟨l.set o v⟩ t (0,0)):=by
 simp only[M4,PP,h];simp
theorem zm: ∀(vs:List AC) (w:A2) (b o i:Nat) (l:List AC) (t:Aq),w.heap[b]? =some (.cells ⟨l⟩ t (0,0))->o+i+vs.length<=l.length->
 (putAt w ⟨b,o,none⟩ vs i).heap[b]? =some (.cells ⟨l.take (o+i)++(vs++l.drop (o+i+vs.length))⟩ t (0,0))
 |[],w,b,o,i,l,t,h, _=>by simp[putAt,h]
 |v::r,w,b,o,i,l,t,h,c=>by
  simp_all
  simp only[putAt,N8];rw[zm r _ b o (i+1) (l.set (o+i) v) t (CP h v) (by simp;omega)];congr 3;have h1:(l.set (o+i) v).take (o+(i+1))=l.take (o+i)++[v]:=by
   grind[NK,NL]
  have a:(l.set (o+i) v).drop (o+(i+1)+r.length)=l.drop (o+i+(r.length+1)):=by
   grind[NP]
  rw[h1,a];simp
theorem bL.put {w:A2} {b o:Nat} {l:List AC} (h:bL w b l) (vs:List AC) (a:o+vs.length<=l.length):bL (js w (some ⟨b,o,none⟩) vs) b (l.take o++(vs++l.drop (o+vs.length))):=by
 obtain⟨t,h⟩:=h;exact⟨t,zm vs w b o 0 l t h a⟩
theorem cQ.lt {w:A2} {l:Nat} {rec:Loop} {st:LoopState} {a:Option Code} (h:cQ w l rec st a):l<w.heap.size:=(CW.1 h).1
theorem cQ.ext {w w':A2} {l:Nat} {rec:Loop} {st:LoopState} {a:Option Code} (h:cQ w l rec st a) (k:Ext w w'):cQ w' l rec st a:=k.obj h
theorem cQ.same {w w':A2} {l:Nat} {rec:Loop} {st:LoopState} {a:Option Code} (h:cQ w l rec st a) (k:w'.heap[l]? =w.heap[l]?):cQ w' l rec st a:=by grind[cQ]
theorem cQ.put {w:A2} {l:Nat} {rec:Loop} {st:LoopState} {c:Option Code} (h:cQ w l rec st c) (a:LoopState) (b:Option Code):cQ (sS w l rec a b) l rec a b:=
 jR h.lt
def cellsOf:(e:El)->e.T->List AC
 | .one s,x=>[s.gR x]
 | .agg l,x=>a_ l x
def aE:El->Nat
 | .one _=>1
 | .agg l=>l.length
theorem dk (e:El) (x:e.T):(cellsOf e x).length=aE e:=by
 cases e with
 |one=>rfl
 |agg l=>exact cD l x
def Sl (w:A2) (e:El) (p:Option Ag) (xs:List e.T):Prop:= ∀i x,xs[i]? =some x->p.isSome=true/\cC w (ad p (i*aE e)) e x
theorem Sl.ext {w w':A2} {e:El} {p:Option Ag} {xs:List e.T} (h:Sl w e p xs) (k:Ext w w'):Sl w' e p xs:=
 λi x a=>⟨(h i x a).1,tn k (h i x a).2⟩
def flat (e:El) (xs:List e.T):List AC:=xs.flatMap (cellsOf e)
theorem aF (e:El) (xs:List e.T):(flat e xs).length=xs.length*aE e:=by
 induction xs with
 |nil
 |cons=>simp only[flat,Oj,FR,dk] at*;grind
theorem dK (e:El) (xs ys:List e.T):flat e (xs++ys)=flat e xs++flat e ys:=by simp[flat]
theorem yN (e:El): ∀(xs:List e.T) (i:Nat) (x:e.T),xs[i]? =some x-> ∀j,j<aE e->(flat e xs)[i*aE e+j]? =(cellsOf e x)[j]?
 |y::r,0,x,h,j,a=>by
  simp_all[flat,List.getElem?_append_left,dk]
 |y::r,i+1,x,h,j,a=>by
  have b:=yN e r i x ‹_› j a;simp[flat,Oj];rw[List.getElem?_append_right (by rw[dk,Fi];omega),dk];rw[show(i+1)*aE e+j - aE e=i*aE e+j by grind];exact b
theorem Sl.jA {w:A2} {e:El} {b:Nat} {l:List AC} {xs:List e.T} (h:bL w b l) (d:l.take (xs.length*aE e)=flat e xs):Sl w e (some ⟨b,0,none⟩) xs:=by
 intro i x c;have hi:=(List.getElem?_eq_some_iff.1 c).1;have f: ∀j,j<aE e->i*aE e+j<xs.length*aE e:=λj a=>by
  have:(i+1)*aE e<=xs.length*aE e:=PS _ hi
  grind
 have hc: ∀j,j<aE e->l[i*aE e+j]? =(cellsOf e x)[j]? :=λj a=>by
  rw[<-yN e xs i x c j a, <-d,List.getElem?_take_of_lt (f j a)]
 simp;rw[aV,Kb];cases e with
 |one=>exact h.om (by simp_all[aE,cellsOf])
 |agg ss=>exact h.rdA ‹_›
def lM (w0 w:A2) (e:El) (s:Option Ag×Nat×Nat) (xs:List e.T):Prop:=
 s.2.1=xs.length/\xs.length<=s.2.2/\
 ((s.1=none/\xs=[]/\s.2.2=0)\/ ∃b l,s.1=some ⟨b,0,none⟩/\w0.heap.size<=b/\bL w b l/\l.length=s.2.2*aE e/\l.take (xs.length*aE e)=flat e xs)
theorem lM.nil (w0 w:A2) (e:El):lM w0 w e (none,0,0) []:=⟨rfl,by simp⟩
theorem lM.ext {w0 w w':A2} {e:El} {s:Option Ag×Nat×Nat} {xs:List e.T} (h:lM w0 w e s xs) (k:Ext w w'):lM w0 w' e s xs:=by
 obtain⟨h1,c,a⟩:=h;refine⟨h1,c,?_⟩;rcases a with a|⟨b,l,a1,d,f,g⟩
 ·grind
 ·exact .inr ⟨b,l,a1,d,f.ext k,g⟩
theorem lM.same {w0 w w':A2} {e:El} {s:Option Ag×Nat×Nat} {xs:List e.T} (h:lM w0 w e s xs) (k: ∀a,s.1=some a->w'.heap[a.block]? =w.heap[a.block]?):lM w0 w' e s xs:=by
 obtain⟨h1,d,c⟩:=h;refine⟨h1,d,?_⟩;rcases c with c|⟨b,l,a1,f,g,i⟩
 ·grind
 ·exact .inr ⟨b,l,a1,f,g.same (k _ a1),i⟩
theorem lM.sl {w0 w:A2} {e:El} {s:Option Ag×Nat×Nat} {xs:List e.T} (h:lM w0 w e s xs):Sl w e s.1 xs:=by
 obtain⟨h1,f,a⟩:=h;rcases a with ⟨_,g, _⟩|⟨b,l,a1,i,c,j,d⟩
 ·intro;grind
 ·rw[a1];exact Sl.jA c d
theorem lM.len {w0 w:A2} {e:El} {s:Option Ag×Nat×Nat} {xs:List e.T} (h:lM w0 w e s xs):s.2.1=xs.length:=h.1
def gT:El->Bool
 | .one s=>s != .func
 | .agg l=>l.all (· != .func)
theorem zn (s:Sc) (x:s.T) (h:(s != .func)=true):(s.gR x).oneCell'=true:=by
 cases s<;>first|rfl|grind
theorem tT: ∀(ss:List Sc) (x:jg ss),ss.all (· != .func)=true->(a_ ss x).all (·.oneCell')=true
 |[], _, _=>rfl
 |s::r,x,h=>by
  simp only[Ih,BY] at h;simp[a_,tT r _ h.2,zn s _ h.1]
theorem EZ (e:El) (x:e.T) (h:gT e=true):(cellsOf e x).all (·.oneCell')=true:=by
 cases e with
 |one s=>simp[cellsOf,zn s x h]
 |agg l=>exact tT l x h
theorem jG (e:El) (xs:List e.T) (h:gT e=true):(flat e xs).all (·.oneCell')=true:=by grind[flat,EZ]
theorem lC {w0 w:A2} {e:El} {s x:Option Ag×Nat×Nat} {xs ys:List e.T} {t:Aq} {bytes:Nat} {z:Array AC} {R:Option Ag×Nat×Nat->A2->Prop}
 (h:lM w0 w e s xs) (h0:Ext w0 w) (y:gT e=true) (d:x.2.1=ys.length) (A:oB w x.1 (x.2.1*aE e) (flat e ys)) (B:z.size=aE e) (hb:(xs.length+ys.length)*bytes<=140737488355328)
 (k: ∀s' w',lM w0 w' e s' (xs++ys)->Ext w0 w'->(∀b,b<w.heap.size->(∀a,s.1=some a->b≠a.block)->w'.heap[b]? =w.heap[b]?)->w.heap.size<=w'.heap.size->
  ((∃a,s'.1=some a/\s.1=some a)\/(∃a,s'.1=some a/\w.heap.size<=a.block)\/s'=(s.1,s.2.1,s.2.2))->R s' w'):
 mz w t (aE e) bytes z s x R:=by
 obtain⟨h1,K,p⟩:=h;have n:=aF e xs;have j:=aF e ys;have C:oB w s.1 (s.2.1*aE e) (flat e xs):=by
  rcases p with ⟨a1,g,f⟩|⟨b,l,a1,g,f,q,r⟩
  ·rw[a1,g];rfl
  ·rw[a1];refine f.oB (by rw[n,h1]) λi hi=>?_
   grind
 refine⟨flat e xs,flat e ys,C,A,λm=>?_,λm=>⟨growslice_fits m (by rw[h1,d];exact hb),λc hc=>?_⟩⟩
 ·rcases p with ⟨a1,g,f⟩|⟨b,l,a1,g,f,q,r⟩
  ·rw[f] at m;have D:ys=[]:=List.eq_nil_of_length_eq_zero (by omega);subst D;subst g;refine⟨.inl rfl,?_⟩;have E:s.2.1=0:=h1;have u:x.2.1=0:=d;rw[a1];refine k _ _ ⟨by simp[E,u],Nat.zero_le _,.inl ⟨rfl,rfl,f⟩⟩ ?_ (λ_ _ _=>rfl) (Dx _) (.inr (.inr ?_))
   ·exact h0
   ·rw[a1,u];rfl
  ·have v:xs.length*aE e+ys.length*aE e<=l.length:=by
    rw[q, <-Fi];exact PS _ (by rw[<-h1, <-d];exact m)
   have F:s.1.map (·.add (s.2.1*aE e))=some ⟨b,xs.length*aE e,none⟩:=by
    rw[a1,h1];simp[N8]
   rw[F];refine⟨.inr ⟨f.st (by rw[j];exact v),jG e ys y⟩,?_⟩;have G:=f.put (o:=xs.length*aE e) (flat e ys) (by rw[j];exact v);refine k _ _ ⟨by simp[h1,d],by simp only[FR];rw[<-h1, <-d];exact m,.inr ⟨b, _,a1,g,G,?_,?_⟩⟩ (h0.js (a:=⟨b, _,none⟩) g _) (λH L I=>mP (flat e ys) w ⟨b, _,none⟩ 0 H (I ⟨b,0,none⟩ a1)) (Nat.le_of_eq (rT _ _ _ _).symm) (.inl ⟨_,a1,a1⟩)
   grind
   ·rw[r];have:(xs++ys).length*aE e=(flat e xs++flat e ys).length:=by simp only[FR,n,j,Fi]
    rw[this, <-List.append_assoc,dK];exact Ou rfl
 ·have M:w.drew.heap.size=w.heap.size:=rfl;refine k _ _ ⟨by simp[h1,d],by simp only[FR];rw[<-h1, <-d];exact hc,.inr ⟨w.heap.size,flat e xs++flat e ys++(GJ z (c - (s.2.1+x.2.1))).toList,rfl,h0.size,?_,?_,?_⟩⟩ ((h0.trans (Ext.drew w)).trans (Ext.alloc _ _)) (λb hb _=>?_) ?_ (.inr (.inl ⟨_,rfl,Dx _⟩))
  ·have J:(JR (flat e xs)++JR (flat e ys)++GJ z (c - (s.2.1+x.2.1)))=⟨flat e xs++flat e ys++(GJ z (c - (s.2.1+x.2.1))).toList⟩:=by
    apply JS;simp
   rw[J];exact bL.new w.drew _ _
  ·simp only[FR,n,j,GJ,Array.length_toList,Array.size_map,Array.size_range,B];rw[<-Fi, <-h1, <-d, <-Fi];congr 1;omega
  ·have:(xs++ys).length*aE e=(flat e xs++flat e ys).length:=by simp only[FR,n,j,Fi]
   rw[this,dK];exact Ou rfl
  ·have:w.drew.heap=w.heap:=rfl;rw[Ext.block (Ext.alloc w.drew _) (by rw[this];exact hb),this]
  ·rw[lB];exact Nat.le_succ _
theorem P1 {w0 w c w1:A2} {e:El} {s:Option Ag×Nat×Nat} {xs:List e.T} {x:e.T} {t:Aq} {bytes:Nat} {z:Array AC} {R:Option Ag×Nat×Nat->A2->Prop}
 (h:lM w0 w e s xs) (h0:Ext w0 w) (g:gT e=true) (i:Ext w c) (d:Ext (c.alloc (.cells ⟨cellsOf e x⟩ t)) w1) (j:z.size=aE e) (hb:(xs.length+1)*bytes<=140737488355328)
 (k: ∀s' w',lM w0 w' e s' (xs++[x])->Ext w0 w'->(∀b,b<w.heap.size->(∀a,s.1=some a->b≠a.block)->w'.heap[b]? =w.heap[b]?)->w.heap.size<=w'.heap.size->R s' w'):
 mz w1 t (aE e) bytes z s (some ⟨c.heap.size,0,none⟩,1,1) R:=by
 have kk:=(i.trans (Ext.alloc c _)).trans d;have l:=(bL.new c _ _).ext d;refine lC (ys:=[x]) (h.ext kk) (h0.trans kk) g rfl ?_ j hb λs' w' m n o p _=>k s' w' m n (λb f q=>?_) (Nat.le_trans kk.size p)
 ·refine l.oB (aF e _) λhi=>?_;simp[flat]
 ·rw[o b (Pl f kk.size) q,kk.block f]
def U (b:BitVec 64):Int:=(b.toNat:Int)
def B (x:Int):BitVec 64:=DB 64 x
theorem Fh (b:BitVec 64):B (U b)=b:=by simp[B,U]
theorem aa1 {a b:BitVec 64}:U a=U b<->a=b:=by grind[Fh]
theorem wrap_u64 (x:Int):Rg.wrap x=x % 18446744073709551616:=rfl
theorem U_B (x:Int):U (B x)=x % 18446744073709551616:=by
 unfold U B;simp
 grind
theorem BS {x:Int} (h:0<=x) (h':x<18446744073709551616):U (B x)=x:=by
 rw[U_B,Int.emod_eq_of_lt h h']
theorem Zf (x:Int):Rg.wrap x=U (B x):=by rw[wrap_u64,U_B]
theorem OZ (a b:BitVec 64):wP .u64 (U a) (U b)=U (a &&& b):=by
 show U (B (U (B _ &&& B _)))= _;rw[Fh,Fh,Fh]
theorem aa2 (a b:BitVec 64):orI .u64 (U a) (U b)=U (a ||| b):=by
 show U (B (U (B _ ||| B _)))= _;rw[Fh,Fh,Fh]
theorem Kt (a b:BitVec 64):gD .u64 (U a) (U b)=U (a &&& ~~~ b):=by
 show U (B (U (B _ &&& ~~~ B _)))= _;rw[Fh,Fh,Fh]
theorem O0 (a:BitVec 64) (n:Int):Dm .u64 (U a) n=U (a <<< n.toNat):=by
 unfold Dm;rw[wrap_u64];unfold U;rw[BitVec.toNat_shiftLeft,Nat.shiftLeft_eq];show(a.toNat:Int)*2 ^ min _ 64 % _= _;by_cases n.toNat<=64
 grind
 ·have h1:a.toNat*2 ^ n.toNat % 2 ^ 64=0:=by
   apply Nat.mod_eq_zero_of_dvd;exact Nat.dvd_trans (Nat.pow_dvd_pow 2 (by omega)) (Nat.dvd_mul_left ..)
  grind
theorem O1 (a:BitVec 64) (n:Int):J9 .u64 (U a) n=U (a >>> n.toNat):=by
 unfold U;rw[BitVec.toNat_ushiftRight,Nat.shiftRight_eq_div_pow];have e: ∀k,(a.toNat:Int).fdiv (2 ^ k)=(a.toNat / 2 ^ k: ):=λk=>by
  grind
 show(a.toNat:Int).fdiv (2 ^ min _ 64)= _;rw[e];by_cases n.toNat<=64
 grind
 ·rw[Nat.min_eq_right (by omega)];have h0:=a.isLt;rw[Pp h0,Pp (Pl h0 (Nat.pow_le_pow_right (by simp) (by omega)))]
theorem gg {x:Int} (h: -9223372036854775808<=x) (h':x<9223372036854775808):FP.wrap x=x:=by
 simp only[IntKind.wrap,IntKind.bits,IntKind.signed]
 grind
theorem aw {x y:Int} (h: -9223372036854775808<=x+y) (h':x+y<9223372036854775808):aI .i64 x y=x+y:=gg h h'
theorem bC {x y:Int} (h: -9223372036854775808<=x - y) (h':x - y<9223372036854775808):aX .i64 x y=x - y:=gg h h'
theorem d_ {x y:Int} (h: -9223372036854775808<=x*y) (h':x*y<9223372036854775808):gq .i64 x y=x*y:=gg h h'
theorem bU {P:B1} {f:B6} {sh:Sh} {args:List AC} {w:A2} {x:sh.T} (h:aD P f sh args w (λy w'=>y=x/\Ext w w')):
 Calls P f ⟨args⟩ w (λe w'=>e= .returned (sh.gR x)/\Ext w w'):=
 Fm h (by grind)
abbrev ae (b:Nat):Option Ag:=some ⟨b,0,none⟩
abbrev jh:El:= .one .ptr
abbrev aT:El:= .one (.int .i64)
abbrev ou:El:= .one (.int .u64)
abbrev eJ:El:= .one .slice
abbrev rq:El:= .one .bool
abbrev N9:El:= .one .map
abbrev fT (w:A2) (a:Option Ag) (K:Option Ag->Prop):Prop:=aj w none a (.one .ptr) K
abbrev bE (p:Option Ag) (n:Nat) (w:A2) (K:Option Ag->Prop):Prop:=p.isSome=true/\p.isSome=true/\aj w none (ad p n) (.one .ptr) K
abbrev aR (w:A2) (a:Option Ag) (K:Int->Prop):Prop:=aj w none a (.one (.int .i64)) K
abbrev cL (p:Option Ag) (n:Nat) (w:A2) (K:Int->Prop):Prop:=p.isSome=true/\p.isSome=true/\aj w none (ad p n) (.one (.int .i64)) K
abbrev cH (w:A2) (a:Option Ag) (K:Int->Prop):Prop:=aj w none a (.one (.int .u64)) K
abbrev acL (p:Option Ag) (n:Nat) (w:A2) (K:Int->Prop):Prop:=p.isSome=true/\p.isSome=true/\aj w none (ad p n) (.one (.int .u64)) K
abbrev sT (w:A2) (a:Option Ag) (K:Option Ag×Nat×Nat->Prop):Prop:=aj w none a (.one .slice) K
abbrev e8 (p:Option Ag) (n:Nat) (w:A2) (K:Option Ag×Nat×Nat->Prop):Prop:=p.isSome=true/\p.isSome=true/\aj w none (ad p n) (.one .slice) K
abbrev sU (w:A2) (a:Option Ag) (K:Bool->Prop):Prop:=aj w none a (.one .bool) K
abbrev ab3 (p:Option Ag) (n:Nat) (w:A2) (K:Bool->Prop):Prop:=p.isSome=true/\p.isSome=true/\aj w none (ad p n) (.one .bool) K
abbrev acM (w:A2) (a:Option Ag) (K:Option Nat->Prop):Prop:=aj w none a (.one .map) K
abbrev sV (p:Option Ag) (n:Nat) (w:A2) (K:Option Nat->Prop):Prop:=p.isSome=true/\p.isSome=true/\aj w none (ad p n) (.one .map) K
abbrev cw:El:= .agg [.int .u64,.int .i64]
abbrev dG:El:= .agg [.int .i64,.int .i64,.int .i64,.int .i64]
abbrev sW:El:= .agg [.int .i64,.int .u64,.int .u64,.int .u64]
abbrev wR:El:= .agg [.int .i64,.int .i64,.int .i64]
abbrev T5:El:= .agg [.int .i64,.int .i64,.int .i64,.int .i64,.int .u64,.int .u64,.int .u64,.int .u64,.int .i64]
abbrev jU:El:= .agg [.bool,.int .i64,.bool,.int .i64]
theorem au {c:Prop} {h:Decidable c} (a: ¬c) {α:Sort _} {t e:α}:ite c t e=e:=if_neg a
theorem ay {c:Prop} {h:Decidable c} (hc:c) {α:Sort _} {t e:α}:ite c t e=t:=if_pos hc
abbrev aa (x:Int):AC:= .int .i64 x
abbrev ax (x:Int):AC:= .int .u64 x
abbrev ag (x:Option Ag):AC:= .pointer x
end Go.RX
