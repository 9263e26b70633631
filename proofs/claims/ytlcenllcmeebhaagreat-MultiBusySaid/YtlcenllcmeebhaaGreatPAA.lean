import Derived.CallsIn
import Derived.OrdersIn
import Derived.Below
import Derived.Laws.Sem
import Derived.KernelRfl
import Derived.Laws.StructEq
import Derived.Laws.Small
import Derived.WalkSpells
import Derived.ChangeKeysEq
import Derived.RangeFuncLeaves
import Derived.Laws.World
import Derived.Laws.NewFold
import Derived.OwnWalkIn
import Derived.ChangeMaps4
import Derived.Maps.RangeRun
import Derived.RangeFuncRecord
import Derived.LaidEqlPtr
import Derived.Conc.LoneSelect
import Derived.Laws.Append
import Derived.Test.YtlcenllcmeebhaaGreatProg
import Derived.Deep.Slices
import Derived.ProofKit
import Derived.OpenShut
/-! What the statement leans on: texts joined and shortened by a program of mine. -/
set_option linter.unusedVariables false
set_option linter.unusedSimpArgs false
open Go renaming World->A2,Value->AB,Addr->AF,TypeId->AG,Program->AH,IntKind->Aq,FuncId->B1,MapEntry->DA
open False renaming elim->AC
open Go.Sem renaming run_bind->AT,run_pure->Ap
open Go.Result renaming andThen_ok->Ae,andThen->DB
open Go.Region renaming ready->B2,wanted->BO,binds->DH,schedule->GH,linearise->NA
open List renaming range->B3,mem_filter->Bs,mem_cons->Ca,all_eq_true->Dh,mem_range->Dl,mem_append->Dr,length_append->Dw,mem_map->GI,getElem?_cons_zero->GJ,map_toArray->GS,map_cons->Ga,map_nil->Gd,range'->Gi,countP_singleton->Gj,all_cons->Ij,getElem?_eq_getElem->Im,mem_cons_self->In,getElem?_toArray->Io,getElem?_cons_succ->J0,range'_succ->J1,countP_append->J3,length_cons->NF,take_add_one->NI,take_set_of_le->NK,drop_set_of_lt->NL,mem_cons_of_mem->NO,find?_some->NR,filter_cons->NS,range_eq_range'->Nv,countP_eq_zero->O2,range_succ->OX,flatMap_cons->Oc,take_left'->Og
open Go.Op renaming equalIn->B4
open Bool renaming and_eq_true->B5,false_eq_true->E4,or_eq_true->Ft,not_eq_true'->H4,or_false->J4,not_false->Oi
open Array renaming getElem?_eq_some_iff->BX,getElem?_setIfInBounds_ne->DE,replicate->E5,getD_eq_getD_getElem?->Fw,all_eq_true_iff_forall_mem->H5,mk->J5,ext'->J_,mapM_eq_mapM_toList->JP,getD->JQ,getElem?_eq_getElem->JS,mem_of_getElem?->JU,getElem?_modify->Ok
open BitVec renaming ofInt->Bx
open Go.Act renaming put->C5,put_comm->Dn,eval->Fx
open Option.some renaming injEq->Cc
open Go.MapKept renaming run_getObj_map->Cd,run_checkKey->DN,run_findKey->DQ,IsKey->H7,run_setObj_map->HB
open Nat renaming le_refl->Db,blt->F4,add_mul->FC,testBit_or->G1,zero_add->JW,strongRecOn->K1,mul_le_mul_right->Ow,lt_of_lt_of_le->PP,div_eq_of_lt->PS
open Go.Fence renaming wide->Dd
open Go.IntKind renaming i64->Do,u64->Pl
open Go.Calls renaming mono->FQ
open Go.Instr renaming findNow->FR,lookup->FS,fill->Hb,indexAt->Hq,sureAddr->Hr,index->I1,extract->I2,mapUpdate->Kc,sliceBound->Pp,sliceBounds->Rg,sliceAt->S0,makeSlice->S1,buildSlice->S2
open Go.World renaming putObj->FU,cell?->LL,setCell->M4
open Go.Builtin renaming firstCells->FV,len_->GD,zeroCells->GF,lenOf->M5,append_->N7,delete_->N8,nextslicecap->T0,copy_->T3
open Go.Region.linearise renaming go->Fh
open Option renaming map_some->GG,getD_some->IE,map_none->T5
open Go.Conc renaming G->IR,solo->T6,rcase->TA
namespace Go.RX
open Go.RowKit
def Ext (w w':A2):Prop:=Below w.heap.size w w'
theorem Ext.refl (w:A2):Ext w w:=Below.refl _ w
theorem Ext.trans {a b c:A2} (h:Ext a b) (k:Ext b c):Ext a c:=Below.trans h (Below.mono k h.size)
theorem Ext.drew (w:A2):Ext w {w with drawn:=w.drawn+1}:=⟨rfl,rfl,rfl,Db _,λ_ _=>rfl⟩
theorem Ext.alloc (w:A2) (o:Obj):Ext w (w.alloc o):=Below.alloc (Below.refl _ w) (Db _) o
theorem Ext.size {w w':A2} (h:Ext w w'):w.heap.size<=w'.heap.size:=Below.size h
theorem Ext.block {w w':A2} (h:Ext w w') {k:Nat} (a:k<w.heap.size):w'.heap[k]? =w.heap[k]? :=Below.block h k a
theorem Ext.obj {w w':A2} (h:Ext w w') {k:Nat} {o:Obj} (a:w.heap[k]? =some o):w'.heap[k]? =some o:=by
 rw[h.block (BX.1 a).1];exact a
theorem GL {w:A2} {a:AF} {v:AB} (h:w.cell? a=some v):a.block<w.heap.size:=by
 unfold LL at h;cases b:w.heap[a.block]? with
 |none=>simp[b] at h
 |some o=>exact(BX.1 b).1
theorem Ext.cell {w w':A2} (h:Ext w w') {a:AF} {v:AB} (b:w.cell? a=some v):w'.cell? a=some v:=by
 rw[Below.cell h (GL b)];exact b
inductive Sc where
 |int (k:Aq)|bool|str|ptr|slice|map|chan|func|z_ (f:B1) (n:Nat)|Xq
 deriving DecidableEq
@[reducible] def DC:Nat->Type
 |0=>Unit
 |n+1=>Option AF×DC n
def xr:(n:Nat)->DC n->List AB
 |0, _=>[]
 |n+1,x=> .pointer x.1::xr n x.2
def mQ:(n:Nat)->List AB->Option (DC n)
 |0,[]=>some ()
 |n+1,.pointer a::r=>match mQ n r with
  |some y=>some (a,y)
  |none=>none
 | _, _=>none
theorem tW: ∀{n:Nat} {l:List AB} {x:DC n},mQ n l=some x->xr n x=l
 |0,[], _, _=>rfl
 |0, _:: _, _,h=>by simp[mQ] at h
 |n+1,[], _,h=>by simp[mQ] at h
 |n+1,v::r,x,h=>by
  cases v<;>simp only[mQ] at h<;>(try (cases h;done));split at h
  ·rename_i y a;cases h;simp only[xr,tW a]
  ·cases h
@[reducible] def Sc.T:Sc->Type
 | .int _=>Int
 | .bool=>Bool
 | .str=>ByteArray
 | .ptr=>Option AF
 | .slice=>Option AF×Nat×Nat
 | .map=>Option Nat
 | .chan=>Option Nat
 | .func=>AB
 | .z_ _ n=>DC n
 | .Xq=>Nat
def Sc.gK:(s:Sc)->s.T->AB
 | .int k,n=> .int k n
 | .bool,b=> .bool b
 | .str,s=> .string s
 | .ptr,a=> .pointer a
 | .slice,x=> .slice x.1 x.2.1 x.2.2
 | .map,r=> .map r
 | .chan,r=> .chan r
 | .func,v=>v
 | .z_ f n,x=> .func (.func f) #[] ⟨xr n x⟩
 | .Xq,y=> .func (.yield y) #[] #[]
def Sc.proj:(s:Sc)->AB->Option s.T
 | .int k,.int d n=>if k=d then some n else none
 | .bool,.bool b=>some b
 | .str,.string s=>some s
 | .ptr,.pointer a=>some a
 | .slice,.slice a n c=>some (a,n,c)
 | .map,.map r=>some r
 | .chan,.chan r=>some r
 | .func,v=>some v
 | .z_ f n,.func (.func f') ⟨[]⟩ ⟨l⟩=>if f=f' then mQ n l else none
 | .Xq,.func (.yield y) ⟨[]⟩ ⟨[]⟩=>some y
 | _, _=>none
theorem Sc.il {s:Sc} {v:AB} {x:s.T} (h:s.proj v=some x):s.gK x=v:=by
 cases s with
 |z_ f n=>
  cases v with
  |func fn first a=>
   obtain⟨b⟩:=first
   obtain⟨c⟩:=a;cases fn<;>cases b<;>simp only[Sc.proj] at h<;>(try (cases h;done));split at h
   ·subst_vars
    simp only[Sc.gK,tW h]
   ·cases h
  | _=>simp[Sc.proj] at h
 |Xq=>
  cases v with
  |func fn first a=>
   obtain⟨b⟩:=first
   obtain⟨c⟩:=a;cases fn<;>cases b<;>cases c<;>simp only[Sc.proj] at h<;>first|(cases h;done)|(cases h;rfl)
  | _=>simp[Sc.proj] at h
 | _=>
   cases v<;>simp only[Sc.proj] at h<;>
    first
     |(cases h;rfl)
     |(split at h<;>cases h;subst_vars;rfl)
     |(cases h)
@[reducible] def gY:List Sc->Type
 |[]=>Unit
 |s::r=>s.T×gY r
def a7:(l:List Sc)->gY l->List AB
 |[], _=>[]
 |s::r,x=>s.gK x.1::a7 r x.2
def lZ:(l:List Sc)->List AB->Option (gY l)
 |[],[]=>some ()
 |s::r,v::vs=>match s.proj v,lZ r vs with
  |some x,some y=>some (x,y)
  | _, _=>none
 | _, _=>none
theorem pD: ∀{l:List Sc} {vs:List AB} {x:gY l},lZ l vs=some x->a7 l x=vs
 |[],[], _, _=>rfl
 |[], _:: _, _,h=>by simp[lZ] at h
 | _:: _,[], _,h=>by simp[lZ] at h
 |s::r,v::vs,x,h=>by
  simp only[lZ] at h;cases h1:s.proj v with
  |none=>simp[h1] at h
  |some a=>
   cases c:lZ r vs with
   |none=>simp[h1,c] at h
   |some b=>
    simp only[h1,c] at h;cases h;simp only[a7,Sc.il h1,pD c]
inductive El where
 |one (s:Sc)|agg (l:List Sc)
@[reducible] def El.T:El->Type
 | .one s=>s.T
 | .agg l=>gY l
def El.gK:(e:El)->e.T->AB
 | .one s,x=>s.gK x
 | .agg l,x=> .agg ⟨a7 l x⟩
def El.proj:(e:El)->AB->Option e.T
 | .one s,v=>s.proj v
 | .agg l,.agg ⟨vs⟩=>lZ l vs
 | .agg _, _=>none
theorem El.il {e:El} {v:AB} {x:e.T} (h:e.proj v=some x):e.gK x=v:=by
 cases e with
 |one s=>exact Sc.il h
 |agg l=>
  cases v with
  |agg cs=>obtain⟨vs⟩:=cs;exact congrArg (λl=>Value.agg ⟨l⟩) (pD h)
  | _=>simp[El.proj] at h
@[reducible] def oy:List El->Type
 |[]=>Unit
 |e::r=>e.T×oy r
def uZ:(l:List El)->oy l->List AB
 |[], _=>[]
 |e::r,x=>e.gK x.1::uZ r x.2
def nA:(l:List El)->List AB->Option (oy l)
 |[],[]=>some ()
 |s::r,v::vs=>match s.proj v,nA r vs with
  |some x,some y=>some (x,y)
  | _, _=>none
 | _, _=>none
theorem vP: ∀{l:List El} {vs:List AB} {x:oy l},nA l vs=some x->uZ l x=vs
 |[],[], _, _=>rfl
 |[], _:: _, _,h=>by simp[nA] at h
 | _:: _,[], _,h=>by simp[nA] at h
 |s::r,v::vs,x,h=>by
  simp only[nA] at h;cases h1:s.proj v with
  |none=>simp[h1] at h
  |some a=>
   cases c:nA r vs with
   |none=>simp[h1,c] at h
   |some b=>
    simp only[h1,c] at h;cases h;simp only[uZ,El.il h1,vP c]
inductive Sh where
 |el (e:El)|bu (l:List El)
@[reducible] def Sh.T:Sh->Type
 | .el e=>e.T
 | .bu l=>oy l
def Sh.gK:(s:Sh)->s.T->AB
 | .el e,x=>e.gK x
 | .bu l,x=> .tuple ⟨uZ l x⟩
def Sh.proj:(s:Sh)->AB->Option s.T
 | .el e,v=>e.proj v
 | .bu l,.tuple ⟨vs⟩=>nA l vs
 | .bu _, _=>none
theorem Sh.il {e:Sh} {v:AB} {x:e.T} (h:e.proj v=some x):e.gK x=v:=by
 cases e with
 |el s=>exact El.il h
 |bu l=>
  cases v with
  |tuple cs=>obtain⟨vs⟩:=cs;exact congrArg (λl=>Value.tuple ⟨l⟩) (vP h)
  | _=>simp[Sh.proj] at h
def AI (P:AH):Nat->AG->Option (List Sc)
 |0, _=>none
 |d+1,t=>match P.underlying t with
  |some (.int k)=>some [.int k]
  |some .bool=>some [.bool]
  |some .string=>some [.str]
  |some (.pointer _)=>some [.ptr]
  |some (.slice _)=>some [.slice]
  |some (.map _ _)=>some [.map]
  |some (.chan _ _)=>some [.chan]
  |some (.func _ _ _)=>some [.func]
  |some (.struct fs)=>fs.toList.foldr (λf c=>match AI P d f.type,c with|some a,some b=>some (a++b)| _, _=>none) (some [])
  |some (.array n e)=>match AI P d e with
   |some a=>if n<=64 then some (List.replicate n a).flatten else none
   |none=>none
  | _=>none
def uR (P:AH) (t:AG):Option El:=
 match P.underlying t with
 |some (.struct _)|some (.array _ _)=>(AI P 20 t).map .agg
 | _=>match AI P 20 t with
   |some [s]=>some (.one s)
   | _=>none
def WO (P:AH):List AG->Option (List El)
 |[]=>some []
 |t::r=>match uR P t,WO P r with
  |some e,some l=>some (e::l)
  | _, _=>none
def aaK (P:AH) (f:B1):Sh:=
 match P.funcs[f]? with
 |some fn=>match fn.resultTypes.toList with
  |[t]=>match uR P t with
   |some e=> .el e
   |none=> .bu []
  |ts=>match WO P ts with
   |some l=> .bu l
   |none=> .bu []
 |none=> .bu []
def aJ (k:Aq) (x y:Int):Int:=k.wrap (x+y)
def aY (k:Aq) (x y:Int):Int:=k.wrap (x - y)
def iy (k:Aq) (x y:Int):Int:=k.wrap (x*y)
def wS (k:Aq) (x y:Int):Int:=k.wrap (x.tdiv y)
def eZ (x y:Int):Int:=x.tmod y
def wT (k:Aq) (x y:Int):Int:=k.wrap (Bx k.bits x &&& Bx k.bits y).toNat
def Z3 (k:Aq) (x y:Int):Int:=k.wrap (Bx k.bits x ||| Bx k.bits y).toNat
def aaa (k:Aq) (x y:Int):Int:=k.wrap (Bx k.bits x ^^^ Bx k.bits y).toNat
def gF (k:Aq) (x y:Int):Int:=k.wrap (Bx k.bits x &&& ~~~ (Bx k.bits y)).toNat
def Dp (k:Aq) (x y:Int):Int:=k.wrap (x*2 ^ (min y.toNat k.bits))
def J7 (k:Aq) (x y:Int):Int:=x.fdiv (2 ^ (min y.toNat k.bits))
def aF (k:Aq) (x:Int):Int:=k.wrap x
def aab (k:Aq) (x:Int):Int:=k.wrap (Bx k.bits (if k.signed then -1 else k.max) ^^^ Bx k.bits x).toNat
def kr (x y:Int):Int:=if y<x then y else x
def Dq (x y:Int):Int:=if y>x then y else x
structure PR where
 ob:Option Prop
 v:AB
def pj:Operand->Bool
 | .const (.int _ n)=>decide (n≠0)
 | _=>false
def pS:Operand->Bool
 | .const (.int _ n)=>decide (0<=n)
 | _=>false
def ku:Operand->Bool
 | .const (.pointer none)| .const (.slice none _ _)| .const (.map none)| .const .nilFunc=>true
 | _=>false
def OP (op:BinOp) (k:Aq) (x y:Int) (a:Operand):Option PR:=
 match op with
 | .add=>some ⟨none,.int k (aJ k x y)⟩
 | .sub=>some ⟨none,.int k (aY k x y)⟩
 | .mul=>some ⟨none,.int k (iy k x y)⟩
 | .quo=>some ⟨if pj a then none else some (y≠0),.int k (wS k x y)⟩
 | .rem=>some ⟨if pj a then none else some (y≠0),.int k (eZ x y)⟩
 | .and=>some ⟨none,.int k (wT k x y)⟩
 | .or=>some ⟨none,.int k (Z3 k x y)⟩
 | .xor=>some ⟨none,.int k (aaa k x y)⟩
 | .andNot=>some ⟨none,.int k (gF k x y)⟩
 | .eql=>some ⟨none,.bool (x==y)⟩
 | .neq=>some ⟨none,.bool (x != y)⟩
 | .lss=>some ⟨none,.bool (decide (x<y))⟩
 | .leq=>some ⟨none,.bool (decide (x<=y))⟩
 | .gtr=>some ⟨none,.bool (decide (x>y))⟩
 | .geq=>some ⟨none,.bool (decide (x>=y))⟩
 | _=>none
def kh (P:AH) (t:AG):Option Bool:=
 match P.underlying t with
 |some (.struct _)|some (.array _ _)=>some true
 |some _=>some false
 |none=>none
def qN (P:AH) (t:AG) (cs:List AB) (off:Nat):Option AB:=
 match kh P t,P.info? t with
 |some true,some i=>some (.agg ⟨(cs.drop off).take i.size⟩)
 |some false, _=>cs[off]?
 | _, _=>none
def N3 (P:AH) (g:AG->AB->AB->Option Bool) (xs ys:List AB):List Field->Option Bool
 |[]=>some true
 |f::fs=>if f.name≠ "_" then
   match qN P f.type xs f.offset,qN P f.type ys f.offset with
   |some a,some b=>match g f.type a b,N3 P g xs ys fs with
    |some r,some s=>some (r&&s)
    | _, _=>none
   | _, _=>none
  else N3 P g xs ys fs
def eqV (P:AH):Nat->AG->AB->AB->Option Bool
 |0, _, _, _=>none
 |d+1,t,x,y=>
  match P.underlying t with
  |some .bool=>match x,y with
   | .bool a,.bool b=>some (a==b)
   | _, _=>none
  |some (.int _)=>match x,y with
   | .int k a,.int c b=>if k=c then some (a==b) else none
   | _, _=>none
  |some .string=>match x,y with
   | .string a,.string b=>some (a==b)
   | _, _=>none
  |some (.struct fs)=>match x,y with
   | .agg ⟨xs⟩,.agg ⟨ys⟩=>if P.stoodInHeld t then none else N3 P (eqV P d) xs ys fs.toList
   | _, _=>none
  | _=>none
def Yf (P:AH) (op:BinOp) (t:AG) (d c:Operand) (x y:AB):Option PR:=
 match x,y with
 | .int k a,.int e b=>
   match op with
   | .shl=>some ⟨if pS c then none else some (0<=b),.int k (Dp k a b)⟩
   | .shr=>some ⟨if pS c then none else some (0<=b),.int k (J7 k a b)⟩
   |op=>if k=e then OP op k a b c else none
 | .bool a,.bool b=>
   match op,P.underlying t with
   | .eql,some .bool=>some ⟨none,.bool (a==b)⟩
   | .neq,some .bool=>some ⟨none,.bool (!(a==b))⟩
   | _, _=>none
 | .pointer p,.pointer q=>
   match op,P.underlying t with
   | .eql,some (.pointer _)=>if ku c then some ⟨none,.bool p.isNone⟩ else if ku d then some ⟨none,.bool q.isNone⟩ else none
   | .neq,some (.pointer _)=>if ku c then some ⟨none,.bool (!p.isNone)⟩ else if ku d then some ⟨none,.bool (!q.isNone)⟩ else none
   | _, _=>none
 | .slice p _ _,.slice q _ _=>
   match op,P.underlying t with
   | .eql,some (.slice _)=>if ku c then some ⟨none,.bool p.isNone⟩ else if ku d then some ⟨none,.bool q.isNone⟩ else none
   | .neq,some (.slice _)=>if ku c then some ⟨none,.bool (!p.isNone)⟩ else if ku d then some ⟨none,.bool (!q.isNone)⟩ else none
   | _, _=>none
 | .map p,.map q=>
   match op,P.underlying t with
   | .eql,some (.map _ _)=>if ku c then some ⟨none,.bool p.isNone⟩ else if ku d then some ⟨none,.bool q.isNone⟩ else none
   | .neq,some (.map _ _)=>if ku c then some ⟨none,.bool (!p.isNone)⟩ else if ku d then some ⟨none,.bool (!q.isNone)⟩ else none
   | _, _=>none
 | .string a,.string b=>
   match op with
   | .eql=>some ⟨none,.bool (a==b)⟩
   | .neq=>some ⟨none,.bool (!(a==b))⟩
   | _=>none
 | .agg xs,.agg ys=>
   if P.eqGuardType P.depth t then none else
   match op,eqV P Op.maxDepth t (.agg xs) (.agg ys) with
   | .eql,some r=>some ⟨none,.bool r⟩
   | .neq,some r=>some ⟨none,.bool (!r)⟩
   | _, _=>none
 | _, _=>none
def unV (op:UnOp) (x:AB):Option PR:=
 match op,x with
 | .not,.bool b=>some ⟨none,.bool (!b)⟩
 | .neg,.int k n=>some ⟨none,.int k (aY k 0 n)⟩
 | .xor,.int k n=>some ⟨none,.int k (aab k n)⟩
 | _, _=>none
def WQ (P:AH) (src dst:AG) (x:AB):Option PR:=
 match P.underlying src,P.underlying dst,x with
 |some _,some (.int k),.int _ n=>some ⟨none,.int k (aF k n)⟩
 |some .string,some .string,.string s=>some ⟨none,.string s⟩
 | _, _, _=>none
def xv (P:AH) (t:AG) (i:Nat):Option Field:=
 match P.underlying t with
 |some (.struct fs)=>fs[i]?
 | _=>none
def maps (ρ:Operand->Option AB):List Operand->Option (List AB)
 |[]=>some []
 |x::r=>match ρ x,maps ρ r with
  |some v,some l=>some (v::l)
  | _, _=>none
def AJ (ρ:Operand->Option AB):List (Nat×Operand)->Option (List (Nat×AB))
 |[]=>some []
 |(i,x)::r=>match ρ x,AJ ρ r with
  |some v,some l=>some ((i,v)::l)
  | _, _=>none
def ad (p:Option AF) (n:Nat):Option AF:=p.map (·.add n)
def Cj:List AB->Aq->Option (List Int)
 |[], _=>some []
 | .int a n::r,k=>if k=a then(match Cj r k with|some l=>some (n::l)|none=>none) else none
 | _, _=>none
def FG (l:List Int) (i:Int):Int:=l.getD i.toNat 0
def Yg (l:List AB) (i:Int):AB:=l.getD i.toNat undef
def e_ (a:Nat->Option (Nat×Nat)) (cells:List AB):List (Nat×AB)->Option (List AB)
 |[]=>some cells
 |(i,v)::rest=>match a i with
  |none=>none
  |some (off,size)=>
   if(Nat.beq v.cells.toList.length size&&Nat.ble (off+size) cells.length)=true then e_ a (cells.take off++(v.cells.toList++cells.drop (off+size))) rest else none
def AL (a:Nat->Option (Nat×Nat)) (cells:Array AB) (ps:List (Nat×AB)):Option (Array AB):=
 match e_ a cells.toList ps with
 |some l=>some ⟨l⟩
 |none=>none
theorem DR: ∀(vs:List AB) (k off:Nat) (cs:List AB),off+k+vs.length<=cs.length->
 (vs.zipIdx k).foldl (λ(cs:Array AB) (x:AB×Nat)=>cs.setIfInBounds (off+x.2) x.1) ⟨cs⟩=⟨cs.take (off+k)++(vs++cs.drop (off+k+vs.length))⟩
 |[],k,off,cs,h=>by simp
 |v::vs,k,off,cs,h=>by
  simp only[NF] at h;simp;rw[DR vs (k+1) off (cs.set (off+k) v) (by simp;omega)];congr 1
  grind[NI,NK,NL]
theorem DU (a:Nat->Option (Nat×Nat)): ∀(ps:List (Nat×AB)) (cells r:List AB),e_ a cells ps=some r->Hb a ⟨cells⟩ ps=some ⟨r⟩
 |[],cells,r,h=>by cases h;rfl
 |(i,v)::rest,cells,r,h=>by
  unfold e_ at h;unfold Hb;split at h
  ·cases h
  ·rename_i off size b;split at h
   ·rename_i hc;simp only[B5,Nat.beq_eq,Nat.ble_eq] at hc;obtain⟨h1,e⟩:=hc;have c:v.cells.size=size:=by simpa using h1
    have d: ¬ ((decide (v.cells.size≠size)||decide (off+v.cells.size>(J5 cells).size))=true):=by
     simp[c];omega
    simp only[b,d];have:=DR v.cells.toList 0 off cells (by simp only[h1];omega);have f:v.cells.zipIdx=⟨v.cells.toList.zipIdx 0⟩:=by
     apply J_;simp
    have g:v.cells.zipIdx.foldl (λ(cs:Array AB) (x:AB×Nat)=>cs.setIfInBounds (off+x.2) x.1) ⟨cells⟩=⟨cells.take off++(v.cells.toList++cells.drop (off+size))⟩:=by
     grind
    refine Eq.trans ?_ (DU a rest _ r h)
    grind
   ·cases h
theorem yN {a:Nat->Option (Nat×Nat)} {cells:Array AB} {ps:List (Nat×AB)} {cs:Array AB} (h:AL a cells ps=some cs):Hb a cells ps=some cs:=by
 unfold AL at h;split at h
 ·rename_i l b;cases h;exact DU a ps _ l b
 grind
def F7 (P:AH) (t:AG) (parts:List (Nat×AB)):Option (Array AB):=
 match P.info? t with
 |some i=>match i.zero with
  |some z=>match P.underlying t with
   |some (.struct fs)=>if fs.toList.all (λf=>(P.info? f.type).isSome) then AL ((fs.toList.map λf=>(f.offset,P.cellsOf f.type))[·]?) z.cells parts else none
   |some (.array _ e)=>match P.info? e with
    |some a=>AL (λi=>some (i*a.size,a.size)) z.cells parts
    |none=>none
   | _=>none
  |none=>none
 |none=>none
def WR (s:ByteArray) (i:Int):Int:=(((s.data.toList)[i.toNat]?.getD 0).toNat:Int)
def iA (ρ:Operand->Option AB) (d:Nat):Option Operand->Option (Int)
 |none=>some d
 |some x=>match ρ x with
  |some (.int _ n)=>some n
  | _=>none
def pop (P:AH) (ρ:Operand->Option AB) (o:Oper):Option PR:=
 match o.op with
 | .move x=>match ρ x with
   |some v=>some ⟨none,v⟩
   |none=>none
 | .assign x=>match ρ x with
   |some v=>some ⟨none,v⟩
   |none=>none
 | .nilCheck x=>match ρ x with
   |some (.pointer p)=>some ⟨some (p.isSome=true),.pointer p⟩
   |some (.func (.func f) fs cs)=>some ⟨none,.func (.func f) fs cs⟩
   | _=>none
 | .binOp op t x y _=>match ρ x,ρ y with
   |some a,some b=>Yf P op t x y a b
   | _, _=>none
 | .unOp op _ x=>match ρ x with
   |some a=>unV op a
   |none=>none
 | .convert s d x=>match ρ x with
   |some a=>WQ P s d a
   |none=>none
 | .fieldAddr s x f=>match ρ x,xv P s f with
   |some (.pointer p),some fd=>match P.info? fd.type with
    |some i=>if i.size=0 then none else some ⟨some (p.isSome=true),.pointer (ad p fd.offset)⟩
    |none=>none
   | _, _=>none
 | .field t x f=>match ρ x,xv P t f with
   |some (.agg ⟨cs⟩),some fd=>match qN P fd.type cs fd.offset with
    |some v=>some ⟨none,v⟩
    |none=>none
   | _, _=>none
 | .indexAddr t x ix=>match P.underlying t,ρ x,ρ ix with
   |some (.array len e),some (.pointer p),some (.int _ i)=>match P.info? e with
    |some g=>if len<=1 then none else some ⟨some (p.isSome=true/\0<=i/\i<len),.pointer (ad p (i.toNat*g.size))⟩
    |none=>none
   |some (.slice e),some (.slice p len _),some (.int _ i)=>match P.info? e with
    |some g=>some ⟨some (p.isSome=true/\0<=i/\i<len),.pointer (ad p (i.toNat*g.size))⟩
    |none=>none
   | _, _, _=>none
 | .index t x ix=>match P.underlying t,ρ x,ρ ix with
   |some (.array len e),some (.agg ⟨cs⟩),some (.int _ i)=>match P.info? e with
    |some g=>match ix with
     | .const (.int _ n)=>if 0<=n/\n<len then(match qN P e cs (n.toNat*g.size) with
      |some v=>some ⟨none,v⟩
      |none=>none) else none
     | _=>match P.underlying e with
       |some (.int k)=>match Cj cs k with
        |some j=>if cs.length=len/\g.size=1 then some ⟨some (0<=i/\i<len),.int k (FG j i)⟩ else none
        |none=>none
       |some (.struct _)=>if cs.length=len/\g.size=1 then some ⟨some (0<=i/\i<len),.agg ⟨[Yg cs i]⟩⟩ else none
       | _=>none
    |none=>none
   |some .string,some (.string s),some (.int _ i)=>some ⟨some (0<=i/\i<s.size),.int .u8 (WR s i)⟩
   | _, _, _=>none
 | .makeFunc fn first q=>match maps ρ first.toList,maps ρ q.toList with
   |some a,some b=>some ⟨none,.func fn ⟨a⟩ ⟨b⟩⟩
   | _, _=>none
 | .extract x i=>match ρ x with
   |some (.tuple ⟨vs⟩)=>match vs[i]? with
    |some v=>some ⟨none,v⟩
    |none=>none
   | _=>none
 | .build t parts=>match AJ ρ parts.toList with
   |some ps=>match F7 P t ps with
    |some cs=>some ⟨none,.agg cs⟩
    |none=>none
   |none=>none
 | .slice t x lo hi mx=>match P.underlying t,ρ x with
   |some (.slice e),some (.slice p len cap)=>match P.info? e,iA ρ 0 lo,iA ρ len hi,iA ρ cap mx with
    |some g,some l,some h,some m=>if hi.isNone&&mx.isSome then none else
     some ⟨some (0<=l/\l<=h/\h<=m/\m<=cap),.slice (if m.toNat=l.toNat then p else ad p (l.toNat*g.size)) (h.toNat - l.toNat) (m.toNat - l.toNat)⟩
    | _, _, _, _=>none
   |some .string,some (.string s)=>match iA ρ 0 lo,iA ρ s.size hi with
    |some l,some h=>if mx.isSome then none else some ⟨some (0<=l/\l<=h/\h<=s.size),.string (s.extract l.toNat h.toNat)⟩
    | _, _=>none
   | _, _=>none
 | .call c=>match c.callee with
   | .builtin .len=>match c.args.toList,c.argTypes.toList with
     |[x],[t]=>match ρ x,P.underlying t with
      |some (.slice _ n _),some (.slice _)=>some ⟨none,.int .i64 n⟩
      |some (.string s),some .string=>some ⟨none,.int .i64 s.size⟩
      |some (.agg _),some (.array n _)=>some ⟨none,.int .i64 n⟩
      | _, _=>none
     | _, _=>none
   | .builtin .min=>match c.args.toList with
     |[x,y]=>match ρ x,ρ y with
      |some (.int k a),some (.int _ b)=>some ⟨none,.int k (kr a b)⟩
      | _, _=>none
     | _=>none
   | .builtin .max=>match c.args.toList with
     |[x,y]=>match ρ x,ρ y with
      |some (.int k a),some (.int _ b)=>some ⟨none,.int k (Dq a b)⟩
      | _, _=>none
     | _=>none
   | _=>none
 | _=>none
section
variable {P:AH}
theorem bC {t:AG} {d:TypeDesc} (h:P.underlying t=some d) (w:A2):(underlying t).run P w= .ok d w:=run_underlying h w
theorem fD {t:AG} {i:TypeInfo} (h:P.info? t=some i) (w:A2):(typeInfo t).run P w= .ok i w:=by
 unfold typeInfo;simp[h]
theorem dq {t:AG} {i:TypeInfo} (h:P.info? t=some i) (w:A2):(sizeOf t).run P w= .ok i.size w:=by
 unfold sizeOf;simp[fD h]
theorem vb {t:AG} {b:Bool} (h:kh P t=some b) (w:A2):(isAgg t).run P w= .ok b w:=by
 unfold kh at h;unfold isAgg;cases a:P.underlying t with
 |none=>grind
 |some d=>cases d<;>simp_all [bC]
theorem kM {t:AG} {cs:List AB} {off:Nat} {v:AB} (h:qN P t cs off=some v) (w:A2):(part t ⟨cs⟩ off).run P w= .ok v w:=by
 unfold qN at h;unfold part;cases hb:kh P t with
 |none=>grind
 |some b=>
  simp[vb hb];cases b with
  |true=>
   cases hi:P.info? t with
   |none
   |some i=>
    simp_all[dq]
  |false=>
   simp_all
theorem IH: ∀(d:Nat) (t:AG) (x y:AB) (r:Bool),eqV P d t x y=some r-> ∀w,(B4 d t x y).run P w= .ok r w:=by
 intro d
 induction d with
 |zero=>intro t x y r h;simp[eqV] at h
 |succ d j=>
  intro t x y r h w;unfold eqV at h;split at h
  ·rename_i c;split at h
   ·cases h;simp[B4,bC c]
   ·cases h
  ·rename_i k0 c;split at h
   ·split at h
    ·cases h;subst_vars;simp[B4,bC c]
    ·cases h
   ·cases h
  ·rename_i c;split at h
   ·cases h;simp[B4,bC c]
   ·cases h
  ·rename_i fs c;split at h
   ·rename_i xs ys;split at h
    ·cases h
    ·rename_i k;have e:P.fieldsOf t=fs:=by simp[Program.fieldsOf,c]
     rw[run_equalIn_struct w d t ⟨xs⟩ ⟨ys⟩ (by rw[e];exact c) (by simpa using k),e];clear c e;generalize fs.toList=l at h
     induction l generalizing r with
     |nil=>simp only[N3,Cc] at h;subst h;simp[Op.eqFields]
     |cons f l i=>
      simp only[N3] at h;unfold Op.eqFields;split
      ·rename_i g;rw[if_pos g] at h;split at h
       ·rename_i a b m hb;split at h
        ·rename_i n p h1 o;cases h;simp only[AT,kM m,kM hb,Ae,j _ _ _ _ h1];cases n
         ·simp
         ·simp[i _ o]
        ·cases h
       ·cases h
      ·rename_i g;rw[if_neg g] at h;exact i _ h
   ·cases h
  ·cases h
end
section
variable {P:AH} {ρ:Operand->Option AB} {ev:Operand->AB}
theorem l4 (a: ∀x v,ρ x=some v->ev x=v): ∀{l:List Operand} {vs:List AB},maps ρ l=some vs->l.map ev=vs
 |[],vs,h=>by grind[maps]
 |x::r,vs,h=>by
  simp[maps] at h;split at h
  ·rename_i h1 b;cases h;simp[a _ _ h1,l4 a b]
  grind
theorem yO (a: ∀x v,ρ x=some v->ev x=v): ∀{l:List (Nat×Operand)} {vs:List (Nat×AB)},AJ ρ l=some vs->(l.map λ(i,x)=>(i,ev x))=vs
 |[],vs,h=>by grind[AJ]
 |i::r,vs,h=>by
  simp[AJ] at h;split at h
  ·rename_i b;have:=yO a b
   grind
  grind
theorem xg (op:BinOp) (t:AG) (x y:Operand) (k c:Aq) (a b:Int) (w:A2):(eqGuard op t x y (.int k a) (.int c b)).run P w= .ok () w:=by
 unfold eqGuard;simp
theorem AW {t:AG} (c:P.underlying t=some .bool) (d:Nat) (a b:Bool) (w:A2):(B4 (d+1) t (.bool a) (.bool b)).run P w= .ok (a==b) w:=by
 simp[B4,bC c]
theorem rX {t e:AG} (a:P.underlying t=some (.pointer e)) (d:Nat) (p:Option AF) (w:A2):(B4 (d+1) t (.pointer p) (.pointer none)).run P w= .ok p.isNone w:=by
 cases p<;>simp[B4,bC a]
theorem nP {t e:AG} (a:P.underlying t=some (.pointer e)) (d:Nat) (p:Option AF) (w:A2):(B4 (d+1) t (.pointer none) (.pointer p)).run P w= .ok p.isNone w:=by
 cases p<;>simp[B4,bC a]
theorem tX {t e:AG} (a:P.underlying t=some (.slice e)) (d:Nat) (p:Option AF) (n c b f:Nat) (w:A2):(B4 (d+1) t (.slice p n c) (.slice none b f)).run P w= .ok p.isNone w:=by
 cases p<;>simp[B4,bC a]
theorem tY {t e:AG} (a:P.underlying t=some (.slice e)) (d:Nat) (p:Option AF) (n c b f:Nat) (w:A2):(B4 (d+1) t (.slice none b f) (.slice p n c)).run P w= .ok p.isNone w:=by
 cases p<;>simp[B4,bC a]
theorem zk {t k e:AG} (a:P.underlying t=some (.map k e)) (d:Nat) (p:Option Nat) (w:A2):(B4 (d+1) t (.map p) (.map none)).run P w= .ok p.isNone w:=by
 cases p<;>simp[B4,bC a]
theorem zl {t k e:AG} (a:P.underlying t=some (.map k e)) (d:Nat) (p:Option Nat) (w:A2):(B4 (d+1) t (.map none) (.map p)).run P w= .ok p.isNone w:=by
 cases p<;>simp[B4,bC a]
theorem eB {t:AG} {x y:AB} {r:Bool} {w:A2} (h: ∀d,(B4 (d+1) t x y).run P w= .ok r w):(Op.equal t x y).run P w= .ok r w:=h _
theorem T8 {op:BinOp} {t:AG} {i e:Operand} {x y:AB} {l:PR} (j: ∀v,e= .const v->y=v) (m: ∀v,i= .const v->x=v)
 (h:Yf P op t i e x y=some l) (o: ∀p,l.ob=some p->p) (w:A2):
 (do eqGuard op t i e x y;binOp op t x y).run P w= .ok l.v w:=by
 unfold Yf at h;split at h
 ·
  rename_i k a F b;simp only[AT,xg,Ae];have B:pj e=true->b≠0:=by
   intro hc;unfold pj at hc;split at hc
   ·rename_i C n;have:=j _ rfl;cases this;simpa using hc
   ·cases hc
  have z:pS e=true->0<=b:=by
   intro hc;unfold pS at hc;split at hc
   ·rename_i C n;have:=j _ rfl;cases this;simpa using hc
   ·cases hc
  split at h
  ·cases h;have h0:0<=b:=by
    by_cases hc:pS e=true
    ·exact z hc
    ·exact o (0<=b) (by simp[hc])
   simp[binOp,Op.shift,Dp,Int.not_lt.2 h0]
  ·cases h;have h0:0<=b:=by
    by_cases hc:pS e=true
    ·exact z hc
    ·exact o (0<=b) (by simp[hc])
   simp[binOp,Op.shift,J7,Int.not_lt.2 h0]
  ·rename_i G H;split at h
   ·subst_vars
    cases op<;>simp only[OP] at h<;>(try cases h)<;>
     first
      |(simp[binOp,Op.intArith,aJ,aY,iy];done)
      |(simp[binOp,Op.intBits,wT,Z3,aaa,gF];done)
      |(simp[binOp,Op.intCmp];done)
      |(have h0:b≠0:=by
         by_cases hc:pj e=true
         ·exact B hc
         ·exact o (b≠0) (by simp[hc])
        simp[binOp,Op.intDiv,h0,wS,eZ])
   ·cases h
 ·
  rename_i a b;split at h
  ·rename_i c;cases h;simp[eqGuard,binOp,eB λd=>AW c d a b w]
  ·rename_i c;cases h;simp[eqGuard,binOp,eB λd=>AW c d a b w]
  ·cases h
 ·
  rename_i p q;have f:ku e=true->q=none:=by
   intro hc;unfold ku at hc;split at hc<;>first|(have:=j _ rfl;cases this<;>rfl)|(cases hc)
  have g:ku i=true->p=none:=by
   intro hc;unfold ku at hc;split at hc<;>first|(have:=m _ rfl;cases this<;>rfl)|(cases hc)
  split at h
  ·rename_i c;split at h
   ·rename_i hc;cases h;rw[f hc];simp[eqGuard,binOp,eB λd=>rX c d p w]
   ·split at h
    ·rename_i hc;cases h;rw[g hc];simp[eqGuard,binOp,eB λd=>nP c d q w]
    ·cases h
  ·rename_i c;split at h
   ·rename_i hc;cases h;rw[f hc];simp[eqGuard,binOp,eB λd=>rX c d p w]
   ·split at h
    ·rename_i hc;cases h;rw[g hc];simp[eqGuard,binOp,eB λd=>nP c d q w]
    ·cases h
  ·cases h
 ·
  rename_i p _ _ q _ _;have f:ku e=true->q=none:=by
   intro hc;unfold ku at hc;split at hc<;>first|(have:=j _ rfl;cases this<;>rfl)|(cases hc)
  have g:ku i=true->p=none:=by
   intro hc;unfold ku at hc;split at hc<;>first|(have:=m _ rfl;cases this<;>rfl)|(cases hc)
  split at h
  ·rename_i c;split at h
   ·rename_i hc;cases h;rw[f hc];simp[eqGuard,binOp,eB λd=>tX c d p _ _ _ _ w]
   ·split at h
    ·rename_i hc;cases h;rw[g hc];simp[eqGuard,binOp,eB λd=>tY c d q _ _ _ _ w]
    ·cases h
  ·rename_i c;split at h
   ·rename_i hc;cases h;rw[f hc];simp[eqGuard,binOp,eB λd=>tX c d p _ _ _ _ w]
   ·split at h
    ·rename_i hc;cases h;rw[g hc];simp[eqGuard,binOp,eB λd=>tY c d q _ _ _ _ w]
    ·cases h
  ·cases h
 ·
  rename_i p q;have f:ku e=true->q=none:=by
   intro hc;unfold ku at hc;split at hc<;>first|(have:=j _ rfl;cases this<;>rfl)|(cases hc)
  have g:ku i=true->p=none:=by
   intro hc;unfold ku at hc;split at hc<;>first|(have:=m _ rfl;cases this<;>rfl)|(cases hc)
  split at h
  ·rename_i c;split at h
   ·rename_i hc;cases h;rw[f hc];simp[eqGuard,binOp,eB λd=>zk c d p w]
   ·split at h
    ·rename_i hc;cases h;rw[g hc];simp[eqGuard,binOp,eB λd=>zl c d q w]
    ·cases h
  ·rename_i c;split at h
   ·rename_i hc;cases h;rw[f hc];simp[eqGuard,binOp,eB λd=>zk c d p w]
   ·split at h
    ·rename_i hc;cases h;rw[g hc];simp[eqGuard,binOp,eB λd=>zl c d q w]
    ·cases h
  ·cases h
 ·
  rename_i a b;split at h
  ·cases h;simp[eqGuard,binOp,Op.stringOp,beq_toListBytes]
  ·cases h;simp[eqGuard,binOp,Op.stringOp,beq_toListBytes]
  ·cases h
 ·
  rename_i xs ys;split at h
  ·cases h
  ·rename_i D;have E:P.eqGuardType P.depth t=false:=by simpa using D
   have A: ∀op:BinOp,(eqGuard op t i e (.agg xs) (.agg ys)).run P w= .ok () w:=by
    intro op;unfold eqGuard;cases op<;>simp[E]
   split at h
   ·rename_i r s;cases h;simp only[AT,A,Ae];have u:(Op.equal t (.agg xs) (.agg ys)).run P w= .ok r w:=IH (P:=P) _ _ _ _ _ s w;simp[binOp,u]
   ·rename_i r s;cases h;simp only[AT,A,Ae];have u:(Op.equal t (.agg xs) (.agg ys)).run P w= .ok r w:=IH (P:=P) _ _ _ _ _ s w;simp[binOp,u]
   ·cases h
 ·cases h
end
section
variable {P:AH} {ρ:Operand->Option AB} {ev:Operand->AB}
theorem zm: ∀{cs:List AB} {k:Aq} {a:List Int},Cj cs k=some a-> ∀i,i<cs.length->cs[i]? =some (.int k (a.getD i 0))
 |c::cs,k,a,h,i,hi=>by
  unfold Cj at h;split at h
  grind
  ·rename_i e n r f b;cases b;split at h
   ·subst_vars
    split at h
    ·rename_i l d;cases h;cases i with
     |zero=>simp
     |succ i=>simpa using zm d i (by grind)
    grind
   ·cases h
  ·cases h
theorem vQ {t:AG} {f:Nat} {fd:Field} (a:xv P t f=some fd): ∃fs,P.underlying t=some (.struct fs)/\fs[f]? =some fd:=by
 grind[xv]
theorem ES {t e:AG} {a:TypeInfo} (p:AF) (k:Aq) (i:Int) (len:Nat) (c: ¬ len<=1) (b:P.underlying t=some (.array len e)) (hi:P.info? e=some a) (h0:0<=i) (h1:i<len) (w:A2):
 (Hq t (.pointer (some p)) (.int k i)).run P w= .ok (.pointer (some (p.add (i.toNat*a.size)))) w:=by
 simp[Hq,asIntOf,Hr,bC b,dq hi,h0,h1]
theorem run_indexAt_slice {t e:AG} {a:TypeInfo} (p:AF) (k:Aq) (i:Int) (len cap:Nat) (b:P.underlying t=some (.slice e)) (hi:P.info? e=some a) (h0:0<=i) (h1:i<len) (w:A2):
 (Hq t (.slice (some p) len cap) (.int k i)).run P w= .ok (.pointer (some (p.add (i.toNat*a.size)))) w:=by
 simp[Hq,asIntOf,bC b,dq hi,h0,h1]
theorem fc {α:Type} {p:Option α} (h:p.isSome=true): ∃a,p=some a:=Option.isSome_iff_exists.1 h
theorem kN (a: ∀x v,ρ x=some v->ev x=v) {d:Nat} {x:Operand} {n:Int} (h:iA ρ d (some x)=some n): ∃k,ev x= .int k n:=by grind[iA]
theorem run_sliceBound (k:Aq) (n:Int) (y:Nat) (c:BoundsCode) (h0:0<=n) (h1:n<=y) (w:A2):(Pp (.int k n) y c).run P w= .ok n.toNat w:=by
 simp[Pp,asIntOf,h0,h1]
theorem oa (b: ∀x v,ρ x=some v->ev x=v) {Z6:Bool} {len cap:Nat} {lo hi mx:Option Operand} {l h m:Int}
 (a:iA ρ 0 lo=some l) (c:iA ρ len hi=some h) (g:iA ρ cap mx=some m) (n: ¬ (hi.isNone=true/\mx.isSome=true))
 (h0:0<=l) (h1:l<=h) (o:h<=m) (p:m<=cap) (w:A2):
 (Rg Z6 len cap (lo.map ev) (hi.map ev) (mx.map ev)).run P w= .ok (l.toNat,h.toNat,m.toNat) w:=by
 unfold Rg;have a1:h<=((m.toNat:Nat):Int):=by omega
 have q:l<=((h.toNat:Nat):Int):=by omega
 have i:0<=h:=by omega
 have r:0<=m:=by omega
 cases mx with
 |none=>
  simp only[iA,Cc] at g;subst g;have j:h<=(cap:Int):=o;cases hi with
  |none=>
   simp only[iA,Cc] at c;subst c;cases lo with
   |none=>simp only[iA,Cc] at a;subst a;simp
   |some x=>obtain⟨k,d⟩:=kN b a;simp[d,run_sliceBound k l len _ h0 h1]
  |some y=>
   obtain⟨e,f⟩:=kN b c;cases lo with
   |none=>simp only[iA,Cc] at a;subst a;cases Z6<;>simp[f,run_sliceBound e h cap _ i j]
   |some x=>obtain⟨k,d⟩:=kN b a;cases Z6<;>simp[d,f,run_sliceBound e h cap _ i j,run_sliceBound k l h.toNat _ h0 q]
 |some z=>
  obtain⟨s,t⟩:=kN b g;cases hi with
  |none=>simp at n
  |some y=>
   obtain⟨e,f⟩:=kN b c;cases lo with
   |none=>simp only[iA,Cc] at a;subst a;cases Z6<;>simp[f,t,run_sliceBound s m cap _ r p,run_sliceBound e h m.toNat _ i a1]
   |some x=>obtain⟨k,d⟩:=kN b a;simp_all[run_sliceBound]
theorem PO {s:ByteArray} {i:Int} (h0:0<=i) (h1:i<s.size):s[i.toNat]? =some (s.data[i.toNat]?.getD 0):=by
 simp_all
 rfl
theorem run_places: ∀(l:List Field),(l.all λf=>(P.info? f.type).isSome)=true-> ∀w:A2,
 (l.mapM (m:=Sem) λf=>do pure (f.offset, <-sizeOf f.type)).run P w= .ok (l.map λf=>(f.offset,P.cellsOf f.type)) w
 |[], _,w=>by rfl
 |f::l,h,w=>by
  simp only[Ij,B5] at h;obtain⟨i,hi⟩:=fc h.1;have a:P.cellsOf f.type=i.size:=by simp[Program.cellsOf,hi]
  have b:=run_places l
  simp_all[dq]
theorem PQ {t:AG} {parts:Array (Nat×AB)} {ps:List (Nat×AB)} {cs:Array AB} (e:parts.toList=ps) (h:F7 P t ps=some cs) (w:A2):
 (Instr.build t parts).run P w= .ok (.agg cs) w:=by
 unfold F7 at h;split at h
 ·rename_i i hi;split at h
  ·rename_i z b;unfold Instr.build zeroValue;simp only[AT,fD hi,Ae,b,Ap];split at h
   ·rename_i fs a;split at h
    ·rename_i c;have f:=run_places (P:=P) fs.toList (by simpa using c) w
     simp_all[JP,yN,bC]
    ·cases h
   ·rename_i n el a;split at h
    ·rename_i g d;simp only[bC a,Ae,AT,dq d,e,yN h];rfl
    ·cases h
   ·cases h
  ·cases h
 ·cases h
theorem OQ {o:Oper} {H:PR} (g: ∀x v,ρ x=some v->ev x=v) (hc: ∀v,ev (.const v)=v) (h:pop P ρ o=some H) (u: ∀p,H.ob=some p->p) (w:A2):
 (execOp ev o).run P w= .ok (.value H.v) w:=by
 obtain⟨dst,op,type,pos,after,guard⟩:=o;unfold pop at h;cases op<;>simp only at h<;>(try (cases h;done))<;>unfold execOp<;>simp only
 case move x=>
  split at h
  ·rename_i v hv;cases h;simp[g _ _ hv]
  ·cases h
 case assign x=>
  split at h
  ·rename_i v hv;cases h;simp[g _ _ hv]
  ·cases h
 case build t parts=>
  split at h
  ·rename_i ps S;split at h
   ·rename_i cs fj;cases h;have e:=yO g S;have e':(parts.map λ(i,x)=>(i,ev x)).toList=ps:=by rw[<-e];simp
    simp[PQ e' fj]
   ·cases h
  ·cases h
 case nilCheck x=>
  split at h
  ·rename_i p hv;cases h;obtain⟨a,rfl⟩:=fc (u _ rfl);simp[g _ _ hv]
  ·rename_i f fs cs hv;cases h;simp[g _ _ hv]
  ·cases h
 case binOp op t x y yt=>
  split at h
  ·rename_i a b r hb;have T:=T8 (P:=P) (λv hv=>by rw[<-g _ _ hb,hv,hc]) (λv hv=>by rw[<-g _ _ r,hv,hc]) h u w;simp only[g _ _ r,g _ _ hb];rw[AT,T];rfl
  ·cases h
 case unOp op t x=>
  split at h
  ·rename_i a r;simp only[g _ _ r];unfold unV at h;split at h<;>(try cases h)<;>simp[Op.unary,Op.intArith,Op.intBits,aY,aab]
  ·cases h
 case convert s d x=>
  split at h
  ·rename_i a r;simp only[g _ _ r];unfold WQ at h;split at h
   ·rename_i ds k k' n h1 A;cases h;cases ds<;>simp[convert,bC h1,bC A,Conv.intToInt,aF]
   ·rename_i A I;cases h;simp[convert,bC A,bC I]
   ·cases h
  ·cases h
 case makeFunc fn first Q=>
  split at h
  ·rename_i a b r hb;cases h;have J:=l4 g r;have U:=l4 g hb;have V:first.map ev=⟨a⟩:=by rw[<-J];cases first;simp
   have W:Q.map ev=⟨b⟩:=by rw[<-U];cases Q;simp
   simp[Instr.makeFunc,V,W]
  ·cases h
 case slice t x lo hi mx=>
  split at h
  ·rename_i e p len cap q j;split at h
   ·rename_i C l X m Y D K Z;split at h
    ·cases h
    ·rename_i R;cases h;obtain⟨h0,h1,A,I⟩:=u _ rfl;have abH: ¬ (hi.isNone=true/\mx.isSome=true):=by simpa using R
     have hb:=oa (P:=P) (Z6:=true) g D K Z abH h0 h1 A I w;simp only[g _ _ j];simp[S0,bC q,Instr.slice,hb,dq Y,ad]
   ·cases h
  ·rename_i s q j;split at h
   ·rename_i l X D K;split at h
    ·cases h
    ·rename_i R;cases h;obtain⟨h0,h1,A⟩:=u _ rfl;have hmx:mx=none:=by cases mx<;>simp_all
     subst hmx;have hb:=oa (P:=P) (Z6:=false) (cap:=s.size) (mx:=none) g D K rfl (by simp) h0 h1 A (by simp) w;simp only[T5] at hb;simp only[g _ _ j];simp[S0,bC q,Instr.slice,hb]
   ·cases h
  ·cases h
 case fieldAddr s x f=>
  split at h
  ·rename_i p fd j L;split at h
   ·rename_i i hi;split at h
    ·cases h
    ·rename_i hz;cases h;obtain⟨a,rfl⟩:=fc (u _ rfl);obtain⟨fs,q,M⟩:=vQ L;simp[Instr.fieldAt,bC q,M,g _ _ j,Hr,fieldPlace,dq hi,hz,ad]
   ·cases h
  ·cases h
 case field t x f=>
  split at h
  ·rename_i cs fd j L;split at h
   ·rename_i v hv;cases h;obtain⟨fs,q,M⟩:=vQ L;simp[Instr.field,bC q,M,g _ _ j,asAgg,kM hv]
   ·cases h
  ·cases h
 case indexAddr t x ix=>
  split at h
  ·rename_i len e p k i q j z;split at h
   ·rename_i C hi;split at h
    ·cases h
    ·rename_i D;cases h;obtain⟨B,h0,h1⟩:=u _ rfl;obtain⟨a,rfl⟩:=fc B;simp[g _ _ j,g _ _ z,ES a k i len D q hi h0 h1,ad]
   ·cases h
  ·rename_i e p len cap k i q j z;split at h
   ·rename_i C hi;cases h;obtain⟨B,h0,h1⟩:=u _ rfl;obtain⟨a,rfl⟩:=fc B;simp[g _ _ j,g _ _ z,run_indexAt_slice a k i len cap q hi h0 h1,ad]
   ·cases h
  ·cases h
 case index t x ix=>
  split at h
  ·rename_i len e cs k i q j z;split at h
   ·rename_i C hi;split at h
    ·rename_i k2 n;have hn:(Value.int k2 n)= .int k i:=by rw[<-g _ _ z,hc]
     cases hn;split at h
     ·rename_i hb;split at h
      ·rename_i v hv;cases h;simp[I1,asIntOf,bC q,g _ _ j,hc,hb.1,hb.2,dq hi,kM hv]
      ·cases h
     ·cases h
    ·split at h
     ·rename_i k3 N;split at h
      ·rename_i ns hns;split at h
       ·rename_i F;cases h;obtain⟨h0,h1⟩:=u _ rfl;have G:i.toNat<cs.length:=by omega
        have iT:=zm hns i.toNat G;have B:qN P e cs (i.toNat*C.size)=some (.int k3 (FG ns i)):=by
         rw[F.2,Nat.mul_one];unfold qN;have:kh P e=some false:=by unfold kh;simp[N]
         simp[this,iT,FG]
        simp[I1,asIntOf,bC q,g _ _ j,g _ _ z,h0,h1,dq hi,kM B]
       ·cases h
      ·cases h
     ·rename_i fs N;split at h
      ·rename_i F;cases h;obtain⟨h0,h1⟩:=u _ rfl;have G:i.toNat<cs.length:=by omega
       have B:qN P e cs (i.toNat*C.size)=some (.agg ⟨[Yg cs i]⟩):=by
        rw[F.2,Nat.mul_one];unfold qN;have:kh P e=some true:=by unfold kh;simp[N]
        simp only[this,hi,F.2,Yg];have J:List.take 1 (List.drop i.toNat cs)=[cs.getD i.toNat undef]:=by
         rw[List.drop_eq_getElem_cons G,List.getD_eq_getElem?_getD,Im G];rfl
        rw[J]
       simp[I1,asIntOf,bC q,g _ _ j,g _ _ z,h0,h1,dq hi,kM B]
      ·cases h
     ·cases h
   ·cases h
  ·rename_i s k i q j z;cases h;obtain⟨h0,h1⟩:=u _ rfl;have hg:=PO h0 h1;simp[I1,asIntOf,bC q,g _ _ j,g _ _ z,h0,hg,WR]
  ·cases h
 case extract x i=>
  split at h
  ·rename_i vs j;split at h
   ·rename_i v hv;cases h;simp[g _ _ j,I2,hv]
   ·cases h
  ·cases h
 case call c=>
  obtain⟨callee,args,argTypes⟩:=c;simp only at h;split at h
  ·
   split at h
   ·rename_i x t r ht;have E:args= #[x]:=by cases args;simp_all
    have et:argTypes= #[t]:=by cases argTypes;simp_all
    subst E et;split at h<;>(try cases h)
    ·rename_i j q;simp[resolve,invoke,builtin,GD,g _ _ j,bC q,goInt]
    ·rename_i j q;simp[resolve,invoke,builtin,GD,g _ _ j,bC q,goInt]
    ·rename_i j q;simp[resolve,invoke,builtin,GD,g _ _ j,bC q,goInt]
   ·cases h
  ·
   split at h
   ·rename_i x y r;have E:args= #[x,y]:=by cases args;simp_all
    subst E;split at h<;>(try cases h);rename_i j O;simp[resolve,invoke,builtin,Builtin.min_,Builtin.min2,g _ _ j,g _ _ O,kr]
   ·cases h
  ·split at h
   ·rename_i x y r;have E:args= #[x,y]:=by cases args;simp_all
    subst E;split at h<;>(try cases h);rename_i j O;simp[resolve,invoke,builtin,Builtin.max_,Builtin.max2,g _ _ j,g _ _ O,Dq]
   ·cases h
  ·cases h
end
structure bO where
 t:Nat
 ch:List (Nat×Bool)
 g:Option Bool
 v:AB
 k:Option Bool
def bX:List bO->Nat->Option bO
 |[], _=>none
 |e::r,t=>if e.t=t then some e else bX r t
structure Entry (P:AH) where
 f:B1
 fn:List AB->Option (Prop×AB)
 ok: ∀args pre v,fn args=some (pre,v)->pre-> ∀w,Calls P f ⟨args⟩ w (λe w'=>e= .returned v/\Ext w w')
structure dJ (P:AH) where
 sr:List (Entry P)
 quiet:List B1
 sh:List (B1×Sh)
 mixed:P.follows .mixedOrders=true
 vE:Bool:=false
 cl:List (AG×Sc):=[]
 Z7:Option Sh:=none
def OR:List (B1×Sh)->B1->Option Sh
 |[], _=>none
 |(g,s)::r,f=>if g=f then some s else OR r f
def uM {P:AH} (C:dJ P) (f:B1):Sh:=
 match OR C.sh f with
 |some s=>s
 |none=>aaK P f
def OS:List (AG×Sc)->AG->Option Sc
 |[], _=>none
 |(g,s)::r,t=>if g=t then some s else OS r t
def elC {P:AH} (C:dJ P) (t:AG):Option El:=
 match uR P t with
 |some (.one .func)=>match OS C.cl t with
  |some s=>some (.one s)
  |none=>some (.one .func)
 |e=>e
def yf {P:AH}:List (Entry P)->B1->Option (Entry P)
 |[], _=>none
 |e::r,f=>if e.f=f then some e else yf r f
def c_ (first:Array AB) (a:List AB) (cap:Array AB):List AB:=first.toList++(a++cap.toList)
def bJ (P:AH) (a:B1):Bool:=
 match P.funcs[a]? with
 |some fn=>fn.body.isSome&& !(fn.name== "runtime.NumGoroutine")
 |none=>false
def ae (P:AH) (f:B1) (args:List AB) (w:A2) (v:AB):Prop:=
 ∀w',Ext w w'->Calls P f ⟨args⟩ w' (λe a=>e= .returned v/\Ext w' a)
def aC (P:AH) (f:B1) (s:Sh) (args:List AB) (w:A2) (R:s.T->A2->Prop):Prop:=
 Calls P f ⟨args⟩ w (λe w'=> ∃x:s.T,e= .returned (s.gK x)/\R x w')
theorem aC.mono {P:AH} {f:B1} {s:Sh} {args:List AB} {w:A2} {R a:s.T->A2->Prop} (h:aC P f s args w R) (k: ∀x w',R x w'->a x w'):aC P f s args w a:=
 FQ h (by grind)
def dw (_:Nat) (_:Op):Prop:=False
def cI (w:A2) (p:Option AF):(e:El)->e.T->Prop
 | .one s,x=> ∃a,p=some a/\w.cell? a=some (s.gK x)
 | .agg l,x=> ∃a,p=some a/\ ∀i,i<l.length->w.cell? (a.add i)=(a7 l x)[i]?
def pT:El->Nat->Bool
 | .one _, _=>false
 | .agg l,n=>l.length != n
def oI (w:A2) (p:Option AF) (n:Nat) (vs:List AB):Prop:=
 match p with
 |none=>vs=[]
 |some a=>vs.length=n/\ ∀i,i<n->w.cell? (a.add i)=vs[i]?
def TT (w:A2) (p:Option AF) (n:Nat):Prop:=
 ∃a,p=some a/\ ∀i,i<n->(w.cell? (a.add i)).isSome=true/\w.frozen? (a.add i)=false
def putAt (w:A2) (a:AF):List AB->Nat->A2
 |[], _=>w
 |v::r,i=>putAt (w.setCell (a.add i) v) a r (i+1)
def jA (w:A2) (p:Option AF) (vs:List AB):A2:=
 match p with
 |some a=>putAt w a vs 0
 |none=>w
def mz (w:A2) (e:AG) (size bytes:Nat) (z:Array AB) (s x:Option AF×Nat×Nat) (R:Option AF×Nat×Nat->A2->Prop):Prop:=
 ∃fQ new,oI w s.1 (s.2.1*size) fQ/\oI w x.1 (x.2.1*size) new/\
  (s.2.1+x.2.1<=s.2.2->(new=[]\/(TT w (s.1.map (·.add (s.2.1*size))) new.length/\new.all (·.oneCell')=true))/\
   R (s.1,s.2.1+x.2.1,s.2.2) (jA w (s.1.map (·.add (s.2.1*size))) new))/\
  (s.2.2<s.2.1+x.2.1->T0 (s.2.1+x.2.1) s.2.2*bytes<=2 ^ 48/\
   ∀c,s.2.1+x.2.1<=c->R (some ⟨w.heap.size,0,none⟩,s.2.1+x.2.1,c) (w.drew.alloc (.cells (⟨fQ⟩++⟨new⟩++GF z (c - (s.2.1+x.2.1))) e)))
def cpR (w:A2) (size:Nat) (d x:Option AF×Nat) (R:Int->A2->Prop):Prop:=
 ∃new,oI w x.1 (Nat.min x.2 d.2*size) new/\(d.1=none\/new=[]\/(TT w d.1 new.length/\new.all (·.oneCell')=true))/\R (Nat.min x.2 d.2:Nat) (jA w d.1 new)
def mj (P:AH) (l:Nat) (args:List AB) (w:A2) (R:Bool->A2->Prop):Prop:=
 ∃rec,w.heap[l]? =some (.loop rec)/\args.length=rec.params.size/\
  RoundIn Dd 0 P l rec.fn ((rec.params.zip ⟨args⟩).foldl (λtmps (t,a)=>tmps.setIfInBounds t a) rec.tmps) rec.assign rec.body w
   (λe w'=> ∃b,e= .returned (.bool b)/\R b w')
def gA (g:Option Bool) (p:Prop):Prop:=
 match g with
 |none=>p
 |some b=>b=true->p
@[reducible] def aj (w:A2) (g:Option Bool) (p:Option AF) (el:El) (K:el.T->Prop):Prop:= ∃x:el.T,gA g (cI w p el x)/\K x
@[reducible] def az (w:A2) (p:Option AF) (vs:List AB) (K:A2->Prop):Prop:= ∀w1,Ext w w1->(vs.all (·.oneCell')=true/\TT w1 p vs.length)/\K (jA w1 p vs)
@[reducible] def aN (w:A2) (cs:Array AB) (e:AG) (K:Nat->A2->Prop):Prop:= ∀w1,Ext w w1->K w1.heap.size (w1.alloc (.cells cs e))
def aA (P:AH) (f:B1) (s:Sh) (args:List AB) (w:A2) (K:s.T->A2->Prop):Prop:= ∀w1,Ext w w1->aC P f s args w1 K
def aad (bytes:Nat) (n m:Int):Prop:=0<=n/\n<=m/\m<2 ^ 63/\bytes*m<=2 ^ 48
def nC (z:Array AB) (n:Nat):Array AB:=(Array.range n).map ((if n=0 then #[] else z)[· % (if n=0 then #[] else z).size]!)
def zZ (P:AH) (v:AB) (s:Sh) (b:List AB) (w:A2) (K:s.T->A2->Prop):Prop:=
 ∀w1,Ext w w1-> ∃a first cap,v= .func (.func a) first cap/\bJ P a=true/\aC P a s (c_ first b cap) w1 K
def NJ (w:A2) (bytes size:Nat) (n m:Int) (z:Array AB) (e:AG) (K:Nat->A2->Prop):Prop:= ∀w1,Ext w w1->aad bytes n m/\K w1.heap.size (w1.alloc (.cells (nC z (m.toNat*size)) e))
@[reducible] def au (w:A2) (K:A2->Prop):Prop:= ∀w1,Ext w w1->K w1
def Yh (a b:List (Nat×Bool)):Bool:=a.all λx=>b.contains x
def xQ (env:List bO) (ch:List (Nat×Bool)):Operand->Option AB
 | .tmp t=>match bX env t with
   |some ⟨_,c, _,v, _⟩=>if Yh c ch then some v else none
   |none=>none
 | .const v=>some v
 | .global g=>some (.pointer (some ⟨g,0,none⟩))
 | .func f=>some (.func (.func f) #[] #[])
def dF (ops:Array Oper) (j:Nat):Option Nat:=(ops[j]?).bind (·.dst)
def lit:Bool->Bool->Bool
 |true,x=>x
 |false,x=> !x
def abI (b:Bool):Option Bool->Option Bool
 |none=>some b
 |some g=>some (g&&b)
def gd (ops:Array Oper) (env:List bO) (o:Oper):Option (Option (List (Nat×Bool)×Option Bool)):=
 match o.guard with
 |none=>some (some ([],none))
 |some (j,b)=>match dF ops j with
  |some d=>match bX env d with
   |some e=>match e.k with
    |some a=>if a=b then some (some ([],none)) else some none
    |none=>match e.v with
     | .bool x=>some (some ((j,b)::e.ch,abI (lit b x) e.g))
     | _=>none
   |none=>none
  |none=>none
def settle (j:Nat) (b:Bool) (e:bO):bO:=
 if e.ch.contains (j, !b) then⟨e.t,[],none,undef,none⟩
 else if e.ch.contains (j,b) then
  match e.ch.filter (λx=>x != (j,b)) with
  |[]=>⟨e.t,[],none,e.v,none⟩
  |c::r=>⟨e.t,c::r,e.g,e.v,none⟩
 else e
def oP (ops:Array Oper) (N:Nat) (env:List bO) (ch:List (Nat×Bool)):Option Nat->Bool
 |none=>true
 |some d=>decide (d<N)&&ch.all (λx=>dF ops x.1 != some d)&&env.all λe=>e.ch.all λx=>dF ops x.1 != some d
def l9 (env:List bO) (d:Option Nat) (ch:List (Nat×Bool)) (g:Option Bool) (v:AB):List bO:=
 match d with
 |some d=>⟨d,ch,g,v,none⟩::env
 |none=>env
def wU (env:List bO) (d:Option Nat) (ch:List (Nat×Bool)) (g:Option Bool) (v:AB) (K:List bO->Prop):Prop:=
 match d with
 |some d=>K (⟨d,ch,g,v,none⟩::env)
 |none=>K env
theorem nE {env:List bO} {d:Option Nat} {ch:List (Nat×Bool)} {g:Option Bool} {v:AB} {K:List bO->Prop}:wU env d ch g v K=K (l9 env d ch g v):=by cases d<;>rfl
def jF:List bO->(List bO->Prop)->Prop
 |[],K=>K []
 |⟨t,ch,g,v,k⟩::r,K=>jF r (λr=>K (⟨t,ch,g,v,k⟩::r))
theorem jL: ∀{l:List bO} {K:List bO->Prop},jF l K=K l
 |[], _=>rfl
 |⟨_, _, _, _, _⟩::r,K=>by simp only[jF];exact jL
def T9 (ops:Array Oper) (t:Nat):Option Nat:=(B3 ops.size).find? λj=>dF ops j==some t
def bF (w:A2) (r:Nat) (es:Array DA) (a:Nat):Prop:=w.heap[r]? =some (.map es a)
def jS (w:A2) (p:Option Nat) (k:Aq) (n:Int) (z v:AB):Prop:=
 ∃r es a,p=some r/\bF w r es a/\match FR (.int k) (.int k n) es.toList 0 with
  |some none=>v=z
  |some (some (_,u))=>v=u
  |none=>False
def ml (w:A2) (p:Option Nat) (k:Aq) (n:Int) (z v:AB) (b:Bool):Prop:=
 ∃r es a,p=some r/\bF w r es a/\match FR (.int k) (.int k n) es.toList 0 with
  |some none=>v=z/\b=false
  |some (some (_,u))=>v=u/\b=true
  |none=>False
def gR (w:A2) (r:Nat) (k:Aq) (n:Int) (val:AB) (es:Array DA) (a:Nat) (K:A2->Prop):Prop:=
 match FR (.int k) (.int k n) es.toList 0 with
 |some none=>K (w.putObj r (.map (es.push {key:= .int k n,val,born:=a}) (a+1)))
 |some (some (i, _))=>K (w.putObj r (.map (es.modify i λe=>{e with key:= .int k n,val}) a))
 |none=>False
def Aj (w:A2) (r:Nat) (k:Aq) (n:Int) (es:Array DA) (a:Nat) (K:A2->Prop):Prop:=
 match FR (.int k) (.int k n) es.toList 0 with
 |some none=>K (w.putObj r (.map es a))
 |some (some (i, _))=>K (w.putObj r (.map (es.eraseIdxIfInBounds i) a))
 |none=>False
def RgP (w:A2) (p:Option Nat) (K:Nat->A2->Prop):Prop:= ∀w1,Ext w w1-> ∃r es a,p=some r/\bF w1 r es a/\K w1.heap.size (w1.alloc (.mapIter (some r) a #[] a))
def NxP (w:A2) (p:Option AF) (f:A2->Prop) (g:AB->AB->A2->Prop):Prop:= ∀w1,Ext w w1-> ∃(r m b:Nat) (seen:Array Nat) (c:Nat) (es:Array DA) (d:Nat),p=some ⟨r,0,none⟩/\w1.heap[r]? =some (.mapIter (some m) b seen c)/\bF w1 m es d/\b<=c/\(∀e∈es.toList,e.born<b)/\
 ((∀e∈es.toList,seen.contains e.born=true)-> ∀a,Ext w1 a->f a)/\
 ∀e∈es.toList,seen.contains e.born=false-> ∀a,Ext w1 a->g e.key e.val (a.putObj r (.mapIter (some m) b (seen.push e.born) d))
def Ak (w:A2) (p:Option AF) (k v:AB):Prop:= ∃(r m b:Nat) (seen:Array Nat) (es:Array DA) (a:Nat) (e:DA),p=some ⟨r,0,none⟩/\w.heap[r]? =some (.mapIter (some m) b (seen.push e.born) a)/\bF w m es a/\e∈es.toList/\(es.toList.map (·.born)).Nodup/\k=e.key/\v=e.val
def TU (w:A2) (p:Option Nat) (n:Nat):Prop:= ∃r es a,p=some r/\bF w r es a/\n=es.size
def ChO (w:A2) (r cap:Nat) (a:List AB) (s n:Nat):Prop:=w.heap[r]? =some (.chan cap ⟨a⟩ false s n false)
def ChL (w:A2) (p:Option Nat) (n:Nat):Prop:= ∃r cap a s m,p=some r/\ChO w r cap a s m/\n=a.length
def Xr (w:A2) (p q:Option AF):Prop:= ∀a b,p=some a->q=some b->a≠b->(∃c t,w.heap[a.block]? =some (.cells c t (0,0)))/\ ∃c t,w.heap[b.block]? =some (.cells c t (0,0))
def xx (P:AH) (ρ:Operand->Option AB) (c:Call):Option (Option Nat):=match c.args.toList,c.argTypes.toList with
 |[x],[t]=>match P.underlying t,ρ x with
  |some (.chan _ _),some (.chan p)=>some p
  | _, _=>none
 | _, _=>none
def Ck (P:AH) (ρ:Operand->Option AB):Op->Option (Option AF×Option AF)
 | .binOp .eql t x y _=>match P.underlying t,ρ x,ρ y with
   |some (.pointer e),some (.pointer p),some (.pointer q)=>match P.info? e with
    |some i=>if i.size=0 then none else some (p,q)
    |none=>none
   | _, _, _=>none
 | _=>none
def WT (P:AH) (ops:Array Oper) (d i:Nat):Option El:=match ops.toList.find? λo=>match o.op with
 | .extract (.tmp t) j=>t==d&&j==i
 | _=>false with
 |some o=>uR P o.type
 |none=>none
def Cl (P:AH) (ρ:Operand->Option AB) (c:Call):Option (Option Nat):=match c.args.toList,c.argTypes.toList with
 |[x],[t]=>match P.underlying t,ρ x with
  |some (.map _ _),some (.map p)=>some p
  | _, _=>none
 | _, _=>none
def oF {P:AH} (C:dJ P) (ops:Array Oper) (env:List bO) (ch:List (Nat×Bool)) (g:Option Bool) (o:Oper) (w:A2) (K:AB->Prop):Prop:=
 let ρ:=xQ env ch
 match o.op with
 | .load t x=>match ρ x,elC C t,P.info? t with
   |some (.pointer p),some el,some i=>if pT el i.size=true then dw 1 o.op else aj w g p el (λx=>K (el.gK x))
   | _, _, _=>dw 2 o.op
 | .lookup D m ix ok=>match ok,P.underlying D,ρ m,ρ ix with
   |false,some (.map s r),some (.map p),some (.int k n)=>match P.underlying s,uR P r,P.info? r with
    |some (.int A),some el,some i=>match i.zero with
     |some z=>if k=A then∃x:el.T,gA g (jS w p k n z (el.gK x))/\K (el.gK x) else dw 51 o.op
     |none=>dw 52 o.op
    | _, _, _=>dw 53 o.op
   |true,some (.map s r),some (.map p),some (.int k n)=>match P.underlying s,uR P r,P.info? r with
    |some (.int A),some el,some i=>match i.zero with
     |some z=>if k=A then∃x:el.T, ∃b:Bool,gA g (ml w p k n z (el.gK x) b)/\K (.tuple ⟨[el.gK x,.bool b]⟩) else dw 51 o.op
     |none=>dw 52 o.op
    | _, _, _=>dw 53 o.op
   | _, _, _, _=>dw 54 o.op
 | .pick c x y=>match c with
   | .tmp t=>match bX env t with
     |some E=>match E.k with
      |some true=>match ρ x with
       |some v=>K v
       |none=>dw 31 o.op
      |some false=>match ρ y with
       |some v=>K v
       |none=>dw 32 o.op
      |none=>match T9 ops t with
       |some j=>match ρ c,xQ env ((j,true)::ch) x,xQ env ((j,false)::ch) y with
        |some (.bool b),some (.bool u),some (.bool v)=>match x,y with
         | _,.const (.bool false)=>K (.bool (b&&u))
         | .const (.bool true), _=>K (.bool (b||v))
         | _, _=>K (.bool (bif b then u else v))
        | _, _, _=>dw 3 o.op
       |none=>dw 4 o.op
     |none=>dw 33 o.op
   | _=>dw 5 o.op
 | .entry F=>match ρ F,o.dst with
   |some (.pointer p),some d=>match WT P ops d 0,WT P ops d 1 with
    |some a,none=> ∃x:a.T, ∃v:AB,gA g (Ak w p (a.gK x) v)/\K (.tuple ⟨[a.gK x,v]⟩)
    |some a,some h=> ∃x:a.T, ∃y:h.T,gA g (Ak w p (a.gK x) (h.gK y))/\K (.tuple ⟨[a.gK x,h.gK y]⟩)
    |none,some h=> ∃v:AB, ∃y:h.T,gA g (Ak w p v (h.gK y))/\K (.tuple ⟨[v,h.gK y]⟩)
    |none,none=>dw 71 o.op
   | _, _=>dw 72 o.op
 | .call c=>match c.callee with
   | .builtin .len=>match Cl P ρ c with
     |some p=> ∃n:Nat,gA g (TU w p n)/\K (.int .i64 n)
     |none=>match xx P ρ c with
      |some p=> ∃n:Nat,gA g (ChL w p n)/\K (.int .i64 n)
      |none=>match pop P ρ o with
       |some ⟨none,v⟩=>K v
       |some ⟨some p,v⟩=>gA g p/\K v
       |none=>dw 9 o.op
   | .value f=>match ρ f,maps ρ c.args.toList with
     |some (.func (.func l) first cap),some B=>
      if bJ P l=true then
       match yf C.sr l with
       |some e=>match e.fn (c_ first B cap) with
        |some (pre,v)=>gA g pre/\K v
        |none=>dw 6 o.op
       |none=> ∃x:(uM C l).T,gA g (ae P l (c_ first B cap) w ((uM C l).gK x))/\K ((uM C l).gK x)
      else dw 7 o.op
     | _, _=>dw 8 o.op
   | _=>match pop P ρ o with
     |some ⟨none,v⟩=>K v
     |some ⟨some p,v⟩=>gA g p/\K v
     |none=>dw 9 o.op
 | .binOp .. =>match pop P ρ o with
   |some ⟨none,v⟩=>K v
   |some ⟨some p,v⟩=>gA g p/\K v
   |none=>match Ck P ρ o.op with
    |some (p,q)=>gA g (Xr w p q)/\K (.bool (decide (p=q)))
    |none=>dw 10 o.op
 | _=>match pop P ρ o with
   |some ⟨none,v⟩=>K v
   |some ⟨some p,v⟩=>gA g p/\K v
   |none=>dw 10 o.op
def Yi (P:AH) (e:AG):Array AB:=match P.info? e with
 |some i=>match i.zero with
  |some z=>z.cells
  |none=> #[]
 |none=> #[]
def u0 (v:AB):List AB:=v.cells.toList
def DV (vs:List AB):Bool:=vs.all (·.oneCell')
def eop {P:AH} (C:dJ P) (ρ:Operand->Option AB) (o:Oper) (w:A2) (K:AB->A2->Prop):Prop:=
 match o.op with
 | .store t x y=>match ρ x,ρ y,P.info? t with
   |some (.pointer p),some v,some i=>if(u0 v).length=i.size then
     az w p (u0 v) (λa=>K undef a)
    else dw 11 o.op
   | _, _, _=>dw 12 o.op
 | .alloc e=>match P.info? e with
   |some i=>match i.zero with
    |some z=>match F4 64 i.size with
     |true=>aN w (Yi P e) e (λb a=>K (.pointer (some ⟨b,0,none⟩)) a)
     |false=>aN w z.cells e (λb a=>K (.pointer (some ⟨b,0,none⟩)) a)
    |none=>dw 13 o.op
   |none=>dw 14 o.op
 | .box e x=>match ρ x with
   |some v=>aN w v.cells e (λb a=>K (.pointer (some ⟨b,0,none⟩)) a)
   |none=>dw 15 o.op
 | .buildSlice t len parts=>match P.underlying t,AJ ρ parts.toList with
   |some (.slice e),some ps=>match P.info? e with
    |some i=>match i.zero with
     |some z=>match AL (λk=>some (k*i.size,i.size)) ⟨(B3 (len*i.size)).map (z.cells.toList[· % z.cells.toList.length]!)⟩ ps with
      |some cs=>if len*i.size<=2 ^ 24 then aN w cs e (λb a=>K (.slice (some ⟨b,0,none⟩) len len) a) else dw 101 o.op
      |none=>dw 102 o.op
     |none=>dw 103 o.op
    |none=>dw 104 o.op
   | _, _=>dw 105 o.op
 | .makeSlice t l c=>match P.underlying t,ρ l,ρ c with
   |some (.slice e),some (.int _ n),some (.int _ m)=>match P.info? e with
    |some i=>match i.zero with
     |some z=>NJ w i.bytes i.size n m z.cells e (λb a=>K (.slice (some ⟨b,0,none⟩) n.toNat m.toNat) a)
     |none=>dw 106 o.op
    |none=>dw 107 o.op
   | _, _, _=>dw 108 o.op
 | .mapUpdate t m x v=>match P.underlying t,ρ m,ρ x,ρ v with
   |some (.map g _),some (.map p),some (.int k n),some val=>match P.underlying g with
    |some (.int h)=>if k=h then∀w1,Ext w w1-> ∃r es d,p=some r/\bF w1 r es d/\gR w1 r k n val es d (λa=>K undef a) else dw 55 o.op
    | _=>dw 56 o.op
   | _, _, _, _=>dw 57 o.op
 | .insert t m x v=>match P.underlying t,ρ m,ρ x,ρ v with
   |some (.map g _),some (.map p),some (.int k n),some val=>match P.underlying g with
    |some (.int h)=>if k=h then∀w1,Ext w w1-> ∃r es d,p=some r/\bF w1 r es d/\gR w1 r k n val es d (λa=>K undef a) else dw 55 o.op
    | _=>dw 56 o.op
   | _, _, _, _=>dw 57 o.op
 | .makeMap _ r=>match r with
   |none=> ∀w1,Ext w w1->K (.map (some w1.heap.size)) (w1.alloc (.map #[] 0))
   |some _=>dw 109 o.op
 | .makeChan t s=>match P.underlying t,ρ s with
   |some (.chan _ e),some (.int _ n)=>match P.info? e with
    |some i=>if 0<=n/\n<=2 ^ 32/\i.bytes*n<=2 ^ 47 then∀w1,Ext w w1->K (.chan (some w1.heap.size)) (w1.alloc (.chan n.toNat #[] false 0 0 false)) else dw 118 o.op
    |none=>dw 119 o.op
   | _, _=>dw 120 o.op
 | .range B x=>match P.underlying B,ρ x with
   |some (.map _ _),some (.map p)=>RgP w p (λb a=>K (.pointer (some ⟨b,0,none⟩)) a)
   | _, _=>dw 73 o.op
 | .next D b=>match b,ρ D with
   |false,some (.pointer p)=>NxP w p (λa=>K (.tuple ⟨[.bool false]⟩) a) (λk v a=>K (.tuple ⟨[.bool true,k,v]⟩) a)
   | _, _=>dw 74 o.op
 | .call c=>match c.callee with
   | .builtin .delete=>match c.args.toList,c.argTypes.toList with
     |[m,x],[t, _]=>match P.underlying t,ρ m,ρ x with
      |some (.map g _),some (.map p),some (.int k n)=>match P.underlying g with
       |some (.int h)=>if k=h then∀w1,Ext w w1-> ∃r es d,p=some r/\bF w1 r es d/\Aj w1 r k n es d (λa=>K (.tuple ⟨[]⟩) a) else dw 75 o.op
       | _=>dw 76 o.op
      | _, _, _=>dw 77 o.op
     | _, _=>dw 78 o.op
   | .builtin .append=>match c.args.toList,c.argTypes.toList with
     |[s,x],[t,u]=>match P.underlying t,P.underlying u,ρ s,ρ x with
      |some (.slice e),some (.slice _),some (.slice p n m),some (.slice q k l)=>match P.info? e with
       |some i=>match i.zero with
        |some z=>if i.bytes=0 then dw 110 o.op else∀w1,Ext w w1->mz w1 e i.size i.bytes z.cells (p,n,m) (q,k,l) (λr a=>K (.slice r.1 r.2.1 r.2.2) a)
        |none=>dw 111 o.op
       |none=>dw 112 o.op
      | _, _, _, _=>dw 113 o.op
     | _, _=>dw 114 o.op
   | .builtin .copy=>match c.args.toList,c.argTypes.toList with
     |[s,x],[t, _]=>match P.underlying t,ρ s,ρ x with
      |some (.slice e),some (.slice p n _),some (.slice q k _)=>match P.info? e with
       |some i=> ∀w1,Ext w w1->cpR w1 i.size (p,n) (q,k) (λr a=>K (.int .i64 r) a)
       |none=>dw 115 o.op
      | _, _, _=>dw 116 o.op
     | _, _=>dw 117 o.op
   | .value f=>match C.Z7,f with
    |some s,.tmp t=>match ρ (.tmp t),maps ρ c.args.toList with
     |some v,some j=>zZ P v s j w (λx a=>K (s.gK x) a)
     | _, _=>dw 70 o.op
    | _, _=>match ρ f,maps ρ c.args.toList with
     |some (.func (.yield l) first _),some j=> ∀w1,Ext w w1->mj P l (first.toList++j) w1 (λb a=>K (.bool b) a)
     |some (.func (.func A) first cap),some j=>
      if bJ P A=true then
       aA P A (uM C A) (c_ first j cap) w (λx a=>K ((uM C A).gK x) a)
      else dw 16 o.op
     | _, _=>dw 17 o.op
   | _=>dw 18 o.op
 | _=>dw 19 o.op
def aI (b:Bool) (x y:Prop):Prop:=match b with
 |true=>x
 |false=>y
theorem ab {b:Bool} {x y:Prop} (a:b=true->x) (c:b=false->y):aI b x y:=by
 cases b
 ·exact c rfl
 ·exact a rfl
theorem DW {b:Bool} {x y:Prop} (h:aI b x y) (e:b=true):x:=by subst e;exact h
theorem AX {b:Bool} {x y:Prop} (h:aI b x y) (e:b=false):y:=by subst e;exact h
def Oq {P:AH} (C:dJ P) (ρ:Operand->Option AB) (o:Oper):Bool:=
 match o.op with
 | .store .. | .alloc _| .box .. | .buildSlice .. | .makeSlice .. | .makeMap .. | .makeChan .. | .mapUpdate .. | .insert .. | .range .. | .next .. =>true
 | .call c=>match c.callee with
   | .value f=>match C.Z7,f with
    |some _,.tmp _=>true
    | _, _=>match ρ f with
     |some (.func (.func a) _ _)=> !((yf C.sr a).isSome||C.quiet.contains a)
     | _=>true
   | .builtin .append=>true
   | .builtin .copy=>true
   | .builtin .delete=>true
   | _=>false
 | _=>false
def YU:Op->Bool
 | .binOp .. =>true
 | .convert .. =>true
 | .call _=>true
 | _=>false
def yD {P:AH} (C:dJ P) (o:Oper) (v:AB) (K:AB->Prop):Prop:=
 match C.vE&&YU o.op,v with
 |true,.int k e=> ∀x,x=e->K (.int k x)
 | _, _=>K v
theorem rY {P:AH} {C:dJ P} {o:Oper} {v:AB} {K:AB->Prop} (h:yD C o v K):K v:=by
 unfold yD at h
 grind
def N4 {P:AH} (C:dJ P) (ops:Array Oper) (N:Nat) (o:Oper):Nat->List bO->A2->(List bO->A2->Prop)->Prop
 |0, _, _, _=>dw 20 o.op
 |n+1,env,w,K=>match gd ops env o with
  |none=>dw 21 o.op
  |some none=>if oP ops N env [] o.dst then wU env o.dst [] none undef (λenv=>K env w) else dw 25 o.op
  |some (some (ch,g))=>
   if oP ops N env ch o.dst then
    if Oq C (xQ env ch) o then
     match ch.getLast? with
     |none=>eop C (xQ env []) o w (λv a=>wU env o.dst [] none v (λenv=>K env a))
     |some (j, _)=>match dF ops j with
      |some d=>match bX env d with
       |some e=>match e.v with
        | .bool x=>if e.ch.isEmpty then
           aI x (jF (env.map (settle j true)) λenv=>N4 C ops N o n (⟨d,[],none,.bool true,some true⟩::env) w K)
            (jF (env.map (settle j false)) λenv=>N4 C ops N o n (⟨d,[],none,.bool false,some false⟩::env) w K)
          else dw 22 o.op
        | _=>dw 26 o.op
       |none=>dw 27 o.op
      |none=>dw 28 o.op
    else oF C ops env ch g o w (λv=>yD C o v (λv=>wU env o.dst ch g v (λenv=>K env w)))
   else dw 24 o.op
def FH {P:AH} (C:dJ P) (ops:Array Oper) (N:Nat) (i:Nat) (env:List bO) (w:A2) (K:List bO->A2->Prop):Prop:=
 match ops[i]? with
 |none=>False
 |some ⟨dst,op,type,pos,after,guard⟩=>N4 C ops N ⟨dst,op,type,pos,after,guard⟩ 40 env w K
def rxL {P:AH} (C:dJ P) (ops:Array Oper) (N:Nat):List Nat->List bO->A2->(List bO->A2->Prop)->Prop
 |[],env,w,K=>K env w
 |i::r,env,w,K=>FH C ops N i env w (λenv w=>rxL C ops N r env w K)
def jZ (ops:Array Oper) (tmps:Array AB) (ch:List (Nat×Bool)):Prop:= ∀x∈ch,yielded ops tmps x.1=some x.2
def Tu (ops:Array Oper) (tmps:Array AB) (ch:List (Nat×Bool)):Option Bool->Prop
 |none=>ch=[]
 |some γ=>ch≠[]/\(γ=true<->jZ ops tmps ch)
structure Fit (S:Nat->Option (Option AB)) (ops:Array Oper) (N:Nat) (D:List Deferred) (env:List bO) (a:Act):Prop where
 off: ∀t x,S t=some x->a.tmps[t]? =x
 size:a.tmps.size=N
 qz:a.defers=D
 yes: ∀t e,bX env t=some e->jZ ops a.tmps e.ch->a.tmps[t]? =some e.v
 no: ∀t e,bX env t=some e-> ¬ jZ ops a.tmps e.ch->a.tmps[t]? =some undef
 Fq: ∀e∈env,Tu ops a.tmps e.ch e.g
 BM: ∀e∈env, ∀b,e.k=some b->e.v= .bool b/\e.ch=[]
theorem bT: ∀{env:List bO} {t:Nat} {e:bO},bX env t=some e->e∈env
 |x::r,t,e,h=>by
  simp[bX] at h;split at h
  grind
  ·exact NO _ (bT h)
theorem T_ {a b:List (Nat×Bool)} (h:Yh a b=true) {ops:Array Oper} {tmps:Array AB} (hb:jZ ops tmps b):jZ ops tmps a:=λx c=>by
 simp only[Yh,Dh] at h;exact hb x (by grind)
variable {S:Nat->Option (Option AB)} {ops:Array Oper} {N:Nat} {D:List Deferred} {env:List bO} {a:Act}
theorem Fit.ev (h:Fit S ops N D env a) {ch:List (Nat×Bool)} (hc:jZ ops a.tmps ch) {x:Operand} {v:AB} (b:xQ env ch x=some v):a.eval x=v:=by
 cases x with
 |tmp t=>
  simp[xQ] at b;split at b
  ·rename_i c;split at b
   ·rename_i d;cases b;have:=h.yes t _ c (T_ d hc);simp[Fx,this]
   grind
  grind
 |const
 |global g
 |func=>simp[xQ] at b;simp[Fx,b]
theorem EU {j:Nat} {d:Option Nat} {u:AB} (h: ∀k,d=some k->dF ops j≠some k):yielded ops (a.put d u).tmps j=yielded ops a.tmps j:=by
 cases d with
 |none=>rfl
 |some k=>
  have b:=h k rfl;unfold yielded;unfold dF at b;cases f:ops[j]?.bind _ with
  |none=>rfl
  |some t=>
   have c:k≠t:=λe=>b (by grind);simp[C5,DE c]
theorem II {ch:List (Nat×Bool)} {d:Option Nat} {u:AB} (h: ∀k,d=some k->ch.all (λx=>dF ops x.1 != some k)=true):jZ ops (a.put d u).tmps ch<->jZ ops a.tmps ch:=by
 have: ∀x∈ch,yielded ops (a.put d u).tmps _=yielded ops _ x.1:=λx b=>EU (by grind);constructor
 ·intro c x b;rw[<-this x b];exact c x b
 ·intro c x b;rw[this x b];exact c x b
theorem Fit.put (h:Fit S ops N D env a) {ch:List (Nat×Bool)} {g:Option Bool} {d:Option Nat} {v u:AB} (m:oP ops N env ch d=true) (w: ∀k,d=some k->S k=none)
 (o:Tu ops a.tmps ch g) (h1:jZ ops a.tmps ch->u=v) (h0: ¬ jZ ops a.tmps ch->u=undef):Fit S ops N D (l9 env d ch g v) (a.put d u):=by
 cases d with
 |none=>exact h
 |some k=>
  simp only[oP,B5,decide_eq_true_eq] at m;obtain⟨⟨p,hc⟩,y⟩:=m;have c0:jZ ops (a.put (some k) u).tmps ch<->jZ ops a.tmps ch:=II (by grind);have c1: ∀e∈env,(jZ ops (a.put (some k) u).tmps e.ch<->jZ ops a.tmps e.ch):=λe hm=>II (by grind);have n:k<a.tmps.size:=by rw[h.size];exact p
  refine⟨λt x q=>?_,by simp[C5,h.size],h.qz,?_,?_,?_,?_⟩
  ·have r:k≠t:=λe=>by grind
   simp[C5,DE r,h.off t x q]
  ·intro t e c i;simp only[l9,bX] at c;split at c
   ·rename_i f;cases c;subst f;simp[C5,n,h1 (c0.1 i)]
   ·rename_i f;have:=h.yes t e c ((c1 e (bT c)).1 i);simp[C5,DE f,this]
  ·intro t e c i;simp only[l9,bX] at c;split at c
   ·rename_i f;cases c;subst f;simp[C5,n,h0 (λj=>i (c0.2 j))]
   ·rename_i f;have:=h.no t e c (λj=>i ((c1 e (bT c)).2 j));simp[C5,DE f,this]
  ·intro e hm;have key: ∀(ch) (g:Option Bool),(jZ ops (a.put (some k) u).tmps ch<->jZ ops a.tmps ch)->Tu ops a.tmps ch g->Tu ops (a.put (some k) u).tmps ch g:=by
    intro ch g s l;cases g with
    |none=>exact l
    |some γ=>exact⟨l.1,l.2.trans s.symm⟩
   simp only[l9,Ca] at hm;rcases hm with rfl|hm
   ·exact key _ _ c0 o
   ·exact key _ _ (c1 e hm) (h.Fq e hm)
  ·intro e hm b hb;simp only[l9,Ca] at hm;rcases hm with rfl|hm
   ·cases hb
   ·exact h.BM e hm b hb
def yE:AB->Option Bool
 | .bool b=>some b
 | _=>none
theorem lB {j d:Nat} (b:dF ops j=some d) {v:AB} (hv:a.tmps[d]? =some v):yielded ops a.tmps j=yE v:=by
 unfold yielded;unfold dF at b
 simp_all
 cases v<;>rfl
theorem eH:jZ ops a.tmps []:=λb=>by simp
theorem Ot (h:Fit S ops N D env a) {o:Oper} {ch:List (Nat×Bool)} {g:Option Bool} (c:gd ops env o=some (some (ch,g))):
 Tu ops a.tmps ch g/\(BO o (yielded ops a.tmps)=true<->jZ ops a.tmps ch):=by
 unfold gd at c;unfold BO;split at c
 ·rename_i l;cases c;exact⟨rfl,by simp[jZ,l]⟩
 ·rename_i j b l;split at c
  ·rename_i d p;split at c
   ·rename_i e f;split at c
    ·rename_i t u;obtain⟨hv,i⟩:=h.BM e (bT f) t u;have r:=lB (a:=a) p (h.yes d e f (by rw[i];exact eH));rw[hv] at r;split at c
     ·rename_i hb;cases c;refine⟨rfl,?_⟩;simp[l,r,yE,hb,jZ]
     ·cases c
    ·split at c
     ·rename_i x v;cases c;have q:(yielded ops a.tmps j=some b)<->jZ ops a.tmps e.ch/\x=b:=by
       by_cases hc:jZ ops a.tmps e.ch
       ·have h1:=h.yes d e f hc;rw[lB (a:=a) p h1,v];simp[yE,hc]
       ·have h1:=h.no d e f hc;rw[lB (a:=a) p h1];simp[undef,yE,hc]
      have i:jZ ops a.tmps ((j,b)::e.ch)<->yielded ops a.tmps j=some b:=by
       constructor
       ·intro m;exact m (j,b) In
       ·intro m y k;rcases Ca.1 k with rfl|k
        ·exact m
        ·exact(q.1 m).1 y k
      refine⟨?_,?_⟩
      ·have n:=h.Fq e (bT f);cases s:e.g with
       |none=>
        rw[s] at n;have w:jZ ops a.tmps e.ch:=by rw[show e.ch=[] from n];intro y k;cases k
        refine⟨by simp,?_⟩;rw[i,q];cases b<;>simp[w,lit]
       |some γ=>
        rw[s] at n;refine⟨by simp,?_⟩;rw[i,q, <-n.2];cases b<;>simp[lit]
      ·rw[i];simp[l]
     ·cases c
   ·cases c
  ·cases c
theorem Cw (h:Fit S ops N D env a) {o:Oper} (c:gd ops env o=some none):BO o (yielded ops a.tmps)=false:=by
 unfold gd at c;unfold BO;split at c
 ·cases c
 ·rename_i j b m;split at c
  ·rename_i d g;split at c
   ·rename_i e f;split at c
    ·rename_i i k;obtain⟨hv,l⟩:=h.BM e (bT f) i k;have n:=lB g (h.yes d e f (by rw[l];exact eH))
     grind[yE]
    grind
   ·cases c
  ·cases c
theorem vd {f:bO->bO} (a: ∀e,(f e).t=e.t): ∀{l:List bO} {t:Nat} {e:bO},bX (l.map f) t=some e-> ∃b,bX l t=some b/\e=f b
 |x::r,t,e,h=>by
  simp[bX,a] at h ⊢;split at h
  grind
  ·rename_i c;rw[if_neg c];exact vd a h
theorem DX (j:Nat) (b:Bool) (e:bO):(settle j b e).t=e.t:=by
 grind[settle]
theorem ve {j:Nat} {b:Bool} (m:yielded ops a.tmps j=some b) (e:bO) (f:Tu ops a.tmps e.ch e.g):
 Tu ops a.tmps (settle j b e).ch (settle j b e).g/\(jZ ops a.tmps e.ch->jZ ops a.tmps (settle j b e).ch/\(settle j b e).v=e.v)/\(¬ jZ ops a.tmps e.ch->(¬ jZ ops a.tmps (settle j b e).ch\/(settle j b e).v=undef))/\
 (¬ jZ ops a.tmps (settle j b e).ch-> ¬ jZ ops a.tmps e.ch):=by
 unfold settle;split
 ·rename_i hc;have n: ¬ jZ ops a.tmps e.ch:=λd=>by
   have:=d (j, !b)
   grind
  exact⟨rfl,λd=>absurd d n,λ_=> .inr rfl,λd=>absurd eH d⟩
 ·split
  ·rename_i p hc;have h:jZ ops a.tmps e.ch<->jZ ops a.tmps (e.ch.filter (λx=>x != (j,b))):=by
    constructor
    ·intro d x k;exact d x (Bs.1 k).1
    ·intro d x k;by_cases o:x=(j,b)
     ·rw[o];exact m
     ·exact d x (by grind)
   split
   ·rename_i i;rw[i] at h;exact⟨rfl,λ_=>⟨eH,rfl⟩,by grind,λd=>absurd eH d⟩
   ·rename_i c r i;rw[i] at h
    simp_all
    cases l:e.g with
    |none=>rw[l] at f;have:e.ch=[]:=f;rw[this] at hc;simp at hc
    |some γ=>rw[l] at f;exact⟨by simp,f.2.trans h⟩
  grind
theorem Fit.settle (h:Fit S ops N D env a) {j d:Nat} {b:Bool} {e:bO} (n:dF ops j=some d) (o:bX env d=some e) (p:e.ch=[]) (hv:e.v= .bool b):
 Fit S ops N D (⟨d,[],none,.bool b,some b⟩::env.map (settle j b)) a:=by
 have h1:=h.yes d e o (by rw[p];exact eH);have k:=lB (a:=a) n h1;rw[hv] at k;refine⟨h.off,h.size,h.qz,?_,?_,?_,?_⟩
 ·intro t l g hc;simp only[bX] at g;split at g
  grind
  ·obtain⟨c,f,rfl⟩:=vd (DX j b) g;obtain⟨_,s1,w, _⟩:=ve (a:=a) k c (h.Fq c (bT f));by_cases m:jZ ops a.tmps c.ch
   ·rw[h.yes t c f m,(s1 m).2]
   ·rw[h.no t c f m]
    grind
 ·intro t l g hc;simp only[bX] at g;split at g
  ·cases g;exact absurd eH hc
  ·obtain⟨c,f,rfl⟩:=vd (DX j b) g;obtain⟨_, _, _,q⟩:=ve (a:=a) k c (h.Fq c (bT f));exact h.no t c f (q hc)
 ·intro l hm;rcases Ca.1 hm with rfl|hm
  ·exact rfl
  ·obtain⟨c,f,rfl⟩:=GI.1 hm;exact(ve (a:=a) k c (h.Fq c f)).1
 ·intro l hm r i;rcases Ca.1 hm with rfl|hm
  grind
  ·obtain⟨c,f,rfl⟩:=GI.1 hm;unfold RX.settle at i ⊢;split at i
   ·cases i
   ·rename_i s;rw[if_neg s];split at i
    grind
    ·rename_i u;rw[if_neg u];exact h.BM c f r i
variable {P:AH}
def dn (P:AH) (o:Oper) (a:Act) (w:A2) (v:AB):Prop:=
 match (execOp a.eval o).run P w with
 | .ok (.value u) w'=>w'=w/\u=v
 | .ok (.enter f args) w'=>w'=w/\Calls P f args w (λe b=>e= .returned v/\Ext w b)
 | _=>False
theorem bN {o:Oper} {a:Act} {w:A2} {v:AB} (h:(execOp a.eval o).run P w= .ok (.value v) w):dn P o a w v:=by
 grind[dn]
theorem cD: ∀(l:List Sc) (x:gY l),(a7 l x).length=l.length
 |[], _=>rfl
 | _::r,x=>by simp[a7,cD]
theorem vR {w:A2} {a:AF} {v:AB} (h:w.cell? a=some v):(load a).run P w= .ok v w:=by simp[h]
theorem run_loadCellsFrom {w:A2} {a:AF}: ∀(vs:List AB) (k:Nat) (b:Array AB),(∀i,i<vs.length->w.cell? (a.add (k+i))=vs[i]?)->
 (loadCellsFrom a k vs.length b).run P w= .ok (b++vs.toArray) w
 |[],k,b, _=>by rfl
 |v::vs,k,b,h=>by
  have h0:=by simpa using h 0
  have c:=run_loadCellsFrom vs _ (b.push v) λi hi=>by
   have:=h (i+1) (by grind);rw[show k+1+i=k+(i+1) by omega,this];rfl
  simp only[NF,loadCellsFrom,AT,vR h0,Ae,c];simp
theorem pk {w w':A2} (h:Ext w w') {p:Option AF} {el:El} {x:el.T} (c:cI w p el x):cI w' p el x:=by
 cases el with
 |one=>obtain⟨a,b,hc⟩:=c;exact⟨a,b,h.cell hc⟩
 |agg l=>
  obtain⟨a,b,hc⟩:=c;refine⟨a,b,λi hi=>?_⟩;have h1:=hc i hi;have d:i<(a7 l x).length:=by have:=cD l x;omega
  rw[Im d] at h1 ⊢;exact h.cell h1
theorem tD {w:A2} {a:AF} {t:AG} {el:El} {b:TypeInfo} {x:el.T} (h:uR P t=some el) (hi:P.info? t=some b)
 (f: ¬ pT el b.size=true) (e:cI w (some a) el x):(loadVar t a).run P w= .ok (el.gK x) w:=by
 unfold loadVar;cases el with
 |one s=>
  have c:kh P t=some false:=by
   grind[uR,kh,AI,Option.map_eq_some_iff]
  obtain⟨a',d,hc⟩:=e;cases d;simp only[AT,vb c,Ae,E4,if_false,vR hc];rfl
 |agg l=>
  have c:kh P t=some true:=by
   grind[uR,kh,AI]
  obtain⟨a',d,hc⟩:=e;cases d;have g:l.length=b.size:=by simpa[pT] using f
  have:=run_loadCellsFrom (P:=P) (w:=w) (a:=a) (a7 l x) 0 #[] (by simpa[cD] using hc);rw[cD,g] at this;simp only[AT,vb c,Ae,if_true,dq hi,loadCells,this];simp[El.gK]
theorem Ua {C:dJ P} {w:A2} {a:AF} {t:AG} {el:El} {c:TypeInfo} {x:el.T} (b:elC C t=some el) (hi:P.info? t=some c)
 (e: ¬ pT el c.size=true) (d:cI w (some a) el x):(loadVar t a).run P w= .ok (el.gK x) w:=by
 unfold elC at b;split at b
 ·rename_i h0;split at b
  ·cases b;have f:=d;exact tD (el:= .one .func) h0 hi ‹_› f
  grind[tD]
 ·exact tD b hi e d
theorem IJ: ∀{l:List (Entry P)} {f:B1} {e:Entry P},yf l f=some e->e.f=f
 |x::r,f,e,h=>by
  simp[yf] at h;split at h
  grind
  ·exact IJ h
theorem iu {g:Option Bool} {p:Prop} {ops:Array Oper} {tmps:Array AB} {ch:List (Nat×Bool)} (h:gA g p) (a:Tu ops tmps ch g) (hc:jZ ops tmps ch):p:=by
 cases g with
 |none=>exact h
 |some=>exact h (a.2.2 hc)
theorem tZ {f:B1} {args:Array AB} {w:A2}
 (h:bJ P f=true):
 (callFunc f args).run P w= .ok (.enter f args) w:=by
 unfold callFunc;unfold bJ at h;cases a:P.funcs[f]? with
 |none=>simp[a] at h
 |some fn=>
  simp_all
  grind[fc]
theorem tE {ev:Operand->AB} {dst:Option Nat} {type:AG} {pos:String} {after:Array Edge} {guard:Option (Nat×Bool)} {f:Operand} {args:Array Operand} {ts:Array AG}
 {a:B1} {first cap:Array AB} {b:List AB} (c:ev f= .func (.func a) first cap) (d:args.toList.map ev=b) {w:A2}
 (h:bJ P a=true):
 (execOp ev ⟨dst,.call ⟨.value f,args,ts⟩,type,pos,after,guard⟩).run P w= .ok (.enter a ⟨c_ first b cap⟩) w:=by
 have e:first++args.map ev++cap=⟨c_ first b cap⟩:=by
  simp_all[c_]
 simp only[execOp,resolve,Deferred.ofValue,c,AT,Ap,Ae,invoke];rw[e];exact tZ h
variable {S:Nat->Option (Option AB)} {ops:Array Oper} {N:Nat} {D:List Deferred} {env:List bO} {a:Act}
theorem zn {kd:Aq} {n:Int}: ∀(l:List DA) (i0 i:Nat) (v:AB),FR (.int kd) (.int kd n) l i0=some (some (i,v))->i0<=i/\ ∃e,l[i - i0]? =some e/\e.key= .int kd n/\e.val=v
 |e::es,i0,i,v,h=>by
  unfold FR at h;split at h
  ·rename_i a;obtain⟨rfl,rfl⟩:=h;simp;cases b:e.key<;>rw[b] at a<;>simp[Instr.sameNow] at a
   grind
  ·obtain:=zn es (i0+1) i v h
   grind
  ·cases h
theorem AY {t d l:AG} {kd:Aq} {n:Int} {val:AB} {w:A2} {r:Nat} {es:Array DA} {f:Nat} {K:A2->Prop} (g:P.underlying t=some (.map d l)) (a:P.underlying d=some (.int kd)) (hb:bF w r es f)
 (h:gR w r kd n val es f K): ∃j,(Kc t (.map (some r)) (.int kd n) val).run P w= .ok () j/\K j:=by
 have b:=hb;have k:H7 (.int kd) (.int kd n):=by rfl
 unfold gR at h;split at h
 ·rename_i c;refine⟨_,?_,h⟩;simp[Kc,run_underlying g,Cd b,DN a k,DQ a c,HB _ b,DB,FU]
 ·rename_i i v c;obtain⟨_,e,m,o, _⟩:=zn _ _ _ _ c;refine⟨_,?_,h⟩;have p:=by simpa using m
  simp[Kc,run_underlying g,Cd b,DN a k,DQ a c,p,o,Instr.keyThatStays,Instr.sameBits,HB _ b,DB,FU]
 grind
theorem PU {t d e:AG} {kd:Aq} {n:Int} {w:A2} {p:Option Nat} {i:TypeInfo} {z v:AB} (f:P.underlying t=some (.map d e)) (a:P.underlying d=some (.int kd)) (hi:P.info? e=some i) (l:i.zero=some z)
 (h:jS w p kd n z v):(FS t (.map p) (.int kd n) false).run P w= .ok v w:=by
 obtain⟨r,es,m,rfl,hb,b⟩:=h;have g:=hb;have k:H7 (.int kd) (.int kd n):=by rfl
 split at b
 ·rename_i c;subst b;simp[FS,run_underlying f,Cd g,DN a k,DQ a c,zeroValue,fD hi,l]
 ·rename_i j u c;subst b;simp[FS,run_underlying f,Cd g,DN a k,DQ a c,DB]
 grind
theorem Kj {t d e:AG} {kd:Aq} {n:Int} {w:A2} {p:Option Nat} {i:TypeInfo} {z v:AB} {b:Bool} (f:P.underlying t=some (.map d e)) (a:P.underlying d=some (.int kd)) (hi:P.info? e=some i) (l:i.zero=some z)
 (h:ml w p kd n z v b):(FS t (.map p) (.int kd n) true).run P w= .ok (.tuple ⟨[v,.bool b]⟩) w:=by
 obtain⟨r,es,o,rfl,hb,m⟩:=h;have g:=hb;have k:H7 (.int kd) (.int kd n):=by rfl
 split at m
 ·rename_i c
  simp_all
  simp[FS,run_underlying f,Cd g,DN a k,DQ a c,zeroValue,fD hi,l,DB]
 ·rename_i j u c
  simp_all
  simp[FS,run_underlying f,Cd g,DN a k,DQ a c,DB]
 grind
theorem nU {w:A2} {p:Option AF} {k v:AB} (h:Ak w p k v):(Instr.entry (.pointer p)).run P w= .ok (.tuple ⟨[k,v]⟩) w:=by
 obtain⟨r,m,a,seen,es,b,e,rfl,c,hb,d,f,rfl,rfl⟩:=h;exact run_entry_at w r m a seen es b e c hb d f
theorem yP {w w':A2} {p:Option AF} {k v:AB} (a:Ext w w') (h:Ak w p k v):Ak w' p k v:=by
 obtain⟨r,m,b,seen,es,c,e,h1,d,hb,f⟩:=h;exact⟨r,m,b,seen,es,c,e,h1,a.obj d,a.obj hb,f⟩
theorem EV {ρ:Operand->Option AB} {c:Call} {p:Option Nat} (h:Cl P ρ c=some p): ∃x t a b,c.args= #[x]/\c.argTypes= #[t]/\P.underlying t=some (.map a b)/\ρ x=some (.map p):=by
 unfold Cl at h;split at h
 ·rename_i x t f g;split at h
  ·rename_i a b p' d e;cases h;refine⟨x,t,a,b,?_,?_,d,e⟩
   grind
   grind
  grind
 grind
theorem CS {ρ:Operand->Option AB} {c:Call} {p:Option Nat} (h:xx P ρ c=some p): ∃x t d a,c.args= #[x]/\c.argTypes= #[t]/\P.underlying t=some (.chan d a)/\ρ x=some (.chan p):=by
 unfold xx at h;split at h
 ·rename_i x t g i;split at h
  ·rename_i b a p' e f;cases h;refine⟨x,t,b,a,?_,?_,e,f⟩
   grind
   grind
  grind
 grind
theorem IK {w w':A2} {p q:Option AF} (e:Ext w w') (h:Xr w p q):Xr w' p q:=λa b h1 f g=>by
 obtain⟨⟨c,t,i⟩,d,u,j⟩:=h a b h1 f g;exact⟨⟨c,t,e.obj i⟩,d,u,e.obj j⟩
theorem YV {ρ:Operand->Option AB} {ev:Operand->AB} (j: ∀x v,ρ x=some v->ev x=v) {o:Oper} {p q:Option AF} {w:A2} (h:Ck P ρ o.op=some (p,q)) (k:Xr w p q):
 (execOp ev o).run P w= .ok (.value (.bool (decide (p=q)))) w:=by
 obtain⟨dst,op,type,pos,after,guard⟩:=o;unfold Ck at h;simp only at h;split at h
 ·rename_i t x y z;split at h
  ·rename_i e p' A f l m;split at h
   ·rename_i i hi;split at h
    ·cases h
    ·rename_i n;cases h;simp only[execOp,j _ _ l,j _ _ m];cases p with
     |none=>
      cases q with
      |none=>
       have:=eB (P:=P) (w:=w) λd=>nP f d none w;simp[eqGuard,binOp,this]
      |some b=>
       have:=eB (w:=w) λd=>nP f d (some b) w;simp[eqGuard,binOp,this]
     |some a=>
      cases q with
      |none=>
       have:=eB (P:=P) λd=>rX f d (some a) w;simp[eqGuard,binOp,this]
      |some b=>
       by_cases g:a=b
       ·subst g;have:=run_eql_ptr_same w a f hi;simp[eqGuard,this]
       ·obtain⟨⟨c,B,r⟩,d,u,s⟩:=k a b rfl rfl g;have:=run_eql_ptr_other w f hi n g r s;simp[eqGuard,this,g]
   ·cases h
  ·cases h
 ·cases h
theorem yF {C:dJ P} {ch:List (Nat×Bool)} {g:Option Bool} {o:Oper} {w:A2} {K:AB->Prop} (l:Fit S ops N D env a) (G:Tu ops a.tmps ch g)
 (h:oF C ops env ch g o w K): ∃v,K v/\(jZ ops a.tmps ch-> ∀w',Ext w w'->dn P o a w' v):=by
 have Nw: ∀v,a.eval (.const v)=v:=λ_=>rfl;have pure: ∀(J:PR),pop P (xQ env ch) o=some J->(match J.ob with|none=>K J.v|some p=>gA g p/\K J.v)->
  ∃v,K v/\(jZ ops a.tmps ch-> ∀w',Ext w w'->dn P o a w' v):=by
  intro J E i;cases Q:J.ob with
  |none=>
   rw[Q] at i;exact⟨J.v,i,λhc w' _=>bN (OQ (λx v A=>l.ev hc A) Nw E (λp L=>by rw[Q] at L;cases L) w')⟩
  |some p=>
   rw[Q] at i;exact⟨J.v,i.2,λhc w' _=>bN (OQ (λx v A=>l.ev hc A) Nw E (λp' L=>by rw[Q] at L;cases L;exact iu i.1 G hc) w')⟩
 have R:(match pop P (xQ env ch) o with|some ⟨none,v⟩=>K v|some ⟨some p,v⟩=>gA g p/\K v|none=>False)->
  ∃v,K v/\(jZ ops a.tmps ch-> ∀w',Ext w w'->dn P o a w' v):=by
  intro T;split at T
  ·rename_i v E;exact pure ⟨none,v⟩ E T
  ·rename_i p v E;exact pure ⟨some p,v⟩ E T
  ·exact T.elim
 obtain⟨dst,op,type,pos,after,guard⟩:=o;unfold oF at h;cases op with
 |load t x=>
  simp only at h;split at h
  ·rename_i p el ti A H hi;split at h
   ·exact AC h
   ·rename_i hs;obtain⟨x',M,i⟩:=h;refine⟨_,i,λhc w' B=>bN ?_⟩;have Tk:=pk B (iu M G hc);have E: ∃a0,p=some a0:=by cases el<;>(obtain⟨a0,h0, _⟩:=Tk;exact⟨a0,h0⟩)
    obtain⟨a0,rfl⟩:=E;simp[execOp,Instr.loadAt,l.ev hc A,Hr,Ua H hi hs Tk]
  ·exact AC h
 |lookup xt m ix ok=>
  simp only at h;split at h
  ·rename_i U V p kd n F W X;split at h
   ·rename_i Z8 el ti Y H hi;split at h
    ·rename_i z I;split at h
     ·rename_i Z;subst Z;obtain⟨x',M,i⟩:=h;refine⟨_,i,λhc w' B=>bN ?_⟩;have hl:=iu M G hc;have z4:jS w' p kd n z (el.gK x'):=by
       obtain⟨r,es,O,h1,h2,h3⟩:=hl;exact⟨r,es,O,h1,B.obj h2,h3⟩
      simp only[execOp,AT,l.ev hc W,l.ev hc X,PU F Y hi I z4,Ae,Ap]
     ·exact AC h
    ·exact AC h
   ·exact AC h
  ·rename_i U V p kd n F W X;split at h
   ·rename_i Z8 el ti Y H hi;split at h
    ·rename_i z I;split at h
     ·rename_i Z;subst Z;obtain⟨x',b',M,i⟩:=h;refine⟨_,i,λhc w' B=>bN ?_⟩;have hl:=iu M G hc;have z4:ml w' p kd n z (el.gK x') b':=by
       obtain⟨r,es,O,h1,h2,h3⟩:=hl;exact⟨r,es,O,h1,B.obj h2,h3⟩
      simp only[execOp,AT,l.ev hc W,l.ev hc X,Kj F Y hi I z4,Ae,Ap]
     ·exact AC h
    ·exact AC h
   ·exact AC h
  ·exact AC h
 |pick c x y=>
  simp only at h;split at h
  ·rename_i t;split at h
   ·rename_i ec hec;have known: ∀(b:Bool),ec.k=some b->jZ ops a.tmps ch->a.eval (.tmp t)= .bool b:=by
     intro b hb _;obtain⟨hv,qL⟩:=l.BM ec (bT hec) b hb;have:=l.yes t ec hec (by rw[qL];exact eH);simp[Fx,this,hv]
    split at h
    ·rename_i i;split at h
     ·rename_i v hv;refine⟨v,h,λhc w' _=>bN ?_⟩;have eb:=known true i hc;simp[execOp,eb,l.ev hc hv,asBool]
     ·exact AC h
    ·rename_i i;split at h
     ·rename_i v hv;refine⟨v,h,λhc w' _=>bN ?_⟩;have eb:=known false i hc;simp[execOp,eb,l.ev hc hv,asBool]
     ·exact AC h
    ·split at h
     ·rename_i j hj;have Aa:dF ops j=some t:=by
       have:=NR hj;simpa using this
      have key: ∀(b u v:Bool),xQ env ch (.tmp t)=some (.bool b)->xQ env ((j,true)::ch) x=some (.bool u)->xQ env ((j,false)::ch) y=some (.bool v)->
       ∀w',jZ ops a.tmps ch->dn P ⟨dst,.pick (.tmp t) x y,type,pos,after,guard⟩ a w' (.bool (bif b then u else v)):=by
       intro b u v hb F hv w' hc;refine bN ?_;have eb:=l.ev hc hb;have hyj:yielded ops a.tmps j=some b:=by
        unfold yielded;unfold dF at Aa;simp only[Aa,Option.bind_some];have:a.tmps[t]? =some (.bool b):=by
         unfold Fx at eb;simp only[Fw] at eb;cases ht:a.tmps[t]? with
         |none=>rw[ht] at eb;simp[undef] at eb
         |some z=>rw[ht] at eb;simp at eb;rw[eb]
        rw[this]
       cases b with
       |true=>
        have eu:=l.ev (ch:=(j,true)::ch) (λz I=>by
         rcases Ca.1 I with rfl|I
         ·exact hyj
         ·exact hc z I) F
        simp[execOp,eb,eu,asBool]
       |false=>
        have eu:=l.ev (ch:=(j,false)::ch) (λz I=>by
         rcases Ca.1 I with rfl|I
         ·exact hyj
         ·exact hc z I) hv
        simp[execOp,eb,eu,asBool]
      split at h
      ·rename_i b u v hb F hv;split at h
       ·cases (show v=false by simp only[xQ,Cc,Value.bool.injEq] at hv;exact hv.symm);refine⟨_,h,λhc w' _=>?_⟩;have:=key b u false hb F hv w' hc;cases b<;>exact this
       ·cases (show u=true by simp only[xQ,Cc,Value.bool.injEq] at F;exact F.symm);refine⟨_,h,λhc w' _=>?_⟩;have:=key b true v hb F hv w' hc;cases b<;>exact this
       ·exact⟨_,h,λhc w' _=>key b u v hb F hv w' hc⟩
      ·exact AC h
     ·exact AC h
   ·exact AC h
  ·exact AC h
 |call c=>
  obtain⟨callee,args,ts⟩:=c;cases callee with
  |value f=>
   simp only at h;split at h
   ·rename_i fY first cap acM hf has
    split at h
    ·rename_i rq;split at h
     ·rename_i e H;split at h
      ·rename_i pre v abJ;refine⟨v,h.2,λhc w' _=>?_⟩;have dR:=tE (P:=P) (dst:=dst) (type:=type) (pos:=pos) (after:=after) (guard:=guard) (ts:=ts) (l.ev hc hf) (l4 (λx v A=>l.ev hc A) has) (w:=w') rq;unfold dn;rw[dR];refine⟨rfl,?_⟩;have:=e.ok _ _ _ abJ (iu h.1 G hc) w';rw[IJ H] at this;exact this
      ·exact AC h
     ·obtain⟨x,hq,i⟩:=h;refine⟨_,i,λhc w' B=>?_⟩;have dR:=tE (P:=P) (dst:=dst) (type:=type) (pos:=pos) (after:=after) (guard:=guard) (ts:=ts) (l.ev hc hf) (l4 (λx v A=>l.ev hc A) has) (w:=w') rq;unfold dn;rw[dR];exact⟨rfl,iu hq G hc w' B⟩
    ·exact AC h
   ·exact AC h
  |invoke r m=>exact R h
  |builtin b=>
   cases b with
   |len=>
    simp only at h;split at h
    ·rename_i p E;obtain⟨n,hn,i⟩:=h;refine⟨_,i,λhc w' B=>bN ?_⟩;obtain⟨x,t,U,V,rfl,rfl,F,A⟩:=EV E;obtain⟨r,es,O,rfl,hb,rfl⟩:=iu hn G hc;have sq:w'.heap[r]? =some (.map es O):=B.obj hb;simp[execOp,resolve,invoke,builtin,GD,l.ev hc A,run_underlying F,Cd sq,goInt,DB]
    ·split at h
     ·rename_i p E;obtain⟨n,hn,i⟩:=h;refine⟨_,i,λhc w' B=>bN ?_⟩;obtain⟨x,t,U,V,rfl,rfl,F,A⟩:=CS E;obtain⟨r,cap,rn,s,m,rfl,hb,rfl⟩:=iu hn G hc;have sq:w'.heap[r]? =some (.chan cap ⟨rn⟩ false s m false):=B.obj hb;have uL:(getObj r).run P w'= .ok (.chan cap ⟨rn⟩ false s m false) w':=by simp[getObj,Sem.run,sq]
      simp[execOp,resolve,invoke,builtin,GD,l.ev hc A,run_underlying F,uL,goInt,DB]
     ·exact R h
   | _=>exact R h
 |entry it=>
  simp only at h;split at h
  ·rename_i p d A;split at h
   ·obtain⟨x,v,H,i⟩:=h;refine⟨_,i,λhc w' B=>bN ?_⟩;simp only[execOp,AT,l.ev hc A,nU (yP B (iu H G hc)),Ae,Ap]
   ·obtain⟨x,v,H,i⟩:=h;refine⟨_,i,λhc w' B=>bN ?_⟩;simp only[execOp,AT,l.ev hc A,nU (yP B (iu H G hc)),Ae,Ap]
   ·obtain⟨x,v,H,i⟩:=h;refine⟨_,i,λhc w' B=>bN ?_⟩;simp only[execOp,AT,l.ev hc A,nU (yP B (iu H G hc)),Ae,Ap]
   ·exact AC h
  ·exact AC h
 |binOp op t x y yt=>
  simp only at h;split at h
  ·rename_i v E;exact pure ⟨none,v⟩ E h
  ·rename_i p v E;exact pure ⟨some p,v⟩ E h
  ·split at h
   ·rename_i p q E;obtain⟨hq,i⟩:=h;exact⟨_,i,λhc w' B=>bN (YV (o:=⟨dst,.binOp op t x y yt,type,pos,after,guard⟩) (λx v A=>l.ev hc A) E (IK B (iu hq G hc)))⟩
   ·exact AC h
 | _=>exact R h
variable {P:AH}
def WF (r:Option Nat):Fence:={Dd with round:=r}
theorem jO {r:Option Nat} {n:Nat} {f:B1} {args:Array AB} {w:A2} {R:Ending->A2->Prop}:CallsIn (WF r) n P f args w R<->Calls P f args w R:=
 callsIn_wide
theorem WU (r:Option Nat) (f:B1):(WF r).fn f:=trivial
theorem IL (r:Option Nat) (n:Nat):(WF r).room n:=room_wide n
theorem zV {w:A2} {p q:AF} {v:AB} (h:(w.cell? q).isSome=true):((w.setCell p v).cell? q).isSome=true:=by
 unfold LL at h ⊢;simp[M4]
 grind
theorem Ti {w:A2} {p q:AF} {v:AB}:(w.setCell p v).frozen? q=w.frozen? q:=by
 simp
theorem CU {w:A2} {a:AF} {v:AB} (hv:v.oneCell'=true) (h:(w.cell? a).isSome=true) (b:w.frozen? a=false):(store a v).run P w= .ok () (w.setCell a v):=by
 rw[run_store P w a v _ hv]
 grind
theorem jl: ∀(vs:List AB) (a:AF) (i:Nat) (w:A2),DV vs=true->(∀j,j<vs.length->(w.cell? (a.add (i+j))).isSome=true/\w.frozen? (a.add (i+j))=false)->
 (storeCells a vs i).run P w= .ok () (putAt w a vs i)
 |[],a,i,w, _, _=>by rfl
 |v::r,a,i,w,b,h=>by
  simp only[DV,Ij,B5] at b;have h0:=h 0;simp at h0;have c:=jl r a (i+1) (w.setCell (a.add i) v) b.2 (λj d=>by
   simp_all
   grind[zV])
  simp[storeCells,CU b.1 h0.1 h0.2,c,putAt]
theorem wrap_i64 {n:Int} (h0: -(2 ^ 63)<=n) (h1:n<2 ^ 63):Do.wrap n=n:=by
 show(if(true&&decide (n % 2 ^ 64>=2 ^ 63))=true then n % 2 ^ 64 - 2 ^ 64 else n % 2 ^ 64)=n
 grind
theorem run_makeSlice {t e:AG} {i:TypeInfo} {z:AB} (b:P.underlying t=some (.slice e)) (hi:P.info? e=some i) (c:i.zero=some z) (k d:Aq) {n m:Int} (h:aad i.bytes n m) (w:A2):
 (S1 t (.int k n) (.int d m)).run P w= .ok (.slice (some ⟨w.heap.size,0,none⟩) n.toNat m.toNat) (w.alloc (.cells (nC z.cells (m.toNat*i.size)) e)):=by
 obtain⟨h0,h1,p,q⟩:=h;have wn:Do.wrap n=n:=wrap_i64 (by omega) (by omega);have f:Do.wrap m=m:=wrap_i64 (by omega) (by omega);have g: ¬ m<0:=by omega
 have j: ¬ n<0:=by omega
 have l: ¬ n>m:=by omega
 have o: ¬ (i.bytes*m>2 ^ 48):=by omega
 unfold S1;simp only[AT,bC b,Ae,asInt,asIntOf,Ap,fD hi,wn,f,g,j,l,o,decide_false,J4,E4,if_false,run_askRoom,dq hi,newRow];by_cases a:m.toNat*i.size=0
 ·simp[a,nC]
 ·simp[a,nC,zeroValue,fD hi,c]
theorem xy {w:A2} {p:Option AF} {n size len cap:Nat} {vs:List AB} (h:oI w p (n*size) vs):(FV size n (.slice p len cap)).run P w= .ok ⟨vs⟩ w:=by
 cases p with
 |none=>subst h;rfl
 |some a=>
  obtain⟨b⟩:=h;have:=run_loadCellsFrom (P:=P) (w:=w) (a:=a) vs 0 #[] (by grind);rw[b] at this;simp only[FV,loadCells,this];simp
theorem DY {w:A2} {p:Option AF} {n:Nat} {vs:List AB} (h:oI w p n vs):oI w.drew p n vs:=h
theorem PV {ts:Array AG} {t u e:AG} {i:TypeInfo} {ty:AG} {p q:Option AF} {n m k l:Nat} (c:ts= #[t,u]) (d:P.underlying t=some (.slice e))
 (hi:P.info? e=some i) {w:A2} {R:Int->A2->Prop} (h:cpR w i.size (p,n) (q,k) R):
 ∃r b,(T3 ts ty #[.slice p n m,.slice q k l]).run P w= .ok (.int .i64 r) b/\R r b:=by
 subst c;obtain⟨new,f,g,j⟩:=h;have o:(FV i.size _ (.slice q k l)).run P w= .ok ⟨new⟩ w:=xy f;refine⟨_, _,?_,j⟩;unfold T3;have h0: #[t,u][0]? =some t:=rfl;simp only[h0,Io,GJ,J0,AT,bC d,Ae,dq hi,M5,Ap,o];cases p with
 |none=>
  rfl
 |some a=>
  rcases g with h|rfl|⟨⟨a',s,hc⟩,v⟩
  ·cases h
  ·rfl
  ·cases s;have x:=jl (P:=P) new a 0 w v (by grind);simp only[AT,x,Ae,Ap,goInt];rfl
theorem GM {ts:Array AG} {t u e y:AG} {i:TypeInfo} {z:AB} {ty:AG} {p q:Option AF} {n m k l:Nat} (A:ts= #[t,u]) (f:P.underlying t=some (.slice e)) (g:P.underlying u=some (.slice y))
 (hi:P.info? e=some i) (B:i.zero=some z) (hb:i.bytes≠0) {w:A2} {R:Option AF×Nat×Nat->A2->Prop} (h:mz w e i.size i.bytes z.cells (p,n,m) (q,k,l) R):
 ∃r o,(N7 ts ty #[.slice p n m,.slice q k l]).run P w= .ok (.slice r.1 r.2.1 r.2.2) o/\R r o:=by
 subst A;obtain⟨fQ,new,C,s,D,E⟩:=h;have F:(FV i.size k (.slice q k l)).run P w= .ok ⟨new⟩ w:=xy s;by_cases b:n+k<=m
 ·obtain⟨G,d⟩:=D b;refine⟨_, _,?_,d⟩;unfold N7;have h0:(#[t,u]:Array AG)[0]? =some t:=rfl;have h1:(#[t,u]:Array AG)[1]? =some u:=rfl;simp only[h0,h1,Io,GJ,J0,AT,bC f,bC g,Ae,dq hi,M5,Ap,E4,if_false,b,if_true,Oi,F];cases p with
  |none=>
   simp only[Ap,jA,T5]
  |some a=>
   rcases G with rfl|⟨⟨a',v,hc⟩,H⟩
   ·simp[storeCells,jA,putAt]
   ·simp only[GG,Cc] at v;subst v;have I:=jl (P:=P) new (a.add (n*i.size)) 0 w H (λj J=>by simpa using hc j J);rw[AT,I];rfl
 ·obtain⟨K,d⟩:=E (by show m<n+k;omega);have L:=λc hc=>d c hc;have M: ∀(x:Nat),n+k<=(Question.appendCap (n+k) m e).cut x:=λx=>by simp[Question.cut]
  refine⟨_, _,?_,L ((Question.appendCap (n+k) m e).cut (w.tape w.drawn (.appendCap (n+k) m e))) (M _)⟩;unfold N7;have h0:(#[t,u]:Array AG)[0]? =some t:=rfl;have h1:(#[t,u]:Array AG)[1]? =some u:=rfl;have N: ¬ (((n+k:Nat):Int)>Do.max/\(False\/i.bytes=0)):=by simp[hb]
  have O: ¬ (T0 (n+k) m*i.bytes>2 ^ 48):=by simp only at K;omega
  have Q:(FV i.size n (.slice p n m)).run P w.drew= .ok ⟨fQ⟩ w.drew:=xy (DY C);have S:(FV i.size k (.slice q k l)).run P w.drew= .ok ⟨new⟩ w.drew:=xy (DY s);simp only[h0,h1,Io,GJ,J0,AT,bC f,bC g,Ae,dq hi,M5,Ap,E4,if_false,b,Oi,if_true,
   fD hi]
  rw[if_neg N];simp only[AT,fD hi,Ae,O,if_false,run_choose_drew,Question.forced,E4,run_askRoom,Q,S,zeroValue,B,newRow,Ap,run_newObj_alloc];rfl
theorem zW {t e:AG} {i:TypeInfo} {z:AB} {len:Nat} {parts:Array (Nat×AB)} {ps:List (Nat×AB)} {cs:Array AB} (c:P.underlying t=some (.slice e)) (hi:P.info? e=some i) (d:i.zero=some z)
 (f:parts.toList=ps) (g:AL (λk=>some (k*i.size,i.size)) ⟨(B3 (len*i.size)).map (z.cells.toList[· % z.cells.toList.length]!)⟩ ps=some cs) (j:len*i.size<=2 ^ 24) (w:A2):
 (S2 t len parts).run P w= .ok (.slice (some ⟨w.heap.size,0,none⟩) len len) (w.alloc (.cells cs e)):=by
 have h: ¬ len*i.size>2 ^ 24:=by omega
 have a:Hb (λk=>some (k*i.size,i.size)) ((Array.range (len*i.size)).map ((if len*i.size=0 then #[] else z.cells)[· % (if len*i.size=0 then #[] else z.cells).size]!)) ps=some cs:=by
  rw[<-yN g];congr 1
  grind
 unfold S2;simp only[AT,bC c,Ae,dq hi,h,newRow];by_cases b:len*i.size=0
 simp_all
 ·simp only[b,if_false] at a;simp only[b,if_false,zeroValue,AT,fD hi,Ae,d,Ap,f,a];simp
theorem cR {r:Option Nat} {ev:Operand->AB} {o:Oper} (h: ∀c,o.op≠ .defer c):o.semAt (WF r).round ev=execOp ev o:=Oper.semAt_eq _ _ _ h
variable {S:Nat->Option (Option AB)} {ops:Array Oper} {N:Nat} {D:List Deferred} {env:List bO} {a:Act}
def eY (o:Oper):Bool:=
 match o.op with
 | .alloc _| .box .. | .buildSlice .. | .makeSlice .. | .makeMap .. | .makeChan .. =>true
 | _=>false
def BY (C:dJ P) (o:Oper):Bool:=
 match o.op with
 | .move _| .assign _| .pick .. | .alloc _| .box .. | .buildSlice .. | .makeSlice .. | .makeMap .. | .makeChan .. | .build .. | .load .. | .nilCheck _| .binOp .. | .unOp .. | .convert .. | .makeFunc .. | .slice .. | .fieldAddr .. | .field .. | .indexAddr .. | .index .. | .extract .. | .lookup .. =>false
 | .call c=>match c.callee with
   | .value (.func f)=> !((yf C.sr f).isSome||C.quiet.contains f)
   | .builtin .len| .builtin .min| .builtin .max=>false
   | _=>true
 | _=>true
theorem PW {C:dJ P} {ρ:Operand->Option AB} {o:Oper} (a: ∀f,ρ (.func f)=some (.func (.func f) #[] #[])) (h:BY C o=false) (b:Oq C ρ o=true):eY o=true:=by
 grind[BY,Oq,eY]
theorem GN {P:AH} {ts:Array AG} {ty t u d k:AG} {kd:Aq} {n:Int} {w:A2} {r:Nat} {es:Array DA} {e:Nat} {K:A2->Prop} (l:ts= #[t,u]) (f:P.underlying t=some (.map d k)) (a:P.underlying d=some (.int kd)) (hb:bF w r es e)
 (h:Aj w r kd n es e K): ∃g,(N8 ts ty #[.map (some r),.int kd n]).run P w= .ok (.tuple #[]) g/\K g:=by
 subst l;have b:=hb;have j:H7 (.int kd) (.int kd n):=by rfl
 unfold Aj at h;split at h
 ·rename_i c;refine⟨_,?_,h⟩;simp[N8,run_underlying f,Cd b,DN a j,DQ a c,HB _ b,FU]
 ·rename_i i v c;refine⟨_,?_,h⟩;simp[N8,run_underlying f,Cd b,DN a j,DQ a c,HB _ b,DB,FU]
 grind
theorem YX {r:Option Nat} {o:Oper} {w w':A2} {K:AB->A2->Prop} {next:Act->A2->Prop} {Q:Exit->Act->A2->Prop} (A:Fit S ops N D env a)
 {C:dJ P} (h:eop C (xQ env []) o w K) (I:Ext w w') (G: ∀v H,K v H->(eY o=true->Ext w' H)->next (a.put o.dst v) H):o.wpIn (WF r) 0 P a w' next Q:=by
 have hc:jZ ops a.tmps []:=λx g=>by cases g
 refine⟨λ_ _=>trivial,?_⟩;obtain⟨dst,op,type,pos,after,guard⟩:=o;unfold eop at h;cases op<;>simp only at h<;>(try exact AC h)
 case store t x y=>
  rw[cR (by simp)];split at h
  ·rename_i p v i g hy hi;split at h
   ·rename_i R;obtain⟨⟨ho,a0,hp,YY⟩,B⟩:=h w' I;subst hp;have gW:v.cells.size=i.size:=by simpa[u0] using R
    have vw:=jl (P:=P) (u0 v) a0 0 w' ho (λj hj=>by simpa using YY j hj);have:(execOp a.eval ⟨dst,.store t x y,type,pos,after,guard⟩).run P w'= .ok .skip (jA w' (some a0) (u0 v)):=by
     simp only[execOp,Instr.storeAt,A.ev hc g,A.ev hc hy,Hr,storeVar,AT,Ap,Ae,dq hi,gW,ne_eq,not_true,if_false];rw[show v.cells.toList=u0 v from rfl,vw];rfl
    rw[this];exact G _ _ B (λE=>by simp[eY] at E)
   ·exact AC h
  ·exact AC h
 case mapUpdate t m x v=>
  rw[cR (by simp)];split at h
  ·rename_i kt T p kd n val J U g hv;split at h
   ·rename_i Z8 V;split at h
    ·rename_i W;subst W;obtain⟨r,es,M,rfl,hb,X⟩:=h w' I;obtain⟨H,dR,B⟩:=AY J V hb X;have:(execOp a.eval ⟨dst,.mapUpdate t m x v,type,pos,after,guard⟩).run P w'= .ok .skip H:=by
      simp only[execOp,AT,A.ev hc U,A.ev hc g,A.ev hc hv,dR,Ae,Ap]
     rw[this];exact G _ _ B (λE=>by simp[eY] at E)
    ·exact AC h
   ·exact AC h
  ·exact AC h
 case insert t m x v=>
  rw[cR (by simp)];split at h
  ·rename_i kt T p kd n val J U g hv;split at h
   ·rename_i Z8 V;split at h
    ·rename_i W;subst W;obtain⟨r,es,M,rfl,hb,X⟩:=h w' I;obtain⟨H,dR,B⟩:=AY J V hb X;have:(execOp a.eval ⟨dst,.insert t m x v,type,pos,after,guard⟩).run P w'= .ok .skip H:=by
      simp only[execOp,AT,A.ev hc U,A.ev hc g,A.ev hc hv,dR,Ae,Ap]
     rw[this];exact G _ _ B (λE=>by simp[eY] at E)
    ·exact AC h
   ·exact AC h
  ·exact AC h
 case alloc e=>
  rw[cR (by simp)];split at h
  ·rename_i i hi;split at h
   ·rename_i z O;have h:aN w z.cells e (λb H=>K (.pointer (some ⟨b,0,none⟩)) H):=by
     have e1:Yi P e=z.cells:=by unfold Yi;simp only[hi,O]
     split at h
     ·rw[e1] at h;exact h
     ·exact h
    have B:=h w' I;have:(execOp a.eval ⟨dst,.alloc e,type,pos,after,guard⟩).run P w'= .ok (.value (.pointer (some ⟨w'.heap.size,0,none⟩))) (w'.alloc (.cells z.cells e)):=by
     simp[execOp,Instr.alloc,zeroValue,fD hi,O,newVar,newRow]
    rw[this];exact G _ _ B (λ_=>Ext.alloc _ _)
   ·exact AC h
  ·exact AC h
 case box e x=>
  rw[cR (by simp)];split at h
  ·rename_i v hv;have B:=h w' I;have:(execOp a.eval ⟨dst,.box e x,type,pos,after,guard⟩).run P w'= .ok (.value (.pointer (some ⟨w'.heap.size,0,none⟩))) (w'.alloc (.cells v.cells e)):=by
    simp[execOp,Instr.box,A.ev hc hv,newVar,newRow]
   rw[this];exact G _ _ B (λ_=>Ext.alloc _ _)
  ·exact AC h
 case buildSlice t len parts=>
  rw[cR (by simp)];split at h
  ·rename_i el ps J Tt;split at h
   ·rename_i i hi;split at h
    ·rename_i z O;split at h
     ·rename_i cs fj;split at h
      ·rename_i hlen;have B:=h w' I;have e:=yO (λx v g=>A.ev hc g) Tt;have e':(parts.map λ(i,x)=>(i,a.eval x)).toList=ps:=by rw[<-e];simp
       have dR:=zW (P:=P) J hi O e' fj hlen w';have:(execOp a.eval ⟨dst,.buildSlice t len parts,type,pos,after,guard⟩).run P w'= .ok (.value (.slice (some ⟨w'.heap.size,0,none⟩) len len)) (w'.alloc (.cells cs el)):=by
        simp only[execOp,AT,dR,Ae,Ap]
       rw[this];exact G _ _ B (λ_=>Ext.alloc _ _)
      ·exact AC h
     ·exact AC h
    ·exact AC h
   ·exact AC h
  ·exact AC h
 case makeSlice t l c=>
  rw[cR (by simp)];split at h
  ·rename_i el k n k' m J hl BN;split at h
   ·rename_i i hi;split at h
    ·rename_i z O;obtain⟨jz,B⟩:=h w' I;have dR:=run_makeSlice (P:=P) J hi O k k' jz w';have:(execOp a.eval ⟨dst,.makeSlice t l c,type,pos,after,guard⟩).run P w'= .ok (.value (.slice (some ⟨w'.heap.size,0,none⟩) n.toNat m.toNat)) (w'.alloc (.cells (nC z.cells (m.toNat*i.size)) el)):=by
      simp only[execOp,A.ev hc hl,A.ev hc BN,AT,dR,Ae,Ap]
     rw[this];exact G _ _ B (λ_=>Ext.alloc _ _)
    ·exact AC h
   ·exact AC h
  ·exact AC h
 case makeMap t rs=>
  rw[cR (by simp)];split at h
  ·have B:=h w' I;have:(execOp a.eval ⟨dst,.makeMap t none,type,pos,after,guard⟩).run P w'= .ok (.value (.map (some w'.heap.size))) (w'.alloc (.map #[] 0)):=by
    simp[execOp,Instr.makeMap]
   rw[this];exact G _ _ B (λ_=>Ext.alloc _ _)
  ·exact AC h
 case makeChan t sz=>
  rw[cR (by simp)];split at h
  ·rename_i d e k n J R;split at h
   ·rename_i i hi;split at h
    ·rename_i hn;have B:=h w' I;have hb: ¬ (n<0\/n>Do.max\/i.bytes*n>2 ^ 48 - 112):=by
      have:Do.max=9223372036854775807:=by decide
      omega
     have:(execOp a.eval ⟨dst,.makeChan t sz,type,pos,after,guard⟩).run P w'= .ok (.value (.chan (some w'.heap.size))) (w'.alloc (.chan n.toNat #[] false 0 0 false)):=by
      have sq: ¬ (n<0\/9223372036854775807<n\/281474976710544<(i.bytes:Int)*n):=by omega
      simp[execOp,Instr.makeChan,A.ev hc R,asInt,asIntOf,run_underlying J,fD hi];exact λc=>absurd c sq
     rw[this];exact G _ _ B (λ_=>Ext.alloc _ _)
    ·exact AC h
   ·exact AC h
  ·exact AC h
 case range xt x=>
  rw[cR (by simp)];split at h
  ·rename_i kt T p J g;obtain⟨r,es,M,rfl,hb,B⟩:=h w' I;have sq:w'.heap[r]? =some (.map es M):=hb;have:(execOp a.eval ⟨dst,.range xt x,type,pos,after,guard⟩).run P w'= .ok (.value (.pointer (some ⟨w'.heap.size,0,none⟩))) (w'.alloc (.mapIter (some r) M #[] M)):=by
    simp[execOp,Instr.range,A.ev hc g,run_underlying J,Cd sq,DB]
   rw[this];exact G _ _ B (λE=>by simp[eY] at E)
  ·exact AC h
 case next it b=>
  rw[cR (by simp)];split at h
  ·rename_i p g;obtain⟨r,m,since,seen,last,es,M,rfl,hr,hb,wK,hold,k0,k1⟩:=h w' I;rcases run_next_at (P:=P) w' type r m since last seen es M hr hb hold wK with ⟨h0,dR⟩|⟨e,L,w1,wL,dR⟩
   ·have:(execOp a.eval ⟨dst,.next it false,type,pos,after,guard⟩).run P w'= .ok (.value (.tuple ⟨[.bool false]⟩)) w':=by
     simp only[execOp,AT,A.ev hc g,dR,Ae,Ap]
    rw[this];refine G _ _ (k0 (λe L=>?_) w' (Ext.refl _)) (λE=>by simp[eY] at E);unfold leftOf at h0;have h1:=Array.eq_empty_of_size_eq_zero h0;rw[Array.filter_eq_empty_iff] at h1;simpa using h1 e (by simpa using L)
   ·have:(execOp a.eval ⟨dst,.next it false,type,pos,after,guard⟩).run P w'= .ok (.value (.tuple ⟨[.bool true,e.key,e.val]⟩)) (w1.putObj r (.mapIter (some m) since (seen.push e.born) M)):=by
     simp only[execOp,AT,A.ev hc g,dR,Ae,Ap];rfl
    rw[this];unfold leftOf at L;have jy:e∈es.toList/\seen.contains e.born=false:=by simpa using L
    refine G _ _ (k1 e jy.1 jy.2 w1 ?_) (λE=>by simp[eY] at E);rcases wL with rfl|rfl
    ·exact Ext.refl _
    ·exact⟨rfl,rfl,rfl,Db _,λk B=>rfl⟩
  ·exact AC h
 case call c=>
  obtain⟨callee,args,ts⟩:=c;rw[cR (by simp)];simp only at h;split at h
  ·
   split at h
   ·rename_i m x t u Ip aae;split at h
    ·rename_i kt T p kd n J U g;split at h
     ·rename_i Z8 V;split at h
      ·rename_i W;subst W;obtain⟨r,es,M,rfl,hb,X⟩:=h w' I;have Y:args= #[m,x]:=by cases args;simp_all
       have et':ts= #[t,u]:=by cases ts;simp_all
       obtain⟨H,dR,B⟩:=GN (P:=P) (ty:=type) et' J V hb X;have:(execOp a.eval ⟨dst,.call ⟨.builtin .delete,args,ts⟩,type,pos,after,guard⟩).run P w'= .ok (.value (.tuple ⟨[]⟩)) H:=by
        subst Y;simp only[execOp,resolve,AT,Ap,Ae,invoke,builtin,GS,Ga,Gd,A.ev hc U,A.ev hc g,dR]
       rw[this];exact G _ _ B (λE=>by simp[eY] at E)
      ·exact AC h
     ·exact AC h
    ·exact AC h
   ·exact AC h
  ·
   split at h
   ·rename_i s x t u Ip aae;split at h
    ·rename_i e ue p n m q k l J hu' R g;split at h
     ·rename_i i hi;split at h
      ·rename_i z O;split at h
       ·exact AC h
       ·rename_i hb;have Tw:=h w' I;have Y:args= #[s,x]:=by cases args;simp_all
        have T:ts= #[t,u]:=by cases ts;simp_all
        obtain⟨res,H,dR,Z⟩:=GM (P:=P) (ty:=type) T J hu' hi O hb Tw;have:(execOp a.eval ⟨dst,.call ⟨.builtin .append,args,ts⟩,type,pos,after,guard⟩).run P w'= .ok (.value (.slice res.1 res.2.1 res.2.2)) H:=by
         subst Y;simp only[execOp,resolve,AT,Ap,Ae,invoke,builtin,GS,Ga,Gd,A.ev hc R,A.ev hc g,dR]
        rw[this];exact G _ _ Z (λE=>by simp[eY] at E)
      ·exact AC h
     ·exact AC h
    ·exact AC h
   ·exact AC h
  ·
   split at h
   ·rename_i s x t u Ip aae;split at h
    ·rename_i e p n m q k l J R g;split at h
     ·rename_i i hi;have Tw:=h w' I;have Y:args= #[s,x]:=by cases args;simp_all
      have T:ts= #[t,u]:=by cases ts;simp_all
      obtain⟨res,H,dR,Z⟩:=PV (P:=P) (ty:=type) (m:=m) (l:=l) T J hi Tw;have:(execOp a.eval ⟨dst,.call ⟨.builtin .copy,args,ts⟩,type,pos,after,guard⟩).run P w'= .ok (.value (.int .i64 res)) H:=by
       subst Y;simp only[execOp,resolve,AT,Ap,Ae,invoke,builtin,GS,Ga,Gd,A.ev hc R,A.ev hc g,dR]
      rw[this];exact G _ _ Z (λE=>by simp[eY] at E)
     ·exact AC h
    ·exact AC h
   ·exact AC h
  ·rename_i f;split at h
   ·
    rename_i s t;split at h
    ·rename_i v acM hf has;obtain⟨fY,first,cap,rfl,rq,B⟩:=h w' I;have dR:=tE (P:=P) (dst:=dst) (type:=type) (pos:=pos) (after:=after) (guard:=guard) (ts:=ts) (A.ev hc hf) (l4 (λx v g=>A.ev hc g) has) (w:=w') rq;rw[dR];refine⟨by simp[WF,Dd],?_⟩;refine(jO (n:=0 - 1)).2 ?_;refine FQ B λe H ⟨x,L,g⟩=>?_;subst L;exact G _ _ g (λE=>by simp[eY] at E)
    ·exact AC h
   rename_i f _ _ _;split at h
   ·
    rename_i l first cp acM hf has
    obtain⟨rec,xZ,hlen,YZ⟩:=h w' I;have e:(first++args.map a.eval:Array AB)=⟨first.toList++acM⟩:=by
     have:=l4 (λx v g=>A.ev hc g) has;rw[<-this];obtain⟨l1⟩:=first;obtain⟨l2⟩:=args
     simp
    have dR:=run_yield (P:=P) (args:=⟨first.toList++acM⟩) xZ (by simpa using hlen);have:(execOp a.eval ⟨dst,.call ⟨.value f,args,ts⟩,type,pos,after,guard⟩).run P w'= .ok (.round l rec.fn ((rec.params.zip ⟨first.toList++acM⟩).foldl (λtmps (t,a)=>tmps.setIfInBounds t a) rec.tmps) rec.assign rec.body) w':=by
     simp only[execOp,resolve,Deferred.ofValue,A.ev hc hf,AT,Ap,Ae,invoke];rw[e,dR]
    rw[this];refine⟨by simp[WF,Dd],?_⟩;refine RoundIn.mono (F:=WF r) (n:=0 - 1) YZ λe H ⟨b,L,Z⟩=>?_;subst L;exact G _ _ Z (λE=>by simp[eY] at E)
   ·rename_i fY first cap acM hf has
    split at h
    ·rename_i rq;have B:=h w' I;have dR:=tE (P:=P) (dst:=dst) (type:=type) (pos:=pos) (after:=after) (guard:=guard) (ts:=ts) (A.ev hc hf) (l4 (λx v g=>A.ev hc g) has) (w:=w') rq;rw[dR];refine⟨by simp[WF,Dd],?_⟩;refine(jO (n:=0 - 1)).2 ?_;refine FQ B λe H ⟨x,L,g⟩=>?_;subst L;exact G _ _ g (λE=>by simp[eY] at E)
    ·exact AC h
   ·exact AC h
  ·exact AC h
theorem AZ {o:Oper} {c:Call} (b:o.op= .defer c) {w:A2} {v:AB} (h:dn P o a w v):False:=by
 obtain⟨dst,op,type⟩:=o;unfold dn execOp at h
 simp_all
 generalize (resolve _ c type).run P w=res at h;cases res<;>simp at h
def Wr (S:Nat->Option (Option AB)) (ops:Array Oper):Prop:= ∀o∈ops, ∀k,o.dst=some k->S k=none
theorem CV {α:Type} {l:List α} (h:l.getLast?=none):l=[]:=List.getLast?_eq_none_iff.1 h
theorem yQ {r:Option Nat} {C:dJ P} {i:Nat} {o:Oper} {Q:Exit->Act->A2->Prop} (y:ops[i]? =some o) (l: ∀k,o.dst=some k->S k=none):
 ∀(n:Nat) (env:List bO) (w w':A2) (K:List bO->A2->Prop),Fit S ops N D env a->N4 C ops N o n env w K->Ext w w'->
 wpOpIn (WF r) 0 P ops Q i (λa1 w1=>(BY C o=false->Ext w' w1)/\ ∃da H,K da H/\Fit S ops N D da a1/\Ext H w1) a w'
 |0, _, _, _, _, _,h, _=>AC h
 |n+1,env,w,w',K,b,h,j=>by
  simp only[N4,nE,jL] at h;split at h
  ·exact AC h
  ·rename_i E;have z:=Cw b E;split at h
   ·rename_i s;unfold wpOpIn;simp only[y];rw[if_neg (by rw[z];simp)];exact⟨λ_ _=>trivial,λ_=>Ext.refl _, _,w,h,b.put s l rfl (λ_=>rfl) (λm=>absurd eH m),j⟩
   ·exact AC h
  ·rename_i ch g E;obtain⟨A,z⟩:=Ot b E;split at h
   ·rename_i s;split at h
    ·rename_i L;split at h
     ·rename_i M;have:ch=[]:=CV M;subst this;unfold wpOpIn;simp only[y];rw[if_pos (z.2 eH)];refine YX b h j λv F p q=>⟨λO=>q (PW (C:=C) (ρ:=xQ env []) (λ_=>rfl) O L), _,F,p,?_,Ext.refl _⟩;exact b.put s l rfl (λ_=>rfl) (λm=>absurd eH m)
     ·split at h
      ·rename_i d I;split at h
       ·rename_i e B;split at h
        ·rename_i x q;split at h
         ·rename_i R;have J:e.ch=[]:=by simpa using R
          cases x with
          |true=>exact yQ y l n _ w w' K (b.settle I B J q) h j
          |false=>exact yQ y l n _ w w' K (b.settle I B J q) h j
         ·exact AC h
        ·exact AC h
       ·exact AC h
      ·exact AC h
    ·obtain⟨v,p,T⟩:=yF b A h;replace p:=rY p;unfold wpOpIn;simp only[y];by_cases hc:jZ ops a.tmps ch
     ·rw[if_pos (z.2 hc)];have t:=T hc w' j;have U: ∀c,o.op≠ .defer c:=by
       intro c V;exact AZ V t
      refine⟨λ_ _=>trivial,?_⟩;rw[cR U];unfold dn at t;split at t
      ·rename_i u F dR;obtain⟨rfl,rfl⟩:=t;rw[dR];exact⟨λ_=>Ext.refl _, _,w,p,b.put s l A (λ_=>rfl) (λm=>absurd hc m),j⟩
      ·rename_i f args F dR;obtain⟨rfl,W⟩:=t;rw[dR];refine⟨by simp[WF,Dd],(jO (n:=0 - 1)).2 ?_⟩;refine FQ W λe X ⟨B,q⟩=>?_;subst B;exact⟨λ_=>q, _,w,p,b.put s l A (λ_=>rfl) (λm=>absurd hc m),j.trans q⟩
      ·exact t.elim
     ·rw[if_neg (λG=>hc (z.1 G))];exact⟨λ_ _=>trivial,λ_=>Ext.refl _, _,w,p,b.put s l A (λG=>absurd G hc) (λ_=>rfl),j⟩
   ·exact AC h
theorem DZ {r:Option Nat} {C:dJ P} {i:Nat} {w w':A2} {K:List bO->A2->Prop} {Q:Exit->Act->A2->Prop} (c:Wr S ops) (d:Fit S ops N D env a)
 (h:FH C ops N i env w K) (e:Ext w w'):wpOpIn (WF r) 0 P ops Q i (λa1 w1=>(((ops[i]?).map (BY C)).getD true=false->Ext w' w1)/\ ∃da b,K da b/\Fit S ops N D da a1/\Ext b w1) a w':=by
 unfold FH at h;cases f:ops[i]? with
 |none=>grind
 |some o=>
  simp_all
  have:=yQ (r:=r) (Q:=Q) f (c o (by grind)) _ env w w' K d h e;omega
theorem OT {r:Option Nat} {C:dJ P} {Q:Exit->Act->A2->Prop} (e:Wr S ops): ∀(l:List Nat) (env:List bO) (a:Act) (w w':A2) (K:List bO->A2->Prop),Fit S ops N D env a->
 rxL C ops N l env w K->Ext w w'->(∀env a w w',K env w->Fit S ops N D env a->Ext w w'->Q .normal a w')->wpOpsIn (WF r) 0 P ops Q l a w'
 |[],env,a,w,w',K,b,h,c,d=>d env a w w' h b c
 |i::l,env,a,w,w',K,b,h,c,d=>by
  exact wpOpIn_mono (λa1 w1 ⟨_,da,f,g,j,k⟩=>OT e l da a1 f w1 K j g k d) (DZ e b h c)
variable {P:AH}
def mm (r:Option Nat) (P:AH) (ops:Array Oper) (Q:Exit->Act->A2->Prop) (Ia:Nat->Bool) (T:Nat->A2->Prop):Nat->Array Bool->Act->A2->Prop
 |0,b,a,w=> ∀w',Ext w w'->B2 .any ops b=[]/\Q .normal a w'
 |fuel+1,b,a,w=> ∀w',Ext w w'->(B2 .any ops b=[]->Q .normal a w')/\
  ∀i∈B2 .any ops b,wpOpIn (WF r) 0 P ops Q i (λa1 w1=>(Ia i=false->Ext w' w1)/\(Ia i=true->T i w1)/\mm r P ops Q Ia T fuel (b.setIfInBounds i true) a1 w1) a w'
section
variable {r:Option Nat} {ops:Array Oper} {Q:Exit->Act->A2->Prop} {Ia:Nat->Bool} {T:Nat->A2->Prop}
theorem nQ {b:Nat} {c:Array Bool} {a:Act} {w w':A2} (h:mm r P ops Q Ia T b c a w) (d:Ext w w'):mm r P ops Q Ia T b c a w':=by
 cases b with
 |zero
 |succ=>exact λe f=>h e (d.trans f)
theorem zo: ∀(fuel:Nat) (b:Array Bool) (a:Act) (w:A2),mm r P ops Q Ia T fuel b a w->wpAnyIn (WF r) 0 P .any ops Q fuel b a w
 |0, _, _,w,h=>h w (Ext.refl w)
 |fuel+1, _, _,w,h=>⟨(h w (Ext.refl w)).1,λi hi=>wpOpIn_mono (λa1 w1 c=>zo fuel _ a1 w1 c.2.2) ((h w (Ext.refl w)).2 i hi)⟩
theorem pE {T T':Nat->A2->Prop} (e: ∀j w,T' j w->T j w): ∀(fuel:Nat) (b:Array Bool) (a:Act) (w:A2),mm r P ops Q Ia T' fuel b a w->mm r P ops Q Ia T fuel b a w
 |0, _, _, _,h=>h
 |fuel+1, _, _, _,h=>λw' c=>⟨(h w' c).1,λi hi=>wpOpIn_mono (λa1 w1 d=>⟨d.1,by grind,pE e fuel _ a1 w1 d.2.2⟩) ((h w' c).2 i hi)⟩
def fU (P:AH) (ops:Array Oper) (o:Oper) (v:AB) (a:Act) (w:A2):Prop:=
 (BO o (yielded ops a.tmps)=true/\ ∀w',Ext w w'->dn P o a w' v)\/
 (BO o (yielded ops a.tmps)=false/\v=undef)
theorem fU.of_same {o:Oper} {v:AB} {a a':Act} {w:A2} (b:fU P ops o v a w) (c:execOp a'.eval o=execOp a.eval o)
 (d:BO o (yielded ops a'.tmps)=BO o (yielded ops a.tmps)):fU P ops o v a' w:=by grind[fU,dn]
theorem fU.op {i:Nat} {o:Oper} {v:AB} {a:Act} {w w':A2} (hi:ops[i]? =some o) (d:fU P ops o v a w) (g:Ext w w') {K:Act->A2->Prop}
 (h: ∀w1,Ext w' w1->K (a.put o.dst v) w1):wpOpIn (WF r) 0 P ops Q i K a w':=by
 unfold wpOpIn;simp only[hi];rcases d with ⟨j,k⟩
 ·rw[if_pos j];have b:=k w' g;refine⟨λ_ _=>trivial,?_⟩;rw[cR (λc l=>AZ l b)];unfold dn at b;split at b
  ·rename_i u m dR;obtain⟨rfl,rfl⟩:=b;rw[dR];exact h _ (Ext.refl _)
  ·rename_i f args m dR;obtain⟨rfl,p⟩:=b;rw[dR];refine⟨by simp[WF,Dd],(jO (n:=0 - 1)).2 ?_⟩;refine FQ p λe q=>?_
   grind
  ·exact b.elim
 ·simp_all
  exact⟨λ_ _=>trivial,h _ (Ext.refl _)⟩
def yG (ops:Array Oper) (o:Oper) (a a0:Act):Prop:=execOp a.eval o=execOp a0.eval o/\BO o (yielded ops a.tmps)=BO o (yielded ops a0.tmps)
theorem Kk {j:Nat} {g k:Oper} {v:AB} {a0:Act} (t:ops[j]? =some k) (y:g.apart ops k=true)
 (z: ∀cs b,g.op≠ .select cs b) (A: ∀cs b,k.op≠ .select cs b) (p: ∀c,k.op≠ .defer c)
 (C: ∀c a w,¬ Q (.panic c) a w) {K:Act->A2->Prop} {a:Act} {w':A2}
 (i:yG ops g a a0) (h:wpOpIn (WF r) 0 P ops Q j K (a.put g.dst v) w'):
 wpOpIn (WF r) 0 P ops Q j (λa1 w1=>yG ops g a1 a0/\K (a1.put g.dst v) w1) a w':=by
 obtain⟨h1,m,q⟩:=Oper.apart_spec y;have dv: ∀(a:Act),yG ops g a a0-> ∀u,yG ops g (a.put k.dst u) a0:=λa i u=>
  ⟨(execOp_put g z a k.dst u q).trans i.1,(wanted_put g a k.dst u q).trans i.2⟩
 unfold wpOpIn at*
 simp only[t] at*
 rw[wanted_put k a g.dst v h1] at h;split
 ·rename_i o;simp only[o,if_true] at h;refine⟨λ_ _=>trivial,?_⟩;have h:=h.2;rw[cR p,execOp_put k A a g.dst v h1] at h;rw[cR p];generalize (execOp a.eval k).run P w'=res at*
  cases res with
  |ok x B=>
   cases x<;>simp only[Oper.uponIn] at h ⊢
   case value u=>exact⟨dv a i u,by rw[<-Dn a v u m];exact h⟩
   case skip=>exact⟨dv a i _,by rw[<-Dn a v undef m];exact h⟩
   case defer d=>
    refine⟨dv ({a with defers:=d::a.defers}:Act) ⟨i.1,i.2⟩ undef,?_⟩;rw[<-Dn _ v undef m, <-Act.put_defers];exact h
   case enter f args=>
    refine⟨h.1,CallsIn.mono h.2 λe s n=>?_⟩;cases e with
    |returned u=>exact⟨dv a i u,by rw[<-Dn a v u m];exact n⟩
    |panicked c=>grind
    |outgrown=>exact n
   case row row args=>exact⟨h.1,RowsIn.mono h.2 λu s n=>⟨dv a i u,by rw[<-Dn a v u m];exact n⟩⟩
   case round l f tmps assign body=>
    refine⟨h.1,RoundIn.mono h.2 λe s n=>?_⟩;cases e with
    |returned u=>exact⟨dv a i u,by rw[<-Dn a v u m];exact n⟩
    |panicked c=>simp_all
    |outgrown=>exact n
  |halt x B=>
   cases x<;>simp only[Oper.uponIn] at h ⊢
   grind
 ·rename_i o;simp only[o] at h;exact⟨λ_ _=>trivial,dv a i _,by rw[<-Dn a v undef m];exact h.2⟩
def mfO (o:Oper):Bool:=match o.op with
 | .move _=>true
 | .assign _=>true
 | .extract .. =>true
 | _=>false
theorem fU.mf {o:Oper} {v:AB} {a:Act} {w w1:A2} (g:mfO o=true) (f:fU P ops o v a w):fU P ops o v a w1:=by
 obtain⟨dst,op,type,pos,after,guard⟩:=o;cases op with
 |move x
 |assign x=>
  rcases f with ⟨b,c⟩|d
  ·refine .inl ⟨b,λh _=>?_⟩;have:=c w (Ext.refl w);simp only[dn,execOp,Ap] at this ⊢;omega
  ·exact .inr d
 |extract x k=>
  rcases f with ⟨b,c⟩|d
  ·refine .inl ⟨b,λh _=>?_⟩;have:=c w (Ext.refl w);cases e:a.eval x with
   |tuple vs=>
    cases hv:vs[k]? with
    |none=>simp[dn,execOp,I2,e,hv] at this
    |some u=>
     simp only[dn,execOp,I2,e,hv,AT,Ap,Ae] at this ⊢;omega
   | _=>simp[dn,execOp,I2,e] at this
  ·exact .inr d
 | _=>cases g
theorem t_ {i:Nat} {g:Oper} {v:AB} {W:Nat->Bool} {T T':Nat->A2->Prop} {a0:Act} (hi:ops[i]? =some g) (J:Ia i=false) (D: ∀(j:Nat) (o:Oper),ops[j]? =some o->(∀cs b,o.op≠ .select cs b)/\ ∀c,o.op≠ .defer c)
 (R: ∀c a w,¬ Q (.panic c) a w) (E: ∀j w,T' j w->T j w):
 ∀(t:Nat) (d:Array Bool) (a:Act) (w:A2),
  (∀j m,ops[j]? =some m->j≠i->d.getD j true=false->W j=false->g.apart ops m=true/\(Ia j=false\/mfO g=true\/ ∀w1,T' j w1->fU P ops g v a0 w1))->
  (∀j,W j=true->d.getD j true=false/\ ∃m,ops[j]? =some m/\ ∃e∈m.after,DH .any e=true/\(e.on=i\/W e.on=true))->
  i∈B2 .any ops d->yG ops g a a0->fU P ops g v a0 w->
  mm r P ops Q Ia T' t (d.setIfInBounds i true) (a.put g.dst v) w->mm r P ops Q Ia T (t+1) d a w:=by
 have nil: ∀(d:Array Bool),i∈B2 .any ops d->B2 .any ops d≠[]:=λl K h=>by rw[h] at K;cases K
 intro t
 induction t with
 |zero=>
  intro d a w _ _ u s x H w' n;refine⟨λh=>absurd h (nil d u),λj y=>?_⟩;by_cases p:j=i
  ·subst p;refine(x.of_same s.1 s.2).op hi n λw1 h1=>⟨λ_=>h1,(λf=>by rw[J] at f;cases f),pE E _ _ _ _ (nQ H (n.trans h1))⟩
  ·have:=ready_mono y p;rw[(H w' n).1] at this;cases this
 |succ t S=>
  intro d a w L U u s x H w' n;refine⟨λh=>absurd h (nil d u),λj y=>?_⟩;by_cases p:j=i
  ·subst p;refine(x.of_same s.1 s.2).op hi n λw1 h1=>⟨λ_=>h1,(λf=>by rw[J] at f;cases f),pE E _ _ _ _ (nQ H (n.trans h1))⟩
  ·have h1:=(H w' n).2 j (ready_mono y p);obtain⟨M,m,z,mD⟩:=mem_ready.1 y;have acD:=(mem_ready.1 u).1;have F:W j=false:=by
    grind
   obtain⟨V,q⟩:=L j m z p M F;have G:=Kk z V (D i g hi).1 (D j m z).1 (D j m z).2 R s h1;refine wpOpIn_mono (λa1 w1 X=>?_) G;obtain⟨Y,N,O,I⟩:=X;refine⟨N,λf=>E _ _ (O f),?_⟩;refine S (d.setIfInBounds j true) a1 w1 ?_ ?_ (ready_mono u (Ne.symm p)) Y ?_ ?_
   ·intro k ok I Z A B;refine L k ok I Z ?_ B;by_cases C:j=k
    ·subst C;exact M
    ·rw[getD_set_ne true C] at A;exact A
   ·intro k B;obtain⟨A,rest⟩:=U k B;refine⟨?_,rest⟩;have C:j≠k:=λe=>by rw[e,B] at F;cases F
    rw[getD_set_ne true C];exact A
   ·have fQ:Ext w' w1->fU P ops g v a0 w1:=λov=>by
     have hww:=n.trans ov;rcases x with ⟨wL,hq1⟩|hn
     ·exact .inl ⟨wL,λw2 G=>hq1 w2 (hww.trans G)⟩
     ·exact .inr hn
    cases f:Ia j with
    |false=>exact fQ (N f)
    |true=>
     rcases q with q|q|q
     ·rw[q] at f;cases f
     ·exact x.mf q
     ·exact q w1 (O f)
   ·rw[Array.setIfInBounds_comm _ _ p];exact I
end
def aag (C:dJ P) (ops:Array Oper) (N:Nat) (o:Oper) (env:List bO) (w:A2) (K:List bO->Prop):Prop:=
 match gd ops env o with
 |none=>dw 41 o.op
 |some none=>if oP ops N env [] o.dst then wU env o.dst [] none undef K else dw 42 o.op
 |some (some (ch,g))=>
  if oP ops N env ch o.dst then oF C ops env ch g o w (λv=>yD C o v (λv=>wU env o.dst ch g v K)) else dw 43 o.op
def rxQ (C:dJ P) (ops:Array Oper) (N:Nat) (i:Nat) (env:List bO) (w:A2) (K:List bO->Prop):Prop:=
 match ops[i]? with
 |none=>False
 |some ⟨dst,op,type,pos,after,guard⟩=>aag C ops N ⟨dst,op,type,pos,after,guard⟩ env w K
def Yn {P:AH} (C:dJ P) (ops:Array Oper) (env:List bO) (ch:List (Nat×Bool)) (g:Option Bool) (o:Oper) (w:A2) (K:(A2->Prop)->AB->Prop):Prop:=
 let ρ:=xQ env ch
 match o.op with
 | .load t x=>match ρ x,elC C t,P.info? t with
   |some (.pointer p),some el,some i=>if pT el i.size=true then dw 61 o.op else aj w g p el (λx=>K (λw=>gA g (cI w p el x)) (el.gK x))
   | _, _, _=>dw 62 o.op
 | .entry _=>dw 63 o.op
 | .lookup r m ix ok=>match ok,P.underlying r,ρ m,ρ ix with
   |false,some (.map h d),some (.map p),some (.int k n)=>match P.underlying h,uR P d,P.info? d with
    |some (.int j),some el,some i=>match i.zero with
     |some z=>if k=j then∃x:el.T,gA g (jS w p k n z (el.gK x))/\K (λw=>gA g (jS w p k n z (el.gK x))) (el.gK x) else dw 61 o.op
     |none=>dw 62 o.op
    | _, _, _=>dw 63 o.op
   |true,some (.map h d),some (.map p),some (.int k n)=>match P.underlying h,uR P d,P.info? d with
    |some (.int j),some el,some i=>match i.zero with
     |some z=>if k=j then∃x:el.T, ∃b:Bool,gA g (ml w p k n z (el.gK x) b)/\K (λw=>gA g (ml w p k n z (el.gK x) b)) (.tuple ⟨[el.gK x,.bool b]⟩) else dw 61 o.op
     |none=>dw 62 o.op
    | _, _, _=>dw 63 o.op
   | _, _, _, _=>dw 64 o.op
 | .pick .. =>oF C ops env ch g o w (λv=>K (λ_=>True) v)
 | .call c=>match c.callee with
   | .value f=>match ρ f,maps ρ c.args.toList with
     |some (.func (.func a) first cap),some l=>
      if bJ P a=true then
       match yf C.sr a with
       |some e=>match e.fn (c_ first l cap) with
        |some (pre,v)=>gA g pre/\K (λ_=>True) v
        |none=>dw 64 o.op
       |none=> ∃x:(uM C a).T,gA g (ae P a (c_ first l cap) w ((uM C a).gK x))/\K (λw=>gA g (ae P a (c_ first l cap) w ((uM C a).gK x))) ((uM C a).gK x)
      else dw 65 o.op
     | _, _=>dw 66 o.op
   | .builtin .len=>match Cl P ρ c with
     |some p=> ∃n:Nat,gA g (TU w p n)/\K (λw=>gA g (TU w p n)) (.int .i64 n)
     |none=>match xx P ρ c with
      |some p=> ∃n:Nat,gA g (ChL w p n)/\K (λw=>gA g (ChL w p n)) (.int .i64 n)
      |none=>oF C ops env ch g o w (λv=>K (λ_=>True) v)
   | _=>oF C ops env ch g o w (λv=>K (λ_=>True) v)
 | .binOp .. =>match pop P ρ o with
   |some ⟨none,v⟩=>K (λ_=>True) v
   |some ⟨some p,v⟩=>gA g p/\K (λ_=>True) v
   |none=>match Ck P ρ o.op with
    |some (p,q)=>gA g (Xr w p q)/\K (λw=>gA g (Xr w p q)) (.bool (decide (p=q)))
    |none=>dw 67 o.op
 | _=>oF C ops env ch g o w (λv=>K (λ_=>True) v)
def Z9 (p:A2->Prop):Prop:= ∀w w',p w->Ext w w'->p w'
theorem nF {g:Option Bool} {p:A2->Prop} (h:Z9 p):Z9 (λw=>gA g (p w)):=by
 intro w w' a b;cases g with
 |none=>exact h w w' a b
 |some=>exact λhb=>h w w' (a hb) b
def OU (op:Op):Bool:=match op with
 | .load .. =>false
 | .lookup .. =>false
 | .entry _=>false
 | .binOp .. =>false
 | .call c=>(match c.callee with| .value _=>false| .builtin .len=>false| _=>true)
 | _=>true
theorem Kl {C:dJ P} {ops:Array Oper} {env:List bO} {ch:List (Nat×Bool)} {g:Option Bool} {o:Oper} {w:A2} {K:AB->Prop} (e:OU o.op=true)
 (h:oF C ops env ch g o w K): ∃v,K v/\ ∀i,oF C ops env ch g o i (λu=>u=v):=by
 obtain⟨dst,op,type,pos,after,guard⟩:=o;cases op with
 |load t x=>cases e
 |lookup a b c d=>cases e
 |entry a=>cases e
 |binOp op t x y j=>cases e
 |pick c x y=>
  unfold oF at h;simp only at h;unfold oF;simp only;split at h
  ·split at h
   ·split at h
    ·split at h
     ·exact⟨_,h,λ_=>rfl⟩
     ·exact h.elim
    ·split at h
     ·exact⟨_,h,λ_=>rfl⟩
     ·exact h.elim
    ·split at h
     ·split at h
      ·split at h
       ·exact⟨_,h,λ_=>rfl⟩
       ·exact⟨_,h,λ_=>rfl⟩
       ·exact⟨_,h,λ_=>rfl⟩
      ·exact h.elim
     ·exact h.elim
   ·exact h.elim
  ·exact h.elim
 |call c=>
  obtain⟨callee,args,ts⟩:=c;cases callee with
  |value f=>cases e
  |builtin b=>
   cases b with
   |len=>cases e
   | _=>
     unfold oF at h;simp only at h;unfold oF;simp only;split at h
     ·exact⟨_,h,λ_=>rfl⟩
     ·exact⟨_,h.2,λ_=>⟨h.1,rfl⟩⟩
     ·exact h.elim
  | _=>
    unfold oF at h;simp only at h;unfold oF;simp only;split at h
    ·exact⟨_,h,λ_=>rfl⟩
    ·exact⟨_,h.2,λ_=>⟨h.1,rfl⟩⟩
    ·exact h.elim
 | _=>
   unfold oF at h;simp only at h;unfold oF;simp only;split at h
   ·exact⟨_,h,λ_=>rfl⟩
   ·exact⟨_,h.2,λ_=>⟨h.1,rfl⟩⟩
   ·exact h.elim
theorem PX {C:dJ P} {ops:Array Oper} {env:List bO} {ch:List (Nat×Bool)} {g:Option Bool} {o:Oper} {w:A2} {K:(A2->Prop)->AB->Prop} (h:Yn C ops env ch g o w K):
 ∃p v,K p v/\p w/\Z9 p/\ ∀j,p j->oF C ops env ch g o j (λu=>u=v):=by
 obtain⟨dst,op,type,pos,after,guard⟩:=o;have st:OU op=true->oF C ops env ch g ⟨dst,op,type,pos,after,guard⟩ w (λv=>K (λ_=>True) v)->
  ∃p v,K p v/\p w/\Z9 p/\ ∀j,p j->oF C ops env ch g ⟨dst,op,type,pos,after,guard⟩ j (λu=>u=v):=λS h=>by
  obtain⟨v,k,hv⟩:=Kl (o:=⟨dst,op,type,pos,after,guard⟩) S h;exact⟨_,v,k,trivial,λ_ _ _ _=>trivial,λj _=>hv j⟩
 unfold Yn at h;cases op with
 |load t x=>
  simp only at h;split at h
  ·rename_i p el i h1 A G;split at h
   ·exact h.elim
   ·rename_i hb;obtain⟨x',T,k⟩:=h;refine⟨_, _,k,T,nF λw w' d l=>pk l d,λj d=>?_⟩;unfold oF;simp only[h1,A,G,if_neg hb];exact⟨x',d,rfl⟩
  ·exact h.elim
 |entry a=>exact h.elim
 |lookup xt m ix ok=>
  simp only at h;split at h
  ·rename_i U V p kd n h1 A G;split at h
   ·rename_i W el X L M N;split at h
    ·rename_i z O;split at h
     ·rename_i Q;obtain⟨x,B,k⟩:=h;refine⟨_, _,k,B,nF λw w' d l=>?_,λj d=>?_⟩
      ·obtain⟨r,es,H,D,E,F⟩:=d;exact⟨r,es,H,D,l.obj E,F⟩
      ·unfold oF;simp only[h1,A,G,L,M,N,O,if_pos Q];exact⟨x,d,rfl⟩
     ·exact h.elim
    ·exact h.elim
   ·exact h.elim
  ·rename_i U V p kd n h1 A G;split at h
   ·rename_i W el X L M N;split at h
    ·rename_i z O;split at h
     ·rename_i Q;obtain⟨x,b,B,k⟩:=h;refine⟨_, _,k,B,nF λw w' d l=>?_,λj d=>?_⟩
      ·obtain⟨r,es,H,D,E,F⟩:=d;exact⟨r,es,H,D,l.obj E,F⟩
      ·unfold oF;simp only[h1,A,G,L,M,N,O,if_pos Q];exact⟨x,b,d,rfl⟩
     ·exact h.elim
    ·exact h.elim
   ·exact h.elim
  ·exact h.elim
 |call c=>
  obtain⟨callee,args,ts⟩:=c;cases callee with
  |value f=>
   simp only at h;split at h
   ·rename_i fY first cap acM h1 A
    split at h
    ·rename_i hc;split at h
     ·rename_i e R;split at h
      ·rename_i pre v Y;refine⟨_,v,h.2,trivial,λ_ _ _ _=>trivial,λj _=>?_⟩;unfold oF;simp only[h1,A,if_pos hc,R,Y];exact⟨h.1,trivial⟩
      ·exact h.elim
     ·rename_i R;obtain⟨x,B,k⟩:=h;refine⟨_, _,k,B,nF λw w' d l=>λj A=>d j (l.trans A),λj d=>?_⟩;unfold oF;simp only[h1,A,if_pos hc,R];exact⟨x,d,rfl⟩
    ·exact h.elim
   ·exact h.elim
  |builtin b=>
   cases b with
   |len=>
    simp only at h;split at h
    ·rename_i p d;obtain⟨n,B,k⟩:=h;refine⟨_, _,k,B,nF λw w' d l=>?_,λj I=>?_⟩
     ·obtain⟨r,es,H,D,E,F⟩:=d;exact⟨r,es,H,D,l.obj E,F⟩
     ·unfold oF;simp only[d];exact⟨n,I,rfl⟩
    ·rename_i d;split at h
     ·rename_i p J;obtain⟨n,B,k⟩:=h;refine⟨_, _,k,B,nF λw w' d l=>?_,λj I=>?_⟩
      ·obtain⟨r,cap,Z,s,m,D,E,F⟩:=d;exact⟨r,cap,Z,s,m,D,l.obj E,F⟩
      ·unfold oF;simp only[d,J];exact⟨n,I,rfl⟩
     ·rename_i J;unfold oF at h;simp only[d,J] at h;split at h
      ·rename_i v hv;refine⟨_,v,h,trivial,λ_ _ _ _=>trivial,λj _=>?_⟩;unfold oF;simp only[d,J,hv]
      ·rename_i p v hv;refine⟨_,v,h.2,trivial,λ_ _ _ _=>trivial,λj _=>?_⟩;unfold oF;simp only[d,J,hv];exact⟨h.1,trivial⟩
      ·exact h.elim
   | _=>exact st rfl h
  | _=>exact st rfl h
 |binOp op t x y yt=>
  simp only at h;split at h
  ·rename_i v hv;refine⟨_,v,h,trivial,λ_ _ _ _=>trivial,λj _=>?_⟩;unfold oF;simp only[hv]
  ·rename_i p v hv;refine⟨_,v,h.2,trivial,λ_ _ _ _=>trivial,λj _=>?_⟩;unfold oF;simp only[hv];exact⟨h.1,trivial⟩
  ·rename_i hv;split at h
   ·rename_i p q d;refine⟨_, _,h.2,h.1,nF λw w' d l=>IK l d,λj I=>?_⟩;unfold oF;simp only[hv,d];exact⟨I,trivial⟩
   ·exact h.elim
 | _=>exact st rfl h
def WV (C:dJ P) (ops:Array Oper) (N:Nat) (o:Oper) (env:List bO) (w:A2) (K:(A2->Prop)->List bO->Prop):Prop:=
 match gd ops env o with
 |none=>dw 44 o.op
 |some none=>if oP ops N env [] o.dst then wU env o.dst [] none undef (K λ_=>True) else dw 45 o.op
 |some (some (ch,g))=>
  if oP ops N env ch o.dst then Yn C ops env ch g o w (λp v=>yD C o v (λv=>wU env o.dst ch g v (K p))) else dw 46 o.op
def Yo (C:dJ P) (ops:Array Oper) (N:Nat) (i:Nat) (env:List bO) (w:A2) (K:(A2->Prop)->List bO->Prop):Prop:=
 match ops[i]? with
 |none=>False
 |some ⟨dst,op,type,pos,after,guard⟩=>WV C ops N ⟨dst,op,type,pos,after,guard⟩ env w K
def AM (j:Nat) (w:A2):List (Nat×(A2->Prop))->Prop->Prop
 |[],K=>K
 |(W,p)::r,K=>match W.testBit j with
  |true=>AM j w r K
  |false=>p w/\AM j w r K
theorem p8 {j:Nat} {w:A2}: ∀{l:List (Nat×(A2->Prop))} {K:Prop},AM j w l K<->(∀e∈l,e.1.testBit j=false->e.2 w)/\K
 |[],K=>by simp[AM]
 |(W,p)::r,K=>by
  unfold AM;cases h:W.testBit j with
  |true
  |false=>simp only[p8,List.forall_mem_cons];grind
def Ou (ops:Array Oper):Bool:=ops.toList.all λo=>match o.op with| .select .. | .defer _=>false| _=>true
def sb (i:Nat):Nat:=1 <<< i
theorem yg (i j:Nat):(sb i).testBit j=decide (i=j):=by simp[sb,Nat.one_shiftLeft,Nat.testBit_two_pow]
def AN:List Nat->Nat
 |[]=>0
 |x::r=>sb x ||| AN r
theorem tF: ∀(l:List Nat) (j:Nat),(AN l).testBit j=decide (j∈l)
 |[],j=>by simp[AN]
 |x::r,j=>by
  rw[AN,G1,yg,tF]
  grind
theorem and_zero {a b j:Nat} (h:((a &&& b)==0)=true) (c:a.testBit j=true):b.testBit j=false:=by
 have:=congrArg (λm=>m.testBit j) (by simpa using h: )
 grind
theorem PY {a b:Nat} (h:((a &&& b) != 0)=true): ∃j,a.testBit j=true/\b.testBit j=true:=by
 have h':=by simpa using h
 obtain:=Nat.exists_testBit_of_ne_zero h'
 grind
theorem Ub {a b j:Nat} (h:((a &&& b)==a)=true) (c:a.testBit j=true):b.testBit j=true:=by grind
theorem Uc {a b:Nat} (h:((a &&& b)==a)=false): ∃j,a.testBit j=true/\b.testBit j=false:=by
 apply Classical.byContradiction;intro;have:a &&& b=a:=by
  apply Nat.eq_of_testBit_eq
  grind
 grind
def JT (o:Oper):Nat:=AN ((o.after.toList.filter λe=>DH .any e).map (·.on))
def Wl (o:Oper):Nat:=match o.dst with
 |some d=>sb d
 |none=>0
def lkM (ops:Array Oper) (o:Oper):Nat:=AN (o.looksAt ops)
def Tx (L i e:Nat):Bool:= !L.testBit i&&(e &&& L)==e
def Ib (L i:Nat):List (Oper×Nat)->Nat->Nat
 |[],W=>W
 |(o,j)::r,W=>Ib L i r (if !L.testBit j&&(JT o &&& (W ||| sb i)) != 0 then W ||| sb j else W)
def Fu (ops:Array Oper) (x y:Oper):Bool:=(Wl x &&& (lkM ops y ||| Wl y))==0&&(Wl y &&& lkM ops x)==0
def frM (C:dJ P) (ops:Array Oper) (L i W:Nat) (x:Oper) (Z:List (Oper×Nat)):Bool:=
 Z.all λz=>z.2==i||L.testBit z.2||W.testBit z.2||(Fu ops x z.1&&(!BY C z.1||mfO x))
def nxM (C:dJ P) (Z:List (Oper×Nat)) (L:Nat):Option (Nat×Bool):=
 match Z.find? λz=>Tx L z.2 (JT z.1)&& !BY C z.1&& !eY z.1 with
 |some z=>some (z.2,true)
 |none=>match Z.find? λz=>Tx L z.2 (JT z.1) with
  |some z=>some (z.2,false)
  |none=>none
def frS (ops:Array Oper) (L i W:Nat) (x:Oper) (Z:List (Oper×Nat)):Bool:=
 Z.all λz=>z.2==i||L.testBit z.2||W.testBit z.2||Fu ops x z.1
inductive Sd where
 |nil|q (i:Nat) (m:Option Nat) (r:Sd)|alt (i:Nat) (r t:Sd)|stop
def o9 (C:dJ P) (ops:Array Oper) (Z:List (Oper×Nat)):Nat->Nat->Option Sd
 |0,L=>if Z.all λz=> !Tx L z.2 (JT z.1) then some .nil else none
 |n+1,L=>match nxM C Z L with
  |none=>none
  |some (i,true)=>match ops[i]? with
   |some x=>if Tx L i (JT x)&& !BY C x then
     if frM C ops L i (Ib L i Z 0) x Z then match o9 C ops Z n (L ||| sb i) with
      |some l=>some (.q i none l)
      |none=>none
     else if frS ops L i (Ib L i Z 0) x Z then match o9 C ops Z n (L ||| sb i) with
      |some l=>some (.q i (some (Ib L i Z 0)) l)
      |none=>none
     else none
    else none
   |none=>none
  |some (_,false)=>(Z.filter λz=>Tx L z.2 (JT z.1)).foldr (λz c=>match c with
   |none=>none
   |some b=>match o9 C ops Z n (L ||| sb z.2) with
    |some a=>some (.alt z.2 a b)
    |none=>none) (some .stop)
def Y0 (C:dJ P) (ops:Array Oper):Option Sd:=o9 C ops ops.toList.zipIdx ops.size 0
def n8 (C:dJ P) (ops:Array Oper) (i:Nat):Bool:=((ops[i]?).map (BY C)).getD true
def Ov (C:dJ P) (ops:Array Oper) (i:Nat) (w:A2) (l:List (Nat×(A2->Prop))) (K:Prop):Prop:=
 match n8 C ops i with
 |true=>AM i w l K
 |false=>K
def Yp (C:dJ P) (ops:Array Oper) (N:Nat) (i:Nat) (a:List (Nat×(A2->Prop))) (env:List bO) (w:A2) (F:List bO->A2->Prop):Prop:=match a with
 |[]=>FH C ops N i env w F
 |e::a=>FH C ops N i env w (λenv w=>Ov C ops i w (e::a) (F env w))
def Yq (t:Sd) (a b:Prop):Prop:=match t with
 | .stop=>a
 | _=>a/\b
def Fv (C:dJ P) (ops:Array Oper) (N:Nat):Sd->List (Nat×(A2->Prop))->List bO->A2->(List bO->A2->Prop)->Prop
 | .nil, _,env,w,K=>K env w
 | .q i none r,a,env,w,K=>rxQ C ops N i env w (λenv=>Fv C ops N r a env w K)
 | .q i (some W) r,a,env,w,K=>Yo C ops N i env w (λp env=>Fv C ops N r ((W,p)::a) env w K)
 | .alt i r t,a,env,w,K=>Yq t (Yp C ops N i a env w (λenv w=>Fv C ops N r a env w K)) (Fv C ops N t a env w K)
 | .stop, _, _, _, _=>True
def aah (C:dJ P) (ops:Array Oper) (N:Nat) (l:Sd) (env:List bO) (w:A2) (K:List bO->A2->Prop):Prop:=Fv C ops N l [] env w K
def Yr (C:dJ P) (ops:Array Oper) (N:Nat) (env:List bO) (w:A2) (K:List bO->A2->Prop):Prop:=
 match Y0 C ops with
 |some l=>aah C ops N l env w K
 |none=>False
def Iq (j:Nat) (x:Sd):Sd->Prop
 | .alt i r t=>(j=i/\x=r)\/Iq j x t
 | _=>False
def Valid (C:dJ P) (ops:Array Oper):Nat->Sd->Array Bool->Prop
 |0,t,a=>t= .nil/\B2 .any ops a=[]
 |n+1,t,a=>match t with
  | .q i m r=>i∈B2 .any ops a/\n8 C ops i=false/\
    (∃W:Nat->Bool,(∀c,ops[i]? =some c-> ∀j b,ops[j]? =some b->j≠i->a.getD j true=false->W j=false->c.apart ops b=true/\(BY C b=false\/mfO c=true\/ ∃w,m=some w/\w.testBit j=false))/\
     (∀j,W j=true->a.getD j true=false/\ ∃b,ops[j]? =some b/\ ∃e∈b.after,DH .any e=true/\(e.on=i\/W e.on=true)))/\
    Valid C ops n r (a.setIfInBounds i true)
  | .alt i r d=>i∈B2 .any ops a/\ ∀j∈B2 .any ops a, ∃x,Iq j x (.alt i r d)/\Valid C ops n x (a.setIfInBounds j true)
  | _=>False
def Am (ops:Array Oper) (L:Nat) (a:Array Bool):Prop:=a.size=ops.size/\ ∀j,a.getD j false=L.testBit j
theorem Am.un {ops:Array Oper} {L:Nat} {a:Array Bool} (h:Am ops L a) {j:Nat} (b:j<ops.size):a.getD j true=L.testBit j:=by
 rw[<-h.2];have:j<a.size:=by rw[h.1];grind
 grind
theorem Am.set {ops:Array Oper} {L:Nat} {a:Array Bool} (h:Am ops L a) {i:Nat} (hi:i<ops.size):Am ops (L ||| sb i) (a.setIfInBounds i true):=by
 refine⟨by simp[h.1],λj=>?_⟩;rw[G1,yg, <-h.2];by_cases e:i=j
 ·subst e;have:i<a.size:=by rw[h.1];omega
  simp[this]
 simp_all
theorem Am.zero (ops:Array Oper):Am ops 0 (E5 ops.size false):=by
 refine⟨by simp,λj=>?_⟩;simp[JQ]
theorem pU {ops:Array Oper} {o:Oper} {j:Nat}:(o,j)∈ops.toList.zipIdx<->ops[j]? =some o:=by grind
theorem F8 {o:Oper} {j:Nat}:(JT o).testBit j=true<-> ∃e∈o.after,DH .any e=true/\e.on=j:=by
 grind[JT,tF]
theorem mX {ops:Array Oper} {L:Nat} {c:Array Bool} (h:Am ops L c) {i:Nat}:i∈B2 .any ops c<-> ∃o,ops[i]? =some o/\Tx L i (JT o)=true:=by
 unfold B2;rw[Bs,Dl];constructor
 ·rintro⟨hi,hc⟩;rw[h.un hi] at hc;simp only[B5] at hc;have a:=JS hi;refine⟨ops[i],a,?_⟩;rw[a] at hc;simp only[GG,IE,H5] at hc;unfold Tx;rw[B5];refine⟨hc.1,?_⟩;cases f:(JT _ &&& L)==JT _ with
  |true=>rfl
  |false=>
   obtain⟨j,h1,g⟩:=Uc f;obtain⟨e,d,hb,rfl⟩:=F8.1 h1;have:=hc.2 e d;rw[hb,h.2,g] at this;cases this
 ·rintro⟨o,a,b⟩;have hi:=(BX.1 a).1;unfold Tx at b;rw[B5] at b;refine⟨hi,?_⟩;rw[h.un hi,B5];refine⟨b.1,?_⟩;rw[a];simp only[GG,IE,H5];intro e d;rw[h.2];cases hb:DH .any e with
  |false=>rfl
  |true=>rw[Ub b.2 (F8.2 (by grind))];rfl
theorem D4 {L i:Nat}: ∀(Z:List (Oper×Nat)) (W j:Nat),W.testBit j=true->(Ib L i Z W).testBit j=true
 |[], _, _,h=>h
 |k::r,W,j,h=>by
  refine D4 r _ j ?_
  grind
theorem OV {L i:Nat}: ∀(Z:List (Oper×Nat)) (W:Nat),(∀x,(Ib L i Z W).testBit x=true->W.testBit x=true\/(L.testBit x=false/\ ∃o,(o,x)∈Z/\ ∃k,(JT o).testBit k=true/\(k=i\/(Ib L i Z W).testBit k=true)))
 |[], _, _,h=> .inl h
 |(o,j)::r,W,x,h=>by
  unfold Ib at h ⊢;rcases OV r _ x h with h1|⟨h1,o',b,c⟩
  ·split at h1
   ·rename_i hc;rw[G1,yg,Ft,decide_eq_true_eq] at h1;rcases h1 with h1|rfl
    ·exact .inl h1
    ·rw[B5] at hc;obtain⟨k,d,a⟩:=PY hc.2;rw[G1,yg,Ft,decide_eq_true_eq] at a
     grind[In,D4]
   ·exact .inl h1
  grind
theorem OW {ops:Array Oper} {x y:Oper} (h:Fu ops x y=true):x.apart ops y=true:=by
 unfold Fu at h;rw[B5] at h;obtain⟨h1,b⟩:=h;unfold Oper.apart;rw[B5];constructor
 ·cases a:x.dst with
  |none=>rfl
  |some d=>
   have hb:(Wl x).testBit d=true:=by simp[Wl,a,yg]
   have:=and_zero h1 hb;rw[G1,Bool.or_eq_false_iff] at this;obtain⟨a1,c⟩:=this;unfold lkM at a1;rw[tF] at a1
   grind[Wl,yg]
 ·cases a:y.dst with
  |none=>rfl
  |some d=>
   have hb:(Wl y).testBit d=true:=by simp[Wl,a,yg]
   grind[and_zero,lkM,tF]
theorem IM {F:Nat->Option Sd}: ∀(l:List (Oper×Nat)) (t:Sd),l.foldr (λz e=>match e with
 |none=>none
 |some b=>match F z.2 with
  |some a=>some (.alt z.2 a b)
  |none=>none) (some Sd.stop)=some t->(l=[]/\t= .stop)\/(∃i r d,t= .alt i r d/\(∃o,(o,i)∈l)/\ ∀z∈l, ∃x,Iq z.2 x t/\F z.2=some x)
 |[],t,h=>by
  grind
 |z::l,t,h=>by
  rw[List.foldr_cons] at h;split at h
  ·cases h
  ·rename_i b hb;split at h
   ·rename_i a f;cases h;refine .inr ⟨z.2,a,b,rfl,by grind,λy c=>?_⟩;rcases Ca.1 c with rfl|c
    ·exact⟨a,.inl (by grind),f⟩
    ·rcases IM l b hb with ⟨rfl, _⟩|⟨i,r,d, _, _,g⟩
     ·cases c
     ·obtain⟨x,h1,j⟩:=g y c;exact⟨x,.inr h1,j⟩
   grind
theorem p9 {C:dJ P} {ops:Array Oper}: ∀(n L:Nat) (m:Array Bool) (l:Sd),Am ops L m->o9 C ops ops.toList.zipIdx n L=some l->Valid C ops n l m
 |0,L,m,l,a,h=>by
  simp only[o9] at h;split at h
  ·rename_i hc;cases h;refine⟨rfl,?_⟩;rw[List.eq_nil_iff_forall_not_mem];intro j b;obtain⟨o,c,u⟩:=(mX a).1 b;have:=Dh.1 hc (o,j) (pU.2 c);rw[u] at this;cases this
  ·cases h
 |n+1,L,m,l,a,h=>by
  have E: ∀i j,(Ib L i ops.toList.zipIdx 0).testBit j=true->m.getD j true=false/\ ∃d,ops[j]? =some d/\ ∃e∈d.after,DH .any e=true/\(e.on=i\/(Ib L i ops.toList.zipIdx 0).testBit e.on=true):=by
   intro i j f;rcases OV ops.toList.zipIdx 0 j f with h1|⟨h1,o,p,k,J,K⟩
   ·simp at h1
   ·have c:=pU.1 p;obtain⟨e,v,hb,rfl⟩:=F8.1 J;exact⟨by rw[a.un (BX.1 c).1];exact h1,o,c,e,v,hb,K⟩
  simp only[o9] at h;split at h
  ·cases h
  ·rename_i i _;split at h
   ·rename_i x g;have hi:i<ops.size:=(BX.1 g).1;split at h
    ·rename_i hc;rw[B5,H4] at hc;have G:n8 C ops i=false:=by unfold n8;rw[g];exact hc.2
     split at h
     ·rename_i w;split at h
      ·rename_i l' y;cases h;have A:=p9 n _ _ l' (a.set hi) y;refine⟨(mX a).2 ⟨x,g,hc.1⟩,G,⟨λj=>(Ib L i ops.toList.zipIdx 0).testBit j,?_,λj=>E i j⟩,A⟩;intro M q j d b B s f;rw[g] at q;cases q;have:=Dh.1 w (d,j) (pU.2 b);rw[a.un (BX.1 b).1] at s;have D:(Ib L i ops.toList.zipIdx 0).testBit j=false:=f;simp only[s,D,J4,Ft,beq_iff_eq,B5,H4] at this;rcases this with h1|h1
       ·exact absurd h1 B
       ·exact⟨OW h1.1,h1.2.imp id .inl⟩
      ·cases h
     ·split at h
      ·rename_i w;split at h
       ·rename_i l' y;cases h;have A:=p9 n _ _ l' (a.set hi) y;refine⟨(mX a).2 ⟨x,g,hc.1⟩,G,⟨λj=>(Ib L i ops.toList.zipIdx 0).testBit j,?_,λj=>E i j⟩,A⟩;intro M q j d b B s f;rw[g] at q;cases q;have:=Dh.1 w (d,j) (pU.2 b);rw[a.un (BX.1 b).1] at s;have D:(Ib L i ops.toList.zipIdx 0).testBit j=false:=f;simp only[s,D,J4,Ft,beq_iff_eq] at this;rcases this with h1|h1
        ·exact absurd h1 B
        ·exact⟨OW h1,.inr (.inr ⟨_,rfl,f⟩)⟩
       ·cases h
      ·cases h
    ·cases h
   ·cases h
  ·rename_i t;rcases IM (F:=λj=>o9 C ops ops.toList.zipIdx n (L ||| sb j)) _ l h with ⟨v, _⟩|⟨i,r,O,rfl,⟨o,c⟩,N⟩
   ·
    exfalso;unfold nxM at t;split at t
    ·cases t
    ·split at t
     ·rename_i z H;have h1:=NR H;have p:=List.mem_of_find?_eq_some H;have:z∈(ops.toList.zipIdx).filter λz=>Tx L z.2 (JT z.1):=Bs.2 ⟨p,h1⟩;rw[v] at this;cases this
     ·cases t
   ·rw[Bs] at c;refine⟨(mX a).2 ⟨o,pU.1 c.1,c.2⟩,λj b=>?_⟩;obtain⟨d,I,u⟩:=(mX a).1 b;obtain⟨x,h1,p⟩:=N (d,j) (Bs.2 ⟨pU.2 I,u⟩);exact⟨x,h1,p9 n _ _ x (a.set (BX.1 I).1) p⟩
section
variable {r:Option Nat} {S:Nat->Option (Option AB)} {ops:Array Oper} {N:Nat} {D:List Deferred} {Q:Exit->Act->A2->Prop}
theorem Y1 {C:dJ P} {i:Nat} {env:List bO} {a:Act} {w:A2} {K:List bO->Prop} (l:Wr S ops) (b:Fit S ops N D env a) (h:rxQ C ops N i env w K):
 ∃o u da,ops[i]? =some o/\K da/\Fit S ops N D da (a.put o.dst u)/\fU P ops o u a w:=by
 unfold rxQ at h;cases k:ops[i]? with
 |none=>simp[k] at h
 |some o=>
  simp only[k,aag,nE] at h;have e:=l o (by grind);split at h
  ·exact AC h
  ·rename_i f;split at h
   ·rename_i c;exact⟨o,undef, _,rfl,h,b.put c e rfl (λ_=>rfl) (by grind),.inr ⟨Cw b f,rfl⟩⟩
   ·exact AC h
  ·rename_i ch g f;obtain⟨j,m⟩:=Ot b f;split at h
   ·rename_i c;obtain⟨v,d,n⟩:=yF b j h;replace d:=rY d;by_cases hc:jZ ops a.tmps ch
    ·exact⟨o,v, _,rfl,d,b.put c e j (λ_=>rfl) (λp=>absurd hc p),.inl ⟨m.2 hc,n hc⟩⟩
    ·refine⟨o,undef, _,rfl,d,b.put c e j (λq=>absurd q hc) (λ_=>rfl),.inr ⟨?_,rfl⟩⟩
     simp_all
   ·exact AC h
theorem Ud {C:dJ P} {i:Nat} {env:List bO} {a:Act} {w:A2} {K:(A2->Prop)->List bO->Prop} (t:Wr S ops) (c:Fit S ops N D env a) (h:Yo C ops N i env w K):
 ∃o u da p,ops[i]? =some o/\K p da/\Fit S ops N D da (a.put o.dst u)/\p w/\Z9 p/\ ∀b,p b->fU P ops o u a b:=by
 unfold Yo at h;cases q:ops[i]? with
 |none=>simp[q] at h
 |some o=>
  simp only[q,WV,nE] at h;have j:=t o (by grind);split at h
  ·exact AC h
  ·rename_i k;split at h
   ·rename_i d;exact⟨o,undef, _, _,rfl,h,c.put d j rfl (λ_=>rfl) (by grind),trivial,λ_ _ _ _=>trivial,λ_ _=> .inr ⟨Cw c k,rfl⟩⟩
   ·exact AC h
  ·rename_i ch g k;obtain⟨l,x⟩:=Ot c k;split at h
   ·rename_i d;obtain⟨p,v,f,r,s,y⟩:=PX h;replace f:=rY f;have z: ∀b,p b->jZ ops a.tmps ch-> ∀w',Ext b w'->dn P o a w' v:=λb m hc=>by
     obtain⟨B,e,n⟩:=yF c l (y b m);subst e;exact n hc
    by_cases hc:jZ ops a.tmps ch
    ·exact⟨o,v, _,p,rfl,f,c.put d j l (λ_=>rfl) (λA=>absurd hc A),r,s,λb m=> .inl ⟨x.2 hc,z b m hc⟩⟩
    ·refine⟨o,undef, _,p,rfl,f,c.put d j l (λn=>absurd n hc) (λ_=>rfl),r,s,λb _=> .inr ⟨?_,rfl⟩⟩
     simp_all
   ·exact AC h
def AO (a:List (Nat×(A2->Prop))) (j:Nat) (w:A2):Prop:= ∀e∈a,e.1.testBit j=false->e.2 w
theorem IN {C:dJ P} {a:List (Nat×(A2->Prop))} {env:List bO} {w:A2} {K:List bO->A2->Prop} {j:Nat} {x:Sd}: ∀{t:Sd},Fv C ops N t a env w K->Iq j x t->Yp C ops N j a env w (λenv w=>Fv C ops N x a env w K)
 | .alt i r t,h,hi=>by
   rw[Fv] at h;have h1:Yp C ops N i a env w λenv w=>Fv C ops N r a env w K:=by
    grind[Yq]
   rcases hi with ⟨rfl,rfl⟩|hi
   ·omega
   ·refine IN ?_ hi;unfold Yq at h;split at h
    ·cases hi
    grind
theorem Y3 {C:dJ P} (G:Wr S ops) (Al:Ou ops=true) (U: ∀c a w,¬ Q (.panic c) a w): ∀(n:Nat) (l:Sd) (f:Array Bool) (d:List (Nat×(A2->Prop))) (env:List bO) (a:Act) (w:A2) (K:List bO->A2->Prop),(∀e∈d,Z9 e.2)->Fit S ops N D env a->
 Valid C ops n l f->Fv C ops N l d env w K->(∀env a w w',K env w->Fit S ops N D env a->Ext w w'->Q .normal a w')->
 mm r P ops Q (n8 C ops) (AO d) n f a w:=by
 have V: ∀(j:Nat) (o:Oper),ops[j]? =some o->(∀cs b,o.op≠ .select cs b)/\ ∀c,o.op≠ .defer c:=λj o g=>by
  have:=Dh.1 Al o (Array.mem_toList_iff.2 (JU g));constructor
  ·intro cs b he;simp[he] at this
  ·intro c he;simp[he] at this
 intro n
 induction n with
 |zero=>
  intro l f d env a w K _ s hv h v w' H;obtain⟨rfl,hv⟩:=hv;exact⟨hv,v env a w w' h s H⟩
 |succ n I=>
  intro l f d env a w K z s hv h v;cases l with
  |nil=>exact hv.elim
  |stop=>exact hv.elim
  |q i m l=>
   obtain⟨X,Y,⟨W,Z,Xu⟩,A⟩:=hv;cases m with
   |none=>
    obtain⟨o,u,da,g,x,y,B⟩:=Y1 G s h;have J:=I l (f.setIfInBounds i true) d da (a.put o.dst u) w K z y A x v;exact t_ (W:=W) (a0:=a) g Y V U (λ_ _ h=>h) n f a w (λj L k M O R=>by
     have:=Z o g j L k M O R;refine⟨this.1,?_⟩;rcases this.2 with h|h|⟨w,h, _⟩
     ·exact .inl (by unfold n8;rw[k];exact h)
     ·exact .inr (.inl h)
     ·cases h) Xu X ⟨rfl,rfl⟩ B J
   |some T=>
    obtain⟨o,u,da,p,g,x,y,hp,hu,B⟩:=Ud G s h;have J:=I l (f.setIfInBounds i true) ((T,p)::d) da (a.put o.dst u) w K (λe he=>by
     rcases Ca.1 he with rfl|he
     ·exact hu
     ·exact z e he) y A x v
    exact t_ (W:=W) (a0:=a) (T':=AO ((T,p)::d)) g Y V U (λ_ _ h e he=>h e (NO _ he)) n f a w (λj L k M O R=>by
     have:=Z o g j L k M O R;refine⟨this.1,?_⟩;rcases this.2 with h|h|⟨w,h,hb⟩
     ·exact .inl (by unfold n8;rw[k];exact h)
     ·exact .inr (.inl h)
     ·cases h;exact .inr (.inr λw1 hT=>B w1 (hT (T,p) In hb))) Xu X ⟨rfl,rfl⟩ (B w hp) J
  |alt i l0 t=>
   obtain⟨hri,mD⟩:=hv;intro w' H;refine⟨λhe=>absurd hri (by rw[he];simp),λj k=>?_⟩;obtain⟨l,ko,A⟩:=mD j k;have h:=IN h ko;have h':FH C ops N j env w (λenv w=>(n8 C ops j=true->AO d j w)/\Fv C ops N l d env w K):=by
    cases d with
    |nil=>
     have h:FH C ops N j env w (λenv w=>Fv C ops N l [] env w K):=h
     simp_all[n8,AO,Fv]
    |cons E F=>
     have e:(λ(env:List bO) (w:A2)=>(n8 C ops j=true->AO (E::F) j w)/\Fv C ops N l (E::F) env w K)=λenv w=>Ov C ops j w (E::F) (Fv C ops N l (E::F) env w K):=by
      funext env w;unfold Ov;cases n8 C ops j with
      |true=>exact propext ⟨λh=>p8.2 ⟨h.1 rfl,h.2⟩,λh=>⟨λ_=>(p8.1 h).1,(p8.1 h).2⟩⟩
      |false=>simp
     rw[e];exact h
   refine wpOpIn_mono (λa1 w1 hh=>?_) (DZ G s h' H);obtain⟨hx,da,wr,⟨Xy,x⟩,y,wL⟩:=hh;exact⟨hx,λhe e hm hb=>z e hm wr w1 ((Xy he) e hm hb) wL,nQ (I l _ d da a1 wr K z y A x v) wL⟩
theorem Ue {C:dJ P} (d:Wr S ops) (e:Ou ops=true) (f: ∀c a w,¬ Q (.panic c) a w) (env:List bO) (a:Act) (w:A2) (K:List bO->A2->Prop) (g:Fit S ops N D env a)
 (h:Yr C ops N env w K) (i: ∀env a w w',K env w->Fit S ops N D env a->Ext w w'->Q .normal a w'):
 mm r P ops Q (n8 C ops) (AO []) ops.size (E5 ops.size false) a w:=by
 unfold Yr aah at h;split at h
 ·rename_i l b;have hv:=p9 _ 0 _ l (Am.zero ops) b
  grind[Y3]
 grind
end
variable {P:AH}
def ki (l:List bO):List bO:=
 match l.filter λe=> !e.ch.isEmpty with
 |[]=>l
 |bad=>l.filter λe=>e.ch.isEmpty&& !(bad.any λb=>b.t==e.t)
def plain (l:List bO):Prop:= ∀e∈l,e.ch=[]/\e.g=none
theorem iO {p:bO->Bool}: ∀{l:List bO} {t:Nat} {e:bO},bX (l.filter p) t=some e->(∀x∈l,x.t=t->p x=true)->bX l t=some e
 |x::r,t,e,h,d=>by
  by_cases a:p x=true
  ·simp only[NS,a,if_true,bX] at h;simp only[bX];split
   grind
   ·rename_i b
    simp_all
    exact iO h (by grind)
  ·simp only[NS,a] at h;have c:x.t≠t:=λb=>a (by grind);simp only[bX,c];exact iO h (by grind)
theorem yH: ∀{l:List bO} {t:Nat} {e:bO},bX l t=some e->e.t=t
 |x::r,t,e,h=>by
  simp[bX] at h;split at h
  grind
  ·exact yH h
variable {S:Nat->Option (Option AB)} {N:Nat} {D:List Deferred} {env:List bO} {a:Act}
theorem Fit.PZ {ops ops':Array Oper} (h:Fit S ops N D env a) (b:plain env):Fit S ops' N D env a:=by
 have nil: ∀(o),jZ o a.tmps []:=λo g=>by simp
 refine⟨h.off,h.size,h.qz,λt e c _=>h.yes t e c (by rw[(b e (bT c)).1];grind),λt e c f=>absurd (by rw[(b e (bT c)).1];grind) f,λe d=>?_,h.BM⟩;rw[(b e d).2];exact(b e d).1
theorem A0 {ops ops':Array Oper} (h:Fit S ops N D env a):Fit S ops' N D (ki env) a/\plain (ki env):=by
 have m: ∀e∈env,e.ch=[]->e.g=none:=λe b hc=>by
  have:=h.Fq e b;cases j:e.g with
  |none=>rfl
  |some γ=>rw[j] at this;exact absurd hc this.1
 have nil: ∀(o:Array Oper),jZ o a.tmps []:=λo x f=>by cases f
 have i: ∀e∈ki env,e.ch=[]/\e∈env:=by
  intro e b;unfold ki at b;split at b
  simp_all
  grind
 have k: ∀t e,bX (ki env) t=some e->bX env t=some e:=by
  intro t e b;unfold ki at b;split at b
  ·exact b
  ·rename_i n p;refine iO b λx f q=>?_;have r:=bT b
   grind[yH]
 have d:plain (ki env):=λe b=>⟨(i e b).1,by grind⟩;refine⟨⟨h.off,h.size,h.qz,λt e l _=>h.yes t e (k t e l) (by grind[bT]),by grind[bT],λe c=>?_,λe c=>h.BM e (i e c).2⟩,d⟩;rw[(d e c).2];exact(d e c).1
def jG:Code->Option Nat
 | .region id _ _=>some id
 | .seq a b=>match jG a with
   |some i=>some i
   |none=>jG b
 | .cond _ a b=>match jG a with
   |some i=>some i
   |none=>jG b
 | .block _ b=>jG b
 | .loop b=>jG b
 | _=>none
def TV (ops:Array Oper):List Nat:=ops.toList.filterMap (·.dst)
def writes:Code->List Nat
 | .region _ ops _=>TV ops
 | .seq a b=>writes a++writes b
 | .cond _ a b=>writes a++writes b
 | .block _ b=>writes b
 | .loop b=>writes b
 | _=>[]
abbrev aZ:=List (Nat×El)
def kV:(l:aZ)->oy (l.map (·.2))->List bO
 |[], _=>[]
 |(t,s)::r,x=>⟨t,[],none,s.gK x.1,none⟩::kV r x.2
def oR:(l:aZ)->List bO->Option (oy (l.map (·.2)))
 |[], _=>some ()
 |(t,s)::r,env=>match bX env t with
  |some e=>match s.proj e.v,oR r env with
   |some x,some y=>some (x,y)
   | _, _=>none
  |none=>none
def WX (op:Op):Bool:=match op with
 | .send .. | .select .. =>true
 | _=>false
def aaP (ops:Array Oper):Bool:=ops.toList.any λo=>WX o.op
def l5 (n k:Nat):Array Bool:=⟨(B3 n).map λi=>F4 i k⟩
def TW (ops:Array Oper):Bool:=(B3 ops.size).all λk=>B2 .any ops (l5 ops.size k)==[k]
theorem EW {n k:Nat} (h:k<n):(l5 n k).setIfInBounds k true=l5 n (k+1):=by
 simp[l5];apply List.ext_getElem
 ·simp
 ·intro i a;rw[List.getElem_set];simp only[List.getElem_map,List.getElem_range];split
  ·subst_vars
   simp
  ·rw[Bool.eq_iff_iff,Nat.blt_eq,Nat.blt_eq];omega
theorem IP {ops:Array Oper} (h:TW ops=true): ∀(fuel t k:Nat) (a:List Nat),k+fuel=ops.size->Fh .any ops fuel t (l5 ops.size k) a=a.reverse++Gi k fuel
 |0,t,k,a, _=>by simp[Fh]
 |fuel+1,t,k,a,c=>by
  have b:=by
   simp[TW] at h;exact h k (by omega)
  change (match (B2 .any ops _)[t % (B2 .any ops _).length]? with
   |some i=>Fh .any ops fuel _ _ _
   |none=>a.reverse)= _
  rw[b];simp[Nat.mod_one,GJ];rw[EW (by omega),IP h fuel _ _ _ (by omega)];simp[J1]
def CmR (P:AH) (o:Oper) (a:Act) (w:A2) (v:AB) (w':A2):Prop:=
 ∃cases bl sh,(execOp a.eval o).run P w= .ok (.comm cases bl sh) w/\
  ∀fr cs es,stepG P true (IR fr cs) w= .comm (IR fr cs) cases bl sh w es->step P (T6 (IR fr cs) w)= .next (T6 (IR (fr.finish v) cs) w')
def Tm (P:AH) (ops:Array Oper) (Q:Act->A2->Prop):List Nat->Act->A2->Prop
 |[],a,w=>Q a w
 |i::l,a,w=> ∃o,ops[i]? =some o/\BO o (yielded ops a.tmps)=true/\(∀c,o.op≠ .defer c)/\
  ∃v w',((execOp a.eval o).run P w= .ok (.value v) w'\/CmR P o a w v w')/\Tm P ops Q l (a.put o.dst v) w'
theorem D5 {ops:Array Oper} {Q b:Act->A2->Prop} (c: ∀a w,Q a w->b a w): ∀(l:List Nat) (a:Act) (w:A2),Tm P ops Q l a w->Tm P ops b l a w
 |[],a,w,h=>c a w h
 |i::l,a,w,h=>by
  obtain⟨o,d,e,f,v,w',g,j⟩:=h;exact⟨o,d,e,f,v,w',g,D5 c l _ _ j⟩
theorem mY {r:Option Nat} {ops:Array Oper} {Q:Act->A2->Prop}: ∀(l:List Nat) (a:Act) (w:A2),Tm P ops Q l a w-> ∀(b:Frame) (k:List Item) (cs:List Frame),
 ∃a' w',Q a' w'/\StepsIn (Machine.fenced P (WF r)) P (lone (b.atR a (.inRegion ops l::k)) cs w) (lone (b.atR a' k) cs w')
 |[],a,w,h,b,k,cs=>⟨a,w,h,.one (fenced_calm (n:=0) (WU r _) (IL r _) rfl) stepR_region_end⟩
 |i::l,a,w,h,b,k,cs=>by
  obtain⟨o,c,j,m,v,w',p,q⟩:=h;obtain⟨a',s,t,u⟩:=mY l _ _ q b k cs;have d:=stepGR_op (P:=P) (b:=b) (k:=k) (cs:=cs) (w:=w) (rest:=l) c j;rw[Oper.semAt_eq _ _ _ m] at d;have f:(b.atR a (.inRegion ops (i::l)::k)).finish v=b.atR (a.put o.dst v) (.inRegion ops l::k):=by rw[Frame.finish_atR,c];rfl
  have h0:(lone (b.atR a (.inRegion ops (i::l)::k)) cs w).fenced P (WF r):=fenced_oper (n:=0) (WU r _) (IL r _) c (λ_ _=>trivial);refine⟨a',s,t,.head h0 ?_ u⟩;rcases p with e|⟨g,bl,sh,e,hc⟩
  ·refine step_lone_go ?_;rw[d, <-f];simp[stepG.apply,e]
  ·rw[<-f];have key: ∀x:Sem Next,x.run P w= .ok (.comm g bl sh) w-> ∃es,stepG.apply P true (b.atR a (.inRegion ops (i::l)::k)) cs none x w= .comm _ g bl sh w es:=λx y=>by
    simp only[stepG.apply,Sem.runT_eq,y,GStep.after];exact⟨_,rfl⟩
   obtain⟨es,z⟩:=key _ e;exact hc _ _ es (d.trans z)
theorem Ay {r:Option Nat} {id:Nat} {ops:Array Oper} {d:Bool} {Q:Exit->Act->A2->Prop} {a:Act} {w:A2} (j:P.follows .mixedOrders=true) (l:TW ops=true)
 (h: ∀w',Ext w w'->Tm P ops (Q .normal) (B3 ops.size) a w'):(Code.region id ops d).wpIn (WF r) 0 P Q a w:=by
 intro b k cs _ hb f;cases d with
 |false=>
  obtain⟨a',w',c,g⟩:=mY _ _ _ (h w (Ext.refl w)) b k cs;exact⟨.normal,a',w',c,StepsIn.head (fenced_calm hb f rfl) stepR_region g⟩
 |true=>
  obtain⟨a',w',c,g⟩:=mY (r:=r) _ _ _ (h _ (Ext.drew w)) b k cs;refine⟨.normal,a',w',c,StepsIn.head (fenced_calm hb f rfl) (stepR_region_draw) ?_⟩;have e: ∀t,GH (P.follows .mixedOrders) ops t=B3 ops.size:=λt=>by
   simp only[GH,j,NA];have m:E5 ops.size false=l5 ops.size 0:=by
    apply Array.ext
    ·simp[l5]
    ·have: ∀i,F4 i 0=false:=λi=>by rfl
     simp[l5,this]
   grind[IP,Nv]
  grind
def Ir (op:Op):Bool:=match op with
 | .load .. | .fieldAddr .. | .indexAddr .. | .build .. | .field .. | .extract .. | .binOp .. | .move _| .assign _| .convert .. =>true
 | _=>false
theorem P0 {s:Sem AB} {f:B1} {args:Array AB} {w w':A2} (h:(do pure (Next.value (<-s)):Sem Next).run P w= .ok (.enter f args) w'):False:=by
 cases a:s.run P w with
 |ok
 |halt=>simp_all
theorem A1 {o:Oper} {a:Act} {w:A2} {v:AB} (h:Ir o.op=true) (d:dn P o a w v):(execOp a.eval o).run P w= .ok (.value v) w/\ ∀c,o.op≠ .defer c:=by
 obtain⟨dst,op,type,pos,after,guard⟩:=o;have e: ∀f args w',(execOp a.eval ⟨dst,op,type,pos,after,guard⟩).run P w≠ .ok (.enter f args) w':=λf args w' b=>by
  cases op<;>simp[Ir,E4] at h<;>first|exact P0 b|(simp[execOp] at b;done)
 refine⟨?_,λc hc=>by subst hc;cases h⟩
 grind[dn]
def cop (P:AH) (ρ:Operand->Option AB) (op:Op) (w:A2) (K:AB->A2->Prop):Prop:=match op with
 | .send ch x=>match ρ ch,ρ x with
   |some (.chan p),some v=> ∀w1,Ext w w1-> ∃r cap a s m,p=some r/\ChO w1 r cap a s m/\a.length<cap/\K undef (w1.putObj r (.chan cap ⟨a++[v]⟩ false (s+1) m false))
   | _, _=>dw 130 op
 | .select cs bl=>match bl,cs.toList with
   |false,[c]=>match c.send,ρ c.chan,P.info? c.elem,uR P c.elem with
    |none,some (.chan p),some i,some el=>match i.zero with
     |some z=> ∀w1,Ext w w1-> ∃r cap a s m,p=some r/\ChO w1 r cap a s m/\(a=[]->K (.tuple ⟨[.int .i64 (-1),.bool false,z]⟩) w1)/\
      ∀v vs,a=v::vs-> ∃x:el.T,v=el.gK x/\K (.tuple ⟨[.int .i64 0,.bool true,el.gK x]⟩) (w1.putObj r (.chan cap ⟨vs⟩ false s (m+1) false))
     |none=>dw 131 op
    | _, _, _, _=>dw 132 op
   | _, _=>dw 133 op
 | _=>dw 134 op
theorem zp (w:A2) (r cap:Nat) (a:Array AB) (cl:Bool) (s m:Nat) (b:Bool):w.setChan r cap a cl s m b=w.putObj r (.chan cap a cl s m b):=rfl
theorem OY {ρ:Operand->Option AB} {a:Act} (d: ∀x v,ρ x=some v->a.eval x=v) {o:Oper} {w w':A2} {K:AB->A2->Prop} (h:cop P ρ o.op w K) (g:Ext w w'):
 (∀c,o.op≠ .defer c)/\ ∃v j,CmR P o a w' v j/\K v j:=by
 obtain⟨dst,op,type,pos,after,guard⟩:=o;unfold cop at h;simp only at h;split at h
 ·rename_i ch x;refine⟨λc hc=>(by cases hc),?_⟩;split at h
  ·rename_i p v e hv;obtain⟨r,cap,k,s,m,rfl,hc,l,f⟩:=h w' g;refine⟨_, _,⟨_, _, _,(by simp only[execOp,d _ _ e,d _ _ hv];rfl),λfr cs es b=>?_⟩,f⟩;have:=Go.Conc.step_lone_send_room (z':= .tuple #[]) b hc (by simpa using l);rw[this,zp];simp
  ·exact h.elim
 ·rename_i cs bl;refine⟨λc hc=>(by cases hc),?_⟩;split at h
  ·rename_i c fj;split at h
   ·rename_i p i el n e hi y;split at h
    ·rename_i z q;obtain⟨r,cap,k,s,m,rfl,hc,h0,h1⟩:=h w' g;have t:cs= #[c]:=by cases cs;simp_all
     have dR:(execOp a.eval ⟨dst,.select cs false,type,pos,after,guard⟩).run P w'= .ok (.comm #[TA r z] false .select) w':=by
      subst t;have u:(zeroValue c.elem).run P w'= .ok z w':=by simp[zeroValue,fD hi,q]
      simp[execOp,n,d _ _ e,u,TA]
     cases k with
     |nil=>exact⟨_, _,⟨_, _, _,dR,λfr cs es b=>Go.Conc.step_lone_select_default b hc⟩,h0 rfl⟩
     |cons v vs=>
      obtain⟨x,rfl,f⟩:=h1 v vs rfl;refine⟨_, _,⟨_, _, _,dR,λfr cs es b=>?_⟩,f⟩;have:=Go.Conc.step_lone_select_recv_buf b hc (by simp);rw[this,zp];simp[goInt]
    ·exact h.elim
   ·exact h.elim
  ·exact h.elim
 ·exact h.elim
def rxC (C:dJ P) (ops:Array Oper) (N:Nat):List Nat->List bO->A2->(List bO->A2->Prop)->Prop
 |[],env,w,K=>K env w
 |i::r,env,w,K=>match ops[i]? with
  |none=>False
  |some ⟨dst,op,type,pos,after,guard⟩=>match guard with
   |some _=>dw 135 op
   |none=>if oP ops N env [] dst then match WX op with
     |true=>cop P (xQ env []) op w (λv a=>wU env dst [] none v (λenv=>rxC C ops N r env a K))
     |false=>if Ir op then oF C ops env [] none ⟨dst,op,type,pos,after,none⟩ w (λv=>wU env dst [] none v (λenv=>rxC C ops N r env w K)) else dw 136 op
    else dw 137 op
theorem F9 {ops:Array Oper} {C:dJ P} (f:Wr S ops): ∀(l:List Nat) (env:List bO) (a:Act) (w w':A2) (K:List bO->A2->Prop),Fit S ops N D env a->rxC C ops N l env w K->Ext w w'->
 Tm P ops (λa1 w1=> ∃da j,K da j/\Fit S ops N D da a1/\Ext j w1) l a w'
 |[],env,a,w,w',K,b,h,c=>⟨env,w,h,b,c⟩
 |i::l,env,a,w,w',K,b,h,c=>by
  unfold rxC at h;split at h
  ·exact h.elim
  ·rename_i dst op type pos after guard k;have n:=f _ (JU k);split at h
   ·exact h.elim
   ·split at h
    ·rename_i p;have m: ∀v,Fit S ops N D (l9 env dst [] none v) (a.put dst v):=λv=>b.put p n rfl (λ_=>rfl) (λd=>absurd eH d);refine⟨_,k,(by simp[BO]),?_⟩;split at h
     ·obtain⟨d,v,q,hc,e⟩:=OY (o:=⟨dst,op,type,pos,after,none⟩) (a:=a) (λx v r=>b.ev eH r) h c;rw[nE] at e;exact⟨d,v,q,.inr hc,F9 f l _ _ _ _ K (m v) e (Ext.refl _)⟩
     ·split at h
      ·rename_i s;obtain⟨v,e,t⟩:=yF (g:=none) b rfl h;obtain⟨u,d⟩:=A1 s (t eH w' c);rw[nE] at e;exact⟨d,v,w',.inl u,F9 f l _ _ _ _ K (m v) e c⟩
      ·exact h.elim
    ·exact h.elim
def nr (o:Oper):List Nat:=(o.after.toList.filter λe=>DH .any e).map (·.on)
def F_ (o:Oper):List Nat:=o.op.operands.toList.filterMap λ| .tmp t=>some t| _=>none
def aaR (op:Op):Bool:=match op with
 | .select .. =>true
 | _=>false
def WY (ops:Array Oper) (i:Nat):Bool:=match ops[i]? with
 |none=>false
 |some o=>o.guard.isNone&& !aaR o.op&&((F_ o).all λt=>(B3 ops.size).all λj=>dF ops j != some t||(nr o).contains j)&&((nr o).all λj=>F4 j i)&&
  (o.dst.isNone||(B3 i).all λj=>dF ops j != o.dst)&&(Nat.beq (i+1) ops.size||(B3 ops.size).any λk=>F4 i k&&match ops[k]? with
   |some x=>(nr x).contains i
   |none=>false)
def FJ (ops:Array Oper):Bool:=(B3 ops.size).all (WY ops)
def wpS (P:AH) (ops:Array Oper) (Q:Act->A2->Prop):List Nat->Act->A2->Prop
 |[], _, _=>False
 |[i],a,w=> ∃o,ops[i]? =some o/\(∀c,o.op≠ .defer c)/\ ∃v w',CmR P o a w v w'/\Q (a.put o.dst v) w'
 |i::j::l,a,w=> ∃o,ops[i]? =some o/\(∀c,o.op≠ .defer c)/\ ∃v,(execOp a.eval o).run P w= .ok (.value v) w/\wpS P ops Q (j::l) (a.put o.dst v) w
theorem D6 {ops:Array Oper} {Q d:Act->A2->Prop} (e: ∀a w,Q a w->d a w): ∀(l:List Nat) (a:Act) (w:A2),wpS P ops Q l a w->wpS P ops d l a w
 |[i],a,w,h=>by
  obtain⟨o,b,c,v,w',hc,h⟩:=h;exact⟨o,b,c,v,w',hc,e _ _ h⟩
 |i::j::l,a,w,h=>by
  obtain⟨o,b,c,v,f,h⟩:=h;exact⟨o,b,c,v,f,D6 e _ _ _ h⟩
def C6 (ops:Array Oper) (a:Act) (v:Nat->AB) (k:Nat):Nat->Act
 |0=>a
 |i+1=>(C6 ops a v k i).put (dF ops (k+i)) (v i)
theorem A3 {ops:Array Oper} {a:Act} {v:Nat->AB} {k:Nat}: ∀i,C6 ops (a.put (dF ops k) (v 0)) (λj=>v (j+1)) (k+1) i=C6 ops a v k (i+1)
 |0=>rfl
 |i+1=>by
  show(C6 ops _ _ _ i).put _ _=(C6 ops a v k _).put _ _;rw[A3,show k+1+i=k+(i+1) by omega]
theorem F' {ops:Array Oper} {i:Nat} {o:Oper} (h:ops[i]? =some o):dF ops i=o.dst:=by grind[dF]
theorem IQ {ops:Array Oper} {Q:Act->A2->Prop} {w:A2}: ∀(d k:Nat) (a:Act),wpS P ops Q (Gi k (d+1)) a w->
 ∃(v:Nat->AB),(∀i,i<d-> ∃o,ops[k+i]? =some o/\(∀c,o.op≠ .defer c)/\(execOp (C6 ops a v k i).eval o).run P w= .ok (.value (v i)) w)/\
  ∃o,ops[k+d]? =some o/\(∀c,o.op≠ .defer c)/\ ∃u w',CmR P o (C6 ops a v k d) w u w'/\Q ((C6 ops a v k d).put o.dst u) w'
 |0,k,a,h=>by
  obtain⟨o,h1,f,u,w',b,l⟩:=h;exact⟨λ_=>undef,by grind,o,h1,f,u,w',b,l⟩
 |d+1,k,a,h=>by
  rw[J1] at h;have e:Gi (k+1) (d+1)=(k+1)::Gi (k+1+1) d:=J1;rw[e] at h;obtain⟨o,h1,m,g,f,b⟩:=h;rw[<-e] at b;obtain⟨v,q,n,r,p,u,w',k4,k5⟩:=IQ d (k+1) _ b
  let j:Nat->AB:=λi=>match i with
   |0=>g
   |i+1=>v i
  have sh: ∀i,C6 ops (a.put o.dst g) v (k+1) i=C6 ops a j k (i+1):=λi=>by
   rw[<-A3,F' h1]
  refine⟨j,λi hi=>?_,n,by grind,p,u,w',?_,?_⟩
  ·cases i with
   |zero=>exact⟨o,h1,m,f⟩
   |succ i=>
    grind
  ·rw[<-sh d];exact k4
  ·rw[<-sh d];exact k5
structure SR (ops:Array Oper) (m:Nat) (v:Nat->AB) (a:Act) (S:Nat->Prop) (b:Act):Prop where
 df:b.defers=a.defers
 sz:b.tmps.size=a.tmps.size
 yes: ∀j t,j<m->S j->dF ops j=some t->b.tmps[t]? =if t<a.tmps.size then some (v j) else none
 no: ∀t,(∀j,j<m->S j->dF ops j≠some t)->b.tmps[t]? =a.tmps[t]?
theorem SR.step {ops:Array Oper} {m:Nat} {v:Nat->AB} {a b:Act} {S S':Nat->Prop} (h:SR ops m v a S b) {i:Nat} (hi:i<m) (l: ∀j,S' j<->S j\/j=i) (o: ∀j t,j<m->dF ops j=some t->dF ops i=some t->j=i):SR ops m v a S' (b.put (dF ops i) (v i)):=by
 cases n:dF ops i with
 |none=>
  refine⟨h.df,h.sz,λj t k f g=>?_,λt g=>h.no t (by grind)⟩;rcases(l j).1 f with f|rfl
  ·exact h.yes j t k f g
  grind
 |some d=>
  have p:(b.put (some d) (v i)).tmps.size=a.tmps.size:=by simp[C5,h.sz]
  refine⟨h.df,p,λj t k f g=>?_,λt g=>?_⟩
  ·by_cases e:t=d
   ·subst e;have:j=i:=o j t k g n;subst this;simp only[C5];rw[Array.getElem?_setIfInBounds];simp[h.sz]
   ·rcases(l j).1 f with f|rfl
    ·have:(b.put (some d) (v i)).tmps[t]? =b.tmps[t]? :=by simp[C5,DE (λc=>e c.symm)]
     rw[this];exact h.yes j t k f g
    grind
  ·have q:d≠t:=λe=>g i hi ((l i).2 (.inr rfl)) (by rw[n,e]);have:(b.put (some d) (v i)).tmps[t]? =b.tmps[t]? :=by simp[C5,DE q]
   rw[this];exact h.no t (by grind)
theorem SR.eq {ops:Array Oper} {m:Nat} {v:Nat->AB} {a b c:Act} {S T:Nat->Prop} (h:SR ops m v a S b) (k:SR ops m v a T c) (i: ∀j,j<m->(S j<->T j)):b=c:=by
 have:=by
  apply J_;apply List.ext_getElem?;intro t;have e:b.tmps[t]? =c.tmps[t]? :=by
   by_cases l: ∃j,j<m/\S j/\dF ops j=some t
   ·obtain⟨j,d,f,g⟩:=l;rw[h.yes j t d f g,k.yes j t d ((i j d).1 f) g]
   ·rw[h.no t (by grind),k.no t (by grind)]
  simpa
 cases b;cases c;have h1:=h.df.trans k.df.symm
 grind
theorem fA {ops:Array Oper} (a:FJ ops=true) {i:Nat} {o:Oper} (d:ops[i]? =some o):
 o.guard=none/\(∀cs b,o.op≠ .select cs b)/\(∀t∈F_ o, ∀j,j<ops.size->dF ops j=some t->j∈nr o)/\(∀j∈nr o,j<i)/\(∀j t,j<i->dF ops j=some t->dF ops i≠some t)/\
  (i+1=ops.size\/ ∃k x,i<k/\ops[k]? =some x/\i∈nr x):=by
 have hi:=(BX.1 d).1;unfold FJ at a;rw[Dh] at a;have h:=a i (Dl.2 hi);unfold WY at h;rw[d] at h;simp at h;obtain⟨⟨⟨⟨⟨h1,f⟩,l⟩,g⟩,m⟩,n⟩:=h;refine⟨h1,λcs b e=>(by rw[e] at f;cases f),by grind,g,λj t p q c=>?_,?_⟩
 ·grind[F']
 grind
theorem A4 {ops:Array Oper} {a:Array Bool} (d:a.size=ops.size) {i:Nat}:i∈B2 .any ops a<-> ∃o,ops[i]? =some o/\a.getD i false=false/\ ∀j∈nr o,a.getD j false=true:=by
 have c:i<ops.size->(a.getD i true=a.getD i false):=λh=>by simp[JQ,d,h]
 unfold B2;rw[Bs,Dl];constructor
 ·rintro⟨hi,hc⟩;obtain⟨o,b⟩: ∃o,ops[i]? =some o:=⟨_,JS hi⟩;rw[b,c hi] at hc;simp only[GG,IE,B5,H4,H5] at hc;refine⟨o,b,hc.1,λj f=>?_⟩;obtain⟨e,g,rfl⟩:=GI.1 f
  grind
 ·rintro⟨o,b,h1,k⟩;have hi:i<ops.size:=(BX.1 b).1;refine⟨hi,?_⟩;rw[b,c hi];simp only[GG,IE,B5,H4,H5,Ft];refine⟨h1,λe g=>?_⟩;by_cases hb:DH .any e=true
  ·exact .inr (k e.on (GI.2 (by grind)))
  grind
theorem yR {l:Array Bool} {i j:Nat} (hi:i<l.size):(l.setIfInBounds i true).getD j false=true<->l.getD j false=true\/j=i:=by
 by_cases j=i
 simp_all
 ·simp
  grind
theorem Uf {ops:Array Oper} {Q:Act->A2->Prop} {a:Act} {w:A2} (z:FJ ops=true) {m:Nat} (hm:ops.size=m+1) (h:wpS P ops Q (B3 (m+1)) a w):
 ∀(s t:Nat) (f:Array Bool) (b:Act),f.size=ops.size->(B3 ops.size).countP (λj=> !f.getD j false)=s->f.getD m false=false->
  (∀i o,ops[i]? =some o->f.getD i false=true-> ∀j∈nr o,f.getD j false=true)->
  (∃v:Nat->AB,(∀i,i<m-> ∃o,ops[i]? =some o/\(∀c,o.op≠ .defer c)/\(execOp (C6 ops a v 0 i).eval o).run P w= .ok (.value (v i)) w)/\
   (∃o,ops[m]? =some o/\(∀c,o.op≠ .defer c)/\ ∃u w',CmR P o (C6 ops a v 0 m) w u w'/\Q ((C6 ops a v 0 m).put o.dst u) w')/\SR ops m v a (λj=>f.getD j false=true) b)->
  Tm P ops Q (Fh .any ops s t f []) b w:=by
 intro s
 induction s with
 |zero=>
  intro t f b y hc B _ _;exfalso;rw[O2] at hc;have:=hc m (Dl.2 (by omega));rw[B] at this;exact this rfl
 |succ s ih=>
  intro t f b y hc B T J;obtain⟨v,hv,⟨K,C,U,u,w',V,W⟩,E⟩:=J;have X: ∀i j t,i<m->j<m->dF ops i=some t->dF ops j=some t->j=i:=λi j t hi g h1 p=>by
   obtain⟨oi,l, _⟩:=hv i hi;obtain⟨oj,F, _⟩:=hv j g;rcases Nat.lt_trichotomy i j with q|q|q
   ·exact absurd p ((fA z F).2.2.2.2.1 i t q h1)
   ·exact q.symm
   ·exact absurd h1 ((fA z l).2.2.2.2.1 j t q p)
  have L: ∀k,k<=m->SR ops m v a (λj=>j<k) (C6 ops a v 0 k):=by
   intro k
   induction k with
   |zero=>exact λ_=>⟨rfl,rfl,λj t _ hs=>absurd hs (Nat.not_lt_zero _),λt _=>rfl⟩
   |succ k M=>
    intro r;have:=(M (by omega)).step (S':=λj=>j<k+1) (i:=k) (by omega) (λj=>by omega) (λj t g h1 p=>X k j t (by omega) g p h1);show SR ops m v a _ ((C6 ops a v 0 k).put (dF ops (0+k)) (v k));rw[JW];exact this
  have same: ∀i o,ops[i]? =some o->i<=m->(∀j∈nr o,f.getD j false=true)->execOp b.eval o=execOp (C6 ops a v 0 i).eval o:=λi o l hi D=>by
   obtain⟨_,hns,JR,Y, _, _⟩:=fA z l;refine execOp_congr o hns λx J=>?_;cases x with
   |tmp t=>
    have ht:t∈F_ o:=List.mem_filterMap.2 ⟨.tmp t,by simpa using J,rfl⟩;have key:b.tmps[t]? =(C6 ops a v 0 i).tmps[t]? :=by
     by_cases g: ∃j,j<ops.size/\dF ops j=some t
     ·obtain⟨j,Z,N⟩:=g;have G:=JR t ht j Z N;have O:=Y j G;rw[E.yes j t (by omega) (D j G) N,(L i hi).yes j t (by omega) O N]
     ·rw[E.no t λj Aa _ R=>g ⟨j,by omega,R⟩,(L i hi).no t λj Aa _ R=>g ⟨j,by omega,R⟩]
    simp only[Fx,Fw,key]
   | _=>rfl
  have wt: ∀i o,ops[i]? =some o-> ∀c:Act,BO o (yielded ops c.tmps)=true:=λi o l c=>by
   unfold BO;rw[(fA z l).1]
  simp only[Fh];change Tm P ops Q (match (B2 .any ops f)[t % (B2 .any ops f).length]? with
   |some i=>Fh .any ops s (t / (B2 .any ops f).length) (f.setIfInBounds i true) [i]
   |none=>[].reverse) b w
  cases hi:(B2 .any ops f)[t % (B2 .any ops f).length]? with
  |none=>
   exfalso;have FI:B2 .any ops f=[]:=by
    cases hr:B2 .any ops f with
    |nil=>rfl
    |cons x xs=>
     rw[hr] at hi;have Y:t % (x::xs).length<(x::xs).length:=Nat.mod_lt _ (by simp);rw[List.getElem?_eq_none_iff] at hi;omega
   have least: ∀k,k<=m->(∀j,j<k->f.getD j false=true)->f.getD k false=true:=λk r g=>by
    cases A:f.getD k false with
    |true=>rfl
    |false=>
     exfalso;obtain⟨o,l⟩: ∃o,ops[k]? =some o:=⟨_,JS (by omega)⟩;have:k∈B2 .any ops f:=(A4 y).2 ⟨o,l,A,λj G=>g j ((fA z l).2.2.2.1 j G)⟩;rw[FI] at this;cases this
   have all: ∀k,k<=m->f.getD k false=true:=by
    intro k
    induction k using K1 with
    | _ k M=>exact λr=>least k r λj g=>M j g (by omega)
   rw[all m (Db _)] at B;cases B
  |some i=>
   simp only[];rw[linearise_go_acc,List.reverse_singleton,List.singleton_append];have hir:=List.mem_of_getElem? hi;obtain⟨o,l,mA,D⟩:=(A4 y).1 hir;have H:i<ops.size:=(BX.1 l).1;by_cases him:i=m
   ·subst him;rw[C] at l;cases l;have all: ∀d k,k+d=i->k<i->f.getD k false=true:=by
     intro d
     induction d using K1 with
     | _ d ihd=>
       intro k r hki;obtain⟨ok,jz, _⟩:=hv k hki;rcases(fA z jz).2.2.2.2.2 with q|⟨j,x,hkj,I,uT⟩
       ·omega
       ·have Z:j<ops.size:=(BX.1 I).1;by_cases O:j=i
        ·subst O;rw[C] at I;cases I;exact D k uT
        ·exact T j x I (ihd (i - j) (by omega) j (by omega) (by omega)) k uT
    have heq:b=C6 ops a v 0 i:=E.eq (L i (Db _)) λj g=>⟨λ_=>g,λ_=>all (i - j) j (by omega) g⟩;have hf:s=0:=by
     have h1:(B3 ops.size).countP (λj=> !f.getD j false)<=1:=by
      rw[hm,OX,J3];have:(B3 i).countP (λj=> !f.getD j false)=0:=O2.2 λj g=>by
       rw[all (i - j) j (by have:=Dl.1 g;omega) (Dl.1 g)];decide
      rw[this];exact Nat.le_trans (by rw[JW];exact List.countP_le_length) (Db 1)
     omega
    subst hf;refine⟨K,C,wt i K C b,U,u,w',.inr ?_,?_⟩
    ·rw[heq];exact V
    ·rw[heq];exact W
   ·have S:i<m:=by omega
    obtain⟨o',F,hn,dR⟩:=hv i S;rw[l] at F;cases F;refine⟨o,l,wt i o l b,hn,v i,w,.inl (by rw[same i o l (by omega) D];exact dR),?_⟩;have NM:(f.setIfInBounds i true).size=ops.size:=by simp[y]
    refine ih _ _ _ NM ?_ ?_ ?_ ⟨v,hv,⟨K,C,U,u,w',V,W⟩,?_⟩
    ·
     have Y4: ∀n,i<n->(B3 n).countP (λj=> !f.getD j false)=(B3 n).countP (λj=> !(f.setIfInBounds i true).getD j false)+1:=by
      intro n
      induction n with
      |zero=>intro h;omega
      |succ n ihn=>
       intro ko;rw[OX,J3,J3];by_cases e:i=n
       ·subst e;have h1:(B3 i).countP (λj=> !(f.setIfInBounds i true).getD j false)=(B3 i).countP (λj=> !f.getD j false):=by
         refine List.countP_congr λj g=>?_;have g:=Dl.1 g;have:(f.setIfInBounds i true).getD j false=f.getD j false:=by
          simp only[Fw];rw[DE (by omega)]
         rw[this]
        have p:(f.setIfInBounds i true).getD i false=true:=(yR (by rw[y];exact H)).2 (.inr rfl);rw[h1,Gj,Gj,p,mA];rfl
       ·have p:(f.setIfInBounds i true).getD n false=f.getD n false:=by
         simp only[Fw];rw[DE e]
        rw[ihn (by omega),Gj,Gj,p];omega
     have:=Y4 ops.size H;omega
    ·have:(f.setIfInBounds i true).getD m false=f.getD m false:=by
      simp only[Fw];rw[DE him]
     rw[this];exact B
    ·intro k x r A j g;rw[yR (by rw[y];exact H)] at A ⊢;rcases A with A|rfl
     ·exact .inl (T k x r A j g)
     ·rw[l] at r;cases r;exact .inl (D j g)
    ·have:=E.step (S':=λj=>(f.setIfInBounds i true).getD j false=true) S (λj=>yR (by rw[y];exact H)) (λj t g h1 p=>X i j t S g p h1);rw[F' l] at this;exact this
theorem W6 {ops:Array Oper} {Q:Act->A2->Prop} (c:FJ ops=true) {w:A2}: ∀(l:List Nat) (a:Act),wpS P ops Q l a w->Tm P ops Q l a w
 |[i],a,h=>by
  obtain⟨o,b,d,v,w',hc,e⟩:=h;exact⟨o,b,by unfold BO;rw[(fA c b).1],d,v,w',.inr hc,e⟩
 |i::j::l,a,h=>by
  obtain⟨o,b,d,v,f,g⟩:=h;exact⟨o,b,by unfold BO;rw[(fA c b).1],d,v,w,.inl f,W6 c _ _ g⟩
theorem Az {r:Option Nat} {id:Nat} {ops:Array Oper} {f:Bool} {Q:Exit->Act->A2->Prop} {a:Act} {w:A2} (s:P.follows .mixedOrders=true) (g:FJ ops=true) (h0:0<ops.size)
 (h: ∀w',Ext w w'->wpS P ops (Q .normal) (B3 ops.size) a w'):(Code.region id ops f).wpIn (WF r) 0 P Q a w:=by
 intro b k cs _ hb l;cases f with
 |false=>
  obtain⟨a',w',c,d⟩:=mY (r:=r) _ _ _ (W6 g _ _ (h w (Ext.refl w))) b k cs;exact⟨.normal,a',w',c,StepsIn.head (fenced_calm hb l rfl) stepR_region d⟩
 |true=>
  have e:=h _ (Ext.drew w);obtain⟨m,n⟩: ∃m,ops.size=m+1:=⟨ops.size - 1,by omega⟩;have key: ∀t,Tm P ops (Q .normal) (GH (P.follows .mixedOrders) ops t) a {w with drawn:=w.drawn+1}:=λt=>by
   simp only[GH,s,Bool.true_or,if_true,NA];rw[n] at e;have x:=IQ m 0 a (by rw[<-Nv];exact e);obtain⟨v,hv,o,A,y,u,w',hc,c⟩:=x;have p: ∀j,(E5 ops.size false).getD j false=false:=λj=>by
    by_cases z:j<ops.size<;>simp[JQ,z]
   refine Uf g n e ops.size t _ a (by simp) ?_ (p m) (λi o _ q=>by rw[p] at q;cases q) ⟨v,λi hi=>?_,⟨o,?_,y,u,w',hc,c⟩,⟨rfl,rfl,by simp_all,λt _=>rfl⟩⟩
   simp_all
   grind
   grind
  obtain⟨a',w',c,d⟩:=mY (r:=r) _ _ _ (key _) b k cs;exact⟨.normal,a',w',c,StepsIn.head (fenced_calm hb l rfl) (stepR_region_draw) d⟩
def rxP (C:dJ P) (ops:Array Oper) (N:Nat):List Nat->List bO->A2->(List bO->A2->Prop)->Prop
 |[], _, _, _=>False
 |i::r,env,w,K=>match ops[i]? with
  |none=>False
  |some ⟨dst,op,type,pos,after, _⟩=>if oP ops N env [] dst then match r with
    |[]=>cop P (xQ env []) op w (λv a=>wU env dst [] none v (λenv=>K env a))
    |j::l=>if Ir op then oF C ops env [] none ⟨dst,op,type,pos,after,none⟩ w (λv=>wU env dst [] none v (λenv=>rxP C ops N (j::l) env w K)) else dw 138 op
   else dw 139 op
theorem OZ {ops:Array Oper} {C:dJ P} (k:FJ ops=true) (m:Wr S ops): ∀(l:List Nat) (env:List bO) (a:Act) (w w':A2) (K:List bO->A2->Prop),Fit S ops N D env a->rxP C ops N l env w K->Ext w w'->
 wpS P ops (λa1 w1=> ∃da n,K da n/\Fit S ops N D da a1/\Ext n w1) l a w'
 |[], _, _, _, _, _, _,h, _=>h.elim
 |i::r,env,a,w,w',K,e,h,f=>by
  unfold rxP at h;split at h
  ·exact h.elim
  ·rename_i dst op type pos after guard d;have s:=m _ (JU d);have t:guard=none:=(fA k d).1;subst t;split at h
   ·rename_i u;have p: ∀v,Fit S ops N D (l9 env dst [] none v) (a.put dst v):=λv=>e.put u s rfl (λ_=>rfl) (λb=>absurd eH b);split at h
    ·obtain⟨b,v,q,hc,c⟩:=OY (o:=⟨dst,op,type,pos,after,none⟩) (a:=a) (λx v y=>e.ev eH y) h f;rw[nE] at c;exact⟨_,d,b,v,q,hc, _,q,c,p v,Ext.refl _⟩
    ·rename_i j l;split at h
     ·rename_i z;obtain⟨v,c,A⟩:=yF (g:=none) e rfl h;obtain⟨B,b⟩:=A1 (o:=⟨dst,op,type,pos,after,none⟩) z (A eH w' f);rw[nE] at c;exact⟨_,d,b,v,B,OZ k m (j::l) _ _ _ _ K (p v) c f⟩
     ·exact h.elim
   ·exact h.elim
def Ox (C:dJ P) (N:Nat) (ops:Array Oper) (a:Bool) (env:List bO) (w:A2) (K:List bO->A2->Prop):Prop:=
 if aaP ops then
  if TW ops then rxC C ops N (B3 ops.size) env w (λenv w=>jF (ki env) λenv=>K env w)
  else if FJ ops&&F4 0 ops.size then rxP C ops N (B3 ops.size) env w (λenv w=>jF (ki env) λenv=>K env w) else False
 else if a then
  if Ou ops then Yr C ops N env w (λenv w=>jF (ki env) λenv=>K env w) else False
 else rxL C ops N (B3 ops.size) env w (λenv w=>jF (ki env) λenv=>K env w)
inductive Md where
 |run|to (b:Nat) (K:List bO->A2->Prop)|Wn (b:Nat)
def atR (b:Nat) (y:Code):Bool:=match jG y with
 |some i=>Nat.beq i b
 |none=>false
def FK (b:Nat):Code->Option Code
 | .seq _ y=>match atR b y with
   |true=>some y
   |false=>FK b y
 | _=>none
def oM (b:Nat):Code->List Nat
 | .seq x y=>writes x++(match atR b y with
   |true=>[]
   |false=>oM b y)
 | _=>[]
def aaj (b:Nat):Code->Bool
 | .seq x y=>match atR b x with
   |true=>true
   |false=>aaj b y
 |c=>atR b c
def aaS (aQ:Nat->aZ) (c y:Code):Option (Nat×aZ):=match jG c with
 |none=>none
 |some a=>match aQ (1000000+a) with
  |[]=>none
  |(b, _)::sl=>match aaj b y with
   |true=>some (b,sl)
   |false=>none
def N5 (sl:aZ) (J:oy (sl.map (·.2))->A2->Prop) (env:List bO) (w:A2):Prop:=match oR sl env with
 |some s=>J s w
 |none=>False
def cB (C:dJ P) (aQ:Nat->aZ) (N:Nat):Code->Md->List bO->A2->(List bO->A2->Prop)->(Nat->List bO->A2->Prop)->(List bO->A2->Prop)->Prop
 | .skip,.run,env,w,Kn, _, _=>Kn env w
 | .region _ ops g,.run,env,w,Kn, _, _=>Ox C N ops g env w Kn
 | .seq x y,m,env,w,Kn,Kx,Kr=>match m with
   | .run=>match aaS aQ x y with
     |none=>cB C aQ N x .run env w (λenv w=>cB C aQ N y .run env w Kn Kx Kr) Kx Kr
     |some (b,sl)=> ∃J:oy (sl.map (·.2))->A2->Prop,
      cB C aQ N x .run env w (λenv w=>match atR b y with
       |true=>N5 sl J env w
       |false=>cB C aQ N y (.to b (N5 sl J)) env w Kn Kx Kr) Kx Kr/\
      ∀s w1,J s w1->jF (kV sl s++env.filter λe=> !(oM b (.seq x y)).contains e.t) λda=>match atR b y with
       |true=>cB C aQ N y .run da w1 Kn Kx Kr
       |false=>cB C aQ N y (.Wn b) da w1 Kn Kx Kr
   | .to b K=>cB C aQ N x .run env w (λenv w=>match atR b y with
    |true=>K env w
    |false=>cB C aQ N y (.to b K) env w Kn Kx Kr) Kx Kr
   | .Wn b=>match atR b y with
    |true=>cB C aQ N y .run env w Kn Kx Kr
    |false=>cB C aQ N y (.Wn b) env w Kn Kx Kr
 | .cond c x y,.run,env,w,Kn,Kx,Kr=>match xQ env [] c with
   |some (.bool b)=>aI b (cB C aQ N x .run env w Kn Kx Kr) (cB C aQ N y .run env w Kn Kx Kr)
   | _=>False
 | .block id x,.run,env,w,Kn,Kx,Kr=>cB C aQ N x .run env w Kn (λa env w=>if a=id then Kn env w else Kx a env w) Kr
 | .loop x,.run,env,w, _,Kx,Kr=>
   let sl:=aQ ((jG x).getD 0)
   match oR sl env with
   |none=>False
   |some h=> ∃I:Nat->oy (sl.map (·.2))->A2->Prop,(∃n, ∀w1,Ext w w1->I n h w1)/\
    ∀n s w1,I n s w1->jF (kV sl s++env.filter λe=> !(writes x).contains e.t) λda=>cB C aQ N x .run da w1
     (λi j=>match oR sl i with
      |some k=> ∀d,Ext j d-> ∃f,f<n/\I f k d
      |none=>False) Kx Kr
 | .exit id,.run,env,w, _,Kx, _=>Kx id env w
 | .ret,.run,env,w, _, _,Kr=>Kr env w
 | _, _, _, _, _, _, _=>False
@[reducible] def rO (C:dJ P) (aQ:Nat->aZ) (N:Nat) (c:Code) (env:List bO) (w:A2) (Kn:List bO->A2->Prop) (Kx:Nat->List bO->A2->Prop) (Kr:List bO->A2->Prop):Prop:=
 cB C aQ N c .run env w Kn Kx Kr
def Qp (S:Nat->Option (Option AB)) (N:Nat) (D:List Deferred) (Kn:List bO->A2->Prop) (Kx:Nat->List bO->A2->Prop) (Kr:List bO->A2->Prop):Exit->Act->A2->Prop
 | .normal,a,w=> ∃env b,Kn env b/\plain env/\Fit S #[] N D env a/\Ext b w
 | .exit id,a,w=> ∃env b,Kx id env b/\plain env/\Fit S #[] N D env a/\Ext b w
 | .ret,a,w=> ∃env b,Kr env b/\plain env/\Fit S #[] N D env a/\Ext b w
 | _, _, _=>False
theorem Ug {ops:Array Oper} (h: ∀k∈TV ops,S k=none):Wr S ops:=λo a k b=>h k (by
 simp[TV]
 grind)
theorem P1 {r:Option Nat} {C:dJ P} {id:Nat} {ops:Array Oper} {b:Bool} {w w':A2} {Kn:List bO->A2->Prop} {Kx:Nat->List bO->A2->Prop} {Kr:List bO->A2->Prop}
 (m: ∀k∈TV ops,S k=none) (n:plain env) (o:Fit S #[] N D env a) (h:Ox C N ops b env w Kn) (d:Ext w w'):
 (Code.region id ops b).wpIn (WF r) 0 P (Qp S N D Kn Kx Kr) a w':=by
 have e:Fit S ops N D env a:=o.PZ n;have f:=Ug m;have p: ∀env a w w',Kn (ki env) w->Fit S ops N D env a->Ext w w'->Qp S N D Kn Kx Kr .normal a w':=λenv a w w' q l s=>
  ⟨_,w,q,(A0 (ops':= #[]) l).2,(A0 l).1,s⟩
 have t: ∀c a w,¬ Qp S N D Kn Kx Kr (.panic c) a w:=λ_ _ _ h=>h;simp only[Ox,jL] at h;split at h
 ·split at h
  ·rename_i u;refine Ay C.mixed u λg i=>?_;have:=F9 (C:=C) f _ env a w g _ e h (d.trans i)
   grind[D5]
  ·split at h
   ·rename_i j
    simp_all
    refine Az C.mixed j.1 j.2 λg i=>?_;have:=OZ (C:=C) j.1 f _ env a w g _ e h (d.trans i)
    grind[D6]
   ·exact h.elim
 cases b with
 |false=>exact wpIn_region (by grind[OT])
 |true=>
  simp only[if_true] at h;split at h
  ·rename_i v;exact wpIn_region_any C.mixed (zo _ _ _ _ (nQ (Ue (C:=C) f v t env a w _ e h p) (d.trans (Ext.drew _))))
  ·exact AC h
theorem tG: ∀{l:aZ} {s:oy (l.map (·.2))} {e:bO},e∈kV l s->e.ch=[]/\e.g=none
 |sc::r,s,e,h=>by
  simp[kV] at h;rcases h with rfl|h;simp
  ·exact tG h
theorem Cm: ∀{l:aZ} {s:oy (l.map (·.2))} {e:bO},e∈kV l s->e.k=none
 |t::r,s,e,h=>by
  simp[kV] at h;rcases h with rfl|h
  ·rfl
  ·exact Cm h
theorem l7: ∀{l m:List bO} {t:Nat} {e:bO},bX (l++m) t=some e->(bX l t=some e)\/(bX l t=none/\bX m t=some e)
 |[],m,t,e,h=> .inr ⟨rfl,h⟩
 |x::r,m,t,e,h=>by
  simp[bX] at h ⊢;split at h
  grind
  ·rename_i a;rw[if_neg a];exact l7 h
theorem p_: ∀{l:aZ} {env:List bO} {s:oy (l.map (·.2))} {t:Nat} {e:bO},oR l env=some s->bX (kV l s) t=some e-> ∃e',bX env t=some e'/\e'.v=e.v
 |(t0,sc)::r,env,s,t,e,a,h=>by
  simp only[oR] at a;split at a
  ·rename_i c d;split at a
   ·rename_i x y f b;cases a;simp only[kV,bX] at h;split at h
    ·grind[El.il]
    ·exact p_ b h
   ·cases a
  ·cases a
theorem yS {l:List bO} {p:bO->Bool} {t:Nat} {e:bO} (h:bX (l.filter p) t=some e):e∈l/\p e=true:=by
 have:=bT h;simpa
theorem zq {F:Fence} {m:Nat} {Q:Exit->Act->A2->Prop} {c:Code} (R:Nat->Act->A2->Prop) {n0:Nat} {a:Act} {w:A2} (h0:R n0 a w)
 (round: ∀n a w,R n a w->c.wpIn F m P (Exit.then (λa' w'=> ∃d,d<n/\R d a' w') Q) a w):(Code.loop c).wpIn F m P Q a w:=by
 intro b k cs i hb g;have key: ∀j a w,R j a w->
  ∃e a' w',Q e a' w'/\ArrivesIn (Machine.fenced P F) P (lone (b.atR a (.code c:: .inLoop c::k)) cs w) b k cs e a' w':=by
  intro j
  induction j using K1 with
  | _ j l=>
    intro a w o;obtain⟨e,p,q,f,h⟩:=round j a w o b _ cs i hb g;cases e with
    |normal=>
     obtain⟨d,r,s⟩:=f;obtain⟨t,u,v,x,y⟩:=l d r _ _ s;exact⟨t,u,v,x,.of_steps (StepsIn.trans h (.one (fenced_calm hb g rfl) stepR_inLoop)) y⟩
    |exit
    |goto
    |ret
    |panic
    |outgrown=>exact⟨_,p,q,f,‹_›⟩
 obtain⟨e,a',w',f,h⟩:=key _ a w h0;exact⟨e,a',w',f,.of_steps (.one (fenced_calm hb g rfl) stepR_loop) h⟩
theorem Y5 (b:Nat) (c:Code): ∀t:Nat,t∈oM b c->t∈writes c:=by
 induction c with
 |seq=>
  grind[oM,writes]
 | _=>intro t h;cases h
structure Yw (P:AH) (r:Option Nat) (C:dJ P) (aQ:Nat->aZ) (N:Nat) (D:List Deferred) (c:Code):Prop where
 run: ∀(S:Nat->Option (Option AB)) (env:List bO) (a:Act) (w w':A2) (Kn:List bO->A2->Prop) (Kx:Nat->List bO->A2->Prop) (Kr:List bO->A2->Prop),
  (∀k∈writes c,S k=none)->plain env->Fit S #[] N D env a->cB C aQ N c .run env w Kn Kx Kr->Ext w w'->c.wpIn (WF r) 0 P (Qp S N D Kn Kx Kr) a w'
 to: ∀(b:Nat) (K:List bO->A2->Prop) (S:Nat->Option (Option AB)) (env:List bO) (a:Act) (w w':A2) (Kn:List bO->A2->Prop) (Kx:Nat->List bO->A2->Prop) (Kr:List bO->A2->Prop) (Q:Exit->Act->A2->Prop),
  (∀k∈oM b c,S k=none)->plain env->Fit S #[] N D env a->cB C aQ N c (.to b K) env w Kn Kx Kr->Ext w w'->(∀id a w,Qp S N D Kn Kx Kr (.exit id) a w->Q (.exit id) a w)->(∀a w,Qp S N D Kn Kx Kr .ret a w->Q .ret a w)->
  (∀y da a1 w1 Ac,FK b c=some y->K da w1->plain da->Fit S #[] N D da a1->Ext w1 Ac->y.wpIn (WF r) 0 P Q a1 Ac)->c.wpIn (WF r) 0 P Q a w'
 Wn: ∀(b:Nat) (S:Nat->Option (Option AB)) (env:List bO) (a:Act) (w w':A2) (Kn:List bO->A2->Prop) (Kx:Nat->List bO->A2->Prop) (Kr:List bO->A2->Prop) (y:Code),
  FK b c=some y->(∀k∈writes c,S k=none)->plain env->Fit S #[] N D env a->cB C aQ N c (.Wn b) env w Kn Kx Kr->Ext w w'->y.wpIn (WF r) 0 P (Qp S N D Kn Kx Kr) a w'
theorem Yw.of {r:Option Nat} {C:dJ P} {aQ:Nat->aZ} {c:Code} (h: ∀(S:Nat->Option (Option AB)) (env:List bO) (a:Act) (w w':A2) (Kn:List bO->A2->Prop) (Kx:Nat->List bO->A2->Prop) (Kr:List bO->A2->Prop),
 (∀k∈writes c,S k=none)->plain env->Fit S #[] N D env a->cB C aQ N c .run env w Kn Kx Kr->Ext w w'->c.wpIn (WF r) 0 P (Qp S N D Kn Kx Kr) a w')
 (h1: ∀b K env w Kn Kx Kr,¬ cB C aQ N c (.to b K) env w Kn Kx Kr) (d: ∀b env w Kn Kx Kr,¬ cB C aQ N c (.Wn b) env w Kn Kx Kr):Yw P r C aQ N D c:=
 ⟨h,by grind,by grind⟩
theorem GO {r:Option Nat} {C:dJ P} {aQ:Nat->aZ}: ∀c:Code,Yw P r C aQ N D c:=by
 intro c
 induction c with
 |skip=>exact .of (λS env a w w' Kn Kx Kr _ g f h l=>wpIn_skip ⟨env,w,h,g,f,l⟩) (λ_ _ _ _ _ _ _ h=>h) (λ_ _ _ _ _ _ h=>h)
 |region id ops draw=>exact .of (λS env a w w' Kn Kx Kr u g f h l=>P1 u g f h l) (λ_ _ _ _ _ _ _ h=>h) (λ_ _ _ _ _ _ h=>h)
 |seq x y Tz M=>
  refine⟨?_,?_,?_⟩
  ·intro S env a w w' Kn Kx Kr u g f h l;simp only[cB] at h;split at h
   ·refine wpIn_seq (wpIn_mono (Tz.run S env a w w' _ Kx Kr (λk d=>u k (by simp[writes,d])) g f h l) ?_);intro e a1 w1 o;cases e with
    |normal=>
     obtain⟨da,p,d,X,Y,Z⟩:=o;exact M.run S da a1 p w1 Kn Kx Kr (λk d=>u k (by simp[writes,d])) X Y d Z
    | _=>exact o
   ·rename_i b sl _;obtain⟨J,q,hJ⟩:=h;simp only[jL] at hJ
    let i:Nat->Option (Option AB):=λt=>if(oM b (.seq x y)).contains t then none else some (a.tmps[t]?)
    let dv:=env.filter λe=> !(oM b (.seq x y)).contains e.t
    have nil: ∀(tm:Array AB),jZ #[] tm []:=λtm x q=>by cases q
    have DF: ∀t e,bX dv t=some e->a.tmps[t]? =some e.v/\(oM b (.seq x y)).contains t=false/\e.ch=[]:=by
     intro t e he;have ht:=yH he;have H:=yS he;have F:(oM b (.seq x y)).contains t=false:=by rw[<-ht];simpa using H.2
     have A:bX env t=some e:=iO he (λy _ hyt=>by rw[hyt,F];rfl);exact⟨f.yes t e A (by rw[(g e H.1).1];exact nil _),F,(g e H.1).1⟩
    have head: ∀(m:List bO) (j:Act) (s:oy (sl.map (·.2))),plain m->Fit i #[] N D m j->oR sl m=some s->Fit i #[] N D (kV sl s++dv) j/\plain (kV sl s++dv):=by
     intro m j s sS B Ad;have O:plain (kV sl s++dv):=λe he=>by
      rcases Dr.1 he with he|he
      ·exact tG he
      ·exact g e (by simpa[dv] using(Bs.1 he).1)
     refine⟨⟨B.off,B.size,B.qz,λt e he _=>?_,λt e he hn=>absurd (by rw[(O e (bT he)).1];exact nil _) hn,(λe he=>by rw[(O e he).2];exact(O e he).1),λe he b hb=>by
      rcases Dr.1 he with he|he
      ·rw[Cm he] at hb;cases hb
      ·exact f.BM e (Bs.1 he).1 b hb⟩,O⟩
     rcases l7 he with he|⟨_,he⟩
     ·obtain⟨e',jy,hv⟩:=p_ Ad he;rw[<-hv];exact B.yes t e' jy (by rw[(sS e' (bT jy)).1];exact nil _)
     ·obtain⟨hv,F, _⟩:=DF t e he;have:=B.off t (a.tmps[t]?) (by simp only[i,F];rfl);rw[this,hv]
    have N6:Fit i #[] N D env a:=⟨λt x q=>by
     simp only[i] at q;split at q
     ·cases q
     ·cases q;rfl,f.size,f.qz,f.yes,f.no,f.Fq,f.BM⟩
    have back: ∀{m:List bO} {j:Act},Fit i #[] N D m j->Fit S #[] N D m j:=λ{m j} A=>⟨λt z G=>by
     have F:(oM b (.seq x y)).contains t=false:=by
      cases hc:(oM b (.seq x y)).contains t with
      |false=>rfl
      |true=>have:=u t (Y5 b _ t (by simpa using hc));rw[this] at G;cases G
     have h1:=A.off t (a.tmps[t]?) (by simp only[i,F];rfl);rw[h1];exact f.off t z G,A.size,A.qz,A.yes,A.no,A.Fq,A.BM⟩
    have hS1: ∀k∈oM b (.seq x y),i k=none:=λk d=>by simp[i,d]
    have abR: ∀k∈writes x,i k=none:=λk d=>hS1 k (by simp[oM,d]);have bx: ∀(id:Nat) (a:Act) (w:A2),Qp i N D Kn Kx Kr (.exit id) a w->Qp S N D Kn Kx Kr (.exit id) a w:=λid a w ⟨R,p,d,T,U,V⟩=>⟨R,p,d,T,back U,V⟩;have br: ∀(a:Act) (w:A2),Qp i N D Kn Kx Kr .ret a w->Qp S N D Kn Kx Kr .ret a w:=λa w ⟨R,p,d,T,U,V⟩=>⟨R,p,d,T,back U,V⟩;have G: ∀k∈writes y,S k=none:=λk d=>u k (by simp[writes,d]);refine wpIn_seq (wpIn_mono (Tz.run i env a w w' _ Kx Kr abR g N6 q l) ?_);intro e a1 w1 o;cases e with
    |normal=>
     obtain⟨da,p,d,X,Y,Z⟩:=o;cases E:atR b y with
     |true=>
      simp only[E] at d hJ;unfold N5 at d;split at d
      ·rename_i s H;obtain⟨XB,XC⟩:=head da a1 s X Y H;exact M.run S _ a1 p w1 Kn Kx Kr G XC (back XB) (hJ s p d) Z
      ·exact d.elim
     |false=>
      simp only[E] at d hJ;have abS: ∀k∈oM b y,i k=none:=λk d=>hS1 k (by simp[oM,E,d]);refine M.to b (N5 sl J) i da a1 p w1 Kn Kx Kr _ abS X Y d Z bx br ?_;intro y' m j L BR W hK sS B xS;unfold N5 at hK;split at hK
      ·rename_i s H;obtain⟨XB,XC⟩:=head m j s sS B H;exact M.Wn b S _ j L BR Kn Kx Kr y' W G XC (back XB) (hJ s L hK) xS
      ·exact hK.elim
    |exit id=>exact bx id a1 w1 o
    |ret=>exact br a1 w1 o
    | _=>exact o
  ·intro b K S env a w w' Kn Kx Kr Q u g f h l q hr J8;simp only[cB] at h;refine wpIn_seq (wpIn_mono (Tz.run S env a w w' _ Kx Kr (λk d=>u k (by simp[oM,d])) g f h l) ?_);intro e a1 w1 o;cases e with
   |normal=>
    obtain⟨da,p,d,X,Y,Z⟩:=o;cases E:atR b y with
    |true=>
     simp only[E] at d;exact J8 y da a1 p w1 (by simp[FK,E]) d X Y Z
    |false=>
     simp only[E] at d;exact M.to b K S da a1 p w1 Kn Kx Kr Q (λk d=>u k (by simp[oM,E,d])) X Y d Z q hr (λy' m j L BR W=>J8 y' m j L BR (by simp[FK,E,W]))
   |exit id=>exact q id a1 w1 o
   |ret=>exact hr a1 w1 o
   | _=>exact o.elim
  ·intro b S env a w w' Kn Kx Kr y' W u g f h l;simp only[cB] at h;have G: ∀k∈writes y,S k=none:=λk d=>u k (by simp[writes,d]);cases E:atR b y with
   |true=>
    simp only[E] at h;simp only[FK,E,Cc] at W;subst W;exact M.run S env a w w' Kn Kx Kr G g f h l
   |false=>
    simp only[E] at h;simp only[FK,E] at W;exact M.Wn b S env a w w' Kn Kx Kr y' W G g f h l
 |cond c x y Tz M=>
  refine .of ?_ (λ_ _ _ _ _ _ _ h=>h) (λ_ _ _ _ _ _ h=>h);intro S env a w w' Kn Kx Kr u g f h l;simp only[cB] at h;split at h
  ·rename_i b hb;have XD:=f.ev (ch:=[]) (λ_ q=>by cases q) hb;refine wpIn_cond_split XD (λht=>Tz.run S env a w w' Kn Kx Kr (λk d=>u k (by simp[writes,d])) g f (DW h ht) l) (λht=>M.run S env a w w' Kn Kx Kr (λk d=>u k (by simp[writes,d])) g f (AX h ht) l)
  ·exact AC h
 |block id x ih=>
  refine .of ?_ (λ_ _ _ _ _ _ _ h=>h) (λ_ _ _ _ _ _ h=>h);intro S env a w w' Kn Kx Kr u g f h l;refine wpIn_block (wpIn_mono (ih.run S env a w w' Kn _ Kr u g f h l) ?_);intro e a1 w1 o;cases e with
  |exit XA=>
   obtain⟨da,p,d,rest⟩:=o;simp only[Exit.inBlock];split
   ·rename_i he;simp only[he,if_true] at d;exact⟨da,p,d,rest⟩
   ·rename_i he;simp only[he,if_false] at d;exact⟨da,p,d,rest⟩
  | _=>exact o
 |exit id=>exact .of (λS env a w w' Kn Kx Kr _ g f h l=>wpIn_exit ⟨env,w,h,g,f,l⟩) (λ_ _ _ _ _ _ _ h=>h) (λ_ _ _ _ _ _ h=>h)
 |ret=>exact .of (λS env a w w' Kn Kx Kr _ g f h l=>wpIn_ret ⟨env,w,h,g,f,l⟩) (λ_ _ _ _ _ _ _ h=>h) (λ_ _ _ _ _ _ h=>h)
 |loop x ih=>
  refine .of ?_ (λ_ _ _ _ _ _ _ h=>h) (λ_ _ _ _ _ _ h=>h);intro S env a w w' Kn Kx Kr u g f h l;simp only[cB,jL] at h;split at h
  ·exact AC h
  ·rename_i s0 hs0;obtain⟨I,⟨n0,h0⟩,oS⟩:=h
   let sl:=aQ ((jG x).getD 0)
   let i:Nat->Option (Option AB):=λt=>if(writes x).contains t then none else some (a.tmps[t]?)
   let dv:=env.filter λe=> !(writes x).contains e.t
   have nil: ∀(tm:Array AB),jZ #[] tm []:=λtm x q=>by cases q
   have DF: ∀t e,bX dv t=some e->a.tmps[t]? =some e.v/\(writes x).contains t=false/\e.ch=[]:=by
    intro t e he;have ht:=yH he;have H:=yS he;have F:(writes x).contains t=false:=by rw[<-ht];simpa using H.2
    have A:bX env t=some e:=iO he (λy _ hyt=>by rw[hyt,F];rfl);exact⟨f.yes t e A (by rw[(g e H.1).1];exact nil _),F,(g e H.1).1⟩
   have head: ∀(m:List bO) (j:Act) (s:oy (sl.map (·.2))),plain m->Fit i #[] N D m j->oR sl m=some s->Fit i #[] N D (kV sl s++dv) j/\plain (kV sl s++dv):=by
    intro m j s sS B Ad;have O:plain (kV sl s++dv):=λe he=>by
     rcases Dr.1 he with he|he
     ·exact tG he
     ·exact g e (by simpa[dv] using(Bs.1 he).1)
    refine⟨⟨B.off,B.size,B.qz,λt e he _=>?_,λt e he hn=>absurd (by rw[(O e (bT he)).1];exact nil _) hn,(λe he=>by rw[(O e he).2];exact(O e he).1),λe he b hb=>by
     rcases Dr.1 he with he|he
     ·rw[Cm he] at hb;cases hb
     ·exact f.BM e (Bs.1 he).1 b hb⟩,O⟩
    rcases l7 he with he|⟨_,he⟩
    ·obtain⟨e',jy,hv⟩:=p_ Ad he;rw[<-hv];exact B.yes t e' jy (by rw[(sS e' (bT jy)).1];exact nil _)
    ·obtain⟨hv,F, _⟩:=DF t e he;have:=B.off t (a.tmps[t]?) (by simp only[i,F];rfl);rw[this,hv]
   have N6:Fit i #[] N D env a:=⟨λt x q=>by
    simp only[i] at q;split at q
    ·cases q
    ·cases q;rfl,f.size,f.qz,f.yes,f.no,f.Fq,f.BM⟩
   have back: ∀{m:List bO} {j:Act},Fit i #[] N D m j->Fit S #[] N D m j:=λ{m j} A=>⟨λt y G=>by
    have F:(writes x).contains t=false:=by
     cases hc:(writes x).contains t with
     |false=>rfl
     |true=>have:=u t (by simpa[writes] using hc);rw[this] at G;cases G
    have h1:=A.off t (a.tmps[t]?) (by simp only[i,F];rfl);rw[h1];exact f.off t y G,A.size,A.qz,A.yes,A.no,A.Fq,A.BM⟩
   have hS1: ∀k∈writes x,i k=none:=λk d=>by simp[i,d]
   obtain⟨hF4,hp4⟩:=head env a s0 g N6 hs0;refine zq (λn j L=> ∃s,I n s L/\Fit i #[] N D (kV sl s++dv) j/\plain (kV sl s++dv)) (n0:=n0) ⟨s0,h0 w' l,hF4,hp4⟩ ?_;intro n j L ⟨s,hI,B,sS⟩;have hb:=ih.run i _ j L L _ Kx Kr hS1 sS B (oS n s L hI) (Ext.refl _);refine wpIn_mono hb ?_;intro e a3 w3 o;cases e with
   |normal=>
    obtain⟨R,p,d,T,U,V⟩:=o;simp only[Exit.then];split at d
    ·rename_i s3 hs3;obtain⟨n',iS,hI'⟩:=d w3 V;obtain⟨XB,XC⟩:=head R a3 s3 T U hs3;exact⟨n',iS,s3,hI',XB,XC⟩
    ·exact d.elim
   |exit id=>obtain⟨R,p,d,T,U,V⟩:=o;exact⟨R,p,d,T,back U,V⟩
   |ret=>obtain⟨R,p,d,T,U,V⟩:=o;exact⟨R,p,d,T,back U,V⟩
   | _=>exact o
 | _=>exact .of (λS env a w w' Kn Kx Kr u g f h l=>AC h) (λ_ _ _ _ _ _ _ h=>h) (λ_ _ _ _ _ _ h=>h)
theorem qc {r:Option Nat} {C:dJ P} {aQ:Nat->aZ}: ∀(c:Code) (S:Nat->Option (Option AB)) (env:List bO) (a:Act) (w w':A2) (Kn:List bO->A2->Prop) (Kx:Nat->List bO->A2->Prop) (Kr:List bO->A2->Prop),
 (∀k∈writes c,S k=none)->plain env->Fit S #[] N D env a->rO C aQ N c env w Kn Kx Kr->Ext w w'->c.wpIn (WF r) 0 P (Qp S N D Kn Kx Kr) a w':=λc=>(GO c).run
def jH:List AB->Nat->List bO
 |[], _=>[]
 |v::r,i=>⟨i,[],none,v,none⟩::jH r (i+1)
def nG:List ResultVar->List bO->Option (List AB)
 |[], _=>some []
 | .tmp t::r,env=>match bX env t,nG r env with
   |some e,some l=>some (e.v::l)
   | _, _=>none
 | .cell .. :: _, _=>none
def J9 (l:List AB):AB:=
 match l with
 |[v]=>v
 |l=> .tuple ⟨l⟩
def aK (C:dJ P) (aQ:Nat->aZ) (f:B1) (args:List AB) (w:A2) (Post:(uM C f).T->A2->Prop):Prop:=
 match P.funcs[f]? with
 |none=>False
 |some fn=>match fn.body with
  |none=>False
  |some c=>
   let fin:List bO->A2->Prop:=λenv w=>match nG fn.results.toList env with
    |some l=>match (uM C f).proj (J9 l) with
     |some x=>au w (λw1=>Post x w1)
     |none=>False
    |none=>False
   if args.length<=fn.ntmps then rO C aQ fn.ntmps c (jH args 0) w fin (λ_ _ _=>False) fin else False
theorem pF: ∀{l:List AB} {i t:Nat} {e:bO},bX (jH l i) t=some e->i<=t/\l[t - i]? =some e.v/\e.ch=[]/\e.g=none
 |v::r,i,t,e,h=>by
  simp[jH,bX] at h;split at h
  grind
  ·obtain:=pF h
   grind
theorem yT: ∀{l:List AB} {i:Nat} {e:bO},e∈jH l i->e.k=none
 |v::r,i,e,h=>by
  simp[jH] at h;rcases h with rfl|h
  ·rfl
  ·exact yT h
theorem rZ: ∀{l:List AB} {i:Nat} {e:bO},e∈jH l i->e.ch=[]/\e.g=none
 |v::r,i,e,h=>by
  simp[jH] at h;rcases h with rfl|h;simp
  ·exact rZ h
def nv (tmps:Array AB):ResultVar->Sem AB
 | .tmp t=>pure (tmps.getD t undef)
 | .cell a t=>do loadVar t (<-asAddr (tmps.getD a undef))
theorem vS {tmps:Array AB} {w:A2}: ∀{l:List ResultVar} {env:List bO} {vs:List AB},nG l env=some vs->(∀t e,bX env t=some e->tmps[t]? =some e.v)->
 (l.mapM (nv tmps)).run P w= .ok vs w
 |[], _, _,h, _=>by simp_all[nG]
 | .tmp t::r,env,vs,h,hv=>by
   simp[nG] at h;split at h
   ·rename_i e l b a;have c:=vS (w:=w) a hv
    simp_all[nv]
   grind
theorem EX {fn:Func} {tmps:Array AB} {w:A2} {env:List bO} {vs:List AB} (h:nG fn.results.toList env=some vs) (hv: ∀t e,bX env t=some e->tmps[t]? =some e.v):
 (results fn tmps).run P w= .ok (J9 vs) w:=by
 have h1:=vS (P:=P) (w:=w) h hv;have a:(fn.results.mapM (nv tmps)).run P w= .ok ⟨vs⟩ w:=by
  simp_all[JP]
 have e:results fn tmps=(do
  let vs<-fn.results.mapM (nv tmps)
  pure _):=rfl
 rw[e,AT,a]
 match vs with
 |[]=>rfl
 |[v]=>rfl
 |v::u::r=>rfl
theorem ai {C:dJ P} {aQ:Nat->aZ} {f:B1} {args:List AB} {w:A2} {Post:(uM C f).T->A2->Prop} (h:aK C aQ f args w Post):aC P f (uM C f) args w Post:=by
 unfold aK at h;split at h
 ·exact AC h
 ·rename_i fn p;split at h
  ·exact AC h
  ·rename_i c hb;simp only at h;split at h
   ·rename_i B;have g:plain (jH args 0):=λe a=>rZ a;have nil: ∀(o:Array Oper) (k:Array AB),jZ o k []:=λo k x d=>by cases d
    have q:Fit (λ_=>none) #[] fn.ntmps [] (jH args 0) {tmps:=(⟨args⟩:Array AB)++E5 (fn.ntmps - args.length) undef,defers:=[]}:=by
     refine⟨(λ_ _ d=>by cases d),(by simp;omega),rfl,λt e a _=>?_,λt e a s=>absurd (by rw[(g e (bT a)).1];exact nil _ _) s,(λe a=>by rw[(g e a).2];exact(g e a).1),by grind[yT]⟩;obtain⟨_,hv, _⟩:=pF a
     grind
    have u:=qc (r:=none) (C:=C) (aQ:=aQ) c (λ_=>none) _ _ w w _ _ _ (λ_ _=>rfl) g q h (Ext.refl w);refine calls_of_wp p hb ((wpIn_wide (n:=0)).1 (wpIn_mono u ?_));have fin: ∀a1 w1,(∃env j,(match nG fn.results.toList env with
     |some l=>match (uM C f).proj (J9 l) with
      |some x=> ∀w1,Ext j w1->Post x w1
      |none=>False
     |none=>False)/\plain env/\Fit (λ_=>none) #[] fn.ntmps [] env a1/\Ext j w1)->a1.defers=[]/\ ∃v,(results fn a1.tmps).run P w1= .ok v w1/\ ∃x:(uM C f).T,Ending.returned v= .returned ((uM C f).gK x)/\Post x w1:=by
     intro a1 w1 ⟨env,j,b,y,m,z⟩;split at b
     ·rename_i l A;split at b
      ·rename_i x d;refine⟨m.qz, _,EX A (λt e a=>m.yes t e a (by rw[(y e (bT a)).1];exact nil _ _)),x,by rw[Sh.il d],b w1 z⟩
      ·exact b.elim
     ·exact b.elim
    intro e a1 w1 i;cases e with
    |normal=>exact fin a1 w1 i
    |ret=>exact fin a1 w1 i
    |exit id=>obtain⟨_, _,b, _⟩:=i;exact b.elim
    | _=>exact(show False from i).elim
   ·exact AC h
variable {P:AH}
abbrev qA:=List bO->List Nat->A2->Prop
def marks (D:List Nat):List Deferred:=D.map λr=>{target:= .collected r,args:= #[]}
def yh:Code->Bool
 | .rangeFunc .. =>true
 | .seq a b=>yh a||yh b
 | .cond _ a b=>yh a||yh b
 | .block _ b=>yh b
 | .loop b=>yh b
 | _=>false
def sY (w:A2) (l:Nat) (rec:Loop) (st:LoopState) (a:Option Code):A2:=w.putObj l (.loop {rec with state:=st,pending:=a})
def cT (w:A2) (l:Nat) (rec:Loop) (st:LoopState) (a:Option Code):Prop:=w.heap[l]? =some (.loop {rec with state:=st,pending:=a})
def DG:List Nat->A2->Prop
 |[], _=>True
 |r::D,w=>w.heap[r]? =some (.deferred (some []))/\DG D (w.putObj r (.deferred none))
def mn:List Nat->A2->A2
 |[],w=>w
 |r::D,w=>mn D (w.putObj r (.deferred none))
def BS (l:Nat) (rec:Loop) (w:A2) (K:A2->Prop):Prop:= ∀a,Ext w a-> ∃b,cT a l rec .ready b/\K (sY a l rec .busy b)
def sw (l:Nat) (rec:Loop) (a:Option Code) (w:A2) (R:Bool->A2->Prop):Prop:= ∀b,Ext w b-> ∃st c,cT b l rec st c/\R a.isNone (sY b l rec (if a.isNone then .ready else .done) a)
def De (l:Nat) (rec:Loop) (n m:Nat) (w:A2) (K:Prop):Prop:=(∃a,cT w l rec .ready a)/\n=m/\K
def sy (D:List Nat) (w:A2) (K:A2->Prop):Prop:= ∀w1,Ext w w1->DG D w1/\K (mn D w1)
def z5 (P:AH) (b:B1) (args:Nat->List AB) (ps:Array Nat) (w:A2) {T:Type} (c:T->List AB) (d:Nat->Loop->T->A2->(Bool->A2->Prop)->Prop) (f:Nat->Loop->A2->Prop):Prop:=
 ∀w1,Ext w w1-> ∀rec:Loop,rec.params=ps->rec.defers=w1.heap.size->rec.state= .ready->rec.pending=none->
  (∀(x:T) a R,d (w1.heap.size+1) rec x a R->mj P (w1.heap.size+1) (c x) a R)->
  Calls P b ⟨args (w1.heap.size+1)⟩ ((w1.alloc (.deferred (some []))).alloc (.loop rec)) (λe g=> ∃v,e= .returned v/\f w1.heap.size rec g)
def IS (C:dJ P) (aQ:Nat->aZ) (N:Nat) (l:Nat) (rec:Loop) (ps:List Nat) (assign body:Code) (env:List bO) (args:List AB) (w:A2) (R:Bool->A2->Prop):Prop:=
 De l rec args.length ps.length w
 (jF ((ps.zip args).reverse.map (λx=>⟨x.1,[],none,x.2,none⟩)++env) λb=>rO C aQ N assign b w
  (λda a=>BS l rec a λc=>
   rO C aQ N body da c
    (λ_ a=>sw l rec none a R)
    (λid _ a=>sw l rec (some (.exit id)) a R)
    (λ_ a=>sw l rec (some .ret) a R))
  (λ_ _ _=>False) (λ_ _=>False))
def dz (l:Nat) (rec:Loop) (a:A2) (Kn:A2->Prop) (Kx:Nat->A2->Prop) (Kr:A2->Prop):Prop:=
 ∃st b,cT a l rec st b/\st≠ .busy/\
  match b with
  |none=>Kn (sY a l rec .exhausted (none))
  |some (.exit id)=>Kx id (sY a l rec .exhausted (some (.exit id)))
  |some .ret=>Kr (sY a l rec .exhausted (some .ret))
  | _=>False
def NP (C:dJ P) (aQ:Nat->aZ) (N:Nat):Code->List bO->List Nat->A2->qA->(Nat->qA)->qA->Prop
 | .seq x y,env,D,w,Kn,Kx,Kr=>NP C aQ N x env D w (λenv D w=>NP C aQ N y env D w Kn Kx Kr) Kx Kr
 | .cond c x y,env,D,w,Kn,Kx,Kr=>match xQ env [] c with
   |some (.bool b)=>aI b (NP C aQ N x env D w Kn Kx Kr) (NP C aQ N y env D w Kn Kx Kr)
   | _=>False
 | .block id x,env,D,w,Kn,Kx,Kr=>NP C aQ N x env D w Kn (λf env D w=>if f=id then Kn env D w else Kx f env D w) Kr
 | .loop x,env,D,w,Kn,Kx,Kr=>
   if yh x then
    let sl:=aQ ((jG x).getD 0)
    match oR sl env with
    |none=>False
    |some j=> ∃I:Nat->oy (sl.map (·.2))->List Nat->A2->Prop,(∃n, ∀w1,Ext w w1->I n j D w1)/\
     ∀n s D1 w1,I n s D1 w1->jF (kV sl s++env.filter λe=> !(writes x).contains e.t) λda=>NP C aQ N x da D1 w1
      (λk D2 m=>match oR sl k with
       |some o=> ∀d,Ext m d-> ∃h,h<n/\I h o D2 d
       |none=>False) Kx Kr
   else rO C aQ N (.loop x) env w (λenv w=>Kn env D w) (λid env w=>Kx id env D w) (λenv w=>Kr env D w)
 | .rangeFunc g ps assign body,env,D,w,Kn,Kx,Kr=>
   match xQ env [] g with
   |some (.func (.func i) first cap)=>
    if bJ P i&&ps.toList.all (λp=>decide (p<N)) then
     z5 P i (λy=>c_ first [.func (.yield y) #[] #[]] cap) ps w (λ(x:oy ((aQ ((jG body).getD 0)).map (·.2)))=>uZ _ x)
      (λl rec x d R=>IS C aQ N l rec ps.toList assign body env (uZ _ x) d R)
      (λr rec q=>dz (r+1) rec q (λa=>Kn env (r::D) a) (λid a=>Kx id env (r::D) a) (λa=>Kr env (r::D) a))
    else False
   | _=>False
 |c,env,D,w,Kn,Kx,Kr=>rO C aQ N c env w (λenv w=>Kn env D w) (λid env w=>Kx id env D w) (λenv w=>Kr env D w)
def QpF (S:Nat->Option (Option AB)) (N:Nat) (Kn:qA) (Kx:Nat->qA) (Kr:qA):Exit->Act->A2->Prop
 | .normal,a,w=> ∃env D b,Kn env D b/\plain env/\Fit S #[] N (marks D) env a/\Ext b w
 | .exit id,a,w=> ∃env D b,Kx id env D b/\plain env/\Fit S #[] N (marks D) env a/\Ext b w
 | .ret,a,w=> ∃env D b,Kr env D b/\plain env/\Fit S #[] N (marks D) env a/\Ext b w
 | _, _, _=>False
theorem Y6 {S:Nat->Option (Option AB)} {N:Nat} {Kn:qA} {Kx:Nat->qA} {Kr:qA} {D:List Nat}: ∀(e:Exit) (a:Act) (w:A2),
 Qp S N (marks D) (λenv w=>Kn env D w) (λid env w=>Kx id env D w) (λenv w=>Kr env D w) e a w->QpF S N Kn Kx Kr e a w
 | .normal, _, _,⟨env,b,h⟩=>⟨env,D,b,h⟩
 | .exit _, _, _,⟨env,b,h⟩=>⟨env,D,b,h⟩
 | .ret, _, _,⟨env,b,h⟩=>⟨env,D,b,h⟩
theorem zt {N:Nat} {D:List Deferred}: ∀(l:List (Nat×AB)) (env:List bO) (tmps:Array AB),(∀x∈l,x.1<N)->plain env->Fit (λ_=>none) #[] N D env {tmps,defers:=D}->
 Fit (λ_=>none) #[] N D (l.reverse.map (λx=>⟨x.1,[],none,x.2,none⟩)++env) {tmps:=l.foldl (λtmps (t,a)=>tmps.setIfInBounds t a) tmps,defers:=D}/\plain (l.reverse.map (λx=>(⟨x.1,[],none,x.2,none⟩:bO))++env)
 |[],env,tmps, _,b,h=>⟨h,b⟩
 |(t,v)::r,env,tmps,c,b,h=>by
  have f:plain (⟨t,[],none,v,none⟩::env):=λe he=>by
   rcases Ca.1 he with rfl|he;simp
   ·exact b e he
  have h1:=by
   have:=h.put (g:=none) (d:=some t) (u:=v) (by
    have:=c (t,v) (by grind);simp[oP,this];intro e he;rw[(b e he).1];simp) (λ_ _=>rfl) rfl (λ_=>rfl) (λi=>absurd (λx j=>by cases j) i)
   exact this
  have:=zt r _ _ (by grind) f h1
  grind
theorem GP {w:A2} {l:Nat} {rec:Loop} {a:Option Code} (h:cT w l rec .ready a):(Instr.beginRound l).run P w= .ok () (w.putObj l (.loop {rec with state:= .busy,pending:=a})):=
 run_beginRound h rfl
theorem yU {w:A2} {l:Nat} {rec:Loop} {st:LoopState} {b:Option Code} (a:Option Code) (h:cT w l rec st b):
 (Instr.endRound l a).run P w= .ok (.bool a.isNone) (w.putObj l (.loop {rec with state:=if a.isNone then .ready else .done,pending:=a})):=
 run_endRound (r:={rec with state:=st,pending:=b}) a h
theorem GQ {C:dJ P} {aQ:Nat->aZ} {N l:Nat} {rec:Loop} {assign body:Code} {env:List bO} {args:List AB} {w:A2} {R:Bool->A2->Prop} {tmps:Array AB} {D0:List Deferred}
 (u:rec.tmps=tmps) (v:rec.assign=assign) (hb:rec.body=body) (y: ∀p∈rec.params.toList,p<N) (z:plain env) (b:Fit (λ_=>none) #[] N D0 env {tmps,defers:=D0})
 (h:IS C aQ N l rec rec.params.toList assign body env args w R):mj P l args w R:=by
 obtain⟨⟨A,B⟩,E,o⟩:=h;rw[jL] at o;refine⟨{rec with state:= .ready,pending:=A},B,by simpa using E,?_⟩;have G:Fit (λ_=>none) #[] N [] env {tmps,defers:=[]}:=⟨b.off,b.size,rfl,b.yes,b.no,b.Fq,b.BM⟩;obtain⟨H,I⟩:=zt (D:=[]) (rec.params.toList.zip args) env tmps (λx J=>y x.1 (List.of_mem_zip J).1) z G;have e:(rec.params.zip (⟨args⟩:Array AB)).foldl (λtmps (t,a)=>tmps.setIfInBounds t a) rec.tmps=(rec.params.toList.zip args).foldl (λtmps (t,a)=>tmps.setIfInBounds t a) tmps:=by
  rw[u, <-Array.foldl_toList];simp
 rw[e,v,hb];refine roundIn_of_wpIn (F:=WF none) trivial ?_;have h1:=qc (r:=some l) (C:=C) (aQ:=aQ) assign (λ_=>none) _ _ w w _ _ _ (λ_ _=>rfl) I H o (Ext.refl w);refine wpIn_mono h1 ?_;intro K a1 w1 k;cases K with
 |normal=>
  obtain⟨da,V,m,L,M,O⟩:=k;obtain⟨W,Q,S⟩:=m w1 O;refine⟨_,GP Q,?_⟩;have T:=qc (r:=some l) (C:=C) (aQ:=aQ) body (λ_=>none) _ _ _ _ _ _ _ (λ_ _=>rfl) L M S (Ext.refl _);refine wpIn_mono T ?_;intro U X n j;cases U with
  |normal=>
   obtain⟨_,q,d, _, _,f⟩:=j;obtain⟨st,s,g,i⟩:=d n f;exact⟨_, _,yU none g,true,rfl,i⟩
  |exit id=>
   obtain⟨_,q,d, _, _,f⟩:=j;obtain⟨st,s,g,i⟩:=d n f;exact⟨_, _,yU (some (.exit id)) g,false,rfl,i⟩
  |ret=>
   obtain⟨_,q,d, _, _,f⟩:=j;obtain⟨st,s,g,i⟩:=d n f;exact⟨_, _,yU (some .ret) g,false,rfl,i⟩
  |goto t
  |panic c
  |outgrown=>exact AC j
 |exit id
 |ret=>obtain⟨_, _,m, _⟩:=k;exact AC m
 |goto t
 |panic c
 |outgrown=>exact AC k
variable {P:AH} {N:Nat}
theorem A5 {C:dJ P} {aQ:Nat->aZ} {c:Code} {S:Nat->Option (Option AB)} {env:List bO} {D:List Nat} {a:Act} {w w':A2} {Kn:qA} {Kx:Nat->qA} {Kr:qA}
 (b: ∀k∈writes c,S k=none) (d:plain env) (e:Fit S #[] N (marks D) env a) (h:rO C aQ N c env w (λenv w=>Kn env D w) (λid env w=>Kx id env D w) (λenv w=>Kr env D w)) (f:Ext w w'):
 c.wpIn (WF none) 0 P (QpF S N Kn Kx Kr) a w':=
 wpIn_mono (qc c S env a w w' _ _ _ b d e h f) Y6
theorem GR {w:A2} {l:Nat} {rec:Loop} {st:LoopState} {a:Option Code} (h:cT w l rec st a) (hb:st≠ .busy):
 (Instr.endLoop l).run P w= .ok a (w.putObj l (.loop {rec with state:= .exhausted,pending:=a})):=
 run_endLoop h hb
theorem Y7 {C:dJ P} {aQ:Nat->aZ}: ∀(c:Code) (S:Nat->Option (Option AB)) (env:List bO) (D:List Nat) (a:Act) (w w':A2) (Kn:qA) (Kx:Nat->qA) (Kr:qA),
 (∀k∈writes c,S k=none)->plain env->Fit S #[] N (marks D) env a->NP C aQ N c env D w Kn Kx Kr->Ext w w'->c.wpIn (WF none) 0 P (QpF S N Kn Kx Kr) a w':=by
 intro c
 induction c with
 |seq x y Q T=>
  intro S env D a w w' Kn Kx Kr j i d h l;refine wpIn_seq (wpIn_mono (Q S env D a w w' _ Kx Kr (λk f=>j k (by simp[writes,f])) i d h l) ?_);intro e a1 w1 r;cases e with
  |normal=>
   obtain⟨da,D1,u,f,Dc,sP,wL⟩:=r;exact T S da D1 a1 u w1 Kn Kx Kr (λk f=>j k (by simp[writes,f])) Dc sP f wL
  | _=>exact r
 |cond c x y Q T=>
  intro S env D a w w' Kn Kx Kr j i d h l;simp only[NP] at h;split at h
  ·rename_i b hb;have U:=d.ev (ch:=[]) (λ_ m=>by cases m) hb;exact wpIn_cond_split U (λF=>Q S env D a w w' Kn Kx Kr (λk f=>j k (by simp[writes,f])) i d (DW h F) l) (λF=>T S env D a w w' Kn Kx Kr (λk f=>j k (by simp[writes,f])) i d (AX h F) l)
  ·exact AC h
 |block id x V=>
  intro S env D a w w' Kn Kx Kr j i d h l;refine wpIn_block (wpIn_mono (V S env D a w w' Kn _ Kr j i d h l) ?_);intro e a1 w1 r;cases e with
  |exit XA=>
   obtain⟨da,D1,u,f,rest⟩:=r;simp only[Exit.inBlock];split
   ·rename_i he;simp only[he,if_true] at f;exact⟨da,D1,u,f,rest⟩
   ·rename_i he;simp only[he,if_false] at f;exact⟨da,D1,u,f,rest⟩
  | _=>exact r
 |loop x V=>
  intro S env D a w w' Kn Kx Kr j i d h l;simp only[NP,jL] at h;split at h
  ·split at h
   ·exact AC h
   ·rename_i Z hs0;obtain⟨I,⟨n0,h0⟩,oS⟩:=h
    let sl:=aQ ((jG x).getD 0)
    let o:Nat->Option (Option AB):=λt=>if(writes x).contains t then none else some (a.tmps[t]?)
    let dv:=env.filter λe=> !(writes x).contains e.t
    have nil: ∀(tm:Array AB),jZ #[] tm []:=λtm x m=>by cases m
    have DF: ∀t e,bX dv t=some e->a.tmps[t]? =some e.v/\(writes x).contains t=false/\e.ch=[]:=by
     intro t e he;have F:=yH he;have W:=yS he;have E:(writes x).contains t=false:=by rw[<-F];simpa using W.2
     have z:bX env t=some e:=iO he (λy _ hyt=>by rw[hyt,E];rfl);exact⟨d.yes t e z (by rw[(i e W.1).1];exact nil _),E,(i e W.1).1⟩
    have head: ∀(A:List bO) (D2:List Nat) (p:Act) (s:oy (sl.map (·.2))),plain A->Fit o #[] N (marks D2) A p->oR sl A=some s->Fit o #[] N (marks D2) (kV sl s++dv) p/\plain (kV sl s++dv):=by
     intro A D2 p s X q Ad;have O:plain (kV sl s++dv):=λe he=>by
      rcases Dr.1 he with he|he
      ·exact tG he
      ·exact i e (by simpa[dv] using(Bs.1 he).1)
     refine⟨⟨q.off,q.size,q.qz,λt e he _=>?_,λt e he hn=>absurd (by rw[(O e (bT he)).1];exact nil _) hn,(λe he=>by rw[(O e he).2];exact(O e he).1),λe he b hb=>by
     rcases Dr.1 he with he|he
     ·rw[Cm he] at hb;cases hb
     ·exact d.BM e (Bs.1 he).1 b hb⟩,O⟩
     rcases l7 he with he|⟨_,he⟩
     ·obtain⟨e',jy,hv⟩:=p_ Ad he;rw[<-hv];exact q.yes t e' jy (by rw[(X e' (bT jy)).1];exact nil _)
     ·obtain⟨hv,E, _⟩:=DF t e he;have:=q.off t (a.tmps[t]?) (by simp only[o,E];rfl);rw[this,hv]
    have N6:Fit o #[] N (marks D) env a:=⟨λt x m=>by
     simp only[o] at m;split at m
     ·cases m
     ·cases m;rfl,d.size,d.qz,d.yes,d.no,d.Fq,d.BM⟩
    have back: ∀{A:List bO} {D2:List Nat} {p:Act},Fit o #[] N (marks D2) A p->Fit S #[] N (marks D2) A p:=λ{A D2 p} z=>⟨λt y Y=>by
     have E:(writes x).contains t=false:=by
      cases hc:(writes x).contains t with
      |false=>rfl
      |true=>have:=j t (by simpa[writes] using hc);rw[this] at Y;cases Y
     have h1:=z.off t (a.tmps[t]?) (by simp only[o,E];rfl);rw[h1];exact d.off t y Y,z.size,z.qz,z.yes,z.no,z.Fq,z.BM⟩
    have hS1: ∀k∈writes x,o k=none:=λk f=>by simp[o,f]
    obtain⟨hF4,hp4⟩:=head env D a Z i N6 hs0;refine zq (λn p G=> ∃s D2,I n s D2 G/\Fit o #[] N (marks D2) (kV sl s++dv) p/\plain (kV sl s++dv)) (n0:=n0) ⟨Z,D,h0 w' l,hF4,hp4⟩ ?_;intro n p G ⟨s,D2,hI,q,X⟩;have hb:=V o _ D2 p G G _ Kx Kr hS1 X q (oS n s D2 G hI) (Ext.refl _);refine wpIn_mono hb ?_;intro e a3 w3 r;cases e with
    |normal=>
     obtain⟨H,D3,u,f,J,K,L⟩:=r;simp only[Exit.then];split at f
     ·rename_i s3 hs3;obtain⟨n',iS,hI'⟩:=f w3 L;obtain⟨XB,XC⟩:=head H D3 a3 s3 J K hs3;exact⟨n',iS,s3,D3,hI',XB,XC⟩
     ·exact AC f
    |exit id=>obtain⟨H,D3,u,f,J,K,L⟩:=r;exact⟨H,D3,u,f,J,back K,L⟩
    |ret=>obtain⟨H,D3,u,f,J,K,L⟩:=r;exact⟨H,D3,u,f,J,back K,L⟩
    | _=>exact r
  ·exact A5 (C:=C) (aQ:=aQ) j i d h l
 |rangeFunc g ps assign body _ _=>
  intro S env D a w w' Kn Kx Kr j i d h l;simp only[NP] at h;split at h
  ·rename_i fY first cap hg
   split at h
   ·rename_i jz;simp only[B5,Dh,decide_eq_true_eq] at jz;obtain⟨DD,Tt⟩:=jz;have U:=d.ev (ch:=[]) (λ_ m=>by cases m) hg;refine wpIn_rangeFunc λfn _=>?_
    let M:Loop:={state:= .ready,pending:=none,fn,tmps:=a.tmps,params:=ps,assign,body,defers:=w'.heap.size}
    have hF':Fit (λ_=>none) #[] N (marks D) env {tmps:=a.tmps,defers:=marks D}:=⟨(λ_ _ m=>by cases m),d.size,rfl,d.yes,d.no,d.Fq,d.BM⟩;have f:=h w' l M rfl rfl rfl rfl (λ_ w3 R hr=>GQ (C:=C) (aQ:=aQ) (rec:=M) rfl rfl rfl Tt i hF' hr);have aaV:(first++ #[Value.func (.yield (w'.heap.size+1)) #[] #[]]++cap:Array AB)=⟨c_ first [.func (.yield (w'.heap.size+1)) #[] #[]] cap⟩:=by
     unfold c_;obtain⟨l1⟩:=first;obtain⟨l3⟩:=cap
     simp
    refine⟨w'.heap.size+1,[{target:= .collected w'.heap.size,args:= #[]}],(w'.alloc (.deferred (some []))).alloc (.loop M),{target:= .fn (.func fY) cap,args:=first++ #[.func (.yield (w'.heap.size+1)) #[] #[]]},(w'.alloc (.deferred (some []))).alloc (.loop M),fY,
     ⟨c_ first [.func (.yield (w'.heap.size+1)) #[] #[]] cap⟩,(w'.alloc (.deferred (some []))).alloc (.loop M),run_enterLoop_outer _ _ _ _ _,?_,λ_ _=>trivial,?_,by simp[WF,Dd],?_⟩
    ·simp only[resolve,U,Deferred.ofValue,Ap,GS,Ga,Gd];rfl
    ·simp only[invoke];rw[aaV];exact tZ DD
    ·refine(jO (n:=0 - 1)).2 (f.mono λe w4 ⟨v,he,st,pd,sv,vw,B⟩=>?_);subst he;have J8:=GR (P:=P) sv vw;have q:Fit S #[] N (marks (w'.heap.size::D)) env {a with defers:=[{target:= .collected w'.heap.size,args:= #[]}]++a.defers}:=
      ⟨d.off,d.size,by simp[marks,d.qz],d.yes,d.no,d.Fq,d.BM⟩
     refine⟨pd, _,J8,?_⟩
     match pd,B with
     |none,B=>exact⟨env, _, _,B,i,q,Ext.refl _⟩
     |some (.exit id),B=>exact wpIn_exit ⟨env, _, _,B,i,q,Ext.refl _⟩
     |some .ret,B=>exact wpIn_ret ⟨env, _, _,B,i,q,Ext.refl _⟩
   ·exact AC h
  ·exact AC h
 | _=>intro S env D a w w' Kn Kx Kr j i d h l;exact A5 (C:=C) (aQ:=aQ) j i d h l
def Ds (P:AH) (w:A2):List ResultVar->List bO->(List AB->Prop)->Prop
 |[], _,K=>K []
 | .tmp t::r,env,K=>match bX env t with
   |some e=>Ds P w r env (λl=>K (e.v::l))
   |none=>False
 | .cell t ty::r,env,K=>match bX env t with
   |some e=>match e.v,uR P ty,P.info? ty with
    | .pointer p,some el,some i=>if pT el i.size=true then False else aj w none p el (λx=>Ds P w r env (λl=>K (el.gK x::l)))
    | _, _, _=>False
   |none=>False
def TY (s:Sh) (Post:s.T->A2->Prop) (w:A2) (l:List AB):Prop:=
 match s.proj (J9 l) with
 |some x=>Post x w
 |none=>False
def byD (D:List Nat) (x:Prop) (y:Nat->List Nat->Prop):Prop:=match D with
 |[]=>x
 |r::D=>y r D
def Oy (s:Sh) (rs:List ResultVar) (Post:s.T->A2->Prop):qA:=λenv D w=>byD D (au w (λw1=>Ds P w1 rs env (TY s Post w1)))
 (λr D=>sy (r::D) w (λw1=>Ds P w1 rs env (TY s Post w1)))
def bQ (C:dJ P) (aQ:Nat->aZ) (f:B1) (args:List AB) (w:A2) (Post:(uM C f).T->A2->Prop):Prop:=
 match P.funcs[f]? with
 |none=>False
 |some fn=>match fn.body with
  |none=>False
  |some c=>
   if args.length<=fn.ntmps then NP C aQ fn.ntmps c (jH args 0) [] w (Oy (P:=P) (uM C f) fn.results.toList Post) (λ_ _ _ _=>False) (Oy (P:=P) (uM C f) fn.results.toList Post) else False
theorem yV {tmps:Array AB} {w:A2}: ∀{l:List ResultVar} {env:List bO} {K:List AB->Prop},Ds P w l env K->(∀t e,bX env t=some e->tmps[t]? =some e.v)->
 ∃vs,(l.mapM (nv tmps)).run P w= .ok vs w/\K vs
 |[], _, _,h, _=>⟨[],by simp,h⟩
 | .tmp t::r,env,K,h,hv=>by
   simp only[Ds] at h;split at h
   ·rename_i e a;obtain⟨vs,dR,b⟩:=yV h hv
    simp_all[nv]
   ·exact AC h
 | .cell t ty::r,env,K,h,hv=>by
   simp only[Ds] at h;split at h
   ·rename_i e a;split at h
    ·rename_i p el i d f hi;split at h
     ·exact AC h
     ·rename_i g;obtain⟨x,c,j⟩:=h;obtain⟨vs,dR,b⟩:=yV j hv;refine⟨el.gK x::vs,?_,b⟩;have k: ∃a0,p=some a0:=by cases el<;>(obtain⟨a0,h0, _⟩:=c;exact⟨a0,h0⟩)
      obtain⟨a0,rfl⟩:=k;have m:=tD (P:=P) f hi g c;have n:tmps.getD t undef= .pointer (some a0):=by simp[hv t e a,d]
      simp only[List.mapM_cons,AT,nv,n,asAddr,Ap,Ae,m,dR]
    ·exact AC h
   ·exact AC h
theorem ua {fn:Func} {tmps:Array AB} {R:Ending->A2->Prop}: ∀(D:List Nat) (w:A2),DG D w->(∃v,(results fn tmps).run P (mn D w)= .ok v (mn D w)/\R (.returned v) (mn D w))->
 LeavesInM (WF none) 0 P fn tmps R (marks D) .returning w
 |[],w, _,h=>h
 |r::D,w,a,h=>⟨by simp,.inl ⟨r, _,rfl,run_takeDeferred a.1,ua D _ a.2 h⟩⟩
theorem aR {C:dJ P} {aQ:Nat->aZ} {f:B1} {args:List AB} {w:A2} {Post:(uM C f).T->A2->Prop} (h:bQ C aQ f args w Post):aC P f (uM C f) args w Post:=by
 unfold bQ at h;split at h
 ·exact AC h
 ·rename_i fn s;split at h
  ·exact AC h
  ·rename_i c hb;split at h
   ·rename_i H;have g:plain (jH args 0):=λe a=>rZ a;have nil: ∀(o:Array Oper) (m:Array AB),jZ o m []:=λo m x d=>by cases d
    have y:Fit (λ_=>none) #[] fn.ntmps (marks []) (jH args 0) {tmps:=(⟨args⟩:Array AB)++E5 (fn.ntmps - args.length) undef,defers:=[]}:=by
     refine⟨(λ_ _ d=>by cases d),(by simp;omega),rfl,λt e a _=>?_,λt e a z=>absurd (by rw[(g e (bT a)).1];exact nil _ _) z,(λe a=>by rw[(g e a).2];exact(g e a).1),λe a b hb=>by rw[yT a] at hb;cases hb⟩;obtain⟨_,hv, _⟩:=pF a
     grind
    have A:=Y7 (C:=C) (aQ:=aQ) c (λ_=>none) _ _ _ w w _ _ _ (λ_ _=>rfl) g y h (Ext.refl w);refine(jO (r:=none) (n:=0)).1 (callsIn_of_wp_marks s hb trivial (wpIn_mono A ?_));have fin: ∀a1 w1,(∃env D l,Oy (P:=P) (uM C f) fn.results.toList Post env D l/\plain env/\Fit (λ_=>none) #[] fn.ntmps (marks D) env a1/\Ext l w1)->
     LeavesInM (WF none) 0 P fn a1.tmps (λe w'=> ∃x:(uM C f).T,e= .returned ((uM C f).gK x)/\Post x w') a1.defers .returning w1:=by
     intro a1 w1 ⟨env,D,l,i,B,p,q⟩;obtain⟨E,F⟩:DG D w1/\Ds P (mn D w1) fn.results.toList env (TY (uM C f) Post (mn D w1)):=by
      cases D with
      |nil=>exact⟨trivial,i w1 q⟩
      |cons r D=>exact i w1 q
     rw[p.qz];refine ua D w1 E ?_;obtain⟨vs,dR,j⟩:=yV F (λt e a=>p.yes t e a (by rw[(B e (bT a)).1];exact nil _ _));unfold TY at j;split at j
     ·rename_i x d;refine⟨J9 vs,?_,x,by rw[Sh.il d],j⟩;have G:(fn.results.mapM (nv a1.tmps)).run P (mn D w1)= .ok ⟨vs⟩ (mn D w1):=by
       rw[JP,Sem.run_map,dR];rfl
      have e:results fn a1.tmps=(do
       let vs<-fn.results.mapM (nv a1.tmps)
       pure _):=rfl
      rw[e,AT,G];simp only[Ae,Ap]
      match vs with
      |[]=>rfl
      |[v]=>rfl
      |v::u::r=>simp[J9]
     ·exact AC j
    intro e a1 w1 k;cases e with
    |normal=>exact fin a1 w1 k
    |ret=>exact fin a1 w1 k
    |exit id=>obtain⟨_, _, _,i, _⟩:=k;exact AC i
    | _=>exact AC k
   ·exact AC h
theorem putObj_size (w:A2) (b:Nat) (o:Obj):(w.putObj b o).heap.size=w.heap.size:=by simp
theorem fJ {w:A2} {b k:Nat} {o:Obj} (h:k≠b):(w.putObj b o).heap[k]? =w.heap[k]? :=by
 simp[FU,Ne.symm h]
theorem jY {w:A2} {b:Nat} {o:Obj} (h:b<w.heap.size):(w.putObj b o).heap[b]? =some o:=by
 simp[FU,h]
theorem Wj (w:A2) (a:AF) (v:AB):(w.setCell a v).heap.size=w.heap.size:=by simp
theorem GU {w:A2} {a:AF} {k:Nat} {v:AB} (h:k≠a.block):(w.setCell a v).heap[k]? =w.heap[k]? :=by
 simp[M4,Ok,Ne.symm h]
theorem AF.vf (a:AF) (n:Nat):(a.add n).block=a.block:=by
 unfold Addr.add;grind
theorem r_: ∀(vs:List AB) (w:A2) (a:AF) (i:Nat),(putAt w a vs i).heap.size=w.heap.size
 |[], _, _, _=>rfl
 |v::r,w,a,i=>by simp[putAt,r_]
theorem mR: ∀(vs:List AB) (w:A2) (a:AF) (i k:Nat),k≠a.block->(putAt w a vs i).heap[k]? =w.heap[k]?
 |[], _, _, _, _, _=>rfl
 |v::r,w,a,i,k,h=>by
  simp[putAt];rw[mR r _ a _ k h,GU (by rw[AF.vf];omega)]
theorem Below.putAt {n:Nat} {w w':A2} (h:Below n w w') (a:AF) (c:n<=a.block): ∀(vs:List AB) (i:Nat),Below n w (putAt w' a vs i):=by
 intro vs i
 induction vs generalizing w' i with
 |nil=>exact h
 |cons v r b=>
  exact b (h.setCell (by rw[AF.vf];omega) v) _
theorem EY {n:Nat} {w w':A2} (h:Below n w w') {b:Nat} (hb:n<=b) (o:Obj):Below n w (w'.putObj b o):=
 ⟨h.os,h.tape,h.output,by rw[putObj_size];exact h.size,λk a=>by rw[fJ (by omega)];exact h.block k a⟩
theorem Ext.jA {w w':A2} (h:Ext w w') {a:AF} (b:w.heap.size<=a.block) (vs:List AB):Ext w (jA w' (some a) vs):=Below.putAt h a b vs 0
theorem Ext.putObj {w w':A2} (h:Ext w w') {b:Nat} (hb:w.heap.size<=b) (o:Obj):Ext w (w'.putObj b o):=EY h hb o
theorem Ext.iZ {w w':A2} (h:Ext w w') (o:Obj):Ext w (w'.alloc o):=h.trans (Ext.alloc w' o)
def bK (w:A2) (b:Nat) (l:List AB):Prop:= ∃t,w.heap[b]? =some (.cells ⟨l⟩ t (0,0))
theorem bK.lt {w:A2} {b:Nat} {l:List AB} (h:bK w b l):b<w.heap.size:=by
 obtain⟨⟩:=h;grind
theorem bK.ext {w w':A2} {b:Nat} {l:List AB} (h:bK w b l) (k:Ext w w'):bK w' b l:=by
 obtain⟨t,h⟩:=h;exact⟨t,k.obj h⟩
theorem lC (w:A2) (o:Obj):(w.alloc o).heap.size=w.heap.size+1:=by simp
theorem fB (w:A2) (o:Obj):(w.alloc o).heap[w.heap.size]? =some o:=by
 show(w.heap.push o)[w.heap.size]? =some o;simp
theorem bK.new (w:A2) (l:List AB) (t:AG):bK (w.alloc (.cells ⟨l⟩ t)) w.heap.size l:=⟨t,fB _ _⟩
theorem bK.same {w w':A2} {b:Nat} {l:List AB} (h:bK w b l) (k:w'.heap[b]? =w.heap[b]?):bK w' b l:=by
 obtain⟨t⟩:=h;exact⟨t,by grind⟩
theorem bK.W7 {w:A2} {b:Nat} {l:List AB} (h:bK w b l) {a:AF} (c:b≠a.block) (vs:List AB):bK (jA w (some a) vs) b l:=
 h.same (mR vs w a 0 b c)
theorem bK.putObj {w:A2} {b:Nat} {l:List AB} (h:bK w b l) {k:Nat} (a:b≠k) (o:Obj):bK (w.putObj k o) b l:=h.same (fJ a)
theorem N9 (b o n:Nat):Addr.add ⟨b,o,none⟩ n=⟨b,o+n,none⟩:=by
 unfold Addr.add;simp
theorem aW (b o n:Nat):ad (some ⟨b,o,none⟩) n=some ⟨b,o+n,none⟩:=by simp[ad,N9]
theorem bK.cell {w:A2} {b:Nat} {l:List AB} (h:bK w b l) (o:Nat):w.cell? ⟨b,o,none⟩=l[o]? :=by
 obtain⟨t,h⟩:=h;simp[LL,h]
theorem bK.cellAt {w:A2} {b:Nat} {l:List AB} (h:bK w b l) (o n:Nat):w.cell? (Addr.add ⟨b,o,none⟩ n)=l[o+n]? :=by rw[N9,h.cell]
theorem bK.Km {w:A2} {b:Nat} {l:List AB} (h:bK w b l) (a:AF) (c:a.block=b):w.frozen? a=false:=by
 obtain⟨t,h⟩:=h;simp[World.frozen?,c,h]
theorem bK.ow {w:A2} {b o:Nat} {l:List AB} (h:bK w b l) {s:Sc} {x:s.T} (a:l[o]? =some (s.gK x)):cI w (some ⟨b,o,none⟩) (.one s) x:=
 ⟨_,rfl,by rw[h.cell];omega⟩
theorem bK.rdA {w:A2} {b o:Nat} {l:List AB} (h:bK w b l) {ss:List Sc} {x:gY ss} (a: ∀i,i<ss.length->l[o+i]? =(a7 ss x)[i]?):cI w (some ⟨b,o,none⟩) (.agg ss) x:=
 ⟨_,rfl,λhi=>by rw[h.cellAt];grind⟩
theorem bK.oI {w:A2} {b o n:Nat} {l vs:List AB} (h:bK w b l) (a:vs.length=n) (c: ∀i,i<n->l[o+i]? =vs[i]?):oI w (some ⟨b,o,none⟩) n vs:=
 ⟨a,λhi=>by rw[h.cellAt];grind⟩
theorem bK.st {w:A2} {b o n:Nat} {l:List AB} (h:bK w b l) (a:o+n<=l.length):TT w (some ⟨b,o,none⟩) n:=
 ⟨_,rfl,λi hi=>⟨by rw[h.cellAt,Im (by omega)];rfl,h.Km _ (AF.vf _ _)⟩⟩
theorem CW {w:A2} {b o:Nat} {l:List AB} {t:AG} (h:w.heap[b]? =some (.cells ⟨l⟩ t (0,0))) (v:AB):(w.setCell ⟨b,o,none⟩ v).heap[b]? =some (.cells ⟨l.set o v⟩ t (0,0)):=by
 simp only[M4,Ok,h];simp
theorem zu: ∀(vs:List AB) (w:A2) (b o i:Nat) (l:List AB) (t:AG),w.heap[b]? =some (.cells ⟨l⟩ t (0,0))->o+i+vs.length<=l.length->
 (putAt w ⟨b,o,none⟩ vs i).heap[b]? =some (.cells ⟨l.take (o+i)++(vs++l.drop (o+i+vs.length))⟩ t (0,0))
 |[],w,b,o,i,l,t,h, _=>by simp[putAt,h]
 |v::r,w,b,o,i,l,t,h,c=>by
  simp_all
  simp only[putAt,N9];rw[zu r _ b o (i+1) (l.set (o+i) v) t (CW h v) (by simp;omega)];congr 3;have h1:(l.set (o+i) v).take (o+(i+1))=l.take (o+i)++[v]:=by
   grind[NI,NK]
  have a:(l.set (o+i) v).drop (o+(i+1)+r.length)=l.drop (o+i+(r.length+1)):=by
   grind[NL]
  rw[h1,a];simp
theorem bK.put {w:A2} {b o:Nat} {l:List AB} (h:bK w b l) (vs:List AB) (a:o+vs.length<=l.length):bK (jA w (some ⟨b,o,none⟩) vs) b (l.take o++(vs++l.drop (o+vs.length))):=by
 obtain⟨t,h⟩:=h;exact⟨t,zu vs w b o 0 l t h a⟩
theorem cT.lt {w:A2} {l:Nat} {rec:Loop} {st:LoopState} {a:Option Code} (h:cT w l rec st a):l<w.heap.size:=(BX.1 h).1
theorem cT.ext {w w':A2} {l:Nat} {rec:Loop} {st:LoopState} {a:Option Code} (h:cT w l rec st a) (k:Ext w w'):cT w' l rec st a:=k.obj h
theorem cT.same {w w':A2} {l:Nat} {rec:Loop} {st:LoopState} {a:Option Code} (h:cT w l rec st a) (k:w'.heap[l]? =w.heap[l]?):cT w' l rec st a:=by grind[cT]
theorem cT.put {w:A2} {l:Nat} {rec:Loop} {st:LoopState} {c:Option Code} (h:cT w l rec st c) (a:LoopState) (b:Option Code):cT (sY w l rec a b) l rec a b:=
 jY h.lt
theorem pq {w:A2} {p:Option AF} {ss:List Sc} {x:gY ss} {j:Nat} {s:Sc} {y:s.T} (h:cI w p (.agg ss) x) (b:j<ss.length) (c:(a7 ss x)[j]? =some (s.gK y)):cI w (ad p j) (.one s) y:=by
 obtain⟨a,rfl,h⟩:=h;exact⟨a.add j,rfl,by grind⟩
theorem Ko {p:Option AF} (h:p.isSome=true) (n:Nat):(ad p n).isSome=true:=by
 cases p
 ·grind
 rfl
def cellsOf:(e:El)->e.T->List AB
 | .one s,x=>[s.gK x]
 | .agg l,x=>a7 l x
def aD:El->Nat
 | .one _=>1
 | .agg l=>l.length
theorem dt (e:El) (x:e.T):(cellsOf e x).length=aD e:=by
 cases e with
 |one=>rfl
 |agg l=>exact cD l x
def Sl (w:A2) (e:El) (p:Option AF) (xs:List e.T):Prop:= ∀i x,xs[i]? =some x->p.isSome=true/\cI w (ad p (i*aD e)) e x
theorem Sl.ext {w w':A2} {e:El} {p:Option AF} {xs:List e.T} (h:Sl w e p xs) (k:Ext w w'):Sl w' e p xs:=
 λi x a=>⟨(h i x a).1,pk k (h i x a).2⟩
def flat (e:El) (xs:List e.T):List AB:=xs.flatMap (cellsOf e)
theorem aG (e:El) (xs:List e.T):(flat e xs).length=xs.length*aD e:=by
 induction xs with
 |nil
 |cons=>simp only[flat,Oc,Dw,dt] at*;grind
theorem dP (e:El) (xs ys:List e.T):flat e (xs++ys)=flat e xs++flat e ys:=by simp[flat]
theorem yW (e:El): ∀(xs:List e.T) (i:Nat) (x:e.T),xs[i]? =some x-> ∀j,j<aD e->(flat e xs)[i*aD e+j]? =(cellsOf e x)[j]?
 |y::r,0,x,h,j,a=>by
  simp_all[flat,List.getElem?_append_left,dt]
 |y::r,i+1,x,h,j,a=>by
  have b:=yW e r i x ‹_› j a;simp[flat,Oc];rw[List.getElem?_append_right (by rw[dt,FC];omega),dt];rw[show(i+1)*aD e+j - aD e=i*aD e+j by grind];exact b
theorem Sl.jI {w:A2} {e:El} {b:Nat} {l:List AB} {xs:List e.T} (h:bK w b l) (d:l.take (xs.length*aD e)=flat e xs):Sl w e (some ⟨b,0,none⟩) xs:=by
 intro i x c;have hi:=(List.getElem?_eq_some_iff.1 c).1;have f: ∀j,j<aD e->i*aD e+j<xs.length*aD e:=λj a=>by
  have:(i+1)*aD e<=xs.length*aD e:=Ow _ hi
  grind
 have hc: ∀j,j<aD e->l[i*aD e+j]? =(cellsOf e x)[j]? :=λj a=>by
  rw[<-yW e xs i x c j a, <-d,List.getElem?_take_of_lt (f j a)]
 simp;rw[aW,JW];cases e with
 |one=>exact h.ow (by simp_all[aD,cellsOf])
 |agg ss=>exact h.rdA ‹_›
def lN (w0 w:A2) (e:El) (s:Option AF×Nat×Nat) (xs:List e.T):Prop:=
 s.2.1=xs.length/\xs.length<=s.2.2/\
 ((s.1=none/\xs=[]/\s.2.2=0)\/ ∃b l,s.1=some ⟨b,0,none⟩/\w0.heap.size<=b/\bK w b l/\l.length=s.2.2*aD e/\l.take (xs.length*aD e)=flat e xs)
theorem lN.nil (w0 w:A2) (e:El):lN w0 w e (none,0,0) []:=⟨rfl,by simp⟩
theorem lN.ext {w0 w w':A2} {e:El} {s:Option AF×Nat×Nat} {xs:List e.T} (h:lN w0 w e s xs) (k:Ext w w'):lN w0 w' e s xs:=by
 obtain⟨h1,c,a⟩:=h;refine⟨h1,c,?_⟩;rcases a with a|⟨b,l,a1,d,f,g⟩
 ·grind
 ·exact .inr ⟨b,l,a1,d,f.ext k,g⟩
theorem lN.same {w0 w w':A2} {e:El} {s:Option AF×Nat×Nat} {xs:List e.T} (h:lN w0 w e s xs) (k: ∀a,s.1=some a->w'.heap[a.block]? =w.heap[a.block]?):lN w0 w' e s xs:=by
 obtain⟨h1,d,c⟩:=h;refine⟨h1,d,?_⟩;rcases c with c|⟨b,l,a1,f,g,i⟩
 ·grind
 ·exact .inr ⟨b,l,a1,f,g.same (k _ a1),i⟩
theorem lN.sl {w0 w:A2} {e:El} {s:Option AF×Nat×Nat} {xs:List e.T} (h:lN w0 w e s xs):Sl w e s.1 xs:=by
 obtain⟨h1,f,a⟩:=h;rcases a with ⟨_,g, _⟩|⟨b,l,a1,i,c,j,d⟩
 ·intro;grind
 ·rw[a1];exact Sl.jI c d
theorem lN.len {w0 w:A2} {e:El} {s:Option AF×Nat×Nat} {xs:List e.T} (h:lN w0 w e s xs):s.2.1=xs.length:=h.1
def gT:El->Bool
 | .one s=>s != .func
 | .agg l=>l.all (· != .func)
theorem zv (s:Sc) (x:s.T) (h:(s != .func)=true):(s.gK x).oneCell'=true:=by
 cases s<;>first|rfl|grind
theorem ub: ∀(ss:List Sc) (x:gY ss),ss.all (· != .func)=true->(a7 ss x).all (·.oneCell')=true
 |[], _, _=>rfl
 |s::r,x,h=>by
  simp only[Ij,B5] at h;simp[a7,ub r _ h.2,zv s _ h.1]
theorem EZ (e:El) (x:e.T) (h:gT e=true):(cellsOf e x).all (·.oneCell')=true:=by
 cases e with
 |one s=>simp[cellsOf,zv s x h]
 |agg l=>exact ub l x h
theorem jP (e:El) (xs:List e.T) (h:gT e=true):(flat e xs).all (·.oneCell')=true:=by grind[flat,EZ]
theorem lD {w0 w:A2} {e:El} {s x:Option AF×Nat×Nat} {xs ys:List e.T} {t:AG} {bytes:Nat} {z:Array AB} {R:Option AF×Nat×Nat->A2->Prop}
 (h:lN w0 w e s xs) (h0:Ext w0 w) (y:gT e=true) (d:x.2.1=ys.length) (A:oI w x.1 (x.2.1*aD e) (flat e ys)) (B:z.size=aD e) (hb:(xs.length+ys.length)*bytes<=140737488355328)
 (k: ∀s' w',lN w0 w' e s' (xs++ys)->Ext w0 w'->(∀b,b<w.heap.size->(∀a,s.1=some a->b≠a.block)->w'.heap[b]? =w.heap[b]?)->w.heap.size<=w'.heap.size->
  ((∃a,s'.1=some a/\s.1=some a)\/(∃a,s'.1=some a/\w.heap.size<=a.block)\/s'=(s.1,s.2.1,s.2.2))->R s' w'):
 mz w t (aD e) bytes z s x R:=by
 obtain⟨h1,K,p⟩:=h;have n:=aG e xs;have j:=aG e ys;have C:oI w s.1 (s.2.1*aD e) (flat e xs):=by
  rcases p with ⟨a1,g,f⟩|⟨b,l,a1,g,f,q,r⟩
  ·rw[a1,g];rfl
  ·rw[a1];refine f.oI (by rw[n,h1]) λi hi=>?_
   grind
 refine⟨flat e xs,flat e ys,C,A,λm=>?_,λm=>⟨growslice_fits m (by rw[h1,d];exact hb),λc hc=>?_⟩⟩
 ·rcases p with ⟨a1,g,f⟩|⟨b,l,a1,g,f,q,r⟩
  ·rw[f] at m;have D:ys=[]:=List.eq_nil_of_length_eq_zero (by omega);subst D;subst g;refine⟨.inl rfl,?_⟩;have E:s.2.1=0:=h1;have u:x.2.1=0:=d;rw[a1];refine k _ _ ⟨by simp[E,u],Nat.zero_le _,.inl ⟨rfl,rfl,f⟩⟩ ?_ (λ_ _ _=>rfl) (Db _) (.inr (.inr ?_))
   ·exact h0
   ·rw[a1,u];rfl
  ·have v:xs.length*aD e+ys.length*aD e<=l.length:=by
    rw[q, <-FC];exact Ow _ (by rw[<-h1, <-d];exact m)
   have F:s.1.map (·.add (s.2.1*aD e))=some ⟨b,xs.length*aD e,none⟩:=by
    rw[a1,h1];simp[N9]
   rw[F];refine⟨.inr ⟨f.st (by rw[j];exact v),jP e ys y⟩,?_⟩;have G:=f.put (o:=xs.length*aD e) (flat e ys) (by rw[j];exact v);refine k _ _ ⟨by simp[h1,d],by simp only[Dw];rw[<-h1, <-d];exact m,.inr ⟨b, _,a1,g,G,?_,?_⟩⟩ (h0.jA (a:=⟨b, _,none⟩) g _) (λH L I=>mR (flat e ys) w ⟨b, _,none⟩ 0 H (I ⟨b,0,none⟩ a1)) (Nat.le_of_eq (r_ _ _ _ _).symm) (.inl ⟨_,a1,a1⟩)
   grind
   ·rw[r];have:(xs++ys).length*aD e=(flat e xs++flat e ys).length:=by simp only[Dw,n,j,FC]
    rw[this, <-List.append_assoc,dP];exact Og rfl
 ·have M:w.drew.heap.size=w.heap.size:=rfl;refine k _ _ ⟨by simp[h1,d],by simp only[Dw];rw[<-h1, <-d];exact hc,.inr ⟨w.heap.size,flat e xs++flat e ys++(GF z (c - (s.2.1+x.2.1))).toList,rfl,h0.size,?_,?_,?_⟩⟩ ((h0.trans (Ext.drew w)).trans (Ext.alloc _ _)) (λb hb _=>?_) ?_ (.inr (.inl ⟨_,rfl,Db _⟩))
  ·have J:(J5 (flat e xs)++J5 (flat e ys)++GF z (c - (s.2.1+x.2.1)))=⟨flat e xs++flat e ys++(GF z (c - (s.2.1+x.2.1))).toList⟩:=by
    apply J_;simp
   rw[J];exact bK.new w.drew _ _
  ·simp only[Dw,n,j,GF,Array.length_toList,Array.size_map,Array.size_range,B];rw[<-FC, <-h1, <-d, <-FC];congr 1;omega
  ·have:(xs++ys).length*aD e=(flat e xs++flat e ys).length:=by simp only[Dw,n,j,FC]
   rw[this,dP];exact Og rfl
  ·have:w.drew.heap=w.heap:=rfl;rw[Ext.block (Ext.alloc w.drew _) (by rw[this];exact hb),this]
  ·rw[lC];exact Nat.le_succ _
theorem P2 {w0 w c w1:A2} {e:El} {s:Option AF×Nat×Nat} {xs:List e.T} {x:e.T} {t:AG} {bytes:Nat} {z:Array AB} {R:Option AF×Nat×Nat->A2->Prop}
 (h:lN w0 w e s xs) (h0:Ext w0 w) (g:gT e=true) (i:Ext w c) (d:Ext (c.alloc (.cells ⟨cellsOf e x⟩ t)) w1) (j:z.size=aD e) (hb:(xs.length+1)*bytes<=140737488355328)
 (k: ∀s' w',lN w0 w' e s' (xs++[x])->Ext w0 w'->(∀b,b<w.heap.size->(∀a,s.1=some a->b≠a.block)->w'.heap[b]? =w.heap[b]?)->w.heap.size<=w'.heap.size->R s' w'):
 mz w1 t (aD e) bytes z s (some ⟨c.heap.size,0,none⟩,1,1) R:=by
 have kk:=(i.trans (Ext.alloc c _)).trans d;have l:=(bK.new c _ _).ext d;refine lD (ys:=[x]) (h.ext kk) (h0.trans kk) g rfl ?_ j hb λs' w' m n o p _=>k s' w' m n (λb f q=>?_) (Nat.le_trans kk.size p)
 ·refine l.oI (aG e _) λhi=>?_;simp[flat]
 ·rw[o b (PP f kk.size) q,kk.block f]
def U (b:BitVec 64):Int:=(b.toNat:Int)
def B (x:Int):BitVec 64:=Bx 64 x
theorem Fg (b:BitVec 64):B (U b)=b:=by simp[B,U]
theorem aaW {a b:BitVec 64}:U a=U b<->a=b:=by grind[Fg]
theorem wrap_u64 (x:Int):Pl.wrap x=x % 18446744073709551616:=rfl
theorem U_B (x:Int):U (B x)=x % 18446744073709551616:=by
 unfold U B;simp
 grind
theorem BZ {x:Int} (h:0<=x) (h':x<18446744073709551616):U (B x)=x:=by
 rw[U_B,Int.emod_eq_of_lt h h']
theorem Y8 (x:Int):Pl.wrap x=U (B x):=by rw[wrap_u64,U_B]
theorem O0 (a b:BitVec 64):wT .u64 (U a) (U b)=U (a &&& b):=by
 show U (B (U (B _ &&& B _)))= _;rw[Fg,Fg,Fg]
theorem aaX (a b:BitVec 64):Z3 .u64 (U a) (U b)=U (a ||| b):=by
 show U (B (U (B _ ||| B _)))= _;rw[Fg,Fg,Fg]
theorem Kp (a b:BitVec 64):gF .u64 (U a) (U b)=U (a &&& ~~~ b):=by
 show U (B (U (B _ &&& ~~~ B _)))= _;rw[Fg,Fg,Fg]
theorem O1 (a:BitVec 64) (n:Int):Dp .u64 (U a) n=U (a <<< n.toNat):=by
 unfold Dp;rw[wrap_u64];unfold U;rw[BitVec.toNat_shiftLeft,Nat.shiftLeft_eq];show(a.toNat:Int)*2 ^ min _ 64 % _= _;by_cases n.toNat<=64
 grind
 ·have h1:a.toNat*2 ^ n.toNat % 2 ^ 64=0:=by
   apply Nat.mod_eq_zero_of_dvd;exact Nat.dvd_trans (Nat.pow_dvd_pow 2 (by omega)) (Nat.dvd_mul_left ..)
  grind
theorem O3 (a:BitVec 64) (n:Int):J7 .u64 (U a) n=U (a >>> n.toNat):=by
 unfold U;rw[BitVec.toNat_ushiftRight,Nat.shiftRight_eq_div_pow];have e: ∀k,(a.toNat:Int).fdiv (2 ^ k)=(a.toNat / 2 ^ k: ):=λk=>by
  grind
 show(a.toNat:Int).fdiv (2 ^ min _ 64)= _;rw[e];by_cases n.toNat<=64
 grind
 ·rw[Nat.min_eq_right (by omega)];have h0:=a.isLt;rw[PS h0,PS (PP h0 (Nat.pow_le_pow_right (by simp) (by omega)))]
theorem gu {x:Int} (h: -9223372036854775808<=x) (h':x<9223372036854775808):Do.wrap x=x:=by
 simp only[IntKind.wrap,IntKind.bits,IntKind.signed]
 grind
theorem ax {x y:Int} (h: -9223372036854775808<=x+y) (h':x+y<9223372036854775808):aJ .i64 x y=x+y:=gu h h'
theorem bD {x y:Int} (h: -9223372036854775808<=x - y) (h':x - y<9223372036854775808):aY .i64 x y=x - y:=gu h h'
theorem eJ {x y:Int} (h: -9223372036854775808<=x*y) (h':x*y<9223372036854775808):iy .i64 x y=x*y:=gu h h'
theorem bU {P:AH} {f:B1} {sh:Sh} {args:List AB} {w:A2} {x:sh.T} (h:aC P f sh args w (λy w'=>y=x/\Ext w w')):
 Calls P f ⟨args⟩ w (λe w'=>e= .returned (sh.gK x)/\Ext w w'):=
 FQ h (by grind)
abbrev af (b:Nat):Option AF:=some ⟨b,0,none⟩
abbrev kW:El:= .one .ptr
abbrev aT:El:= .one (.int .i64)
abbrev rD:El:= .one (.int .u64)
abbrev ff:El:= .one .slice
abbrev rE:El:= .one .bool
abbrev N_:El:= .one .map
abbrev fZ (w:A2) (a:Option AF) (K:Option AF->Prop):Prop:=aj w none a (.one .ptr) K
abbrev bG (p:Option AF) (n:Nat) (w:A2) (K:Option AF->Prop):Prop:=p.isSome=true/\p.isSome=true/\aj w none (ad p n) (.one .ptr) K
abbrev aU (w:A2) (a:Option AF) (K:Int->Prop):Prop:=aj w none a (.one (.int .i64)) K
abbrev cM (p:Option AF) (n:Nat) (w:A2) (K:Int->Prop):Prop:=p.isSome=true/\p.isSome=true/\aj w none (ad p n) (.one (.int .i64)) K
abbrev cK (w:A2) (a:Option AF) (K:Int->Prop):Prop:=aj w none a (.one (.int .u64)) K
abbrev acE (p:Option AF) (n:Nat) (w:A2) (K:Int->Prop):Prop:=p.isSome=true/\p.isSome=true/\aj w none (ad p n) (.one (.int .u64)) K
abbrev sZ (w:A2) (a:Option AF) (K:Option AF×Nat×Nat->Prop):Prop:=aj w none a (.one .slice) K
abbrev fg (p:Option AF) (n:Nat) (w:A2) (K:Option AF×Nat×Nat->Prop):Prop:=p.isSome=true/\p.isSome=true/\aj w none (ad p n) (.one .slice) K
abbrev s6 (w:A2) (a:Option AF) (K:Bool->Prop):Prop:=aj w none a (.one .bool) K
abbrev abV (p:Option AF) (n:Nat) (w:A2) (K:Bool->Prop):Prop:=p.isSome=true/\p.isSome=true/\aj w none (ad p n) (.one .bool) K
abbrev acF (w:A2) (a:Option AF) (K:Option Nat->Prop):Prop:=aj w none a (.one .map) K
abbrev s7 (p:Option AF) (n:Nat) (w:A2) (K:Option Nat->Prop):Prop:=p.isSome=true/\p.isSome=true/\aj w none (ad p n) (.one .map) K
abbrev cF:El:= .agg [.int .u64,.int .i64]
abbrev dS:El:= .agg [.int .i64,.int .i64,.int .i64,.int .i64]
abbrev s8:El:= .agg [.int .i64,.int .u64,.int .u64,.int .u64]
abbrev wV:El:= .agg [.int .i64,.int .i64,.int .i64]
abbrev Yz:El:= .agg [.int .i64,.int .i64,.int .i64,.int .i64,.int .u64,.int .u64,.int .u64,.int .u64,.int .i64]
abbrev j_:El:= .agg [.bool,.int .i64,.bool,.int .i64]
theorem ao {c:Prop} {h:Decidable c} (a: ¬c) {α:Sort _} {t e:α}:ite c t e=e:=if_neg a
theorem av {c:Prop} {h:Decidable c} (hc:c) {α:Sort _} {t e:α}:ite c t e=t:=if_pos hc
abbrev aa (x:Int):AB:= .int .i64 x
abbrev ay (x:Int):AB:= .int .u64 x
abbrev ag (x:Option AF):AB:= .pointer x
end Go.RX
