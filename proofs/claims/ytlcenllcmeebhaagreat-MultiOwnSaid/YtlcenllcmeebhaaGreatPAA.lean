import Derived.CallsIn
import Derived.OrdersIn
import Derived.Below
import Derived.Laws.Sem
import Derived.KernelRfl
import Derived.Laws.StructEq
import Derived.Laws.Small
import Derived.WalkSpells
import Derived.ChangeKeysEq
import Derived.RangeFuncLeaves
import Derived.Laws.World
import Derived.Laws.NewFold
import Derived.OwnWalkIn
import Derived.ChangeMaps4
import Derived.Maps.RangeRun
import Derived.RangeFuncRecord
import Derived.LaidEqlPtr
import Derived.Conc.LoneSelect
import Derived.Laws.Append
import Derived.Test.YtlcenllcmeebhaaGreatProg
import Derived.Deep.Slices
import Derived.ProofKit
import Derived.OpenShut
/-! What the statement leans on: texts joined and shortened by a program of mine. -/
set_option linter.unusedVariables false
set_option linter.unusedSimpArgs false
open Go renaming World->A0,Value->A2,Addr->AF,TypeId->AJ,Program->AM,IntKind->B1,FuncId->B2,MapEntry->DE
open False renaming elim->AC
open Go.Sem renaming run_bind->Ae,run_pure->Ar
open Go.Result renaming andThen_ok->Aq,andThen->DL
open Go.Region renaming ready->B3,wanted->Bs,binds->Db,schedule->GF,linearise->N4
open List renaming range->B4,mem_filter->Cg,mem_cons->Ct,all_eq_true->Dq,mem_range->Ds,mem_append->E4,length_append->E5,mem_map->GG,getElem?_cons_zero->GH,map_toArray->GJ,map_cons->GS,map_nil->Ga,range'->Gd,countP_singleton->Gi,all_cons->IB,getElem?_eq_getElem->IP,mem_cons_self->IR,getElem?_toArray->In,getElem?_cons_succ->Ip,range'_succ->Iy,countP_append->J3,length_cons->N5,take_add_one->NK,take_set_of_le->NM,drop_set_of_lt->NR,mem_cons_of_mem->NU,find?_some->NW,filter_cons->NX,range_eq_range'->O2,countP_eq_zero->OD,range_succ->OK,flatMap_cons->OO,take_left'->Od
open Go.Op renaming equalIn->B5
open Bool renaming and_eq_true->BW,false_eq_true->F6,or_eq_true->FY,not_eq_true'->Gj,or_false->J4,not_false->Ok
open Array renaming getElem?_eq_some_iff->Bx,getElem?_setIfInBounds_ne->DV,replicate->F8,getD_eq_getD_getElem?->Fk,all_eq_true_iff_forall_mem->H4,mk->J5,ext'->J7,mapM_eq_mapM_toList->J9,getD->K1,getElem?_eq_getElem->Kb,mem_of_getElem?->Kd,getElem?_modify->Ol
open BitVec renaming ofInt->Ci
open Go.Act renaming put->Cj,put_comm->Dw,eval->Ft
open Option.some renaming injEq->DA
open Go.MapKept renaming run_getObj_map->DB,run_checkKey->Dh,run_findKey->Dk,IsKey->H5,run_setObj_map->H6
open Nat renaming le_refl->Dn,blt->FB,add_mul->FG,testBit_or->Fy,zero_add->Kh,strongRecOn->Ko,mul_le_mul_right->Oq,lt_of_lt_of_le->Ox,div_eq_of_lt->Oz
open Go.Fence renaming wide->Do
open Go.IntKind renaming i64->Dx,u64->PP,bits->PS,signed->Pc
open Go.Calls renaming mono->FH
open Go.Instr renaming findNow->FJ,lookup->FS,fill->H7,indexAt->HB,sureAddr->Hb,index->Hq,extract->Hr,mapUpdate->Ks,sliceBound->Pl,sliceBounds->Pp,sliceAt->Rg,makeSlice->S0,buildSlice->S1
open Go.World renaming putObj->FV,cell?->LL,setCell->M4
open Go.Builtin renaming firstCells->FW,len_->Fz,zeroCells->G1,lenOf->M5,append_->Mr,delete_->N2,nextslicecap->S2,copy_->T0
open Go.Region.linearise renaming go->FX
open Option renaming map_some->GD,getD_some->I1,map_none->T1
open Go.Conc renaming G->I2,solo->T3,rcase->T9
namespace Go.RX
open Go.RowKit
def Ext (w w':A0):Prop:=Below w.heap.size w w'
theorem Ext.refl (w:A0):Ext w w:=Below.refl _ w
theorem Ext.trans {a b c:A0} (h:Ext a b) (k:Ext b c):Ext a c:=Below.trans h (Below.mono k h.size)
theorem Ext.drew (w:A0):Ext w {w with drawn:=w.drawn+1}:=⟨rfl,rfl,rfl,Dn _,λ_ _=>rfl⟩
theorem Ext.alloc (w:A0) (o:Obj):Ext w (w.alloc o):=Below.alloc (Below.refl _ w) (Dn _) o
theorem Ext.size {w w':A0} (h:Ext w w'):w.heap.size<=w'.heap.size:=Below.size h
theorem Ext.block {w w':A0} (h:Ext w w') {k:Nat} (a:k<w.heap.size):w'.heap[k]? =w.heap[k]? :=Below.block h k a
theorem Ext.obj {w w':A0} (h:Ext w w') {k:Nat} {o:Obj} (a:w.heap[k]? =some o):w'.heap[k]? =some o:=by
 rw[h.block (Bx.1 a).1];exact a
theorem GR {w:A0} {a:AF} {v:A2} (h:w.cell? a=some v):a.block<w.heap.size:=by
 unfold LL at h;cases b:w.heap[a.block]? with
 |none=>simp[b] at h
 |some o=>exact(Bx.1 b).1
theorem Ext.cell {w w':A0} (h:Ext w w') {a:AF} {v:A2} (b:w.cell? a=some v):w'.cell? a=some v:=by
 rw[Below.cell h (GR b)];exact b
inductive Sc where
 |int (k:B1)|bool|str|ptr|slice|map|chan|func|Ac (f:B2) (n:Nat)|XQ
 deriving DecidableEq
@[reducible] def DJ:Nat->Type
 |0=>Unit
 |n+1=>Option AF×DJ n
def xx:(n:Nat)->DJ n->List A2
 |0, _=>[]
 |n+1,x=> .pointer x.1::xx n x.2
def mY:(n:Nat)->List A2->Option (DJ n)
 |0,[]=>some ()
 |n+1,.pointer a::r=>match mY n r with
  |some y=>some (a,y)
  |none=>none
 | _, _=>none
theorem tW: ∀{n:Nat} {l:List A2} {x:DJ n},mY n l=some x->xx n x=l
 |0,[], _, _=>rfl
 |0, _:: _, _,h=>by simp[mY] at h
 |n+1,[], _,h=>by simp[mY] at h
 |n+1,v::r,x,h=>by
  cases v<;>simp only[mY] at h<;>(try (cases h;done));split at h
  ·rename_i y a;cases h;simp only[xx,tW a]
  ·cases h
@[reducible] def Sc.T:Sc->Type
 | .int _=>Int
 | .bool=>Bool
 | .str=>ByteArray
 | .ptr=>Option AF
 | .slice=>Option AF×Nat×Nat
 | .map=>Option Nat
 | .chan=>Option Nat
 | .func=>A2
 | .Ac _ n=>DJ n
 | .XQ=>Nat
def Sc.iu:(s:Sc)->s.T->A2
 | .int k,n=> .int k n
 | .bool,b=> .bool b
 | .str,s=> .string s
 | .ptr,a=> .pointer a
 | .slice,x=> .slice x.1 x.2.1 x.2.2
 | .map,r=> .map r
 | .chan,r=> .chan r
 | .func,v=>v
 | .Ac f n,x=> .func (.func f) #[] ⟨xx n x⟩
 | .XQ,y=> .func (.yield y) #[] #[]
def Sc.proj:(s:Sc)->A2->Option s.T
 | .int k,.int d n=>if k=d then some n else none
 | .bool,.bool b=>some b
 | .str,.string s=>some s
 | .ptr,.pointer a=>some a
 | .slice,.slice a n c=>some (a,n,c)
 | .map,.map r=>some r
 | .chan,.chan r=>some r
 | .func,v=>some v
 | .Ac f n,.func (.func f') ⟨[]⟩ ⟨l⟩=>if f=f' then mY n l else none
 | .XQ,.func (.yield y) ⟨[]⟩ ⟨[]⟩=>some y
 | _, _=>none
theorem Sc.iG {s:Sc} {v:A2} {x:s.T} (h:s.proj v=some x):s.iu x=v:=by
 cases s with
 |Ac f n=>
  cases v with
  |func fn first a=>
   obtain⟨b⟩:=first
   obtain⟨c⟩:=a;cases fn<;>cases b<;>simp only[Sc.proj] at h<;>(try (cases h;done));split at h
   ·subst_vars
    simp only[Sc.iu,tW h]
   ·cases h
  | _=>simp[Sc.proj] at h
 |XQ=>
  cases v with
  |func fn first a=>
   obtain⟨b⟩:=first
   obtain⟨c⟩:=a;cases fn<;>cases b<;>cases c<;>simp only[Sc.proj] at h<;>first|(cases h;done)|(cases h;rfl)
  | _=>simp[Sc.proj] at h
 | _=>
   cases v<;>simp only[Sc.proj] at h<;>
    first
     |(cases h;rfl)
     |(split at h<;>cases h;subst_vars;rfl)
     |(cases h)
@[reducible] def jX:List Sc->Type
 |[]=>Unit
 |s::r=>s.T×jX r
def bu:(l:List Sc)->jX l->List A2
 |[], _=>[]
 |s::r,x=>s.iu x.1::bu r x.2
def mj:(l:List Sc)->List A2->Option (jX l)
 |[],[]=>some ()
 |s::r,v::vs=>match s.proj v,mj r vs with
  |some x,some y=>some (x,y)
  | _, _=>none
 | _, _=>none
theorem pP: ∀{l:List Sc} {vs:List A2} {x:jX l},mj l vs=some x->bu l x=vs
 |[],[], _, _=>rfl
 |[], _:: _, _,h=>by simp[mj] at h
 | _:: _,[], _,h=>by simp[mj] at h
 |s::r,v::vs,x,h=>by
  simp only[mj] at h;cases h1:s.proj v with
  |none=>simp[h1] at h
  |some a=>
   cases c:mj r vs with
   |none=>simp[h1,c] at h
   |some b=>
    simp only[h1,c] at h;cases h;simp only[bu,Sc.iG h1,pP c]
inductive El where
 |one (s:Sc)|agg (l:List Sc)
@[reducible] def El.T:El->Type
 | .one s=>s.T
 | .agg l=>jX l
def El.iu:(e:El)->e.T->A2
 | .one s,x=>s.iu x
 | .agg l,x=> .agg ⟨bu l x⟩
def El.proj:(e:El)->A2->Option e.T
 | .one s,v=>s.proj v
 | .agg l,.agg ⟨vs⟩=>mj l vs
 | .agg _, _=>none
theorem El.iG {e:El} {v:A2} {x:e.T} (h:e.proj v=some x):e.iu x=v:=by
 cases e with
 |one s=>exact Sc.iG h
 |agg l=>
  cases v with
  |agg cs=>obtain⟨vs⟩:=cs;exact congrArg (λl=>Value.agg ⟨l⟩) (pP h)
  | _=>simp[El.proj] at h
@[reducible] def oG:List El->Type
 |[]=>Unit
 |e::r=>e.T×oG r
def u0:(l:List El)->oG l->List A2
 |[], _=>[]
 |e::r,x=>e.iu x.1::u0 r x.2
def nN:(l:List El)->List A2->Option (oG l)
 |[],[]=>some ()
 |s::r,v::vs=>match s.proj v,nN r vs with
  |some x,some y=>some (x,y)
  | _, _=>none
 | _, _=>none
theorem vR: ∀{l:List El} {vs:List A2} {x:oG l},nN l vs=some x->u0 l x=vs
 |[],[], _, _=>rfl
 |[], _:: _, _,h=>by simp[nN] at h
 | _:: _,[], _,h=>by simp[nN] at h
 |s::r,v::vs,x,h=>by
  simp only[nN] at h;cases h1:s.proj v with
  |none=>simp[h1] at h
  |some a=>
   cases c:nN r vs with
   |none=>simp[h1,c] at h
   |some b=>
    simp only[h1,c] at h;cases h;simp only[u0,El.iG h1,vR c]
inductive Sh where
 |el (e:El)|bA (l:List El)
@[reducible] def Sh.T:Sh->Type
 | .el e=>e.T
 | .bA l=>oG l
def Sh.iu:(s:Sh)->s.T->A2
 | .el e,x=>e.iu x
 | .bA l,x=> .tuple ⟨u0 l x⟩
def Sh.proj:(s:Sh)->A2->Option s.T
 | .el e,v=>e.proj v
 | .bA l,.tuple ⟨vs⟩=>nN l vs
 | .bA _, _=>none
theorem Sh.iG {e:Sh} {v:A2} {x:e.T} (h:e.proj v=some x):e.iu x=v:=by
 cases e with
 |el s=>exact El.iG h
 |bA l=>
  cases v with
  |tuple cs=>obtain⟨vs⟩:=cs;exact congrArg (λl=>Value.tuple ⟨l⟩) (vR h)
  | _=>simp[Sh.proj] at h
def AP (P:AM):Nat->AJ->Option (List Sc)
 |0, _=>none
 |d+1,t=>match P.underlying t with
  |some (.int k)=>some [.int k]
  |some .bool=>some [.bool]
  |some .string=>some [.str]
  |some (.pointer _)=>some [.ptr]
  |some (.slice _)=>some [.slice]
  |some (.map _ _)=>some [.map]
  |some (.chan _ _)=>some [.chan]
  |some (.func _ _ _)=>some [.func]
  |some (.struct fs)=>fs.toList.foldr (λf c=>match AP P d f.type,c with|some a,some b=>some (a++b)| _, _=>none) (some [])
  |some (.array n e)=>match AP P d e with
   |some a=>if n<=64 then some (List.replicate n a).flatten else none
   |none=>none
  | _=>none
def uS (P:AM) (t:AJ):Option El:=
 match P.underlying t with
 |some (.struct _)|some (.array _ _)=>(AP P 20 t).map .agg
 | _=>match AP P 20 t with
   |some [s]=>some (.one s)
   | _=>none
def Xj (P:AM):List AJ->Option (List El)
 |[]=>some []
 |t::r=>match uS P t,Xj P r with
  |some e,some l=>some (e::l)
  | _, _=>none
def aa7 (P:AM) (f:B2):Sh:=
 match P.funcs[f]? with
 |some fn=>match fn.resultTypes.toList with
  |[t]=>match uS P t with
   |some e=> .el e
   |none=> .bA []
  |ts=>match Xj P ts with
   |some l=> .bA l
   |none=> .bA []
 |none=> .bA []
def aH (k:B1) (x y:Int):Int:=k.wrap (x+y)
def a6 (k:B1) (x y:Int):Int:=k.wrap (x - y)
def fX (k:B1) (x y:Int):Int:=k.wrap (x*y)
def wV (k:B1) (x y:Int):Int:=k.wrap (x.tdiv y)
def jY (x y:Int):Int:=x.tmod y
def mw (k:B1) (x y:Int):Int:=k.wrap (Ci k.bits x &&& Ci k.bits y).toNat
def orI (k:B1) (x y:Int):Int:=k.wrap (Ci k.bits x ||| Ci k.bits y).toNat
def aay (k:B1) (x y:Int):Int:=k.wrap (Ci k.bits x ^^^ Ci k.bits y).toNat
def gS (k:B1) (x y:Int):Int:=k.wrap (Ci k.bits x &&& ~~~ (Ci k.bits y)).toNat
def Du (k:B1) (x y:Int):Int:=k.wrap (x*2 ^ (min y.toNat k.bits))
def Kj (k:B1) (x y:Int):Int:=x.fdiv (2 ^ (min y.toNat k.bits))
def aJ (k:B1) (x:Int):Int:=k.wrap x
def aaz (k:B1) (x:Int):Int:=k.wrap (Ci k.bits (if k.signed then -1 else k.max) ^^^ Ci k.bits x).toNat
def kT (x y:Int):Int:=if y<x then y else x
def Dv (x y:Int):Int:=if y>x then y else x
structure PR where
 ob:Option Prop
 v:A2
def pH:Operand->Bool
 | .const (.int _ n)=>decide (n≠0)
 | _=>false
def qc:Operand->Bool
 | .const (.int _ n)=>decide (0<=n)
 | _=>false
def kU:Operand->Bool
 | .const (.pointer none)| .const (.slice none _ _)| .const (.map none)| .const .nilFunc=>true
 | _=>false
def O5 (op:BinOp) (k:B1) (x y:Int) (a:Operand):Option PR:=
 match op with
 | .add=>some ⟨none,.int k (aH k x y)⟩
 | .sub=>some ⟨none,.int k (a6 k x y)⟩
 | .mul=>some ⟨none,.int k (fX k x y)⟩
 | .quo=>some ⟨if pH a then none else some (y≠0),.int k (wV k x y)⟩
 | .rem=>some ⟨if pH a then none else some (y≠0),.int k (jY x y)⟩
 | .and=>some ⟨none,.int k (mw k x y)⟩
 | .or=>some ⟨none,.int k (orI k x y)⟩
 | .xor=>some ⟨none,.int k (aay k x y)⟩
 | .andNot=>some ⟨none,.int k (gS k x y)⟩
 | .eql=>some ⟨none,.bool (x==y)⟩
 | .neq=>some ⟨none,.bool (x != y)⟩
 | .lss=>some ⟨none,.bool (decide (x<y))⟩
 | .leq=>some ⟨none,.bool (decide (x<=y))⟩
 | .gtr=>some ⟨none,.bool (decide (x>y))⟩
 | .geq=>some ⟨none,.bool (decide (x>=y))⟩
 | _=>none
def km (P:AM) (t:AJ):Option Bool:=
 match P.underlying t with
 |some (.struct _)|some (.array _ _)=>some true
 |some _=>some false
 |none=>none
def qW (P:AM) (t:AJ) (cs:List A2) (off:Nat):Option A2:=
 match km P t,P.info? t with
 |some true,some i=>some (.agg ⟨(cs.drop off).take i.size⟩)
 |some false, _=>cs[off]?
 | _, _=>none
def Og (P:AM) (g:AJ->A2->A2->Option Bool) (xs ys:List A2):List Field->Option Bool
 |[]=>some true
 |f::fs=>if f.name≠ "_" then
   match qW P f.type xs f.offset,qW P f.type ys f.offset with
   |some a,some b=>match g f.type a b,Og P g xs ys fs with
    |some r,some s=>some (r&&s)
    | _, _=>none
   | _, _=>none
  else Og P g xs ys fs
def eqV (P:AM):Nat->AJ->A2->A2->Option Bool
 |0, _, _, _=>none
 |d+1,t,x,y=>
  match P.underlying t with
  |some .bool=>match x,y with
   | .bool a,.bool b=>some (a==b)
   | _, _=>none
  |some (.int _)=>match x,y with
   | .int k a,.int c b=>if k=c then some (a==b) else none
   | _, _=>none
  |some .string=>match x,y with
   | .string a,.string b=>some (a==b)
   | _, _=>none
  |some (.struct fs)=>match x,y with
   | .agg ⟨xs⟩,.agg ⟨ys⟩=>if P.stoodInHeld t then none else Og P (eqV P d) xs ys fs.toList
   | _, _=>none
  | _=>none
def YE (P:AM) (op:BinOp) (t:AJ) (d c:Operand) (x y:A2):Option PR:=
 match x,y with
 | .int k a,.int e b=>
   match op with
   | .shl=>some ⟨if qc c then none else some (0<=b),.int k (Du k a b)⟩
   | .shr=>some ⟨if qc c then none else some (0<=b),.int k (Kj k a b)⟩
   |op=>if k=e then O5 op k a b c else none
 | .bool a,.bool b=>
   match op,P.underlying t with
   | .eql,some .bool=>some ⟨none,.bool (a==b)⟩
   | .neq,some .bool=>some ⟨none,.bool (!(a==b))⟩
   | _, _=>none
 | .pointer p,.pointer q=>
   match op,P.underlying t with
   | .eql,some (.pointer _)=>if kU c then some ⟨none,.bool p.isNone⟩ else if kU d then some ⟨none,.bool q.isNone⟩ else none
   | .neq,some (.pointer _)=>if kU c then some ⟨none,.bool (!p.isNone)⟩ else if kU d then some ⟨none,.bool (!q.isNone)⟩ else none
   | _, _=>none
 | .slice p _ _,.slice q _ _=>
   match op,P.underlying t with
   | .eql,some (.slice _)=>if kU c then some ⟨none,.bool p.isNone⟩ else if kU d then some ⟨none,.bool q.isNone⟩ else none
   | .neq,some (.slice _)=>if kU c then some ⟨none,.bool (!p.isNone)⟩ else if kU d then some ⟨none,.bool (!q.isNone)⟩ else none
   | _, _=>none
 | .map p,.map q=>
   match op,P.underlying t with
   | .eql,some (.map _ _)=>if kU c then some ⟨none,.bool p.isNone⟩ else if kU d then some ⟨none,.bool q.isNone⟩ else none
   | .neq,some (.map _ _)=>if kU c then some ⟨none,.bool (!p.isNone)⟩ else if kU d then some ⟨none,.bool (!q.isNone)⟩ else none
   | _, _=>none
 | .string a,.string b=>
   match op with
   | .eql=>some ⟨none,.bool (a==b)⟩
   | .neq=>some ⟨none,.bool (!(a==b))⟩
   | _=>none
 | .agg xs,.agg ys=>
   if P.eqGuardType P.depth t then none else
   match op,eqV P Op.maxDepth t (.agg xs) (.agg ys) with
   | .eql,some r=>some ⟨none,.bool r⟩
   | .neq,some r=>some ⟨none,.bool (!r)⟩
   | _, _=>none
 | _, _=>none
def unV (op:UnOp) (x:A2):Option PR:=
 match op,x with
 | .not,.bool b=>some ⟨none,.bool (!b)⟩
 | .neg,.int k n=>some ⟨none,.int k (a6 k 0 n)⟩
 | .xor,.int k n=>some ⟨none,.int k (aaz k n)⟩
 | _, _=>none
def Xk (P:AM) (src dst:AJ) (x:A2):Option PR:=
 match P.underlying src,P.underlying dst,x with
 |some _,some (.int k),.int _ n=>some ⟨none,.int k (aJ k n)⟩
 |some .string,some .string,.string s=>some ⟨none,.string s⟩
 | _, _, _=>none
def xy (P:AM) (t:AJ) (i:Nat):Option Field:=
 match P.underlying t with
 |some (.struct fs)=>fs[i]?
 | _=>none
def maps (ρ:Operand->Option A2):List Operand->Option (List A2)
 |[]=>some []
 |x::r=>match ρ x,maps ρ r with
  |some v,some l=>some (v::l)
  | _, _=>none
def AQ (ρ:Operand->Option A2):List (Nat×Operand)->Option (List (Nat×A2))
 |[]=>some []
 |(i,x)::r=>match ρ x,AQ ρ r with
  |some v,some l=>some ((i,v)::l)
  | _, _=>none
def ad (p:Option AF) (n:Nat):Option AF:=p.map (·.add n)
def Co:List A2->B1->Option (List Int)
 |[], _=>some []
 | .int a n::r,k=>if k=a then(match Co r k with|some l=>some (n::l)|none=>none) else none
 | _, _=>none
def Kk (l:List Int) (i:Int):Int:=l.getD i.toNat 0
def YF (l:List A2) (i:Int):A2:=l.getD i.toNat undef
def e8 (a:Nat->Option (Nat×Nat)) (cells:List A2):List (Nat×A2)->Option (List A2)
 |[]=>some cells
 |(i,v)::rest=>match a i with
  |none=>none
  |some (off,size)=>
   if(Nat.beq v.cells.toList.length size&&Nat.ble (off+size) cells.length)=true then e8 a (cells.take off++(v.cells.toList++cells.drop (off+size))) rest else none
def AR (a:Nat->Option (Nat×Nat)) (cells:Array A2) (ps:List (Nat×A2)):Option (Array A2):=
 match e8 a cells.toList ps with
 |some l=>some ⟨l⟩
 |none=>none
theorem DY: ∀(vs:List A2) (k off:Nat) (cs:List A2),off+k+vs.length<=cs.length->
 (vs.zipIdx k).foldl (λ(cs:Array A2) (x:A2×Nat)=>cs.setIfInBounds (off+x.2) x.1) ⟨cs⟩=⟨cs.take (off+k)++(vs++cs.drop (off+k+vs.length))⟩
 |[],k,off,cs,h=>by simp
 |v::vs,k,off,cs,h=>by
  simp only[N5] at h;simp;rw[DY vs (k+1) off (cs.set (off+k) v) (by simp;omega)];congr 1
  grind[NK,NM,NR]
theorem DZ (a:Nat->Option (Nat×Nat)): ∀(ps:List (Nat×A2)) (cells r:List A2),e8 a cells ps=some r->H7 a ⟨cells⟩ ps=some ⟨r⟩
 |[],cells,r,h=>by cases h;rfl
 |(i,v)::rest,cells,r,h=>by
  unfold e8 at h;unfold H7;split at h
  ·cases h
  ·rename_i off size b;split at h
   ·rename_i hc;simp only[BW,Nat.beq_eq,Nat.ble_eq] at hc;obtain⟨h1,e⟩:=hc;have c:v.cells.size=size:=by simpa using h1
    have d: ¬ ((decide (v.cells.size≠size)||decide (off+v.cells.size>(J5 cells).size))=true):=by
     simp[c];omega
    simp only[b,d];have:=DY v.cells.toList 0 off cells (by simp only[h1];omega);have f:v.cells.zipIdx=⟨v.cells.toList.zipIdx 0⟩:=by
     apply J7;simp
    have g:v.cells.zipIdx.foldl (λ(cs:Array A2) (x:A2×Nat)=>cs.setIfInBounds (off+x.2) x.1) ⟨cells⟩=⟨cells.take off++(v.cells.toList++cells.drop (off+size))⟩:=by
     grind
    refine Eq.trans ?_ (DZ a rest _ r h)
    grind
   ·cases h
theorem yO {a:Nat->Option (Nat×Nat)} {cells:Array A2} {ps:List (Nat×A2)} {cs:Array A2} (h:AR a cells ps=some cs):H7 a cells ps=some cs:=by
 unfold AR at h;split at h
 ·rename_i l b;cases h;exact DZ a ps _ l b
 grind
def F' (P:AM) (t:AJ) (parts:List (Nat×A2)):Option (Array A2):=
 match P.info? t with
 |some i=>match i.zero with
  |some z=>match P.underlying t with
   |some (.struct fs)=>if fs.toList.all (λf=>(P.info? f.type).isSome) then AR ((fs.toList.map λf=>(f.offset,P.cellsOf f.type))[·]?) z.cells parts else none
   |some (.array _ e)=>match P.info? e with
    |some a=>AR (λi=>some (i*a.size,a.size)) z.cells parts
    |none=>none
   | _=>none
  |none=>none
 |none=>none
def Xl (s:ByteArray) (i:Int):Int:=(((s.data.toList)[i.toNat]?.getD 0).toNat:Int)
def iP (ρ:Operand->Option A2) (d:Nat):Option Operand->Option (Int)
 |none=>some d
 |some x=>match ρ x with
  |some (.int _ n)=>some n
  | _=>none
def pop (P:AM) (ρ:Operand->Option A2) (o:Oper):Option PR:=
 match o.op with
 | .move x=>match ρ x with
   |some v=>some ⟨none,v⟩
   |none=>none
 | .assign x=>match ρ x with
   |some v=>some ⟨none,v⟩
   |none=>none
 | .nilCheck x=>match ρ x with
   |some (.pointer p)=>some ⟨some (p.isSome=true),.pointer p⟩
   |some (.func (.func f) fs cs)=>some ⟨none,.func (.func f) fs cs⟩
   | _=>none
 | .binOp op t x y _=>match ρ x,ρ y with
   |some a,some b=>YE P op t x y a b
   | _, _=>none
 | .unOp op _ x=>match ρ x with
   |some a=>unV op a
   |none=>none
 | .convert s d x=>match ρ x with
   |some a=>Xk P s d a
   |none=>none
 | .fieldAddr s x f=>match ρ x,xy P s f with
   |some (.pointer p),some fd=>match P.info? fd.type with
    |some i=>if i.size=0 then none else some ⟨some (p.isSome=true),.pointer (ad p fd.offset)⟩
    |none=>none
   | _, _=>none
 | .field t x f=>match ρ x,xy P t f with
   |some (.agg ⟨cs⟩),some fd=>match qW P fd.type cs fd.offset with
    |some v=>some ⟨none,v⟩
    |none=>none
   | _, _=>none
 | .indexAddr t x ix=>match P.underlying t,ρ x,ρ ix with
   |some (.array len e),some (.pointer p),some (.int _ i)=>match P.info? e with
    |some g=>if len<=1 then none else some ⟨some (p.isSome=true/\0<=i/\i<len),.pointer (ad p (i.toNat*g.size))⟩
    |none=>none
   |some (.slice e),some (.slice p len _),some (.int _ i)=>match P.info? e with
    |some g=>some ⟨some (p.isSome=true/\0<=i/\i<len),.pointer (ad p (i.toNat*g.size))⟩
    |none=>none
   | _, _, _=>none
 | .index t x ix=>match P.underlying t,ρ x,ρ ix with
   |some (.array len e),some (.agg ⟨cs⟩),some (.int _ i)=>match P.info? e with
    |some g=>match ix with
     | .const (.int _ n)=>if 0<=n/\n<len then(match qW P e cs (n.toNat*g.size) with
      |some v=>some ⟨none,v⟩
      |none=>none) else none
     | _=>match P.underlying e with
       |some (.int k)=>match Co cs k with
        |some j=>if cs.length=len/\g.size=1 then some ⟨some (0<=i/\i<len),.int k (Kk j i)⟩ else none
        |none=>none
       |some (.struct _)=>if cs.length=len/\g.size=1 then some ⟨some (0<=i/\i<len),.agg ⟨[YF cs i]⟩⟩ else none
       | _=>none
    |none=>none
   |some .string,some (.string s),some (.int _ i)=>some ⟨some (0<=i/\i<s.size),.int .u8 (Xl s i)⟩
   | _, _, _=>none
 | .makeFunc fn first q=>match maps ρ first.toList,maps ρ q.toList with
   |some a,some b=>some ⟨none,.func fn ⟨a⟩ ⟨b⟩⟩
   | _, _=>none
 | .extract x i=>match ρ x with
   |some (.tuple ⟨vs⟩)=>match vs[i]? with
    |some v=>some ⟨none,v⟩
    |none=>none
   | _=>none
 | .build t parts=>match AQ ρ parts.toList with
   |some ps=>match F' P t ps with
    |some cs=>some ⟨none,.agg cs⟩
    |none=>none
   |none=>none
 | .slice t x lo hi mx=>match P.underlying t,ρ x with
   |some (.slice e),some (.slice p len cap)=>match P.info? e,iP ρ 0 lo,iP ρ len hi,iP ρ cap mx with
    |some g,some l,some h,some m=>if hi.isNone&&mx.isSome then none else
     some ⟨some (0<=l/\l<=h/\h<=m/\m<=cap),.slice (if m.toNat=l.toNat then p else ad p (l.toNat*g.size)) (h.toNat - l.toNat) (m.toNat - l.toNat)⟩
    | _, _, _, _=>none
   |some .string,some (.string s)=>match iP ρ 0 lo,iP ρ s.size hi with
    |some l,some h=>if mx.isSome then none else some ⟨some (0<=l/\l<=h/\h<=s.size),.string (s.extract l.toNat h.toNat)⟩
    | _, _=>none
   | _, _=>none
 | .call c=>match c.callee with
   | .builtin .len=>match c.args.toList,c.argTypes.toList with
     |[x],[t]=>match ρ x,P.underlying t with
      |some (.slice _ n _),some (.slice _)=>some ⟨none,.int .i64 n⟩
      |some (.string s),some .string=>some ⟨none,.int .i64 s.size⟩
      |some (.agg _),some (.array n _)=>some ⟨none,.int .i64 n⟩
      | _, _=>none
     | _, _=>none
   | .builtin .min=>match c.args.toList with
     |[x,y]=>match ρ x,ρ y with
      |some (.int k a),some (.int _ b)=>some ⟨none,.int k (kT a b)⟩
      | _, _=>none
     | _=>none
   | .builtin .max=>match c.args.toList with
     |[x,y]=>match ρ x,ρ y with
      |some (.int k a),some (.int _ b)=>some ⟨none,.int k (Dv a b)⟩
      | _, _=>none
     | _=>none
   | _=>none
 | _=>none
section
variable {P:AM}
theorem bC {t:AJ} {d:TypeDesc} (h:P.underlying t=some d) (w:A0):(underlying t).run P w= .ok d w:=run_underlying h w
theorem fy {t:AJ} {i:TypeInfo} (h:P.info? t=some i) (w:A0):(typeInfo t).run P w= .ok i w:=by
 unfold typeInfo;simp[h]
theorem dq {t:AJ} {i:TypeInfo} (h:P.info? t=some i) (w:A0):(sizeOf t).run P w= .ok i.size w:=by
 unfold sizeOf;simp[fy h]
theorem vd {t:AJ} {b:Bool} (h:km P t=some b) (w:A0):(isAgg t).run P w= .ok b w:=by
 unfold km at h;unfold isAgg;cases a:P.underlying t with
 |none=>grind
 |some d=>cases d<;>simp_all [bC]
theorem k9 {t:AJ} {cs:List A2} {off:Nat} {v:A2} (h:qW P t cs off=some v) (w:A0):(part t ⟨cs⟩ off).run P w= .ok v w:=by
 unfold qW at h;unfold part;cases hb:km P t with
 |none=>grind
 |some b=>
  simp[vd hb];cases b with
  |true=>
   cases hi:P.info? t with
   |none
   |some i=>
    simp_all[dq]
  |false=>
   simp_all
theorem IU: ∀(d:Nat) (t:AJ) (x y:A2) (r:Bool),eqV P d t x y=some r-> ∀w,(B5 d t x y).run P w= .ok r w:=by
 intro d
 induction d with
 |zero=>intro t x y r h;simp[eqV] at h
 |succ d j=>
  intro t x y r h w;unfold eqV at h;split at h
  ·rename_i c;split at h
   ·cases h;simp[B5,bC c]
   ·cases h
  ·rename_i k0 c;split at h
   ·split at h
    ·cases h;subst_vars;simp[B5,bC c]
    ·cases h
   ·cases h
  ·rename_i c;split at h
   ·cases h;simp[B5,bC c]
   ·cases h
  ·rename_i fs c;split at h
   ·rename_i xs ys;split at h
    ·cases h
    ·rename_i hs;have e:P.fieldsOf t=fs:=by simp[Program.fieldsOf,c]
     rw[run_equalIn_struct w d t ⟨xs⟩ ⟨ys⟩ (by rw[e];exact c) (by simpa using hs),e];clear c e;generalize fs.toList=l at h
     induction l generalizing r with
     |nil=>simp only[Og,DA] at h;subst h;simp[Op.eqFields]
     |cons f l i=>
      simp only[Og] at h;unfold Op.eqFields;split
      ·rename_i g;rw[if_pos g] at h;split at h
       ·rename_i a b k hb;split at h
        ·rename_i m o h1 n;cases h;simp only[Ae,k9 k,k9 hb,Aq,j _ _ _ _ h1];cases m
         ·simp
         ·simp[i _ n]
        ·cases h
       ·cases h
      ·rename_i g;rw[if_neg g] at h;exact i _ h
   ·cases h
  ·cases h
end
section
variable {P:AM} {ρ:Operand->Option A2} {ev:Operand->A2}
theorem ml (a: ∀x v,ρ x=some v->ev x=v): ∀{l:List Operand} {vs:List A2},maps ρ l=some vs->l.map ev=vs
 |[],vs,h=>by grind[maps]
 |x::r,vs,h=>by
  simp[maps] at h;split at h
  ·rename_i h1 b;cases h;simp[a _ _ h1,ml a b]
  grind
theorem yP (a: ∀x v,ρ x=some v->ev x=v): ∀{l:List (Nat×Operand)} {vs:List (Nat×A2)},AQ ρ l=some vs->(l.map λ(i,x)=>(i,ev x))=vs
 |[],vs,h=>by grind[AQ]
 |i::r,vs,h=>by
  simp[AQ] at h;split at h
  ·rename_i b;have:=yP a b
   grind
  grind
theorem xj (op:BinOp) (t:AJ) (x y:Operand) (k c:B1) (a b:Int) (w:A0):(eqGuard op t x y (.int k a) (.int c b)).run P w= .ok () w:=by
 unfold eqGuard;simp
theorem A4 {t:AJ} (c:P.underlying t=some .bool) (d:Nat) (a b:Bool) (w:A0):(B5 (d+1) t (.bool a) (.bool b)).run P w= .ok (a==b) w:=by
 simp[B5,bC c]
theorem sj {t e:AJ} (a:P.underlying t=some (.pointer e)) (d:Nat) (p:Option AF) (w:A0):(B5 (d+1) t (.pointer p) (.pointer none)).run P w= .ok p.isNone w:=by
 cases p<;>simp[B5,bC a]
theorem nY {t e:AJ} (a:P.underlying t=some (.pointer e)) (d:Nat) (p:Option AF) (w:A0):(B5 (d+1) t (.pointer none) (.pointer p)).run P w= .ok p.isNone w:=by
 cases p<;>simp[B5,bC a]
theorem tX {t e:AJ} (a:P.underlying t=some (.slice e)) (d:Nat) (p:Option AF) (n c b f:Nat) (w:A0):(B5 (d+1) t (.slice p n c) (.slice none b f)).run P w= .ok p.isNone w:=by
 cases p<;>simp[B5,bC a]
theorem tY {t e:AJ} (a:P.underlying t=some (.slice e)) (d:Nat) (p:Option AF) (n c b f:Nat) (w:A0):(B5 (d+1) t (.slice none b f) (.slice p n c)).run P w= .ok p.isNone w:=by
 cases p<;>simp[B5,bC a]
theorem zo {t k e:AJ} (a:P.underlying t=some (.map k e)) (d:Nat) (p:Option Nat) (w:A0):(B5 (d+1) t (.map p) (.map none)).run P w= .ok p.isNone w:=by
 cases p<;>simp[B5,bC a]
theorem zp {t k e:AJ} (a:P.underlying t=some (.map k e)) (d:Nat) (p:Option Nat) (w:A0):(B5 (d+1) t (.map none) (.map p)).run P w= .ok p.isNone w:=by
 cases p<;>simp[B5,bC a]
theorem eB {t:AJ} {x y:A2} {r:Bool} {w:A0} (h: ∀d,(B5 (d+1) t x y).run P w= .ok r w):(Op.equal t x y).run P w= .ok r w:=h _
theorem Ur {op:BinOp} {t:AJ} {i e:Operand} {x y:A2} {pr:PR} (j: ∀v,e= .const v->y=v) (hx: ∀v,i= .const v->x=v)
 (h:YE P op t i e x y=some pr) (l: ∀p,pr.ob=some p->p) (w:A0):
 (do eqGuard op t i e x y;binOp op t x y).run P w= .ok pr.v w:=by
 unfold YE at h;split at h
 ·
  rename_i k a C b;simp only[Ae,xj,Aq];have z:pH e=true->b≠0:=by
   intro hc;unfold pH at hc;split at hc
   ·rename_i A n;have:=j _ rfl;cases this;simpa using hc
   ·cases hc
  have s:qc e=true->0<=b:=by
   intro hc;unfold qc at hc;split at hc
   ·rename_i A n;have:=j _ rfl;cases this;simpa using hc
   ·cases hc
  split at h
  ·cases h;have h0:0<=b:=by
    by_cases hc:qc e=true
    ·exact s hc
    ·exact l (0<=b) (by simp[hc])
   simp[binOp,Op.shift,Du,Int.not_lt.2 h0]
  ·cases h;have h0:0<=b:=by
    by_cases hc:qc e=true
    ·exact s hc
    ·exact l (0<=b) (by simp[hc])
   simp[binOp,Op.shift,Kj,Int.not_lt.2 h0]
  ·rename_i D E;split at h
   ·subst_vars
    cases op<;>simp only[O5] at h<;>(try cases h)<;>
     first
      |(simp[binOp,Op.intArith,aH,a6,fX];done)
      |(simp[binOp,Op.intBits,mw,orI,aay,gS];done)
      |(simp[binOp,Op.intCmp];done)
      |(have h0:b≠0:=by
         by_cases hc:pH e=true
         ·exact z hc
         ·exact l (b≠0) (by simp[hc])
        simp[binOp,Op.intDiv,h0,wV,jY])
   ·cases h
 ·
  rename_i a b;split at h
  ·rename_i c;cases h;simp[eqGuard,binOp,eB λd=>A4 c d a b w]
  ·rename_i c;cases h;simp[eqGuard,binOp,eB λd=>A4 c d a b w]
  ·cases h
 ·
  rename_i p q;have f:kU e=true->q=none:=by
   intro hc;unfold kU at hc;split at hc<;>first|(have:=j _ rfl;cases this<;>rfl)|(cases hc)
  have g:kU i=true->p=none:=by
   intro hc;unfold kU at hc;split at hc<;>first|(have:=hx _ rfl;cases this<;>rfl)|(cases hc)
  split at h
  ·rename_i c;split at h
   ·rename_i hc;cases h;rw[f hc];simp[eqGuard,binOp,eB λd=>sj c d p w]
   ·split at h
    ·rename_i hc;cases h;rw[g hc];simp[eqGuard,binOp,eB λd=>nY c d q w]
    ·cases h
  ·rename_i c;split at h
   ·rename_i hc;cases h;rw[f hc];simp[eqGuard,binOp,eB λd=>sj c d p w]
   ·split at h
    ·rename_i hc;cases h;rw[g hc];simp[eqGuard,binOp,eB λd=>nY c d q w]
    ·cases h
  ·cases h
 ·
  rename_i p _ _ q _ _;have f:kU e=true->q=none:=by
   intro hc;unfold kU at hc;split at hc<;>first|(have:=j _ rfl;cases this<;>rfl)|(cases hc)
  have g:kU i=true->p=none:=by
   intro hc;unfold kU at hc;split at hc<;>first|(have:=hx _ rfl;cases this<;>rfl)|(cases hc)
  split at h
  ·rename_i c;split at h
   ·rename_i hc;cases h;rw[f hc];simp[eqGuard,binOp,eB λd=>tX c d p _ _ _ _ w]
   ·split at h
    ·rename_i hc;cases h;rw[g hc];simp[eqGuard,binOp,eB λd=>tY c d q _ _ _ _ w]
    ·cases h
  ·rename_i c;split at h
   ·rename_i hc;cases h;rw[f hc];simp[eqGuard,binOp,eB λd=>tX c d p _ _ _ _ w]
   ·split at h
    ·rename_i hc;cases h;rw[g hc];simp[eqGuard,binOp,eB λd=>tY c d q _ _ _ _ w]
    ·cases h
  ·cases h
 ·
  rename_i p q;have f:kU e=true->q=none:=by
   intro hc;unfold kU at hc;split at hc<;>first|(have:=j _ rfl;cases this<;>rfl)|(cases hc)
  have g:kU i=true->p=none:=by
   intro hc;unfold kU at hc;split at hc<;>first|(have:=hx _ rfl;cases this<;>rfl)|(cases hc)
  split at h
  ·rename_i c;split at h
   ·rename_i hc;cases h;rw[f hc];simp[eqGuard,binOp,eB λd=>zo c d p w]
   ·split at h
    ·rename_i hc;cases h;rw[g hc];simp[eqGuard,binOp,eB λd=>zp c d q w]
    ·cases h
  ·rename_i c;split at h
   ·rename_i hc;cases h;rw[f hc];simp[eqGuard,binOp,eB λd=>zo c d p w]
   ·split at h
    ·rename_i hc;cases h;rw[g hc];simp[eqGuard,binOp,eB λd=>zp c d q w]
    ·cases h
  ·cases h
 ·
  rename_i a b;split at h
  ·cases h;simp[eqGuard,binOp,Op.stringOp,beq_toListBytes]
  ·cases h;simp[eqGuard,binOp,Op.stringOp,beq_toListBytes]
  ·cases h
 ·
  rename_i xs ys;split at h
  ·cases h
  ·rename_i hg;have B:P.eqGuardType P.depth t=false:=by simpa using hg
   have u: ∀op:BinOp,(eqGuard op t i e (.agg xs) (.agg ys)).run P w= .ok () w:=by
    intro op;unfold eqGuard;cases op<;>simp[B]
   split at h
   ·rename_i r m;cases h;simp only[Ae,u,Aq];have o:(Op.equal t (.agg xs) (.agg ys)).run P w= .ok r w:=IU (P:=P) _ _ _ _ _ m w;simp[binOp,o]
   ·rename_i r m;cases h;simp only[Ae,u,Aq];have o:(Op.equal t (.agg xs) (.agg ys)).run P w= .ok r w:=IU (P:=P) _ _ _ _ _ m w;simp[binOp,o]
   ·cases h
 ·cases h
end
section
variable {P:AM} {ρ:Operand->Option A2} {ev:Operand->A2}
theorem zq: ∀{cs:List A2} {k:B1} {a:List Int},Co cs k=some a-> ∀i,i<cs.length->cs[i]? =some (.int k (a.getD i 0))
 |c::cs,k,a,h,i,hi=>by
  unfold Co at h;split at h
  grind
  ·rename_i e n r f b;cases b;split at h
   ·subst_vars
    split at h
    ·rename_i l d;cases h;cases i with
     |zero=>simp
     |succ i=>simpa using zq d i (by grind)
    grind
   ·cases h
  ·cases h
theorem vS {t:AJ} {f:Nat} {fd:Field} (a:xy P t f=some fd): ∃fs,P.underlying t=some (.struct fs)/\fs[f]? =some fd:=by
 grind[xy]
theorem EW {t e:AJ} {a:TypeInfo} (p:AF) (k:B1) (i:Int) (len:Nat) (c: ¬ len<=1) (b:P.underlying t=some (.array len e)) (hi:P.info? e=some a) (h0:0<=i) (h1:i<len) (w:A0):
 (HB t (.pointer (some p)) (.int k i)).run P w= .ok (.pointer (some (p.add (i.toNat*a.size)))) w:=by
 simp[HB,asIntOf,Hb,bC b,dq hi,h0,h1]
theorem run_indexAt_slice {t e:AJ} {a:TypeInfo} (p:AF) (k:B1) (i:Int) (len cap:Nat) (b:P.underlying t=some (.slice e)) (hi:P.info? e=some a) (h0:0<=i) (h1:i<len) (w:A0):
 (HB t (.slice (some p) len cap) (.int k i)).run P w= .ok (.pointer (some (p.add (i.toNat*a.size)))) w:=by
 simp[HB,asIntOf,bC b,dq hi,h0,h1]
theorem fc {α:Type} {p:Option α} (h:p.isSome=true): ∃a,p=some a:=Option.isSome_iff_exists.1 h
theorem k_ (a: ∀x v,ρ x=some v->ev x=v) {d:Nat} {x:Operand} {n:Int} (h:iP ρ d (some x)=some n): ∃k,ev x= .int k n:=by grind[iP]
theorem run_sliceBound (k:B1) (n:Int) (y:Nat) (c:BoundsCode) (h0:0<=n) (h1:n<=y) (w:A0):(Pl (.int k n) y c).run P w= .ok n.toNat w:=by
 simp[Pl,asIntOf,h0,h1]
theorem ow (b: ∀x v,ρ x=some v->ev x=v) {isS:Bool} {len cap:Nat} {lo hi mx:Option Operand} {l h m:Int}
 (a:iP ρ 0 lo=some l) (c:iP ρ len hi=some h) (g:iP ρ cap mx=some m) (hx: ¬ (hi.isNone=true/\mx.isSome=true))
 (h0:0<=l) (h1:l<=h) (n:h<=m) (o:m<=cap) (w:A0):
 (Pp isS len cap (lo.map ev) (hi.map ev) (mx.map ev)).run P w= .ok (l.toNat,h.toNat,m.toNat) w:=by
 unfold Pp;have a1:h<=((m.toNat:Nat):Int):=by omega
 have p:l<=((h.toNat:Nat):Int):=by omega
 have i:0<=h:=by omega
 have q:0<=m:=by omega
 cases mx with
 |none=>
  simp only[iP,DA] at g;subst g;have j:h<=(cap:Int):=n;cases hi with
  |none=>
   simp only[iP,DA] at c;subst c;cases lo with
   |none=>simp only[iP,DA] at a;subst a;simp
   |some x=>obtain⟨k,d⟩:=k_ b a;simp[d,run_sliceBound k l len _ h0 h1]
  |some y=>
   obtain⟨e,f⟩:=k_ b c;cases lo with
   |none=>simp only[iP,DA] at a;subst a;cases isS<;>simp[f,run_sliceBound e h cap _ i j]
   |some x=>obtain⟨k,d⟩:=k_ b a;cases isS<;>simp[d,f,run_sliceBound e h cap _ i j,run_sliceBound k l h.toNat _ h0 p]
 |some z=>
  obtain⟨r,s⟩:=k_ b g;cases hi with
  |none=>simp at hx
  |some y=>
   obtain⟨e,f⟩:=k_ b c;cases lo with
   |none=>simp only[iP,DA] at a;subst a;cases isS<;>simp[f,s,run_sliceBound r m cap _ q o,run_sliceBound e h m.toNat _ i a1]
   |some x=>obtain⟨k,d⟩:=k_ b a;simp_all[run_sliceBound]
theorem P5 {s:ByteArray} {i:Int} (h0:0<=i) (h1:i<s.size):s[i.toNat]? =some (s.data[i.toNat]?.getD 0):=by
 simp_all
 rfl
theorem run_places: ∀(l:List Field),(l.all λf=>(P.info? f.type).isSome)=true-> ∀w:A0,
 (l.mapM (m:=Sem) λf=>do pure (f.offset, <-sizeOf f.type)).run P w= .ok (l.map λf=>(f.offset,P.cellsOf f.type)) w
 |[], _,w=>by rfl
 |f::l,h,w=>by
  simp only[IB,BW] at h;obtain⟨i,hi⟩:=fc h.1;have hs:P.cellsOf f.type=i.size:=by simp[Program.cellsOf,hi]
  have a:=run_places l
  simp_all[dq]
theorem P6 {t:AJ} {parts:Array (Nat×A2)} {ps:List (Nat×A2)} {cs:Array A2} (e:parts.toList=ps) (h:F' P t ps=some cs) (w:A0):
 (Instr.build t parts).run P w= .ok (.agg cs) w:=by
 unfold F' at h;split at h
 ·rename_i i hi;split at h
  ·rename_i z b;unfold Instr.build zeroValue;simp only[Ae,fy hi,Aq,b,Ar];split at h
   ·rename_i fs a;split at h
    ·rename_i c;have f:=run_places (P:=P) fs.toList (by simpa using c) w
     simp_all[J9,yO,bC]
    ·cases h
   ·rename_i n el a;split at h
    ·rename_i g d;simp only[bC a,Aq,Ae,dq d,e,yO h];rfl
    ·cases h
   ·cases h
  ·cases h
 ·cases h
theorem O6 {o:Oper} {pr:PR} (g: ∀x v,ρ x=some v->ev x=v) (hc: ∀v,ev (.const v)=v) (h:pop P ρ o=some pr) (r: ∀p,pr.ob=some p->p) (w:A0):
 (execOp ev o).run P w= .ok (.value pr.v) w:=by
 obtain⟨dst,op,type,pos,after,guard⟩:=o;unfold pop at h;cases op<;>simp only at h<;>(try (cases h;done))<;>unfold execOp<;>simp only
 case move x=>
  split at h
  ·rename_i v hv;cases h;simp[g _ _ hv]
  ·cases h
 case assign x=>
  split at h
  ·rename_i v hv;cases h;simp[g _ _ hv]
  ·cases h
 case build t parts=>
  split at h
  ·rename_i ps Q;split at h
   ·rename_i cs fe;cases h;have e:=yP g Q;have e':(parts.map λ(i,x)=>(i,ev x)).toList=ps:=by rw[<-e];simp
    simp[P6 e' fe]
   ·cases h
  ·cases h
 case nilCheck x=>
  split at h
  ·rename_i p hv;cases h;obtain⟨a,rfl⟩:=fc (r _ rfl);simp[g _ _ hv]
  ·rename_i f fs cs hv;cases h;simp[g _ _ hv]
  ·cases h
 case binOp op t x y yt=>
  split at h
  ·rename_i a b q hb;have R:=Ur (P:=P) (λv hv=>by rw[<-g _ _ hb,hv,hc]) (λv hv=>by rw[<-g _ _ q,hv,hc]) h r w;simp only[g _ _ q,g _ _ hb];rw[Ae,R];rfl
  ·cases h
 case unOp op t x=>
  split at h
  ·rename_i a q;simp only[g _ _ q];unfold unV at h;split at h<;>(try cases h)<;>simp[Op.unary,Op.intArith,Op.intBits,a6,aaz]
  ·cases h
 case convert s d x=>
  split at h
  ·rename_i a q;simp only[g _ _ q];unfold Xk at h;split at h
   ·rename_i ds k k' n h1 z;cases h;cases ds<;>simp[convert,bC h1,bC z,Conv.intToInt,aJ]
   ·rename_i z G;cases h;simp[convert,bC z,bC G]
   ·cases h
  ·cases h
 case makeFunc fn first N=>
  split at h
  ·rename_i a b q hb;cases h;have H:=ml g q;have S:=ml g hb;have T:first.map ev=⟨a⟩:=by rw[<-H];cases first;simp
   have U:N.map ev=⟨b⟩:=by rw[<-S];cases N;simp
   simp[Instr.makeFunc,T,U]
  ·cases h
 case slice t x lo hi mx=>
  split at h
  ·rename_i e p len cap j hx;split at h
   ·rename_i B l V m W C I X;split at h
    ·cases h
    ·rename_i O;cases h;obtain⟨h0,h1,z,G⟩:=r _ rfl;have Y: ¬ (hi.isNone=true/\mx.isSome=true):=by simpa using O
     have hb:=ow (P:=P) (isS:=true) g C I X Y h0 h1 z G w;simp only[g _ _ hx];simp[Rg,bC j,Instr.slice,hb,dq W,ad]
   ·cases h
  ·rename_i s j hx;split at h
   ·rename_i l V C I;split at h
    ·cases h
    ·rename_i O;cases h;obtain⟨h0,h1,z⟩:=r _ rfl;have Z:mx=none:=by cases mx<;>simp_all
     subst Z;have hb:=ow (P:=P) (isS:=false) (cap:=s.size) (mx:=none) g C I rfl (by simp) h0 h1 z (by simp) w;simp only[T1] at hb;simp only[g _ _ hx];simp[Rg,bC j,Instr.slice,hb]
   ·cases h
  ·cases h
 case fieldAddr s x f=>
  split at h
  ·rename_i p fd hx J;split at h
   ·rename_i i hi;split at h
    ·cases h
    ·rename_i hz;cases h;obtain⟨a,rfl⟩:=fc (r _ rfl);obtain⟨fs,j,K⟩:=vS J;simp[Instr.fieldAt,bC j,K,g _ _ hx,Hb,fieldPlace,dq hi,hz,ad]
   ·cases h
  ·cases h
 case field t x f=>
  split at h
  ·rename_i cs fd hx J;split at h
   ·rename_i v hv;cases h;obtain⟨fs,j,K⟩:=vS J;simp[Instr.field,bC j,K,g _ _ hx,asAgg,k9 hv]
   ·cases h
  ·cases h
 case indexAddr t x ix=>
  split at h
  ·rename_i len e p k i j hx u;split at h
   ·rename_i B hi;split at h
    ·cases h
    ·rename_i C;cases h;obtain⟨A,h0,h1⟩:=r _ rfl;obtain⟨a,rfl⟩:=fc A;simp[g _ _ hx,g _ _ u,EW a k i len C j hi h0 h1,ad]
   ·cases h
  ·rename_i e p len cap k i j hx u;split at h
   ·rename_i B hi;cases h;obtain⟨A,h0,h1⟩:=r _ rfl;obtain⟨a,rfl⟩:=fc A;simp[g _ _ hx,g _ _ u,run_indexAt_slice a k i len cap j hi h0 h1,ad]
   ·cases h
  ·cases h
 case index t x ix=>
  split at h
  ·rename_i len e cs k i j hx u;split at h
   ·rename_i B hi;split at h
    ·rename_i k2 n;have hn:(Value.int k2 n)= .int k i:=by rw[<-g _ _ u,hc]
     cases hn;split at h
     ·rename_i hb;split at h
      ·rename_i v hv;cases h;simp[Hq,asIntOf,bC j,g _ _ hx,hc,hb.1,hb.2,dq hi,k9 hv]
      ·cases h
     ·cases h
    ·split at h
     ·rename_i k3 L;split at h
      ·rename_i ns hns;split at h
       ·rename_i E;cases h;obtain⟨h0,h1⟩:=r _ rfl;have F:i.toNat<cs.length:=by omega
        have jE:=zq hns i.toNat F;have A:qW P e cs (i.toNat*B.size)=some (.int k3 (Kk ns i)):=by
         rw[E.2,Nat.mul_one];unfold qW;have:km P e=some false:=by unfold km;simp[L]
         simp[this,jE,Kk]
        simp[Hq,asIntOf,bC j,g _ _ hx,g _ _ u,h0,h1,dq hi,k9 A]
       ·cases h
      ·cases h
     ·rename_i fs L;split at h
      ·rename_i E;cases h;obtain⟨h0,h1⟩:=r _ rfl;have F:i.toNat<cs.length:=by omega
       have A:qW P e cs (i.toNat*B.size)=some (.agg ⟨[YF cs i]⟩):=by
        rw[E.2,Nat.mul_one];unfold qW;have:km P e=some true:=by unfold km;simp[L]
        simp only[this,hi,E.2,YF];have H:List.take 1 (List.drop i.toNat cs)=[cs.getD i.toNat undef]:=by
         rw[List.drop_eq_getElem_cons F,List.getD_eq_getElem?_getD,IP F];rfl
        rw[H]
       simp[Hq,asIntOf,bC j,g _ _ hx,g _ _ u,h0,h1,dq hi,k9 A]
      ·cases h
     ·cases h
   ·cases h
  ·rename_i s k i j hx u;cases h;obtain⟨h0,h1⟩:=r _ rfl;have hg:=P5 h0 h1;simp[Hq,asIntOf,bC j,g _ _ hx,g _ _ u,h0,hg,Xl]
  ·cases h
 case extract x i=>
  split at h
  ·rename_i vs hx;split at h
   ·rename_i v hv;cases h;simp[g _ _ hx,Hr,hv]
   ·cases h
  ·cases h
 case call c=>
  obtain⟨callee,args,argTypes⟩:=c;simp only at h;split at h
  ·
   split at h
   ·rename_i x t q ht;have D:args= #[x]:=by cases args;simp_all
    have et:argTypes= #[t]:=by cases argTypes;simp_all
    subst D et;split at h<;>(try cases h)
    ·rename_i hx j;simp[resolve,invoke,builtin,Fz,g _ _ hx,bC j,goInt]
    ·rename_i hx j;simp[resolve,invoke,builtin,Fz,g _ _ hx,bC j,goInt]
    ·rename_i hx j;simp[resolve,invoke,builtin,Fz,g _ _ hx,bC j,goInt]
   ·cases h
  ·
   split at h
   ·rename_i x y q;have D:args= #[x,y]:=by cases args;simp_all
    subst D;split at h<;>(try cases h);rename_i hx M;simp[resolve,invoke,builtin,Builtin.min_,Builtin.min2,g _ _ hx,g _ _ M,kT]
   ·cases h
  ·split at h
   ·rename_i x y q;have D:args= #[x,y]:=by cases args;simp_all
    subst D;split at h<;>(try cases h);rename_i hx M;simp[resolve,invoke,builtin,Builtin.max_,Builtin.max2,g _ _ hx,g _ _ M,Dv]
   ·cases h
  ·cases h
end
structure bS where
 t:Nat
 ch:List (Nat×Bool)
 g:Option Bool
 v:A2
 k:Option Bool
def cd:List bS->Nat->Option bS
 |[], _=>none
 |e::r,t=>if e.t=t then some e else cd r t
structure Entry (P:AM) where
 f:B2
 fn:List A2->Option (Prop×A2)
 ok: ∀args pre v,fn args=some (pre,v)->pre-> ∀w,Calls P f ⟨args⟩ w (λe w'=>e= .returned v/\Ext w w')
structure dG (P:AM) where
 sP:List (Entry P)
 quiet:List B2
 sh:List (B2×Sh)
 mixed:P.follows .mixedOrders=true
 vG:Bool:=false
 cl:List (AJ×Sc):=[]
 dyn:Option Sh:=none
def O7:List (B2×Sh)->B2->Option Sh
 |[], _=>none
 |(g,s)::r,f=>if g=f then some s else O7 r f
def uN {P:AM} (C:dG P) (f:B2):Sh:=
 match O7 C.sh f with
 |some s=>s
 |none=>aa7 P f
def O8:List (AJ×Sc)->AJ->Option Sc
 |[], _=>none
 |(g,s)::r,t=>if g=t then some s else O8 r t
def elC {P:AM} (C:dG P) (t:AJ):Option El:=
 match uS P t with
 |some (.one .func)=>match O8 C.cl t with
  |some s=>some (.one s)
  |none=>some (.one .func)
 |e=>e
def yg {P:AM}:List (Entry P)->B2->Option (Entry P)
 |[], _=>none
 |e::r,f=>if e.f=f then some e else yg r f
def dt (first:Array A2) (a:List A2) (cap:Array A2):List A2:=first.toList++(a++cap.toList)
def bL (P:AM) (a:B2):Bool:=
 match P.funcs[a]? with
 |some fn=>fn.body.isSome&& !(fn.name== "runtime.NumGoroutine")
 |none=>false
def af (P:AM) (f:B2) (args:List A2) (w:A0) (v:A2):Prop:=
 ∀w',Ext w w'->Calls P f ⟨args⟩ w' (λe a=>e= .returned v/\Ext w' a)
def aE (P:AM) (f:B2) (s:Sh) (args:List A2) (w:A0) (R:s.T->A0->Prop):Prop:=
 Calls P f ⟨args⟩ w (λe w'=> ∃x:s.T,e= .returned (s.iu x)/\R x w')
theorem aE.mono {P:AM} {f:B2} {s:Sh} {args:List A2} {w:A0} {R a:s.T->A0->Prop} (h:aE P f s args w R) (k: ∀x w',R x w'->a x w'):aE P f s args w a:=
 FH h (by grind)
def dw (_:Nat) (_:Op):Prop:=False
def cU (w:A0) (p:Option AF):(e:El)->e.T->Prop
 | .one s,x=> ∃a,p=some a/\w.cell? a=some (s.iu x)
 | .agg l,x=> ∃a,p=some a/\ ∀i,i<l.length->w.cell? (a.add i)=(bu l x)[i]?
def qd:El->Nat->Bool
 | .one _, _=>false
 | .agg l,n=>l.length != n
def oP (w:A0) (p:Option AF) (n:Nat) (vs:List A2):Prop:=
 match p with
 |none=>vs=[]
 |some a=>vs.length=n/\ ∀i,i<n->w.cell? (a.add i)=vs[i]?
def Ud (w:A0) (p:Option AF) (n:Nat):Prop:=
 ∃a,p=some a/\ ∀i,i<n->(w.cell? (a.add i)).isSome=true/\w.frozen? (a.add i)=false
def putAt (w:A0) (a:AF):List A2->Nat->A0
 |[], _=>w
 |v::r,i=>putAt (w.setCell (a.add i) v) a r (i+1)
def jZ (w:A0) (p:Option AF) (vs:List A2):A0:=
 match p with
 |some a=>putAt w a vs 0
 |none=>w
def mJ (w:A0) (e:AJ) (size bytes:Nat) (z:Array A2) (s x:Option AF×Nat×Nat) (R:Option AF×Nat×Nat->A0->Prop):Prop:=
 ∃fN new,oP w s.1 (s.2.1*size) fN/\oP w x.1 (x.2.1*size) new/\
  (s.2.1+x.2.1<=s.2.2->(new=[]\/(Ud w (s.1.map (·.add (s.2.1*size))) new.length/\new.all (·.oneCell')=true))/\
   R (s.1,s.2.1+x.2.1,s.2.2) (jZ w (s.1.map (·.add (s.2.1*size))) new))/\
  (s.2.2<s.2.1+x.2.1->S2 (s.2.1+x.2.1) s.2.2*bytes<=2 ^ 48/\
   ∀c,s.2.1+x.2.1<=c->R (some ⟨w.heap.size,0,none⟩,s.2.1+x.2.1,c) (w.drew.alloc (.cells (⟨fN⟩++⟨new⟩++G1 z (c - (s.2.1+x.2.1))) e)))
def cpR (w:A0) (size:Nat) (d x:Option AF×Nat) (R:Int->A0->Prop):Prop:=
 ∃new,oP w x.1 (Nat.min x.2 d.2*size) new/\(d.1=none\/new=[]\/(Ud w d.1 new.length/\new.all (·.oneCell')=true))/\R (Nat.min x.2 d.2:Nat) (jZ w d.1 new)
def mC (P:AM) (l:Nat) (args:List A2) (w:A0) (R:Bool->A0->Prop):Prop:=
 ∃rec,w.heap[l]? =some (.loop rec)/\args.length=rec.params.size/\
  RoundIn Do 0 P l rec.fn ((rec.params.zip ⟨args⟩).foldl (λtmps (t,a)=>tmps.setIfInBounds t a) rec.tmps) rec.assign rec.body w
   (λe w'=> ∃b,e= .returned (.bool b)/\R b w')
def gN (g:Option Bool) (p:Prop):Prop:=
 match g with
 |none=>p
 |some b=>b=true->p
@[reducible] def aj (w:A0) (g:Option Bool) (p:Option AF) (el:El) (K:el.T->Prop):Prop:= ∃x:el.T,gN g (cU w p el x)/\K x
@[reducible] def aC (w:A0) (p:Option AF) (vs:List A2) (K:A0->Prop):Prop:= ∀w1,Ext w w1->(vs.all (·.oneCell')=true/\Ud w1 p vs.length)/\K (jZ w1 p vs)
@[reducible] def aN (w:A0) (cs:Array A2) (e:AJ) (K:Nat->A0->Prop):Prop:= ∀w1,Ext w w1->K w1.heap.size (w1.alloc (.cells cs e))
def aA (P:AM) (f:B2) (s:Sh) (args:List A2) (w:A0) (K:s.T->A0->Prop):Prop:= ∀w1,Ext w w1->aE P f s args w1 K
def aaB (bytes:Nat) (n m:Int):Prop:=0<=n/\n<=m/\m<2 ^ 63/\bytes*m<=2 ^ 48
def nO (z:Array A2) (n:Nat):Array A2:=(Array.range n).map ((if n=0 then #[] else z)[· % (if n=0 then #[] else z).size]!)
def z4 (P:AM) (v:A2) (s:Sh) (b:List A2) (w:A0) (K:s.T->A0->Prop):Prop:=
 ∀w1,Ext w w1-> ∃a first cap,v= .func (.func a) first cap/\bL P a=true/\aE P a s (dt first b cap) w1 K
def NV (w:A0) (bytes size:Nat) (n m:Int) (z:Array A2) (e:AJ) (K:Nat->A0->Prop):Prop:= ∀w1,Ext w w1->aaB bytes n m/\K w1.heap.size (w1.alloc (.cells (nO z (m.toNat*size)) e))
@[reducible] def au (w:A0) (K:A0->Prop):Prop:= ∀w1,Ext w w1->K w1
def YG (a b:List (Nat×Bool)):Bool:=a.all λx=>b.contains x
def xS (env:List bS) (ch:List (Nat×Bool)):Operand->Option A2
 | .tmp t=>match cd env t with
   |some ⟨_,c, _,v, _⟩=>if YG c ch then some v else none
   |none=>none
 | .const v=>some v
 | .global g=>some (.pointer (some ⟨g,0,none⟩))
 | .func f=>some (.func (.func f) #[] #[])
def dD (ops:Array Oper) (j:Nat):Option Nat:=(ops[j]?).bind (·.dst)
def lit:Bool->Bool->Bool
 |true,x=>x
 |false,x=> !x
def ab4 (b:Bool):Option Bool->Option Bool
 |none=>some b
 |some g=>some (g&&b)
def gd (ops:Array Oper) (env:List bS) (o:Oper):Option (Option (List (Nat×Bool)×Option Bool)):=
 match o.guard with
 |none=>some (some ([],none))
 |some (j,b)=>match dD ops j with
  |some d=>match cd env d with
   |some e=>match e.k with
    |some a=>if a=b then some (some ([],none)) else some none
    |none=>match e.v with
     | .bool x=>some (some ((j,b)::e.ch,ab4 (lit b x) e.g))
     | _=>none
   |none=>none
  |none=>none
def settle (j:Nat) (b:Bool) (e:bS):bS:=
 if e.ch.contains (j, !b) then⟨e.t,[],none,undef,none⟩
 else if e.ch.contains (j,b) then
  match e.ch.filter (λx=>x != (j,b)) with
  |[]=>⟨e.t,[],none,e.v,none⟩
  |c::r=>⟨e.t,c::r,e.g,e.v,none⟩
 else e
def o9 (ops:Array Oper) (N:Nat) (env:List bS) (ch:List (Nat×Bool)):Option Nat->Bool
 |none=>true
 |some d=>decide (d<N)&&ch.all (λx=>dD ops x.1 != some d)&&env.all λe=>e.ch.all λx=>dD ops x.1 != some d
def lu (env:List bS) (d:Option Nat) (ch:List (Nat×Bool)) (g:Option Bool) (v:A2):List bS:=
 match d with
 |some d=>⟨d,ch,g,v,none⟩::env
 |none=>env
def wW (env:List bS) (d:Option Nat) (ch:List (Nat×Bool)) (g:Option Bool) (v:A2) (K:List bS->Prop):Prop:=
 match d with
 |some d=>K (⟨d,ch,g,v,none⟩::env)
 |none=>K env
theorem nP {env:List bS} {d:Option Nat} {ch:List (Nat×Bool)} {g:Option Bool} {v:A2} {K:List bS->Prop}:wW env d ch g v K=K (lu env d ch g v):=by cases d<;>rfl
def jK:List bS->(List bS->Prop)->Prop
 |[],K=>K []
 |⟨t,ch,g,v,k⟩::r,K=>jK r (λr=>K (⟨t,ch,g,v,k⟩::r))
theorem jP: ∀{l:List bS} {K:List bS->Prop},jK l K=K l
 |[], _=>rfl
 |⟨_, _, _, _, _⟩::r,K=>by simp only[jK];exact jP
def Us (ops:Array Oper) (t:Nat):Option Nat:=(B4 ops.size).find? λj=>dD ops j==some t
def bI (w:A0) (r:Nat) (es:Array DE) (a:Nat):Prop:=w.heap[r]? =some (.map es a)
def j8 (w:A0) (p:Option Nat) (k:B1) (n:Int) (z v:A2):Prop:=
 ∃r es a,p=some r/\bI w r es a/\match FJ (.int k) (.int k n) es.toList 0 with
  |some none=>v=z
  |some (some (_,u))=>v=u
  |none=>False
def mD (w:A0) (p:Option Nat) (k:B1) (n:Int) (z v:A2) (b:Bool):Prop:=
 ∃r es a,p=some r/\bI w r es a/\match FJ (.int k) (.int k n) es.toList 0 with
  |some none=>v=z/\b=false
  |some (some (_,u))=>v=u/\b=true
  |none=>False
def ib (w:A0) (r:Nat) (k:B1) (n:Int) (val:A2) (es:Array DE) (a:Nat) (K:A0->Prop):Prop:=
 match FJ (.int k) (.int k n) es.toList 0 with
 |some none=>K (w.putObj r (.map (es.push {key:= .int k n,val,born:=a}) (a+1)))
 |some (some (i, _))=>K (w.putObj r (.map (es.modify i λe=>{e with key:= .int k n,val}) a))
 |none=>False
def Ai (w:A0) (r:Nat) (k:B1) (n:Int) (es:Array DE) (a:Nat) (K:A0->Prop):Prop:=
 match FJ (.int k) (.int k n) es.toList 0 with
 |some none=>K (w.putObj r (.map es a))
 |some (some (i, _))=>K (w.putObj r (.map (es.eraseIdxIfInBounds i) a))
 |none=>False
def RgP (w:A0) (p:Option Nat) (K:Nat->A0->Prop):Prop:= ∀w1,Ext w w1-> ∃r es a,p=some r/\bI w1 r es a/\K w1.heap.size (w1.alloc (.mapIter (some r) a #[] a))
def NxP (w:A0) (p:Option AF) (f:A0->Prop) (g:A2->A2->A0->Prop):Prop:= ∀w1,Ext w w1-> ∃(r m b:Nat) (seen:Array Nat) (c:Nat) (es:Array DE) (d:Nat),p=some ⟨r,0,none⟩/\w1.heap[r]? =some (.mapIter (some m) b seen c)/\bI w1 m es d/\b<=c/\(∀e∈es.toList,e.born<b)/\
 ((∀e∈es.toList,seen.contains e.born=true)-> ∀a,Ext w1 a->f a)/\
 ∀e∈es.toList,seen.contains e.born=false-> ∀a,Ext w1 a->g e.key e.val (a.putObj r (.mapIter (some m) b (seen.push e.born) d))
def Aj (w:A0) (p:Option AF) (k v:A2):Prop:= ∃(r m b:Nat) (seen:Array Nat) (es:Array DE) (a:Nat) (e:DE),p=some ⟨r,0,none⟩/\w.heap[r]? =some (.mapIter (some m) b (seen.push e.born) a)/\bI w m es a/\e∈es.toList/\(es.toList.map (·.born)).Nodup/\k=e.key/\v=e.val
def Ue (w:A0) (p:Option Nat) (n:Nat):Prop:= ∃r es a,p=some r/\bI w r es a/\n=es.size
def ChO (w:A0) (r cap:Nat) (a:List A2) (s n:Nat):Prop:=w.heap[r]? =some (.chan cap ⟨a⟩ false s n false)
def ChL (w:A0) (p:Option Nat) (n:Nat):Prop:= ∃r cap a s m,p=some r/\ChO w r cap a s m/\n=a.length
def XR (w:A0) (p q:Option AF):Prop:= ∀a b,p=some a->q=some b->a≠b->(∃c t,w.heap[a.block]? =some (.cells c t (0,0)))/\ ∃c t,w.heap[b.block]? =some (.cells c t (0,0))
def xz (P:AM) (ρ:Operand->Option A2) (c:Call):Option (Option Nat):=match c.args.toList,c.argTypes.toList with
 |[x],[t]=>match P.underlying t,ρ x with
  |some (.chan _ _),some (.chan p)=>some p
  | _, _=>none
 | _, _=>none
def Cp (P:AM) (ρ:Operand->Option A2):Op->Option (Option AF×Option AF)
 | .binOp .eql t x y _=>match P.underlying t,ρ x,ρ y with
   |some (.pointer e),some (.pointer p),some (.pointer q)=>match P.info? e with
    |some i=>if i.size=0 then none else some (p,q)
    |none=>none
   | _, _, _=>none
 | _=>none
def Xm (P:AM) (ops:Array Oper) (d i:Nat):Option El:=match ops.toList.find? λo=>match o.op with
 | .extract (.tmp t) j=>t==d&&j==i
 | _=>false with
 |some o=>uS P o.type
 |none=>none
def Cq (P:AM) (ρ:Operand->Option A2) (c:Call):Option (Option Nat):=match c.args.toList,c.argTypes.toList with
 |[x],[t]=>match P.underlying t,ρ x with
  |some (.map _ _),some (.map p)=>some p
  | _, _=>none
 | _, _=>none
def oM {P:AM} (C:dG P) (ops:Array Oper) (env:List bS) (ch:List (Nat×Bool)) (g:Option Bool) (o:Oper) (w:A0) (K:A2->Prop):Prop:=
 let ρ:=xS env ch
 match o.op with
 | .load t x=>match ρ x,elC C t,P.info? t with
   |some (.pointer p),some el,some i=>if qd el i.size=true then dw 1 o.op else aj w g p el (λx=>K (el.iu x))
   | _, _, _=>dw 2 o.op
 | .lookup D m ix ok=>match ok,P.underlying D,ρ m,ρ ix with
   |false,some (.map s r),some (.map p),some (.int k n)=>match P.underlying s,uS P r,P.info? r with
    |some (.int A),some el,some i=>match i.zero with
     |some z=>if k=A then∃x:el.T,gN g (j8 w p k n z (el.iu x))/\K (el.iu x) else dw 51 o.op
     |none=>dw 52 o.op
    | _, _, _=>dw 53 o.op
   |true,some (.map s r),some (.map p),some (.int k n)=>match P.underlying s,uS P r,P.info? r with
    |some (.int A),some el,some i=>match i.zero with
     |some z=>if k=A then∃x:el.T, ∃b:Bool,gN g (mD w p k n z (el.iu x) b)/\K (.tuple ⟨[el.iu x,.bool b]⟩) else dw 51 o.op
     |none=>dw 52 o.op
    | _, _, _=>dw 53 o.op
   | _, _, _, _=>dw 54 o.op
 | .pick c x y=>match c with
   | .tmp t=>match cd env t with
     |some E=>match E.k with
      |some true=>match ρ x with
       |some v=>K v
       |none=>dw 31 o.op
      |some false=>match ρ y with
       |some v=>K v
       |none=>dw 32 o.op
      |none=>match Us ops t with
       |some j=>match ρ c,xS env ((j,true)::ch) x,xS env ((j,false)::ch) y with
        |some (.bool b),some (.bool u),some (.bool v)=>match x,y with
         | _,.const (.bool false)=>K (.bool (b&&u))
         | .const (.bool true), _=>K (.bool (b||v))
         | _, _=>K (.bool (bif b then u else v))
        | _, _, _=>dw 3 o.op
       |none=>dw 4 o.op
     |none=>dw 33 o.op
   | _=>dw 5 o.op
 | .entry F=>match ρ F,o.dst with
   |some (.pointer p),some d=>match Xm P ops d 0,Xm P ops d 1 with
    |some a,none=> ∃x:a.T, ∃v:A2,gN g (Aj w p (a.iu x) v)/\K (.tuple ⟨[a.iu x,v]⟩)
    |some a,some h=> ∃x:a.T, ∃y:h.T,gN g (Aj w p (a.iu x) (h.iu y))/\K (.tuple ⟨[a.iu x,h.iu y]⟩)
    |none,some h=> ∃v:A2, ∃y:h.T,gN g (Aj w p v (h.iu y))/\K (.tuple ⟨[v,h.iu y]⟩)
    |none,none=>dw 71 o.op
   | _, _=>dw 72 o.op
 | .call c=>match c.callee with
   | .builtin .len=>match Cq P ρ c with
     |some p=> ∃n:Nat,gN g (Ue w p n)/\K (.int .i64 n)
     |none=>match xz P ρ c with
      |some p=> ∃n:Nat,gN g (ChL w p n)/\K (.int .i64 n)
      |none=>match pop P ρ o with
       |some ⟨none,v⟩=>K v
       |some ⟨some p,v⟩=>gN g p/\K v
       |none=>dw 9 o.op
   | .value f=>match ρ f,maps ρ c.args.toList with
     |some (.func (.func l) first cap),some B=>
      if bL P l=true then
       match yg C.sP l with
       |some e=>match e.fn (dt first B cap) with
        |some (pre,v)=>gN g pre/\K v
        |none=>dw 6 o.op
       |none=> ∃x:(uN C l).T,gN g (af P l (dt first B cap) w ((uN C l).iu x))/\K ((uN C l).iu x)
      else dw 7 o.op
     | _, _=>dw 8 o.op
   | _=>match pop P ρ o with
     |some ⟨none,v⟩=>K v
     |some ⟨some p,v⟩=>gN g p/\K v
     |none=>dw 9 o.op
 | .binOp .. =>match pop P ρ o with
   |some ⟨none,v⟩=>K v
   |some ⟨some p,v⟩=>gN g p/\K v
   |none=>match Cp P ρ o.op with
    |some (p,q)=>gN g (XR w p q)/\K (.bool (decide (p=q)))
    |none=>dw 10 o.op
 | _=>match pop P ρ o with
   |some ⟨none,v⟩=>K v
   |some ⟨some p,v⟩=>gN g p/\K v
   |none=>dw 10 o.op
def YH (P:AM) (e:AJ):Array A2:=match P.info? e with
 |some i=>match i.zero with
  |some z=>z.cells
  |none=> #[]
 |none=> #[]
def u5 (v:A2):List A2:=v.cells.toList
def D4 (vs:List A2):Bool:=vs.all (·.oneCell')
def eop {P:AM} (C:dG P) (ρ:Operand->Option A2) (o:Oper) (w:A0) (K:A2->A0->Prop):Prop:=
 match o.op with
 | .store t x y=>match ρ x,ρ y,P.info? t with
   |some (.pointer p),some v,some i=>if(u5 v).length=i.size then
     aC w p (u5 v) (λa=>K undef a)
    else dw 11 o.op
   | _, _, _=>dw 12 o.op
 | .alloc e=>match P.info? e with
   |some i=>match i.zero with
    |some z=>match FB 64 i.size with
     |true=>aN w (YH P e) e (λb a=>K (.pointer (some ⟨b,0,none⟩)) a)
     |false=>aN w z.cells e (λb a=>K (.pointer (some ⟨b,0,none⟩)) a)
    |none=>dw 13 o.op
   |none=>dw 14 o.op
 | .box e x=>match ρ x with
   |some v=>aN w v.cells e (λb a=>K (.pointer (some ⟨b,0,none⟩)) a)
   |none=>dw 15 o.op
 | .buildSlice t len parts=>match P.underlying t,AQ ρ parts.toList with
   |some (.slice e),some ps=>match P.info? e with
    |some i=>match i.zero with
     |some z=>match AR (λk=>some (k*i.size,i.size)) ⟨(B4 (len*i.size)).map (z.cells.toList[· % z.cells.toList.length]!)⟩ ps with
      |some cs=>if len*i.size<=2 ^ 24 then aN w cs e (λb a=>K (.slice (some ⟨b,0,none⟩) len len) a) else dw 101 o.op
      |none=>dw 102 o.op
     |none=>dw 103 o.op
    |none=>dw 104 o.op
   | _, _=>dw 105 o.op
 | .makeSlice t l c=>match P.underlying t,ρ l,ρ c with
   |some (.slice e),some (.int _ n),some (.int _ m)=>match P.info? e with
    |some i=>match i.zero with
     |some z=>NV w i.bytes i.size n m z.cells e (λb a=>K (.slice (some ⟨b,0,none⟩) n.toNat m.toNat) a)
     |none=>dw 106 o.op
    |none=>dw 107 o.op
   | _, _, _=>dw 108 o.op
 | .mapUpdate t m x v=>match P.underlying t,ρ m,ρ x,ρ v with
   |some (.map g _),some (.map p),some (.int k n),some val=>match P.underlying g with
    |some (.int h)=>if k=h then∀w1,Ext w w1-> ∃r es d,p=some r/\bI w1 r es d/\ib w1 r k n val es d (λa=>K undef a) else dw 55 o.op
    | _=>dw 56 o.op
   | _, _, _, _=>dw 57 o.op
 | .insert t m x v=>match P.underlying t,ρ m,ρ x,ρ v with
   |some (.map g _),some (.map p),some (.int k n),some val=>match P.underlying g with
    |some (.int h)=>if k=h then∀w1,Ext w w1-> ∃r es d,p=some r/\bI w1 r es d/\ib w1 r k n val es d (λa=>K undef a) else dw 55 o.op
    | _=>dw 56 o.op
   | _, _, _, _=>dw 57 o.op
 | .makeMap _ r=>match r with
   |none=> ∀w1,Ext w w1->K (.map (some w1.heap.size)) (w1.alloc (.map #[] 0))
   |some _=>dw 109 o.op
 | .makeChan t s=>match P.underlying t,ρ s with
   |some (.chan _ e),some (.int _ n)=>match P.info? e with
    |some i=>if 0<=n/\n<=2 ^ 32/\i.bytes*n<=2 ^ 47 then∀w1,Ext w w1->K (.chan (some w1.heap.size)) (w1.alloc (.chan n.toNat #[] false 0 0 false)) else dw 118 o.op
    |none=>dw 119 o.op
   | _, _=>dw 120 o.op
 | .range B x=>match P.underlying B,ρ x with
   |some (.map _ _),some (.map p)=>RgP w p (λb a=>K (.pointer (some ⟨b,0,none⟩)) a)
   | _, _=>dw 73 o.op
 | .next D b=>match b,ρ D with
   |false,some (.pointer p)=>NxP w p (λa=>K (.tuple ⟨[.bool false]⟩) a) (λk v a=>K (.tuple ⟨[.bool true,k,v]⟩) a)
   | _, _=>dw 74 o.op
 | .call c=>match c.callee with
   | .builtin .delete=>match c.args.toList,c.argTypes.toList with
     |[m,x],[t, _]=>match P.underlying t,ρ m,ρ x with
      |some (.map g _),some (.map p),some (.int k n)=>match P.underlying g with
       |some (.int h)=>if k=h then∀w1,Ext w w1-> ∃r es d,p=some r/\bI w1 r es d/\Ai w1 r k n es d (λa=>K (.tuple ⟨[]⟩) a) else dw 75 o.op
       | _=>dw 76 o.op
      | _, _, _=>dw 77 o.op
     | _, _=>dw 78 o.op
   | .builtin .append=>match c.args.toList,c.argTypes.toList with
     |[s,x],[t,u]=>match P.underlying t,P.underlying u,ρ s,ρ x with
      |some (.slice e),some (.slice _),some (.slice p n m),some (.slice q k l)=>match P.info? e with
       |some i=>match i.zero with
        |some z=>if i.bytes=0 then dw 110 o.op else∀w1,Ext w w1->mJ w1 e i.size i.bytes z.cells (p,n,m) (q,k,l) (λr a=>K (.slice r.1 r.2.1 r.2.2) a)
        |none=>dw 111 o.op
       |none=>dw 112 o.op
      | _, _, _, _=>dw 113 o.op
     | _, _=>dw 114 o.op
   | .builtin .copy=>match c.args.toList,c.argTypes.toList with
     |[s,x],[t, _]=>match P.underlying t,ρ s,ρ x with
      |some (.slice e),some (.slice p n _),some (.slice q k _)=>match P.info? e with
       |some i=> ∀w1,Ext w w1->cpR w1 i.size (p,n) (q,k) (λr a=>K (.int .i64 r) a)
       |none=>dw 115 o.op
      | _, _, _=>dw 116 o.op
     | _, _=>dw 117 o.op
   | .value f=>match C.dyn,f with
    |some s,.tmp t=>match ρ (.tmp t),maps ρ c.args.toList with
     |some v,some j=>z4 P v s j w (λx a=>K (s.iu x) a)
     | _, _=>dw 70 o.op
    | _, _=>match ρ f,maps ρ c.args.toList with
     |some (.func (.yield l) first _),some j=> ∀w1,Ext w w1->mC P l (first.toList++j) w1 (λb a=>K (.bool b) a)
     |some (.func (.func A) first cap),some j=>
      if bL P A=true then
       aA P A (uN C A) (dt first j cap) w (λx a=>K ((uN C A).iu x) a)
      else dw 16 o.op
     | _, _=>dw 17 o.op
   | _=>dw 18 o.op
 | _=>dw 19 o.op
def aG (b:Bool) (x y:Prop):Prop:=match b with
 |true=>x
 |false=>y
theorem ab {b:Bool} {x y:Prop} (hx:b=true->x) (a:b=false->y):aG b x y:=by
 cases b
 ·exact a rfl
 ·exact hx rfl
theorem D5 {b:Bool} {x y:Prop} (h:aG b x y) (e:b=true):x:=by subst e;exact h
theorem A5 {b:Bool} {x y:Prop} (h:aG b x y) (e:b=false):y:=by subst e;exact h
def OF {P:AM} (C:dG P) (ρ:Operand->Option A2) (o:Oper):Bool:=
 match o.op with
 | .store .. | .alloc _| .box .. | .buildSlice .. | .makeSlice .. | .makeMap .. | .makeChan .. | .mapUpdate .. | .insert .. | .range .. | .next .. =>true
 | .call c=>match c.callee with
   | .value f=>match C.dyn,f with
    |some _,.tmp _=>true
    | _, _=>match ρ f with
     |some (.func (.func a) _ _)=> !((yg C.sP a).isSome||C.quiet.contains a)
     | _=>true
   | .builtin .append=>true
   | .builtin .copy=>true
   | .builtin .delete=>true
   | _=>false
 | _=>false
def Zk:Op->Bool
 | .binOp .. =>true
 | .convert .. =>true
 | .call _=>true
 | _=>false
def yD {P:AM} (C:dG P) (o:Oper) (v:A2) (K:A2->Prop):Prop:=
 match C.vG&&Zk o.op,v with
 |true,.int k e=> ∀x,x=e->K (.int k x)
 | _, _=>K v
theorem sk {P:AM} {C:dG P} {o:Oper} {v:A2} {K:A2->Prop} (h:yD C o v K):K v:=by
 unfold yD at h
 grind
def Oh {P:AM} (C:dG P) (ops:Array Oper) (N:Nat) (o:Oper):Nat->List bS->A0->(List bS->A0->Prop)->Prop
 |0, _, _, _=>dw 20 o.op
 |n+1,env,w,K=>match gd ops env o with
  |none=>dw 21 o.op
  |some none=>if o9 ops N env [] o.dst then wW env o.dst [] none undef (λenv=>K env w) else dw 25 o.op
  |some (some (ch,g))=>
   if o9 ops N env ch o.dst then
    if OF C (xS env ch) o then
     match ch.getLast? with
     |none=>eop C (xS env []) o w (λv a=>wW env o.dst [] none v (λenv=>K env a))
     |some (j, _)=>match dD ops j with
      |some d=>match cd env d with
       |some e=>match e.v with
        | .bool x=>if e.ch.isEmpty then
           aG x (jK (env.map (settle j true)) λenv=>Oh C ops N o n (⟨d,[],none,.bool true,some true⟩::env) w K)
            (jK (env.map (settle j false)) λenv=>Oh C ops N o n (⟨d,[],none,.bool false,some false⟩::env) w K)
          else dw 22 o.op
        | _=>dw 26 o.op
       |none=>dw 27 o.op
      |none=>dw 28 o.op
    else oM C ops env ch g o w (λv=>yD C o v (λv=>wW env o.dst ch g v (λenv=>K env w)))
   else dw 24 o.op
def FL {P:AM} (C:dG P) (ops:Array Oper) (N:Nat) (i:Nat) (env:List bS) (w:A0) (K:List bS->A0->Prop):Prop:=
 match ops[i]? with
 |none=>False
 |some ⟨dst,op,type,pos,after,guard⟩=>Oh C ops N ⟨dst,op,type,pos,after,guard⟩ 40 env w K
def rxL {P:AM} (C:dG P) (ops:Array Oper) (N:Nat):List Nat->List bS->A0->(List bS->A0->Prop)->Prop
 |[],env,w,K=>K env w
 |i::r,env,w,K=>FL C ops N i env w (λenv w=>rxL C ops N r env w K)
def kh (ops:Array Oper) (tmps:Array A2) (ch:List (Nat×Bool)):Prop:= ∀x∈ch,yielded ops tmps x.1=some x.2
def TP (ops:Array Oper) (tmps:Array A2) (ch:List (Nat×Bool)):Option Bool->Prop
 |none=>ch=[]
 |some γ=>ch≠[]/\(γ=true<->kh ops tmps ch)
structure Fit (S:Nat->Option (Option A2)) (ops:Array Oper) (N:Nat) (D:List Deferred) (env:List bS) (a:Act):Prop where
 off: ∀t x,S t=some x->a.tmps[t]? =x
 size:a.tmps.size=N
 qK:a.defers=D
 yes: ∀t e,cd env t=some e->kh ops a.tmps e.ch->a.tmps[t]? =some e.v
 no: ∀t e,cd env t=some e-> ¬ kh ops a.tmps e.ch->a.tmps[t]? =some undef
 Fv: ∀e∈env,TP ops a.tmps e.ch e.g
 BU: ∀e∈env, ∀b,e.k=some b->e.v= .bool b/\e.ch=[]
theorem bX: ∀{env:List bS} {t:Nat} {e:bS},cd env t=some e->e∈env
 |x::r,t,e,h=>by
  simp[cd] at h;split at h
  grind
  ·exact NU _ (bX h)
theorem Ut {a b:List (Nat×Bool)} (h:YG a b=true) {ops:Array Oper} {tmps:Array A2} (hb:kh ops tmps b):kh ops tmps a:=λx hx=>by
 simp only[YG,Dq] at h;exact hb x (by grind)
variable {S:Nat->Option (Option A2)} {ops:Array Oper} {N:Nat} {D:List Deferred} {env:List bS} {a:Act}
theorem Fit.ev (h:Fit S ops N D env a) {ch:List (Nat×Bool)} (hc:kh ops a.tmps ch) {x:Operand} {v:A2} (hx:xS env ch x=some v):a.eval x=v:=by
 cases x with
 |tmp t=>
  simp[xS] at hx;split at hx
  ·rename_i b;split at hx
   ·rename_i hs;cases hx;have:=h.yes t _ b (Ut hs hc);simp[Ft,this]
   grind
  grind
 |const
 |global g
 |func=>simp[xS] at hx;simp[Ft,hx]
theorem EX {j:Nat} {d:Option Nat} {u:A2} (h: ∀k,d=some k->dD ops j≠some k):yielded ops (a.put d u).tmps j=yielded ops a.tmps j:=by
 cases d with
 |none=>rfl
 |some k=>
  have b:=h k rfl;unfold yielded;unfold dD at b;cases f:ops[j]?.bind _ with
  |none=>rfl
  |some t=>
   have c:k≠t:=λe=>b (by grind);simp[Cj,DV c]
theorem IV {ch:List (Nat×Bool)} {d:Option Nat} {u:A2} (h: ∀k,d=some k->ch.all (λx=>dD ops x.1 != some k)=true):kh ops (a.put d u).tmps ch<->kh ops a.tmps ch:=by
 have: ∀x∈ch,yielded ops (a.put d u).tmps _=yielded ops _ x.1:=λx hx=>EX (by grind);constructor
 ·intro b x hx;rw[<-this x hx];exact b x hx
 ·intro b x hx;rw[this x hx];exact b x hx
theorem Fit.put (h:Fit S ops N D env a) {ch:List (Nat×Bool)} {g:Option Bool} {d:Option Nat} {v u:A2} (m:o9 ops N env ch d=true) (r: ∀k,d=some k->S k=none)
 (hg:TP ops a.tmps ch g) (h1:kh ops a.tmps ch->u=v) (h0: ¬ kh ops a.tmps ch->u=undef):Fit S ops N D (lu env d ch g v) (a.put d u):=by
 cases d with
 |none=>exact h
 |some k=>
  simp only[o9,BW,decide_eq_true_eq] at m;obtain⟨⟨o,hc⟩,s⟩:=m;have c0:kh ops (a.put (some k) u).tmps ch<->kh ops a.tmps ch:=IV (by grind);have c1: ∀e∈env,(kh ops (a.put (some k) u).tmps e.ch<->kh ops a.tmps e.ch):=λe hm=>IV (by grind);have n:k<a.tmps.size:=by rw[h.size];exact o
  refine⟨λt x hx=>?_,by simp[Cj,h.size],h.qK,?_,?_,?_,?_⟩
  ·have p:k≠t:=λe=>by grind
   simp[Cj,DV p,h.off t x hx]
  ·intro t e c i;simp only[lu,cd] at c;split at c
   ·rename_i f;cases c;subst f;simp[Cj,n,h1 (c0.1 i)]
   ·rename_i f;have:=h.yes t e c ((c1 e (bX c)).1 i);simp[Cj,DV f,this]
  ·intro t e c i;simp only[lu,cd] at c;split at c
   ·rename_i f;cases c;subst f;simp[Cj,n,h0 (λj=>i (c0.2 j))]
   ·rename_i f;have:=h.no t e c (λj=>i ((c1 e (bX c)).2 j));simp[Cj,DV f,this]
  ·intro e hm;have key: ∀(ch) (g:Option Bool),(kh ops (a.put (some k) u).tmps ch<->kh ops a.tmps ch)->TP ops a.tmps ch g->TP ops (a.put (some k) u).tmps ch g:=by
    intro ch g q l;cases g with
    |none=>exact l
    |some γ=>exact⟨l.1,l.2.trans q.symm⟩
   simp only[lu,Ct] at hm;rcases hm with rfl|hm
   ·exact key _ _ c0 hg
   ·exact key _ _ (c1 e hm) (h.Fv e hm)
  ·intro e hm b hb;simp only[lu,Ct] at hm;rcases hm with rfl|hm
   ·cases hb
   ·exact h.BU e hm b hb
def yE:A2->Option Bool
 | .bool b=>some b
 | _=>none
theorem lO {j d:Nat} (b:dD ops j=some d) {v:A2} (hv:a.tmps[d]? =some v):yielded ops a.tmps j=yE v:=by
 unfold yielded;unfold dD at b
 simp_all
 cases v<;>rfl
theorem eH:kh ops a.tmps []:=λhx=>by simp
theorem OG (h:Fit S ops N D env a) {o:Oper} {ch:List (Nat×Bool)} {g:Option Bool} (hg:gd ops env o=some (some (ch,g))):
 TP ops a.tmps ch g/\(Bs o (yielded ops a.tmps)=true<->kh ops a.tmps ch):=by
 unfold gd at hg;unfold Bs;split at hg
 ·rename_i k;cases hg;exact⟨rfl,by simp[kh,k]⟩
 ·rename_i j b k;split at hg
  ·rename_i d n;split at hg
   ·rename_i e c;split at hg
    ·rename_i s t;obtain⟨hv,f⟩:=h.BU e (bX c) s t;have q:=lO (a:=a) n (h.yes d e c (by rw[f];exact eH));rw[hv] at q;split at hg
     ·rename_i hb;cases hg;refine⟨rfl,?_⟩;simp[k,q,yE,hb,kh]
     ·cases hg
    ·split at hg
     ·rename_i x hx;cases hg;have p:(yielded ops a.tmps j=some b)<->kh ops a.tmps e.ch/\x=b:=by
       by_cases hc:kh ops a.tmps e.ch
       ·have h1:=h.yes d e c hc;rw[lO (a:=a) n h1,hx];simp[yE,hc]
       ·have h1:=h.no d e c hc;rw[lO (a:=a) n h1];simp[undef,yE,hc]
      have f:kh ops a.tmps ((j,b)::e.ch)<->yielded ops a.tmps j=some b:=by
       constructor
       ·intro l;exact l (j,b) IR
       ·intro l y i;rcases Ct.1 i with rfl|i
        ·exact l
        ·exact(p.1 l).1 y i
      refine⟨?_,?_⟩
      ·have m:=h.Fv e (bX c);cases r:e.g with
       |none=>
        rw[r] at m;have u:kh ops a.tmps e.ch:=by rw[show e.ch=[] from m];intro y i;cases i
        refine⟨by simp,?_⟩;rw[f,p];cases b<;>simp[u,lit]
       |some γ=>
        rw[r] at m;refine⟨by simp,?_⟩;rw[f,p, <-m.2];cases b<;>simp[lit]
      ·rw[f];simp[k]
     ·cases hg
   ·cases hg
  ·cases hg
theorem CD (h:Fit S ops N D env a) {o:Oper} (hg:gd ops env o=some none):Bs o (yielded ops a.tmps)=false:=by
 unfold gd at hg;unfold Bs;split at hg
 ·cases hg
 ·rename_i j b l;split at hg
  ·rename_i d f;split at hg
   ·rename_i e c;split at hg
    ·rename_i g i;obtain⟨hv,k⟩:=h.BU e (bX c) g i;have m:=lO f (h.yes d e c (by rw[k];exact eH))
     grind[yE]
    grind
   ·cases hg
  ·cases hg
theorem ve {f:bS->bS} (a: ∀e,(f e).t=e.t): ∀{l:List bS} {t:Nat} {e:bS},cd (l.map f) t=some e-> ∃b,cd l t=some b/\e=f b
 |x::r,t,e,h=>by
  simp[cd,a] at h ⊢;split at h
  grind
  ·rename_i c;rw[if_neg c];exact ve a h
theorem D6 (j:Nat) (b:Bool) (e:bS):(settle j b e).t=e.t:=by
 grind[settle]
theorem vf {j:Nat} {b:Bool} (k:yielded ops a.tmps j=some b) (e:bS) (hg:TP ops a.tmps e.ch e.g):
 TP ops a.tmps (settle j b e).ch (settle j b e).g/\(kh ops a.tmps e.ch->kh ops a.tmps (settle j b e).ch/\(settle j b e).v=e.v)/\(¬ kh ops a.tmps e.ch->(¬ kh ops a.tmps (settle j b e).ch\/(settle j b e).v=undef))/\
 (¬ kh ops a.tmps (settle j b e).ch-> ¬ kh ops a.tmps e.ch):=by
 unfold settle;split
 ·rename_i hc;have l: ¬ kh ops a.tmps e.ch:=λd=>by
   have:=d (j, !b)
   grind
  exact⟨rfl,λd=>absurd d l,λ_=> .inr rfl,λd=>absurd eH d⟩
 ·split
  ·rename_i n hc;have f:kh ops a.tmps e.ch<->kh ops a.tmps (e.ch.filter (λx=>x != (j,b))):=by
    constructor
    ·intro d x hx;exact d x (Cg.1 hx).1
    ·intro d x hx;by_cases m:x=(j,b)
     ·rw[m];exact k
     ·exact d x (by grind)
   split
   ·rename_i h;rw[h] at f;exact⟨rfl,λ_=>⟨eH,rfl⟩,by grind,λd=>absurd eH d⟩
   ·rename_i c r h;rw[h] at f
    simp_all
    cases i:e.g with
    |none=>rw[i] at hg;have:e.ch=[]:=hg;rw[this] at hc;simp at hc
    |some γ=>rw[i] at hg;exact⟨by simp,hg.2.trans f⟩
  grind
theorem Fit.settle (h:Fit S ops N D env a) {j d:Nat} {b:Bool} {e:bS} (n:dD ops j=some d) (o:cd env d=some e) (p:e.ch=[]) (hv:e.v= .bool b):
 Fit S ops N D (⟨d,[],none,.bool b,some b⟩::env.map (settle j b)) a:=by
 have h1:=h.yes d e o (by rw[p];exact eH);have k:=lO (a:=a) n h1;rw[hv] at k;refine⟨h.off,h.size,h.qK,?_,?_,?_,?_⟩
 ·intro t l g hc;simp only[cd] at g;split at g
  grind
  ·obtain⟨c,f,rfl⟩:=ve (D6 j b) g;obtain⟨_,s1,w, _⟩:=vf (a:=a) k c (h.Fv c (bX f));by_cases m:kh ops a.tmps c.ch
   ·rw[h.yes t c f m,(s1 m).2]
   ·rw[h.no t c f m]
    grind
 ·intro t l g hc;simp only[cd] at g;split at g
  ·cases g;exact absurd eH hc
  ·obtain⟨c,f,rfl⟩:=ve (D6 j b) g;obtain⟨_, _, _,q⟩:=vf (a:=a) k c (h.Fv c (bX f));exact h.no t c f (q hc)
 ·intro l hm;rcases Ct.1 hm with rfl|hm
  ·exact rfl
  ·obtain⟨c,f,rfl⟩:=GG.1 hm;exact(vf (a:=a) k c (h.Fv c f)).1
 ·intro l hm r i;rcases Ct.1 hm with rfl|hm
  grind
  ·obtain⟨c,f,rfl⟩:=GG.1 hm;unfold RX.settle at i ⊢;split at i
   ·cases i
   ·rename_i s;rw[if_neg s];split at i
    grind
    ·rename_i u;rw[if_neg u];exact h.BU c f r i
variable {P:AM}
def di (P:AM) (o:Oper) (a:Act) (w:A0) (v:A2):Prop:=
 match (execOp a.eval o).run P w with
 | .ok (.value u) w'=>w'=w/\u=v
 | .ok (.enter f args) w'=>w'=w/\Calls P f args w (λe b=>e= .returned v/\Ext w b)
 | _=>False
theorem bR {o:Oper} {a:Act} {w:A0} {v:A2} (h:(execOp a.eval o).run P w= .ok (.value v) w):di P o a w v:=by
 grind[di]
theorem cC: ∀(l:List Sc) (x:jX l),(bu l x).length=l.length
 |[], _=>rfl
 | _::r,x=>by simp[bu,cC]
theorem vT {w:A0} {a:AF} {v:A2} (h:w.cell? a=some v):(load a).run P w= .ok v w:=by simp[h]
theorem run_loadCellsFrom {w:A0} {a:AF}: ∀(vs:List A2) (k:Nat) (b:Array A2),(∀i,i<vs.length->w.cell? (a.add (k+i))=vs[i]?)->
 (loadCellsFrom a k vs.length b).run P w= .ok (b++vs.toArray) w
 |[],k,b, _=>by rfl
 |v::vs,k,b,h=>by
  have h0:=by simpa using h 0
  have c:=run_loadCellsFrom vs _ (b.push v) λi hi=>by
   have:=h (i+1) (by grind);rw[show k+1+i=k+(i+1) by omega,this];rfl
  simp only[N5,loadCellsFrom,Ae,vT h0,Aq,c];simp
theorem tD {w w':A0} (h:Ext w w') {p:Option AF} {el:El} {x:el.T} (c:cU w p el x):cU w' p el x:=by
 cases el with
 |one=>obtain⟨a,b,hc⟩:=c;exact⟨a,b,h.cell hc⟩
 |agg l=>
  obtain⟨a,b,hc⟩:=c;refine⟨a,b,λi hi=>?_⟩;have h1:=hc i hi;have d:i<(bu l x).length:=by have:=cC l x;omega
  rw[IP d] at h1 ⊢;exact h.cell h1
theorem tE {w:A0} {a:AF} {t:AJ} {el:El} {b:TypeInfo} {x:el.T} (g:uS P t=some el) (hi:P.info? t=some b)
 (hs: ¬ qd el b.size=true) (e:cU w (some a) el x):(loadVar t a).run P w= .ok (el.iu x) w:=by
 unfold loadVar;cases el with
 |one s=>
  have c:km P t=some false:=by
   grind[uS,km,AP,Option.map_eq_some_iff]
  obtain⟨a',d,hc⟩:=e;cases d;simp only[Ae,vd c,Aq,F6,if_false,vT hc];rfl
 |agg l=>
  have c:km P t=some true:=by
   grind[uS,km,AP]
  obtain⟨a',d,hc⟩:=e;cases d;have f:l.length=b.size:=by simpa[qd] using hs
  have:=run_loadCellsFrom (P:=P) (w:=w) (a:=a) (bu l x) 0 #[] (by simpa[cC] using hc);rw[cC,f] at this;simp only[Ae,vd c,Aq,if_true,dq hi,loadCells,this];simp[El.iu]
theorem Uu {C:dG P} {w:A0} {a:AF} {t:AJ} {el:El} {c:TypeInfo} {x:el.T} (b:elC C t=some el) (hi:P.info? t=some c)
 (hs: ¬ qd el c.size=true) (d:cU w (some a) el x):(loadVar t a).run P w= .ok (el.iu x) w:=by
 unfold elC at b;split at b
 ·rename_i h0;split at b
  ·cases b;have e:=d;exact tE (el:= .one .func) h0 hi ‹_› e
  grind[tE]
 ·exact tE b hi hs d
theorem IW: ∀{l:List (Entry P)} {f:B2} {e:Entry P},yg l f=some e->e.f=f
 |x::r,f,e,h=>by
  simp[yg] at h;split at h
  grind
  ·exact IW h
theorem iJ {g:Option Bool} {p:Prop} {ops:Array Oper} {tmps:Array A2} {ch:List (Nat×Bool)} (h:gN g p) (hg:TP ops tmps ch g) (hc:kh ops tmps ch):p:=by
 cases g with
 |none=>exact h
 |some=>exact h (hg.2.2 hc)
theorem tZ {f:B2} {args:Array A2} {w:A0}
 (h:bL P f=true):
 (callFunc f args).run P w= .ok (.enter f args) w:=by
 unfold callFunc;unfold bL at h;cases a:P.funcs[f]? with
 |none=>simp[a] at h
 |some fn=>
  simp_all
  grind[fc]
theorem tF {ev:Operand->A2} {dst:Option Nat} {type:AJ} {pos:String} {after:Array Edge} {guard:Option (Nat×Bool)} {f:Operand} {args:Array Operand} {ts:Array AJ}
 {a:B2} {first cap:Array A2} {b:List A2} (c:ev f= .func (.func a) first cap) (d:args.toList.map ev=b) {w:A0}
 (h:bL P a=true):
 (execOp ev ⟨dst,.call ⟨.value f,args,ts⟩,type,pos,after,guard⟩).run P w= .ok (.enter a ⟨dt first b cap⟩) w:=by
 have e:first++args.map ev++cap=⟨dt first b cap⟩:=by
  simp_all[dt]
 simp only[execOp,resolve,Deferred.ofValue,c,Ae,Ar,Aq,invoke];rw[e];exact tZ h
variable {S:Nat->Option (Option A2)} {ops:Array Oper} {N:Nat} {D:List Deferred} {env:List bS} {a:Act}
theorem zt {kd:B1} {n:Int}: ∀(l:List DE) (i0 i:Nat) (v:A2),FJ (.int kd) (.int kd n) l i0=some (some (i,v))->i0<=i/\ ∃e,l[i - i0]? =some e/\e.key= .int kd n/\e.val=v
 |e::es,i0,i,v,h=>by
  unfold FJ at h;split at h
  ·rename_i hs;obtain⟨rfl,rfl⟩:=h;simp;cases a:e.key<;>rw[a] at hs<;>simp[Instr.sameNow] at hs
   grind
  ·obtain:=zt es (i0+1) i v h
   grind
  ·cases h
theorem A6 {t d l:AJ} {kd:B1} {n:Int} {val:A2} {w:A0} {r:Nat} {es:Array DE} {f:Nat} {K:A0->Prop} (g:P.underlying t=some (.map d l)) (a:P.underlying d=some (.int kd)) (hb:bI w r es f)
 (h:ib w r kd n val es f K): ∃j,(Ks t (.map (some r)) (.int kd n) val).run P w= .ok () j/\K j:=by
 have b:=hb;have k:H5 (.int kd) (.int kd n):=by rfl
 unfold ib at h;split at h
 ·rename_i c;refine⟨_,?_,h⟩;simp[Ks,run_underlying g,DB b,Dh a k,Dk a c,H6 _ b,DL,FV]
 ·rename_i i v c;obtain⟨_,e,m,o, _⟩:=zt _ _ _ _ c;refine⟨_,?_,h⟩;have p:=by simpa using m
  simp[Ks,run_underlying g,DB b,Dh a k,Dk a c,p,o,Instr.keyThatStays,Instr.sameBits,H6 _ b,DL,FV]
 grind
theorem P7 {t d e:AJ} {kd:B1} {n:Int} {w:A0} {p:Option Nat} {i:TypeInfo} {z v:A2} (f:P.underlying t=some (.map d e)) (a:P.underlying d=some (.int kd)) (hi:P.info? e=some i) (l:i.zero=some z)
 (h:j8 w p kd n z v):(FS t (.map p) (.int kd n) false).run P w= .ok v w:=by
 obtain⟨r,es,m,rfl,hb,b⟩:=h;have g:=hb;have k:H5 (.int kd) (.int kd n):=by rfl
 split at b
 ·rename_i c;subst b;simp[FS,run_underlying f,DB g,Dh a k,Dk a c,zeroValue,fy hi,l]
 ·rename_i j u c;subst b;simp[FS,run_underlying f,DB g,Dh a k,Dk a c,DL]
 grind
theorem KA {t d e:AJ} {kd:B1} {n:Int} {w:A0} {p:Option Nat} {i:TypeInfo} {z v:A2} {b:Bool} (f:P.underlying t=some (.map d e)) (a:P.underlying d=some (.int kd)) (hi:P.info? e=some i) (l:i.zero=some z)
 (h:mD w p kd n z v b):(FS t (.map p) (.int kd n) true).run P w= .ok (.tuple ⟨[v,.bool b]⟩) w:=by
 obtain⟨r,es,o,rfl,hb,m⟩:=h;have g:=hb;have k:H5 (.int kd) (.int kd n):=by rfl
 split at m
 ·rename_i c
  simp_all
  simp[FS,run_underlying f,DB g,Dh a k,Dk a c,zeroValue,fy hi,l,DL]
 ·rename_i j u c
  simp_all
  simp[FS,run_underlying f,DB g,Dh a k,Dk a c,DL]
 grind
theorem n8 {w:A0} {p:Option AF} {k v:A2} (h:Aj w p k v):(Instr.entry (.pointer p)).run P w= .ok (.tuple ⟨[k,v]⟩) w:=by
 obtain⟨r,m,a,seen,es,b,e,rfl,c,hb,d,f,rfl,rfl⟩:=h;exact run_entry_at w r m a seen es b e c hb d f
theorem yQ {w w':A0} {p:Option AF} {k v:A2} (a:Ext w w') (h:Aj w p k v):Aj w' p k v:=by
 obtain⟨r,m,b,seen,es,c,e,h1,d,hb,f⟩:=h;exact⟨r,m,b,seen,es,c,e,h1,a.obj d,a.obj hb,f⟩
theorem EY {ρ:Operand->Option A2} {c:Call} {p:Option Nat} (h:Cq P ρ c=some p): ∃x t a b,c.args= #[x]/\c.argTypes= #[t]/\P.underlying t=some (.map a b)/\ρ x=some (.map p):=by
 unfold Cq at h;split at h
 ·rename_i x t e f;split at h
  ·rename_i a b p' d hx;cases h;refine⟨x,t,a,b,?_,?_,d,hx⟩
   grind
   grind
  grind
 grind
theorem CZ {ρ:Operand->Option A2} {c:Call} {p:Option Nat} (h:xz P ρ c=some p): ∃x t d a,c.args= #[x]/\c.argTypes= #[t]/\P.underlying t=some (.chan d a)/\ρ x=some (.chan p):=by
 unfold xz at h;split at h
 ·rename_i x t f g;split at h
  ·rename_i b a p' e hx;cases h;refine⟨x,t,b,a,?_,?_,e,hx⟩
   grind
   grind
  grind
 grind
theorem IX {w w':A0} {p q:Option AF} (e:Ext w w') (h:XR w p q):XR w' p q:=λa b h1 f g=>by
 obtain⟨⟨c,t,i⟩,d,u,j⟩:=h a b h1 f g;exact⟨⟨c,t,e.obj i⟩,d,u,e.obj j⟩
theorem Zl {ρ:Operand->Option A2} {ev:Operand->A2} (j: ∀x v,ρ x=some v->ev x=v) {o:Oper} {p q:Option AF} {w:A0} (h:Cp P ρ o.op=some (p,q)) (k:XR w p q):
 (execOp ev o).run P w= .ok (.value (.bool (decide (p=q)))) w:=by
 obtain⟨dst,op,type,pos,after,guard⟩:=o;unfold Cp at h;simp only at h;split at h
 ·rename_i t x y s;split at h
  ·rename_i e p' z f hx l;split at h
   ·rename_i i hi;split at h
    ·cases h
    ·rename_i m;cases h;simp only[execOp,j _ _ hx,j _ _ l];cases p with
     |none=>
      cases q with
      |none=>
       have:=eB (P:=P) (w:=w) λd=>nY f d none w;simp[eqGuard,binOp,this]
      |some b=>
       have:=eB (w:=w) λd=>nY f d (some b) w;simp[eqGuard,binOp,this]
     |some a=>
      cases q with
      |none=>
       have:=eB (P:=P) λd=>sj f d (some a) w;simp[eqGuard,binOp,this]
      |some b=>
       by_cases g:a=b
       ·subst g;have:=run_eql_ptr_same w a f hi;simp[eqGuard,this]
       ·obtain⟨⟨c,A,n⟩,d,u,r⟩:=k a b rfl rfl g;have:=run_eql_ptr_other w f hi m g n r;simp[eqGuard,this,g]
   ·cases h
  ·cases h
 ·cases h
theorem yF {C:dG P} {ch:List (Nat×Bool)} {g:Option Bool} {o:Oper} {w:A0} {K:A2->Prop} (l:Fit S ops N D env a) (hg:TP ops a.tmps ch g)
 (h:oM C ops env ch g o w K): ∃v,K v/\(kh ops a.tmps ch-> ∀w',Ext w w'->di P o a w' v):=by
 have NI: ∀v,a.eval (.const v)=v:=λ_=>rfl;have pure: ∀(pr:PR),pop P (xS env ch) o=some pr->(match pr.ob with|none=>K pr.v|some p=>gN g p/\K pr.v)->
  ∃v,K v/\(kh ops a.tmps ch-> ∀w',Ext w w'->di P o a w' v):=by
  intro pr B i;cases L:pr.ob with
  |none=>
   rw[L] at i;exact⟨pr.v,i,λhc w' _=>bR (O6 (λx v hx=>l.ev hc hx) NI B (λp H=>by rw[L] at H;cases H) w')⟩
  |some p=>
   rw[L] at i;exact⟨pr.v,i.2,λhc w' _=>bR (O6 (λx v hx=>l.ev hc hx) NI B (λp' H=>by rw[L] at H;cases H;exact iJ i.1 hg hc) w')⟩
 have M:(match pop P (xS env ch) o with|some ⟨none,v⟩=>K v|some ⟨some p,v⟩=>gN g p/\K v|none=>False)->
  ∃v,K v/\(kh ops a.tmps ch-> ∀w',Ext w w'->di P o a w' v):=by
  intro O;split at O
  ·rename_i v B;exact pure ⟨none,v⟩ B O
  ·rename_i p v B;exact pure ⟨some p,v⟩ B O
  ·exact O.elim
 obtain⟨dst,op,type,pos,after,guard⟩:=o;unfold oM at h;cases op with
 |load t x=>
  simp only at h;split at h
  ·rename_i p el ti hx F hi;split at h
   ·exact AC h
   ·rename_i hs;obtain⟨x',I,i⟩:=h;refine⟨_,i,λhc w' A=>bR ?_⟩;have TE:=tD A (iJ I hg hc);have B: ∃a0,p=some a0:=by cases el<;>(obtain⟨a0,h0, _⟩:=TE;exact⟨a0,h0⟩)
    obtain⟨a0,rfl⟩:=B;simp[execOp,Instr.loadAt,l.ev hc hx,Hb,Uu F hi hs TE]
  ·exact AC h
 |lookup xt m ix ok=>
  simp only at h;split at h
  ·rename_i Q R p kd n E T U;split at h
   ·rename_i kd' el ti V F hi;split at h
    ·rename_i z G;split at h
     ·rename_i W;subst W;obtain⟨x',I,i⟩:=h;refine⟨_,i,λhc w' A=>bR ?_⟩;have X:=iJ I hg hc;have Y:j8 w' p kd n z (el.iu x'):=by
       obtain⟨r,es,J,h1,Z,h3⟩:=X;exact⟨r,es,J,h1,A.obj Z,h3⟩
      simp only[execOp,Ae,l.ev hc T,l.ev hc U,P7 E V hi G Y,Aq,Ar]
     ·exact AC h
    ·exact AC h
   ·exact AC h
  ·rename_i Q R p kd n E T U;split at h
   ·rename_i kd' el ti V F hi;split at h
    ·rename_i z G;split at h
     ·rename_i W;subst W;obtain⟨x',b',I,i⟩:=h;refine⟨_,i,λhc w' A=>bR ?_⟩;have X:=iJ I hg hc;have Y:mD w' p kd n z (el.iu x') b':=by
       obtain⟨r,es,J,h1,Z,h3⟩:=X;exact⟨r,es,J,h1,A.obj Z,h3⟩
      simp only[execOp,Ae,l.ev hc T,l.ev hc U,KA E V hi G Y,Aq,Ar]
     ·exact AC h
    ·exact AC h
   ·exact AC h
  ·exact AC h
 |pick c x y=>
  simp only at h;split at h
  ·rename_i t;split at h
   ·rename_i ec hec;have known: ∀(b:Bool),ec.k=some b->kh ops a.tmps ch->a.eval (.tmp t)= .bool b:=by
     intro b hb _;obtain⟨hv,qT⟩:=l.BU ec (bX hec) b hb;have:=l.yes t ec hec (by rw[qT];exact eH);simp[Ft,this,hv]
    split at h
    ·rename_i i;split at h
     ·rename_i v hv;refine⟨v,h,λhc w' _=>bR ?_⟩;have eb:=known true i hc;simp[execOp,eb,l.ev hc hv,asBool]
     ·exact AC h
    ·rename_i i;split at h
     ·rename_i v hv;refine⟨v,h,λhc w' _=>bR ?_⟩;have eb:=known false i hc;simp[execOp,eb,l.ev hc hv,asBool]
     ·exact AC h
    ·split at h
     ·rename_i j hj;have Da:dD ops j=some t:=by
       have:=NW hj;simpa using this
      have key: ∀(b u v:Bool),xS env ch (.tmp t)=some (.bool b)->xS env ((j,true)::ch) x=some (.bool u)->xS env ((j,false)::ch) y=some (.bool v)->
       ∀w',kh ops a.tmps ch->di P ⟨dst,.pick (.tmp t) x y,type,pos,after,guard⟩ a w' (.bool (bif b then u else v)):=by
       intro b u v hb E hv w' hc;refine bR ?_;have eb:=l.ev hc hb;have hyj:yielded ops a.tmps j=some b:=by
        unfold yielded;unfold dD at Da;simp only[Da,Option.bind_some];have:a.tmps[t]? =some (.bool b):=by
         unfold Ft at eb;simp only[Fk] at eb;cases ht:a.tmps[t]? with
         |none=>rw[ht] at eb;simp[undef] at eb
         |some z=>rw[ht] at eb;simp at eb;rw[eb]
        rw[this]
       cases b with
       |true=>
        have eu:=l.ev (ch:=(j,true)::ch) (λz G=>by
         rcases Ct.1 G with rfl|G
         ·exact hyj
         ·exact hc z G) E
        simp[execOp,eb,eu,asBool]
       |false=>
        have eu:=l.ev (ch:=(j,false)::ch) (λz G=>by
         rcases Ct.1 G with rfl|G
         ·exact hyj
         ·exact hc z G) hv
        simp[execOp,eb,eu,asBool]
      split at h
      ·rename_i b u v hb E hv;split at h
       ·cases (show v=false by simp only[xS,DA,Value.bool.injEq] at hv;exact hv.symm);refine⟨_,h,λhc w' _=>?_⟩;have:=key b u false hb E hv w' hc;cases b<;>exact this
       ·cases (show u=true by simp only[xS,DA,Value.bool.injEq] at E;exact E.symm);refine⟨_,h,λhc w' _=>?_⟩;have:=key b true v hb E hv w' hc;cases b<;>exact this
       ·exact⟨_,h,λhc w' _=>key b u v hb E hv w' hc⟩
      ·exact AC h
     ·exact AC h
   ·exact AC h
  ·exact AC h
 |call c=>
  obtain⟨callee,args,ts⟩:=c;cases callee with
  |value f=>
   simp only at h;split at h
   ·rename_i gM first cap ac9 hf has
    split at h
    ·rename_i rF;split at h
     ·rename_i e F;split at h
      ·rename_i pre v ab5;refine⟨v,h.2,λhc w' _=>?_⟩;have dP:=tF (P:=P) (dst:=dst) (type:=type) (pos:=pos) (after:=after) (guard:=guard) (ts:=ts) (l.ev hc hf) (ml (λx v hx=>l.ev hc hx) has) (w:=w') rF;unfold di;rw[dP];refine⟨rfl,?_⟩;have:=e.ok _ _ _ ab5 (iJ h.1 hg hc) w';rw[IW F] at this;exact this
      ·exact AC h
     ·obtain⟨x,hq,i⟩:=h;refine⟨_,i,λhc w' A=>?_⟩;have dP:=tF (P:=P) (dst:=dst) (type:=type) (pos:=pos) (after:=after) (guard:=guard) (ts:=ts) (l.ev hc hf) (ml (λx v hx=>l.ev hc hx) has) (w:=w') rF;unfold di;rw[dP];exact⟨rfl,iJ hq hg hc w' A⟩
    ·exact AC h
   ·exact AC h
  |invoke r m=>exact M h
  |builtin b=>
   cases b with
   |len=>
    simp only at h;split at h
    ·rename_i p B;obtain⟨n,hn,i⟩:=h;refine⟨_,i,λhc w' A=>bR ?_⟩;obtain⟨x,t,Q,R,rfl,rfl,E,hx⟩:=EY B;obtain⟨r,es,J,rfl,hb,rfl⟩:=iJ hn hg hc;have qF:w'.heap[r]? =some (.map es J):=A.obj hb;simp[execOp,resolve,invoke,builtin,Fz,l.ev hc hx,run_underlying E,DB qF,goInt,DL]
    ·split at h
     ·rename_i p B;obtain⟨n,hn,i⟩:=h;refine⟨_,i,λhc w' A=>bR ?_⟩;obtain⟨x,t,Q,R,rfl,rfl,E,hx⟩:=CZ B;obtain⟨r,cap,rE,s,m,rfl,hb,rfl⟩:=iJ hn hg hc;have qF:w'.heap[r]? =some (.chan cap ⟨rE⟩ false s m false):=A.obj hb;have uM:(getObj r).run P w'= .ok (.chan cap ⟨rE⟩ false s m false) w':=by simp[getObj,Sem.run,qF]
      simp[execOp,resolve,invoke,builtin,Fz,l.ev hc hx,run_underlying E,uM,goInt,DL]
     ·exact M h
   | _=>exact M h
 |entry it=>
  simp only at h;split at h
  ·rename_i p d hx;split at h
   ·obtain⟨x,v,F,i⟩:=h;refine⟨_,i,λhc w' A=>bR ?_⟩;simp only[execOp,Ae,l.ev hc hx,n8 (yQ A (iJ F hg hc)),Aq,Ar]
   ·obtain⟨x,v,F,i⟩:=h;refine⟨_,i,λhc w' A=>bR ?_⟩;simp only[execOp,Ae,l.ev hc hx,n8 (yQ A (iJ F hg hc)),Aq,Ar]
   ·obtain⟨x,v,F,i⟩:=h;refine⟨_,i,λhc w' A=>bR ?_⟩;simp only[execOp,Ae,l.ev hc hx,n8 (yQ A (iJ F hg hc)),Aq,Ar]
   ·exact AC h
  ·exact AC h
 |binOp op t x y yt=>
  simp only at h;split at h
  ·rename_i v B;exact pure ⟨none,v⟩ B h
  ·rename_i p v B;exact pure ⟨some p,v⟩ B h
  ·split at h
   ·rename_i p q B;obtain⟨hq,i⟩:=h;exact⟨_,i,λhc w' A=>bR (Zl (o:=⟨dst,.binOp op t x y yt,type,pos,after,guard⟩) (λx v hx=>l.ev hc hx) B (IX A (iJ hq hg hc)))⟩
   ·exact AC h
 | _=>exact M h
variable {P:AM}
def WF (r:Option Nat):Fence:={Do with round:=r}
theorem jR {r:Option Nat} {n:Nat} {f:B2} {args:Array A2} {w:A0} {R:Ending->A0->Prop}:CallsIn (WF r) n P f args w R<->Calls P f args w R:=
 callsIn_wide
theorem Xn (r:Option Nat) (f:B2):(WF r).fn f:=trivial
theorem IY (r:Option Nat) (n:Nat):(WF r).room n:=room_wide n
theorem zX {w:A0} {p q:AF} {v:A2} (h:(w.cell? q).isSome=true):((w.setCell p v).cell? q).isSome=true:=by
 unfold LL at h ⊢;simp[M4]
 grind
theorem TC {w:A0} {p q:AF} {v:A2}:(w.setCell p v).frozen? q=w.frozen? q:=by
 simp
theorem C4 {w:A0} {a:AF} {v:A2} (hv:v.oneCell'=true) (h:(w.cell? a).isSome=true) (b:w.frozen? a=false):(store a v).run P w= .ok () (w.setCell a v):=by
 rw[run_store P w a v _ hv]
 grind
theorem jx: ∀(vs:List A2) (a:AF) (i:Nat) (w:A0),D4 vs=true->(∀j,j<vs.length->(w.cell? (a.add (i+j))).isSome=true/\w.frozen? (a.add (i+j))=false)->
 (storeCells a vs i).run P w= .ok () (putAt w a vs i)
 |[],a,i,w, _, _=>by rfl
 |v::r,a,i,w,b,h=>by
  simp only[D4,IB,BW] at b;have h0:=h 0;simp at h0;have c:=jx r a (i+1) (w.setCell (a.add i) v) b.2 (λj d=>by
   simp_all
   grind[zX])
  simp[storeCells,C4 b.1 h0.1 h0.2,c,putAt]
theorem wrap_i64 {n:Int} (h0: -(2 ^ 63)<=n) (h1:n<2 ^ 63):Dx.wrap n=n:=by
 show(if(true&&decide (n % 2 ^ 64>=2 ^ 63))=true then n % 2 ^ 64 - 2 ^ 64 else n % 2 ^ 64)=n
 grind
theorem run_makeSlice {t e:AJ} {i:TypeInfo} {z:A2} (b:P.underlying t=some (.slice e)) (hi:P.info? e=some i) (c:i.zero=some z) (k d:B1) {n m:Int} (h:aaB i.bytes n m) (w:A0):
 (S0 t (.int k n) (.int d m)).run P w= .ok (.slice (some ⟨w.heap.size,0,none⟩) n.toNat m.toNat) (w.alloc (.cells (nO z.cells (m.toNat*i.size)) e)):=by
 obtain⟨h0,h1,p,q⟩:=h;have wn:Dx.wrap n=n:=wrap_i64 (by omega) (by omega);have f:Dx.wrap m=m:=wrap_i64 (by omega) (by omega);have g: ¬ m<0:=by omega
 have j: ¬ n<0:=by omega
 have l: ¬ n>m:=by omega
 have o: ¬ (i.bytes*m>2 ^ 48):=by omega
 unfold S0;simp only[Ae,bC b,Aq,asInt,asIntOf,Ar,fy hi,wn,f,g,j,l,o,decide_false,J4,F6,if_false,run_askRoom,dq hi,newRow];by_cases a:m.toNat*i.size=0
 ·simp[a,nO]
 ·simp[a,nO,zeroValue,fy hi,c]
theorem xA {w:A0} {p:Option AF} {n size len cap:Nat} {vs:List A2} (h:oP w p (n*size) vs):(FW size n (.slice p len cap)).run P w= .ok ⟨vs⟩ w:=by
 cases p with
 |none=>subst h;rfl
 |some a=>
  obtain⟨b⟩:=h;have:=run_loadCellsFrom (P:=P) (w:=w) (a:=a) vs 0 #[] (by grind);rw[b] at this;simp only[FW,loadCells,this];simp
theorem D7 {w:A0} {p:Option AF} {n:Nat} {vs:List A2} (h:oP w p n vs):oP w.drew p n vs:=h
theorem P8 {ts:Array AJ} {t u e:AJ} {i:TypeInfo} {ty:AJ} {p q:Option AF} {n m k l:Nat} (c:ts= #[t,u]) (d:P.underlying t=some (.slice e))
 (hi:P.info? e=some i) {w:A0} {R:Int->A0->Prop} (h:cpR w i.size (p,n) (q,k) R):
 ∃r b,(T0 ts ty #[.slice p n m,.slice q k l]).run P w= .ok (.int .i64 r) b/\R r b:=by
 subst c;obtain⟨new,f,g,j⟩:=h;have o:(FW i.size _ (.slice q k l)).run P w= .ok ⟨new⟩ w:=xA f;refine⟨_, _,?_,j⟩;unfold T0;have h0: #[t,u][0]? =some t:=rfl;simp only[h0,In,GH,Ip,Ae,bC d,Aq,dq hi,M5,Ar,o];cases p with
 |none=>
  rfl
 |some a=>
  rcases g with h|rfl|⟨⟨a',s,hc⟩,v⟩
  ·cases h
  ·rfl
  ·cases s;have hs:=jx (P:=P) new a 0 w v (by grind);simp only[Ae,hs,Aq,Ar,goInt];rfl
theorem GU {ts:Array AJ} {t u e y:AJ} {i:TypeInfo} {z:A2} {ty:AJ} {p q:Option AF} {n m k l:Nat} (A:ts= #[t,u]) (f:P.underlying t=some (.slice e)) (g:P.underlying u=some (.slice y))
 (hi:P.info? e=some i) (B:i.zero=some z) (hb:i.bytes≠0) {w:A0} {R:Option AF×Nat×Nat->A0->Prop} (h:mJ w e i.size i.bytes z.cells (p,n,m) (q,k,l) R):
 ∃r o,(Mr ts ty #[.slice p n m,.slice q k l]).run P w= .ok (.slice r.1 r.2.1 r.2.2) o/\R r o:=by
 subst A;obtain⟨fN,new,C,s,D,E⟩:=h;have F:(FW i.size k (.slice q k l)).run P w= .ok ⟨new⟩ w:=xA s;by_cases b:n+k<=m
 ·obtain⟨G,d⟩:=D b;refine⟨_, _,?_,d⟩;unfold Mr;have h0:(#[t,u]:Array AJ)[0]? =some t:=rfl;have h1:(#[t,u]:Array AJ)[1]? =some u:=rfl;simp only[h0,h1,In,GH,Ip,Ae,bC f,bC g,Aq,dq hi,M5,Ar,F6,if_false,b,if_true,Ok,F];cases p with
  |none=>
   simp only[Ar,jZ,T1]
  |some a=>
   rcases G with rfl|⟨⟨a',v,hc⟩,H⟩
   ·simp[storeCells,jZ,putAt]
   ·simp only[GD,DA] at v;subst v;have hs:=jx (P:=P) new (a.add (n*i.size)) 0 w H (λj I=>by simpa using hc j I);rw[Ae,hs];rfl
 ·obtain⟨J,d⟩:=E (by show m<n+k;omega);have K:=λc hc=>d c hc;have L: ∀(x:Nat),n+k<=(Question.appendCap (n+k) m e).cut x:=λx=>by simp[Question.cut]
  refine⟨_, _,?_,K ((Question.appendCap (n+k) m e).cut (w.tape w.drawn (.appendCap (n+k) m e))) (L _)⟩;unfold Mr;have h0:(#[t,u]:Array AJ)[0]? =some t:=rfl;have h1:(#[t,u]:Array AJ)[1]? =some u:=rfl;have M: ¬ (((n+k:Nat):Int)>Dx.max/\(False\/i.bytes=0)):=by simp[hb]
  have N: ¬ (S2 (n+k) m*i.bytes>2 ^ 48):=by simp only at J;omega
  have O:(FW i.size n (.slice p n m)).run P w.drew= .ok ⟨fN⟩ w.drew:=xA (D7 C);have Q:(FW i.size k (.slice q k l)).run P w.drew= .ok ⟨new⟩ w.drew:=xA (D7 s);simp only[h0,h1,In,GH,Ip,Ae,bC f,bC g,Aq,dq hi,M5,Ar,F6,if_false,b,Ok,if_true,
   fy hi]
  rw[if_neg M];simp only[Ae,fy hi,Aq,N,if_false,run_choose_drew,Question.forced,F6,run_askRoom,O,Q,zeroValue,B,newRow,Ar,run_newObj_alloc];rfl
theorem zY {t e:AJ} {i:TypeInfo} {z:A2} {len:Nat} {parts:Array (Nat×A2)} {ps:List (Nat×A2)} {cs:Array A2} (c:P.underlying t=some (.slice e)) (hi:P.info? e=some i) (d:i.zero=some z)
 (f:parts.toList=ps) (g:AR (λk=>some (k*i.size,i.size)) ⟨(B4 (len*i.size)).map (z.cells.toList[· % z.cells.toList.length]!)⟩ ps=some cs) (j:len*i.size<=2 ^ 24) (w:A0):
 (S1 t len parts).run P w= .ok (.slice (some ⟨w.heap.size,0,none⟩) len len) (w.alloc (.cells cs e)):=by
 have h: ¬ len*i.size>2 ^ 24:=by omega
 have a:H7 (λk=>some (k*i.size,i.size)) ((Array.range (len*i.size)).map ((if len*i.size=0 then #[] else z.cells)[· % (if len*i.size=0 then #[] else z.cells).size]!)) ps=some cs:=by
  rw[<-yO g];congr 1
  grind
 unfold S1;simp only[Ae,bC c,Aq,dq hi,h,newRow];by_cases b:len*i.size=0
 simp_all
 ·simp only[b,if_false] at a;simp only[b,if_false,zeroValue,Ae,fy hi,Aq,d,Ar,f,a];simp
theorem cT {r:Option Nat} {ev:Operand->A2} {o:Oper} (h: ∀c,o.op≠ .defer c):o.semAt (WF r).round ev=execOp ev o:=Oper.semAt_eq _ _ _ h
variable {S:Nat->Option (Option A2)} {ops:Array Oper} {N:Nat} {D:List Deferred} {env:List bS} {a:Act}
def eV (o:Oper):Bool:=
 match o.op with
 | .alloc _| .box .. | .buildSlice .. | .makeSlice .. | .makeMap .. | .makeChan .. =>true
 | _=>false
def B_ (C:dG P) (o:Oper):Bool:=
 match o.op with
 | .move _| .assign _| .pick .. | .alloc _| .box .. | .buildSlice .. | .makeSlice .. | .makeMap .. | .makeChan .. | .build .. | .load .. | .nilCheck _| .binOp .. | .unOp .. | .convert .. | .makeFunc .. | .slice .. | .fieldAddr .. | .field .. | .indexAddr .. | .index .. | .extract .. | .lookup .. =>false
 | .call c=>match c.callee with
   | .value (.func f)=> !((yg C.sP f).isSome||C.quiet.contains f)
   | .builtin .len| .builtin .min| .builtin .max=>false
   | _=>true
 | _=>true
theorem P9 {C:dG P} {ρ:Operand->Option A2} {o:Oper} (a: ∀f,ρ (.func f)=some (.func (.func f) #[] #[])) (h:B_ C o=false) (b:OF C ρ o=true):eV o=true:=by
 grind[B_,OF,eV]
theorem GW {P:AM} {ts:Array AJ} {ty t u d k:AJ} {kd:B1} {n:Int} {w:A0} {r:Nat} {es:Array DE} {e:Nat} {K:A0->Prop} (l:ts= #[t,u]) (f:P.underlying t=some (.map d k)) (a:P.underlying d=some (.int kd)) (hb:bI w r es e)
 (h:Ai w r kd n es e K): ∃g,(N2 ts ty #[.map (some r),.int kd n]).run P w= .ok (.tuple #[]) g/\K g:=by
 subst l;have b:=hb;have j:H5 (.int kd) (.int kd n):=by rfl
 unfold Ai at h;split at h
 ·rename_i c;refine⟨_,?_,h⟩;simp[N2,run_underlying f,DB b,Dh a j,Dk a c,H6 _ b,FV]
 ·rename_i i v c;refine⟨_,?_,h⟩;simp[N2,run_underlying f,DB b,Dh a j,Dk a c,H6 _ b,DL,FV]
 grind
theorem Zn {r:Option Nat} {o:Oper} {w w':A0} {K:A2->A0->Prop} {next:Act->A0->Prop} {Q:Exit->Act->A0->Prop} (g:Fit S ops N D env a)
 {C:dG P} (h:eop C (xS env []) o w K) (H:Ext w w') (E: ∀v G,K v G->(eV o=true->Ext w' G)->next (a.put o.dst v) G):o.wpIn (WF r) 0 P a w' next Q:=by
 have hc:kh ops a.tmps []:=λx hx=>by cases hx
 refine⟨λ_ _=>trivial,?_⟩;obtain⟨dst,op,type,pos,after,guard⟩:=o;unfold eop at h;cases op<;>simp only at h<;>(try exact AC h)
 case store t x y=>
  rw[cT (by simp)];split at h
  ·rename_i p v i hx hy hi;split at h
   ·rename_i hs;obtain⟨⟨ho,a0,hp,Zo⟩,A⟩:=h w' H;subst hp;have iI:v.cells.size=i.size:=by simpa[u5] using hs
    have vx:=jx (P:=P) (u5 v) a0 0 w' ho (λj hj=>by simpa using Zo j hj);have:(execOp a.eval ⟨dst,.store t x y,type,pos,after,guard⟩).run P w'= .ok .skip (jZ w' (some a0) (u5 v)):=by
     simp only[execOp,Instr.storeAt,g.ev hc hx,g.ev hc hy,Hb,storeVar,Ae,Ar,Aq,dq hi,iI,ne_eq,not_true,if_false];rw[show v.cells.toList=u5 v from rfl,vx];rfl
    rw[this];exact E _ _ A (λB=>by simp[eV] at B)
   ·exact AC h
  ·exact AC h
 case mapUpdate t m x v=>
  rw[cT (by simp)];split at h
  ·rename_i kt O p kd n val I R hx hv;split at h
   ·rename_i kd' T;split at h
    ·rename_i U;subst U;obtain⟨r,es,L,rfl,hb,V⟩:=h w' H;obtain⟨G,dP,A⟩:=A6 I T hb V;have:(execOp a.eval ⟨dst,.mapUpdate t m x v,type,pos,after,guard⟩).run P w'= .ok .skip G:=by
      simp only[execOp,Ae,g.ev hc R,g.ev hc hx,g.ev hc hv,dP,Aq,Ar]
     rw[this];exact E _ _ A (λB=>by simp[eV] at B)
    ·exact AC h
   ·exact AC h
  ·exact AC h
 case insert t m x v=>
  rw[cT (by simp)];split at h
  ·rename_i kt O p kd n val I R hx hv;split at h
   ·rename_i kd' T;split at h
    ·rename_i U;subst U;obtain⟨r,es,L,rfl,hb,V⟩:=h w' H;obtain⟨G,dP,A⟩:=A6 I T hb V;have:(execOp a.eval ⟨dst,.insert t m x v,type,pos,after,guard⟩).run P w'= .ok .skip G:=by
      simp only[execOp,Ae,g.ev hc R,g.ev hc hx,g.ev hc hv,dP,Aq,Ar]
     rw[this];exact E _ _ A (λB=>by simp[eV] at B)
    ·exact AC h
   ·exact AC h
  ·exact AC h
 case alloc e=>
  rw[cT (by simp)];split at h
  ·rename_i i hi;split at h
   ·rename_i z M;have h:aN w z.cells e (λb G=>K (.pointer (some ⟨b,0,none⟩)) G):=by
     have e1:YH P e=z.cells:=by unfold YH;simp only[hi,M]
     split at h
     ·rw[e1] at h;exact h
     ·exact h
    have A:=h w' H;have:(execOp a.eval ⟨dst,.alloc e,type,pos,after,guard⟩).run P w'= .ok (.value (.pointer (some ⟨w'.heap.size,0,none⟩))) (w'.alloc (.cells z.cells e)):=by
     simp[execOp,Instr.alloc,zeroValue,fy hi,M,newVar,newRow]
    rw[this];exact E _ _ A (λ_=>Ext.alloc _ _)
   ·exact AC h
  ·exact AC h
 case box e x=>
  rw[cT (by simp)];split at h
  ·rename_i v hv;have A:=h w' H;have:(execOp a.eval ⟨dst,.box e x,type,pos,after,guard⟩).run P w'= .ok (.value (.pointer (some ⟨w'.heap.size,0,none⟩))) (w'.alloc (.cells v.cells e)):=by
    simp[execOp,Instr.box,g.ev hc hv,newVar,newRow]
   rw[this];exact E _ _ A (λ_=>Ext.alloc _ _)
  ·exact AC h
 case buildSlice t len parts=>
  rw[cT (by simp)];split at h
  ·rename_i el ps I TO;split at h
   ·rename_i i hi;split at h
    ·rename_i z M;split at h
     ·rename_i cs fe;split at h
      ·rename_i hlen;have A:=h w' H;have e:=yP (λx v hx=>g.ev hc hx) TO;have e':(parts.map λ(i,x)=>(i,a.eval x)).toList=ps:=by rw[<-e];simp
       have dP:=zY (P:=P) I hi M e' fe hlen w';have:(execOp a.eval ⟨dst,.buildSlice t len parts,type,pos,after,guard⟩).run P w'= .ok (.value (.slice (some ⟨w'.heap.size,0,none⟩) len len)) (w'.alloc (.cells cs el)):=by
        simp only[execOp,Ae,dP,Aq,Ar]
       rw[this];exact E _ _ A (λ_=>Ext.alloc _ _)
      ·exact AC h
     ·exact AC h
    ·exact AC h
   ·exact AC h
  ·exact AC h
 case makeSlice t l c=>
  rw[cT (by simp)];split at h
  ·rename_i el k n k' m I hl BV;split at h
   ·rename_i i hi;split at h
    ·rename_i z M;obtain⟨jU,A⟩:=h w' H;have dP:=run_makeSlice (P:=P) I hi M k k' jU w';have:(execOp a.eval ⟨dst,.makeSlice t l c,type,pos,after,guard⟩).run P w'= .ok (.value (.slice (some ⟨w'.heap.size,0,none⟩) n.toNat m.toNat)) (w'.alloc (.cells (nO z.cells (m.toNat*i.size)) el)):=by
      simp only[execOp,g.ev hc hl,g.ev hc BV,Ae,dP,Aq,Ar]
     rw[this];exact E _ _ A (λ_=>Ext.alloc _ _)
    ·exact AC h
   ·exact AC h
  ·exact AC h
 case makeMap t rs=>
  rw[cT (by simp)];split at h
  ·have A:=h w' H;have:(execOp a.eval ⟨dst,.makeMap t none,type,pos,after,guard⟩).run P w'= .ok (.value (.map (some w'.heap.size))) (w'.alloc (.map #[] 0)):=by
    simp[execOp,Instr.makeMap]
   rw[this];exact E _ _ A (λ_=>Ext.alloc _ _)
  ·exact AC h
 case makeChan t sz=>
  rw[cT (by simp)];split at h
  ·rename_i d e k n I hs;split at h
   ·rename_i i hi;split at h
    ·rename_i hn;have A:=h w' H;have hb: ¬ (n<0\/n>Dx.max\/i.bytes*n>2 ^ 48 - 112):=by
      have:Dx.max=9223372036854775807:=by decide
      omega
     have:(execOp a.eval ⟨dst,.makeChan t sz,type,pos,after,guard⟩).run P w'= .ok (.value (.chan (some w'.heap.size))) (w'.alloc (.chan n.toNat #[] false 0 0 false)):=by
      have qF: ¬ (n<0\/9223372036854775807<n\/281474976710544<(i.bytes:Int)*n):=by omega
      simp[execOp,Instr.makeChan,g.ev hc hs,asInt,asIntOf,run_underlying I,fy hi];exact λc=>absurd c qF
     rw[this];exact E _ _ A (λ_=>Ext.alloc _ _)
    ·exact AC h
   ·exact AC h
  ·exact AC h
 case range xt x=>
  rw[cT (by simp)];split at h
  ·rename_i kt O p I hx;obtain⟨r,es,L,rfl,hb,A⟩:=h w' H;have qF:w'.heap[r]? =some (.map es L):=hb;have:(execOp a.eval ⟨dst,.range xt x,type,pos,after,guard⟩).run P w'= .ok (.value (.pointer (some ⟨w'.heap.size,0,none⟩))) (w'.alloc (.mapIter (some r) L #[] L)):=by
    simp[execOp,Instr.range,g.ev hc hx,run_underlying I,DB qF,DL]
   rw[this];exact E _ _ A (λB=>by simp[eV] at B)
  ·exact AC h
 case next it b=>
  rw[cT (by simp)];split at h
  ·rename_i p hx;obtain⟨r,m,since,seen,last,es,L,rfl,hr,hb,wO,hold,k0,k1⟩:=h w' H;rcases run_next_at (P:=P) w' type r m since last seen es L hr hb hold wO with ⟨h0,dP⟩|⟨e,J,w1,uO,dP⟩
   ·have:(execOp a.eval ⟨dst,.next it false,type,pos,after,guard⟩).run P w'= .ok (.value (.tuple ⟨[.bool false]⟩)) w':=by
     simp only[execOp,Ae,g.ev hc hx,dP,Aq,Ar]
    rw[this];refine E _ _ (k0 (λe J=>?_) w' (Ext.refl _)) (λB=>by simp[eV] at B);unfold leftOf at h0;have h1:=Array.eq_empty_of_size_eq_zero h0;rw[Array.filter_eq_empty_iff] at h1;simpa using h1 e (by simpa using J)
   ·have:(execOp a.eval ⟨dst,.next it false,type,pos,after,guard⟩).run P w'= .ok (.value (.tuple ⟨[.bool true,e.key,e.val]⟩)) (w1.putObj r (.mapIter (some m) since (seen.push e.born) L)):=by
     simp only[execOp,Ae,g.ev hc hx,dP,Aq,Ar];rfl
    rw[this];unfold leftOf at J;have jW:e∈es.toList/\seen.contains e.born=false:=by simpa using J
    refine E _ _ (k1 e jW.1 jW.2 w1 ?_) (λB=>by simp[eV] at B);rcases uO with rfl|rfl
    ·exact Ext.refl _
    ·exact⟨rfl,rfl,rfl,Dn _,λk A=>rfl⟩
  ·exact AC h
 case call c=>
  obtain⟨callee,args,ts⟩:=c;rw[cT (by simp)];simp only at h;split at h
  ·
   split at h
   ·rename_i m x t u OH aaC;split at h
    ·rename_i kt O p kd n I R hx;split at h
     ·rename_i kd' T;split at h
      ·rename_i U;subst U;obtain⟨r,es,L,rfl,hb,V⟩:=h w' H;have W:args= #[m,x]:=by cases args;simp_all
       have et':ts= #[t,u]:=by cases ts;simp_all
       obtain⟨G,dP,A⟩:=GW (P:=P) (ty:=type) et' I T hb V;have:(execOp a.eval ⟨dst,.call ⟨.builtin .delete,args,ts⟩,type,pos,after,guard⟩).run P w'= .ok (.value (.tuple ⟨[]⟩)) G:=by
        subst W;simp only[execOp,resolve,Ae,Ar,Aq,invoke,builtin,GJ,GS,Ga,g.ev hc R,g.ev hc hx,dP]
       rw[this];exact E _ _ A (λB=>by simp[eV] at B)
      ·exact AC h
     ·exact AC h
    ·exact AC h
   ·exact AC h
  ·
   split at h
   ·rename_i s x t u OH aaC;split at h
    ·rename_i e ue p n m q k l I hu' hs hx;split at h
     ·rename_i i hi;split at h
      ·rename_i z M;split at h
       ·exact AC h
       ·rename_i hb;have TR:=h w' H;have W:args= #[s,x]:=by cases args;simp_all
        have O:ts= #[t,u]:=by cases ts;simp_all
        obtain⟨res,G,dP,X⟩:=GU (P:=P) (ty:=type) O I hu' hi M hb TR;have:(execOp a.eval ⟨dst,.call ⟨.builtin .append,args,ts⟩,type,pos,after,guard⟩).run P w'= .ok (.value (.slice res.1 res.2.1 res.2.2)) G:=by
         subst W;simp only[execOp,resolve,Ae,Ar,Aq,invoke,builtin,GJ,GS,Ga,g.ev hc hs,g.ev hc hx,dP]
        rw[this];exact E _ _ X (λB=>by simp[eV] at B)
      ·exact AC h
     ·exact AC h
    ·exact AC h
   ·exact AC h
  ·
   split at h
   ·rename_i s x t u OH aaC;split at h
    ·rename_i e p n m q k l I hs hx;split at h
     ·rename_i i hi;have TR:=h w' H;have W:args= #[s,x]:=by cases args;simp_all
      have O:ts= #[t,u]:=by cases ts;simp_all
      obtain⟨res,G,dP,X⟩:=P8 (P:=P) (ty:=type) (m:=m) (l:=l) O I hi TR;have:(execOp a.eval ⟨dst,.call ⟨.builtin .copy,args,ts⟩,type,pos,after,guard⟩).run P w'= .ok (.value (.int .i64 res)) G:=by
       subst W;simp only[execOp,resolve,Ae,Ar,Aq,invoke,builtin,GJ,GS,Ga,g.ev hc hs,g.ev hc hx,dP]
      rw[this];exact E _ _ X (λB=>by simp[eV] at B)
     ·exact AC h
    ·exact AC h
   ·exact AC h
  ·rename_i f;split at h
   ·
    rename_i s t;split at h
    ·rename_i v Y Z has;obtain⟨gM,first,cap,rfl,rF,A⟩:=h w' H;have dP:=tF (P:=P) (dst:=dst) (type:=type) (pos:=pos) (after:=after) (guard:=guard) (ts:=ts) (g.ev hc Z) (ml (λx v hx=>g.ev hc hx) has) (w:=w') rF;rw[dP];refine⟨by simp[WF,Do],?_⟩;refine(jR (n:=0 - 1)).2 ?_;refine FH A λe G ⟨x,J,hx⟩=>?_;subst J;exact E _ _ hx (λB=>by simp[eV] at B)
    ·exact AC h
   rename_i f _ _ _;split at h
   ·
    rename_i l first cp Y Z has
    obtain⟨rec,Ak,hlen,Zp⟩:=h w' H;have e:(first++args.map a.eval:Array A2)=⟨first.toList++Y⟩:=by
     have:=ml (λx v hx=>g.ev hc hx) has;rw[<-this];obtain⟨l1⟩:=first;obtain⟨l2⟩:=args
     simp
    have dP:=run_yield (P:=P) (args:=⟨first.toList++Y⟩) Ak (by simpa using hlen);have:(execOp a.eval ⟨dst,.call ⟨.value f,args,ts⟩,type,pos,after,guard⟩).run P w'= .ok (.round l rec.fn ((rec.params.zip ⟨first.toList++Y⟩).foldl (λtmps (t,a)=>tmps.setIfInBounds t a) rec.tmps) rec.assign rec.body) w':=by
     simp only[execOp,resolve,Deferred.ofValue,g.ev hc Z,Ae,Ar,Aq,invoke];rw[e,dP]
    rw[this];refine⟨by simp[WF,Do],?_⟩;refine RoundIn.mono (F:=WF r) (n:=0 - 1) Zp λe G ⟨b,J,X⟩=>?_;subst J;exact E _ _ X (λB=>by simp[eV] at B)
   ·rename_i gM first cap Y Z has
    split at h
    ·rename_i rF;have A:=h w' H;have dP:=tF (P:=P) (dst:=dst) (type:=type) (pos:=pos) (after:=after) (guard:=guard) (ts:=ts) (g.ev hc Z) (ml (λx v hx=>g.ev hc hx) has) (w:=w') rF;rw[dP];refine⟨by simp[WF,Do],?_⟩;refine(jR (n:=0 - 1)).2 ?_;refine FH A λe G ⟨x,J,hx⟩=>?_;subst J;exact E _ _ hx (λB=>by simp[eV] at B)
    ·exact AC h
   ·exact AC h
  ·exact AC h
theorem A7 {o:Oper} {c:Call} (b:o.op= .defer c) {w:A0} {v:A2} (h:di P o a w v):False:=by
 obtain⟨dst,op,type⟩:=o;unfold di execOp at h
 simp_all
 generalize (resolve _ c type).run P w=res at h;cases res<;>simp at h
def Wr (S:Nat->Option (Option A2)) (ops:Array Oper):Prop:= ∀o∈ops, ∀k,o.dst=some k->S k=none
theorem C5 {α:Type} {l:List α} (h:l.getLast?=none):l=[]:=List.getLast?_eq_none_iff.1 h
theorem yR {r:Option Nat} {C:dG P} {i:Nat} {o:Oper} {Q:Exit->Act->A0->Prop} (t:ops[i]? =some o) (l: ∀k,o.dst=some k->S k=none):
 ∀(n:Nat) (env:List bS) (w w':A0) (K:List bS->A0->Prop),Fit S ops N D env a->Oh C ops N o n env w K->Ext w w'->
 wpOpIn (WF r) 0 P ops Q i (λa1 w1=>(B_ C o=false->Ext w' w1)/\ ∃db F,K db F/\Fit S ops N D db a1/\Ext F w1) a w'
 |0, _, _, _, _, _,h, _=>AC h
 |n+1,env,w,w',K,b,h,j=>by
  simp only[Oh,nP,jP] at h;split at h
  ·exact AC h
  ·rename_i A;have y:=CD b A;split at h
   ·rename_i q;unfold wpOpIn;simp only[t];rw[if_neg (by rw[y];simp)];exact⟨λ_ _=>trivial,λ_=>Ext.refl _, _,w,h,b.put q l rfl (λ_=>rfl) (λm=>absurd eH m),j⟩
   ·exact AC h
  ·rename_i ch g A;obtain⟨hg,y⟩:=OG b A;split at h
   ·rename_i q;split at h
    ·rename_i I;split at h
     ·rename_i J;have:ch=[]:=C5 J;subst this;unfold wpOpIn;simp only[t];rw[if_pos (y.2 eH)];refine Zn b h j λv B p hx=>⟨λhs=>hx (P9 (C:=C) (ρ:=xS env []) (λ_=>rfl) hs I), _,B,p,?_,Ext.refl _⟩;exact b.put q l rfl (λ_=>rfl) (λm=>absurd eH m)
     ·split at h
      ·rename_i d G;split at h
       ·rename_i e z;split at h
        ·rename_i x hx;split at h
         ·rename_i L;have H:e.ch=[]:=by simpa using L
          cases x with
          |true=>exact yR t l n _ w w' K (b.settle G z H hx) h j
          |false=>exact yR t l n _ w w' K (b.settle G z H hx) h j
         ·exact AC h
        ·exact AC h
       ·exact AC h
      ·exact AC h
    ·obtain⟨v,p,M⟩:=yF b hg h;replace p:=sk p;unfold wpOpIn;simp only[t];by_cases hc:kh ops a.tmps ch
     ·rw[if_pos (y.2 hc)];have s:=M hc w' j;have O: ∀c,o.op≠ .defer c:=by
       intro c R;exact A7 R s
      refine⟨λ_ _=>trivial,?_⟩;rw[cT O];unfold di at s;split at s
      ·rename_i u B dP;obtain⟨rfl,rfl⟩:=s;rw[dP];exact⟨λ_=>Ext.refl _, _,w,p,b.put q l hg (λ_=>rfl) (λm=>absurd hc m),j⟩
      ·rename_i f args B dP;obtain⟨rfl,T⟩:=s;rw[dP];refine⟨by simp[WF,Do],(jR (n:=0 - 1)).2 ?_⟩;refine FH T λe U ⟨z,hx⟩=>?_;subst z;exact⟨λ_=>hx, _,w,p,b.put q l hg (λ_=>rfl) (λm=>absurd hc m),j.trans hx⟩
      ·exact s.elim
     ·rw[if_neg (λE=>hc (y.1 E))];exact⟨λ_ _=>trivial,λ_=>Ext.refl _, _,w,p,b.put q l hg (λE=>absurd E hc) (λ_=>rfl),j⟩
   ·exact AC h
theorem D8 {r:Option Nat} {C:dG P} {i:Nat} {w w':A0} {K:List bS->A0->Prop} {Q:Exit->Act->A0->Prop} (c:Wr S ops) (d:Fit S ops N D env a)
 (h:FL C ops N i env w K) (e:Ext w w'):wpOpIn (WF r) 0 P ops Q i (λa1 w1=>(((ops[i]?).map (B_ C)).getD true=false->Ext w' w1)/\ ∃db b,K db b/\Fit S ops N D db a1/\Ext b w1) a w':=by
 unfold FL at h;cases f:ops[i]? with
 |none=>grind
 |some o=>
  simp_all
  have:=yR (r:=r) (Q:=Q) f (c o (by grind)) _ env w w' K d h e;omega
theorem O9 {r:Option Nat} {C:dG P} {Q:Exit->Act->A0->Prop} (e:Wr S ops): ∀(l:List Nat) (env:List bS) (a:Act) (w w':A0) (K:List bS->A0->Prop),Fit S ops N D env a->
 rxL C ops N l env w K->Ext w w'->(∀env a w w',K env w->Fit S ops N D env a->Ext w w'->Q .normal a w')->wpOpsIn (WF r) 0 P ops Q l a w'
 |[],env,a,w,w',K,b,h,c,d=>d env a w w' h b c
 |i::l,env,a,w,w',K,b,h,c,d=>by
  exact wpOpIn_mono (λa1 w1 ⟨_,db,f,g,j,k⟩=>O9 e l db a1 f w1 K j g k d) (D8 e b h c)
variable {P:AM}
def mE (r:Option Nat) (P:AM) (ops:Array Oper) (Q:Exit->Act->A0->Prop) (Ij:Nat->Bool) (T:Nat->A0->Prop):Nat->Array Bool->Act->A0->Prop
 |0,b,a,w=> ∀w',Ext w w'->B3 .any ops b=[]/\Q .normal a w'
 |fuel+1,b,a,w=> ∀w',Ext w w'->(B3 .any ops b=[]->Q .normal a w')/\
  ∀i∈B3 .any ops b,wpOpIn (WF r) 0 P ops Q i (λa1 w1=>(Ij i=false->Ext w' w1)/\(Ij i=true->T i w1)/\mE r P ops Q Ij T fuel (b.setIfInBounds i true) a1 w1) a w'
section
variable {r:Option Nat} {ops:Array Oper} {Q:Exit->Act->A0->Prop} {Ij:Nat->Bool} {T:Nat->A0->Prop}
theorem nZ {b:Nat} {c:Array Bool} {a:Act} {w w':A0} (h:mE r P ops Q Ij T b c a w) (d:Ext w w'):mE r P ops Q Ij T b c a w':=by
 cases b with
 |zero
 |succ=>exact λe f=>h e (d.trans f)
theorem zu: ∀(fuel:Nat) (b:Array Bool) (a:Act) (w:A0),mE r P ops Q Ij T fuel b a w->wpAnyIn (WF r) 0 P .any ops Q fuel b a w
 |0, _, _,w,h=>h w (Ext.refl w)
 |fuel+1, _, _,w,h=>⟨(h w (Ext.refl w)).1,λi hi=>wpOpIn_mono (λa1 w1 c=>zu fuel _ a1 w1 c.2.2) ((h w (Ext.refl w)).2 i hi)⟩
theorem pQ {T T':Nat->A0->Prop} (e: ∀j w,T' j w->T j w): ∀(fuel:Nat) (b:Array Bool) (a:Act) (w:A0),mE r P ops Q Ij T' fuel b a w->mE r P ops Q Ij T fuel b a w
 |0, _, _, _,h=>h
 |fuel+1, _, _, _,h=>λw' c=>⟨(h w' c).1,λi hi=>wpOpIn_mono (λa1 w1 d=>⟨d.1,by grind,pQ e fuel _ a1 w1 d.2.2⟩) ((h w' c).2 i hi)⟩
def fU (P:AM) (ops:Array Oper) (o:Oper) (v:A2) (a:Act) (w:A0):Prop:=
 (Bs o (yielded ops a.tmps)=true/\ ∀w',Ext w w'->di P o a w' v)\/
 (Bs o (yielded ops a.tmps)=false/\v=undef)
theorem fU.of_same {o:Oper} {v:A2} {a a':Act} {w:A0} (b:fU P ops o v a w) (c:execOp a'.eval o=execOp a.eval o)
 (d:Bs o (yielded ops a'.tmps)=Bs o (yielded ops a.tmps)):fU P ops o v a' w:=by grind[fU,di]
theorem fU.op {i:Nat} {o:Oper} {v:A2} {a:Act} {w w':A0} (hi:ops[i]? =some o) (d:fU P ops o v a w) (g:Ext w w') {K:Act->A0->Prop}
 (h: ∀w1,Ext w' w1->K (a.put o.dst v) w1):wpOpIn (WF r) 0 P ops Q i K a w':=by
 unfold wpOpIn;simp only[hi];rcases d with ⟨j,k⟩
 ·rw[if_pos j];have b:=k w' g;refine⟨λ_ _=>trivial,?_⟩;rw[cT (λc l=>A7 l b)];unfold di at b;split at b
  ·rename_i u m dP;obtain⟨rfl,rfl⟩:=b;rw[dP];exact h _ (Ext.refl _)
  ·rename_i f args m dP;obtain⟨rfl,p⟩:=b;rw[dP];refine⟨by simp[WF,Do],(jR (n:=0 - 1)).2 ?_⟩;refine FH p λe q=>?_
   grind
  ·exact b.elim
 ·simp_all
  exact⟨λ_ _=>trivial,h _ (Ext.refl _)⟩
def yG (ops:Array Oper) (o:Oper) (a a0:Act):Prop:=execOp a.eval o=execOp a0.eval o/\Bs o (yielded ops a.tmps)=Bs o (yielded ops a0.tmps)
theorem KB {j:Nat} {g k:Oper} {v:A2} {a0:Act} (t:ops[j]? =some k) (y:g.apart ops k=true)
 (z: ∀cs b,g.op≠ .select cs b) (A: ∀cs b,k.op≠ .select cs b) (p: ∀c,k.op≠ .defer c)
 (C: ∀c a w,¬ Q (.panic c) a w) {K:Act->A0->Prop} {a:Act} {w':A0}
 (i:yG ops g a a0) (h:wpOpIn (WF r) 0 P ops Q j K (a.put g.dst v) w'):
 wpOpIn (WF r) 0 P ops Q j (λa1 w1=>yG ops g a1 a0/\K (a1.put g.dst v) w1) a w':=by
 obtain⟨h1,m,q⟩:=Oper.apart_spec y;have c_: ∀(a:Act),yG ops g a a0-> ∀u,yG ops g (a.put k.dst u) a0:=λa i u=>
  ⟨(execOp_put g z a k.dst u q).trans i.1,(wanted_put g a k.dst u q).trans i.2⟩
 unfold wpOpIn at*
 simp only[t] at*
 rw[wanted_put k a g.dst v h1] at h;split
 ·rename_i o;simp only[o,if_true] at h;refine⟨λ_ _=>trivial,?_⟩;have h:=h.2;rw[cT p,execOp_put k A a g.dst v h1] at h;rw[cT p];generalize (execOp a.eval k).run P w'=res at*
  cases res with
  |ok x B=>
   cases x<;>simp only[Oper.uponIn] at h ⊢
   case value u=>exact⟨c_ a i u,by rw[<-Dw a v u m];exact h⟩
   case skip=>exact⟨c_ a i _,by rw[<-Dw a v undef m];exact h⟩
   case defer d=>
    refine⟨c_ ({a with defers:=d::a.defers}:Act) ⟨i.1,i.2⟩ undef,?_⟩;rw[<-Dw _ v undef m, <-Act.put_defers];exact h
   case enter f args=>
    refine⟨h.1,CallsIn.mono h.2 λe s n=>?_⟩;cases e with
    |returned u=>exact⟨c_ a i u,by rw[<-Dw a v u m];exact n⟩
    |panicked c=>grind
    |outgrown=>exact n
   case row row args=>exact⟨h.1,RowsIn.mono h.2 λu s n=>⟨c_ a i u,by rw[<-Dw a v u m];exact n⟩⟩
   case round l f tmps assign body=>
    refine⟨h.1,RoundIn.mono h.2 λe s n=>?_⟩;cases e with
    |returned u=>exact⟨c_ a i u,by rw[<-Dw a v u m];exact n⟩
    |panicked c=>simp_all
    |outgrown=>exact n
  |halt x B=>
   cases x<;>simp only[Oper.uponIn] at h ⊢
   grind
 ·rename_i o;simp only[o] at h;exact⟨λ_ _=>trivial,c_ a i _,by rw[<-Dw a v undef m];exact h.2⟩
def mfO (o:Oper):Bool:=match o.op with
 | .move _=>true
 | .assign _=>true
 | .extract .. =>true
 | _=>false
theorem fU.mf {o:Oper} {v:A2} {a:Act} {w w1:A0} (f:mfO o=true) (e:fU P ops o v a w):fU P ops o v a w1:=by
 obtain⟨dst,op,type,pos,after,guard⟩:=o;cases op with
 |move x
 |assign x=>
  rcases e with ⟨b,c⟩|d
  ·refine .inl ⟨b,λg _=>?_⟩;have:=c w (Ext.refl w);simp only[di,execOp,Ar] at this ⊢;omega
  ·exact .inr d
 |extract x k=>
  rcases e with ⟨b,c⟩|d
  ·refine .inl ⟨b,λg _=>?_⟩;have:=c w (Ext.refl w);cases hx:a.eval x with
   |tuple vs=>
    cases hv:vs[k]? with
    |none=>simp[di,execOp,Hr,hx,hv] at this
    |some u=>
     simp only[di,execOp,Hr,hx,hv,Ae,Ar,Aq] at this ⊢;omega
   | _=>simp[di,execOp,Hr,hx] at this
  ·exact .inr d
 | _=>cases f
theorem t_ {i:Nat} {g:Oper} {v:A2} {W:Nat->Bool} {T T':Nat->A0->Prop} {a0:Act} (hi:ops[i]? =some g) (I:Ij i=false) (C: ∀(j:Nat) (o:Oper),ops[j]? =some o->(∀cs b,o.op≠ .select cs b)/\ ∀c,o.op≠ .defer c)
 (N: ∀c a w,¬ Q (.panic c) a w) (D: ∀j w,T' j w->T j w):
 ∀(s:Nat) (d:Array Bool) (a:Act) (w:A0),
  (∀j m,ops[j]? =some m->j≠i->d.getD j true=false->W j=false->g.apart ops m=true/\(Ij j=false\/mfO g=true\/ ∀w1,T' j w1->fU P ops g v a0 w1))->
  (∀j,W j=true->d.getD j true=false/\ ∃m,ops[j]? =some m/\ ∃e∈m.after,Db .any e=true/\(e.on=i\/W e.on=true))->
  i∈B3 .any ops d->yG ops g a a0->fU P ops g v a0 w->
  mE r P ops Q Ij T' s (d.setIfInBounds i true) (a.put g.dst v) w->mE r P ops Q Ij T (s+1) d a w:=by
 have nil: ∀(d:Array Bool),i∈B3 .any ops d->B3 .any ops d≠[]:=λl J h=>by rw[h] at J;cases J
 intro s
 induction s with
 |zero=>
  intro d a w _ _ t hs u H w' n;refine⟨λh=>absurd h (nil d t),λj x=>?_⟩;by_cases p:j=i
  ·subst p;refine(u.of_same hs.1 hs.2).op hi n λw1 h1=>⟨λ_=>h1,(λf=>by rw[I] at f;cases f),pQ D _ _ _ _ (nZ H (n.trans h1))⟩
  ·have:=ready_mono x p;rw[(H w' n).1] at this;cases this
 |succ s O=>
  intro d a w K R t hs u H w' n;refine⟨λh=>absurd h (nil d t),λj x=>?_⟩;by_cases p:j=i
  ·subst p;refine(u.of_same hs.1 hs.2).op hi n λw1 h1=>⟨λ_=>h1,(λf=>by rw[I] at f;cases f),pQ D _ _ _ _ (nZ H (n.trans h1))⟩
  ·have h1:=(H w' n).2 j (ready_mono x p);obtain⟨L,m,y,mL⟩:=mem_ready.1 x;have acZ:=(mem_ready.1 t).1;have E:W j=false:=by
    grind
   obtain⟨S,q⟩:=K j m y p L E;have F:=KB y S (C i g hi).1 (C j m y).1 (C j m y).2 N hs h1;refine wpOpIn_mono (λa1 w1 U=>?_) F;obtain⟨V,hx,M,G⟩:=U;refine⟨hx,λf=>D _ _ (M f),?_⟩;refine O (d.setIfInBounds j true) a1 w1 ?_ ?_ (ready_mono t (Ne.symm p)) V ?_ ?_
   ·intro k ok G X z A;refine K k ok G X ?_ A;by_cases B:j=k
    ·subst B;exact L
    ·rw[getD_set_ne true B] at z;exact z
   ·intro k A;obtain⟨z,rest⟩:=R k A;refine⟨?_,rest⟩;have B:j≠k:=λe=>by rw[e,A] at E;cases E
    rw[getD_set_ne true B];exact z
   ·have fN:Ext w' w1->fU P ops g v a0 w1:=λY=>by
     have Z:=n.trans Y;rcases u with ⟨uO,hq1⟩|hn
     ·exact .inl ⟨uO,λw2 F=>hq1 w2 (Z.trans F)⟩
     ·exact .inr hn
    cases f:Ij j with
    |false=>exact fN (hx f)
    |true=>
     rcases q with q|q|q
     ·rw[q] at f;cases f
     ·exact u.mf q
     ·exact q w1 (M f)
   ·rw[Array.setIfInBounds_comm _ _ p];exact G
end
def aaE (C:dG P) (ops:Array Oper) (N:Nat) (o:Oper) (env:List bS) (w:A0) (K:List bS->Prop):Prop:=
 match gd ops env o with
 |none=>dw 41 o.op
 |some none=>if o9 ops N env [] o.dst then wW env o.dst [] none undef K else dw 42 o.op
 |some (some (ch,g))=>
  if o9 ops N env ch o.dst then oM C ops env ch g o w (λv=>yD C o v (λv=>wW env o.dst ch g v K)) else dw 43 o.op
def rxQ (C:dG P) (ops:Array Oper) (N:Nat) (i:Nat) (env:List bS) (w:A0) (K:List bS->Prop):Prop:=
 match ops[i]? with
 |none=>False
 |some ⟨dst,op,type,pos,after,guard⟩=>aaE C ops N ⟨dst,op,type,pos,after,guard⟩ env w K
def YM {P:AM} (C:dG P) (ops:Array Oper) (env:List bS) (ch:List (Nat×Bool)) (g:Option Bool) (o:Oper) (w:A0) (K:(A0->Prop)->A2->Prop):Prop:=
 let ρ:=xS env ch
 match o.op with
 | .load t x=>match ρ x,elC C t,P.info? t with
   |some (.pointer p),some el,some i=>if qd el i.size=true then dw 61 o.op else aj w g p el (λx=>K (λw=>gN g (cU w p el x)) (el.iu x))
   | _, _, _=>dw 62 o.op
 | .entry _=>dw 63 o.op
 | .lookup r m ix ok=>match ok,P.underlying r,ρ m,ρ ix with
   |false,some (.map h d),some (.map p),some (.int k n)=>match P.underlying h,uS P d,P.info? d with
    |some (.int j),some el,some i=>match i.zero with
     |some z=>if k=j then∃x:el.T,gN g (j8 w p k n z (el.iu x))/\K (λw=>gN g (j8 w p k n z (el.iu x))) (el.iu x) else dw 61 o.op
     |none=>dw 62 o.op
    | _, _, _=>dw 63 o.op
   |true,some (.map h d),some (.map p),some (.int k n)=>match P.underlying h,uS P d,P.info? d with
    |some (.int j),some el,some i=>match i.zero with
     |some z=>if k=j then∃x:el.T, ∃b:Bool,gN g (mD w p k n z (el.iu x) b)/\K (λw=>gN g (mD w p k n z (el.iu x) b)) (.tuple ⟨[el.iu x,.bool b]⟩) else dw 61 o.op
     |none=>dw 62 o.op
    | _, _, _=>dw 63 o.op
   | _, _, _, _=>dw 64 o.op
 | .pick .. =>oM C ops env ch g o w (λv=>K (λ_=>True) v)
 | .call c=>match c.callee with
   | .value f=>match ρ f,maps ρ c.args.toList with
     |some (.func (.func a) first cap),some l=>
      if bL P a=true then
       match yg C.sP a with
       |some e=>match e.fn (dt first l cap) with
        |some (pre,v)=>gN g pre/\K (λ_=>True) v
        |none=>dw 64 o.op
       |none=> ∃x:(uN C a).T,gN g (af P a (dt first l cap) w ((uN C a).iu x))/\K (λw=>gN g (af P a (dt first l cap) w ((uN C a).iu x))) ((uN C a).iu x)
      else dw 65 o.op
     | _, _=>dw 66 o.op
   | .builtin .len=>match Cq P ρ c with
     |some p=> ∃n:Nat,gN g (Ue w p n)/\K (λw=>gN g (Ue w p n)) (.int .i64 n)
     |none=>match xz P ρ c with
      |some p=> ∃n:Nat,gN g (ChL w p n)/\K (λw=>gN g (ChL w p n)) (.int .i64 n)
      |none=>oM C ops env ch g o w (λv=>K (λ_=>True) v)
   | _=>oM C ops env ch g o w (λv=>K (λ_=>True) v)
 | .binOp .. =>match pop P ρ o with
   |some ⟨none,v⟩=>K (λ_=>True) v
   |some ⟨some p,v⟩=>gN g p/\K (λ_=>True) v
   |none=>match Cp P ρ o.op with
    |some (p,q)=>gN g (XR w p q)/\K (λw=>gN g (XR w p q)) (.bool (decide (p=q)))
    |none=>dw 67 o.op
 | _=>oM C ops env ch g o w (λv=>K (λ_=>True) v)
def UpC (p:A0->Prop):Prop:= ∀w w',p w->Ext w w'->p w'
theorem nQ {g:Option Bool} {p:A0->Prop} (h:UpC p):UpC (λw=>gN g (p w)):=by
 intro w w' a b;cases g with
 |none=>exact h w w' a b
 |some=>exact λhb=>h w w' (a hb) b
def O_ (op:Op):Bool:=match op with
 | .load .. =>false
 | .lookup .. =>false
 | .entry _=>false
 | .binOp .. =>false
 | .call c=>(match c.callee with| .value _=>false| .builtin .len=>false| _=>true)
 | _=>true
theorem KC {C:dG P} {ops:Array Oper} {env:List bS} {ch:List (Nat×Bool)} {g:Option Bool} {o:Oper} {w:A0} {K:A2->Prop} (e:O_ o.op=true)
 (h:oM C ops env ch g o w K): ∃v,K v/\ ∀i,oM C ops env ch g o i (λu=>u=v):=by
 obtain⟨dst,op,type,pos,after,guard⟩:=o;cases op with
 |load t x=>cases e
 |lookup a b c d=>cases e
 |entry a=>cases e
 |binOp op t x y j=>cases e
 |pick c x y=>
  unfold oM at h;simp only at h;unfold oM;simp only;split at h
  ·split at h
   ·split at h
    ·split at h
     ·exact⟨_,h,λ_=>rfl⟩
     ·exact h.elim
    ·split at h
     ·exact⟨_,h,λ_=>rfl⟩
     ·exact h.elim
    ·split at h
     ·split at h
      ·split at h
       ·exact⟨_,h,λ_=>rfl⟩
       ·exact⟨_,h,λ_=>rfl⟩
       ·exact⟨_,h,λ_=>rfl⟩
      ·exact h.elim
     ·exact h.elim
   ·exact h.elim
  ·exact h.elim
 |call c=>
  obtain⟨callee,args,ts⟩:=c;cases callee with
  |value f=>cases e
  |builtin b=>
   cases b with
   |len=>cases e
   | _=>
     unfold oM at h;simp only at h;unfold oM;simp only;split at h
     ·exact⟨_,h,λ_=>rfl⟩
     ·exact⟨_,h.2,λ_=>⟨h.1,rfl⟩⟩
     ·exact h.elim
  | _=>
    unfold oM at h;simp only at h;unfold oM;simp only;split at h
    ·exact⟨_,h,λ_=>rfl⟩
    ·exact⟨_,h.2,λ_=>⟨h.1,rfl⟩⟩
    ·exact h.elim
 | _=>
   unfold oM at h;simp only at h;unfold oM;simp only;split at h
   ·exact⟨_,h,λ_=>rfl⟩
   ·exact⟨_,h.2,λ_=>⟨h.1,rfl⟩⟩
   ·exact h.elim
theorem P_ {C:dG P} {ops:Array Oper} {env:List bS} {ch:List (Nat×Bool)} {g:Option Bool} {o:Oper} {w:A0} {K:(A0->Prop)->A2->Prop} (h:YM C ops env ch g o w K):
 ∃p v,K p v/\p w/\UpC p/\ ∀j,p j->oM C ops env ch g o j (λu=>u=v):=by
 obtain⟨dst,op,type,pos,after,guard⟩:=o;have st:O_ op=true->oM C ops env ch g ⟨dst,op,type,pos,after,guard⟩ w (λv=>K (λ_=>True) v)->
  ∃p v,K p v/\p w/\UpC p/\ ∀j,p j->oM C ops env ch g ⟨dst,op,type,pos,after,guard⟩ j (λu=>u=v):=λS h=>by
  obtain⟨v,k,hv⟩:=KC (o:=⟨dst,op,type,pos,after,guard⟩) S h;exact⟨_,v,k,trivial,λ_ _ _ _=>trivial,λj _=>hv j⟩
 unfold YM at h;cases op with
 |load t x=>
  simp only at h;split at h
  ·rename_i p el i h1 A G;split at h
   ·exact h.elim
   ·rename_i hb;obtain⟨x',T,k⟩:=h;refine⟨_, _,k,T,nQ λw w' d l=>tD l d,λj d=>?_⟩;unfold oM;simp only[h1,A,G,if_neg hb];exact⟨x',d,rfl⟩
  ·exact h.elim
 |entry a=>exact h.elim
 |lookup xt m ix ok=>
  simp only at h;split at h
  ·rename_i U V p kd n h1 A G;split at h
   ·rename_i W el X L M N;split at h
    ·rename_i z O;split at h
     ·rename_i Q;obtain⟨x,B,k⟩:=h;refine⟨_, _,k,B,nQ λw w' d l=>?_,λj d=>?_⟩
      ·obtain⟨r,es,H,D,E,F⟩:=d;exact⟨r,es,H,D,l.obj E,F⟩
      ·unfold oM;simp only[h1,A,G,L,M,N,O,if_pos Q];exact⟨x,d,rfl⟩
     ·exact h.elim
    ·exact h.elim
   ·exact h.elim
  ·rename_i U V p kd n h1 A G;split at h
   ·rename_i W el X L M N;split at h
    ·rename_i z O;split at h
     ·rename_i Q;obtain⟨x,b,B,k⟩:=h;refine⟨_, _,k,B,nQ λw w' d l=>?_,λj d=>?_⟩
      ·obtain⟨r,es,H,D,E,F⟩:=d;exact⟨r,es,H,D,l.obj E,F⟩
      ·unfold oM;simp only[h1,A,G,L,M,N,O,if_pos Q];exact⟨x,b,d,rfl⟩
     ·exact h.elim
    ·exact h.elim
   ·exact h.elim
  ·exact h.elim
 |call c=>
  obtain⟨callee,args,ts⟩:=c;cases callee with
  |value f=>
   simp only at h;split at h
   ·rename_i gM first cap ac9 h1 A
    split at h
    ·rename_i hc;split at h
     ·rename_i e R;split at h
      ·rename_i pre v Y;refine⟨_,v,h.2,trivial,λ_ _ _ _=>trivial,λj _=>?_⟩;unfold oM;simp only[h1,A,if_pos hc,R,Y];exact⟨h.1,trivial⟩
      ·exact h.elim
     ·rename_i R;obtain⟨x,B,k⟩:=h;refine⟨_, _,k,B,nQ λw w' d l=>λj A=>d j (l.trans A),λj d=>?_⟩;unfold oM;simp only[h1,A,if_pos hc,R];exact⟨x,d,rfl⟩
    ·exact h.elim
   ·exact h.elim
  |builtin b=>
   cases b with
   |len=>
    simp only at h;split at h
    ·rename_i p d;obtain⟨n,B,k⟩:=h;refine⟨_, _,k,B,nQ λw w' d l=>?_,λj I=>?_⟩
     ·obtain⟨r,es,H,D,E,F⟩:=d;exact⟨r,es,H,D,l.obj E,F⟩
     ·unfold oM;simp only[d];exact⟨n,I,rfl⟩
    ·rename_i d;split at h
     ·rename_i p J;obtain⟨n,B,k⟩:=h;refine⟨_, _,k,B,nQ λw w' d l=>?_,λj I=>?_⟩
      ·obtain⟨r,cap,Z,s,m,D,E,F⟩:=d;exact⟨r,cap,Z,s,m,D,l.obj E,F⟩
      ·unfold oM;simp only[d,J];exact⟨n,I,rfl⟩
     ·rename_i J;unfold oM at h;simp only[d,J] at h;split at h
      ·rename_i v hv;refine⟨_,v,h,trivial,λ_ _ _ _=>trivial,λj _=>?_⟩;unfold oM;simp only[d,J,hv]
      ·rename_i p v hv;refine⟨_,v,h.2,trivial,λ_ _ _ _=>trivial,λj _=>?_⟩;unfold oM;simp only[d,J,hv];exact⟨h.1,trivial⟩
      ·exact h.elim
   | _=>exact st rfl h
  | _=>exact st rfl h
 |binOp op t x y yt=>
  simp only at h;split at h
  ·rename_i v hv;refine⟨_,v,h,trivial,λ_ _ _ _=>trivial,λj _=>?_⟩;unfold oM;simp only[hv]
  ·rename_i p v hv;refine⟨_,v,h.2,trivial,λ_ _ _ _=>trivial,λj _=>?_⟩;unfold oM;simp only[hv];exact⟨h.1,trivial⟩
  ·rename_i hv;split at h
   ·rename_i p q d;refine⟨_, _,h.2,h.1,nQ λw w' d l=>IX l d,λj I=>?_⟩;unfold oM;simp only[hv,d];exact⟨I,trivial⟩
   ·exact h.elim
 | _=>exact st rfl h
def Xo (C:dG P) (ops:Array Oper) (N:Nat) (o:Oper) (env:List bS) (w:A0) (K:(A0->Prop)->List bS->Prop):Prop:=
 match gd ops env o with
 |none=>dw 44 o.op
 |some none=>if o9 ops N env [] o.dst then wW env o.dst [] none undef (K λ_=>True) else dw 45 o.op
 |some (some (ch,g))=>
  if o9 ops N env ch o.dst then YM C ops env ch g o w (λp v=>yD C o v (λv=>wW env o.dst ch g v (K p))) else dw 46 o.op
def YN (C:dG P) (ops:Array Oper) (N:Nat) (i:Nat) (env:List bS) (w:A0) (K:(A0->Prop)->List bS->Prop):Prop:=
 match ops[i]? with
 |none=>False
 |some ⟨dst,op,type,pos,after,guard⟩=>Xo C ops N ⟨dst,op,type,pos,after,guard⟩ env w K
def AS (j:Nat) (w:A0):List (Nat×(A0->Prop))->Prop->Prop
 |[],K=>K
 |(W,p)::r,K=>match W.testBit j with
  |true=>AS j w r K
  |false=>p w/\AS j w r K
theorem qm {j:Nat} {w:A0}: ∀{l:List (Nat×(A0->Prop))} {K:Prop},AS j w l K<->(∀e∈l,e.1.testBit j=false->e.2 w)/\K
 |[],K=>by simp[AS]
 |(W,p)::r,K=>by
  unfold AS;cases h:W.testBit j with
  |true
  |false=>simp only[qm,List.forall_mem_cons];grind
def OI (ops:Array Oper):Bool:=ops.toList.all λo=>match o.op with| .select .. | .defer _=>false| _=>true
def sb (i:Nat):Nat:=1 <<< i
theorem yh (i j:Nat):(sb i).testBit j=decide (i=j):=by simp[sb,Nat.one_shiftLeft,Nat.testBit_two_pow]
def AT:List Nat->Nat
 |[]=>0
 |x::r=>sb x ||| AT r
theorem tG: ∀(l:List Nat) (j:Nat),(AT l).testBit j=decide (j∈l)
 |[],j=>by simp[AT]
 |x::r,j=>by
  rw[AT,Fy,yh,tG]
  grind
theorem and_zero {a b j:Nat} (h:((a &&& b)==0)=true) (c:a.testBit j=true):b.testBit j=false:=by
 have:=congrArg (λm=>m.testBit j) (by simpa using h: )
 grind
theorem Qa {a b:Nat} (h:((a &&& b) != 0)=true): ∃j,a.testBit j=true/\b.testBit j=true:=by
 have h':=by simpa using h
 obtain:=Nat.exists_testBit_of_ne_zero h'
 grind
theorem Uv {a b j:Nat} (h:((a &&& b)==a)=true) (c:a.testBit j=true):b.testBit j=true:=by grind
theorem Uw {a b:Nat} (h:((a &&& b)==a)=false): ∃j,a.testBit j=true/\b.testBit j=false:=by
 apply Classical.byContradiction;intro;have:a &&& b=a:=by
  apply Nat.eq_of_testBit_eq
  grind
 grind
def J8 (o:Oper):Nat:=AT ((o.after.toList.filter λe=>Db .any e).map (·.on))
def WN (o:Oper):Nat:=match o.dst with
 |some d=>sb d
 |none=>0
def lkM (ops:Array Oper) (o:Oper):Nat:=AT (o.looksAt ops)
def TS (L i e:Nat):Bool:= !L.testBit i&&(e &&& L)==e
def Ik (L i:Nat):List (Oper×Nat)->Nat->Nat
 |[],W=>W
 |(o,j)::r,W=>Ik L i r (if !L.testBit j&&(J8 o &&& (W ||| sb i)) != 0 then W ||| sb j else W)
def Fw (ops:Array Oper) (x y:Oper):Bool:=(WN x &&& (lkM ops y ||| WN y))==0&&(WN y &&& lkM ops x)==0
def frM (C:dG P) (ops:Array Oper) (L i W:Nat) (x:Oper) (Z:List (Oper×Nat)):Bool:=
 Z.all λz=>z.2==i||L.testBit z.2||W.testBit z.2||(Fw ops x z.1&&(!B_ C z.1||mfO x))
def nxM (C:dG P) (Z:List (Oper×Nat)) (L:Nat):Option (Nat×Bool):=
 match Z.find? λz=>TS L z.2 (J8 z.1)&& !B_ C z.1&& !eV z.1 with
 |some z=>some (z.2,true)
 |none=>match Z.find? λz=>TS L z.2 (J8 z.1) with
  |some z=>some (z.2,false)
  |none=>none
def frS (ops:Array Oper) (L i W:Nat) (x:Oper) (Z:List (Oper×Nat)):Bool:=
 Z.all λz=>z.2==i||L.testBit z.2||W.testBit z.2||Fw ops x z.1
inductive Sd where
 |nil|q (i:Nat) (m:Option Nat) (r:Sd)|alt (i:Nat) (r t:Sd)|stop
def pD (C:dG P) (ops:Array Oper) (Z:List (Oper×Nat)):Nat->Nat->Option Sd
 |0,L=>if Z.all λz=> !TS L z.2 (J8 z.1) then some .nil else none
 |n+1,L=>match nxM C Z L with
  |none=>none
  |some (i,true)=>match ops[i]? with
   |some x=>if TS L i (J8 x)&& !B_ C x then
     if frM C ops L i (Ik L i Z 0) x Z then match pD C ops Z n (L ||| sb i) with
      |some l=>some (.q i none l)
      |none=>none
     else if frS ops L i (Ik L i Z 0) x Z then match pD C ops Z n (L ||| sb i) with
      |some l=>some (.q i (some (Ik L i Z 0)) l)
      |none=>none
     else none
    else none
   |none=>none
  |some (_,false)=>(Z.filter λz=>TS L z.2 (J8 z.1)).foldr (λz c=>match c with
   |none=>none
   |some b=>match pD C ops Z n (L ||| sb z.2) with
    |some a=>some (.alt z.2 a b)
    |none=>none) (some .stop)
def Zq (C:dG P) (ops:Array Oper):Option Sd:=pD C ops ops.toList.zipIdx ops.size 0
def om (C:dG P) (ops:Array Oper) (i:Nat):Bool:=((ops[i]?).map (B_ C)).getD true
def OJ (C:dG P) (ops:Array Oper) (i:Nat) (w:A0) (l:List (Nat×(A0->Prop))) (K:Prop):Prop:=
 match om C ops i with
 |true=>AS i w l K
 |false=>K
def YO (C:dG P) (ops:Array Oper) (N:Nat) (i:Nat) (a:List (Nat×(A0->Prop))) (env:List bS) (w:A0) (F:List bS->A0->Prop):Prop:=match a with
 |[]=>FL C ops N i env w F
 |e::a=>FL C ops N i env w (λenv w=>OJ C ops i w (e::a) (F env w))
def YP (t:Sd) (a b:Prop):Prop:=match t with
 | .stop=>a
 | _=>a/\b
def Fx (C:dG P) (ops:Array Oper) (N:Nat):Sd->List (Nat×(A0->Prop))->List bS->A0->(List bS->A0->Prop)->Prop
 | .nil, _,env,w,K=>K env w
 | .q i none r,a,env,w,K=>rxQ C ops N i env w (λenv=>Fx C ops N r a env w K)
 | .q i (some W) r,a,env,w,K=>YN C ops N i env w (λp env=>Fx C ops N r ((W,p)::a) env w K)
 | .alt i r t,a,env,w,K=>YP t (YO C ops N i a env w (λenv w=>Fx C ops N r a env w K)) (Fx C ops N t a env w K)
 | .stop, _, _, _, _=>True
def aaF (C:dG P) (ops:Array Oper) (N:Nat) (l:Sd) (env:List bS) (w:A0) (K:List bS->A0->Prop):Prop:=Fx C ops N l [] env w K
def YQ (C:dG P) (ops:Array Oper) (N:Nat) (env:List bS) (w:A0) (K:List bS->A0->Prop):Prop:=
 match Zq C ops with
 |some l=>aaF C ops N l env w K
 |none=>False
def IC (j:Nat) (x:Sd):Sd->Prop
 | .alt i r t=>(j=i/\x=r)\/IC j x t
 | _=>False
def Valid (C:dG P) (ops:Array Oper):Nat->Sd->Array Bool->Prop
 |0,t,a=>t= .nil/\B3 .any ops a=[]
 |n+1,t,a=>match t with
  | .q i m r=>i∈B3 .any ops a/\om C ops i=false/\
    (∃W:Nat->Bool,(∀c,ops[i]? =some c-> ∀j b,ops[j]? =some b->j≠i->a.getD j true=false->W j=false->c.apart ops b=true/\(B_ C b=false\/mfO c=true\/ ∃w,m=some w/\w.testBit j=false))/\
     (∀j,W j=true->a.getD j true=false/\ ∃b,ops[j]? =some b/\ ∃e∈b.after,Db .any e=true/\(e.on=i\/W e.on=true)))/\
    Valid C ops n r (a.setIfInBounds i true)
  | .alt i r d=>i∈B3 .any ops a/\ ∀j∈B3 .any ops a, ∃x,IC j x (.alt i r d)/\Valid C ops n x (a.setIfInBounds j true)
  | _=>False
def Am (ops:Array Oper) (L:Nat) (a:Array Bool):Prop:=a.size=ops.size/\ ∀j,a.getD j false=L.testBit j
theorem Am.un {ops:Array Oper} {L:Nat} {a:Array Bool} (h:Am ops L a) {j:Nat} (b:j<ops.size):a.getD j true=L.testBit j:=by
 rw[<-h.2];have:j<a.size:=by rw[h.1];grind
 grind
theorem Am.set {ops:Array Oper} {L:Nat} {a:Array Bool} (h:Am ops L a) {i:Nat} (hi:i<ops.size):Am ops (L ||| sb i) (a.setIfInBounds i true):=by
 refine⟨by simp[h.1],λj=>?_⟩;rw[Fy,yh, <-h.2];by_cases e:i=j
 ·subst e;have:i<a.size:=by rw[h.1];omega
  simp[this]
 simp_all
theorem Am.zero (ops:Array Oper):Am ops 0 (F8 ops.size false):=by
 refine⟨by simp,λj=>?_⟩;simp[K1]
theorem qe {ops:Array Oper} {o:Oper} {j:Nat}:(o,j)∈ops.toList.zipIdx<->ops[j]? =some o:=by grind
theorem Gb {o:Oper} {j:Nat}:(J8 o).testBit j=true<-> ∃e∈o.after,Db .any e=true/\e.on=j:=by
 grind[J8,tG]
theorem nb {ops:Array Oper} {L:Nat} {c:Array Bool} (h:Am ops L c) {i:Nat}:i∈B3 .any ops c<-> ∃o,ops[i]? =some o/\TS L i (J8 o)=true:=by
 unfold B3;rw[Cg,Ds];constructor
 ·rintro⟨hi,hc⟩;rw[h.un hi] at hc;simp only[BW] at hc;have a:=Kb hi;refine⟨ops[i],a,?_⟩;rw[a] at hc;simp only[GD,I1,H4] at hc;unfold TS;rw[BW];refine⟨hc.1,?_⟩;cases f:(J8 _ &&& L)==J8 _ with
  |true=>rfl
  |false=>
   obtain⟨j,h1,g⟩:=Uw f;obtain⟨e,d,hb,rfl⟩:=Gb.1 h1;have:=hc.2 e d;rw[hb,h.2,g] at this;cases this
 ·rintro⟨o,a,b⟩;have hi:=(Bx.1 a).1;unfold TS at b;rw[BW] at b;refine⟨hi,?_⟩;rw[h.un hi,BW];refine⟨b.1,?_⟩;rw[a];simp only[GD,I1,H4];intro e d;rw[h.2];cases hb:Db .any e with
  |false=>rfl
  |true=>rw[Uv b.2 (Gb.2 (by grind))];rfl
theorem D9 {L i:Nat}: ∀(Z:List (Oper×Nat)) (W j:Nat),W.testBit j=true->(Ik L i Z W).testBit j=true
 |[], _, _,h=>h
 |k::r,W,j,h=>by
  refine D9 r _ j ?_
  grind
theorem Pa {L i:Nat}: ∀(Z:List (Oper×Nat)) (W:Nat),(∀x,(Ik L i Z W).testBit x=true->W.testBit x=true\/(L.testBit x=false/\ ∃o,(o,x)∈Z/\ ∃k,(J8 o).testBit k=true/\(k=i\/(Ik L i Z W).testBit k=true)))
 |[], _, _,h=> .inl h
 |(o,j)::r,W,x,h=>by
  unfold Ik at h ⊢;rcases Pa r _ x h with h1|⟨h1,o',b,c⟩
  ·split at h1
   ·rename_i hc;rw[Fy,yh,FY,decide_eq_true_eq] at h1;rcases h1 with h1|rfl
    ·exact .inl h1
    ·rw[BW] at hc;obtain⟨k,d,a⟩:=Qa hc.2;rw[Fy,yh,FY,decide_eq_true_eq] at a
     grind[IR,D9]
   ·exact .inl h1
  grind
theorem Pb {ops:Array Oper} {x y:Oper} (h:Fw ops x y=true):x.apart ops y=true:=by
 unfold Fw at h;rw[BW] at h;obtain⟨h1,b⟩:=h;unfold Oper.apart;rw[BW];constructor
 ·cases a:x.dst with
  |none=>rfl
  |some d=>
   have hb:(WN x).testBit d=true:=by simp[WN,a,yh]
   have:=and_zero h1 hb;rw[Fy,Bool.or_eq_false_iff] at this;obtain⟨a1,c⟩:=this;unfold lkM at a1;rw[tG] at a1
   grind[WN,yh]
 ·cases a:y.dst with
  |none=>rfl
  |some d=>
   have hb:(WN y).testBit d=true:=by simp[WN,a,yh]
   grind[and_zero,lkM,tG]
theorem IZ {F:Nat->Option Sd}: ∀(l:List (Oper×Nat)) (t:Sd),l.foldr (λz e=>match e with
 |none=>none
 |some b=>match F z.2 with
  |some a=>some (.alt z.2 a b)
  |none=>none) (some Sd.stop)=some t->(l=[]/\t= .stop)\/(∃i r d,t= .alt i r d/\(∃o,(o,i)∈l)/\ ∀z∈l, ∃x,IC z.2 x t/\F z.2=some x)
 |[],t,h=>by
  grind
 |z::l,t,h=>by
  rw[List.foldr_cons] at h;split at h
  ·cases h
  ·rename_i b hb;split at h
   ·rename_i a f;cases h;refine .inr ⟨z.2,a,b,rfl,by grind,λy c=>?_⟩;rcases Ct.1 c with rfl|c
    ·exact⟨a,.inl (by grind),f⟩
    ·rcases IZ l b hb with ⟨rfl, _⟩|⟨i,r,d, _, _,g⟩
     ·cases c
     ·obtain⟨x,h1,j⟩:=g y c;exact⟨x,.inr h1,j⟩
   grind
theorem qn {C:dG P} {ops:Array Oper}: ∀(n L:Nat) (g:Array Bool) (l:Sd),Am ops L g->pD C ops ops.toList.zipIdx n L=some l->Valid C ops n l g
 |0,L,g,l,a,h=>by
  simp only[pD] at h;split at h
  ·rename_i hc;cases h;refine⟨rfl,?_⟩;rw[List.eq_nil_iff_forall_not_mem];intro j b;obtain⟨o,c,t⟩:=(nb a).1 b;have:=Dq.1 hc (o,j) (qe.2 c);rw[t] at this;cases this
  ·cases h
 |n+1,L,g,l,a,h=>by
  have D: ∀i j,(Ik L i ops.toList.zipIdx 0).testBit j=true->g.getD j true=false/\ ∃d,ops[j]? =some d/\ ∃e∈d.after,Db .any e=true/\(e.on=i\/(Ik L i ops.toList.zipIdx 0).testBit e.on=true):=by
   intro i j f;rcases Pa ops.toList.zipIdx 0 j f with h1|⟨h1,o,m,k,I,J⟩
   ·simp at h1
   ·have c:=qe.1 m;obtain⟨e,u,hb,rfl⟩:=Gb.1 I;exact⟨by rw[a.un (Bx.1 c).1];exact h1,o,c,e,u,hb,J⟩
  simp only[pD] at h;split at h
  ·cases h
  ·rename_i i _;split at h
   ·rename_i x hx;have hi:i<ops.size:=(Bx.1 hx).1;split at h
    ·rename_i hc;rw[BW,Gj] at hc;have E:om C ops i=false:=by unfold om;rw[hx];exact hc.2
     split at h
     ·rename_i v;split at h
      ·rename_i l' w;cases h;have y:=qn n _ _ l' (a.set hi) w;refine⟨(nb a).2 ⟨x,hx,hc.1⟩,E,⟨λj=>(Ik L i ops.toList.zipIdx 0).testBit j,?_,λj=>D i j⟩,y⟩;intro K p j d b A q f;rw[hx] at p;cases p;have:=Dq.1 v (d,j) (qe.2 b);rw[a.un (Bx.1 b).1] at q;have B:(Ik L i ops.toList.zipIdx 0).testBit j=false:=f;simp only[q,B,J4,FY,beq_iff_eq,BW,Gj] at this;rcases this with h1|h1
       ·exact absurd h1 A
       ·exact⟨Pb h1.1,h1.2.imp id .inl⟩
      ·cases h
     ·split at h
      ·rename_i v;split at h
       ·rename_i l' w;cases h;have y:=qn n _ _ l' (a.set hi) w;refine⟨(nb a).2 ⟨x,hx,hc.1⟩,E,⟨λj=>(Ik L i ops.toList.zipIdx 0).testBit j,?_,λj=>D i j⟩,y⟩;intro K p j d b A q f;rw[hx] at p;cases p;have:=Dq.1 v (d,j) (qe.2 b);rw[a.un (Bx.1 b).1] at q;have B:(Ik L i ops.toList.zipIdx 0).testBit j=false:=f;simp only[q,B,J4,FY,beq_iff_eq] at this;rcases this with h1|h1
        ·exact absurd h1 A
        ·exact⟨Pb h1,.inr (.inr ⟨_,rfl,f⟩)⟩
       ·cases h
      ·cases h
    ·cases h
   ·cases h
  ·rename_i s;rcases IZ (F:=λj=>pD C ops ops.toList.zipIdx n (L ||| sb j)) _ l h with ⟨u, _⟩|⟨i,r,N,rfl,⟨o,c⟩,M⟩
   ·
    exfalso;unfold nxM at s;split at s
    ·cases s
    ·split at s
     ·rename_i z G;have h1:=NW G;have m:=List.mem_of_find?_eq_some G;have:z∈(ops.toList.zipIdx).filter λz=>TS L z.2 (J8 z.1):=Cg.2 ⟨m,h1⟩;rw[u] at this;cases this
     ·cases s
   ·rw[Cg] at c;refine⟨(nb a).2 ⟨o,qe.1 c.1,c.2⟩,λj b=>?_⟩;obtain⟨d,H,t⟩:=(nb a).1 b;obtain⟨x,h1,m⟩:=M (d,j) (Cg.2 ⟨qe.2 H,t⟩);exact⟨x,h1,qn n _ _ x (a.set (Bx.1 H).1) m⟩
section
variable {r:Option Nat} {S:Nat->Option (Option A2)} {ops:Array Oper} {N:Nat} {D:List Deferred} {Q:Exit->Act->A0->Prop}
theorem Zr {C:dG P} {i:Nat} {env:List bS} {a:Act} {w:A0} {K:List bS->Prop} (k:Wr S ops) (b:Fit S ops N D env a) (h:rxQ C ops N i env w K):
 ∃o u db,ops[i]? =some o/\K db/\Fit S ops N D db (a.put o.dst u)/\fU P ops o u a w:=by
 unfold rxQ at h;cases j:ops[i]? with
 |none=>simp[j] at h
 |some o=>
  simp only[j,aaE,nP] at h;have e:=k o (by grind);split at h
  ·exact AC h
  ·rename_i f;split at h
   ·rename_i c;exact⟨o,undef, _,rfl,h,b.put c e rfl (λ_=>rfl) (by grind),.inr ⟨CD b f,rfl⟩⟩
   ·exact AC h
  ·rename_i ch g f;obtain⟨hg,l⟩:=OG b f;split at h
   ·rename_i c;obtain⟨v,d,m⟩:=yF b hg h;replace d:=sk d;by_cases hc:kh ops a.tmps ch
    ·exact⟨o,v, _,rfl,d,b.put c e hg (λ_=>rfl) (λn=>absurd hc n),.inl ⟨l.2 hc,m hc⟩⟩
    ·refine⟨o,undef, _,rfl,d,b.put c e hg (λp=>absurd p hc) (λ_=>rfl),.inr ⟨?_,rfl⟩⟩
     simp_all
   ·exact AC h
theorem Ux {C:dG P} {i:Nat} {env:List bS} {a:Act} {w:A0} {K:(A0->Prop)->List bS->Prop} (s:Wr S ops) (c:Fit S ops N D env a) (h:YN C ops N i env w K):
 ∃o u db p,ops[i]? =some o/\K p db/\Fit S ops N D db (a.put o.dst u)/\p w/\UpC p/\ ∀b,p b->fU P ops o u a b:=by
 unfold YN at h;cases n:ops[i]? with
 |none=>simp[n] at h
 |some o=>
  simp only[n,Xo,nP] at h;have j:=s o (by grind);split at h
  ·exact AC h
  ·rename_i k;split at h
   ·rename_i d;exact⟨o,undef, _, _,rfl,h,c.put d j rfl (λ_=>rfl) (by grind),trivial,λ_ _ _ _=>trivial,λ_ _=> .inr ⟨CD c k,rfl⟩⟩
   ·exact AC h
  ·rename_i ch g k;obtain⟨hg,t⟩:=OG c k;split at h
   ·rename_i d;obtain⟨p,v,f,q,r,x⟩:=P_ h;replace f:=sk f;have y: ∀b,p b->kh ops a.tmps ch-> ∀w',Ext b w'->di P o a w' v:=λb l hc=>by
     obtain⟨A,e,m⟩:=yF c hg (x b l);subst e;exact m hc
    by_cases hc:kh ops a.tmps ch
    ·exact⟨o,v, _,p,rfl,f,c.put d j hg (λ_=>rfl) (λz=>absurd hc z),q,r,λb l=> .inl ⟨t.2 hc,y b l hc⟩⟩
    ·refine⟨o,undef, _,p,rfl,f,c.put d j hg (λm=>absurd m hc) (λ_=>rfl),q,r,λb _=> .inr ⟨?_,rfl⟩⟩
     simp_all
   ·exact AC h
def AU (a:List (Nat×(A0->Prop))) (j:Nat) (w:A0):Prop:= ∀e∈a,e.1.testBit j=false->e.2 w
theorem I0 {C:dG P} {a:List (Nat×(A0->Prop))} {env:List bS} {w:A0} {K:List bS->A0->Prop} {j:Nat} {x:Sd}: ∀{t:Sd},Fx C ops N t a env w K->IC j x t->YO C ops N j a env w (λenv w=>Fx C ops N x a env w K)
 | .alt i r t,h,hi=>by
   rw[Fx] at h;have h1:YO C ops N i a env w λenv w=>Fx C ops N r a env w K:=by
    grind[YP]
   rcases hi with ⟨rfl,rfl⟩|hi
   ·omega
   ·refine I0 ?_ hi;unfold YP at h;split at h
    ·cases hi
    grind
theorem Zt {C:dG P} (G:Wr S ops) (Al:OI ops=true) (U: ∀c a w,¬ Q (.panic c) a w): ∀(n:Nat) (l:Sd) (f:Array Bool) (d:List (Nat×(A0->Prop))) (env:List bS) (a:Act) (w:A0) (K:List bS->A0->Prop),(∀e∈d,UpC e.2)->Fit S ops N D env a->
 Valid C ops n l f->Fx C ops N l d env w K->(∀env a w w',K env w->Fit S ops N D env a->Ext w w'->Q .normal a w')->
 mE r P ops Q (om C ops) (AU d) n f a w:=by
 have V: ∀(j:Nat) (o:Oper),ops[j]? =some o->(∀cs b,o.op≠ .select cs b)/\ ∀c,o.op≠ .defer c:=λj o g=>by
  have:=Dq.1 Al o (Array.mem_toList_iff.2 (Kd g));constructor
  ·intro cs b he;simp[he] at this
  ·intro c he;simp[he] at this
 intro n
 induction n with
 |zero=>
  intro l f d env a w K _ s hv h v w' H;obtain⟨rfl,hv⟩:=hv;exact⟨hv,v env a w w' h s H⟩
 |succ n I=>
  intro l f d env a w K z s hv h v;cases l with
  |nil=>exact hv.elim
  |stop=>exact hv.elim
  |q i m l=>
   obtain⟨X,Y,⟨W,Z,XU⟩,A⟩:=hv;cases m with
   |none=>
    obtain⟨o,u,db,g,x,y,B⟩:=Zr G s h;have J:=I l (f.setIfInBounds i true) d db (a.put o.dst u) w K z y A x v;exact t_ (W:=W) (a0:=a) g Y V U (λ_ _ h=>h) n f a w (λj L k M O R=>by
     have:=Z o g j L k M O R;refine⟨this.1,?_⟩;rcases this.2 with h|h|⟨w,h, _⟩
     ·exact .inl (by unfold om;rw[k];exact h)
     ·exact .inr (.inl h)
     ·cases h) XU X ⟨rfl,rfl⟩ B J
   |some T=>
    obtain⟨o,u,db,p,g,x,y,hp,hu,B⟩:=Ux G s h;have J:=I l (f.setIfInBounds i true) ((T,p)::d) db (a.put o.dst u) w K (λe he=>by
     rcases Ct.1 he with rfl|he
     ·exact hu
     ·exact z e he) y A x v
    exact t_ (W:=W) (a0:=a) (T':=AU ((T,p)::d)) g Y V U (λ_ _ h e he=>h e (NU _ he)) n f a w (λj L k M O R=>by
     have:=Z o g j L k M O R;refine⟨this.1,?_⟩;rcases this.2 with h|h|⟨w,h,hb⟩
     ·exact .inl (by unfold om;rw[k];exact h)
     ·exact .inr (.inl h)
     ·cases h;exact .inr (.inr λw1 hT=>B w1 (hT (T,p) IR hb))) XU X ⟨rfl,rfl⟩ (B w hp) J
  |alt i l0 t=>
   obtain⟨hri,mL⟩:=hv;intro w' H;refine⟨λhe=>absurd hri (by rw[he];simp),λj k=>?_⟩;obtain⟨l,lU,A⟩:=mL j k;have h:=I0 h lU;have h':FL C ops N j env w (λenv w=>(om C ops j=true->AU d j w)/\Fx C ops N l d env w K):=by
    cases d with
    |nil=>
     have h:FL C ops N j env w (λenv w=>Fx C ops N l [] env w K):=h
     simp_all[om,AU,Fx]
    |cons E F=>
     have e:(λ(env:List bS) (w:A0)=>(om C ops j=true->AU (E::F) j w)/\Fx C ops N l (E::F) env w K)=λenv w=>OJ C ops j w (E::F) (Fx C ops N l (E::F) env w K):=by
      funext env w;unfold OJ;cases om C ops j with
      |true=>exact propext ⟨λh=>qm.2 ⟨h.1 rfl,h.2⟩,λh=>⟨λ_=>(qm.1 h).1,(qm.1 h).2⟩⟩
      |false=>simp
     rw[e];exact h
   refine wpOpIn_mono (λa1 w1 hh=>?_) (D8 G s h' H);obtain⟨hx,db,wr,⟨XX,x⟩,y,uO⟩:=hh;exact⟨hx,λhe e hm hb=>z e hm wr w1 ((XX he) e hm hb) uO,nZ (I l _ d db a1 wr K z y A x v) uO⟩
theorem Uy {C:dG P} (d:Wr S ops) (e:OI ops=true) (f: ∀c a w,¬ Q (.panic c) a w) (env:List bS) (a:Act) (w:A0) (K:List bS->A0->Prop) (g:Fit S ops N D env a)
 (h:YQ C ops N env w K) (i: ∀env a w w',K env w->Fit S ops N D env a->Ext w w'->Q .normal a w'):
 mE r P ops Q (om C ops) (AU []) ops.size (F8 ops.size false) a w:=by
 unfold YQ aaF at h;split at h
 ·rename_i l b;have hv:=qn _ 0 _ l (Am.zero ops) b
  grind[Zt]
 grind
end
variable {P:AM}
def ko (l:List bS):List bS:=
 match l.filter λe=> !e.ch.isEmpty with
 |[]=>l
 |bad=>l.filter λe=>e.ch.isEmpty&& !(bad.any λb=>b.t==e.t)
def plain (l:List bS):Prop:= ∀e∈l,e.ch=[]/\e.g=none
theorem iV {p:bS->Bool}: ∀{l:List bS} {t:Nat} {e:bS},cd (l.filter p) t=some e->(∀x∈l,x.t=t->p x=true)->cd l t=some e
 |x::r,t,e,h,c=>by
  by_cases hx:p x=true
  ·simp only[NX,hx,if_true,cd] at h;simp only[cd];split
   grind
   ·rename_i a
    simp_all
    exact iV h (by grind)
  ·simp only[NX,hx] at h;have b:x.t≠t:=λa=>hx (by grind);simp only[cd,b];exact iV h (by grind)
theorem yH: ∀{l:List bS} {t:Nat} {e:bS},cd l t=some e->e.t=t
 |x::r,t,e,h=>by
  simp[cd] at h;split at h
  grind
  ·exact yH h
variable {S:Nat->Option (Option A2)} {N:Nat} {D:List Deferred} {env:List bS} {a:Act}
theorem Fit.Qb {ops ops':Array Oper} (h:Fit S ops N D env a) (b:plain env):Fit S ops' N D env a:=by
 have nil: ∀(o),kh o a.tmps []:=λo hx=>by simp
 refine⟨h.off,h.size,h.qK,λt e c _=>h.yes t e c (by rw[(b e (bX c)).1];grind),λt e c f=>absurd (by rw[(b e (bX c)).1];grind) f,λe d=>?_,h.BU⟩;rw[(b e d).2];exact(b e d).1
theorem A8 {ops ops':Array Oper} (h:Fit S ops N D env a):Fit S ops' N D (ko env) a/\plain (ko env):=by
 have hg: ∀e∈env,e.ch=[]->e.g=none:=λe b hc=>by
  have:=h.Fv e b;cases i:e.g with
  |none=>rfl
  |some γ=>rw[i] at this;exact absurd hc this.1
 have nil: ∀(o:Array Oper),kh o a.tmps []:=λo x hx=>by cases hx
 have f: ∀e∈ko env,e.ch=[]/\e∈env:=by
  intro e b;unfold ko at b;split at b
  simp_all
  grind
 have j: ∀t e,cd (ko env) t=some e->cd env t=some e:=by
  intro t e b;unfold ko at b;split at b
  ·exact b
  ·rename_i l m;refine iV b λx hx n=>?_;have p:=bX b
   grind[yH]
 have d:plain (ko env):=λe b=>⟨(f e b).1,by grind⟩;refine⟨⟨h.off,h.size,h.qK,λt e k _=>h.yes t e (j t e k) (by grind[bX]),by grind[bX],λe c=>?_,λe c=>h.BU e (f e c).2⟩,d⟩;rw[(d e c).2];exact(d e c).1
def jL:Code->Option Nat
 | .region id _ _=>some id
 | .seq a b=>match jL a with
   |some i=>some i
   |none=>jL b
 | .cond _ a b=>match jL a with
   |some i=>some i
   |none=>jL b
 | .block _ b=>jL b
 | .loop b=>jL b
 | _=>none
def Uf (ops:Array Oper):List Nat:=ops.toList.filterMap (·.dst)
def writes:Code->List Nat
 | .region _ ops _=>Uf ops
 | .seq a b=>writes a++writes b
 | .cond _ a b=>writes a++writes b
 | .block _ b=>writes b
 | .loop b=>writes b
 | _=>[]
abbrev a7:=List (Nat×El)
def lx:(l:a7)->oG (l.map (·.2))->List bS
 |[], _=>[]
 |(t,s)::r,x=>⟨t,[],none,s.iu x.1,none⟩::lx r x.2
def pa:(l:a7)->List bS->Option (oG (l.map (·.2)))
 |[], _=>some ()
 |(t,s)::r,env=>match cd env t with
  |some e=>match s.proj e.v,pa r env with
   |some x,some y=>some (x,y)
   | _, _=>none
  |none=>none
def Xq (op:Op):Bool:=match op with
 | .send .. | .select .. =>true
 | _=>false
def aba (ops:Array Oper):Bool:=ops.toList.any λo=>Xq o.op
def mm (n k:Nat):Array Bool:=⟨(B4 n).map λi=>FB i k⟩
def Ug (ops:Array Oper):Bool:=(B4 ops.size).all λk=>B3 .any ops (mm ops.size k)==[k]
theorem EZ {n k:Nat} (h:k<n):(mm n k).setIfInBounds k true=mm n (k+1):=by
 simp[mm];apply List.ext_getElem
 ·simp
 ·intro i a;rw[List.getElem_set];simp only[List.getElem_map,List.getElem_range];split
  ·subst_vars
   simp
  ·rw[Bool.eq_iff_iff,Nat.blt_eq,Nat.blt_eq];omega
theorem I3 {ops:Array Oper} (h:Ug ops=true): ∀(fuel t k:Nat) (a:List Nat),k+fuel=ops.size->FX .any ops fuel t (mm ops.size k) a=a.reverse++Gd k fuel
 |0,t,k,a, _=>by simp[FX]
 |fuel+1,t,k,a,c=>by
  have b:=by
   simp[Ug] at h;exact h k (by omega)
  change (match (B3 .any ops _)[t % (B3 .any ops _).length]? with
   |some i=>FX .any ops fuel _ _ _
   |none=>a.reverse)= _
  rw[b];simp[Nat.mod_one,GH];rw[EZ (by omega),I3 h fuel _ _ _ (by omega)];simp[Iy]
def CmR (P:AM) (o:Oper) (a:Act) (w:A0) (v:A2) (w':A0):Prop:=
 ∃cases bl sh,(execOp a.eval o).run P w= .ok (.comm cases bl sh) w/\
  ∀fr cs es,stepG P true (I2 fr cs) w= .comm (I2 fr cs) cases bl sh w es->step P (T3 (I2 fr cs) w)= .next (T3 (I2 (fr.finish v) cs) w')
def TF (P:AM) (ops:Array Oper) (Q:Act->A0->Prop):List Nat->Act->A0->Prop
 |[],a,w=>Q a w
 |i::l,a,w=> ∃o,ops[i]? =some o/\Bs o (yielded ops a.tmps)=true/\(∀c,o.op≠ .defer c)/\
  ∃v w',((execOp a.eval o).run P w= .ok (.value v) w'\/CmR P o a w v w')/\TF P ops Q l (a.put o.dst v) w'
theorem D_ {ops:Array Oper} {Q b:Act->A0->Prop} (c: ∀a w,Q a w->b a w): ∀(l:List Nat) (a:Act) (w:A0),TF P ops Q l a w->TF P ops b l a w
 |[],a,w,h=>c a w h
 |i::l,a,w,h=>by
  obtain⟨o,d,e,f,v,w',hs,g⟩:=h;exact⟨o,d,e,f,v,w',hs,D_ c l _ _ g⟩
theorem nc {r:Option Nat} {ops:Array Oper} {Q:Act->A0->Prop}: ∀(l:List Nat) (a:Act) (w:A0),TF P ops Q l a w-> ∀(b:Frame) (k:List Item) (cs:List Frame),
 ∃a' w',Q a' w'/\StepsIn (Machine.fenced P (WF r)) P (lone (b.atR a (.inRegion ops l::k)) cs w) (lone (b.atR a' k) cs w')
 |[],a,w,h,b,k,cs=>⟨a,w,h,.one (fenced_calm (n:=0) (Xn r _) (IY r _) rfl) stepR_region_end⟩
 |i::l,a,w,h,b,k,cs=>by
  obtain⟨o,c,g,j,v,w',m,p⟩:=h;obtain⟨a',q,s,hs⟩:=nc l _ _ p b k cs;have hg:=stepGR_op (P:=P) (b:=b) (k:=k) (cs:=cs) (w:=w) (rest:=l) c g;rw[Oper.semAt_eq _ _ _ j] at hg;have e:(b.atR a (.inRegion ops (i::l)::k)).finish v=b.atR (a.put o.dst v) (.inRegion ops l::k):=by rw[Frame.finish_atR,c];rfl
  have h0:(lone (b.atR a (.inRegion ops (i::l)::k)) cs w).fenced P (WF r):=fenced_oper (n:=0) (Xn r _) (IY r _) c (λ_ _=>trivial);refine⟨a',q,s,.head h0 ?_ hs⟩;rcases m with d|⟨f,bl,sh,d,hc⟩
  ·refine step_lone_go ?_;rw[hg, <-e];simp[stepG.apply,d]
  ·rw[<-e];have key: ∀x:Sem Next,x.run P w= .ok (.comm f bl sh) w-> ∃es,stepG.apply P true (b.atR a (.inRegion ops (i::l)::k)) cs none x w= .comm _ f bl sh w es:=λx hx=>by
    simp only[stepG.apply,Sem.runT_eq,hx,GStep.after];exact⟨_,rfl⟩
   obtain⟨es,t⟩:=key _ d;exact hc _ _ es (hg.trans t)
theorem AA {r:Option Nat} {id:Nat} {ops:Array Oper} {d:Bool} {Q:Exit->Act->A0->Prop} {a:Act} {w:A0} (j:P.follows .mixedOrders=true) (hs:Ug ops=true)
 (h: ∀w',Ext w w'->TF P ops (Q .normal) (B4 ops.size) a w'):(Code.region id ops d).wpIn (WF r) 0 P Q a w:=by
 intro b k cs _ hb f;cases d with
 |false=>
  obtain⟨a',w',c,g⟩:=nc _ _ _ (h w (Ext.refl w)) b k cs;exact⟨.normal,a',w',c,StepsIn.head (fenced_calm hb f rfl) stepR_region g⟩
 |true=>
  obtain⟨a',w',c,g⟩:=nc (r:=r) _ _ _ (h _ (Ext.drew w)) b k cs;refine⟨.normal,a',w',c,StepsIn.head (fenced_calm hb f rfl) (stepR_region_draw) ?_⟩;have e: ∀t,GF (P.follows .mixedOrders) ops t=B4 ops.size:=λt=>by
   simp only[GF,j,N4];have l:F8 ops.size false=mm ops.size 0:=by
    apply Array.ext
    ·simp[mm]
    ·have: ∀i,FB i 0=false:=λi=>by rfl
     simp[mm,this]
   grind[I3,O2]
  grind
def ID (op:Op):Bool:=match op with
 | .load .. | .fieldAddr .. | .indexAddr .. | .build .. | .field .. | .extract .. | .binOp .. | .move _| .assign _| .convert .. =>true
 | _=>false
theorem Qc {s:Sem A2} {f:B2} {args:Array A2} {w w':A0} (h:(do pure (Next.value (<-s)):Sem Next).run P w= .ok (.enter f args) w'):False:=by
 cases hs:s.run P w with
 |ok
 |halt=>simp_all
theorem A9 {o:Oper} {a:Act} {w:A0} {v:A2} (h:ID o.op=true) (d:di P o a w v):(execOp a.eval o).run P w= .ok (.value v) w/\ ∀c,o.op≠ .defer c:=by
 obtain⟨dst,op,type,pos,after,guard⟩:=o;have e: ∀f args w',(execOp a.eval ⟨dst,op,type,pos,after,guard⟩).run P w≠ .ok (.enter f args) w':=λf args w' b=>by
  cases op<;>simp[ID,F6] at h<;>first|exact Qc b|(simp[execOp] at b;done)
 refine⟨?_,λc hc=>by subst hc;cases h⟩
 grind[di]
def cop (P:AM) (ρ:Operand->Option A2) (op:Op) (w:A0) (K:A2->A0->Prop):Prop:=match op with
 | .send ch x=>match ρ ch,ρ x with
   |some (.chan p),some v=> ∀w1,Ext w w1-> ∃r cap a s m,p=some r/\ChO w1 r cap a s m/\a.length<cap/\K undef (w1.putObj r (.chan cap ⟨a++[v]⟩ false (s+1) m false))
   | _, _=>dw 130 op
 | .select cs bl=>match bl,cs.toList with
   |false,[c]=>match c.send,ρ c.chan,P.info? c.elem,uS P c.elem with
    |none,some (.chan p),some i,some el=>match i.zero with
     |some z=> ∀w1,Ext w w1-> ∃r cap a s m,p=some r/\ChO w1 r cap a s m/\(a=[]->K (.tuple ⟨[.int .i64 (-1),.bool false,z]⟩) w1)/\
      ∀v vs,a=v::vs-> ∃x:el.T,v=el.iu x/\K (.tuple ⟨[.int .i64 0,.bool true,el.iu x]⟩) (w1.putObj r (.chan cap ⟨vs⟩ false s (m+1) false))
     |none=>dw 131 op
    | _, _, _, _=>dw 132 op
   | _, _=>dw 133 op
 | _=>dw 134 op
theorem zv (w:A0) (r cap:Nat) (a:Array A2) (cl:Bool) (s m:Nat) (b:Bool):w.setChan r cap a cl s m b=w.putObj r (.chan cap a cl s m b):=rfl
theorem Pd {ρ:Operand->Option A2} {a:Act} (d: ∀x v,ρ x=some v->a.eval x=v) {o:Oper} {w w':A0} {K:A2->A0->Prop} (h:cop P ρ o.op w K) (g:Ext w w'):
 (∀c,o.op≠ .defer c)/\ ∃v j,CmR P o a w' v j/\K v j:=by
 obtain⟨dst,op,type,pos,after,guard⟩:=o;unfold cop at h;simp only at h;split at h
 ·rename_i ch x;refine⟨λc hc=>(by cases hc),?_⟩;split at h
  ·rename_i p v e hv;obtain⟨r,cap,k,s,m,rfl,hc,l,f⟩:=h w' g;refine⟨_, _,⟨_, _, _,(by simp only[execOp,d _ _ e,d _ _ hv];rfl),λfr cs es b=>?_⟩,f⟩;have:=Go.Conc.step_lone_send_room (z':= .tuple #[]) b hc (by simpa using l);rw[this,zv];simp
  ·exact h.elim
 ·rename_i cs bl;refine⟨λc hc=>(by cases hc),?_⟩;split at h
  ·rename_i c fe;split at h
   ·rename_i p i el n e hi y;split at h
    ·rename_i z q;obtain⟨r,cap,k,s,m,rfl,hc,h0,h1⟩:=h w' g;have t:cs= #[c]:=by cases cs;simp_all
     have dP:(execOp a.eval ⟨dst,.select cs false,type,pos,after,guard⟩).run P w'= .ok (.comm #[T9 r z] false .select) w':=by
      subst t;have u:(zeroValue c.elem).run P w'= .ok z w':=by simp[zeroValue,fy hi,q]
      simp[execOp,n,d _ _ e,u,T9]
     cases k with
     |nil=>exact⟨_, _,⟨_, _, _,dP,λfr cs es b=>Go.Conc.step_lone_select_default b hc⟩,h0 rfl⟩
     |cons v vs=>
      obtain⟨x,rfl,f⟩:=h1 v vs rfl;refine⟨_, _,⟨_, _, _,dP,λfr cs es b=>?_⟩,f⟩;have:=Go.Conc.step_lone_select_recv_buf b hc (by simp);rw[this,zv];simp[goInt]
    ·exact h.elim
   ·exact h.elim
  ·exact h.elim
 ·exact h.elim
def rxC (C:dG P) (ops:Array Oper) (N:Nat):List Nat->List bS->A0->(List bS->A0->Prop)->Prop
 |[],env,w,K=>K env w
 |i::r,env,w,K=>match ops[i]? with
  |none=>False
  |some ⟨dst,op,type,pos,after,guard⟩=>match guard with
   |some _=>dw 135 op
   |none=>if o9 ops N env [] dst then match Xq op with
     |true=>cop P (xS env []) op w (λv a=>wW env dst [] none v (λenv=>rxC C ops N r env a K))
     |false=>if ID op then oM C ops env [] none ⟨dst,op,type,pos,after,none⟩ w (λv=>wW env dst [] none v (λenv=>rxC C ops N r env w K)) else dw 136 op
    else dw 137 op
theorem Gc {ops:Array Oper} {C:dG P} (f:Wr S ops): ∀(l:List Nat) (env:List bS) (a:Act) (w w':A0) (K:List bS->A0->Prop),Fit S ops N D env a->rxC C ops N l env w K->Ext w w'->
 TF P ops (λa1 w1=> ∃db j,K db j/\Fit S ops N D db a1/\Ext j w1) l a w'
 |[],env,a,w,w',K,b,h,c=>⟨env,w,h,b,c⟩
 |i::l,env,a,w,w',K,b,h,c=>by
  unfold rxC at h;split at h
  ·exact h.elim
  ·rename_i dst op type pos after guard k;have n:=f _ (Kd k);split at h
   ·exact h.elim
   ·split at h
    ·rename_i p;have m: ∀v,Fit S ops N D (lu env dst [] none v) (a.put dst v):=λv=>b.put p n rfl (λ_=>rfl) (λd=>absurd eH d);refine⟨_,k,(by simp[Bs]),?_⟩;split at h
     ·obtain⟨d,v,q,hc,e⟩:=Pd (o:=⟨dst,op,type,pos,after,none⟩) (a:=a) (λx v hx=>b.ev eH hx) h c;rw[nP] at e;exact⟨d,v,q,.inr hc,Gc f l _ _ _ _ K (m v) e (Ext.refl _)⟩
     ·split at h
      ·rename_i r;obtain⟨v,e,s⟩:=yF (g:=none) b rfl h;obtain⟨t,d⟩:=A9 r (s eH w' c);rw[nP] at e;exact⟨d,v,w',.inl t,Gc f l _ _ _ _ K (m v) e c⟩
      ·exact h.elim
    ·exact h.elim
def nI (o:Oper):List Nat:=(o.after.toList.filter λe=>Db .any e).map (·.on)
def Ge (o:Oper):List Nat:=o.op.operands.toList.filterMap λ| .tmp t=>some t| _=>none
def abc (op:Op):Bool:=match op with
 | .select .. =>true
 | _=>false
def Xr (ops:Array Oper) (i:Nat):Bool:=match ops[i]? with
 |none=>false
 |some o=>o.guard.isNone&& !abc o.op&&((Ge o).all λt=>(B4 ops.size).all λj=>dD ops j != some t||(nI o).contains j)&&((nI o).all λj=>FB j i)&&
  (o.dst.isNone||(B4 i).all λj=>dD ops j != o.dst)&&(Nat.beq (i+1) ops.size||(B4 ops.size).any λk=>FB i k&&match ops[k]? with
   |some x=>(nI x).contains i
   |none=>false)
def FM (ops:Array Oper):Bool:=(B4 ops.size).all (Xr ops)
def wpS (P:AM) (ops:Array Oper) (Q:Act->A0->Prop):List Nat->Act->A0->Prop
 |[], _, _=>False
 |[i],a,w=> ∃o,ops[i]? =some o/\(∀c,o.op≠ .defer c)/\ ∃v w',CmR P o a w v w'/\Q (a.put o.dst v) w'
 |i::j::l,a,w=> ∃o,ops[i]? =some o/\(∀c,o.op≠ .defer c)/\ ∃v,(execOp a.eval o).run P w= .ok (.value v) w/\wpS P ops Q (j::l) (a.put o.dst v) w
theorem Ea {ops:Array Oper} {Q d:Act->A0->Prop} (e: ∀a w,Q a w->d a w): ∀(l:List Nat) (a:Act) (w:A0),wpS P ops Q l a w->wpS P ops d l a w
 |[i],a,w,h=>by
  obtain⟨o,b,c,v,w',hc,h⟩:=h;exact⟨o,b,c,v,w',hc,e _ _ h⟩
 |i::j::l,a,w,h=>by
  obtain⟨o,b,c,v,f,h⟩:=h;exact⟨o,b,c,v,f,Ea e _ _ _ h⟩
def Dc (ops:Array Oper) (a:Act) (v:Nat->A2) (k:Nat):Nat->Act
 |0=>a
 |i+1=>(Dc ops a v k i).put (dD ops (k+i)) (v i)
theorem A_ {ops:Array Oper} {a:Act} {v:Nat->A2} {k:Nat}: ∀i,Dc ops (a.put (dD ops k) (v 0)) (λj=>v (j+1)) (k+1) i=Dc ops a v k (i+1)
 |0=>rfl
 |i+1=>by
  show(Dc ops _ _ _ i).put _ _=(Dc ops a v k _).put _ _;rw[A_,show k+1+i=k+(i+1) by omega]
theorem Gf {ops:Array Oper} {i:Nat} {o:Oper} (h:ops[i]? =some o):dD ops i=o.dst:=by grind[dD]
theorem I4 {ops:Array Oper} {Q:Act->A0->Prop} {w:A0}: ∀(d k:Nat) (a:Act),wpS P ops Q (Gd k (d+1)) a w->
 ∃(v:Nat->A2),(∀i,i<d-> ∃o,ops[k+i]? =some o/\(∀c,o.op≠ .defer c)/\(execOp (Dc ops a v k i).eval o).run P w= .ok (.value (v i)) w)/\
  ∃o,ops[k+d]? =some o/\(∀c,o.op≠ .defer c)/\ ∃u w',CmR P o (Dc ops a v k d) w u w'/\Q ((Dc ops a v k d).put o.dst u) w'
 |0,k,a,h=>by
  obtain⟨o,h1,f,u,w',b,l⟩:=h;exact⟨λ_=>undef,by grind,o,h1,f,u,w',b,l⟩
 |d+1,k,a,h=>by
  rw[Iy] at h;have e:Gd (k+1) (d+1)=(k+1)::Gd (k+1+1) d:=Iy;rw[e] at h;obtain⟨o,h1,m,g,f,b⟩:=h;rw[<-e] at b;obtain⟨v,q,n,r,p,u,w',k4,k5⟩:=I4 d (k+1) _ b
  let j:Nat->A2:=λi=>match i with
   |0=>g
   |i+1=>v i
  have sh: ∀i,Dc ops (a.put o.dst g) v (k+1) i=Dc ops a j k (i+1):=λi=>by
   rw[<-A_,Gf h1]
  refine⟨j,λi hi=>?_,n,by grind,p,u,w',?_,?_⟩
  ·cases i with
   |zero=>exact⟨o,h1,m,f⟩
   |succ i=>
    grind
  ·rw[<-sh d];exact k4
  ·rw[<-sh d];exact k5
structure SR (ops:Array Oper) (m:Nat) (v:Nat->A2) (a:Act) (S:Nat->Prop) (b:Act):Prop where
 df:b.defers=a.defers
 sz:b.tmps.size=a.tmps.size
 yes: ∀j t,j<m->S j->dD ops j=some t->b.tmps[t]? =if t<a.tmps.size then some (v j) else none
 no: ∀t,(∀j,j<m->S j->dD ops j≠some t)->b.tmps[t]? =a.tmps[t]?
theorem SR.step {ops:Array Oper} {m:Nat} {v:Nat->A2} {a b:Act} {S S':Nat->Prop} (h:SR ops m v a S b) {i:Nat} (hi:i<m) (k: ∀j,S' j<->S j\/j=i) (n: ∀j t,j<m->dD ops j=some t->dD ops i=some t->j=i):SR ops m v a S' (b.put (dD ops i) (v i)):=by
 cases l:dD ops i with
 |none=>
  refine⟨h.df,h.sz,λj t g hs f=>?_,λt f=>h.no t (by grind)⟩;rcases(k j).1 hs with hs|rfl
  ·exact h.yes j t g hs f
  grind
 |some d=>
  have o:(b.put (some d) (v i)).tmps.size=a.tmps.size:=by simp[Cj,h.sz]
  refine⟨h.df,o,λj t g hs f=>?_,λt f=>?_⟩
  ·by_cases e:t=d
   ·subst e;have:j=i:=n j t g f l;subst this;simp only[Cj];rw[Array.getElem?_setIfInBounds];simp[h.sz]
   ·rcases(k j).1 hs with hs|rfl
    ·have:(b.put (some d) (v i)).tmps[t]? =b.tmps[t]? :=by simp[Cj,DV (λc=>e c.symm)]
     rw[this];exact h.yes j t g hs f
    grind
  ·have p:d≠t:=λe=>f i hi ((k i).2 (.inr rfl)) (by rw[l,e]);have:(b.put (some d) (v i)).tmps[t]? =b.tmps[t]? :=by simp[Cj,DV p]
   rw[this];exact h.no t (by grind)
theorem SR.eq {ops:Array Oper} {m:Nat} {v:Nat->A2} {a b c:Act} {S T:Nat->Prop} (h:SR ops m v a S b) (k:SR ops m v a T c) (g: ∀j,j<m->(S j<->T j)):b=c:=by
 have:=by
  apply J7;apply List.ext_getElem?;intro t;have e:b.tmps[t]? =c.tmps[t]? :=by
   by_cases hx: ∃j,j<m/\S j/\dD ops j=some t
   ·obtain⟨j,d,hs,f⟩:=hx;rw[h.yes j t d hs f,k.yes j t d ((g j d).1 hs) f]
   ·rw[h.no t (by grind),k.no t (by grind)]
  simpa
 cases b;cases c;have h1:=h.df.trans k.df.symm
 grind
theorem fq {ops:Array Oper} (a:FM ops=true) {i:Nat} {o:Oper} (d:ops[i]? =some o):
 o.guard=none/\(∀cs b,o.op≠ .select cs b)/\(∀t∈Ge o, ∀j,j<ops.size->dD ops j=some t->j∈nI o)/\(∀j∈nI o,j<i)/\(∀j t,j<i->dD ops j=some t->dD ops i≠some t)/\
  (i+1=ops.size\/ ∃k x,i<k/\ops[k]? =some x/\i∈nI x):=by
 have hi:=(Bx.1 d).1;unfold FM at a;rw[Dq] at a;have h:=a i (Ds.2 hi);unfold Xr at h;rw[d] at h;simp at h;obtain⟨⟨⟨⟨⟨h1,f⟩,l⟩,g⟩,m⟩,n⟩:=h;refine⟨h1,λcs b e=>(by rw[e] at f;cases f),by grind,g,λj t p q c=>?_,?_⟩
 ·grind[Gf]
 grind
theorem Ba {ops:Array Oper} {a:Array Bool} (d:a.size=ops.size) {i:Nat}:i∈B3 .any ops a<-> ∃o,ops[i]? =some o/\a.getD i false=false/\ ∀j∈nI o,a.getD j false=true:=by
 have c:i<ops.size->(a.getD i true=a.getD i false):=λh=>by simp[K1,d,h]
 unfold B3;rw[Cg,Ds];constructor
 ·rintro⟨hi,hc⟩;obtain⟨o,b⟩: ∃o,ops[i]? =some o:=⟨_,Kb hi⟩;rw[b,c hi] at hc;simp only[GD,I1,BW,Gj,H4] at hc;refine⟨o,b,hc.1,λj f=>?_⟩;obtain⟨e,g,rfl⟩:=GG.1 f
  grind
 ·rintro⟨o,b,h1,k⟩;have hi:i<ops.size:=(Bx.1 b).1;refine⟨hi,?_⟩;rw[b,c hi];simp only[GD,I1,BW,Gj,H4,FY];refine⟨h1,λe g=>?_⟩;by_cases hb:Db .any e=true
  ·exact .inr (k e.on (GG.2 (by grind)))
  grind
theorem yS {l:Array Bool} {i j:Nat} (hi:i<l.size):(l.setIfInBounds i true).getD j false=true<->l.getD j false=true\/j=i:=by
 by_cases j=i
 simp_all
 ·simp
  grind
theorem Uz {ops:Array Oper} {Q:Act->A0->Prop} {a:Act} {w:A0} (z:FM ops=true) {m:Nat} (hm:ops.size=m+1) (h:wpS P ops Q (B4 (m+1)) a w):
 ∀(s t:Nat) (f:Array Bool) (b:Act),f.size=ops.size->(B4 ops.size).countP (λj=> !f.getD j false)=s->f.getD m false=false->
  (∀i o,ops[i]? =some o->f.getD i false=true-> ∀j∈nI o,f.getD j false=true)->
  (∃v:Nat->A2,(∀i,i<m-> ∃o,ops[i]? =some o/\(∀c,o.op≠ .defer c)/\(execOp (Dc ops a v 0 i).eval o).run P w= .ok (.value (v i)) w)/\
   (∃o,ops[m]? =some o/\(∀c,o.op≠ .defer c)/\ ∃u w',CmR P o (Dc ops a v 0 m) w u w'/\Q ((Dc ops a v 0 m).put o.dst u) w')/\SR ops m v a (λj=>f.getD j false=true) b)->
  TF P ops Q (FX .any ops s t f []) b w:=by
 intro s
 induction s with
 |zero=>
  intro t f b y hc B _ _;exfalso;rw[OD] at hc;have:=hc m (Ds.2 (by omega));rw[B] at this;exact this rfl
 |succ s ih=>
  intro t f b y hc B S hx;obtain⟨v,hv,⟨J,C,T,u,w',U,V⟩,E⟩:=hx;have W: ∀i j t,i<m->j<m->dD ops i=some t->dD ops j=some t->j=i:=λi j t hi g h1 p=>by
   obtain⟨oi,l, _⟩:=hv i hi;obtain⟨oj,F, _⟩:=hv j g;rcases Nat.lt_trichotomy i j with q|q|q
   ·exact absurd p ((fq z F).2.2.2.2.1 i t q h1)
   ·exact q.symm
   ·exact absurd h1 ((fq z l).2.2.2.2.1 j t q p)
  have K: ∀k,k<=m->SR ops m v a (λj=>j<k) (Dc ops a v 0 k):=by
   intro k
   induction k with
   |zero=>exact λ_=>⟨rfl,rfl,λj t _ hs=>absurd hs (Nat.not_lt_zero _),λt _=>rfl⟩
   |succ k L=>
    intro r;have:=(L (by omega)).step (S':=λj=>j<k+1) (i:=k) (by omega) (λj=>by omega) (λj t g h1 p=>W k j t (by omega) g p h1);show SR ops m v a _ ((Dc ops a v 0 k).put (dD ops (0+k)) (v k));rw[Kh];exact this
  have same: ∀i o,ops[i]? =some o->i<=m->(∀j∈nI o,f.getD j false=true)->execOp b.eval o=execOp (Dc ops a v 0 i).eval o:=λi o l hi D=>by
   obtain⟨_,hns,J6,X, _, _⟩:=fq z l;refine execOp_congr o hns λx hx=>?_;cases x with
   |tmp t=>
    have ht:t∈Ge o:=List.mem_filterMap.2 ⟨.tmp t,by simpa using hx,rfl⟩;have key:b.tmps[t]? =(Dc ops a v 0 i).tmps[t]? :=by
     by_cases g: ∃j,j<ops.size/\dD ops j=some t
     ·obtain⟨j,Y,M⟩:=g;have G:=J6 t ht j Y M;have N:=X j G;rw[E.yes j t (by omega) (D j G) M,(K i hi).yes j t (by omega) N M]
     ·rw[E.no t λj Da _ O=>g ⟨j,by omega,O⟩,(K i hi).no t λj Da _ O=>g ⟨j,by omega,O⟩]
    simp only[Ft,Fk,key]
   | _=>rfl
  have wt: ∀i o,ops[i]? =some o-> ∀c:Act,Bs o (yielded ops c.tmps)=true:=λi o l c=>by
   unfold Bs;rw[(fq z l).1]
  simp only[FX];change TF P ops Q (match (B3 .any ops f)[t % (B3 .any ops f).length]? with
   |some i=>FX .any ops s (t / (B3 .any ops f).length) (f.setIfInBounds i true) [i]
   |none=>[].reverse) b w
  cases hi:(B3 .any ops f)[t % (B3 .any ops f).length]? with
  |none=>
   exfalso;have B9:B3 .any ops f=[]:=by
    cases hr:B3 .any ops f with
    |nil=>rfl
    |cons x xs=>
     rw[hr] at hi;have X:t % (x::xs).length<(x::xs).length:=Nat.mod_lt _ (by simp);rw[List.getElem?_eq_none_iff] at hi;omega
   have least: ∀k,k<=m->(∀j,j<k->f.getD j false=true)->f.getD k false=true:=λk r g=>by
    cases A:f.getD k false with
    |true=>rfl
    |false=>
     exfalso;obtain⟨o,l⟩: ∃o,ops[k]? =some o:=⟨_,Kb (by omega)⟩;have:k∈B3 .any ops f:=(Ba y).2 ⟨o,l,A,λj G=>g j ((fq z l).2.2.2.1 j G)⟩;rw[B9] at this;cases this
   have all: ∀k,k<=m->f.getD k false=true:=by
    intro k
    induction k using Ko with
    | _ k L=>exact λr=>least k r λj g=>L j g (by omega)
   rw[all m (Dn _)] at B;cases B
  |some i=>
   simp only[];rw[linearise_go_acc,List.reverse_singleton,List.singleton_append];have hir:=List.mem_of_getElem? hi;obtain⟨o,l,i_,D⟩:=(Ba y).1 hir;have H:i<ops.size:=(Bx.1 l).1;by_cases Z:i=m
   ·subst Z;rw[C] at l;cases l;have all: ∀d k,k+d=i->k<i->f.getD k false=true:=by
     intro d
     induction d using Ko with
     | _ d ihd=>
       intro k r hki;obtain⟨ok,jU, _⟩:=hv k hki;rcases(fq z jU).2.2.2.2.2 with q|⟨j,x,hkj,I,uU⟩
       ·omega
       ·have Y:j<ops.size:=(Bx.1 I).1;by_cases N:j=i
        ·subst N;rw[C] at I;cases I;exact D k uU
        ·exact S j x I (ihd (i - j) (by omega) j (by omega) (by omega)) k uU
    have heq:b=Dc ops a v 0 i:=E.eq (K i (Dn _)) λj g=>⟨λ_=>g,λ_=>all (i - j) j (by omega) g⟩;have hf:s=0:=by
     have h1:(B4 ops.size).countP (λj=> !f.getD j false)<=1:=by
      rw[hm,OK,J3];have:(B4 i).countP (λj=> !f.getD j false)=0:=OD.2 λj g=>by
       rw[all (i - j) j (by have:=Ds.1 g;omega) (Ds.1 g)];decide
      rw[this];exact Nat.le_trans (by rw[Kh];exact List.countP_le_length) (Dn 1)
     omega
    subst hf;refine⟨J,C,wt i J C b,T,u,w',.inr ?_,?_⟩
    ·rw[heq];exact U
    ·rw[heq];exact V
   ·have R:i<m:=by omega
    obtain⟨o',F,hn,dP⟩:=hv i R;rw[l] at F;cases F;refine⟨o,l,wt i o l b,hn,v i,w,.inl (by rw[same i o l (by omega) D];exact dP),?_⟩;have NY:(f.setIfInBounds i true).size=ops.size:=by simp[y]
    refine ih _ _ _ NY ?_ ?_ ?_ ⟨v,hv,⟨J,C,T,u,w',U,V⟩,?_⟩
    ·
     have Zu: ∀n,i<n->(B4 n).countP (λj=> !f.getD j false)=(B4 n).countP (λj=> !(f.setIfInBounds i true).getD j false)+1:=by
      intro n
      induction n with
      |zero=>intro h;omega
      |succ n ihn=>
       intro lU;rw[OK,J3,J3];by_cases e:i=n
       ·subst e;have h1:(B4 i).countP (λj=> !(f.setIfInBounds i true).getD j false)=(B4 i).countP (λj=> !f.getD j false):=by
         refine List.countP_congr λj g=>?_;have g:=Ds.1 g;have:(f.setIfInBounds i true).getD j false=f.getD j false:=by
          simp only[Fk];rw[DV (by omega)]
         rw[this]
        have p:(f.setIfInBounds i true).getD i false=true:=(yS (by rw[y];exact H)).2 (.inr rfl);rw[h1,Gi,Gi,p,i_];rfl
       ·have p:(f.setIfInBounds i true).getD n false=f.getD n false:=by
         simp only[Fk];rw[DV e]
        rw[ihn (by omega),Gi,Gi,p];omega
     have:=Zu ops.size H;omega
    ·have:(f.setIfInBounds i true).getD m false=f.getD m false:=by
      simp only[Fk];rw[DV Z]
     rw[this];exact B
    ·intro k x r A j g;rw[yS (by rw[y];exact H)] at A ⊢;rcases A with A|rfl
     ·exact .inl (S k x r A j g)
     ·rw[l] at r;cases r;exact .inl (D j g)
    ·have:=E.step (S':=λj=>(f.setIfInBounds i true).getD j false=true) R (λj=>yS (by rw[y];exact H)) (λj t g h1 p=>W i j t R g p h1);rw[Gf l] at this;exact this
theorem Xt {ops:Array Oper} {Q:Act->A0->Prop} (c:FM ops=true) {w:A0}: ∀(l:List Nat) (a:Act),wpS P ops Q l a w->TF P ops Q l a w
 |[i],a,h=>by
  obtain⟨o,b,d,v,w',hc,e⟩:=h;exact⟨o,b,by unfold Bs;rw[(fq c b).1],d,v,w',.inr hc,e⟩
 |i::j::l,a,h=>by
  obtain⟨o,b,d,v,f,g⟩:=h;exact⟨o,b,by unfold Bs;rw[(fq c b).1],d,v,w,.inl f,Xt c _ _ g⟩
theorem AB {r:Option Nat} {id:Nat} {ops:Array Oper} {f:Bool} {Q:Exit->Act->A0->Prop} {a:Act} {w:A0} (q:P.follows .mixedOrders=true) (hs:FM ops=true) (h0:0<ops.size)
 (h: ∀w',Ext w w'->wpS P ops (Q .normal) (B4 ops.size) a w'):(Code.region id ops f).wpIn (WF r) 0 P Q a w:=by
 intro b k cs _ hb g;cases f with
 |false=>
  obtain⟨a',w',c,d⟩:=nc (r:=r) _ _ _ (Xt hs _ _ (h w (Ext.refl w))) b k cs;exact⟨.normal,a',w',c,StepsIn.head (fenced_calm hb g rfl) stepR_region d⟩
 |true=>
  have e:=h _ (Ext.drew w);obtain⟨m,l⟩: ∃m,ops.size=m+1:=⟨ops.size - 1,by omega⟩;have key: ∀t,TF P ops (Q .normal) (GF (P.follows .mixedOrders) ops t) a {w with drawn:=w.drawn+1}:=λt=>by
   simp only[GF,q,Bool.true_or,if_true,N4];rw[l] at e;have hx:=I4 m 0 a (by rw[<-O2];exact e);obtain⟨v,hv,o,y,s,u,w',hc,c⟩:=hx;have n: ∀j,(F8 ops.size false).getD j false=false:=λj=>by
    by_cases x:j<ops.size<;>simp[K1,x]
   refine Uz hs l e ops.size t _ a (by simp) ?_ (n m) (λi o _ p=>by rw[n] at p;cases p) ⟨v,λi hi=>?_,⟨o,?_,s,u,w',hc,c⟩,⟨rfl,rfl,by simp_all,λt _=>rfl⟩⟩
   simp_all
   grind
   grind
  obtain⟨a',w',c,d⟩:=nc (r:=r) _ _ _ (key _) b k cs;exact⟨.normal,a',w',c,StepsIn.head (fenced_calm hb g rfl) (stepR_region_draw) d⟩
def rxP (C:dG P) (ops:Array Oper) (N:Nat):List Nat->List bS->A0->(List bS->A0->Prop)->Prop
 |[], _, _, _=>False
 |i::r,env,w,K=>match ops[i]? with
  |none=>False
  |some ⟨dst,op,type,pos,after, _⟩=>if o9 ops N env [] dst then match r with
    |[]=>cop P (xS env []) op w (λv a=>wW env dst [] none v (λenv=>K env a))
    |j::l=>if ID op then oM C ops env [] none ⟨dst,op,type,pos,after,none⟩ w (λv=>wW env dst [] none v (λenv=>rxP C ops N (j::l) env w K)) else dw 138 op
   else dw 139 op
theorem Pe {ops:Array Oper} {C:dG P} (k:FM ops=true) (m:Wr S ops): ∀(l:List Nat) (env:List bS) (a:Act) (w w':A0) (K:List bS->A0->Prop),Fit S ops N D env a->rxP C ops N l env w K->Ext w w'->
 wpS P ops (λa1 w1=> ∃db n,K db n/\Fit S ops N D db a1/\Ext n w1) l a w'
 |[], _, _, _, _, _, _,h, _=>h.elim
 |i::r,env,a,w,w',K,e,h,f=>by
  unfold rxP at h;split at h
  ·exact h.elim
  ·rename_i dst op type pos after guard d;have s:=m _ (Kd d);have hg:guard=none:=(fq k d).1;subst hg;split at h
   ·rename_i t;have p: ∀v,Fit S ops N D (lu env dst [] none v) (a.put dst v):=λv=>e.put t s rfl (λ_=>rfl) (λb=>absurd eH b);split at h
    ·obtain⟨b,v,q,hc,c⟩:=Pd (o:=⟨dst,op,type,pos,after,none⟩) (a:=a) (λx v hx=>e.ev eH hx) h f;rw[nP] at c;exact⟨_,d,b,v,q,hc, _,q,c,p v,Ext.refl _⟩
    ·rename_i j l;split at h
     ·rename_i u;obtain⟨v,c,y⟩:=yF (g:=none) e rfl h;obtain⟨z,b⟩:=A9 (o:=⟨dst,op,type,pos,after,none⟩) u (y eH w' f);rw[nP] at c;exact⟨_,d,b,v,z,Pe k m (j::l) _ _ _ _ K (p v) c f⟩
     ·exact h.elim
   ·exact h.elim
def OM (C:dG P) (N:Nat) (ops:Array Oper) (a:Bool) (env:List bS) (w:A0) (K:List bS->A0->Prop):Prop:=
 if aba ops then
  if Ug ops then rxC C ops N (B4 ops.size) env w (λenv w=>jK (ko env) λenv=>K env w)
  else if FM ops&&FB 0 ops.size then rxP C ops N (B4 ops.size) env w (λenv w=>jK (ko env) λenv=>K env w) else False
 else if a then
  if OI ops then YQ C ops N env w (λenv w=>jK (ko env) λenv=>K env w) else False
 else rxL C ops N (B4 ops.size) env w (λenv w=>jK (ko env) λenv=>K env w)
inductive Md where
 |run|to (b:Nat) (K:List bS->A0->Prop)|WO (b:Nat)
def atR (b:Nat) (y:Code):Bool:=match jL y with
 |some i=>Nat.beq i b
 |none=>false
def FN (b:Nat):Code->Option Code
 | .seq _ y=>match atR b y with
   |true=>some y
   |false=>FN b y
 | _=>none
def oR (b:Nat):Code->List Nat
 | .seq x y=>writes x++(match atR b y with
   |true=>[]
   |false=>oR b y)
 | _=>[]
def aaH (b:Nat):Code->Bool
 | .seq x y=>match atR b x with
   |true=>true
   |false=>aaH b y
 |c=>atR b c
def abd (aW:Nat->a7) (c y:Code):Option (Nat×a7):=match jL c with
 |none=>none
 |some a=>match aW (1000000+a) with
  |[]=>none
  |(b, _)::sl=>match aaH b y with
   |true=>some (b,sl)
   |false=>none
def Oi (sl:a7) (J:oG (sl.map (·.2))->A0->Prop) (env:List bS) (w:A0):Prop:=match pa sl env with
 |some s=>J s w
 |none=>False
def cx (C:dG P) (aW:Nat->a7) (N:Nat):Code->Md->List bS->A0->(List bS->A0->Prop)->(Nat->List bS->A0->Prop)->(List bS->A0->Prop)->Prop
 | .skip,.run,env,w,Kn, _, _=>Kn env w
 | .region _ ops g,.run,env,w,Kn, _, _=>OM C N ops g env w Kn
 | .seq x y,m,env,w,Kn,Kx,Kr=>match m with
   | .run=>match abd aW x y with
     |none=>cx C aW N x .run env w (λenv w=>cx C aW N y .run env w Kn Kx Kr) Kx Kr
     |some (b,sl)=> ∃J:oG (sl.map (·.2))->A0->Prop,
      cx C aW N x .run env w (λenv w=>match atR b y with
       |true=>Oi sl J env w
       |false=>cx C aW N y (.to b (Oi sl J)) env w Kn Kx Kr) Kx Kr/\
      ∀s w1,J s w1->jK (lx sl s++env.filter λe=> !(oR b (.seq x y)).contains e.t) λdb=>match atR b y with
       |true=>cx C aW N y .run db w1 Kn Kx Kr
       |false=>cx C aW N y (.WO b) db w1 Kn Kx Kr
   | .to b K=>cx C aW N x .run env w (λenv w=>match atR b y with
    |true=>K env w
    |false=>cx C aW N y (.to b K) env w Kn Kx Kr) Kx Kr
   | .WO b=>match atR b y with
    |true=>cx C aW N y .run env w Kn Kx Kr
    |false=>cx C aW N y (.WO b) env w Kn Kx Kr
 | .cond c x y,.run,env,w,Kn,Kx,Kr=>match xS env [] c with
   |some (.bool b)=>aG b (cx C aW N x .run env w Kn Kx Kr) (cx C aW N y .run env w Kn Kx Kr)
   | _=>False
 | .block id x,.run,env,w,Kn,Kx,Kr=>cx C aW N x .run env w Kn (λa env w=>if a=id then Kn env w else Kx a env w) Kr
 | .loop x,.run,env,w, _,Kx,Kr=>
   let sl:=aW ((jL x).getD 0)
   match pa sl env with
   |none=>False
   |some h=> ∃I:Nat->oG (sl.map (·.2))->A0->Prop,(∃n, ∀w1,Ext w w1->I n h w1)/\
    ∀n s w1,I n s w1->jK (lx sl s++env.filter λe=> !(writes x).contains e.t) λdb=>cx C aW N x .run db w1
     (λi j=>match pa sl i with
      |some k=> ∀d,Ext j d-> ∃f,f<n/\I f k d
      |none=>False) Kx Kr
 | .exit id,.run,env,w, _,Kx, _=>Kx id env w
 | .ret,.run,env,w, _, _,Kr=>Kr env w
 | _, _, _, _, _, _, _=>False
@[reducible] def rZ (C:dG P) (aW:Nat->a7) (N:Nat) (c:Code) (env:List bS) (w:A0) (Kn:List bS->A0->Prop) (Kx:Nat->List bS->A0->Prop) (Kr:List bS->A0->Prop):Prop:=
 cx C aW N c .run env w Kn Kx Kr
def Qp (S:Nat->Option (Option A2)) (N:Nat) (D:List Deferred) (Kn:List bS->A0->Prop) (Kx:Nat->List bS->A0->Prop) (Kr:List bS->A0->Prop):Exit->Act->A0->Prop
 | .normal,a,w=> ∃env b,Kn env b/\plain env/\Fit S #[] N D env a/\Ext b w
 | .exit id,a,w=> ∃env b,Kx id env b/\plain env/\Fit S #[] N D env a/\Ext b w
 | .ret,a,w=> ∃env b,Kr env b/\plain env/\Fit S #[] N D env a/\Ext b w
 | _, _, _=>False
theorem UA {ops:Array Oper} (h: ∀k∈Uf ops,S k=none):Wr S ops:=λo a k b=>h k (by
 simp[Uf]
 grind)
theorem Qd {r:Option Nat} {C:dG P} {id:Nat} {ops:Array Oper} {b:Bool} {w w':A0} {Kn:List bS->A0->Prop} {Kx:Nat->List bS->A0->Prop} {Kr:List bS->A0->Prop}
 (m: ∀k∈Uf ops,S k=none) (n:plain env) (o:Fit S #[] N D env a) (h:OM C N ops b env w Kn) (d:Ext w w'):
 (Code.region id ops b).wpIn (WF r) 0 P (Qp S N D Kn Kx Kr) a w':=by
 have e:Fit S ops N D env a:=o.Qb n;have f:=UA m;have p: ∀env a w w',Kn (ko env) w->Fit S ops N D env a->Ext w w'->Qp S N D Kn Kx Kr .normal a w':=λenv a w w' q l hx=>
  ⟨_,w,q,(A8 (ops':= #[]) l).2,(A8 l).1,hx⟩
 have s: ∀c a w,¬ Qp S N D Kn Kx Kr (.panic c) a w:=λ_ _ _ h=>h;simp only[OM,jP] at h;split at h
 ·split at h
  ·rename_i t;refine AA C.mixed t λg i=>?_;have:=Gc (C:=C) f _ env a w g _ e h (d.trans i)
   grind[D_]
  ·split at h
   ·rename_i j
    simp_all
    refine AB C.mixed j.1 j.2 λg i=>?_;have:=Pe (C:=C) j.1 f _ env a w g _ e h (d.trans i)
    grind[Ea]
   ·exact h.elim
 cases b with
 |false=>exact wpIn_region (by grind[O9])
 |true=>
  simp only[if_true] at h;split at h
  ·rename_i u;exact wpIn_region_any C.mixed (zu _ _ _ _ (nZ (Uy (C:=C) f u s env a w _ e h p) (d.trans (Ext.drew _))))
  ·exact AC h
theorem tH: ∀{l:a7} {s:oG (l.map (·.2))} {e:bS},e∈lx l s->e.ch=[]/\e.g=none
 |sc::r,s,e,h=>by
  simp[lx] at h;rcases h with rfl|h;simp
  ·exact tH h
theorem Cr: ∀{l:a7} {s:oG (l.map (·.2))} {e:bS},e∈lx l s->e.k=none
 |t::r,s,e,h=>by
  simp[lx] at h;rcases h with rfl|h
  ·rfl
  ·exact Cr h
theorem mq: ∀{l m:List bS} {t:Nat} {e:bS},cd (l++m) t=some e->(cd l t=some e)\/(cd l t=none/\cd m t=some e)
 |[],m,t,e,h=> .inr ⟨rfl,h⟩
 |x::r,m,t,e,h=>by
  simp[cd] at h ⊢;split at h
  grind
  ·rename_i a;rw[if_neg a];exact mq h
theorem qo: ∀{l:a7} {env:List bS} {s:oG (l.map (·.2))} {t:Nat} {e:bS},pa l env=some s->cd (lx l s) t=some e-> ∃e',cd env t=some e'/\e'.v=e.v
 |(t0,sc)::r,env,s,t,e,a,h=>by
  simp only[pa] at a;split at a
  ·rename_i c d;split at a
   ·rename_i x y hx b;cases a;simp only[lx,cd] at h;split at h
    ·grind[El.iG]
    ·exact qo b h
   ·cases a
  ·cases a
theorem yT {l:List bS} {p:bS->Bool} {t:Nat} {e:bS} (h:cd (l.filter p) t=some e):e∈l/\p e=true:=by
 have:=bX h;simpa
theorem zw {F:Fence} {m:Nat} {Q:Exit->Act->A0->Prop} {c:Code} (R:Nat->Act->A0->Prop) {n0:Nat} {a:Act} {w:A0} (h0:R n0 a w)
 (round: ∀n a w,R n a w->c.wpIn F m P (Exit.then (λa' w'=> ∃d,d<n/\R d a' w') Q) a w):(Code.loop c).wpIn F m P Q a w:=by
 intro b k cs i hb g;have key: ∀j a w,R j a w->
  ∃e a' w',Q e a' w'/\ArrivesIn (Machine.fenced P F) P (lone (b.atR a (.code c:: .inLoop c::k)) cs w) b k cs e a' w':=by
  intro j
  induction j using Ko with
  | _ j l=>
    intro a w o;obtain⟨e,p,q,f,h⟩:=round j a w o b _ cs i hb g;cases e with
    |normal=>
     obtain⟨d,r,s⟩:=f;obtain⟨t,u,v,x,y⟩:=l d r _ _ s;exact⟨t,u,v,x,.of_steps (StepsIn.trans h (.one (fenced_calm hb g rfl) stepR_inLoop)) y⟩
    |exit
    |goto
    |ret
    |panic
    |outgrown=>exact⟨_,p,q,f,‹_›⟩
 obtain⟨e,a',w',f,h⟩:=key _ a w h0;exact⟨e,a',w',f,.of_steps (.one (fenced_calm hb g rfl) stepR_loop) h⟩
theorem Zv (b:Nat) (c:Code): ∀t:Nat,t∈oR b c->t∈writes c:=by
 induction c with
 |seq=>
  grind[oR,writes]
 | _=>intro t h;cases h
structure YV (P:AM) (r:Option Nat) (C:dG P) (aW:Nat->a7) (N:Nat) (D:List Deferred) (c:Code):Prop where
 run: ∀(S:Nat->Option (Option A2)) (env:List bS) (a:Act) (w w':A0) (Kn:List bS->A0->Prop) (Kx:Nat->List bS->A0->Prop) (Kr:List bS->A0->Prop),
  (∀k∈writes c,S k=none)->plain env->Fit S #[] N D env a->cx C aW N c .run env w Kn Kx Kr->Ext w w'->c.wpIn (WF r) 0 P (Qp S N D Kn Kx Kr) a w'
 to: ∀(b:Nat) (K:List bS->A0->Prop) (S:Nat->Option (Option A2)) (env:List bS) (a:Act) (w w':A0) (Kn:List bS->A0->Prop) (Kx:Nat->List bS->A0->Prop) (Kr:List bS->A0->Prop) (Q:Exit->Act->A0->Prop),
  (∀k∈oR b c,S k=none)->plain env->Fit S #[] N D env a->cx C aW N c (.to b K) env w Kn Kx Kr->Ext w w'->(∀id a w,Qp S N D Kn Kx Kr (.exit id) a w->Q (.exit id) a w)->(∀a w,Qp S N D Kn Kx Kr .ret a w->Q .ret a w)->
  (∀y db a1 w1 AE,FN b c=some y->K db w1->plain db->Fit S #[] N D db a1->Ext w1 AE->y.wpIn (WF r) 0 P Q a1 AE)->c.wpIn (WF r) 0 P Q a w'
 WO: ∀(b:Nat) (S:Nat->Option (Option A2)) (env:List bS) (a:Act) (w w':A0) (Kn:List bS->A0->Prop) (Kx:Nat->List bS->A0->Prop) (Kr:List bS->A0->Prop) (y:Code),
  FN b c=some y->(∀k∈writes c,S k=none)->plain env->Fit S #[] N D env a->cx C aW N c (.WO b) env w Kn Kx Kr->Ext w w'->y.wpIn (WF r) 0 P (Qp S N D Kn Kx Kr) a w'
theorem YV.of {r:Option Nat} {C:dG P} {aW:Nat->a7} {c:Code} (h: ∀(S:Nat->Option (Option A2)) (env:List bS) (a:Act) (w w':A0) (Kn:List bS->A0->Prop) (Kx:Nat->List bS->A0->Prop) (Kr:List bS->A0->Prop),
 (∀k∈writes c,S k=none)->plain env->Fit S #[] N D env a->cx C aW N c .run env w Kn Kx Kr->Ext w w'->c.wpIn (WF r) 0 P (Qp S N D Kn Kx Kr) a w')
 (h1: ∀b K env w Kn Kx Kr,¬ cx C aW N c (.to b K) env w Kn Kx Kr) (d: ∀b env w Kn Kx Kr,¬ cx C aW N c (.WO b) env w Kn Kx Kr):YV P r C aW N D c:=
 ⟨h,by grind,by grind⟩
theorem GX {r:Option Nat} {C:dG P} {aW:Nat->a7}: ∀c:Code,YV P r C aW N D c:=by
 intro c
 induction c with
 |skip=>exact .of (λS env a w w' Kn Kx Kr _ g f h l=>wpIn_skip ⟨env,w,h,g,f,l⟩) (λ_ _ _ _ _ _ _ h=>h) (λ_ _ _ _ _ _ h=>h)
 |region id ops draw=>exact .of (λS env a w w' Kn Kx Kr q g f h l=>Qd q g f h l) (λ_ _ _ _ _ _ _ h=>h) (λ_ _ _ _ _ _ h=>h)
 |seq x y TU H=>
  refine⟨?_,?_,?_⟩
  ·intro S env a w w' Kn Kx Kr q g f h l;simp only[cx] at h;split at h
   ·refine wpIn_seq (wpIn_mono (TU.run S env a w w' _ Kx Kr (λk d=>q k (by simp[writes,d])) g f h l) ?_);intro e a1 w1 o;cases e with
    |normal=>
     obtain⟨db,p,d,V,W,X⟩:=o;exact H.run S db a1 p w1 Kn Kx Kr (λk d=>q k (by simp[writes,d])) V W d X
    | _=>exact o
   ·rename_i b sl _;obtain⟨J,hx,hJ⟩:=h;simp only[jP] at hJ
    let i:Nat->Option (Option A2):=λt=>if(oR b (.seq x y)).contains t then none else some (a.tmps[t]?)
    let c_:=env.filter λe=> !(oR b (.seq x y)).contains e.t
    have nil: ∀(tm:Array A2),kh #[] tm []:=λtm x hx=>by cases hx
    have DM: ∀t e,cd c_ t=some e->a.tmps[t]? =some e.v/\(oR b (.seq x y)).contains t=false/\e.ch=[]:=by
     intro t e he;have Y:=yH he;have hs:=yT he;have E:(oR b (.seq x y)).contains t=false:=by rw[<-Y];simpa using hs.2
     have u:cd env t=some e:=iV he (λy _ hyt=>by rw[hyt,E];rfl);exact⟨f.yes t e u (by rw[(g e hs.1).1];exact nil _),E,(g e hs.1).1⟩
    have head: ∀(m:List bS) (j:Act) (s:oG (sl.map (·.2))),plain m->Fit i #[] N D m j->pa sl m=some s->Fit i #[] N D (lx sl s++c_) j/\plain (lx sl s++c_):=by
     intro m j s Z A wQ;have L:plain (lx sl s++c_):=λe he=>by
      rcases E4.1 he with he|he
      ·exact tH he
      ·exact g e (by simpa[c_] using(Cg.1 he).1)
     refine⟨⟨A.off,A.size,A.qK,λt e he _=>?_,λt e he hn=>absurd (by rw[(L e (bX he)).1];exact nil _) hn,(λe he=>by rw[(L e he).2];exact(L e he).1),λe he b hb=>by
      rcases E4.1 he with he|he
      ·rw[Cr he] at hb;cases hb
      ·exact f.BU e (Cg.1 he).1 b hb⟩,L⟩
     rcases mq he with he|⟨_,he⟩
     ·obtain⟨e',jW,hv⟩:=qo wQ he;rw[<-hv];exact A.yes t e' jW (by rw[(Z e' (bX jW)).1];exact nil _)
     ·obtain⟨hv,E, _⟩:=DM t e he;have:=A.off t (a.tmps[t]?) (by simp only[i,E];rfl);rw[this,hv]
    have Oj:Fit i #[] N D env a:=⟨λt x hx=>by
     simp only[i] at hx;split at hx
     ·cases hx
     ·cases hx;rfl,f.size,f.qK,f.yes,f.no,f.Fv,f.BU⟩
    have back: ∀{m:List bS} {j:Act},Fit i #[] N D m j->Fit S #[] N D m j:=λ{m j} u=>⟨λt z F=>by
     have E:(oR b (.seq x y)).contains t=false:=by
      cases hc:(oR b (.seq x y)).contains t with
      |false=>rfl
      |true=>have:=q t (Zv b _ t (by simpa using hc));rw[this] at F;cases F
     have h1:=u.off t (a.tmps[t]?) (by simp only[i,E];rfl);rw[h1];exact f.off t z F,u.size,u.qK,u.yes,u.no,u.Fv,u.BU⟩
    have hS1: ∀k∈oR b (.seq x y),i k=none:=λk d=>by simp[i,d]
    have acb: ∀k∈writes x,i k=none:=λk d=>hS1 k (by simp[oR,d]);have bx: ∀(id:Nat) (a:Act) (w:A0),Qp i N D Kn Kx Kr (.exit id) a w->Qp S N D Kn Kx Kr (.exit id) a w:=λid a w ⟨M,p,d,O,R,T⟩=>⟨M,p,d,O,back R,T⟩;have br: ∀(a:Act) (w:A0),Qp i N D Kn Kx Kr .ret a w->Qp S N D Kn Kx Kr .ret a w:=λa w ⟨M,p,d,O,R,T⟩=>⟨M,p,d,O,back R,T⟩;have F: ∀k∈writes y,S k=none:=λk d=>q k (by simp[writes,d]);refine wpIn_seq (wpIn_mono (TU.run i env a w w' _ Kx Kr acb g Oj hx l) ?_);intro e a1 w1 o;cases e with
    |normal=>
     obtain⟨db,p,d,V,W,X⟩:=o;cases B:atR b y with
     |true=>
      simp only[B] at d hJ;unfold Oi at d;split at d
      ·rename_i s hs;obtain⟨X5,X6⟩:=head db a1 s V W hs;exact H.run S _ a1 p w1 Kn Kx Kr F X6 (back X5) (hJ s p d) X
      ·exact d.elim
     |false=>
      simp only[B] at d hJ;have acd: ∀k∈oR b y,i k=none:=λk d=>hS1 k (by simp[oR,B,d]);refine H.to b (Oi sl J) i db a1 p w1 Kn Kx Kr _ acd V W d X bx br ?_;intro y' m j G Dd U hK Z A xW;unfold Oi at hK;split at hK
      ·rename_i s hs;obtain⟨X5,X6⟩:=head m j s Z A hs;exact H.WO b S _ j G Dd Kn Kx Kr y' U F X6 (back X5) (hJ s G hK) xW
      ·exact hK.elim
    |exit id=>exact bx id a1 w1 o
    |ret=>exact br a1 w1 o
    | _=>exact o
  ·intro b K S env a w w' Kn Kx Kr Q q g f h l hx hr Kl;simp only[cx] at h;refine wpIn_seq (wpIn_mono (TU.run S env a w w' _ Kx Kr (λk d=>q k (by simp[oR,d])) g f h l) ?_);intro e a1 w1 o;cases e with
   |normal=>
    obtain⟨db,p,d,V,W,X⟩:=o;cases B:atR b y with
    |true=>
     simp only[B] at d;exact Kl y db a1 p w1 (by simp[FN,B]) d V W X
    |false=>
     simp only[B] at d;exact H.to b K S db a1 p w1 Kn Kx Kr Q (λk d=>q k (by simp[oR,B,d])) V W d X hx hr (λy' m j G Dd U=>Kl y' m j G Dd (by simp[FN,B,U]))
   |exit id=>exact hx id a1 w1 o
   |ret=>exact hr a1 w1 o
   | _=>exact o.elim
  ·intro b S env a w w' Kn Kx Kr y' U q g f h l;simp only[cx] at h;have F: ∀k∈writes y,S k=none:=λk d=>q k (by simp[writes,d]);cases B:atR b y with
   |true=>
    simp only[B] at h;simp only[FN,B,DA] at U;subst U;exact H.run S env a w w' Kn Kx Kr F g f h l
   |false=>
    simp only[B] at h;simp only[FN,B] at U;exact H.WO b S env a w w' Kn Kx Kr y' U F g f h l
 |cond c x y TU H=>
  refine .of ?_ (λ_ _ _ _ _ _ _ h=>h) (λ_ _ _ _ _ _ h=>h);intro S env a w w' Kn Kx Kr q g f h l;simp only[cx] at h;split at h
  ·rename_i b hb;have X7:=f.ev (ch:=[]) (λ_ hx=>by cases hx) hb;refine wpIn_cond_split X7 (λY=>TU.run S env a w w' Kn Kx Kr (λk d=>q k (by simp[writes,d])) g f (D5 h Y) l) (λY=>H.run S env a w w' Kn Kx Kr (λk d=>q k (by simp[writes,d])) g f (A5 h Y) l)
  ·exact AC h
 |block id x ih=>
  refine .of ?_ (λ_ _ _ _ _ _ _ h=>h) (λ_ _ _ _ _ _ h=>h);intro S env a w w' Kn Kx Kr q g f h l;refine wpIn_block (wpIn_mono (ih.run S env a w w' Kn _ Kr q g f h l) ?_);intro e a1 w1 o;cases e with
  |exit X4=>
   obtain⟨db,p,d,rest⟩:=o;simp only[Exit.inBlock];split
   ·rename_i he;simp only[he,if_true] at d;exact⟨db,p,d,rest⟩
   ·rename_i he;simp only[he,if_false] at d;exact⟨db,p,d,rest⟩
  | _=>exact o
 |exit id=>exact .of (λS env a w w' Kn Kx Kr _ g f h l=>wpIn_exit ⟨env,w,h,g,f,l⟩) (λ_ _ _ _ _ _ _ h=>h) (λ_ _ _ _ _ _ h=>h)
 |ret=>exact .of (λS env a w w' Kn Kx Kr _ g f h l=>wpIn_ret ⟨env,w,h,g,f,l⟩) (λ_ _ _ _ _ _ _ h=>h) (λ_ _ _ _ _ _ h=>h)
 |loop x ih=>
  refine .of ?_ (λ_ _ _ _ _ _ _ h=>h) (λ_ _ _ _ _ _ h=>h);intro S env a w w' Kn Kx Kr q g f h l;simp only[cx,jP] at h;split at h
  ·exact AC h
  ·rename_i s0 hs0;obtain⟨I,⟨n0,h0⟩,pf⟩:=h
   let sl:=aW ((jL x).getD 0)
   let i:Nat->Option (Option A2):=λt=>if(writes x).contains t then none else some (a.tmps[t]?)
   let c_:=env.filter λe=> !(writes x).contains e.t
   have nil: ∀(tm:Array A2),kh #[] tm []:=λtm x hx=>by cases hx
   have DM: ∀t e,cd c_ t=some e->a.tmps[t]? =some e.v/\(writes x).contains t=false/\e.ch=[]:=by
    intro t e he;have Y:=yH he;have hs:=yT he;have E:(writes x).contains t=false:=by rw[<-Y];simpa using hs.2
    have u:cd env t=some e:=iV he (λy _ hyt=>by rw[hyt,E];rfl);exact⟨f.yes t e u (by rw[(g e hs.1).1];exact nil _),E,(g e hs.1).1⟩
   have head: ∀(m:List bS) (j:Act) (s:oG (sl.map (·.2))),plain m->Fit i #[] N D m j->pa sl m=some s->Fit i #[] N D (lx sl s++c_) j/\plain (lx sl s++c_):=by
    intro m j s Z A wQ;have L:plain (lx sl s++c_):=λe he=>by
     rcases E4.1 he with he|he
     ·exact tH he
     ·exact g e (by simpa[c_] using(Cg.1 he).1)
    refine⟨⟨A.off,A.size,A.qK,λt e he _=>?_,λt e he hn=>absurd (by rw[(L e (bX he)).1];exact nil _) hn,(λe he=>by rw[(L e he).2];exact(L e he).1),λe he b hb=>by
     rcases E4.1 he with he|he
     ·rw[Cr he] at hb;cases hb
     ·exact f.BU e (Cg.1 he).1 b hb⟩,L⟩
    rcases mq he with he|⟨_,he⟩
    ·obtain⟨e',jW,hv⟩:=qo wQ he;rw[<-hv];exact A.yes t e' jW (by rw[(Z e' (bX jW)).1];exact nil _)
    ·obtain⟨hv,E, _⟩:=DM t e he;have:=A.off t (a.tmps[t]?) (by simp only[i,E];rfl);rw[this,hv]
   have Oj:Fit i #[] N D env a:=⟨λt x hx=>by
    simp only[i] at hx;split at hx
    ·cases hx
    ·cases hx;rfl,f.size,f.qK,f.yes,f.no,f.Fv,f.BU⟩
   have back: ∀{m:List bS} {j:Act},Fit i #[] N D m j->Fit S #[] N D m j:=λ{m j} u=>⟨λt y F=>by
    have E:(writes x).contains t=false:=by
     cases hc:(writes x).contains t with
     |false=>rfl
     |true=>have:=q t (by simpa[writes] using hc);rw[this] at F;cases F
    have h1:=u.off t (a.tmps[t]?) (by simp only[i,E];rfl);rw[h1];exact f.off t y F,u.size,u.qK,u.yes,u.no,u.Fv,u.BU⟩
   have hS1: ∀k∈writes x,i k=none:=λk d=>by simp[i,d]
   obtain⟨hF4,hp4⟩:=head env a s0 g Oj hs0;refine zw (λn j G=> ∃s,I n s G/\Fit i #[] N D (lx sl s++c_) j/\plain (lx sl s++c_)) (n0:=n0) ⟨s0,h0 w' l,hF4,hp4⟩ ?_;intro n j G ⟨s,hI,A,Z⟩;have hb:=ih.run i _ j G G _ Kx Kr hS1 Z A (pf n s G hI) (Ext.refl _);refine wpIn_mono hb ?_;intro e a3 w3 o;cases e with
   |normal=>
    obtain⟨M,p,d,O,R,T⟩:=o;simp only[Exit.then];split at d
    ·rename_i s3 hs3;obtain⟨n',jT,hI'⟩:=d w3 T;obtain⟨X5,X6⟩:=head M a3 s3 O R hs3;exact⟨n',jT,s3,hI',X5,X6⟩
    ·exact d.elim
   |exit id=>obtain⟨M,p,d,O,R,T⟩:=o;exact⟨M,p,d,O,back R,T⟩
   |ret=>obtain⟨M,p,d,O,R,T⟩:=o;exact⟨M,p,d,O,back R,T⟩
   | _=>exact o
 | _=>exact .of (λS env a w w' Kn Kx Kr q g f h l=>AC h) (λ_ _ _ _ _ _ _ h=>h) (λ_ _ _ _ _ _ h=>h)
theorem qp {r:Option Nat} {C:dG P} {aW:Nat->a7}: ∀(c:Code) (S:Nat->Option (Option A2)) (env:List bS) (a:Act) (w w':A0) (Kn:List bS->A0->Prop) (Kx:Nat->List bS->A0->Prop) (Kr:List bS->A0->Prop),
 (∀k∈writes c,S k=none)->plain env->Fit S #[] N D env a->rZ C aW N c env w Kn Kx Kr->Ext w w'->c.wpIn (WF r) 0 P (Qp S N D Kn Kx Kr) a w':=λc=>(GX c).run
def jM:List A2->Nat->List bS
 |[], _=>[]
 |v::r,i=>⟨i,[],none,v,none⟩::jM r (i+1)
def nR:List ResultVar->List bS->Option (List A2)
 |[], _=>some []
 | .tmp t::r,env=>match cd env t,nR r env with
   |some e,some l=>some (e.v::l)
   | _, _=>none
 | .cell .. :: _, _=>none
def Km (l:List A2):A2:=
 match l with
 |[v]=>v
 |l=> .tuple ⟨l⟩
def aI (C:dG P) (aW:Nat->a7) (f:B2) (args:List A2) (w:A0) (Post:(uN C f).T->A0->Prop):Prop:=
 match P.funcs[f]? with
 |none=>False
 |some fn=>match fn.body with
  |none=>False
  |some c=>
   let fin:List bS->A0->Prop:=λenv w=>match nR fn.results.toList env with
    |some l=>match (uN C f).proj (Km l) with
     |some x=>au w (λw1=>Post x w1)
     |none=>False
    |none=>False
   if args.length<=fn.ntmps then rZ C aW fn.ntmps c (jM args 0) w fin (λ_ _ _=>False) fin else False
theorem pR: ∀{l:List A2} {i t:Nat} {e:bS},cd (jM l i) t=some e->i<=t/\l[t - i]? =some e.v/\e.ch=[]/\e.g=none
 |v::r,i,t,e,h=>by
  simp[jM,cd] at h;split at h
  grind
  ·obtain:=pR h
   grind
theorem yU: ∀{l:List A2} {i:Nat} {e:bS},e∈jM l i->e.k=none
 |v::r,i,e,h=>by
  simp[jM] at h;rcases h with rfl|h
  ·rfl
  ·exact yU h
theorem sq: ∀{l:List A2} {i:Nat} {e:bS},e∈jM l i->e.ch=[]/\e.g=none
 |v::r,i,e,h=>by
  simp[jM] at h;rcases h with rfl|h;simp
  ·exact sq h
def nJ (tmps:Array A2):ResultVar->Sem A2
 | .tmp t=>pure (tmps.getD t undef)
 | .cell a t=>do loadVar t (<-asAddr (tmps.getD a undef))
theorem vU {tmps:Array A2} {w:A0}: ∀{l:List ResultVar} {env:List bS} {vs:List A2},nR l env=some vs->(∀t e,cd env t=some e->tmps[t]? =some e.v)->
 (l.mapM (nJ tmps)).run P w= .ok vs w
 |[], _, _,h, _=>by simp_all[nR]
 | .tmp t::r,env,vs,h,hv=>by
   simp[nR] at h;split at h
   ·rename_i e l b a;have c:=vU (w:=w) a hv
    simp_all[nJ]
   grind
theorem E6 {fn:Func} {tmps:Array A2} {w:A0} {env:List bS} {vs:List A2} (h:nR fn.results.toList env=some vs) (hv: ∀t e,cd env t=some e->tmps[t]? =some e.v):
 (results fn tmps).run P w= .ok (Km vs) w:=by
 have h1:=vU (P:=P) (w:=w) h hv;have a:(fn.results.mapM (nJ tmps)).run P w= .ok ⟨vs⟩ w:=by
  simp_all[J9]
 have e:results fn tmps=(do
  let vs<-fn.results.mapM (nJ tmps)
  pure _):=rfl
 rw[e,Ae,a]
 match vs with
 |[]=>rfl
 |[v]=>rfl
 |v::u::r=>rfl
theorem ai {C:dG P} {aW:Nat->a7} {f:B2} {args:List A2} {w:A0} {Post:(uN C f).T->A0->Prop} (h:aI C aW f args w Post):aE P f (uN C f) args w Post:=by
 unfold aI at h;split at h
 ·exact AC h
 ·rename_i fn m;split at h
  ·exact AC h
  ·rename_i c hb;simp only at h;split at h
   ·rename_i A;have d:plain (jM args 0):=λe a=>sq a;have nil: ∀(o:Array Oper) (j:Array A2),kh o j []:=λo j x hx=>by cases hx
    have p:Fit (λ_=>none) #[] fn.ntmps [] (jM args 0) {tmps:=(⟨args⟩:Array A2)++F8 (fn.ntmps - args.length) undef,defers:=[]}:=by
     refine⟨(λ_ _ hx=>by cases hx),(by simp;omega),rfl,λt e a _=>?_,λt e a q=>absurd (by rw[(d e (bX a)).1];exact nil _ _) q,(λe a=>by rw[(d e a).2];exact(d e a).1),by grind[yU]⟩;obtain⟨_,hv, _⟩:=pR a
     grind
    have s:=qp (r:=none) (C:=C) (aW:=aW) c (λ_=>none) _ _ w w _ _ _ (λ_ _=>rfl) d p h (Ext.refl w);refine calls_of_wp m hb ((wpIn_wide (n:=0)).1 (wpIn_mono s ?_));have fin: ∀a1 w1,(∃env i,(match nR fn.results.toList env with
     |some l=>match (uN C f).proj (Km l) with
      |some x=> ∀w1,Ext i w1->Post x w1
      |none=>False
     |none=>False)/\plain env/\Fit (λ_=>none) #[] fn.ntmps [] env a1/\Ext i w1)->a1.defers=[]/\ ∃v,(results fn a1.tmps).run P w1= .ok v w1/\ ∃x:(uN C f).T,Ending.returned v= .returned ((uN C f).iu x)/\Post x w1:=by
     intro a1 w1 ⟨env,i,b,u,k,y⟩;split at b
     ·rename_i l z;split at b
      ·rename_i x hx;refine⟨k.qK, _,E6 z (λt e a=>k.yes t e a (by rw[(u e (bX a)).1];exact nil _ _)),x,by rw[Sh.iG hx],b w1 y⟩
      ·exact b.elim
     ·exact b.elim
    intro e a1 w1 g;cases e with
    |normal=>exact fin a1 w1 g
    |ret=>exact fin a1 w1 g
    |exit id=>obtain⟨_, _,b, _⟩:=g;exact b.elim
    | _=>exact(show False from g).elim
   ·exact AC h
variable {P:AM}
abbrev qL:=List bS->List Nat->A0->Prop
def marks (D:List Nat):List Deferred:=D.map λr=>{target:= .collected r,args:= #[]}
def yi:Code->Bool
 | .rangeFunc .. =>true
 | .seq a b=>yi a||yi b
 | .cond _ a b=>yi a||yi b
 | .block _ b=>yi b
 | .loop b=>yi b
 | _=>false
def s8 (w:A0) (l:Nat) (rec:Loop) (st:LoopState) (a:Option Code):A0:=w.putObj l (.loop {rec with state:=st,pending:=a})
def cX (w:A0) (l:Nat) (rec:Loop) (st:LoopState) (a:Option Code):Prop:=w.heap[l]? =some (.loop {rec with state:=st,pending:=a})
def DN:List Nat->A0->Prop
 |[], _=>True
 |r::D,w=>w.heap[r]? =some (.deferred (some []))/\DN D (w.putObj r (.deferred none))
def mF:List Nat->A0->A0
 |[],w=>w
 |r::D,w=>mF D (w.putObj r (.deferred none))
def BZ (l:Nat) (rec:Loop) (w:A0) (K:A0->Prop):Prop:= ∀a,Ext w a-> ∃b,cX a l rec .ready b/\K (s8 a l rec .busy b)
def sT (l:Nat) (rec:Loop) (a:Option Code) (w:A0) (R:Bool->A0->Prop):Prop:= ∀b,Ext w b-> ∃st c,cX b l rec st c/\R a.isNone (s8 b l rec (if a.isNone then .ready else .done) a)
def Dl (l:Nat) (rec:Loop) (n m:Nat) (w:A0) (K:Prop):Prop:=(∃a,cX w l rec .ready a)/\n=m/\K
def sU (D:List Nat) (w:A0) (K:A0->Prop):Prop:= ∀w1,Ext w w1->DN D w1/\K (mF D w1)
def z7 (P:AM) (b:B2) (args:Nat->List A2) (ps:Array Nat) (w:A0) {T:Type} (c:T->List A2) (d:Nat->Loop->T->A0->(Bool->A0->Prop)->Prop) (f:Nat->Loop->A0->Prop):Prop:=
 ∀w1,Ext w w1-> ∀rec:Loop,rec.params=ps->rec.defers=w1.heap.size->rec.state= .ready->rec.pending=none->
  (∀(x:T) a R,d (w1.heap.size+1) rec x a R->mC P (w1.heap.size+1) (c x) a R)->
  Calls P b ⟨args (w1.heap.size+1)⟩ ((w1.alloc (.deferred (some []))).alloc (.loop rec)) (λe g=> ∃v,e= .returned v/\f w1.heap.size rec g)
def I5 (C:dG P) (aW:Nat->a7) (N:Nat) (l:Nat) (rec:Loop) (ps:List Nat) (assign body:Code) (env:List bS) (args:List A2) (w:A0) (R:Bool->A0->Prop):Prop:=
 Dl l rec args.length ps.length w
 (jK ((ps.zip args).reverse.map (λx=>⟨x.1,[],none,x.2,none⟩)++env) λb=>rZ C aW N assign b w
  (λdb a=>BZ l rec a λc=>
   rZ C aW N body db c
    (λ_ a=>sT l rec none a R)
    (λid _ a=>sT l rec (some (.exit id)) a R)
    (λ_ a=>sT l rec (some .ret) a R))
  (λ_ _ _=>False) (λ_ _=>False))
def dz (l:Nat) (rec:Loop) (a:A0) (Kn:A0->Prop) (Kx:Nat->A0->Prop) (Kr:A0->Prop):Prop:=
 ∃st b,cX a l rec st b/\st≠ .busy/\
  match b with
  |none=>Kn (s8 a l rec .exhausted (none))
  |some (.exit id)=>Kx id (s8 a l rec .exhausted (some (.exit id)))
  |some .ret=>Kr (s8 a l rec .exhausted (some .ret))
  | _=>False
def NZ (C:dG P) (aW:Nat->a7) (N:Nat):Code->List bS->List Nat->A0->qL->(Nat->qL)->qL->Prop
 | .seq x y,env,D,w,Kn,Kx,Kr=>NZ C aW N x env D w (λenv D w=>NZ C aW N y env D w Kn Kx Kr) Kx Kr
 | .cond c x y,env,D,w,Kn,Kx,Kr=>match xS env [] c with
   |some (.bool b)=>aG b (NZ C aW N x env D w Kn Kx Kr) (NZ C aW N y env D w Kn Kx Kr)
   | _=>False
 | .block id x,env,D,w,Kn,Kx,Kr=>NZ C aW N x env D w Kn (λf env D w=>if f=id then Kn env D w else Kx f env D w) Kr
 | .loop x,env,D,w,Kn,Kx,Kr=>
   if yi x then
    let sl:=aW ((jL x).getD 0)
    match pa sl env with
    |none=>False
    |some j=> ∃I:Nat->oG (sl.map (·.2))->List Nat->A0->Prop,(∃n, ∀w1,Ext w w1->I n j D w1)/\
     ∀n s D1 w1,I n s D1 w1->jK (lx sl s++env.filter λe=> !(writes x).contains e.t) λdb=>NZ C aW N x db D1 w1
      (λk D2 m=>match pa sl k with
       |some o=> ∀d,Ext m d-> ∃h,h<n/\I h o D2 d
       |none=>False) Kx Kr
   else rZ C aW N (.loop x) env w (λenv w=>Kn env D w) (λid env w=>Kx id env D w) (λenv w=>Kr env D w)
 | .rangeFunc g ps assign body,env,D,w,Kn,Kx,Kr=>
   match xS env [] g with
   |some (.func (.func i) first cap)=>
    if bL P i&&ps.toList.all (λp=>decide (p<N)) then
     z7 P i (λy=>dt first [.func (.yield y) #[] #[]] cap) ps w (λ(x:oG ((aW ((jL body).getD 0)).map (·.2)))=>u0 _ x)
      (λl rec x d R=>I5 C aW N l rec ps.toList assign body env (u0 _ x) d R)
      (λr rec q=>dz (r+1) rec q (λa=>Kn env (r::D) a) (λid a=>Kx id env (r::D) a) (λa=>Kr env (r::D) a))
    else False
   | _=>False
 |c,env,D,w,Kn,Kx,Kr=>rZ C aW N c env w (λenv w=>Kn env D w) (λid env w=>Kx id env D w) (λenv w=>Kr env D w)
def QpF (S:Nat->Option (Option A2)) (N:Nat) (Kn:qL) (Kx:Nat->qL) (Kr:qL):Exit->Act->A0->Prop
 | .normal,a,w=> ∃env D b,Kn env D b/\plain env/\Fit S #[] N (marks D) env a/\Ext b w
 | .exit id,a,w=> ∃env D b,Kx id env D b/\plain env/\Fit S #[] N (marks D) env a/\Ext b w
 | .ret,a,w=> ∃env D b,Kr env D b/\plain env/\Fit S #[] N (marks D) env a/\Ext b w
 | _, _, _=>False
theorem Zw {S:Nat->Option (Option A2)} {N:Nat} {Kn:qL} {Kx:Nat->qL} {Kr:qL} {D:List Nat}: ∀(e:Exit) (a:Act) (w:A0),
 Qp S N (marks D) (λenv w=>Kn env D w) (λid env w=>Kx id env D w) (λenv w=>Kr env D w) e a w->QpF S N Kn Kx Kr e a w
 | .normal, _, _,⟨env,b,h⟩=>⟨env,D,b,h⟩
 | .exit _, _, _,⟨env,b,h⟩=>⟨env,D,b,h⟩
 | .ret, _, _,⟨env,b,h⟩=>⟨env,D,b,h⟩
theorem zx {N:Nat} {D:List Deferred}: ∀(l:List (Nat×A2)) (env:List bS) (tmps:Array A2),(∀x∈l,x.1<N)->plain env->Fit (λ_=>none) #[] N D env {tmps,defers:=D}->
 Fit (λ_=>none) #[] N D (l.reverse.map (λx=>⟨x.1,[],none,x.2,none⟩)++env) {tmps:=l.foldl (λtmps (t,a)=>tmps.setIfInBounds t a) tmps,defers:=D}/\plain (l.reverse.map (λx=>(⟨x.1,[],none,x.2,none⟩:bS))++env)
 |[],env,tmps, _,b,h=>⟨h,b⟩
 |(t,v)::r,env,tmps,c,b,h=>by
  have f:plain (⟨t,[],none,v,none⟩::env):=λe he=>by
   rcases Ct.1 he with rfl|he;simp
   ·exact b e he
  have h1:=by
   have:=h.put (g:=none) (d:=some t) (u:=v) (by
    have:=c (t,v) (by grind);simp[o9,this];intro e he;rw[(b e he).1];simp) (λ_ _=>rfl) rfl (λ_=>rfl) (λi=>absurd (λx hx=>by cases hx) i)
   exact this
  have:=zx r _ _ (by grind) f h1
  grind
theorem GY {w:A0} {l:Nat} {rec:Loop} {a:Option Code} (h:cX w l rec .ready a):(Instr.beginRound l).run P w= .ok () (w.putObj l (.loop {rec with state:= .busy,pending:=a})):=
 run_beginRound h rfl
theorem yV {w:A0} {l:Nat} {rec:Loop} {st:LoopState} {b:Option Code} (a:Option Code) (h:cX w l rec st b):
 (Instr.endRound l a).run P w= .ok (.bool a.isNone) (w.putObj l (.loop {rec with state:=if a.isNone then .ready else .done,pending:=a})):=
 run_endRound (r:={rec with state:=st,pending:=b}) a h
theorem GZ {C:dG P} {aW:Nat->a7} {N l:Nat} {rec:Loop} {assign body:Code} {env:List bS} {args:List A2} {w:A0} {R:Bool->A0->Prop} {tmps:Array A2} {D0:List Deferred}
 (u:rec.tmps=tmps) (v:rec.assign=assign) (hb:rec.body=body) (y: ∀p∈rec.params.toList,p<N) (z:plain env) (b:Fit (λ_=>none) #[] N D0 env {tmps,defers:=D0})
 (h:I5 C aW N l rec rec.params.toList assign body env args w R):mC P l args w R:=by
 obtain⟨⟨A,B⟩,E,o⟩:=h;rw[jP] at o;refine⟨{rec with state:= .ready,pending:=A},B,by simpa using E,?_⟩;have G:Fit (λ_=>none) #[] N [] env {tmps,defers:=[]}:=⟨b.off,b.size,rfl,b.yes,b.no,b.Fv,b.BU⟩;obtain⟨H,I⟩:=zx (D:=[]) (rec.params.toList.zip args) env tmps (λx hx=>y x.1 (List.of_mem_zip hx).1) z G;have e:(rec.params.zip (⟨args⟩:Array A2)).foldl (λtmps (t,a)=>tmps.setIfInBounds t a) rec.tmps=(rec.params.toList.zip args).foldl (λtmps (t,a)=>tmps.setIfInBounds t a) tmps:=by
  rw[u, <-Array.foldl_toList];simp
 rw[e,v,hb];refine roundIn_of_wpIn (F:=WF none) trivial ?_;have h1:=qp (r:=some l) (C:=C) (aW:=aW) assign (λ_=>none) _ _ w w _ _ _ (λ_ _=>rfl) I H o (Ext.refl w);refine wpIn_mono h1 ?_;intro J a1 w1 k;cases J with
 |normal=>
  obtain⟨db,U,m,K,L,M⟩:=k;obtain⟨V,O,Q⟩:=m w1 M;refine⟨_,GY O,?_⟩;have S:=qp (r:=some l) (C:=C) (aW:=aW) body (λ_=>none) _ _ _ _ _ _ _ (λ_ _=>rfl) K L Q (Ext.refl _);refine wpIn_mono S ?_;intro T W n j;cases T with
  |normal=>
   obtain⟨_,q,d, _, _,f⟩:=j;obtain⟨st,s,g,i⟩:=d n f;exact⟨_, _,yV none g,true,rfl,i⟩
  |exit id=>
   obtain⟨_,q,d, _, _,f⟩:=j;obtain⟨st,s,g,i⟩:=d n f;exact⟨_, _,yV (some (.exit id)) g,false,rfl,i⟩
  |ret=>
   obtain⟨_,q,d, _, _,f⟩:=j;obtain⟨st,s,g,i⟩:=d n f;exact⟨_, _,yV (some .ret) g,false,rfl,i⟩
  |goto t
  |panic c
  |outgrown=>exact AC j
 |exit id
 |ret=>obtain⟨_, _,m, _⟩:=k;exact AC m
 |goto t
 |panic c
 |outgrown=>exact AC k
variable {P:AM} {N:Nat}
theorem Bb {C:dG P} {aW:Nat->a7} {c:Code} {S:Nat->Option (Option A2)} {env:List bS} {D:List Nat} {a:Act} {w w':A0} {Kn:qL} {Kx:Nat->qL} {Kr:qL}
 (b: ∀k∈writes c,S k=none) (d:plain env) (e:Fit S #[] N (marks D) env a) (h:rZ C aW N c env w (λenv w=>Kn env D w) (λid env w=>Kx id env D w) (λenv w=>Kr env D w)) (f:Ext w w'):
 c.wpIn (WF none) 0 P (QpF S N Kn Kx Kr) a w':=
 wpIn_mono (qp c S env a w w' _ _ _ b d e h f) Zw
theorem G4 {w:A0} {l:Nat} {rec:Loop} {st:LoopState} {a:Option Code} (h:cX w l rec st a) (hb:st≠ .busy):
 (Instr.endLoop l).run P w= .ok a (w.putObj l (.loop {rec with state:= .exhausted,pending:=a})):=
 run_endLoop h hb
theorem Zx {C:dG P} {aW:Nat->a7}: ∀(c:Code) (S:Nat->Option (Option A2)) (env:List bS) (D:List Nat) (a:Act) (w w':A0) (Kn:qL) (Kx:Nat->qL) (Kr:qL),
 (∀k∈writes c,S k=none)->plain env->Fit S #[] N (marks D) env a->NZ C aW N c env D w Kn Kx Kr->Ext w w'->c.wpIn (WF none) 0 P (QpF S N Kn Kx Kr) a w':=by
 intro c
 induction c with
 |seq x y O Q=>
  intro S env D a w w' Kn Kx Kr j i d h l;refine wpIn_seq (wpIn_mono (O S env D a w w' _ Kx Kr (λk f=>j k (by simp[writes,f])) i d h l) ?_);intro e a1 w1 q;cases e with
  |normal=>
   obtain⟨db,D1,r,f,Dj,sZ,uO⟩:=q;exact Q S db D1 a1 r w1 Kn Kx Kr (λk f=>j k (by simp[writes,f])) Dj sZ f uO
  | _=>exact q
 |cond c x y O Q=>
  intro S env D a w w' Kn Kx Kr j i d h l;simp only[NZ] at h;split at h
  ·rename_i b hb;have T:=d.ev (ch:=[]) (λ_ hx=>by cases hx) hb;exact wpIn_cond_split T (λE=>O S env D a w w' Kn Kx Kr (λk f=>j k (by simp[writes,f])) i d (D5 h E) l) (λE=>Q S env D a w w' Kn Kx Kr (λk f=>j k (by simp[writes,f])) i d (A5 h E) l)
  ·exact AC h
 |block id x U=>
  intro S env D a w w' Kn Kx Kr j i d h l;refine wpIn_block (wpIn_mono (U S env D a w w' Kn _ Kr j i d h l) ?_);intro e a1 w1 q;cases e with
  |exit X4=>
   obtain⟨db,D1,r,f,rest⟩:=q;simp only[Exit.inBlock];split
   ·rename_i he;simp only[he,if_true] at f;exact⟨db,D1,r,f,rest⟩
   ·rename_i he;simp only[he,if_false] at f;exact⟨db,D1,r,f,rest⟩
  | _=>exact q
 |loop x U=>
  intro S env D a w w' Kn Kx Kr j i d h l;simp only[NZ,jP] at h;split at h
  ·split at h
   ·exact AC h
   ·rename_i X hs0;obtain⟨I,⟨n0,h0⟩,pf⟩:=h
    let sl:=aW ((jL x).getD 0)
    let m:Nat->Option (Option A2):=λt=>if(writes x).contains t then none else some (a.tmps[t]?)
    let c_:=env.filter λe=> !(writes x).contains e.t
    have nil: ∀(Y:Array A2),kh #[] Y []:=λY x hx=>by cases hx
    have DM: ∀t e,cd c_ t=some e->a.tmps[t]? =some e.v/\(writes x).contains t=false/\e.ch=[]:=by
     intro t e he;have E:=yH he;have hs:=yT he;have B:(writes x).contains t=false:=by rw[<-E];simpa using hs.2
     have u:cd env t=some e:=iV he (λy _ hyt=>by rw[hyt,B];rfl);exact⟨d.yes t e u (by rw[(i e hs.1).1];exact nil _),B,(i e hs.1).1⟩
    have head: ∀(z:List bS) (D2:List Nat) (o:Act) (s:oG (sl.map (·.2))),plain z->Fit m #[] N (marks D2) z o->pa sl z=some s->Fit m #[] N (marks D2) (lx sl s++c_) o/\plain (lx sl s++c_):=by
     intro z D2 o s V p wQ;have M:plain (lx sl s++c_):=λe he=>by
      rcases E4.1 he with he|he
      ·exact tH he
      ·exact i e (by simpa[c_] using(Cg.1 he).1)
     refine⟨⟨p.off,p.size,p.qK,λt e he _=>?_,λt e he hn=>absurd (by rw[(M e (bX he)).1];exact nil _) hn,(λe he=>by rw[(M e he).2];exact(M e he).1),λe he b hb=>by
     rcases E4.1 he with he|he
     ·rw[Cr he] at hb;cases hb
     ·exact d.BU e (Cg.1 he).1 b hb⟩,M⟩
     rcases mq he with he|⟨_,he⟩
     ·obtain⟨e',Z,hv⟩:=qo wQ he;rw[<-hv];exact p.yes t e' Z (by rw[(V e' (bX Z)).1];exact nil _)
     ·obtain⟨hv,B, _⟩:=DM t e he;have:=p.off t (a.tmps[t]?) (by simp only[m,B];rfl);rw[this,hv]
    have Oj:Fit m #[] N (marks D) env a:=⟨λt x hx=>by
     simp only[m] at hx;split at hx
     ·cases hx
     ·cases hx;rfl,d.size,d.qK,d.yes,d.no,d.Fv,d.BU⟩
    have back: ∀{z:List bS} {D2:List Nat} {o:Act},Fit m #[] N (marks D2) z o->Fit S #[] N (marks D2) z o:=λ{z D2 o} u=>⟨λt y W=>by
     have B:(writes x).contains t=false:=by
      cases hc:(writes x).contains t with
      |false=>rfl
      |true=>have:=j t (by simpa[writes] using hc);rw[this] at W;cases W
     have h1:=u.off t (a.tmps[t]?) (by simp only[m,B];rfl);rw[h1];exact d.off t y W,u.size,u.qK,u.yes,u.no,u.Fv,u.BU⟩
    have hS1: ∀k∈writes x,m k=none:=λk f=>by simp[m,f]
    obtain⟨hF4,hp4⟩:=head env D a X i Oj hs0;refine zw (λn o F=> ∃s D2,I n s D2 F/\Fit m #[] N (marks D2) (lx sl s++c_) o/\plain (lx sl s++c_)) (n0:=n0) ⟨X,D,h0 w' l,hF4,hp4⟩ ?_;intro n o F ⟨s,D2,hI,p,V⟩;have hb:=U m _ D2 o F F _ Kx Kr hS1 V p (pf n s D2 F hI) (Ext.refl _);refine wpIn_mono hb ?_;intro e a3 w3 q;cases e with
    |normal=>
     obtain⟨G,D3,r,f,H,J,K⟩:=q;simp only[Exit.then];split at f
     ·rename_i s3 hs3;obtain⟨n',jT,hI'⟩:=f w3 K;obtain⟨X5,X6⟩:=head G D3 a3 s3 H J hs3;exact⟨n',jT,s3,D3,hI',X5,X6⟩
     ·exact AC f
    |exit id=>obtain⟨G,D3,r,f,H,J,K⟩:=q;exact⟨G,D3,r,f,H,back J,K⟩
    |ret=>obtain⟨G,D3,r,f,H,J,K⟩:=q;exact⟨G,D3,r,f,H,back J,K⟩
    | _=>exact q
  ·exact Bb (C:=C) (aW:=aW) j i d h l
 |rangeFunc g ps assign body _ _=>
  intro S env D a w w' Kn Kx Kr j i d h l;simp only[NZ] at h;split at h
  ·rename_i gM first cap hg
   split at h
   ·rename_i jU;simp only[BW,Dq,decide_eq_true_eq] at jU;obtain⟨DK,TO⟩:=jU;have T:=d.ev (ch:=[]) (λ_ hx=>by cases hx) hg;refine wpIn_rangeFunc λfn _=>?_
    let L:Loop:={state:= .ready,pending:=none,fn,tmps:=a.tmps,params:=ps,assign,body,defers:=w'.heap.size}
    have hF':Fit (λ_=>none) #[] N (marks D) env {tmps:=a.tmps,defers:=marks D}:=⟨(λ_ _ hx=>by cases hx),d.size,rfl,d.yes,d.no,d.Fv,d.BU⟩;have f:=h w' l L rfl rfl rfl rfl (λ_ w3 R hr=>GZ (C:=C) (aW:=aW) (rec:=L) rfl rfl rfl TO i hF' hr);have abg:(first++ #[Value.func (.yield (w'.heap.size+1)) #[] #[]]++cap:Array A2)=⟨dt first [.func (.yield (w'.heap.size+1)) #[] #[]] cap⟩:=by
     unfold dt;obtain⟨l1⟩:=first;obtain⟨l3⟩:=cap
     simp
    refine⟨w'.heap.size+1,[{target:= .collected w'.heap.size,args:= #[]}],(w'.alloc (.deferred (some []))).alloc (.loop L),{target:= .fn (.func gM) cap,args:=first++ #[.func (.yield (w'.heap.size+1)) #[] #[]]},(w'.alloc (.deferred (some []))).alloc (.loop L),gM,
     ⟨dt first [.func (.yield (w'.heap.size+1)) #[] #[]] cap⟩,(w'.alloc (.deferred (some []))).alloc (.loop L),run_enterLoop_outer _ _ _ _ _,?_,λ_ _=>trivial,?_,by simp[WF,Do],?_⟩
    ·simp only[resolve,T,Deferred.ofValue,Ar,GJ,GS,Ga];rfl
    ·simp only[invoke];rw[abg];exact tZ DK
    ·refine(jR (n:=0 - 1)).2 (f.mono λe w4 ⟨v,he,st,pd,sS,vx,A⟩=>?_);subst he;have Kl:=G4 (P:=P) sS vx;have p:Fit S #[] N (marks (w'.heap.size::D)) env {a with defers:=[{target:= .collected w'.heap.size,args:= #[]}]++a.defers}:=
      ⟨d.off,d.size,by simp[marks,d.qK],d.yes,d.no,d.Fv,d.BU⟩
     refine⟨pd, _,Kl,?_⟩
     match pd,A with
     |none,A=>exact⟨env, _, _,A,i,p,Ext.refl _⟩
     |some (.exit id),A=>exact wpIn_exit ⟨env, _, _,A,i,p,Ext.refl _⟩
     |some .ret,A=>exact wpIn_ret ⟨env, _, _,A,i,p,Ext.refl _⟩
   ·exact AC h
  ·exact AC h
 | _=>intro S env D a w w' Kn Kx Kr j i d h l;exact Bb (C:=C) (aW:=aW) j i d h l
def Dy (P:AM) (w:A0):List ResultVar->List bS->(List A2->Prop)->Prop
 |[], _,K=>K []
 | .tmp t::r,env,K=>match cd env t with
   |some e=>Dy P w r env (λl=>K (e.v::l))
   |none=>False
 | .cell t ty::r,env,K=>match cd env t with
   |some e=>match e.v,uS P ty,P.info? ty with
    | .pointer p,some el,some i=>if qd el i.size=true then False else aj w none p el (λx=>Dy P w r env (λl=>K (el.iu x::l)))
    | _, _, _=>False
   |none=>False
def Ui (s:Sh) (Post:s.T->A0->Prop) (w:A0) (l:List A2):Prop:=
 match s.proj (Km l) with
 |some x=>Post x w
 |none=>False
def byD (D:List Nat) (x:Prop) (y:Nat->List Nat->Prop):Prop:=match D with
 |[]=>x
 |r::D=>y r D
def ON (s:Sh) (rs:List ResultVar) (Post:s.T->A0->Prop):qL:=λenv D w=>byD D (au w (λw1=>Dy P w1 rs env (Ui s Post w1)))
 (λr D=>sU (r::D) w (λw1=>Dy P w1 rs env (Ui s Post w1)))
def bW (C:dG P) (aW:Nat->a7) (f:B2) (args:List A2) (w:A0) (Post:(uN C f).T->A0->Prop):Prop:=
 match P.funcs[f]? with
 |none=>False
 |some fn=>match fn.body with
  |none=>False
  |some c=>
   if args.length<=fn.ntmps then NZ C aW fn.ntmps c (jM args 0) [] w (ON (P:=P) (uN C f) fn.results.toList Post) (λ_ _ _ _=>False) (ON (P:=P) (uN C f) fn.results.toList Post) else False
theorem yW {tmps:Array A2} {w:A0}: ∀{l:List ResultVar} {env:List bS} {K:List A2->Prop},Dy P w l env K->(∀t e,cd env t=some e->tmps[t]? =some e.v)->
 ∃vs,(l.mapM (nJ tmps)).run P w= .ok vs w/\K vs
 |[], _, _,h, _=>⟨[],by simp,h⟩
 | .tmp t::r,env,K,h,hv=>by
   simp only[Dy] at h;split at h
   ·rename_i e a;obtain⟨vs,dP,b⟩:=yW h hv
    simp_all[nJ]
   ·exact AC h
 | .cell t ty::r,env,K,h,hv=>by
   simp only[Dy] at h;split at h
   ·rename_i e a;split at h
    ·rename_i p el i d f hi;split at h
     ·exact AC h
     ·rename_i hs;obtain⟨x,c,g⟩:=h;obtain⟨vs,dP,b⟩:=yW g hv;refine⟨el.iu x::vs,?_,b⟩;have j: ∃a0,p=some a0:=by cases el<;>(obtain⟨a0,h0, _⟩:=c;exact⟨a0,h0⟩)
      obtain⟨a0,rfl⟩:=j;have k:=tE (P:=P) f hi hs c;have hg:tmps.getD t undef= .pointer (some a0):=by simp[hv t e a,d]
      simp only[List.mapM_cons,Ae,nJ,hg,asAddr,Ar,Aq,k,dP]
    ·exact AC h
   ·exact AC h
theorem ua {fn:Func} {tmps:Array A2} {R:Ending->A0->Prop}: ∀(D:List Nat) (w:A0),DN D w->(∃v,(results fn tmps).run P (mF D w)= .ok v (mF D w)/\R (.returned v) (mF D w))->
 LeavesInM (WF none) 0 P fn tmps R (marks D) .returning w
 |[],w, _,h=>h
 |r::D,w,a,h=>⟨by simp,.inl ⟨r, _,rfl,run_takeDeferred a.1,ua D _ a.2 h⟩⟩
theorem aS {C:dG P} {aW:Nat->a7} {f:B2} {args:List A2} {w:A0} {Post:(uN C f).T->A0->Prop} (h:bW C aW f args w Post):aE P f (uN C f) args w Post:=by
 unfold bW at h;split at h
 ·exact AC h
 ·rename_i fn q;split at h
  ·exact AC h
  ·rename_i c hb;split at h
   ·rename_i G;have d:plain (jM args 0):=λe a=>sq a;have nil: ∀(o:Array Oper) (l:Array A2),kh o l []:=λo l x hx=>by cases hx
    have s:Fit (λ_=>none) #[] fn.ntmps (marks []) (jM args 0) {tmps:=(⟨args⟩:Array A2)++F8 (fn.ntmps - args.length) undef,defers:=[]}:=by
     refine⟨(λ_ _ hx=>by cases hx),(by simp;omega),rfl,λt e a _=>?_,λt e a y=>absurd (by rw[(d e (bX a)).1];exact nil _ _) y,(λe a=>by rw[(d e a).2];exact(d e a).1),λe a b hb=>by rw[yU a] at hb;cases hb⟩;obtain⟨_,hv, _⟩:=pR a
     grind
    have z:=Zx (C:=C) (aW:=aW) c (λ_=>none) _ _ _ w w _ _ _ (λ_ _=>rfl) d s h (Ext.refl w);refine(jR (r:=none) (n:=0)).1 (callsIn_of_wp_marks q hb trivial (wpIn_mono z ?_));have fin: ∀a1 w1,(∃env D k,ON (P:=P) (uN C f) fn.results.toList Post env D k/\plain env/\Fit (λ_=>none) #[] fn.ntmps (marks D) env a1/\Ext k w1)->
     LeavesInM (WF none) 0 P fn a1.tmps (λe w'=> ∃x:(uN C f).T,e= .returned ((uN C f).iu x)/\Post x w') a1.defers .returning w1:=by
     intro a1 w1 ⟨env,D,k,g,A,m,p⟩;obtain⟨B,E⟩:DN D w1/\Dy P (mF D w1) fn.results.toList env (Ui (uN C f) Post (mF D w1)):=by
      cases D with
      |nil=>exact⟨trivial,g w1 p⟩
      |cons r D=>exact g w1 p
     rw[m.qK];refine ua D w1 B ?_;obtain⟨vs,dP,i⟩:=yW E (λt e a=>m.yes t e a (by rw[(A e (bX a)).1];exact nil _ _));unfold Ui at i;split at i
     ·rename_i x hx;refine⟨Km vs,?_,x,by rw[Sh.iG hx],i⟩;have F:(fn.results.mapM (nJ a1.tmps)).run P (mF D w1)= .ok ⟨vs⟩ (mF D w1):=by
       rw[J9,Sem.run_map,dP];rfl
      have e:results fn a1.tmps=(do
       let vs<-fn.results.mapM (nJ a1.tmps)
       pure _):=rfl
      rw[e,Ae,F];simp only[Aq,Ar]
      match vs with
      |[]=>rfl
      |[v]=>rfl
      |v::u::r=>simp[Km]
     ·exact AC i
    intro e a1 w1 j;cases e with
    |normal=>exact fin a1 w1 j
    |ret=>exact fin a1 w1 j
    |exit id=>obtain⟨_, _, _,g, _⟩:=j;exact AC g
    | _=>exact AC j
   ·exact AC h
theorem putObj_size (w:A0) (b:Nat) (o:Obj):(w.putObj b o).heap.size=w.heap.size:=by simp
theorem fG {w:A0} {b k:Nat} {o:Obj} (h:k≠b):(w.putObj b o).heap[k]? =w.heap[k]? :=by
 simp[FV,Ne.symm h]
theorem kf {w:A0} {b:Nat} {o:Obj} (h:b<w.heap.size):(w.putObj b o).heap[b]? =some o:=by
 simp[FV,h]
theorem WL (w:A0) (a:AF) (v:A2):(w.setCell a v).heap.size=w.heap.size:=by simp
theorem G5 {w:A0} {a:AF} {k:Nat} {v:A2} (h:k≠a.block):(w.setCell a v).heap[k]? =w.heap[k]? :=by
 simp[M4,Ol,Ne.symm h]
theorem AF.vg (a:AF) (n:Nat):(a.add n).block=a.block:=by
 unfold Addr.add;grind
theorem sr: ∀(vs:List A2) (w:A0) (a:AF) (i:Nat),(putAt w a vs i).heap.size=w.heap.size
 |[], _, _, _=>rfl
 |v::r,w,a,i=>by simp[putAt,sr]
theorem m5: ∀(vs:List A2) (w:A0) (a:AF) (i k:Nat),k≠a.block->(putAt w a vs i).heap[k]? =w.heap[k]?
 |[], _, _, _, _, _=>rfl
 |v::r,w,a,i,k,h=>by
  simp[putAt];rw[m5 r _ a _ k h,G5 (by rw[AF.vg];omega)]
theorem Below.putAt {n:Nat} {w w':A0} (h:Below n w w') (a:AF) (c:n<=a.block): ∀(vs:List A2) (i:Nat),Below n w (putAt w' a vs i):=by
 intro vs i
 induction vs generalizing w' i with
 |nil=>exact h
 |cons v r b=>
  exact b (h.setCell (by rw[AF.vg];omega) v) _
theorem E7 {n:Nat} {w w':A0} (h:Below n w w') {b:Nat} (hb:n<=b) (o:Obj):Below n w (w'.putObj b o):=
 ⟨h.os,h.tape,h.output,by rw[putObj_size];exact h.size,λk a=>by rw[fG (by omega)];exact h.block k a⟩
theorem Ext.jZ {w w':A0} (h:Ext w w') {a:AF} (b:w.heap.size<=a.block) (vs:List A2):Ext w (jZ w' (some a) vs):=Below.putAt h a b vs 0
theorem Ext.putObj {w w':A0} (h:Ext w w') {b:Nat} (hb:w.heap.size<=b) (o:Obj):Ext w (w'.putObj b o):=E7 h hb o
theorem Ext.jl {w w':A0} (h:Ext w w') (o:Obj):Ext w (w'.alloc o):=h.trans (Ext.alloc w' o)
def bO (w:A0) (b:Nat) (l:List A2):Prop:= ∃t,w.heap[b]? =some (.cells ⟨l⟩ t (0,0))
theorem bO.lt {w:A0} {b:Nat} {l:List A2} (h:bO w b l):b<w.heap.size:=by
 obtain⟨⟩:=h;grind
theorem bO.ext {w w':A0} {b:Nat} {l:List A2} (h:bO w b l) (k:Ext w w'):bO w' b l:=by
 obtain⟨t,h⟩:=h;exact⟨t,k.obj h⟩
theorem lP (w:A0) (o:Obj):(w.alloc o).heap.size=w.heap.size+1:=by simp
theorem ft (w:A0) (o:Obj):(w.alloc o).heap[w.heap.size]? =some o:=by
 show(w.heap.push o)[w.heap.size]? =some o;simp
theorem bO.new (w:A0) (l:List A2) (t:AJ):bO (w.alloc (.cells ⟨l⟩ t)) w.heap.size l:=⟨t,ft _ _⟩
theorem bO.same {w w':A0} {b:Nat} {l:List A2} (h:bO w b l) (k:w'.heap[b]? =w.heap[b]?):bO w' b l:=by
 obtain⟨t⟩:=h;exact⟨t,by grind⟩
theorem bO.Xu {w:A0} {b:Nat} {l:List A2} (h:bO w b l) {a:AF} (c:b≠a.block) (vs:List A2):bO (jZ w (some a) vs) b l:=
 h.same (m5 vs w a 0 b c)
theorem bO.putObj {w:A0} {b:Nat} {l:List A2} (h:bO w b l) {k:Nat} (a:b≠k) (o:Obj):bO (w.putObj k o) b l:=h.same (fG a)
theorem Om (b o n:Nat):Addr.add ⟨b,o,none⟩ n=⟨b,o+n,none⟩:=by
 unfold Addr.add;simp
theorem aY (b o n:Nat):ad (some ⟨b,o,none⟩) n=some ⟨b,o+n,none⟩:=by simp[ad,Om]
theorem bO.cell {w:A0} {b:Nat} {l:List A2} (h:bO w b l) (o:Nat):w.cell? ⟨b,o,none⟩=l[o]? :=by
 obtain⟨t,h⟩:=h;simp[LL,h]
theorem bO.cellAt {w:A0} {b:Nat} {l:List A2} (h:bO w b l) (o n:Nat):w.cell? (Addr.add ⟨b,o,none⟩ n)=l[o+n]? :=by rw[Om,h.cell]
theorem bO.KE {w:A0} {b:Nat} {l:List A2} (h:bO w b l) (a:AF) (c:a.block=b):w.frozen? a=false:=by
 obtain⟨t,h⟩:=h;simp[World.frozen?,c,h]
theorem bO.oF {w:A0} {b o:Nat} {l:List A2} (h:bO w b l) {s:Sc} {x:s.T} (hx:l[o]? =some (s.iu x)):cU w (some ⟨b,o,none⟩) (.one s) x:=
 ⟨_,rfl,by rw[h.cell];omega⟩
theorem bO.rdA {w:A0} {b o:Nat} {l:List A2} (h:bO w b l) {ss:List Sc} {x:jX ss} (hx: ∀i,i<ss.length->l[o+i]? =(bu ss x)[i]?):cU w (some ⟨b,o,none⟩) (.agg ss) x:=
 ⟨_,rfl,λhi=>by rw[h.cellAt];grind⟩
theorem bO.oP {w:A0} {b o n:Nat} {l vs:List A2} (h:bO w b l) (a:vs.length=n) (hx: ∀i,i<n->l[o+i]? =vs[i]?):oP w (some ⟨b,o,none⟩) n vs:=
 ⟨a,λhi=>by rw[h.cellAt];grind⟩
theorem bO.st {w:A0} {b o n:Nat} {l:List A2} (h:bO w b l) (a:o+n<=l.length):Ud w (some ⟨b,o,none⟩) n:=
 ⟨_,rfl,λi hi=>⟨by rw[h.cellAt,IP (by omega)];rfl,h.KE _ (AF.vg _ _)⟩⟩
theorem C6 {w:A0} {b o:Nat} {l:List A2} {t:AJ} (h:w.heap[b]? =some (.cells ⟨l⟩ t (0,0))) (v:A2):(w.setCell ⟨b,o,none⟩ v).heap[b]? =some (.cells ⟨l.set o v⟩ t (0,0)):=by
 simp only[M4,Ol,h];simp
theorem zy: ∀(vs:List A2) (w:A0) (b o i:Nat) (l:List A2) (t:AJ),w.heap[b]? =some (.cells ⟨l⟩ t (0,0))->o+i+vs.length<=l.length->
 (putAt w ⟨b,o,none⟩ vs i).heap[b]? =some (.cells ⟨l.take (o+i)++(vs++l.drop (o+i+vs.length))⟩ t (0,0))
 |[],w,b,o,i,l,t,h, _=>by simp[putAt,h]
 |v::r,w,b,o,i,l,t,h,c=>by
  simp_all
  simp only[putAt,Om];rw[zy r _ b o (i+1) (l.set (o+i) v) t (C6 h v) (by simp;omega)];congr 3;have h1:(l.set (o+i) v).take (o+(i+1))=l.take (o+i)++[v]:=by
   grind[NK,NM]
  have a:(l.set (o+i) v).drop (o+(i+1)+r.length)=l.drop (o+i+(r.length+1)):=by
   grind[NR]
  rw[h1,a];simp
theorem bO.put {w:A0} {b o:Nat} {l:List A2} (h:bO w b l) (vs:List A2) (a:o+vs.length<=l.length):bO (jZ w (some ⟨b,o,none⟩) vs) b (l.take o++(vs++l.drop (o+vs.length))):=by
 obtain⟨t,h⟩:=h;exact⟨t,zy vs w b o 0 l t h a⟩
theorem cX.lt {w:A0} {l:Nat} {rec:Loop} {st:LoopState} {a:Option Code} (h:cX w l rec st a):l<w.heap.size:=(Bx.1 h).1
theorem cX.ext {w w':A0} {l:Nat} {rec:Loop} {st:LoopState} {a:Option Code} (h:cX w l rec st a) (k:Ext w w'):cX w' l rec st a:=k.obj h
theorem cX.same {w w':A0} {l:Nat} {rec:Loop} {st:LoopState} {a:Option Code} (h:cX w l rec st a) (k:w'.heap[l]? =w.heap[l]?):cX w' l rec st a:=by grind[cX]
theorem cX.put {w:A0} {l:Nat} {rec:Loop} {st:LoopState} {c:Option Code} (h:cX w l rec st c) (a:LoopState) (b:Option Code):cX (s8 w l rec a b) l rec a b:=
 kf h.lt
def cellsOf:(e:El)->e.T->List A2
 | .one s,x=>[s.iu x]
 | .agg l,x=>bu l x
def aD:El->Nat
 | .one _=>1
 | .agg l=>l.length
theorem du (e:El) (x:e.T):(cellsOf e x).length=aD e:=by
 cases e with
 |one=>rfl
 |agg l=>exact cC l x
def Sl (w:A0) (e:El) (p:Option AF) (xs:List e.T):Prop:= ∀i x,xs[i]? =some x->p.isSome=true/\cU w (ad p (i*aD e)) e x
theorem Sl.ext {w w':A0} {e:El} {p:Option AF} {xs:List e.T} (h:Sl w e p xs) (k:Ext w w'):Sl w' e p xs:=
 λi x hx=>⟨(h i x hx).1,tD k (h i x hx).2⟩
def flat (e:El) (xs:List e.T):List A2:=xs.flatMap (cellsOf e)
theorem aF (e:El) (xs:List e.T):(flat e xs).length=xs.length*aD e:=by
 induction xs with
 |nil
 |cons=>simp only[flat,OO,E5,du] at*;grind
theorem dO (e:El) (xs ys:List e.T):flat e (xs++ys)=flat e xs++flat e ys:=by simp[flat]
theorem yX (e:El): ∀(xs:List e.T) (i:Nat) (x:e.T),xs[i]? =some x-> ∀j,j<aD e->(flat e xs)[i*aD e+j]? =(cellsOf e x)[j]?
 |y::r,0,x,h,j,a=>by
  simp_all[flat,List.getElem?_append_left,du]
 |y::r,i+1,x,h,j,a=>by
  have b:=yX e r i x ‹_› j a;simp[flat,OO];rw[List.getElem?_append_right (by rw[du,FG];omega),du];rw[show(i+1)*aD e+j - aD e=i*aD e+j by grind];exact b
theorem Sl.jN {w:A0} {e:El} {b:Nat} {l:List A2} {xs:List e.T} (h:bO w b l) (c:l.take (xs.length*aD e)=flat e xs):Sl w e (some ⟨b,0,none⟩) xs:=by
 intro i x hx;have hi:=(List.getElem?_eq_some_iff.1 hx).1;have d: ∀j,j<aD e->i*aD e+j<xs.length*aD e:=λj a=>by
  have:(i+1)*aD e<=xs.length*aD e:=Oq _ hi
  grind
 have hc: ∀j,j<aD e->l[i*aD e+j]? =(cellsOf e x)[j]? :=λj a=>by
  rw[<-yX e xs i x hx j a, <-c,List.getElem?_take_of_lt (d j a)]
 simp;rw[aY,Kh];cases e with
 |one=>exact h.oF (by simp_all[aD,cellsOf])
 |agg ss=>exact h.rdA ‹_›
def lW (w0 w:A0) (e:El) (s:Option AF×Nat×Nat) (xs:List e.T):Prop:=
 s.2.1=xs.length/\xs.length<=s.2.2/\
 ((s.1=none/\xs=[]/\s.2.2=0)\/ ∃b l,s.1=some ⟨b,0,none⟩/\w0.heap.size<=b/\bO w b l/\l.length=s.2.2*aD e/\l.take (xs.length*aD e)=flat e xs)
theorem lW.nil (w0 w:A0) (e:El):lW w0 w e (none,0,0) []:=⟨rfl,by simp⟩
theorem lW.ext {w0 w w':A0} {e:El} {s:Option AF×Nat×Nat} {xs:List e.T} (h:lW w0 w e s xs) (k:Ext w w'):lW w0 w' e s xs:=by
 obtain⟨h1,c,a⟩:=h;refine⟨h1,c,?_⟩;rcases a with a|⟨b,l,a1,d,f,g⟩
 ·grind
 ·exact .inr ⟨b,l,a1,d,f.ext k,g⟩
theorem lW.same {w0 w w':A0} {e:El} {s:Option AF×Nat×Nat} {xs:List e.T} (h:lW w0 w e s xs) (k: ∀a,s.1=some a->w'.heap[a.block]? =w.heap[a.block]?):lW w0 w' e s xs:=by
 obtain⟨h1,d,c⟩:=h;refine⟨h1,d,?_⟩;rcases c with c|⟨b,l,a1,f,g,i⟩
 ·grind
 ·exact .inr ⟨b,l,a1,f,g.same (k _ a1),i⟩
theorem lW.sl {w0 w:A0} {e:El} {s:Option AF×Nat×Nat} {xs:List e.T} (h:lW w0 w e s xs):Sl w e s.1 xs:=by
 obtain⟨h1,f,a⟩:=h;rcases a with ⟨_,hx, _⟩|⟨b,l,a1,g,c,i,d⟩
 ·intro;grind
 ·rw[a1];exact Sl.jN c d
theorem lW.len {w0 w:A0} {e:El} {s:Option AF×Nat×Nat} {xs:List e.T} (h:lW w0 w e s xs):s.2.1=xs.length:=h.1
def im:El->Bool
 | .one s=>s != .func
 | .agg l=>l.all (· != .func)
theorem zz (s:Sc) (x:s.T) (h:(s != .func)=true):(s.iu x).oneCell'=true:=by
 cases s<;>first|rfl|grind
theorem ub: ∀(ss:List Sc) (x:jX ss),ss.all (· != .func)=true->(bu ss x).all (·.oneCell')=true
 |[], _, _=>rfl
 |s::r,x,h=>by
  simp only[IB,BW] at h;simp[bu,ub r _ h.2,zz s _ h.1]
theorem E8 (e:El) (x:e.T) (h:im e=true):(cellsOf e x).all (·.oneCell')=true:=by
 cases e with
 |one s=>simp[cellsOf,zz s x h]
 |agg l=>exact ub l x h
theorem jV (e:El) (xs:List e.T) (h:im e=true):(flat e xs).all (·.oneCell')=true:=by grind[flat,E8]
theorem lQ {w0 w:A0} {e:El} {s x:Option AF×Nat×Nat} {xs ys:List e.T} {t:AJ} {bytes:Nat} {z:Array A2} {R:Option AF×Nat×Nat->A0->Prop}
 (h:lW w0 w e s xs) (h0:Ext w0 w) (v:im e=true) (hx:x.2.1=ys.length) (y:oP w x.1 (x.2.1*aD e) (flat e ys)) (A:z.size=aD e) (hb:(xs.length+ys.length)*bytes<=140737488355328)
 (k: ∀s' w',lW w0 w' e s' (xs++ys)->Ext w0 w'->(∀b,b<w.heap.size->(∀a,s.1=some a->b≠a.block)->w'.heap[b]? =w.heap[b]?)->w.heap.size<=w'.heap.size->
  ((∃a,s'.1=some a/\s.1=some a)\/(∃a,s'.1=some a/\w.heap.size<=a.block)\/s'=(s.1,s.2.1,s.2.2))->R s' w'):
 mJ w t (aD e) bytes z s x R:=by
 obtain⟨h1,J,n⟩:=h;have m:=aF e xs;have g:=aF e ys;have B:oP w s.1 (s.2.1*aD e) (flat e xs):=by
  rcases n with ⟨a1,f,d⟩|⟨b,l,a1,f,d,p,q⟩
  ·rw[a1,f];rfl
  ·rw[a1];refine d.oP (by rw[m,h1]) λi hi=>?_
   grind
 refine⟨flat e xs,flat e ys,B,y,λj=>?_,λj=>⟨growslice_fits j (by rw[h1,hx];exact hb),λc hc=>?_⟩⟩
 ·rcases n with ⟨a1,f,d⟩|⟨b,l,a1,f,d,p,q⟩
  ·rw[d] at j;have C:ys=[]:=List.eq_nil_of_length_eq_zero (by omega);subst C;subst f;refine⟨.inl rfl,?_⟩;have D:s.2.1=0:=h1;have r:x.2.1=0:=hx;rw[a1];refine k _ _ ⟨by simp[D,r],Nat.zero_le _,.inl ⟨rfl,rfl,d⟩⟩ ?_ (λ_ _ _=>rfl) (Dn _) (.inr (.inr ?_))
   ·exact h0
   ·rw[a1,r];rfl
  ·have u:xs.length*aD e+ys.length*aD e<=l.length:=by
    rw[p, <-FG];exact Oq _ (by rw[<-h1, <-hx];exact j)
   have E:s.1.map (·.add (s.2.1*aD e))=some ⟨b,xs.length*aD e,none⟩:=by
    rw[a1,h1];simp[Om]
   rw[E];refine⟨.inr ⟨d.st (by rw[g];exact u),jV e ys v⟩,?_⟩;have F:=d.put (o:=xs.length*aD e) (flat e ys) (by rw[g];exact u);refine k _ _ ⟨by simp[h1,hx],by simp only[E5];rw[<-h1, <-hx];exact j,.inr ⟨b, _,a1,f,F,?_,?_⟩⟩ (h0.jZ (a:=⟨b, _,none⟩) f _) (λG K H=>m5 (flat e ys) w ⟨b, _,none⟩ 0 G (H ⟨b,0,none⟩ a1)) (Nat.le_of_eq (sr _ _ _ _).symm) (.inl ⟨_,a1,a1⟩)
   grind
   ·rw[q];have:(xs++ys).length*aD e=(flat e xs++flat e ys).length:=by simp only[E5,m,g,FG]
    rw[this, <-List.append_assoc,dO];exact Od rfl
 ·have L:w.drew.heap.size=w.heap.size:=rfl;refine k _ _ ⟨by simp[h1,hx],by simp only[E5];rw[<-h1, <-hx];exact hc,.inr ⟨w.heap.size,flat e xs++flat e ys++(G1 z (c - (s.2.1+x.2.1))).toList,rfl,h0.size,?_,?_,?_⟩⟩ ((h0.trans (Ext.drew w)).trans (Ext.alloc _ _)) (λb hb _=>?_) ?_ (.inr (.inl ⟨_,rfl,Dn _⟩))
  ·have I:(J5 (flat e xs)++J5 (flat e ys)++G1 z (c - (s.2.1+x.2.1)))=⟨flat e xs++flat e ys++(G1 z (c - (s.2.1+x.2.1))).toList⟩:=by
    apply J7;simp
   rw[I];exact bO.new w.drew _ _
  ·simp only[E5,m,g,G1,Array.length_toList,Array.size_map,Array.size_range,A];rw[<-FG, <-h1, <-hx, <-FG];congr 1;omega
  ·have:(xs++ys).length*aD e=(flat e xs++flat e ys).length:=by simp only[E5,m,g,FG]
   rw[this,dO];exact Od rfl
  ·have:w.drew.heap=w.heap:=rfl;rw[Ext.block (Ext.alloc w.drew _) (by rw[this];exact hb),this]
  ·rw[lP];exact Nat.le_succ _
theorem Qe {w0 w c w1:A0} {e:El} {s:Option AF×Nat×Nat} {xs:List e.T} {x:e.T} {t:AJ} {bytes:Nat} {z:Array A2} {R:Option AF×Nat×Nat->A0->Prop}
 (h:lW w0 w e s xs) (h0:Ext w0 w) (g:im e=true) (i:Ext w c) (d:Ext (c.alloc (.cells ⟨cellsOf e x⟩ t)) w1) (j:z.size=aD e) (hb:(xs.length+1)*bytes<=140737488355328)
 (k: ∀s' w',lW w0 w' e s' (xs++[x])->Ext w0 w'->(∀b,b<w.heap.size->(∀a,s.1=some a->b≠a.block)->w'.heap[b]? =w.heap[b]?)->w.heap.size<=w'.heap.size->R s' w'):
 mJ w1 t (aD e) bytes z s (some ⟨c.heap.size,0,none⟩,1,1) R:=by
 have kk:=(i.trans (Ext.alloc c _)).trans d;have l:=(bO.new c _ _).ext d;refine lQ (ys:=[x]) (h.ext kk) (h0.trans kk) g rfl ?_ j hb λs' w' m n o p _=>k s' w' m n (λb f q=>?_) (Nat.le_trans kk.size p)
 ·refine l.oP (aF e _) λhi=>?_;simp[flat]
 ·rw[o b (Ox f kk.size) q,kk.block f]
def U (b:BitVec 64):Int:=(b.toNat:Int)
def B (x:Int):BitVec 64:=Ci 64 x
theorem Fj (b:BitVec 64):B (U b)=b:=by simp[B,U]
theorem abh {a b:BitVec 64}:U a=U b<->a=b:=by grind[Fj]
theorem wrap_u64 (x:Int):PP.wrap x=x % 18446744073709551616:=rfl
theorem U_B (x:Int):U (B x)=x % 18446744073709551616:=by
 unfold U B;simp
 grind
theorem Ca {x:Int} (h:0<=x) (h':x<18446744073709551616):U (B x)=x:=by
 rw[U_B,Int.emod_eq_of_lt h h']
theorem Zy (x:Int):PP.wrap x=U (B x):=by rw[wrap_u64,U_B]
theorem Pf (a b:BitVec 64):mw .u64 (U a) (U b)=U (a &&& b):=by
 show U (B (U (B _ &&& B _)))= _;rw[Fj,Fj,Fj]
theorem abi (a b:BitVec 64):orI .u64 (U a) (U b)=U (a ||| b):=by
 show U (B (U (B _ ||| B _)))= _;rw[Fj,Fj,Fj]
theorem KF (a b:BitVec 64):gS .u64 (U a) (U b)=U (a &&& ~~~ b):=by
 show U (B (U (B _ &&& ~~~ B _)))= _;rw[Fj,Fj,Fj]
theorem Ph (a:BitVec 64) (n:Int):Du .u64 (U a) n=U (a <<< n.toNat):=by
 unfold Du;rw[wrap_u64];unfold U;rw[BitVec.toNat_shiftLeft,Nat.shiftLeft_eq];show(a.toNat:Int)*2 ^ min _ 64 % _= _;by_cases n.toNat<=64
 grind
 ·have h1:a.toNat*2 ^ n.toNat % 2 ^ 64=0:=by
   apply Nat.mod_eq_zero_of_dvd;exact Nat.dvd_trans (Nat.pow_dvd_pow 2 (by omega)) (Nat.dvd_mul_left ..)
  grind
theorem Pj (a:BitVec 64) (n:Int):Kj .u64 (U a) n=U (a >>> n.toNat):=by
 unfold U;rw[BitVec.toNat_ushiftRight,Nat.shiftRight_eq_div_pow];have e: ∀k,(a.toNat:Int).fdiv (2 ^ k)=(a.toNat / 2 ^ k: ):=λk=>by
  grind
 show(a.toNat:Int).fdiv (2 ^ min _ 64)= _;rw[e];by_cases n.toNat<=64
 grind
 ·rw[Nat.min_eq_right (by omega)];have h0:=a.isLt;rw[Oz h0,Oz (Ox h0 (Nat.pow_le_pow_right (by simp) (by omega)))]
theorem KG {x:Int} (h:(Lit.int .u64 x).wf=true): ∃b,x=U b:=by
 refine⟨B x,?_⟩;simp[Lit.wf,IntKind.min,IntKind.max,PS,Pc] at h
 grind[Ca]
theorem gJ {x:Int} (h: -9223372036854775808<=x) (h':x<9223372036854775808):Dx.wrap x=x:=by
 simp only[IntKind.wrap,PS,Pc]
 grind
theorem ay {x y:Int} (h: -9223372036854775808<=x+y) (h':x+y<9223372036854775808):aH .i64 x y=x+y:=gJ h h'
theorem bF {x y:Int} (h: -9223372036854775808<=x - y) (h':x - y<9223372036854775808):a6 .i64 x y=x - y:=gJ h h'
theorem eJ {x y:Int} (h: -9223372036854775808<=x*y) (h':x*y<9223372036854775808):fX .i64 x y=x*y:=gJ h h'
theorem bY {P:AM} {f:B2} {sh:Sh} {args:List A2} {w:A0} {x:sh.T} (h:aE P f sh args w (λy w'=>y=x/\Ext w w')):
 Calls P f ⟨args⟩ w (λe w'=>e= .returned (sh.iu x)/\Ext w w'):=
 FH h (by grind)
abbrev ae (b:Nat):Option AF:=some ⟨b,0,none⟩
abbrev lZ:El:= .one .ptr
abbrev aX:El:= .one (.int .i64)
abbrev rN:El:= .one (.int .u64)
abbrev fi:El:= .one .slice
abbrev rO:El:= .one .bool
abbrev On:El:= .one .map
abbrev gg (w:A0) (a:Option AF) (K:Option AF->Prop):Prop:=aj w none a (.one .ptr) K
abbrev bH (p:Option AF) (n:Nat) (w:A0) (K:Option AF->Prop):Prop:=p.isSome=true/\p.isSome=true/\aj w none (ad p n) (.one .ptr) K
abbrev aV (w:A0) (a:Option AF) (K:Int->Prop):Prop:=aj w none a (.one (.int .i64)) K
abbrev cM (p:Option AF) (n:Nat) (w:A0) (K:Int->Prop):Prop:=p.isSome=true/\p.isSome=true/\aj w none (ad p n) (.one (.int .i64)) K
abbrev cJ (w:A0) (a:Option AF) (K:Int->Prop):Prop:=aj w none a (.one (.int .u64)) K
abbrev ac0 (p:Option AF) (n:Nat) (w:A0) (K:Int->Prop):Prop:=p.isSome=true/\p.isSome=true/\aj w none (ad p n) (.one (.int .u64)) K
abbrev s9 (w:A0) (a:Option AF) (K:Option AF×Nat×Nat->Prop):Prop:=aj w none a (.one .slice) K
abbrev ff (p:Option AF) (n:Nat) (w:A0) (K:Option AF×Nat×Nat->Prop):Prop:=p.isSome=true/\p.isSome=true/\aj w none (ad p n) (.one .slice) K
abbrev s_ (w:A0) (a:Option AF) (K:Bool->Prop):Prop:=aj w none a (.one .bool) K
abbrev acg (p:Option AF) (n:Nat) (w:A0) (K:Bool->Prop):Prop:=p.isSome=true/\p.isSome=true/\aj w none (ad p n) (.one .bool) K
abbrev ac1 (w:A0) (a:Option AF) (K:Option Nat->Prop):Prop:=aj w none a (.one .map) K
abbrev tc (p:Option AF) (n:Nat) (w:A0) (K:Option Nat->Prop):Prop:=p.isSome=true/\p.isSome=true/\aj w none (ad p n) (.one .map) K
abbrev cA:El:= .agg [.int .u64,.int .i64]
abbrev dQ:El:= .agg [.int .i64,.int .i64,.int .i64,.int .i64]
abbrev uW:El:= .agg [.int .i64,.int .u64,.int .u64,.int .u64]
abbrev wX:El:= .agg [.int .i64,.int .i64,.int .i64]
abbrev YY:El:= .agg [.int .i64,.int .i64,.int .i64,.int .i64,.int .u64,.int .u64,.int .u64,.int .u64,.int .i64]
abbrev kj:El:= .agg [.bool,.int .i64,.bool,.int .i64]
theorem ao {c:Prop} {h:Decidable c} (a: ¬c) {α:Sort _} {t e:α}:ite c t e=e:=if_neg a
theorem av {c:Prop} {h:Decidable c} (hc:c) {α:Sort _} {t e:α}:ite c t e=t:=if_pos hc
abbrev aa (x:Int):A2:= .int .i64 x
abbrev ax (x:Int):A2:= .int .u64 x
abbrev ah (x:Option AF):A2:= .pointer x
end Go.RX
