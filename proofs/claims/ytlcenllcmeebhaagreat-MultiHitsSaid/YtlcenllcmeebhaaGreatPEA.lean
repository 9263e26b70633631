import Derived.CallsIn
import Derived.OrdersIn
import Derived.Below
import Derived.Laws.Sem
import Derived.KernelRfl
import Derived.Laws.StructEq
import Derived.Laws.Small
import Derived.WalkSpells
import Derived.ChangeKeysEq
import Derived.RangeFuncLeaves
import Derived.Laws.World
import Derived.Laws.NewFold
import Derived.OwnWalkIn
import Derived.ChangeMaps4
import Derived.Maps.RangeRun
import Derived.RangeFuncRecord
import Derived.LaidEqlPtr
import Derived.Conc.LoneSelect
import Derived.Laws.Append
import Derived.Test.YtlcenllcmeebhaaGreatProg
import Derived.Deep.Slices
import Derived.ProofKit
import Derived.OpenShut
/-! What the statement leans on: texts joined and shortened by a program of mine. -/
set_option linter.unusedVariables false
set_option linter.unusedSimpArgs false
open Go renaming World->A2,Value->AA,Addr->AN,TypeId->Ak,Program->Al,IntKind->B2,FuncId->B3,MapEntry->CX
open False renaming elim->AC
open Go.Sem renaming run_bind->Av,run_pure->B1
open Go.Result renaming andThen_ok->Ay,andThen->DA
open Go.Region renaming ready->B4,wanted->B9,binds->DE,schedule->GH,linearise->N9
open List renaming range->B5,mem_filter->BQ,mem_cons->C7,all_eq_true->Dl,mem_range->Dn,mem_append->Dz,length_append->E4,mem_map->GI,getElem?_cons_zero->GJ,map_toArray->GS,map_cons->Ga,map_nil->Gd,range'->Gi,countP_singleton->Gj,all_cons->Ia,getElem?_eq_getElem->If,mem_cons_self->Ij,getElem?_toArray->Ik,getElem?_cons_succ->In,range'_succ->J3,countP_append->J7,length_cons->ND,take_add_one->NE,take_set_of_le->NG,drop_set_of_lt->NU,mem_cons_of_mem->NV,find?_some->NZ,filter_cons->No,range_eq_range'->Nt,countP_eq_zero->Nw,range_succ->Ny,flatMap_cons->Nz,take_left'->O2
open Go.Op renaming equalIn->B6
open Bool renaming and_eq_true->B8,false_eq_true->E5,or_eq_true->Fp,not_eq_true'->H4,or_false->JM,not_false->OL
open Array renaming getElem?_eq_some_iff->BI,getElem?_setIfInBounds_ne->DB,replicate->F1,getD_eq_getD_getElem?->Fu,all_eq_true_iff_forall_mem->H5,mk->JN,ext'->JP,mapM_eq_mapM_toList->JR,getD->JS,getElem?_eq_getElem->JW,mem_of_getElem?->JX,getElem?_modify->Oh
open BitVec renaming ofInt->Bs
open Go.Act renaming put->Bx,put_comm->Do,eval->Fv
open Option.some renaming injEq->C8
open Go.MapKept renaming run_getObj_map->C9,run_checkKey->DK,run_findKey->Dd,IsKey->H6,run_setObj_map->H7
open Nat renaming le_refl->Df,blt->FB,add_mul->FM,testBit_or->G1,zero_add->JY,strongRecOn->JZ,mul_le_mul_right->PP,lt_of_lt_of_le->PS,div_eq_of_lt->Pp
open Go.Fence renaming wide->Dk
open Go.IntKind renaming i64->Ds,u64->Rg
open Go.Calls renaming mono->FN
open Go.Instr renaming findNow->FO,lookup->FP,fill->HB,indexAt->Hb,sureAddr->Hr,index->I1,extract->I2,mapUpdate->K1,sliceBound->S0,sliceBounds->S1,sliceAt->S2,makeSlice->S7,buildSlice->T0
open Go.World renaming putObj->FS,cell?->LL,setCell->M4
open Go.Builtin renaming firstCells->FY,len_->GD,zeroCells->GF,lenOf->M5,append_->N5,delete_->N7,nextslicecap->T3,copy_->T6
open Go.Region.linearise renaming go->Fg
open Option renaming map_some->GG,getD_some->IA,map_none->TA
open Go.Conc renaming G->IR,solo->TB,rcase->TE
namespace Go.RX
open Go.RowKit
def Ext (w w':A2):Prop:=Below w.heap.size w w'
theorem Ext.refl (w:A2):Ext w w:=Below.refl _ w
theorem Ext.trans {a b c:A2} (h:Ext a b) (k:Ext b c):Ext a c:=Below.trans h (Below.mono k h.size)
theorem Ext.drew (w:A2):Ext w {w with drawn:=w.drawn+1}:=⟨rfl,rfl,rfl,Df _,λ_ _=>rfl⟩
theorem Ext.alloc (w:A2) (o:Obj):Ext w (w.alloc o):=Below.alloc (Below.refl _ w) (Df _) o
theorem Ext.size {w w':A2} (h:Ext w w'):w.heap.size<=w'.heap.size:=Below.size h
theorem Ext.block {w w':A2} (h:Ext w w') {k:Nat} (a:k<w.heap.size):w'.heap[k]? =w.heap[k]? :=Below.block h k a
theorem Ext.obj {w w':A2} (h:Ext w w') {k:Nat} {o:Obj} (a:w.heap[k]? =some o):w'.heap[k]? =some o:=by
 rw[h.block (BI.1 a).1];exact a
theorem Gw {w:A2} {a:AN} {v:AA} (h:w.cell? a=some v):a.block<w.heap.size:=by
 unfold LL at h;cases b:w.heap[a.block]? with
 |none=>simp[b] at h
 |some o=>exact(BI.1 b).1
theorem Ext.cell {w w':A2} (h:Ext w w') {a:AN} {v:AA} (b:w.cell? a=some v):w'.cell? a=some v:=by
 rw[Below.cell h (Gw b)];exact b
inductive Sc where
 |int (k:B2)|bool|str|ptr|slice|map|chan|func|z5 (f:B3) (n:Nat)|Xb
 deriving DecidableEq
@[reducible] def Dx:Nat->Type
 |0=>Unit
 |n+1=>Option AN×Dx n
def xr:(n:Nat)->Dx n->List AA
 |0, _=>[]
 |n+1,x=> .pointer x.1::xr n x.2
def mT:(n:Nat)->List AA->Option (Dx n)
 |0,[]=>some ()
 |n+1,.pointer a::r=>match mT n r with
  |some y=>some (a,y)
  |none=>none
 | _, _=>none
theorem tP: ∀{n:Nat} {l:List AA} {x:Dx n},mT n l=some x->xr n x=l
 |0,[], _, _=>rfl
 |0, _:: _, _,h=>by simp[mT] at h
 |n+1,[], _,h=>by simp[mT] at h
 |n+1,v::r,x,h=>by
  cases v<;>simp only[mT] at h<;>(try (cases h;done));split at h
  ·rename_i y a;cases h;simp only[xr,tP a]
  ·cases h
@[reducible] def Sc.T:Sc->Type
 | .int _=>Int
 | .bool=>Bool
 | .str=>ByteArray
 | .ptr=>Option AN
 | .slice=>Option AN×Nat×Nat
 | .map=>Option Nat
 | .chan=>Option Nat
 | .func=>AA
 | .z5 _ n=>Dx n
 | .Xb=>Nat
def Sc.gZ:(s:Sc)->s.T->AA
 | .int k,n=> .int k n
 | .bool,b=> .bool b
 | .str,s=> .string s
 | .ptr,a=> .pointer a
 | .slice,x=> .slice x.1 x.2.1 x.2.2
 | .map,r=> .map r
 | .chan,r=> .chan r
 | .func,v=>v
 | .z5 f n,x=> .func (.func f) #[] ⟨xr n x⟩
 | .Xb,y=> .func (.yield y) #[] #[]
def Sc.proj:(s:Sc)->AA->Option s.T
 | .int k,.int d n=>if k=d then some n else none
 | .bool,.bool b=>some b
 | .str,.string s=>some s
 | .ptr,.pointer a=>some a
 | .slice,.slice a n c=>some (a,n,c)
 | .map,.map r=>some r
 | .chan,.chan r=>some r
 | .func,v=>some v
 | .z5 f n,.func (.func f') ⟨[]⟩ ⟨l⟩=>if f=f' then mT n l else none
 | .Xb,.func (.yield y) ⟨[]⟩ ⟨[]⟩=>some y
 | _, _=>none
theorem Sc.im {s:Sc} {v:AA} {x:s.T} (h:s.proj v=some x):s.gZ x=v:=by
 cases s with
 |z5 f n=>
  cases v with
  |func fn first a=>
   obtain⟨b⟩:=first
   obtain⟨c⟩:=a;cases fn<;>cases b<;>simp only[Sc.proj] at h<;>(try (cases h;done));split at h
   ·subst_vars
    simp only[Sc.gZ,tP h]
   ·cases h
  | _=>simp[Sc.proj] at h
 |Xb=>
  cases v with
  |func fn first a=>
   obtain⟨b⟩:=first
   obtain⟨c⟩:=a;cases fn<;>cases b<;>cases c<;>simp only[Sc.proj] at h<;>first|(cases h;done)|(cases h;rfl)
  | _=>simp[Sc.proj] at h
 | _=>
   cases v<;>simp only[Sc.proj] at h<;>
    first
     |(cases h;rfl)
     |(split at h<;>cases h;subst_vars;rfl)
     |(cases h)
@[reducible] def wS:List Sc->Type
 |[]=>Unit
 |s::r=>s.T×wS r
def b_:(l:List Sc)->wS l->List AA
 |[], _=>[]
 |s::r,x=>s.gZ x.1::b_ r x.2
def l_:(l:List Sc)->List AA->Option (wS l)
 |[],[]=>some ()
 |s::r,v::vs=>match s.proj v,l_ r vs with
  |some x,some y=>some (x,y)
  | _, _=>none
 | _, _=>none
theorem pC: ∀{l:List Sc} {vs:List AA} {x:wS l},l_ l vs=some x->b_ l x=vs
 |[],[], _, _=>rfl
 |[], _:: _, _,h=>by simp[l_] at h
 | _:: _,[], _,h=>by simp[l_] at h
 |s::r,v::vs,x,h=>by
  simp only[l_] at h;cases h1:s.proj v with
  |none=>simp[h1] at h
  |some a=>
   cases c:l_ r vs with
   |none=>simp[h1,c] at h
   |some b=>
    simp only[h1,c] at h;cases h;simp only[b_,Sc.im h1,pC c]
inductive El where
 |one (s:Sc)|agg (l:List Sc)
@[reducible] def El.T:El->Type
 | .one s=>s.T
 | .agg l=>wS l
def El.gZ:(e:El)->e.T->AA
 | .one s,x=>s.gZ x
 | .agg l,x=> .agg ⟨b_ l x⟩
def El.proj:(e:El)->AA->Option e.T
 | .one s,v=>s.proj v
 | .agg l,.agg ⟨vs⟩=>l_ l vs
 | .agg _, _=>none
theorem El.im {e:El} {v:AA} {x:e.T} (h:e.proj v=some x):e.gZ x=v:=by
 cases e with
 |one s=>exact Sc.im h
 |agg l=>
  cases v with
  |agg cs=>obtain⟨vs⟩:=cs;exact congrArg (λl=>Value.agg ⟨l⟩) (pC h)
  | _=>simp[El.proj] at h
@[reducible] def ox:List El->Type
 |[]=>Unit
 |e::r=>e.T×ox r
def uV:(l:List El)->ox l->List AA
 |[], _=>[]
 |e::r,x=>e.gZ x.1::uV r x.2
def nF:(l:List El)->List AA->Option (ox l)
 |[],[]=>some ()
 |s::r,v::vs=>match s.proj v,nF r vs with
  |some x,some y=>some (x,y)
  | _, _=>none
 | _, _=>none
theorem vM: ∀{l:List El} {vs:List AA} {x:ox l},nF l vs=some x->uV l x=vs
 |[],[], _, _=>rfl
 |[], _:: _, _,h=>by simp[nF] at h
 | _:: _,[], _,h=>by simp[nF] at h
 |s::r,v::vs,x,h=>by
  simp only[nF] at h;cases h1:s.proj v with
  |none=>simp[h1] at h
  |some a=>
   cases c:nF r vs with
   |none=>simp[h1,c] at h
   |some b=>
    simp only[h1,c] at h;cases h;simp only[uV,El.im h1,vM c]
inductive Sh where
 |el (e:El)|bA (l:List El)
@[reducible] def Sh.T:Sh->Type
 | .el e=>e.T
 | .bA l=>ox l
def Sh.gZ:(s:Sh)->s.T->AA
 | .el e,x=>e.gZ x
 | .bA l,x=> .tuple ⟨uV l x⟩
def Sh.proj:(s:Sh)->AA->Option s.T
 | .el e,v=>e.proj v
 | .bA l,.tuple ⟨vs⟩=>nF l vs
 | .bA _, _=>none
theorem Sh.im {e:Sh} {v:AA} {x:e.T} (h:e.proj v=some x):e.gZ x=v:=by
 cases e with
 |el s=>exact El.im h
 |bA l=>
  cases v with
  |tuple cs=>obtain⟨vs⟩:=cs;exact congrArg (λl=>Value.tuple ⟨l⟩) (vM h)
  | _=>simp[Sh.proj] at h
def AB (P:Al):Nat->Ak->Option (List Sc)
 |0, _=>none
 |d+1,t=>match P.underlying t with
  |some (.int k)=>some [.int k]
  |some .bool=>some [.bool]
  |some .string=>some [.str]
  |some (.pointer _)=>some [.ptr]
  |some (.slice _)=>some [.slice]
  |some (.map _ _)=>some [.map]
  |some (.chan _ _)=>some [.chan]
  |some (.func _ _ _)=>some [.func]
  |some (.struct fs)=>fs.toList.foldr (λf c=>match AB P d f.type,c with|some a,some b=>some (a++b)| _, _=>none) (some [])
  |some (.array n e)=>match AB P d e with
   |some a=>if n<=64 then some (List.replicate n a).flatten else none
   |none=>none
  | _=>none
def uN (P:Al) (t:Ak):Option El:=
 match P.underlying t with
 |some (.struct _)|some (.array _ _)=>(AB P 20 t).map .agg
 | _=>match AB P 20 t with
   |some [s]=>some (.one s)
   | _=>none
def Wy (P:Al):List Ak->Option (List El)
 |[]=>some []
 |t::r=>match uN P t,Wy P r with
  |some e,some l=>some (e::l)
  | _, _=>none
def aaL (P:Al) (f:B3):Sh:=
 match P.funcs[f]? with
 |some fn=>match fn.resultTypes.toList with
  |[t]=>match uN P t with
   |some e=> .el e
   |none=> .bA []
  |ts=>match Wy P ts with
   |some l=> .bA l
   |none=> .bA []
 |none=> .bA []
def aL (k:B2) (x y:Int):Int:=k.wrap (x+y)
def aZ (k:B2) (x y:Int):Int:=k.wrap (x - y)
def fy (k:B2) (x y:Int):Int:=k.wrap (x*y)
def wT (k:B2) (x y:Int):Int:=k.wrap (x.tdiv y)
def f_ (x y:Int):Int:=x.tmod y
def wU (k:B2) (x y:Int):Int:=k.wrap (Bs k.bits x &&& Bs k.bits y).toNat
def ZQ (k:B2) (x y:Int):Int:=k.wrap (Bs k.bits x ||| Bs k.bits y).toNat
def aaa (k:B2) (x y:Int):Int:=k.wrap (Bs k.bits x ^^^ Bs k.bits y).toNat
def fR (k:B2) (x y:Int):Int:=k.wrap (Bs k.bits x &&& ~~~ (Bs k.bits y)).toNat
def Di (k:B2) (x y:Int):Int:=k.wrap (x*2 ^ (min y.toNat k.bits))
def J1 (k:B2) (x y:Int):Int:=x.fdiv (2 ^ (min y.toNat k.bits))
def aG (k:B2) (x:Int):Int:=k.wrap x
def aab (k:B2) (x:Int):Int:=k.wrap (Bs k.bits (if k.signed then -1 else k.max) ^^^ Bs k.bits x).toNat
def kM (x y:Int):Int:=if y<x then y else x
def Dj (x y:Int):Int:=if y>x then y else x
structure PR where
 ob:Option Prop
 v:AA
def pf:Operand->Bool
 | .const (.int _ n)=>decide (n≠0)
 | _=>false
def pQ:Operand->Bool
 | .const (.int _ n)=>decide (0<=n)
 | _=>false
def kN:Operand->Bool
 | .const (.pointer none)| .const (.slice none _ _)| .const (.map none)| .const .nilFunc=>true
 | _=>false
def OD (op:BinOp) (k:B2) (x y:Int) (a:Operand):Option PR:=
 match op with
 | .add=>some ⟨none,.int k (aL k x y)⟩
 | .sub=>some ⟨none,.int k (aZ k x y)⟩
 | .mul=>some ⟨none,.int k (fy k x y)⟩
 | .quo=>some ⟨if pf a then none else some (y≠0),.int k (wT k x y)⟩
 | .rem=>some ⟨if pf a then none else some (y≠0),.int k (f_ x y)⟩
 | .and=>some ⟨none,.int k (wU k x y)⟩
 | .or=>some ⟨none,.int k (ZQ k x y)⟩
 | .xor=>some ⟨none,.int k (aaa k x y)⟩
 | .andNot=>some ⟨none,.int k (fR k x y)⟩
 | .eql=>some ⟨none,.bool (x==y)⟩
 | .neq=>some ⟨none,.bool (x != y)⟩
 | .lss=>some ⟨none,.bool (decide (x<y))⟩
 | .leq=>some ⟨none,.bool (decide (x<=y))⟩
 | .gtr=>some ⟨none,.bool (decide (x>y))⟩
 | .geq=>some ⟨none,.bool (decide (x>=y))⟩
 | _=>none
def km (P:Al) (t:Ak):Option Bool:=
 match P.underlying t with
 |some (.struct _)|some (.array _ _)=>some true
 |some _=>some false
 |none=>none
def qI (P:Al) (t:Ak) (cs:List AA) (off:Nat):Option AA:=
 match km P t,P.info? t with
 |some true,some i=>some (.agg ⟨(cs.drop off).take i.size⟩)
 |some false, _=>cs[off]?
 | _, _=>none
def NQ (P:Al) (g:Ak->AA->AA->Option Bool) (xs ys:List AA):List Field->Option Bool
 |[]=>some true
 |f::fs=>if f.name≠ "_" then
   match qI P f.type xs f.offset,qI P f.type ys f.offset with
   |some a,some b=>match g f.type a b,NQ P g xs ys fs with
    |some r,some s=>some (r&&s)
    | _, _=>none
   | _, _=>none
  else NQ P g xs ys fs
def eqV (P:Al):Nat->Ak->AA->AA->Option Bool
 |0, _, _, _=>none
 |d+1,t,x,y=>
  match P.underlying t with
  |some .bool=>match x,y with
   | .bool a,.bool b=>some (a==b)
   | _, _=>none
  |some (.int _)=>match x,y with
   | .int k a,.int c b=>if k=c then some (a==b) else none
   | _, _=>none
  |some .string=>match x,y with
   | .string a,.string b=>some (a==b)
   | _, _=>none
  |some (.struct fs)=>match x,y with
   | .agg ⟨xs⟩,.agg ⟨ys⟩=>if P.stoodInHeld t then none else NQ P (eqV P d) xs ys fs.toList
   | _, _=>none
  | _=>none
def XZ (P:Al) (op:BinOp) (t:Ak) (d c:Operand) (x y:AA):Option PR:=
 match x,y with
 | .int k a,.int e b=>
   match op with
   | .shl=>some ⟨if pQ c then none else some (0<=b),.int k (Di k a b)⟩
   | .shr=>some ⟨if pQ c then none else some (0<=b),.int k (J1 k a b)⟩
   |op=>if k=e then OD op k a b c else none
 | .bool a,.bool b=>
   match op,P.underlying t with
   | .eql,some .bool=>some ⟨none,.bool (a==b)⟩
   | .neq,some .bool=>some ⟨none,.bool (!(a==b))⟩
   | _, _=>none
 | .pointer p,.pointer q=>
   match op,P.underlying t with
   | .eql,some (.pointer _)=>if kN c then some ⟨none,.bool p.isNone⟩ else if kN d then some ⟨none,.bool q.isNone⟩ else none
   | .neq,some (.pointer _)=>if kN c then some ⟨none,.bool (!p.isNone)⟩ else if kN d then some ⟨none,.bool (!q.isNone)⟩ else none
   | _, _=>none
 | .slice p _ _,.slice q _ _=>
   match op,P.underlying t with
   | .eql,some (.slice _)=>if kN c then some ⟨none,.bool p.isNone⟩ else if kN d then some ⟨none,.bool q.isNone⟩ else none
   | .neq,some (.slice _)=>if kN c then some ⟨none,.bool (!p.isNone)⟩ else if kN d then some ⟨none,.bool (!q.isNone)⟩ else none
   | _, _=>none
 | .map p,.map q=>
   match op,P.underlying t with
   | .eql,some (.map _ _)=>if kN c then some ⟨none,.bool p.isNone⟩ else if kN d then some ⟨none,.bool q.isNone⟩ else none
   | .neq,some (.map _ _)=>if kN c then some ⟨none,.bool (!p.isNone)⟩ else if kN d then some ⟨none,.bool (!q.isNone)⟩ else none
   | _, _=>none
 | .string a,.string b=>
   match op with
   | .eql=>some ⟨none,.bool (a==b)⟩
   | .neq=>some ⟨none,.bool (!(a==b))⟩
   | _=>none
 | .agg xs,.agg ys=>
   if P.eqGuardType P.depth t then none else
   match op,eqV P Op.maxDepth t (.agg xs) (.agg ys) with
   | .eql,some r=>some ⟨none,.bool r⟩
   | .neq,some r=>some ⟨none,.bool (!r)⟩
   | _, _=>none
 | _, _=>none
def unV (op:UnOp) (x:AA):Option PR:=
 match op,x with
 | .not,.bool b=>some ⟨none,.bool (!b)⟩
 | .neg,.int k n=>some ⟨none,.int k (aZ k 0 n)⟩
 | .xor,.int k n=>some ⟨none,.int k (aab k n)⟩
 | _, _=>none
def Wz (P:Al) (src dst:Ak) (x:AA):Option PR:=
 match P.underlying src,P.underlying dst,x with
 |some _,some (.int k),.int _ n=>some ⟨none,.int k (aG k n)⟩
 |some .string,some .string,.string s=>some ⟨none,.string s⟩
 | _, _, _=>none
def xv (P:Al) (t:Ak) (i:Nat):Option Field:=
 match P.underlying t with
 |some (.struct fs)=>fs[i]?
 | _=>none
def maps (ρ:Operand->Option AA):List Operand->Option (List AA)
 |[]=>some []
 |x::r=>match ρ x,maps ρ r with
  |some v,some l=>some (v::l)
  | _, _=>none
def AD (ρ:Operand->Option AA):List (Nat×Operand)->Option (List (Nat×AA))
 |[]=>some []
 |(i,x)::r=>match ρ x,AD ρ r with
  |some v,some l=>some ((i,v)::l)
  | _, _=>none
def ad (p:Option AN) (n:Nat):Option AN:=p.map (·.add n)
def Cc:List AA->B2->Option (List Int)
 |[], _=>some []
 | .int a n::r,k=>if k=a then(match Cc r k with|some l=>some (n::l)|none=>none) else none
 | _, _=>none
def J4 (l:List Int) (i:Int):Int:=l.getD i.toNat 0
def X2 (l:List AA) (i:Int):AA:=l.getD i.toNat undef
def eZ (a:Nat->Option (Nat×Nat)) (cells:List AA):List (Nat×AA)->Option (List AA)
 |[]=>some cells
 |(i,v)::rest=>match a i with
  |none=>none
  |some (off,size)=>
   if(Nat.beq v.cells.toList.length size&&Nat.ble (off+size) cells.length)=true then eZ a (cells.take off++(v.cells.toList++cells.drop (off+size))) rest else none
def AE (a:Nat->Option (Nat×Nat)) (cells:Array AA) (ps:List (Nat×AA)):Option (Array AA):=
 match eZ a cells.toList ps with
 |some l=>some ⟨l⟩
 |none=>none
theorem DN: ∀(vs:List AA) (k off:Nat) (cs:List AA),off+k+vs.length<=cs.length->
 (vs.zipIdx k).foldl (λ(cs:Array AA) (x:AA×Nat)=>cs.setIfInBounds (off+x.2) x.1) ⟨cs⟩=⟨cs.take (off+k)++(vs++cs.drop (off+k+vs.length))⟩
 |[],k,off,cs,h=>by simp
 |v::vs,k,off,cs,h=>by
  simp only[ND] at h;simp;rw[DN vs (k+1) off (cs.set (off+k) v) (by simp;omega)];congr 1
  grind[NE,NG,NU]
theorem DO (a:Nat->Option (Nat×Nat)): ∀(ps:List (Nat×AA)) (cells r:List AA),eZ a cells ps=some r->HB a ⟨cells⟩ ps=some ⟨r⟩
 |[],cells,r,h=>by cases h;rfl
 |(i,v)::rest,cells,r,h=>by
  unfold eZ at h;unfold HB;split at h
  ·cases h
  ·rename_i off size b;split at h
   ·rename_i hc;simp only[B8,Nat.beq_eq,Nat.ble_eq] at hc;obtain⟨h1,e⟩:=hc;have c:v.cells.size=size:=by simpa using h1
    have d: ¬ ((decide (v.cells.size≠size)||decide (off+v.cells.size>(JN cells).size))=true):=by
     simp[c];omega
    simp only[b,d];have:=DN v.cells.toList 0 off cells (by simp only[h1];omega);have f:v.cells.zipIdx=⟨v.cells.toList.zipIdx 0⟩:=by
     apply JP;simp
    have g:v.cells.zipIdx.foldl (λ(cs:Array AA) (x:AA×Nat)=>cs.setIfInBounds (off+x.2) x.1) ⟨cells⟩=⟨cells.take off++(v.cells.toList++cells.drop (off+size))⟩:=by
     grind
    refine Eq.trans ?_ (DO a rest _ r h)
    grind
   ·cases h
theorem yL {a:Nat->Option (Nat×Nat)} {cells:Array AA} {ps:List (Nat×AA)} {cs:Array AA} (h:AE a cells ps=some cs):HB a cells ps=some cs:=by
 unfold AE at h;split at h
 ·rename_i l b;cases h;exact DO a ps _ l b
 grind
def F3 (P:Al) (t:Ak) (parts:List (Nat×AA)):Option (Array AA):=
 match P.info? t with
 |some i=>match i.zero with
  |some z=>match P.underlying t with
   |some (.struct fs)=>if fs.toList.all (λf=>(P.info? f.type).isSome) then AE ((fs.toList.map λf=>(f.offset,P.cellsOf f.type))[·]?) z.cells parts else none
   |some (.array _ e)=>match P.info? e with
    |some a=>AE (λi=>some (i*a.size,a.size)) z.cells parts
    |none=>none
   | _=>none
  |none=>none
 |none=>none
def WA (s:ByteArray) (i:Int):Int:=(((s.data.toList)[i.toNat]?.getD 0).toNat:Int)
def iB (ρ:Operand->Option AA) (d:Nat):Option Operand->Option (Int)
 |none=>some d
 |some x=>match ρ x with
  |some (.int _ n)=>some n
  | _=>none
def pop (P:Al) (ρ:Operand->Option AA) (o:Oper):Option PR:=
 match o.op with
 | .move x=>match ρ x with
   |some v=>some ⟨none,v⟩
   |none=>none
 | .assign x=>match ρ x with
   |some v=>some ⟨none,v⟩
   |none=>none
 | .nilCheck x=>match ρ x with
   |some (.pointer p)=>some ⟨some (p.isSome=true),.pointer p⟩
   |some (.func (.func f) fs cs)=>some ⟨none,.func (.func f) fs cs⟩
   | _=>none
 | .binOp op t x y _=>match ρ x,ρ y with
   |some a,some b=>XZ P op t x y a b
   | _, _=>none
 | .unOp op _ x=>match ρ x with
   |some a=>unV op a
   |none=>none
 | .convert s d x=>match ρ x with
   |some a=>Wz P s d a
   |none=>none
 | .fieldAddr s x f=>match ρ x,xv P s f with
   |some (.pointer p),some fd=>match P.info? fd.type with
    |some i=>if i.size=0 then none else some ⟨some (p.isSome=true),.pointer (ad p fd.offset)⟩
    |none=>none
   | _, _=>none
 | .field t x f=>match ρ x,xv P t f with
   |some (.agg ⟨cs⟩),some fd=>match qI P fd.type cs fd.offset with
    |some v=>some ⟨none,v⟩
    |none=>none
   | _, _=>none
 | .indexAddr t x ix=>match P.underlying t,ρ x,ρ ix with
   |some (.array len e),some (.pointer p),some (.int _ i)=>match P.info? e with
    |some g=>if len<=1 then none else some ⟨some (p.isSome=true/\0<=i/\i<len),.pointer (ad p (i.toNat*g.size))⟩
    |none=>none
   |some (.slice e),some (.slice p len _),some (.int _ i)=>match P.info? e with
    |some g=>some ⟨some (p.isSome=true/\0<=i/\i<len),.pointer (ad p (i.toNat*g.size))⟩
    |none=>none
   | _, _, _=>none
 | .index t x ix=>match P.underlying t,ρ x,ρ ix with
   |some (.array len e),some (.agg ⟨cs⟩),some (.int _ i)=>match P.info? e with
    |some g=>match ix with
     | .const (.int _ n)=>if 0<=n/\n<len then(match qI P e cs (n.toNat*g.size) with
      |some v=>some ⟨none,v⟩
      |none=>none) else none
     | _=>match P.underlying e with
       |some (.int k)=>match Cc cs k with
        |some j=>if cs.length=len/\g.size=1 then some ⟨some (0<=i/\i<len),.int k (J4 j i)⟩ else none
        |none=>none
       |some (.struct _)=>if cs.length=len/\g.size=1 then some ⟨some (0<=i/\i<len),.agg ⟨[X2 cs i]⟩⟩ else none
       | _=>none
    |none=>none
   |some .string,some (.string s),some (.int _ i)=>some ⟨some (0<=i/\i<s.size),.int .u8 (WA s i)⟩
   | _, _, _=>none
 | .makeFunc fn first q=>match maps ρ first.toList,maps ρ q.toList with
   |some a,some b=>some ⟨none,.func fn ⟨a⟩ ⟨b⟩⟩
   | _, _=>none
 | .extract x i=>match ρ x with
   |some (.tuple ⟨vs⟩)=>match vs[i]? with
    |some v=>some ⟨none,v⟩
    |none=>none
   | _=>none
 | .build t parts=>match AD ρ parts.toList with
   |some ps=>match F3 P t ps with
    |some cs=>some ⟨none,.agg cs⟩
    |none=>none
   |none=>none
 | .slice t x lo hi mx=>match P.underlying t,ρ x with
   |some (.slice e),some (.slice p len cap)=>match P.info? e,iB ρ 0 lo,iB ρ len hi,iB ρ cap mx with
    |some g,some l,some h,some m=>if hi.isNone&&mx.isSome then none else
     some ⟨some (0<=l/\l<=h/\h<=m/\m<=cap),.slice (if m.toNat=l.toNat then p else ad p (l.toNat*g.size)) (h.toNat - l.toNat) (m.toNat - l.toNat)⟩
    | _, _, _, _=>none
   |some .string,some (.string s)=>match iB ρ 0 lo,iB ρ s.size hi with
    |some l,some h=>if mx.isSome then none else some ⟨some (0<=l/\l<=h/\h<=s.size),.string (s.extract l.toNat h.toNat)⟩
    | _, _=>none
   | _, _=>none
 | .call c=>match c.callee with
   | .builtin .len=>match c.args.toList,c.argTypes.toList with
     |[x],[t]=>match ρ x,P.underlying t with
      |some (.slice _ n _),some (.slice _)=>some ⟨none,.int .i64 n⟩
      |some (.string s),some .string=>some ⟨none,.int .i64 s.size⟩
      |some (.agg _),some (.array n _)=>some ⟨none,.int .i64 n⟩
      | _, _=>none
     | _, _=>none
   | .builtin .min=>match c.args.toList with
     |[x,y]=>match ρ x,ρ y with
      |some (.int k a),some (.int _ b)=>some ⟨none,.int k (kM a b)⟩
      | _, _=>none
     | _=>none
   | .builtin .max=>match c.args.toList with
     |[x,y]=>match ρ x,ρ y with
      |some (.int k a),some (.int _ b)=>some ⟨none,.int k (Dj a b)⟩
      | _, _=>none
     | _=>none
   | _=>none
 | _=>none
section
variable {P:Al}
theorem bC {t:Ak} {d:TypeDesc} (h:P.underlying t=some d) (w:A2):(underlying t).run P w= .ok d w:=run_underlying h w
theorem fB {t:Ak} {i:TypeInfo} (h:P.info? t=some i) (w:A2):(typeInfo t).run P w= .ok i w:=by
 unfold typeInfo;simp[h]
theorem dq {t:Ak} {i:TypeInfo} (h:P.info? t=some i) (w:A2):(sizeOf t).run P w= .ok i.size w:=by
 unfold sizeOf;simp[fB h]
theorem u7 {t:Ak} {b:Bool} (h:km P t=some b) (w:A2):(isAgg t).run P w= .ok b w:=by
 unfold km at h;unfold isAgg;cases a:P.underlying t with
 |none=>grind
 |some d=>cases d<;>simp_all [bC]
theorem kT {t:Ak} {cs:List AA} {off:Nat} {v:AA} (h:qI P t cs off=some v) (w:A2):(part t ⟨cs⟩ off).run P w= .ok v w:=by
 unfold qI at h;unfold part;cases hb:km P t with
 |none=>grind
 |some b=>
  simp[u7 hb];cases b with
  |true=>
   cases hi:P.info? t with
   |none
   |some i=>
    simp_all[dq]
  |false=>
   simp_all
theorem ID: ∀(d:Nat) (t:Ak) (x y:AA) (r:Bool),eqV P d t x y=some r-> ∀w,(B6 d t x y).run P w= .ok r w:=by
 intro d
 induction d with
 |zero=>intro t x y r h;simp[eqV] at h
 |succ d j=>
  intro t x y r h w;unfold eqV at h;split at h
  ·rename_i c;split at h
   ·cases h;simp[B6,bC c]
   ·cases h
  ·rename_i k0 c;split at h
   ·split at h
    ·cases h;subst_vars;simp[B6,bC c]
    ·cases h
   ·cases h
  ·rename_i c;split at h
   ·cases h;simp[B6,bC c]
   ·cases h
  ·rename_i fs c;split at h
   ·rename_i xs ys;split at h
    ·cases h
    ·rename_i k;have e:P.fieldsOf t=fs:=by simp[Program.fieldsOf,c]
     rw[run_equalIn_struct w d t ⟨xs⟩ ⟨ys⟩ (by rw[e];exact c) (by simpa using k),e];clear c e;generalize fs.toList=l at h
     induction l generalizing r with
     |nil=>simp only[NQ,C8] at h;subst h;simp[Op.eqFields]
     |cons f l i=>
      simp only[NQ] at h;unfold Op.eqFields;split
      ·rename_i g;rw[if_pos g] at h;split at h
       ·rename_i a b m hb;split at h
        ·rename_i n p h1 o;cases h;simp only[Av,kT m,kT hb,Ay,j _ _ _ _ h1];cases n
         ·simp
         ·simp[i _ o]
        ·cases h
       ·cases h
      ·rename_i g;rw[if_neg g] at h;exact i _ h
   ·cases h
  ·cases h
end
section
variable {P:Al} {ρ:Operand->Option AA} {ev:Operand->AA}
theorem ma (a: ∀x v,ρ x=some v->ev x=v): ∀{l:List Operand} {vs:List AA},maps ρ l=some vs->l.map ev=vs
 |[],vs,h=>by grind[maps]
 |x::r,vs,h=>by
  simp[maps] at h;split at h
  ·rename_i h1 b;cases h;simp[a _ _ h1,ma a b]
  grind
theorem yM (a: ∀x v,ρ x=some v->ev x=v): ∀{l:List (Nat×Operand)} {vs:List (Nat×AA)},AD ρ l=some vs->(l.map λ(i,x)=>(i,ev x))=vs
 |[],vs,h=>by grind[AD]
 |i::r,vs,h=>by
  simp[AD] at h;split at h
  ·rename_i b;have:=yM a b
   grind
  grind
theorem xj (op:BinOp) (t:Ak) (x y:Operand) (k c:B2) (a b:Int) (w:A2):(eqGuard op t x y (.int k a) (.int c b)).run P w= .ok () w:=by
 unfold eqGuard;simp
theorem AQ {t:Ak} (c:P.underlying t=some .bool) (d:Nat) (a b:Bool) (w:A2):(B6 (d+1) t (.bool a) (.bool b)).run P w= .ok (a==b) w:=by
 simp[B6,bC c]
theorem rT {t e:Ak} (a:P.underlying t=some (.pointer e)) (d:Nat) (p:Option AN) (w:A2):(B6 (d+1) t (.pointer p) (.pointer none)).run P w= .ok p.isNone w:=by
 cases p<;>simp[B6,bC a]
theorem nR {t e:Ak} (a:P.underlying t=some (.pointer e)) (d:Nat) (p:Option AN) (w:A2):(B6 (d+1) t (.pointer none) (.pointer p)).run P w= .ok p.isNone w:=by
 cases p<;>simp[B6,bC a]
theorem tQ {t e:Ak} (a:P.underlying t=some (.slice e)) (d:Nat) (p:Option AN) (n c b f:Nat) (w:A2):(B6 (d+1) t (.slice p n c) (.slice none b f)).run P w= .ok p.isNone w:=by
 cases p<;>simp[B6,bC a]
theorem tR {t e:Ak} (a:P.underlying t=some (.slice e)) (d:Nat) (p:Option AN) (n c b f:Nat) (w:A2):(B6 (d+1) t (.slice none b f) (.slice p n c)).run P w= .ok p.isNone w:=by
 cases p<;>simp[B6,bC a]
theorem zk {t k e:Ak} (a:P.underlying t=some (.map k e)) (d:Nat) (p:Option Nat) (w:A2):(B6 (d+1) t (.map p) (.map none)).run P w= .ok p.isNone w:=by
 cases p<;>simp[B6,bC a]
theorem zl {t k e:Ak} (a:P.underlying t=some (.map k e)) (d:Nat) (p:Option Nat) (w:A2):(B6 (d+1) t (.map none) (.map p)).run P w= .ok p.isNone w:=by
 cases p<;>simp[B6,bC a]
theorem eA {t:Ak} {x y:AA} {r:Bool} {w:A2} (h: ∀d,(B6 (d+1) t x y).run P w= .ok r w):(Op.equal t x y).run P w= .ok r w:=h _
theorem TU {op:BinOp} {t:Ak} {i e:Operand} {x y:AA} {l:PR} (j: ∀v,e= .const v->y=v) (m: ∀v,i= .const v->x=v)
 (h:XZ P op t i e x y=some l) (o: ∀p,l.ob=some p->p) (w:A2):
 (do eqGuard op t i e x y;binOp op t x y).run P w= .ok l.v w:=by
 unfold XZ at h;split at h
 ·
  rename_i k a F b;simp only[Av,xj,Ay];have B:pf e=true->b≠0:=by
   intro hc;unfold pf at hc;split at hc
   ·rename_i C n;have:=j _ rfl;cases this;simpa using hc
   ·cases hc
  have z:pQ e=true->0<=b:=by
   intro hc;unfold pQ at hc;split at hc
   ·rename_i C n;have:=j _ rfl;cases this;simpa using hc
   ·cases hc
  split at h
  ·cases h;have h0:0<=b:=by
    by_cases hc:pQ e=true
    ·exact z hc
    ·exact o (0<=b) (by simp[hc])
   simp[binOp,Op.shift,Di,Int.not_lt.2 h0]
  ·cases h;have h0:0<=b:=by
    by_cases hc:pQ e=true
    ·exact z hc
    ·exact o (0<=b) (by simp[hc])
   simp[binOp,Op.shift,J1,Int.not_lt.2 h0]
  ·rename_i G H;split at h
   ·subst_vars
    cases op<;>simp only[OD] at h<;>(try cases h)<;>
     first
      |(simp[binOp,Op.intArith,aL,aZ,fy];done)
      |(simp[binOp,Op.intBits,wU,ZQ,aaa,fR];done)
      |(simp[binOp,Op.intCmp];done)
      |(have h0:b≠0:=by
         by_cases hc:pf e=true
         ·exact B hc
         ·exact o (b≠0) (by simp[hc])
        simp[binOp,Op.intDiv,h0,wT,f_])
   ·cases h
 ·
  rename_i a b;split at h
  ·rename_i c;cases h;simp[eqGuard,binOp,eA λd=>AQ c d a b w]
  ·rename_i c;cases h;simp[eqGuard,binOp,eA λd=>AQ c d a b w]
  ·cases h
 ·
  rename_i p q;have f:kN e=true->q=none:=by
   intro hc;unfold kN at hc;split at hc<;>first|(have:=j _ rfl;cases this<;>rfl)|(cases hc)
  have g:kN i=true->p=none:=by
   intro hc;unfold kN at hc;split at hc<;>first|(have:=m _ rfl;cases this<;>rfl)|(cases hc)
  split at h
  ·rename_i c;split at h
   ·rename_i hc;cases h;rw[f hc];simp[eqGuard,binOp,eA λd=>rT c d p w]
   ·split at h
    ·rename_i hc;cases h;rw[g hc];simp[eqGuard,binOp,eA λd=>nR c d q w]
    ·cases h
  ·rename_i c;split at h
   ·rename_i hc;cases h;rw[f hc];simp[eqGuard,binOp,eA λd=>rT c d p w]
   ·split at h
    ·rename_i hc;cases h;rw[g hc];simp[eqGuard,binOp,eA λd=>nR c d q w]
    ·cases h
  ·cases h
 ·
  rename_i p _ _ q _ _;have f:kN e=true->q=none:=by
   intro hc;unfold kN at hc;split at hc<;>first|(have:=j _ rfl;cases this<;>rfl)|(cases hc)
  have g:kN i=true->p=none:=by
   intro hc;unfold kN at hc;split at hc<;>first|(have:=m _ rfl;cases this<;>rfl)|(cases hc)
  split at h
  ·rename_i c;split at h
   ·rename_i hc;cases h;rw[f hc];simp[eqGuard,binOp,eA λd=>tQ c d p _ _ _ _ w]
   ·split at h
    ·rename_i hc;cases h;rw[g hc];simp[eqGuard,binOp,eA λd=>tR c d q _ _ _ _ w]
    ·cases h
  ·rename_i c;split at h
   ·rename_i hc;cases h;rw[f hc];simp[eqGuard,binOp,eA λd=>tQ c d p _ _ _ _ w]
   ·split at h
    ·rename_i hc;cases h;rw[g hc];simp[eqGuard,binOp,eA λd=>tR c d q _ _ _ _ w]
    ·cases h
  ·cases h
 ·
  rename_i p q;have f:kN e=true->q=none:=by
   intro hc;unfold kN at hc;split at hc<;>first|(have:=j _ rfl;cases this<;>rfl)|(cases hc)
  have g:kN i=true->p=none:=by
   intro hc;unfold kN at hc;split at hc<;>first|(have:=m _ rfl;cases this<;>rfl)|(cases hc)
  split at h
  ·rename_i c;split at h
   ·rename_i hc;cases h;rw[f hc];simp[eqGuard,binOp,eA λd=>zk c d p w]
   ·split at h
    ·rename_i hc;cases h;rw[g hc];simp[eqGuard,binOp,eA λd=>zl c d q w]
    ·cases h
  ·rename_i c;split at h
   ·rename_i hc;cases h;rw[f hc];simp[eqGuard,binOp,eA λd=>zk c d p w]
   ·split at h
    ·rename_i hc;cases h;rw[g hc];simp[eqGuard,binOp,eA λd=>zl c d q w]
    ·cases h
  ·cases h
 ·
  rename_i a b;split at h
  ·cases h;simp[eqGuard,binOp,Op.stringOp,beq_toListBytes]
  ·cases h;simp[eqGuard,binOp,Op.stringOp,beq_toListBytes]
  ·cases h
 ·
  rename_i xs ys;split at h
  ·cases h
  ·rename_i D;have E:P.eqGuardType P.depth t=false:=by simpa using D
   have A: ∀op:BinOp,(eqGuard op t i e (.agg xs) (.agg ys)).run P w= .ok () w:=by
    intro op;unfold eqGuard;cases op<;>simp[E]
   split at h
   ·rename_i r s;cases h;simp only[Av,A,Ay];have u:(Op.equal t (.agg xs) (.agg ys)).run P w= .ok r w:=ID (P:=P) _ _ _ _ _ s w;simp[binOp,u]
   ·rename_i r s;cases h;simp only[Av,A,Ay];have u:(Op.equal t (.agg xs) (.agg ys)).run P w= .ok r w:=ID (P:=P) _ _ _ _ _ s w;simp[binOp,u]
   ·cases h
 ·cases h
end
section
variable {P:Al} {ρ:Operand->Option AA} {ev:Operand->AA}
theorem zm: ∀{cs:List AA} {k:B2} {a:List Int},Cc cs k=some a-> ∀i,i<cs.length->cs[i]? =some (.int k (a.getD i 0))
 |c::cs,k,a,h,i,hi=>by
  unfold Cc at h;split at h
  grind
  ·rename_i e n r f b;cases b;split at h
   ·subst_vars
    split at h
    ·rename_i l d;cases h;cases i with
     |zero=>simp
     |succ i=>simpa using zm d i (by grind)
    grind
   ·cases h
  ·cases h
theorem vN {t:Ak} {f:Nat} {fd:Field} (a:xv P t f=some fd): ∃fs,P.underlying t=some (.struct fs)/\fs[f]? =some fd:=by
 grind[xv]
theorem ER {t e:Ak} {a:TypeInfo} (p:AN) (k:B2) (i:Int) (len:Nat) (c: ¬ len<=1) (b:P.underlying t=some (.array len e)) (hi:P.info? e=some a) (h0:0<=i) (h1:i<len) (w:A2):
 (Hb t (.pointer (some p)) (.int k i)).run P w= .ok (.pointer (some (p.add (i.toNat*a.size)))) w:=by
 simp[Hb,asIntOf,Hr,bC b,dq hi,h0,h1]
theorem run_indexAt_slice {t e:Ak} {a:TypeInfo} (p:AN) (k:B2) (i:Int) (len cap:Nat) (b:P.underlying t=some (.slice e)) (hi:P.info? e=some a) (h0:0<=i) (h1:i<len) (w:A2):
 (Hb t (.slice (some p) len cap) (.int k i)).run P w= .ok (.pointer (some (p.add (i.toNat*a.size)))) w:=by
 simp[Hb,asIntOf,bC b,dq hi,h0,h1]
theorem fc {α:Type} {p:Option α} (h:p.isSome=true): ∃a,p=some a:=Option.isSome_iff_exists.1 h
theorem kU (a: ∀x v,ρ x=some v->ev x=v) {d:Nat} {x:Operand} {n:Int} (h:iB ρ d (some x)=some n): ∃k,ev x= .int k n:=by grind[iB]
theorem run_sliceBound (k:B2) (n:Int) (y:Nat) (c:BoundsCode) (h0:0<=n) (h1:n<=y) (w:A2):(S0 (.int k n) y c).run P w= .ok n.toNat w:=by
 simp[S0,asIntOf,h0,h1]
theorem od (b: ∀x v,ρ x=some v->ev x=v) {ZS:Bool} {len cap:Nat} {lo hi mx:Option Operand} {l h m:Int}
 (a:iB ρ 0 lo=some l) (c:iB ρ len hi=some h) (g:iB ρ cap mx=some m) (n: ¬ (hi.isNone=true/\mx.isSome=true))
 (h0:0<=l) (h1:l<=h) (o:h<=m) (p:m<=cap) (w:A2):
 (S1 ZS len cap (lo.map ev) (hi.map ev) (mx.map ev)).run P w= .ok (l.toNat,h.toNat,m.toNat) w:=by
 unfold S1;have a1:h<=((m.toNat:Nat):Int):=by omega
 have q:l<=((h.toNat:Nat):Int):=by omega
 have i:0<=h:=by omega
 have r:0<=m:=by omega
 cases mx with
 |none=>
  simp only[iB,C8] at g;subst g;have j:h<=(cap:Int):=o;cases hi with
  |none=>
   simp only[iB,C8] at c;subst c;cases lo with
   |none=>simp only[iB,C8] at a;subst a;simp
   |some x=>obtain⟨k,d⟩:=kU b a;simp[d,run_sliceBound k l len _ h0 h1]
  |some y=>
   obtain⟨e,f⟩:=kU b c;cases lo with
   |none=>simp only[iB,C8] at a;subst a;cases ZS<;>simp[f,run_sliceBound e h cap _ i j]
   |some x=>obtain⟨k,d⟩:=kU b a;cases ZS<;>simp[d,f,run_sliceBound e h cap _ i j,run_sliceBound k l h.toNat _ h0 q]
 |some z=>
  obtain⟨s,t⟩:=kU b g;cases hi with
  |none=>simp at n
  |some y=>
   obtain⟨e,f⟩:=kU b c;cases lo with
   |none=>simp only[iB,C8] at a;subst a;cases ZS<;>simp[f,t,run_sliceBound s m cap _ r p,run_sliceBound e h m.toNat _ i a1]
   |some x=>obtain⟨k,d⟩:=kU b a;simp_all[run_sliceBound]
theorem Pz {s:ByteArray} {i:Int} (h0:0<=i) (h1:i<s.size):s[i.toNat]? =some (s.data[i.toNat]?.getD 0):=by
 simp_all
 rfl
theorem run_places: ∀(l:List Field),(l.all λf=>(P.info? f.type).isSome)=true-> ∀w:A2,
 (l.mapM (m:=Sem) λf=>do pure (f.offset, <-sizeOf f.type)).run P w= .ok (l.map λf=>(f.offset,P.cellsOf f.type)) w
 |[], _,w=>by rfl
 |f::l,h,w=>by
  simp only[Ia,B8] at h;obtain⟨i,hi⟩:=fc h.1;have a:P.cellsOf f.type=i.size:=by simp[Program.cellsOf,hi]
  have b:=run_places l
  simp_all[dq]
theorem PA {t:Ak} {parts:Array (Nat×AA)} {ps:List (Nat×AA)} {cs:Array AA} (e:parts.toList=ps) (h:F3 P t ps=some cs) (w:A2):
 (Instr.build t parts).run P w= .ok (.agg cs) w:=by
 unfold F3 at h;split at h
 ·rename_i i hi;split at h
  ·rename_i z b;unfold Instr.build zeroValue;simp only[Av,fB hi,Ay,b,B1];split at h
   ·rename_i fs a;split at h
    ·rename_i c;have f:=run_places (P:=P) fs.toList (by simpa using c) w
     simp_all[JR,yL,bC]
    ·cases h
   ·rename_i n el a;split at h
    ·rename_i g d;simp only[bC a,Ay,Av,dq d,e,yL h];rfl
    ·cases h
   ·cases h
  ·cases h
 ·cases h
theorem OE {o:Oper} {H:PR} (g: ∀x v,ρ x=some v->ev x=v) (hc: ∀v,ev (.const v)=v) (h:pop P ρ o=some H) (u: ∀p,H.ob=some p->p) (w:A2):
 (execOp ev o).run P w= .ok (.value H.v) w:=by
 obtain⟨dst,op,type,pos,after,guard⟩:=o;unfold pop at h;cases op<;>simp only at h<;>(try (cases h;done))<;>unfold execOp<;>simp only
 case move x=>
  split at h
  ·rename_i v hv;cases h;simp[g _ _ hv]
  ·cases h
 case assign x=>
  split at h
  ·rename_i v hv;cases h;simp[g _ _ hv]
  ·cases h
 case build t parts=>
  split at h
  ·rename_i ps S;split at h
   ·rename_i cs fV;cases h;have e:=yM g S;have e':(parts.map λ(i,x)=>(i,ev x)).toList=ps:=by rw[<-e];simp
    simp[PA e' fV]
   ·cases h
  ·cases h
 case nilCheck x=>
  split at h
  ·rename_i p hv;cases h;obtain⟨a,rfl⟩:=fc (u _ rfl);simp[g _ _ hv]
  ·rename_i f fs cs hv;cases h;simp[g _ _ hv]
  ·cases h
 case binOp op t x y yt=>
  split at h
  ·rename_i a b r hb;have T:=TU (P:=P) (λv hv=>by rw[<-g _ _ hb,hv,hc]) (λv hv=>by rw[<-g _ _ r,hv,hc]) h u w;simp only[g _ _ r,g _ _ hb];rw[Av,T];rfl
  ·cases h
 case unOp op t x=>
  split at h
  ·rename_i a r;simp only[g _ _ r];unfold unV at h;split at h<;>(try cases h)<;>simp[Op.unary,Op.intArith,Op.intBits,aZ,aab]
  ·cases h
 case convert s d x=>
  split at h
  ·rename_i a r;simp only[g _ _ r];unfold Wz at h;split at h
   ·rename_i ds k k' n h1 A;cases h;cases ds<;>simp[convert,bC h1,bC A,Conv.intToInt,aG]
   ·rename_i A I;cases h;simp[convert,bC A,bC I]
   ·cases h
  ·cases h
 case makeFunc fn first Q=>
  split at h
  ·rename_i a b r hb;cases h;have J:=ma g r;have U:=ma g hb;have V:first.map ev=⟨a⟩:=by rw[<-J];cases first;simp
   have W:Q.map ev=⟨b⟩:=by rw[<-U];cases Q;simp
   simp[Instr.makeFunc,V,W]
  ·cases h
 case slice t x lo hi mx=>
  split at h
  ·rename_i e p len cap q j;split at h
   ·rename_i C l X m Y D K Z;split at h
    ·cases h
    ·rename_i R;cases h;obtain⟨h0,h1,A,I⟩:=u _ rfl;have abL: ¬ (hi.isNone=true/\mx.isSome=true):=by simpa using R
     have hb:=od (P:=P) (ZS:=true) g D K Z abL h0 h1 A I w;simp only[g _ _ j];simp[S2,bC q,Instr.slice,hb,dq Y,ad]
   ·cases h
  ·rename_i s q j;split at h
   ·rename_i l X D K;split at h
    ·cases h
    ·rename_i R;cases h;obtain⟨h0,h1,A⟩:=u _ rfl;have hmx:mx=none:=by cases mx<;>simp_all
     subst hmx;have hb:=od (P:=P) (ZS:=false) (cap:=s.size) (mx:=none) g D K rfl (by simp) h0 h1 A (by simp) w;simp only[TA] at hb;simp only[g _ _ j];simp[S2,bC q,Instr.slice,hb]
   ·cases h
  ·cases h
 case fieldAddr s x f=>
  split at h
  ·rename_i p fd j L;split at h
   ·rename_i i hi;split at h
    ·cases h
    ·rename_i hz;cases h;obtain⟨a,rfl⟩:=fc (u _ rfl);obtain⟨fs,q,M⟩:=vN L;simp[Instr.fieldAt,bC q,M,g _ _ j,Hr,fieldPlace,dq hi,hz,ad]
   ·cases h
  ·cases h
 case field t x f=>
  split at h
  ·rename_i cs fd j L;split at h
   ·rename_i v hv;cases h;obtain⟨fs,q,M⟩:=vN L;simp[Instr.field,bC q,M,g _ _ j,asAgg,kT hv]
   ·cases h
  ·cases h
 case indexAddr t x ix=>
  split at h
  ·rename_i len e p k i q j z;split at h
   ·rename_i C hi;split at h
    ·cases h
    ·rename_i D;cases h;obtain⟨B,h0,h1⟩:=u _ rfl;obtain⟨a,rfl⟩:=fc B;simp[g _ _ j,g _ _ z,ER a k i len D q hi h0 h1,ad]
   ·cases h
  ·rename_i e p len cap k i q j z;split at h
   ·rename_i C hi;cases h;obtain⟨B,h0,h1⟩:=u _ rfl;obtain⟨a,rfl⟩:=fc B;simp[g _ _ j,g _ _ z,run_indexAt_slice a k i len cap q hi h0 h1,ad]
   ·cases h
  ·cases h
 case index t x ix=>
  split at h
  ·rename_i len e cs k i q j z;split at h
   ·rename_i C hi;split at h
    ·rename_i k2 n;have hn:(Value.int k2 n)= .int k i:=by rw[<-g _ _ z,hc]
     cases hn;split at h
     ·rename_i hb;split at h
      ·rename_i v hv;cases h;simp[I1,asIntOf,bC q,g _ _ j,hc,hb.1,hb.2,dq hi,kT hv]
      ·cases h
     ·cases h
    ·split at h
     ·rename_i k3 N;split at h
      ·rename_i ns hns;split at h
       ·rename_i F;cases h;obtain⟨h0,h1⟩:=u _ rfl;have G:i.toNat<cs.length:=by omega
        have iU:=zm hns i.toNat G;have B:qI P e cs (i.toNat*C.size)=some (.int k3 (J4 ns i)):=by
         rw[F.2,Nat.mul_one];unfold qI;have:km P e=some false:=by unfold km;simp[N]
         simp[this,iU,J4]
        simp[I1,asIntOf,bC q,g _ _ j,g _ _ z,h0,h1,dq hi,kT B]
       ·cases h
      ·cases h
     ·rename_i fs N;split at h
      ·rename_i F;cases h;obtain⟨h0,h1⟩:=u _ rfl;have G:i.toNat<cs.length:=by omega
       have B:qI P e cs (i.toNat*C.size)=some (.agg ⟨[X2 cs i]⟩):=by
        rw[F.2,Nat.mul_one];unfold qI;have:km P e=some true:=by unfold km;simp[N]
        simp only[this,hi,F.2,X2];have J:List.take 1 (List.drop i.toNat cs)=[cs.getD i.toNat undef]:=by
         rw[List.drop_eq_getElem_cons G,List.getD_eq_getElem?_getD,If G];rfl
        rw[J]
       simp[I1,asIntOf,bC q,g _ _ j,g _ _ z,h0,h1,dq hi,kT B]
      ·cases h
     ·cases h
   ·cases h
  ·rename_i s k i q j z;cases h;obtain⟨h0,h1⟩:=u _ rfl;have hg:=Pz h0 h1;simp[I1,asIntOf,bC q,g _ _ j,g _ _ z,h0,hg,WA]
  ·cases h
 case extract x i=>
  split at h
  ·rename_i vs j;split at h
   ·rename_i v hv;cases h;simp[g _ _ j,I2,hv]
   ·cases h
  ·cases h
 case call c=>
  obtain⟨callee,args,argTypes⟩:=c;simp only at h;split at h
  ·
   split at h
   ·rename_i x t r ht;have E:args= #[x]:=by cases args;simp_all
    have et:argTypes= #[t]:=by cases argTypes;simp_all
    subst E et;split at h<;>(try cases h)
    ·rename_i j q;simp[resolve,invoke,builtin,GD,g _ _ j,bC q,goInt]
    ·rename_i j q;simp[resolve,invoke,builtin,GD,g _ _ j,bC q,goInt]
    ·rename_i j q;simp[resolve,invoke,builtin,GD,g _ _ j,bC q,goInt]
   ·cases h
  ·
   split at h
   ·rename_i x y r;have E:args= #[x,y]:=by cases args;simp_all
    subst E;split at h<;>(try cases h);rename_i j O;simp[resolve,invoke,builtin,Builtin.min_,Builtin.min2,g _ _ j,g _ _ O,kM]
   ·cases h
  ·split at h
   ·rename_i x y r;have E:args= #[x,y]:=by cases args;simp_all
    subst E;split at h<;>(try cases h);rename_i j O;simp[resolve,invoke,builtin,Builtin.max_,Builtin.max2,g _ _ j,g _ _ O,Dj]
   ·cases h
  ·cases h
end
structure bS where
 t:Nat
 ch:List (Nat×Bool)
 g:Option Bool
 v:AA
 k:Option Bool
def bZ:List bS->Nat->Option bS
 |[], _=>none
 |e::r,t=>if e.t=t then some e else bZ r t
structure Entry (P:Al) where
 f:B3
 fn:List AA->Option (Prop×AA)
 ok: ∀args pre v,fn args=some (pre,v)->pre-> ∀w,Calls P f ⟨args⟩ w (λe w'=>e= .returned v/\Ext w w')
structure dI (P:Al) where
 si:List (Entry P)
 quiet:List B3
 sh:List (B3×Sh)
 mixed:P.follows .mixedOrders=true
 vy:Bool:=false
 cl:List (Ak×Sc):=[]
 ZT:Option Sh:=none
def OF:List (B3×Sh)->B3->Option Sh
 |[], _=>none
 |(g,s)::r,f=>if g=f then some s else OF r f
def uH {P:Al} (C:dI P) (f:B3):Sh:=
 match OF C.sh f with
 |some s=>s
 |none=>aaL P f
def OG:List (Ak×Sc)->Ak->Option Sc
 |[], _=>none
 |(g,s)::r,t=>if g=t then some s else OG r t
def elC {P:Al} (C:dI P) (t:Ak):Option El:=
 match uN P t with
 |some (.one .func)=>match OG C.cl t with
  |some s=>some (.one s)
  |none=>some (.one .func)
 |e=>e
def ye {P:Al}:List (Entry P)->B3->Option (Entry P)
 |[], _=>none
 |e::r,f=>if e.f=f then some e else ye r f
def cX (first:Array AA) (a:List AA) (cap:Array AA):List AA:=first.toList++(a++cap.toList)
def bK (P:Al) (a:B3):Bool:=
 match P.funcs[a]? with
 |some fn=>fn.body.isSome&& !(fn.name== "runtime.NumGoroutine")
 |none=>false
def af (P:Al) (f:B3) (args:List AA) (w:A2) (v:AA):Prop:=
 ∀w',Ext w w'->Calls P f ⟨args⟩ w' (λe a=>e= .returned v/\Ext w' a)
def aC (P:Al) (f:B3) (s:Sh) (args:List AA) (w:A2) (R:s.T->A2->Prop):Prop:=
 Calls P f ⟨args⟩ w (λe w'=> ∃x:s.T,e= .returned (s.gZ x)/\R x w')
theorem aC.mono {P:Al} {f:B3} {s:Sh} {args:List AA} {w:A2} {R a:s.T->A2->Prop} (h:aC P f s args w R) (k: ∀x w',R x w'->a x w'):aC P f s args w a:=
 FN h (by grind)
def dy (_:Nat) (_:Op):Prop:=False
def cQ (w:A2) (p:Option AN):(e:El)->e.T->Prop
 | .one s,x=> ∃a,p=some a/\w.cell? a=some (s.gZ x)
 | .agg l,x=> ∃a,p=some a/\ ∀i,i<l.length->w.cell? (a.add i)=(b_ l x)[i]?
def pR:El->Nat->Bool
 | .one _, _=>false
 | .agg l,n=>l.length != n
def oE (w:A2) (p:Option AN) (n:Nat) (vs:List AA):Prop:=
 match p with
 |none=>vs=[]
 |some a=>vs.length=n/\ ∀i,i<n->w.cell? (a.add i)=vs[i]?
def TF (w:A2) (p:Option AN) (n:Nat):Prop:=
 ∃a,p=some a/\ ∀i,i<n->(w.cell? (a.add i)).isSome=true/\w.frozen? (a.add i)=false
def putAt (w:A2) (a:AN):List AA->Nat->A2
 |[], _=>w
 |v::r,i=>putAt (w.setCell (a.add i) v) a r (i+1)
def jC (w:A2) (p:Option AN) (vs:List AA):A2:=
 match p with
 |some a=>putAt w a vs 0
 |none=>w
def mD (w:A2) (e:Ak) (size bytes:Nat) (z:Array AA) (s x:Option AN×Nat×Nat) (R:Option AN×Nat×Nat->A2->Prop):Prop:=
 ∃fP new,oE w s.1 (s.2.1*size) fP/\oE w x.1 (x.2.1*size) new/\
  (s.2.1+x.2.1<=s.2.2->(new=[]\/(TF w (s.1.map (·.add (s.2.1*size))) new.length/\new.all (·.oneCell')=true))/\
   R (s.1,s.2.1+x.2.1,s.2.2) (jC w (s.1.map (·.add (s.2.1*size))) new))/\
  (s.2.2<s.2.1+x.2.1->T3 (s.2.1+x.2.1) s.2.2*bytes<=2 ^ 48/\
   ∀c,s.2.1+x.2.1<=c->R (some ⟨w.heap.size,0,none⟩,s.2.1+x.2.1,c) (w.drew.alloc (.cells (⟨fP⟩++⟨new⟩++GF z (c - (s.2.1+x.2.1))) e)))
def cpR (w:A2) (size:Nat) (d x:Option AN×Nat) (R:Int->A2->Prop):Prop:=
 ∃new,oE w x.1 (Nat.min x.2 d.2*size) new/\(d.1=none\/new=[]\/(TF w d.1 new.length/\new.all (·.oneCell')=true))/\R (Nat.min x.2 d.2:Nat) (jC w d.1 new)
def mq (P:Al) (l:Nat) (args:List AA) (w:A2) (R:Bool->A2->Prop):Prop:=
 ∃rec,w.heap[l]? =some (.loop rec)/\args.length=rec.params.size/\
  RoundIn Dk 0 P l rec.fn ((rec.params.zip ⟨args⟩).foldl (λtmps (t,a)=>tmps.setIfInBounds t a) rec.tmps) rec.assign rec.body w
   (λe w'=> ∃b,e= .returned (.bool b)/\R b w')
def gD (g:Option Bool) (p:Prop):Prop:=
 match g with
 |none=>p
 |some b=>b=true->p
@[reducible] def aj (w:A2) (g:Option Bool) (p:Option AN) (el:El) (K:el.T->Prop):Prop:= ∃x:el.T,gD g (cQ w p el x)/\K x
@[reducible] def az (w:A2) (p:Option AN) (vs:List AA) (K:A2->Prop):Prop:= ∀w1,Ext w w1->(vs.all (·.oneCell')=true/\TF w1 p vs.length)/\K (jC w1 p vs)
@[reducible] def aM (w:A2) (cs:Array AA) (e:Ak) (K:Nat->A2->Prop):Prop:= ∀w1,Ext w w1->K w1.heap.size (w1.alloc (.cells cs e))
def aA (P:Al) (f:B3) (s:Sh) (args:List AA) (w:A2) (K:s.T->A2->Prop):Prop:= ∀w1,Ext w w1->aC P f s args w1 K
def aad (bytes:Nat) (n m:Int):Prop:=0<=n/\n<=m/\m<2 ^ 63/\bytes*m<=2 ^ 48
def nG (z:Array AA) (n:Nat):Array AA:=(Array.range n).map ((if n=0 then #[] else z)[· % (if n=0 then #[] else z).size]!)
def zW (P:Al) (v:AA) (s:Sh) (b:List AA) (w:A2) (K:s.T->A2->Prop):Prop:=
 ∀w1,Ext w w1-> ∃a first cap,v= .func (.func a) first cap/\bK P a=true/\aC P a s (cX first b cap) w1 K
def Nx (w:A2) (bytes size:Nat) (n m:Int) (z:Array AA) (e:Ak) (K:Nat->A2->Prop):Prop:= ∀w1,Ext w w1->aad bytes n m/\K w1.heap.size (w1.alloc (.cells (nG z (m.toNat*size)) e))
@[reducible] def au (w:A2) (K:A2->Prop):Prop:= ∀w1,Ext w w1->K w1
def X3 (a b:List (Nat×Bool)):Bool:=a.all λx=>b.contains x
def xR (env:List bS) (ch:List (Nat×Bool)):Operand->Option AA
 | .tmp t=>match bZ env t with
   |some ⟨_,c, _,v, _⟩=>if X3 c ch then some v else none
   |none=>none
 | .const v=>some v
 | .global g=>some (.pointer (some ⟨g,0,none⟩))
 | .func f=>some (.func (.func f) #[] #[])
def dE (ops:Array Oper) (j:Nat):Option Nat:=(ops[j]?).bind (·.dst)
def lit:Bool->Bool->Bool
 |true,x=>x
 |false,x=> !x
def abM (b:Bool):Option Bool->Option Bool
 |none=>some b
 |some g=>some (g&&b)
def gd (ops:Array Oper) (env:List bS) (o:Oper):Option (Option (List (Nat×Bool)×Option Bool)):=
 match o.guard with
 |none=>some (some ([],none))
 |some (j,b)=>match dE ops j with
  |some d=>match bZ env d with
   |some e=>match e.k with
    |some a=>if a=b then some (some ([],none)) else some none
    |none=>match e.v with
     | .bool x=>some (some ((j,b)::e.ch,abM (lit b x) e.g))
     | _=>none
   |none=>none
  |none=>none
def settle (j:Nat) (b:Bool) (e:bS):bS:=
 if e.ch.contains (j, !b) then⟨e.t,[],none,undef,none⟩
 else if e.ch.contains (j,b) then
  match e.ch.filter (λx=>x != (j,b)) with
  |[]=>⟨e.t,[],none,e.v,none⟩
  |c::r=>⟨e.t,c::r,e.g,e.v,none⟩
 else e
def oP (ops:Array Oper) (N:Nat) (env:List bS) (ch:List (Nat×Bool)):Option Nat->Bool
 |none=>true
 |some d=>decide (d<N)&&ch.all (λx=>dE ops x.1 != some d)&&env.all λe=>e.ch.all λx=>dE ops x.1 != some d
def k8 (env:List bS) (d:Option Nat) (ch:List (Nat×Bool)) (g:Option Bool) (v:AA):List bS:=
 match d with
 |some d=>⟨d,ch,g,v,none⟩::env
 |none=>env
def wV (env:List bS) (d:Option Nat) (ch:List (Nat×Bool)) (g:Option Bool) (v:AA) (K:List bS->Prop):Prop:=
 match d with
 |some d=>K (⟨d,ch,g,v,none⟩::env)
 |none=>K env
theorem nH {env:List bS} {d:Option Nat} {ch:List (Nat×Bool)} {g:Option Bool} {v:AA} {K:List bS->Prop}:wV env d ch g v K=K (k8 env d ch g v):=by cases d<;>rfl
def jI:List bS->(List bS->Prop)->Prop
 |[],K=>K []
 |⟨t,ch,g,v,k⟩::r,K=>jI r (λr=>K (⟨t,ch,g,v,k⟩::r))
theorem jO: ∀{l:List bS} {K:List bS->Prop},jI l K=K l
 |[], _=>rfl
 |⟨_, _, _, _, _⟩::r,K=>by simp only[jI];exact jO
def TV (ops:Array Oper) (t:Nat):Option Nat:=(B5 ops.size).find? λj=>dE ops j==some t
def bG (w:A2) (r:Nat) (es:Array CX) (a:Nat):Prop:=w.heap[r]? =some (.map es a)
def jX (w:A2) (p:Option Nat) (k:B2) (n:Int) (z v:AA):Prop:=
 ∃r es a,p=some r/\bG w r es a/\match FO (.int k) (.int k n) es.toList 0 with
  |some none=>v=z
  |some (some (_,u))=>v=u
  |none=>False
def mr (w:A2) (p:Option Nat) (k:B2) (n:Int) (z v:AA) (b:Bool):Prop:=
 ∃r es a,p=some r/\bG w r es a/\match FO (.int k) (.int k n) es.toList 0 with
  |some none=>v=z/\b=false
  |some (some (_,u))=>v=u/\b=true
  |none=>False
def gU (w:A2) (r:Nat) (k:B2) (n:Int) (val:AA) (es:Array CX) (a:Nat) (K:A2->Prop):Prop:=
 match FO (.int k) (.int k n) es.toList 0 with
 |some none=>K (w.putObj r (.map (es.push {key:= .int k n,val,born:=a}) (a+1)))
 |some (some (i, _))=>K (w.putObj r (.map (es.modify i λe=>{e with key:= .int k n,val}) a))
 |none=>False
def Ac (w:A2) (r:Nat) (k:B2) (n:Int) (es:Array CX) (a:Nat) (K:A2->Prop):Prop:=
 match FO (.int k) (.int k n) es.toList 0 with
 |some none=>K (w.putObj r (.map es a))
 |some (some (i, _))=>K (w.putObj r (.map (es.eraseIdxIfInBounds i) a))
 |none=>False
def RgP (w:A2) (p:Option Nat) (K:Nat->A2->Prop):Prop:= ∀w1,Ext w w1-> ∃r es a,p=some r/\bG w1 r es a/\K w1.heap.size (w1.alloc (.mapIter (some r) a #[] a))
def NxP (w:A2) (p:Option AN) (f:A2->Prop) (g:AA->AA->A2->Prop):Prop:= ∀w1,Ext w w1-> ∃(r m b:Nat) (seen:Array Nat) (c:Nat) (es:Array CX) (d:Nat),p=some ⟨r,0,none⟩/\w1.heap[r]? =some (.mapIter (some m) b seen c)/\bG w1 m es d/\b<=c/\(∀e∈es.toList,e.born<b)/\
 ((∀e∈es.toList,seen.contains e.born=true)-> ∀a,Ext w1 a->f a)/\
 ∀e∈es.toList,seen.contains e.born=false-> ∀a,Ext w1 a->g e.key e.val (a.putObj r (.mapIter (some m) b (seen.push e.born) d))
def Ad (w:A2) (p:Option AN) (k v:AA):Prop:= ∃(r m b:Nat) (seen:Array Nat) (es:Array CX) (a:Nat) (e:CX),p=some ⟨r,0,none⟩/\w.heap[r]? =some (.mapIter (some m) b (seen.push e.born) a)/\bG w m es a/\e∈es.toList/\(es.toList.map (·.born)).Nodup/\k=e.key/\v=e.val
def TG (w:A2) (p:Option Nat) (n:Nat):Prop:= ∃r es a,p=some r/\bG w r es a/\n=es.size
def ChO (w:A2) (r cap:Nat) (a:List AA) (s n:Nat):Prop:=w.heap[r]? =some (.chan cap ⟨a⟩ false s n false)
def ChL (w:A2) (p:Option Nat) (n:Nat):Prop:= ∃r cap a s m,p=some r/\ChO w r cap a s m/\n=a.length
def Xc (w:A2) (p q:Option AN):Prop:= ∀a b,p=some a->q=some b->a≠b->(∃c t,w.heap[a.block]? =some (.cells c t (0,0)))/\ ∃c t,w.heap[b.block]? =some (.cells c t (0,0))
def xx (P:Al) (ρ:Operand->Option AA) (c:Call):Option (Option Nat):=match c.args.toList,c.argTypes.toList with
 |[x],[t]=>match P.underlying t,ρ x with
  |some (.chan _ _),some (.chan p)=>some p
  | _, _=>none
 | _, _=>none
def Cd (P:Al) (ρ:Operand->Option AA):Op->Option (Option AN×Option AN)
 | .binOp .eql t x y _=>match P.underlying t,ρ x,ρ y with
   |some (.pointer e),some (.pointer p),some (.pointer q)=>match P.info? e with
    |some i=>if i.size=0 then none else some (p,q)
    |none=>none
   | _, _, _=>none
 | _=>none
def WB (P:Al) (ops:Array Oper) (d i:Nat):Option El:=match ops.toList.find? λo=>match o.op with
 | .extract (.tmp t) j=>t==d&&j==i
 | _=>false with
 |some o=>uN P o.type
 |none=>none
def Ce (P:Al) (ρ:Operand->Option AA) (c:Call):Option (Option Nat):=match c.args.toList,c.argTypes.toList with
 |[x],[t]=>match P.underlying t,ρ x with
  |some (.map _ _),some (.map p)=>some p
  | _, _=>none
 | _, _=>none
def oD {P:Al} (C:dI P) (ops:Array Oper) (env:List bS) (ch:List (Nat×Bool)) (g:Option Bool) (o:Oper) (w:A2) (K:AA->Prop):Prop:=
 let ρ:=xR env ch
 match o.op with
 | .load t x=>match ρ x,elC C t,P.info? t with
   |some (.pointer p),some el,some i=>if pR el i.size=true then dy 1 o.op else aj w g p el (λx=>K (el.gZ x))
   | _, _, _=>dy 2 o.op
 | .lookup D m ix ok=>match ok,P.underlying D,ρ m,ρ ix with
   |false,some (.map s r),some (.map p),some (.int k n)=>match P.underlying s,uN P r,P.info? r with
    |some (.int A),some el,some i=>match i.zero with
     |some z=>if k=A then∃x:el.T,gD g (jX w p k n z (el.gZ x))/\K (el.gZ x) else dy 51 o.op
     |none=>dy 52 o.op
    | _, _, _=>dy 53 o.op
   |true,some (.map s r),some (.map p),some (.int k n)=>match P.underlying s,uN P r,P.info? r with
    |some (.int A),some el,some i=>match i.zero with
     |some z=>if k=A then∃x:el.T, ∃b:Bool,gD g (mr w p k n z (el.gZ x) b)/\K (.tuple ⟨[el.gZ x,.bool b]⟩) else dy 51 o.op
     |none=>dy 52 o.op
    | _, _, _=>dy 53 o.op
   | _, _, _, _=>dy 54 o.op
 | .pick c x y=>match c with
   | .tmp t=>match bZ env t with
     |some E=>match E.k with
      |some true=>match ρ x with
       |some v=>K v
       |none=>dy 31 o.op
      |some false=>match ρ y with
       |some v=>K v
       |none=>dy 32 o.op
      |none=>match TV ops t with
       |some j=>match ρ c,xR env ((j,true)::ch) x,xR env ((j,false)::ch) y with
        |some (.bool b),some (.bool u),some (.bool v)=>match x,y with
         | _,.const (.bool false)=>K (.bool (b&&u))
         | .const (.bool true), _=>K (.bool (b||v))
         | _, _=>K (.bool (bif b then u else v))
        | _, _, _=>dy 3 o.op
       |none=>dy 4 o.op
     |none=>dy 33 o.op
   | _=>dy 5 o.op
 | .entry it=>match ρ it,o.dst with
   |some (.pointer p),some d=>match WB P ops d 0,WB P ops d 1 with
    |some a,none=> ∃x:a.T, ∃v:AA,gD g (Ad w p (a.gZ x) v)/\K (.tuple ⟨[a.gZ x,v]⟩)
    |some a,some h=> ∃x:a.T, ∃y:h.T,gD g (Ad w p (a.gZ x) (h.gZ y))/\K (.tuple ⟨[a.gZ x,h.gZ y]⟩)
    |none,some h=> ∃v:AA, ∃y:h.T,gD g (Ad w p v (h.gZ y))/\K (.tuple ⟨[v,h.gZ y]⟩)
    |none,none=>dy 71 o.op
   | _, _=>dy 72 o.op
 | .call c=>match c.callee with
   | .builtin .len=>match Ce P ρ c with
     |some p=> ∃n:Nat,gD g (TG w p n)/\K (.int .i64 n)
     |none=>match xx P ρ c with
      |some p=> ∃n:Nat,gD g (ChL w p n)/\K (.int .i64 n)
      |none=>match pop P ρ o with
       |some ⟨none,v⟩=>K v
       |some ⟨some p,v⟩=>gD g p/\K v
       |none=>dy 9 o.op
   | .value f=>match ρ f,maps ρ c.args.toList with
     |some (.func (.func l) first cap),some B=>
      if bK P l=true then
       match ye C.si l with
       |some e=>match e.fn (cX first B cap) with
        |some (pre,v)=>gD g pre/\K v
        |none=>dy 6 o.op
       |none=> ∃x:(uH C l).T,gD g (af P l (cX first B cap) w ((uH C l).gZ x))/\K ((uH C l).gZ x)
      else dy 7 o.op
     | _, _=>dy 8 o.op
   | _=>match pop P ρ o with
     |some ⟨none,v⟩=>K v
     |some ⟨some p,v⟩=>gD g p/\K v
     |none=>dy 9 o.op
 | .binOp .. =>match pop P ρ o with
   |some ⟨none,v⟩=>K v
   |some ⟨some p,v⟩=>gD g p/\K v
   |none=>match Cd P ρ o.op with
    |some (p,q)=>gD g (Xc w p q)/\K (.bool (decide (p=q)))
    |none=>dy 10 o.op
 | _=>match pop P ρ o with
   |some ⟨none,v⟩=>K v
   |some ⟨some p,v⟩=>gD g p/\K v
   |none=>dy 10 o.op
def X4 (P:Al) (e:Ak):Array AA:=match P.info? e with
 |some i=>match i.zero with
  |some z=>z.cells
  |none=> #[]
 |none=> #[]
def uW (v:AA):List AA:=v.cells.toList
def DP (vs:List AA):Bool:=vs.all (·.oneCell')
def eop {P:Al} (C:dI P) (ρ:Operand->Option AA) (o:Oper) (w:A2) (K:AA->A2->Prop):Prop:=
 match o.op with
 | .store t x y=>match ρ x,ρ y,P.info? t with
   |some (.pointer p),some v,some i=>if(uW v).length=i.size then
     az w p (uW v) (λa=>K undef a)
    else dy 11 o.op
   | _, _, _=>dy 12 o.op
 | .alloc e=>match P.info? e with
   |some i=>match i.zero with
    |some z=>match FB 64 i.size with
     |true=>aM w (X4 P e) e (λb a=>K (.pointer (some ⟨b,0,none⟩)) a)
     |false=>aM w z.cells e (λb a=>K (.pointer (some ⟨b,0,none⟩)) a)
    |none=>dy 13 o.op
   |none=>dy 14 o.op
 | .box e x=>match ρ x with
   |some v=>aM w v.cells e (λb a=>K (.pointer (some ⟨b,0,none⟩)) a)
   |none=>dy 15 o.op
 | .buildSlice t len parts=>match P.underlying t,AD ρ parts.toList with
   |some (.slice e),some ps=>match P.info? e with
    |some i=>match i.zero with
     |some z=>match AE (λk=>some (k*i.size,i.size)) ⟨(B5 (len*i.size)).map (z.cells.toList[· % z.cells.toList.length]!)⟩ ps with
      |some cs=>if len*i.size<=2 ^ 24 then aM w cs e (λb a=>K (.slice (some ⟨b,0,none⟩) len len) a) else dy 101 o.op
      |none=>dy 102 o.op
     |none=>dy 103 o.op
    |none=>dy 104 o.op
   | _, _=>dy 105 o.op
 | .makeSlice t l c=>match P.underlying t,ρ l,ρ c with
   |some (.slice e),some (.int _ n),some (.int _ m)=>match P.info? e with
    |some i=>match i.zero with
     |some z=>Nx w i.bytes i.size n m z.cells e (λb a=>K (.slice (some ⟨b,0,none⟩) n.toNat m.toNat) a)
     |none=>dy 106 o.op
    |none=>dy 107 o.op
   | _, _, _=>dy 108 o.op
 | .mapUpdate t m x v=>match P.underlying t,ρ m,ρ x,ρ v with
   |some (.map g _),some (.map p),some (.int k n),some val=>match P.underlying g with
    |some (.int h)=>if k=h then∀w1,Ext w w1-> ∃r es d,p=some r/\bG w1 r es d/\gU w1 r k n val es d (λa=>K undef a) else dy 55 o.op
    | _=>dy 56 o.op
   | _, _, _, _=>dy 57 o.op
 | .insert t m x v=>match P.underlying t,ρ m,ρ x,ρ v with
   |some (.map g _),some (.map p),some (.int k n),some val=>match P.underlying g with
    |some (.int h)=>if k=h then∀w1,Ext w w1-> ∃r es d,p=some r/\bG w1 r es d/\gU w1 r k n val es d (λa=>K undef a) else dy 55 o.op
    | _=>dy 56 o.op
   | _, _, _, _=>dy 57 o.op
 | .makeMap _ r=>match r with
   |none=> ∀w1,Ext w w1->K (.map (some w1.heap.size)) (w1.alloc (.map #[] 0))
   |some _=>dy 109 o.op
 | .makeChan t s=>match P.underlying t,ρ s with
   |some (.chan _ e),some (.int _ n)=>match P.info? e with
    |some i=>if 0<=n/\n<=2 ^ 32/\i.bytes*n<=2 ^ 47 then∀w1,Ext w w1->K (.chan (some w1.heap.size)) (w1.alloc (.chan n.toNat #[] false 0 0 false)) else dy 118 o.op
    |none=>dy 119 o.op
   | _, _=>dy 120 o.op
 | .range B x=>match P.underlying B,ρ x with
   |some (.map _ _),some (.map p)=>RgP w p (λb a=>K (.pointer (some ⟨b,0,none⟩)) a)
   | _, _=>dy 73 o.op
 | .next it b=>match b,ρ it with
   |false,some (.pointer p)=>NxP w p (λa=>K (.tuple ⟨[.bool false]⟩) a) (λk v a=>K (.tuple ⟨[.bool true,k,v]⟩) a)
   | _, _=>dy 74 o.op
 | .call c=>match c.callee with
   | .builtin .delete=>match c.args.toList,c.argTypes.toList with
     |[m,x],[t, _]=>match P.underlying t,ρ m,ρ x with
      |some (.map g _),some (.map p),some (.int k n)=>match P.underlying g with
       |some (.int h)=>if k=h then∀w1,Ext w w1-> ∃r es d,p=some r/\bG w1 r es d/\Ac w1 r k n es d (λa=>K (.tuple ⟨[]⟩) a) else dy 75 o.op
       | _=>dy 76 o.op
      | _, _, _=>dy 77 o.op
     | _, _=>dy 78 o.op
   | .builtin .append=>match c.args.toList,c.argTypes.toList with
     |[s,x],[t,u]=>match P.underlying t,P.underlying u,ρ s,ρ x with
      |some (.slice e),some (.slice _),some (.slice p n m),some (.slice q k l)=>match P.info? e with
       |some i=>match i.zero with
        |some z=>if i.bytes=0 then dy 110 o.op else∀w1,Ext w w1->mD w1 e i.size i.bytes z.cells (p,n,m) (q,k,l) (λr a=>K (.slice r.1 r.2.1 r.2.2) a)
        |none=>dy 111 o.op
       |none=>dy 112 o.op
      | _, _, _, _=>dy 113 o.op
     | _, _=>dy 114 o.op
   | .builtin .copy=>match c.args.toList,c.argTypes.toList with
     |[s,x],[t, _]=>match P.underlying t,ρ s,ρ x with
      |some (.slice e),some (.slice p n _),some (.slice q k _)=>match P.info? e with
       |some i=> ∀w1,Ext w w1->cpR w1 i.size (p,n) (q,k) (λr a=>K (.int .i64 r) a)
       |none=>dy 115 o.op
      | _, _, _=>dy 116 o.op
     | _, _=>dy 117 o.op
   | .value f=>match C.ZT,f with
    |some s,.tmp t=>match ρ (.tmp t),maps ρ c.args.toList with
     |some v,some j=>zW P v s j w (λx a=>K (s.gZ x) a)
     | _, _=>dy 70 o.op
    | _, _=>match ρ f,maps ρ c.args.toList with
     |some (.func (.yield l) first _),some j=> ∀w1,Ext w w1->mq P l (first.toList++j) w1 (λb a=>K (.bool b) a)
     |some (.func (.func A) first cap),some j=>
      if bK P A=true then
       aA P A (uH C A) (cX first j cap) w (λx a=>K ((uH C A).gZ x) a)
      else dy 16 o.op
     | _, _=>dy 17 o.op
   | _=>dy 18 o.op
 | _=>dy 19 o.op
def aH (b:Bool) (x y:Prop):Prop:=match b with
 |true=>x
 |false=>y
theorem ab {b:Bool} {x y:Prop} (a:b=true->x) (c:b=false->y):aH b x y:=by
 cases b
 ·exact c rfl
 ·exact a rfl
theorem DQ {b:Bool} {x y:Prop} (h:aH b x y) (e:b=true):x:=by subst e;exact h
theorem AR {b:Bool} {x y:Prop} (h:aH b x y) (e:b=false):y:=by subst e;exact h
def Oc {P:Al} (C:dI P) (ρ:Operand->Option AA) (o:Oper):Bool:=
 match o.op with
 | .store .. | .alloc _| .box .. | .buildSlice .. | .makeSlice .. | .makeMap .. | .makeChan .. | .mapUpdate .. | .insert .. | .range .. | .next .. =>true
 | .call c=>match c.callee with
   | .value f=>match C.ZT,f with
    |some _,.tmp _=>true
    | _, _=>match ρ f with
     |some (.func (.func a) _ _)=> !((ye C.si a).isSome||C.quiet.contains a)
     | _=>true
   | .builtin .append=>true
   | .builtin .copy=>true
   | .builtin .delete=>true
   | _=>false
 | _=>false
def YF:Op->Bool
 | .binOp .. =>true
 | .convert .. =>true
 | .call _=>true
 | _=>false
def yC {P:Al} (C:dI P) (o:Oper) (v:AA) (K:AA->Prop):Prop:=
 match C.vy&&YF o.op,v with
 |true,.int k e=> ∀x,x=e->K (.int k x)
 | _, _=>K v
theorem rU {P:Al} {C:dI P} {o:Oper} {v:AA} {K:AA->Prop} (h:yC C o v K):K v:=by
 unfold yC at h
 grind
def NR {P:Al} (C:dI P) (ops:Array Oper) (N:Nat) (o:Oper):Nat->List bS->A2->(List bS->A2->Prop)->Prop
 |0, _, _, _=>dy 20 o.op
 |n+1,env,w,K=>match gd ops env o with
  |none=>dy 21 o.op
  |some none=>if oP ops N env [] o.dst then wV env o.dst [] none undef (λenv=>K env w) else dy 25 o.op
  |some (some (ch,g))=>
   if oP ops N env ch o.dst then
    if Oc C (xR env ch) o then
     match ch.getLast? with
     |none=>eop C (xR env []) o w (λv a=>wV env o.dst [] none v (λenv=>K env a))
     |some (j, _)=>match dE ops j with
      |some d=>match bZ env d with
       |some e=>match e.v with
        | .bool x=>if e.ch.isEmpty then
           aH x (jI (env.map (settle j true)) λenv=>NR C ops N o n (⟨d,[],none,.bool true,some true⟩::env) w K)
            (jI (env.map (settle j false)) λenv=>NR C ops N o n (⟨d,[],none,.bool false,some false⟩::env) w K)
          else dy 22 o.op
        | _=>dy 26 o.op
       |none=>dy 27 o.op
      |none=>dy 28 o.op
    else oD C ops env ch g o w (λv=>yC C o v (λv=>wV env o.dst ch g v (λenv=>K env w)))
   else dy 24 o.op
def FE {P:Al} (C:dI P) (ops:Array Oper) (N:Nat) (i:Nat) (env:List bS) (w:A2) (K:List bS->A2->Prop):Prop:=
 match ops[i]? with
 |none=>False
 |some ⟨dst,op,type,pos,after,guard⟩=>NR C ops N ⟨dst,op,type,pos,after,guard⟩ 40 env w K
def rxL {P:Al} (C:dI P) (ops:Array Oper) (N:Nat):List Nat->List bS->A2->(List bS->A2->Prop)->Prop
 |[],env,w,K=>K env w
 |i::r,env,w,K=>FE C ops N i env w (λenv w=>rxL C ops N r env w K)
def kh (ops:Array Oper) (tmps:Array AA) (ch:List (Nat×Bool)):Prop:= ∀x∈ch,yielded ops tmps x.1=some x.2
def Th (ops:Array Oper) (tmps:Array AA) (ch:List (Nat×Bool)):Option Bool->Prop
 |none=>ch=[]
 |some γ=>ch≠[]/\(γ=true<->kh ops tmps ch)
structure Fit (S:Nat->Option (Option AA)) (ops:Array Oper) (N:Nat) (D:List Deferred) (env:List bS) (a:Act):Prop where
 off: ∀t x,S t=some x->a.tmps[t]? =x
 size:a.tmps.size=N
 qv:a.defers=D
 yes: ∀t e,bZ env t=some e->kh ops a.tmps e.ch->a.tmps[t]? =some e.v
 no: ∀t e,bZ env t=some e-> ¬ kh ops a.tmps e.ch->a.tmps[t]? =some undef
 Fo: ∀e∈env,Th ops a.tmps e.ch e.g
 BG: ∀e∈env, ∀b,e.k=some b->e.v= .bool b/\e.ch=[]
theorem bW: ∀{env:List bS} {t:Nat} {e:bS},bZ env t=some e->e∈env
 |x::r,t,e,h=>by
  simp[bZ] at h;split at h
  grind
  ·exact NV _ (bW h)
theorem TW {a b:List (Nat×Bool)} (h:X3 a b=true) {ops:Array Oper} {tmps:Array AA} (hb:kh ops tmps b):kh ops tmps a:=λx c=>by
 simp only[X3,Dl] at h;exact hb x (by grind)
variable {S:Nat->Option (Option AA)} {ops:Array Oper} {N:Nat} {D:List Deferred} {env:List bS} {a:Act}
theorem Fit.ev (h:Fit S ops N D env a) {ch:List (Nat×Bool)} (hc:kh ops a.tmps ch) {x:Operand} {v:AA} (b:xR env ch x=some v):a.eval x=v:=by
 cases x with
 |tmp t=>
  simp[xR] at b;split at b
  ·rename_i c;split at b
   ·rename_i d;cases b;have:=h.yes t _ c (TW d hc);simp[Fv,this]
   grind
  grind
 |const
 |global g
 |func=>simp[xR] at b;simp[Fv,b]
theorem ES {j:Nat} {d:Option Nat} {u:AA} (h: ∀k,d=some k->dE ops j≠some k):yielded ops (a.put d u).tmps j=yielded ops a.tmps j:=by
 cases d with
 |none=>rfl
 |some k=>
  have b:=h k rfl;unfold yielded;unfold dE at b;cases f:ops[j]?.bind _ with
  |none=>rfl
  |some t=>
   have c:k≠t:=λe=>b (by grind);simp[Bx,DB c]
theorem IE {ch:List (Nat×Bool)} {d:Option Nat} {u:AA} (h: ∀k,d=some k->ch.all (λx=>dE ops x.1 != some k)=true):kh ops (a.put d u).tmps ch<->kh ops a.tmps ch:=by
 have: ∀x∈ch,yielded ops (a.put d u).tmps _=yielded ops _ x.1:=λx b=>ES (by grind);constructor
 ·intro c x b;rw[<-this x b];exact c x b
 ·intro c x b;rw[this x b];exact c x b
theorem Fit.put (h:Fit S ops N D env a) {ch:List (Nat×Bool)} {g:Option Bool} {d:Option Nat} {v u:AA} (m:oP ops N env ch d=true) (w: ∀k,d=some k->S k=none)
 (o:Th ops a.tmps ch g) (h1:kh ops a.tmps ch->u=v) (h0: ¬ kh ops a.tmps ch->u=undef):Fit S ops N D (k8 env d ch g v) (a.put d u):=by
 cases d with
 |none=>exact h
 |some k=>
  simp only[oP,B8,decide_eq_true_eq] at m;obtain⟨⟨p,hc⟩,y⟩:=m;have c0:kh ops (a.put (some k) u).tmps ch<->kh ops a.tmps ch:=IE (by grind);have c1: ∀e∈env,(kh ops (a.put (some k) u).tmps e.ch<->kh ops a.tmps e.ch):=λe hm=>IE (by grind);have n:k<a.tmps.size:=by rw[h.size];exact p
  refine⟨λt x q=>?_,by simp[Bx,h.size],h.qv,?_,?_,?_,?_⟩
  ·have r:k≠t:=λe=>by grind
   simp[Bx,DB r,h.off t x q]
  ·intro t e c i;simp only[k8,bZ] at c;split at c
   ·rename_i f;cases c;subst f;simp[Bx,n,h1 (c0.1 i)]
   ·rename_i f;have:=h.yes t e c ((c1 e (bW c)).1 i);simp[Bx,DB f,this]
  ·intro t e c i;simp only[k8,bZ] at c;split at c
   ·rename_i f;cases c;subst f;simp[Bx,n,h0 (λj=>i (c0.2 j))]
   ·rename_i f;have:=h.no t e c (λj=>i ((c1 e (bW c)).2 j));simp[Bx,DB f,this]
  ·intro e hm;have key: ∀(ch) (g:Option Bool),(kh ops (a.put (some k) u).tmps ch<->kh ops a.tmps ch)->Th ops a.tmps ch g->Th ops (a.put (some k) u).tmps ch g:=by
    intro ch g s l;cases g with
    |none=>exact l
    |some γ=>exact⟨l.1,l.2.trans s.symm⟩
   simp only[k8,C7] at hm;rcases hm with rfl|hm
   ·exact key _ _ c0 o
   ·exact key _ _ (c1 e hm) (h.Fo e hm)
  ·intro e hm b hb;simp only[k8,C7] at hm;rcases hm with rfl|hm
   ·cases hb
   ·exact h.BG e hm b hb
def yD:AA->Option Bool
 | .bool b=>some b
 | _=>none
theorem lH {j d:Nat} (b:dE ops j=some d) {v:AA} (hv:a.tmps[d]? =some v):yielded ops a.tmps j=yD v:=by
 unfold yielded;unfold dE at b
 simp_all
 cases v<;>rfl
theorem eB:kh ops a.tmps []:=λb=>by simp
theorem Od (h:Fit S ops N D env a) {o:Oper} {ch:List (Nat×Bool)} {g:Option Bool} (c:gd ops env o=some (some (ch,g))):
 Th ops a.tmps ch g/\(B9 o (yielded ops a.tmps)=true<->kh ops a.tmps ch):=by
 unfold gd at c;unfold B9;split at c
 ·rename_i l;cases c;exact⟨rfl,by simp[kh,l]⟩
 ·rename_i j b l;split at c
  ·rename_i d p;split at c
   ·rename_i e f;split at c
    ·rename_i t u;obtain⟨hv,i⟩:=h.BG e (bW f) t u;have r:=lH (a:=a) p (h.yes d e f (by rw[i];exact eB));rw[hv] at r;split at c
     ·rename_i hb;cases c;refine⟨rfl,?_⟩;simp[l,r,yD,hb,kh]
     ·cases c
    ·split at c
     ·rename_i x v;cases c;have q:(yielded ops a.tmps j=some b)<->kh ops a.tmps e.ch/\x=b:=by
       by_cases hc:kh ops a.tmps e.ch
       ·have h1:=h.yes d e f hc;rw[lH (a:=a) p h1,v];simp[yD,hc]
       ·have h1:=h.no d e f hc;rw[lH (a:=a) p h1];simp[undef,yD,hc]
      have i:kh ops a.tmps ((j,b)::e.ch)<->yielded ops a.tmps j=some b:=by
       constructor
       ·intro m;exact m (j,b) Ij
       ·intro m y k;rcases C7.1 k with rfl|k
        ·exact m
        ·exact(q.1 m).1 y k
      refine⟨?_,?_⟩
      ·have n:=h.Fo e (bW f);cases s:e.g with
       |none=>
        rw[s] at n;have w:kh ops a.tmps e.ch:=by rw[show e.ch=[] from n];intro y k;cases k
        refine⟨by simp,?_⟩;rw[i,q];cases b<;>simp[w,lit]
       |some γ=>
        rw[s] at n;refine⟨by simp,?_⟩;rw[i,q, <-n.2];cases b<;>simp[lit]
      ·rw[i];simp[l]
     ·cases c
   ·cases c
  ·cases c
theorem Cr (h:Fit S ops N D env a) {o:Oper} (c:gd ops env o=some none):B9 o (yielded ops a.tmps)=false:=by
 unfold gd at c;unfold B9;split at c
 ·cases c
 ·rename_i j b m;split at c
  ·rename_i d g;split at c
   ·rename_i e f;split at c
    ·rename_i i k;obtain⟨hv,l⟩:=h.BG e (bW f) i k;have n:=lH g (h.yes d e f (by rw[l];exact eB))
     grind[yD]
    grind
   ·cases c
  ·cases c
theorem u9 {f:bS->bS} (a: ∀e,(f e).t=e.t): ∀{l:List bS} {t:Nat} {e:bS},bZ (l.map f) t=some e-> ∃b,bZ l t=some b/\e=f b
 |x::r,t,e,h=>by
  simp[bZ,a] at h ⊢;split at h
  grind
  ·rename_i c;rw[if_neg c];exact u9 a h
theorem DR (j:Nat) (b:Bool) (e:bS):(settle j b e).t=e.t:=by
 grind[settle]
theorem u_ {j:Nat} {b:Bool} (m:yielded ops a.tmps j=some b) (e:bS) (f:Th ops a.tmps e.ch e.g):
 Th ops a.tmps (settle j b e).ch (settle j b e).g/\(kh ops a.tmps e.ch->kh ops a.tmps (settle j b e).ch/\(settle j b e).v=e.v)/\(¬ kh ops a.tmps e.ch->(¬ kh ops a.tmps (settle j b e).ch\/(settle j b e).v=undef))/\
 (¬ kh ops a.tmps (settle j b e).ch-> ¬ kh ops a.tmps e.ch):=by
 unfold settle;split
 ·rename_i hc;have n: ¬ kh ops a.tmps e.ch:=λd=>by
   have:=d (j, !b)
   grind
  exact⟨rfl,λd=>absurd d n,λ_=> .inr rfl,λd=>absurd eB d⟩
 ·split
  ·rename_i p hc;have h:kh ops a.tmps e.ch<->kh ops a.tmps (e.ch.filter (λx=>x != (j,b))):=by
    constructor
    ·intro d x k;exact d x (BQ.1 k).1
    ·intro d x k;by_cases o:x=(j,b)
     ·rw[o];exact m
     ·exact d x (by grind)
   split
   ·rename_i i;rw[i] at h;exact⟨rfl,λ_=>⟨eB,rfl⟩,by grind,λd=>absurd eB d⟩
   ·rename_i c r i;rw[i] at h
    simp_all
    cases l:e.g with
    |none=>rw[l] at f;have:e.ch=[]:=f;rw[this] at hc;simp at hc
    |some γ=>rw[l] at f;exact⟨by simp,f.2.trans h⟩
  grind
theorem Fit.settle (h:Fit S ops N D env a) {j d:Nat} {b:Bool} {e:bS} (n:dE ops j=some d) (o:bZ env d=some e) (p:e.ch=[]) (hv:e.v= .bool b):
 Fit S ops N D (⟨d,[],none,.bool b,some b⟩::env.map (settle j b)) a:=by
 have h1:=h.yes d e o (by rw[p];exact eB);have k:=lH (a:=a) n h1;rw[hv] at k;refine⟨h.off,h.size,h.qv,?_,?_,?_,?_⟩
 ·intro t l g hc;simp only[bZ] at g;split at g
  grind
  ·obtain⟨c,f,rfl⟩:=u9 (DR j b) g;obtain⟨_,s1,w, _⟩:=u_ (a:=a) k c (h.Fo c (bW f));by_cases m:kh ops a.tmps c.ch
   ·rw[h.yes t c f m,(s1 m).2]
   ·rw[h.no t c f m]
    grind
 ·intro t l g hc;simp only[bZ] at g;split at g
  ·cases g;exact absurd eB hc
  ·obtain⟨c,f,rfl⟩:=u9 (DR j b) g;obtain⟨_, _, _,q⟩:=u_ (a:=a) k c (h.Fo c (bW f));exact h.no t c f (q hc)
 ·intro l hm;rcases C7.1 hm with rfl|hm
  ·exact rfl
  ·obtain⟨c,f,rfl⟩:=GI.1 hm;exact(u_ (a:=a) k c (h.Fo c f)).1
 ·intro l hm r i;rcases C7.1 hm with rfl|hm
  grind
  ·obtain⟨c,f,rfl⟩:=GI.1 hm;unfold RX.settle at i ⊢;split at i
   ·cases i
   ·rename_i s;rw[if_neg s];split at i
    grind
    ·rename_i u;rw[if_neg u];exact h.BG c f r i
variable {P:Al}
def dk (P:Al) (o:Oper) (a:Act) (w:A2) (v:AA):Prop:=
 match (execOp a.eval o).run P w with
 | .ok (.value u) w'=>w'=w/\u=v
 | .ok (.enter f args) w'=>w'=w/\Calls P f args w (λe b=>e= .returned v/\Ext w b)
 | _=>False
theorem bR {o:Oper} {a:Act} {w:A2} {v:AA} (h:(execOp a.eval o).run P w= .ok (.value v) w):dk P o a w v:=by
 grind[dk]
theorem cB: ∀(l:List Sc) (x:wS l),(b_ l x).length=l.length
 |[], _=>rfl
 | _::r,x=>by simp[b_,cB]
theorem vO {w:A2} {a:AN} {v:AA} (h:w.cell? a=some v):(load a).run P w= .ok v w:=by simp[h]
theorem run_loadCellsFrom {w:A2} {a:AN}: ∀(vs:List AA) (k:Nat) (b:Array AA),(∀i,i<vs.length->w.cell? (a.add (k+i))=vs[i]?)->
 (loadCellsFrom a k vs.length b).run P w= .ok (b++vs.toArray) w
 |[],k,b, _=>by rfl
 |v::vs,k,b,h=>by
  have h0:=by simpa using h 0
  have c:=run_loadCellsFrom vs _ (b.push v) λi hi=>by
   have:=h (i+1) (by grind);rw[show k+1+i=k+(i+1) by omega,this];rfl
  simp only[ND,loadCellsFrom,Av,vO h0,Ay,c];simp
theorem tr {w w':A2} (h:Ext w w') {p:Option AN} {el:El} {x:el.T} (c:cQ w p el x):cQ w' p el x:=by
 cases el with
 |one=>obtain⟨a,b,hc⟩:=c;exact⟨a,b,h.cell hc⟩
 |agg l=>
  obtain⟨a,b,hc⟩:=c;refine⟨a,b,λi hi=>?_⟩;have h1:=hc i hi;have d:i<(b_ l x).length:=by have:=cB l x;omega
  rw[If d] at h1 ⊢;exact h.cell h1
theorem tu {w:A2} {a:AN} {t:Ak} {el:El} {b:TypeInfo} {x:el.T} (h:uN P t=some el) (hi:P.info? t=some b)
 (f: ¬ pR el b.size=true) (e:cQ w (some a) el x):(loadVar t a).run P w= .ok (el.gZ x) w:=by
 unfold loadVar;cases el with
 |one s=>
  have c:km P t=some false:=by
   grind[uN,km,AB,Option.map_eq_some_iff]
  obtain⟨a',d,hc⟩:=e;cases d;simp only[Av,u7 c,Ay,E5,if_false,vO hc];rfl
 |agg l=>
  have c:km P t=some true:=by
   grind[uN,km,AB]
  obtain⟨a',d,hc⟩:=e;cases d;have g:l.length=b.size:=by simpa[pR] using f
  have:=run_loadCellsFrom (P:=P) (w:=w) (a:=a) (b_ l x) 0 #[] (by simpa[cB] using hc);rw[cB,g] at this;simp only[Av,u7 c,Ay,if_true,dq hi,loadCells,this];simp[El.gZ]
theorem TX {C:dI P} {w:A2} {a:AN} {t:Ak} {el:El} {c:TypeInfo} {x:el.T} (b:elC C t=some el) (hi:P.info? t=some c)
 (e: ¬ pR el c.size=true) (d:cQ w (some a) el x):(loadVar t a).run P w= .ok (el.gZ x) w:=by
 unfold elC at b;split at b
 ·rename_i h0;split at b
  ·cases b;have f:=d;exact tu (el:= .one .func) h0 hi ‹_› f
  grind[tu]
 ·exact tu b hi e d
theorem IF: ∀{l:List (Entry P)} {f:B3} {e:Entry P},ye l f=some e->e.f=f
 |x::r,f,e,h=>by
  simp[ye] at h;split at h
  grind
  ·exact IF h
theorem iv {g:Option Bool} {p:Prop} {ops:Array Oper} {tmps:Array AA} {ch:List (Nat×Bool)} (h:gD g p) (a:Th ops tmps ch g) (hc:kh ops tmps ch):p:=by
 cases g with
 |none=>exact h
 |some=>exact h (a.2.2 hc)
theorem tS {f:B3} {args:Array AA} {w:A2}
 (h:bK P f=true):
 (callFunc f args).run P w= .ok (.enter f args) w:=by
 unfold callFunc;unfold bK at h;cases a:P.funcs[f]? with
 |none=>simp[a] at h
 |some fn=>
  simp_all
  grind[fc]
theorem tw {ev:Operand->AA} {dst:Option Nat} {type:Ak} {pos:String} {after:Array Edge} {guard:Option (Nat×Bool)} {f:Operand} {args:Array Operand} {ts:Array Ak}
 {a:B3} {first cap:Array AA} {b:List AA} (c:ev f= .func (.func a) first cap) (d:args.toList.map ev=b) {w:A2}
 (h:bK P a=true):
 (execOp ev ⟨dst,.call ⟨.value f,args,ts⟩,type,pos,after,guard⟩).run P w= .ok (.enter a ⟨cX first b cap⟩) w:=by
 have e:first++args.map ev++cap=⟨cX first b cap⟩:=by
  simp_all[cX]
 simp only[execOp,resolve,Deferred.ofValue,c,Av,B1,Ay,invoke];rw[e];exact tS h
variable {S:Nat->Option (Option AA)} {ops:Array Oper} {N:Nat} {D:List Deferred} {env:List bS} {a:Act}
theorem zn {kd:B2} {n:Int}: ∀(l:List CX) (i0 i:Nat) (v:AA),FO (.int kd) (.int kd n) l i0=some (some (i,v))->i0<=i/\ ∃e,l[i - i0]? =some e/\e.key= .int kd n/\e.val=v
 |e::es,i0,i,v,h=>by
  unfold FO at h;split at h
  ·rename_i a;obtain⟨rfl,rfl⟩:=h;simp;cases b:e.key<;>rw[b] at a<;>simp[Instr.sameNow] at a
   grind
  ·obtain:=zn es (i0+1) i v h
   grind
  ·cases h
theorem AS {t d l:Ak} {kd:B2} {n:Int} {val:AA} {w:A2} {r:Nat} {es:Array CX} {f:Nat} {K:A2->Prop} (g:P.underlying t=some (.map d l)) (a:P.underlying d=some (.int kd)) (hb:bG w r es f)
 (h:gU w r kd n val es f K): ∃j,(K1 t (.map (some r)) (.int kd n) val).run P w= .ok () j/\K j:=by
 have b:=hb;have k:H6 (.int kd) (.int kd n):=by rfl
 unfold gU at h;split at h
 ·rename_i c;refine⟨_,?_,h⟩;simp[K1,run_underlying g,C9 b,DK a k,Dd a c,H7 _ b,DA,FS]
 ·rename_i i v c;obtain⟨_,e,m,o, _⟩:=zn _ _ _ _ c;refine⟨_,?_,h⟩;have p:=by simpa using m
  simp[K1,run_underlying g,C9 b,DK a k,Dd a c,p,o,Instr.keyThatStays,Instr.sameBits,H7 _ b,DA,FS]
 grind
theorem PB {t d e:Ak} {kd:B2} {n:Int} {w:A2} {p:Option Nat} {i:TypeInfo} {z v:AA} (f:P.underlying t=some (.map d e)) (a:P.underlying d=some (.int kd)) (hi:P.info? e=some i) (l:i.zero=some z)
 (h:jX w p kd n z v):(FP t (.map p) (.int kd n) false).run P w= .ok v w:=by
 obtain⟨r,es,m,rfl,hb,b⟩:=h;have g:=hb;have k:H6 (.int kd) (.int kd n):=by rfl
 split at b
 ·rename_i c;subst b;simp[FP,run_underlying f,C9 g,DK a k,Dd a c,zeroValue,fB hi,l]
 ·rename_i j u c;subst b;simp[FP,run_underlying f,C9 g,DK a k,Dd a c,DA]
 grind
theorem Kf {t d e:Ak} {kd:B2} {n:Int} {w:A2} {p:Option Nat} {i:TypeInfo} {z v:AA} {b:Bool} (f:P.underlying t=some (.map d e)) (a:P.underlying d=some (.int kd)) (hi:P.info? e=some i) (l:i.zero=some z)
 (h:mr w p kd n z v b):(FP t (.map p) (.int kd n) true).run P w= .ok (.tuple ⟨[v,.bool b]⟩) w:=by
 obtain⟨r,es,o,rfl,hb,m⟩:=h;have g:=hb;have k:H6 (.int kd) (.int kd n):=by rfl
 split at m
 ·rename_i c
  simp_all
  simp[FP,run_underlying f,C9 g,DK a k,Dd a c,zeroValue,fB hi,l,DA]
 ·rename_i j u c
  simp_all
  simp[FP,run_underlying f,C9 g,DK a k,Dd a c,DA]
 grind
theorem nW {w:A2} {p:Option AN} {k v:AA} (h:Ad w p k v):(Instr.entry (.pointer p)).run P w= .ok (.tuple ⟨[k,v]⟩) w:=by
 obtain⟨r,m,a,seen,es,b,e,rfl,c,hb,d,f,rfl,rfl⟩:=h;exact run_entry_at w r m a seen es b e c hb d f
theorem yN {w w':A2} {p:Option AN} {k v:AA} (a:Ext w w') (h:Ad w p k v):Ad w' p k v:=by
 obtain⟨r,m,b,seen,es,c,e,h1,d,hb,f⟩:=h;exact⟨r,m,b,seen,es,c,e,h1,a.obj d,a.obj hb,f⟩
theorem EU {ρ:Operand->Option AA} {c:Call} {p:Option Nat} (h:Ce P ρ c=some p): ∃x t a b,c.args= #[x]/\c.argTypes= #[t]/\P.underlying t=some (.map a b)/\ρ x=some (.map p):=by
 unfold Ce at h;split at h
 ·rename_i x t f g;split at h
  ·rename_i a b p' d e;cases h;refine⟨x,t,a,b,?_,?_,d,e⟩
   grind
   grind
  grind
 grind
theorem CN {ρ:Operand->Option AA} {c:Call} {p:Option Nat} (h:xx P ρ c=some p): ∃x t d a,c.args= #[x]/\c.argTypes= #[t]/\P.underlying t=some (.chan d a)/\ρ x=some (.chan p):=by
 unfold xx at h;split at h
 ·rename_i x t g i;split at h
  ·rename_i b a p' e f;cases h;refine⟨x,t,b,a,?_,?_,e,f⟩
   grind
   grind
  grind
 grind
theorem IG {w w':A2} {p q:Option AN} (e:Ext w w') (h:Xc w p q):Xc w' p q:=λa b h1 f g=>by
 obtain⟨⟨c,t,i⟩,d,u,j⟩:=h a b h1 f g;exact⟨⟨c,t,e.obj i⟩,d,u,e.obj j⟩
theorem YG {ρ:Operand->Option AA} {ev:Operand->AA} (j: ∀x v,ρ x=some v->ev x=v) {o:Oper} {p q:Option AN} {w:A2} (h:Cd P ρ o.op=some (p,q)) (k:Xc w p q):
 (execOp ev o).run P w= .ok (.value (.bool (decide (p=q)))) w:=by
 obtain⟨dst,op,type,pos,after,guard⟩:=o;unfold Cd at h;simp only at h;split at h
 ·rename_i t x y z;split at h
  ·rename_i e p' A f l m;split at h
   ·rename_i i hi;split at h
    ·cases h
    ·rename_i n;cases h;simp only[execOp,j _ _ l,j _ _ m];cases p with
     |none=>
      cases q with
      |none=>
       have:=eA (P:=P) (w:=w) λd=>nR f d none w;simp[eqGuard,binOp,this]
      |some b=>
       have:=eA (w:=w) λd=>nR f d (some b) w;simp[eqGuard,binOp,this]
     |some a=>
      cases q with
      |none=>
       have:=eA (P:=P) λd=>rT f d (some a) w;simp[eqGuard,binOp,this]
      |some b=>
       by_cases g:a=b
       ·subst g;have:=run_eql_ptr_same w a f hi;simp[eqGuard,this]
       ·obtain⟨⟨c,B,r⟩,d,u,s⟩:=k a b rfl rfl g;have:=run_eql_ptr_other w f hi n g r s;simp[eqGuard,this,g]
   ·cases h
  ·cases h
 ·cases h
theorem yE {C:dI P} {ch:List (Nat×Bool)} {g:Option Bool} {o:Oper} {w:A2} {K:AA->Prop} (l:Fit S ops N D env a) (G:Th ops a.tmps ch g)
 (h:oD C ops env ch g o w K): ∃v,K v/\(kh ops a.tmps ch-> ∀w',Ext w w'->dk P o a w' v):=by
 have Nl: ∀v,a.eval (.const v)=v:=λ_=>rfl;have pure: ∀(J:PR),pop P (xR env ch) o=some J->(match J.ob with|none=>K J.v|some p=>gD g p/\K J.v)->
  ∃v,K v/\(kh ops a.tmps ch-> ∀w',Ext w w'->dk P o a w' v):=by
  intro J E i;cases Q:J.ob with
  |none=>
   rw[Q] at i;exact⟨J.v,i,λhc w' _=>bR (OE (λx v A=>l.ev hc A) Nl E (λp L=>by rw[Q] at L;cases L) w')⟩
  |some p=>
   rw[Q] at i;exact⟨J.v,i.2,λhc w' _=>bR (OE (λx v A=>l.ev hc A) Nl E (λp' L=>by rw[Q] at L;cases L;exact iv i.1 G hc) w')⟩
 have R:(match pop P (xR env ch) o with|some ⟨none,v⟩=>K v|some ⟨some p,v⟩=>gD g p/\K v|none=>False)->
  ∃v,K v/\(kh ops a.tmps ch-> ∀w',Ext w w'->dk P o a w' v):=by
  intro T;split at T
  ·rename_i v E;exact pure ⟨none,v⟩ E T
  ·rename_i p v E;exact pure ⟨some p,v⟩ E T
  ·exact T.elim
 obtain⟨dst,op,type,pos,after,guard⟩:=o;unfold oD at h;cases op with
 |load t x=>
  simp only at h;split at h
  ·rename_i p el ti A H hi;split at h
   ·exact AC h
   ·rename_i hs;obtain⟨x',M,i⟩:=h;refine⟨_,i,λhc w' B=>bR ?_⟩;have S8:=tr B (iv M G hc);have E: ∃a0,p=some a0:=by cases el<;>(obtain⟨a0,h0, _⟩:=S8;exact⟨a0,h0⟩)
    obtain⟨a0,rfl⟩:=E;simp[execOp,Instr.loadAt,l.ev hc A,Hr,TX H hi hs S8]
  ·exact AC h
 |lookup xt m ix ok=>
  simp only at h;split at h
  ·rename_i U V p kd n F W X;split at h
   ·rename_i ZU el ti Y H hi;split at h
    ·rename_i z I;split at h
     ·rename_i Z;subst Z;obtain⟨x',M,i⟩:=h;refine⟨_,i,λhc w' B=>bR ?_⟩;have hl:=iv M G hc;have wH:jX w' p kd n z (el.gZ x'):=by
       obtain⟨r,es,O,h1,h2,h3⟩:=hl;exact⟨r,es,O,h1,B.obj h2,h3⟩
      simp only[execOp,Av,l.ev hc W,l.ev hc X,PB F Y hi I wH,Ay,B1]
     ·exact AC h
    ·exact AC h
   ·exact AC h
  ·rename_i U V p kd n F W X;split at h
   ·rename_i ZU el ti Y H hi;split at h
    ·rename_i z I;split at h
     ·rename_i Z;subst Z;obtain⟨x',b',M,i⟩:=h;refine⟨_,i,λhc w' B=>bR ?_⟩;have hl:=iv M G hc;have wH:mr w' p kd n z (el.gZ x') b':=by
       obtain⟨r,es,O,h1,h2,h3⟩:=hl;exact⟨r,es,O,h1,B.obj h2,h3⟩
      simp only[execOp,Av,l.ev hc W,l.ev hc X,Kf F Y hi I wH,Ay,B1]
     ·exact AC h
    ·exact AC h
   ·exact AC h
  ·exact AC h
 |pick c x y=>
  simp only at h;split at h
  ·rename_i t;split at h
   ·rename_i ec hec;have known: ∀(b:Bool),ec.k=some b->kh ops a.tmps ch->a.eval (.tmp t)= .bool b:=by
     intro b hb _;obtain⟨hv,qE⟩:=l.BG ec (bW hec) b hb;have:=l.yes t ec hec (by rw[qE];exact eB);simp[Fv,this,hv]
    split at h
    ·rename_i i;split at h
     ·rename_i v hv;refine⟨v,h,λhc w' _=>bR ?_⟩;have eb:=known true i hc;simp[execOp,eb,l.ev hc hv,asBool]
     ·exact AC h
    ·rename_i i;split at h
     ·rename_i v hv;refine⟨v,h,λhc w' _=>bR ?_⟩;have eb:=known false i hc;simp[execOp,eb,l.ev hc hv,asBool]
     ·exact AC h
    ·split at h
     ·rename_i j hj;have z6:dE ops j=some t:=by
       have:=NZ hj;simpa using this
      have key: ∀(b u v:Bool),xR env ch (.tmp t)=some (.bool b)->xR env ((j,true)::ch) x=some (.bool u)->xR env ((j,false)::ch) y=some (.bool v)->
       ∀w',kh ops a.tmps ch->dk P ⟨dst,.pick (.tmp t) x y,type,pos,after,guard⟩ a w' (.bool (bif b then u else v)):=by
       intro b u v hb F hv w' hc;refine bR ?_;have eb:=l.ev hc hb;have hyj:yielded ops a.tmps j=some b:=by
        unfold yielded;unfold dE at z6;simp only[z6,Option.bind_some];have:a.tmps[t]? =some (.bool b):=by
         unfold Fv at eb;simp only[Fu] at eb;cases ht:a.tmps[t]? with
         |none=>rw[ht] at eb;simp[undef] at eb
         |some z=>rw[ht] at eb;simp at eb;rw[eb]
        rw[this]
       cases b with
       |true=>
        have eu:=l.ev (ch:=(j,true)::ch) (λz I=>by
         rcases C7.1 I with rfl|I
         ·exact hyj
         ·exact hc z I) F
        simp[execOp,eb,eu,asBool]
       |false=>
        have eu:=l.ev (ch:=(j,false)::ch) (λz I=>by
         rcases C7.1 I with rfl|I
         ·exact hyj
         ·exact hc z I) hv
        simp[execOp,eb,eu,asBool]
      split at h
      ·rename_i b u v hb F hv;split at h
       ·cases (show v=false by simp only[xR,C8,Value.bool.injEq] at hv;exact hv.symm);refine⟨_,h,λhc w' _=>?_⟩;have:=key b u false hb F hv w' hc;cases b<;>exact this
       ·cases (show u=true by simp only[xR,C8,Value.bool.injEq] at F;exact F.symm);refine⟨_,h,λhc w' _=>?_⟩;have:=key b true v hb F hv w' hc;cases b<;>exact this
       ·exact⟨_,h,λhc w' _=>key b u v hb F hv w' hc⟩
      ·exact AC h
     ·exact AC h
   ·exact AC h
  ·exact AC h
 |call c=>
  obtain⟨callee,args,ts⟩:=c;cases callee with
  |value f=>
   simp only at h;split at h
   ·rename_i fY first cap acN hf has
    split at h
    ·rename_i rh;split at h
     ·rename_i e H;split at h
      ·rename_i pre v abN;refine⟨v,h.2,λhc w' _=>?_⟩;have dP:=tw (P:=P) (dst:=dst) (type:=type) (pos:=pos) (after:=after) (guard:=guard) (ts:=ts) (l.ev hc hf) (ma (λx v A=>l.ev hc A) has) (w:=w') rh;unfold dk;rw[dP];refine⟨rfl,?_⟩;have:=e.ok _ _ _ abN (iv h.1 G hc) w';rw[IF H] at this;exact this
      ·exact AC h
     ·obtain⟨x,hq,i⟩:=h;refine⟨_,i,λhc w' B=>?_⟩;have dP:=tw (P:=P) (dst:=dst) (type:=type) (pos:=pos) (after:=after) (guard:=guard) (ts:=ts) (l.ev hc hf) (ma (λx v A=>l.ev hc A) has) (w:=w') rh;unfold dk;rw[dP];exact⟨rfl,iv hq G hc w' B⟩
    ·exact AC h
   ·exact AC h
  |invoke r m=>exact R h
  |builtin b=>
   cases b with
   |len=>
    simp only at h;split at h
    ·rename_i p E;obtain⟨n,hn,i⟩:=h;refine⟨_,i,λhc w' B=>bR ?_⟩;obtain⟨x,t,U,V,rfl,rfl,F,A⟩:=EU E;obtain⟨r,es,O,rfl,hb,rfl⟩:=iv hn G hc;have sg:w'.heap[r]? =some (.map es O):=B.obj hb;simp[execOp,resolve,invoke,builtin,GD,l.ev hc A,run_underlying F,C9 sg,goInt,DA]
    ·split at h
     ·rename_i p E;obtain⟨n,hn,i⟩:=h;refine⟨_,i,λhc w' B=>bR ?_⟩;obtain⟨x,t,U,V,rfl,rfl,F,A⟩:=CN E;obtain⟨r,cap,rb,s,m,rfl,hb,rfl⟩:=iv hn G hc;have sg:w'.heap[r]? =some (.chan cap ⟨rb⟩ false s m false):=B.obj hb;have uF:(getObj r).run P w'= .ok (.chan cap ⟨rb⟩ false s m false) w':=by simp[getObj,Sem.run,sg]
      simp[execOp,resolve,invoke,builtin,GD,l.ev hc A,run_underlying F,uF,goInt,DA]
     ·exact R h
   | _=>exact R h
 |entry it=>
  simp only at h;split at h
  ·rename_i p d A;split at h
   ·obtain⟨x,v,H,i⟩:=h;refine⟨_,i,λhc w' B=>bR ?_⟩;simp only[execOp,Av,l.ev hc A,nW (yN B (iv H G hc)),Ay,B1]
   ·obtain⟨x,v,H,i⟩:=h;refine⟨_,i,λhc w' B=>bR ?_⟩;simp only[execOp,Av,l.ev hc A,nW (yN B (iv H G hc)),Ay,B1]
   ·obtain⟨x,v,H,i⟩:=h;refine⟨_,i,λhc w' B=>bR ?_⟩;simp only[execOp,Av,l.ev hc A,nW (yN B (iv H G hc)),Ay,B1]
   ·exact AC h
  ·exact AC h
 |binOp op t x y yt=>
  simp only at h;split at h
  ·rename_i v E;exact pure ⟨none,v⟩ E h
  ·rename_i p v E;exact pure ⟨some p,v⟩ E h
  ·split at h
   ·rename_i p q E;obtain⟨hq,i⟩:=h;exact⟨_,i,λhc w' B=>bR (YG (o:=⟨dst,.binOp op t x y yt,type,pos,after,guard⟩) (λx v A=>l.ev hc A) E (IG B (iv hq G hc)))⟩
   ·exact AC h
 | _=>exact R h
variable {P:Al}
def WF (r:Option Nat):Fence:={Dk with round:=r}
theorem jR {r:Option Nat} {n:Nat} {f:B3} {args:Array AA} {w:A2} {R:Ending->A2->Prop}:CallsIn (WF r) n P f args w R<->Calls P f args w R:=
 callsIn_wide
theorem WC (r:Option Nat) (f:B3):(WF r).fn f:=trivial
theorem IH (r:Option Nat) (n:Nat):(WF r).room n:=room_wide n
theorem zS {w:A2} {p q:AN} {v:AA} (h:(w.cell? q).isSome=true):((w.setCell p v).cell? q).isSome=true:=by
 unfold LL at h ⊢;simp[M4]
 grind
theorem S6 {w:A2} {p q:AN} {v:AA}:(w.setCell p v).frozen? q=w.frozen? q:=by
 simp
theorem CO {w:A2} {a:AN} {v:AA} (hv:v.oneCell'=true) (h:(w.cell? a).isSome=true) (b:w.frozen? a=false):(store a v).run P w= .ok () (w.setCell a v):=by
 rw[run_store P w a v _ hv]
 grind
theorem ji: ∀(vs:List AA) (a:AN) (i:Nat) (w:A2),DP vs=true->(∀j,j<vs.length->(w.cell? (a.add (i+j))).isSome=true/\w.frozen? (a.add (i+j))=false)->
 (storeCells a vs i).run P w= .ok () (putAt w a vs i)
 |[],a,i,w, _, _=>by rfl
 |v::r,a,i,w,b,h=>by
  simp only[DP,Ia,B8] at b;have h0:=h 0;simp at h0;have c:=ji r a (i+1) (w.setCell (a.add i) v) b.2 (λj d=>by
   simp_all
   grind[zS])
  simp[storeCells,CO b.1 h0.1 h0.2,c,putAt]
theorem wrap_i64 {n:Int} (h0: -(2 ^ 63)<=n) (h1:n<2 ^ 63):Ds.wrap n=n:=by
 show(if(true&&decide (n % 2 ^ 64>=2 ^ 63))=true then n % 2 ^ 64 - 2 ^ 64 else n % 2 ^ 64)=n
 grind
theorem run_makeSlice {t e:Ak} {i:TypeInfo} {z:AA} (b:P.underlying t=some (.slice e)) (hi:P.info? e=some i) (c:i.zero=some z) (k d:B2) {n m:Int} (h:aad i.bytes n m) (w:A2):
 (S7 t (.int k n) (.int d m)).run P w= .ok (.slice (some ⟨w.heap.size,0,none⟩) n.toNat m.toNat) (w.alloc (.cells (nG z.cells (m.toNat*i.size)) e)):=by
 obtain⟨h0,h1,p,q⟩:=h;have wn:Ds.wrap n=n:=wrap_i64 (by omega) (by omega);have f:Ds.wrap m=m:=wrap_i64 (by omega) (by omega);have g: ¬ m<0:=by omega
 have j: ¬ n<0:=by omega
 have l: ¬ n>m:=by omega
 have o: ¬ (i.bytes*m>2 ^ 48):=by omega
 unfold S7;simp only[Av,bC b,Ay,asInt,asIntOf,B1,fB hi,wn,f,g,j,l,o,decide_false,JM,E5,if_false,run_askRoom,dq hi,newRow];by_cases a:m.toNat*i.size=0
 ·simp[a,nG]
 ·simp[a,nG,zeroValue,fB hi,c]
theorem xy {w:A2} {p:Option AN} {n size len cap:Nat} {vs:List AA} (h:oE w p (n*size) vs):(FY size n (.slice p len cap)).run P w= .ok ⟨vs⟩ w:=by
 cases p with
 |none=>subst h;rfl
 |some a=>
  obtain⟨b⟩:=h;have:=run_loadCellsFrom (P:=P) (w:=w) (a:=a) vs 0 #[] (by grind);rw[b] at this;simp only[FY,loadCells,this];simp
theorem DU {w:A2} {p:Option AN} {n:Nat} {vs:List AA} (h:oE w p n vs):oE w.drew p n vs:=h
theorem PC {ts:Array Ak} {t u e:Ak} {i:TypeInfo} {ty:Ak} {p q:Option AN} {n m k l:Nat} (c:ts= #[t,u]) (d:P.underlying t=some (.slice e))
 (hi:P.info? e=some i) {w:A2} {R:Int->A2->Prop} (h:cpR w i.size (p,n) (q,k) R):
 ∃r b,(T6 ts ty #[.slice p n m,.slice q k l]).run P w= .ok (.int .i64 r) b/\R r b:=by
 subst c;obtain⟨new,f,g,j⟩:=h;have o:(FY i.size _ (.slice q k l)).run P w= .ok ⟨new⟩ w:=xy f;refine⟨_, _,?_,j⟩;unfold T6;have h0: #[t,u][0]? =some t:=rfl;simp only[h0,Ik,GJ,In,Av,bC d,Ay,dq hi,M5,B1,o];cases p with
 |none=>
  rfl
 |some a=>
  rcases g with h|rfl|⟨⟨a',s,hc⟩,v⟩
  ·cases h
  ·rfl
  ·cases s;have x:=ji (P:=P) new a 0 w v (by grind);simp only[Av,x,Ay,B1,goInt];rfl
theorem Gx {ts:Array Ak} {t u e y:Ak} {i:TypeInfo} {z:AA} {ty:Ak} {p q:Option AN} {n m k l:Nat} (A:ts= #[t,u]) (f:P.underlying t=some (.slice e)) (g:P.underlying u=some (.slice y))
 (hi:P.info? e=some i) (B:i.zero=some z) (hb:i.bytes≠0) {w:A2} {R:Option AN×Nat×Nat->A2->Prop} (h:mD w e i.size i.bytes z.cells (p,n,m) (q,k,l) R):
 ∃r o,(N5 ts ty #[.slice p n m,.slice q k l]).run P w= .ok (.slice r.1 r.2.1 r.2.2) o/\R r o:=by
 subst A;obtain⟨fP,new,C,s,D,E⟩:=h;have F:(FY i.size k (.slice q k l)).run P w= .ok ⟨new⟩ w:=xy s;by_cases b:n+k<=m
 ·obtain⟨G,d⟩:=D b;refine⟨_, _,?_,d⟩;unfold N5;have h0:(#[t,u]:Array Ak)[0]? =some t:=rfl;have h1:(#[t,u]:Array Ak)[1]? =some u:=rfl;simp only[h0,h1,Ik,GJ,In,Av,bC f,bC g,Ay,dq hi,M5,B1,E5,if_false,b,if_true,OL,F];cases p with
  |none=>
   simp only[B1,jC,TA]
  |some a=>
   rcases G with rfl|⟨⟨a',v,hc⟩,H⟩
   ·simp[storeCells,jC,putAt]
   ·simp only[GG,C8] at v;subst v;have I:=ji (P:=P) new (a.add (n*i.size)) 0 w H (λj J=>by simpa using hc j J);rw[Av,I];rfl
 ·obtain⟨K,d⟩:=E (by show m<n+k;omega);have L:=λc hc=>d c hc;have M: ∀(x:Nat),n+k<=(Question.appendCap (n+k) m e).cut x:=λx=>by simp[Question.cut]
  refine⟨_, _,?_,L ((Question.appendCap (n+k) m e).cut (w.tape w.drawn (.appendCap (n+k) m e))) (M _)⟩;unfold N5;have h0:(#[t,u]:Array Ak)[0]? =some t:=rfl;have h1:(#[t,u]:Array Ak)[1]? =some u:=rfl;have N: ¬ (((n+k:Nat):Int)>Ds.max/\(False\/i.bytes=0)):=by simp[hb]
  have O: ¬ (T3 (n+k) m*i.bytes>2 ^ 48):=by simp only at K;omega
  have Q:(FY i.size n (.slice p n m)).run P w.drew= .ok ⟨fP⟩ w.drew:=xy (DU C);have S:(FY i.size k (.slice q k l)).run P w.drew= .ok ⟨new⟩ w.drew:=xy (DU s);simp only[h0,h1,Ik,GJ,In,Av,bC f,bC g,Ay,dq hi,M5,B1,E5,if_false,b,OL,if_true,
   fB hi]
  rw[if_neg N];simp only[Av,fB hi,Ay,O,if_false,run_choose_drew,Question.forced,E5,run_askRoom,Q,S,zeroValue,B,newRow,B1,run_newObj_alloc];rfl
theorem zT {t e:Ak} {i:TypeInfo} {z:AA} {len:Nat} {parts:Array (Nat×AA)} {ps:List (Nat×AA)} {cs:Array AA} (c:P.underlying t=some (.slice e)) (hi:P.info? e=some i) (d:i.zero=some z)
 (f:parts.toList=ps) (g:AE (λk=>some (k*i.size,i.size)) ⟨(B5 (len*i.size)).map (z.cells.toList[· % z.cells.toList.length]!)⟩ ps=some cs) (j:len*i.size<=2 ^ 24) (w:A2):
 (T0 t len parts).run P w= .ok (.slice (some ⟨w.heap.size,0,none⟩) len len) (w.alloc (.cells cs e)):=by
 have h: ¬ len*i.size>2 ^ 24:=by omega
 have a:HB (λk=>some (k*i.size,i.size)) ((Array.range (len*i.size)).map ((if len*i.size=0 then #[] else z.cells)[· % (if len*i.size=0 then #[] else z.cells).size]!)) ps=some cs:=by
  rw[<-yL g];congr 1
  grind
 unfold T0;simp only[Av,bC c,Ay,dq hi,h,newRow];by_cases b:len*i.size=0
 simp_all
 ·simp only[b,if_false] at a;simp only[b,if_false,zeroValue,Av,fB hi,Ay,d,B1,f,a];simp
theorem cP {r:Option Nat} {ev:Operand->AA} {o:Oper} (h: ∀c,o.op≠ .defer c):o.semAt (WF r).round ev=execOp ev o:=Oper.semAt_eq _ _ _ h
variable {S:Nat->Option (Option AA)} {ops:Array Oper} {N:Nat} {D:List Deferred} {env:List bS} {a:Act}
def eT (o:Oper):Bool:=
 match o.op with
 | .alloc _| .box .. | .buildSlice .. | .makeSlice .. | .makeMap .. | .makeChan .. =>true
 | _=>false
def BT (C:dI P) (o:Oper):Bool:=
 match o.op with
 | .move _| .assign _| .pick .. | .alloc _| .box .. | .buildSlice .. | .makeSlice .. | .makeMap .. | .makeChan .. | .build .. | .load .. | .nilCheck _| .binOp .. | .unOp .. | .convert .. | .makeFunc .. | .slice .. | .fieldAddr .. | .field .. | .indexAddr .. | .index .. | .extract .. | .lookup .. =>false
 | .call c=>match c.callee with
   | .value (.func f)=> !((ye C.si f).isSome||C.quiet.contains f)
   | .builtin .len| .builtin .min| .builtin .max=>false
   | _=>true
 | _=>true
theorem PD {C:dI P} {ρ:Operand->Option AA} {o:Oper} (a: ∀f,ρ (.func f)=some (.func (.func f) #[] #[])) (h:BT C o=false) (b:Oc C ρ o=true):eT o=true:=by
 grind[BT,Oc,eT]
theorem Gy {P:Al} {ts:Array Ak} {ty t u d k:Ak} {kd:B2} {n:Int} {w:A2} {r:Nat} {es:Array CX} {e:Nat} {K:A2->Prop} (l:ts= #[t,u]) (f:P.underlying t=some (.map d k)) (a:P.underlying d=some (.int kd)) (hb:bG w r es e)
 (h:Ac w r kd n es e K): ∃g,(N7 ts ty #[.map (some r),.int kd n]).run P w= .ok (.tuple #[]) g/\K g:=by
 subst l;have b:=hb;have j:H6 (.int kd) (.int kd n):=by rfl
 unfold Ac at h;split at h
 ·rename_i c;refine⟨_,?_,h⟩;simp[N7,run_underlying f,C9 b,DK a j,Dd a c,H7 _ b,FS]
 ·rename_i i v c;refine⟨_,?_,h⟩;simp[N7,run_underlying f,C9 b,DK a j,Dd a c,H7 _ b,DA,FS]
 grind
theorem YI {r:Option Nat} {o:Oper} {w w':A2} {K:AA->A2->Prop} {next:Act->A2->Prop} {Q:Exit->Act->A2->Prop} (A:Fit S ops N D env a)
 {C:dI P} (h:eop C (xR env []) o w K) (I:Ext w w') (G: ∀v H,K v H->(eT o=true->Ext w' H)->next (a.put o.dst v) H):o.wpIn (WF r) 0 P a w' next Q:=by
 have hc:kh ops a.tmps []:=λx g=>by cases g
 refine⟨λ_ _=>trivial,?_⟩;obtain⟨dst,op,type,pos,after,guard⟩:=o;unfold eop at h;cases op<;>simp only at h<;>(try exact AC h)
 case store t x y=>
  rw[cP (by simp)];split at h
  ·rename_i p v i g hy hi;split at h
   ·rename_i R;obtain⟨⟨ho,a0,hp,YJ⟩,B⟩:=h w' I;subst hp;have iu:v.cells.size=i.size:=by simpa[uW] using R
    have vo:=ji (P:=P) (uW v) a0 0 w' ho (λj hj=>by simpa using YJ j hj);have:(execOp a.eval ⟨dst,.store t x y,type,pos,after,guard⟩).run P w'= .ok .skip (jC w' (some a0) (uW v)):=by
     simp only[execOp,Instr.storeAt,A.ev hc g,A.ev hc hy,Hr,storeVar,Av,B1,Ay,dq hi,iu,ne_eq,not_true,if_false];rw[show v.cells.toList=uW v from rfl,vo];rfl
    rw[this];exact G _ _ B (λE=>by simp[eT] at E)
   ·exact AC h
  ·exact AC h
 case mapUpdate t m x v=>
  rw[cP (by simp)];split at h
  ·rename_i kt T p kd n val J U g hv;split at h
   ·rename_i ZU V;split at h
    ·rename_i W;subst W;obtain⟨r,es,M,rfl,hb,X⟩:=h w' I;obtain⟨H,dP,B⟩:=AS J V hb X;have:(execOp a.eval ⟨dst,.mapUpdate t m x v,type,pos,after,guard⟩).run P w'= .ok .skip H:=by
      simp only[execOp,Av,A.ev hc U,A.ev hc g,A.ev hc hv,dP,Ay,B1]
     rw[this];exact G _ _ B (λE=>by simp[eT] at E)
    ·exact AC h
   ·exact AC h
  ·exact AC h
 case insert t m x v=>
  rw[cP (by simp)];split at h
  ·rename_i kt T p kd n val J U g hv;split at h
   ·rename_i ZU V;split at h
    ·rename_i W;subst W;obtain⟨r,es,M,rfl,hb,X⟩:=h w' I;obtain⟨H,dP,B⟩:=AS J V hb X;have:(execOp a.eval ⟨dst,.insert t m x v,type,pos,after,guard⟩).run P w'= .ok .skip H:=by
      simp only[execOp,Av,A.ev hc U,A.ev hc g,A.ev hc hv,dP,Ay,B1]
     rw[this];exact G _ _ B (λE=>by simp[eT] at E)
    ·exact AC h
   ·exact AC h
  ·exact AC h
 case alloc e=>
  rw[cP (by simp)];split at h
  ·rename_i i hi;split at h
   ·rename_i z O;have h:aM w z.cells e (λb H=>K (.pointer (some ⟨b,0,none⟩)) H):=by
     have e1:X4 P e=z.cells:=by unfold X4;simp only[hi,O]
     split at h
     ·rw[e1] at h;exact h
     ·exact h
    have B:=h w' I;have:(execOp a.eval ⟨dst,.alloc e,type,pos,after,guard⟩).run P w'= .ok (.value (.pointer (some ⟨w'.heap.size,0,none⟩))) (w'.alloc (.cells z.cells e)):=by
     simp[execOp,Instr.alloc,zeroValue,fB hi,O,newVar,newRow]
    rw[this];exact G _ _ B (λ_=>Ext.alloc _ _)
   ·exact AC h
  ·exact AC h
 case box e x=>
  rw[cP (by simp)];split at h
  ·rename_i v hv;have B:=h w' I;have:(execOp a.eval ⟨dst,.box e x,type,pos,after,guard⟩).run P w'= .ok (.value (.pointer (some ⟨w'.heap.size,0,none⟩))) (w'.alloc (.cells v.cells e)):=by
    simp[execOp,Instr.box,A.ev hc hv,newVar,newRow]
   rw[this];exact G _ _ B (λ_=>Ext.alloc _ _)
  ·exact AC h
 case buildSlice t len parts=>
  rw[cP (by simp)];split at h
  ·rename_i el ps J Tg;split at h
   ·rename_i i hi;split at h
    ·rename_i z O;split at h
     ·rename_i cs fV;split at h
      ·rename_i hlen;have B:=h w' I;have e:=yM (λx v g=>A.ev hc g) Tg;have e':(parts.map λ(i,x)=>(i,a.eval x)).toList=ps:=by rw[<-e];simp
       have dP:=zT (P:=P) J hi O e' fV hlen w';have:(execOp a.eval ⟨dst,.buildSlice t len parts,type,pos,after,guard⟩).run P w'= .ok (.value (.slice (some ⟨w'.heap.size,0,none⟩) len len)) (w'.alloc (.cells cs el)):=by
        simp only[execOp,Av,dP,Ay,B1]
       rw[this];exact G _ _ B (λ_=>Ext.alloc _ _)
      ·exact AC h
     ·exact AC h
    ·exact AC h
   ·exact AC h
  ·exact AC h
 case makeSlice t l c=>
  rw[cP (by simp)];split at h
  ·rename_i el k n k' m J hl BH;split at h
   ·rename_i i hi;split at h
    ·rename_i z O;obtain⟨jS,B⟩:=h w' I;have dP:=run_makeSlice (P:=P) J hi O k k' jS w';have:(execOp a.eval ⟨dst,.makeSlice t l c,type,pos,after,guard⟩).run P w'= .ok (.value (.slice (some ⟨w'.heap.size,0,none⟩) n.toNat m.toNat)) (w'.alloc (.cells (nG z.cells (m.toNat*i.size)) el)):=by
      simp only[execOp,A.ev hc hl,A.ev hc BH,Av,dP,Ay,B1]
     rw[this];exact G _ _ B (λ_=>Ext.alloc _ _)
    ·exact AC h
   ·exact AC h
  ·exact AC h
 case makeMap t rs=>
  rw[cP (by simp)];split at h
  ·have B:=h w' I;have:(execOp a.eval ⟨dst,.makeMap t none,type,pos,after,guard⟩).run P w'= .ok (.value (.map (some w'.heap.size))) (w'.alloc (.map #[] 0)):=by
    simp[execOp,Instr.makeMap]
   rw[this];exact G _ _ B (λ_=>Ext.alloc _ _)
  ·exact AC h
 case makeChan t sz=>
  rw[cP (by simp)];split at h
  ·rename_i d e k n J R;split at h
   ·rename_i i hi;split at h
    ·rename_i hn;have B:=h w' I;have hb: ¬ (n<0\/n>Ds.max\/i.bytes*n>2 ^ 48 - 112):=by
      have:Ds.max=9223372036854775807:=by decide
      omega
     have:(execOp a.eval ⟨dst,.makeChan t sz,type,pos,after,guard⟩).run P w'= .ok (.value (.chan (some w'.heap.size))) (w'.alloc (.chan n.toNat #[] false 0 0 false)):=by
      have sg: ¬ (n<0\/9223372036854775807<n\/281474976710544<(i.bytes:Int)*n):=by omega
      simp[execOp,Instr.makeChan,A.ev hc R,asInt,asIntOf,run_underlying J,fB hi];exact λc=>absurd c sg
     rw[this];exact G _ _ B (λ_=>Ext.alloc _ _)
    ·exact AC h
   ·exact AC h
  ·exact AC h
 case range xt x=>
  rw[cP (by simp)];split at h
  ·rename_i kt T p J g;obtain⟨r,es,M,rfl,hb,B⟩:=h w' I;have sg:w'.heap[r]? =some (.map es M):=hb;have:(execOp a.eval ⟨dst,.range xt x,type,pos,after,guard⟩).run P w'= .ok (.value (.pointer (some ⟨w'.heap.size,0,none⟩))) (w'.alloc (.mapIter (some r) M #[] M)):=by
    simp[execOp,Instr.range,A.ev hc g,run_underlying J,C9 sg,DA]
   rw[this];exact G _ _ B (λE=>by simp[eT] at E)
  ·exact AC h
 case next it b=>
  rw[cP (by simp)];split at h
  ·rename_i p g;obtain⟨r,m,since,seen,last,es,M,rfl,hr,hb,wI,hold,k0,k1⟩:=h w' I;rcases run_next_at (P:=P) w' type r m since last seen es M hr hb hold wI with ⟨h0,dP⟩|⟨e,L,w1,wJ,dP⟩
   ·have:(execOp a.eval ⟨dst,.next it false,type,pos,after,guard⟩).run P w'= .ok (.value (.tuple ⟨[.bool false]⟩)) w':=by
     simp only[execOp,Av,A.ev hc g,dP,Ay,B1]
    rw[this];refine G _ _ (k0 (λe L=>?_) w' (Ext.refl _)) (λE=>by simp[eT] at E);unfold leftOf at h0;have h1:=Array.eq_empty_of_size_eq_zero h0;rw[Array.filter_eq_empty_iff] at h1;simpa using h1 e (by simpa using L)
   ·have:(execOp a.eval ⟨dst,.next it false,type,pos,after,guard⟩).run P w'= .ok (.value (.tuple ⟨[.bool true,e.key,e.val]⟩)) (w1.putObj r (.mapIter (some m) since (seen.push e.born) M)):=by
     simp only[execOp,Av,A.ev hc g,dP,Ay,B1];rfl
    rw[this];unfold leftOf at L;have jV:e∈es.toList/\seen.contains e.born=false:=by simpa using L
    refine G _ _ (k1 e jV.1 jV.2 w1 ?_) (λE=>by simp[eT] at E);rcases wJ with rfl|rfl
    ·exact Ext.refl _
    ·exact⟨rfl,rfl,rfl,Df _,λk B=>rfl⟩
  ·exact AC h
 case call c=>
  obtain⟨callee,args,ts⟩:=c;rw[cP (by simp)];simp only at h;split at h
  ·
   split at h
   ·rename_i m x t u Oe aae;split at h
    ·rename_i kt T p kd n J U g;split at h
     ·rename_i ZU V;split at h
      ·rename_i W;subst W;obtain⟨r,es,M,rfl,hb,X⟩:=h w' I;have Y:args= #[m,x]:=by cases args;simp_all
       have et':ts= #[t,u]:=by cases ts;simp_all
       obtain⟨H,dP,B⟩:=Gy (P:=P) (ty:=type) et' J V hb X;have:(execOp a.eval ⟨dst,.call ⟨.builtin .delete,args,ts⟩,type,pos,after,guard⟩).run P w'= .ok (.value (.tuple ⟨[]⟩)) H:=by
        subst Y;simp only[execOp,resolve,Av,B1,Ay,invoke,builtin,GS,Ga,Gd,A.ev hc U,A.ev hc g,dP]
       rw[this];exact G _ _ B (λE=>by simp[eT] at E)
      ·exact AC h
     ·exact AC h
    ·exact AC h
   ·exact AC h
  ·
   split at h
   ·rename_i s x t u Oe aae;split at h
    ·rename_i e ue p n m q k l J hu' R g;split at h
     ·rename_i i hi;split at h
      ·rename_i z O;split at h
       ·exact AC h
       ·rename_i hb;have Tj:=h w' I;have Y:args= #[s,x]:=by cases args;simp_all
        have T:ts= #[t,u]:=by cases ts;simp_all
        obtain⟨res,H,dP,Z⟩:=Gx (P:=P) (ty:=type) T J hu' hi O hb Tj;have:(execOp a.eval ⟨dst,.call ⟨.builtin .append,args,ts⟩,type,pos,after,guard⟩).run P w'= .ok (.value (.slice res.1 res.2.1 res.2.2)) H:=by
         subst Y;simp only[execOp,resolve,Av,B1,Ay,invoke,builtin,GS,Ga,Gd,A.ev hc R,A.ev hc g,dP]
        rw[this];exact G _ _ Z (λE=>by simp[eT] at E)
      ·exact AC h
     ·exact AC h
    ·exact AC h
   ·exact AC h
  ·
   split at h
   ·rename_i s x t u Oe aae;split at h
    ·rename_i e p n m q k l J R g;split at h
     ·rename_i i hi;have Tj:=h w' I;have Y:args= #[s,x]:=by cases args;simp_all
      have T:ts= #[t,u]:=by cases ts;simp_all
      obtain⟨res,H,dP,Z⟩:=PC (P:=P) (ty:=type) (m:=m) (l:=l) T J hi Tj;have:(execOp a.eval ⟨dst,.call ⟨.builtin .copy,args,ts⟩,type,pos,after,guard⟩).run P w'= .ok (.value (.int .i64 res)) H:=by
       subst Y;simp only[execOp,resolve,Av,B1,Ay,invoke,builtin,GS,Ga,Gd,A.ev hc R,A.ev hc g,dP]
      rw[this];exact G _ _ Z (λE=>by simp[eT] at E)
     ·exact AC h
    ·exact AC h
   ·exact AC h
  ·rename_i f;split at h
   ·
    rename_i s t;split at h
    ·rename_i v acN hf has;obtain⟨fY,first,cap,rfl,rh,B⟩:=h w' I;have dP:=tw (P:=P) (dst:=dst) (type:=type) (pos:=pos) (after:=after) (guard:=guard) (ts:=ts) (A.ev hc hf) (ma (λx v g=>A.ev hc g) has) (w:=w') rh;rw[dP];refine⟨by simp[WF,Dk],?_⟩;refine(jR (n:=0 - 1)).2 ?_;refine FN B λe H ⟨x,L,g⟩=>?_;subst L;exact G _ _ g (λE=>by simp[eT] at E)
    ·exact AC h
   rename_i f _ _ _;split at h
   ·
    rename_i l first cp acN hf has
    obtain⟨rec,Ae,hlen,YK⟩:=h w' I;have e:(first++args.map a.eval:Array AA)=⟨first.toList++acN⟩:=by
     have:=ma (λx v g=>A.ev hc g) has;rw[<-this];obtain⟨l1⟩:=first;obtain⟨l2⟩:=args
     simp
    have dP:=run_yield (P:=P) (args:=⟨first.toList++acN⟩) Ae (by simpa using hlen);have:(execOp a.eval ⟨dst,.call ⟨.value f,args,ts⟩,type,pos,after,guard⟩).run P w'= .ok (.round l rec.fn ((rec.params.zip ⟨first.toList++acN⟩).foldl (λtmps (t,a)=>tmps.setIfInBounds t a) rec.tmps) rec.assign rec.body) w':=by
     simp only[execOp,resolve,Deferred.ofValue,A.ev hc hf,Av,B1,Ay,invoke];rw[e,dP]
    rw[this];refine⟨by simp[WF,Dk],?_⟩;refine RoundIn.mono (F:=WF r) (n:=0 - 1) YK λe H ⟨b,L,Z⟩=>?_;subst L;exact G _ _ Z (λE=>by simp[eT] at E)
   ·rename_i fY first cap acN hf has
    split at h
    ·rename_i rh;have B:=h w' I;have dP:=tw (P:=P) (dst:=dst) (type:=type) (pos:=pos) (after:=after) (guard:=guard) (ts:=ts) (A.ev hc hf) (ma (λx v g=>A.ev hc g) has) (w:=w') rh;rw[dP];refine⟨by simp[WF,Dk],?_⟩;refine(jR (n:=0 - 1)).2 ?_;refine FN B λe H ⟨x,L,g⟩=>?_;subst L;exact G _ _ g (λE=>by simp[eT] at E)
    ·exact AC h
   ·exact AC h
  ·exact AC h
theorem AT {o:Oper} {c:Call} (b:o.op= .defer c) {w:A2} {v:AA} (h:dk P o a w v):False:=by
 obtain⟨dst,op,type⟩:=o;unfold dk execOp at h
 simp_all
 generalize (resolve _ c type).run P w=res at h;cases res<;>simp at h
def Wr (S:Nat->Option (Option AA)) (ops:Array Oper):Prop:= ∀o∈ops, ∀k,o.dst=some k->S k=none
theorem CP {α:Type} {l:List α} (h:l.getLast?=none):l=[]:=List.getLast?_eq_none_iff.1 h
theorem yO {r:Option Nat} {C:dI P} {i:Nat} {o:Oper} {Q:Exit->Act->A2->Prop} (y:ops[i]? =some o) (l: ∀k,o.dst=some k->S k=none):
 ∀(n:Nat) (env:List bS) (w w':A2) (K:List bS->A2->Prop),Fit S ops N D env a->NR C ops N o n env w K->Ext w w'->
 wpOpIn (WF r) 0 P ops Q i (λa1 w1=>(BT C o=false->Ext w' w1)/\ ∃cZ H,K cZ H/\Fit S ops N D cZ a1/\Ext H w1) a w'
 |0, _, _, _, _, _,h, _=>AC h
 |n+1,env,w,w',K,b,h,j=>by
  simp only[NR,nH,jO] at h;split at h
  ·exact AC h
  ·rename_i E;have z:=Cr b E;split at h
   ·rename_i s;unfold wpOpIn;simp only[y];rw[if_neg (by rw[z];simp)];exact⟨λ_ _=>trivial,λ_=>Ext.refl _, _,w,h,b.put s l rfl (λ_=>rfl) (λm=>absurd eB m),j⟩
   ·exact AC h
  ·rename_i ch g E;obtain⟨A,z⟩:=Od b E;split at h
   ·rename_i s;split at h
    ·rename_i L;split at h
     ·rename_i M;have:ch=[]:=CP M;subst this;unfold wpOpIn;simp only[y];rw[if_pos (z.2 eB)];refine YI b h j λv F p q=>⟨λO=>q (PD (C:=C) (ρ:=xR env []) (λ_=>rfl) O L), _,F,p,?_,Ext.refl _⟩;exact b.put s l rfl (λ_=>rfl) (λm=>absurd eB m)
     ·split at h
      ·rename_i d I;split at h
       ·rename_i e B;split at h
        ·rename_i x q;split at h
         ·rename_i R;have J:e.ch=[]:=by simpa using R
          cases x with
          |true=>exact yO y l n _ w w' K (b.settle I B J q) h j
          |false=>exact yO y l n _ w w' K (b.settle I B J q) h j
         ·exact AC h
        ·exact AC h
       ·exact AC h
      ·exact AC h
    ·obtain⟨v,p,T⟩:=yE b A h;replace p:=rU p;unfold wpOpIn;simp only[y];by_cases hc:kh ops a.tmps ch
     ·rw[if_pos (z.2 hc)];have t:=T hc w' j;have U: ∀c,o.op≠ .defer c:=by
       intro c V;exact AT V t
      refine⟨λ_ _=>trivial,?_⟩;rw[cP U];unfold dk at t;split at t
      ·rename_i u F dP;obtain⟨rfl,rfl⟩:=t;rw[dP];exact⟨λ_=>Ext.refl _, _,w,p,b.put s l A (λ_=>rfl) (λm=>absurd hc m),j⟩
      ·rename_i f args F dP;obtain⟨rfl,W⟩:=t;rw[dP];refine⟨by simp[WF,Dk],(jR (n:=0 - 1)).2 ?_⟩;refine FN W λe X ⟨B,q⟩=>?_;subst B;exact⟨λ_=>q, _,w,p,b.put s l A (λ_=>rfl) (λm=>absurd hc m),j.trans q⟩
      ·exact t.elim
     ·rw[if_neg (λG=>hc (z.1 G))];exact⟨λ_ _=>trivial,λ_=>Ext.refl _, _,w,p,b.put s l A (λG=>absurd G hc) (λ_=>rfl),j⟩
   ·exact AC h
theorem DV {r:Option Nat} {C:dI P} {i:Nat} {w w':A2} {K:List bS->A2->Prop} {Q:Exit->Act->A2->Prop} (c:Wr S ops) (d:Fit S ops N D env a)
 (h:FE C ops N i env w K) (e:Ext w w'):wpOpIn (WF r) 0 P ops Q i (λa1 w1=>(((ops[i]?).map (BT C)).getD true=false->Ext w' w1)/\ ∃cZ b,K cZ b/\Fit S ops N D cZ a1/\Ext b w1) a w':=by
 unfold FE at h;cases f:ops[i]? with
 |none=>grind
 |some o=>
  simp_all
  have:=yO (r:=r) (Q:=Q) f (c o (by grind)) _ env w w' K d h e;omega
theorem OH {r:Option Nat} {C:dI P} {Q:Exit->Act->A2->Prop} (e:Wr S ops): ∀(l:List Nat) (env:List bS) (a:Act) (w w':A2) (K:List bS->A2->Prop),Fit S ops N D env a->
 rxL C ops N l env w K->Ext w w'->(∀env a w w',K env w->Fit S ops N D env a->Ext w w'->Q .normal a w')->wpOpsIn (WF r) 0 P ops Q l a w'
 |[],env,a,w,w',K,b,h,c,d=>d env a w w' h b c
 |i::l,env,a,w,w',K,b,h,c,d=>by
  exact wpOpIn_mono (λa1 w1 ⟨_,cZ,f,g,j,k⟩=>OH e l cZ a1 f w1 K j g k d) (DV e b h c)
variable {P:Al}
def mv (r:Option Nat) (P:Al) (ops:Array Oper) (Q:Exit->Act->A2->Prop) (HW:Nat->Bool) (T:Nat->A2->Prop):Nat->Array Bool->Act->A2->Prop
 |0,b,a,w=> ∀w',Ext w w'->B4 .any ops b=[]/\Q .normal a w'
 |fuel+1,b,a,w=> ∀w',Ext w w'->(B4 .any ops b=[]->Q .normal a w')/\
  ∀i∈B4 .any ops b,wpOpIn (WF r) 0 P ops Q i (λa1 w1=>(HW i=false->Ext w' w1)/\(HW i=true->T i w1)/\mv r P ops Q HW T fuel (b.setIfInBounds i true) a1 w1) a w'
section
variable {r:Option Nat} {ops:Array Oper} {Q:Exit->Act->A2->Prop} {HW:Nat->Bool} {T:Nat->A2->Prop}
theorem nS {b:Nat} {c:Array Bool} {a:Act} {w w':A2} (h:mv r P ops Q HW T b c a w) (d:Ext w w'):mv r P ops Q HW T b c a w':=by
 cases b with
 |zero
 |succ=>exact λe f=>h e (d.trans f)
theorem zo: ∀(fuel:Nat) (b:Array Bool) (a:Act) (w:A2),mv r P ops Q HW T fuel b a w->wpAnyIn (WF r) 0 P .any ops Q fuel b a w
 |0, _, _,w,h=>h w (Ext.refl w)
 |fuel+1, _, _,w,h=>⟨(h w (Ext.refl w)).1,λi hi=>wpOpIn_mono (λa1 w1 c=>zo fuel _ a1 w1 c.2.2) ((h w (Ext.refl w)).2 i hi)⟩
theorem pD {T T':Nat->A2->Prop} (e: ∀j w,T' j w->T j w): ∀(fuel:Nat) (b:Array Bool) (a:Act) (w:A2),mv r P ops Q HW T' fuel b a w->mv r P ops Q HW T fuel b a w
 |0, _, _, _,h=>h
 |fuel+1, _, _, _,h=>λw' c=>⟨(h w' c).1,λi hi=>wpOpIn_mono (λa1 w1 d=>⟨d.1,by grind,pD e fuel _ a1 w1 d.2.2⟩) ((h w' c).2 i hi)⟩
def fS (P:Al) (ops:Array Oper) (o:Oper) (v:AA) (a:Act) (w:A2):Prop:=
 (B9 o (yielded ops a.tmps)=true/\ ∀w',Ext w w'->dk P o a w' v)\/
 (B9 o (yielded ops a.tmps)=false/\v=undef)
theorem fS.of_same {o:Oper} {v:AA} {a a':Act} {w:A2} (b:fS P ops o v a w) (c:execOp a'.eval o=execOp a.eval o)
 (d:B9 o (yielded ops a'.tmps)=B9 o (yielded ops a.tmps)):fS P ops o v a' w:=by grind[fS,dk]
theorem fS.op {i:Nat} {o:Oper} {v:AA} {a:Act} {w w':A2} (hi:ops[i]? =some o) (d:fS P ops o v a w) (g:Ext w w') {K:Act->A2->Prop}
 (h: ∀w1,Ext w' w1->K (a.put o.dst v) w1):wpOpIn (WF r) 0 P ops Q i K a w':=by
 unfold wpOpIn;simp only[hi];rcases d with ⟨j,k⟩
 ·rw[if_pos j];have b:=k w' g;refine⟨λ_ _=>trivial,?_⟩;rw[cP (λc l=>AT l b)];unfold dk at b;split at b
  ·rename_i u m dP;obtain⟨rfl,rfl⟩:=b;rw[dP];exact h _ (Ext.refl _)
  ·rename_i f args m dP;obtain⟨rfl,p⟩:=b;rw[dP];refine⟨by simp[WF,Dk],(jR (n:=0 - 1)).2 ?_⟩;refine FN p λe q=>?_
   grind
  ·exact b.elim
 ·simp_all
  exact⟨λ_ _=>trivial,h _ (Ext.refl _)⟩
def yF (ops:Array Oper) (o:Oper) (a a0:Act):Prop:=execOp a.eval o=execOp a0.eval o/\B9 o (yielded ops a.tmps)=B9 o (yielded ops a0.tmps)
theorem Kg {j:Nat} {g k:Oper} {v:AA} {a0:Act} (t:ops[j]? =some k) (y:g.apart ops k=true)
 (z: ∀cs b,g.op≠ .select cs b) (A: ∀cs b,k.op≠ .select cs b) (p: ∀c,k.op≠ .defer c)
 (C: ∀c a w,¬ Q (.panic c) a w) {K:Act->A2->Prop} {a:Act} {w':A2}
 (i:yF ops g a a0) (h:wpOpIn (WF r) 0 P ops Q j K (a.put g.dst v) w'):
 wpOpIn (WF r) 0 P ops Q j (λa1 w1=>yF ops g a1 a0/\K (a1.put g.dst v) w1) a w':=by
 obtain⟨h1,m,q⟩:=Oper.apart_spec y;have dx: ∀(a:Act),yF ops g a a0-> ∀u,yF ops g (a.put k.dst u) a0:=λa i u=>
  ⟨(execOp_put g z a k.dst u q).trans i.1,(wanted_put g a k.dst u q).trans i.2⟩
 unfold wpOpIn at*
 simp only[t] at*
 rw[wanted_put k a g.dst v h1] at h;split
 ·rename_i o;simp only[o,if_true] at h;refine⟨λ_ _=>trivial,?_⟩;have h:=h.2;rw[cP p,execOp_put k A a g.dst v h1] at h;rw[cP p];generalize (execOp a.eval k).run P w'=res at*
  cases res with
  |ok x B=>
   cases x<;>simp only[Oper.uponIn] at h ⊢
   case value u=>exact⟨dx a i u,by rw[<-Do a v u m];exact h⟩
   case skip=>exact⟨dx a i _,by rw[<-Do a v undef m];exact h⟩
   case defer d=>
    refine⟨dx ({a with defers:=d::a.defers}:Act) ⟨i.1,i.2⟩ undef,?_⟩;rw[<-Do _ v undef m, <-Act.put_defers];exact h
   case enter f args=>
    refine⟨h.1,CallsIn.mono h.2 λe s n=>?_⟩;cases e with
    |returned u=>exact⟨dx a i u,by rw[<-Do a v u m];exact n⟩
    |panicked c=>grind
    |outgrown=>exact n
   case row row args=>exact⟨h.1,RowsIn.mono h.2 λu s n=>⟨dx a i u,by rw[<-Do a v u m];exact n⟩⟩
   case round l f tmps assign body=>
    refine⟨h.1,RoundIn.mono h.2 λe s n=>?_⟩;cases e with
    |returned u=>exact⟨dx a i u,by rw[<-Do a v u m];exact n⟩
    |panicked c=>simp_all
    |outgrown=>exact n
  |halt x B=>
   cases x<;>simp only[Oper.uponIn] at h ⊢
   grind
 ·rename_i o;simp only[o] at h;exact⟨λ_ _=>trivial,dx a i _,by rw[<-Do a v undef m];exact h.2⟩
def mfO (o:Oper):Bool:=match o.op with
 | .move _=>true
 | .assign _=>true
 | .extract .. =>true
 | _=>false
theorem fS.mf {o:Oper} {v:AA} {a:Act} {w w1:A2} (g:mfO o=true) (f:fS P ops o v a w):fS P ops o v a w1:=by
 obtain⟨dst,op,type,pos,after,guard⟩:=o;cases op with
 |move x
 |assign x=>
  rcases f with ⟨b,c⟩|d
  ·refine .inl ⟨b,λh _=>?_⟩;have:=c w (Ext.refl w);simp only[dk,execOp,B1] at this ⊢;omega
  ·exact .inr d
 |extract x k=>
  rcases f with ⟨b,c⟩|d
  ·refine .inl ⟨b,λh _=>?_⟩;have:=c w (Ext.refl w);cases e:a.eval x with
   |tuple vs=>
    cases hv:vs[k]? with
    |none=>simp[dk,execOp,I2,e,hv] at this
    |some u=>
     simp only[dk,execOp,I2,e,hv,Av,B1,Ay] at this ⊢;omega
   | _=>simp[dk,execOp,I2,e] at this
  ·exact .inr d
 | _=>cases g
theorem tT {i:Nat} {g:Oper} {v:AA} {W:Nat->Bool} {T T':Nat->A2->Prop} {a0:Act} (hi:ops[i]? =some g) (J:HW i=false) (D: ∀(j:Nat) (o:Oper),ops[j]? =some o->(∀cs b,o.op≠ .select cs b)/\ ∀c,o.op≠ .defer c)
 (R: ∀c a w,¬ Q (.panic c) a w) (E: ∀j w,T' j w->T j w):
 ∀(t:Nat) (d:Array Bool) (a:Act) (w:A2),
  (∀j m,ops[j]? =some m->j≠i->d.getD j true=false->W j=false->g.apart ops m=true/\(HW j=false\/mfO g=true\/ ∀w1,T' j w1->fS P ops g v a0 w1))->
  (∀j,W j=true->d.getD j true=false/\ ∃m,ops[j]? =some m/\ ∃e∈m.after,DE .any e=true/\(e.on=i\/W e.on=true))->
  i∈B4 .any ops d->yF ops g a a0->fS P ops g v a0 w->
  mv r P ops Q HW T' t (d.setIfInBounds i true) (a.put g.dst v) w->mv r P ops Q HW T (t+1) d a w:=by
 have nil: ∀(d:Array Bool),i∈B4 .any ops d->B4 .any ops d≠[]:=λl K h=>by rw[h] at K;cases K
 intro t
 induction t with
 |zero=>
  intro d a w _ _ u s x H w' n;refine⟨λh=>absurd h (nil d u),λj y=>?_⟩;by_cases p:j=i
  ·subst p;refine(x.of_same s.1 s.2).op hi n λw1 h1=>⟨λ_=>h1,(λf=>by rw[J] at f;cases f),pD E _ _ _ _ (nS H (n.trans h1))⟩
  ·have:=ready_mono y p;rw[(H w' n).1] at this;cases this
 |succ t S=>
  intro d a w L U u s x H w' n;refine⟨λh=>absurd h (nil d u),λj y=>?_⟩;by_cases p:j=i
  ·subst p;refine(x.of_same s.1 s.2).op hi n λw1 h1=>⟨λ_=>h1,(λf=>by rw[J] at f;cases f),pD E _ _ _ _ (nS H (n.trans h1))⟩
  ·have h1:=(H w' n).2 j (ready_mono y p);obtain⟨M,m,z,mF⟩:=mem_ready.1 y;have acD:=(mem_ready.1 u).1;have F:W j=false:=by
    grind
   obtain⟨V,q⟩:=L j m z p M F;have G:=Kg z V (D i g hi).1 (D j m z).1 (D j m z).2 R s h1;refine wpOpIn_mono (λa1 w1 X=>?_) G;obtain⟨Y,N,O,I⟩:=X;refine⟨N,λf=>E _ _ (O f),?_⟩;refine S (d.setIfInBounds j true) a1 w1 ?_ ?_ (ready_mono u (Ne.symm p)) Y ?_ ?_
   ·intro k ok I Z A B;refine L k ok I Z ?_ B;by_cases C:j=k
    ·subst C;exact M
    ·rw[getD_set_ne true C] at A;exact A
   ·intro k B;obtain⟨A,rest⟩:=U k B;refine⟨?_,rest⟩;have C:j≠k:=λe=>by rw[e,B] at F;cases F
    rw[getD_set_ne true C];exact A
   ·have fP:Ext w' w1->fS P ops g v a0 w1:=λri=>by
     have hww:=n.trans ri;rcases x with ⟨wJ,hq1⟩|hn
     ·exact .inl ⟨wJ,λw2 G=>hq1 w2 (hww.trans G)⟩
     ·exact .inr hn
    cases f:HW j with
    |false=>exact fP (N f)
    |true=>
     rcases q with q|q|q
     ·rw[q] at f;cases f
     ·exact x.mf q
     ·exact q w1 (O f)
   ·rw[Array.setIfInBounds_comm _ _ p];exact I
end
def aag (C:dI P) (ops:Array Oper) (N:Nat) (o:Oper) (env:List bS) (w:A2) (K:List bS->Prop):Prop:=
 match gd ops env o with
 |none=>dy 41 o.op
 |some none=>if oP ops N env [] o.dst then wV env o.dst [] none undef K else dy 42 o.op
 |some (some (ch,g))=>
  if oP ops N env ch o.dst then oD C ops env ch g o w (λv=>yC C o v (λv=>wV env o.dst ch g v K)) else dy 43 o.op
def rxQ (C:dI P) (ops:Array Oper) (N:Nat) (i:Nat) (env:List bS) (w:A2) (K:List bS->Prop):Prop:=
 match ops[i]? with
 |none=>False
 |some ⟨dst,op,type,pos,after,guard⟩=>aag C ops N ⟨dst,op,type,pos,after,guard⟩ env w K
def X9 {P:Al} (C:dI P) (ops:Array Oper) (env:List bS) (ch:List (Nat×Bool)) (g:Option Bool) (o:Oper) (w:A2) (K:(A2->Prop)->AA->Prop):Prop:=
 let ρ:=xR env ch
 match o.op with
 | .load t x=>match ρ x,elC C t,P.info? t with
   |some (.pointer p),some el,some i=>if pR el i.size=true then dy 61 o.op else aj w g p el (λx=>K (λw=>gD g (cQ w p el x)) (el.gZ x))
   | _, _, _=>dy 62 o.op
 | .entry _=>dy 63 o.op
 | .lookup r m ix ok=>match ok,P.underlying r,ρ m,ρ ix with
   |false,some (.map h d),some (.map p),some (.int k n)=>match P.underlying h,uN P d,P.info? d with
    |some (.int j),some el,some i=>match i.zero with
     |some z=>if k=j then∃x:el.T,gD g (jX w p k n z (el.gZ x))/\K (λw=>gD g (jX w p k n z (el.gZ x))) (el.gZ x) else dy 61 o.op
     |none=>dy 62 o.op
    | _, _, _=>dy 63 o.op
   |true,some (.map h d),some (.map p),some (.int k n)=>match P.underlying h,uN P d,P.info? d with
    |some (.int j),some el,some i=>match i.zero with
     |some z=>if k=j then∃x:el.T, ∃b:Bool,gD g (mr w p k n z (el.gZ x) b)/\K (λw=>gD g (mr w p k n z (el.gZ x) b)) (.tuple ⟨[el.gZ x,.bool b]⟩) else dy 61 o.op
     |none=>dy 62 o.op
    | _, _, _=>dy 63 o.op
   | _, _, _, _=>dy 64 o.op
 | .pick .. =>oD C ops env ch g o w (λv=>K (λ_=>True) v)
 | .call c=>match c.callee with
   | .value f=>match ρ f,maps ρ c.args.toList with
     |some (.func (.func a) first cap),some l=>
      if bK P a=true then
       match ye C.si a with
       |some e=>match e.fn (cX first l cap) with
        |some (pre,v)=>gD g pre/\K (λ_=>True) v
        |none=>dy 64 o.op
       |none=> ∃x:(uH C a).T,gD g (af P a (cX first l cap) w ((uH C a).gZ x))/\K (λw=>gD g (af P a (cX first l cap) w ((uH C a).gZ x))) ((uH C a).gZ x)
      else dy 65 o.op
     | _, _=>dy 66 o.op
   | .builtin .len=>match Ce P ρ c with
     |some p=> ∃n:Nat,gD g (TG w p n)/\K (λw=>gD g (TG w p n)) (.int .i64 n)
     |none=>match xx P ρ c with
      |some p=> ∃n:Nat,gD g (ChL w p n)/\K (λw=>gD g (ChL w p n)) (.int .i64 n)
      |none=>oD C ops env ch g o w (λv=>K (λ_=>True) v)
   | _=>oD C ops env ch g o w (λv=>K (λ_=>True) v)
 | .binOp .. =>match pop P ρ o with
   |some ⟨none,v⟩=>K (λ_=>True) v
   |some ⟨some p,v⟩=>gD g p/\K (λ_=>True) v
   |none=>match Cd P ρ o.op with
    |some (p,q)=>gD g (Xc w p q)/\K (λw=>gD g (Xc w p q)) (.bool (decide (p=q)))
    |none=>dy 67 o.op
 | _=>oD C ops env ch g o w (λv=>K (λ_=>True) v)
def ZV (p:A2->Prop):Prop:= ∀w w',p w->Ext w w'->p w'
theorem nI {g:Option Bool} {p:A2->Prop} (h:ZV p):ZV (λw=>gD g (p w)):=by
 intro w w' a b;cases g with
 |none=>exact h w w' a b
 |some=>exact λhb=>h w w' (a hb) b
def OI (op:Op):Bool:=match op with
 | .load .. =>false
 | .lookup .. =>false
 | .entry _=>false
 | .binOp .. =>false
 | .call c=>(match c.callee with| .value _=>false| .builtin .len=>false| _=>true)
 | _=>true
theorem Kh {C:dI P} {ops:Array Oper} {env:List bS} {ch:List (Nat×Bool)} {g:Option Bool} {o:Oper} {w:A2} {K:AA->Prop} (e:OI o.op=true)
 (h:oD C ops env ch g o w K): ∃v,K v/\ ∀i,oD C ops env ch g o i (λu=>u=v):=by
 obtain⟨dst,op,type,pos,after,guard⟩:=o;cases op with
 |load t x=>cases e
 |lookup a b c d=>cases e
 |entry a=>cases e
 |binOp op t x y j=>cases e
 |pick c x y=>
  unfold oD at h;simp only at h;unfold oD;simp only;split at h
  ·split at h
   ·split at h
    ·split at h
     ·exact⟨_,h,λ_=>rfl⟩
     ·exact h.elim
    ·split at h
     ·exact⟨_,h,λ_=>rfl⟩
     ·exact h.elim
    ·split at h
     ·split at h
      ·split at h
       ·exact⟨_,h,λ_=>rfl⟩
       ·exact⟨_,h,λ_=>rfl⟩
       ·exact⟨_,h,λ_=>rfl⟩
      ·exact h.elim
     ·exact h.elim
   ·exact h.elim
  ·exact h.elim
 |call c=>
  obtain⟨callee,args,ts⟩:=c;cases callee with
  |value f=>cases e
  |builtin b=>
   cases b with
   |len=>cases e
   | _=>
     unfold oD at h;simp only at h;unfold oD;simp only;split at h
     ·exact⟨_,h,λ_=>rfl⟩
     ·exact⟨_,h.2,λ_=>⟨h.1,rfl⟩⟩
     ·exact h.elim
  | _=>
    unfold oD at h;simp only at h;unfold oD;simp only;split at h
    ·exact⟨_,h,λ_=>rfl⟩
    ·exact⟨_,h.2,λ_=>⟨h.1,rfl⟩⟩
    ·exact h.elim
 | _=>
   unfold oD at h;simp only at h;unfold oD;simp only;split at h
   ·exact⟨_,h,λ_=>rfl⟩
   ·exact⟨_,h.2,λ_=>⟨h.1,rfl⟩⟩
   ·exact h.elim
theorem PE {C:dI P} {ops:Array Oper} {env:List bS} {ch:List (Nat×Bool)} {g:Option Bool} {o:Oper} {w:A2} {K:(A2->Prop)->AA->Prop} (h:X9 C ops env ch g o w K):
 ∃p v,K p v/\p w/\ZV p/\ ∀j,p j->oD C ops env ch g o j (λu=>u=v):=by
 obtain⟨dst,op,type,pos,after,guard⟩:=o;have st:OI op=true->oD C ops env ch g ⟨dst,op,type,pos,after,guard⟩ w (λv=>K (λ_=>True) v)->
  ∃p v,K p v/\p w/\ZV p/\ ∀j,p j->oD C ops env ch g ⟨dst,op,type,pos,after,guard⟩ j (λu=>u=v):=λS h=>by
  obtain⟨v,k,hv⟩:=Kh (o:=⟨dst,op,type,pos,after,guard⟩) S h;exact⟨_,v,k,trivial,λ_ _ _ _=>trivial,λj _=>hv j⟩
 unfold X9 at h;cases op with
 |load t x=>
  simp only at h;split at h
  ·rename_i p el i h1 A G;split at h
   ·exact h.elim
   ·rename_i hb;obtain⟨x',T,k⟩:=h;refine⟨_, _,k,T,nI λw w' d l=>tr l d,λj d=>?_⟩;unfold oD;simp only[h1,A,G,if_neg hb];exact⟨x',d,rfl⟩
  ·exact h.elim
 |entry a=>exact h.elim
 |lookup xt m ix ok=>
  simp only at h;split at h
  ·rename_i U V p kd n h1 A G;split at h
   ·rename_i W el X L M N;split at h
    ·rename_i z O;split at h
     ·rename_i Q;obtain⟨x,B,k⟩:=h;refine⟨_, _,k,B,nI λw w' d l=>?_,λj d=>?_⟩
      ·obtain⟨r,es,H,D,E,F⟩:=d;exact⟨r,es,H,D,l.obj E,F⟩
      ·unfold oD;simp only[h1,A,G,L,M,N,O,if_pos Q];exact⟨x,d,rfl⟩
     ·exact h.elim
    ·exact h.elim
   ·exact h.elim
  ·rename_i U V p kd n h1 A G;split at h
   ·rename_i W el X L M N;split at h
    ·rename_i z O;split at h
     ·rename_i Q;obtain⟨x,b,B,k⟩:=h;refine⟨_, _,k,B,nI λw w' d l=>?_,λj d=>?_⟩
      ·obtain⟨r,es,H,D,E,F⟩:=d;exact⟨r,es,H,D,l.obj E,F⟩
      ·unfold oD;simp only[h1,A,G,L,M,N,O,if_pos Q];exact⟨x,b,d,rfl⟩
     ·exact h.elim
    ·exact h.elim
   ·exact h.elim
  ·exact h.elim
 |call c=>
  obtain⟨callee,args,ts⟩:=c;cases callee with
  |value f=>
   simp only at h;split at h
   ·rename_i fY first cap acN h1 A
    split at h
    ·rename_i hc;split at h
     ·rename_i e R;split at h
      ·rename_i pre v Y;refine⟨_,v,h.2,trivial,λ_ _ _ _=>trivial,λj _=>?_⟩;unfold oD;simp only[h1,A,if_pos hc,R,Y];exact⟨h.1,trivial⟩
      ·exact h.elim
     ·rename_i R;obtain⟨x,B,k⟩:=h;refine⟨_, _,k,B,nI λw w' d l=>λj A=>d j (l.trans A),λj d=>?_⟩;unfold oD;simp only[h1,A,if_pos hc,R];exact⟨x,d,rfl⟩
    ·exact h.elim
   ·exact h.elim
  |builtin b=>
   cases b with
   |len=>
    simp only at h;split at h
    ·rename_i p d;obtain⟨n,B,k⟩:=h;refine⟨_, _,k,B,nI λw w' d l=>?_,λj I=>?_⟩
     ·obtain⟨r,es,H,D,E,F⟩:=d;exact⟨r,es,H,D,l.obj E,F⟩
     ·unfold oD;simp only[d];exact⟨n,I,rfl⟩
    ·rename_i d;split at h
     ·rename_i p J;obtain⟨n,B,k⟩:=h;refine⟨_, _,k,B,nI λw w' d l=>?_,λj I=>?_⟩
      ·obtain⟨r,cap,Z,s,m,D,E,F⟩:=d;exact⟨r,cap,Z,s,m,D,l.obj E,F⟩
      ·unfold oD;simp only[d,J];exact⟨n,I,rfl⟩
     ·rename_i J;unfold oD at h;simp only[d,J] at h;split at h
      ·rename_i v hv;refine⟨_,v,h,trivial,λ_ _ _ _=>trivial,λj _=>?_⟩;unfold oD;simp only[d,J,hv]
      ·rename_i p v hv;refine⟨_,v,h.2,trivial,λ_ _ _ _=>trivial,λj _=>?_⟩;unfold oD;simp only[d,J,hv];exact⟨h.1,trivial⟩
      ·exact h.elim
   | _=>exact st rfl h
  | _=>exact st rfl h
 |binOp op t x y yt=>
  simp only at h;split at h
  ·rename_i v hv;refine⟨_,v,h,trivial,λ_ _ _ _=>trivial,λj _=>?_⟩;unfold oD;simp only[hv]
  ·rename_i p v hv;refine⟨_,v,h.2,trivial,λ_ _ _ _=>trivial,λj _=>?_⟩;unfold oD;simp only[hv];exact⟨h.1,trivial⟩
  ·rename_i hv;split at h
   ·rename_i p q d;refine⟨_, _,h.2,h.1,nI λw w' d l=>IG l d,λj I=>?_⟩;unfold oD;simp only[hv,d];exact⟨I,trivial⟩
   ·exact h.elim
 | _=>exact st rfl h
def WE (C:dI P) (ops:Array Oper) (N:Nat) (o:Oper) (env:List bS) (w:A2) (K:(A2->Prop)->List bS->Prop):Prop:=
 match gd ops env o with
 |none=>dy 44 o.op
 |some none=>if oP ops N env [] o.dst then wV env o.dst [] none undef (K λ_=>True) else dy 45 o.op
 |some (some (ch,g))=>
  if oP ops N env ch o.dst then X9 C ops env ch g o w (λp v=>yC C o v (λv=>wV env o.dst ch g v (K p))) else dy 46 o.op
def X_ (C:dI P) (ops:Array Oper) (N:Nat) (i:Nat) (env:List bS) (w:A2) (K:(A2->Prop)->List bS->Prop):Prop:=
 match ops[i]? with
 |none=>False
 |some ⟨dst,op,type,pos,after,guard⟩=>WE C ops N ⟨dst,op,type,pos,after,guard⟩ env w K
def AF (j:Nat) (w:A2):List (Nat×(A2->Prop))->Prop->Prop
 |[],K=>K
 |(W,p)::r,K=>match W.testBit j with
  |true=>AF j w r K
  |false=>p w/\AF j w r K
theorem pZ {j:Nat} {w:A2}: ∀{l:List (Nat×(A2->Prop))} {K:Prop},AF j w l K<->(∀e∈l,e.1.testBit j=false->e.2 w)/\K
 |[],K=>by simp[AF]
 |(W,p)::r,K=>by
  unfold AF;cases h:W.testBit j with
  |true
  |false=>simp only[pZ,List.forall_mem_cons];grind
def Of (ops:Array Oper):Bool:=ops.toList.all λo=>match o.op with| .select .. | .defer _=>false| _=>true
def sb (i:Nat):Nat:=1 <<< i
theorem yf (i j:Nat):(sb i).testBit j=decide (i=j):=by simp[sb,Nat.one_shiftLeft,Nat.testBit_two_pow]
def AG:List Nat->Nat
 |[]=>0
 |x::r=>sb x ||| AG r
theorem tx: ∀(l:List Nat) (j:Nat),(AG l).testBit j=decide (j∈l)
 |[],j=>by simp[AG]
 |x::r,j=>by
  rw[AG,G1,yf,tx]
  grind
theorem and_zero {a b j:Nat} (h:((a &&& b)==0)=true) (c:a.testBit j=true):b.testBit j=false:=by
 have:=congrArg (λm=>m.testBit j) (by simpa using h: )
 grind
theorem PF {a b:Nat} (h:((a &&& b) != 0)=true): ∃j,a.testBit j=true/\b.testBit j=true:=by
 have h':=by simpa using h
 obtain:=Nat.exists_testBit_of_ne_zero h'
 grind
theorem TY {a b j:Nat} (h:((a &&& b)==a)=true) (c:a.testBit j=true):b.testBit j=true:=by grind
theorem TZ {a b:Nat} (h:((a &&& b)==a)=false): ∃j,a.testBit j=true/\b.testBit j=false:=by
 apply Classical.byContradiction;intro;have:a &&& b=a:=by
  apply Nat.eq_of_testBit_eq
  grind
 grind
def JQ (o:Oper):Nat:=AG ((o.after.toList.filter λe=>DE .any e).map (·.on))
def Wb (o:Oper):Nat:=match o.dst with
 |some d=>sb d
 |none=>0
def lkM (ops:Array Oper) (o:Oper):Nat:=AG (o.looksAt ops)
def Tk (L i e:Nat):Bool:= !L.testBit i&&(e &&& L)==e
def HY (L i:Nat):List (Oper×Nat)->Nat->Nat
 |[],W=>W
 |(o,j)::r,W=>HY L i r (if !L.testBit j&&(JQ o &&& (W ||| sb i)) != 0 then W ||| sb j else W)
def Fq (ops:Array Oper) (x y:Oper):Bool:=(Wb x &&& (lkM ops y ||| Wb y))==0&&(Wb y &&& lkM ops x)==0
def frM (C:dI P) (ops:Array Oper) (L i W:Nat) (x:Oper) (Z:List (Oper×Nat)):Bool:=
 Z.all λz=>z.2==i||L.testBit z.2||W.testBit z.2||(Fq ops x z.1&&(!BT C z.1||mfO x))
def nxM (C:dI P) (Z:List (Oper×Nat)) (L:Nat):Option (Nat×Bool):=
 match Z.find? λz=>Tk L z.2 (JQ z.1)&& !BT C z.1&& !eT z.1 with
 |some z=>some (z.2,true)
 |none=>match Z.find? λz=>Tk L z.2 (JQ z.1) with
  |some z=>some (z.2,false)
  |none=>none
def frS (ops:Array Oper) (L i W:Nat) (x:Oper) (Z:List (Oper×Nat)):Bool:=
 Z.all λz=>z.2==i||L.testBit z.2||W.testBit z.2||Fq ops x z.1
inductive Sd where
 |nil|q (i:Nat) (m:Option Nat) (r:Sd)|alt (i:Nat) (r t:Sd)|stop
def o7 (C:dI P) (ops:Array Oper) (Z:List (Oper×Nat)):Nat->Nat->Option Sd
 |0,L=>if Z.all λz=> !Tk L z.2 (JQ z.1) then some .nil else none
 |n+1,L=>match nxM C Z L with
  |none=>none
  |some (i,true)=>match ops[i]? with
   |some x=>if Tk L i (JQ x)&& !BT C x then
     if frM C ops L i (HY L i Z 0) x Z then match o7 C ops Z n (L ||| sb i) with
      |some l=>some (.q i none l)
      |none=>none
     else if frS ops L i (HY L i Z 0) x Z then match o7 C ops Z n (L ||| sb i) with
      |some l=>some (.q i (some (HY L i Z 0)) l)
      |none=>none
     else none
    else none
   |none=>none
  |some (_,false)=>(Z.filter λz=>Tk L z.2 (JQ z.1)).foldr (λz c=>match c with
   |none=>none
   |some b=>match o7 C ops Z n (L ||| sb z.2) with
    |some a=>some (.alt z.2 a b)
    |none=>none) (some .stop)
def YL (C:dI P) (ops:Array Oper):Option Sd:=o7 C ops ops.toList.zipIdx ops.size 0
def n9 (C:dI P) (ops:Array Oper) (i:Nat):Bool:=((ops[i]?).map (BT C)).getD true
def Og (C:dI P) (ops:Array Oper) (i:Nat) (w:A2) (l:List (Nat×(A2->Prop))) (K:Prop):Prop:=
 match n9 C ops i with
 |true=>AF i w l K
 |false=>K
def Ya (C:dI P) (ops:Array Oper) (N:Nat) (i:Nat) (a:List (Nat×(A2->Prop))) (env:List bS) (w:A2) (F:List bS->A2->Prop):Prop:=match a with
 |[]=>FE C ops N i env w F
 |e::a=>FE C ops N i env w (λenv w=>Og C ops i w (e::a) (F env w))
def Yb (t:Sd) (a b:Prop):Prop:=match t with
 | .stop=>a
 | _=>a/\b
def Ft (C:dI P) (ops:Array Oper) (N:Nat):Sd->List (Nat×(A2->Prop))->List bS->A2->(List bS->A2->Prop)->Prop
 | .nil, _,env,w,K=>K env w
 | .q i none r,a,env,w,K=>rxQ C ops N i env w (λenv=>Ft C ops N r a env w K)
 | .q i (some W) r,a,env,w,K=>X_ C ops N i env w (λp env=>Ft C ops N r ((W,p)::a) env w K)
 | .alt i r t,a,env,w,K=>Yb t (Ya C ops N i a env w (λenv w=>Ft C ops N r a env w K)) (Ft C ops N t a env w K)
 | .stop, _, _, _, _=>True
def aah (C:dI P) (ops:Array Oper) (N:Nat) (l:Sd) (env:List bS) (w:A2) (K:List bS->A2->Prop):Prop:=Ft C ops N l [] env w K
def Yc (C:dI P) (ops:Array Oper) (N:Nat) (env:List bS) (w:A2) (K:List bS->A2->Prop):Prop:=
 match YL C ops with
 |some l=>aah C ops N l env w K
 |none=>False
def Il (j:Nat) (x:Sd):Sd->Prop
 | .alt i r t=>(j=i/\x=r)\/Il j x t
 | _=>False
def Valid (C:dI P) (ops:Array Oper):Nat->Sd->Array Bool->Prop
 |0,t,a=>t= .nil/\B4 .any ops a=[]
 |n+1,t,a=>match t with
  | .q i m r=>i∈B4 .any ops a/\n9 C ops i=false/\
    (∃W:Nat->Bool,(∀c,ops[i]? =some c-> ∀j b,ops[j]? =some b->j≠i->a.getD j true=false->W j=false->c.apart ops b=true/\(BT C b=false\/mfO c=true\/ ∃w,m=some w/\w.testBit j=false))/\
     (∀j,W j=true->a.getD j true=false/\ ∃b,ops[j]? =some b/\ ∃e∈b.after,DE .any e=true/\(e.on=i\/W e.on=true)))/\
    Valid C ops n r (a.setIfInBounds i true)
  | .alt i r d=>i∈B4 .any ops a/\ ∀j∈B4 .any ops a, ∃x,Il j x (.alt i r d)/\Valid C ops n x (a.setIfInBounds j true)
  | _=>False
def Ah (ops:Array Oper) (L:Nat) (a:Array Bool):Prop:=a.size=ops.size/\ ∀j,a.getD j false=L.testBit j
theorem Ah.un {ops:Array Oper} {L:Nat} {a:Array Bool} (h:Ah ops L a) {j:Nat} (b:j<ops.size):a.getD j true=L.testBit j:=by
 rw[<-h.2];have:j<a.size:=by rw[h.1];grind
 grind
theorem Ah.set {ops:Array Oper} {L:Nat} {a:Array Bool} (h:Ah ops L a) {i:Nat} (hi:i<ops.size):Ah ops (L ||| sb i) (a.setIfInBounds i true):=by
 refine⟨by simp[h.1],λj=>?_⟩;rw[G1,yf, <-h.2];by_cases e:i=j
 ·subst e;have:i<a.size:=by rw[h.1];omega
  simp[this]
 simp_all
theorem Ah.zero (ops:Array Oper):Ah ops 0 (F1 ops.size false):=by
 refine⟨by simp,λj=>?_⟩;simp[JS]
theorem pS {ops:Array Oper} {o:Oper} {j:Nat}:(o,j)∈ops.toList.zipIdx<->ops[j]? =some o:=by grind
theorem F4 {o:Oper} {j:Nat}:(JQ o).testBit j=true<-> ∃e∈o.after,DE .any e=true/\e.on=j:=by
 grind[JQ,tx]
theorem m6 {ops:Array Oper} {L:Nat} {c:Array Bool} (h:Ah ops L c) {i:Nat}:i∈B4 .any ops c<-> ∃o,ops[i]? =some o/\Tk L i (JQ o)=true:=by
 unfold B4;rw[BQ,Dn];constructor
 ·rintro⟨hi,hc⟩;rw[h.un hi] at hc;simp only[B8] at hc;have a:=JW hi;refine⟨ops[i],a,?_⟩;rw[a] at hc;simp only[GG,IA,H5] at hc;unfold Tk;rw[B8];refine⟨hc.1,?_⟩;cases f:(JQ _ &&& L)==JQ _ with
  |true=>rfl
  |false=>
   obtain⟨j,h1,g⟩:=TZ f;obtain⟨e,d,hb,rfl⟩:=F4.1 h1;have:=hc.2 e d;rw[hb,h.2,g] at this;cases this
 ·rintro⟨o,a,b⟩;have hi:=(BI.1 a).1;unfold Tk at b;rw[B8] at b;refine⟨hi,?_⟩;rw[h.un hi,B8];refine⟨b.1,?_⟩;rw[a];simp only[GG,IA,H5];intro e d;rw[h.2];cases hb:DE .any e with
  |false=>rfl
  |true=>rw[TY b.2 (F4.2 (by grind))];rfl
theorem DW {L i:Nat}: ∀(Z:List (Oper×Nat)) (W j:Nat),W.testBit j=true->(HY L i Z W).testBit j=true
 |[], _, _,h=>h
 |k::r,W,j,h=>by
  refine DW r _ j ?_
  grind
theorem OJ {L i:Nat}: ∀(Z:List (Oper×Nat)) (W:Nat),(∀x,(HY L i Z W).testBit x=true->W.testBit x=true\/(L.testBit x=false/\ ∃o,(o,x)∈Z/\ ∃k,(JQ o).testBit k=true/\(k=i\/(HY L i Z W).testBit k=true)))
 |[], _, _,h=> .inl h
 |(o,j)::r,W,x,h=>by
  unfold HY at h ⊢;rcases OJ r _ x h with h1|⟨h1,o',b,c⟩
  ·split at h1
   ·rename_i hc;rw[G1,yf,Fp,decide_eq_true_eq] at h1;rcases h1 with h1|rfl
    ·exact .inl h1
    ·rw[B8] at hc;obtain⟨k,d,a⟩:=PF hc.2;rw[G1,yf,Fp,decide_eq_true_eq] at a
     grind[Ij,DW]
   ·exact .inl h1
  grind
theorem OK {ops:Array Oper} {x y:Oper} (h:Fq ops x y=true):x.apart ops y=true:=by
 unfold Fq at h;rw[B8] at h;obtain⟨h1,b⟩:=h;unfold Oper.apart;rw[B8];constructor
 ·cases a:x.dst with
  |none=>rfl
  |some d=>
   have hb:(Wb x).testBit d=true:=by simp[Wb,a,yf]
   have:=and_zero h1 hb;rw[G1,Bool.or_eq_false_iff] at this;obtain⟨a1,c⟩:=this;unfold lkM at a1;rw[tx] at a1
   grind[Wb,yf]
 ·cases a:y.dst with
  |none=>rfl
  |some d=>
   have hb:(Wb y).testBit d=true:=by simp[Wb,a,yf]
   grind[and_zero,lkM,tx]
theorem II {F:Nat->Option Sd}: ∀(l:List (Oper×Nat)) (t:Sd),l.foldr (λz e=>match e with
 |none=>none
 |some b=>match F z.2 with
  |some a=>some (.alt z.2 a b)
  |none=>none) (some Sd.stop)=some t->(l=[]/\t= .stop)\/(∃i r d,t= .alt i r d/\(∃o,(o,i)∈l)/\ ∀z∈l, ∃x,Il z.2 x t/\F z.2=some x)
 |[],t,h=>by
  grind
 |z::l,t,h=>by
  rw[List.foldr_cons] at h;split at h
  ·cases h
  ·rename_i b hb;split at h
   ·rename_i a f;cases h;refine .inr ⟨z.2,a,b,rfl,by grind,λy c=>?_⟩;rcases C7.1 c with rfl|c
    ·exact⟨a,.inl (by grind),f⟩
    ·rcases II l b hb with ⟨rfl, _⟩|⟨i,r,d, _, _,g⟩
     ·cases c
     ·obtain⟨x,h1,j⟩:=g y c;exact⟨x,.inr h1,j⟩
   grind
theorem p8 {C:dI P} {ops:Array Oper}: ∀(n L:Nat) (m:Array Bool) (l:Sd),Ah ops L m->o7 C ops ops.toList.zipIdx n L=some l->Valid C ops n l m
 |0,L,m,l,a,h=>by
  simp only[o7] at h;split at h
  ·rename_i hc;cases h;refine⟨rfl,?_⟩;rw[List.eq_nil_iff_forall_not_mem];intro j b;obtain⟨o,c,u⟩:=(m6 a).1 b;have:=Dl.1 hc (o,j) (pS.2 c);rw[u] at this;cases this
  ·cases h
 |n+1,L,m,l,a,h=>by
  have E: ∀i j,(HY L i ops.toList.zipIdx 0).testBit j=true->m.getD j true=false/\ ∃d,ops[j]? =some d/\ ∃e∈d.after,DE .any e=true/\(e.on=i\/(HY L i ops.toList.zipIdx 0).testBit e.on=true):=by
   intro i j f;rcases OJ ops.toList.zipIdx 0 j f with h1|⟨h1,o,p,k,J,K⟩
   ·simp at h1
   ·have c:=pS.1 p;obtain⟨e,v,hb,rfl⟩:=F4.1 J;exact⟨by rw[a.un (BI.1 c).1];exact h1,o,c,e,v,hb,K⟩
  simp only[o7] at h;split at h
  ·cases h
  ·rename_i i _;split at h
   ·rename_i x g;have hi:i<ops.size:=(BI.1 g).1;split at h
    ·rename_i hc;rw[B8,H4] at hc;have G:n9 C ops i=false:=by unfold n9;rw[g];exact hc.2
     split at h
     ·rename_i w;split at h
      ·rename_i l' y;cases h;have A:=p8 n _ _ l' (a.set hi) y;refine⟨(m6 a).2 ⟨x,g,hc.1⟩,G,⟨λj=>(HY L i ops.toList.zipIdx 0).testBit j,?_,λj=>E i j⟩,A⟩;intro M q j d b B s f;rw[g] at q;cases q;have:=Dl.1 w (d,j) (pS.2 b);rw[a.un (BI.1 b).1] at s;have D:(HY L i ops.toList.zipIdx 0).testBit j=false:=f;simp only[s,D,JM,Fp,beq_iff_eq,B8,H4] at this;rcases this with h1|h1
       ·exact absurd h1 B
       ·exact⟨OK h1.1,h1.2.imp id .inl⟩
      ·cases h
     ·split at h
      ·rename_i w;split at h
       ·rename_i l' y;cases h;have A:=p8 n _ _ l' (a.set hi) y;refine⟨(m6 a).2 ⟨x,g,hc.1⟩,G,⟨λj=>(HY L i ops.toList.zipIdx 0).testBit j,?_,λj=>E i j⟩,A⟩;intro M q j d b B s f;rw[g] at q;cases q;have:=Dl.1 w (d,j) (pS.2 b);rw[a.un (BI.1 b).1] at s;have D:(HY L i ops.toList.zipIdx 0).testBit j=false:=f;simp only[s,D,JM,Fp,beq_iff_eq] at this;rcases this with h1|h1
        ·exact absurd h1 B
        ·exact⟨OK h1,.inr (.inr ⟨_,rfl,f⟩)⟩
       ·cases h
      ·cases h
    ·cases h
   ·cases h
  ·rename_i t;rcases II (F:=λj=>o7 C ops ops.toList.zipIdx n (L ||| sb j)) _ l h with ⟨v, _⟩|⟨i,r,O,rfl,⟨o,c⟩,N⟩
   ·
    exfalso;unfold nxM at t;split at t
    ·cases t
    ·split at t
     ·rename_i z H;have h1:=NZ H;have p:=List.mem_of_find?_eq_some H;have:z∈(ops.toList.zipIdx).filter λz=>Tk L z.2 (JQ z.1):=BQ.2 ⟨p,h1⟩;rw[v] at this;cases this
     ·cases t
   ·rw[BQ] at c;refine⟨(m6 a).2 ⟨o,pS.1 c.1,c.2⟩,λj b=>?_⟩;obtain⟨d,I,u⟩:=(m6 a).1 b;obtain⟨x,h1,p⟩:=N (d,j) (BQ.2 ⟨pS.2 I,u⟩);exact⟨x,h1,p8 n _ _ x (a.set (BI.1 I).1) p⟩
section
variable {r:Option Nat} {S:Nat->Option (Option AA)} {ops:Array Oper} {N:Nat} {D:List Deferred} {Q:Exit->Act->A2->Prop}
theorem YM {C:dI P} {i:Nat} {env:List bS} {a:Act} {w:A2} {K:List bS->Prop} (l:Wr S ops) (b:Fit S ops N D env a) (h:rxQ C ops N i env w K):
 ∃o u cZ,ops[i]? =some o/\K cZ/\Fit S ops N D cZ (a.put o.dst u)/\fS P ops o u a w:=by
 unfold rxQ at h;cases k:ops[i]? with
 |none=>simp[k] at h
 |some o=>
  simp only[k,aag,nH] at h;have e:=l o (by grind);split at h
  ·exact AC h
  ·rename_i f;split at h
   ·rename_i c;exact⟨o,undef, _,rfl,h,b.put c e rfl (λ_=>rfl) (by grind),.inr ⟨Cr b f,rfl⟩⟩
   ·exact AC h
  ·rename_i ch g f;obtain⟨j,m⟩:=Od b f;split at h
   ·rename_i c;obtain⟨v,d,n⟩:=yE b j h;replace d:=rU d;by_cases hc:kh ops a.tmps ch
    ·exact⟨o,v, _,rfl,d,b.put c e j (λ_=>rfl) (λp=>absurd hc p),.inl ⟨m.2 hc,n hc⟩⟩
    ·refine⟨o,undef, _,rfl,d,b.put c e j (λq=>absurd q hc) (λ_=>rfl),.inr ⟨?_,rfl⟩⟩
     simp_all
   ·exact AC h
theorem T1 {C:dI P} {i:Nat} {env:List bS} {a:Act} {w:A2} {K:(A2->Prop)->List bS->Prop} (t:Wr S ops) (c:Fit S ops N D env a) (h:X_ C ops N i env w K):
 ∃o u cZ p,ops[i]? =some o/\K p cZ/\Fit S ops N D cZ (a.put o.dst u)/\p w/\ZV p/\ ∀b,p b->fS P ops o u a b:=by
 unfold X_ at h;cases q:ops[i]? with
 |none=>simp[q] at h
 |some o=>
  simp only[q,WE,nH] at h;have j:=t o (by grind);split at h
  ·exact AC h
  ·rename_i k;split at h
   ·rename_i d;exact⟨o,undef, _, _,rfl,h,c.put d j rfl (λ_=>rfl) (by grind),trivial,λ_ _ _ _=>trivial,λ_ _=> .inr ⟨Cr c k,rfl⟩⟩
   ·exact AC h
  ·rename_i ch g k;obtain⟨l,x⟩:=Od c k;split at h
   ·rename_i d;obtain⟨p,v,f,r,s,y⟩:=PE h;replace f:=rU f;have z: ∀b,p b->kh ops a.tmps ch-> ∀w',Ext b w'->dk P o a w' v:=λb m hc=>by
     obtain⟨B,e,n⟩:=yE c l (y b m);subst e;exact n hc
    by_cases hc:kh ops a.tmps ch
    ·exact⟨o,v, _,p,rfl,f,c.put d j l (λ_=>rfl) (λA=>absurd hc A),r,s,λb m=> .inl ⟨x.2 hc,z b m hc⟩⟩
    ·refine⟨o,undef, _,p,rfl,f,c.put d j l (λn=>absurd n hc) (λ_=>rfl),r,s,λb _=> .inr ⟨?_,rfl⟩⟩
     simp_all
   ·exact AC h
def AH (a:List (Nat×(A2->Prop))) (j:Nat) (w:A2):Prop:= ∀e∈a,e.1.testBit j=false->e.2 w
theorem IJ {C:dI P} {a:List (Nat×(A2->Prop))} {env:List bS} {w:A2} {K:List bS->A2->Prop} {j:Nat} {x:Sd}: ∀{t:Sd},Ft C ops N t a env w K->Il j x t->Ya C ops N j a env w (λenv w=>Ft C ops N x a env w K)
 | .alt i r t,h,hi=>by
   rw[Ft] at h;have h1:Ya C ops N i a env w λenv w=>Ft C ops N r a env w K:=by
    grind[Yb]
   rcases hi with ⟨rfl,rfl⟩|hi
   ·omega
   ·refine IJ ?_ hi;unfold Yb at h;split at h
    ·cases hi
    grind
theorem YN {C:dI P} (G:Wr S ops) (Ag:Of ops=true) (U: ∀c a w,¬ Q (.panic c) a w): ∀(n:Nat) (l:Sd) (f:Array Bool) (d:List (Nat×(A2->Prop))) (env:List bS) (a:Act) (w:A2) (K:List bS->A2->Prop),(∀e∈d,ZV e.2)->Fit S ops N D env a->
 Valid C ops n l f->Ft C ops N l d env w K->(∀env a w w',K env w->Fit S ops N D env a->Ext w w'->Q .normal a w')->
 mv r P ops Q (n9 C ops) (AH d) n f a w:=by
 have V: ∀(j:Nat) (o:Oper),ops[j]? =some o->(∀cs b,o.op≠ .select cs b)/\ ∀c,o.op≠ .defer c:=λj o g=>by
  have:=Dl.1 Ag o (Array.mem_toList_iff.2 (JX g));constructor
  ·intro cs b he;simp[he] at this
  ·intro c he;simp[he] at this
 intro n
 induction n with
 |zero=>
  intro l f d env a w K _ s hv h v w' H;obtain⟨rfl,hv⟩:=hv;exact⟨hv,v env a w w' h s H⟩
 |succ n I=>
  intro l f d env a w K z s hv h v;cases l with
  |nil=>exact hv.elim
  |stop=>exact hv.elim
  |q i m l=>
   obtain⟨X,Y,⟨W,Z,Xf⟩,A⟩:=hv;cases m with
   |none=>
    obtain⟨o,u,cZ,g,x,y,B⟩:=YM G s h;have J:=I l (f.setIfInBounds i true) d cZ (a.put o.dst u) w K z y A x v;exact tT (W:=W) (a0:=a) g Y V U (λ_ _ h=>h) n f a w (λj L k M O R=>by
     have:=Z o g j L k M O R;refine⟨this.1,?_⟩;rcases this.2 with h|h|⟨w,h, _⟩
     ·exact .inl (by unfold n9;rw[k];exact h)
     ·exact .inr (.inl h)
     ·cases h) Xf X ⟨rfl,rfl⟩ B J
   |some T=>
    obtain⟨o,u,cZ,p,g,x,y,hp,hu,B⟩:=T1 G s h;have J:=I l (f.setIfInBounds i true) ((T,p)::d) cZ (a.put o.dst u) w K (λe he=>by
     rcases C7.1 he with rfl|he
     ·exact hu
     ·exact z e he) y A x v
    exact tT (W:=W) (a0:=a) (T':=AH ((T,p)::d)) g Y V U (λ_ _ h e he=>h e (NV _ he)) n f a w (λj L k M O R=>by
     have:=Z o g j L k M O R;refine⟨this.1,?_⟩;rcases this.2 with h|h|⟨w,h,hb⟩
     ·exact .inl (by unfold n9;rw[k];exact h)
     ·exact .inr (.inl h)
     ·cases h;exact .inr (.inr λw1 hT=>B w1 (hT (T,p) Ij hb))) Xf X ⟨rfl,rfl⟩ (B w hp) J
  |alt i l0 t=>
   obtain⟨hri,mF⟩:=hv;intro w' H;refine⟨λhe=>absurd hri (by rw[he];simp),λj k=>?_⟩;obtain⟨l,lR,A⟩:=mF j k;have h:=IJ h lR;have h':FE C ops N j env w (λenv w=>(n9 C ops j=true->AH d j w)/\Ft C ops N l d env w K):=by
    cases d with
    |nil=>
     have h:FE C ops N j env w (λenv w=>Ft C ops N l [] env w K):=h
     simp_all[n9,AH,Ft]
    |cons E F=>
     have e:(λ(env:List bS) (w:A2)=>(n9 C ops j=true->AH (E::F) j w)/\Ft C ops N l (E::F) env w K)=λenv w=>Og C ops j w (E::F) (Ft C ops N l (E::F) env w K):=by
      funext env w;unfold Og;cases n9 C ops j with
      |true=>exact propext ⟨λh=>pZ.2 ⟨h.1 rfl,h.2⟩,λh=>⟨λ_=>(pZ.1 h).1,(pZ.1 h).2⟩⟩
      |false=>simp
     rw[e];exact h
   refine wpOpIn_mono (λa1 w1 hh=>?_) (DV G s h' H);obtain⟨hx,cZ,wr,⟨Xj,x⟩,y,wJ⟩:=hh;exact⟨hx,λhe e hm hb=>z e hm wr w1 ((Xj he) e hm hb) wJ,nS (I l _ d cZ a1 wr K z y A x v) wJ⟩
theorem T2 {C:dI P} (d:Wr S ops) (e:Of ops=true) (f: ∀c a w,¬ Q (.panic c) a w) (env:List bS) (a:Act) (w:A2) (K:List bS->A2->Prop) (g:Fit S ops N D env a)
 (h:Yc C ops N env w K) (i: ∀env a w w',K env w->Fit S ops N D env a->Ext w w'->Q .normal a w'):
 mv r P ops Q (n9 C ops) (AH []) ops.size (F1 ops.size false) a w:=by
 unfold Yc aah at h;split at h
 ·rename_i l b;have hv:=p8 _ 0 _ l (Ah.zero ops) b
  grind[YN]
 grind
end
variable {P:Al}
def ko (l:List bS):List bS:=
 match l.filter λe=> !e.ch.isEmpty with
 |[]=>l
 |bad=>l.filter λe=>e.ch.isEmpty&& !(bad.any λb=>b.t==e.t)
def plain (l:List bS):Prop:= ∀e∈l,e.ch=[]/\e.g=none
theorem iM {p:bS->Bool}: ∀{l:List bS} {t:Nat} {e:bS},bZ (l.filter p) t=some e->(∀x∈l,x.t=t->p x=true)->bZ l t=some e
 |x::r,t,e,h,d=>by
  by_cases a:p x=true
  ·simp only[No,a,if_true,bZ] at h;simp only[bZ];split
   grind
   ·rename_i b
    simp_all
    exact iM h (by grind)
  ·simp only[No,a] at h;have c:x.t≠t:=λb=>a (by grind);simp only[bZ,c];exact iM h (by grind)
theorem yG: ∀{l:List bS} {t:Nat} {e:bS},bZ l t=some e->e.t=t
 |x::r,t,e,h=>by
  simp[bZ] at h;split at h
  grind
  ·exact yG h
variable {S:Nat->Option (Option AA)} {N:Nat} {D:List Deferred} {env:List bS} {a:Act}
theorem Fit.PG {ops ops':Array Oper} (h:Fit S ops N D env a) (b:plain env):Fit S ops' N D env a:=by
 have nil: ∀(o),kh o a.tmps []:=λo g=>by simp
 refine⟨h.off,h.size,h.qv,λt e c _=>h.yes t e c (by rw[(b e (bW c)).1];grind),λt e c f=>absurd (by rw[(b e (bW c)).1];grind) f,λe d=>?_,h.BG⟩;rw[(b e d).2];exact(b e d).1
theorem AU {ops ops':Array Oper} (h:Fit S ops N D env a):Fit S ops' N D (ko env) a/\plain (ko env):=by
 have m: ∀e∈env,e.ch=[]->e.g=none:=λe b hc=>by
  have:=h.Fo e b;cases j:e.g with
  |none=>rfl
  |some γ=>rw[j] at this;exact absurd hc this.1
 have nil: ∀(o:Array Oper),kh o a.tmps []:=λo x f=>by cases f
 have i: ∀e∈ko env,e.ch=[]/\e∈env:=by
  intro e b;unfold ko at b;split at b
  simp_all
  grind
 have k: ∀t e,bZ (ko env) t=some e->bZ env t=some e:=by
  intro t e b;unfold ko at b;split at b
  ·exact b
  ·rename_i n p;refine iM b λx f q=>?_;have r:=bW b
   grind[yG]
 have d:plain (ko env):=λe b=>⟨(i e b).1,by grind⟩;refine⟨⟨h.off,h.size,h.qv,λt e l _=>h.yes t e (k t e l) (by grind[bW]),by grind[bW],λe c=>?_,λe c=>h.BG e (i e c).2⟩,d⟩;rw[(d e c).2];exact(d e c).1
def jJ:Code->Option Nat
 | .region id _ _=>some id
 | .seq a b=>match jJ a with
   |some i=>some i
   |none=>jJ b
 | .cond _ a b=>match jJ a with
   |some i=>some i
   |none=>jJ b
 | .block _ b=>jJ b
 | .loop b=>jJ b
 | _=>none
def TH (ops:Array Oper):List Nat:=ops.toList.filterMap (·.dst)
def writes:Code->List Nat
 | .region _ ops _=>TH ops
 | .seq a b=>writes a++writes b
 | .cond _ a b=>writes a++writes b
 | .block _ b=>writes b
 | .loop b=>writes b
 | _=>[]
abbrev a8:=List (Nat×El)
def k9:(l:a8)->ox (l.map (·.2))->List bS
 |[], _=>[]
 |(t,s)::r,x=>⟨t,[],none,s.gZ x.1,none⟩::k9 r x.2
def oR:(l:a8)->List bS->Option (ox (l.map (·.2)))
 |[], _=>some ()
 |(t,s)::r,env=>match bZ env t with
  |some e=>match s.proj e.v,oR r env with
   |some x,some y=>some (x,y)
   | _, _=>none
  |none=>none
def WH (op:Op):Bool:=match op with
 | .send .. | .select .. =>true
 | _=>false
def aaQ (ops:Array Oper):Bool:=ops.toList.any λo=>WH o.op
def mg (n k:Nat):Array Bool:=⟨(B5 n).map λi=>FB i k⟩
def TI (ops:Array Oper):Bool:=(B5 ops.size).all λk=>B4 .any ops (mg ops.size k)==[k]
theorem EV {n k:Nat} (h:k<n):(mg n k).setIfInBounds k true=mg n (k+1):=by
 simp[mg];apply List.ext_getElem
 ·simp
 ·intro i a;rw[List.getElem_set];simp only[List.getElem_map,List.getElem_range];split
  ·subst_vars
   simp
  ·rw[Bool.eq_iff_iff,Nat.blt_eq,Nat.blt_eq];omega
theorem IK {ops:Array Oper} (h:TI ops=true): ∀(fuel t k:Nat) (a:List Nat),k+fuel=ops.size->Fg .any ops fuel t (mg ops.size k) a=a.reverse++Gi k fuel
 |0,t,k,a, _=>by simp[Fg]
 |fuel+1,t,k,a,c=>by
  have b:=by
   simp[TI] at h;exact h k (by omega)
  change (match (B4 .any ops _)[t % (B4 .any ops _).length]? with
   |some i=>Fg .any ops fuel _ _ _
   |none=>a.reverse)= _
  rw[b];simp[Nat.mod_one,GJ];rw[EV (by omega),IK h fuel _ _ _ (by omega)];simp[J3]
def CmR (P:Al) (o:Oper) (a:Act) (w:A2) (v:AA) (w':A2):Prop:=
 ∃cases bl sh,(execOp a.eval o).run P w= .ok (.comm cases bl sh) w/\
  ∀fr cs es,stepG P true (IR fr cs) w= .comm (IR fr cs) cases bl sh w es->step P (TB (IR fr cs) w)= .next (TB (IR (fr.finish v) cs) w')
def S9 (P:Al) (ops:Array Oper) (Q:Act->A2->Prop):List Nat->Act->A2->Prop
 |[],a,w=>Q a w
 |i::l,a,w=> ∃o,ops[i]? =some o/\B9 o (yielded ops a.tmps)=true/\(∀c,o.op≠ .defer c)/\
  ∃v w',((execOp a.eval o).run P w= .ok (.value v) w'\/CmR P o a w v w')/\S9 P ops Q l (a.put o.dst v) w'
theorem DX {ops:Array Oper} {Q b:Act->A2->Prop} (c: ∀a w,Q a w->b a w): ∀(l:List Nat) (a:Act) (w:A2),S9 P ops Q l a w->S9 P ops b l a w
 |[],a,w,h=>c a w h
 |i::l,a,w,h=>by
  obtain⟨o,d,e,f,v,w',g,j⟩:=h;exact⟨o,d,e,f,v,w',g,DX c l _ _ j⟩
theorem m7 {r:Option Nat} {ops:Array Oper} {Q:Act->A2->Prop}: ∀(l:List Nat) (a:Act) (w:A2),S9 P ops Q l a w-> ∀(b:Frame) (k:List Item) (cs:List Frame),
 ∃a' w',Q a' w'/\StepsIn (Machine.fenced P (WF r)) P (lone (b.atR a (.inRegion ops l::k)) cs w) (lone (b.atR a' k) cs w')
 |[],a,w,h,b,k,cs=>⟨a,w,h,.one (fenced_calm (n:=0) (WC r _) (IH r _) rfl) stepR_region_end⟩
 |i::l,a,w,h,b,k,cs=>by
  obtain⟨o,c,j,m,v,w',p,q⟩:=h;obtain⟨a',s,t,u⟩:=m7 l _ _ q b k cs;have d:=stepGR_op (P:=P) (b:=b) (k:=k) (cs:=cs) (w:=w) (rest:=l) c j;rw[Oper.semAt_eq _ _ _ m] at d;have f:(b.atR a (.inRegion ops (i::l)::k)).finish v=b.atR (a.put o.dst v) (.inRegion ops l::k):=by rw[Frame.finish_atR,c];rfl
  have h0:(lone (b.atR a (.inRegion ops (i::l)::k)) cs w).fenced P (WF r):=fenced_oper (n:=0) (WC r _) (IH r _) c (λ_ _=>trivial);refine⟨a',s,t,.head h0 ?_ u⟩;rcases p with e|⟨g,bl,sh,e,hc⟩
  ·refine step_lone_go ?_;rw[d, <-f];simp[stepG.apply,e]
  ·rw[<-f];have key: ∀x:Sem Next,x.run P w= .ok (.comm g bl sh) w-> ∃es,stepG.apply P true (b.atR a (.inRegion ops (i::l)::k)) cs none x w= .comm _ g bl sh w es:=λx y=>by
    simp only[stepG.apply,Sem.runT_eq,y,GStep.after];exact⟨_,rfl⟩
   obtain⟨es,z⟩:=key _ e;exact hc _ _ es (d.trans z)
theorem Ar {r:Option Nat} {id:Nat} {ops:Array Oper} {d:Bool} {Q:Exit->Act->A2->Prop} {a:Act} {w:A2} (j:P.follows .mixedOrders=true) (l:TI ops=true)
 (h: ∀w',Ext w w'->S9 P ops (Q .normal) (B5 ops.size) a w'):(Code.region id ops d).wpIn (WF r) 0 P Q a w:=by
 intro b k cs _ hb f;cases d with
 |false=>
  obtain⟨a',w',c,g⟩:=m7 _ _ _ (h w (Ext.refl w)) b k cs;exact⟨.normal,a',w',c,StepsIn.head (fenced_calm hb f rfl) stepR_region g⟩
 |true=>
  obtain⟨a',w',c,g⟩:=m7 (r:=r) _ _ _ (h _ (Ext.drew w)) b k cs;refine⟨.normal,a',w',c,StepsIn.head (fenced_calm hb f rfl) (stepR_region_draw) ?_⟩;have e: ∀t,GH (P.follows .mixedOrders) ops t=B5 ops.size:=λt=>by
   simp only[GH,j,N9];have m:F1 ops.size false=mg ops.size 0:=by
    apply Array.ext
    ·simp[mg]
    ·have: ∀i,FB i 0=false:=λi=>by rfl
     simp[mg,this]
   grind[IK,Nt]
  grind
def Im (op:Op):Bool:=match op with
 | .load .. | .fieldAddr .. | .indexAddr .. | .build .. | .field .. | .extract .. | .binOp .. | .move _| .assign _| .convert .. =>true
 | _=>false
theorem PH {s:Sem AA} {f:B3} {args:Array AA} {w w':A2} (h:(do pure (Next.value (<-s)):Sem Next).run P w= .ok (.enter f args) w'):False:=by
 cases a:s.run P w with
 |ok
 |halt=>simp_all
theorem AV {o:Oper} {a:Act} {w:A2} {v:AA} (h:Im o.op=true) (d:dk P o a w v):(execOp a.eval o).run P w= .ok (.value v) w/\ ∀c,o.op≠ .defer c:=by
 obtain⟨dst,op,type,pos,after,guard⟩:=o;have e: ∀f args w',(execOp a.eval ⟨dst,op,type,pos,after,guard⟩).run P w≠ .ok (.enter f args) w':=λf args w' b=>by
  cases op<;>simp[Im,E5] at h<;>first|exact PH b|(simp[execOp] at b;done)
 refine⟨?_,λc hc=>by subst hc;cases h⟩
 grind[dk]
def cop (P:Al) (ρ:Operand->Option AA) (op:Op) (w:A2) (K:AA->A2->Prop):Prop:=match op with
 | .send ch x=>match ρ ch,ρ x with
   |some (.chan p),some v=> ∀w1,Ext w w1-> ∃r cap a s m,p=some r/\ChO w1 r cap a s m/\a.length<cap/\K undef (w1.putObj r (.chan cap ⟨a++[v]⟩ false (s+1) m false))
   | _, _=>dy 130 op
 | .select cs bl=>match bl,cs.toList with
   |false,[c]=>match c.send,ρ c.chan,P.info? c.elem,uN P c.elem with
    |none,some (.chan p),some i,some el=>match i.zero with
     |some z=> ∀w1,Ext w w1-> ∃r cap a s m,p=some r/\ChO w1 r cap a s m/\(a=[]->K (.tuple ⟨[.int .i64 (-1),.bool false,z]⟩) w1)/\
      ∀v vs,a=v::vs-> ∃x:el.T,v=el.gZ x/\K (.tuple ⟨[.int .i64 0,.bool true,el.gZ x]⟩) (w1.putObj r (.chan cap ⟨vs⟩ false s (m+1) false))
     |none=>dy 131 op
    | _, _, _, _=>dy 132 op
   | _, _=>dy 133 op
 | _=>dy 134 op
theorem zp (w:A2) (r cap:Nat) (a:Array AA) (cl:Bool) (s m:Nat) (b:Bool):w.setChan r cap a cl s m b=w.putObj r (.chan cap a cl s m b):=rfl
theorem OM {ρ:Operand->Option AA} {a:Act} (d: ∀x v,ρ x=some v->a.eval x=v) {o:Oper} {w w':A2} {K:AA->A2->Prop} (h:cop P ρ o.op w K) (g:Ext w w'):
 (∀c,o.op≠ .defer c)/\ ∃v j,CmR P o a w' v j/\K v j:=by
 obtain⟨dst,op,type,pos,after,guard⟩:=o;unfold cop at h;simp only at h;split at h
 ·rename_i ch x;refine⟨λc hc=>(by cases hc),?_⟩;split at h
  ·rename_i p v e hv;obtain⟨r,cap,k,s,m,rfl,hc,l,f⟩:=h w' g;refine⟨_, _,⟨_, _, _,(by simp only[execOp,d _ _ e,d _ _ hv];rfl),λfr cs es b=>?_⟩,f⟩;have:=Go.Conc.step_lone_send_room (z':= .tuple #[]) b hc (by simpa using l);rw[this,zp];simp
  ·exact h.elim
 ·rename_i cs bl;refine⟨λc hc=>(by cases hc),?_⟩;split at h
  ·rename_i c fV;split at h
   ·rename_i p i el n e hi y;split at h
    ·rename_i z q;obtain⟨r,cap,k,s,m,rfl,hc,h0,h1⟩:=h w' g;have t:cs= #[c]:=by cases cs;simp_all
     have dP:(execOp a.eval ⟨dst,.select cs false,type,pos,after,guard⟩).run P w'= .ok (.comm #[TE r z] false .select) w':=by
      subst t;have u:(zeroValue c.elem).run P w'= .ok z w':=by simp[zeroValue,fB hi,q]
      simp[execOp,n,d _ _ e,u,TE]
     cases k with
     |nil=>exact⟨_, _,⟨_, _, _,dP,λfr cs es b=>Go.Conc.step_lone_select_default b hc⟩,h0 rfl⟩
     |cons v vs=>
      obtain⟨x,rfl,f⟩:=h1 v vs rfl;refine⟨_, _,⟨_, _, _,dP,λfr cs es b=>?_⟩,f⟩;have:=Go.Conc.step_lone_select_recv_buf b hc (by simp);rw[this,zp];simp[goInt]
    ·exact h.elim
   ·exact h.elim
  ·exact h.elim
 ·exact h.elim
def rxC (C:dI P) (ops:Array Oper) (N:Nat):List Nat->List bS->A2->(List bS->A2->Prop)->Prop
 |[],env,w,K=>K env w
 |i::r,env,w,K=>match ops[i]? with
  |none=>False
  |some ⟨dst,op,type,pos,after,guard⟩=>match guard with
   |some _=>dy 135 op
   |none=>if oP ops N env [] dst then match WH op with
     |true=>cop P (xR env []) op w (λv a=>wV env dst [] none v (λenv=>rxC C ops N r env a K))
     |false=>if Im op then oD C ops env [] none ⟨dst,op,type,pos,after,none⟩ w (λv=>wV env dst [] none v (λenv=>rxC C ops N r env w K)) else dy 136 op
    else dy 137 op
theorem F5 {ops:Array Oper} {C:dI P} (f:Wr S ops): ∀(l:List Nat) (env:List bS) (a:Act) (w w':A2) (K:List bS->A2->Prop),Fit S ops N D env a->rxC C ops N l env w K->Ext w w'->
 S9 P ops (λa1 w1=> ∃cZ j,K cZ j/\Fit S ops N D cZ a1/\Ext j w1) l a w'
 |[],env,a,w,w',K,b,h,c=>⟨env,w,h,b,c⟩
 |i::l,env,a,w,w',K,b,h,c=>by
  unfold rxC at h;split at h
  ·exact h.elim
  ·rename_i dst op type pos after guard k;have n:=f _ (JX k);split at h
   ·exact h.elim
   ·split at h
    ·rename_i p;have m: ∀v,Fit S ops N D (k8 env dst [] none v) (a.put dst v):=λv=>b.put p n rfl (λ_=>rfl) (λd=>absurd eB d);refine⟨_,k,(by simp[B9]),?_⟩;split at h
     ·obtain⟨d,v,q,hc,e⟩:=OM (o:=⟨dst,op,type,pos,after,none⟩) (a:=a) (λx v r=>b.ev eB r) h c;rw[nH] at e;exact⟨d,v,q,.inr hc,F5 f l _ _ _ _ K (m v) e (Ext.refl _)⟩
     ·split at h
      ·rename_i s;obtain⟨v,e,t⟩:=yE (g:=none) b rfl h;obtain⟨u,d⟩:=AV s (t eB w' c);rw[nH] at e;exact⟨d,v,w',.inl u,F5 f l _ _ _ _ K (m v) e c⟩
      ·exact h.elim
    ·exact h.elim
def nA (o:Oper):List Nat:=(o.after.toList.filter λe=>DE .any e).map (·.on)
def F6 (o:Oper):List Nat:=o.op.operands.toList.filterMap λ| .tmp t=>some t| _=>none
def aaS (op:Op):Bool:=match op with
 | .select .. =>true
 | _=>false
def WI (ops:Array Oper) (i:Nat):Bool:=match ops[i]? with
 |none=>false
 |some o=>o.guard.isNone&& !aaS o.op&&((F6 o).all λt=>(B5 ops.size).all λj=>dE ops j != some t||(nA o).contains j)&&((nA o).all λj=>FB j i)&&
  (o.dst.isNone||(B5 i).all λj=>dE ops j != o.dst)&&(Nat.beq (i+1) ops.size||(B5 ops.size).any λk=>FB i k&&match ops[k]? with
   |some x=>(nA x).contains i
   |none=>false)
def FF (ops:Array Oper):Bool:=(B5 ops.size).all (WI ops)
def wpS (P:Al) (ops:Array Oper) (Q:Act->A2->Prop):List Nat->Act->A2->Prop
 |[], _, _=>False
 |[i],a,w=> ∃o,ops[i]? =some o/\(∀c,o.op≠ .defer c)/\ ∃v w',CmR P o a w v w'/\Q (a.put o.dst v) w'
 |i::j::l,a,w=> ∃o,ops[i]? =some o/\(∀c,o.op≠ .defer c)/\ ∃v,(execOp a.eval o).run P w= .ok (.value v) w/\wpS P ops Q (j::l) (a.put o.dst v) w
theorem DY {ops:Array Oper} {Q d:Act->A2->Prop} (e: ∀a w,Q a w->d a w): ∀(l:List Nat) (a:Act) (w:A2),wpS P ops Q l a w->wpS P ops d l a w
 |[i],a,w,h=>by
  obtain⟨o,b,c,v,w',hc,h⟩:=h;exact⟨o,b,c,v,w',hc,e _ _ h⟩
 |i::j::l,a,w,h=>by
  obtain⟨o,b,c,v,f,h⟩:=h;exact⟨o,b,c,v,f,DY e _ _ _ h⟩
def CY (ops:Array Oper) (a:Act) (v:Nat->AA) (k:Nat):Nat->Act
 |0=>a
 |i+1=>(CY ops a v k i).put (dE ops (k+i)) (v i)
theorem AW {ops:Array Oper} {a:Act} {v:Nat->AA} {k:Nat}: ∀i,CY ops (a.put (dE ops k) (v 0)) (λj=>v (j+1)) (k+1) i=CY ops a v k (i+1)
 |0=>rfl
 |i+1=>by
  show(CY ops _ _ _ i).put _ _=(CY ops a v k _).put _ _;rw[AW,show k+1+i=k+(i+1) by omega]
theorem F7 {ops:Array Oper} {i:Nat} {o:Oper} (h:ops[i]? =some o):dE ops i=o.dst:=by grind[dE]
theorem IL {ops:Array Oper} {Q:Act->A2->Prop} {w:A2}: ∀(d k:Nat) (a:Act),wpS P ops Q (Gi k (d+1)) a w->
 ∃(v:Nat->AA),(∀i,i<d-> ∃o,ops[k+i]? =some o/\(∀c,o.op≠ .defer c)/\(execOp (CY ops a v k i).eval o).run P w= .ok (.value (v i)) w)/\
  ∃o,ops[k+d]? =some o/\(∀c,o.op≠ .defer c)/\ ∃u w',CmR P o (CY ops a v k d) w u w'/\Q ((CY ops a v k d).put o.dst u) w'
 |0,k,a,h=>by
  obtain⟨o,h1,f,u,w',b,l⟩:=h;exact⟨λ_=>undef,by grind,o,h1,f,u,w',b,l⟩
 |d+1,k,a,h=>by
  rw[J3] at h;have e:Gi (k+1) (d+1)=(k+1)::Gi (k+1+1) d:=J3;rw[e] at h;obtain⟨o,h1,m,g,f,b⟩:=h;rw[<-e] at b;obtain⟨v,q,n,r,p,u,w',k4,k5⟩:=IL d (k+1) _ b
  let j:Nat->AA:=λi=>match i with
   |0=>g
   |i+1=>v i
  have sh: ∀i,CY ops (a.put o.dst g) v (k+1) i=CY ops a j k (i+1):=λi=>by
   rw[<-AW,F7 h1]
  refine⟨j,λi hi=>?_,n,by grind,p,u,w',?_,?_⟩
  ·cases i with
   |zero=>exact⟨o,h1,m,f⟩
   |succ i=>
    grind
  ·rw[<-sh d];exact k4
  ·rw[<-sh d];exact k5
structure SR (ops:Array Oper) (m:Nat) (v:Nat->AA) (a:Act) (S:Nat->Prop) (b:Act):Prop where
 df:b.defers=a.defers
 sz:b.tmps.size=a.tmps.size
 yes: ∀j t,j<m->S j->dE ops j=some t->b.tmps[t]? =if t<a.tmps.size then some (v j) else none
 no: ∀t,(∀j,j<m->S j->dE ops j≠some t)->b.tmps[t]? =a.tmps[t]?
theorem SR.step {ops:Array Oper} {m:Nat} {v:Nat->AA} {a b:Act} {S S':Nat->Prop} (h:SR ops m v a S b) {i:Nat} (hi:i<m) (l: ∀j,S' j<->S j\/j=i) (o: ∀j t,j<m->dE ops j=some t->dE ops i=some t->j=i):SR ops m v a S' (b.put (dE ops i) (v i)):=by
 cases n:dE ops i with
 |none=>
  refine⟨h.df,h.sz,λj t k f g=>?_,λt g=>h.no t (by grind)⟩;rcases(l j).1 f with f|rfl
  ·exact h.yes j t k f g
  grind
 |some d=>
  have p:(b.put (some d) (v i)).tmps.size=a.tmps.size:=by simp[Bx,h.sz]
  refine⟨h.df,p,λj t k f g=>?_,λt g=>?_⟩
  ·by_cases e:t=d
   ·subst e;have:j=i:=o j t k g n;subst this;simp only[Bx];rw[Array.getElem?_setIfInBounds];simp[h.sz]
   ·rcases(l j).1 f with f|rfl
    ·have:(b.put (some d) (v i)).tmps[t]? =b.tmps[t]? :=by simp[Bx,DB (λc=>e c.symm)]
     rw[this];exact h.yes j t k f g
    grind
  ·have q:d≠t:=λe=>g i hi ((l i).2 (.inr rfl)) (by rw[n,e]);have:(b.put (some d) (v i)).tmps[t]? =b.tmps[t]? :=by simp[Bx,DB q]
   rw[this];exact h.no t (by grind)
theorem SR.eq {ops:Array Oper} {m:Nat} {v:Nat->AA} {a b c:Act} {S T:Nat->Prop} (h:SR ops m v a S b) (k:SR ops m v a T c) (i: ∀j,j<m->(S j<->T j)):b=c:=by
 have:=by
  apply JP;apply List.ext_getElem?;intro t;have e:b.tmps[t]? =c.tmps[t]? :=by
   by_cases l: ∃j,j<m/\S j/\dE ops j=some t
   ·obtain⟨j,d,f,g⟩:=l;rw[h.yes j t d f g,k.yes j t d ((i j d).1 f) g]
   ·rw[h.no t (by grind),k.no t (by grind)]
  simpa
 cases b;cases c;have h1:=h.df.trans k.df.symm
 grind
theorem fw {ops:Array Oper} (a:FF ops=true) {i:Nat} {o:Oper} (d:ops[i]? =some o):
 o.guard=none/\(∀cs b,o.op≠ .select cs b)/\(∀t∈F6 o, ∀j,j<ops.size->dE ops j=some t->j∈nA o)/\(∀j∈nA o,j<i)/\(∀j t,j<i->dE ops j=some t->dE ops i≠some t)/\
  (i+1=ops.size\/ ∃k x,i<k/\ops[k]? =some x/\i∈nA x):=by
 have hi:=(BI.1 d).1;unfold FF at a;rw[Dl] at a;have h:=a i (Dn.2 hi);unfold WI at h;rw[d] at h;simp at h;obtain⟨⟨⟨⟨⟨h1,f⟩,l⟩,g⟩,m⟩,n⟩:=h;refine⟨h1,λcs b e=>(by rw[e] at f;cases f),by grind,g,λj t p q c=>?_,?_⟩
 ·grind[F7]
 grind
theorem AX {ops:Array Oper} {a:Array Bool} (d:a.size=ops.size) {i:Nat}:i∈B4 .any ops a<-> ∃o,ops[i]? =some o/\a.getD i false=false/\ ∀j∈nA o,a.getD j false=true:=by
 have c:i<ops.size->(a.getD i true=a.getD i false):=λh=>by simp[JS,d,h]
 unfold B4;rw[BQ,Dn];constructor
 ·rintro⟨hi,hc⟩;obtain⟨o,b⟩: ∃o,ops[i]? =some o:=⟨_,JW hi⟩;rw[b,c hi] at hc;simp only[GG,IA,B8,H4,H5] at hc;refine⟨o,b,hc.1,λj f=>?_⟩;obtain⟨e,g,rfl⟩:=GI.1 f
  grind
 ·rintro⟨o,b,h1,k⟩;have hi:i<ops.size:=(BI.1 b).1;refine⟨hi,?_⟩;rw[b,c hi];simp only[GG,IA,B8,H4,H5,Fp];refine⟨h1,λe g=>?_⟩;by_cases hb:DE .any e=true
  ·exact .inr (k e.on (GI.2 (by grind)))
  grind
theorem yP {l:Array Bool} {i j:Nat} (hi:i<l.size):(l.setIfInBounds i true).getD j false=true<->l.getD j false=true\/j=i:=by
 by_cases j=i
 simp_all
 ·simp
  grind
theorem T4 {ops:Array Oper} {Q:Act->A2->Prop} {a:Act} {w:A2} (z:FF ops=true) {m:Nat} (hm:ops.size=m+1) (h:wpS P ops Q (B5 (m+1)) a w):
 ∀(s t:Nat) (f:Array Bool) (b:Act),f.size=ops.size->(B5 ops.size).countP (λj=> !f.getD j false)=s->f.getD m false=false->
  (∀i o,ops[i]? =some o->f.getD i false=true-> ∀j∈nA o,f.getD j false=true)->
  (∃v:Nat->AA,(∀i,i<m-> ∃o,ops[i]? =some o/\(∀c,o.op≠ .defer c)/\(execOp (CY ops a v 0 i).eval o).run P w= .ok (.value (v i)) w)/\
   (∃o,ops[m]? =some o/\(∀c,o.op≠ .defer c)/\ ∃u w',CmR P o (CY ops a v 0 m) w u w'/\Q ((CY ops a v 0 m).put o.dst u) w')/\SR ops m v a (λj=>f.getD j false=true) b)->
  S9 P ops Q (Fg .any ops s t f []) b w:=by
 intro s
 induction s with
 |zero=>
  intro t f b y hc B _ _;exfalso;rw[Nw] at hc;have:=hc m (Dn.2 (by omega));rw[B] at this;exact this rfl
 |succ s ih=>
  intro t f b y hc B T J;obtain⟨v,hv,⟨K,C,U,u,w',V,W⟩,E⟩:=J;have X: ∀i j t,i<m->j<m->dE ops i=some t->dE ops j=some t->j=i:=λi j t hi g h1 p=>by
   obtain⟨oi,l, _⟩:=hv i hi;obtain⟨oj,F, _⟩:=hv j g;rcases Nat.lt_trichotomy i j with q|q|q
   ·exact absurd p ((fw z F).2.2.2.2.1 i t q h1)
   ·exact q.symm
   ·exact absurd h1 ((fw z l).2.2.2.2.1 j t q p)
  have L: ∀k,k<=m->SR ops m v a (λj=>j<k) (CY ops a v 0 k):=by
   intro k
   induction k with
   |zero=>exact λ_=>⟨rfl,rfl,λj t _ hs=>absurd hs (Nat.not_lt_zero _),λt _=>rfl⟩
   |succ k M=>
    intro r;have:=(M (by omega)).step (S':=λj=>j<k+1) (i:=k) (by omega) (λj=>by omega) (λj t g h1 p=>X k j t (by omega) g p h1);show SR ops m v a _ ((CY ops a v 0 k).put (dE ops (0+k)) (v k));rw[JY];exact this
  have same: ∀i o,ops[i]? =some o->i<=m->(∀j∈nA o,f.getD j false=true)->execOp b.eval o=execOp (CY ops a v 0 i).eval o:=λi o l hi D=>by
   obtain⟨_,hns,JO,Y, _, _⟩:=fw z l;refine execOp_congr o hns λx J=>?_;cases x with
   |tmp t=>
    have ht:t∈F6 o:=List.mem_filterMap.2 ⟨.tmp t,by simpa using J,rfl⟩;have key:b.tmps[t]? =(CY ops a v 0 i).tmps[t]? :=by
     by_cases g: ∃j,j<ops.size/\dE ops j=some t
     ·obtain⟨j,Z,N⟩:=g;have G:=JO t ht j Z N;have O:=Y j G;rw[E.yes j t (by omega) (D j G) N,(L i hi).yes j t (by omega) O N]
     ·rw[E.no t λj z6 _ R=>g ⟨j,by omega,R⟩,(L i hi).no t λj z6 _ R=>g ⟨j,by omega,R⟩]
    simp only[Fv,Fu,key]
   | _=>rfl
  have wt: ∀i o,ops[i]? =some o-> ∀c:Act,B9 o (yielded ops c.tmps)=true:=λi o l c=>by
   unfold B9;rw[(fw z l).1]
  simp only[Fg];change S9 P ops Q (match (B4 .any ops f)[t % (B4 .any ops f).length]? with
   |some i=>Fg .any ops s (t / (B4 .any ops f).length) (f.setIfInBounds i true) [i]
   |none=>[].reverse) b w
  cases hi:(B4 .any ops f)[t % (B4 .any ops f).length]? with
  |none=>
   exfalso;have BS:B4 .any ops f=[]:=by
    cases hr:B4 .any ops f with
    |nil=>rfl
    |cons x xs=>
     rw[hr] at hi;have Y:t % (x::xs).length<(x::xs).length:=Nat.mod_lt _ (by simp);rw[List.getElem?_eq_none_iff] at hi;omega
   have least: ∀k,k<=m->(∀j,j<k->f.getD j false=true)->f.getD k false=true:=λk r g=>by
    cases A:f.getD k false with
    |true=>rfl
    |false=>
     exfalso;obtain⟨o,l⟩: ∃o,ops[k]? =some o:=⟨_,JW (by omega)⟩;have:k∈B4 .any ops f:=(AX y).2 ⟨o,l,A,λj G=>g j ((fw z l).2.2.2.1 j G)⟩;rw[BS] at this;cases this
   have all: ∀k,k<=m->f.getD k false=true:=by
    intro k
    induction k using JZ with
    | _ k M=>exact λr=>least k r λj g=>M j g (by omega)
   rw[all m (Df _)] at B;cases B
  |some i=>
   simp only[];rw[linearise_go_acc,List.reverse_singleton,List.singleton_append];have hir:=List.mem_of_getElem? hi;obtain⟨o,l,iR,D⟩:=(AX y).1 hir;have H:i<ops.size:=(BI.1 l).1;by_cases him:i=m
   ·subst him;rw[C] at l;cases l;have all: ∀d k,k+d=i->k<i->f.getD k false=true:=by
     intro d
     induction d using JZ with
     | _ d ihd=>
       intro k r hki;obtain⟨ok,jS, _⟩:=hv k hki;rcases(fw z jS).2.2.2.2.2 with q|⟨j,x,hkj,I,uP⟩
       ·omega
       ·have Z:j<ops.size:=(BI.1 I).1;by_cases O:j=i
        ·subst O;rw[C] at I;cases I;exact D k uP
        ·exact T j x I (ihd (i - j) (by omega) j (by omega) (by omega)) k uP
    have heq:b=CY ops a v 0 i:=E.eq (L i (Df _)) λj g=>⟨λ_=>g,λ_=>all (i - j) j (by omega) g⟩;have hf:s=0:=by
     have h1:(B5 ops.size).countP (λj=> !f.getD j false)<=1:=by
      rw[hm,Ny,J7];have:(B5 i).countP (λj=> !f.getD j false)=0:=Nw.2 λj g=>by
       rw[all (i - j) j (by have:=Dn.1 g;omega) (Dn.1 g)];decide
      rw[this];exact Nat.le_trans (by rw[JY];exact List.countP_le_length) (Df 1)
     omega
    subst hf;refine⟨K,C,wt i K C b,U,u,w',.inr ?_,?_⟩
    ·rw[heq];exact V
    ·rw[heq];exact W
   ·have S:i<m:=by omega
    obtain⟨o',F,hn,dP⟩:=hv i S;rw[l] at F;cases F;refine⟨o,l,wt i o l b,hn,v i,w,.inl (by rw[same i o l (by omega) D];exact dP),?_⟩;have NA:(f.setIfInBounds i true).size=ops.size:=by simp[y]
    refine ih _ _ _ NA ?_ ?_ ?_ ⟨v,hv,⟨K,C,U,u,w',V,W⟩,?_⟩
    ·
     have YO: ∀n,i<n->(B5 n).countP (λj=> !f.getD j false)=(B5 n).countP (λj=> !(f.setIfInBounds i true).getD j false)+1:=by
      intro n
      induction n with
      |zero=>intro h;omega
      |succ n ihn=>
       intro lR;rw[Ny,J7,J7];by_cases e:i=n
       ·subst e;have h1:(B5 i).countP (λj=> !(f.setIfInBounds i true).getD j false)=(B5 i).countP (λj=> !f.getD j false):=by
         refine List.countP_congr λj g=>?_;have g:=Dn.1 g;have:(f.setIfInBounds i true).getD j false=f.getD j false:=by
          simp only[Fu];rw[DB (by omega)]
         rw[this]
        have p:(f.setIfInBounds i true).getD i false=true:=(yP (by rw[y];exact H)).2 (.inr rfl);rw[h1,Gj,Gj,p,iR];rfl
       ·have p:(f.setIfInBounds i true).getD n false=f.getD n false:=by
         simp only[Fu];rw[DB e]
        rw[ihn (by omega),Gj,Gj,p];omega
     have:=YO ops.size H;omega
    ·have:(f.setIfInBounds i true).getD m false=f.getD m false:=by
      simp only[Fu];rw[DB him]
     rw[this];exact B
    ·intro k x r A j g;rw[yP (by rw[y];exact H)] at A ⊢;rcases A with A|rfl
     ·exact .inl (T k x r A j g)
     ·rw[l] at r;cases r;exact .inl (D j g)
    ·have:=E.step (S':=λj=>(f.setIfInBounds i true).getD j false=true) S (λj=>yP (by rw[y];exact H)) (λj t g h1 p=>X i j t S g p h1);rw[F7 l] at this;exact this
theorem WK {ops:Array Oper} {Q:Act->A2->Prop} (c:FF ops=true) {w:A2}: ∀(l:List Nat) (a:Act),wpS P ops Q l a w->S9 P ops Q l a w
 |[i],a,h=>by
  obtain⟨o,b,d,v,w',hc,e⟩:=h;exact⟨o,b,by unfold B9;rw[(fw c b).1],d,v,w',.inr hc,e⟩
 |i::j::l,a,h=>by
  obtain⟨o,b,d,v,f,g⟩:=h;exact⟨o,b,by unfold B9;rw[(fw c b).1],d,v,w,.inl f,WK c _ _ g⟩
theorem As {r:Option Nat} {id:Nat} {ops:Array Oper} {f:Bool} {Q:Exit->Act->A2->Prop} {a:Act} {w:A2} (s:P.follows .mixedOrders=true) (g:FF ops=true) (h0:0<ops.size)
 (h: ∀w',Ext w w'->wpS P ops (Q .normal) (B5 ops.size) a w'):(Code.region id ops f).wpIn (WF r) 0 P Q a w:=by
 intro b k cs _ hb l;cases f with
 |false=>
  obtain⟨a',w',c,d⟩:=m7 (r:=r) _ _ _ (WK g _ _ (h w (Ext.refl w))) b k cs;exact⟨.normal,a',w',c,StepsIn.head (fenced_calm hb l rfl) stepR_region d⟩
 |true=>
  have e:=h _ (Ext.drew w);obtain⟨m,n⟩: ∃m,ops.size=m+1:=⟨ops.size - 1,by omega⟩;have key: ∀t,S9 P ops (Q .normal) (GH (P.follows .mixedOrders) ops t) a {w with drawn:=w.drawn+1}:=λt=>by
   simp only[GH,s,Bool.true_or,if_true,N9];rw[n] at e;have x:=IL m 0 a (by rw[<-Nt];exact e);obtain⟨v,hv,o,A,y,u,w',hc,c⟩:=x;have p: ∀j,(F1 ops.size false).getD j false=false:=λj=>by
    by_cases z:j<ops.size<;>simp[JS,z]
   refine T4 g n e ops.size t _ a (by simp) ?_ (p m) (λi o _ q=>by rw[p] at q;cases q) ⟨v,λi hi=>?_,⟨o,?_,y,u,w',hc,c⟩,⟨rfl,rfl,by simp_all,λt _=>rfl⟩⟩
   simp_all
   grind
   grind
  obtain⟨a',w',c,d⟩:=m7 (r:=r) _ _ _ (key _) b k cs;exact⟨.normal,a',w',c,StepsIn.head (fenced_calm hb l rfl) (stepR_region_draw) d⟩
def rxP (C:dI P) (ops:Array Oper) (N:Nat):List Nat->List bS->A2->(List bS->A2->Prop)->Prop
 |[], _, _, _=>False
 |i::r,env,w,K=>match ops[i]? with
  |none=>False
  |some ⟨dst,op,type,pos,after, _⟩=>if oP ops N env [] dst then match r with
    |[]=>cop P (xR env []) op w (λv a=>wV env dst [] none v (λenv=>K env a))
    |j::l=>if Im op then oD C ops env [] none ⟨dst,op,type,pos,after,none⟩ w (λv=>wV env dst [] none v (λenv=>rxP C ops N (j::l) env w K)) else dy 138 op
   else dy 139 op
theorem ON {ops:Array Oper} {C:dI P} (k:FF ops=true) (m:Wr S ops): ∀(l:List Nat) (env:List bS) (a:Act) (w w':A2) (K:List bS->A2->Prop),Fit S ops N D env a->rxP C ops N l env w K->Ext w w'->
 wpS P ops (λa1 w1=> ∃cZ n,K cZ n/\Fit S ops N D cZ a1/\Ext n w1) l a w'
 |[], _, _, _, _, _, _,h, _=>h.elim
 |i::r,env,a,w,w',K,e,h,f=>by
  unfold rxP at h;split at h
  ·exact h.elim
  ·rename_i dst op type pos after guard d;have s:=m _ (JX d);have t:guard=none:=(fw k d).1;subst t;split at h
   ·rename_i u;have p: ∀v,Fit S ops N D (k8 env dst [] none v) (a.put dst v):=λv=>e.put u s rfl (λ_=>rfl) (λb=>absurd eB b);split at h
    ·obtain⟨b,v,q,hc,c⟩:=OM (o:=⟨dst,op,type,pos,after,none⟩) (a:=a) (λx v y=>e.ev eB y) h f;rw[nH] at c;exact⟨_,d,b,v,q,hc, _,q,c,p v,Ext.refl _⟩
    ·rename_i j l;split at h
     ·rename_i z;obtain⟨v,c,A⟩:=yE (g:=none) e rfl h;obtain⟨B,b⟩:=AV (o:=⟨dst,op,type,pos,after,none⟩) z (A eB w' f);rw[nH] at c;exact⟨_,d,b,v,B,ON k m (j::l) _ _ _ _ K (p v) c f⟩
     ·exact h.elim
   ·exact h.elim
def Oi (C:dI P) (N:Nat) (ops:Array Oper) (a:Bool) (env:List bS) (w:A2) (K:List bS->A2->Prop):Prop:=
 if aaQ ops then
  if TI ops then rxC C ops N (B5 ops.size) env w (λenv w=>jI (ko env) λenv=>K env w)
  else if FF ops&&FB 0 ops.size then rxP C ops N (B5 ops.size) env w (λenv w=>jI (ko env) λenv=>K env w) else False
 else if a then
  if Of ops then Yc C ops N env w (λenv w=>jI (ko env) λenv=>K env w) else False
 else rxL C ops N (B5 ops.size) env w (λenv w=>jI (ko env) λenv=>K env w)
inductive Md where
 |run|to (b:Nat) (K:List bS->A2->Prop)|Wc (b:Nat)
def atR (b:Nat) (y:Code):Bool:=match jJ y with
 |some i=>Nat.beq i b
 |none=>false
def FG (b:Nat):Code->Option Code
 | .seq _ y=>match atR b y with
   |true=>some y
   |false=>FG b y
 | _=>none
def oI (b:Nat):Code->List Nat
 | .seq x y=>writes x++(match atR b y with
   |true=>[]
   |false=>oI b y)
 | _=>[]
def aaj (b:Nat):Code->Bool
 | .seq x y=>match atR b x with
   |true=>true
   |false=>aaj b y
 |c=>atR b c
def aaT (aS:Nat->a8) (c y:Code):Option (Nat×a8):=match jJ c with
 |none=>none
 |some a=>match aS (1000000+a) with
  |[]=>none
  |(b, _)::sl=>match aaj b y with
   |true=>some (b,sl)
   |false=>none
def NS (sl:a8) (J:ox (sl.map (·.2))->A2->Prop) (env:List bS) (w:A2):Prop:=match oR sl env with
 |some s=>J s w
 |none=>False
def cz (C:dI P) (aS:Nat->a8) (N:Nat):Code->Md->List bS->A2->(List bS->A2->Prop)->(Nat->List bS->A2->Prop)->(List bS->A2->Prop)->Prop
 | .skip,.run,env,w,Kn, _, _=>Kn env w
 | .region _ ops g,.run,env,w,Kn, _, _=>Oi C N ops g env w Kn
 | .seq x y,m,env,w,Kn,Kx,Kr=>match m with
   | .run=>match aaT aS x y with
     |none=>cz C aS N x .run env w (λenv w=>cz C aS N y .run env w Kn Kx Kr) Kx Kr
     |some (b,sl)=> ∃J:ox (sl.map (·.2))->A2->Prop,
      cz C aS N x .run env w (λenv w=>match atR b y with
       |true=>NS sl J env w
       |false=>cz C aS N y (.to b (NS sl J)) env w Kn Kx Kr) Kx Kr/\
      ∀s w1,J s w1->jI (k9 sl s++env.filter λe=> !(oI b (.seq x y)).contains e.t) λcZ=>match atR b y with
       |true=>cz C aS N y .run cZ w1 Kn Kx Kr
       |false=>cz C aS N y (.Wc b) cZ w1 Kn Kx Kr
   | .to b K=>cz C aS N x .run env w (λenv w=>match atR b y with
    |true=>K env w
    |false=>cz C aS N y (.to b K) env w Kn Kx Kr) Kx Kr
   | .Wc b=>match atR b y with
    |true=>cz C aS N y .run env w Kn Kx Kr
    |false=>cz C aS N y (.Wc b) env w Kn Kx Kr
 | .cond c x y,.run,env,w,Kn,Kx,Kr=>match xR env [] c with
   |some (.bool b)=>aH b (cz C aS N x .run env w Kn Kx Kr) (cz C aS N y .run env w Kn Kx Kr)
   | _=>False
 | .block id x,.run,env,w,Kn,Kx,Kr=>cz C aS N x .run env w Kn (λa env w=>if a=id then Kn env w else Kx a env w) Kr
 | .loop x,.run,env,w, _,Kx,Kr=>
   let sl:=aS ((jJ x).getD 0)
   match oR sl env with
   |none=>False
   |some h=> ∃I:Nat->ox (sl.map (·.2))->A2->Prop,(∃n, ∀w1,Ext w w1->I n h w1)/\
    ∀n s w1,I n s w1->jI (k9 sl s++env.filter λe=> !(writes x).contains e.t) λcZ=>cz C aS N x .run cZ w1
     (λi j=>match oR sl i with
      |some k=> ∀d,Ext j d-> ∃f,f<n/\I f k d
      |none=>False) Kx Kr
 | .exit id,.run,env,w, _,Kx, _=>Kx id env w
 | .ret,.run,env,w, _, _,Kr=>Kr env w
 | _, _, _, _, _, _, _=>False
@[reducible] def rL (C:dI P) (aS:Nat->a8) (N:Nat) (c:Code) (env:List bS) (w:A2) (Kn:List bS->A2->Prop) (Kx:Nat->List bS->A2->Prop) (Kr:List bS->A2->Prop):Prop:=
 cz C aS N c .run env w Kn Kx Kr
def Qp (S:Nat->Option (Option AA)) (N:Nat) (D:List Deferred) (Kn:List bS->A2->Prop) (Kx:Nat->List bS->A2->Prop) (Kr:List bS->A2->Prop):Exit->Act->A2->Prop
 | .normal,a,w=> ∃env b,Kn env b/\plain env/\Fit S #[] N D env a/\Ext b w
 | .exit id,a,w=> ∃env b,Kx id env b/\plain env/\Fit S #[] N D env a/\Ext b w
 | .ret,a,w=> ∃env b,Kr env b/\plain env/\Fit S #[] N D env a/\Ext b w
 | _, _, _=>False
theorem T5 {ops:Array Oper} (h: ∀k∈TH ops,S k=none):Wr S ops:=λo a k b=>h k (by
 simp[TH]
 grind)
theorem PI {r:Option Nat} {C:dI P} {id:Nat} {ops:Array Oper} {b:Bool} {w w':A2} {Kn:List bS->A2->Prop} {Kx:Nat->List bS->A2->Prop} {Kr:List bS->A2->Prop}
 (m: ∀k∈TH ops,S k=none) (n:plain env) (o:Fit S #[] N D env a) (h:Oi C N ops b env w Kn) (d:Ext w w'):
 (Code.region id ops b).wpIn (WF r) 0 P (Qp S N D Kn Kx Kr) a w':=by
 have e:Fit S ops N D env a:=o.PG n;have f:=T5 m;have p: ∀env a w w',Kn (ko env) w->Fit S ops N D env a->Ext w w'->Qp S N D Kn Kx Kr .normal a w':=λenv a w w' q l s=>
  ⟨_,w,q,(AU (ops':= #[]) l).2,(AU l).1,s⟩
 have t: ∀c a w,¬ Qp S N D Kn Kx Kr (.panic c) a w:=λ_ _ _ h=>h;simp only[Oi,jO] at h;split at h
 ·split at h
  ·rename_i u;refine Ar C.mixed u λg i=>?_;have:=F5 (C:=C) f _ env a w g _ e h (d.trans i)
   grind[DX]
  ·split at h
   ·rename_i j
    simp_all
    refine As C.mixed j.1 j.2 λg i=>?_;have:=ON (C:=C) j.1 f _ env a w g _ e h (d.trans i)
    grind[DY]
   ·exact h.elim
 cases b with
 |false=>exact wpIn_region (by grind[OH])
 |true=>
  simp only[if_true] at h;split at h
  ·rename_i v;exact wpIn_region_any C.mixed (zo _ _ _ _ (nS (T2 (C:=C) f v t env a w _ e h p) (d.trans (Ext.drew _))))
  ·exact AC h
theorem tA: ∀{l:a8} {s:ox (l.map (·.2))} {e:bS},e∈k9 l s->e.ch=[]/\e.g=none
 |sc::r,s,e,h=>by
  simp[k9] at h;rcases h with rfl|h;simp
  ·exact tA h
theorem Cf: ∀{l:a8} {s:ox (l.map (·.2))} {e:bS},e∈k9 l s->e.k=none
 |t::r,s,e,h=>by
  simp[k9] at h;rcases h with rfl|h
  ·rfl
  ·exact Cf h
theorem mj: ∀{l m:List bS} {t:Nat} {e:bS},bZ (l++m) t=some e->(bZ l t=some e)\/(bZ l t=none/\bZ m t=some e)
 |[],m,t,e,h=> .inr ⟨rfl,h⟩
 |x::r,m,t,e,h=>by
  simp[bZ] at h ⊢;split at h
  grind
  ·rename_i a;rw[if_neg a];exact mj h
theorem p9: ∀{l:a8} {env:List bS} {s:ox (l.map (·.2))} {t:Nat} {e:bS},oR l env=some s->bZ (k9 l s) t=some e-> ∃e',bZ env t=some e'/\e'.v=e.v
 |(t0,sc)::r,env,s,t,e,a,h=>by
  simp only[oR] at a;split at a
  ·rename_i c d;split at a
   ·rename_i x y f b;cases a;simp only[k9,bZ] at h;split at h
    ·grind[El.im]
    ·exact p9 b h
   ·cases a
  ·cases a
theorem yQ {l:List bS} {p:bS->Bool} {t:Nat} {e:bS} (h:bZ (l.filter p) t=some e):e∈l/\p e=true:=by
 have:=bW h;simpa
theorem zq {F:Fence} {m:Nat} {Q:Exit->Act->A2->Prop} {c:Code} (R:Nat->Act->A2->Prop) {n0:Nat} {a:Act} {w:A2} (h0:R n0 a w)
 (round: ∀n a w,R n a w->c.wpIn F m P (Exit.then (λa' w'=> ∃d,d<n/\R d a' w') Q) a w):(Code.loop c).wpIn F m P Q a w:=by
 intro b k cs i hb g;have key: ∀j a w,R j a w->
  ∃e a' w',Q e a' w'/\ArrivesIn (Machine.fenced P F) P (lone (b.atR a (.code c:: .inLoop c::k)) cs w) b k cs e a' w':=by
  intro j
  induction j using JZ with
  | _ j l=>
    intro a w o;obtain⟨e,p,q,f,h⟩:=round j a w o b _ cs i hb g;cases e with
    |normal=>
     obtain⟨d,r,s⟩:=f;obtain⟨t,u,v,x,y⟩:=l d r _ _ s;exact⟨t,u,v,x,.of_steps (StepsIn.trans h (.one (fenced_calm hb g rfl) stepR_inLoop)) y⟩
    |exit
    |goto
    |ret
    |panic
    |outgrown=>exact⟨_,p,q,f,‹_›⟩
 obtain⟨e,a',w',f,h⟩:=key _ a w h0;exact⟨e,a',w',f,.of_steps (.one (fenced_calm hb g rfl) stepR_loop) h⟩
theorem YP (b:Nat) (c:Code): ∀t:Nat,t∈oI b c->t∈writes c:=by
 induction c with
 |seq=>
  grind[oI,writes]
 | _=>intro t h;cases h
structure Yi (P:Al) (r:Option Nat) (C:dI P) (aS:Nat->a8) (N:Nat) (D:List Deferred) (c:Code):Prop where
 run: ∀(S:Nat->Option (Option AA)) (env:List bS) (a:Act) (w w':A2) (Kn:List bS->A2->Prop) (Kx:Nat->List bS->A2->Prop) (Kr:List bS->A2->Prop),
  (∀k∈writes c,S k=none)->plain env->Fit S #[] N D env a->cz C aS N c .run env w Kn Kx Kr->Ext w w'->c.wpIn (WF r) 0 P (Qp S N D Kn Kx Kr) a w'
 to: ∀(b:Nat) (K:List bS->A2->Prop) (S:Nat->Option (Option AA)) (env:List bS) (a:Act) (w w':A2) (Kn:List bS->A2->Prop) (Kx:Nat->List bS->A2->Prop) (Kr:List bS->A2->Prop) (Q:Exit->Act->A2->Prop),
  (∀k∈oI b c,S k=none)->plain env->Fit S #[] N D env a->cz C aS N c (.to b K) env w Kn Kx Kr->Ext w w'->(∀id a w,Qp S N D Kn Kx Kr (.exit id) a w->Q (.exit id) a w)->(∀a w,Qp S N D Kn Kx Kr .ret a w->Q .ret a w)->
  (∀y cZ a1 w1 z8,FG b c=some y->K cZ w1->plain cZ->Fit S #[] N D cZ a1->Ext w1 z8->y.wpIn (WF r) 0 P Q a1 z8)->c.wpIn (WF r) 0 P Q a w'
 Wc: ∀(b:Nat) (S:Nat->Option (Option AA)) (env:List bS) (a:Act) (w w':A2) (Kn:List bS->A2->Prop) (Kx:Nat->List bS->A2->Prop) (Kr:List bS->A2->Prop) (y:Code),
  FG b c=some y->(∀k∈writes c,S k=none)->plain env->Fit S #[] N D env a->cz C aS N c (.Wc b) env w Kn Kx Kr->Ext w w'->y.wpIn (WF r) 0 P (Qp S N D Kn Kx Kr) a w'
theorem Yi.of {r:Option Nat} {C:dI P} {aS:Nat->a8} {c:Code} (h: ∀(S:Nat->Option (Option AA)) (env:List bS) (a:Act) (w w':A2) (Kn:List bS->A2->Prop) (Kx:Nat->List bS->A2->Prop) (Kr:List bS->A2->Prop),
 (∀k∈writes c,S k=none)->plain env->Fit S #[] N D env a->cz C aS N c .run env w Kn Kx Kr->Ext w w'->c.wpIn (WF r) 0 P (Qp S N D Kn Kx Kr) a w')
 (h1: ∀b K env w Kn Kx Kr,¬ cz C aS N c (.to b K) env w Kn Kx Kr) (d: ∀b env w Kn Kx Kr,¬ cz C aS N c (.Wc b) env w Kn Kx Kr):Yi P r C aS N D c:=
 ⟨h,by grind,by grind⟩
theorem Gz {r:Option Nat} {C:dI P} {aS:Nat->a8}: ∀c:Code,Yi P r C aS N D c:=by
 intro c
 induction c with
 |skip=>exact .of (λS env a w w' Kn Kx Kr _ g f h l=>wpIn_skip ⟨env,w,h,g,f,l⟩) (λ_ _ _ _ _ _ _ h=>h) (λ_ _ _ _ _ _ h=>h)
 |region id ops draw=>exact .of (λS env a w w' Kn Kx Kr u g f h l=>PI u g f h l) (λ_ _ _ _ _ _ _ h=>h) (λ_ _ _ _ _ _ h=>h)
 |seq x y Tm M=>
  refine⟨?_,?_,?_⟩
  ·intro S env a w w' Kn Kx Kr u g f h l;simp only[cz] at h;split at h
   ·refine wpIn_seq (wpIn_mono (Tm.run S env a w w' _ Kx Kr (λk d=>u k (by simp[writes,d])) g f h l) ?_);intro e a1 w1 o;cases e with
    |normal=>
     obtain⟨cZ,p,d,X,Y,Z⟩:=o;exact M.run S cZ a1 p w1 Kn Kx Kr (λk d=>u k (by simp[writes,d])) X Y d Z
    | _=>exact o
   ·rename_i b sl _;obtain⟨J,q,hJ⟩:=h;simp only[jO] at hJ
    let i:Nat->Option (Option AA):=λt=>if(oI b (.seq x y)).contains t then none else some (a.tmps[t]?)
    let dx:=env.filter λe=> !(oI b (.seq x y)).contains e.t
    have nil: ∀(tm:Array AA),kh #[] tm []:=λtm x q=>by cases q
    have DC: ∀t e,bZ dx t=some e->a.tmps[t]? =some e.v/\(oI b (.seq x y)).contains t=false/\e.ch=[]:=by
     intro t e he;have ht:=yG he;have H:=yQ he;have F:(oI b (.seq x y)).contains t=false:=by rw[<-ht];simpa using H.2
     have A:bZ env t=some e:=iM he (λy _ hyt=>by rw[hyt,F];rfl);exact⟨f.yes t e A (by rw[(g e H.1).1];exact nil _),F,(g e H.1).1⟩
    have head: ∀(m:List bS) (j:Act) (s:ox (sl.map (·.2))),plain m->Fit i #[] N D m j->oR sl m=some s->Fit i #[] N D (k9 sl s++dx) j/\plain (k9 sl s++dx):=by
     intro m j s sL B xV;have O:plain (k9 sl s++dx):=λe he=>by
      rcases Dz.1 he with he|he
      ·exact tA he
      ·exact g e (by simpa[dx] using(BQ.1 he).1)
     refine⟨⟨B.off,B.size,B.qv,λt e he _=>?_,λt e he hn=>absurd (by rw[(O e (bW he)).1];exact nil _) hn,(λe he=>by rw[(O e he).2];exact(O e he).1),λe he b hb=>by
      rcases Dz.1 he with he|he
      ·rw[Cf he] at hb;cases hb
      ·exact f.BG e (BQ.1 he).1 b hb⟩,O⟩
     rcases mj he with he|⟨_,he⟩
     ·obtain⟨e',jV,hv⟩:=p9 xV he;rw[<-hv];exact B.yes t e' jV (by rw[(sL e' (bW jV)).1];exact nil _)
     ·obtain⟨hv,F, _⟩:=DC t e he;have:=B.off t (a.tmps[t]?) (by simp only[i,F];rfl);rw[this,hv]
    have NT:Fit i #[] N D env a:=⟨λt x q=>by
     simp only[i] at q;split at q
     ·cases q
     ·cases q;rfl,f.size,f.qv,f.yes,f.no,f.Fo,f.BG⟩
    have back: ∀{m:List bS} {j:Act},Fit i #[] N D m j->Fit S #[] N D m j:=λ{m j} A=>⟨λt z G=>by
     have F:(oI b (.seq x y)).contains t=false:=by
      cases hc:(oI b (.seq x y)).contains t with
      |false=>rfl
      |true=>have:=u t (YP b _ t (by simpa using hc));rw[this] at G;cases G
     have h1:=A.off t (a.tmps[t]?) (by simp only[i,F];rfl);rw[h1];exact f.off t z G,A.size,A.qv,A.yes,A.no,A.Fo,A.BG⟩
    have ZY: ∀k∈oI b (.seq x y),i k=none:=λk d=>by simp[i,d]
    have abV: ∀k∈writes x,i k=none:=λk d=>ZY k (by simp[oI,d]);have bx: ∀(id:Nat) (a:Act) (w:A2),Qp i N D Kn Kx Kr (.exit id) a w->Qp S N D Kn Kx Kr (.exit id) a w:=λid a w ⟨R,p,d,T,U,V⟩=>⟨R,p,d,T,back U,V⟩;have br: ∀(a:Act) (w:A2),Qp i N D Kn Kx Kr .ret a w->Qp S N D Kn Kx Kr .ret a w:=λa w ⟨R,p,d,T,U,V⟩=>⟨R,p,d,T,back U,V⟩;have G: ∀k∈writes y,S k=none:=λk d=>u k (by simp[writes,d]);refine wpIn_seq (wpIn_mono (Tm.run i env a w w' _ Kx Kr abV g NT q l) ?_);intro e a1 w1 o;cases e with
    |normal=>
     obtain⟨cZ,p,d,X,Y,Z⟩:=o;cases E:atR b y with
     |true=>
      simp only[E] at d hJ;unfold NS at d;split at d
      ·rename_i s H;obtain⟨Xm,Xn⟩:=head cZ a1 s X Y H;exact M.run S _ a1 p w1 Kn Kx Kr G Xn (back Xm) (hJ s p d) Z
      ·exact d.elim
     |false=>
      simp only[E] at d hJ;have abW: ∀k∈oI b y,i k=none:=λk d=>ZY k (by simp[oI,E,d]);refine M.to b (NS sl J) i cZ a1 p w1 Kn Kx Kr _ abW X Y d Z bx br ?_;intro y' m j L BL W hK sL B xU;unfold NS at hK;split at hK
      ·rename_i s H;obtain⟨Xm,Xn⟩:=head m j s sL B H;exact M.Wc b S _ j L BL Kn Kx Kr y' W G Xn (back Xm) (hJ s L hK) xU
      ·exact hK.elim
    |exit id=>exact bx id a1 w1 o
    |ret=>exact br a1 w1 o
    | _=>exact o
  ·intro b K S env a w w' Kn Kx Kr Q u g f h l q hr J5;simp only[cz] at h;refine wpIn_seq (wpIn_mono (Tm.run S env a w w' _ Kx Kr (λk d=>u k (by simp[oI,d])) g f h l) ?_);intro e a1 w1 o;cases e with
   |normal=>
    obtain⟨cZ,p,d,X,Y,Z⟩:=o;cases E:atR b y with
    |true=>
     simp only[E] at d;exact J5 y cZ a1 p w1 (by simp[FG,E]) d X Y Z
    |false=>
     simp only[E] at d;exact M.to b K S cZ a1 p w1 Kn Kx Kr Q (λk d=>u k (by simp[oI,E,d])) X Y d Z q hr (λy' m j L BL W=>J5 y' m j L BL (by simp[FG,E,W]))
   |exit id=>exact q id a1 w1 o
   |ret=>exact hr a1 w1 o
   | _=>exact o.elim
  ·intro b S env a w w' Kn Kx Kr y' W u g f h l;simp only[cz] at h;have G: ∀k∈writes y,S k=none:=λk d=>u k (by simp[writes,d]);cases E:atR b y with
   |true=>
    simp only[E] at h;simp only[FG,E,C8] at W;subst W;exact M.run S env a w w' Kn Kx Kr G g f h l
   |false=>
    simp only[E] at h;simp only[FG,E] at W;exact M.Wc b S env a w w' Kn Kx Kr y' W G g f h l
 |cond c x y Tm M=>
  refine .of ?_ (λ_ _ _ _ _ _ _ h=>h) (λ_ _ _ _ _ _ h=>h);intro S env a w w' Kn Kx Kr u g f h l;simp only[cz] at h;split at h
  ·rename_i b hb;have Xo:=f.ev (ch:=[]) (λ_ q=>by cases q) hb;refine wpIn_cond_split Xo (λht=>Tm.run S env a w w' Kn Kx Kr (λk d=>u k (by simp[writes,d])) g f (DQ h ht) l) (λht=>M.run S env a w w' Kn Kx Kr (λk d=>u k (by simp[writes,d])) g f (AR h ht) l)
  ·exact AC h
 |block id x ih=>
  refine .of ?_ (λ_ _ _ _ _ _ _ h=>h) (λ_ _ _ _ _ _ h=>h);intro S env a w w' Kn Kx Kr u g f h l;refine wpIn_block (wpIn_mono (ih.run S env a w w' Kn _ Kr u g f h l) ?_);intro e a1 w1 o;cases e with
  |exit Xl=>
   obtain⟨cZ,p,d,rest⟩:=o;simp only[Exit.inBlock];split
   ·rename_i he;simp only[he,if_true] at d;exact⟨cZ,p,d,rest⟩
   ·rename_i he;simp only[he,if_false] at d;exact⟨cZ,p,d,rest⟩
  | _=>exact o
 |exit id=>exact .of (λS env a w w' Kn Kx Kr _ g f h l=>wpIn_exit ⟨env,w,h,g,f,l⟩) (λ_ _ _ _ _ _ _ h=>h) (λ_ _ _ _ _ _ h=>h)
 |ret=>exact .of (λS env a w w' Kn Kx Kr _ g f h l=>wpIn_ret ⟨env,w,h,g,f,l⟩) (λ_ _ _ _ _ _ _ h=>h) (λ_ _ _ _ _ _ h=>h)
 |loop x ih=>
  refine .of ?_ (λ_ _ _ _ _ _ _ h=>h) (λ_ _ _ _ _ _ h=>h);intro S env a w w' Kn Kx Kr u g f h l;simp only[cz,jO] at h;split at h
  ·exact AC h
  ·rename_i s0 hs0;obtain⟨I,⟨n0,h0⟩,oS⟩:=h
   let sl:=aS ((jJ x).getD 0)
   let i:Nat->Option (Option AA):=λt=>if(writes x).contains t then none else some (a.tmps[t]?)
   let dx:=env.filter λe=> !(writes x).contains e.t
   have nil: ∀(tm:Array AA),kh #[] tm []:=λtm x q=>by cases q
   have DC: ∀t e,bZ dx t=some e->a.tmps[t]? =some e.v/\(writes x).contains t=false/\e.ch=[]:=by
    intro t e he;have ht:=yG he;have H:=yQ he;have F:(writes x).contains t=false:=by rw[<-ht];simpa using H.2
    have A:bZ env t=some e:=iM he (λy _ hyt=>by rw[hyt,F];rfl);exact⟨f.yes t e A (by rw[(g e H.1).1];exact nil _),F,(g e H.1).1⟩
   have head: ∀(m:List bS) (j:Act) (s:ox (sl.map (·.2))),plain m->Fit i #[] N D m j->oR sl m=some s->Fit i #[] N D (k9 sl s++dx) j/\plain (k9 sl s++dx):=by
    intro m j s sL B xV;have O:plain (k9 sl s++dx):=λe he=>by
     rcases Dz.1 he with he|he
     ·exact tA he
     ·exact g e (by simpa[dx] using(BQ.1 he).1)
    refine⟨⟨B.off,B.size,B.qv,λt e he _=>?_,λt e he hn=>absurd (by rw[(O e (bW he)).1];exact nil _) hn,(λe he=>by rw[(O e he).2];exact(O e he).1),λe he b hb=>by
     rcases Dz.1 he with he|he
     ·rw[Cf he] at hb;cases hb
     ·exact f.BG e (BQ.1 he).1 b hb⟩,O⟩
    rcases mj he with he|⟨_,he⟩
    ·obtain⟨e',jV,hv⟩:=p9 xV he;rw[<-hv];exact B.yes t e' jV (by rw[(sL e' (bW jV)).1];exact nil _)
    ·obtain⟨hv,F, _⟩:=DC t e he;have:=B.off t (a.tmps[t]?) (by simp only[i,F];rfl);rw[this,hv]
   have NT:Fit i #[] N D env a:=⟨λt x q=>by
    simp only[i] at q;split at q
    ·cases q
    ·cases q;rfl,f.size,f.qv,f.yes,f.no,f.Fo,f.BG⟩
   have back: ∀{m:List bS} {j:Act},Fit i #[] N D m j->Fit S #[] N D m j:=λ{m j} A=>⟨λt y G=>by
    have F:(writes x).contains t=false:=by
     cases hc:(writes x).contains t with
     |false=>rfl
     |true=>have:=u t (by simpa[writes] using hc);rw[this] at G;cases G
    have h1:=A.off t (a.tmps[t]?) (by simp only[i,F];rfl);rw[h1];exact f.off t y G,A.size,A.qv,A.yes,A.no,A.Fo,A.BG⟩
   have ZY: ∀k∈writes x,i k=none:=λk d=>by simp[i,d]
   obtain⟨hF4,hp4⟩:=head env a s0 g NT hs0;refine zq (λn j L=> ∃s,I n s L/\Fit i #[] N D (k9 sl s++dx) j/\plain (k9 sl s++dx)) (n0:=n0) ⟨s0,h0 w' l,hF4,hp4⟩ ?_;intro n j L ⟨s,hI,B,sL⟩;have hb:=ih.run i _ j L L _ Kx Kr ZY sL B (oS n s L hI) (Ext.refl _);refine wpIn_mono hb ?_;intro e a3 w3 o;cases e with
   |normal=>
    obtain⟨R,p,d,T,U,V⟩:=o;simp only[Exit.then];split at d
    ·rename_i s3 hs3;obtain⟨n',jo,hI'⟩:=d w3 V;obtain⟨Xm,Xn⟩:=head R a3 s3 T U hs3;exact⟨n',jo,s3,hI',Xm,Xn⟩
    ·exact d.elim
   |exit id=>obtain⟨R,p,d,T,U,V⟩:=o;exact⟨R,p,d,T,back U,V⟩
   |ret=>obtain⟨R,p,d,T,U,V⟩:=o;exact⟨R,p,d,T,back U,V⟩
   | _=>exact o
 | _=>exact .of (λS env a w w' Kn Kx Kr u g f h l=>AC h) (λ_ _ _ _ _ _ _ h=>h) (λ_ _ _ _ _ _ h=>h)
theorem p_ {r:Option Nat} {C:dI P} {aS:Nat->a8}: ∀(c:Code) (S:Nat->Option (Option AA)) (env:List bS) (a:Act) (w w':A2) (Kn:List bS->A2->Prop) (Kx:Nat->List bS->A2->Prop) (Kr:List bS->A2->Prop),
 (∀k∈writes c,S k=none)->plain env->Fit S #[] N D env a->rL C aS N c env w Kn Kx Kr->Ext w w'->c.wpIn (WF r) 0 P (Qp S N D Kn Kx Kr) a w':=λc=>(Gz c).run
def jK:List AA->Nat->List bS
 |[], _=>[]
 |v::r,i=>⟨i,[],none,v,none⟩::jK r (i+1)
def nJ:List ResultVar->List bS->Option (List AA)
 |[], _=>some []
 | .tmp t::r,env=>match bZ env t,nJ r env with
   |some e,some l=>some (e.v::l)
   | _, _=>none
 | .cell .. :: _, _=>none
def J6 (l:List AA):AA:=
 match l with
 |[v]=>v
 |l=> .tuple ⟨l⟩
def aI (C:dI P) (aS:Nat->a8) (f:B3) (args:List AA) (w:A2) (Post:(uH C f).T->A2->Prop):Prop:=
 match P.funcs[f]? with
 |none=>False
 |some fn=>match fn.body with
  |none=>False
  |some c=>
   let fin:List bS->A2->Prop:=λenv w=>match nJ fn.results.toList env with
    |some l=>match (uH C f).proj (J6 l) with
     |some x=>au w (λw1=>Post x w1)
     |none=>False
    |none=>False
   if args.length<=fn.ntmps then rL C aS fn.ntmps c (jK args 0) w fin (λ_ _ _=>False) fin else False
theorem pE: ∀{l:List AA} {i t:Nat} {e:bS},bZ (jK l i) t=some e->i<=t/\l[t - i]? =some e.v/\e.ch=[]/\e.g=none
 |v::r,i,t,e,h=>by
  simp[jK,bZ] at h;split at h
  grind
  ·obtain:=pE h
   grind
theorem yR: ∀{l:List AA} {i:Nat} {e:bS},e∈jK l i->e.k=none
 |v::r,i,e,h=>by
  simp[jK] at h;rcases h with rfl|h
  ·rfl
  ·exact yR h
theorem rV: ∀{l:List AA} {i:Nat} {e:bS},e∈jK l i->e.ch=[]/\e.g=none
 |v::r,i,e,h=>by
  simp[jK] at h;rcases h with rfl|h;simp
  ·exact rV h
def nC (tmps:Array AA):ResultVar->Sem AA
 | .tmp t=>pure (tmps.getD t undef)
 | .cell a t=>do loadVar t (<-asAddr (tmps.getD a undef))
theorem vP {tmps:Array AA} {w:A2}: ∀{l:List ResultVar} {env:List bS} {vs:List AA},nJ l env=some vs->(∀t e,bZ env t=some e->tmps[t]? =some e.v)->
 (l.mapM (nC tmps)).run P w= .ok vs w
 |[], _, _,h, _=>by simp_all[nJ]
 | .tmp t::r,env,vs,h,hv=>by
   simp[nJ] at h;split at h
   ·rename_i e l b a;have c:=vP (w:=w) a hv
    simp_all[nC]
   grind
theorem EW {fn:Func} {tmps:Array AA} {w:A2} {env:List bS} {vs:List AA} (h:nJ fn.results.toList env=some vs) (hv: ∀t e,bZ env t=some e->tmps[t]? =some e.v):
 (results fn tmps).run P w= .ok (J6 vs) w:=by
 have h1:=vP (P:=P) (w:=w) h hv;have a:(fn.results.mapM (nC tmps)).run P w= .ok ⟨vs⟩ w:=by
  simp_all[JR]
 have e:results fn tmps=(do
  let vs<-fn.results.mapM (nC tmps)
  pure _):=rfl
 rw[e,Av,a]
 match vs with
 |[]=>rfl
 |[v]=>rfl
 |v::u::r=>rfl
theorem ai {C:dI P} {aS:Nat->a8} {f:B3} {args:List AA} {w:A2} {Post:(uH C f).T->A2->Prop} (h:aI C aS f args w Post):aC P f (uH C f) args w Post:=by
 unfold aI at h;split at h
 ·exact AC h
 ·rename_i fn p;split at h
  ·exact AC h
  ·rename_i c hb;simp only at h;split at h
   ·rename_i B;have g:plain (jK args 0):=λe a=>rV a;have nil: ∀(o:Array Oper) (k:Array AA),kh o k []:=λo k x d=>by cases d
    have q:Fit (λ_=>none) #[] fn.ntmps [] (jK args 0) {tmps:=(⟨args⟩:Array AA)++F1 (fn.ntmps - args.length) undef,defers:=[]}:=by
     refine⟨(λ_ _ d=>by cases d),(by simp;omega),rfl,λt e a _=>?_,λt e a s=>absurd (by rw[(g e (bW a)).1];exact nil _ _) s,(λe a=>by rw[(g e a).2];exact(g e a).1),by grind[yR]⟩;obtain⟨_,hv, _⟩:=pE a
     grind
    have u:=p_ (r:=none) (C:=C) (aS:=aS) c (λ_=>none) _ _ w w _ _ _ (λ_ _=>rfl) g q h (Ext.refl w);refine calls_of_wp p hb ((wpIn_wide (n:=0)).1 (wpIn_mono u ?_));have fin: ∀a1 w1,(∃env j,(match nJ fn.results.toList env with
     |some l=>match (uH C f).proj (J6 l) with
      |some x=> ∀w1,Ext j w1->Post x w1
      |none=>False
     |none=>False)/\plain env/\Fit (λ_=>none) #[] fn.ntmps [] env a1/\Ext j w1)->a1.defers=[]/\ ∃v,(results fn a1.tmps).run P w1= .ok v w1/\ ∃x:(uH C f).T,Ending.returned v= .returned ((uH C f).gZ x)/\Post x w1:=by
     intro a1 w1 ⟨env,j,b,y,m,z⟩;split at b
     ·rename_i l A;split at b
      ·rename_i x d;refine⟨m.qv, _,EW A (λt e a=>m.yes t e a (by rw[(y e (bW a)).1];exact nil _ _)),x,by rw[Sh.im d],b w1 z⟩
      ·exact b.elim
     ·exact b.elim
    intro e a1 w1 i;cases e with
    |normal=>exact fin a1 w1 i
    |ret=>exact fin a1 w1 i
    |exit id=>obtain⟨_, _,b, _⟩:=i;exact b.elim
    | _=>exact(show False from i).elim
   ·exact AC h
variable {P:Al}
abbrev qw:=List bS->List Nat->A2->Prop
def marks (D:List Nat):List Deferred:=D.map λr=>{target:= .collected r,args:= #[]}
def yg:Code->Bool
 | .rangeFunc .. =>true
 | .seq a b=>yg a||yg b
 | .cond _ a b=>yg a||yg b
 | .block _ b=>yg b
 | .loop b=>yg b
 | _=>false
def sS (w:A2) (l:Nat) (rec:Loop) (st:LoopState) (a:Option Code):A2:=w.putObj l (.loop {rec with state:=st,pending:=a})
def cT (w:A2) (l:Nat) (rec:Loop) (st:LoopState) (a:Option Code):Prop:=w.heap[l]? =some (.loop {rec with state:=st,pending:=a})
def DD:List Nat->A2->Prop
 |[], _=>True
 |r::D,w=>w.heap[r]? =some (.deferred (some []))/\DD D (w.putObj r (.deferred none))
def mw:List Nat->A2->A2
 |[],w=>w
 |r::D,w=>mw D (w.putObj r (.deferred none))
def BM (l:Nat) (rec:Loop) (w:A2) (K:A2->Prop):Prop:= ∀a,Ext w a-> ∃b,cT a l rec .ready b/\K (sS a l rec .busy b)
def sk (l:Nat) (rec:Loop) (a:Option Code) (w:A2) (R:Bool->A2->Prop):Prop:= ∀b,Ext w b-> ∃st c,cT b l rec st c/\R a.isNone (sS b l rec (if a.isNone then .ready else .done) a)
def Da (l:Nat) (rec:Loop) (n m:Nat) (w:A2) (K:Prop):Prop:=(∃a,cT w l rec .ready a)/\n=m/\K
def sq (D:List Nat) (w:A2) (K:A2->Prop):Prop:= ∀w1,Ext w w1->DD D w1/\K (mw D w1)
def zX (P:Al) (b:B3) (args:Nat->List AA) (ps:Array Nat) (w:A2) {T:Type} (c:T->List AA) (d:Nat->Loop->T->A2->(Bool->A2->Prop)->Prop) (f:Nat->Loop->A2->Prop):Prop:=
 ∀w1,Ext w w1-> ∀rec:Loop,rec.params=ps->rec.defers=w1.heap.size->rec.state= .ready->rec.pending=none->
  (∀(x:T) a R,d (w1.heap.size+1) rec x a R->mq P (w1.heap.size+1) (c x) a R)->
  Calls P b ⟨args (w1.heap.size+1)⟩ ((w1.alloc (.deferred (some []))).alloc (.loop rec)) (λe g=> ∃v,e= .returned v/\f w1.heap.size rec g)
def IM (C:dI P) (aS:Nat->a8) (N:Nat) (l:Nat) (rec:Loop) (ps:List Nat) (assign body:Code) (env:List bS) (args:List AA) (w:A2) (R:Bool->A2->Prop):Prop:=
 Da l rec args.length ps.length w
 (jI ((ps.zip args).reverse.map (λx=>⟨x.1,[],none,x.2,none⟩)++env) λb=>rL C aS N assign b w
  (λcZ a=>BM l rec a λc=>
   rL C aS N body cZ c
    (λ_ a=>sk l rec none a R)
    (λid _ a=>sk l rec (some (.exit id)) a R)
    (λ_ a=>sk l rec (some .ret) a R))
  (λ_ _ _=>False) (λ_ _=>False))
def dB (l:Nat) (rec:Loop) (a:A2) (Kn:A2->Prop) (Kx:Nat->A2->Prop) (Kr:A2->Prop):Prop:=
 ∃st b,cT a l rec st b/\st≠ .busy/\
  match b with
  |none=>Kn (sS a l rec .exhausted (none))
  |some (.exit id)=>Kx id (sS a l rec .exhausted (some (.exit id)))
  |some .ret=>Kr (sS a l rec .exhausted (some .ret))
  | _=>False
def NB (C:dI P) (aS:Nat->a8) (N:Nat):Code->List bS->List Nat->A2->qw->(Nat->qw)->qw->Prop
 | .seq x y,env,D,w,Kn,Kx,Kr=>NB C aS N x env D w (λenv D w=>NB C aS N y env D w Kn Kx Kr) Kx Kr
 | .cond c x y,env,D,w,Kn,Kx,Kr=>match xR env [] c with
   |some (.bool b)=>aH b (NB C aS N x env D w Kn Kx Kr) (NB C aS N y env D w Kn Kx Kr)
   | _=>False
 | .block id x,env,D,w,Kn,Kx,Kr=>NB C aS N x env D w Kn (λf env D w=>if f=id then Kn env D w else Kx f env D w) Kr
 | .loop x,env,D,w,Kn,Kx,Kr=>
   if yg x then
    let sl:=aS ((jJ x).getD 0)
    match oR sl env with
    |none=>False
    |some j=> ∃I:Nat->ox (sl.map (·.2))->List Nat->A2->Prop,(∃n, ∀w1,Ext w w1->I n j D w1)/\
     ∀n s D1 w1,I n s D1 w1->jI (k9 sl s++env.filter λe=> !(writes x).contains e.t) λcZ=>NB C aS N x cZ D1 w1
      (λk D2 m=>match oR sl k with
       |some o=> ∀d,Ext m d-> ∃h,h<n/\I h o D2 d
       |none=>False) Kx Kr
   else rL C aS N (.loop x) env w (λenv w=>Kn env D w) (λid env w=>Kx id env D w) (λenv w=>Kr env D w)
 | .rangeFunc g ps assign body,env,D,w,Kn,Kx,Kr=>
   match xR env [] g with
   |some (.func (.func i) first cap)=>
    if bK P i&&ps.toList.all (λp=>decide (p<N)) then
     zX P i (λy=>cX first [.func (.yield y) #[] #[]] cap) ps w (λ(x:ox ((aS ((jJ body).getD 0)).map (·.2)))=>uV _ x)
      (λl rec x d R=>IM C aS N l rec ps.toList assign body env (uV _ x) d R)
      (λr rec q=>dB (r+1) rec q (λa=>Kn env (r::D) a) (λid a=>Kx id env (r::D) a) (λa=>Kr env (r::D) a))
    else False
   | _=>False
 |c,env,D,w,Kn,Kx,Kr=>rL C aS N c env w (λenv w=>Kn env D w) (λid env w=>Kx id env D w) (λenv w=>Kr env D w)
def QpF (S:Nat->Option (Option AA)) (N:Nat) (Kn:qw) (Kx:Nat->qw) (Kr:qw):Exit->Act->A2->Prop
 | .normal,a,w=> ∃env D b,Kn env D b/\plain env/\Fit S #[] N (marks D) env a/\Ext b w
 | .exit id,a,w=> ∃env D b,Kx id env D b/\plain env/\Fit S #[] N (marks D) env a/\Ext b w
 | .ret,a,w=> ∃env D b,Kr env D b/\plain env/\Fit S #[] N (marks D) env a/\Ext b w
 | _, _, _=>False
theorem YQ {S:Nat->Option (Option AA)} {N:Nat} {Kn:qw} {Kx:Nat->qw} {Kr:qw} {D:List Nat}: ∀(e:Exit) (a:Act) (w:A2),
 Qp S N (marks D) (λenv w=>Kn env D w) (λid env w=>Kx id env D w) (λenv w=>Kr env D w) e a w->QpF S N Kn Kx Kr e a w
 | .normal, _, _,⟨env,b,h⟩=>⟨env,D,b,h⟩
 | .exit _, _, _,⟨env,b,h⟩=>⟨env,D,b,h⟩
 | .ret, _, _,⟨env,b,h⟩=>⟨env,D,b,h⟩
theorem zt {N:Nat} {D:List Deferred}: ∀(l:List (Nat×AA)) (env:List bS) (tmps:Array AA),(∀x∈l,x.1<N)->plain env->Fit (λ_=>none) #[] N D env {tmps,defers:=D}->
 Fit (λ_=>none) #[] N D (l.reverse.map (λx=>⟨x.1,[],none,x.2,none⟩)++env) {tmps:=l.foldl (λtmps (t,a)=>tmps.setIfInBounds t a) tmps,defers:=D}/\plain (l.reverse.map (λx=>(⟨x.1,[],none,x.2,none⟩:bS))++env)
 |[],env,tmps, _,b,h=>⟨h,b⟩
 |(t,v)::r,env,tmps,c,b,h=>by
  have f:plain (⟨t,[],none,v,none⟩::env):=λe he=>by
   rcases C7.1 he with rfl|he;simp
   ·exact b e he
  have h1:=by
   have:=h.put (g:=none) (d:=some t) (u:=v) (by
    have:=c (t,v) (by grind);simp[oP,this];intro e he;rw[(b e he).1];simp) (λ_ _=>rfl) rfl (λ_=>rfl) (λi=>absurd (λx j=>by cases j) i)
   exact this
  have:=zt r _ _ (by grind) f h1
  grind
theorem GK {w:A2} {l:Nat} {rec:Loop} {a:Option Code} (h:cT w l rec .ready a):(Instr.beginRound l).run P w= .ok () (w.putObj l (.loop {rec with state:= .busy,pending:=a})):=
 run_beginRound h rfl
theorem yS {w:A2} {l:Nat} {rec:Loop} {st:LoopState} {b:Option Code} (a:Option Code) (h:cT w l rec st b):
 (Instr.endRound l a).run P w= .ok (.bool a.isNone) (w.putObj l (.loop {rec with state:=if a.isNone then .ready else .done,pending:=a})):=
 run_endRound (r:={rec with state:=st,pending:=b}) a h
theorem GL {C:dI P} {aS:Nat->a8} {N l:Nat} {rec:Loop} {assign body:Code} {env:List bS} {args:List AA} {w:A2} {R:Bool->A2->Prop} {tmps:Array AA} {D0:List Deferred}
 (u:rec.tmps=tmps) (v:rec.assign=assign) (hb:rec.body=body) (y: ∀p∈rec.params.toList,p<N) (z:plain env) (b:Fit (λ_=>none) #[] N D0 env {tmps,defers:=D0})
 (h:IM C aS N l rec rec.params.toList assign body env args w R):mq P l args w R:=by
 obtain⟨⟨A,B⟩,E,o⟩:=h;rw[jO] at o;refine⟨{rec with state:= .ready,pending:=A},B,by simpa using E,?_⟩;have G:Fit (λ_=>none) #[] N [] env {tmps,defers:=[]}:=⟨b.off,b.size,rfl,b.yes,b.no,b.Fo,b.BG⟩;obtain⟨H,I⟩:=zt (D:=[]) (rec.params.toList.zip args) env tmps (λx J=>y x.1 (List.of_mem_zip J).1) z G;have e:(rec.params.zip (⟨args⟩:Array AA)).foldl (λtmps (t,a)=>tmps.setIfInBounds t a) rec.tmps=(rec.params.toList.zip args).foldl (λtmps (t,a)=>tmps.setIfInBounds t a) tmps:=by
  rw[u, <-Array.foldl_toList];simp
 rw[e,v,hb];refine roundIn_of_wpIn (F:=WF none) trivial ?_;have h1:=p_ (r:=some l) (C:=C) (aS:=aS) assign (λ_=>none) _ _ w w _ _ _ (λ_ _=>rfl) I H o (Ext.refl w);refine wpIn_mono h1 ?_;intro K a1 w1 k;cases K with
 |normal=>
  obtain⟨cZ,V,m,L,M,O⟩:=k;obtain⟨W,Q,S⟩:=m w1 O;refine⟨_,GK Q,?_⟩;have T:=p_ (r:=some l) (C:=C) (aS:=aS) body (λ_=>none) _ _ _ _ _ _ _ (λ_ _=>rfl) L M S (Ext.refl _);refine wpIn_mono T ?_;intro U X n j;cases U with
  |normal=>
   obtain⟨_,q,d, _, _,f⟩:=j;obtain⟨st,s,g,i⟩:=d n f;exact⟨_, _,yS none g,true,rfl,i⟩
  |exit id=>
   obtain⟨_,q,d, _, _,f⟩:=j;obtain⟨st,s,g,i⟩:=d n f;exact⟨_, _,yS (some (.exit id)) g,false,rfl,i⟩
  |ret=>
   obtain⟨_,q,d, _, _,f⟩:=j;obtain⟨st,s,g,i⟩:=d n f;exact⟨_, _,yS (some .ret) g,false,rfl,i⟩
  |goto t
  |panic c
  |outgrown=>exact AC j
 |exit id
 |ret=>obtain⟨_, _,m, _⟩:=k;exact AC m
 |goto t
 |panic c
 |outgrown=>exact AC k
variable {P:Al} {N:Nat}
theorem AY {C:dI P} {aS:Nat->a8} {c:Code} {S:Nat->Option (Option AA)} {env:List bS} {D:List Nat} {a:Act} {w w':A2} {Kn:qw} {Kx:Nat->qw} {Kr:qw}
 (b: ∀k∈writes c,S k=none) (d:plain env) (e:Fit S #[] N (marks D) env a) (h:rL C aS N c env w (λenv w=>Kn env D w) (λid env w=>Kx id env D w) (λenv w=>Kr env D w)) (f:Ext w w'):
 c.wpIn (WF none) 0 P (QpF S N Kn Kx Kr) a w':=
 wpIn_mono (p_ c S env a w w' _ _ _ b d e h f) YQ
theorem GM {w:A2} {l:Nat} {rec:Loop} {st:LoopState} {a:Option Code} (h:cT w l rec st a) (hb:st≠ .busy):
 (Instr.endLoop l).run P w= .ok a (w.putObj l (.loop {rec with state:= .exhausted,pending:=a})):=
 run_endLoop h hb
theorem YR {C:dI P} {aS:Nat->a8}: ∀(c:Code) (S:Nat->Option (Option AA)) (env:List bS) (D:List Nat) (a:Act) (w w':A2) (Kn:qw) (Kx:Nat->qw) (Kr:qw),
 (∀k∈writes c,S k=none)->plain env->Fit S #[] N (marks D) env a->NB C aS N c env D w Kn Kx Kr->Ext w w'->c.wpIn (WF none) 0 P (QpF S N Kn Kx Kr) a w':=by
 intro c
 induction c with
 |seq x y Q T=>
  intro S env D a w w' Kn Kx Kr j i d h l;refine wpIn_seq (wpIn_mono (Q S env D a w w' _ Kx Kr (λk f=>j k (by simp[writes,f])) i d h l) ?_);intro e a1 w1 r;cases e with
  |normal=>
   obtain⟨cZ,D1,u,f,C_,sK,wJ⟩:=r;exact T S cZ D1 a1 u w1 Kn Kx Kr (λk f=>j k (by simp[writes,f])) C_ sK f wJ
  | _=>exact r
 |cond c x y Q T=>
  intro S env D a w w' Kn Kx Kr j i d h l;simp only[NB] at h;split at h
  ·rename_i b hb;have U:=d.ev (ch:=[]) (λ_ m=>by cases m) hb;exact wpIn_cond_split U (λF=>Q S env D a w w' Kn Kx Kr (λk f=>j k (by simp[writes,f])) i d (DQ h F) l) (λF=>T S env D a w w' Kn Kx Kr (λk f=>j k (by simp[writes,f])) i d (AR h F) l)
  ·exact AC h
 |block id x V=>
  intro S env D a w w' Kn Kx Kr j i d h l;refine wpIn_block (wpIn_mono (V S env D a w w' Kn _ Kr j i d h l) ?_);intro e a1 w1 r;cases e with
  |exit Xl=>
   obtain⟨cZ,D1,u,f,rest⟩:=r;simp only[Exit.inBlock];split
   ·rename_i he;simp only[he,if_true] at f;exact⟨cZ,D1,u,f,rest⟩
   ·rename_i he;simp only[he,if_false] at f;exact⟨cZ,D1,u,f,rest⟩
  | _=>exact r
 |loop x V=>
  intro S env D a w w' Kn Kx Kr j i d h l;simp only[NB,jO] at h;split at h
  ·split at h
   ·exact AC h
   ·rename_i Z hs0;obtain⟨I,⟨n0,h0⟩,oS⟩:=h
    let sl:=aS ((jJ x).getD 0)
    let o:Nat->Option (Option AA):=λt=>if(writes x).contains t then none else some (a.tmps[t]?)
    let dx:=env.filter λe=> !(writes x).contains e.t
    have nil: ∀(tm:Array AA),kh #[] tm []:=λtm x m=>by cases m
    have DC: ∀t e,bZ dx t=some e->a.tmps[t]? =some e.v/\(writes x).contains t=false/\e.ch=[]:=by
     intro t e he;have F:=yG he;have W:=yQ he;have E:(writes x).contains t=false:=by rw[<-F];simpa using W.2
     have z:bZ env t=some e:=iM he (λy _ hyt=>by rw[hyt,E];rfl);exact⟨d.yes t e z (by rw[(i e W.1).1];exact nil _),E,(i e W.1).1⟩
    have head: ∀(A:List bS) (D2:List Nat) (p:Act) (s:ox (sl.map (·.2))),plain A->Fit o #[] N (marks D2) A p->oR sl A=some s->Fit o #[] N (marks D2) (k9 sl s++dx) p/\plain (k9 sl s++dx):=by
     intro A D2 p s X q xV;have O:plain (k9 sl s++dx):=λe he=>by
      rcases Dz.1 he with he|he
      ·exact tA he
      ·exact i e (by simpa[dx] using(BQ.1 he).1)
     refine⟨⟨q.off,q.size,q.qv,λt e he _=>?_,λt e he hn=>absurd (by rw[(O e (bW he)).1];exact nil _) hn,(λe he=>by rw[(O e he).2];exact(O e he).1),λe he b hb=>by
     rcases Dz.1 he with he|he
     ·rw[Cf he] at hb;cases hb
     ·exact d.BG e (BQ.1 he).1 b hb⟩,O⟩
     rcases mj he with he|⟨_,he⟩
     ·obtain⟨e',jV,hv⟩:=p9 xV he;rw[<-hv];exact q.yes t e' jV (by rw[(X e' (bW jV)).1];exact nil _)
     ·obtain⟨hv,E, _⟩:=DC t e he;have:=q.off t (a.tmps[t]?) (by simp only[o,E];rfl);rw[this,hv]
    have NT:Fit o #[] N (marks D) env a:=⟨λt x m=>by
     simp only[o] at m;split at m
     ·cases m
     ·cases m;rfl,d.size,d.qv,d.yes,d.no,d.Fo,d.BG⟩
    have back: ∀{A:List bS} {D2:List Nat} {p:Act},Fit o #[] N (marks D2) A p->Fit S #[] N (marks D2) A p:=λ{A D2 p} z=>⟨λt y Y=>by
     have E:(writes x).contains t=false:=by
      cases hc:(writes x).contains t with
      |false=>rfl
      |true=>have:=j t (by simpa[writes] using hc);rw[this] at Y;cases Y
     have h1:=z.off t (a.tmps[t]?) (by simp only[o,E];rfl);rw[h1];exact d.off t y Y,z.size,z.qv,z.yes,z.no,z.Fo,z.BG⟩
    have ZY: ∀k∈writes x,o k=none:=λk f=>by simp[o,f]
    obtain⟨hF4,hp4⟩:=head env D a Z i NT hs0;refine zq (λn p G=> ∃s D2,I n s D2 G/\Fit o #[] N (marks D2) (k9 sl s++dx) p/\plain (k9 sl s++dx)) (n0:=n0) ⟨Z,D,h0 w' l,hF4,hp4⟩ ?_;intro n p G ⟨s,D2,hI,q,X⟩;have hb:=V o _ D2 p G G _ Kx Kr ZY X q (oS n s D2 G hI) (Ext.refl _);refine wpIn_mono hb ?_;intro e a3 w3 r;cases e with
    |normal=>
     obtain⟨H,D3,u,f,J,K,L⟩:=r;simp only[Exit.then];split at f
     ·rename_i s3 hs3;obtain⟨n',jo,hI'⟩:=f w3 L;obtain⟨Xm,Xn⟩:=head H D3 a3 s3 J K hs3;exact⟨n',jo,s3,D3,hI',Xm,Xn⟩
     ·exact AC f
    |exit id=>obtain⟨H,D3,u,f,J,K,L⟩:=r;exact⟨H,D3,u,f,J,back K,L⟩
    |ret=>obtain⟨H,D3,u,f,J,K,L⟩:=r;exact⟨H,D3,u,f,J,back K,L⟩
    | _=>exact r
  ·exact AY (C:=C) (aS:=aS) j i d h l
 |rangeFunc g ps assign body _ _=>
  intro S env D a w w' Kn Kx Kr j i d h l;simp only[NB] at h;split at h
  ·rename_i fY first cap hg
   split at h
   ·rename_i jS;simp only[B8,Dl,decide_eq_true_eq] at jS;obtain⟨Dy,Tg⟩:=jS;have U:=d.ev (ch:=[]) (λ_ m=>by cases m) hg;refine wpIn_rangeFunc λfn _=>?_
    let M:Loop:={state:= .ready,pending:=none,fn,tmps:=a.tmps,params:=ps,assign,body,defers:=w'.heap.size}
    have ZZ:Fit (λ_=>none) #[] N (marks D) env {tmps:=a.tmps,defers:=marks D}:=⟨(λ_ _ m=>by cases m),d.size,rfl,d.yes,d.no,d.Fo,d.BG⟩;have f:=h w' l M rfl rfl rfl rfl (λ_ w3 R hr=>GL (C:=C) (aS:=aS) (rec:=M) rfl rfl rfl Tg i ZZ hr);have aaW:(first++ #[Value.func (.yield (w'.heap.size+1)) #[] #[]]++cap:Array AA)=⟨cX first [.func (.yield (w'.heap.size+1)) #[] #[]] cap⟩:=by
     unfold cX;obtain⟨l1⟩:=first;obtain⟨l3⟩:=cap
     simp
    refine⟨w'.heap.size+1,[{target:= .collected w'.heap.size,args:= #[]}],(w'.alloc (.deferred (some []))).alloc (.loop M),{target:= .fn (.func fY) cap,args:=first++ #[.func (.yield (w'.heap.size+1)) #[] #[]]},(w'.alloc (.deferred (some []))).alloc (.loop M),fY,
     ⟨cX first [.func (.yield (w'.heap.size+1)) #[] #[]] cap⟩,(w'.alloc (.deferred (some []))).alloc (.loop M),run_enterLoop_outer _ _ _ _ _,?_,λ_ _=>trivial,?_,by simp[WF,Dk],?_⟩
    ·simp only[resolve,U,Deferred.ofValue,B1,GS,Ga,Gd];rfl
    ·simp only[invoke];rw[aaW];exact tS Dy
    ·refine(jR (n:=0 - 1)).2 (f.mono λe w4 ⟨v,he,st,pd,sj,vo,B⟩=>?_);subst he;have J5:=GM (P:=P) sj vo;have q:Fit S #[] N (marks (w'.heap.size::D)) env {a with defers:=[{target:= .collected w'.heap.size,args:= #[]}]++a.defers}:=
      ⟨d.off,d.size,by simp[marks,d.qv],d.yes,d.no,d.Fo,d.BG⟩
     refine⟨pd, _,J5,?_⟩
     match pd,B with
     |none,B=>exact⟨env, _, _,B,i,q,Ext.refl _⟩
     |some (.exit id),B=>exact wpIn_exit ⟨env, _, _,B,i,q,Ext.refl _⟩
     |some .ret,B=>exact wpIn_ret ⟨env, _, _,B,i,q,Ext.refl _⟩
   ·exact AC h
  ·exact AC h
 | _=>intro S env D a w w' Kn Kx Kr j i d h l;exact AY (C:=C) (aS:=aS) j i d h l
def Dm (P:Al) (w:A2):List ResultVar->List bS->(List AA->Prop)->Prop
 |[], _,K=>K []
 | .tmp t::r,env,K=>match bZ env t with
   |some e=>Dm P w r env (λl=>K (e.v::l))
   |none=>False
 | .cell t ty::r,env,K=>match bZ env t with
   |some e=>match e.v,uN P ty,P.info? ty with
    | .pointer p,some el,some i=>if pR el i.size=true then False else aj w none p el (λx=>Dm P w r env (λl=>K (el.gZ x::l)))
    | _, _, _=>False
   |none=>False
def TL (s:Sh) (Post:s.T->A2->Prop) (w:A2) (l:List AA):Prop:=
 match s.proj (J6 l) with
 |some x=>Post x w
 |none=>False
def byD (D:List Nat) (x:Prop) (y:Nat->List Nat->Prop):Prop:=match D with
 |[]=>x
 |r::D=>y r D
def Oj (s:Sh) (rs:List ResultVar) (Post:s.T->A2->Prop):qw:=λenv D w=>byD D (au w (λw1=>Dm P w1 rs env (TL s Post w1)))
 (λr D=>sq (r::D) w (λw1=>Dm P w1 rs env (TL s Post w1)))
def bV (C:dI P) (aS:Nat->a8) (f:B3) (args:List AA) (w:A2) (Post:(uH C f).T->A2->Prop):Prop:=
 match P.funcs[f]? with
 |none=>False
 |some fn=>match fn.body with
  |none=>False
  |some c=>
   if args.length<=fn.ntmps then NB C aS fn.ntmps c (jK args 0) [] w (Oj (P:=P) (uH C f) fn.results.toList Post) (λ_ _ _ _=>False) (Oj (P:=P) (uH C f) fn.results.toList Post) else False
theorem yT {tmps:Array AA} {w:A2}: ∀{l:List ResultVar} {env:List bS} {K:List AA->Prop},Dm P w l env K->(∀t e,bZ env t=some e->tmps[t]? =some e.v)->
 ∃vs,(l.mapM (nC tmps)).run P w= .ok vs w/\K vs
 |[], _, _,h, _=>⟨[],by simp,h⟩
 | .tmp t::r,env,K,h,hv=>by
   simp only[Dm] at h;split at h
   ·rename_i e a;obtain⟨vs,dP,b⟩:=yT h hv
    simp_all[nC]
   ·exact AC h
 | .cell t ty::r,env,K,h,hv=>by
   simp only[Dm] at h;split at h
   ·rename_i e a;split at h
    ·rename_i p el i d f hi;split at h
     ·exact AC h
     ·rename_i g;obtain⟨x,c,j⟩:=h;obtain⟨vs,dP,b⟩:=yT j hv;refine⟨el.gZ x::vs,?_,b⟩;have k: ∃a0,p=some a0:=by cases el<;>(obtain⟨a0,h0, _⟩:=c;exact⟨a0,h0⟩)
      obtain⟨a0,rfl⟩:=k;have m:=tu (P:=P) f hi g c;have n:tmps.getD t undef= .pointer (some a0):=by simp[hv t e a,d]
      simp only[List.mapM_cons,Av,nC,n,asAddr,B1,Ay,m,dP]
    ·exact AC h
   ·exact AC h
theorem tU {fn:Func} {tmps:Array AA} {R:Ending->A2->Prop}: ∀(D:List Nat) (w:A2),DD D w->(∃v,(results fn tmps).run P (mw D w)= .ok v (mw D w)/\R (.returned v) (mw D w))->
 LeavesInM (WF none) 0 P fn tmps R (marks D) .returning w
 |[],w, _,h=>h
 |r::D,w,a,h=>⟨by simp,.inl ⟨r, _,rfl,run_takeDeferred a.1,tU D _ a.2 h⟩⟩
theorem aQ {C:dI P} {aS:Nat->a8} {f:B3} {args:List AA} {w:A2} {Post:(uH C f).T->A2->Prop} (h:bV C aS f args w Post):aC P f (uH C f) args w Post:=by
 unfold bV at h;split at h
 ·exact AC h
 ·rename_i fn s;split at h
  ·exact AC h
  ·rename_i c hb;split at h
   ·rename_i H;have g:plain (jK args 0):=λe a=>rV a;have nil: ∀(o:Array Oper) (m:Array AA),kh o m []:=λo m x d=>by cases d
    have y:Fit (λ_=>none) #[] fn.ntmps (marks []) (jK args 0) {tmps:=(⟨args⟩:Array AA)++F1 (fn.ntmps - args.length) undef,defers:=[]}:=by
     refine⟨(λ_ _ d=>by cases d),(by simp;omega),rfl,λt e a _=>?_,λt e a z=>absurd (by rw[(g e (bW a)).1];exact nil _ _) z,(λe a=>by rw[(g e a).2];exact(g e a).1),λe a b hb=>by rw[yR a] at hb;cases hb⟩;obtain⟨_,hv, _⟩:=pE a
     grind
    have A:=YR (C:=C) (aS:=aS) c (λ_=>none) _ _ _ w w _ _ _ (λ_ _=>rfl) g y h (Ext.refl w);refine(jR (r:=none) (n:=0)).1 (callsIn_of_wp_marks s hb trivial (wpIn_mono A ?_));have fin: ∀a1 w1,(∃env D l,Oj (P:=P) (uH C f) fn.results.toList Post env D l/\plain env/\Fit (λ_=>none) #[] fn.ntmps (marks D) env a1/\Ext l w1)->
     LeavesInM (WF none) 0 P fn a1.tmps (λe w'=> ∃x:(uH C f).T,e= .returned ((uH C f).gZ x)/\Post x w') a1.defers .returning w1:=by
     intro a1 w1 ⟨env,D,l,i,B,p,q⟩;obtain⟨E,F⟩:DD D w1/\Dm P (mw D w1) fn.results.toList env (TL (uH C f) Post (mw D w1)):=by
      cases D with
      |nil=>exact⟨trivial,i w1 q⟩
      |cons r D=>exact i w1 q
     rw[p.qv];refine tU D w1 E ?_;obtain⟨vs,dP,j⟩:=yT F (λt e a=>p.yes t e a (by rw[(B e (bW a)).1];exact nil _ _));unfold TL at j;split at j
     ·rename_i x d;refine⟨J6 vs,?_,x,by rw[Sh.im d],j⟩;have G:(fn.results.mapM (nC a1.tmps)).run P (mw D w1)= .ok ⟨vs⟩ (mw D w1):=by
       rw[JR,Sem.run_map,dP];rfl
      have e:results fn a1.tmps=(do
       let vs<-fn.results.mapM (nC a1.tmps)
       pure _):=rfl
      rw[e,Av,G];simp only[Ay,B1]
      match vs with
      |[]=>rfl
      |[v]=>rfl
      |v::u::r=>simp[J6]
     ·exact AC j
    intro e a1 w1 k;cases e with
    |normal=>exact fin a1 w1 k
    |ret=>exact fin a1 w1 k
    |exit id=>obtain⟨_, _, _,i, _⟩:=k;exact AC i
    | _=>exact AC k
   ·exact AC h
theorem putObj_size (w:A2) (b:Nat) (o:Obj):(w.putObj b o).heap.size=w.heap.size:=by simp
theorem fG {w:A2} {b k:Nat} {o:Obj} (h:k≠b):(w.putObj b o).heap[k]? =w.heap[k]? :=by
 simp[FS,Ne.symm h]
theorem kf {w:A2} {b:Nat} {o:Obj} (h:b<w.heap.size):(w.putObj b o).heap[b]? =some o:=by
 simp[FS,h]
theorem V' (w:A2) (a:AN) (v:AA):(w.setCell a v).heap.size=w.heap.size:=by simp
theorem GN {w:A2} {a:AN} {k:Nat} {v:AA} (h:k≠a.block):(w.setCell a v).heap[k]? =w.heap[k]? :=by
 simp[M4,Oh,Ne.symm h]
theorem AN.u' (a:AN) (n:Nat):(a.add n).block=a.block:=by
 unfold Addr.add;grind
theorem rW: ∀(vs:List AA) (w:A2) (a:AN) (i:Nat),(putAt w a vs i).heap.size=w.heap.size
 |[], _, _, _=>rfl
 |v::r,w,a,i=>by simp[putAt,rW]
theorem mU: ∀(vs:List AA) (w:A2) (a:AN) (i k:Nat),k≠a.block->(putAt w a vs i).heap[k]? =w.heap[k]?
 |[], _, _, _, _, _=>rfl
 |v::r,w,a,i,k,h=>by
  simp[putAt];rw[mU r _ a _ k h,GN (by rw[AN.u'];omega)]
theorem Below.putAt {n:Nat} {w w':A2} (h:Below n w w') (a:AN) (c:n<=a.block): ∀(vs:List AA) (i:Nat),Below n w (putAt w' a vs i):=by
 intro vs i
 induction vs generalizing w' i with
 |nil=>exact h
 |cons v r b=>
  exact b (h.setCell (by rw[AN.u'];omega) v) _
theorem EX {n:Nat} {w w':A2} (h:Below n w w') {b:Nat} (hb:n<=b) (o:Obj):Below n w (w'.putObj b o):=
 ⟨h.os,h.tape,h.output,by rw[putObj_size];exact h.size,λk a=>by rw[fG (by omega)];exact h.block k a⟩
theorem Ext.jC {w w':A2} (h:Ext w w') {a:AN} (b:w.heap.size<=a.block) (vs:List AA):Ext w (jC w' (some a) vs):=Below.putAt h a b vs 0
theorem Ext.putObj {w w':A2} (h:Ext w w') {b:Nat} (hb:w.heap.size<=b) (o:Obj):Ext w (w'.putObj b o):=EX h hb o
theorem Ext.iX {w w':A2} (h:Ext w w') (o:Obj):Ext w (w'.alloc o):=h.trans (Ext.alloc w' o)
def bN (w:A2) (b:Nat) (l:List AA):Prop:= ∃t,w.heap[b]? =some (.cells ⟨l⟩ t (0,0))
theorem bN.lt {w:A2} {b:Nat} {l:List AA} (h:bN w b l):b<w.heap.size:=by
 obtain⟨⟩:=h;grind
theorem bN.ext {w w':A2} {b:Nat} {l:List AA} (h:bN w b l) (k:Ext w w'):bN w' b l:=by
 obtain⟨t,h⟩:=h;exact⟨t,k.obj h⟩
theorem lI (w:A2) (o:Obj):(w.alloc o).heap.size=w.heap.size+1:=by simp
theorem fx (w:A2) (o:Obj):(w.alloc o).heap[w.heap.size]? =some o:=by
 show(w.heap.push o)[w.heap.size]? =some o;simp
theorem bN.new (w:A2) (l:List AA) (t:Ak):bN (w.alloc (.cells ⟨l⟩ t)) w.heap.size l:=⟨t,fx _ _⟩
theorem bN.same {w w':A2} {b:Nat} {l:List AA} (h:bN w b l) (k:w'.heap[b]? =w.heap[b]?):bN w' b l:=by
 obtain⟨t⟩:=h;exact⟨t,by grind⟩
theorem bN.WL {w:A2} {b:Nat} {l:List AA} (h:bN w b l) {a:AN} (c:b≠a.block) (vs:List AA):bN (jC w (some a) vs) b l:=
 h.same (mU vs w a 0 b c)
theorem bN.putObj {w:A2} {b:Nat} {l:List AA} (h:bN w b l) {k:Nat} (a:b≠k) (o:Obj):bN (w.putObj k o) b l:=h.same (fG a)
theorem NW (b o n:Nat):Addr.add ⟨b,o,none⟩ n=⟨b,o+n,none⟩:=by
 unfold Addr.add;simp
theorem aY (b o n:Nat):ad (some ⟨b,o,none⟩) n=some ⟨b,o+n,none⟩:=by simp[ad,NW]
theorem bN.cell {w:A2} {b:Nat} {l:List AA} (h:bN w b l) (o:Nat):w.cell? ⟨b,o,none⟩=l[o]? :=by
 obtain⟨t,h⟩:=h;simp[LL,h]
theorem bN.cellAt {w:A2} {b:Nat} {l:List AA} (h:bN w b l) (o n:Nat):w.cell? (Addr.add ⟨b,o,none⟩ n)=l[o+n]? :=by rw[NW,h.cell]
theorem bN.Ki {w:A2} {b:Nat} {l:List AA} (h:bN w b l) (a:AN) (c:a.block=b):w.frozen? a=false:=by
 obtain⟨t,h⟩:=h;simp[World.frozen?,c,h]
theorem bN.ov {w:A2} {b o:Nat} {l:List AA} (h:bN w b l) {s:Sc} {x:s.T} (a:l[o]? =some (s.gZ x)):cQ w (some ⟨b,o,none⟩) (.one s) x:=
 ⟨_,rfl,by rw[h.cell];omega⟩
theorem bN.Z0 {w:A2} {b o:Nat} {l:List AA} (h:bN w b l) {ss:List Sc} {x:wS ss} (a: ∀i,i<ss.length->l[o+i]? =(b_ ss x)[i]?):cQ w (some ⟨b,o,none⟩) (.agg ss) x:=
 ⟨_,rfl,λhi=>by rw[h.cellAt];grind⟩
theorem bN.oE {w:A2} {b o n:Nat} {l vs:List AA} (h:bN w b l) (a:vs.length=n) (c: ∀i,i<n->l[o+i]? =vs[i]?):oE w (some ⟨b,o,none⟩) n vs:=
 ⟨a,λhi=>by rw[h.cellAt];grind⟩
theorem bN.st {w:A2} {b o n:Nat} {l:List AA} (h:bN w b l) (a:o+n<=l.length):TF w (some ⟨b,o,none⟩) n:=
 ⟨_,rfl,λi hi=>⟨by rw[h.cellAt,If (by omega)];rfl,h.Ki _ (AN.u' _ _)⟩⟩
theorem CQ {w:A2} {b o:Nat} {l:List AA} {t:Ak} (h:w.heap[b]? =some (.cells ⟨l⟩ t (0,0))) (v:AA):(w.setCell ⟨b,o,none⟩ v).heap[b]? =some (.cells ⟨l.set o v⟩ t (0,0)):=by
 simp only[M4,Oh,h];simp
theorem zu: ∀(vs:List AA) (w:A2) (b o i:Nat) (l:List AA) (t:Ak),w.heap[b]? =some (.cells ⟨l⟩ t (0,0))->o+i+vs.length<=l.length->
 (putAt w ⟨b,o,none⟩ vs i).heap[b]? =some (.cells ⟨l.take (o+i)++(vs++l.drop (o+i+vs.length))⟩ t (0,0))
 |[],w,b,o,i,l,t,h, _=>by simp[putAt,h]
 |v::r,w,b,o,i,l,t,h,c=>by
  simp_all
  simp only[putAt,NW];rw[zu r _ b o (i+1) (l.set (o+i) v) t (CQ h v) (by simp;omega)];congr 3;have h1:(l.set (o+i) v).take (o+(i+1))=l.take (o+i)++[v]:=by
   grind[NE,NG]
  have a:(l.set (o+i) v).drop (o+(i+1)+r.length)=l.drop (o+i+(r.length+1)):=by
   grind[NU]
  rw[h1,a];simp
theorem bN.put {w:A2} {b o:Nat} {l:List AA} (h:bN w b l) (vs:List AA) (a:o+vs.length<=l.length):bN (jC w (some ⟨b,o,none⟩) vs) b (l.take o++(vs++l.drop (o+vs.length))):=by
 obtain⟨t,h⟩:=h;exact⟨t,zu vs w b o 0 l t h a⟩
theorem cT.lt {w:A2} {l:Nat} {rec:Loop} {st:LoopState} {a:Option Code} (h:cT w l rec st a):l<w.heap.size:=(BI.1 h).1
theorem cT.ext {w w':A2} {l:Nat} {rec:Loop} {st:LoopState} {a:Option Code} (h:cT w l rec st a) (k:Ext w w'):cT w' l rec st a:=k.obj h
theorem cT.same {w w':A2} {l:Nat} {rec:Loop} {st:LoopState} {a:Option Code} (h:cT w l rec st a) (k:w'.heap[l]? =w.heap[l]?):cT w' l rec st a:=by grind[cT]
theorem cT.put {w:A2} {l:Nat} {rec:Loop} {st:LoopState} {c:Option Code} (h:cT w l rec st c) (a:LoopState) (b:Option Code):cT (sS w l rec a b) l rec a b:=
 kf h.lt
def cellsOf:(e:El)->e.T->List AA
 | .one s,x=>[s.gZ x]
 | .agg l,x=>b_ l x
def aD:El->Nat
 | .one _=>1
 | .agg l=>l.length
theorem dt (e:El) (x:e.T):(cellsOf e x).length=aD e:=by
 cases e with
 |one=>rfl
 |agg l=>exact cB l x
def Sl (w:A2) (e:El) (p:Option AN) (xs:List e.T):Prop:= ∀i x,xs[i]? =some x->p.isSome=true/\cQ w (ad p (i*aD e)) e x
theorem Sl.ext {w w':A2} {e:El} {p:Option AN} {xs:List e.T} (h:Sl w e p xs) (k:Ext w w'):Sl w' e p xs:=
 λi x a=>⟨(h i x a).1,tr k (h i x a).2⟩
def flat (e:El) (xs:List e.T):List AA:=xs.flatMap (cellsOf e)
theorem aF (e:El) (xs:List e.T):(flat e xs).length=xs.length*aD e:=by
 induction xs with
 |nil
 |cons=>simp only[flat,Nz,E4,dt] at*;grind
theorem dN (e:El) (xs ys:List e.T):flat e (xs++ys)=flat e xs++flat e ys:=by simp[flat]
theorem yU (e:El): ∀(xs:List e.T) (i:Nat) (x:e.T),xs[i]? =some x-> ∀j,j<aD e->(flat e xs)[i*aD e+j]? =(cellsOf e x)[j]?
 |y::r,0,x,h,j,a=>by
  simp_all[flat,List.getElem?_append_left,dt]
 |y::r,i+1,x,h,j,a=>by
  have b:=yU e r i x ‹_› j a;simp[flat,Nz];rw[List.getElem?_append_right (by rw[dt,FM];omega),dt];rw[show(i+1)*aD e+j - aD e=i*aD e+j by grind];exact b
theorem Sl.jL {w:A2} {e:El} {b:Nat} {l:List AA} {xs:List e.T} (h:bN w b l) (d:l.take (xs.length*aD e)=flat e xs):Sl w e (some ⟨b,0,none⟩) xs:=by
 intro i x c;have hi:=(List.getElem?_eq_some_iff.1 c).1;have f: ∀j,j<aD e->i*aD e+j<xs.length*aD e:=λj a=>by
  have:(i+1)*aD e<=xs.length*aD e:=PP _ hi
  grind
 have hc: ∀j,j<aD e->l[i*aD e+j]? =(cellsOf e x)[j]? :=λj a=>by
  rw[<-yU e xs i x c j a, <-d,List.getElem?_take_of_lt (f j a)]
 simp;rw[aY,JY];cases e with
 |one=>exact h.ov (by simp_all[aD,cellsOf])
 |agg ss=>exact h.Z0 ‹_›
def lS (w0 w:A2) (e:El) (s:Option AN×Nat×Nat) (xs:List e.T):Prop:=
 s.2.1=xs.length/\xs.length<=s.2.2/\
 ((s.1=none/\xs=[]/\s.2.2=0)\/ ∃b l,s.1=some ⟨b,0,none⟩/\w0.heap.size<=b/\bN w b l/\l.length=s.2.2*aD e/\l.take (xs.length*aD e)=flat e xs)
theorem lS.nil (w0 w:A2) (e:El):lS w0 w e (none,0,0) []:=⟨rfl,by simp⟩
theorem lS.ext {w0 w w':A2} {e:El} {s:Option AN×Nat×Nat} {xs:List e.T} (h:lS w0 w e s xs) (k:Ext w w'):lS w0 w' e s xs:=by
 obtain⟨h1,c,a⟩:=h;refine⟨h1,c,?_⟩;rcases a with a|⟨b,l,a1,d,f,g⟩
 ·grind
 ·exact .inr ⟨b,l,a1,d,f.ext k,g⟩
theorem lS.same {w0 w w':A2} {e:El} {s:Option AN×Nat×Nat} {xs:List e.T} (h:lS w0 w e s xs) (k: ∀a,s.1=some a->w'.heap[a.block]? =w.heap[a.block]?):lS w0 w' e s xs:=by
 obtain⟨h1,d,c⟩:=h;refine⟨h1,d,?_⟩;rcases c with c|⟨b,l,a1,f,g,i⟩
 ·grind
 ·exact .inr ⟨b,l,a1,f,g.same (k _ a1),i⟩
theorem lS.sl {w0 w:A2} {e:El} {s:Option AN×Nat×Nat} {xs:List e.T} (h:lS w0 w e s xs):Sl w e s.1 xs:=by
 obtain⟨h1,f,a⟩:=h;rcases a with ⟨_,g, _⟩|⟨b,l,a1,i,c,j,d⟩
 ·intro;grind
 ·rw[a1];exact Sl.jL c d
theorem lS.len {w0 w:A2} {e:El} {s:Option AN×Nat×Nat} {xs:List e.T} (h:lS w0 w e s xs):s.2.1=xs.length:=h.1
def gW:El->Bool
 | .one s=>s != .func
 | .agg l=>l.all (· != .func)
theorem zv (s:Sc) (x:s.T) (h:(s != .func)=true):(s.gZ x).oneCell'=true:=by
 cases s<;>first|rfl|grind
theorem tV: ∀(ss:List Sc) (x:wS ss),ss.all (· != .func)=true->(b_ ss x).all (·.oneCell')=true
 |[], _, _=>rfl
 |s::r,x,h=>by
  simp only[Ia,B8] at h;simp[b_,tV r _ h.2,zv s _ h.1]
theorem EY (e:El) (x:e.T) (h:gW e=true):(cellsOf e x).all (·.oneCell')=true:=by
 cases e with
 |one s=>simp[cellsOf,zv s x h]
 |agg l=>exact tV l x h
theorem jU (e:El) (xs:List e.T) (h:gW e=true):(flat e xs).all (·.oneCell')=true:=by grind[flat,EY]
theorem lJ {w0 w:A2} {e:El} {s x:Option AN×Nat×Nat} {xs ys:List e.T} {t:Ak} {bytes:Nat} {z:Array AA} {R:Option AN×Nat×Nat->A2->Prop}
 (h:lS w0 w e s xs) (h0:Ext w0 w) (y:gW e=true) (d:x.2.1=ys.length) (A:oE w x.1 (x.2.1*aD e) (flat e ys)) (B:z.size=aD e) (hb:(xs.length+ys.length)*bytes<=140737488355328)
 (k: ∀s' w',lS w0 w' e s' (xs++ys)->Ext w0 w'->(∀b,b<w.heap.size->(∀a,s.1=some a->b≠a.block)->w'.heap[b]? =w.heap[b]?)->w.heap.size<=w'.heap.size->
  ((∃a,s'.1=some a/\s.1=some a)\/(∃a,s'.1=some a/\w.heap.size<=a.block)\/s'=(s.1,s.2.1,s.2.2))->R s' w'):
 mD w t (aD e) bytes z s x R:=by
 obtain⟨h1,K,p⟩:=h;have n:=aF e xs;have j:=aF e ys;have C:oE w s.1 (s.2.1*aD e) (flat e xs):=by
  rcases p with ⟨a1,g,f⟩|⟨b,l,a1,g,f,q,r⟩
  ·rw[a1,g];rfl
  ·rw[a1];refine f.oE (by rw[n,h1]) λi hi=>?_
   grind
 refine⟨flat e xs,flat e ys,C,A,λm=>?_,λm=>⟨growslice_fits m (by rw[h1,d];exact hb),λc hc=>?_⟩⟩
 ·rcases p with ⟨a1,g,f⟩|⟨b,l,a1,g,f,q,r⟩
  ·rw[f] at m;have D:ys=[]:=List.eq_nil_of_length_eq_zero (by omega);subst D;subst g;refine⟨.inl rfl,?_⟩;have E:s.2.1=0:=h1;have u:x.2.1=0:=d;rw[a1];refine k _ _ ⟨by simp[E,u],Nat.zero_le _,.inl ⟨rfl,rfl,f⟩⟩ ?_ (λ_ _ _=>rfl) (Df _) (.inr (.inr ?_))
   ·exact h0
   ·rw[a1,u];rfl
  ·have v:xs.length*aD e+ys.length*aD e<=l.length:=by
    rw[q, <-FM];exact PP _ (by rw[<-h1, <-d];exact m)
   have F:s.1.map (·.add (s.2.1*aD e))=some ⟨b,xs.length*aD e,none⟩:=by
    rw[a1,h1];simp[NW]
   rw[F];refine⟨.inr ⟨f.st (by rw[j];exact v),jU e ys y⟩,?_⟩;have G:=f.put (o:=xs.length*aD e) (flat e ys) (by rw[j];exact v);refine k _ _ ⟨by simp[h1,d],by simp only[E4];rw[<-h1, <-d];exact m,.inr ⟨b, _,a1,g,G,?_,?_⟩⟩ (h0.jC (a:=⟨b, _,none⟩) g _) (λH L I=>mU (flat e ys) w ⟨b, _,none⟩ 0 H (I ⟨b,0,none⟩ a1)) (Nat.le_of_eq (rW _ _ _ _).symm) (.inl ⟨_,a1,a1⟩)
   grind
   ·rw[r];have:(xs++ys).length*aD e=(flat e xs++flat e ys).length:=by simp only[E4,n,j,FM]
    rw[this, <-List.append_assoc,dN];exact O2 rfl
 ·have M:w.drew.heap.size=w.heap.size:=rfl;refine k _ _ ⟨by simp[h1,d],by simp only[E4];rw[<-h1, <-d];exact hc,.inr ⟨w.heap.size,flat e xs++flat e ys++(GF z (c - (s.2.1+x.2.1))).toList,rfl,h0.size,?_,?_,?_⟩⟩ ((h0.trans (Ext.drew w)).trans (Ext.alloc _ _)) (λb hb _=>?_) ?_ (.inr (.inl ⟨_,rfl,Df _⟩))
  ·have J:(JN (flat e xs)++JN (flat e ys)++GF z (c - (s.2.1+x.2.1)))=⟨flat e xs++flat e ys++(GF z (c - (s.2.1+x.2.1))).toList⟩:=by
    apply JP;simp
   rw[J];exact bN.new w.drew _ _
  ·simp only[E4,n,j,GF,Array.length_toList,Array.size_map,Array.size_range,B];rw[<-FM, <-h1, <-d, <-FM];congr 1;omega
  ·have:(xs++ys).length*aD e=(flat e xs++flat e ys).length:=by simp only[E4,n,j,FM]
   rw[this,dN];exact O2 rfl
  ·have:w.drew.heap=w.heap:=rfl;rw[Ext.block (Ext.alloc w.drew _) (by rw[this];exact hb),this]
  ·rw[lI];exact Nat.le_succ _
theorem PJ {w0 w c w1:A2} {e:El} {s:Option AN×Nat×Nat} {xs:List e.T} {x:e.T} {t:Ak} {bytes:Nat} {z:Array AA} {R:Option AN×Nat×Nat->A2->Prop}
 (h:lS w0 w e s xs) (h0:Ext w0 w) (g:gW e=true) (i:Ext w c) (d:Ext (c.alloc (.cells ⟨cellsOf e x⟩ t)) w1) (j:z.size=aD e) (hb:(xs.length+1)*bytes<=140737488355328)
 (k: ∀s' w',lS w0 w' e s' (xs++[x])->Ext w0 w'->(∀b,b<w.heap.size->(∀a,s.1=some a->b≠a.block)->w'.heap[b]? =w.heap[b]?)->w.heap.size<=w'.heap.size->R s' w'):
 mD w1 t (aD e) bytes z s (some ⟨c.heap.size,0,none⟩,1,1) R:=by
 have kk:=(i.trans (Ext.alloc c _)).trans d;have l:=(bN.new c _ _).ext d;refine lJ (ys:=[x]) (h.ext kk) (h0.trans kk) g rfl ?_ j hb λs' w' m n o p _=>k s' w' m n (λb f q=>?_) (Nat.le_trans kk.size p)
 ·refine l.oE (aF e _) λhi=>?_;simp[flat]
 ·rw[o b (PS f kk.size) q,kk.block f]
def U (b:BitVec 64):Int:=(b.toNat:Int)
def B (x:Int):BitVec 64:=Bs 64 x
theorem Ff (b:BitVec 64):B (U b)=b:=by simp[B,U]
theorem aaX {a b:BitVec 64}:U a=U b<->a=b:=by grind[Ff]
theorem wrap_u64 (x:Int):Rg.wrap x=x % 18446744073709551616:=rfl
theorem U_B (x:Int):U (B x)=x % 18446744073709551616:=by
 unfold U B;simp
 grind
theorem BU {x:Int} (h:0<=x) (h':x<18446744073709551616):U (B x)=x:=by
 rw[U_B,Int.emod_eq_of_lt h h']
theorem YS (x:Int):Rg.wrap x=U (B x):=by rw[wrap_u64,U_B]
theorem OO (a b:BitVec 64):wU .u64 (U a) (U b)=U (a &&& b):=by
 show U (B (U (B _ &&& B _)))= _;rw[Ff,Ff,Ff]
theorem aaY (a b:BitVec 64):ZQ .u64 (U a) (U b)=U (a ||| b):=by
 show U (B (U (B _ ||| B _)))= _;rw[Ff,Ff,Ff]
theorem Kj (a b:BitVec 64):fR .u64 (U a) (U b)=U (a &&& ~~~ b):=by
 show U (B (U (B _ &&& ~~~ B _)))= _;rw[Ff,Ff,Ff]
theorem OP (a:BitVec 64) (n:Int):Di .u64 (U a) n=U (a <<< n.toNat):=by
 unfold Di;rw[wrap_u64];unfold U;rw[BitVec.toNat_shiftLeft,Nat.shiftLeft_eq];show(a.toNat:Int)*2 ^ min _ 64 % _= _;by_cases n.toNat<=64
 grind
 ·have h1:a.toNat*2 ^ n.toNat % 2 ^ 64=0:=by
   apply Nat.mod_eq_zero_of_dvd;exact Nat.dvd_trans (Nat.pow_dvd_pow 2 (by omega)) (Nat.dvd_mul_left ..)
  grind
theorem OQ (a:BitVec 64) (n:Int):J1 .u64 (U a) n=U (a >>> n.toNat):=by
 unfold U;rw[BitVec.toNat_ushiftRight,Nat.shiftRight_eq_div_pow];have e: ∀k,(a.toNat:Int).fdiv (2 ^ k)=(a.toNat / 2 ^ k: ):=λk=>by
  grind
 show(a.toNat:Int).fdiv (2 ^ min _ 64)= _;rw[e];by_cases n.toNat<=64
 grind
 ·rw[Nat.min_eq_right (by omega)];have h0:=a.isLt;rw[Pp h0,Pp (PS h0 (Nat.pow_le_pow_right (by simp) (by omega)))]
theorem gz {x:Int} (h: -9223372036854775808<=x) (h':x<9223372036854775808):Ds.wrap x=x:=by
 simp only[IntKind.wrap,IntKind.bits,IntKind.signed]
 grind
theorem ax {x y:Int} (h: -9223372036854775808<=x+y) (h':x+y<9223372036854775808):aL .i64 x y=x+y:=gz h h'
theorem bF {x y:Int} (h: -9223372036854775808<=x - y) (h':x - y<9223372036854775808):aZ .i64 x y=x - y:=gz h h'
theorem eH {x y:Int} (h: -9223372036854775808<=x*y) (h':x*y<9223372036854775808):fy .i64 x y=x*y:=gz h h'
theorem bX {P:Al} {f:B3} {sh:Sh} {args:List AA} {w:A2} {x:sh.T} (h:aC P f sh args w (λy w'=>y=x/\Ext w w')):
 Calls P f ⟨args⟩ w (λe w'=>e= .returned (sh.gZ x)/\Ext w w'):=
 FN h (by grind)
abbrev ae (b:Nat):Option AN:=some ⟨b,0,none⟩
abbrev lW:El:= .one .ptr
abbrev aX:El:= .one (.int .i64)
abbrev ru:El:= .one (.int .u64)
abbrev fi:El:= .one .slice
abbrev sT:El:= .one .bool
abbrev NX:El:= .one .map
abbrev gf (w:A2) (a:Option AN) (K:Option AN->Prop):Prop:=aj w none a (.one .ptr) K
abbrev bH (p:Option AN) (n:Nat) (w:A2) (K:Option AN->Prop):Prop:=p.isSome=true/\p.isSome=true/\aj w none (ad p n) (.one .ptr) K
abbrev aW (w:A2) (a:Option AN) (K:Int->Prop):Prop:=aj w none a (.one (.int .i64)) K
abbrev cL (p:Option AN) (n:Nat) (w:A2) (K:Int->Prop):Prop:=p.isSome=true/\p.isSome=true/\aj w none (ad p n) (.one (.int .i64)) K
abbrev cK (w:A2) (a:Option AN) (K:Int->Prop):Prop:=aj w none a (.one (.int .u64)) K
abbrev acE (p:Option AN) (n:Nat) (w:A2) (K:Int->Prop):Prop:=p.isSome=true/\p.isSome=true/\aj w none (ad p n) (.one (.int .u64)) K
abbrev sU (w:A2) (a:Option AN) (K:Option AN×Nat×Nat->Prop):Prop:=aj w none a (.one .slice) K
abbrev fe (p:Option AN) (n:Nat) (w:A2) (K:Option AN×Nat×Nat->Prop):Prop:=p.isSome=true/\p.isSome=true/\aj w none (ad p n) (.one .slice) K
abbrev uR (w:A2) (a:Option AN) (K:Bool->Prop):Prop:=aj w none a (.one .bool) K
abbrev abZ (p:Option AN) (n:Nat) (w:A2) (K:Bool->Prop):Prop:=p.isSome=true/\p.isSome=true/\aj w none (ad p n) (.one .bool) K
abbrev acF (w:A2) (a:Option AN) (K:Option Nat->Prop):Prop:=aj w none a (.one .map) K
abbrev sV (p:Option AN) (n:Nat) (w:A2) (K:Option Nat->Prop):Prop:=p.isSome=true/\p.isSome=true/\aj w none (ad p n) (.one .map) K
abbrev cD:El:= .agg [.int .u64,.int .i64]
abbrev dQ:El:= .agg [.int .i64,.int .i64,.int .i64,.int .i64]
abbrev wW:El:= .agg [.int .i64,.int .u64,.int .u64,.int .u64]
abbrev wX:El:= .agg [.int .i64,.int .i64,.int .i64]
abbrev Yl:El:= .agg [.int .i64,.int .i64,.int .i64,.int .i64,.int .u64,.int .u64,.int .u64,.int .u64,.int .i64]
abbrev kj:El:= .agg [.bool,.int .i64,.bool,.int .i64]
theorem ao {c:Prop} {h:Decidable c} (a: ¬c) {α:Sort _} {t e:α}:ite c t e=e:=if_neg a
theorem av {c:Prop} {h:Decidable c} (hc:c) {α:Sort _} {t e:α}:ite c t e=t:=if_pos hc
abbrev aa (x:Int):AA:= .int .i64 x
abbrev ay (x:Int):AA:= .int .u64 x
abbrev ag (x:Option AN):AA:= .pointer x
end Go.RX
