import Derived.CallsIn
import Derived.OrdersIn
import Derived.Below
import Derived.Laws.Sem
import Derived.KernelRfl
import Derived.Laws.StructEq
import Derived.Laws.Small
import Derived.WalkSpells
import Derived.ChangeKeysEq
import Derived.RangeFuncLeaves
import Derived.Laws.World
import Derived.Laws.NewFold
import Derived.OwnWalkIn
import Derived.ChangeMaps4
import Derived.Maps.RangeRun
import Derived.RangeFuncRecord
import Derived.LaidEqlPtr
import Derived.Conc.LoneSelect
import Derived.Laws.Append
import Derived.Test.YtlcenllcmeebhaaGreatProg
import Derived.Deep.Slices
import Derived.ProofKit
import Derived.OpenShut
/-! What the statement leans on: texts joined and shortened by a program of mine. -/
set_option linter.unusedVariables false
set_option linter.unusedSimpArgs false
open Go renaming World->A1,Value->A2,Addr->AC,TypeId->AL,Program->AM,IntKind->B1,FuncId->B2,MapEntry->DD
open False renaming elim->AB
open Go.Sem renaming run_bind->AY,run_pure->Ay
open Go.Result renaming andThen_ok->Ax,andThen->DI
open Go.Region renaming ready->B3,wanted->Bx,binds->DK,schedule->GO,linearise->N9
open List renaming range->B4,mem_filter->CK,mem_cons->D8,all_eq_true->DZ,mem_range->Dn,mem_append->E5,length_append->Ef,mem_map->GS,getElem?_cons_zero->Ga,map_toArray->Gc,map_cons->Gd,map_nil->Gi,range'->Gj,countP_singleton->Gt,all_cons->I2,getElem?_eq_getElem->IM,mem_cons_self->IQ,getElem?_toArray->IR,getElem?_cons_succ->IV,range'_succ->IX,countP_append->In,length_cons->O2,take_add_one->OB,take_set_of_le->OC,drop_set_of_lt->OG,mem_cons_of_mem->OK,find?_some->OM,filter_cons->OO,range_eq_range'->OV,countP_eq_zero->OY,range_succ->Oc,flatMap_cons->Oe,take_left'->Of
open Go.Op renaming equalIn->B5
open Bool renaming and_eq_true->Bf,false_eq_true->Ep,or_eq_true->G1,not_eq_true'->Gu,or_false->J3,not_false->Oi
open Array renaming getElem?_eq_some_iff->CJ,getElem?_setIfInBounds_ne->DJ,replicate->Et,getD_eq_getD_getElem?->GD,all_eq_true_iff_forall_mem->Gv,mk->Jc,ext'->K1,mapM_eq_mapM_toList->KC,getD->KE,getElem?_eq_getElem->KL,mem_of_getElem?->KP,getElem?_modify->Ok
open BitVec renaming ofInt->CL
open Go.Act renaming put->Co,put_comm->Do,eval->GF
open Option.some renaming injEq->DA
open Go.MapKept renaming run_getObj_map->DB,run_checkKey->DO,run_findKey->DQ,IsKey->Gw,run_setObj_map->H4
open Nat renaming le_refl->DV,blt->F2,add_mul->F4,testBit_or->GG,zero_add->Kq,strongRecOn->Kt,mul_le_mul_right->P0,lt_of_lt_of_le->PP,div_eq_of_lt->PS
open Go.Fence renaming wide->DY
open Go.IntKind renaming i64->E4,u64->Pl
open Go.Calls renaming mono->F5
open Go.Instr renaming findNow->F7,lookup->FP,fill->H5,indexAt->H6,sureAddr->H7,index->HB,extract->Hb,mapUpdate->Kv,sliceBound->Pp,sliceBounds->Ps,sliceAt->Rg,makeSlice->S0,buildSlice->S1
open Go.World renaming putObj->FR,cell?->LL,setCell->M4
open Go.Builtin renaming firstCells->FS,len_->GH,zeroCells->GI,lenOf->M5,append_->Mr,delete_->N4,nextslicecap->S2,copy_->T0
open Go.Region.linearise renaming go->FZ
open Option renaming map_some->GJ,getD_some->Hr,map_none->T3
open Go.Conc renaming G->I1,solo->T4,rcase->T9
namespace Go.RX
open Go.RowKit
def Ext (w w':A1):Prop:=Below w.heap.size w w'
theorem Ext.refl (w:A1):Ext w w:=Below.refl _ w
theorem Ext.trans {a b c:A1} (h:Ext a b) (k:Ext b c):Ext a c:=Below.trans h (Below.mono k h.size)
theorem Ext.drew (w:A1):Ext w {w with drawn:=w.drawn+1}:=⟨rfl,rfl,rfl,DV _,λ_ _=>rfl⟩
theorem Ext.alloc (w:A1) (o:Obj):Ext w (w.alloc o):=Below.alloc (Below.refl _ w) (DV _) o
theorem Ext.size {w w':A1} (h:Ext w w'):w.heap.size<=w'.heap.size:=Below.size h
theorem Ext.block {w w':A1} (h:Ext w w') {k:Nat} (a:k<w.heap.size):w'.heap[k]? =w.heap[k]? :=Below.block h k a
theorem Ext.obj {w w':A1} (h:Ext w w') {k:Nat} {o:Obj} (a:w.heap[k]? =some o):w'.heap[k]? =some o:=by
 rw[h.block (CJ.1 a).1];exact a
theorem Hk {w:A1} {a:AC} {v:A2} (h:w.cell? a=some v):a.block<w.heap.size:=by
 unfold LL at h;cases b:w.heap[a.block]? with
 |none=>simp[b] at h
 |some o=>exact(CJ.1 b).1
theorem Ext.cell {w w':A1} (h:Ext w w') {a:AC} {v:A2} (b:w.cell? a=some v):w'.cell? a=some v:=by
 rw[Below.cell h (Hk b)];exact b
inductive Sc where
 |int (k:B1)|bool|str|ptr|slice|map|chan|func|Ar (f:B2) (n:Nat)|X8
 deriving DecidableEq
@[reducible] def Ec:Nat->Type
 |0=>Unit
 |n+1=>Option AC×Ec n
def xL:(n:Nat)->Ec n->List A2
 |0, _=>[]
 |n+1,x=> .pointer x.1::xL n x.2
def mX:(n:Nat)->List A2->Option (Ec n)
 |0,[]=>some ()
 |n+1,.pointer a::r=>match mX n r with
  |some y=>some (a,y)
  |none=>none
 | _, _=>none
theorem ud: ∀{n:Nat} {l:List A2} {x:Ec n},mX n l=some x->xL n x=l
 |0,[], _, _=>rfl
 |0, _:: _, _,h=>by simp[mX] at h
 |n+1,[], _,h=>by simp[mX] at h
 |n+1,v::r,x,h=>by
  cases v<;>simp only[mX] at h<;>(try (cases h;done));split at h
  ·rename_i y a;cases h;simp only[xL,ud a]
  ·cases h
@[reducible] def Sc.T:Sc->Type
 | .int _=>Int
 | .bool=>Bool
 | .str=>ByteArray
 | .ptr=>Option AC
 | .slice=>Option AC×Nat×Nat
 | .map=>Option Nat
 | .chan=>Option Nat
 | .func=>A2
 | .Ar _ n=>Ec n
 | .X8=>Nat
def Sc.ia:(s:Sc)->s.T->A2
 | .int k,n=> .int k n
 | .bool,b=> .bool b
 | .str,s=> .string s
 | .ptr,a=> .pointer a
 | .slice,x=> .slice x.1 x.2.1 x.2.2
 | .map,r=> .map r
 | .chan,r=> .chan r
 | .func,v=>v
 | .Ar f n,x=> .func (.func f) #[] ⟨xL n x⟩
 | .X8,y=> .func (.yield y) #[] #[]
def Sc.proj:(s:Sc)->A2->Option s.T
 | .int k,.int d n=>if k=d then some n else none
 | .bool,.bool b=>some b
 | .str,.string s=>some s
 | .ptr,.pointer a=>some a
 | .slice,.slice a n c=>some (a,n,c)
 | .map,.map r=>some r
 | .chan,.chan r=>some r
 | .func,v=>some v
 | .Ar f n,.func (.func f') ⟨[]⟩ ⟨l⟩=>if f=f' then mX n l else none
 | .X8,.func (.yield y) ⟨[]⟩ ⟨[]⟩=>some y
 | _, _=>none
theorem Sc.iC {s:Sc} {v:A2} {x:s.T} (h:s.proj v=some x):s.ia x=v:=by
 cases s with
 |Ar f n=>
  cases v with
  |func fn first a=>
   obtain⟨b⟩:=first
   obtain⟨c⟩:=a;cases fn<;>cases b<;>simp only[Sc.proj] at h<;>(try (cases h;done));split at h
   ·subst_vars
    simp only[Sc.ia,ud h]
   ·cases h
  | _=>simp[Sc.proj] at h
 |X8=>
  cases v with
  |func fn first a=>
   obtain⟨b⟩:=first
   obtain⟨c⟩:=a;cases fn<;>cases b<;>cases c<;>simp only[Sc.proj] at h<;>first|(cases h;done)|(cases h;rfl)
  | _=>simp[Sc.proj] at h
 | _=>
   cases v<;>simp only[Sc.proj] at h<;>
    first
     |(cases h;rfl)
     |(split at h<;>cases h;subst_vars;rfl)
     |(cases h)
@[reducible] def jq:List Sc->Type
 |[]=>Unit
 |s::r=>s.T×jq r
def bh:(l:List Sc)->jq l->List A2
 |[], _=>[]
 |s::r,x=>s.ia x.1::bh r x.2
def mh:(l:List Sc)->List A2->Option (jq l)
 |[],[]=>some ()
 |s::r,v::vs=>match s.proj v,mh r vs with
  |some x,some y=>some (x,y)
  | _, _=>none
 | _, _=>none
theorem pN: ∀{l:List Sc} {vs:List A2} {x:jq l},mh l vs=some x->bh l x=vs
 |[],[], _, _=>rfl
 |[], _:: _, _,h=>by simp[mh] at h
 | _:: _,[], _,h=>by simp[mh] at h
 |s::r,v::vs,x,h=>by
  simp only[mh] at h;cases h1:s.proj v with
  |none=>simp[h1] at h
  |some a=>
   cases c:mh r vs with
   |none=>simp[h1,c] at h
   |some b=>
    simp only[h1,c] at h;cases h;simp only[bh,Sc.iC h1,pN c]
inductive El where
 |one (s:Sc)|agg (l:List Sc)
@[reducible] def El.T:El->Type
 | .one s=>s.T
 | .agg l=>jq l
def El.ia:(e:El)->e.T->A2
 | .one s,x=>s.ia x
 | .agg l,x=> .agg ⟨bh l x⟩
def El.proj:(e:El)->A2->Option e.T
 | .one s,v=>s.proj v
 | .agg l,.agg ⟨vs⟩=>mh l vs
 | .agg _, _=>none
theorem El.iC {e:El} {v:A2} {x:e.T} (h:e.proj v=some x):e.ia x=v:=by
 cases e with
 |one s=>exact Sc.iC h
 |agg l=>
  cases v with
  |agg cs=>obtain⟨vs⟩:=cs;exact congrArg (λl=>Value.agg ⟨l⟩) (pN h)
  | _=>simp[El.proj] at h
@[reducible] def oG:List El->Type
 |[]=>Unit
 |e::r=>e.T×oG r
def vd:(l:List El)->oG l->List A2
 |[], _=>[]
 |e::r,x=>e.ia x.1::vd r x.2
def nO:(l:List El)->List A2->Option (oG l)
 |[],[]=>some ()
 |s::r,v::vs=>match s.proj v,nO r vs with
  |some x,some y=>some (x,y)
  | _, _=>none
 | _, _=>none
theorem v8: ∀{l:List El} {vs:List A2} {x:oG l},nO l vs=some x->vd l x=vs
 |[],[], _, _=>rfl
 |[], _:: _, _,h=>by simp[nO] at h
 | _:: _,[], _,h=>by simp[nO] at h
 |s::r,v::vs,x,h=>by
  simp only[nO] at h;cases h1:s.proj v with
  |none=>simp[h1] at h
  |some a=>
   cases c:nO r vs with
   |none=>simp[h1,c] at h
   |some b=>
    simp only[h1,c] at h;cases h;simp only[vd,El.iC h1,v8 c]
inductive Sh where
 |el (e:El)|bu (l:List El)
@[reducible] def Sh.T:Sh->Type
 | .el e=>e.T
 | .bu l=>oG l
def Sh.ia:(s:Sh)->s.T->A2
 | .el e,x=>e.ia x
 | .bu l,x=> .tuple ⟨vd l x⟩
def Sh.proj:(s:Sh)->A2->Option s.T
 | .el e,v=>e.proj v
 | .bu l,.tuple ⟨vs⟩=>nO l vs
 | .bu _, _=>none
theorem Sh.iC {e:Sh} {v:A2} {x:e.T} (h:e.proj v=some x):e.ia x=v:=by
 cases e with
 |el s=>exact El.iC h
 |bu l=>
  cases v with
  |tuple cs=>obtain⟨vs⟩:=cs;exact congrArg (λl=>Value.tuple ⟨l⟩) (v8 h)
  | _=>simp[Sh.proj] at h
def A5 (P:AM):Nat->AL->Option (List Sc)
 |0, _=>none
 |d+1,t=>match P.underlying t with
  |some (.int k)=>some [.int k]
  |some .bool=>some [.bool]
  |some .string=>some [.str]
  |some (.pointer _)=>some [.ptr]
  |some (.slice _)=>some [.slice]
  |some (.map _ _)=>some [.map]
  |some (.chan _ _)=>some [.chan]
  |some (.func _ _ _)=>some [.func]
  |some (.struct fs)=>fs.toList.foldr (λf acc=>match A5 P d f.type,acc with|some a,some b=>some (a++b)| _, _=>none) (some [])
  |some (.array n e)=>match A5 P d e with
   |some a=>if n<=64 then some (List.replicate n a).flatten else none
   |none=>none
  | _=>none
def u0 (P:AM) (t:AL):Option El:=
 match P.underlying t with
 |some (.struct _)|some (.array _ _)=>(A5 P 20 t).map .agg
 | _=>match A5 P 20 t with
   |some [s]=>some (.one s)
   | _=>none
def XD (P:AM):List AL->Option (List El)
 |[]=>some []
 |t::r=>match u0 P t,XD P r with
  |some e,some l=>some (e::l)
  | _, _=>none
def abj (P:AM) (f:B2):Sh:=
 match P.funcs[f]? with
 |some fn=>match fn.resultTypes.toList with
  |[t]=>match u0 P t with
   |some e=> .el e
   |none=> .bu []
  |ts=>match XD P ts with
   |some l=> .bu l
   |none=> .bu []
 |none=> .bu []
def aH (k:B1) (x y:Int):Int:=k.wrap (x+y)
def aX (k:B1) (x y:Int):Int:=k.wrap (x - y)
def gq (k:B1) (x y:Int):Int:=k.wrap (x*y)
def xm (k:B1) (x y:Int):Int:=k.wrap (x.tdiv y)
def dz (x y:Int):Int:=x.tmod y
def ny (k:B1) (x y:Int):Int:=k.wrap (CL k.bits x &&& CL k.bits y).toNat
def orI (k:B1) (x y:Int):Int:=k.wrap (CL k.bits x ||| CL k.bits y).toNat
def aaL (k:B1) (x y:Int):Int:=k.wrap (CL k.bits x ^^^ CL k.bits y).toNat
def gN (k:B1) (x y:Int):Int:=k.wrap (CL k.bits x &&& ~~~ (CL k.bits y)).toNat
def DW (k:B1) (x y:Int):Int:=k.wrap (x*2 ^ (min y.toNat k.bits))
def KH (k:B1) (x y:Int):Int:=x.fdiv (2 ^ (min y.toNat k.bits))
def aE (k:B1) (x:Int):Int:=k.wrap x
def aaM (k:B1) (x:Int):Int:=k.wrap (CL k.bits (if k.signed then -1 else k.max) ^^^ CL k.bits x).toNat
def kK (x y:Int):Int:=if y<x then y else x
def DX (x y:Int):Int:=if y>x then y else x
structure PR where
 ob:Option Prop
 v:A2
def pE:Operand->Bool
 | .const (.int _ n)=>decide (n≠0)
 | _=>false
def p_:Operand->Bool
 | .const (.int _ n)=>decide (0<=n)
 | _=>false
def kL:Operand->Bool
 | .const (.pointer none)| .const (.slice none _ _)| .const (.map none)| .const .nilFunc=>true
 | _=>false
def Pe (op:BinOp) (k:B1) (x y:Int) (a:Operand):Option PR:=
 match op with
 | .add=>some ⟨none,.int k (aH k x y)⟩
 | .sub=>some ⟨none,.int k (aX k x y)⟩
 | .mul=>some ⟨none,.int k (gq k x y)⟩
 | .quo=>some ⟨if pE a then none else some (y≠0),.int k (xm k x y)⟩
 | .rem=>some ⟨if pE a then none else some (y≠0),.int k (dz x y)⟩
 | .and=>some ⟨none,.int k (ny k x y)⟩
 | .or=>some ⟨none,.int k (orI k x y)⟩
 | .xor=>some ⟨none,.int k (aaL k x y)⟩
 | .andNot=>some ⟨none,.int k (gN k x y)⟩
 | .eql=>some ⟨none,.bool (x==y)⟩
 | .neq=>some ⟨none,.bool (x != y)⟩
 | .lss=>some ⟨none,.bool (decide (x<y))⟩
 | .leq=>some ⟨none,.bool (decide (x<=y))⟩
 | .gtr=>some ⟨none,.bool (decide (x>y))⟩
 | .geq=>some ⟨none,.bool (decide (x>=y))⟩
 | _=>none
def kj (P:AM) (t:AL):Option Bool:=
 match P.underlying t with
 |some (.struct _)|some (.array _ _)=>some true
 |some _=>some false
 |none=>none
def qS (P:AM) (t:AL) (cs:List A2) (off:Nat):Option A2:=
 match kj P t,P.info? t with
 |some true,some i=>some (.agg ⟨(cs.drop off).take i.size⟩)
 |some false, _=>cs[off]?
 | _, _=>none
def Ox (P:AM) (g:AL->A2->A2->Option Bool) (xs ys:List A2):List Field->Option Bool
 |[]=>some true
 |f::fs=>if f.name≠ "_" then
   match qS P f.type xs f.offset,qS P f.type ys f.offset with
   |some a,some b=>match g f.type a b,Ox P g xs ys fs with
    |some r,some s=>some (r&&s)
    | _, _=>none
   | _, _=>none
  else Ox P g xs ys fs
def eqV (P:AM):Nat->AL->A2->A2->Option Bool
 |0, _, _, _=>none
 |d+1,t,x,y=>
  match P.underlying t with
  |some .bool=>match x,y with
   | .bool a,.bool b=>some (a==b)
   | _, _=>none
  |some (.int _)=>match x,y with
   | .int k a,.int c b=>if k=c then some (a==b) else none
   | _, _=>none
  |some .string=>match x,y with
   | .string a,.string b=>some (a==b)
   | _, _=>none
  |some (.struct fs)=>match x,y with
   | .agg ⟨xs⟩,.agg ⟨ys⟩=>if P.stoodInHeld t then none else Ox P (eqV P d) xs ys fs.toList
   | _, _=>none
  | _=>none
def YV (P:AM) (op:BinOp) (t:AL) (d c:Operand) (x y:A2):Option PR:=
 match x,y with
 | .int k a,.int e b=>
   match op with
   | .shl=>some ⟨if p_ c then none else some (0<=b),.int k (DW k a b)⟩
   | .shr=>some ⟨if p_ c then none else some (0<=b),.int k (KH k a b)⟩
   |op=>if k=e then Pe op k a b c else none
 | .bool a,.bool b=>
   match op,P.underlying t with
   | .eql,some .bool=>some ⟨none,.bool (a==b)⟩
   | .neq,some .bool=>some ⟨none,.bool (!(a==b))⟩
   | _, _=>none
 | .pointer p,.pointer q=>
   match op,P.underlying t with
   | .eql,some (.pointer _)=>if kL c then some ⟨none,.bool p.isNone⟩ else if kL d then some ⟨none,.bool q.isNone⟩ else none
   | .neq,some (.pointer _)=>if kL c then some ⟨none,.bool (!p.isNone)⟩ else if kL d then some ⟨none,.bool (!q.isNone)⟩ else none
   | _, _=>none
 | .slice p _ _,.slice q _ _=>
   match op,P.underlying t with
   | .eql,some (.slice _)=>if kL c then some ⟨none,.bool p.isNone⟩ else if kL d then some ⟨none,.bool q.isNone⟩ else none
   | .neq,some (.slice _)=>if kL c then some ⟨none,.bool (!p.isNone)⟩ else if kL d then some ⟨none,.bool (!q.isNone)⟩ else none
   | _, _=>none
 | .map p,.map q=>
   match op,P.underlying t with
   | .eql,some (.map _ _)=>if kL c then some ⟨none,.bool p.isNone⟩ else if kL d then some ⟨none,.bool q.isNone⟩ else none
   | .neq,some (.map _ _)=>if kL c then some ⟨none,.bool (!p.isNone)⟩ else if kL d then some ⟨none,.bool (!q.isNone)⟩ else none
   | _, _=>none
 | .string a,.string b=>
   match op with
   | .eql=>some ⟨none,.bool (a==b)⟩
   | .neq=>some ⟨none,.bool (!(a==b))⟩
   | _=>none
 | .agg xs,.agg ys=>
   if P.eqGuardType P.depth t then none else
   match op,eqV P Op.maxDepth t (.agg xs) (.agg ys) with
   | .eql,some r=>some ⟨none,.bool r⟩
   | .neq,some r=>some ⟨none,.bool (!r)⟩
   | _, _=>none
 | _, _=>none
def unV (op:UnOp) (x:A2):Option PR:=
 match op,x with
 | .not,.bool b=>some ⟨none,.bool (!b)⟩
 | .neg,.int k n=>some ⟨none,.int k (aX k 0 n)⟩
 | .xor,.int k n=>some ⟨none,.int k (aaM k n)⟩
 | _, _=>none
def XE (P:AM) (src dst:AL) (x:A2):Option PR:=
 match P.underlying src,P.underlying dst,x with
 |some _,some (.int k),.int _ n=>some ⟨none,.int k (aE k n)⟩
 |some .string,some .string,.string s=>some ⟨none,.string s⟩
 | _, _, _=>none
def xM (P:AM) (t:AL) (i:Nat):Option Field:=
 match P.underlying t with
 |some (.struct fs)=>fs[i]?
 | _=>none
def maps (ρ:Operand->Option A2):List Operand->Option (List A2)
 |[]=>some []
 |x::r=>match ρ x,maps ρ r with
  |some v,some l=>some (v::l)
  | _, _=>none
def A6 (ρ:Operand->Option A2):List (Nat×Operand)->Option (List (Nat×A2))
 |[]=>some []
 |(i,x)::r=>match ρ x,A6 ρ r with
  |some v,some l=>some ((i,v)::l)
  | _, _=>none
def ad (p:Option AC) (n:Nat):Option AC:=p.map (·.add n)
def CQ:List A2->B1->Option (List Int)
 |[], _=>some []
 | .int a n::r,k=>if k=a then(match CQ r k with|some l=>some (n::l)|none=>none) else none
 | _, _=>none
def KI (l:List Int) (i:Int):Int:=l.getD i.toNat 0
def YW (l:List A2) (i:Int):A2:=l.getD i.toNat undef
def fe (a:Nat->Option (Nat×Nat)) (cells:List A2):List (Nat×A2)->Option (List A2)
 |[]=>some cells
 |(i,v)::rest=>match a i with
  |none=>none
  |some (off,size)=>
   if(Nat.beq v.cells.toList.length size&&Nat.ble (off+size) cells.length)=true then fe a (cells.take off++(v.cells.toList++cells.drop (off+size))) rest else none
def A7 (a:Nat->Option (Nat×Nat)) (cells:Array A2) (ps:List (Nat×A2)):Option (Array A2):=
 match fe a cells.toList ps with
 |some l=>some ⟨l⟩
 |none=>none
theorem Eu: ∀(vs:List A2) (k off:Nat) (cs:List A2),off+k+vs.length<=cs.length->
 (vs.zipIdx k).foldl (λ(cs:Array A2) (x:A2×Nat)=>cs.setIfInBounds (off+x.2) x.1) ⟨cs⟩=⟨cs.take (off+k)++(vs++cs.drop (off+k+vs.length))⟩
 |[],k,off,cs,h=>by simp
 |v::vs,k,off,cs,h=>by
  simp only[O2] at h;simp;rw[Eu vs (k+1) off (cs.set (off+k) v) (by simp;omega)];congr 1
  grind[OB,OC,OG]
theorem Ev (a:Nat->Option (Nat×Nat)): ∀(ps:List (Nat×A2)) (cells r:List A2),fe a cells ps=some r->H5 a ⟨cells⟩ ps=some ⟨r⟩
 |[],cells,r,h=>by cases h;rfl
 |(i,v)::rest,cells,r,h=>by
  unfold fe at h;unfold H5;split at h
  ·cases h
  ·rename_i off size b;split at h
   ·rename_i hc;simp only[Bf,Nat.beq_eq,Nat.ble_eq] at hc;obtain⟨h1,e⟩:=hc;have c:v.cells.size=size:=by simpa using h1
    have d: ¬ ((decide (v.cells.size≠size)||decide (off+v.cells.size>(Jc cells).size))=true):=by
     simp[c];omega
    simp only[b,d];have:=Eu v.cells.toList 0 off cells (by simp only[h1];omega);have f:v.cells.zipIdx=⟨v.cells.toList.zipIdx 0⟩:=by
     apply K1;simp
    have g:v.cells.zipIdx.foldl (λ(cs:Array A2) (x:A2×Nat)=>cs.setIfInBounds (off+x.2) x.1) ⟨cells⟩=⟨cells.take off++(v.cells.toList++cells.drop (off+size))⟩:=by
     grind
    refine Eq.trans ?_ (Ev a rest _ r h)
    grind
   ·cases h
theorem y9 {a:Nat->Option (Nat×Nat)} {cells:Array A2} {ps:List (Nat×A2)} {cs:Array A2} (h:A7 a cells ps=some cs):H5 a cells ps=some cs:=by
 unfold A7 at h;split at h
 ·rename_i l b;cases h;exact Ev a ps _ l b
 grind
def GQ (P:AM) (t:AL) (parts:List (Nat×A2)):Option (Array A2):=
 match P.info? t with
 |some i=>match i.zero with
  |some z=>match P.underlying t with
   |some (.struct fs)=>if fs.toList.all (λf=>(P.info? f.type).isSome) then A7 ((fs.toList.map λf=>(f.offset,P.cellsOf f.type))[·]?) z.cells parts else none
   |some (.array _ e)=>match P.info? e with
    |some a=>A7 (λi=>some (i*a.size,a.size)) z.cells parts
    |none=>none
   | _=>none
  |none=>none
 |none=>none
def XF (s:ByteArray) (i:Int):Int:=(((s.data.toList)[i.toNat]?.getD 0).toNat:Int)
def iK (ρ:Operand->Option A2) (d:Nat):Option Operand->Option (Int)
 |none=>some d
 |some x=>match ρ x with
  |some (.int _ n)=>some n
  | _=>none
def pop (P:AM) (ρ:Operand->Option A2) (o:Oper):Option PR:=
 match o.op with
 | .move x=>match ρ x with
   |some v=>some ⟨none,v⟩
   |none=>none
 | .assign x=>match ρ x with
   |some v=>some ⟨none,v⟩
   |none=>none
 | .nilCheck x=>match ρ x with
   |some (.pointer p)=>some ⟨some (p.isSome=true),.pointer p⟩
   |some (.func (.func f) fs cs)=>some ⟨none,.func (.func f) fs cs⟩
   | _=>none
 | .binOp op t x y _=>match ρ x,ρ y with
   |some a,some b=>YV P op t x y a b
   | _, _=>none
 | .unOp op _ x=>match ρ x with
   |some a=>unV op a
   |none=>none
 | .convert s d x=>match ρ x with
   |some a=>XE P s d a
   |none=>none
 | .fieldAddr s x f=>match ρ x,xM P s f with
   |some (.pointer p),some fd=>match P.info? fd.type with
    |some i=>if i.size=0 then none else some ⟨some (p.isSome=true),.pointer (ad p fd.offset)⟩
    |none=>none
   | _, _=>none
 | .field t x f=>match ρ x,xM P t f with
   |some (.agg ⟨cs⟩),some fd=>match qS P fd.type cs fd.offset with
    |some v=>some ⟨none,v⟩
    |none=>none
   | _, _=>none
 | .indexAddr t x ix=>match P.underlying t,ρ x,ρ ix with
   |some (.array len e),some (.pointer p),some (.int _ i)=>match P.info? e with
    |some g=>if len<=1 then none else some ⟨some (p.isSome=true/\0<=i/\i<len),.pointer (ad p (i.toNat*g.size))⟩
    |none=>none
   |some (.slice e),some (.slice p len _),some (.int _ i)=>match P.info? e with
    |some g=>some ⟨some (p.isSome=true/\0<=i/\i<len),.pointer (ad p (i.toNat*g.size))⟩
    |none=>none
   | _, _, _=>none
 | .index t x ix=>match P.underlying t,ρ x,ρ ix with
   |some (.array len e),some (.agg ⟨cs⟩),some (.int _ i)=>match P.info? e with
    |some g=>match ix with
     | .const (.int _ n)=>if 0<=n/\n<len then(match qS P e cs (n.toNat*g.size) with
      |some v=>some ⟨none,v⟩
      |none=>none) else none
     | _=>match P.underlying e with
       |some (.int k)=>match CQ cs k with
        |some j=>if cs.length=len/\g.size=1 then some ⟨some (0<=i/\i<len),.int k (KI j i)⟩ else none
        |none=>none
       |some (.struct _)=>if cs.length=len/\g.size=1 then some ⟨some (0<=i/\i<len),.agg ⟨[YW cs i]⟩⟩ else none
       | _=>none
    |none=>none
   |some .string,some (.string s),some (.int _ i)=>some ⟨some (0<=i/\i<s.size),.int .u8 (XF s i)⟩
   | _, _, _=>none
 | .makeFunc fn first q=>match maps ρ first.toList,maps ρ q.toList with
   |some a,some b=>some ⟨none,.func fn ⟨a⟩ ⟨b⟩⟩
   | _, _=>none
 | .extract x i=>match ρ x with
   |some (.tuple ⟨vs⟩)=>match vs[i]? with
    |some v=>some ⟨none,v⟩
    |none=>none
   | _=>none
 | .build t parts=>match A6 ρ parts.toList with
   |some ps=>match GQ P t ps with
    |some cs=>some ⟨none,.agg cs⟩
    |none=>none
   |none=>none
 | .slice t x lo hi mx=>match P.underlying t,ρ x with
   |some (.slice e),some (.slice p len cap)=>match P.info? e,iK ρ 0 lo,iK ρ len hi,iK ρ cap mx with
    |some g,some l,some h,some m=>if hi.isNone&&mx.isSome then none else
     some ⟨some (0<=l/\l<=h/\h<=m/\m<=cap),.slice (if m.toNat=l.toNat then p else ad p (l.toNat*g.size)) (h.toNat - l.toNat) (m.toNat - l.toNat)⟩
    | _, _, _, _=>none
   |some .string,some (.string s)=>match iK ρ 0 lo,iK ρ s.size hi with
    |some l,some h=>if mx.isSome then none else some ⟨some (0<=l/\l<=h/\h<=s.size),.string (s.extract l.toNat h.toNat)⟩
    | _, _=>none
   | _, _=>none
 | .call c=>match c.callee with
   | .builtin .len=>match c.args.toList,c.argTypes.toList with
     |[x],[t]=>match ρ x,P.underlying t with
      |some (.slice _ n _),some (.slice _)=>some ⟨none,.int .i64 n⟩
      |some (.string s),some .string=>some ⟨none,.int .i64 s.size⟩
      |some (.agg _),some (.array n _)=>some ⟨none,.int .i64 n⟩
      | _, _=>none
     | _, _=>none
   | .builtin .min=>match c.args.toList with
     |[x,y]=>match ρ x,ρ y with
      |some (.int k a),some (.int _ b)=>some ⟨none,.int k (kK a b)⟩
      | _, _=>none
     | _=>none
   | .builtin .max=>match c.args.toList with
     |[x,y]=>match ρ x,ρ y with
      |some (.int k a),some (.int _ b)=>some ⟨none,.int k (DX a b)⟩
      | _, _=>none
     | _=>none
   | _=>none
 | _=>none
section
variable {P:AM}
theorem bE {t:AL} {d:TypeDesc} (h:P.underlying t=some d) (w:A1):(underlying t).run P w= .ok d w:=run_underlying h w
theorem fK {t:AL} {i:TypeInfo} (h:P.info? t=some i) (w:A1):(typeInfo t).run P w= .ok i w:=by
 unfold typeInfo;simp[h]
theorem dw {t:AL} {i:TypeInfo} (h:P.info? t=some i) (w:A1):(sizeOf t).run P w= .ok i.size w:=by
 unfold sizeOf;simp[fK h]
theorem vl {t:AL} {b:Bool} (h:kj P t=some b) (w:A1):(isAgg t).run P w= .ok b w:=by
 unfold kj at h;unfold isAgg;cases a:P.underlying t with
 |none=>grind
 |some d=>cases d<;>simp_all [bE]
theorem kR {t:AL} {cs:List A2} {off:Nat} {v:A2} (h:qS P t cs off=some v) (w:A1):(part t ⟨cs⟩ off).run P w= .ok v w:=by
 unfold qS at h;unfold part;cases hb:kj P t with
 |none=>grind
 |some b=>
  simp[vl hb];cases b with
  |true=>
   cases hi:P.info? t with
   |none
   |some i=>
    simp_all[dw]
  |false=>
   simp_all
theorem Jh: ∀(d:Nat) (t:AL) (x y:A2) (r:Bool),eqV P d t x y=some r-> ∀w,(B5 d t x y).run P w= .ok r w:=by
 intro d
 induction d with
 |zero=>intro t x y r h;simp[eqV] at h
 |succ d j=>
  intro t x y r h w;unfold eqV at h;split at h
  ·rename_i c;split at h
   ·cases h;simp[B5,bE c]
   ·cases h
  ·rename_i k0 c;split at h
   ·split at h
    ·cases h;subst_vars;simp[B5,bE c]
    ·cases h
   ·cases h
  ·rename_i c;split at h
   ·cases h;simp[B5,bE c]
   ·cases h
  ·rename_i fs c;split at h
   ·rename_i xs ys;split at h
    ·cases h
    ·rename_i hs;have e:P.fieldsOf t=fs:=by simp[Program.fieldsOf,c]
     rw[run_equalIn_struct w d t ⟨xs⟩ ⟨ys⟩ (by rw[e];exact c) (by simpa using hs),e];clear c e;generalize fs.toList=l at h
     induction l generalizing r with
     |nil=>simp only[Ox,DA] at h;subst h;simp[Op.eqFields]
     |cons f l i=>
      simp only[Ox] at h;unfold Op.eqFields;split
      ·rename_i g;rw[if_pos g] at h;split at h
       ·rename_i a b k hb;split at h
        ·rename_i m o h1 n;cases h;simp only[AY,kR k,kR hb,Ax,j _ _ _ _ h1];cases m
         ·simp
         ·simp[i _ n]
        ·cases h
       ·cases h
      ·rename_i g;rw[if_neg g] at h;exact i _ h
   ·cases h
  ·cases h
end
section
variable {P:AM} {ρ:Operand->Option A2} {ev:Operand->A2}
theorem mi (a: ∀x v,ρ x=some v->ev x=v): ∀{l:List Operand} {vs:List A2},maps ρ l=some vs->l.map ev=vs
 |[],vs,h=>by grind[maps]
 |x::r,vs,h=>by
  simp[maps] at h;split at h
  ·rename_i h1 b;cases h;simp[a _ _ h1,mi a b]
  grind
theorem y_ (a: ∀x v,ρ x=some v->ev x=v): ∀{l:List (Nat×Operand)} {vs:List (Nat×A2)},A6 ρ l=some vs->(l.map λ(i,x)=>(i,ev x))=vs
 |[],vs,h=>by grind[A6]
 |i::r,vs,h=>by
  simp[A6] at h;split at h
  ·rename_i b;have:=y_ a b
   grind
  grind
theorem xE (op:BinOp) (t:AL) (x y:Operand) (k c:B1) (a b:Int) (w:A1):(eqGuard op t x y (.int k a) (.int c b)).run P w= .ok () w:=by
 unfold eqGuard;simp
theorem Bi {t:AL} (c:P.underlying t=some .bool) (d:Nat) (a b:Bool) (w:A1):(B5 (d+1) t (.bool a) (.bool b)).run P w= .ok (a==b) w:=by
 simp[B5,bE c]
theorem se {t e:AL} (a:P.underlying t=some (.pointer e)) (d:Nat) (p:Option AC) (w:A1):(B5 (d+1) t (.pointer p) (.pointer none)).run P w= .ok p.isNone w:=by
 cases p<;>simp[B5,bE a]
theorem nZ {t e:AL} (a:P.underlying t=some (.pointer e)) (d:Nat) (p:Option AC) (w:A1):(B5 (d+1) t (.pointer none) (.pointer p)).run P w= .ok p.isNone w:=by
 cases p<;>simp[B5,bE a]
theorem uf {t e:AL} (a:P.underlying t=some (.slice e)) (d:Nat) (p:Option AC) (n c b f:Nat) (w:A1):(B5 (d+1) t (.slice p n c) (.slice none b f)).run P w= .ok p.isNone w:=by
 cases p<;>simp[B5,bE a]
theorem ug {t e:AL} (a:P.underlying t=some (.slice e)) (d:Nat) (p:Option AC) (n c b f:Nat) (w:A1):(B5 (d+1) t (.slice none b f) (.slice p n c)).run P w= .ok p.isNone w:=by
 cases p<;>simp[B5,bE a]
theorem zH {t k e:AL} (a:P.underlying t=some (.map k e)) (d:Nat) (p:Option Nat) (w:A1):(B5 (d+1) t (.map p) (.map none)).run P w= .ok p.isNone w:=by
 cases p<;>simp[B5,bE a]
theorem zI {t k e:AL} (a:P.underlying t=some (.map k e)) (d:Nat) (p:Option Nat) (w:A1):(B5 (d+1) t (.map none) (.map p)).run P w= .ok p.isNone w:=by
 cases p<;>simp[B5,bE a]
theorem eK {t:AL} {x y:A2} {r:Bool} {w:A1} (h: ∀d,(B5 (d+1) t x y).run P w= .ok r w):(Op.equal t x y).run P w= .ok r w:=h _
theorem UG {op:BinOp} {t:AL} {i e:Operand} {x y:A2} {pr:PR} (j: ∀v,e= .const v->y=v) (hx: ∀v,i= .const v->x=v)
 (h:YV P op t i e x y=some pr) (l: ∀p,pr.ob=some p->p) (w:A1):
 (do eqGuard op t i e x y;binOp op t x y).run P w= .ok pr.v w:=by
 unfold YV at h;split at h
 ·
  rename_i k a C b;simp only[AY,xE,Ax];have z:pE e=true->b≠0:=by
   intro hc;unfold pE at hc;split at hc
   ·rename_i A n;have:=j _ rfl;cases this;simpa using hc
   ·cases hc
  have s:p_ e=true->0<=b:=by
   intro hc;unfold p_ at hc;split at hc
   ·rename_i A n;have:=j _ rfl;cases this;simpa using hc
   ·cases hc
  split at h
  ·cases h;have h0:0<=b:=by
    by_cases hc:p_ e=true
    ·exact s hc
    ·exact l (0<=b) (by simp[hc])
   simp[binOp,Op.shift,DW,Int.not_lt.2 h0]
  ·cases h;have h0:0<=b:=by
    by_cases hc:p_ e=true
    ·exact s hc
    ·exact l (0<=b) (by simp[hc])
   simp[binOp,Op.shift,KH,Int.not_lt.2 h0]
  ·rename_i D E;split at h
   ·subst_vars
    cases op<;>simp only[Pe] at h<;>(try cases h)<;>
     first
      |(simp[binOp,Op.intArith,aH,aX,gq];done)
      |(simp[binOp,Op.intBits,ny,orI,aaL,gN];done)
      |(simp[binOp,Op.intCmp];done)
      |(have h0:b≠0:=by
         by_cases hc:pE e=true
         ·exact z hc
         ·exact l (b≠0) (by simp[hc])
        simp[binOp,Op.intDiv,h0,xm,dz])
   ·cases h
 ·
  rename_i a b;split at h
  ·rename_i c;cases h;simp[eqGuard,binOp,eK λd=>Bi c d a b w]
  ·rename_i c;cases h;simp[eqGuard,binOp,eK λd=>Bi c d a b w]
  ·cases h
 ·
  rename_i p q;have f:kL e=true->q=none:=by
   intro hc;unfold kL at hc;split at hc<;>first|(have:=j _ rfl;cases this<;>rfl)|(cases hc)
  have g:kL i=true->p=none:=by
   intro hc;unfold kL at hc;split at hc<;>first|(have:=hx _ rfl;cases this<;>rfl)|(cases hc)
  split at h
  ·rename_i c;split at h
   ·rename_i hc;cases h;rw[f hc];simp[eqGuard,binOp,eK λd=>se c d p w]
   ·split at h
    ·rename_i hc;cases h;rw[g hc];simp[eqGuard,binOp,eK λd=>nZ c d q w]
    ·cases h
  ·rename_i c;split at h
   ·rename_i hc;cases h;rw[f hc];simp[eqGuard,binOp,eK λd=>se c d p w]
   ·split at h
    ·rename_i hc;cases h;rw[g hc];simp[eqGuard,binOp,eK λd=>nZ c d q w]
    ·cases h
  ·cases h
 ·
  rename_i p _ _ q _ _;have f:kL e=true->q=none:=by
   intro hc;unfold kL at hc;split at hc<;>first|(have:=j _ rfl;cases this<;>rfl)|(cases hc)
  have g:kL i=true->p=none:=by
   intro hc;unfold kL at hc;split at hc<;>first|(have:=hx _ rfl;cases this<;>rfl)|(cases hc)
  split at h
  ·rename_i c;split at h
   ·rename_i hc;cases h;rw[f hc];simp[eqGuard,binOp,eK λd=>uf c d p _ _ _ _ w]
   ·split at h
    ·rename_i hc;cases h;rw[g hc];simp[eqGuard,binOp,eK λd=>ug c d q _ _ _ _ w]
    ·cases h
  ·rename_i c;split at h
   ·rename_i hc;cases h;rw[f hc];simp[eqGuard,binOp,eK λd=>uf c d p _ _ _ _ w]
   ·split at h
    ·rename_i hc;cases h;rw[g hc];simp[eqGuard,binOp,eK λd=>ug c d q _ _ _ _ w]
    ·cases h
  ·cases h
 ·
  rename_i p q;have f:kL e=true->q=none:=by
   intro hc;unfold kL at hc;split at hc<;>first|(have:=j _ rfl;cases this<;>rfl)|(cases hc)
  have g:kL i=true->p=none:=by
   intro hc;unfold kL at hc;split at hc<;>first|(have:=hx _ rfl;cases this<;>rfl)|(cases hc)
  split at h
  ·rename_i c;split at h
   ·rename_i hc;cases h;rw[f hc];simp[eqGuard,binOp,eK λd=>zH c d p w]
   ·split at h
    ·rename_i hc;cases h;rw[g hc];simp[eqGuard,binOp,eK λd=>zI c d q w]
    ·cases h
  ·rename_i c;split at h
   ·rename_i hc;cases h;rw[f hc];simp[eqGuard,binOp,eK λd=>zH c d p w]
   ·split at h
    ·rename_i hc;cases h;rw[g hc];simp[eqGuard,binOp,eK λd=>zI c d q w]
    ·cases h
  ·cases h
 ·
  rename_i a b;split at h
  ·cases h;simp[eqGuard,binOp,Op.stringOp,beq_toListBytes]
  ·cases h;simp[eqGuard,binOp,Op.stringOp,beq_toListBytes]
  ·cases h
 ·
  rename_i xs ys;split at h
  ·cases h
  ·rename_i hg;have B:P.eqGuardType P.depth t=false:=by simpa using hg
   have u: ∀op:BinOp,(eqGuard op t i e (.agg xs) (.agg ys)).run P w= .ok () w:=by
    intro op;unfold eqGuard;cases op<;>simp[B]
   split at h
   ·rename_i r m;cases h;simp only[AY,u,Ax];have o:(Op.equal t (.agg xs) (.agg ys)).run P w= .ok r w:=Jh (P:=P) _ _ _ _ _ m w;simp[binOp,o]
   ·rename_i r m;cases h;simp only[AY,u,Ax];have o:(Op.equal t (.agg xs) (.agg ys)).run P w= .ok r w:=Jh (P:=P) _ _ _ _ _ m w;simp[binOp,o]
   ·cases h
 ·cases h
end
section
variable {P:AM} {ρ:Operand->Option A2} {ev:Operand->A2}
theorem zJ: ∀{cs:List A2} {k:B1} {a:List Int},CQ cs k=some a-> ∀i,i<cs.length->cs[i]? =some (.int k (a.getD i 0))
 |c::cs,k,a,h,i,hi=>by
  unfold CQ at h;split at h
  grind
  ·rename_i e n r f b;cases b;split at h
   ·subst_vars
    split at h
    ·rename_i l d;cases h;cases i with
     |zero=>simp
     |succ i=>simpa using zJ d i (by grind)
    grind
   ·cases h
  ·cases h
theorem v9 {t:AL} {f:Nat} {fd:Field} (a:xM P t f=some fd): ∃fs,P.underlying t=some (.struct fs)/\fs[f]? =some fd:=by
 grind[xM]
theorem Fx {t e:AL} {a:TypeInfo} (p:AC) (k:B1) (i:Int) (len:Nat) (c: ¬ len<=1) (b:P.underlying t=some (.array len e)) (hi:P.info? e=some a) (h0:0<=i) (h1:i<len) (w:A1):
 (H6 t (.pointer (some p)) (.int k i)).run P w= .ok (.pointer (some (p.add (i.toNat*a.size)))) w:=by
 simp[H6,asIntOf,H7,bE b,dw hi,h0,h1]
theorem run_indexAt_slice {t e:AL} {a:TypeInfo} (p:AC) (k:B1) (i:Int) (len cap:Nat) (b:P.underlying t=some (.slice e)) (hi:P.info? e=some a) (h0:0<=i) (h1:i<len) (w:A1):
 (H6 t (.slice (some p) len cap) (.int k i)).run P w= .ok (.pointer (some (p.add (i.toNat*a.size)))) w:=by
 simp[H6,asIntOf,bE b,dw hi,h0,h1]
theorem fi {α:Type} {p:Option α} (h:p.isSome=true): ∃a,p=some a:=Option.isSome_iff_exists.1 h
theorem kS (a: ∀x v,ρ x=some v->ev x=v) {d:Nat} {x:Operand} {n:Int} (h:iK ρ d (some x)=some n): ∃k,ev x= .int k n:=by grind[iK]
theorem run_sliceBound (k:B1) (n:Int) (y:Nat) (c:BoundsCode) (h0:0<=n) (h1:n<=y) (w:A1):(Pp (.int k n) y c).run P w= .ok n.toNat w:=by
 simp[Pp,asIntOf,h0,h1]
theorem ou (b: ∀x v,ρ x=some v->ev x=v) {isS:Bool} {len cap:Nat} {lo hi mx:Option Operand} {l h m:Int}
 (a:iK ρ 0 lo=some l) (c:iK ρ len hi=some h) (g:iK ρ cap mx=some m) (hx: ¬ (hi.isNone=true/\mx.isSome=true))
 (h0:0<=l) (h1:l<=h) (n:h<=m) (o:m<=cap) (w:A1):
 (Ps isS len cap (lo.map ev) (hi.map ev) (mx.map ev)).run P w= .ok (l.toNat,h.toNat,m.toNat) w:=by
 unfold Ps;have a1:h<=((m.toNat:Nat):Int):=by omega
 have p:l<=((h.toNat:Nat):Int):=by omega
 have i:0<=h:=by omega
 have q:0<=m:=by omega
 cases mx with
 |none=>
  simp only[iK,DA] at g;subst g;have j:h<=(cap:Int):=n;cases hi with
  |none=>
   simp only[iK,DA] at c;subst c;cases lo with
   |none=>simp only[iK,DA] at a;subst a;simp
   |some x=>obtain⟨k,d⟩:=kS b a;simp[d,run_sliceBound k l len _ h0 h1]
  |some y=>
   obtain⟨e,f⟩:=kS b c;cases lo with
   |none=>simp only[iK,DA] at a;subst a;cases isS<;>simp[f,run_sliceBound e h cap _ i j]
   |some x=>obtain⟨k,d⟩:=kS b a;cases isS<;>simp[d,f,run_sliceBound e h cap _ i j,run_sliceBound k l h.toNat _ h0 p]
 |some z=>
  obtain⟨r,s⟩:=kS b g;cases hi with
  |none=>simp at hx
  |some y=>
   obtain⟨e,f⟩:=kS b c;cases lo with
   |none=>simp only[iK,DA] at a;subst a;cases isS<;>simp[f,s,run_sliceBound r m cap _ q o,run_sliceBound e h m.toNat _ i a1]
   |some x=>obtain⟨k,d⟩:=kS b a;simp_all[run_sliceBound]
theorem Qi {s:ByteArray} {i:Int} (h0:0<=i) (h1:i<s.size):s[i.toNat]? =some (s.data[i.toNat]?.getD 0):=by
 simp_all
 rfl
theorem run_places: ∀(l:List Field),(l.all λf=>(P.info? f.type).isSome)=true-> ∀w:A1,
 (l.mapM (m:=Sem) λf=>do pure (f.offset, <-sizeOf f.type)).run P w= .ok (l.map λf=>(f.offset,P.cellsOf f.type)) w
 |[], _,w=>by rfl
 |f::l,h,w=>by
  simp only[I2,Bf] at h;obtain⟨i,hi⟩:=fi h.1;have hs:P.cellsOf f.type=i.size:=by simp[Program.cellsOf,hi]
  have a:=run_places l
  simp_all[dw]
theorem Qj {t:AL} {parts:Array (Nat×A2)} {ps:List (Nat×A2)} {cs:Array A2} (e:parts.toList=ps) (h:GQ P t ps=some cs) (w:A1):
 (Instr.build t parts).run P w= .ok (.agg cs) w:=by
 unfold GQ at h;split at h
 ·rename_i i hi;split at h
  ·rename_i z b;unfold Instr.build zeroValue;simp only[AY,fK hi,Ax,b,Ay];split at h
   ·rename_i fs a;split at h
    ·rename_i c;have f:=run_places (P:=P) fs.toList (by simpa using c) w
     simp_all[KC,y9,bE]
    ·cases h
   ·rename_i n el a;split at h
    ·rename_i g d;simp only[bE a,Ax,AY,dw d,e,y9 h];rfl
    ·cases h
   ·cases h
  ·cases h
 ·cases h
theorem Pf {o:Oper} {pr:PR} (g: ∀x v,ρ x=some v->ev x=v) (hc: ∀v,ev (.const v)=v) (h:pop P ρ o=some pr) (r: ∀p,pr.ob=some p->p) (w:A1):
 (execOp ev o).run P w= .ok (.value pr.v) w:=by
 obtain⟨dst,op,type,pos,after,guard⟩:=o;unfold pop at h;cases op<;>simp only at h<;>(try (cases h;done))<;>unfold execOp<;>simp only
 case move x=>
  split at h
  ·rename_i v hv;cases h;simp[g _ _ hv]
  ·cases h
 case assign x=>
  split at h
  ·rename_i v hv;cases h;simp[g _ _ hv]
  ·cases h
 case build t parts=>
  split at h
  ·rename_i ps Q;split at h
   ·rename_i cs eA;cases h;have e:=y_ g Q;have e':(parts.map λ(i,x)=>(i,ev x)).toList=ps:=by rw[<-e];simp
    simp[Qj e' eA]
   ·cases h
  ·cases h
 case nilCheck x=>
  split at h
  ·rename_i p hv;cases h;obtain⟨a,rfl⟩:=fi (r _ rfl);simp[g _ _ hv]
  ·rename_i f fs cs hv;cases h;simp[g _ _ hv]
  ·cases h
 case binOp op t x y yt=>
  split at h
  ·rename_i a b q hb;have R:=UG (P:=P) (λv hv=>by rw[<-g _ _ hb,hv,hc]) (λv hv=>by rw[<-g _ _ q,hv,hc]) h r w;simp only[g _ _ q,g _ _ hb];rw[AY,R];rfl
  ·cases h
 case unOp op t x=>
  split at h
  ·rename_i a q;simp only[g _ _ q];unfold unV at h;split at h<;>(try cases h)<;>simp[Op.unary,Op.intArith,Op.intBits,aX,aaM]
  ·cases h
 case convert s d x=>
  split at h
  ·rename_i a q;simp only[g _ _ q];unfold XE at h;split at h
   ·rename_i ds k k' n h1 z;cases h;cases ds<;>simp[convert,bE h1,bE z,Conv.intToInt,aE]
   ·rename_i z G;cases h;simp[convert,bE z,bE G]
   ·cases h
  ·cases h
 case makeFunc fn first N=>
  split at h
  ·rename_i a b q hb;cases h;have H:=mi g q;have S:=mi g hb;have T:first.map ev=⟨a⟩:=by rw[<-H];cases first;simp
   have U:N.map ev=⟨b⟩:=by rw[<-S];cases N;simp
   simp[Instr.makeFunc,T,U]
  ·cases h
 case slice t x lo hi mx=>
  split at h
  ·rename_i e p len cap j hx;split at h
   ·rename_i B l V m W C I X;split at h
    ·cases h
    ·rename_i O;cases h;obtain⟨h0,h1,z,G⟩:=r _ rfl;have Y: ¬ (hi.isNone=true/\mx.isSome=true):=by simpa using O
     have hb:=ou (P:=P) (isS:=true) g C I X Y h0 h1 z G w;simp only[g _ _ hx];simp[Rg,bE j,Instr.slice,hb,dw W,ad]
   ·cases h
  ·rename_i s j hx;split at h
   ·rename_i l V C I;split at h
    ·cases h
    ·rename_i O;cases h;obtain⟨h0,h1,z⟩:=r _ rfl;have Z:mx=none:=by cases mx<;>simp_all
     subst Z;have hb:=ou (P:=P) (isS:=false) (cap:=s.size) (mx:=none) g C I rfl (by simp) h0 h1 z (by simp) w;simp only[T3] at hb;simp only[g _ _ hx];simp[Rg,bE j,Instr.slice,hb]
   ·cases h
  ·cases h
 case fieldAddr s x f=>
  split at h
  ·rename_i p fd hx J;split at h
   ·rename_i i hi;split at h
    ·cases h
    ·rename_i hz;cases h;obtain⟨a,rfl⟩:=fi (r _ rfl);obtain⟨fs,j,K⟩:=v9 J;simp[Instr.fieldAt,bE j,K,g _ _ hx,H7,fieldPlace,dw hi,hz,ad]
   ·cases h
  ·cases h
 case field t x f=>
  split at h
  ·rename_i cs fd hx J;split at h
   ·rename_i v hv;cases h;obtain⟨fs,j,K⟩:=v9 J;simp[Instr.field,bE j,K,g _ _ hx,asAgg,kR hv]
   ·cases h
  ·cases h
 case indexAddr t x ix=>
  split at h
  ·rename_i len e p k i j hx u;split at h
   ·rename_i B hi;split at h
    ·cases h
    ·rename_i C;cases h;obtain⟨A,h0,h1⟩:=r _ rfl;obtain⟨a,rfl⟩:=fi A;simp[g _ _ hx,g _ _ u,Fx a k i len C j hi h0 h1,ad]
   ·cases h
  ·rename_i e p len cap k i j hx u;split at h
   ·rename_i B hi;cases h;obtain⟨A,h0,h1⟩:=r _ rfl;obtain⟨a,rfl⟩:=fi A;simp[g _ _ hx,g _ _ u,run_indexAt_slice a k i len cap j hi h0 h1,ad]
   ·cases h
  ·cases h
 case index t x ix=>
  split at h
  ·rename_i len e cs k i j hx u;split at h
   ·rename_i B hi;split at h
    ·rename_i k2 n;have hn:(Value.int k2 n)= .int k i:=by rw[<-g _ _ u,hc]
     cases hn;split at h
     ·rename_i hb;split at h
      ·rename_i v hv;cases h;simp[HB,asIntOf,bE j,g _ _ hx,hc,hb.1,hb.2,dw hi,kR hv]
      ·cases h
     ·cases h
    ·split at h
     ·rename_i k3 L;split at h
      ·rename_i ns hns;split at h
       ·rename_i E;cases h;obtain⟨h0,h1⟩:=r _ rfl;have F:i.toNat<cs.length:=by omega
        have jA:=zJ hns i.toNat F;have A:qS P e cs (i.toNat*B.size)=some (.int k3 (KI ns i)):=by
         rw[E.2,Nat.mul_one];unfold qS;have:kj P e=some false:=by unfold kj;simp[L]
         simp[this,jA,KI]
        simp[HB,asIntOf,bE j,g _ _ hx,g _ _ u,h0,h1,dw hi,kR A]
       ·cases h
      ·cases h
     ·rename_i fs L;split at h
      ·rename_i E;cases h;obtain⟨h0,h1⟩:=r _ rfl;have F:i.toNat<cs.length:=by omega
       have A:qS P e cs (i.toNat*B.size)=some (.agg ⟨[YW cs i]⟩):=by
        rw[E.2,Nat.mul_one];unfold qS;have:kj P e=some true:=by unfold kj;simp[L]
        simp only[this,hi,E.2,YW];have H:List.take 1 (List.drop i.toNat cs)=[cs.getD i.toNat undef]:=by
         rw[List.drop_eq_getElem_cons F,List.getD_eq_getElem?_getD,IM F];rfl
        rw[H]
       simp[HB,asIntOf,bE j,g _ _ hx,g _ _ u,h0,h1,dw hi,kR A]
      ·cases h
     ·cases h
   ·cases h
  ·rename_i s k i j hx u;cases h;obtain⟨h0,h1⟩:=r _ rfl;have hg:=Qi h0 h1;simp[HB,asIntOf,bE j,g _ _ hx,g _ _ u,h0,hg,XF]
  ·cases h
 case extract x i=>
  split at h
  ·rename_i vs hx;split at h
   ·rename_i v hv;cases h;simp[g _ _ hx,Hb,hv]
   ·cases h
  ·cases h
 case call c=>
  obtain⟨callee,args,argTypes⟩:=c;simp only at h;split at h
  ·
   split at h
   ·rename_i x t q ht;have D:args= #[x]:=by cases args;simp_all
    have et:argTypes= #[t]:=by cases argTypes;simp_all
    subst D et;split at h<;>(try cases h)
    ·rename_i hx j;simp[resolve,invoke,builtin,GH,g _ _ hx,bE j,goInt]
    ·rename_i hx j;simp[resolve,invoke,builtin,GH,g _ _ hx,bE j,goInt]
    ·rename_i hx j;simp[resolve,invoke,builtin,GH,g _ _ hx,bE j,goInt]
   ·cases h
  ·
   split at h
   ·rename_i x y q;have D:args= #[x,y]:=by cases args;simp_all
    subst D;split at h<;>(try cases h);rename_i hx M;simp[resolve,invoke,builtin,Builtin.min_,Builtin.min2,g _ _ hx,g _ _ M,kK]
   ·cases h
  ·split at h
   ·rename_i x y q;have D:args= #[x,y]:=by cases args;simp_all
    subst D;split at h<;>(try cases h);rename_i hx M;simp[resolve,invoke,builtin,Builtin.max_,Builtin.max2,g _ _ hx,g _ _ M,DX]
   ·cases h
  ·cases h
end
structure bR where
 t:Nat
 ch:List (Nat×Bool)
 g:Option Bool
 v:A2
 k:Option Bool
def b_:List bR->Nat->Option bR
 |[], _=>none
 |e::r,t=>if e.t=t then some e else b_ r t
structure Entry (P:AM) where
 f:B2
 fn:List A2->Option (Prop×A2)
 ok: ∀args pre v,fn args=some (pre,v)->pre-> ∀w,Calls P f ⟨args⟩ w (λe w'=>e= .returned v/\Ext w w')
structure dM (P:AM) where
 sM:List (Entry P)
 quiet:List B2
 sh:List (B2×Sh)
 mixed:P.follows .mixedOrders=true
 vN:Bool:=false
 cl:List (AL×Sc):=[]
 dyn:Option Sh:=none
def Ph:List (B2×Sh)->B2->Option Sh
 |[], _=>none
 |(g,s)::r,f=>if g=f then some s else Ph r f
def uX {P:AM} (C:dM P) (f:B2):Sh:=
 match Ph C.sh f with
 |some s=>s
 |none=>abj P f
def Pj:List (AL×Sc)->AL->Option Sc
 |[], _=>none
 |(g,s)::r,t=>if g=t then some s else Pj r t
def elC {P:AM} (C:dM P) (t:AL):Option El:=
 match u0 P t with
 |some (.one .func)=>match Pj C.cl t with
  |some s=>some (.one s)
  |none=>some (.one .func)
 |e=>e
def yA {P:AM}:List (Entry P)->B2->Option (Entry P)
 |[], _=>none
 |e::r,f=>if e.f=f then some e else yA r f
def db (first:Array A2) (adq:List A2) (cap:Array A2):List A2:=first.toList++(adq++cap.toList)
def bM (P:AM) (a:B2):Bool:=
 match P.funcs[a]? with
 |some fn=>fn.body.isSome&& !(fn.name== "runtime.NumGoroutine")
 |none=>false
def ae (P:AM) (f:B2) (args:List A2) (w:A1) (v:A2):Prop:=
 ∀w',Ext w w'->Calls P f ⟨args⟩ w' (λe a=>e= .returned v/\Ext w' a)
def aD (P:AM) (f:B2) (s:Sh) (args:List A2) (w:A1) (R:s.T->A1->Prop):Prop:=
 Calls P f ⟨args⟩ w (λe w'=> ∃x:s.T,e= .returned (s.ia x)/\R x w')
theorem aD.mono {P:AM} {f:B2} {s:Sh} {args:List A2} {w:A1} {R a:s.T->A1->Prop} (h:aD P f s args w R) (k: ∀x w',R x w'->a x w'):aD P f s args w a:=
 F5 h (by grind)
def dC (_:Nat) (_:Op):Prop:=False
def cL (w:A1) (p:Option AC):(e:El)->e.T->Prop
 | .one s,x=> ∃a,p=some a/\w.cell? a=some (s.ia x)
 | .agg l,x=> ∃a,p=some a/\ ∀i,i<l.length->w.cell? (a.add i)=(bh l x)[i]?
def qa:El->Nat->Bool
 | .one _, _=>false
 | .agg l,n=>l.length != n
def oQ (w:A1) (p:Option AC) (n:Nat) (vs:List A2):Prop:=
 match p with
 |none=>vs=[]
 |some a=>vs.length=n/\ ∀i,i<n->w.cell? (a.add i)=vs[i]?
def Ur (w:A1) (p:Option AC) (n:Nat):Prop:=
 ∃a,p=some a/\ ∀i,i<n->(w.cell? (a.add i)).isSome=true/\w.frozen? (a.add i)=false
def putAt (w:A1) (a:AC):List A2->Nat->A1
 |[], _=>w
 |v::r,i=>putAt (w.setCell (a.add i) v) a r (i+1)
def jB (w:A1) (p:Option AC) (vs:List A2):A1:=
 match p with
 |some a=>putAt w a vs 0
 |none=>w
def mH (w:A1) (e:AL) (size bytes:Nat) (z:Array A2) (s x:Option AC×Nat×Nat) (R:Option AC×Nat×Nat->A1->Prop):Prop:=
 ∃fW new,oQ w s.1 (s.2.1*size) fW/\oQ w x.1 (x.2.1*size) new/\
  (s.2.1+x.2.1<=s.2.2->(new=[]\/(Ur w (s.1.map (·.add (s.2.1*size))) new.length/\new.all (·.oneCell')=true))/\
   R (s.1,s.2.1+x.2.1,s.2.2) (jB w (s.1.map (·.add (s.2.1*size))) new))/\
  (s.2.2<s.2.1+x.2.1->S2 (s.2.1+x.2.1) s.2.2*bytes<=2 ^ 48/\
   ∀c,s.2.1+x.2.1<=c->R (some ⟨w.heap.size,0,none⟩,s.2.1+x.2.1,c) (w.drew.alloc (.cells (⟨fW⟩++⟨new⟩++GI z (c - (s.2.1+x.2.1))) e)))
def cpR (w:A1) (size:Nat) (d x:Option AC×Nat) (R:Int->A1->Prop):Prop:=
 ∃new,oQ w x.1 (Nat.min x.2 d.2*size) new/\(d.1=none\/new=[]\/(Ur w d.1 new.length/\new.all (·.oneCell')=true))/\R (Nat.min x.2 d.2:Nat) (jB w d.1 new)
def mz (P:AM) (l:Nat) (args:List A2) (w:A1) (R:Bool->A1->Prop):Prop:=
 ∃rec,w.heap[l]? =some (.loop rec)/\args.length=rec.params.size/\
  RoundIn DY 0 P l rec.fn ((rec.params.zip ⟨args⟩).foldl (λtmps (t,a)=>tmps.setIfInBounds t a) rec.tmps) rec.assign rec.body w
   (λe w'=> ∃b,e= .returned (.bool b)/\R b w')
def gF (g:Option Bool) (p:Prop):Prop:=
 match g with
 |none=>p
 |some b=>b=true->p
@[reducible] def aj (w:A1) (g:Option Bool) (p:Option AC) (el:El) (K:el.T->Prop):Prop:= ∃x:el.T,gF g (cL w p el x)/\K x
@[reducible] def aC (w:A1) (p:Option AC) (vs:List A2) (K:A1->Prop):Prop:= ∀w1,Ext w w1->(vs.all (·.oneCell')=true/\Ur w1 p vs.length)/\K (jB w1 p vs)
@[reducible] def aM (w:A1) (cs:Array A2) (e:AL) (K:Nat->A1->Prop):Prop:= ∀w1,Ext w w1->K w1.heap.size (w1.alloc (.cells cs e))
def aA (P:AM) (f:B2) (s:Sh) (args:List A2) (w:A1) (K:s.T->A1->Prop):Prop:= ∀w1,Ext w w1->aD P f s args w1 K
def aaO (bytes:Nat) (n m:Int):Prop:=0<=n/\n<=m/\m<2 ^ 63/\bytes*m<=2 ^ 48
def nP (z:Array A2) (n:Nat):Array A2:=(Array.range n).map ((if n=0 then #[] else z)[· % (if n=0 then #[] else z).size]!)
def Ak (P:AM) (v:A2) (s:Sh) (adq:List A2) (w:A1) (K:s.T->A1->Prop):Prop:=
 ∀w1,Ext w w1-> ∃a first cap,v= .func (.func a) first cap/\bM P a=true/\aD P a s (db first adq cap) w1 K
def Od (w:A1) (bytes size:Nat) (n m:Int) (z:Array A2) (e:AL) (K:Nat->A1->Prop):Prop:= ∀w1,Ext w w1->aaO bytes n m/\K w1.heap.size (w1.alloc (.cells (nP z (m.toNat*size)) e))
@[reducible] def au (w:A1) (K:A1->Prop):Prop:= ∀w1,Ext w w1->K w1
def YX (a b:List (Nat×Bool)):Bool:=a.all λx=>b.contains x
def yg (env:List bR) (ch:List (Nat×Bool)):Operand->Option A2
 | .tmp t=>match b_ env t with
   |some ⟨_,c, _,v, _⟩=>if YX c ch then some v else none
   |none=>none
 | .const v=>some v
 | .global g=>some (.pointer (some ⟨g,0,none⟩))
 | .func f=>some (.func (.func f) #[] #[])
def dI (ops:Array Oper) (j:Nat):Option Nat:=(ops[j]?).bind (·.dst)
def lit:Bool->Bool->Bool
 |true,x=>x
 |false,x=> !x
def acj (b:Bool):Option Bool->Option Bool
 |none=>some b
 |some g=>some (g&&b)
def gd (ops:Array Oper) (env:List bR) (o:Oper):Option (Option (List (Nat×Bool)×Option Bool)):=
 match o.guard with
 |none=>some (some ([],none))
 |some (j,b)=>match dI ops j with
  |some d=>match b_ env d with
   |some e=>match e.k with
    |some a=>if a=b then some (some ([],none)) else some none
    |none=>match e.v with
     | .bool x=>some (some ((j,b)::e.ch,acj (lit b x) e.g))
     | _=>none
   |none=>none
  |none=>none
def settle (j:Nat) (b:Bool) (e:bR):bR:=
 if e.ch.contains (j, !b) then⟨e.t,[],none,undef,none⟩
 else if e.ch.contains (j,b) then
  match e.ch.filter (λx=>x != (j,b)) with
  |[]=>⟨e.t,[],none,e.v,none⟩
  |c::r=>⟨e.t,c::r,e.g,e.v,none⟩
 else e
def oZ (ops:Array Oper) (N:Nat) (env:List bR) (ch:List (Nat×Bool)):Option Nat->Bool
 |none=>true
 |some d=>decide (d<N)&&ch.all (λx=>dI ops x.1 != some d)&&env.all λe=>e.ch.all λx=>dI ops x.1 != some d
def kZ (env:List bR) (d:Option Nat) (ch:List (Nat×Bool)) (g:Option Bool) (v:A2):List bR:=
 match d with
 |some d=>⟨d,ch,g,v,none⟩::env
 |none=>env
def xq (env:List bR) (d:Option Nat) (ch:List (Nat×Bool)) (g:Option Bool) (v:A2) (K:List bR->Prop):Prop:=
 match d with
 |some d=>K (⟨d,ch,g,v,none⟩::env)
 |none=>K env
theorem nQ {env:List bR} {d:Option Nat} {ch:List (Nat×Bool)} {g:Option Bool} {v:A2} {K:List bR->Prop}:xq env d ch g v K=K (kZ env d ch g v):=by cases d<;>rfl
def jH:List bR->(List bR->Prop)->Prop
 |[],K=>K []
 |⟨t,ch,g,v,k⟩::r,K=>jH r (λr=>K (⟨t,ch,g,v,k⟩::r))
theorem jM: ∀{l:List bR} {K:List bR->Prop},jH l K=K l
 |[], _=>rfl
 |⟨_, _, _, _, _⟩::r,K=>by simp only[jH];exact jM
def UH (ops:Array Oper) (t:Nat):Option Nat:=(B4 ops.size).find? λj=>dI ops j==some t
def bH (w:A1) (r:Nat) (es:Array DD) (a:Nat):Prop:=w.heap[r]? =some (.map es a)
def jV (w:A1) (p:Option Nat) (k:B1) (n:Int) (z v:A2):Prop:=
 ∃r es a,p=some r/\bH w r es a/\match F7 (.int k) (.int k n) es.toList 0 with
  |some none=>v=z
  |some (some (_,u))=>v=u
  |none=>False
def mA (w:A1) (p:Option Nat) (k:B1) (n:Int) (z v:A2) (b:Bool):Prop:=
 ∃r es a,p=some r/\bH w r es a/\match F7 (.int k) (.int k n) es.toList 0 with
  |some none=>v=z/\b=false
  |some (some (_,u))=>v=u/\b=true
  |none=>False
def ib (w:A1) (r:Nat) (k:B1) (n:Int) (val:A2) (es:Array DD) (a:Nat) (K:A1->Prop):Prop:=
 match F7 (.int k) (.int k n) es.toList 0 with
 |some none=>K (w.putObj r (.map (es.push {key:= .int k n,val,born:=a}) (a+1)))
 |some (some (i, _))=>K (w.putObj r (.map (es.modify i λe=>{e with key:= .int k n,val}) a))
 |none=>False
def AD (w:A1) (r:Nat) (k:B1) (n:Int) (es:Array DD) (a:Nat) (K:A1->Prop):Prop:=
 match F7 (.int k) (.int k n) es.toList 0 with
 |some none=>K (w.putObj r (.map es a))
 |some (some (i, _))=>K (w.putObj r (.map (es.eraseIdxIfInBounds i) a))
 |none=>False
def RgP (w:A1) (p:Option Nat) (K:Nat->A1->Prop):Prop:= ∀w1,Ext w w1-> ∃r es a,p=some r/\bH w1 r es a/\K w1.heap.size (w1.alloc (.mapIter (some r) a #[] a))
def NxP (w:A1) (p:Option AC) (f:A1->Prop) (g:A2->A2->A1->Prop):Prop:= ∀w1,Ext w w1-> ∃(r m b:Nat) (seen:Array Nat) (c:Nat) (es:Array DD) (d:Nat),p=some ⟨r,0,none⟩/\w1.heap[r]? =some (.mapIter (some m) b seen c)/\bH w1 m es d/\b<=c/\(∀e∈es.toList,e.born<b)/\
 ((∀e∈es.toList,seen.contains e.born=true)-> ∀a,Ext w1 a->f a)/\
 ∀e∈es.toList,seen.contains e.born=false-> ∀a,Ext w1 a->g e.key e.val (a.putObj r (.mapIter (some m) b (seen.push e.born) d))
def AE (w:A1) (p:Option AC) (k v:A2):Prop:= ∃(r m b:Nat) (seen:Array Nat) (es:Array DD) (a:Nat) (e:DD),p=some ⟨r,0,none⟩/\w.heap[r]? =some (.mapIter (some m) b (seen.push e.born) a)/\bH w m es a/\e∈es.toList/\(es.toList.map (·.born)).Nodup/\k=e.key/\v=e.val
def Us (w:A1) (p:Option Nat) (n:Nat):Prop:= ∃r es a,p=some r/\bH w r es a/\n=es.size
def ChO (w:A1) (r cap:Nat) (a:List A2) (s n:Nat):Prop:=w.heap[r]? =some (.chan cap ⟨a⟩ false s n false)
def ChL (w:A1) (p:Option Nat) (n:Nat):Prop:= ∃r cap a s m,p=some r/\ChO w r cap a s m/\n=a.length
def X9 (w:A1) (p q:Option AC):Prop:= ∀a b,p=some a->q=some b->a≠b->(∃c t,w.heap[a.block]? =some (.cells c t (0,0)))/\ ∃c t,w.heap[b.block]? =some (.cells c t (0,0))
def xN (P:AM) (ρ:Operand->Option A2) (c:Call):Option (Option Nat):=match c.args.toList,c.argTypes.toList with
 |[x],[t]=>match P.underlying t,ρ x with
  |some (.chan _ _),some (.chan p)=>some p
  | _, _=>none
 | _, _=>none
def CS (P:AM) (ρ:Operand->Option A2):Op->Option (Option AC×Option AC)
 | .binOp .eql t x y _=>match P.underlying t,ρ x,ρ y with
   |some (.pointer e),some (.pointer p),some (.pointer q)=>match P.info? e with
    |some i=>if i.size=0 then none else some (p,q)
    |none=>none
   | _, _, _=>none
 | _=>none
def XG (P:AM) (ops:Array Oper) (d i:Nat):Option El:=match ops.toList.find? λo=>match o.op with
 | .extract (.tmp t) j=>t==d&&j==i
 | _=>false with
 |some o=>u0 P o.type
 |none=>none
def CU (P:AM) (ρ:Operand->Option A2) (c:Call):Option (Option Nat):=match c.args.toList,c.argTypes.toList with
 |[x],[t]=>match P.underlying t,ρ x with
  |some (.map _ _),some (.map p)=>some p
  | _, _=>none
 | _, _=>none
def oM {P:AM} (C:dM P) (ops:Array Oper) (env:List bR) (ch:List (Nat×Bool)) (g:Option Bool) (o:Oper) (w:A1) (K:A2->Prop):Prop:=
 let ρ:=yg env ch
 match o.op with
 | .load t x=>match ρ x,elC C t,P.info? t with
   |some (.pointer p),some el,some i=>if qa el i.size=true then dC 1 o.op else aj w g p el (λx=>K (el.ia x))
   | _, _, _=>dC 2 o.op
 | .lookup B m ix ok=>match ok,P.underlying B,ρ m,ρ ix with
   |false,some (.map s r),some (.map p),some (.int k n)=>match P.underlying s,u0 P r,P.info? r with
    |some (.int A),some el,some i=>match i.zero with
     |some z=>if k=A then∃x:el.T,gF g (jV w p k n z (el.ia x))/\K (el.ia x) else dC 51 o.op
     |none=>dC 52 o.op
    | _, _, _=>dC 53 o.op
   |true,some (.map s r),some (.map p),some (.int k n)=>match P.underlying s,u0 P r,P.info? r with
    |some (.int A),some el,some i=>match i.zero with
     |some z=>if k=A then∃x:el.T, ∃b:Bool,gF g (mA w p k n z (el.ia x) b)/\K (.tuple ⟨[el.ia x,.bool b]⟩) else dC 51 o.op
     |none=>dC 52 o.op
    | _, _, _=>dC 53 o.op
   | _, _, _, _=>dC 54 o.op
 | .pick c x y=>match c with
   | .tmp t=>match b_ env t with
     |some D=>match D.k with
      |some true=>match ρ x with
       |some v=>K v
       |none=>dC 31 o.op
      |some false=>match ρ y with
       |some v=>K v
       |none=>dC 32 o.op
      |none=>match UH ops t with
       |some j=>match ρ c,yg env ((j,true)::ch) x,yg env ((j,false)::ch) y with
        |some (.bool b),some (.bool u),some (.bool v)=>match x,y with
         | _,.const (.bool false)=>K (.bool (b&&u))
         | .const (.bool true), _=>K (.bool (b||v))
         | _, _=>K (.bool (bif b then u else v))
        | _, _, _=>dC 3 o.op
       |none=>dC 4 o.op
     |none=>dC 33 o.op
   | _=>dC 5 o.op
 | .entry E=>match ρ E,o.dst with
   |some (.pointer p),some d=>match XG P ops d 0,XG P ops d 1 with
    |some a,none=> ∃x:a.T, ∃v:A2,gF g (AE w p (a.ia x) v)/\K (.tuple ⟨[a.ia x,v]⟩)
    |some a,some h=> ∃x:a.T, ∃y:h.T,gF g (AE w p (a.ia x) (h.ia y))/\K (.tuple ⟨[a.ia x,h.ia y]⟩)
    |none,some h=> ∃v:A2, ∃y:h.T,gF g (AE w p v (h.ia y))/\K (.tuple ⟨[v,h.ia y]⟩)
    |none,none=>dC 71 o.op
   | _, _=>dC 72 o.op
 | .call c=>match c.callee with
   | .builtin .len=>match CU P ρ c with
     |some p=> ∃n:Nat,gF g (Us w p n)/\K (.int .i64 n)
     |none=>match xN P ρ c with
      |some p=> ∃n:Nat,gF g (ChL w p n)/\K (.int .i64 n)
      |none=>match pop P ρ o with
       |some ⟨none,v⟩=>K v
       |some ⟨some p,v⟩=>gF g p/\K v
       |none=>dC 9 o.op
   | .value f=>match ρ f,maps ρ c.args.toList with
     |some (.func (.func l) first cap),some adq=>
      if bM P l=true then
       match yA C.sM l with
       |some e=>match e.fn (db first adq cap) with
        |some (pre,v)=>gF g pre/\K v
        |none=>dC 6 o.op
       |none=> ∃x:(uX C l).T,gF g (ae P l (db first adq cap) w ((uX C l).ia x))/\K ((uX C l).ia x)
      else dC 7 o.op
     | _, _=>dC 8 o.op
   | _=>match pop P ρ o with
     |some ⟨none,v⟩=>K v
     |some ⟨some p,v⟩=>gF g p/\K v
     |none=>dC 9 o.op
 | .binOp .. =>match pop P ρ o with
   |some ⟨none,v⟩=>K v
   |some ⟨some p,v⟩=>gF g p/\K v
   |none=>match CS P ρ o.op with
    |some (p,q)=>gF g (X9 w p q)/\K (.bool (decide (p=q)))
    |none=>dC 10 o.op
 | _=>match pop P ρ o with
   |some ⟨none,v⟩=>K v
   |some ⟨some p,v⟩=>gF g p/\K v
   |none=>dC 10 o.op
def YY (P:AM) (e:AL):Array A2:=match P.info? e with
 |some i=>match i.zero with
  |some z=>z.cells
  |none=> #[]
 |none=> #[]
def ve (v:A2):List A2:=v.cells.toList
def Ew (vs:List A2):Bool:=vs.all (·.oneCell')
def eop {P:AM} (C:dM P) (ρ:Operand->Option A2) (o:Oper) (w:A1) (K:A2->A1->Prop):Prop:=
 match o.op with
 | .store t x y=>match ρ x,ρ y,P.info? t with
   |some (.pointer p),some v,some i=>if(ve v).length=i.size then
     aC w p (ve v) (λa=>K undef a)
    else dC 11 o.op
   | _, _, _=>dC 12 o.op
 | .alloc e=>match P.info? e with
   |some i=>match i.zero with
    |some z=>match F2 64 i.size with
     |true=>aM w (YY P e) e (λb a=>K (.pointer (some ⟨b,0,none⟩)) a)
     |false=>aM w z.cells e (λb a=>K (.pointer (some ⟨b,0,none⟩)) a)
    |none=>dC 13 o.op
   |none=>dC 14 o.op
 | .box e x=>match ρ x with
   |some v=>aM w v.cells e (λb a=>K (.pointer (some ⟨b,0,none⟩)) a)
   |none=>dC 15 o.op
 | .buildSlice t len parts=>match P.underlying t,A6 ρ parts.toList with
   |some (.slice e),some ps=>match P.info? e with
    |some i=>match i.zero with
     |some z=>match A7 (λk=>some (k*i.size,i.size)) ⟨(B4 (len*i.size)).map (z.cells.toList[· % z.cells.toList.length]!)⟩ ps with
      |some cs=>if len*i.size<=2 ^ 24 then aM w cs e (λb a=>K (.slice (some ⟨b,0,none⟩) len len) a) else dC 101 o.op
      |none=>dC 102 o.op
     |none=>dC 103 o.op
    |none=>dC 104 o.op
   | _, _=>dC 105 o.op
 | .makeSlice t l c=>match P.underlying t,ρ l,ρ c with
   |some (.slice e),some (.int _ n),some (.int _ m)=>match P.info? e with
    |some i=>match i.zero with
     |some z=>Od w i.bytes i.size n m z.cells e (λb a=>K (.slice (some ⟨b,0,none⟩) n.toNat m.toNat) a)
     |none=>dC 106 o.op
    |none=>dC 107 o.op
   | _, _, _=>dC 108 o.op
 | .mapUpdate t m x v=>match P.underlying t,ρ m,ρ x,ρ v with
   |some (.map g _),some (.map p),some (.int k n),some val=>match P.underlying g with
    |some (.int h)=>if k=h then∀w1,Ext w w1-> ∃r es d,p=some r/\bH w1 r es d/\ib w1 r k n val es d (λa=>K undef a) else dC 55 o.op
    | _=>dC 56 o.op
   | _, _, _, _=>dC 57 o.op
 | .insert t m x v=>match P.underlying t,ρ m,ρ x,ρ v with
   |some (.map g _),some (.map p),some (.int k n),some val=>match P.underlying g with
    |some (.int h)=>if k=h then∀w1,Ext w w1-> ∃r es d,p=some r/\bH w1 r es d/\ib w1 r k n val es d (λa=>K undef a) else dC 55 o.op
    | _=>dC 56 o.op
   | _, _, _, _=>dC 57 o.op
 | .makeMap _ r=>match r with
   |none=> ∀w1,Ext w w1->K (.map (some w1.heap.size)) (w1.alloc (.map #[] 0))
   |some _=>dC 109 o.op
 | .makeChan t s=>match P.underlying t,ρ s with
   |some (.chan _ e),some (.int _ n)=>match P.info? e with
    |some i=>if 0<=n/\n<=2 ^ 32/\i.bytes*n<=2 ^ 47 then∀w1,Ext w w1->K (.chan (some w1.heap.size)) (w1.alloc (.chan n.toNat #[] false 0 0 false)) else dC 118 o.op
    |none=>dC 119 o.op
   | _, _=>dC 120 o.op
 | .range A x=>match P.underlying A,ρ x with
   |some (.map _ _),some (.map p)=>RgP w p (λb a=>K (.pointer (some ⟨b,0,none⟩)) a)
   | _, _=>dC 73 o.op
 | .next B b=>match b,ρ B with
   |false,some (.pointer p)=>NxP w p (λa=>K (.tuple ⟨[.bool false]⟩) a) (λk v a=>K (.tuple ⟨[.bool true,k,v]⟩) a)
   | _, _=>dC 74 o.op
 | .call c=>match c.callee with
   | .builtin .delete=>match c.args.toList,c.argTypes.toList with
     |[m,x],[t, _]=>match P.underlying t,ρ m,ρ x with
      |some (.map g _),some (.map p),some (.int k n)=>match P.underlying g with
       |some (.int h)=>if k=h then∀w1,Ext w w1-> ∃r es d,p=some r/\bH w1 r es d/\AD w1 r k n es d (λa=>K (.tuple ⟨[]⟩) a) else dC 75 o.op
       | _=>dC 76 o.op
      | _, _, _=>dC 77 o.op
     | _, _=>dC 78 o.op
   | .builtin .append=>match c.args.toList,c.argTypes.toList with
     |[s,x],[t,u]=>match P.underlying t,P.underlying u,ρ s,ρ x with
      |some (.slice e),some (.slice _),some (.slice p n m),some (.slice q k l)=>match P.info? e with
       |some i=>match i.zero with
        |some z=>if i.bytes=0 then dC 110 o.op else∀w1,Ext w w1->mH w1 e i.size i.bytes z.cells (p,n,m) (q,k,l) (λr a=>K (.slice r.1 r.2.1 r.2.2) a)
        |none=>dC 111 o.op
       |none=>dC 112 o.op
      | _, _, _, _=>dC 113 o.op
     | _, _=>dC 114 o.op
   | .builtin .copy=>match c.args.toList,c.argTypes.toList with
     |[s,x],[t, _]=>match P.underlying t,ρ s,ρ x with
      |some (.slice e),some (.slice p n _),some (.slice q k _)=>match P.info? e with
       |some i=> ∀w1,Ext w w1->cpR w1 i.size (p,n) (q,k) (λr a=>K (.int .i64 r) a)
       |none=>dC 115 o.op
      | _, _, _=>dC 116 o.op
     | _, _=>dC 117 o.op
   | .value f=>match C.dyn,f with
    |some s,.tmp t=>match ρ (.tmp t),maps ρ c.args.toList with
     |some v,some adq=>Ak P v s adq w (λx a=>K (s.ia x) a)
     | _, _=>dC 70 o.op
    | _, _=>match ρ f,maps ρ c.args.toList with
     |some (.func (.yield l) first _),some adq=> ∀w1,Ext w w1->mz P l (first.toList++adq) w1 (λb a=>K (.bool b) a)
     |some (.func (.func j) first cap),some adq=>
      if bM P j=true then
       aA P j (uX C j) (db first adq cap) w (λx a=>K ((uX C j).ia x) a)
      else dC 16 o.op
     | _, _=>dC 17 o.op
   | _=>dC 18 o.op
 | _=>dC 19 o.op
def aI (b:Bool) (x y:Prop):Prop:=match b with
 |true=>x
 |false=>y
theorem ab {b:Bool} {x y:Prop} (hx:b=true->x) (a:b=false->y):aI b x y:=by
 cases b
 ·exact a rfl
 ·exact hx rfl
theorem Ex {b:Bool} {x y:Prop} (h:aI b x y) (e:b=true):x:=by subst e;exact h
theorem Bj {b:Bool} {x y:Prop} (h:aI b x y) (e:b=false):y:=by subst e;exact h
def OR {P:AM} (C:dM P) (ρ:Operand->Option A2) (o:Oper):Bool:=
 match o.op with
 | .store .. | .alloc _| .box .. | .buildSlice .. | .makeSlice .. | .makeMap .. | .makeChan .. | .mapUpdate .. | .insert .. | .range .. | .next .. =>true
 | .call c=>match c.callee with
   | .value f=>match C.dyn,f with
    |some _,.tmp _=>true
    | _, _=>match ρ f with
     |some (.func (.func a) _ _)=> !((yA C.sM a).isSome||C.quiet.contains a)
     | _=>true
   | .builtin .append=>true
   | .builtin .copy=>true
   | .builtin .delete=>true
   | _=>false
 | _=>false
def ZA:Op->Bool
 | .binOp .. =>true
 | .convert .. =>true
 | .call _=>true
 | _=>false
def yS {P:AM} (C:dM P) (o:Oper) (v:A2) (K:A2->Prop):Prop:=
 match C.vN&&ZA o.op,v with
 |true,.int k e=> ∀x,x=e->K (.int k x)
 | _, _=>K v
theorem sg {P:AM} {C:dM P} {o:Oper} {v:A2} {K:A2->Prop} (h:yS C o v K):K v:=by
 unfold yS at h
 grind
def Oy {P:AM} (C:dM P) (ops:Array Oper) (N:Nat) (o:Oper):Nat->List bR->A1->(List bR->A1->Prop)->Prop
 |0, _, _, _=>dC 20 o.op
 |n+1,env,w,K=>match gd ops env o with
  |none=>dC 21 o.op
  |some none=>if oZ ops N env [] o.dst then xq env o.dst [] none undef (λenv=>K env w) else dC 25 o.op
  |some (some (ch,g))=>
   if oZ ops N env ch o.dst then
    if OR C (yg env ch) o then
     match ch.getLast? with
     |none=>eop C (yg env []) o w (λv a=>xq env o.dst [] none v (λenv=>K env a))
     |some (j, _)=>match dI ops j with
      |some d=>match b_ env d with
       |some e=>match e.v with
        | .bool x=>if e.ch.isEmpty then
           aI x (jH (env.map (settle j true)) λenv=>Oy C ops N o n (⟨d,[],none,.bool true,some true⟩::env) w K)
            (jH (env.map (settle j false)) λenv=>Oy C ops N o n (⟨d,[],none,.bool false,some false⟩::env) w K)
          else dC 22 o.op
        | _=>dC 26 o.op
       |none=>dC 27 o.op
      |none=>dC 28 o.op
    else oM C ops env ch g o w (λv=>yS C o v (λv=>xq env o.dst ch g v (λenv=>K env w)))
   else dC 24 o.op
def Gg {P:AM} (C:dM P) (ops:Array Oper) (N:Nat) (i:Nat) (env:List bR) (w:A1) (K:List bR->A1->Prop):Prop:=
 match ops[i]? with
 |none=>False
 |some ⟨dst,op,type,pos,after,guard⟩=>Oy C ops N ⟨dst,op,type,pos,after,guard⟩ 40 env w K
def rxL {P:AM} (C:dM P) (ops:Array Oper) (N:Nat):List Nat->List bR->A1->(List bR->A1->Prop)->Prop
 |[],env,w,K=>K env w
 |i::r,env,w,K=>Gg C ops N i env w (λenv w=>rxL C ops N r env w K)
def j9 (ops:Array Oper) (tmps:Array A2) (ch:List (Nat×Bool)):Prop:= ∀x∈ch,yielded ops tmps x.1=some x.2
def T2 (ops:Array Oper) (tmps:Array A2) (ch:List (Nat×Bool)):Option Bool->Prop
 |none=>ch=[]
 |some γ=>ch≠[]/\(γ=true<->j9 ops tmps ch)
structure Fit (S:Nat->Option (Option A2)) (ops:Array Oper) (N:Nat) (D:List Deferred) (env:List bR) (a:Act):Prop where
 off: ∀t x,S t=some x->a.tmps[t]? =x
 size:a.tmps.size=N
 qH:a.defers=D
 yes: ∀t e,b_ env t=some e->j9 ops a.tmps e.ch->a.tmps[t]? =some e.v
 no: ∀t e,b_ env t=some e-> ¬ j9 ops a.tmps e.ch->a.tmps[t]? =some undef
 F1: ∀e∈env,T2 ops a.tmps e.ch e.g
 Cl: ∀e∈env, ∀b,e.k=some b->e.v= .bool b/\e.ch=[]
theorem bV: ∀{env:List bR} {t:Nat} {e:bR},b_ env t=some e->e∈env
 |x::r,t,e,h=>by
  simp[b_] at h;split at h
  grind
  ·exact OK _ (bV h)
theorem UI {a b:List (Nat×Bool)} (h:YX a b=true) {ops:Array Oper} {tmps:Array A2} (hb:j9 ops tmps b):j9 ops tmps a:=λx hx=>by
 simp only[YX,DZ] at h;exact hb x (by grind)
variable {S:Nat->Option (Option A2)} {ops:Array Oper} {N:Nat} {D:List Deferred} {env:List bR} {a:Act}
theorem Fit.ev (h:Fit S ops N D env a) {ch:List (Nat×Bool)} (hc:j9 ops a.tmps ch) {x:Operand} {v:A2} (hx:yg env ch x=some v):a.eval x=v:=by
 cases x with
 |tmp t=>
  simp[yg] at hx;split at hx
  ·rename_i b;split at hx
   ·rename_i hs;cases hx;have:=h.yes t _ b (UI hs hc);simp[GF,this]
   grind
  grind
 |const
 |global g
 |func=>simp[yg] at hx;simp[GF,hx]
theorem Fy {j:Nat} {d:Option Nat} {u:A2} (h: ∀k,d=some k->dI ops j≠some k):yielded ops (a.put d u).tmps j=yielded ops a.tmps j:=by
 cases d with
 |none=>rfl
 |some k=>
  have b:=h k rfl;unfold yielded;unfold dI at b;cases f:ops[j]?.bind _ with
  |none=>rfl
  |some t=>
   have c:k≠t:=λe=>b (by grind);simp[Co,DJ c]
theorem Ji {ch:List (Nat×Bool)} {d:Option Nat} {u:A2} (h: ∀k,d=some k->ch.all (λx=>dI ops x.1 != some k)=true):j9 ops (a.put d u).tmps ch<->j9 ops a.tmps ch:=by
 have: ∀x∈ch,yielded ops (a.put d u).tmps _=yielded ops _ x.1:=λx hx=>Fy (by grind);constructor
 ·intro b x hx;rw[<-this x hx];exact b x hx
 ·intro b x hx;rw[this x hx];exact b x hx
theorem Fit.put (h:Fit S ops N D env a) {ch:List (Nat×Bool)} {g:Option Bool} {d:Option Nat} {v u:A2} (m:oZ ops N env ch d=true) (r: ∀k,d=some k->S k=none)
 (hg:T2 ops a.tmps ch g) (h1:j9 ops a.tmps ch->u=v) (h0: ¬ j9 ops a.tmps ch->u=undef):Fit S ops N D (kZ env d ch g v) (a.put d u):=by
 cases d with
 |none=>exact h
 |some k=>
  simp only[oZ,Bf,decide_eq_true_eq] at m;obtain⟨⟨o,hc⟩,s⟩:=m;have c0:j9 ops (a.put (some k) u).tmps ch<->j9 ops a.tmps ch:=Ji (by grind);have c1: ∀e∈env,(j9 ops (a.put (some k) u).tmps e.ch<->j9 ops a.tmps e.ch):=λe hm=>Ji (by grind);have n:k<a.tmps.size:=by rw[h.size];exact o
  refine⟨λt x hx=>?_,by simp[Co,h.size],h.qH,?_,?_,?_,?_⟩
  ·have p:k≠t:=λe=>by grind
   simp[Co,DJ p,h.off t x hx]
  ·intro t e c i;simp only[kZ,b_] at c;split at c
   ·rename_i f;cases c;subst f;simp[Co,n,h1 (c0.1 i)]
   ·rename_i f;have:=h.yes t e c ((c1 e (bV c)).1 i);simp[Co,DJ f,this]
  ·intro t e c i;simp only[kZ,b_] at c;split at c
   ·rename_i f;cases c;subst f;simp[Co,n,h0 (λj=>i (c0.2 j))]
   ·rename_i f;have:=h.no t e c (λj=>i ((c1 e (bV c)).2 j));simp[Co,DJ f,this]
  ·intro e hm;have key: ∀(ch) (g:Option Bool),(j9 ops (a.put (some k) u).tmps ch<->j9 ops a.tmps ch)->T2 ops a.tmps ch g->T2 ops (a.put (some k) u).tmps ch g:=by
    intro ch g q l;cases g with
    |none=>exact l
    |some γ=>exact⟨l.1,l.2.trans q.symm⟩
   simp only[kZ,D8] at hm;rcases hm with rfl|hm
   ·exact key _ _ c0 hg
   ·exact key _ _ (c1 e hm) (h.F1 e hm)
  ·intro e hm b hb;simp only[kZ,D8] at hm;rcases hm with rfl|hm
   ·cases hb
   ·exact h.Cl e hm b hb
def yT:A2->Option Bool
 | .bool b=>some b
 | _=>none
theorem lJ {j d:Nat} (b:dI ops j=some d) {v:A2} (hv:a.tmps[d]? =some v):yielded ops a.tmps j=yT v:=by
 unfold yielded;unfold dI at b
 simp_all
 cases v<;>rfl
theorem eM:j9 ops a.tmps []:=λhx=>by simp
theorem OS (h:Fit S ops N D env a) {o:Oper} {ch:List (Nat×Bool)} {g:Option Bool} (hg:gd ops env o=some (some (ch,g))):
 T2 ops a.tmps ch g/\(Bx o (yielded ops a.tmps)=true<->j9 ops a.tmps ch):=by
 unfold gd at hg;unfold Bx;split at hg
 ·rename_i k;cases hg;exact⟨rfl,by simp[j9,k]⟩
 ·rename_i j b k;split at hg
  ·rename_i d n;split at hg
   ·rename_i e c;split at hg
    ·rename_i s t;obtain⟨hv,f⟩:=h.Cl e (bV c) s t;have q:=lJ (a:=a) n (h.yes d e c (by rw[f];exact eM));rw[hv] at q;split at hg
     ·rename_i hb;cases hg;refine⟨rfl,?_⟩;simp[k,q,yT,hb,j9]
     ·cases hg
    ·split at hg
     ·rename_i x hx;cases hg;have p:(yielded ops a.tmps j=some b)<->j9 ops a.tmps e.ch/\x=b:=by
       by_cases hc:j9 ops a.tmps e.ch
       ·have h1:=h.yes d e c hc;rw[lJ (a:=a) n h1,hx];simp[yT,hc]
       ·have h1:=h.no d e c hc;rw[lJ (a:=a) n h1];simp[undef,yT,hc]
      have f:j9 ops a.tmps ((j,b)::e.ch)<->yielded ops a.tmps j=some b:=by
       constructor
       ·intro l;exact l (j,b) IQ
       ·intro l y i;rcases D8.1 i with rfl|i
        ·exact l
        ·exact(p.1 l).1 y i
      refine⟨?_,?_⟩
      ·have m:=h.F1 e (bV c);cases r:e.g with
       |none=>
        rw[r] at m;have u:j9 ops a.tmps e.ch:=by rw[show e.ch=[] from m];intro y i;cases i
        refine⟨by simp,?_⟩;rw[f,p];cases b<;>simp[u,lit]
       |some γ=>
        rw[r] at m;refine⟨by simp,?_⟩;rw[f,p, <-m.2];cases b<;>simp[lit]
      ·rw[f];simp[k]
     ·cases hg
   ·cases hg
  ·cases hg
theorem C' (h:Fit S ops N D env a) {o:Oper} (hg:gd ops env o=some none):Bx o (yielded ops a.tmps)=false:=by
 unfold gd at hg;unfold Bx;split at hg
 ·cases hg
 ·rename_i j b l;split at hg
  ·rename_i d f;split at hg
   ·rename_i e c;split at hg
    ·rename_i g i;obtain⟨hv,k⟩:=h.Cl e (bV c) g i;have m:=lJ f (h.yes d e c (by rw[k];exact eM))
     grind[yT]
    grind
   ·cases hg
  ·cases hg
theorem vn {f:bR->bR} (a: ∀e,(f e).t=e.t): ∀{l:List bR} {t:Nat} {e:bR},b_ (l.map f) t=some e-> ∃b,b_ l t=some b/\e=f b
 |x::r,t,e,h=>by
  simp[b_,a] at h ⊢;split at h
  grind
  ·rename_i c;rw[if_neg c];exact vn a h
theorem Ey (j:Nat) (b:Bool) (e:bR):(settle j b e).t=e.t:=by
 grind[settle]
theorem vo {j:Nat} {b:Bool} (k:yielded ops a.tmps j=some b) (e:bR) (hg:T2 ops a.tmps e.ch e.g):
 T2 ops a.tmps (settle j b e).ch (settle j b e).g/\(j9 ops a.tmps e.ch->j9 ops a.tmps (settle j b e).ch/\(settle j b e).v=e.v)/\(¬ j9 ops a.tmps e.ch->(¬ j9 ops a.tmps (settle j b e).ch\/(settle j b e).v=undef))/\
 (¬ j9 ops a.tmps (settle j b e).ch-> ¬ j9 ops a.tmps e.ch):=by
 unfold settle;split
 ·rename_i hc;have l: ¬ j9 ops a.tmps e.ch:=λd=>by
   have:=d (j, !b)
   grind
  exact⟨rfl,λd=>absurd d l,λ_=> .inr rfl,λd=>absurd eM d⟩
 ·split
  ·rename_i n hc;have f:j9 ops a.tmps e.ch<->j9 ops a.tmps (e.ch.filter (λx=>x != (j,b))):=by
    constructor
    ·intro d x hx;exact d x (CK.1 hx).1
    ·intro d x hx;by_cases m:x=(j,b)
     ·rw[m];exact k
     ·exact d x (by grind)
   split
   ·rename_i h;rw[h] at f;exact⟨rfl,λ_=>⟨eM,rfl⟩,by grind,λd=>absurd eM d⟩
   ·rename_i c r h;rw[h] at f
    simp_all
    cases i:e.g with
    |none=>rw[i] at hg;have:e.ch=[]:=hg;rw[this] at hc;simp at hc
    |some γ=>rw[i] at hg;exact⟨by simp,hg.2.trans f⟩
  grind
theorem Fit.settle (h:Fit S ops N D env a) {j d:Nat} {b:Bool} {e:bR} (n:dI ops j=some d) (o:b_ env d=some e) (p:e.ch=[]) (hv:e.v= .bool b):
 Fit S ops N D (⟨d,[],none,.bool b,some b⟩::env.map (settle j b)) a:=by
 have h1:=h.yes d e o (by rw[p];exact eM);have k:=lJ (a:=a) n h1;rw[hv] at k;refine⟨h.off,h.size,h.qH,?_,?_,?_,?_⟩
 ·intro t l g hc;simp only[b_] at g;split at g
  grind
  ·obtain⟨c,f,rfl⟩:=vn (Ey j b) g;obtain⟨_,s1,w, _⟩:=vo (a:=a) k c (h.F1 c (bV f));by_cases m:j9 ops a.tmps c.ch
   ·rw[h.yes t c f m,(s1 m).2]
   ·rw[h.no t c f m]
    grind
 ·intro t l g hc;simp only[b_] at g;split at g
  ·cases g;exact absurd eM hc
  ·obtain⟨c,f,rfl⟩:=vn (Ey j b) g;obtain⟨_, _, _,q⟩:=vo (a:=a) k c (h.F1 c (bV f));exact h.no t c f (q hc)
 ·intro l hm;rcases D8.1 hm with rfl|hm
  ·exact rfl
  ·obtain⟨c,f,rfl⟩:=GS.1 hm;exact(vo (a:=a) k c (h.F1 c f)).1
 ·intro l hm r i;rcases D8.1 hm with rfl|hm
  grind
  ·obtain⟨c,f,rfl⟩:=GS.1 hm;unfold RX.settle at i ⊢;split at i
   ·cases i
   ·rename_i s;rw[if_neg s];split at i
    grind
    ·rename_i u;rw[if_neg u];exact h.Cl c f r i
variable {P:AM}
def du (P:AM) (o:Oper) (a:Act) (w:A1) (v:A2):Prop:=
 match (execOp a.eval o).run P w with
 | .ok (.value u) w'=>w'=w/\u=v
 | .ok (.enter f args) w'=>w'=w/\Calls P f args w (λe b=>e= .returned v/\Ext w b)
 | _=>False
theorem bQ {o:Oper} {a:Act} {w:A1} {v:A2} (h:(execOp a.eval o).run P w= .ok (.value v) w):du P o a w v:=by
 grind[du]
theorem cG: ∀(l:List Sc) (x:jq l),(bh l x).length=l.length
 |[], _=>rfl
 | _::r,x=>by simp[bh,cG]
theorem v_ {w:A1} {a:AC} {v:A2} (h:w.cell? a=some v):(load a).run P w= .ok v w:=by simp[h]
theorem run_loadCellsFrom {w:A1} {a:AC}: ∀(vs:List A2) (k:Nat) (acc:Array A2),(∀i,i<vs.length->w.cell? (a.add (k+i))=vs[i]?)->
 (loadCellsFrom a k vs.length acc).run P w= .ok (acc++vs.toArray) w
 |[],k,acc, _=>by rfl
 |v::vs,k,acc,h=>by
  have h0:=by simpa using h 0
  have b:=run_loadCellsFrom vs _ (acc.push v) λi hi=>by
   have:=h (i+1) (by grind);rw[show k+1+i=k+(i+1) by omega,this];rfl
  simp only[O2,loadCellsFrom,AY,v_ h0,Ax,b];simp
theorem tJ {w w':A1} (h:Ext w w') {p:Option AC} {el:El} {x:el.T} (c:cL w p el x):cL w' p el x:=by
 cases el with
 |one=>obtain⟨a,b,hc⟩:=c;exact⟨a,b,h.cell hc⟩
 |agg l=>
  obtain⟨a,b,hc⟩:=c;refine⟨a,b,λi hi=>?_⟩;have h1:=hc i hi;have d:i<(bh l x).length:=by have:=cG l x;omega
  rw[IM d] at h1 ⊢;exact h.cell h1
theorem tK {w:A1} {a:AC} {t:AL} {el:El} {b:TypeInfo} {x:el.T} (g:u0 P t=some el) (hi:P.info? t=some b)
 (hs: ¬ qa el b.size=true) (e:cL w (some a) el x):(loadVar t a).run P w= .ok (el.ia x) w:=by
 unfold loadVar;cases el with
 |one s=>
  have c:kj P t=some false:=by
   grind[u0,kj,A5,Option.map_eq_some_iff]
  obtain⟨a',d,hc⟩:=e;cases d;simp only[AY,vl c,Ax,Ep,if_false,v_ hc];rfl
 |agg l=>
  have c:kj P t=some true:=by
   grind[u0,kj,A5]
  obtain⟨a',d,hc⟩:=e;cases d;have f:l.length=b.size:=by simpa[qa] using hs
  have:=run_loadCellsFrom (P:=P) (w:=w) (a:=a) (bh l x) 0 #[] (by simpa[cG] using hc);rw[cG,f] at this;simp only[AY,vl c,Ax,if_true,dw hi,loadCells,this];simp[El.ia]
theorem UJ {C:dM P} {w:A1} {a:AC} {t:AL} {el:El} {c:TypeInfo} {x:el.T} (b:elC C t=some el) (hi:P.info? t=some c)
 (hs: ¬ qa el c.size=true) (d:cL w (some a) el x):(loadVar t a).run P w= .ok (el.ia x) w:=by
 unfold elC at b;split at b
 ·rename_i h0;split at b
  ·cases b;have e:=d;exact tK (el:= .one .func) h0 hi ‹_› e
  grind[tK]
 ·exact tK b hi hs d
theorem Jj: ∀{l:List (Entry P)} {f:B2} {e:Entry P},yA l f=some e->e.f=f
 |x::r,f,e,h=>by
  simp[yA] at h;split at h
  grind
  ·exact Jj h
theorem iG {g:Option Bool} {p:Prop} {ops:Array Oper} {tmps:Array A2} {ch:List (Nat×Bool)} (h:gF g p) (hg:T2 ops tmps ch g) (hc:j9 ops tmps ch):p:=by
 cases g with
 |none=>exact h
 |some=>exact h (hg.2.2 hc)
theorem uh {f:B2} {args:Array A2} {w:A1}
 (h:bM P f=true):
 (callFunc f args).run P w= .ok (.enter f args) w:=by
 unfold callFunc;unfold bM at h;cases a:P.funcs[f]? with
 |none=>simp[a] at h
 |some fn=>
  simp_all
  grind[fi]
theorem tL {ev:Operand->A2} {dst:Option Nat} {type:AL} {pos:String} {after:Array Edge} {guard:Option (Nat×Bool)} {f:Operand} {args:Array Operand} {ts:Array AL}
 {a:B2} {first cap:Array A2} {adq:List A2} (b:ev f= .func (.func a) first cap) (c:args.toList.map ev=adq) {w:A1}
 (h:bM P a=true):
 (execOp ev ⟨dst,.call ⟨.value f,args,ts⟩,type,pos,after,guard⟩).run P w= .ok (.enter a ⟨db first adq cap⟩) w:=by
 have e:first++args.map ev++cap=⟨db first adq cap⟩:=by
  simp_all[db]
 simp only[execOp,resolve,Deferred.ofValue,b,AY,Ay,Ax,invoke];rw[e];exact uh h
variable {S:Nat->Option (Option A2)} {ops:Array Oper} {N:Nat} {D:List Deferred} {env:List bR} {a:Act}
theorem zK {kd:B1} {n:Int}: ∀(l:List DD) (i0 i:Nat) (v:A2),F7 (.int kd) (.int kd n) l i0=some (some (i,v))->i0<=i/\ ∃e,l[i - i0]? =some e/\e.key= .int kd n/\e.val=v
 |e::es,i0,i,v,h=>by
  unfold F7 at h;split at h
  ·rename_i hs;obtain⟨rfl,rfl⟩:=h;simp;cases a:e.key<;>rw[a] at hs<;>simp[Instr.sameNow] at hs
   grind
  ·obtain:=zK es (i0+1) i v h
   grind
  ·cases h
theorem Bk {t d l:AL} {kd:B1} {n:Int} {val:A2} {w:A1} {r:Nat} {es:Array DD} {f:Nat} {K:A1->Prop} (g:P.underlying t=some (.map d l)) (a:P.underlying d=some (.int kd)) (hb:bH w r es f)
 (h:ib w r kd n val es f K): ∃j,(Kv t (.map (some r)) (.int kd n) val).run P w= .ok () j/\K j:=by
 have b:=hb;have k:Gw (.int kd) (.int kd n):=by rfl
 unfold ib at h;split at h
 ·rename_i c;refine⟨_,?_,h⟩;simp[Kv,run_underlying g,DB b,DO a k,DQ a c,H4 _ b,DI,FR]
 ·rename_i i v c;obtain⟨_,e,m,o, _⟩:=zK _ _ _ _ c;refine⟨_,?_,h⟩;have p:=by simpa using m
  simp[Kv,run_underlying g,DB b,DO a k,DQ a c,p,o,Instr.keyThatStays,Instr.sameBits,H4 _ b,DI,FR]
 grind
theorem Qk {t d e:AL} {kd:B1} {n:Int} {w:A1} {p:Option Nat} {i:TypeInfo} {z v:A2} (f:P.underlying t=some (.map d e)) (a:P.underlying d=some (.int kd)) (hi:P.info? e=some i) (l:i.zero=some z)
 (h:jV w p kd n z v):(FP t (.map p) (.int kd n) false).run P w= .ok v w:=by
 obtain⟨r,es,m,rfl,hb,b⟩:=h;have g:=hb;have k:Gw (.int kd) (.int kd n):=by rfl
 split at b
 ·rename_i c;subst b;simp[FP,run_underlying f,DB g,DO a k,DQ a c,zeroValue,fK hi,l]
 ·rename_i j u c;subst b;simp[FP,run_underlying f,DB g,DO a k,DQ a c,DI]
 grind
theorem KW {t d e:AL} {kd:B1} {n:Int} {w:A1} {p:Option Nat} {i:TypeInfo} {z v:A2} {b:Bool} (f:P.underlying t=some (.map d e)) (a:P.underlying d=some (.int kd)) (hi:P.info? e=some i) (l:i.zero=some z)
 (h:mA w p kd n z v b):(FP t (.map p) (.int kd n) true).run P w= .ok (.tuple ⟨[v,.bool b]⟩) w:=by
 obtain⟨r,es,o,rfl,hb,m⟩:=h;have g:=hb;have k:Gw (.int kd) (.int kd n):=by rfl
 split at m
 ·rename_i c
  simp_all
  simp[FP,run_underlying f,DB g,DO a k,DQ a c,zeroValue,fK hi,l,DI]
 ·rename_i j u c
  simp_all
  simp[FP,run_underlying f,DB g,DO a k,DQ a c,DI]
 grind
theorem n_ {w:A1} {p:Option AC} {k v:A2} (h:AE w p k v):(Instr.entry (.pointer p)).run P w= .ok (.tuple ⟨[k,v]⟩) w:=by
 obtain⟨r,m,a,seen,es,b,e,rfl,c,hb,d,f,rfl,rfl⟩:=h;exact run_entry_at w r m a seen es b e c hb d f
theorem za {w w':A1} {p:Option AC} {k v:A2} (a:Ext w w') (h:AE w p k v):AE w' p k v:=by
 obtain⟨r,m,b,seen,es,c,e,h1,d,hb,f⟩:=h;exact⟨r,m,b,seen,es,c,e,h1,a.obj d,a.obj hb,f⟩
theorem Fz {ρ:Operand->Option A2} {c:Call} {p:Option Nat} (h:CU P ρ c=some p): ∃x t a b,c.args= #[x]/\c.argTypes= #[t]/\P.underlying t=some (.map a b)/\ρ x=some (.map p):=by
 unfold CU at h;split at h
 ·rename_i x t e f;split at h
  ·rename_i a b p' d hx;cases h;refine⟨x,t,a,b,?_,?_,d,hx⟩
   grind
   grind
  grind
 grind
theorem Dt {ρ:Operand->Option A2} {c:Call} {p:Option Nat} (h:xN P ρ c=some p): ∃x t d a,c.args= #[x]/\c.argTypes= #[t]/\P.underlying t=some (.chan d a)/\ρ x=some (.chan p):=by
 unfold xN at h;split at h
 ·rename_i x t f g;split at h
  ·rename_i b a p' e hx;cases h;refine⟨x,t,b,a,?_,?_,e,hx⟩
   grind
   grind
  grind
 grind
theorem Jk {w w':A1} {p q:Option AC} (e:Ext w w') (h:X9 w p q):X9 w' p q:=λa b h1 f g=>by
 obtain⟨⟨c,t,i⟩,d,u,j⟩:=h a b h1 f g;exact⟨⟨c,t,e.obj i⟩,d,u,e.obj j⟩
theorem ZB {ρ:Operand->Option A2} {ev:Operand->A2} (j: ∀x v,ρ x=some v->ev x=v) {o:Oper} {p q:Option AC} {w:A1} (h:CS P ρ o.op=some (p,q)) (k:X9 w p q):
 (execOp ev o).run P w= .ok (.value (.bool (decide (p=q)))) w:=by
 obtain⟨dst,op,type,pos,after,guard⟩:=o;unfold CS at h;simp only at h;split at h
 ·rename_i t x y s;split at h
  ·rename_i e p' z f hx l;split at h
   ·rename_i i hi;split at h
    ·cases h
    ·rename_i m;cases h;simp only[execOp,j _ _ hx,j _ _ l];cases p with
     |none=>
      cases q with
      |none=>
       have:=eK (P:=P) (w:=w) λd=>nZ f d none w;simp[eqGuard,binOp,this]
      |some b=>
       have:=eK (w:=w) λd=>nZ f d (some b) w;simp[eqGuard,binOp,this]
     |some a=>
      cases q with
      |none=>
       have:=eK (P:=P) λd=>se f d (some a) w;simp[eqGuard,binOp,this]
      |some b=>
       by_cases g:a=b
       ·subst g;have:=run_eql_ptr_same w a f hi;simp[eqGuard,this]
       ·obtain⟨⟨c,A,n⟩,d,u,r⟩:=k a b rfl rfl g;have:=run_eql_ptr_other w f hi m g n r;simp[eqGuard,this,g]
   ·cases h
  ·cases h
 ·cases h
theorem yU {C:dM P} {ch:List (Nat×Bool)} {g:Option Bool} {o:Oper} {w:A1} {K:A2->Prop} (l:Fit S ops N D env a) (hg:T2 ops a.tmps ch g)
 (h:oM C ops env ch g o w K): ∃v,K v/\(j9 ops a.tmps ch-> ∀w',Ext w w'->du P o a w' v):=by
 have N2: ∀v,a.eval (.const v)=v:=λ_=>rfl;have pure: ∀(pr:PR),pop P (yg env ch) o=some pr->(match pr.ob with|none=>K pr.v|some p=>gF g p/\K pr.v)->
  ∃v,K v/\(j9 ops a.tmps ch-> ∀w',Ext w w'->du P o a w' v):=by
  intro pr B i;cases L:pr.ob with
  |none=>
   rw[L] at i;exact⟨pr.v,i,λhc w' _=>bQ (Pf (λx v hx=>l.ev hc hx) N2 B (λp H=>by rw[L] at H;cases H) w')⟩
  |some p=>
   rw[L] at i;exact⟨pr.v,i.2,λhc w' _=>bQ (Pf (λx v hx=>l.ev hc hx) N2 B (λp' H=>by rw[L] at H;cases H;exact iG i.1 hg hc) w')⟩
 have M:(match pop P (yg env ch) o with|some ⟨none,v⟩=>K v|some ⟨some p,v⟩=>gF g p/\K v|none=>False)->
  ∃v,K v/\(j9 ops a.tmps ch-> ∀w',Ext w w'->du P o a w' v):=by
  intro O;split at O
  ·rename_i v B;exact pure ⟨none,v⟩ B O
  ·rename_i p v B;exact pure ⟨some p,v⟩ B O
  ·exact O.elim
 obtain⟨dst,op,type,pos,after,guard⟩:=o;unfold oM at h;cases op with
 |load t x=>
  simp only at h;split at h
  ·rename_i p el ti hx F hi;split at h
   ·exact AB h
   ·rename_i hs;obtain⟨x',I,i⟩:=h;refine⟨_,i,λhc w' A=>bQ ?_⟩;have TO:=tJ A (iG I hg hc);have B: ∃a0,p=some a0:=by cases el<;>(obtain⟨a0,h0, _⟩:=TO;exact⟨a0,h0⟩)
    obtain⟨a0,rfl⟩:=B;simp[execOp,Instr.loadAt,l.ev hc hx,H7,UJ F hi hs TO]
  ·exact AB h
 |lookup xt m ix ok=>
  simp only at h;split at h
  ·rename_i Q R p kd n E T U;split at h
   ·rename_i kd' el ti V F hi;split at h
    ·rename_i z G;split at h
     ·rename_i W;subst W;obtain⟨x',I,i⟩:=h;refine⟨_,i,λhc w' A=>bQ ?_⟩;have X:=iG I hg hc;have Y:jV w' p kd n z (el.ia x'):=by
       obtain⟨r,es,J,h1,Z,h3⟩:=X;exact⟨r,es,J,h1,A.obj Z,h3⟩
      simp only[execOp,AY,l.ev hc T,l.ev hc U,Qk E V hi G Y,Ax,Ay]
     ·exact AB h
    ·exact AB h
   ·exact AB h
  ·rename_i Q R p kd n E T U;split at h
   ·rename_i kd' el ti V F hi;split at h
    ·rename_i z G;split at h
     ·rename_i W;subst W;obtain⟨x',b',I,i⟩:=h;refine⟨_,i,λhc w' A=>bQ ?_⟩;have X:=iG I hg hc;have Y:mA w' p kd n z (el.ia x') b':=by
       obtain⟨r,es,J,h1,Z,h3⟩:=X;exact⟨r,es,J,h1,A.obj Z,h3⟩
      simp only[execOp,AY,l.ev hc T,l.ev hc U,KW E V hi G Y,Ax,Ay]
     ·exact AB h
    ·exact AB h
   ·exact AB h
  ·exact AB h
 |pick c x y=>
  simp only at h;split at h
  ·rename_i t;split at h
   ·rename_i ec hec;have known: ∀(b:Bool),ec.k=some b->j9 ops a.tmps ch->a.eval (.tmp t)= .bool b:=by
     intro b hb _;obtain⟨hv,qP⟩:=l.Cl ec (bV hec) b hb;have:=l.yes t ec hec (by rw[qP];exact eM);simp[GF,this,hv]
    split at h
    ·rename_i i;split at h
     ·rename_i v hv;refine⟨v,h,λhc w' _=>bQ ?_⟩;have eb:=known true i hc;simp[execOp,eb,l.ev hc hv,asBool]
     ·exact AB h
    ·rename_i i;split at h
     ·rename_i v hv;refine⟨v,h,λhc w' _=>bQ ?_⟩;have eb:=known false i hc;simp[execOp,eb,l.ev hc hv,asBool]
     ·exact AB h
    ·split at h
     ·rename_i j hj;have AX:dI ops j=some t:=by
       have:=OM hj;simpa using this
      have key: ∀(b u v:Bool),yg env ch (.tmp t)=some (.bool b)->yg env ((j,true)::ch) x=some (.bool u)->yg env ((j,false)::ch) y=some (.bool v)->
       ∀w',j9 ops a.tmps ch->du P ⟨dst,.pick (.tmp t) x y,type,pos,after,guard⟩ a w' (.bool (bif b then u else v)):=by
       intro b u v hb E hv w' hc;refine bQ ?_;have eb:=l.ev hc hb;have hyj:yielded ops a.tmps j=some b:=by
        unfold yielded;unfold dI at AX;simp only[AX,Option.bind_some];have:a.tmps[t]? =some (.bool b):=by
         unfold GF at eb;simp only[GD] at eb;cases ht:a.tmps[t]? with
         |none=>rw[ht] at eb;simp[undef] at eb
         |some z=>rw[ht] at eb;simp at eb;rw[eb]
        rw[this]
       cases b with
       |true=>
        have eu:=l.ev (ch:=(j,true)::ch) (λz G=>by
         rcases D8.1 G with rfl|G
         ·exact hyj
         ·exact hc z G) E
        simp[execOp,eb,eu,asBool]
       |false=>
        have eu:=l.ev (ch:=(j,false)::ch) (λz G=>by
         rcases D8.1 G with rfl|G
         ·exact hyj
         ·exact hc z G) hv
        simp[execOp,eb,eu,asBool]
      split at h
      ·rename_i b u v hb E hv;split at h
       ·cases (show v=false by simp only[yg,DA,Value.bool.injEq] at hv;exact hv.symm);refine⟨_,h,λhc w' _=>?_⟩;have:=key b u false hb E hv w' hc;cases b<;>exact this
       ·cases (show u=true by simp only[yg,DA,Value.bool.injEq] at E;exact E.symm);refine⟨_,h,λhc w' _=>?_⟩;have:=key b true v hb E hv w' hc;cases b<;>exact this
       ·exact⟨_,h,λhc w' _=>key b u v hb E hv w' hc⟩
      ·exact AB h
     ·exact AB h
   ·exact AB h
  ·exact AB h
 |call c=>
  obtain⟨callee,args,ts⟩:=c;cases callee with
  |value f=>
   simp only at h;split at h
   ·rename_i gm first cap adq hf has
    split at h
    ·rename_i rB;split at h
     ·rename_i e F;split at h
      ·rename_i pre v ack;refine⟨v,h.2,λhc w' _=>?_⟩;have dU:=tL (P:=P) (dst:=dst) (type:=type) (pos:=pos) (after:=after) (guard:=guard) (ts:=ts) (l.ev hc hf) (mi (λx v hx=>l.ev hc hx) has) (w:=w') rB;unfold du;rw[dU];refine⟨rfl,?_⟩;have:=e.ok _ _ _ ack (iG h.1 hg hc) w';rw[Jj F] at this;exact this
      ·exact AB h
     ·obtain⟨x,hq,i⟩:=h;refine⟨_,i,λhc w' A=>?_⟩;have dU:=tL (P:=P) (dst:=dst) (type:=type) (pos:=pos) (after:=after) (guard:=guard) (ts:=ts) (l.ev hc hf) (mi (λx v hx=>l.ev hc hx) has) (w:=w') rB;unfold du;rw[dU];exact⟨rfl,iG hq hg hc w' A⟩
    ·exact AB h
   ·exact AB h
  |invoke r m=>exact M h
  |builtin b=>
   cases b with
   |len=>
    simp only at h;split at h
    ·rename_i p B;obtain⟨n,hn,i⟩:=h;refine⟨_,i,λhc w' A=>bQ ?_⟩;obtain⟨x,t,Q,R,rfl,rfl,E,hx⟩:=Fz B;obtain⟨r,es,J,rfl,hb,rfl⟩:=iG hn hg hc;have oP:w'.heap[r]? =some (.map es J):=A.obj hb;simp[execOp,resolve,invoke,builtin,GH,l.ev hc hx,run_underlying E,DB oP,goInt,DI]
    ·split at h
     ·rename_i p B;obtain⟨n,hn,i⟩:=h;refine⟨_,i,λhc w' A=>bQ ?_⟩;obtain⟨x,t,Q,R,rfl,rfl,E,hx⟩:=Dt B;obtain⟨r,cap,rA,s,m,rfl,hb,rfl⟩:=iG hn hg hc;have oP:w'.heap[r]? =some (.chan cap ⟨rA⟩ false s m false):=A.obj hb;have uW:(getObj r).run P w'= .ok (.chan cap ⟨rA⟩ false s m false) w':=by simp[getObj,Sem.run,oP]
      simp[execOp,resolve,invoke,builtin,GH,l.ev hc hx,run_underlying E,uW,goInt,DI]
     ·exact M h
   | _=>exact M h
 |entry it=>
  simp only at h;split at h
  ·rename_i p d hx;split at h
   ·obtain⟨x,v,F,i⟩:=h;refine⟨_,i,λhc w' A=>bQ ?_⟩;simp only[execOp,AY,l.ev hc hx,n_ (za A (iG F hg hc)),Ax,Ay]
   ·obtain⟨x,v,F,i⟩:=h;refine⟨_,i,λhc w' A=>bQ ?_⟩;simp only[execOp,AY,l.ev hc hx,n_ (za A (iG F hg hc)),Ax,Ay]
   ·obtain⟨x,v,F,i⟩:=h;refine⟨_,i,λhc w' A=>bQ ?_⟩;simp only[execOp,AY,l.ev hc hx,n_ (za A (iG F hg hc)),Ax,Ay]
   ·exact AB h
  ·exact AB h
 |binOp op t x y yt=>
  simp only at h;split at h
  ·rename_i v B;exact pure ⟨none,v⟩ B h
  ·rename_i p v B;exact pure ⟨some p,v⟩ B h
  ·split at h
   ·rename_i p q B;obtain⟨hq,i⟩:=h;exact⟨_,i,λhc w' A=>bQ (ZB (o:=⟨dst,.binOp op t x y yt,type,pos,after,guard⟩) (λx v hx=>l.ev hc hx) B (Jk A (iG hq hg hc)))⟩
   ·exact AB h
 | _=>exact M h
variable {P:AM}
def WF (r:Option Nat):Fence:={DY with round:=r}
theorem jP {r:Option Nat} {n:Nat} {f:B2} {args:Array A2} {w:A1} {R:Ending->A1->Prop}:CallsIn (WF r) n P f args w R<->Calls P f args w R:=
 callsIn_wide
theorem XH (r:Option Nat) (f:B2):(WF r).fn f:=trivial
theorem Jl (r:Option Nat) (n:Nat):(WF r).room n:=room_wide n
theorem Ah {w:A1} {p q:AC} {v:A2} (h:(w.cell? q).isSome=true):((w.setCell p v).cell? q).isSome=true:=by
 unfold LL at h ⊢;simp[M4]
 grind
theorem TL {w:A1} {p q:AC} {v:A2}:(w.setCell p v).frozen? q=w.frozen? q:=by
 simp
theorem Du {w:A1} {a:AC} {v:A2} (hv:v.oneCell'=true) (h:(w.cell? a).isSome=true) (b:w.frozen? a=false):(store a v).run P w= .ok () (w.setCell a v):=by
 rw[run_store P w a v _ hv]
 grind
theorem jm: ∀(vs:List A2) (a:AC) (i:Nat) (w:A1),Ew vs=true->(∀j,j<vs.length->(w.cell? (a.add (i+j))).isSome=true/\w.frozen? (a.add (i+j))=false)->
 (storeCells a vs i).run P w= .ok () (putAt w a vs i)
 |[],a,i,w, _, _=>by rfl
 |v::r,a,i,w,b,h=>by
  simp only[Ew,I2,Bf] at b;have h0:=h 0;simp at h0;have c:=jm r a (i+1) (w.setCell (a.add i) v) b.2 (λj d=>by
   simp_all
   grind[Ah])
  simp[storeCells,Du b.1 h0.1 h0.2,c,putAt]
theorem wrap_i64 {n:Int} (h0: -(2 ^ 63)<=n) (h1:n<2 ^ 63):E4.wrap n=n:=by
 show(if(true&&decide (n % 2 ^ 64>=2 ^ 63))=true then n % 2 ^ 64 - 2 ^ 64 else n % 2 ^ 64)=n
 grind
theorem run_makeSlice {t e:AL} {i:TypeInfo} {z:A2} (b:P.underlying t=some (.slice e)) (hi:P.info? e=some i) (c:i.zero=some z) (k d:B1) {n m:Int} (h:aaO i.bytes n m) (w:A1):
 (S0 t (.int k n) (.int d m)).run P w= .ok (.slice (some ⟨w.heap.size,0,none⟩) n.toNat m.toNat) (w.alloc (.cells (nP z.cells (m.toNat*i.size)) e)):=by
 obtain⟨h0,h1,p,q⟩:=h;have wn:E4.wrap n=n:=wrap_i64 (by omega) (by omega);have f:E4.wrap m=m:=wrap_i64 (by omega) (by omega);have g: ¬ m<0:=by omega
 have j: ¬ n<0:=by omega
 have l: ¬ n>m:=by omega
 have o: ¬ (i.bytes*m>2 ^ 48):=by omega
 unfold S0;simp only[AY,bE b,Ax,asInt,asIntOf,Ay,fK hi,wn,f,g,j,l,o,decide_false,J3,Ep,if_false,run_askRoom,dw hi,newRow];by_cases a:m.toNat*i.size=0
 ·simp[a,nP]
 ·simp[a,nP,zeroValue,fK hi,c]
theorem xO {w:A1} {p:Option AC} {n size len cap:Nat} {vs:List A2} (h:oQ w p (n*size) vs):(FS size n (.slice p len cap)).run P w= .ok ⟨vs⟩ w:=by
 cases p with
 |none=>subst h;rfl
 |some a=>
  obtain⟨b⟩:=h;have:=run_loadCellsFrom (P:=P) (w:=w) (a:=a) vs 0 #[] (by grind);rw[b] at this;simp only[FS,loadCells,this];simp
theorem Ez {w:A1} {p:Option AC} {n:Nat} {vs:List A2} (h:oQ w p n vs):oQ w.drew p n vs:=h
theorem Ql {ts:Array AL} {t u e:AL} {i:TypeInfo} {ty:AL} {p q:Option AC} {n m k l:Nat} (c:ts= #[t,u]) (d:P.underlying t=some (.slice e))
 (hi:P.info? e=some i) {w:A1} {R:Int->A1->Prop} (h:cpR w i.size (p,n) (q,k) R):
 ∃r b,(T0 ts ty #[.slice p n m,.slice q k l]).run P w= .ok (.int .i64 r) b/\R r b:=by
 subst c;obtain⟨new,f,g,j⟩:=h;have o:(FS i.size _ (.slice q k l)).run P w= .ok ⟨new⟩ w:=xO f;refine⟨_, _,?_,j⟩;unfold T0;have h0: #[t,u][0]? =some t:=rfl;simp only[h0,IR,Ga,IV,AY,bE d,Ax,dw hi,M5,Ay,o];cases p with
 |none=>
  rfl
 |some a=>
  rcases g with h|rfl|⟨⟨a',s,hc⟩,v⟩
  ·cases h
  ·rfl
  ·cases s;have hs:=jm (P:=P) new a 0 w v (by grind);simp only[AY,hs,Ax,Ay,goInt];rfl
theorem Hl {ts:Array AL} {t u e y:AL} {i:TypeInfo} {z:A2} {ty:AL} {p q:Option AC} {n m k l:Nat} (A:ts= #[t,u]) (f:P.underlying t=some (.slice e)) (g:P.underlying u=some (.slice y))
 (hi:P.info? e=some i) (B:i.zero=some z) (hb:i.bytes≠0) {w:A1} {R:Option AC×Nat×Nat->A1->Prop} (h:mH w e i.size i.bytes z.cells (p,n,m) (q,k,l) R):
 ∃r o,(Mr ts ty #[.slice p n m,.slice q k l]).run P w= .ok (.slice r.1 r.2.1 r.2.2) o/\R r o:=by
 subst A;obtain⟨fW,new,C,s,D,E⟩:=h;have F:(FS i.size k (.slice q k l)).run P w= .ok ⟨new⟩ w:=xO s;by_cases b:n+k<=m
 ·obtain⟨G,d⟩:=D b;refine⟨_, _,?_,d⟩;unfold Mr;have h0:(#[t,u]:Array AL)[0]? =some t:=rfl;have h1:(#[t,u]:Array AL)[1]? =some u:=rfl;simp only[h0,h1,IR,Ga,IV,AY,bE f,bE g,Ax,dw hi,M5,Ay,Ep,if_false,b,if_true,Oi,F];cases p with
  |none=>
   simp only[Ay,jB,T3]
  |some a=>
   rcases G with rfl|⟨⟨a',v,hc⟩,H⟩
   ·simp[storeCells,jB,putAt]
   ·simp only[GJ,DA] at v;subst v;have hs:=jm (P:=P) new (a.add (n*i.size)) 0 w H (λj I=>by simpa using hc j I);rw[AY,hs];rfl
 ·obtain⟨J,d⟩:=E (by show m<n+k;omega);have K:=λc hc=>d c hc;have L: ∀(x:Nat),n+k<=(Question.appendCap (n+k) m e).cut x:=λx=>by simp[Question.cut]
  refine⟨_, _,?_,K ((Question.appendCap (n+k) m e).cut (w.tape w.drawn (.appendCap (n+k) m e))) (L _)⟩;unfold Mr;have h0:(#[t,u]:Array AL)[0]? =some t:=rfl;have h1:(#[t,u]:Array AL)[1]? =some u:=rfl;have M: ¬ (((n+k:Nat):Int)>E4.max/\(False\/i.bytes=0)):=by simp[hb]
  have N: ¬ (S2 (n+k) m*i.bytes>2 ^ 48):=by simp only at J;omega
  have O:(FS i.size n (.slice p n m)).run P w.drew= .ok ⟨fW⟩ w.drew:=xO (Ez C);have Q:(FS i.size k (.slice q k l)).run P w.drew= .ok ⟨new⟩ w.drew:=xO (Ez s);simp only[h0,h1,IR,Ga,IV,AY,bE f,bE g,Ax,dw hi,M5,Ay,Ep,if_false,b,Oi,if_true,
   fK hi]
  rw[if_neg M];simp only[AY,fK hi,Ax,N,if_false,run_choose_drew,Question.forced,Ep,run_askRoom,O,Q,zeroValue,B,newRow,Ay,run_newObj_alloc];rfl
theorem Ai {t e:AL} {i:TypeInfo} {z:A2} {len:Nat} {parts:Array (Nat×A2)} {ps:List (Nat×A2)} {cs:Array A2} (c:P.underlying t=some (.slice e)) (hi:P.info? e=some i) (d:i.zero=some z)
 (f:parts.toList=ps) (g:A7 (λk=>some (k*i.size,i.size)) ⟨(B4 (len*i.size)).map (z.cells.toList[· % z.cells.toList.length]!)⟩ ps=some cs) (j:len*i.size<=2 ^ 24) (w:A1):
 (S1 t len parts).run P w= .ok (.slice (some ⟨w.heap.size,0,none⟩) len len) (w.alloc (.cells cs e)):=by
 have h: ¬ len*i.size>2 ^ 24:=by omega
 have a:H5 (λk=>some (k*i.size,i.size)) ((Array.range (len*i.size)).map ((if len*i.size=0 then #[] else z.cells)[· % (if len*i.size=0 then #[] else z.cells).size]!)) ps=some cs:=by
  rw[<-y9 g];congr 1
  grind
 unfold S1;simp only[AY,bE c,Ax,dw hi,h,newRow];by_cases b:len*i.size=0
 simp_all
 ·simp only[b,if_false] at a;simp only[b,if_false,zeroValue,AY,fK hi,Ax,d,Ay,f,a];simp
theorem cU {r:Option Nat} {ev:Operand->A2} {o:Oper} (h: ∀c,o.op≠ .defer c):o.semAt (WF r).round ev=execOp ev o:=Oper.semAt_eq _ _ _ h
variable {S:Nat->Option (Option A2)} {ops:Array Oper} {N:Nat} {D:List Deferred} {env:List bR} {a:Act}
def fa (o:Oper):Bool:=
 match o.op with
 | .alloc _| .box .. | .buildSlice .. | .makeSlice .. | .makeMap .. | .makeChan .. =>true
 | _=>false
def CB (C:dM P) (o:Oper):Bool:=
 match o.op with
 | .move _| .assign _| .pick .. | .alloc _| .box .. | .buildSlice .. | .makeSlice .. | .makeMap .. | .makeChan .. | .build .. | .load .. | .nilCheck _| .binOp .. | .unOp .. | .convert .. | .makeFunc .. | .slice .. | .fieldAddr .. | .field .. | .indexAddr .. | .index .. | .extract .. | .lookup .. =>false
 | .call c=>match c.callee with
   | .value (.func f)=> !((yA C.sM f).isSome||C.quiet.contains f)
   | .builtin .len| .builtin .min| .builtin .max=>false
   | _=>true
 | _=>true
theorem Qm {C:dM P} {ρ:Operand->Option A2} {o:Oper} (a: ∀f,ρ (.func f)=some (.func (.func f) #[] #[])) (h:CB C o=false) (b:OR C ρ o=true):fa o=true:=by
 grind[CB,OR,fa]
theorem Hm {P:AM} {ts:Array AL} {ty t u d k:AL} {kd:B1} {n:Int} {w:A1} {r:Nat} {es:Array DD} {e:Nat} {K:A1->Prop} (l:ts= #[t,u]) (f:P.underlying t=some (.map d k)) (a:P.underlying d=some (.int kd)) (hb:bH w r es e)
 (h:AD w r kd n es e K): ∃g,(N4 ts ty #[.map (some r),.int kd n]).run P w= .ok (.tuple #[]) g/\K g:=by
 subst l;have b:=hb;have j:Gw (.int kd) (.int kd n):=by rfl
 unfold AD at h;split at h
 ·rename_i c;refine⟨_,?_,h⟩;simp[N4,run_underlying f,DB b,DO a j,DQ a c,H4 _ b,FR]
 ·rename_i i v c;refine⟨_,?_,h⟩;simp[N4,run_underlying f,DB b,DO a j,DQ a c,H4 _ b,DI,FR]
 grind
theorem ZD {r:Option Nat} {o:Oper} {w w':A1} {K:A2->A1->Prop} {next:Act->A1->Prop} {Q:Exit->Act->A1->Prop} (g:Fit S ops N D env a)
 {C:dM P} (h:eop C (yg env []) o w K) (H:Ext w w') (E: ∀v G,K v G->(fa o=true->Ext w' G)->next (a.put o.dst v) G):o.wpIn (WF r) 0 P a w' next Q:=by
 have hc:j9 ops a.tmps []:=λx hx=>by cases hx
 refine⟨λ_ _=>trivial,?_⟩;obtain⟨dst,op,type,pos,after,guard⟩:=o;unfold eop at h;cases op<;>simp only at h<;>(try exact AB h)
 case store t x y=>
  rw[cU (by simp)];split at h
  ·rename_i p v i hx hy hi;split at h
   ·rename_i hs;obtain⟨⟨ho,a0,hp,ZE⟩,A⟩:=h w' H;subst hp;have iF:v.cells.size=i.size:=by simpa[ve] using hs
    have uN:=jm (P:=P) (ve v) a0 0 w' ho (λj hj=>by simpa using ZE j hj);have:(execOp a.eval ⟨dst,.store t x y,type,pos,after,guard⟩).run P w'= .ok .skip (jB w' (some a0) (ve v)):=by
     simp only[execOp,Instr.storeAt,g.ev hc hx,g.ev hc hy,H7,storeVar,AY,Ay,Ax,dw hi,iF,ne_eq,not_true,if_false];rw[show v.cells.toList=ve v from rfl,uN];rfl
    rw[this];exact E _ _ A (λB=>by simp[fa] at B)
   ·exact AB h
  ·exact AB h
 case mapUpdate t m x v=>
  rw[cU (by simp)];split at h
  ·rename_i kt O p kd n val I R hx hv;split at h
   ·rename_i kd' T;split at h
    ·rename_i U;subst U;obtain⟨r,es,L,rfl,hb,V⟩:=h w' H;obtain⟨G,dU,A⟩:=Bk I T hb V;have:(execOp a.eval ⟨dst,.mapUpdate t m x v,type,pos,after,guard⟩).run P w'= .ok .skip G:=by
      simp only[execOp,AY,g.ev hc R,g.ev hc hx,g.ev hc hv,dU,Ax,Ay]
     rw[this];exact E _ _ A (λB=>by simp[fa] at B)
    ·exact AB h
   ·exact AB h
  ·exact AB h
 case insert t m x v=>
  rw[cU (by simp)];split at h
  ·rename_i kt O p kd n val I R hx hv;split at h
   ·rename_i kd' T;split at h
    ·rename_i U;subst U;obtain⟨r,es,L,rfl,hb,V⟩:=h w' H;obtain⟨G,dU,A⟩:=Bk I T hb V;have:(execOp a.eval ⟨dst,.insert t m x v,type,pos,after,guard⟩).run P w'= .ok .skip G:=by
      simp only[execOp,AY,g.ev hc R,g.ev hc hx,g.ev hc hv,dU,Ax,Ay]
     rw[this];exact E _ _ A (λB=>by simp[fa] at B)
    ·exact AB h
   ·exact AB h
  ·exact AB h
 case alloc e=>
  rw[cU (by simp)];split at h
  ·rename_i i hi;split at h
   ·rename_i z M;have h:aM w z.cells e (λb G=>K (.pointer (some ⟨b,0,none⟩)) G):=by
     have e1:YY P e=z.cells:=by unfold YY;simp only[hi,M]
     split at h
     ·rw[e1] at h;exact h
     ·exact h
    have A:=h w' H;have:(execOp a.eval ⟨dst,.alloc e,type,pos,after,guard⟩).run P w'= .ok (.value (.pointer (some ⟨w'.heap.size,0,none⟩))) (w'.alloc (.cells z.cells e)):=by
     simp[execOp,Instr.alloc,zeroValue,fK hi,M,newVar,newRow]
    rw[this];exact E _ _ A (λ_=>Ext.alloc _ _)
   ·exact AB h
  ·exact AB h
 case box e x=>
  rw[cU (by simp)];split at h
  ·rename_i v hv;have A:=h w' H;have:(execOp a.eval ⟨dst,.box e x,type,pos,after,guard⟩).run P w'= .ok (.value (.pointer (some ⟨w'.heap.size,0,none⟩))) (w'.alloc (.cells v.cells e)):=by
    simp[execOp,Instr.box,g.ev hc hv,newVar,newRow]
   rw[this];exact E _ _ A (λ_=>Ext.alloc _ _)
  ·exact AB h
 case buildSlice t len parts=>
  rw[cU (by simp)];split at h
  ·rename_i el ps I T1;split at h
   ·rename_i i hi;split at h
    ·rename_i z M;split at h
     ·rename_i cs eA;split at h
      ·rename_i hlen;have A:=h w' H;have e:=y_ (λx v hx=>g.ev hc hx) T1;have e':(parts.map λ(i,x)=>(i,a.eval x)).toList=ps:=by rw[<-e];simp
       have dU:=Ai (P:=P) I hi M e' eA hlen w';have:(execOp a.eval ⟨dst,.buildSlice t len parts,type,pos,after,guard⟩).run P w'= .ok (.value (.slice (some ⟨w'.heap.size,0,none⟩) len len)) (w'.alloc (.cells cs el)):=by
        simp only[execOp,AY,dU,Ax,Ay]
       rw[this];exact E _ _ A (λ_=>Ext.alloc _ _)
      ·exact AB h
     ·exact AB h
    ·exact AB h
   ·exact AB h
  ·exact AB h
 case makeSlice t l c=>
  rw[cU (by simp)];split at h
  ·rename_i el k n k' m I hl Cm;split at h
   ·rename_i i hi;split at h
    ·rename_i z M;obtain⟨jT,A⟩:=h w' H;have dU:=run_makeSlice (P:=P) I hi M k k' jT w';have:(execOp a.eval ⟨dst,.makeSlice t l c,type,pos,after,guard⟩).run P w'= .ok (.value (.slice (some ⟨w'.heap.size,0,none⟩) n.toNat m.toNat)) (w'.alloc (.cells (nP z.cells (m.toNat*i.size)) el)):=by
      simp only[execOp,g.ev hc hl,g.ev hc Cm,AY,dU,Ax,Ay]
     rw[this];exact E _ _ A (λ_=>Ext.alloc _ _)
    ·exact AB h
   ·exact AB h
  ·exact AB h
 case makeMap t rs=>
  rw[cU (by simp)];split at h
  ·have A:=h w' H;have:(execOp a.eval ⟨dst,.makeMap t none,type,pos,after,guard⟩).run P w'= .ok (.value (.map (some w'.heap.size))) (w'.alloc (.map #[] 0)):=by
    simp[execOp,Instr.makeMap]
   rw[this];exact E _ _ A (λ_=>Ext.alloc _ _)
  ·exact AB h
 case makeChan t sz=>
  rw[cU (by simp)];split at h
  ·rename_i d e k n I hs;split at h
   ·rename_i i hi;split at h
    ·rename_i hn;have A:=h w' H;have hb: ¬ (n<0\/n>E4.max\/i.bytes*n>2 ^ 48 - 112):=by
      have:E4.max=9223372036854775807:=by decide
      omega
     have:(execOp a.eval ⟨dst,.makeChan t sz,type,pos,after,guard⟩).run P w'= .ok (.value (.chan (some w'.heap.size))) (w'.alloc (.chan n.toNat #[] false 0 0 false)):=by
      have oP: ¬ (n<0\/9223372036854775807<n\/281474976710544<(i.bytes:Int)*n):=by omega
      simp[execOp,Instr.makeChan,g.ev hc hs,asInt,asIntOf,run_underlying I,fK hi];exact λc=>absurd c oP
     rw[this];exact E _ _ A (λ_=>Ext.alloc _ _)
    ·exact AB h
   ·exact AB h
  ·exact AB h
 case range xt x=>
  rw[cU (by simp)];split at h
  ·rename_i kt O p I hx;obtain⟨r,es,L,rfl,hb,A⟩:=h w' H;have oP:w'.heap[r]? =some (.map es L):=hb;have:(execOp a.eval ⟨dst,.range xt x,type,pos,after,guard⟩).run P w'= .ok (.value (.pointer (some ⟨w'.heap.size,0,none⟩))) (w'.alloc (.mapIter (some r) L #[] L)):=by
    simp[execOp,Instr.range,g.ev hc hx,run_underlying I,DB oP,DI]
   rw[this];exact E _ _ A (λB=>by simp[fa] at B)
  ·exact AB h
 case next it b=>
  rw[cU (by simp)];split at h
  ·rename_i p hx;obtain⟨r,m,since,seen,last,es,L,rfl,hr,hb,w_,hold,k0,k1⟩:=h w' H;rcases run_next_at (P:=P) w' type r m since last seen es L hr hb hold w_ with ⟨h0,dU⟩|⟨e,J,w1,xd,dU⟩
   ·have:(execOp a.eval ⟨dst,.next it false,type,pos,after,guard⟩).run P w'= .ok (.value (.tuple ⟨[.bool false]⟩)) w':=by
     simp only[execOp,AY,g.ev hc hx,dU,Ax,Ay]
    rw[this];refine E _ _ (k0 (λe J=>?_) w' (Ext.refl _)) (λB=>by simp[fa] at B);unfold leftOf at h0;have h1:=Array.eq_empty_of_size_eq_zero h0;rw[Array.filter_eq_empty_iff] at h1;simpa using h1 e (by simpa using J)
   ·have:(execOp a.eval ⟨dst,.next it false,type,pos,after,guard⟩).run P w'= .ok (.value (.tuple ⟨[.bool true,e.key,e.val]⟩)) (w1.putObj r (.mapIter (some m) since (seen.push e.born) L)):=by
     simp only[execOp,AY,g.ev hc hx,dU,Ax,Ay];rfl
    rw[this];unfold leftOf at J;have jS:e∈es.toList/\seen.contains e.born=false:=by simpa using J
    refine E _ _ (k1 e jS.1 jS.2 w1 ?_) (λB=>by simp[fa] at B);rcases xd with rfl|rfl
    ·exact Ext.refl _
    ·exact⟨rfl,rfl,rfl,DV _,λk A=>rfl⟩
  ·exact AB h
 case call c=>
  obtain⟨callee,args,ts⟩:=c;rw[cU (by simp)];simp only at h;split at h
  ·
   split at h
   ·rename_i m x t u IY aaP;split at h
    ·rename_i kt O p kd n I R hx;split at h
     ·rename_i kd' T;split at h
      ·rename_i U;subst U;obtain⟨r,es,L,rfl,hb,V⟩:=h w' H;have W:args= #[m,x]:=by cases args;simp_all
       have et':ts= #[t,u]:=by cases ts;simp_all
       obtain⟨G,dU,A⟩:=Hm (P:=P) (ty:=type) et' I T hb V;have:(execOp a.eval ⟨dst,.call ⟨.builtin .delete,args,ts⟩,type,pos,after,guard⟩).run P w'= .ok (.value (.tuple ⟨[]⟩)) G:=by
        subst W;simp only[execOp,resolve,AY,Ay,Ax,invoke,builtin,Gc,Gd,Gi,g.ev hc R,g.ev hc hx,dU]
       rw[this];exact E _ _ A (λB=>by simp[fa] at B)
      ·exact AB h
     ·exact AB h
    ·exact AB h
   ·exact AB h
  ·
   split at h
   ·rename_i s x t u IY aaP;split at h
    ·rename_i e ue p n m q k l I hu' hs hx;split at h
     ·rename_i i hi;split at h
      ·rename_i z M;split at h
       ·exact AB h
       ·rename_i hb;have T5:=h w' H;have W:args= #[s,x]:=by cases args;simp_all
        have O:ts= #[t,u]:=by cases ts;simp_all
        obtain⟨res,G,dU,X⟩:=Hl (P:=P) (ty:=type) O I hu' hi M hb T5;have:(execOp a.eval ⟨dst,.call ⟨.builtin .append,args,ts⟩,type,pos,after,guard⟩).run P w'= .ok (.value (.slice res.1 res.2.1 res.2.2)) G:=by
         subst W;simp only[execOp,resolve,AY,Ay,Ax,invoke,builtin,Gc,Gd,Gi,g.ev hc hs,g.ev hc hx,dU]
        rw[this];exact E _ _ X (λB=>by simp[fa] at B)
      ·exact AB h
     ·exact AB h
    ·exact AB h
   ·exact AB h
  ·
   split at h
   ·rename_i s x t u IY aaP;split at h
    ·rename_i e p n m q k l I hs hx;split at h
     ·rename_i i hi;have T5:=h w' H;have W:args= #[s,x]:=by cases args;simp_all
      have O:ts= #[t,u]:=by cases ts;simp_all
      obtain⟨res,G,dU,X⟩:=Ql (P:=P) (ty:=type) (m:=m) (l:=l) O I hi T5;have:(execOp a.eval ⟨dst,.call ⟨.builtin .copy,args,ts⟩,type,pos,after,guard⟩).run P w'= .ok (.value (.int .i64 res)) G:=by
       subst W;simp only[execOp,resolve,AY,Ay,Ax,invoke,builtin,Gc,Gd,Gi,g.ev hc hs,g.ev hc hx,dU]
      rw[this];exact E _ _ X (λB=>by simp[fa] at B)
     ·exact AB h
    ·exact AB h
   ·exact AB h
  ·rename_i f;split at h
   ·
    rename_i s t;split at h
    ·rename_i v adq Y Z;obtain⟨gm,first,cap,rfl,rB,A⟩:=h w' H;have dU:=tL (P:=P) (dst:=dst) (type:=type) (pos:=pos) (after:=after) (guard:=guard) (ts:=ts) (g.ev hc Y) (mi (λx v hx=>g.ev hc hx) Z) (w:=w') rB;rw[dU];refine⟨by simp[WF,DY],?_⟩;refine(jP (n:=0 - 1)).2 ?_;refine F5 A λe G ⟨x,J,hx⟩=>?_;subst J;exact E _ _ hx (λB=>by simp[fa] at B)
    ·exact AB h
   rename_i f _ _ _;split at h
   ·
    rename_i l first cp adq Y Z
    obtain⟨rec,AF,hlen,ZF⟩:=h w' H;have e:(first++args.map a.eval:Array A2)=⟨first.toList++adq⟩:=by
     have:=mi (λx v hx=>g.ev hc hx) Z;rw[<-this];obtain⟨l1⟩:=first;obtain⟨l2⟩:=args
     simp
    have dU:=run_yield (P:=P) (args:=⟨first.toList++adq⟩) AF (by simpa using hlen);have:(execOp a.eval ⟨dst,.call ⟨.value f,args,ts⟩,type,pos,after,guard⟩).run P w'= .ok (.round l rec.fn ((rec.params.zip ⟨first.toList++adq⟩).foldl (λtmps (t,a)=>tmps.setIfInBounds t a) rec.tmps) rec.assign rec.body) w':=by
     simp only[execOp,resolve,Deferred.ofValue,g.ev hc Y,AY,Ay,Ax,invoke];rw[e,dU]
    rw[this];refine⟨by simp[WF,DY],?_⟩;refine RoundIn.mono (F:=WF r) (n:=0 - 1) ZF λe G ⟨b,J,X⟩=>?_;subst J;exact E _ _ X (λB=>by simp[fa] at B)
   ·rename_i gm first cap adq Y Z
    split at h
    ·rename_i rB;have A:=h w' H;have dU:=tL (P:=P) (dst:=dst) (type:=type) (pos:=pos) (after:=after) (guard:=guard) (ts:=ts) (g.ev hc Y) (mi (λx v hx=>g.ev hc hx) Z) (w:=w') rB;rw[dU];refine⟨by simp[WF,DY],?_⟩;refine(jP (n:=0 - 1)).2 ?_;refine F5 A λe G ⟨x,J,hx⟩=>?_;subst J;exact E _ _ hx (λB=>by simp[fa] at B)
    ·exact AB h
   ·exact AB h
  ·exact AB h
theorem Bl {o:Oper} {c:Call} (b:o.op= .defer c) {w:A1} {v:A2} (h:du P o a w v):False:=by
 obtain⟨dst,op,type⟩:=o;unfold du execOp at h
 simp_all
 generalize (resolve _ c type).run P w=res at h;cases res<;>simp at h
def Wr (S:Nat->Option (Option A2)) (ops:Array Oper):Prop:= ∀o∈ops, ∀k,o.dst=some k->S k=none
theorem Dv {α:Type} {l:List α} (h:l.getLast?=none):l=[]:=List.getLast?_eq_none_iff.1 h
theorem zb {r:Option Nat} {C:dM P} {i:Nat} {o:Oper} {Q:Exit->Act->A1->Prop} (t:ops[i]? =some o) (l: ∀k,o.dst=some k->S k=none):
 ∀(n:Nat) (env:List bR) (w w':A1) (K:List bR->A1->Prop),Fit S ops N D env a->Oy C ops N o n env w K->Ext w w'->
 wpOpIn (WF r) 0 P ops Q i (λa1 w1=>(CB C o=false->Ext w' w1)/\ ∃dh F,K dh F/\Fit S ops N D dh a1/\Ext F w1) a w'
 |0, _, _, _, _, _,h, _=>AB h
 |n+1,env,w,w',K,b,h,j=>by
  simp only[Oy,nQ,jM] at h;split at h
  ·exact AB h
  ·rename_i A;have y:=C' b A;split at h
   ·rename_i q;unfold wpOpIn;simp only[t];rw[if_neg (by rw[y];simp)];exact⟨λ_ _=>trivial,λ_=>Ext.refl _, _,w,h,b.put q l rfl (λ_=>rfl) (λm=>absurd eM m),j⟩
   ·exact AB h
  ·rename_i ch g A;obtain⟨hg,y⟩:=OS b A;split at h
   ·rename_i q;split at h
    ·rename_i I;split at h
     ·rename_i J;have:ch=[]:=Dv J;subst this;unfold wpOpIn;simp only[t];rw[if_pos (y.2 eM)];refine ZD b h j λv B p hx=>⟨λhs=>hx (Qm (C:=C) (ρ:=yg env []) (λ_=>rfl) hs I), _,B,p,?_,Ext.refl _⟩;exact b.put q l rfl (λ_=>rfl) (λm=>absurd eM m)
     ·split at h
      ·rename_i d G;split at h
       ·rename_i e z;split at h
        ·rename_i x hx;split at h
         ·rename_i L;have H:e.ch=[]:=by simpa using L
          cases x with
          |true=>exact zb t l n _ w w' K (b.settle G z H hx) h j
          |false=>exact zb t l n _ w w' K (b.settle G z H hx) h j
         ·exact AB h
        ·exact AB h
       ·exact AB h
      ·exact AB h
    ·obtain⟨v,p,M⟩:=yU b hg h;replace p:=sg p;unfold wpOpIn;simp only[t];by_cases hc:j9 ops a.tmps ch
     ·rw[if_pos (y.2 hc)];have s:=M hc w' j;have O: ∀c,o.op≠ .defer c:=by
       intro c R;exact Bl R s
      refine⟨λ_ _=>trivial,?_⟩;rw[cU O];unfold du at s;split at s
      ·rename_i u B dU;obtain⟨rfl,rfl⟩:=s;rw[dU];exact⟨λ_=>Ext.refl _, _,w,p,b.put q l hg (λ_=>rfl) (λm=>absurd hc m),j⟩
      ·rename_i f args B dU;obtain⟨rfl,T⟩:=s;rw[dU];refine⟨by simp[WF,DY],(jP (n:=0 - 1)).2 ?_⟩;refine F5 T λe U ⟨z,hx⟩=>?_;subst z;exact⟨λ_=>hx, _,w,p,b.put q l hg (λ_=>rfl) (λm=>absurd hc m),j.trans hx⟩
      ·exact s.elim
     ·rw[if_neg (λE=>hc (y.1 E))];exact⟨λ_ _=>trivial,λ_=>Ext.refl _, _,w,p,b.put q l hg (λE=>absurd E hc) (λ_=>rfl),j⟩
   ·exact AB h
theorem EA {r:Option Nat} {C:dM P} {i:Nat} {w w':A1} {K:List bR->A1->Prop} {Q:Exit->Act->A1->Prop} (c:Wr S ops) (d:Fit S ops N D env a)
 (h:Gg C ops N i env w K) (e:Ext w w'):wpOpIn (WF r) 0 P ops Q i (λa1 w1=>(((ops[i]?).map (CB C)).getD true=false->Ext w' w1)/\ ∃dh b,K dh b/\Fit S ops N D dh a1/\Ext b w1) a w':=by
 unfold Gg at h;cases f:ops[i]? with
 |none=>grind
 |some o=>
  simp_all
  have:=zb (r:=r) (Q:=Q) f (c o (by grind)) _ env w w' K d h e;omega
theorem Pm {r:Option Nat} {C:dM P} {Q:Exit->Act->A1->Prop} (e:Wr S ops): ∀(l:List Nat) (env:List bR) (a:Act) (w w':A1) (K:List bR->A1->Prop),Fit S ops N D env a->
 rxL C ops N l env w K->Ext w w'->(∀env a w w',K env w->Fit S ops N D env a->Ext w w'->Q .normal a w')->wpOpsIn (WF r) 0 P ops Q l a w'
 |[],env,a,w,w',K,b,h,c,d=>d env a w w' h b c
 |i::l,env,a,w,w',K,b,h,c,d=>by
  exact wpOpIn_mono (λa1 w1 ⟨_,dh,f,g,j,k⟩=>Pm e l dh a1 f w1 K j g k d) (EA e b h c)
variable {P:AM}
def mB (r:Option Nat) (P:AM) (ops:Array Oper) (Q:Exit->Act->A1->Prop) (IJ:Nat->Bool) (T:Nat->A1->Prop):Nat->Array Bool->Act->A1->Prop
 |0,b,a,w=> ∀w',Ext w w'->B3 .any ops b=[]/\Q .normal a w'
 |fuel+1,b,a,w=> ∀w',Ext w w'->(B3 .any ops b=[]->Q .normal a w')/\
  ∀i∈B3 .any ops b,wpOpIn (WF r) 0 P ops Q i (λa1 w1=>(IJ i=false->Ext w' w1)/\(IJ i=true->T i w1)/\mB r P ops Q IJ T fuel (b.setIfInBounds i true) a1 w1) a w'
section
variable {r:Option Nat} {ops:Array Oper} {Q:Exit->Act->A1->Prop} {IJ:Nat->Bool} {T:Nat->A1->Prop}
theorem n6 {b:Nat} {c:Array Bool} {a:Act} {w w':A1} (h:mB r P ops Q IJ T b c a w) (d:Ext w w'):mB r P ops Q IJ T b c a w':=by
 cases b with
 |zero
 |succ=>exact λe f=>h e (d.trans f)
theorem zL: ∀(fuel:Nat) (b:Array Bool) (a:Act) (w:A1),mB r P ops Q IJ T fuel b a w->wpAnyIn (WF r) 0 P .any ops Q fuel b a w
 |0, _, _,w,h=>h w (Ext.refl w)
 |fuel+1, _, _,w,h=>⟨(h w (Ext.refl w)).1,λi hi=>wpOpIn_mono (λa1 w1 c=>zL fuel _ a1 w1 c.2.2) ((h w (Ext.refl w)).2 i hi)⟩
theorem pO {T T':Nat->A1->Prop} (e: ∀j w,T' j w->T j w): ∀(fuel:Nat) (b:Array Bool) (a:Act) (w:A1),mB r P ops Q IJ T' fuel b a w->mB r P ops Q IJ T fuel b a w
 |0, _, _, _,h=>h
 |fuel+1, _, _, _,h=>λw' c=>⟨(h w' c).1,λi hi=>wpOpIn_mono (λa1 w1 d=>⟨d.1,by grind,pO e fuel _ a1 w1 d.2.2⟩) ((h w' c).2 i hi)⟩
def fZ (P:AM) (ops:Array Oper) (o:Oper) (v:A2) (a:Act) (w:A1):Prop:=
 (Bx o (yielded ops a.tmps)=true/\ ∀w',Ext w w'->du P o a w' v)\/
 (Bx o (yielded ops a.tmps)=false/\v=undef)
theorem fZ.of_same {o:Oper} {v:A2} {a a':Act} {w:A1} (b:fZ P ops o v a w) (c:execOp a'.eval o=execOp a.eval o)
 (d:Bx o (yielded ops a'.tmps)=Bx o (yielded ops a.tmps)):fZ P ops o v a' w:=by grind[fZ,du]
theorem fZ.op {i:Nat} {o:Oper} {v:A2} {a:Act} {w w':A1} (hi:ops[i]? =some o) (d:fZ P ops o v a w) (g:Ext w w') {K:Act->A1->Prop}
 (h: ∀w1,Ext w' w1->K (a.put o.dst v) w1):wpOpIn (WF r) 0 P ops Q i K a w':=by
 unfold wpOpIn;simp only[hi];rcases d with ⟨j,k⟩
 ·rw[if_pos j];have b:=k w' g;refine⟨λ_ _=>trivial,?_⟩;rw[cU (λc l=>Bl l b)];unfold du at b;split at b
  ·rename_i u m dU;obtain⟨rfl,rfl⟩:=b;rw[dU];exact h _ (Ext.refl _)
  ·rename_i f args m dU;obtain⟨rfl,p⟩:=b;rw[dU];refine⟨by simp[WF,DY],(jP (n:=0 - 1)).2 ?_⟩;refine F5 p λe q=>?_
   grind
  ·exact b.elim
 ·simp_all
  exact⟨λ_ _=>trivial,h _ (Ext.refl _)⟩
def yV (ops:Array Oper) (o:Oper) (a a0:Act):Prop:=execOp a.eval o=execOp a0.eval o/\Bx o (yielded ops a.tmps)=Bx o (yielded ops a0.tmps)
theorem KX {j:Nat} {g k:Oper} {v:A2} {a0:Act} (t:ops[j]? =some k) (y:g.apart ops k=true)
 (z: ∀cs b,g.op≠ .select cs b) (A: ∀cs b,k.op≠ .select cs b) (p: ∀c,k.op≠ .defer c)
 (C: ∀c a w,¬ Q (.panic c) a w) {K:Act->A1->Prop} {a:Act} {w':A1}
 (i:yV ops g a a0) (h:wpOpIn (WF r) 0 P ops Q j K (a.put g.dst v) w'):
 wpOpIn (WF r) 0 P ops Q j (λa1 w1=>yV ops g a1 a0/\K (a1.put g.dst v) w1) a w':=by
 obtain⟨h1,m,q⟩:=Oper.apart_spec y;have dA: ∀(a:Act),yV ops g a a0-> ∀u,yV ops g (a.put k.dst u) a0:=λa i u=>
  ⟨(execOp_put g z a k.dst u q).trans i.1,(wanted_put g a k.dst u q).trans i.2⟩
 unfold wpOpIn at*
 simp only[t] at*
 rw[wanted_put k a g.dst v h1] at h;split
 ·rename_i o;simp only[o,if_true] at h;refine⟨λ_ _=>trivial,?_⟩;have h:=h.2;rw[cU p,execOp_put k A a g.dst v h1] at h;rw[cU p];generalize (execOp a.eval k).run P w'=res at*
  cases res with
  |ok x B=>
   cases x<;>simp only[Oper.uponIn] at h ⊢
   case value u=>exact⟨dA a i u,by rw[<-Do a v u m];exact h⟩
   case skip=>exact⟨dA a i _,by rw[<-Do a v undef m];exact h⟩
   case defer d=>
    refine⟨dA ({a with defers:=d::a.defers}:Act) ⟨i.1,i.2⟩ undef,?_⟩;rw[<-Do _ v undef m, <-Act.put_defers];exact h
   case enter f args=>
    refine⟨h.1,CallsIn.mono h.2 λe s n=>?_⟩;cases e with
    |returned u=>exact⟨dA a i u,by rw[<-Do a v u m];exact n⟩
    |panicked c=>grind
    |outgrown=>exact n
   case row row args=>exact⟨h.1,RowsIn.mono h.2 λu s n=>⟨dA a i u,by rw[<-Do a v u m];exact n⟩⟩
   case round l f tmps assign body=>
    refine⟨h.1,RoundIn.mono h.2 λe s n=>?_⟩;cases e with
    |returned u=>exact⟨dA a i u,by rw[<-Do a v u m];exact n⟩
    |panicked c=>simp_all
    |outgrown=>exact n
  |halt x B=>
   cases x<;>simp only[Oper.uponIn] at h ⊢
   grind
 ·rename_i o;simp only[o] at h;exact⟨λ_ _=>trivial,dA a i _,by rw[<-Do a v undef m];exact h.2⟩
def mfO (o:Oper):Bool:=match o.op with
 | .move _=>true
 | .assign _=>true
 | .extract .. =>true
 | _=>false
theorem fZ.mf {o:Oper} {v:A2} {a:Act} {w w1:A1} (f:mfO o=true) (e:fZ P ops o v a w):fZ P ops o v a w1:=by
 obtain⟨dst,op,type,pos,after,guard⟩:=o;cases op with
 |move x
 |assign x=>
  rcases e with ⟨b,c⟩|d
  ·refine .inl ⟨b,λg _=>?_⟩;have:=c w (Ext.refl w);simp only[du,execOp,Ay] at this ⊢;omega
  ·exact .inr d
 |extract x k=>
  rcases e with ⟨b,c⟩|d
  ·refine .inl ⟨b,λg _=>?_⟩;have:=c w (Ext.refl w);cases hx:a.eval x with
   |tuple vs=>
    cases hv:vs[k]? with
    |none=>simp[du,execOp,Hb,hx,hv] at this
    |some u=>
     simp only[du,execOp,Hb,hx,hv,AY,Ay,Ax] at this ⊢;omega
   | _=>simp[du,execOp,Hb,hx] at this
  ·exact .inr d
 | _=>cases f
theorem ui {i:Nat} {g:Oper} {v:A2} {W:Nat->Bool} {T T':Nat->A1->Prop} {a0:Act} (hi:ops[i]? =some g) (I:IJ i=false) (C: ∀(j:Nat) (o:Oper),ops[j]? =some o->(∀cs b,o.op≠ .select cs b)/\ ∀c,o.op≠ .defer c)
 (N: ∀c a w,¬ Q (.panic c) a w) (D: ∀j w,T' j w->T j w):
 ∀(s:Nat) (d:Array Bool) (a:Act) (w:A1),
  (∀j m,ops[j]? =some m->j≠i->d.getD j true=false->W j=false->g.apart ops m=true/\(IJ j=false\/mfO g=true\/ ∀w1,T' j w1->fZ P ops g v a0 w1))->
  (∀j,W j=true->d.getD j true=false/\ ∃m,ops[j]? =some m/\ ∃e∈m.after,DK .any e=true/\(e.on=i\/W e.on=true))->
  i∈B3 .any ops d->yV ops g a a0->fZ P ops g v a0 w->
  mB r P ops Q IJ T' s (d.setIfInBounds i true) (a.put g.dst v) w->mB r P ops Q IJ T (s+1) d a w:=by
 have nil: ∀(d:Array Bool),i∈B3 .any ops d->B3 .any ops d≠[]:=λl J h=>by rw[h] at J;cases J
 intro s
 induction s with
 |zero=>
  intro d a w _ _ t hs u H w' n;refine⟨λh=>absurd h (nil d t),λj x=>?_⟩;by_cases p:j=i
  ·subst p;refine(u.of_same hs.1 hs.2).op hi n λw1 h1=>⟨λ_=>h1,(λf=>by rw[I] at f;cases f),pO D _ _ _ _ (n6 H (n.trans h1))⟩
  ·have:=ready_mono x p;rw[(H w' n).1] at this;cases this
 |succ s O=>
  intro d a w K R t hs u H w' n;refine⟨λh=>absurd h (nil d t),λj x=>?_⟩;by_cases p:j=i
  ·subst p;refine(u.of_same hs.1 hs.2).op hi n λw1 h1=>⟨λ_=>h1,(λf=>by rw[I] at f;cases f),pO D _ _ _ _ (n6 H (n.trans h1))⟩
  ·have h1:=(H w' n).2 j (ready_mono x p);obtain⟨L,m,y,kY⟩:=mem_ready.1 x;have adh:=(mem_ready.1 t).1;have E:W j=false:=by
    grind
   obtain⟨S,q⟩:=K j m y p L E;have F:=KX y S (C i g hi).1 (C j m y).1 (C j m y).2 N hs h1;refine wpOpIn_mono (λa1 w1 U=>?_) F;obtain⟨V,hx,M,G⟩:=U;refine⟨hx,λf=>D _ _ (M f),?_⟩;refine O (d.setIfInBounds j true) a1 w1 ?_ ?_ (ready_mono t (Ne.symm p)) V ?_ ?_
   ·intro k ok G X z A;refine K k ok G X ?_ A;by_cases B:j=k
    ·subst B;exact L
    ·rw[getD_set_ne true B] at z;exact z
   ·intro k A;obtain⟨z,rest⟩:=R k A;refine⟨?_,rest⟩;have B:j≠k:=λe=>by rw[e,A] at E;cases E
    rw[getD_set_ne true B];exact z
   ·have fW:Ext w' w1->fZ P ops g v a0 w1:=λY=>by
     have Z:=n.trans Y;rcases u with ⟨xd,hq1⟩|hn
     ·exact .inl ⟨xd,λw2 F=>hq1 w2 (Z.trans F)⟩
     ·exact .inr hn
    cases f:IJ j with
    |false=>exact fW (hx f)
    |true=>
     rcases q with q|q|q
     ·rw[q] at f;cases f
     ·exact u.mf q
     ·exact q w1 (M f)
   ·rw[Array.setIfInBounds_comm _ _ p];exact G
end
def aaR (C:dM P) (ops:Array Oper) (N:Nat) (o:Oper) (env:List bR) (w:A1) (K:List bR->Prop):Prop:=
 match gd ops env o with
 |none=>dC 41 o.op
 |some none=>if oZ ops N env [] o.dst then xq env o.dst [] none undef K else dC 42 o.op
 |some (some (ch,g))=>
  if oZ ops N env ch o.dst then oM C ops env ch g o w (λv=>yS C o v (λv=>xq env o.dst ch g v K)) else dC 43 o.op
def rxQ (C:dM P) (ops:Array Oper) (N:Nat) (i:Nat) (env:List bR) (w:A1) (K:List bR->Prop):Prop:=
 match ops[i]? with
 |none=>False
 |some ⟨dst,op,type,pos,after,guard⟩=>aaR C ops N ⟨dst,op,type,pos,after,guard⟩ env w K
def Y4 {P:AM} (C:dM P) (ops:Array Oper) (env:List bR) (ch:List (Nat×Bool)) (g:Option Bool) (o:Oper) (w:A1) (K:(A1->Prop)->A2->Prop):Prop:=
 let ρ:=yg env ch
 match o.op with
 | .load t x=>match ρ x,elC C t,P.info? t with
   |some (.pointer p),some el,some i=>if qa el i.size=true then dC 61 o.op else aj w g p el (λx=>K (λw=>gF g (cL w p el x)) (el.ia x))
   | _, _, _=>dC 62 o.op
 | .entry _=>dC 63 o.op
 | .lookup l m ix ok=>match ok,P.underlying l,ρ m,ρ ix with
   |false,some (.map h d),some (.map p),some (.int k n)=>match P.underlying h,u0 P d,P.info? d with
    |some (.int j),some el,some i=>match i.zero with
     |some z=>if k=j then∃x:el.T,gF g (jV w p k n z (el.ia x))/\K (λw=>gF g (jV w p k n z (el.ia x))) (el.ia x) else dC 61 o.op
     |none=>dC 62 o.op
    | _, _, _=>dC 63 o.op
   |true,some (.map h d),some (.map p),some (.int k n)=>match P.underlying h,u0 P d,P.info? d with
    |some (.int j),some el,some i=>match i.zero with
     |some z=>if k=j then∃x:el.T, ∃b:Bool,gF g (mA w p k n z (el.ia x) b)/\K (λw=>gF g (mA w p k n z (el.ia x) b)) (.tuple ⟨[el.ia x,.bool b]⟩) else dC 61 o.op
     |none=>dC 62 o.op
    | _, _, _=>dC 63 o.op
   | _, _, _, _=>dC 64 o.op
 | .pick .. =>oM C ops env ch g o w (λv=>K (λ_=>True) v)
 | .call c=>match c.callee with
   | .value f=>match ρ f,maps ρ c.args.toList with
     |some (.func (.func a) first cap),some adq=>
      if bM P a=true then
       match yA C.sM a with
       |some e=>match e.fn (db first adq cap) with
        |some (pre,v)=>gF g pre/\K (λ_=>True) v
        |none=>dC 64 o.op
       |none=> ∃x:(uX C a).T,gF g (ae P a (db first adq cap) w ((uX C a).ia x))/\K (λw=>gF g (ae P a (db first adq cap) w ((uX C a).ia x))) ((uX C a).ia x)
      else dC 65 o.op
     | _, _=>dC 66 o.op
   | .builtin .len=>match CU P ρ c with
     |some p=> ∃n:Nat,gF g (Us w p n)/\K (λw=>gF g (Us w p n)) (.int .i64 n)
     |none=>match xN P ρ c with
      |some p=> ∃n:Nat,gF g (ChL w p n)/\K (λw=>gF g (ChL w p n)) (.int .i64 n)
      |none=>oM C ops env ch g o w (λv=>K (λ_=>True) v)
   | _=>oM C ops env ch g o w (λv=>K (λ_=>True) v)
 | .binOp .. =>match pop P ρ o with
   |some ⟨none,v⟩=>K (λ_=>True) v
   |some ⟨some p,v⟩=>gF g p/\K (λ_=>True) v
   |none=>match CS P ρ o.op with
    |some (p,q)=>gF g (X9 w p q)/\K (λw=>gF g (X9 w p q)) (.bool (decide (p=q)))
    |none=>dC 67 o.op
 | _=>oM C ops env ch g o w (λv=>K (λ_=>True) v)
def UpC (p:A1->Prop):Prop:= ∀w w',p w->Ext w w'->p w'
theorem nR {g:Option Bool} {p:A1->Prop} (h:UpC p):UpC (λw=>gF g (p w)):=by
 intro w w' a b;cases g with
 |none=>exact h w w' a b
 |some=>exact λhb=>h w w' (a hb) b
def Pn (op:Op):Bool:=match op with
 | .load .. =>false
 | .lookup .. =>false
 | .entry _=>false
 | .binOp .. =>false
 | .call c=>(match c.callee with| .value _=>false| .builtin .len=>false| _=>true)
 | _=>true
theorem KY {C:dM P} {ops:Array Oper} {env:List bR} {ch:List (Nat×Bool)} {g:Option Bool} {o:Oper} {w:A1} {K:A2->Prop} (e:Pn o.op=true)
 (h:oM C ops env ch g o w K): ∃v,K v/\ ∀i,oM C ops env ch g o i (λu=>u=v):=by
 obtain⟨dst,op,type,pos,after,guard⟩:=o;cases op with
 |load t x=>cases e
 |lookup a b c d=>cases e
 |entry a=>cases e
 |binOp op t x y j=>cases e
 |pick c x y=>
  unfold oM at h;simp only at h;unfold oM;simp only;split at h
  ·split at h
   ·split at h
    ·split at h
     ·exact⟨_,h,λ_=>rfl⟩
     ·exact h.elim
    ·split at h
     ·exact⟨_,h,λ_=>rfl⟩
     ·exact h.elim
    ·split at h
     ·split at h
      ·split at h
       ·exact⟨_,h,λ_=>rfl⟩
       ·exact⟨_,h,λ_=>rfl⟩
       ·exact⟨_,h,λ_=>rfl⟩
      ·exact h.elim
     ·exact h.elim
   ·exact h.elim
  ·exact h.elim
 |call c=>
  obtain⟨callee,args,ts⟩:=c;cases callee with
  |value f=>cases e
  |builtin b=>
   cases b with
   |len=>cases e
   | _=>
     unfold oM at h;simp only at h;unfold oM;simp only;split at h
     ·exact⟨_,h,λ_=>rfl⟩
     ·exact⟨_,h.2,λ_=>⟨h.1,rfl⟩⟩
     ·exact h.elim
  | _=>
    unfold oM at h;simp only at h;unfold oM;simp only;split at h
    ·exact⟨_,h,λ_=>rfl⟩
    ·exact⟨_,h.2,λ_=>⟨h.1,rfl⟩⟩
    ·exact h.elim
 | _=>
   unfold oM at h;simp only at h;unfold oM;simp only;split at h
   ·exact⟨_,h,λ_=>rfl⟩
   ·exact⟨_,h.2,λ_=>⟨h.1,rfl⟩⟩
   ·exact h.elim
theorem Qn {C:dM P} {ops:Array Oper} {env:List bR} {ch:List (Nat×Bool)} {g:Option Bool} {o:Oper} {w:A1} {K:(A1->Prop)->A2->Prop} (h:Y4 C ops env ch g o w K):
 ∃p v,K p v/\p w/\UpC p/\ ∀j,p j->oM C ops env ch g o j (λu=>u=v):=by
 obtain⟨dst,op,type,pos,after,guard⟩:=o;have st:Pn op=true->oM C ops env ch g ⟨dst,op,type,pos,after,guard⟩ w (λv=>K (λ_=>True) v)->
  ∃p v,K p v/\p w/\UpC p/\ ∀j,p j->oM C ops env ch g ⟨dst,op,type,pos,after,guard⟩ j (λu=>u=v):=λS h=>by
  obtain⟨v,k,hv⟩:=KY (o:=⟨dst,op,type,pos,after,guard⟩) S h;exact⟨_,v,k,trivial,λ_ _ _ _=>trivial,λj _=>hv j⟩
 unfold Y4 at h;cases op with
 |load t x=>
  simp only at h;split at h
  ·rename_i p el i h1 A G;split at h
   ·exact h.elim
   ·rename_i hb;obtain⟨x',T,k⟩:=h;refine⟨_, _,k,T,nR λw w' d l=>tJ l d,λj d=>?_⟩;unfold oM;simp only[h1,A,G,if_neg hb];exact⟨x',d,rfl⟩
  ·exact h.elim
 |entry a=>exact h.elim
 |lookup xt m ix ok=>
  simp only at h;split at h
  ·rename_i U V p kd n h1 A G;split at h
   ·rename_i W el X L M N;split at h
    ·rename_i z O;split at h
     ·rename_i Q;obtain⟨x,B,k⟩:=h;refine⟨_, _,k,B,nR λw w' d l=>?_,λj d=>?_⟩
      ·obtain⟨r,es,H,D,E,F⟩:=d;exact⟨r,es,H,D,l.obj E,F⟩
      ·unfold oM;simp only[h1,A,G,L,M,N,O,if_pos Q];exact⟨x,d,rfl⟩
     ·exact h.elim
    ·exact h.elim
   ·exact h.elim
  ·rename_i U V p kd n h1 A G;split at h
   ·rename_i W el X L M N;split at h
    ·rename_i z O;split at h
     ·rename_i Q;obtain⟨x,b,B,k⟩:=h;refine⟨_, _,k,B,nR λw w' d l=>?_,λj d=>?_⟩
      ·obtain⟨r,es,H,D,E,F⟩:=d;exact⟨r,es,H,D,l.obj E,F⟩
      ·unfold oM;simp only[h1,A,G,L,M,N,O,if_pos Q];exact⟨x,b,d,rfl⟩
     ·exact h.elim
    ·exact h.elim
   ·exact h.elim
  ·exact h.elim
 |call c=>
  obtain⟨callee,args,ts⟩:=c;cases callee with
  |value f=>
   simp only at h;split at h
   ·rename_i gm first cap adq h1 A
    split at h
    ·rename_i hc;split at h
     ·rename_i e R;split at h
      ·rename_i pre v Y;refine⟨_,v,h.2,trivial,λ_ _ _ _=>trivial,λj _=>?_⟩;unfold oM;simp only[h1,A,if_pos hc,R,Y];exact⟨h.1,trivial⟩
      ·exact h.elim
     ·rename_i R;obtain⟨x,B,k⟩:=h;refine⟨_, _,k,B,nR λw w' d l=>λj A=>d j (l.trans A),λj d=>?_⟩;unfold oM;simp only[h1,A,if_pos hc,R];exact⟨x,d,rfl⟩
    ·exact h.elim
   ·exact h.elim
  |builtin b=>
   cases b with
   |len=>
    simp only at h;split at h
    ·rename_i p d;obtain⟨n,B,k⟩:=h;refine⟨_, _,k,B,nR λw w' d l=>?_,λj I=>?_⟩
     ·obtain⟨r,es,H,D,E,F⟩:=d;exact⟨r,es,H,D,l.obj E,F⟩
     ·unfold oM;simp only[d];exact⟨n,I,rfl⟩
    ·rename_i d;split at h
     ·rename_i p J;obtain⟨n,B,k⟩:=h;refine⟨_, _,k,B,nR λw w' d l=>?_,λj I=>?_⟩
      ·obtain⟨r,cap,Z,s,m,D,E,F⟩:=d;exact⟨r,cap,Z,s,m,D,l.obj E,F⟩
      ·unfold oM;simp only[d,J];exact⟨n,I,rfl⟩
     ·rename_i J;unfold oM at h;simp only[d,J] at h;split at h
      ·rename_i v hv;refine⟨_,v,h,trivial,λ_ _ _ _=>trivial,λj _=>?_⟩;unfold oM;simp only[d,J,hv]
      ·rename_i p v hv;refine⟨_,v,h.2,trivial,λ_ _ _ _=>trivial,λj _=>?_⟩;unfold oM;simp only[d,J,hv];exact⟨h.1,trivial⟩
      ·exact h.elim
   | _=>exact st rfl h
  | _=>exact st rfl h
 |binOp op t x y yt=>
  simp only at h;split at h
  ·rename_i v hv;refine⟨_,v,h,trivial,λ_ _ _ _=>trivial,λj _=>?_⟩;unfold oM;simp only[hv]
  ·rename_i p v hv;refine⟨_,v,h.2,trivial,λ_ _ _ _=>trivial,λj _=>?_⟩;unfold oM;simp only[hv];exact⟨h.1,trivial⟩
  ·rename_i hv;split at h
   ·rename_i p q d;refine⟨_, _,h.2,h.1,nR λw w' d l=>Jk l d,λj I=>?_⟩;unfold oM;simp only[hv,d];exact⟨I,trivial⟩
   ·exact h.elim
 | _=>exact st rfl h
def XI (C:dM P) (ops:Array Oper) (N:Nat) (o:Oper) (env:List bR) (w:A1) (K:(A1->Prop)->List bR->Prop):Prop:=
 match gd ops env o with
 |none=>dC 44 o.op
 |some none=>if oZ ops N env [] o.dst then xq env o.dst [] none undef (K λ_=>True) else dC 45 o.op
 |some (some (ch,g))=>
  if oZ ops N env ch o.dst then Y4 C ops env ch g o w (λp v=>yS C o v (λv=>xq env o.dst ch g v (K p))) else dC 46 o.op
def Y5 (C:dM P) (ops:Array Oper) (N:Nat) (i:Nat) (env:List bR) (w:A1) (K:(A1->Prop)->List bR->Prop):Prop:=
 match ops[i]? with
 |none=>False
 |some ⟨dst,op,type,pos,after,guard⟩=>XI C ops N ⟨dst,op,type,pos,after,guard⟩ env w K
def A8 (j:Nat) (w:A1):List (Nat×(A1->Prop))->Prop->Prop
 |[],K=>K
 |(W,p)::r,K=>match W.testBit j with
  |true=>A8 j w r K
  |false=>p w/\A8 j w r K
theorem qi {j:Nat} {w:A1}: ∀{l:List (Nat×(A1->Prop))} {K:Prop},A8 j w l K<->(∀e∈l,e.1.testBit j=false->e.2 w)/\K
 |[],K=>by simp[A8]
 |(W,p)::r,K=>by
  unfold A8;cases h:W.testBit j with
  |true
  |false=>simp only[qi,List.forall_mem_cons];grind
def OT (ops:Array Oper):Bool:=ops.toList.all λo=>match o.op with| .select .. | .defer _=>false| _=>true
def sb (i:Nat):Nat:=1 <<< i
theorem yB (i j:Nat):(sb i).testBit j=decide (i=j):=by simp[sb,Nat.one_shiftLeft,Nat.testBit_two_pow]
def A9:List Nat->Nat
 |[]=>0
 |x::r=>sb x ||| A9 r
theorem tM: ∀(l:List Nat) (j:Nat),(A9 l).testBit j=decide (j∈l)
 |[],j=>by simp[A9]
 |x::r,j=>by
  rw[A9,GG,yB,tM]
  grind
theorem and_zero {a b j:Nat} (h:((a &&& b)==0)=true) (c:a.testBit j=true):b.testBit j=false:=by
 have:=congrArg (λm=>m.testBit j) (by simpa using h: )
 grind
theorem Qo {a b:Nat} (h:((a &&& b) != 0)=true): ∃j,a.testBit j=true/\b.testBit j=true:=by
 have h':=by simpa using h
 obtain:=Nat.exists_testBit_of_ne_zero h'
 grind
theorem UK {a b j:Nat} (h:((a &&& b)==a)=true) (c:a.testBit j=true):b.testBit j=true:=by grind
theorem UL {a b:Nat} (h:((a &&& b)==a)=false): ∃j,a.testBit j=true/\b.testBit j=false:=by
 apply Classical.byContradiction;intro;have:a &&& b=a:=by
  apply Nat.eq_of_testBit_eq
  grind
 grind
def Ku (o:Oper):Nat:=A9 ((o.after.toList.filter λe=>DK .any e).map (·.on))
def Xa (o:Oper):Nat:=match o.dst with
 |some d=>sb d
 |none=>0
def lkM (ops:Array Oper) (o:Oper):Nat:=A9 (o.looksAt ops)
def T6 (L i e:Nat):Bool:= !L.testBit i&&(e &&& L)==e
def IK (L i:Nat):List (Oper×Nat)->Nat->Nat
 |[],W=>W
 |(o,j)::r,W=>IK L i r (if !L.testBit j&&(Ku o &&& (W ||| sb i)) != 0 then W ||| sb j else W)
def FO (ops:Array Oper) (x y:Oper):Bool:=(Xa x &&& (lkM ops y ||| Xa y))==0&&(Xa y &&& lkM ops x)==0
def frM (C:dM P) (ops:Array Oper) (L i W:Nat) (x:Oper) (Z:List (Oper×Nat)):Bool:=
 Z.all λz=>z.2==i||L.testBit z.2||W.testBit z.2||(FO ops x z.1&&(!CB C z.1||mfO x))
def nxM (C:dM P) (Z:List (Oper×Nat)) (L:Nat):Option (Nat×Bool):=
 match Z.find? λz=>T6 L z.2 (Ku z.1)&& !CB C z.1&& !fa z.1 with
 |some z=>some (z.2,true)
 |none=>match Z.find? λz=>T6 L z.2 (Ku z.1) with
  |some z=>some (z.2,false)
  |none=>none
def frS (ops:Array Oper) (L i W:Nat) (x:Oper) (Z:List (Oper×Nat)):Bool:=
 Z.all λz=>z.2==i||L.testBit z.2||W.testBit z.2||FO ops x z.1
inductive Sd where
 |nil|q (i:Nat) (m:Option Nat) (r:Sd)|alt (i:Nat) (r t:Sd)|stop
def pz (C:dM P) (ops:Array Oper) (Z:List (Oper×Nat)):Nat->Nat->Option Sd
 |0,L=>if Z.all λz=> !T6 L z.2 (Ku z.1) then some .nil else none
 |n+1,L=>match nxM C Z L with
  |none=>none
  |some (i,true)=>match ops[i]? with
   |some x=>if T6 L i (Ku x)&& !CB C x then
     if frM C ops L i (IK L i Z 0) x Z then match pz C ops Z n (L ||| sb i) with
      |some l=>some (.q i none l)
      |none=>none
     else if frS ops L i (IK L i Z 0) x Z then match pz C ops Z n (L ||| sb i) with
      |some l=>some (.q i (some (IK L i Z 0)) l)
      |none=>none
     else none
    else none
   |none=>none
  |some (_,false)=>(Z.filter λz=>T6 L z.2 (Ku z.1)).foldr (λz acc=>match acc with
   |none=>none
   |some b=>match pz C ops Z n (L ||| sb z.2) with
    |some a=>some (.alt z.2 a b)
    |none=>none) (some .stop)
def ZG (C:dM P) (ops:Array Oper):Option Sd:=pz C ops ops.toList.zipIdx ops.size 0
def om (C:dM P) (ops:Array Oper) (i:Nat):Bool:=((ops[i]?).map (CB C)).getD true
def OU (C:dM P) (ops:Array Oper) (i:Nat) (w:A1) (l:List (Nat×(A1->Prop))) (K:Prop):Prop:=
 match om C ops i with
 |true=>A8 i w l K
 |false=>K
def Y6 (C:dM P) (ops:Array Oper) (N:Nat) (i:Nat) (a:List (Nat×(A1->Prop))) (env:List bR) (w:A1) (F:List bR->A1->Prop):Prop:=match a with
 |[]=>Gg C ops N i env w F
 |e::a=>Gg C ops N i env w (λenv w=>OU C ops i w (e::a) (F env w))
def Y7 (t:Sd) (a b:Prop):Prop:=match t with
 | .stop=>a
 | _=>a/\b
def F3 (C:dM P) (ops:Array Oper) (N:Nat):Sd->List (Nat×(A1->Prop))->List bR->A1->(List bR->A1->Prop)->Prop
 | .nil, _,env,w,K=>K env w
 | .q i none r,a,env,w,K=>rxQ C ops N i env w (λenv=>F3 C ops N r a env w K)
 | .q i (some W) r,a,env,w,K=>Y5 C ops N i env w (λp env=>F3 C ops N r ((W,p)::a) env w K)
 | .alt i r t,a,env,w,K=>Y7 t (Y6 C ops N i a env w (λenv w=>F3 C ops N r a env w K)) (F3 C ops N t a env w K)
 | .stop, _, _, _, _=>True
def aaS (C:dM P) (ops:Array Oper) (N:Nat) (l:Sd) (env:List bR) (w:A1) (K:List bR->A1->Prop):Prop:=F3 C ops N l [] env w K
def Y8 (C:dM P) (ops:Array Oper) (N:Nat) (env:List bR) (w:A1) (K:List bR->A1->Prop):Prop:=
 match ZG C ops with
 |some l=>aaS C ops N l env w K
 |none=>False
def IZ (j:Nat) (x:Sd):Sd->Prop
 | .alt i r t=>(j=i/\x=r)\/IZ j x t
 | _=>False
def Valid (C:dM P) (ops:Array Oper):Nat->Sd->Array Bool->Prop
 |0,t,a=>t= .nil/\B3 .any ops a=[]
 |n+1,t,a=>match t with
  | .q i m r=>i∈B3 .any ops a/\om C ops i=false/\
    (∃W:Nat->Bool,(∀c,ops[i]? =some c-> ∀j b,ops[j]? =some b->j≠i->a.getD j true=false->W j=false->c.apart ops b=true/\(CB C b=false\/mfO c=true\/ ∃w,m=some w/\w.testBit j=false))/\
     (∀j,W j=true->a.getD j true=false/\ ∃b,ops[j]? =some b/\ ∃e∈b.after,DK .any e=true/\(e.on=i\/W e.on=true)))/\
    Valid C ops n r (a.setIfInBounds i true)
  | .alt i r d=>i∈B3 .any ops a/\ ∀j∈B3 .any ops a, ∃x,IZ j x (.alt i r d)/\Valid C ops n x (a.setIfInBounds j true)
  | _=>False
def AH (ops:Array Oper) (L:Nat) (a:Array Bool):Prop:=a.size=ops.size/\ ∀j,a.getD j false=L.testBit j
theorem AH.un {ops:Array Oper} {L:Nat} {a:Array Bool} (h:AH ops L a) {j:Nat} (b:j<ops.size):a.getD j true=L.testBit j:=by
 rw[<-h.2];have:j<a.size:=by rw[h.1];grind
 grind
theorem AH.set {ops:Array Oper} {L:Nat} {a:Array Bool} (h:AH ops L a) {i:Nat} (hi:i<ops.size):AH ops (L ||| sb i) (a.setIfInBounds i true):=by
 refine⟨by simp[h.1],λj=>?_⟩;rw[GG,yB, <-h.2];by_cases e:i=j
 ·subst e;have:i<a.size:=by rw[h.1];omega
  simp[this]
 simp_all
theorem AH.zero (ops:Array Oper):AH ops 0 (Et ops.size false):=by
 refine⟨by simp,λj=>?_⟩;simp[KE]
theorem qb {ops:Array Oper} {o:Oper} {j:Nat}:(o,j)∈ops.toList.zipIdx<->ops[j]? =some o:=by grind
theorem GR {o:Oper} {j:Nat}:(Ku o).testBit j=true<-> ∃e∈o.after,DK .any e=true/\e.on=j:=by
 grind[Ku,tM]
theorem na {ops:Array Oper} {L:Nat} {c:Array Bool} (h:AH ops L c) {i:Nat}:i∈B3 .any ops c<-> ∃o,ops[i]? =some o/\T6 L i (Ku o)=true:=by
 unfold B3;rw[CK,Dn];constructor
 ·rintro⟨hi,hc⟩;rw[h.un hi] at hc;simp only[Bf] at hc;have a:=KL hi;refine⟨ops[i],a,?_⟩;rw[a] at hc;simp only[GJ,Hr,Gv] at hc;unfold T6;rw[Bf];refine⟨hc.1,?_⟩;cases f:(Ku _ &&& L)==Ku _ with
  |true=>rfl
  |false=>
   obtain⟨j,h1,g⟩:=UL f;obtain⟨e,d,hb,rfl⟩:=GR.1 h1;have:=hc.2 e d;rw[hb,h.2,g] at this;cases this
 ·rintro⟨o,a,b⟩;have hi:=(CJ.1 a).1;unfold T6 at b;rw[Bf] at b;refine⟨hi,?_⟩;rw[h.un hi,Bf];refine⟨b.1,?_⟩;rw[a];simp only[GJ,Hr,Gv];intro e d;rw[h.2];cases hb:DK .any e with
  |false=>rfl
  |true=>rw[UK b.2 (GR.2 (by grind))];rfl
theorem EB {L i:Nat}: ∀(Z:List (Oper×Nat)) (W j:Nat),W.testBit j=true->(IK L i Z W).testBit j=true
 |[], _, _,h=>h
 |k::r,W,j,h=>by
  refine EB r _ j ?_
  grind
theorem Pq {L i:Nat}: ∀(Z:List (Oper×Nat)) (W:Nat),(∀x,(IK L i Z W).testBit x=true->W.testBit x=true\/(L.testBit x=false/\ ∃o,(o,x)∈Z/\ ∃k,(Ku o).testBit k=true/\(k=i\/(IK L i Z W).testBit k=true)))
 |[], _, _,h=> .inl h
 |(o,j)::r,W,x,h=>by
  unfold IK at h ⊢;rcases Pq r _ x h with h1|⟨h1,o',b,c⟩
  ·split at h1
   ·rename_i hc;rw[GG,yB,G1,decide_eq_true_eq] at h1;rcases h1 with h1|rfl
    ·exact .inl h1
    ·rw[Bf] at hc;obtain⟨k,d,a⟩:=Qo hc.2;rw[GG,yB,G1,decide_eq_true_eq] at a
     grind[IQ,EB]
   ·exact .inl h1
  grind
theorem Pr {ops:Array Oper} {x y:Oper} (h:FO ops x y=true):x.apart ops y=true:=by
 unfold FO at h;rw[Bf] at h;obtain⟨h1,b⟩:=h;unfold Oper.apart;rw[Bf];constructor
 ·cases a:x.dst with
  |none=>rfl
  |some d=>
   have hb:(Xa x).testBit d=true:=by simp[Xa,a,yB]
   have:=and_zero h1 hb;rw[GG,Bool.or_eq_false_iff] at this;obtain⟨a1,c⟩:=this;unfold lkM at a1;rw[tM] at a1
   grind[Xa,yB]
 ·cases a:y.dst with
  |none=>rfl
  |some d=>
   have hb:(Xa y).testBit d=true:=by simp[Xa,a,yB]
   grind[and_zero,lkM,tM]
theorem Jm {F:Nat->Option Sd}: ∀(l:List (Oper×Nat)) (t:Sd),l.foldr (λz acc=>match acc with
 |none=>none
 |some b=>match F z.2 with
  |some a=>some (.alt z.2 a b)
  |none=>none) (some Sd.stop)=some t->(l=[]/\t= .stop)\/(∃i r d,t= .alt i r d/\(∃o,(o,i)∈l)/\ ∀z∈l, ∃x,IZ z.2 x t/\F z.2=some x)
 |[],t,h=>by
  grind
 |z::l,t,h=>by
  rw[List.foldr_cons] at h;split at h
  ·cases h
  ·rename_i b hb;split at h
   ·rename_i a e;cases h;refine .inr ⟨z.2,a,b,rfl,by grind,λy c=>?_⟩;rcases D8.1 c with rfl|c
    ·exact⟨a,.inl (by grind),e⟩
    ·rcases Jm l b hb with ⟨rfl, _⟩|⟨i,r,d, _, _,f⟩
     ·cases c
     ·obtain⟨x,h1,g⟩:=f y c;exact⟨x,.inr h1,g⟩
   grind
theorem qj {C:dM P} {ops:Array Oper}: ∀(n L:Nat) (g:Array Bool) (l:Sd),AH ops L g->pz C ops ops.toList.zipIdx n L=some l->Valid C ops n l g
 |0,L,g,l,a,h=>by
  simp only[pz] at h;split at h
  ·rename_i hc;cases h;refine⟨rfl,?_⟩;rw[List.eq_nil_iff_forall_not_mem];intro j b;obtain⟨o,c,t⟩:=(na a).1 b;have:=DZ.1 hc (o,j) (qb.2 c);rw[t] at this;cases this
  ·cases h
 |n+1,L,g,l,a,h=>by
  have D: ∀i j,(IK L i ops.toList.zipIdx 0).testBit j=true->g.getD j true=false/\ ∃d,ops[j]? =some d/\ ∃e∈d.after,DK .any e=true/\(e.on=i\/(IK L i ops.toList.zipIdx 0).testBit e.on=true):=by
   intro i j f;rcases Pq ops.toList.zipIdx 0 j f with h1|⟨h1,o,m,k,I,J⟩
   ·simp at h1
   ·have c:=qb.1 m;obtain⟨e,u,hb,rfl⟩:=GR.1 I;exact⟨by rw[a.un (CJ.1 c).1];exact h1,o,c,e,u,hb,J⟩
  simp only[pz] at h;split at h
  ·cases h
  ·rename_i i _;split at h
   ·rename_i x hx;have hi:i<ops.size:=(CJ.1 hx).1;split at h
    ·rename_i hc;rw[Bf,Gu] at hc;have E:om C ops i=false:=by unfold om;rw[hx];exact hc.2
     split at h
     ·rename_i v;split at h
      ·rename_i l' w;cases h;have y:=qj n _ _ l' (a.set hi) w;refine⟨(na a).2 ⟨x,hx,hc.1⟩,E,⟨λj=>(IK L i ops.toList.zipIdx 0).testBit j,?_,λj=>D i j⟩,y⟩;intro K p j d b A q f;rw[hx] at p;cases p;have:=DZ.1 v (d,j) (qb.2 b);rw[a.un (CJ.1 b).1] at q;have B:(IK L i ops.toList.zipIdx 0).testBit j=false:=f;simp only[q,B,J3,G1,beq_iff_eq,Bf,Gu] at this;rcases this with h1|h1
       ·exact absurd h1 A
       ·exact⟨Pr h1.1,h1.2.imp id .inl⟩
      ·cases h
     ·split at h
      ·rename_i v;split at h
       ·rename_i l' w;cases h;have y:=qj n _ _ l' (a.set hi) w;refine⟨(na a).2 ⟨x,hx,hc.1⟩,E,⟨λj=>(IK L i ops.toList.zipIdx 0).testBit j,?_,λj=>D i j⟩,y⟩;intro K p j d b A q f;rw[hx] at p;cases p;have:=DZ.1 v (d,j) (qb.2 b);rw[a.un (CJ.1 b).1] at q;have B:(IK L i ops.toList.zipIdx 0).testBit j=false:=f;simp only[q,B,J3,G1,beq_iff_eq] at this;rcases this with h1|h1
        ·exact absurd h1 A
        ·exact⟨Pr h1,.inr (.inr ⟨_,rfl,f⟩)⟩
       ·cases h
      ·cases h
    ·cases h
   ·cases h
  ·rename_i s;rcases Jm (F:=λj=>pz C ops ops.toList.zipIdx n (L ||| sb j)) _ l h with ⟨u, _⟩|⟨i,r,N,rfl,⟨o,c⟩,M⟩
   ·
    exfalso;unfold nxM at s;split at s
    ·cases s
    ·split at s
     ·rename_i z G;have h1:=OM G;have m:=List.mem_of_find?_eq_some G;have:z∈(ops.toList.zipIdx).filter λz=>T6 L z.2 (Ku z.1):=CK.2 ⟨m,h1⟩;rw[u] at this;cases this
     ·cases s
   ·rw[CK] at c;refine⟨(na a).2 ⟨o,qb.1 c.1,c.2⟩,λj b=>?_⟩;obtain⟨d,H,t⟩:=(na a).1 b;obtain⟨x,h1,m⟩:=M (d,j) (CK.2 ⟨qb.2 H,t⟩);exact⟨x,h1,qj n _ _ x (a.set (CJ.1 H).1) m⟩
section
variable {r:Option Nat} {S:Nat->Option (Option A2)} {ops:Array Oper} {N:Nat} {D:List Deferred} {Q:Exit->Act->A1->Prop}
theorem ZH {C:dM P} {i:Nat} {env:List bR} {a:Act} {w:A1} {K:List bR->Prop} (k:Wr S ops) (b:Fit S ops N D env a) (h:rxQ C ops N i env w K):
 ∃o u dh,ops[i]? =some o/\K dh/\Fit S ops N D dh (a.put o.dst u)/\fZ P ops o u a w:=by
 unfold rxQ at h;cases j:ops[i]? with
 |none=>simp[j] at h
 |some o=>
  simp only[j,aaR,nQ] at h;have e:=k o (by grind);split at h
  ·exact AB h
  ·rename_i f;split at h
   ·rename_i c;exact⟨o,undef, _,rfl,h,b.put c e rfl (λ_=>rfl) (by grind),.inr ⟨C' b f,rfl⟩⟩
   ·exact AB h
  ·rename_i ch g f;obtain⟨hg,l⟩:=OS b f;split at h
   ·rename_i c;obtain⟨v,d,m⟩:=yU b hg h;replace d:=sg d;by_cases hc:j9 ops a.tmps ch
    ·exact⟨o,v, _,rfl,d,b.put c e hg (λ_=>rfl) (λn=>absurd hc n),.inl ⟨l.2 hc,m hc⟩⟩
    ·refine⟨o,undef, _,rfl,d,b.put c e hg (λp=>absurd p hc) (λ_=>rfl),.inr ⟨?_,rfl⟩⟩
     simp_all
   ·exact AB h
theorem UM {C:dM P} {i:Nat} {env:List bR} {a:Act} {w:A1} {K:(A1->Prop)->List bR->Prop} (s:Wr S ops) (c:Fit S ops N D env a) (h:Y5 C ops N i env w K):
 ∃o u dh p,ops[i]? =some o/\K p dh/\Fit S ops N D dh (a.put o.dst u)/\p w/\UpC p/\ ∀b,p b->fZ P ops o u a b:=by
 unfold Y5 at h;cases n:ops[i]? with
 |none=>simp[n] at h
 |some o=>
  simp only[n,XI,nQ] at h;have j:=s o (by grind);split at h
  ·exact AB h
  ·rename_i k;split at h
   ·rename_i d;exact⟨o,undef, _, _,rfl,h,c.put d j rfl (λ_=>rfl) (by grind),trivial,λ_ _ _ _=>trivial,λ_ _=> .inr ⟨C' c k,rfl⟩⟩
   ·exact AB h
  ·rename_i ch g k;obtain⟨hg,t⟩:=OS c k;split at h
   ·rename_i d;obtain⟨p,v,f,q,r,x⟩:=Qn h;replace f:=sg f;have y: ∀b,p b->j9 ops a.tmps ch-> ∀w',Ext b w'->du P o a w' v:=λb l hc=>by
     obtain⟨A,e,m⟩:=yU c hg (x b l);subst e;exact m hc
    by_cases hc:j9 ops a.tmps ch
    ·exact⟨o,v, _,p,rfl,f,c.put d j hg (λ_=>rfl) (λz=>absurd hc z),q,r,λb l=> .inl ⟨t.2 hc,y b l hc⟩⟩
    ·refine⟨o,undef, _,p,rfl,f,c.put d j hg (λm=>absurd m hc) (λ_=>rfl),q,r,λb _=> .inr ⟨?_,rfl⟩⟩
     simp_all
   ·exact AB h
def A_ (a:List (Nat×(A1->Prop))) (j:Nat) (w:A1):Prop:= ∀e∈a,e.1.testBit j=false->e.2 w
theorem Jn {C:dM P} {a:List (Nat×(A1->Prop))} {env:List bR} {w:A1} {K:List bR->A1->Prop} {j:Nat} {x:Sd}: ∀{t:Sd},F3 C ops N t a env w K->IZ j x t->Y6 C ops N j a env w (λenv w=>F3 C ops N x a env w K)
 | .alt i r t,h,hi=>by
   rw[F3] at h;have h1:Y6 C ops N i a env w λenv w=>F3 C ops N r a env w K:=by
    grind[Y7]
   rcases hi with ⟨rfl,rfl⟩|hi
   ·omega
   ·refine Jn ?_ hi;unfold Y7 at h;split at h
    ·cases hi
    grind
theorem ZI {C:dM P} (G:Wr S ops) (AG:OT ops=true) (U: ∀c a w,¬ Q (.panic c) a w): ∀(n:Nat) (l:Sd) (f:Array Bool) (d:List (Nat×(A1->Prop))) (env:List bR) (a:Act) (w:A1) (K:List bR->A1->Prop),(∀e∈d,UpC e.2)->Fit S ops N D env a->
 Valid C ops n l f->F3 C ops N l d env w K->(∀env a w w',K env w->Fit S ops N D env a->Ext w w'->Q .normal a w')->
 mB r P ops Q (om C ops) (A_ d) n f a w:=by
 have V: ∀(j:Nat) (o:Oper),ops[j]? =some o->(∀cs b,o.op≠ .select cs b)/\ ∀c,o.op≠ .defer c:=λj o g=>by
  have:=DZ.1 AG o (Array.mem_toList_iff.2 (KP g));constructor
  ·intro cs b he;simp[he] at this
  ·intro c he;simp[he] at this
 intro n
 induction n with
 |zero=>
  intro l f d env a w K _ s hv h v w' H;obtain⟨rfl,hv⟩:=hv;exact⟨hv,v env a w w' h s H⟩
 |succ n I=>
  intro l f d env a w K z s hv h v;cases l with
  |nil=>exact hv.elim
  |stop=>exact hv.elim
  |q i m l=>
   obtain⟨X,Y,⟨W,Z,Yb⟩,A⟩:=hv;cases m with
   |none=>
    obtain⟨o,u,dh,g,x,y,B⟩:=ZH G s h;have J:=I l (f.setIfInBounds i true) d dh (a.put o.dst u) w K z y A x v;exact ui (W:=W) (a0:=a) g Y V U (λ_ _ h=>h) n f a w (λj L k M O R=>by
     have:=Z o g j L k M O R;refine⟨this.1,?_⟩;rcases this.2 with h|h|⟨w,h, _⟩
     ·exact .inl (by unfold om;rw[k];exact h)
     ·exact .inr (.inl h)
     ·cases h) Yb X ⟨rfl,rfl⟩ B J
   |some T=>
    obtain⟨o,u,dh,p,g,x,y,hp,hu,B⟩:=UM G s h;have J:=I l (f.setIfInBounds i true) ((T,p)::d) dh (a.put o.dst u) w K (λe he=>by
     rcases D8.1 he with rfl|he
     ·exact hu
     ·exact z e he) y A x v
    exact ui (W:=W) (a0:=a) (T':=A_ ((T,p)::d)) g Y V U (λ_ _ h e he=>h e (OK _ he)) n f a w (λj L k M O R=>by
     have:=Z o g j L k M O R;refine⟨this.1,?_⟩;rcases this.2 with h|h|⟨w,h,hb⟩
     ·exact .inl (by unfold om;rw[k];exact h)
     ·exact .inr (.inl h)
     ·cases h;exact .inr (.inr λw1 hT=>B w1 (hT (T,p) IQ hb))) Yb X ⟨rfl,rfl⟩ (B w hp) J
  |alt i l0 t=>
   obtain⟨hri,kY⟩:=hv;intro w' H;refine⟨λhe=>absurd hri (by rw[he];simp),λj k=>?_⟩;obtain⟨l,lT,A⟩:=kY j k;have h:=Jn h lT;have h':Gg C ops N j env w (λenv w=>(om C ops j=true->A_ d j w)/\F3 C ops N l d env w K):=by
    cases d with
    |nil=>
     have h:Gg C ops N j env w (λenv w=>F3 C ops N l [] env w K):=h
     simp_all[om,A_,F3]
    |cons E F=>
     have e:(λ(env:List bR) (w:A1)=>(om C ops j=true->A_ (E::F) j w)/\F3 C ops N l (E::F) env w K)=λenv w=>OU C ops j w (E::F) (F3 C ops N l (E::F) env w K):=by
      funext env w;unfold OU;cases om C ops j with
      |true=>exact propext ⟨λh=>qi.2 ⟨h.1 rfl,h.2⟩,λh=>⟨λ_=>(qi.1 h).1,(qi.1 h).2⟩⟩
      |false=>simp
     rw[e];exact h
   refine wpOpIn_mono (λa1 w1 hh=>?_) (EA G s h' H);obtain⟨hx,dh,wr,⟨Yg,x⟩,y,xd⟩:=hh;exact⟨hx,λhe e hm hb=>z e hm wr w1 ((Yg he) e hm hb) xd,n6 (I l _ d dh a1 wr K z y A x v) xd⟩
theorem UN {C:dM P} (d:Wr S ops) (e:OT ops=true) (f: ∀c a w,¬ Q (.panic c) a w) (env:List bR) (a:Act) (w:A1) (K:List bR->A1->Prop) (g:Fit S ops N D env a)
 (h:Y8 C ops N env w K) (i: ∀env a w w',K env w->Fit S ops N D env a->Ext w w'->Q .normal a w'):
 mB r P ops Q (om C ops) (A_ []) ops.size (Et ops.size false) a w:=by
 unfold Y8 aaS at h;split at h
 ·rename_i l b;have hv:=qj _ 0 _ l (AH.zero ops) b
  grind[ZI]
 grind
end
variable {P:AM}
def kl (l:List bR):List bR:=
 match l.filter λe=> !e.ch.isEmpty with
 |[]=>l
 |bad=>l.filter λe=>e.ch.isEmpty&& !(bad.any λb=>b.t==e.t)
def plain (l:List bR):Prop:= ∀e∈l,e.ch=[]/\e.g=none
theorem iR {p:bR->Bool}: ∀{l:List bR} {t:Nat} {e:bR},b_ (l.filter p) t=some e->(∀x∈l,x.t=t->p x=true)->b_ l t=some e
 |x::r,t,e,h,c=>by
  by_cases hx:p x=true
  ·simp only[OO,hx,if_true,b_] at h;simp only[b_];split
   grind
   ·rename_i a
    simp_all
    exact iR h (by grind)
  ·simp only[OO,hx] at h;have b:x.t≠t:=λa=>hx (by grind);simp only[b_,b];exact iR h (by grind)
theorem yW: ∀{l:List bR} {t:Nat} {e:bR},b_ l t=some e->e.t=t
 |x::r,t,e,h=>by
  simp[b_] at h;split at h
  grind
  ·exact yW h
variable {S:Nat->Option (Option A2)} {N:Nat} {D:List Deferred} {env:List bR} {a:Act}
theorem Fit.Qq {ops ops':Array Oper} (h:Fit S ops N D env a) (b:plain env):Fit S ops' N D env a:=by
 have nil: ∀(o),j9 o a.tmps []:=λo hx=>by simp
 refine⟨h.off,h.size,h.qH,λt e c _=>h.yes t e c (by rw[(b e (bV c)).1];grind),λt e c f=>absurd (by rw[(b e (bV c)).1];grind) f,λe d=>?_,h.Cl⟩;rw[(b e d).2];exact(b e d).1
theorem Bm {ops ops':Array Oper} (h:Fit S ops N D env a):Fit S ops' N D (kl env) a/\plain (kl env):=by
 have hg: ∀e∈env,e.ch=[]->e.g=none:=λe b hc=>by
  have:=h.F1 e b;cases i:e.g with
  |none=>rfl
  |some γ=>rw[i] at this;exact absurd hc this.1
 have nil: ∀(o:Array Oper),j9 o a.tmps []:=λo x hx=>by cases hx
 have f: ∀e∈kl env,e.ch=[]/\e∈env:=by
  intro e b;unfold kl at b;split at b
  simp_all
  grind
 have j: ∀t e,b_ (kl env) t=some e->b_ env t=some e:=by
  intro t e b;unfold kl at b;split at b
  ·exact b
  ·rename_i l m;refine iR b λx hx n=>?_;have p:=bV b
   grind[yW]
 have d:plain (kl env):=λe b=>⟨(f e b).1,by grind⟩;refine⟨⟨h.off,h.size,h.qH,λt e k _=>h.yes t e (j t e k) (by grind[bV]),by grind[bV],λe c=>?_,λe c=>h.Cl e (f e c).2⟩,d⟩;rw[(d e c).2];exact(d e c).1
def jI:Code->Option Nat
 | .region id _ _=>some id
 | .seq a b=>match jI a with
   |some i=>some i
   |none=>jI b
 | .cond _ a b=>match jI a with
   |some i=>some i
   |none=>jI b
 | .block _ b=>jI b
 | .loop b=>jI b
 | _=>none
def Ut (ops:Array Oper):List Nat:=ops.toList.filterMap (·.dst)
def writes:Code->List Nat
 | .region _ ops _=>Ut ops
 | .seq a b=>writes a++writes b
 | .cond _ a b=>writes a++writes b
 | .block _ b=>writes b
 | .loop b=>writes b
 | _=>[]
abbrev a6:=List (Nat×El)
def k8:(l:a6)->oG (l.map (·.2))->List bR
 |[], _=>[]
 |(t,s)::r,x=>⟨t,[],none,s.ia x.1,none⟩::k8 r x.2
def o8:(l:a6)->List bR->Option (oG (l.map (·.2)))
 |[], _=>some ()
 |(t,s)::r,env=>match b_ env t with
  |some e=>match s.proj e.v,o8 r env with
   |some x,some y=>some (x,y)
   | _, _=>none
  |none=>none
def XK (op:Op):Bool:=match op with
 | .send .. | .select .. =>true
 | _=>false
def abo (ops:Array Oper):Bool:=ops.toList.any λo=>XK o.op
def mj (n k:Nat):Array Bool:=⟨(B4 n).map λi=>F2 i k⟩
def Uu (ops:Array Oper):Bool:=(B4 ops.size).all λk=>B3 .any ops (mj ops.size k)==[k]
theorem FA {n k:Nat} (h:k<n):(mj n k).setIfInBounds k true=mj n (k+1):=by
 simp[mj];apply List.ext_getElem
 ·simp
 ·intro i a;rw[List.getElem_set];simp only[List.getElem_map,List.getElem_range];split
  ·subst_vars
   simp
  ·rw[Bool.eq_iff_iff,Nat.blt_eq,Nat.blt_eq];omega
theorem Jo {ops:Array Oper} (h:Uu ops=true): ∀(fuel t k:Nat) (acc:List Nat),k+fuel=ops.size->FZ .any ops fuel t (mj ops.size k) acc=acc.reverse++Gj k fuel
 |0,t,k,acc, _=>by simp[FZ]
 |fuel+1,t,k,acc,b=>by
  have a:=by
   simp[Uu] at h;exact h k (by omega)
  change (match (B3 .any ops _)[t % (B3 .any ops _).length]? with
   |some i=>FZ .any ops fuel _ _ _
   |none=>acc.reverse)= _
  rw[a];simp[Nat.mod_one,Ga];rw[FA (by omega),Jo h fuel _ _ _ (by omega)];simp[IX]
def CmR (P:AM) (o:Oper) (a:Act) (w:A1) (v:A2) (w':A1):Prop:=
 ∃cases bl sh,(execOp a.eval o).run P w= .ok (.comm cases bl sh) w/\
  ∀fr cs es,stepG P true (I1 fr cs) w= .comm (I1 fr cs) cases bl sh w es->step P (T4 (I1 fr cs) w)= .next (T4 (I1 (fr.finish v) cs) w')
def TQ (P:AM) (ops:Array Oper) (Q:Act->A1->Prop):List Nat->Act->A1->Prop
 |[],a,w=>Q a w
 |i::l,a,w=> ∃o,ops[i]? =some o/\Bx o (yielded ops a.tmps)=true/\(∀c,o.op≠ .defer c)/\
  ∃v w',((execOp a.eval o).run P w= .ok (.value v) w'\/CmR P o a w v w')/\TQ P ops Q l (a.put o.dst v) w'
theorem EC {ops:Array Oper} {Q b:Act->A1->Prop} (c: ∀a w,Q a w->b a w): ∀(l:List Nat) (a:Act) (w:A1),TQ P ops Q l a w->TQ P ops b l a w
 |[],a,w,h=>c a w h
 |i::l,a,w,h=>by
  obtain⟨o,d,e,f,v,w',hs,g⟩:=h;exact⟨o,d,e,f,v,w',hs,EC c l _ _ g⟩
theorem nb {r:Option Nat} {ops:Array Oper} {Q:Act->A1->Prop}: ∀(l:List Nat) (a:Act) (w:A1),TQ P ops Q l a w-> ∀(b:Frame) (k:List Item) (cs:List Frame),
 ∃a' w',Q a' w'/\StepsIn (Machine.fenced P (WF r)) P (lone (b.atR a (.inRegion ops l::k)) cs w) (lone (b.atR a' k) cs w')
 |[],a,w,h,b,k,cs=>⟨a,w,h,.one (fenced_calm (n:=0) (XH r _) (Jl r _) rfl) stepR_region_end⟩
 |i::l,a,w,h,b,k,cs=>by
  obtain⟨o,c,g,j,v,w',m,p⟩:=h;obtain⟨a',q,s,hs⟩:=nb l _ _ p b k cs;have hg:=stepGR_op (P:=P) (b:=b) (k:=k) (cs:=cs) (w:=w) (rest:=l) c g;rw[Oper.semAt_eq _ _ _ j] at hg;have e:(b.atR a (.inRegion ops (i::l)::k)).finish v=b.atR (a.put o.dst v) (.inRegion ops l::k):=by rw[Frame.finish_atR,c];rfl
  have h0:(lone (b.atR a (.inRegion ops (i::l)::k)) cs w).fenced P (WF r):=fenced_oper (n:=0) (XH r _) (Jl r _) c (λ_ _=>trivial);refine⟨a',q,s,.head h0 ?_ hs⟩;rcases m with d|⟨f,bl,sh,d,hc⟩
  ·refine step_lone_go ?_;rw[hg, <-e];simp[stepG.apply,d]
  ·rw[<-e];have key: ∀x:Sem Next,x.run P w= .ok (.comm f bl sh) w-> ∃es,stepG.apply P true (b.atR a (.inRegion ops (i::l)::k)) cs none x w= .comm _ f bl sh w es:=λx hx=>by
    simp only[stepG.apply,Sem.runT_eq,hx,GStep.after];exact⟨_,rfl⟩
   obtain⟨es,t⟩:=key _ d;exact hc _ _ es (hg.trans t)
theorem AU {r:Option Nat} {id:Nat} {ops:Array Oper} {d:Bool} {Q:Exit->Act->A1->Prop} {a:Act} {w:A1} (j:P.follows .mixedOrders=true) (hs:Uu ops=true)
 (h: ∀w',Ext w w'->TQ P ops (Q .normal) (B4 ops.size) a w'):(Code.region id ops d).wpIn (WF r) 0 P Q a w:=by
 intro b k cs _ hb f;cases d with
 |false=>
  obtain⟨a',w',c,g⟩:=nb _ _ _ (h w (Ext.refl w)) b k cs;exact⟨.normal,a',w',c,StepsIn.head (fenced_calm hb f rfl) stepR_region g⟩
 |true=>
  obtain⟨a',w',c,g⟩:=nb (r:=r) _ _ _ (h _ (Ext.drew w)) b k cs;refine⟨.normal,a',w',c,StepsIn.head (fenced_calm hb f rfl) (stepR_region_draw) ?_⟩;have e: ∀t,GO (P.follows .mixedOrders) ops t=B4 ops.size:=λt=>by
   simp only[GO,j,N9];have l:Et ops.size false=mj ops.size 0:=by
    apply Array.ext
    ·simp[mj]
    ·have: ∀i,F2 i 0=false:=λi=>by rfl
     simp[mj,this]
   grind[Jo,OV]
  grind
def I0 (op:Op):Bool:=match op with
 | .load .. | .fieldAddr .. | .indexAddr .. | .build .. | .field .. | .extract .. | .binOp .. | .move _| .assign _| .convert .. =>true
 | _=>false
theorem Qr {s:Sem A2} {f:B2} {args:Array A2} {w w':A1} (h:(do pure (Next.value (<-s)):Sem Next).run P w= .ok (.enter f args) w'):False:=by
 cases hs:s.run P w with
 |ok
 |halt=>simp_all
theorem Bo {o:Oper} {a:Act} {w:A1} {v:A2} (h:I0 o.op=true) (d:du P o a w v):(execOp a.eval o).run P w= .ok (.value v) w/\ ∀c,o.op≠ .defer c:=by
 obtain⟨dst,op,type,pos,after,guard⟩:=o;have e: ∀f args w',(execOp a.eval ⟨dst,op,type,pos,after,guard⟩).run P w≠ .ok (.enter f args) w':=λf args w' b=>by
  cases op<;>simp[I0,Ep] at h<;>first|exact Qr b|(simp[execOp] at b;done)
 refine⟨?_,λc hc=>by subst hc;cases h⟩
 grind[du]
def cop (P:AM) (ρ:Operand->Option A2) (op:Op) (w:A1) (K:A2->A1->Prop):Prop:=match op with
 | .send ch x=>match ρ ch,ρ x with
   |some (.chan p),some v=> ∀w1,Ext w w1-> ∃r cap a s m,p=some r/\ChO w1 r cap a s m/\a.length<cap/\K undef (w1.putObj r (.chan cap ⟨a++[v]⟩ false (s+1) m false))
   | _, _=>dC 130 op
 | .select cs bl=>match bl,cs.toList with
   |false,[c]=>match c.send,ρ c.chan,P.info? c.elem,u0 P c.elem with
    |none,some (.chan p),some i,some el=>match i.zero with
     |some z=> ∀w1,Ext w w1-> ∃r cap a s m,p=some r/\ChO w1 r cap a s m/\(a=[]->K (.tuple ⟨[.int .i64 (-1),.bool false,z]⟩) w1)/\
      ∀v vs,a=v::vs-> ∃x:el.T,v=el.ia x/\K (.tuple ⟨[.int .i64 0,.bool true,el.ia x]⟩) (w1.putObj r (.chan cap ⟨vs⟩ false s (m+1) false))
     |none=>dC 131 op
    | _, _, _, _=>dC 132 op
   | _, _=>dC 133 op
 | _=>dC 134 op
theorem zM (w:A1) (r cap:Nat) (a:Array A2) (cl:Bool) (s m:Nat) (b:Bool):w.setChan r cap a cl s m b=w.putObj r (.chan cap a cl s m b):=rfl
theorem Pt {ρ:Operand->Option A2} {a:Act} (d: ∀x v,ρ x=some v->a.eval x=v) {o:Oper} {w w':A1} {K:A2->A1->Prop} (h:cop P ρ o.op w K) (g:Ext w w'):
 (∀c,o.op≠ .defer c)/\ ∃v j,CmR P o a w' v j/\K v j:=by
 obtain⟨dst,op,type,pos,after,guard⟩:=o;unfold cop at h;simp only at h;split at h
 ·rename_i ch x;refine⟨λc hc=>(by cases hc),?_⟩;split at h
  ·rename_i p v e hv;obtain⟨r,cap,k,s,m,rfl,hc,l,f⟩:=h w' g;refine⟨_, _,⟨_, _, _,(by simp only[execOp,d _ _ e,d _ _ hv];rfl),λfr cs es b=>?_⟩,f⟩;have:=Go.Conc.step_lone_send_room (z':= .tuple #[]) b hc (by simpa using l);rw[this,zM];simp
  ·exact h.elim
 ·rename_i cs bl;refine⟨λc hc=>(by cases hc),?_⟩;split at h
  ·rename_i c eA;split at h
   ·rename_i p i el n e hi y;split at h
    ·rename_i z q;obtain⟨r,cap,k,s,m,rfl,hc,h0,h1⟩:=h w' g;have t:cs= #[c]:=by cases cs;simp_all
     have dU:(execOp a.eval ⟨dst,.select cs false,type,pos,after,guard⟩).run P w'= .ok (.comm #[T9 r z] false .select) w':=by
      subst t;have u:(zeroValue c.elem).run P w'= .ok z w':=by simp[zeroValue,fK hi,q]
      simp[execOp,n,d _ _ e,u,T9]
     cases k with
     |nil=>exact⟨_, _,⟨_, _, _,dU,λfr cs es b=>Go.Conc.step_lone_select_default b hc⟩,h0 rfl⟩
     |cons v vs=>
      obtain⟨x,rfl,f⟩:=h1 v vs rfl;refine⟨_, _,⟨_, _, _,dU,λfr cs es b=>?_⟩,f⟩;have:=Go.Conc.step_lone_select_recv_buf b hc (by simp);rw[this,zM];simp[goInt]
    ·exact h.elim
   ·exact h.elim
  ·exact h.elim
 ·exact h.elim
def rxC (C:dM P) (ops:Array Oper) (N:Nat):List Nat->List bR->A1->(List bR->A1->Prop)->Prop
 |[],env,w,K=>K env w
 |i::r,env,w,K=>match ops[i]? with
  |none=>False
  |some ⟨dst,op,type,pos,after,guard⟩=>match guard with
   |some _=>dC 135 op
   |none=>if oZ ops N env [] dst then match XK op with
     |true=>cop P (yg env []) op w (λv a=>xq env dst [] none v (λenv=>rxC C ops N r env a K))
     |false=>if I0 op then oM C ops env [] none ⟨dst,op,type,pos,after,none⟩ w (λv=>xq env dst [] none v (λenv=>rxC C ops N r env w K)) else dC 136 op
    else dC 137 op
theorem GU {ops:Array Oper} {C:dM P} (f:Wr S ops): ∀(l:List Nat) (env:List bR) (a:Act) (w w':A1) (K:List bR->A1->Prop),Fit S ops N D env a->rxC C ops N l env w K->Ext w w'->
 TQ P ops (λa1 w1=> ∃dh j,K dh j/\Fit S ops N D dh a1/\Ext j w1) l a w'
 |[],env,a,w,w',K,b,h,c=>⟨env,w,h,b,c⟩
 |i::l,env,a,w,w',K,b,h,c=>by
  unfold rxC at h;split at h
  ·exact h.elim
  ·rename_i dst op type pos after guard k;have n:=f _ (KP k);split at h
   ·exact h.elim
   ·split at h
    ·rename_i p;have m: ∀v,Fit S ops N D (kZ env dst [] none v) (a.put dst v):=λv=>b.put p n rfl (λ_=>rfl) (λd=>absurd eM d);refine⟨_,k,(by simp[Bx]),?_⟩;split at h
     ·obtain⟨d,v,q,hc,e⟩:=Pt (o:=⟨dst,op,type,pos,after,none⟩) (a:=a) (λx v hx=>b.ev eM hx) h c;rw[nQ] at e;exact⟨d,v,q,.inr hc,GU f l _ _ _ _ K (m v) e (Ext.refl _)⟩
     ·split at h
      ·rename_i r;obtain⟨v,e,s⟩:=yU (g:=none) b rfl h;obtain⟨t,d⟩:=Bo r (s eM w' c);rw[nQ] at e;exact⟨d,v,w',.inl t,GU f l _ _ _ _ K (m v) e c⟩
      ·exact h.elim
    ·exact h.elim
def nL (o:Oper):List Nat:=(o.after.toList.filter λe=>DK .any e).map (·.on)
def GW (o:Oper):List Nat:=o.op.operands.toList.filterMap λ| .tmp t=>some t| _=>none
def abq (op:Op):Bool:=match op with
 | .select .. =>true
 | _=>false
def XL (ops:Array Oper) (i:Nat):Bool:=match ops[i]? with
 |none=>false
 |some o=>o.guard.isNone&& !abq o.op&&((GW o).all λt=>(B4 ops.size).all λj=>dI ops j != some t||(nL o).contains j)&&((nL o).all λj=>F2 j i)&&
  (o.dst.isNone||(B4 i).all λj=>dI ops j != o.dst)&&(Nat.beq (i+1) ops.size||(B4 ops.size).any λk=>F2 i k&&match ops[k]? with
   |some x=>(nL x).contains i
   |none=>false)
def Gl (ops:Array Oper):Bool:=(B4 ops.size).all (XL ops)
def wpS (P:AM) (ops:Array Oper) (Q:Act->A1->Prop):List Nat->Act->A1->Prop
 |[], _, _=>False
 |[i],a,w=> ∃o,ops[i]? =some o/\(∀c,o.op≠ .defer c)/\ ∃v w',CmR P o a w v w'/\Q (a.put o.dst v) w'
 |i::j::l,a,w=> ∃o,ops[i]? =some o/\(∀c,o.op≠ .defer c)/\ ∃v,(execOp a.eval o).run P w= .ok (.value v) w/\wpS P ops Q (j::l) (a.put o.dst v) w
theorem ED {ops:Array Oper} {Q d:Act->A1->Prop} (e: ∀a w,Q a w->d a w): ∀(l:List Nat) (a:Act) (w:A1),wpS P ops Q l a w->wpS P ops d l a w
 |[i],a,w,h=>by
  obtain⟨o,b,c,v,w',hc,h⟩:=h;exact⟨o,b,c,v,w',hc,e _ _ h⟩
 |i::j::l,a,w,h=>by
  obtain⟨o,b,c,v,f,h⟩:=h;exact⟨o,b,c,v,f,ED e _ _ _ h⟩
def DE (ops:Array Oper) (a:Act) (v:Nat->A2) (k:Nat):Nat->Act
 |0=>a
 |i+1=>(DE ops a v k i).put (dI ops (k+i)) (v i)
theorem Bp {ops:Array Oper} {a:Act} {v:Nat->A2} {k:Nat}: ∀i,DE ops (a.put (dI ops k) (v 0)) (λj=>v (j+1)) (k+1) i=DE ops a v k (i+1)
 |0=>rfl
 |i+1=>by
  show(DE ops _ _ _ i).put _ _=(DE ops a v k _).put _ _;rw[Bp,show k+1+i=k+(i+1) by omega]
theorem GX {ops:Array Oper} {i:Nat} {o:Oper} (h:ops[i]? =some o):dI ops i=o.dst:=by grind[dI]
theorem Jp {ops:Array Oper} {Q:Act->A1->Prop} {w:A1}: ∀(d k:Nat) (a:Act),wpS P ops Q (Gj k (d+1)) a w->
 ∃(v:Nat->A2),(∀i,i<d-> ∃o,ops[k+i]? =some o/\(∀c,o.op≠ .defer c)/\(execOp (DE ops a v k i).eval o).run P w= .ok (.value (v i)) w)/\
  ∃o,ops[k+d]? =some o/\(∀c,o.op≠ .defer c)/\ ∃u w',CmR P o (DE ops a v k d) w u w'/\Q ((DE ops a v k d).put o.dst u) w'
 |0,k,a,h=>by
  obtain⟨o,h1,f,u,w',b,l⟩:=h;exact⟨λ_=>undef,by grind,o,h1,f,u,w',b,l⟩
 |d+1,k,a,h=>by
  rw[IX] at h;have e:Gj (k+1) (d+1)=(k+1)::Gj (k+1+1) d:=IX;rw[e] at h;obtain⟨o,h1,m,g,f,b⟩:=h;rw[<-e] at b;obtain⟨v,q,n,r,p,u,w',k4,k5⟩:=Jp d (k+1) _ b
  let j:Nat->A2:=λi=>match i with
   |0=>g
   |i+1=>v i
  have sh: ∀i,DE ops (a.put o.dst g) v (k+1) i=DE ops a j k (i+1):=λi=>by
   rw[<-Bp,GX h1]
  refine⟨j,λi hi=>?_,n,by grind,p,u,w',?_,?_⟩
  ·cases i with
   |zero=>exact⟨o,h1,m,f⟩
   |succ i=>
    grind
  ·rw[<-sh d];exact k4
  ·rw[<-sh d];exact k5
structure SR (ops:Array Oper) (m:Nat) (v:Nat->A2) (a:Act) (S:Nat->Prop) (b:Act):Prop where
 df:b.defers=a.defers
 sz:b.tmps.size=a.tmps.size
 yes: ∀j t,j<m->S j->dI ops j=some t->b.tmps[t]? =if t<a.tmps.size then some (v j) else none
 no: ∀t,(∀j,j<m->S j->dI ops j≠some t)->b.tmps[t]? =a.tmps[t]?
theorem SR.step {ops:Array Oper} {m:Nat} {v:Nat->A2} {a b:Act} {S S':Nat->Prop} (h:SR ops m v a S b) {i:Nat} (hi:i<m) (k: ∀j,S' j<->S j\/j=i) (n: ∀j t,j<m->dI ops j=some t->dI ops i=some t->j=i):SR ops m v a S' (b.put (dI ops i) (v i)):=by
 cases l:dI ops i with
 |none=>
  refine⟨h.df,h.sz,λj t g hs f=>?_,λt f=>h.no t (by grind)⟩;rcases(k j).1 hs with hs|rfl
  ·exact h.yes j t g hs f
  grind
 |some d=>
  have o:(b.put (some d) (v i)).tmps.size=a.tmps.size:=by simp[Co,h.sz]
  refine⟨h.df,o,λj t g hs f=>?_,λt f=>?_⟩
  ·by_cases e:t=d
   ·subst e;have:j=i:=n j t g f l;subst this;simp only[Co];rw[Array.getElem?_setIfInBounds];simp[h.sz]
   ·rcases(k j).1 hs with hs|rfl
    ·have:(b.put (some d) (v i)).tmps[t]? =b.tmps[t]? :=by simp[Co,DJ (λc=>e c.symm)]
     rw[this];exact h.yes j t g hs f
    grind
  ·have p:d≠t:=λe=>f i hi ((k i).2 (.inr rfl)) (by rw[l,e]);have:(b.put (some d) (v i)).tmps[t]? =b.tmps[t]? :=by simp[Co,DJ p]
   rw[this];exact h.no t (by grind)
theorem SR.eq {ops:Array Oper} {m:Nat} {v:Nat->A2} {a b c:Act} {S T:Nat->Prop} (h:SR ops m v a S b) (k:SR ops m v a T c) (g: ∀j,j<m->(S j<->T j)):b=c:=by
 have:=by
  apply K1;apply List.ext_getElem?;intro t;have e:b.tmps[t]? =c.tmps[t]? :=by
   by_cases hx: ∃j,j<m/\S j/\dI ops j=some t
   ·obtain⟨j,d,hs,f⟩:=hx;rw[h.yes j t d hs f,k.yes j t d ((g j d).1 hs) f]
   ·rw[h.no t (by grind),k.no t (by grind)]
  simpa
 cases b;cases c;have h1:=h.df.trans k.df.symm
 grind
theorem fD {ops:Array Oper} (a:Gl ops=true) {i:Nat} {o:Oper} (d:ops[i]? =some o):
 o.guard=none/\(∀cs b,o.op≠ .select cs b)/\(∀t∈GW o, ∀j,j<ops.size->dI ops j=some t->j∈nL o)/\(∀j∈nL o,j<i)/\(∀j t,j<i->dI ops j=some t->dI ops i≠some t)/\
  (i+1=ops.size\/ ∃k x,i<k/\ops[k]? =some x/\i∈nL x):=by
 have hi:=(CJ.1 d).1;unfold Gl at a;rw[DZ] at a;have h:=a i (Dn.2 hi);unfold XL at h;rw[d] at h;simp at h;obtain⟨⟨⟨⟨⟨h1,f⟩,l⟩,g⟩,m⟩,n⟩:=h;refine⟨h1,λcs b e=>(by rw[e] at f;cases f),by grind,g,λj t p q c=>?_,?_⟩
 ·grind[GX]
 grind
theorem Bq {ops:Array Oper} {a:Array Bool} (d:a.size=ops.size) {i:Nat}:i∈B3 .any ops a<-> ∃o,ops[i]? =some o/\a.getD i false=false/\ ∀j∈nL o,a.getD j false=true:=by
 have c:i<ops.size->(a.getD i true=a.getD i false):=λh=>by simp[KE,d,h]
 unfold B3;rw[CK,Dn];constructor
 ·rintro⟨hi,hc⟩;obtain⟨o,b⟩: ∃o,ops[i]? =some o:=⟨_,KL hi⟩;rw[b,c hi] at hc;simp only[GJ,Hr,Bf,Gu,Gv] at hc;refine⟨o,b,hc.1,λj f=>?_⟩;obtain⟨e,g,rfl⟩:=GS.1 f
  grind
 ·rintro⟨o,b,h1,k⟩;have hi:i<ops.size:=(CJ.1 b).1;refine⟨hi,?_⟩;rw[b,c hi];simp only[GJ,Hr,Bf,Gu,Gv,G1];refine⟨h1,λe g=>?_⟩;by_cases hb:DK .any e=true
  ·exact .inr (k e.on (GS.2 (by grind)))
  grind
theorem zc {l:Array Bool} {i j:Nat} (hi:i<l.size):(l.setIfInBounds i true).getD j false=true<->l.getD j false=true\/j=i:=by
 by_cases j=i
 simp_all
 ·simp
  grind
theorem UO {ops:Array Oper} {Q:Act->A1->Prop} {a:Act} {w:A1} (z:Gl ops=true) {m:Nat} (hm:ops.size=m+1) (h:wpS P ops Q (B4 (m+1)) a w):
 ∀(s t:Nat) (f:Array Bool) (b:Act),f.size=ops.size->(B4 ops.size).countP (λj=> !f.getD j false)=s->f.getD m false=false->
  (∀i o,ops[i]? =some o->f.getD i false=true-> ∀j∈nL o,f.getD j false=true)->
  (∃v:Nat->A2,(∀i,i<m-> ∃o,ops[i]? =some o/\(∀c,o.op≠ .defer c)/\(execOp (DE ops a v 0 i).eval o).run P w= .ok (.value (v i)) w)/\
   (∃o,ops[m]? =some o/\(∀c,o.op≠ .defer c)/\ ∃u w',CmR P o (DE ops a v 0 m) w u w'/\Q ((DE ops a v 0 m).put o.dst u) w')/\SR ops m v a (λj=>f.getD j false=true) b)->
  TQ P ops Q (FZ .any ops s t f []) b w:=by
 intro s
 induction s with
 |zero=>
  intro t f b y hc B _ _;exfalso;rw[OY] at hc;have:=hc m (Dn.2 (by omega));rw[B] at this;exact this rfl
 |succ s ih=>
  intro t f b y hc B S hx;obtain⟨v,hv,⟨J,C,T,u,w',U,V⟩,E⟩:=hx;have W: ∀i j t,i<m->j<m->dI ops i=some t->dI ops j=some t->j=i:=λi j t hi g h1 p=>by
   obtain⟨oi,l, _⟩:=hv i hi;obtain⟨oj,F, _⟩:=hv j g;rcases Nat.lt_trichotomy i j with q|q|q
   ·exact absurd p ((fD z F).2.2.2.2.1 i t q h1)
   ·exact q.symm
   ·exact absurd h1 ((fD z l).2.2.2.2.1 j t q p)
  have K: ∀k,k<=m->SR ops m v a (λj=>j<k) (DE ops a v 0 k):=by
   intro k
   induction k with
   |zero=>exact λ_=>⟨rfl,rfl,λj t _ hs=>absurd hs (Nat.not_lt_zero _),λt _=>rfl⟩
   |succ k L=>
    intro r;have:=(L (by omega)).step (S':=λj=>j<k+1) (i:=k) (by omega) (λj=>by omega) (λj t g h1 p=>W k j t (by omega) g p h1);show SR ops m v a _ ((DE ops a v 0 k).put (dI ops (0+k)) (v k));rw[Kq];exact this
  have same: ∀i o,ops[i]? =some o->i<=m->(∀j∈nL o,f.getD j false=true)->execOp b.eval o=execOp (DE ops a v 0 i).eval o:=λi o l hi D=>by
   obtain⟨_,hns,Ks,X, _, _⟩:=fD z l;refine execOp_congr o hns λx hx=>?_;cases x with
   |tmp t=>
    have ht:t∈GW o:=List.mem_filterMap.2 ⟨.tmp t,by simpa using hx,rfl⟩;have key:b.tmps[t]? =(DE ops a v 0 i).tmps[t]? :=by
     by_cases g: ∃j,j<ops.size/\dI ops j=some t
     ·obtain⟨j,Y,M⟩:=g;have G:=Ks t ht j Y M;have N:=X j G;rw[E.yes j t (by omega) (D j G) M,(K i hi).yes j t (by omega) N M]
     ·rw[E.no t λj AX _ O=>g ⟨j,by omega,O⟩,(K i hi).no t λj AX _ O=>g ⟨j,by omega,O⟩]
    simp only[GF,GD,key]
   | _=>rfl
  have wt: ∀i o,ops[i]? =some o-> ∀c:Act,Bx o (yielded ops c.tmps)=true:=λi o l c=>by
   unfold Bx;rw[(fD z l).1]
  simp only[FZ];change TQ P ops Q (match (B3 .any ops f)[t % (B3 .any ops f).length]? with
   |some i=>FZ .any ops s (t / (B3 .any ops f).length) (f.setIfInBounds i true) [i]
   |none=>[].reverse) b w
  cases hi:(B3 .any ops f)[t % (B3 .any ops f).length]? with
  |none=>
   exfalso;have Cz:B3 .any ops f=[]:=by
    cases hr:B3 .any ops f with
    |nil=>rfl
    |cons x xs=>
     rw[hr] at hi;have X:t % (x::xs).length<(x::xs).length:=Nat.mod_lt _ (by simp);rw[List.getElem?_eq_none_iff] at hi;omega
   have least: ∀k,k<=m->(∀j,j<k->f.getD j false=true)->f.getD k false=true:=λk r g=>by
    cases A:f.getD k false with
    |true=>rfl
    |false=>
     exfalso;obtain⟨o,l⟩: ∃o,ops[k]? =some o:=⟨_,KL (by omega)⟩;have:k∈B3 .any ops f:=(Bq y).2 ⟨o,l,A,λj G=>g j ((fD z l).2.2.2.1 j G)⟩;rw[Cz] at this;cases this
   have all: ∀k,k<=m->f.getD k false=true:=by
    intro k
    induction k using Kt with
    | _ k L=>exact λr=>least k r λj g=>L j g (by omega)
   rw[all m (DV _)] at B;cases B
  |some i=>
   simp only[];rw[linearise_go_acc,List.reverse_singleton,List.singleton_append];have hir:=List.mem_of_getElem? hi;obtain⟨o,l,ju,D⟩:=(Bq y).1 hir;have H:i<ops.size:=(CJ.1 l).1;by_cases Z:i=m
   ·subst Z;rw[C] at l;cases l;have all: ∀d k,k+d=i->k<i->f.getD k false=true:=by
     intro d
     induction d using Kt with
     | _ d ihd=>
       intro k r hki;obtain⟨ok,jT, _⟩:=hv k hki;rcases(fD z jT).2.2.2.2.2 with q|⟨j,x,hkj,I,u6⟩
       ·omega
       ·have Y:j<ops.size:=(CJ.1 I).1;by_cases N:j=i
        ·subst N;rw[C] at I;cases I;exact D k u6
        ·exact S j x I (ihd (i - j) (by omega) j (by omega) (by omega)) k u6
    have heq:b=DE ops a v 0 i:=E.eq (K i (DV _)) λj g=>⟨λ_=>g,λ_=>all (i - j) j (by omega) g⟩;have hf:s=0:=by
     have h1:(B4 ops.size).countP (λj=> !f.getD j false)<=1:=by
      rw[hm,Oc,In];have:(B4 i).countP (λj=> !f.getD j false)=0:=OY.2 λj g=>by
       rw[all (i - j) j (by have:=Dn.1 g;omega) (Dn.1 g)];decide
      rw[this];exact Nat.le_trans (by rw[Kq];exact List.countP_le_length) (DV 1)
     omega
    subst hf;refine⟨J,C,wt i J C b,T,u,w',.inr ?_,?_⟩
    ·rw[heq];exact U
    ·rw[heq];exact V
   ·have R:i<m:=by omega
    obtain⟨o',F,hn,dU⟩:=hv i R;rw[l] at F;cases F;refine⟨o,l,wt i o l b,hn,v i,w,.inl (by rw[same i o l (by omega) D];exact dU),?_⟩;have Og:(f.setIfInBounds i true).size=ops.size:=by simp[y]
    refine ih _ _ _ Og ?_ ?_ ?_ ⟨v,hv,⟨J,C,T,u,w',U,V⟩,?_⟩
    ·
     have ZJ: ∀n,i<n->(B4 n).countP (λj=> !f.getD j false)=(B4 n).countP (λj=> !(f.setIfInBounds i true).getD j false)+1:=by
      intro n
      induction n with
      |zero=>intro h;omega
      |succ n ihn=>
       intro lT;rw[Oc,In,In];by_cases e:i=n
       ·subst e;have h1:(B4 i).countP (λj=> !(f.setIfInBounds i true).getD j false)=(B4 i).countP (λj=> !f.getD j false):=by
         refine List.countP_congr λj g=>?_;have g:=Dn.1 g;have:(f.setIfInBounds i true).getD j false=f.getD j false:=by
          simp only[GD];rw[DJ (by omega)]
         rw[this]
        have p:(f.setIfInBounds i true).getD i false=true:=(zc (by rw[y];exact H)).2 (.inr rfl);rw[h1,Gt,Gt,p,ju];rfl
       ·have p:(f.setIfInBounds i true).getD n false=f.getD n false:=by
         simp only[GD];rw[DJ e]
        rw[ihn (by omega),Gt,Gt,p];omega
     have:=ZJ ops.size H;omega
    ·have:(f.setIfInBounds i true).getD m false=f.getD m false:=by
      simp only[GD];rw[DJ Z]
     rw[this];exact B
    ·intro k x r A j g;rw[zc (by rw[y];exact H)] at A ⊢;rcases A with A|rfl
     ·exact .inl (S k x r A j g)
     ·rw[l] at r;cases r;exact .inl (D j g)
    ·have:=E.step (S':=λj=>(f.setIfInBounds i true).getD j false=true) R (λj=>zc (by rw[y];exact H)) (λj t g h1 p=>W i j t R g p h1);rw[GX l] at this;exact this
theorem XN {ops:Array Oper} {Q:Act->A1->Prop} (c:Gl ops=true) {w:A1}: ∀(l:List Nat) (a:Act),wpS P ops Q l a w->TQ P ops Q l a w
 |[i],a,h=>by
  obtain⟨o,b,d,v,w',hc,e⟩:=h;exact⟨o,b,by unfold Bx;rw[(fD c b).1],d,v,w',.inr hc,e⟩
 |i::j::l,a,h=>by
  obtain⟨o,b,d,v,f,g⟩:=h;exact⟨o,b,by unfold Bx;rw[(fD c b).1],d,v,w,.inl f,XN c _ _ g⟩
theorem AV {r:Option Nat} {id:Nat} {ops:Array Oper} {f:Bool} {Q:Exit->Act->A1->Prop} {a:Act} {w:A1} (q:P.follows .mixedOrders=true) (hs:Gl ops=true) (h0:0<ops.size)
 (h: ∀w',Ext w w'->wpS P ops (Q .normal) (B4 ops.size) a w'):(Code.region id ops f).wpIn (WF r) 0 P Q a w:=by
 intro b k cs _ hb g;cases f with
 |false=>
  obtain⟨a',w',c,d⟩:=nb (r:=r) _ _ _ (XN hs _ _ (h w (Ext.refl w))) b k cs;exact⟨.normal,a',w',c,StepsIn.head (fenced_calm hb g rfl) stepR_region d⟩
 |true=>
  have e:=h _ (Ext.drew w);obtain⟨m,l⟩: ∃m,ops.size=m+1:=⟨ops.size - 1,by omega⟩;have key: ∀t,TQ P ops (Q .normal) (GO (P.follows .mixedOrders) ops t) a {w with drawn:=w.drawn+1}:=λt=>by
   simp only[GO,q,Bool.true_or,if_true,N9];rw[l] at e;have hx:=Jp m 0 a (by rw[<-OV];exact e);obtain⟨v,hv,o,y,s,u,w',hc,c⟩:=hx;have n: ∀j,(Et ops.size false).getD j false=false:=λj=>by
    by_cases x:j<ops.size<;>simp[KE,x]
   refine UO hs l e ops.size t _ a (by simp) ?_ (n m) (λi o _ p=>by rw[n] at p;cases p) ⟨v,λi hi=>?_,⟨o,?_,s,u,w',hc,c⟩,⟨rfl,rfl,by simp_all,λt _=>rfl⟩⟩
   simp_all
   grind
   grind
  obtain⟨a',w',c,d⟩:=nb (r:=r) _ _ _ (key _) b k cs;exact⟨.normal,a',w',c,StepsIn.head (fenced_calm hb g rfl) (stepR_region_draw) d⟩
def rxP (C:dM P) (ops:Array Oper) (N:Nat):List Nat->List bR->A1->(List bR->A1->Prop)->Prop
 |[], _, _, _=>False
 |i::r,env,w,K=>match ops[i]? with
  |none=>False
  |some ⟨dst,op,type,pos,after, _⟩=>if oZ ops N env [] dst then match r with
    |[]=>cop P (yg env []) op w (λv a=>xq env dst [] none v (λenv=>K env a))
    |j::l=>if I0 op then oM C ops env [] none ⟨dst,op,type,pos,after,none⟩ w (λv=>xq env dst [] none v (λenv=>rxP C ops N (j::l) env w K)) else dC 138 op
   else dC 139 op
theorem Pu {ops:Array Oper} {C:dM P} (k:Gl ops=true) (m:Wr S ops): ∀(l:List Nat) (env:List bR) (a:Act) (w w':A1) (K:List bR->A1->Prop),Fit S ops N D env a->rxP C ops N l env w K->Ext w w'->
 wpS P ops (λa1 w1=> ∃dh n,K dh n/\Fit S ops N D dh a1/\Ext n w1) l a w'
 |[], _, _, _, _, _, _,h, _=>h.elim
 |i::r,env,a,w,w',K,e,h,f=>by
  unfold rxP at h;split at h
  ·exact h.elim
  ·rename_i dst op type pos after guard d;have s:=m _ (KP d);have hg:guard=none:=(fD k d).1;subst hg;split at h
   ·rename_i t;have p: ∀v,Fit S ops N D (kZ env dst [] none v) (a.put dst v):=λv=>e.put t s rfl (λ_=>rfl) (λb=>absurd eM b);split at h
    ·obtain⟨b,v,q,hc,c⟩:=Pt (o:=⟨dst,op,type,pos,after,none⟩) (a:=a) (λx v hx=>e.ev eM hx) h f;rw[nQ] at c;exact⟨_,d,b,v,q,hc, _,q,c,p v,Ext.refl _⟩
    ·rename_i j l;split at h
     ·rename_i u;obtain⟨v,c,y⟩:=yU (g:=none) e rfl h;obtain⟨z,b⟩:=Bo (o:=⟨dst,op,type,pos,after,none⟩) u (y eM w' f);rw[nQ] at c;exact⟨_,d,b,v,z,Pu k m (j::l) _ _ _ _ K (p v) c f⟩
     ·exact h.elim
   ·exact h.elim
def OW (C:dM P) (N:Nat) (ops:Array Oper) (a:Bool) (env:List bR) (w:A1) (K:List bR->A1->Prop):Prop:=
 if abo ops then
  if Uu ops then rxC C ops N (B4 ops.size) env w (λenv w=>jH (kl env) λenv=>K env w)
  else if Gl ops&&F2 0 ops.size then rxP C ops N (B4 ops.size) env w (λenv w=>jH (kl env) λenv=>K env w) else False
 else if a then
  if OT ops then Y8 C ops N env w (λenv w=>jH (kl env) λenv=>K env w) else False
 else rxL C ops N (B4 ops.size) env w (λenv w=>jH (kl env) λenv=>K env w)
inductive Md where
 |run|to (b:Nat) (K:List bR->A1->Prop)|Xb (b:Nat)
def atR (b:Nat) (y:Code):Bool:=match jI y with
 |some i=>Nat.beq i b
 |none=>false
def Gm (b:Nat):Code->Option Code
 | .seq _ y=>match atR b y with
   |true=>some y
   |false=>Gm b y
 | _=>none
def oT (b:Nat):Code->List Nat
 | .seq x y=>writes x++(match atR b y with
   |true=>[]
   |false=>oT b y)
 | _=>[]
def aaU (b:Nat):Code->Bool
 | .seq x y=>match atR b x with
   |true=>true
   |false=>aaU b y
 |c=>atR b c
def abr (aT:Nat->a6) (c y:Code):Option (Nat×a6):=match jI c with
 |none=>none
 |some a=>match aT (1000000+a) with
  |[]=>none
  |(b, _)::sl=>match aaU b y with
   |true=>some (b,sl)
   |false=>none
def Oz (sl:a6) (J:oG (sl.map (·.2))->A1->Prop) (env:List bR) (w:A1):Prop:=match o8 sl env with
 |some s=>J s w
 |none=>False
def cC (C:dM P) (aT:Nat->a6) (N:Nat):Code->Md->List bR->A1->(List bR->A1->Prop)->(Nat->List bR->A1->Prop)->(List bR->A1->Prop)->Prop
 | .skip,.run,env,w,Kn, _, _=>Kn env w
 | .region _ ops g,.run,env,w,Kn, _, _=>OW C N ops g env w Kn
 | .seq x y,m,env,w,Kn,Kx,Kr=>match m with
   | .run=>match abr aT x y with
     |none=>cC C aT N x .run env w (λenv w=>cC C aT N y .run env w Kn Kx Kr) Kx Kr
     |some (b,sl)=> ∃J:oG (sl.map (·.2))->A1->Prop,
      cC C aT N x .run env w (λenv w=>match atR b y with
       |true=>Oz sl J env w
       |false=>cC C aT N y (.to b (Oz sl J)) env w Kn Kx Kr) Kx Kr/\
      ∀s w1,J s w1->jH (k8 sl s++env.filter λe=> !(oT b (.seq x y)).contains e.t) λdh=>match atR b y with
       |true=>cC C aT N y .run dh w1 Kn Kx Kr
       |false=>cC C aT N y (.Xb b) dh w1 Kn Kx Kr
   | .to b K=>cC C aT N x .run env w (λenv w=>match atR b y with
    |true=>K env w
    |false=>cC C aT N y (.to b K) env w Kn Kx Kr) Kx Kr
   | .Xb b=>match atR b y with
    |true=>cC C aT N y .run env w Kn Kx Kr
    |false=>cC C aT N y (.Xb b) env w Kn Kx Kr
 | .cond c x y,.run,env,w,Kn,Kx,Kr=>match yg env [] c with
   |some (.bool b)=>aI b (cC C aT N x .run env w Kn Kx Kr) (cC C aT N y .run env w Kn Kx Kr)
   | _=>False
 | .block id x,.run,env,w,Kn,Kx,Kr=>cC C aT N x .run env w Kn (λa env w=>if a=id then Kn env w else Kx a env w) Kr
 | .loop x,.run,env,w, _,Kx,Kr=>
   let sl:=aT ((jI x).getD 0)
   match o8 sl env with
   |none=>False
   |some h=> ∃I:Nat->oG (sl.map (·.2))->A1->Prop,(∃n, ∀w1,Ext w w1->I n h w1)/\
    ∀n s w1,I n s w1->jH (k8 sl s++env.filter λe=> !(writes x).contains e.t) λdh=>cC C aT N x .run dh w1
     (λi j=>match o8 sl i with
      |some k=> ∀d,Ext j d-> ∃f,f<n/\I f k d
      |none=>False) Kx Kr
 | .exit id,.run,env,w, _,Kx, _=>Kx id env w
 | .ret,.run,env,w, _, _,Kr=>Kr env w
 | _, _, _, _, _, _, _=>False
@[reducible] def rV (C:dM P) (aT:Nat->a6) (N:Nat) (c:Code) (env:List bR) (w:A1) (Kn:List bR->A1->Prop) (Kx:Nat->List bR->A1->Prop) (Kr:List bR->A1->Prop):Prop:=
 cC C aT N c .run env w Kn Kx Kr
def Qp (S:Nat->Option (Option A2)) (N:Nat) (D:List Deferred) (Kn:List bR->A1->Prop) (Kx:Nat->List bR->A1->Prop) (Kr:List bR->A1->Prop):Exit->Act->A1->Prop
 | .normal,a,w=> ∃env b,Kn env b/\plain env/\Fit S #[] N D env a/\Ext b w
 | .exit id,a,w=> ∃env b,Kx id env b/\plain env/\Fit S #[] N D env a/\Ext b w
 | .ret,a,w=> ∃env b,Kr env b/\plain env/\Fit S #[] N D env a/\Ext b w
 | _, _, _=>False
theorem UP {ops:Array Oper} (h: ∀k∈Ut ops,S k=none):Wr S ops:=λo a k b=>h k (by
 simp[Ut]
 grind)
theorem Qs {r:Option Nat} {C:dM P} {id:Nat} {ops:Array Oper} {b:Bool} {w w':A1} {Kn:List bR->A1->Prop} {Kx:Nat->List bR->A1->Prop} {Kr:List bR->A1->Prop}
 (m: ∀k∈Ut ops,S k=none) (n:plain env) (o:Fit S #[] N D env a) (h:OW C N ops b env w Kn) (d:Ext w w'):
 (Code.region id ops b).wpIn (WF r) 0 P (Qp S N D Kn Kx Kr) a w':=by
 have e:Fit S ops N D env a:=o.Qq n;have f:=UP m;have p: ∀env a w w',Kn (kl env) w->Fit S ops N D env a->Ext w w'->Qp S N D Kn Kx Kr .normal a w':=λenv a w w' q l hx=>
  ⟨_,w,q,(Bm (ops':= #[]) l).2,(Bm l).1,hx⟩
 have s: ∀c a w,¬ Qp S N D Kn Kx Kr (.panic c) a w:=λ_ _ _ h=>h;simp only[OW,jM] at h;split at h
 ·split at h
  ·rename_i t;refine AU C.mixed t λg i=>?_;have:=GU (C:=C) f _ env a w g _ e h (d.trans i)
   grind[EC]
  ·split at h
   ·rename_i j
    simp_all
    refine AV C.mixed j.1 j.2 λg i=>?_;have:=Pu (C:=C) j.1 f _ env a w g _ e h (d.trans i)
    grind[ED]
   ·exact h.elim
 cases b with
 |false=>exact wpIn_region (by grind[Pm])
 |true=>
  simp only[if_true] at h;split at h
  ·rename_i u;exact wpIn_region_any C.mixed (zL _ _ _ _ (n6 (UN (C:=C) f u s env a w _ e h p) (d.trans (Ext.drew _))))
  ·exact AB h
theorem tN: ∀{l:a6} {s:oG (l.map (·.2))} {e:bR},e∈k8 l s->e.ch=[]/\e.g=none
 |sc::r,s,e,h=>by
  simp[k8] at h;rcases h with rfl|h;simp
  ·exact tN h
theorem CV: ∀{l:a6} {s:oG (l.map (·.2))} {e:bR},e∈k8 l s->e.k=none
 |t::r,s,e,h=>by
  simp[k8] at h;rcases h with rfl|h
  ·rfl
  ·exact CV h
theorem mo: ∀{l m:List bR} {t:Nat} {e:bR},b_ (l++m) t=some e->(b_ l t=some e)\/(b_ l t=none/\b_ m t=some e)
 |[],m,t,e,h=> .inr ⟨rfl,h⟩
 |x::r,m,t,e,h=>by
  simp[b_] at h ⊢;split at h
  grind
  ·rename_i a;rw[if_neg a];exact mo h
theorem ql: ∀{l:a6} {env:List bR} {s:oG (l.map (·.2))} {t:Nat} {e:bR},o8 l env=some s->b_ (k8 l s) t=some e-> ∃e',b_ env t=some e'/\e'.v=e.v
 |(t0,sc)::r,env,s,t,e,a,h=>by
  simp only[o8] at a;split at a
  ·rename_i c d;split at a
   ·rename_i x y hx b;cases a;simp only[k8,b_] at h;split at h
    ·grind[El.iC]
    ·exact ql b h
   ·cases a
  ·cases a
theorem zd {l:List bR} {p:bR->Bool} {t:Nat} {e:bR} (h:b_ (l.filter p) t=some e):e∈l/\p e=true:=by
 have:=bV h;simpa
theorem zN {F:Fence} {m:Nat} {Q:Exit->Act->A1->Prop} {c:Code} (R:Nat->Act->A1->Prop) {n0:Nat} {a:Act} {w:A1} (h0:R n0 a w)
 (round: ∀n a w,R n a w->c.wpIn F m P (Exit.then (λa' w'=> ∃d,d<n/\R d a' w') Q) a w):(Code.loop c).wpIn F m P Q a w:=by
 intro b k cs i hb g;have key: ∀j a w,R j a w->
  ∃e a' w',Q e a' w'/\ArrivesIn (Machine.fenced P F) P (lone (b.atR a (.code c:: .inLoop c::k)) cs w) b k cs e a' w':=by
  intro j
  induction j using Kt with
  | _ j l=>
    intro a w o;obtain⟨e,p,q,f,h⟩:=round j a w o b _ cs i hb g;cases e with
    |normal=>
     obtain⟨d,r,s⟩:=f;obtain⟨t,u,v,x,y⟩:=l d r _ _ s;exact⟨t,u,v,x,.of_steps (StepsIn.trans h (.one (fenced_calm hb g rfl) stepR_inLoop)) y⟩
    |exit
    |goto
    |ret
    |panic
    |outgrown=>exact⟨_,p,q,f,‹_›⟩
 obtain⟨e,a',w',f,h⟩:=key _ a w h0;exact⟨e,a',w',f,.of_steps (.one (fenced_calm hb g rfl) stepR_loop) h⟩
theorem ZK (b:Nat) (c:Code): ∀t:Nat,t∈oT b c->t∈writes c:=by
 induction c with
 |seq=>
  grind[oT,writes]
 | _=>intro t h;cases h
structure Zb (P:AM) (r:Option Nat) (C:dM P) (aT:Nat->a6) (N:Nat) (D:List Deferred) (c:Code):Prop where
 run: ∀(S:Nat->Option (Option A2)) (env:List bR) (a:Act) (w w':A1) (Kn:List bR->A1->Prop) (Kx:Nat->List bR->A1->Prop) (Kr:List bR->A1->Prop),
  (∀k∈writes c,S k=none)->plain env->Fit S #[] N D env a->cC C aT N c .run env w Kn Kx Kr->Ext w w'->c.wpIn (WF r) 0 P (Qp S N D Kn Kx Kr) a w'
 to: ∀(b:Nat) (K:List bR->A1->Prop) (S:Nat->Option (Option A2)) (env:List bR) (a:Act) (w w':A1) (Kn:List bR->A1->Prop) (Kx:Nat->List bR->A1->Prop) (Kr:List bR->A1->Prop) (Q:Exit->Act->A1->Prop),
  (∀k∈oT b c,S k=none)->plain env->Fit S #[] N D env a->cC C aT N c (.to b K) env w Kn Kx Kr->Ext w w'->(∀id a w,Qp S N D Kn Kx Kr (.exit id) a w->Q (.exit id) a w)->(∀a w,Qp S N D Kn Kx Kr .ret a w->Q .ret a w)->
  (∀y dh a1 w1 Av,Gm b c=some y->K dh w1->plain dh->Fit S #[] N D dh a1->Ext w1 Av->y.wpIn (WF r) 0 P Q a1 Av)->c.wpIn (WF r) 0 P Q a w'
 Xb: ∀(b:Nat) (S:Nat->Option (Option A2)) (env:List bR) (a:Act) (w w':A1) (Kn:List bR->A1->Prop) (Kx:Nat->List bR->A1->Prop) (Kr:List bR->A1->Prop) (y:Code),
  Gm b c=some y->(∀k∈writes c,S k=none)->plain env->Fit S #[] N D env a->cC C aT N c (.Xb b) env w Kn Kx Kr->Ext w w'->y.wpIn (WF r) 0 P (Qp S N D Kn Kx Kr) a w'
theorem Zb.of {r:Option Nat} {C:dM P} {aT:Nat->a6} {c:Code} (h: ∀(S:Nat->Option (Option A2)) (env:List bR) (a:Act) (w w':A1) (Kn:List bR->A1->Prop) (Kx:Nat->List bR->A1->Prop) (Kr:List bR->A1->Prop),
 (∀k∈writes c,S k=none)->plain env->Fit S #[] N D env a->cC C aT N c .run env w Kn Kx Kr->Ext w w'->c.wpIn (WF r) 0 P (Qp S N D Kn Kx Kr) a w')
 (h1: ∀b K env w Kn Kx Kr,¬ cC C aT N c (.to b K) env w Kn Kx Kr) (d: ∀b env w Kn Kx Kr,¬ cC C aT N c (.Xb b) env w Kn Kx Kr):Zb P r C aT N D c:=
 ⟨h,by grind,by grind⟩
theorem Hn {r:Option Nat} {C:dM P} {aT:Nat->a6}: ∀c:Code,Zb P r C aT N D c:=by
 intro c
 induction c with
 |skip=>exact .of (λS env a w w' Kn Kx Kr _ g f h l=>wpIn_skip ⟨env,w,h,g,f,l⟩) (λ_ _ _ _ _ _ _ h=>h) (λ_ _ _ _ _ _ h=>h)
 |region id ops draw=>exact .of (λS env a w w' Kn Kx Kr q g f h l=>Qs q g f h l) (λ_ _ _ _ _ _ _ h=>h) (λ_ _ _ _ _ _ h=>h)
 |seq x y T8 H=>
  refine⟨?_,?_,?_⟩
  ·intro S env a w w' Kn Kx Kr q g f h l;simp only[cC] at h;split at h
   ·refine wpIn_seq (wpIn_mono (T8.run S env a w w' _ Kx Kr (λk d=>q k (by simp[writes,d])) g f h l) ?_);intro e a1 w1 o;cases e with
    |normal=>
     obtain⟨dh,p,d,V,W,X⟩:=o;exact H.run S dh a1 p w1 Kn Kx Kr (λk d=>q k (by simp[writes,d])) V W d X
    | _=>exact o
   ·rename_i b sl _;obtain⟨J,hx,hJ⟩:=h;simp only[jM] at hJ
    let i:Nat->Option (Option A2):=λt=>if(oT b (.seq x y)).contains t then none else some (a.tmps[t]?)
    let dA:=env.filter λe=> !(oT b (.seq x y)).contains e.t
    have nil: ∀(tm:Array A2),j9 #[] tm []:=λtm x hx=>by cases hx
    have Eg: ∀t e,b_ dA t=some e->a.tmps[t]? =some e.v/\(oT b (.seq x y)).contains t=false/\e.ch=[]:=by
     intro t e he;have Y:=yW he;have hs:=zd he;have E:(oT b (.seq x y)).contains t=false:=by rw[<-Y];simpa using hs.2
     have u:b_ env t=some e:=iR he (λy _ hyt=>by rw[hyt,E];rfl);exact⟨f.yes t e u (by rw[(g e hs.1).1];exact nil _),E,(g e hs.1).1⟩
    have head: ∀(m:List bR) (j:Act) (s:oG (sl.map (·.2))),plain m->Fit i #[] N D m j->o8 sl m=some s->Fit i #[] N D (k8 sl s++dA) j/\plain (k8 sl s++dA):=by
     intro m j s Z A Aw;have L:plain (k8 sl s++dA):=λe he=>by
      rcases E5.1 he with he|he
      ·exact tN he
      ·exact g e (by simpa[dA] using(CK.1 he).1)
     refine⟨⟨A.off,A.size,A.qH,λt e he _=>?_,λt e he hn=>absurd (by rw[(L e (bV he)).1];exact nil _) hn,(λe he=>by rw[(L e he).2];exact(L e he).1),λe he b hb=>by
      rcases E5.1 he with he|he
      ·rw[CV he] at hb;cases hb
      ·exact f.Cl e (CK.1 he).1 b hb⟩,L⟩
     rcases mo he with he|⟨_,he⟩
     ·obtain⟨e',jS,hv⟩:=ql Aw he;rw[<-hv];exact A.yes t e' jS (by rw[(Z e' (bV jS)).1];exact nil _)
     ·obtain⟨hv,E, _⟩:=Eg t e he;have:=A.off t (a.tmps[t]?) (by simp only[i,E];rfl);rw[this,hv]
    have OA:Fit i #[] N D env a:=⟨λt x hx=>by
     simp only[i] at hx;split at hx
     ·cases hx
     ·cases hx;rfl,f.size,f.qH,f.yes,f.no,f.F1,f.Cl⟩
    have back: ∀{m:List bR} {j:Act},Fit i #[] N D m j->Fit S #[] N D m j:=λ{m j} u=>⟨λt z F=>by
     have E:(oT b (.seq x y)).contains t=false:=by
      cases hc:(oT b (.seq x y)).contains t with
      |false=>rfl
      |true=>have:=q t (ZK b _ t (by simpa using hc));rw[this] at F;cases F
     have h1:=u.off t (a.tmps[t]?) (by simp only[i,E];rfl);rw[h1];exact f.off t z F,u.size,u.qH,u.yes,u.no,u.F1,u.Cl⟩
    have hS1: ∀k∈oT b (.seq x y),i k=none:=λk d=>by simp[i,d]
    have acu: ∀k∈writes x,i k=none:=λk d=>hS1 k (by simp[oT,d]);have bx: ∀(id:Nat) (a:Act) (w:A1),Qp i N D Kn Kx Kr (.exit id) a w->Qp S N D Kn Kx Kr (.exit id) a w:=λid a w ⟨M,p,d,O,R,T⟩=>⟨M,p,d,O,back R,T⟩;have br: ∀(a:Act) (w:A1),Qp i N D Kn Kx Kr .ret a w->Qp S N D Kn Kx Kr .ret a w:=λa w ⟨M,p,d,O,R,T⟩=>⟨M,p,d,O,back R,T⟩;have F: ∀k∈writes y,S k=none:=λk d=>q k (by simp[writes,d]);refine wpIn_seq (wpIn_mono (T8.run i env a w w' _ Kx Kr acu g OA hx l) ?_);intro e a1 w1 o;cases e with
    |normal=>
     obtain⟨dh,p,d,V,W,X⟩:=o;cases B:atR b y with
     |true=>
      simp only[B] at d hJ;unfold Oz at d;split at d
      ·rename_i s hs;obtain⟨Yk,Yl⟩:=head dh a1 s V W hs;exact H.run S _ a1 p w1 Kn Kx Kr F Yl (back Yk) (hJ s p d) X
      ·exact d.elim
     |false=>
      simp only[B] at d hJ;have acv: ∀k∈oT b y,i k=none:=λk d=>hS1 k (by simp[oT,B,d]);refine H.to b (Oz sl J) i dh a1 p w1 Kn Kx Kr _ acv V W d X bx br ?_;intro y' m j G Cr U hK Z A yi;unfold Oz at hK;split at hK
      ·rename_i s hs;obtain⟨Yk,Yl⟩:=head m j s Z A hs;exact H.Xb b S _ j G Cr Kn Kx Kr y' U F Yl (back Yk) (hJ s G hK) yi
      ·exact hK.elim
    |exit id=>exact bx id a1 w1 o
    |ret=>exact br a1 w1 o
    | _=>exact o
  ·intro b K S env a w w' Kn Kx Kr Q q g f h l hx hr KJ;simp only[cC] at h;refine wpIn_seq (wpIn_mono (T8.run S env a w w' _ Kx Kr (λk d=>q k (by simp[oT,d])) g f h l) ?_);intro e a1 w1 o;cases e with
   |normal=>
    obtain⟨dh,p,d,V,W,X⟩:=o;cases B:atR b y with
    |true=>
     simp only[B] at d;exact KJ y dh a1 p w1 (by simp[Gm,B]) d V W X
    |false=>
     simp only[B] at d;exact H.to b K S dh a1 p w1 Kn Kx Kr Q (λk d=>q k (by simp[oT,B,d])) V W d X hx hr (λy' m j G Cr U=>KJ y' m j G Cr (by simp[Gm,B,U]))
   |exit id=>exact hx id a1 w1 o
   |ret=>exact hr a1 w1 o
   | _=>exact o.elim
  ·intro b S env a w w' Kn Kx Kr y' U q g f h l;simp only[cC] at h;have F: ∀k∈writes y,S k=none:=λk d=>q k (by simp[writes,d]);cases B:atR b y with
   |true=>
    simp only[B] at h;simp only[Gm,B,DA] at U;subst U;exact H.run S env a w w' Kn Kx Kr F g f h l
   |false=>
    simp only[B] at h;simp only[Gm,B] at U;exact H.Xb b S env a w w' Kn Kx Kr y' U F g f h l
 |cond c x y T8 H=>
  refine .of ?_ (λ_ _ _ _ _ _ _ h=>h) (λ_ _ _ _ _ _ h=>h);intro S env a w w' Kn Kx Kr q g f h l;simp only[cC] at h;split at h
  ·rename_i b hb;have Ym:=f.ev (ch:=[]) (λ_ hx=>by cases hx) hb;refine wpIn_cond_split Ym (λY=>T8.run S env a w w' Kn Kx Kr (λk d=>q k (by simp[writes,d])) g f (Ex h Y) l) (λY=>H.run S env a w w' Kn Kx Kr (λk d=>q k (by simp[writes,d])) g f (Bj h Y) l)
  ·exact AB h
 |block id x ih=>
  refine .of ?_ (λ_ _ _ _ _ _ _ h=>h) (λ_ _ _ _ _ _ h=>h);intro S env a w w' Kn Kx Kr q g f h l;refine wpIn_block (wpIn_mono (ih.run S env a w w' Kn _ Kr q g f h l) ?_);intro e a1 w1 o;cases e with
  |exit Yj=>
   obtain⟨dh,p,d,rest⟩:=o;simp only[Exit.inBlock];split
   ·rename_i he;simp only[he,if_true] at d;exact⟨dh,p,d,rest⟩
   ·rename_i he;simp only[he,if_false] at d;exact⟨dh,p,d,rest⟩
  | _=>exact o
 |exit id=>exact .of (λS env a w w' Kn Kx Kr _ g f h l=>wpIn_exit ⟨env,w,h,g,f,l⟩) (λ_ _ _ _ _ _ _ h=>h) (λ_ _ _ _ _ _ h=>h)
 |ret=>exact .of (λS env a w w' Kn Kx Kr _ g f h l=>wpIn_ret ⟨env,w,h,g,f,l⟩) (λ_ _ _ _ _ _ _ h=>h) (λ_ _ _ _ _ _ h=>h)
 |loop x ih=>
  refine .of ?_ (λ_ _ _ _ _ _ _ h=>h) (λ_ _ _ _ _ _ h=>h);intro S env a w w' Kn Kx Kr q g f h l;simp only[cC,jM] at h;split at h
  ·exact AB h
  ·rename_i s0 hs0;obtain⟨I,⟨n0,h0⟩,o9⟩:=h
   let sl:=aT ((jI x).getD 0)
   let i:Nat->Option (Option A2):=λt=>if(writes x).contains t then none else some (a.tmps[t]?)
   let dA:=env.filter λe=> !(writes x).contains e.t
   have nil: ∀(tm:Array A2),j9 #[] tm []:=λtm x hx=>by cases hx
   have Eg: ∀t e,b_ dA t=some e->a.tmps[t]? =some e.v/\(writes x).contains t=false/\e.ch=[]:=by
    intro t e he;have Y:=yW he;have hs:=zd he;have E:(writes x).contains t=false:=by rw[<-Y];simpa using hs.2
    have u:b_ env t=some e:=iR he (λy _ hyt=>by rw[hyt,E];rfl);exact⟨f.yes t e u (by rw[(g e hs.1).1];exact nil _),E,(g e hs.1).1⟩
   have head: ∀(m:List bR) (j:Act) (s:oG (sl.map (·.2))),plain m->Fit i #[] N D m j->o8 sl m=some s->Fit i #[] N D (k8 sl s++dA) j/\plain (k8 sl s++dA):=by
    intro m j s Z A Aw;have L:plain (k8 sl s++dA):=λe he=>by
     rcases E5.1 he with he|he
     ·exact tN he
     ·exact g e (by simpa[dA] using(CK.1 he).1)
    refine⟨⟨A.off,A.size,A.qH,λt e he _=>?_,λt e he hn=>absurd (by rw[(L e (bV he)).1];exact nil _) hn,(λe he=>by rw[(L e he).2];exact(L e he).1),λe he b hb=>by
     rcases E5.1 he with he|he
     ·rw[CV he] at hb;cases hb
     ·exact f.Cl e (CK.1 he).1 b hb⟩,L⟩
    rcases mo he with he|⟨_,he⟩
    ·obtain⟨e',jS,hv⟩:=ql Aw he;rw[<-hv];exact A.yes t e' jS (by rw[(Z e' (bV jS)).1];exact nil _)
    ·obtain⟨hv,E, _⟩:=Eg t e he;have:=A.off t (a.tmps[t]?) (by simp only[i,E];rfl);rw[this,hv]
   have OA:Fit i #[] N D env a:=⟨λt x hx=>by
    simp only[i] at hx;split at hx
    ·cases hx
    ·cases hx;rfl,f.size,f.qH,f.yes,f.no,f.F1,f.Cl⟩
   have back: ∀{m:List bR} {j:Act},Fit i #[] N D m j->Fit S #[] N D m j:=λ{m j} u=>⟨λt y F=>by
    have E:(writes x).contains t=false:=by
     cases hc:(writes x).contains t with
     |false=>rfl
     |true=>have:=q t (by simpa[writes] using hc);rw[this] at F;cases F
    have h1:=u.off t (a.tmps[t]?) (by simp only[i,E];rfl);rw[h1];exact f.off t y F,u.size,u.qH,u.yes,u.no,u.F1,u.Cl⟩
   have hS1: ∀k∈writes x,i k=none:=λk d=>by simp[i,d]
   obtain⟨hF4,hp4⟩:=head env a s0 g OA hs0;refine zN (λn j G=> ∃s,I n s G/\Fit i #[] N D (k8 sl s++dA) j/\plain (k8 sl s++dA)) (n0:=n0) ⟨s0,h0 w' l,hF4,hp4⟩ ?_;intro n j G ⟨s,hI,A,Z⟩;have hb:=ih.run i _ j G G _ Kx Kr hS1 Z A (o9 n s G hI) (Ext.refl _);refine wpIn_mono hb ?_;intro e a3 w3 o;cases e with
   |normal=>
    obtain⟨M,p,d,O,R,T⟩:=o;simp only[Exit.then];split at d
    ·rename_i s3 hs3;obtain⟨n',jz,hI'⟩:=d w3 T;obtain⟨Yk,Yl⟩:=head M a3 s3 O R hs3;exact⟨n',jz,s3,hI',Yk,Yl⟩
    ·exact d.elim
   |exit id=>obtain⟨M,p,d,O,R,T⟩:=o;exact⟨M,p,d,O,back R,T⟩
   |ret=>obtain⟨M,p,d,O,R,T⟩:=o;exact⟨M,p,d,O,back R,T⟩
   | _=>exact o
 | _=>exact .of (λS env a w w' Kn Kx Kr q g f h l=>AB h) (λ_ _ _ _ _ _ _ h=>h) (λ_ _ _ _ _ _ h=>h)
theorem qm {r:Option Nat} {C:dM P} {aT:Nat->a6}: ∀(c:Code) (S:Nat->Option (Option A2)) (env:List bR) (a:Act) (w w':A1) (Kn:List bR->A1->Prop) (Kx:Nat->List bR->A1->Prop) (Kr:List bR->A1->Prop),
 (∀k∈writes c,S k=none)->plain env->Fit S #[] N D env a->rV C aT N c env w Kn Kx Kr->Ext w w'->c.wpIn (WF r) 0 P (Qp S N D Kn Kx Kr) a w':=λc=>(Hn c).run
def jJ:List A2->Nat->List bR
 |[], _=>[]
 |v::r,i=>⟨i,[],none,v,none⟩::jJ r (i+1)
def nS:List ResultVar->List bR->Option (List A2)
 |[], _=>some []
 | .tmp t::r,env=>match b_ env t,nS r env with
   |some e,some l=>some (e.v::l)
   | _, _=>none
 | .cell .. :: _, _=>none
def KK (l:List A2):A2:=
 match l with
 |[v]=>v
 |l=> .tuple ⟨l⟩
def aJ (C:dM P) (aT:Nat->a6) (f:B2) (args:List A2) (w:A1) (Post:(uX C f).T->A1->Prop):Prop:=
 match P.funcs[f]? with
 |none=>False
 |some fn=>match fn.body with
  |none=>False
  |some c=>
   let fin:List bR->A1->Prop:=λenv w=>match nS fn.results.toList env with
    |some l=>match (uX C f).proj (KK l) with
     |some x=>au w (λw1=>Post x w1)
     |none=>False
    |none=>False
   if args.length<=fn.ntmps then rV C aT fn.ntmps c (jJ args 0) w fin (λ_ _ _=>False) fin else False
theorem pP: ∀{l:List A2} {i t:Nat} {e:bR},b_ (jJ l i) t=some e->i<=t/\l[t - i]? =some e.v/\e.ch=[]/\e.g=none
 |v::r,i,t,e,h=>by
  simp[jJ,b_] at h;split at h
  grind
  ·obtain:=pP h
   grind
theorem ze: ∀{l:List A2} {i:Nat} {e:bR},e∈jJ l i->e.k=none
 |v::r,i,e,h=>by
  simp[jJ] at h;rcases h with rfl|h
  ·rfl
  ·exact ze h
theorem si: ∀{l:List A2} {i:Nat} {e:bR},e∈jJ l i->e.ch=[]/\e.g=none
 |v::r,i,e,h=>by
  simp[jJ] at h;rcases h with rfl|h;simp
  ·exact si h
def nM (tmps:Array A2):ResultVar->Sem A2
 | .tmp t=>pure (tmps.getD t undef)
 | .cell a t=>do loadVar t (<-asAddr (tmps.getD a undef))
theorem wc {tmps:Array A2} {w:A1}: ∀{l:List ResultVar} {env:List bR} {vs:List A2},nS l env=some vs->(∀t e,b_ env t=some e->tmps[t]? =some e.v)->
 (l.mapM (nM tmps)).run P w= .ok vs w
 |[], _, _,h, _=>by simp_all[nS]
 | .tmp t::r,env,vs,h,hv=>by
   simp[nS] at h;split at h
   ·rename_i e l b a;have c:=wc (w:=w) a hv
    simp_all[nM]
   grind
theorem FB {fn:Func} {tmps:Array A2} {w:A1} {env:List bR} {vs:List A2} (h:nS fn.results.toList env=some vs) (hv: ∀t e,b_ env t=some e->tmps[t]? =some e.v):
 (results fn tmps).run P w= .ok (KK vs) w:=by
 have h1:=wc (P:=P) (w:=w) h hv;have a:(fn.results.mapM (nM tmps)).run P w= .ok ⟨vs⟩ w:=by
  simp_all[KC]
 have e:results fn tmps=(do
  let vs<-fn.results.mapM (nM tmps)
  pure _):=rfl
 rw[e,AY,a]
 match vs with
 |[]=>rfl
 |[v]=>rfl
 |v::u::r=>rfl
theorem ai {C:dM P} {aT:Nat->a6} {f:B2} {args:List A2} {w:A1} {Post:(uX C f).T->A1->Prop} (h:aJ C aT f args w Post):aD P f (uX C f) args w Post:=by
 unfold aJ at h;split at h
 ·exact AB h
 ·rename_i fn m;split at h
  ·exact AB h
  ·rename_i c hb;simp only at h;split at h
   ·rename_i A;have d:plain (jJ args 0):=λe a=>si a;have nil: ∀(o:Array Oper) (j:Array A2),j9 o j []:=λo j x hx=>by cases hx
    have p:Fit (λ_=>none) #[] fn.ntmps [] (jJ args 0) {tmps:=(⟨args⟩:Array A2)++Et (fn.ntmps - args.length) undef,defers:=[]}:=by
     refine⟨(λ_ _ hx=>by cases hx),(by simp;omega),rfl,λt e a _=>?_,λt e a q=>absurd (by rw[(d e (bV a)).1];exact nil _ _) q,(λe a=>by rw[(d e a).2];exact(d e a).1),by grind[ze]⟩;obtain⟨_,hv, _⟩:=pP a
     grind
    have s:=qm (r:=none) (C:=C) (aT:=aT) c (λ_=>none) _ _ w w _ _ _ (λ_ _=>rfl) d p h (Ext.refl w);refine calls_of_wp m hb ((wpIn_wide (n:=0)).1 (wpIn_mono s ?_));have fin: ∀a1 w1,(∃env i,(match nS fn.results.toList env with
     |some l=>match (uX C f).proj (KK l) with
      |some x=> ∀w1,Ext i w1->Post x w1
      |none=>False
     |none=>False)/\plain env/\Fit (λ_=>none) #[] fn.ntmps [] env a1/\Ext i w1)->a1.defers=[]/\ ∃v,(results fn a1.tmps).run P w1= .ok v w1/\ ∃x:(uX C f).T,Ending.returned v= .returned ((uX C f).ia x)/\Post x w1:=by
     intro a1 w1 ⟨env,i,b,u,k,y⟩;split at b
     ·rename_i l z;split at b
      ·rename_i x hx;refine⟨k.qH, _,FB z (λt e a=>k.yes t e a (by rw[(u e (bV a)).1];exact nil _ _)),x,by rw[Sh.iC hx],b w1 y⟩
      ·exact b.elim
     ·exact b.elim
    intro e a1 w1 g;cases e with
    |normal=>exact fin a1 w1 g
    |ret=>exact fin a1 w1 g
    |exit id=>obtain⟨_, _,b, _⟩:=g;exact b.elim
    | _=>exact(show False from g).elim
   ·exact AB h
variable {P:AM}
abbrev qI:=List bR->List Nat->A1->Prop
def marks (D:List Nat):List Deferred:=D.map λr=>{target:= .collected r,args:= #[]}
def yC:Code->Bool
 | .rangeFunc .. =>true
 | .seq a b=>yC a||yC b
 | .cond _ a b=>yC a||yC b
 | .block _ b=>yC b
 | .loop b=>yC b
 | _=>false
def s_ (w:A1) (l:Nat) (rec:Loop) (st:LoopState) (a:Option Code):A1:=w.putObj l (.loop {rec with state:=st,pending:=a})
def cX (w:A1) (l:Nat) (rec:Loop) (st:LoopState) (a:Option Code):Prop:=w.heap[l]? =some (.loop {rec with state:=st,pending:=a})
def Eh:List Nat->A1->Prop
 |[], _=>True
 |r::D,w=>w.heap[r]? =some (.deferred (some []))/\Eh D (w.putObj r (.deferred none))
def mC:List Nat->A1->A1
 |[],w=>w
 |r::D,w=>mC D (w.putObj r (.deferred none))
def Cs (l:Nat) (rec:Loop) (w:A1) (K:A1->Prop):Prop:= ∀a,Ext w a-> ∃b,cX a l rec .ready b/\K (s_ a l rec .busy b)
def sO (l:Nat) (rec:Loop) (a:Option Code) (w:A1) (R:Bool->A1->Prop):Prop:= ∀b,Ext w b-> ∃st c,cX b l rec st c/\R a.isNone (s_ b l rec (if a.isNone then .ready else .done) a)
def DL (l:Nat) (rec:Loop) (n m:Nat) (w:A1) (K:Prop):Prop:=(∃a,cX w l rec .ready a)/\n=m/\K
def sP (D:List Nat) (w:A1) (K:A1->Prop):Prop:= ∀w1,Ext w w1->Eh D w1/\K (mC D w1)
def An (P:AM) (b:B2) (args:Nat->List A2) (ps:Array Nat) (w:A1) {T:Type} (c:T->List A2) (d:Nat->Loop->T->A1->(Bool->A1->Prop)->Prop) (f:Nat->Loop->A1->Prop):Prop:=
 ∀w1,Ext w w1-> ∀rec:Loop,rec.params=ps->rec.defers=w1.heap.size->rec.state= .ready->rec.pending=none->
  (∀(x:T) a R,d (w1.heap.size+1) rec x a R->mz P (w1.heap.size+1) (c x) a R)->
  Calls P b ⟨args (w1.heap.size+1)⟩ ((w1.alloc (.deferred (some []))).alloc (.loop rec)) (λe g=> ∃v,e= .returned v/\f w1.heap.size rec g)
def Jq (C:dM P) (aT:Nat->a6) (N:Nat) (l:Nat) (rec:Loop) (ps:List Nat) (assign body:Code) (env:List bR) (args:List A2) (w:A1) (R:Bool->A1->Prop):Prop:=
 DL l rec args.length ps.length w
 (jH ((ps.zip args).reverse.map (λx=>⟨x.1,[],none,x.2,none⟩)++env) λb=>rV C aT N assign b w
  (λdh a=>Cs l rec a λc=>
   rV C aT N body dh c
    (λ_ a=>sO l rec none a R)
    (λid _ a=>sO l rec (some (.exit id)) a R)
    (λ_ a=>sO l rec (some .ret) a R))
  (λ_ _ _=>False) (λ_ _=>False))
def dF (l:Nat) (rec:Loop) (a:A1) (Kn:A1->Prop) (Kx:Nat->A1->Prop) (Kr:A1->Prop):Prop:=
 ∃st b,cX a l rec st b/\st≠ .busy/\
  match b with
  |none=>Kn (s_ a l rec .exhausted (none))
  |some (.exit id)=>Kx id (s_ a l rec .exhausted (some (.exit id)))
  |some .ret=>Kr (s_ a l rec .exhausted (some .ret))
  | _=>False
def Oh (C:dM P) (aT:Nat->a6) (N:Nat):Code->List bR->List Nat->A1->qI->(Nat->qI)->qI->Prop
 | .seq x y,env,D,w,Kn,Kx,Kr=>Oh C aT N x env D w (λenv D w=>Oh C aT N y env D w Kn Kx Kr) Kx Kr
 | .cond c x y,env,D,w,Kn,Kx,Kr=>match yg env [] c with
   |some (.bool b)=>aI b (Oh C aT N x env D w Kn Kx Kr) (Oh C aT N y env D w Kn Kx Kr)
   | _=>False
 | .block id x,env,D,w,Kn,Kx,Kr=>Oh C aT N x env D w Kn (λf env D w=>if f=id then Kn env D w else Kx f env D w) Kr
 | .loop x,env,D,w,Kn,Kx,Kr=>
   if yC x then
    let sl:=aT ((jI x).getD 0)
    match o8 sl env with
    |none=>False
    |some j=> ∃I:Nat->oG (sl.map (·.2))->List Nat->A1->Prop,(∃n, ∀w1,Ext w w1->I n j D w1)/\
     ∀n s D1 w1,I n s D1 w1->jH (k8 sl s++env.filter λe=> !(writes x).contains e.t) λdh=>Oh C aT N x dh D1 w1
      (λk D2 m=>match o8 sl k with
       |some o=> ∀d,Ext m d-> ∃h,h<n/\I h o D2 d
       |none=>False) Kx Kr
   else rV C aT N (.loop x) env w (λenv w=>Kn env D w) (λid env w=>Kx id env D w) (λenv w=>Kr env D w)
 | .rangeFunc g ps assign body,env,D,w,Kn,Kx,Kr=>
   match yg env [] g with
   |some (.func (.func i) first cap)=>
    if bM P i&&ps.toList.all (λp=>decide (p<N)) then
     An P i (λy=>db first [.func (.yield y) #[] #[]] cap) ps w (λ(x:oG ((aT ((jI body).getD 0)).map (·.2)))=>vd _ x)
      (λl rec x d R=>Jq C aT N l rec ps.toList assign body env (vd _ x) d R)
      (λr rec q=>dF (r+1) rec q (λa=>Kn env (r::D) a) (λid a=>Kx id env (r::D) a) (λa=>Kr env (r::D) a))
    else False
   | _=>False
 |c,env,D,w,Kn,Kx,Kr=>rV C aT N c env w (λenv w=>Kn env D w) (λid env w=>Kx id env D w) (λenv w=>Kr env D w)
def QpF (S:Nat->Option (Option A2)) (N:Nat) (Kn:qI) (Kx:Nat->qI) (Kr:qI):Exit->Act->A1->Prop
 | .normal,a,w=> ∃env D b,Kn env D b/\plain env/\Fit S #[] N (marks D) env a/\Ext b w
 | .exit id,a,w=> ∃env D b,Kx id env D b/\plain env/\Fit S #[] N (marks D) env a/\Ext b w
 | .ret,a,w=> ∃env D b,Kr env D b/\plain env/\Fit S #[] N (marks D) env a/\Ext b w
 | _, _, _=>False
theorem ZL {S:Nat->Option (Option A2)} {N:Nat} {Kn:qI} {Kx:Nat->qI} {Kr:qI} {D:List Nat}: ∀(e:Exit) (a:Act) (w:A1),
 Qp S N (marks D) (λenv w=>Kn env D w) (λid env w=>Kx id env D w) (λenv w=>Kr env D w) e a w->QpF S N Kn Kx Kr e a w
 | .normal, _, _,⟨env,b,h⟩=>⟨env,D,b,h⟩
 | .exit _, _, _,⟨env,b,h⟩=>⟨env,D,b,h⟩
 | .ret, _, _,⟨env,b,h⟩=>⟨env,D,b,h⟩
theorem zO {N:Nat} {D:List Deferred}: ∀(l:List (Nat×A2)) (env:List bR) (tmps:Array A2),(∀x∈l,x.1<N)->plain env->Fit (λ_=>none) #[] N D env {tmps,defers:=D}->
 Fit (λ_=>none) #[] N D (l.reverse.map (λx=>⟨x.1,[],none,x.2,none⟩)++env) {tmps:=l.foldl (λtmps (t,a)=>tmps.setIfInBounds t a) tmps,defers:=D}/\plain (l.reverse.map (λx=>(⟨x.1,[],none,x.2,none⟩:bR))++env)
 |[],env,tmps, _,b,h=>⟨h,b⟩
 |(t,v)::r,env,tmps,c,b,h=>by
  have f:plain (⟨t,[],none,v,none⟩::env):=λe he=>by
   rcases D8.1 he with rfl|he;simp
   ·exact b e he
  have h1:=by
   have:=h.put (g:=none) (d:=some t) (u:=v) (by
    have:=c (t,v) (by grind);simp[oZ,this];intro e he;rw[(b e he).1];simp) (λ_ _=>rfl) rfl (λ_=>rfl) (λi=>absurd (λx hx=>by cases hx) i)
   exact this
  have:=zO r _ _ (by grind) f h1
  grind
theorem Ho {w:A1} {l:Nat} {rec:Loop} {a:Option Code} (h:cX w l rec .ready a):(Instr.beginRound l).run P w= .ok () (w.putObj l (.loop {rec with state:= .busy,pending:=a})):=
 run_beginRound h rfl
theorem zf {w:A1} {l:Nat} {rec:Loop} {st:LoopState} {b:Option Code} (a:Option Code) (h:cX w l rec st b):
 (Instr.endRound l a).run P w= .ok (.bool a.isNone) (w.putObj l (.loop {rec with state:=if a.isNone then .ready else .done,pending:=a})):=
 run_endRound (r:={rec with state:=st,pending:=b}) a h
theorem Hs {C:dM P} {aT:Nat->a6} {N l:Nat} {rec:Loop} {assign body:Code} {env:List bR} {args:List A2} {w:A1} {R:Bool->A1->Prop} {tmps:Array A2} {D0:List Deferred}
 (u:rec.tmps=tmps) (v:rec.assign=assign) (hb:rec.body=body) (y: ∀p∈rec.params.toList,p<N) (z:plain env) (b:Fit (λ_=>none) #[] N D0 env {tmps,defers:=D0})
 (h:Jq C aT N l rec rec.params.toList assign body env args w R):mz P l args w R:=by
 obtain⟨⟨A,B⟩,E,o⟩:=h;rw[jM] at o;refine⟨{rec with state:= .ready,pending:=A},B,by simpa using E,?_⟩;have G:Fit (λ_=>none) #[] N [] env {tmps,defers:=[]}:=⟨b.off,b.size,rfl,b.yes,b.no,b.F1,b.Cl⟩;obtain⟨H,I⟩:=zO (D:=[]) (rec.params.toList.zip args) env tmps (λx hx=>y x.1 (List.of_mem_zip hx).1) z G;have e:(rec.params.zip (⟨args⟩:Array A2)).foldl (λtmps (t,a)=>tmps.setIfInBounds t a) rec.tmps=(rec.params.toList.zip args).foldl (λtmps (t,a)=>tmps.setIfInBounds t a) tmps:=by
  rw[u, <-Array.foldl_toList];simp
 rw[e,v,hb];refine roundIn_of_wpIn (F:=WF none) trivial ?_;have h1:=qm (r:=some l) (C:=C) (aT:=aT) assign (λ_=>none) _ _ w w _ _ _ (λ_ _=>rfl) I H o (Ext.refl w);refine wpIn_mono h1 ?_;intro J a1 w1 k;cases J with
 |normal=>
  obtain⟨dh,U,m,K,L,M⟩:=k;obtain⟨V,O,Q⟩:=m w1 M;refine⟨_,Ho O,?_⟩;have S:=qm (r:=some l) (C:=C) (aT:=aT) body (λ_=>none) _ _ _ _ _ _ _ (λ_ _=>rfl) K L Q (Ext.refl _);refine wpIn_mono S ?_;intro T W n j;cases T with
  |normal=>
   obtain⟨_,q,d, _, _,f⟩:=j;obtain⟨st,s,g,i⟩:=d n f;exact⟨_, _,zf none g,true,rfl,i⟩
  |exit id=>
   obtain⟨_,q,d, _, _,f⟩:=j;obtain⟨st,s,g,i⟩:=d n f;exact⟨_, _,zf (some (.exit id)) g,false,rfl,i⟩
  |ret=>
   obtain⟨_,q,d, _, _,f⟩:=j;obtain⟨st,s,g,i⟩:=d n f;exact⟨_, _,zf (some .ret) g,false,rfl,i⟩
  |goto t
  |panic c
  |outgrown=>exact AB j
 |exit id
 |ret=>obtain⟨_, _,m, _⟩:=k;exact AB m
 |goto t
 |panic c
 |outgrown=>exact AB k
variable {P:AM} {N:Nat}
theorem Br {C:dM P} {aT:Nat->a6} {c:Code} {S:Nat->Option (Option A2)} {env:List bR} {D:List Nat} {a:Act} {w w':A1} {Kn:qI} {Kx:Nat->qI} {Kr:qI}
 (b: ∀k∈writes c,S k=none) (d:plain env) (e:Fit S #[] N (marks D) env a) (h:rV C aT N c env w (λenv w=>Kn env D w) (λid env w=>Kx id env D w) (λenv w=>Kr env D w)) (f:Ext w w'):
 c.wpIn (WF none) 0 P (QpF S N Kn Kx Kr) a w':=
 wpIn_mono (qm c S env a w w' _ _ _ b d e h f) ZL
theorem Ht {w:A1} {l:Nat} {rec:Loop} {st:LoopState} {a:Option Code} (h:cX w l rec st a) (hb:st≠ .busy):
 (Instr.endLoop l).run P w= .ok a (w.putObj l (.loop {rec with state:= .exhausted,pending:=a})):=
 run_endLoop h hb
theorem ZM {C:dM P} {aT:Nat->a6}: ∀(c:Code) (S:Nat->Option (Option A2)) (env:List bR) (D:List Nat) (a:Act) (w w':A1) (Kn:qI) (Kx:Nat->qI) (Kr:qI),
 (∀k∈writes c,S k=none)->plain env->Fit S #[] N (marks D) env a->Oh C aT N c env D w Kn Kx Kr->Ext w w'->c.wpIn (WF none) 0 P (QpF S N Kn Kx Kr) a w':=by
 intro c
 induction c with
 |seq x y O Q=>
  intro S env D a w w' Kn Kx Kr j i d h l;refine wpIn_seq (wpIn_mono (O S env D a w w' _ Kx Kr (λk f=>j k (by simp[writes,f])) i d h l) ?_);intro e a1 w1 q;cases e with
  |normal=>
   obtain⟨dh,D1,r,f,Am,sV,xd⟩:=q;exact Q S dh D1 a1 r w1 Kn Kx Kr (λk f=>j k (by simp[writes,f])) Am sV f xd
  | _=>exact q
 |cond c x y O Q=>
  intro S env D a w w' Kn Kx Kr j i d h l;simp only[Oh] at h;split at h
  ·rename_i b hb;have T:=d.ev (ch:=[]) (λ_ hx=>by cases hx) hb;exact wpIn_cond_split T (λE=>O S env D a w w' Kn Kx Kr (λk f=>j k (by simp[writes,f])) i d (Ex h E) l) (λE=>Q S env D a w w' Kn Kx Kr (λk f=>j k (by simp[writes,f])) i d (Bj h E) l)
  ·exact AB h
 |block id x U=>
  intro S env D a w w' Kn Kx Kr j i d h l;refine wpIn_block (wpIn_mono (U S env D a w w' Kn _ Kr j i d h l) ?_);intro e a1 w1 q;cases e with
  |exit Yj=>
   obtain⟨dh,D1,r,f,rest⟩:=q;simp only[Exit.inBlock];split
   ·rename_i he;simp only[he,if_true] at f;exact⟨dh,D1,r,f,rest⟩
   ·rename_i he;simp only[he,if_false] at f;exact⟨dh,D1,r,f,rest⟩
  | _=>exact q
 |loop x U=>
  intro S env D a w w' Kn Kx Kr j i d h l;simp only[Oh,jM] at h;split at h
  ·split at h
   ·exact AB h
   ·rename_i X hs0;obtain⟨I,⟨n0,h0⟩,o9⟩:=h
    let sl:=aT ((jI x).getD 0)
    let m:Nat->Option (Option A2):=λt=>if(writes x).contains t then none else some (a.tmps[t]?)
    let dA:=env.filter λe=> !(writes x).contains e.t
    have nil: ∀(Y:Array A2),j9 #[] Y []:=λY x hx=>by cases hx
    have Eg: ∀t e,b_ dA t=some e->a.tmps[t]? =some e.v/\(writes x).contains t=false/\e.ch=[]:=by
     intro t e he;have E:=yW he;have hs:=zd he;have B:(writes x).contains t=false:=by rw[<-E];simpa using hs.2
     have u:b_ env t=some e:=iR he (λy _ hyt=>by rw[hyt,B];rfl);exact⟨d.yes t e u (by rw[(i e hs.1).1];exact nil _),B,(i e hs.1).1⟩
    have head: ∀(z:List bR) (D2:List Nat) (o:Act) (s:oG (sl.map (·.2))),plain z->Fit m #[] N (marks D2) z o->o8 sl z=some s->Fit m #[] N (marks D2) (k8 sl s++dA) o/\plain (k8 sl s++dA):=by
     intro z D2 o s V p Aw;have M:plain (k8 sl s++dA):=λe he=>by
      rcases E5.1 he with he|he
      ·exact tN he
      ·exact i e (by simpa[dA] using(CK.1 he).1)
     refine⟨⟨p.off,p.size,p.qH,λt e he _=>?_,λt e he hn=>absurd (by rw[(M e (bV he)).1];exact nil _) hn,(λe he=>by rw[(M e he).2];exact(M e he).1),λe he b hb=>by
     rcases E5.1 he with he|he
     ·rw[CV he] at hb;cases hb
     ·exact d.Cl e (CK.1 he).1 b hb⟩,M⟩
     rcases mo he with he|⟨_,he⟩
     ·obtain⟨e',Z,hv⟩:=ql Aw he;rw[<-hv];exact p.yes t e' Z (by rw[(V e' (bV Z)).1];exact nil _)
     ·obtain⟨hv,B, _⟩:=Eg t e he;have:=p.off t (a.tmps[t]?) (by simp only[m,B];rfl);rw[this,hv]
    have OA:Fit m #[] N (marks D) env a:=⟨λt x hx=>by
     simp only[m] at hx;split at hx
     ·cases hx
     ·cases hx;rfl,d.size,d.qH,d.yes,d.no,d.F1,d.Cl⟩
    have back: ∀{z:List bR} {D2:List Nat} {o:Act},Fit m #[] N (marks D2) z o->Fit S #[] N (marks D2) z o:=λ{z D2 o} u=>⟨λt y W=>by
     have B:(writes x).contains t=false:=by
      cases hc:(writes x).contains t with
      |false=>rfl
      |true=>have:=j t (by simpa[writes] using hc);rw[this] at W;cases W
     have h1:=u.off t (a.tmps[t]?) (by simp only[m,B];rfl);rw[h1];exact d.off t y W,u.size,u.qH,u.yes,u.no,u.F1,u.Cl⟩
    have hS1: ∀k∈writes x,m k=none:=λk f=>by simp[m,f]
    obtain⟨hF4,hp4⟩:=head env D a X i OA hs0;refine zN (λn o F=> ∃s D2,I n s D2 F/\Fit m #[] N (marks D2) (k8 sl s++dA) o/\plain (k8 sl s++dA)) (n0:=n0) ⟨X,D,h0 w' l,hF4,hp4⟩ ?_;intro n o F ⟨s,D2,hI,p,V⟩;have hb:=U m _ D2 o F F _ Kx Kr hS1 V p (o9 n s D2 F hI) (Ext.refl _);refine wpIn_mono hb ?_;intro e a3 w3 q;cases e with
    |normal=>
     obtain⟨G,D3,r,f,H,J,K⟩:=q;simp only[Exit.then];split at f
     ·rename_i s3 hs3;obtain⟨n',jz,hI'⟩:=f w3 K;obtain⟨Yk,Yl⟩:=head G D3 a3 s3 H J hs3;exact⟨n',jz,s3,D3,hI',Yk,Yl⟩
     ·exact AB f
    |exit id=>obtain⟨G,D3,r,f,H,J,K⟩:=q;exact⟨G,D3,r,f,H,back J,K⟩
    |ret=>obtain⟨G,D3,r,f,H,J,K⟩:=q;exact⟨G,D3,r,f,H,back J,K⟩
    | _=>exact q
  ·exact Br (C:=C) (aT:=aT) j i d h l
 |rangeFunc g ps assign body _ _=>
  intro S env D a w w' Kn Kx Kr j i d h l;simp only[Oh] at h;split at h
  ·rename_i gm first cap hg
   split at h
   ·rename_i jT;simp only[Bf,DZ,decide_eq_true_eq] at jT;obtain⟨Ee,T1⟩:=jT;have T:=d.ev (ch:=[]) (λ_ hx=>by cases hx) hg;refine wpIn_rangeFunc λfn _=>?_
    let L:Loop:={state:= .ready,pending:=none,fn,tmps:=a.tmps,params:=ps,assign,body,defers:=w'.heap.size}
    have hF':Fit (λ_=>none) #[] N (marks D) env {tmps:=a.tmps,defers:=marks D}:=⟨(λ_ _ hx=>by cases hx),d.size,rfl,d.yes,d.no,d.F1,d.Cl⟩;have f:=h w' l L rfl rfl rfl rfl (λ_ w3 R hr=>Hs (C:=C) (aT:=aT) (rec:=L) rfl rfl rfl T1 i hF' hr);have abv:(first++ #[Value.func (.yield (w'.heap.size+1)) #[] #[]]++cap:Array A2)=⟨db first [.func (.yield (w'.heap.size+1)) #[] #[]] cap⟩:=by
     unfold db;obtain⟨l1⟩:=first;obtain⟨l3⟩:=cap
     simp
    refine⟨w'.heap.size+1,[{target:= .collected w'.heap.size,args:= #[]}],(w'.alloc (.deferred (some []))).alloc (.loop L),{target:= .fn (.func gm) cap,args:=first++ #[.func (.yield (w'.heap.size+1)) #[] #[]]},(w'.alloc (.deferred (some []))).alloc (.loop L),gm,
     ⟨db first [.func (.yield (w'.heap.size+1)) #[] #[]] cap⟩,(w'.alloc (.deferred (some []))).alloc (.loop L),run_enterLoop_outer _ _ _ _ _,?_,λ_ _=>trivial,?_,by simp[WF,DY],?_⟩
    ·simp only[resolve,T,Deferred.ofValue,Ay,Gc,Gd,Gi];rfl
    ·simp only[invoke];rw[abv];exact uh Ee
    ·refine(jP (n:=0 - 1)).2 (f.mono λe w4 ⟨v,he,st,pd,sX,uN,A⟩=>?_);subst he;have KJ:=Ht (P:=P) sX uN;have p:Fit S #[] N (marks (w'.heap.size::D)) env {a with defers:=[{target:= .collected w'.heap.size,args:= #[]}]++a.defers}:=
      ⟨d.off,d.size,by simp[marks,d.qH],d.yes,d.no,d.F1,d.Cl⟩
     refine⟨pd, _,KJ,?_⟩
     match pd,A with
     |none,A=>exact⟨env, _, _,A,i,p,Ext.refl _⟩
     |some (.exit id),A=>exact wpIn_exit ⟨env, _, _,A,i,p,Ext.refl _⟩
     |some .ret,A=>exact wpIn_ret ⟨env, _, _,A,i,p,Ext.refl _⟩
   ·exact AB h
  ·exact AB h
 | _=>intro S env D a w w' Kn Kx Kr j i d h l;exact Br (C:=C) (aT:=aT) j i d h l
def D4 (P:AM) (w:A1):List ResultVar->List bR->(List A2->Prop)->Prop
 |[], _,K=>K []
 | .tmp t::r,env,K=>match b_ env t with
   |some e=>D4 P w r env (λl=>K (e.v::l))
   |none=>False
 | .cell t ty::r,env,K=>match b_ env t with
   |some e=>match e.v,u0 P ty,P.info? ty with
    | .pointer p,some el,some i=>if qa el i.size=true then False else aj w none p el (λx=>D4 P w r env (λl=>K (el.ia x::l)))
    | _, _, _=>False
   |none=>False
def Uw (s:Sh) (Post:s.T->A1->Prop) (w:A1) (l:List A2):Prop:=
 match s.proj (KK l) with
 |some x=>Post x w
 |none=>False
def byD (D:List Nat) (x:Prop) (y:Nat->List Nat->Prop):Prop:=match D with
 |[]=>x
 |r::D=>y r D
def OX (s:Sh) (rs:List ResultVar) (Post:s.T->A1->Prop):qI:=λenv D w=>byD D (au w (λw1=>D4 P w1 rs env (Uw s Post w1)))
 (λr D=>sP (r::D) w (λw1=>D4 P w1 rs env (Uw s Post w1)))
def bT (C:dM P) (aT:Nat->a6) (f:B2) (args:List A2) (w:A1) (Post:(uX C f).T->A1->Prop):Prop:=
 match P.funcs[f]? with
 |none=>False
 |some fn=>match fn.body with
  |none=>False
  |some c=>
   if args.length<=fn.ntmps then Oh C aT fn.ntmps c (jJ args 0) [] w (OX (P:=P) (uX C f) fn.results.toList Post) (λ_ _ _ _=>False) (OX (P:=P) (uX C f) fn.results.toList Post) else False
theorem zg {tmps:Array A2} {w:A1}: ∀{l:List ResultVar} {env:List bR} {K:List A2->Prop},D4 P w l env K->(∀t e,b_ env t=some e->tmps[t]? =some e.v)->
 ∃vs,(l.mapM (nM tmps)).run P w= .ok vs w/\K vs
 |[], _, _,h, _=>⟨[],by simp,h⟩
 | .tmp t::r,env,K,h,hv=>by
   simp only[D4] at h;split at h
   ·rename_i e a;obtain⟨vs,dU,b⟩:=zg h hv
    simp_all[nM]
   ·exact AB h
 | .cell t ty::r,env,K,h,hv=>by
   simp only[D4] at h;split at h
   ·rename_i e a;split at h
    ·rename_i p el i d f hi;split at h
     ·exact AB h
     ·rename_i hs;obtain⟨x,c,g⟩:=h;obtain⟨vs,dU,b⟩:=zg g hv;refine⟨el.ia x::vs,?_,b⟩;have j: ∃a0,p=some a0:=by cases el<;>(obtain⟨a0,h0, _⟩:=c;exact⟨a0,h0⟩)
      obtain⟨a0,rfl⟩:=j;have k:=tK (P:=P) f hi hs c;have hg:tmps.getD t undef= .pointer (some a0):=by simp[hv t e a,d]
      simp only[List.mapM_cons,AY,nM,hg,asAddr,Ay,Ax,k,dU]
    ·exact AB h
   ·exact AB h
theorem uj {fn:Func} {tmps:Array A2} {R:Ending->A1->Prop}: ∀(D:List Nat) (w:A1),Eh D w->(∃v,(results fn tmps).run P (mC D w)= .ok v (mC D w)/\R (.returned v) (mC D w))->
 LeavesInM (WF none) 0 P fn tmps R (marks D) .returning w
 |[],w, _,h=>h
 |r::D,w,a,h=>⟨by simp,.inl ⟨r, _,rfl,run_takeDeferred a.1,uj D _ a.2 h⟩⟩
theorem aQ {C:dM P} {aT:Nat->a6} {f:B2} {args:List A2} {w:A1} {Post:(uX C f).T->A1->Prop} (h:bT C aT f args w Post):aD P f (uX C f) args w Post:=by
 unfold bT at h;split at h
 ·exact AB h
 ·rename_i fn q;split at h
  ·exact AB h
  ·rename_i c hb;split at h
   ·rename_i G;have d:plain (jJ args 0):=λe a=>si a;have nil: ∀(o:Array Oper) (l:Array A2),j9 o l []:=λo l x hx=>by cases hx
    have s:Fit (λ_=>none) #[] fn.ntmps (marks []) (jJ args 0) {tmps:=(⟨args⟩:Array A2)++Et (fn.ntmps - args.length) undef,defers:=[]}:=by
     refine⟨(λ_ _ hx=>by cases hx),(by simp;omega),rfl,λt e a _=>?_,λt e a y=>absurd (by rw[(d e (bV a)).1];exact nil _ _) y,(λe a=>by rw[(d e a).2];exact(d e a).1),λe a b hb=>by rw[ze a] at hb;cases hb⟩;obtain⟨_,hv, _⟩:=pP a
     grind
    have z:=ZM (C:=C) (aT:=aT) c (λ_=>none) _ _ _ w w _ _ _ (λ_ _=>rfl) d s h (Ext.refl w);refine(jP (r:=none) (n:=0)).1 (callsIn_of_wp_marks q hb trivial (wpIn_mono z ?_));have fin: ∀a1 w1,(∃env D k,OX (P:=P) (uX C f) fn.results.toList Post env D k/\plain env/\Fit (λ_=>none) #[] fn.ntmps (marks D) env a1/\Ext k w1)->
     LeavesInM (WF none) 0 P fn a1.tmps (λe w'=> ∃x:(uX C f).T,e= .returned ((uX C f).ia x)/\Post x w') a1.defers .returning w1:=by
     intro a1 w1 ⟨env,D,k,g,A,m,p⟩;obtain⟨B,E⟩:Eh D w1/\D4 P (mC D w1) fn.results.toList env (Uw (uX C f) Post (mC D w1)):=by
      cases D with
      |nil=>exact⟨trivial,g w1 p⟩
      |cons r D=>exact g w1 p
     rw[m.qH];refine uj D w1 B ?_;obtain⟨vs,dU,i⟩:=zg E (λt e a=>m.yes t e a (by rw[(A e (bV a)).1];exact nil _ _));unfold Uw at i;split at i
     ·rename_i x hx;refine⟨KK vs,?_,x,by rw[Sh.iC hx],i⟩;have F:(fn.results.mapM (nM a1.tmps)).run P (mC D w1)= .ok ⟨vs⟩ (mC D w1):=by
       rw[KC,Sem.run_map,dU];rfl
      have e:results fn a1.tmps=(do
       let vs<-fn.results.mapM (nM a1.tmps)
       pure _):=rfl
      rw[e,AY,F];simp only[Ax,Ay]
      match vs with
      |[]=>rfl
      |[v]=>rfl
      |v::u::r=>simp[KK]
     ·exact AB i
    intro e a1 w1 j;cases e with
    |normal=>exact fin a1 w1 j
    |ret=>exact fin a1 w1 j
    |exit id=>obtain⟨_, _, _,g, _⟩:=j;exact AB g
    | _=>exact AB j
   ·exact AB h
theorem putObj_size (w:A1) (b:Nat) (o:Obj):(w.putObj b o).heap.size=w.heap.size:=by simp
theorem fO {w:A1} {b k:Nat} {o:Obj} (h:k≠b):(w.putObj b o).heap[k]? =w.heap[k]? :=by
 simp[FR,Ne.symm h]
theorem j8 {w:A1} {b:Nat} {o:Obj} (h:b<w.heap.size):(w.putObj b o).heap[b]? =some o:=by
 simp[FR,h]
theorem W_ (w:A1) (a:AC) (v:A2):(w.setCell a v).heap.size=w.heap.size:=by simp
theorem Hu {w:A1} {a:AC} {k:Nat} {v:A2} (h:k≠a.block):(w.setCell a v).heap[k]? =w.heap[k]? :=by
 simp[M4,Ok,Ne.symm h]
theorem AC.vp (a:AC) (n:Nat):(a.add n).block=a.block:=by
 unfold Addr.add;grind
theorem sj: ∀(vs:List A2) (w:A1) (a:AC) (i:Nat),(putAt w a vs i).heap.size=w.heap.size
 |[], _, _, _=>rfl
 |v::r,w,a,i=>by simp[putAt,sj]
theorem mY: ∀(vs:List A2) (w:A1) (a:AC) (i k:Nat),k≠a.block->(putAt w a vs i).heap[k]? =w.heap[k]?
 |[], _, _, _, _, _=>rfl
 |v::r,w,a,i,k,h=>by
  simp[putAt];rw[mY r _ a _ k h,Hu (by rw[AC.vp];omega)]
theorem Below.putAt {n:Nat} {w w':A1} (h:Below n w w') (a:AC) (c:n<=a.block): ∀(vs:List A2) (i:Nat),Below n w (putAt w' a vs i):=by
 intro vs i
 induction vs generalizing w' i with
 |nil=>exact h
 |cons v r b=>
  exact b (h.setCell (by rw[AC.vp];omega) v) _
theorem FC {n:Nat} {w w':A1} (h:Below n w w') {b:Nat} (hb:n<=b) (o:Obj):Below n w (w'.putObj b o):=
 ⟨h.os,h.tape,h.output,by rw[putObj_size];exact h.size,λk a=>by rw[fO (by omega)];exact h.block k a⟩
theorem Ext.jB {w w':A1} (h:Ext w w') {a:AC} (b:w.heap.size<=a.block) (vs:List A2):Ext w (jB w' (some a) vs):=Below.putAt h a b vs 0
theorem Ext.putObj {w w':A1} (h:Ext w w') {b:Nat} (hb:w.heap.size<=b) (o:Obj):Ext w (w'.putObj b o):=FC h hb o
theorem Ext.jd {w w':A1} (h:Ext w w') (o:Obj):Ext w (w'.alloc o):=h.trans (Ext.alloc w' o)
def bN (w:A1) (b:Nat) (l:List A2):Prop:= ∃t,w.heap[b]? =some (.cells ⟨l⟩ t (0,0))
theorem bN.lt {w:A1} {b:Nat} {l:List A2} (h:bN w b l):b<w.heap.size:=by
 obtain⟨⟩:=h;grind
theorem bN.ext {w w':A1} {b:Nat} {l:List A2} (h:bN w b l) (k:Ext w w'):bN w' b l:=by
 obtain⟨t,h⟩:=h;exact⟨t,k.obj h⟩
theorem lK (w:A1) (o:Obj):(w.alloc o).heap.size=w.heap.size+1:=by simp
theorem fG (w:A1) (o:Obj):(w.alloc o).heap[w.heap.size]? =some o:=by
 show(w.heap.push o)[w.heap.size]? =some o;simp
theorem bN.new (w:A1) (l:List A2) (t:AL):bN (w.alloc (.cells ⟨l⟩ t)) w.heap.size l:=⟨t,fG _ _⟩
theorem bN.same {w w':A1} {b:Nat} {l:List A2} (h:bN w b l) (k:w'.heap[b]? =w.heap[b]?):bN w' b l:=by
 obtain⟨t⟩:=h;exact⟨t,by grind⟩
theorem bN.XO {w:A1} {b:Nat} {l:List A2} (h:bN w b l) {a:AC} (c:b≠a.block) (vs:List A2):bN (jB w (some a) vs) b l:=
 h.same (mY vs w a 0 b c)
theorem bN.putObj {w:A1} {b:Nat} {l:List A2} (h:bN w b l) {k:Nat} (a:b≠k) (o:Obj):bN (w.putObj k o) b l:=h.same (fO a)
theorem OD (b o n:Nat):Addr.add ⟨b,o,none⟩ n=⟨b,o+n,none⟩:=by
 unfold Addr.add;simp
theorem aY (b o n:Nat):ad (some ⟨b,o,none⟩) n=some ⟨b,o+n,none⟩:=by simp[ad,OD]
theorem bN.cell {w:A1} {b:Nat} {l:List A2} (h:bN w b l) (o:Nat):w.cell? ⟨b,o,none⟩=l[o]? :=by
 obtain⟨t,h⟩:=h;simp[LL,h]
theorem bN.cellAt {w:A1} {b:Nat} {l:List A2} (h:bN w b l) (o n:Nat):w.cell? (Addr.add ⟨b,o,none⟩ n)=l[o+n]? :=by rw[OD,h.cell]
theorem bN.KZ {w:A1} {b:Nat} {l:List A2} (h:bN w b l) (a:AC) (c:a.block=b):w.frozen? a=false:=by
 obtain⟨t,h⟩:=h;simp[World.frozen?,c,h]
theorem bN.oD {w:A1} {b o:Nat} {l:List A2} (h:bN w b l) {s:Sc} {x:s.T} (hx:l[o]? =some (s.ia x)):cL w (some ⟨b,o,none⟩) (.one s) x:=
 ⟨_,rfl,by rw[h.cell];omega⟩
theorem bN.rdA {w:A1} {b o:Nat} {l:List A2} (h:bN w b l) {ss:List Sc} {x:jq ss} (hx: ∀i,i<ss.length->l[o+i]? =(bh ss x)[i]?):cL w (some ⟨b,o,none⟩) (.agg ss) x:=
 ⟨_,rfl,λhi=>by rw[h.cellAt];grind⟩
theorem bN.oQ {w:A1} {b o n:Nat} {l vs:List A2} (h:bN w b l) (a:vs.length=n) (hx: ∀i,i<n->l[o+i]? =vs[i]?):oQ w (some ⟨b,o,none⟩) n vs:=
 ⟨a,λhi=>by rw[h.cellAt];grind⟩
theorem bN.st {w:A1} {b o n:Nat} {l:List A2} (h:bN w b l) (a:o+n<=l.length):Ur w (some ⟨b,o,none⟩) n:=
 ⟨_,rfl,λi hi=>⟨by rw[h.cellAt,IM (by omega)];rfl,h.KZ _ (AC.vp _ _)⟩⟩
theorem Dw {w:A1} {b o:Nat} {l:List A2} {t:AL} (h:w.heap[b]? =some (.cells ⟨l⟩ t (0,0))) (v:A2):(w.setCell ⟨b,o,none⟩ v).heap[b]? =some (.cells ⟨l.set o v⟩ t (0,0)):=by
 simp only[M4,Ok,h];simp
theorem zQ: ∀(vs:List A2) (w:A1) (b o i:Nat) (l:List A2) (t:AL),w.heap[b]? =some (.cells ⟨l⟩ t (0,0))->o+i+vs.length<=l.length->
 (putAt w ⟨b,o,none⟩ vs i).heap[b]? =some (.cells ⟨l.take (o+i)++(vs++l.drop (o+i+vs.length))⟩ t (0,0))
 |[],w,b,o,i,l,t,h, _=>by simp[putAt,h]
 |v::r,w,b,o,i,l,t,h,c=>by
  simp_all
  simp only[putAt,OD];rw[zQ r _ b o (i+1) (l.set (o+i) v) t (Dw h v) (by simp;omega)];congr 3;have h1:(l.set (o+i) v).take (o+(i+1))=l.take (o+i)++[v]:=by
   grind[OB,OC]
  have a:(l.set (o+i) v).drop (o+(i+1)+r.length)=l.drop (o+i+(r.length+1)):=by
   grind[OG]
  rw[h1,a];simp
theorem bN.put {w:A1} {b o:Nat} {l:List A2} (h:bN w b l) (vs:List A2) (a:o+vs.length<=l.length):bN (jB w (some ⟨b,o,none⟩) vs) b (l.take o++(vs++l.drop (o+vs.length))):=by
 obtain⟨t,h⟩:=h;exact⟨t,zQ vs w b o 0 l t h a⟩
theorem cX.lt {w:A1} {l:Nat} {rec:Loop} {st:LoopState} {a:Option Code} (h:cX w l rec st a):l<w.heap.size:=(CJ.1 h).1
theorem cX.ext {w w':A1} {l:Nat} {rec:Loop} {st:LoopState} {a:Option Code} (h:cX w l rec st a) (k:Ext w w'):cX w' l rec st a:=k.obj h
theorem cX.same {w w':A1} {l:Nat} {rec:Loop} {st:LoopState} {a:Option Code} (h:cX w l rec st a) (k:w'.heap[l]? =w.heap[l]?):cX w' l rec st a:=by grind[cX]
theorem cX.put {w:A1} {l:Nat} {rec:Loop} {st:LoopState} {c:Option Code} (h:cX w l rec st c) (a:LoopState) (b:Option Code):cX (s_ w l rec a b) l rec a b:=
 j8 h.lt
theorem Qt {w:A1} {p:Option AC} {ss:List Sc} {x:jq ss} {j:Nat} {s:Sc} {y:s.T} (h:cL w p (.agg ss) x) (b:j<ss.length) (c:(bh ss x)[j]? =some (s.ia y)):cL w (ad p j) (.one s) y:=by
 obtain⟨a,rfl,h⟩:=h;exact⟨a.add j,rfl,by grind⟩
theorem Bt {p:Option AC} (h:p.isSome=true) (n:Nat):(ad p n).isSome=true:=by
 cases p
 ·grind
 rfl
def cellsOf:(e:El)->e.T->List A2
 | .one s,x=>[s.ia x]
 | .agg l,x=>bh l x
def aF:El->Nat
 | .one _=>1
 | .agg l=>l.length
theorem dx (e:El) (x:e.T):(cellsOf e x).length=aF e:=by
 cases e with
 |one=>rfl
 |agg l=>exact cG l x
def Sl (w:A1) (e:El) (p:Option AC) (xs:List e.T):Prop:= ∀i x,xs[i]? =some x->p.isSome=true/\cL w (ad p (i*aF e)) e x
theorem Sl.ext {w w':A1} {e:El} {p:Option AC} {xs:List e.T} (h:Sl w e p xs) (k:Ext w w'):Sl w' e p xs:=
 λi x hx=>⟨(h i x hx).1,tJ k (h i x hx).2⟩
def flat (e:El) (xs:List e.T):List A2:=xs.flatMap (cellsOf e)
theorem aG (e:El) (xs:List e.T):(flat e xs).length=xs.length*aF e:=by
 induction xs with
 |nil
 |cons=>simp only[flat,Oe,Ef,dx] at*;grind
theorem dR (e:El) (xs ys:List e.T):flat e (xs++ys)=flat e xs++flat e ys:=by simp[flat]
theorem zh (e:El): ∀(xs:List e.T) (i:Nat) (x:e.T),xs[i]? =some x-> ∀j,j<aF e->(flat e xs)[i*aF e+j]? =(cellsOf e x)[j]?
 |y::r,0,x,h,j,a=>by
  simp_all[flat,List.getElem?_append_left,dx]
 |y::r,i+1,x,h,j,a=>by
  have b:=zh e r i x ‹_› j a;simp[flat,Oe];rw[List.getElem?_append_right (by rw[dx,F4];omega),dx];rw[show(i+1)*aF e+j - aF e=i*aF e+j by grind];exact b
theorem Sl.jK {w:A1} {e:El} {b:Nat} {l:List A2} {xs:List e.T} (h:bN w b l) (c:l.take (xs.length*aF e)=flat e xs):Sl w e (some ⟨b,0,none⟩) xs:=by
 intro i x hx;have hi:=(List.getElem?_eq_some_iff.1 hx).1;have d: ∀j,j<aF e->i*aF e+j<xs.length*aF e:=λj a=>by
  have:(i+1)*aF e<=xs.length*aF e:=P0 _ hi
  grind
 have hc: ∀j,j<aF e->l[i*aF e+j]? =(cellsOf e x)[j]? :=λj a=>by
  rw[<-zh e xs i x hx j a, <-c,List.getElem?_take_of_lt (d j a)]
 simp;rw[aY,Kq];cases e with
 |one=>exact h.oD (by simp_all[aF,cellsOf])
 |agg ss=>exact h.rdA ‹_›
def lU (w0 w:A1) (e:El) (s:Option AC×Nat×Nat) (xs:List e.T):Prop:=
 s.2.1=xs.length/\xs.length<=s.2.2/\
 ((s.1=none/\xs=[]/\s.2.2=0)\/ ∃b l,s.1=some ⟨b,0,none⟩/\w0.heap.size<=b/\bN w b l/\l.length=s.2.2*aF e/\l.take (xs.length*aF e)=flat e xs)
theorem lU.nil (w0 w:A1) (e:El):lU w0 w e (none,0,0) []:=⟨rfl,by simp⟩
theorem lU.ext {w0 w w':A1} {e:El} {s:Option AC×Nat×Nat} {xs:List e.T} (h:lU w0 w e s xs) (k:Ext w w'):lU w0 w' e s xs:=by
 obtain⟨h1,c,a⟩:=h;refine⟨h1,c,?_⟩;rcases a with a|⟨b,l,a1,d,f,g⟩
 ·grind
 ·exact .inr ⟨b,l,a1,d,f.ext k,g⟩
theorem lU.same {w0 w w':A1} {e:El} {s:Option AC×Nat×Nat} {xs:List e.T} (h:lU w0 w e s xs) (k: ∀a,s.1=some a->w'.heap[a.block]? =w.heap[a.block]?):lU w0 w' e s xs:=by
 obtain⟨h1,d,c⟩:=h;refine⟨h1,d,?_⟩;rcases c with c|⟨b,l,a1,f,g,i⟩
 ·grind
 ·exact .inr ⟨b,l,a1,f,g.same (k _ a1),i⟩
theorem lU.sl {w0 w:A1} {e:El} {s:Option AC×Nat×Nat} {xs:List e.T} (h:lU w0 w e s xs):Sl w e s.1 xs:=by
 obtain⟨h1,f,a⟩:=h;rcases a with ⟨_,hx, _⟩|⟨b,l,a1,g,c,i,d⟩
 ·intro;grind
 ·rw[a1];exact Sl.jK c d
theorem lU.len {w0 w:A1} {e:El} {s:Option AC×Nat×Nat} {xs:List e.T} (h:lU w0 w e s xs):s.2.1=xs.length:=h.1
def im:El->Bool
 | .one s=>s != .func
 | .agg l=>l.all (· != .func)
theorem zR (s:Sc) (x:s.T) (h:(s != .func)=true):(s.ia x).oneCell'=true:=by
 cases s<;>first|rfl|grind
theorem uk: ∀(ss:List Sc) (x:jq ss),ss.all (· != .func)=true->(bh ss x).all (·.oneCell')=true
 |[], _, _=>rfl
 |s::r,x,h=>by
  simp only[I2,Bf] at h;simp[bh,uk r _ h.2,zR s _ h.1]
theorem FD (e:El) (x:e.T) (h:im e=true):(cellsOf e x).all (·.oneCell')=true:=by
 cases e with
 |one s=>simp[cellsOf,zR s x h]
 |agg l=>exact uk l x h
theorem jR (e:El) (xs:List e.T) (h:im e=true):(flat e xs).all (·.oneCell')=true:=by grind[flat,FD]
theorem lL {w0 w:A1} {e:El} {s x:Option AC×Nat×Nat} {xs ys:List e.T} {t:AL} {bytes:Nat} {z:Array A2} {R:Option AC×Nat×Nat->A1->Prop}
 (h:lU w0 w e s xs) (h0:Ext w0 w) (v:im e=true) (hx:x.2.1=ys.length) (y:oQ w x.1 (x.2.1*aF e) (flat e ys)) (A:z.size=aF e) (hb:(xs.length+ys.length)*bytes<=140737488355328)
 (k: ∀s' w',lU w0 w' e s' (xs++ys)->Ext w0 w'->(∀b,b<w.heap.size->(∀a,s.1=some a->b≠a.block)->w'.heap[b]? =w.heap[b]?)->w.heap.size<=w'.heap.size->
  ((∃a,s'.1=some a/\s.1=some a)\/(∃a,s'.1=some a/\w.heap.size<=a.block)\/s'=(s.1,s.2.1,s.2.2))->R s' w'):
 mH w t (aF e) bytes z s x R:=by
 obtain⟨h1,J,n⟩:=h;have m:=aG e xs;have g:=aG e ys;have B:oQ w s.1 (s.2.1*aF e) (flat e xs):=by
  rcases n with ⟨a1,f,d⟩|⟨b,l,a1,f,d,p,q⟩
  ·rw[a1,f];rfl
  ·rw[a1];refine d.oQ (by rw[m,h1]) λi hi=>?_
   grind
 refine⟨flat e xs,flat e ys,B,y,λj=>?_,λj=>⟨growslice_fits j (by rw[h1,hx];exact hb),λc hc=>?_⟩⟩
 ·rcases n with ⟨a1,f,d⟩|⟨b,l,a1,f,d,p,q⟩
  ·rw[d] at j;have C:ys=[]:=List.eq_nil_of_length_eq_zero (by omega);subst C;subst f;refine⟨.inl rfl,?_⟩;have D:s.2.1=0:=h1;have r:x.2.1=0:=hx;rw[a1];refine k _ _ ⟨by simp[D,r],Nat.zero_le _,.inl ⟨rfl,rfl,d⟩⟩ ?_ (λ_ _ _=>rfl) (DV _) (.inr (.inr ?_))
   ·exact h0
   ·rw[a1,r];rfl
  ·have u:xs.length*aF e+ys.length*aF e<=l.length:=by
    rw[p, <-F4];exact P0 _ (by rw[<-h1, <-hx];exact j)
   have E:s.1.map (·.add (s.2.1*aF e))=some ⟨b,xs.length*aF e,none⟩:=by
    rw[a1,h1];simp[OD]
   rw[E];refine⟨.inr ⟨d.st (by rw[g];exact u),jR e ys v⟩,?_⟩;have F:=d.put (o:=xs.length*aF e) (flat e ys) (by rw[g];exact u);refine k _ _ ⟨by simp[h1,hx],by simp only[Ef];rw[<-h1, <-hx];exact j,.inr ⟨b, _,a1,f,F,?_,?_⟩⟩ (h0.jB (a:=⟨b, _,none⟩) f _) (λG K H=>mY (flat e ys) w ⟨b, _,none⟩ 0 G (H ⟨b,0,none⟩ a1)) (Nat.le_of_eq (sj _ _ _ _).symm) (.inl ⟨_,a1,a1⟩)
   grind
   ·rw[q];have:(xs++ys).length*aF e=(flat e xs++flat e ys).length:=by simp only[Ef,m,g,F4]
    rw[this, <-List.append_assoc,dR];exact Of rfl
 ·have L:w.drew.heap.size=w.heap.size:=rfl;refine k _ _ ⟨by simp[h1,hx],by simp only[Ef];rw[<-h1, <-hx];exact hc,.inr ⟨w.heap.size,flat e xs++flat e ys++(GI z (c - (s.2.1+x.2.1))).toList,rfl,h0.size,?_,?_,?_⟩⟩ ((h0.trans (Ext.drew w)).trans (Ext.alloc _ _)) (λb hb _=>?_) ?_ (.inr (.inl ⟨_,rfl,DV _⟩))
  ·have I:(Jc (flat e xs)++Jc (flat e ys)++GI z (c - (s.2.1+x.2.1)))=⟨flat e xs++flat e ys++(GI z (c - (s.2.1+x.2.1))).toList⟩:=by
    apply K1;simp
   rw[I];exact bN.new w.drew _ _
  ·simp only[Ef,m,g,GI,Array.length_toList,Array.size_map,Array.size_range,A];rw[<-F4, <-h1, <-hx, <-F4];congr 1;omega
  ·have:(xs++ys).length*aF e=(flat e xs++flat e ys).length:=by simp only[Ef,m,g,F4]
   rw[this,dR];exact Of rfl
  ·have:w.drew.heap=w.heap:=rfl;rw[Ext.block (Ext.alloc w.drew _) (by rw[this];exact hb),this]
  ·rw[lK];exact Nat.le_succ _
theorem Qu {w0 w c w1:A1} {e:El} {s:Option AC×Nat×Nat} {xs:List e.T} {x:e.T} {t:AL} {bytes:Nat} {z:Array A2} {R:Option AC×Nat×Nat->A1->Prop}
 (h:lU w0 w e s xs) (h0:Ext w0 w) (g:im e=true) (i:Ext w c) (d:Ext (c.alloc (.cells ⟨cellsOf e x⟩ t)) w1) (j:z.size=aF e) (hb:(xs.length+1)*bytes<=140737488355328)
 (k: ∀s' w',lU w0 w' e s' (xs++[x])->Ext w0 w'->(∀b,b<w.heap.size->(∀a,s.1=some a->b≠a.block)->w'.heap[b]? =w.heap[b]?)->w.heap.size<=w'.heap.size->R s' w'):
 mH w1 t (aF e) bytes z s (some ⟨c.heap.size,0,none⟩,1,1) R:=by
 have kk:=(i.trans (Ext.alloc c _)).trans d;have l:=(bN.new c _ _).ext d;refine lL (ys:=[x]) (h.ext kk) (h0.trans kk) g rfl ?_ j hb λs' w' m n o p _=>k s' w' m n (λb f q=>?_) (Nat.le_trans kk.size p)
 ·refine l.oQ (aG e _) λhi=>?_;simp[flat]
 ·rw[o b (PP f kk.size) q,kk.block f]
def U (b:BitVec 64):Int:=(b.toNat:Int)
def B (x:Int):BitVec 64:=CL 64 x
theorem FQ (b:BitVec 64):B (U b)=b:=by simp[B,U]
theorem abw {a b:BitVec 64}:U a=U b<->a=b:=by grind[FQ]
theorem wrap_u64 (x:Int):Pl.wrap x=x % 18446744073709551616:=rfl
theorem U_B (x:Int):U (B x)=x % 18446744073709551616:=by
 unfold U B;simp
 grind
theorem CC {x:Int} (h:0<=x) (h':x<18446744073709551616):U (B x)=x:=by
 rw[U_B,Int.emod_eq_of_lt h h']
theorem ZN (x:Int):Pl.wrap x=U (B x):=by rw[wrap_u64,U_B]
theorem Pv (a b:BitVec 64):ny .u64 (U a) (U b)=U (a &&& b):=by
 show U (B (U (B _ &&& B _)))= _;rw[FQ,FQ,FQ]
theorem abx (a b:BitVec 64):orI .u64 (U a) (U b)=U (a ||| b):=by
 show U (B (U (B _ ||| B _)))= _;rw[FQ,FQ,FQ]
theorem K8 (a b:BitVec 64):gN .u64 (U a) (U b)=U (a &&& ~~~ b):=by
 show U (B (U (B _ &&& ~~~ B _)))= _;rw[FQ,FQ,FQ]
theorem Px (a:BitVec 64) (n:Int):DW .u64 (U a) n=U (a <<< n.toNat):=by
 unfold DW;rw[wrap_u64];unfold U;rw[BitVec.toNat_shiftLeft,Nat.shiftLeft_eq];show(a.toNat:Int)*2 ^ min _ 64 % _= _;by_cases n.toNat<=64
 grind
 ·have h1:a.toNat*2 ^ n.toNat % 2 ^ 64=0:=by
   apply Nat.mod_eq_zero_of_dvd;exact Nat.dvd_trans (Nat.pow_dvd_pow 2 (by omega)) (Nat.dvd_mul_left ..)
  grind
theorem Py (a:BitVec 64) (n:Int):KH .u64 (U a) n=U (a >>> n.toNat):=by
 unfold U;rw[BitVec.toNat_ushiftRight,Nat.shiftRight_eq_div_pow];have e: ∀k,(a.toNat:Int).fdiv (2 ^ k)=(a.toNat / 2 ^ k: ):=λk=>by
  grind
 show(a.toNat:Int).fdiv (2 ^ min _ 64)= _;rw[e];by_cases n.toNat<=64
 grind
 ·rw[Nat.min_eq_right (by omega)];have h0:=a.isLt;rw[PS h0,PS (PP h0 (Nat.pow_le_pow_right (by simp) (by omega)))]
theorem gB {x:Int} (h: -9223372036854775808<=x) (h':x<9223372036854775808):E4.wrap x=x:=by
 simp only[IntKind.wrap,IntKind.bits,IntKind.signed]
 grind
theorem av {x y:Int} (h: -9223372036854775808<=x+y) (h':x+y<9223372036854775808):aH .i64 x y=x+y:=gB h h'
theorem bC {x y:Int} (h: -9223372036854775808<=x - y) (h':x - y<9223372036854775808):aX .i64 x y=x - y:=gB h h'
theorem eO {x y:Int} (h: -9223372036854775808<=x*y) (h':x*y<9223372036854775808):gq .i64 x y=x*y:=gB h h'
theorem bW {P:AM} {f:B2} {sh:Sh} {args:List A2} {w:A1} {x:sh.T} (h:aD P f sh args w (λy w'=>y=x/\Ext w w')):
 Calls P f ⟨args⟩ w (λe w'=>e= .returned (sh.ia x)/\Ext w w'):=
 F5 h (by grind)
abbrev af (b:Nat):Option AC:=some ⟨b,0,none⟩
abbrev lZ:El:= .one .ptr
abbrev aV:El:= .one (.int .i64)
abbrev rI:El:= .one (.int .u64)
abbrev eH:El:= .one .slice
abbrev rJ:El:= .one .bool
abbrev OE:El:= .one .map
abbrev gu (w:A1) (a:Option AC) (K:Option AC->Prop):Prop:=aj w none a (.one .ptr) K
abbrev bI (p:Option AC) (n:Nat) (w:A1) (K:Option AC->Prop):Prop:=p.isSome=true/\p.isSome=true/\aj w none (ad p n) (.one .ptr) K
abbrev aW (w:A1) (a:Option AC) (K:Int->Prop):Prop:=aj w none a (.one (.int .i64)) K
abbrev cN (p:Option AC) (n:Nat) (w:A1) (K:Int->Prop):Prop:=p.isSome=true/\p.isSome=true/\aj w none (ad p n) (.one (.int .i64)) K
abbrev cM (w:A1) (a:Option AC) (K:Int->Prop):Prop:=aj w none a (.one (.int .u64)) K
abbrev adi (p:Option AC) (n:Nat) (w:A1) (K:Int->Prop):Prop:=p.isSome=true/\p.isSome=true/\aj w none (ad p n) (.one (.int .u64)) K
abbrev tc (w:A1) (a:Option AC) (K:Option AC×Nat×Nat->Prop):Prop:=aj w none a (.one .slice) K
abbrev fj (p:Option AC) (n:Nat) (w:A1) (K:Option AC×Nat×Nat->Prop):Prop:=p.isSome=true/\p.isSome=true/\aj w none (ad p n) (.one .slice) K
abbrev u9 (w:A1) (a:Option AC) (K:Bool->Prop):Prop:=aj w none a (.one .bool) K
abbrev acy (p:Option AC) (n:Nat) (w:A1) (K:Bool->Prop):Prop:=p.isSome=true/\p.isSome=true/\aj w none (ad p n) (.one .bool) K
abbrev adj (w:A1) (a:Option AC) (K:Option Nat->Prop):Prop:=aj w none a (.one .map) K
abbrev td (p:Option AC) (n:Nat) (w:A1) (K:Option Nat->Prop):Prop:=p.isSome=true/\p.isSome=true/\aj w none (ad p n) (.one .map) K
abbrev cD:El:= .agg [.int .u64,.int .i64]
abbrev dV:El:= .agg [.int .i64,.int .i64,.int .i64,.int .i64]
abbrev rK:El:= .agg [.int .i64,.int .u64,.int .u64,.int .u64]
abbrev xr:El:= .agg [.int .i64,.int .i64,.int .i64]
abbrev Ze:El:= .agg [.int .i64,.int .i64,.int .i64,.int .i64,.int .u64,.int .u64,.int .u64,.int .u64,.int .i64]
abbrev kf:El:= .agg [.bool,.int .i64,.bool,.int .i64]
theorem ao {c:Prop} {h:Decidable c} (a: ¬c) {α:Sort _} {t e:α}:ite c t e=e:=if_neg a
theorem aw {c:Prop} {h:Decidable c} (hc:c) {α:Sort _} {t e:α}:ite c t e=t:=if_pos hc
abbrev aa (x:Int):A2:= .int .i64 x
abbrev az (x:Int):A2:= .int .u64 x
abbrev ag (x:Option AC):A2:= .pointer x
end Go.RX
