import Derived.CallsIn
import Derived.OrdersIn
import Derived.Below
import Derived.Laws.Sem
import Derived.KernelRfl
import Derived.Laws.StructEq
import Derived.Laws.Small
import Derived.WalkSpells
import Derived.ChangeKeysEq
import Derived.RangeFuncLeaves
import Derived.Laws.World
import Derived.Laws.NewFold
import Derived.OwnWalkIn
import Derived.ChangeMaps4
import Derived.Maps.RangeRun
import Derived.RangeFuncRecord
import Derived.LaidEqlPtr
import Derived.Conc.LoneSelect
import Derived.Laws.BytesString
import Derived.Laws.Append
import Derived.Test.YteeflilbnoknnaaGreatProg
import Derived.Deep.Slices
import Derived.ProofKit
import Derived.OpenShut
import Derived.Laws.RangeString
/-! What the statement leans on: texts joined and shortened by a program of mine. -/
set_option linter.unusedVariables false
set_option linter.unusedSimpArgs false
open Go renaming World->A1,Value->A2,Addr->A9,TypeId->A_,Program->AC,IntKind->B3,FuncId->B5,MapEntry->Do
open False renaming elim->A3
open Go.Sem renaming run_bind->AX,run_pure->B2,run_map->MJ
open Go.Result renaming andThen_ok->B1,andThen->Bp
open Go.Region renaming ready->B4,wanted->Bg,binds->EA,schedule->Ia,linearise->PM
open Bool renaming and_eq_true->BA,false_eq_true->Et,or_eq_true->Ev,not_eq_true'->HL,true_and->Ib,or_false->MU,not_false->PO
open List renaming range->Bb,mem_filter->Bc,mem_cons->Bq,all_eq_true->C7,mem_range->E4,mem_append->EB,mem_cons_self->Ey,length_append->FS,map_cons->HO,mem_cons_of_mem->HP,getElem?_eq_getElem->Ht,mem_map->Hu,all_cons->Ic,mapM_cons->Ih,getElem?_cons_zero->In,map_toArray->Ix,map_nil->J3,range'->K1,countP_singleton->K2,flatMap_cons->L7,length_cons->Mr,getElem?_toArray->Ms,getElem?_cons_succ->My,range'_succ->Mz,countP_append->O0,getElem?_eq_some_iff->O1,take_add_one->PP,take_set_of_le->PQ,getElem?_set_self->PS,drop_set_of_lt->PU,length_map->PV,find?_some->PY,forall_mem_cons->Pa,filter_cons->Pd,any_eq_true->Pl,range_eq_range'->Pp,countP_eq_zero->Ps,mem_filterMap->Pw,range_succ->Px,append_assoc->QA,getElem?_take_of_lt->QC,take_left'->QD
open Go.Op renaming equalIn->Bd,stringOp->O2
open Option.some renaming injEq->Bo
open Array renaming getElem?_eq_some_iff->Br,getElem?_setIfInBounds_ne->DS,getD_eq_getD_getElem?->GS,replicate->Gi,mem_of_getElem?->HQ,getD->HT,ext'->Hz,mk->L9,getElem?_eq_getElem->L_,getElem?_modify->LL,all_eq_true_iff_forall_mem->LZ,mapM_eq_mapM_toList->O3,range->OS,foldl_toList->QJ,getElem?_append_left->QK
open BitVec renaming ofInt->DA
open Go.Act renaming put->DB,eval->H2,put_comm->H4
open Nat renaming le_refl->Di,add_mul->E5,zero_add->ED,testBit_or->H5,blt->Hb,blt_eq->I1,testBit_and->Lr,strongRecOn->OY,lt_of_lt_of_le->P0,zero_testBit->QS,not_lt_zero->QT,mul_le_mul_right->QW,min_eq_left->Qd,min_eq_right->Qg,div_eq_of_lt->Qk
open Go.MapKept renaming run_getObj_map->Dn,IsKey->EE,run_checkKey->EF,run_findKey->EH,run_setObj_map->M4
open Go.Fence renaming wide->Eo
open Go.World renaming putObj->Es,setCell->I2,cell?->P1,frozen?->Ql
open Go.Instr renaming findNow->H6,fill->Hc,sureAddr->Hf,lookup->Ho,indexAt->M5,index->MD,extract->MH,sliceAt->P4,mapUpdate->P8,sliceBound->Qo,sliceBounds->Qs,makeSlice->Qt,buildSlice->Qz
open Option renaming map_some->H7,getD_some->MI,map_none->Rg,bind_some->S0
open Go.IntKind renaming i64->H9,u64->S1,wrap->S2,bits->S3,signed->S4
open Go.Builtin renaming firstCells->HB,len_->I_,zeroCells->IG,lenOf->PB,append_->PE,delete_->PG,nextslicecap->S5,copy_->S6
open Go.Region.linearise renaming go->HH
open Go.Calls renaming mono->Hq
open Go.Utf8 renaming decode->Hr
open Go.Conc renaming G->IR,solo->S7,rcase->S8
namespace Go.RX
open Go.RowKit
def Ext (w w':A1):Prop:=Below w.heap.size w w'
theorem Ext.refl (w:A1):Ext w w:=Below.refl _ w
theorem Ext.trans {a b c:A1} (h:Ext a b) (k:Ext b c):Ext a c:=Below.trans h (Below.mono k h.size)
theorem Ext.drew (w:A1):Ext w {w with drawn:=w.drawn+1}:=⟨rfl,rfl,rfl,Di _,λ_ _=>rfl⟩
theorem Ext.alloc (w:A1) (o:Obj):Ext w (w.alloc o):=Below.alloc (Below.refl _ w) (Di _) o
theorem Ext.size {w w':A1} (h:Ext w w'):w.heap.size<=w'.heap.size:=Below.size h
theorem Ext.block {w w':A1} (h:Ext w w') {k:Nat} (a:k<w.heap.size):w'.heap[k]? =w.heap[k]? :=Below.block h k a
theorem Ext.obj {w w':A1} (h:Ext w w') {k:Nat} {o:Obj} (a:w.heap[k]? =some o):w'.heap[k]? =some o:=by
 rw[h.block (Br.1 a).1];exact a
theorem BW {w:A1} {a:A9} {v:A2} (h:w.cell? a=some v):a.block<w.heap.size:=by
 unfold P1 at h;cases b:w.heap[a.block]? with
 |none=>simp[b] at h
 |some o=>exact(Br.1 b).1
theorem Ext.cell {w w':A1} (h:Ext w w') {a:A9} {v:A2} (b:w.cell? a=some v):w'.cell? a=some v:=by
 rw[Below.cell h (BW b)];exact b
inductive Sc where
 |int (k:B3)|bool|str|ptr|slice|map|chan|func|qq (f:B5) (n:Nat)|Py
 deriving DecidableEq
@[reducible] def zB:Nat->Type
 |0=>Unit
 |n+1=>Option A9×zB n
def sV:(n:Nat)->zB n->List A2
 |0, _=>[]
 |n+1,x=> .pointer x.1::sV n x.2
def kA:(n:Nat)->List A2->Option (zB n)
 |0,[]=>some ()
 |n+1,.pointer a::r=>match kA n r with
  |some y=>some (a,y)
  |none=>none
 | _, _=>none
theorem pR: ∀{n:Nat} {l:List A2} {x:zB n},kA n l=some x->sV n x=l
 |0,[], _, _=>rfl
 |0, _:: _, _,h=>by simp[kA] at h
 |n+1,[], _,h=>by simp[kA] at h
 |n+1,v::r,x,h=>by
  cases v<;>simp only[kA] at h<;>(try (cases h;done));split at h
  ·rename_i y a;cases h;simp only[sV,pR a]
  ·cases h
@[reducible] def Sc.T:Sc->Type
 | .int _=>Int
 | .bool=>Bool
 | .str=>ByteArray
 | .ptr=>Option A9
 | .slice=>Option A9×Nat×Nat
 | .map=>Option Nat
 | .chan=>Option Nat
 | .func=>A2
 | .qq _ n=>zB n
 | .Py=>Nat
def Sc.gj:(s:Sc)->s.T->A2
 | .int k,n=> .int k n
 | .bool,b=> .bool b
 | .str,s=> .string s
 | .ptr,a=> .pointer a
 | .slice,x=> .slice x.1 x.2.1 x.2.2
 | .map,r=> .map r
 | .chan,r=> .chan r
 | .func,v=>v
 | .qq f n,x=> .func (.func f) #[] ⟨sV n x⟩
 | .Py,y=> .func (.yield y) #[] #[]
def Sc.proj:(s:Sc)->A2->Option s.T
 | .int k,.int d n=>if k=d then some n else none
 | .bool,.bool b=>some b
 | .str,.string s=>some s
 | .ptr,.pointer a=>some a
 | .slice,.slice a n c=>some (a,n,c)
 | .map,.map r=>some r
 | .chan,.chan r=>some r
 | .func,v=>some v
 | .qq f n,.func (.func f') ⟨[]⟩ ⟨l⟩=>if f=f' then kA n l else none
 | .Py,.func (.yield y) ⟨[]⟩ ⟨[]⟩=>some y
 | _, _=>none
theorem Sc.gi {s:Sc} {v:A2} {x:s.T} (h:s.proj v=some x):s.gj x=v:=by
 cases s with
 |qq f n=>
  cases v with
  |func fn first a=>
   obtain⟨l1⟩:=first
   obtain⟨l2⟩:=a;cases fn<;>cases l1<;>simp only[Sc.proj] at h<;>(try (cases h;done));split at h
   ·subst_vars
    simp only[Sc.gj,pR h]
   ·cases h
  | _=>simp[Sc.proj] at h
 |Py=>
  cases v with
  |func fn first a=>
   obtain⟨l1⟩:=first
   obtain⟨l2⟩:=a;cases fn<;>cases l1<;>cases l2<;>simp only[Sc.proj] at h<;>first|(cases h;done)|(cases h;rfl)
  | _=>simp[Sc.proj] at h
 | _=>
   cases v<;>simp only[Sc.proj] at h<;>
    first
     |(cases h;rfl)
     |(split at h<;>cases h;subst_vars;rfl)
     |(cases h)
@[reducible] def iv:List Sc->Type
 |[]=>Unit
 |s::r=>s.T×iv r
def aZ:(l:List Sc)->iv l->List A2
 |[], _=>[]
 |s::r,x=>s.gj x.1::aZ r x.2
def jN:(l:List Sc)->List A2->Option (iv l)
 |[],[]=>some ()
 |s::r,v::a=>match s.proj v,jN r a with
  |some x,some y=>some (x,y)
  | _, _=>none
 | _, _=>none
theorem my: ∀{l:List Sc} {c:List A2} {x:iv l},jN l c=some x->aZ l x=c
 |[],[], _, _=>rfl
 |[], _:: _, _,h=>by simp[jN] at h
 | _:: _,[], _,h=>by simp[jN] at h
 |s::r,v::c,x,h=>by
  simp only[jN] at h;cases d:s.proj v with
  |none=>simp[d] at h
  |some a=>
   cases h2:jN r c with
   |none=>simp[d,h2] at h
   |some b=>
    simp only[d,h2] at h;cases h;simp only[aZ,Sc.gi d,my h2]
inductive El where
 |one (s:Sc)|agg (l:List Sc)
@[reducible] def El.T:El->Type
 | .one s=>s.T
 | .agg l=>iv l
def El.gj:(e:El)->e.T->A2
 | .one s,x=>s.gj x
 | .agg l,x=> .agg ⟨aZ l x⟩
def El.proj:(e:El)->A2->Option e.T
 | .one s,v=>s.proj v
 | .agg l,.agg ⟨a⟩=>jN l a
 | .agg _, _=>none
theorem El.gi {e:El} {v:A2} {x:e.T} (h:e.proj v=some x):e.gj x=v:=by
 cases e with
 |one s=>exact Sc.gi h
 |agg l=>
  cases v with
  |agg cs=>obtain⟨a⟩:=cs;exact congrArg (λl=>Value.agg ⟨l⟩) (my h)
  | _=>simp[El.proj] at h
@[reducible] def lO:List El->Type
 |[]=>Unit
 |e::r=>e.T×lO r
def qD:(l:List El)->lO l->List A2
 |[], _=>[]
 |e::r,x=>e.gj x.1::qD r x.2
def k6:(l:List El)->List A2->Option (lO l)
 |[],[]=>some ()
 |s::r,v::a=>match s.proj v,k6 r a with
  |some x,some y=>some (x,y)
  | _, _=>none
 | _, _=>none
theorem rN: ∀{l:List El} {c:List A2} {x:lO l},k6 l c=some x->qD l x=c
 |[],[], _, _=>rfl
 |[], _:: _, _,h=>by simp[k6] at h
 | _:: _,[], _,h=>by simp[k6] at h
 |s::r,v::c,x,h=>by
  simp only[k6] at h;cases d:s.proj v with
  |none=>simp[d] at h
  |some a=>
   cases h2:k6 r c with
   |none=>simp[d,h2] at h
   |some b=>
    simp only[d,h2] at h;cases h;simp only[qD,El.gi d,rN h2]
inductive Sh where
 |el (e:El)|bH (l:List El)
@[reducible] def Sh.T:Sh->Type
 | .el e=>e.T
 | .bH l=>lO l
def Sh.gj:(s:Sh)->s.T->A2
 | .el e,x=>e.gj x
 | .bH l,x=> .tuple ⟨qD l x⟩
def Sh.proj:(s:Sh)->A2->Option s.T
 | .el e,v=>e.proj v
 | .bH l,.tuple ⟨a⟩=>k6 l a
 | .bH _, _=>none
theorem Sh.gi {e:Sh} {v:A2} {x:e.T} (h:e.proj v=some x):e.gj x=v:=by
 cases e with
 |el s=>exact El.gi h
 |bH l=>
  cases v with
  |tuple cs=>obtain⟨a⟩:=cs;exact congrArg (λl=>Value.tuple ⟨l⟩) (rN h)
  | _=>simp[Sh.proj] at h
def wg (P:AC):Nat->A_->Option (List Sc)
 |0, _=>none
 |d+1,t=>match P.underlying t with
  |some (.int k)=>some [.int k]
  |some .bool=>some [.bool]
  |some .string=>some [.str]
  |some (.pointer _)=>some [.ptr]
  |some (.slice _)=>some [.slice]
  |some (.map _ _)=>some [.map]
  |some (.chan _ _)=>some [.chan]
  |some (.func _ _ _)=>some [.func]
  |some (.struct c)=>c.toList.foldr (λf g=>match wg P d f.type,g with|some a,some b=>some (a++b)| _, _=>none) (some [])
  |some (.array n e)=>match wg P d e with
   |some a=>if n<=64 then some (List.replicate n a).flatten else none
   |none=>none
  | _=>none
def qw (P:AC) (t:A_):Option El:=
 match P.underlying t with
 |some (.struct _)|some (.array _ _)=>(wg P 20 t).map .agg
 | _=>match wg P 20 t with
   |some [s]=>some (.one s)
   | _=>none
def O6 (P:AC):List A_->Option (List El)
 |[]=>some []
 |t::r=>match qw P t,O6 P r with
  |some e,some l=>some (e::l)
  | _, _=>none
def Ub (P:AC) (f:B5):Sh:=
 match P.funcs[f]? with
 |some fn=>match fn.resultTypes.toList with
  |[t]=>match qw P t with
   |some e=> .el e
   |none=> .bH []
  |ts=>match O6 P ts with
   |some l=> .bH l
   |none=> .bH []
 |none=> .bH []
def aC (k:B3) (x y:Int):Int:=k.wrap (x+y)
def bK (k:B3) (x y:Int):Int:=k.wrap (x - y)
def dO (k:B3) (x y:Int):Int:=k.wrap (x*y)
def nh (k:B3) (x y:Int):Int:=k.wrap (x.tdiv y)
def gu (x y:Int):Int:=x.tmod y
def lY (k:B3) (x y:Int):Int:=k.wrap (DA k.bits x &&& DA k.bits y).toNat
def Pz (k:B3) (x y:Int):Int:=k.wrap (DA k.bits x ||| DA k.bits y).toNat
def TB (k:B3) (x y:Int):Int:=k.wrap (DA k.bits x ^^^ DA k.bits y).toNat
def iV (k:B3) (x y:Int):Int:=k.wrap (DA k.bits x &&& ~~~ (DA k.bits y)).toNat
def zk (k:B3) (x y:Int):Int:=k.wrap (x*2 ^ (min y.toNat k.bits))
def Be (k:B3) (x y:Int):Int:=x.fdiv (2 ^ (min y.toNat k.bits))
def aD (k:B3) (x:Int):Int:=k.wrap x
def TC (k:B3) (x:Int):Int:=k.wrap (DA k.bits (if k.signed then -1 else k.max) ^^^ DA k.bits x).toNat
def iO (x y:Int):Int:=if y<x then y else x
def zl (x y:Int):Int:=if y>x then y else x
structure PR where
 ob:Option Prop
 v:A2
def mq:Operand->Bool
 | .const (.int _ n)=>decide (n≠0)
 | _=>false
def mN:Operand->Bool
 | .const (.int _ n)=>decide (0<=n)
 | _=>false
def iP:Operand->Bool
 | .const (.pointer none)| .const (.slice none _ _)| .const (.map none)| .const .nilFunc=>true
 | _=>false
def Iy (op:BinOp) (k:B3) (x y:Int) (a:Operand):Option PR:=
 match op with
 | .add=>some ⟨none,.int k (aC k x y)⟩
 | .sub=>some ⟨none,.int k (bK k x y)⟩
 | .mul=>some ⟨none,.int k (dO k x y)⟩
 | .quo=>some ⟨if mq a then none else some (y≠0),.int k (nh k x y)⟩
 | .rem=>some ⟨if mq a then none else some (y≠0),.int k (gu x y)⟩
 | .and=>some ⟨none,.int k (lY k x y)⟩
 | .or=>some ⟨none,.int k (Pz k x y)⟩
 | .xor=>some ⟨none,.int k (TB k x y)⟩
 | .andNot=>some ⟨none,.int k (iV k x y)⟩
 | .eql=>some ⟨none,.bool (x==y)⟩
 | .neq=>some ⟨none,.bool (x != y)⟩
 | .lss=>some ⟨none,.bool (decide (x<y))⟩
 | .leq=>some ⟨none,.bool (decide (x<=y))⟩
 | .gtr=>some ⟨none,.bool (decide (x>y))⟩
 | .geq=>some ⟨none,.bool (decide (x>=y))⟩
 | _=>none
def iz (P:AC) (t:A_):Option Bool:=
 match P.underlying t with
 |some (.struct _)|some (.array _ _)=>some true
 |some _=>some false
 |none=>none
def nA (P:AC) (t:A_) (cs:List A2) (off:Nat):Option A2:=
 match iz P t,P.info? t with
 |some true,some i=>some (.agg ⟨(cs.drop off).take i.size⟩)
 |some false, _=>cs[off]?
 | _, _=>none
def HE (P:AC) (g:A_->A2->A2->Option Bool) (xs ys:List A2):List Field->Option Bool
 |[]=>some true
 |f::c=>if f.name≠ "_" then
   match nA P f.type xs f.offset,nA P f.type ys f.offset with
   |some a,some b=>match g f.type a b,HE P g xs ys c with
    |some r,some s=>some (r&&s)
    | _, _=>none
   | _, _=>none
  else HE P g xs ys c
def SS (P:AC):Nat->A_->A2->A2->Option Bool
 |0, _, _, _=>none
 |d+1,t,x,y=>
  match P.underlying t with
  |some .bool=>match x,y with
   | .bool a,.bool b=>some (a==b)
   | _, _=>none
  |some (.int _)=>match x,y with
   | .int k a,.int c b=>if k=c then some (a==b) else none
   | _, _=>none
  |some .string=>match x,y with
   | .string a,.string b=>some (a==b)
   | _, _=>none
  |some (.struct e)=>match x,y with
   | .agg ⟨xs⟩,.agg ⟨ys⟩=>if P.stoodInHeld t then none else HE P (SS P d) xs ys e.toList
   | _, _=>none
  | _=>none
def Qm (P:AC) (op:BinOp) (t:A_) (d c:Operand) (x y:A2):Option PR:=
 match x,y with
 | .int k a,.int e b=>
   match op with
   | .shl=>some ⟨if mN c then none else some (0<=b),.int k (zk k a b)⟩
   | .shr=>some ⟨if mN c then none else some (0<=b),.int k (Be k a b)⟩
   |op=>if k=e then Iy op k a b c else none
 | .bool a,.bool b=>
   match op,P.underlying t with
   | .eql,some .bool=>some ⟨none,.bool (a==b)⟩
   | .neq,some .bool=>some ⟨none,.bool (!(a==b))⟩
   | _, _=>none
 | .pointer p,.pointer q=>
   match op,P.underlying t with
   | .eql,some (.pointer _)=>if iP c then some ⟨none,.bool p.isNone⟩ else if iP d then some ⟨none,.bool q.isNone⟩ else none
   | .neq,some (.pointer _)=>if iP c then some ⟨none,.bool (!p.isNone)⟩ else if iP d then some ⟨none,.bool (!q.isNone)⟩ else none
   | _, _=>none
 | .slice p _ _,.slice q _ _=>
   match op,P.underlying t with
   | .eql,some (.slice _)=>if iP c then some ⟨none,.bool p.isNone⟩ else if iP d then some ⟨none,.bool q.isNone⟩ else none
   | .neq,some (.slice _)=>if iP c then some ⟨none,.bool (!p.isNone)⟩ else if iP d then some ⟨none,.bool (!q.isNone)⟩ else none
   | _, _=>none
 | .map p,.map q=>
   match op,P.underlying t with
   | .eql,some (.map _ _)=>if iP c then some ⟨none,.bool p.isNone⟩ else if iP d then some ⟨none,.bool q.isNone⟩ else none
   | .neq,some (.map _ _)=>if iP c then some ⟨none,.bool (!p.isNone)⟩ else if iP d then some ⟨none,.bool (!q.isNone)⟩ else none
   | _, _=>none
 | .string a,.string b=>
   match op with
   | .add=>some ⟨some (((a.size+b.size:Nat):Int)<=9223372036854775807),.string (a++b)⟩
   | .eql=>some ⟨none,.bool (a==b)⟩
   | .neq=>some ⟨none,.bool (!(a==b))⟩
   | _=>none
 | .agg xs,.agg ys=>
   if P.eqGuardType P.depth t then none else
   match op,SS P Op.maxDepth t (.agg xs) (.agg ys) with
   | .eql,some r=>some ⟨none,.bool r⟩
   | .neq,some r=>some ⟨none,.bool (!r)⟩
   | _, _=>none
 | _, _=>none
def Yi (op:UnOp) (x:A2):Option PR:=
 match op,x with
 | .not,.bool b=>some ⟨none,.bool (!b)⟩
 | .neg,.int k n=>some ⟨none,.int k (bK k 0 n)⟩
 | .xor,.int k n=>some ⟨none,.int k (TC k n)⟩
 | _, _=>none
def O7 (P:AC) (src dst:A_) (x:A2):Option PR:=
 match P.underlying src,P.underlying dst,x with
 |some _,some (.int k),.int _ n=>some ⟨none,.int k (aD k n)⟩
 |some .string,some .string,.string s=>some ⟨none,.string s⟩
 | _, _, _=>none
def sW (P:AC) (t:A_) (i:Nat):Option Field:=
 match P.underlying t with
 |some (.struct a)=>a[i]?
 | _=>none
def maps (ρ:Operand->Option A2):List Operand->Option (List A2)
 |[]=>some []
 |x::r=>match ρ x,maps ρ r with
  |some v,some l=>some (v::l)
  | _, _=>none
def wh (ρ:Operand->Option A2):List (Nat×Operand)->Option (List (Nat×A2))
 |[]=>some []
 |(i,x)::r=>match ρ x,wh ρ r with
  |some v,some l=>some ((i,v)::l)
  | _, _=>none
def ae (p:Option A9) (n:Nat):Option A9:=p.map (·.add n)
def ye:List A2->B3->Option (List Int)
 |[], _=>some []
 | .int a n::r,k=>if k=a then(match ye r k with|some l=>some (n::l)|none=>none) else none
 | _, _=>none
def Bf (l:List Int) (i:Int):Int:=l.getD i.toNat 0
def Qn (l:List A2) (i:Int):A2:=l.getD i.toNat undef
def dS (a:Nat->Option (Nat×Nat)) (cells:List A2):List (Nat×A2)->Option (List A2)
 |[]=>some cells
 |(i,v)::rest=>match a i with
  |none=>none
  |some (off,size)=>
   if(Nat.beq v.cells.toList.length size&&Nat.ble (off+size) cells.length)=true then dS a (cells.take off++(v.cells.toList++cells.drop (off+size))) rest else none
def wi (a:Nat->Option (Nat×Nat)) (cells:Array A2) (ps:List (Nat×A2)):Option (Array A2):=
 match dS a cells.toList ps with
 |some l=>some ⟨l⟩
 |none=>none
theorem zV: ∀(a:List A2) (k off:Nat) (cs:List A2),off+k+a.length<=cs.length->
 (a.zipIdx k).foldl (λ(cs:Array A2) (x:A2×Nat)=>cs.setIfInBounds (off+x.2) x.1) ⟨cs⟩=⟨cs.take (off+k)++(a++cs.drop (off+k+a.length))⟩
 |[],k,off,cs,h=>by simp
 |v::a,k,off,cs,h=>by
  simp only[Mr] at h;have e:(L9 cs).setIfInBounds (off+k) v=⟨cs.set (off+k) v⟩:=by simp
  simp only[List.zipIdx_cons,List.foldl_cons,e];rw[zV a (k+1) off (cs.set (off+k) v) (by simp;omega)];congr 1;have b:(cs.set (off+k) v).take (off+(k+1))=cs.take (off+k)++[v]:=by
   rw[show off+(k+1)=(off+k)+1 by omega,PP,PQ (by omega)];congr 1;rw[PS (by omega)];rfl
  have h2:(cs.set (off+k) v).drop (off+(k+1)+a.length)=cs.drop (off+k+(a.length+1)):=by
   rw[PU (by omega)];congr 1;omega
  rw[b,h2];simp
theorem zW (a:Nat->Option (Nat×Nat)): ∀(ps:List (Nat×A2)) (cells r:List A2),dS a cells ps=some r->Hc a ⟨cells⟩ ps=some ⟨r⟩
 |[],cells,r,h=>by cases h;rfl
 |(i,v)::rest,cells,r,h=>by
  unfold dS at h;unfold Hc;split at h
  ·cases h
  ·rename_i off size c;split at h
   ·rename_i hc;simp only[BA,Nat.beq_eq,Nat.ble_eq] at hc;obtain⟨b,h2⟩:=hc;have d:v.cells.size=size:=by simpa using b
    have e: ¬ ((decide (v.cells.size≠size)||decide (off+v.cells.size>(L9 cells).size))=true):=by
     simp[d];omega
    simp only[c,e];have:=zV v.cells.toList 0 off cells (by simp only[b];omega);have f:v.cells.zipIdx=⟨v.cells.toList.zipIdx 0⟩:=by
     apply Hz;simp
    have g:v.cells.zipIdx.foldl (λ(cs:Array A2) (x:A2×Nat)=>cs.setIfInBounds (off+x.2) x.1) ⟨cells⟩=⟨cells.take off++(v.cells.toList++cells.drop (off+size))⟩:=by
     rw[f, <-QJ];simp only[b,Nat.add_zero] at this;exact this
    refine Eq.trans ?_ (zW a rest _ r h);exact congrArg (λx=>Hc a x rest) g
   ·cases h
theorem um {a:Nat->Option (Nat×Nat)} {cells:Array A2} {ps:List (Nat×A2)} {cs:Array A2} (h:wi a cells ps=some cs):Hc a cells ps=some cs:=by
 unfold wi at h;split at h
 ·rename_i l b;cases h;exact zW a ps _ l b
 ·cases h
def BB (P:AC) (t:A_) (parts:List (Nat×A2)):Option (Array A2):=
 match P.info? t with
 |some i=>match i.zero with
  |some z=>match P.underlying t with
   |some (.struct a)=>if a.toList.all (λf=>(P.info? f.type).isSome) then wi ((a.toList.map λf=>(f.offset,P.cellsOf f.type))[·]?) z.cells parts else none
   |some (.array _ e)=>match P.info? e with
    |some b=>wi (λi=>some (i*b.size,b.size)) z.cells parts
    |none=>none
   | _=>none
  |none=>none
 |none=>none
def zC (s:ByteArray) (i:Int):Int:=(((s.data.toList)[i.toNat]?.getD 0).toNat:Int)
def e_ (ρ:Operand->Option A2) (d:Nat):Option Operand->Option (Int)
 |none=>some d
 |some x=>match ρ x with
  |some (.int _ n)=>some n
  | _=>none
def pop (P:AC) (ρ:Operand->Option A2) (o:Oper):Option PR:=
 match o.op with
 | .move x=>match ρ x with
   |some v=>some ⟨none,v⟩
   |none=>none
 | .assign x=>match ρ x with
   |some v=>some ⟨none,v⟩
   |none=>none
 | .nilCheck x=>match ρ x with
   |some (.pointer p)=>some ⟨some (p.isSome=true),.pointer p⟩
   |some (.func (.func f) j cs)=>some ⟨none,.func (.func f) j cs⟩
   | _=>none
 | .binOp op t x y _=>match ρ x,ρ y with
   |some a,some b=>Qm P op t x y a b
   | _, _=>none
 | .unOp op _ x=>match ρ x with
   |some a=>Yi op a
   |none=>none
 | .convert s d x=>match ρ x with
   |some a=>O7 P s d a
   |none=>none
 | .fieldAddr s x f=>match ρ x,sW P s f with
   |some (.pointer p),some fd=>match P.info? fd.type with
    |some i=>if i.size=0 then none else some ⟨some (p.isSome=true),.pointer (ae p fd.offset)⟩
    |none=>none
   | _, _=>none
 | .field t x f=>match ρ x,sW P t f with
   |some (.agg ⟨cs⟩),some fd=>match nA P fd.type cs fd.offset with
    |some v=>some ⟨none,v⟩
    |none=>none
   | _, _=>none
 | .indexAddr t x ix=>match P.underlying t,ρ x,ρ ix with
   |some (.array len e),some (.pointer p),some (.int _ i)=>match P.info? e with
    |some g=>if len<=1 then none else some ⟨some (p.isSome=true/\0<=i/\i<len),.pointer (ae p (i.toNat*g.size))⟩
    |none=>none
   |some (.slice e),some (.slice p len _),some (.int _ i)=>match P.info? e with
    |some g=>some ⟨some (p.isSome=true/\0<=i/\i<len),.pointer (ae p (i.toNat*g.size))⟩
    |none=>none
   | _, _, _=>none
 | .index t x ix=>match P.underlying t,ρ x,ρ ix with
   |some (.array len e),some (.agg ⟨cs⟩),some (.int _ i)=>match P.info? e with
    |some g=>match ix with
     | .const (.int _ n)=>if 0<=n/\n<len then(match nA P e cs (n.toNat*g.size) with
      |some v=>some ⟨none,v⟩
      |none=>none) else none
     | _=>match P.underlying e with
       |some (.int k)=>match ye cs k with
        |some q=>if cs.length=len/\g.size=1 then some ⟨some (0<=i/\i<len),.int k (Bf q i)⟩ else none
        |none=>none
       |some (.struct _)=>if cs.length=len/\g.size=1 then some ⟨some (0<=i/\i<len),.agg ⟨[Qn cs i]⟩⟩ else none
       | _=>none
    |none=>none
   |some .string,some (.string s),some (.int _ i)=>some ⟨some (0<=i/\i<s.size),.int .u8 (zC s i)⟩
   | _, _, _=>none
 | .makeFunc fn first r=>match maps ρ first.toList,maps ρ r.toList with
   |some a,some b=>some ⟨none,.func fn ⟨a⟩ ⟨b⟩⟩
   | _, _=>none
 | .extract x i=>match ρ x with
   |some (.tuple ⟨u⟩)=>match u[i]? with
    |some v=>some ⟨none,v⟩
    |none=>none
   | _=>none
 | .build t parts=>match wh ρ parts.toList with
   |some ps=>match BB P t ps with
    |some cs=>some ⟨none,.agg cs⟩
    |none=>none
   |none=>none
 | .slice t x lo hi mx=>match P.underlying t,ρ x with
   |some (.slice e),some (.slice p len cap)=>match P.info? e,e_ ρ 0 lo,e_ ρ len hi,e_ ρ cap mx with
    |some g,some l,some h,some m=>if hi.isNone&&mx.isSome then none else
     some ⟨some (0<=l/\l<=h/\h<=m/\m<=cap),.slice (if m.toNat=l.toNat then p else ae p (l.toNat*g.size)) (h.toNat - l.toNat) (m.toNat - l.toNat)⟩
    | _, _, _, _=>none
   |some .string,some (.string s)=>match e_ ρ 0 lo,e_ ρ s.size hi with
    |some l,some h=>if mx.isSome then none else some ⟨some (0<=l/\l<=h/\h<=s.size),.string (s.extract l.toNat h.toNat)⟩
    | _, _=>none
   |some (.array n e),some (.pointer p)=>match P.info? e,e_ ρ 0 lo,e_ ρ n hi,e_ ρ n mx with
    |some g,some l,some h,some m=>if hi.isNone&&mx.isSome then none else
     some ⟨some (p.isSome=true/\0<=l/\l<=h/\h<=m/\m<=n),.slice (if m.toNat=l.toNat then p else ae p (l.toNat*g.size)) (h.toNat - l.toNat) (m.toNat - l.toNat)⟩
    | _, _, _, _=>none
   | _, _=>none
 | .call c=>match c.callee with
   | .builtin .len=>match c.args.toList,c.argTypes.toList with
     |[x],[t]=>match ρ x,P.underlying t with
      |some (.slice _ n _),some (.slice _)=>some ⟨none,.int .i64 n⟩
      |some (.string s),some .string=>some ⟨none,.int .i64 s.size⟩
      |some (.agg _),some (.array n _)=>some ⟨none,.int .i64 n⟩
      | _, _=>none
     | _, _=>none
   | .builtin .min=>match c.args.toList with
     |[x,y]=>match ρ x,ρ y with
      |some (.int k a),some (.int _ b)=>some ⟨none,.int k (iO a b)⟩
      | _, _=>none
     | _=>none
   | .builtin .max=>match c.args.toList with
     |[x,y]=>match ρ x,ρ y with
      |some (.int k a),some (.int _ b)=>some ⟨none,.int k (zl a b)⟩
      | _, _=>none
     | _=>none
   | _=>none
 | _=>none
section
variable {P:AC}
theorem a8 {t:A_} {d:TypeDesc} (h:P.underlying t=some d) (w:A1):(underlying t).run P w= .ok d w:=run_underlying h w
theorem eO {t:A_} {i:TypeInfo} (h:P.info? t=some i) (w:A1):(typeInfo t).run P w= .ok i w:=by
 unfold typeInfo;simp[h]
theorem cG {t:A_} {i:TypeInfo} (h:P.info? t=some i) (w:A1):(sizeOf t).run P w= .ok i.size w:=by
 unfold sizeOf;simp[eO h]
theorem qO {t:A_} {b:Bool} (h:iz P t=some b) (w:A1):(isAgg t).run P w= .ok b w:=by
 unfold iz at h;unfold isAgg;cases a:P.underlying t with
 |none=>simp[a] at h
 |some d=>cases d<;>simp_all [a8 a]
theorem i_ {t:A_} {cs:List A2} {off:Nat} {v:A2} (h:nA P t cs off=some v) (w:A1):(part t ⟨cs⟩ off).run P w= .ok v w:=by
 unfold nA at h;unfold part;cases hb:iz P t with
 |none=>simp[hb] at h
 |some b=>
  simp only[AX,qO hb,B1];cases b with
  |true=>
   cases hi:P.info? t with
   |none=>simp[hb,hi] at h
   |some i=>
    simp only[hb,hi] at h;cases h;simp[cG hi,List.extract_eq_take_drop,Nat.add_sub_cancel_left]
  |false=>
   simp only[hb] at h;simp[h]
theorem Dl: ∀(d:Nat) (t:A_) (x y:A2) (r:Bool),SS P d t x y=some r-> ∀w,(Bd d t x y).run P w= .ok r w:=by
 intro d
 induction d with
 |zero=>intro t x y r h;simp[SS] at h
 |succ d k=>
  intro t x y r h w;unfold SS at h;split at h
  ·rename_i c;split at h
   ·cases h;simp[Bd,a8 c]
   ·cases h
  ·rename_i k0 c;split at h
   ·split at h
    ·cases h;subst_vars;simp[Bd,a8 c]
    ·cases h
   ·cases h
  ·rename_i c;split at h
   ·cases h;simp[Bd,a8 c]
   ·cases h
  ·rename_i i c;split at h
   ·rename_i xs ys;split at h
    ·cases h
    ·rename_i m;have e:P.fieldsOf t=i:=by simp[Program.fieldsOf,c]
     rw[run_equalIn_struct w d t ⟨xs⟩ ⟨ys⟩ (by rw[e];exact c) (by simpa using m),e];clear c e;generalize i.toList=l at h
     induction l generalizing r with
     |nil=>simp only[HE,Bo] at h;subst h;simp[Op.eqFields]
     |cons f l j=>
      simp only[HE] at h;unfold Op.eqFields;split
      ·rename_i g;rw[if_pos g] at h;split at h
       ·rename_i a b n hb;split at h
        ·rename_i o q p h2;cases h;simp only[AX,i_ n,i_ hb,B1,k _ _ _ _ p];cases o
         ·simp
         ·simp[j _ h2]
        ·cases h
       ·cases h
      ·rename_i g;rw[if_neg g] at h;exact j _ h
   ·cases h
  ·cases h
end
section
variable {P:AC} {ρ:Operand->Option A2} {ev:Operand->A2}
theorem jO (b: ∀x v,ρ x=some v->ev x=v): ∀{l:List Operand} {a:List A2},maps ρ l=some a->l.map ev=a
 |[],a,h=>by simp[maps] at h;simp[h]
 |x::r,a,h=>by
  simp only[maps] at h;split at h
  ·rename_i v l c h2;cases h;simp[b _ _ c,jO b h2]
  ·cases h
theorem uo (b: ∀x v,ρ x=some v->ev x=v): ∀{l:List (Nat×Operand)} {a:List (Nat×A2)},wh ρ l=some a->(l.map λ(i,x)=>(i,ev x))=a
 |[],a,h=>by simp[wh] at h;simp[h]
 |(i,x)::r,a,h=>by
  simp only[wh] at h;split at h
  ·rename_i v l c h2;cases h;have:=uo b h2;simp[b _ _ c] at*
   exact this
  ·cases h
theorem sM (op:BinOp) (t:A_) (x y:Operand) (k c:B3) (a b:Int) (w:A1):(eqGuard op t x y (.int k a) (.int c b)).run P w= .ok () w:=by
 unfold eqGuard;cases op<;>simp
theorem wz {t:A_} (c:P.underlying t=some .bool) (d:Nat) (a b:Bool) (w:A1):(Bd (d+1) t (.bool a) (.bool b)).run P w= .ok (a==b) w:=by
 simp[Bd,a8 c]
theorem ou {t e:A_} (a:P.underlying t=some (.pointer e)) (d:Nat) (p:Option A9) (w:A1):(Bd (d+1) t (.pointer p) (.pointer none)).run P w= .ok p.isNone w:=by
 cases p<;>simp[Bd,a8 a]
theorem lp {t e:A_} (a:P.underlying t=some (.pointer e)) (d:Nat) (p:Option A9) (w:A1):(Bd (d+1) t (.pointer none) (.pointer p)).run P w= .ok p.isNone w:=by
 cases p<;>simp[Bd,a8 a]
theorem pS {t e:A_} (a:P.underlying t=some (.slice e)) (d:Nat) (p:Option A9) (n c b f:Nat) (w:A1):(Bd (d+1) t (.slice p n c) (.slice none b f)).run P w= .ok p.isNone w:=by
 cases p<;>simp[Bd,a8 a]
theorem pT {t e:A_} (a:P.underlying t=some (.slice e)) (d:Nat) (p:Option A9) (n c b f:Nat) (w:A1):(Bd (d+1) t (.slice none b f) (.slice p n c)).run P w= .ok p.isNone w:=by
 cases p<;>simp[Bd,a8 a]
theorem uR {t k e:A_} (a:P.underlying t=some (.map k e)) (d:Nat) (p:Option Nat) (w:A1):(Bd (d+1) t (.map p) (.map none)).run P w= .ok p.isNone w:=by
 cases p<;>simp[Bd,a8 a]
theorem uS {t k e:A_} (a:P.underlying t=some (.map k e)) (d:Nat) (p:Option Nat) (w:A1):(Bd (d+1) t (.map none) (.map p)).run P w= .ok p.isNone w:=by
 cases p<;>simp[Bd,a8 a]
theorem dH {t:A_} {x y:A2} {r:Bool} {w:A1} (h: ∀d,(Bd (d+1) t x y).run P w= .ok r w):(Op.equal t x y).run P w= .ok r w:=h 9999
theorem MK {op:BinOp} {t:A_} {i e:Operand} {x y:A2} {m:PR} (j: ∀v,e= .const v->y=v) (o: ∀v,i= .const v->x=v)
 (h:Qm P op t i e x y=some m) (l: ∀p,m.ob=some p->p) (w:A1):
 (do eqGuard op t i e x y;binOp op t x y).run P w= .ok m.v w:=by
 unfold Qm at h;split at h
 ·
  rename_i k a F b;simp only[AX,sM,B1];have B:mq e=true->b≠0:=by
   intro hc;unfold mq at hc;split at hc
   ·rename_i C n;have:=j _ rfl;cases this;simpa using hc
   ·cases hc
  have z:mN e=true->0<=b:=by
   intro hc;unfold mN at hc;split at hc
   ·rename_i C n;have:=j _ rfl;cases this;simpa using hc
   ·cases hc
  split at h
  ·cases h;have h0:0<=b:=by
    by_cases hc:mN e=true
    ·exact z hc
    ·exact l (0<=b) (by simp[hc])
   simp[binOp,Op.shift,zk,Int.not_lt.2 h0]
  ·cases h;have h0:0<=b:=by
    by_cases hc:mN e=true
    ·exact z hc
    ·exact l (0<=b) (by simp[hc])
   simp[binOp,Op.shift,Be,Int.not_lt.2 h0]
  ·rename_i G H;split at h
   ·subst_vars
    cases op<;>simp only[Iy] at h<;>(try cases h)<;>
     first
      |(simp[binOp,Op.intArith,aC,bK,dO];done)
      |(simp[binOp,Op.intBits,lY,Pz,TB,iV];done)
      |(simp[binOp,Op.intCmp];done)
      |(have h0:b≠0:=by
         by_cases hc:mq e=true
         ·exact B hc
         ·exact l (b≠0) (by simp[hc])
        simp[binOp,Op.intDiv,h0,nh,gu])
   ·cases h
 ·
  rename_i a b;split at h
  ·rename_i c;cases h;simp[eqGuard,binOp,dH λd=>wz c d a b w]
  ·rename_i c;cases h;simp[eqGuard,binOp,dH λd=>wz c d a b w]
  ·cases h
 ·
  rename_i p q;have f:iP e=true->q=none:=by
   intro hc;unfold iP at hc;split at hc<;>first|(have:=j _ rfl;cases this<;>rfl)|(cases hc)
  have g:iP i=true->p=none:=by
   intro hc;unfold iP at hc;split at hc<;>first|(have:=o _ rfl;cases this<;>rfl)|(cases hc)
  split at h
  ·rename_i c;split at h
   ·rename_i hc;cases h;rw[f hc];simp[eqGuard,binOp,dH λd=>ou c d p w]
   ·split at h
    ·rename_i hc;cases h;rw[g hc];simp[eqGuard,binOp,dH λd=>lp c d q w]
    ·cases h
  ·rename_i c;split at h
   ·rename_i hc;cases h;rw[f hc];simp[eqGuard,binOp,dH λd=>ou c d p w]
   ·split at h
    ·rename_i hc;cases h;rw[g hc];simp[eqGuard,binOp,dH λd=>lp c d q w]
    ·cases h
  ·cases h
 ·
  rename_i p _ _ q _ _;have f:iP e=true->q=none:=by
   intro hc;unfold iP at hc;split at hc<;>first|(have:=j _ rfl;cases this<;>rfl)|(cases hc)
  have g:iP i=true->p=none:=by
   intro hc;unfold iP at hc;split at hc<;>first|(have:=o _ rfl;cases this<;>rfl)|(cases hc)
  split at h
  ·rename_i c;split at h
   ·rename_i hc;cases h;rw[f hc];simp[eqGuard,binOp,dH λd=>pS c d p _ _ _ _ w]
   ·split at h
    ·rename_i hc;cases h;rw[g hc];simp[eqGuard,binOp,dH λd=>pT c d q _ _ _ _ w]
    ·cases h
  ·rename_i c;split at h
   ·rename_i hc;cases h;rw[f hc];simp[eqGuard,binOp,dH λd=>pS c d p _ _ _ _ w]
   ·split at h
    ·rename_i hc;cases h;rw[g hc];simp[eqGuard,binOp,dH λd=>pT c d q _ _ _ _ w]
    ·cases h
  ·cases h
 ·
  rename_i p q;have f:iP e=true->q=none:=by
   intro hc;unfold iP at hc;split at hc<;>first|(have:=j _ rfl;cases this<;>rfl)|(cases hc)
  have g:iP i=true->p=none:=by
   intro hc;unfold iP at hc;split at hc<;>first|(have:=o _ rfl;cases this<;>rfl)|(cases hc)
  split at h
  ·rename_i c;split at h
   ·rename_i hc;cases h;rw[f hc];simp[eqGuard,binOp,dH λd=>uR c d p w]
   ·split at h
    ·rename_i hc;cases h;rw[g hc];simp[eqGuard,binOp,dH λd=>uS c d q w]
    ·cases h
  ·rename_i c;split at h
   ·rename_i hc;cases h;rw[f hc];simp[eqGuard,binOp,dH λd=>uR c d p w]
   ·split at h
    ·rename_i hc;cases h;rw[g hc];simp[eqGuard,binOp,dH λd=>uS c d q w]
    ·cases h
  ·cases h
 ·
  rename_i a b;split at h
  ·cases h;have I:((a.size+b.size:Nat):Int)<=9223372036854775807:=l _ rfl;simp[eqGuard,binOp,O2];omega
  ·cases h;simp[eqGuard,binOp,O2,beq_toListBytes]
  ·cases h;simp[eqGuard,binOp,O2,beq_toListBytes]
  ·cases h
 ·
  rename_i xs ys;split at h
  ·cases h
  ·rename_i D;have E:P.eqGuardType P.depth t=false:=by simpa using D
   have A: ∀op:BinOp,(eqGuard op t i e (.agg xs) (.agg ys)).run P w= .ok () w:=by
    intro op;unfold eqGuard;cases op<;>simp[E]
   split at h
   ·rename_i r s;cases h;simp only[AX,A,B1];have u:(Op.equal t (.agg xs) (.agg ys)).run P w= .ok r w:=Dl (P:=P) _ _ _ _ _ s w;simp[binOp,u]
   ·rename_i r s;cases h;simp only[AX,A,B1];have u:(Op.equal t (.agg xs) (.agg ys)).run P w= .ok r w:=Dl (P:=P) _ _ _ _ _ s w;simp[binOp,u]
   ·cases h
 ·cases h
end
section
variable {P:AC} {ρ:Operand->Option A2} {ev:Operand->A2}
theorem uT: ∀{cs:List A2} {k:B3} {a:List Int},ye cs k=some a-> ∀i,i<cs.length->cs[i]? =some (.int k (a.getD i 0))
 |[],k,a,h,i,hi=>by simp at hi
 |c::cs,k,a,h,i,hi=>by
  unfold ye at h;split at h
  ·cases ‹c::cs=[]›
  ·rename_i e n r f b;cases b;split at h
   ·subst_vars
    split at h
    ·rename_i l d;cases h;cases i with
     |zero=>simp
     |succ i=>simpa using uT d i (by simpa using hi)
    ·cases h
   ·cases h
  ·cases h
theorem rO {t:A_} {f:Nat} {fd:Field} (a:sW P t f=some fd): ∃b,P.underlying t=some (.struct b)/\b[f]? =some fd:=by
 unfold sW at a;split at a
 ·rename_i b h;exact⟨b,h,a⟩
 ·cases a
theorem AI {t e:A_} {a:TypeInfo} (p:A9) (k:B3) (i:Int) (len:Nat) (b: ¬ len<=1) (c:P.underlying t=some (.array len e)) (hi:P.info? e=some a) (h0:0<=i) (d:i<len) (w:A1):
 (M5 t (.pointer (some p)) (.int k i)).run P w= .ok (.pointer (some (p.add (i.toNat*a.size)))) w:=by
 have h2: ¬ len<=1:=b;simp[M5,asIntOf,Hf,a8 c,cG hi,h0,d]
theorem run_indexAt_slice {t e:A_} {a:TypeInfo} (p:A9) (k:B3) (i:Int) (len cap:Nat) (b:P.underlying t=some (.slice e)) (hi:P.info? e=some a) (h0:0<=i) (c:i<len) (w:A1):
 (M5 t (.slice (some p) len cap) (.int k i)).run P w= .ok (.pointer (some (p.add (i.toNat*a.size)))) w:=by
 simp[M5,asIntOf,Hf,a8 b,cG hi,h0,c]
theorem cR {α:Type} {p:Option α} (h:p.isSome=true): ∃a,p=some a:=Option.isSome_iff_exists.1 h
theorem ja (a: ∀x v,ρ x=some v->ev x=v) {d:Nat} {x:Operand} {n:Int} (h:e_ ρ d (some x)=some n): ∃k,ev x= .int k n:=by
 simp only[e_] at h;split at h
 ·rename_i k m b;cases h;exact⟨k,a _ _ b⟩
 ·cases h
theorem run_sliceBound (k:B3) (n:Int) (y:Nat) (c:BoundsCode) (h0:0<=n) (a:n<=y) (w:A1):(Qo (.int k n) y c).run P w= .ok n.toNat w:=by
 simp[Qo,asIntOf,h0,a]
theorem iF (b: ∀x v,ρ x=some v->ev x=v) {OQ:Bool} {len cap:Nat} {lo hi mx:Option Operand} {l h m:Int}
 (a:e_ ρ 0 lo=some l) (f:e_ ρ len hi=some h) (i:e_ ρ cap mx=some m) (s: ¬ (hi.isNone=true/\mx.isSome=true))
 (h0:0<=l) (t:l<=h) (h2:h<=m) (j:m<=cap) (w:A1):
 (Qs OQ len cap (lo.map ev) (hi.map ev) (mx.map ev)).run P w= .ok (l.toNat,h.toNat,m.toNat) w:=by
 unfold Qs;have a1:h<=((m.toNat:Nat):Int):=by omega
 have n:l<=((h.toNat:Nat):Int):=by omega
 have g:0<=h:=by omega
 have o:0<=m:=by omega
 cases mx with
 |none=>
  simp only[e_,Bo] at i;subst i;have p:h<=(cap:Int):=h2;cases hi with
  |none=>
   simp only[e_,Bo] at f;subst f;cases lo with
   |none=>simp only[e_,Bo] at a;subst a;simp
   |some x=>obtain⟨k,c⟩:=ja b a;simp[c,run_sliceBound k l len _ h0 t]
  |some y=>
   obtain⟨d,e⟩:=ja b f;cases lo with
   |none=>simp only[e_,Bo] at a;subst a;cases OQ<;>simp[e,run_sliceBound d h cap _ g p]
   |some x=>obtain⟨k,c⟩:=ja b a;cases OQ<;>simp[c,e,run_sliceBound d h cap _ g p,run_sliceBound k l h.toNat _ h0 n]
 |some z=>
  obtain⟨q,r⟩:=ja b i;cases hi with
  |none=>simp at s
  |some y=>
   obtain⟨d,e⟩:=ja b f;cases lo with
   |none=>simp only[e_,Bo] at a;subst a;cases OQ<;>simp[e,r,run_sliceBound q m cap _ o j,run_sliceBound d h m.toNat _ g a1]
   |some x=>obtain⟨k,c⟩:=ja b a;cases OQ<;>simp[c,e,r,run_sliceBound q m cap _ o j,run_sliceBound d h m.toNat _ g a1,run_sliceBound k l h.toNat _ h0 n]
theorem Jo {s:ByteArray} {i:Int} (h0:0<=i) (c:i<s.size):s[i.toNat]? =some (s.data[i.toNat]?.getD 0):=by
 have a:i.toNat<s.size:=by omega
 have:s[i.toNat]? =some s[i.toNat]:=by simp[getElem?_pos,a]
 rw[this];have b:i.toNat<s.data.size:=a;rw[L_ b];rfl
theorem run_places: ∀(l:List Field),(l.all λf=>(P.info? f.type).isSome)=true-> ∀w:A1,
 (l.mapM (m:=Sem) λf=>do pure (f.offset, <-sizeOf f.type)).run P w= .ok (l.map λf=>(f.offset,P.cellsOf f.type)) w
 |[], _,w=>by simp
 |f::l,h,w=>by
  simp only[Ic,BA] at h;obtain⟨i,hi⟩:=cR h.1;have a:P.cellsOf f.type=i.size:=by simp[Program.cellsOf,hi]
  have b:=run_places l h.2 w;simp only[Ih,AX,cG hi,B1,B2,b,HO,a]
theorem Jp {t:A_} {parts:Array (Nat×A2)} {ps:List (Nat×A2)} {cs:Array A2} (e:parts.toList=ps) (h:BB P t ps=some cs) (w:A1):
 (Instr.build t parts).run P w= .ok (.agg cs) w:=by
 unfold BB at h;split at h
 ·rename_i i hi;split at h
  ·rename_i z c;unfold Instr.build zeroValue;simp only[AX,eO hi,B1,c,B2];split at h
   ·rename_i a b;split at h
    ·rename_i d;have g:=run_places (P:=P) a.toList (by simpa using d) w;have j:(a.mapM (m:=Sem) λf=>do pure (f.offset, <-sizeOf f.type)).run P w= .ok (a.map λf=>(f.offset,P.cellsOf f.type)) w:=by
      rw[O3,MJ,g];obtain⟨o⟩:=a;simp
     have h':Hc ((a.map λf=>(f.offset,P.cellsOf f.type))[·]?) z.cells ps=some cs:=by
      rw[<-um h];congr 1;funext k;simp
     simp only[a8 b,B1,AX,j,e,h'];rfl
    ·cases h
   ·rename_i n el b;split at h
    ·rename_i p l;simp only[a8 b,B1,AX,cG l,e,um h];rfl
    ·cases h
   ·cases h
  ·cases h
 ·cases h
theorem Iz {o:Oper} {K:PR} (g: ∀x v,ρ x=some v->ev x=v) (hc: ∀v,ev (.const v)=v) (h:pop P ρ o=some K) (u: ∀p,K.ob=some p->p) (w:A1):
 (execOp ev o).run P w= .ok (.value K.v) w:=by
 obtain⟨dst,op,type,pos,after,guard⟩:=o;unfold pop at h;cases op<;>simp only at h<;>(try (cases h;done))<;>unfold execOp<;>simp only
 case move x=>
  split at h
  ·rename_i v hv;cases h;simp[g _ _ hv]
  ·cases h
 case assign x=>
  split at h
  ·rename_i v hv;cases h;simp[g _ _ hv]
  ·cases h
 case build t parts=>
  split at h
  ·rename_i ps X;split at h
   ·rename_i cs gQ;cases h;have e:=uo g X;have Y:(parts.map λ(i,x)=>(i,ev x)).toList=ps:=by rw[<-e];simp
    simp[Jp Y gQ]
   ·cases h
  ·cases h
 case nilCheck x=>
  split at h
  ·rename_i p hv;cases h;obtain⟨a,rfl⟩:=cR (u _ rfl);simp[g _ _ hv]
  ·rename_i f L cs hv;cases h;simp[g _ _ hv]
  ·cases h
 case binOp op t x y yt=>
  split at h
  ·rename_i a b z hb;have Z:=MK (P:=P) (λv hv=>by rw[<-g _ _ hb,hv,hc]) (λv hv=>by rw[<-g _ _ z,hv,hc]) h u w;simp only[g _ _ z,g _ _ hb];rw[AX,Z];rfl
  ·cases h
 case unOp op t x=>
  split at h
  ·rename_i a z;simp only[g _ _ z];unfold Yi at h;split at h<;>(try cases h)<;>simp[Op.unary,Op.intArith,Op.intBits,bK,TC]
  ·cases h
 case convert s d x=>
  split at h
  ·rename_i a z;simp only[g _ _ z];unfold O7 at h;split at h
   ·rename_i ds k k' n r h2;cases h;cases ds<;>simp[convert,a8 r,a8 h2,Conv.intToInt,aD]
   ·rename_i h2 E;cases h;simp[convert,a8 h2,a8 E]
   ·cases h
  ·cases h
 case makeFunc fn first V=>
  split at h
  ·rename_i a b z hb;cases h;have M:=jO g z;have e2:=jO g hb;have Zv:first.map ev=⟨a⟩:=by rw[<-M];cases first;simp
   have Zw:V.map ev=⟨b⟩:=by rw[<-e2];cases V;simp
   simp[Instr.makeFunc,Zv,Zw]
  ·cases h
 case slice t x lo hi mx=>
  split at h
  ·rename_i e p len cap q j;split at h
   ·rename_i D l W m N C F O;split at h
    ·cases h
    ·rename_i H;cases h;obtain⟨h0,r,h2,E⟩:=u _ rfl;have Q: ¬ (hi.isNone=true/\mx.isSome=true):=by simpa using H
     have hb:=iF (P:=P) (OQ:=true) g C F O Q h0 r h2 E w;simp only[g _ _ j];simp[P4,a8 q,Instr.slice,hb,cG N,ae]
   ·cases h
  ·rename_i s q j;split at h
   ·rename_i l W C F;split at h
    ·cases h
    ·rename_i H;cases h;obtain⟨h0,r,h2⟩:=u _ rfl;have Yl:mx=none:=by cases mx<;>simp_all
     subst Yl;have hb:=iF (P:=P) (OQ:=false) (cap:=s.size) (mx:=none) g C F rfl (by simp) h0 r h2 (by simp) w;simp only[Rg] at hb;simp only[g _ _ j];simp[P4,a8 q,Instr.slice,hb]
   ·cases h
  ·rename_i n e p q j;split at h
   ·rename_i D l W m N C F O;split at h
    ·cases h
    ·rename_i H;cases h;obtain⟨A,h0,r,h2,E⟩:=u _ rfl;obtain⟨a,rfl⟩:=cR A;have Q: ¬ (hi.isNone=true/\mx.isSome=true):=by simpa using H
     have hb:=iF (P:=P) (OQ:=false) g C F O Q h0 r h2 E w;simp only[g _ _ j];simp[P4,a8 q,hb,cG N,ae,Hf];split<;>rfl
   ·cases h
  ·cases h
 case fieldAddr s x f=>
  split at h
  ·rename_i p fd j R;split at h
   ·rename_i i hi;split at h
    ·cases h
    ·rename_i hz;cases h;obtain⟨a,rfl⟩:=cR (u _ rfl);obtain⟨L,q,S⟩:=rO R;simp[Instr.fieldAt,a8 q,S,g _ _ j,Hf,fieldPlace,cG hi,hz,ae]
   ·cases h
  ·cases h
 case field t x f=>
  split at h
  ·rename_i cs fd j R;split at h
   ·rename_i v hv;cases h;obtain⟨L,q,S⟩:=rO R;simp[Instr.field,a8 q,S,g _ _ j,asAgg,i_ hv]
   ·cases h
  ·cases h
 case indexAddr t x ix=>
  split at h
  ·rename_i len e p k i q j B;split at h
   ·rename_i D hi;split at h
    ·cases h
    ·rename_i C;cases h;obtain⟨A,h0,r⟩:=u _ rfl;obtain⟨a,rfl⟩:=cR A;simp[g _ _ j,g _ _ B,AI a k i len C q hi h0 r,ae]
   ·cases h
  ·rename_i e p len cap k i q j B;split at h
   ·rename_i D hi;cases h;obtain⟨A,h0,r⟩:=u _ rfl;obtain⟨a,rfl⟩:=cR A;simp[g _ _ j,g _ _ B,run_indexAt_slice a k i len cap q hi h0 r,ae]
   ·cases h
  ·cases h
 case index t x ix=>
  split at h
  ·rename_i len e cs k i q j B;split at h
   ·rename_i D hi;split at h
    ·rename_i k2 n;have hn:(Value.int k2 n)= .int k i:=by rw[<-g _ _ B,hc]
     cases hn;split at h
     ·rename_i hb;split at h
      ·rename_i v hv;cases h;simp[MD,asIntOf,a8 q,g _ _ j,hc,hb.1,hb.2,cG hi,i_ hv]
      ·cases h
     ·cases h
    ·split at h
     ·rename_i k3 T;split at h
      ·rename_i ns VX;split at h
       ·rename_i I;cases h;obtain⟨h0,r⟩:=u _ rfl;have J:i.toNat<cs.length:=by omega
        have gX:=uT VX i.toNat J;have A:nA P e cs (i.toNat*D.size)=some (.int k3 (Bf ns i)):=by
         rw[I.2,Nat.mul_one];unfold nA;have:iz P e=some false:=by unfold iz;simp[T]
         simp[this,gX,Bf]
        simp[MD,asIntOf,a8 q,g _ _ j,g _ _ B,h0,r,cG hi,i_ A]
       ·cases h
      ·cases h
     ·rename_i L T;split at h
      ·rename_i I;cases h;obtain⟨h0,r⟩:=u _ rfl;have J:i.toNat<cs.length:=by omega
       have A:nA P e cs (i.toNat*D.size)=some (.agg ⟨[Qn cs i]⟩):=by
        rw[I.2,Nat.mul_one];unfold nA;have:iz P e=some true:=by unfold iz;simp[T]
        simp only[this,hi,I.2,Qn];have M:List.take 1 (List.drop i.toNat cs)=[cs.getD i.toNat undef]:=by
         rw[List.drop_eq_getElem_cons J,List.getD_eq_getElem?_getD,Ht J];rfl
        rw[M]
       simp[MD,asIntOf,a8 q,g _ _ j,g _ _ B,h0,r,cG hi,i_ A]
      ·cases h
     ·cases h
   ·cases h
  ·rename_i s k i q j B;cases h;obtain⟨h0,r⟩:=u _ rfl;have hg:=Jo h0 r;simp[MD,asIntOf,a8 q,g _ _ j,g _ _ B,h0,hg,zC]
  ·cases h
 case extract x i=>
  split at h
  ·rename_i vs j;split at h
   ·rename_i v hv;cases h;simp[g _ _ j,MH,hv]
   ·cases h
  ·cases h
 case call c=>
  obtain⟨callee,args,argTypes⟩:=c;simp only at h;split at h
  ·
   split at h
   ·rename_i x t z ht;have G:args= #[x]:=by cases args;simp_all
    have et:argTypes= #[t]:=by cases argTypes;simp_all
    subst G et;split at h<;>(try cases h)
    ·rename_i j q;simp[resolve,invoke,builtin,I_,g _ _ j,a8 q,goInt]
    ·rename_i j q;simp[resolve,invoke,builtin,I_,g _ _ j,a8 q,goInt]
    ·rename_i j q;simp[resolve,invoke,builtin,I_,g _ _ j,a8 q,goInt]
   ·cases h
  ·
   split at h
   ·rename_i x y z;have G:args= #[x,y]:=by cases args;simp_all
    subst G;split at h<;>(try cases h);rename_i j U;simp[resolve,invoke,builtin,Builtin.min_,Builtin.min2,g _ _ j,g _ _ U,iO]
   ·cases h
  ·split at h
   ·rename_i x y z;have G:args= #[x,y]:=by cases args;simp_all
    subst G;split at h<;>(try cases h);rename_i j U;simp[resolve,invoke,builtin,Builtin.max_,Builtin.max2,g _ _ j,g _ _ U,zl]
   ·cases h
  ·cases h
end
structure bC where
 t:Nat
 ch:List (Nat×Bool)
 g:Option Bool
 v:A2
 k:Option Bool
def bz:List bC->Nat->Option bC
 |[], _=>none
 |e::r,t=>if e.t=t then some e else bz r t
structure Entry (P:AC) where
 f:B5
 fn:List A2->Option (Prop×A2)
 ok: ∀args pre v,fn args=some (pre,v)->pre-> ∀w,Calls P f ⟨args⟩ w (λe w'=>e= .returned v/\Ext w w')
structure dn (P:AC) where
 oG:List (Entry P)
 quiet:List B5
 sh:List (B5×Sh)
 mixed:P.follows .mixedOrders=true
 rz:Bool:=false
 cl:List (A_×Sc):=[]
 So:Option Sh:=none
def IA:List (B5×Sh)->B5->Option Sh
 |[], _=>none
 |(g,s)::r,f=>if g=f then some s else IA r f
def qt {P:AC} (C:dn P) (f:B5):Sh:=
 match IA C.sh f with
 |some s=>s
 |none=>Ub P f
def IB:List (A_×Sc)->A_->Option Sc
 |[], _=>none
 |(g,s)::r,t=>if g=t then some s else IB r t
def Vf {P:AC} (C:dn P) (t:A_):Option El:=
 match qw P t with
 |some (.one .func)=>match IB C.cl t with
  |some s=>some (.one s)
  |none=>some (.one .func)
 |e=>e
def o7 {P:AC}:List (Entry P)->B5->Option (Entry P)
 |[], _=>none
 |e::r,f=>if e.f=f then some e else o7 r f
def dg (first:Array A2) (a:List A2) (cap:Array A2):List A2:=first.toList++(a++cap.toList)
def bA (P:AC) (a:B5):Bool:=
 match P.funcs[a]? with
 |some fn=>fn.body.isSome&& !(fn.name== "runtime.NumGoroutine")
 |none=>false
def ag (P:AC) (f:B5) (args:List A2) (w:A1) (v:A2):Prop:=
 ∀w',Ext w w'->Calls P f ⟨args⟩ w' (λe a=>e= .returned v/\Ext w' a)
def ar (P:AC) (f:B5) (s:Sh) (args:List A2) (w:A1) (R:s.T->A1->Prop):Prop:=
 Calls P f ⟨args⟩ w (λe w'=> ∃x:s.T,e= .returned (s.gj x)/\R x w')
theorem ar.mono {P:AC} {f:B5} {s:Sh} {args:List A2} {w:A1} {R a:s.T->A1->Prop} (h:ar P f s args w R) (k: ∀x w',R x w'->a x w'):ar P f s args w a:=
 Hq h λ_ w' ⟨x,b,c⟩=>⟨x,b,k x w' c⟩
def cU (_:Nat) (_:Op):Prop:=False
def cI (w:A1) (p:Option A9):(e:El)->e.T->Prop
 | .one s,x=> ∃a,p=some a/\w.cell? a=some (s.gj x)
 | .agg l,x=> ∃a,p=some a/\ ∀i,i<l.length->w.cell? (a.add i)=(aZ l x)[i]?
def k7:El->Nat->Bool
 | .one _, _=>false
 | .agg l,n=>l.length != n
def xD (w:A1) (p:Option A9) (n:Nat) (b:List A2):Prop:=
 match p with
 |none=>b=[]
 |some a=>b.length=n/\ ∀i,i<n->w.cell? (a.add i)=b[i]?
def Mu (w:A1) (p:Option A9) (n:Nat):Prop:=
 ∃a,p=some a/\ ∀i,i<n->(w.cell? (a.add i)).isSome=true/\w.frozen? (a.add i)=false
def putAt (w:A1) (a:A9):List A2->Nat->A1
 |[], _=>w
 |v::r,i=>putAt (w.setCell (a.add i) v) a r (i+1)
def fo (w:A1) (p:Option A9) (b:List A2):A1:=
 match p with
 |some a=>putAt w a b 0
 |none=>w
def vp (w:A1) (e:A_) (size bytes:Nat) (z:Array A2) (s x:Option A9×Nat×Nat) (R:Option A9×Nat×Nat->A1->Prop):Prop:=
 ∃gm new,xD w s.1 (s.2.1*size) gm/\xD w x.1 (x.2.1*size) new/\
  (s.2.1+x.2.1<=s.2.2->(new=[]\/(Mu w (s.1.map (·.add (s.2.1*size))) new.length/\new.all (·.oneCell')=true))/\
   R (s.1,s.2.1+x.2.1,s.2.2) (fo w (s.1.map (·.add (s.2.1*size))) new))/\
  (s.2.2<s.2.1+x.2.1->S5 (s.2.1+x.2.1) s.2.2*bytes<=2 ^ 48/\
   ∀c,s.2.1+x.2.1<=c->R (some ⟨w.heap.size,0,none⟩,s.2.1+x.2.1,c) (w.drew.alloc (.cells (⟨gm⟩++⟨new⟩++IG z (c - (s.2.1+x.2.1))) e)))
def VY (w:A1) (size:Nat) (d x:Option A9×Nat) (R:Int->A1->Prop):Prop:=
 ∃new,xD w x.1 (Nat.min x.2 d.2*size) new/\(d.1=none\/new=[]\/(Mu w d.1 new.length/\new.all (·.oneCell')=true))/\R (Nat.min x.2 d.2:Nat) (fo w d.1 new)
def jZ (P:AC) (l:Nat) (args:List A2) (w:A1) (R:Bool->A1->Prop):Prop:=
 ∃rec,w.heap[l]? =some (.loop rec)/\args.length=rec.params.size/\
  RoundIn Eo 0 P l rec.fn ((rec.params.zip ⟨args⟩).foldl (λtmps (t,a)=>tmps.setIfInBounds t a) rec.tmps) rec.assign rec.body w
   (λe w'=> ∃b,e= .returned (.bool b)/\R b w')
def d_ (g:Option Bool) (p:Prop):Prop:=
 match g with
 |none=>p
 |some b=>b=true->p
@[reducible] def aj (w:A1) (g:Option Bool) (p:Option A9) (el:El) (K:el.T->Prop):Prop:= ∃x:el.T,d_ g (cI w p el x)/\K x
@[reducible] def aw (w:A1) (p:Option A9) (a:List A2) (K:A1->Prop):Prop:= ∀w1,Ext w w1->(a.all (·.oneCell')=true/\Mu w1 p a.length)/\K (fo w1 p a)
@[reducible] def aA (w:A1) (cs:Array A2) (e:A_) (K:Nat->A1->Prop):Prop:= ∀w1,Ext w w1->K w1.heap.size (w1.alloc (.cells cs e))
def aB (P:AC) (f:B5) (s:Sh) (args:List A2) (w:A1) (K:s.T->A1->Prop):Prop:= ∀w1,Ext w w1->ar P f s args w1 K
def TD (bytes:Nat) (n m:Int):Prop:=0<=n/\n<=m/\m<2 ^ 63/\bytes*m<=2 ^ 48
def k8 (z:Array A2) (n:Nat):Array A2:=(OS n).map ((if n=0 then #[] else z)[· % (if n=0 then #[] else z).size]!)
def A7 (P:AC) (v:A2) (s:Sh) (b:List A2) (w:A1) (K:s.T->A1->Prop):Prop:=
 ∀w1,Ext w w1-> ∃a first cap,v= .func (.func a) first cap/\bA P a=true/\ar P a s (dg first b cap) w1 K
def Hp (w:A1) (bytes size:Nat) (n m:Int) (z:Array A2) (e:A_) (K:Nat->A1->Prop):Prop:= ∀w1,Ext w w1->TD bytes n m/\K w1.heap.size (w1.alloc (.cells (k8 z (m.toNat*size)) e))
@[reducible] def ak (w:A1) (K:A1->Prop):Prop:= ∀w1,Ext w w1->K w1
def Qq (a b:List (Nat×Bool)):Bool:=a.all λx=>b.contains x
def sq (env:List bC) (ch:List (Nat×Bool)):Operand->Option A2
 | .tmp t=>match bz env t with
   |some ⟨_,c, _,v, _⟩=>if Qq c ch then some v else none
   |none=>none
 | .const v=>some v
 | .global g=>some (.pointer (some ⟨g,0,none⟩))
 | .func f=>some (.func (.func f) #[] #[])
def cO (ops:Array Oper) (j:Nat):Option Nat:=(ops[j]?).bind (·.dst)
def lit:Bool->Bool->Bool
 |true,x=>x
 |false,x=> !x
def Xx (b:Bool):Option Bool->Option Bool
 |none=>some b
 |some g=>some (g&&b)
def gd (ops:Array Oper) (env:List bC) (o:Oper):Option (Option (List (Nat×Bool)×Option Bool)):=
 match o.guard with
 |none=>some (some ([],none))
 |some (j,b)=>match cO ops j with
  |some d=>match bz env d with
   |some e=>match e.k with
    |some a=>if a=b then some (some ([],none)) else some none
    |none=>match e.v with
     | .bool x=>some (some ((j,b)::e.ch,Xx (lit b x) e.g))
     | _=>none
   |none=>none
  |none=>none
def settle (j:Nat) (b:Bool) (e:bC):bC:=
 if e.ch.contains (j, !b) then⟨e.t,[],none,undef,none⟩
 else if e.ch.contains (j,b) then
  match e.ch.filter (λx=>x != (j,b)) with
  |[]=>⟨e.t,[],none,e.v,none⟩
  |c::r=>⟨e.t,c::r,e.g,e.v,none⟩
 else e
def l9 (ops:Array Oper) (N:Nat) (env:List bC) (ch:List (Nat×Bool)):Option Nat->Bool
 |none=>true
 |some d=>decide (d<N)&&ch.all (λx=>cO ops x.1 != some d)&&env.all λe=>e.ch.all λx=>cO ops x.1 != some d
def jV (env:List bC) (d:Option Nat) (ch:List (Nat×Bool)) (g:Option Bool) (v:A2):List bC:=
 match d with
 |some d=>⟨d,ch,g,v,none⟩::env
 |none=>env
def sy (env:List bC) (d:Option Nat) (ch:List (Nat×Bool)) (g:Option Bool) (v:A2) (K:List bC->Prop):Prop:=
 match d with
 |some d=>K (⟨d,ch,g,v,none⟩::env)
 |none=>K env
theorem k9 {env:List bC} {d:Option Nat} {ch:List (Nat×Bool)} {g:Option Bool} {v:A2} {K:List bC->Prop}:sy env d ch g v K=K (jV env d ch g v):=by cases d<;>rfl
def gZ:List bC->(List bC->Prop)->Prop
 |[],K=>K []
 |⟨t,ch,g,v,k⟩::r,K=>gZ r (λr=>K (⟨t,ch,g,v,k⟩::r))
theorem g8: ∀{l:List bC} {K:List bC->Prop},gZ l K=K l
 |[], _=>rfl
 |⟨_, _, _, _, _⟩::r,K=>by simp only[gZ];exact g8
def ML (ops:Array Oper) (t:Nat):Option Nat:=(Bb ops.size).find? λj=>cO ops j==some t
def bE (w:A1) (r:Nat) (es:Array Do) (a:Nat):Prop:=w.heap[r]? =some (.map es a)
def jg (w:A1) (p:Option Nat) (k:B3) (n:Int) (z v:A2):Prop:=
 ∃r es a,p=some r/\bE w r es a/\match H6 (.int k) (.int k n) es.toList 0 with
  |some none=>v=z
  |some (some (_,u))=>v=u
  |none=>False
def kV (w:A1) (p:Option Nat) (k:B3) (n:Int) (z v:A2) (b:Bool):Prop:=
 ∃r es a,p=some r/\bE w r es a/\match H6 (.int k) (.int k n) es.toList 0 with
  |some none=>v=z/\b=false
  |some (some (_,u))=>v=u/\b=true
  |none=>False
def gz (w:A1) (r:Nat) (k:B3) (n:Int) (val:A2) (es:Array Do) (a:Nat) (K:A1->Prop):Prop:=
 match H6 (.int k) (.int k n) es.toList 0 with
 |some none=>K (w.putObj r (.map (es.push {key:= .int k n,val,born:=a}) (a+1)))
 |some (some (i, _))=>K (w.putObj r (.map (es.modify i λe=>{e with key:= .int k n,val}) a))
 |none=>False
def HF (w:A1) (r:Nat) (k:B3) (n:Int) (es:Array Do) (a:Nat) (K:A1->Prop):Prop:=
 match H6 (.int k) (.int k n) es.toList 0 with
 |some none=>K (w.putObj r (.map es a))
 |some (some (i, _))=>K (w.putObj r (.map (es.eraseIdxIfInBounds i) a))
 |none=>False
def VZ (w:A1) (p:Option Nat) (K:Nat->A1->Prop):Prop:= ∀w1,Ext w w1-> ∃r es a,p=some r/\bE w1 r es a/\K w1.heap.size (w1.alloc (.mapIter (some r) a #[] a))
def V3 (w:A1) (p:Option A9) (K0:A1->Prop) (f:A2->A2->A1->Prop):Prop:= ∀w1,Ext w w1-> ∃(r m b:Nat) (seen:Array Nat) (c:Nat) (es:Array Do) (d:Nat),p=some ⟨r,0,none⟩/\w1.heap[r]? =some (.mapIter (some m) b seen c)/\bE w1 m es d/\b<=c/\(∀e∈es.toList,e.born<b)/\
 ((∀e∈es.toList,seen.contains e.born=true)-> ∀a,Ext w1 a->K0 a)/\
 ∀e∈es.toList,seen.contains e.born=false-> ∀a,Ext w1 a->f e.key e.val (a.putObj r (.mapIter (some m) b (seen.push e.born) d))
def zm (w:A1) (p:Option A9) (k v:A2):Prop:= ∃(r m b:Nat) (seen:Array Nat) (es:Array Do) (a:Nat) (e:Do),p=some ⟨r,0,none⟩/\w.heap[r]? =some (.mapIter (some m) b (seen.push e.born) a)/\bE w m es a/\e∈es.toList/\(es.toList.map (·.born)).Nodup/\k=e.key/\v=e.val
def Mv (w:A1) (p:Option Nat) (n:Nat):Prop:= ∃r es a,p=some r/\bE w r es a/\n=es.size
def V4 (w:A1) (r cap:Nat) (a:List A2) (s n:Nat):Prop:=w.heap[r]? =some (.chan cap ⟨a⟩ false s n false)
def V5 (w:A1) (p:Option Nat) (n:Nat):Prop:= ∃r cap a s m,p=some r/\V4 w r cap a s m/\n=a.length
def Sp (w:A1) (p q:Option A9):Prop:= ∀a b,p=some a->q=some b->a≠b->(∃c t,w.heap[a.block]? =some (.cells c t (0,0)))/\ ∃c t,w.heap[b.block]? =some (.cells c t (0,0))
def sX (P:AC) (ρ:Operand->Option A2) (c:Call):Option (Option Nat):=match c.args.toList,c.argTypes.toList with
 |[x],[t]=>match P.underlying t,ρ x with
  |some (.chan _ _),some (.chan p)=>some p
  | _, _=>none
 | _, _=>none
def yf (P:AC) (ρ:Operand->Option A2):Op->Option (Option A9×Option A9)
 | .binOp .eql t x y _=>match P.underlying t,ρ x,ρ y with
   |some (.pointer e),some (.pointer p),some (.pointer q)=>match P.info? e with
    |some i=>if i.size=0 then none else some (p,q)
    |none=>none
   | _, _, _=>none
 | _=>none
def sB (w:A1) (p:Option A9) (n:Nat) (s:ByteArray):Prop:= ∃xs:List Int,xs.length=n/\s=xs.foldl (λr x=>r.push (UInt8.ofNat x.toNat)) ByteArray.empty/\(∃a,p=some a)/\ ∀i x,xs[i]? =some x->cI w (ae p i) (.one (.int .u8)) x
def yg (P:AC) (ρ:Operand->Option A2):Op->Option (Option A9×Nat)
 | .convert s d x=>match P.underlying s,P.underlying d,ρ x with
   |some (.slice e),some .string,some (.slice p n _)=>match P.underlying e with
    |some (.int .u8)=>some (p,n)
    | _=>none
   | _, _, _=>none
 | _=>none
def Ym (w:A1) (p:Option A9) (K0:A1->Prop) (a:Nat->Nat->A1->Prop):Prop:= ∀w1,Ext w w1-> ∃(r:Nat) (s:ByteArray) (pos:Nat),p=some ⟨r,0,none⟩/\w1.heap[r]? =some (.stringIter s pos)/\
 (¬ pos<s.size->K0 w1)/\(pos<s.size->a pos (Hr s pos).1 (w1.putObj r (.stringIter s (pos+(Hr s pos).2))))
def O8 (P:AC) (ops:Array Oper) (d i:Nat):Option El:=match ops.toList.find? λo=>match o.op with
 | .extract (.tmp t) j=>t==d&&j==i
 | _=>false with
 |some o=>qw P o.type
 |none=>none
def yh (P:AC) (ρ:Operand->Option A2) (c:Call):Option (Option Nat):=match c.args.toList,c.argTypes.toList with
 |[x],[t]=>match P.underlying t,ρ x with
  |some (.map _ _),some (.map p)=>some p
  | _, _=>none
 | _, _=>none
def kP {P:AC} (C:dn P) (ops:Array Oper) (env:List bC) (ch:List (Nat×Bool)) (g:Option Bool) (o:Oper) (w:A1) (K:A2->Prop):Prop:=
 let ρ:=sq env ch
 match o.op with
 | .load t x=>match ρ x,Vf C t,P.info? t with
   |some (.pointer p),some el,some i=>if k7 el i.size=true then cU 1 o.op else aj w g p el (λx=>K (el.gj x))
   | _, _, _=>cU 2 o.op
 | .lookup E m ix ok=>match ok,P.underlying E,ρ m,ρ ix with
   |false,some (.map A r),some (.map p),some (.int k n)=>match P.underlying A,qw P r,P.info? r with
    |some (.int B),some el,some i=>match i.zero with
     |some z=>if k=B then∃x:el.T,d_ g (jg w p k n z (el.gj x))/\K (el.gj x) else cU 51 o.op
     |none=>cU 52 o.op
    | _, _, _=>cU 53 o.op
   |true,some (.map A r),some (.map p),some (.int k n)=>match P.underlying A,qw P r,P.info? r with
    |some (.int B),some el,some i=>match i.zero with
     |some z=>if k=B then∃x:el.T, ∃b:Bool,d_ g (kV w p k n z (el.gj x) b)/\K (.tuple ⟨[el.gj x,.bool b]⟩) else cU 51 o.op
     |none=>cU 52 o.op
    | _, _, _=>cU 53 o.op
   | _, _, _, _=>cU 54 o.op
 | .pick c x y=>match c with
   | .tmp t=>match bz env t with
     |some F=>match F.k with
      |some true=>match ρ x with
       |some v=>K v
       |none=>cU 31 o.op
      |some false=>match ρ y with
       |some v=>K v
       |none=>cU 32 o.op
      |none=>match ML ops t with
       |some j=>match ρ c,sq env ((j,true)::ch) x,sq env ((j,false)::ch) y with
        |some (.bool b),some (.bool u),some (.bool v)=>match x,y with
         | _,.const (.bool false)=>K (.bool (b&&u))
         | .const (.bool true), _=>K (.bool (b||v))
         | _, _=>K (.bool (bif b then u else v))
        | _, _, _=>cU 3 o.op
       |none=>cU 4 o.op
     |none=>cU 33 o.op
   | _=>cU 5 o.op
 | .entry G=>match ρ G,o.dst with
   |some (.pointer p),some d=>match O8 P ops d 0,O8 P ops d 1 with
    |some a,none=> ∃x:a.T, ∃v:A2,d_ g (zm w p (a.gj x) v)/\K (.tuple ⟨[a.gj x,v]⟩)
    |some a,some h=> ∃x:a.T, ∃y:h.T,d_ g (zm w p (a.gj x) (h.gj y))/\K (.tuple ⟨[a.gj x,h.gj y]⟩)
    |none,some h=> ∃v:A2, ∃y:h.T,d_ g (zm w p v (h.gj y))/\K (.tuple ⟨[v,h.gj y]⟩)
    |none,none=>cU 71 o.op
   | _, _=>cU 72 o.op
 | .call c=>match c.callee with
   | .builtin .len=>match yh P ρ c with
     |some p=> ∃n:Nat,d_ g (Mv w p n)/\K (.int .i64 n)
     |none=>match sX P ρ c with
      |some p=> ∃n:Nat,d_ g (V5 w p n)/\K (.int .i64 n)
      |none=>match pop P ρ o with
       |some ⟨none,v⟩=>K v
       |some ⟨some p,v⟩=>d_ g p/\K v
       |none=>cU 9 o.op
   | .value f=>match ρ f,maps ρ c.args.toList with
     |some (.func (.func l) first cap),some D=>
      if bA P l=true then
       match o7 C.oG l with
       |some e=>match e.fn (dg first D cap) with
        |some (pre,v)=>d_ g pre/\K v
        |none=>cU 6 o.op
       |none=> ∃x:(qt C l).T,d_ g (ag P l (dg first D cap) w ((qt C l).gj x))/\K ((qt C l).gj x)
      else cU 7 o.op
     | _, _=>cU 8 o.op
   | _=>match pop P ρ o with
     |some ⟨none,v⟩=>K v
     |some ⟨some p,v⟩=>d_ g p/\K v
     |none=>cU 9 o.op
 | .binOp .. =>match pop P ρ o with
   |some ⟨none,v⟩=>K v
   |some ⟨some p,v⟩=>d_ g p/\K v
   |none=>match yf P ρ o.op with
    |some (p,q)=>d_ g (Sp w p q)/\K (.bool (decide (p=q)))
    |none=>cU 10 o.op
 | .convert .. =>match pop P ρ o with
   |some ⟨none,v⟩=>K v
   |some ⟨some p,v⟩=>d_ g p/\K v
   |none=>match yg P ρ o.op with
    |some (p,n)=> ∃s:ByteArray,d_ g (sB w p n s)/\K (.string s)
    |none=>cU 10 o.op
 | _=>match pop P ρ o with
   |some ⟨none,v⟩=>K v
   |some ⟨some p,v⟩=>d_ g p/\K v
   |none=>cU 10 o.op
def Qr (P:AC) (e:A_):Array A2:=match P.info? e with
 |some i=>match i.zero with
  |some z=>z.cells
  |none=> #[]
 |none=> #[]
def qE (v:A2):List A2:=v.cells.toList
def zX (a:List A2):Bool:=a.all (·.oneCell')
def V6 {P:AC} (C:dn P) (ρ:Operand->Option A2) (o:Oper) (w:A1) (K:A2->A1->Prop):Prop:=
 match o.op with
 | .store t x y=>match ρ x,ρ y,P.info? t with
   |some (.pointer p),some v,some i=>if(qE v).length=i.size then
     aw w p (qE v) (λa=>K undef a)
    else cU 11 o.op
   | _, _, _=>cU 12 o.op
 | .alloc e=>match P.info? e with
   |some i=>match i.zero with
    |some z=>match Hb 64 i.size with
     |true=>aA w (Qr P e) e (λb a=>K (.pointer (some ⟨b,0,none⟩)) a)
     |false=>aA w z.cells e (λb a=>K (.pointer (some ⟨b,0,none⟩)) a)
    |none=>cU 13 o.op
   |none=>cU 14 o.op
 | .box e x=>match ρ x with
   |some v=>aA w v.cells e (λb a=>K (.pointer (some ⟨b,0,none⟩)) a)
   |none=>cU 15 o.op
 | .buildSlice t len parts=>match P.underlying t,wh ρ parts.toList with
   |some (.slice e),some ps=>match P.info? e with
    |some i=>match i.zero with
     |some z=>match wi (λk=>some (k*i.size,i.size)) ⟨(Bb (len*i.size)).map (z.cells.toList[· % z.cells.toList.length]!)⟩ ps with
      |some cs=>if len*i.size<=2 ^ 24 then aA w cs e (λb a=>K (.slice (some ⟨b,0,none⟩) len len) a) else cU 101 o.op
      |none=>cU 102 o.op
     |none=>cU 103 o.op
    |none=>cU 104 o.op
   | _, _=>cU 105 o.op
 | .makeSlice t l c=>match P.underlying t,ρ l,ρ c with
   |some (.slice e),some (.int _ n),some (.int _ m)=>match P.info? e with
    |some i=>match i.zero with
     |some z=>Hp w i.bytes i.size n m z.cells e (λb a=>K (.slice (some ⟨b,0,none⟩) n.toNat m.toNat) a)
     |none=>cU 106 o.op
    |none=>cU 107 o.op
   | _, _, _=>cU 108 o.op
 | .mapUpdate t m x v=>match P.underlying t,ρ m,ρ x,ρ v with
   |some (.map g _),some (.map p),some (.int k n),some val=>match P.underlying g with
    |some (.int h)=>if k=h then∀w1,Ext w w1-> ∃r es d,p=some r/\bE w1 r es d/\gz w1 r k n val es d (λa=>K undef a) else cU 55 o.op
    | _=>cU 56 o.op
   | _, _, _, _=>cU 57 o.op
 | .insert t m x v=>match P.underlying t,ρ m,ρ x,ρ v with
   |some (.map g _),some (.map p),some (.int k n),some val=>match P.underlying g with
    |some (.int h)=>if k=h then∀w1,Ext w w1-> ∃r es d,p=some r/\bE w1 r es d/\gz w1 r k n val es d (λa=>K undef a) else cU 55 o.op
    | _=>cU 56 o.op
   | _, _, _, _=>cU 57 o.op
 | .makeMap _ r=>match r with
   |none=> ∀w1,Ext w w1->K (.map (some w1.heap.size)) (w1.alloc (.map #[] 0))
   |some _=>cU 109 o.op
 | .makeChan t s=>match P.underlying t,ρ s with
   |some (.chan _ e),some (.int _ n)=>match P.info? e with
    |some i=>if 0<=n/\n<=2 ^ 32/\i.bytes*n<=2 ^ 47 then∀w1,Ext w w1->K (.chan (some w1.heap.size)) (w1.alloc (.chan n.toNat #[] false 0 0 false)) else cU 118 o.op
    |none=>cU 119 o.op
   | _, _=>cU 120 o.op
 | .range B x=>match P.underlying B,ρ x with
   |some (.map _ _),some (.map p)=>VZ w p (λb a=>K (.pointer (some ⟨b,0,none⟩)) a)
   |some .string,some (.string s)=> ∀w1,Ext w w1->K (.pointer (some ⟨w1.heap.size,0,none⟩)) (w1.alloc (.stringIter s 0))
   | _, _=>cU 73 o.op
 | .next D b=>match b,ρ D with
   |false,some (.pointer p)=>V3 w p (λa=>K (.tuple ⟨[.bool false]⟩) a) (λk v a=>K (.tuple ⟨[.bool true,k,v]⟩) a)
   |true,some (.pointer p)=>Ym w p (λa=>K (.tuple ⟨[.bool false]⟩) a) (λi c a=>K (.tuple ⟨[.bool true,.int .i64 i,.int .i32 c]⟩) a)
   | _, _=>cU 74 o.op
 | .call c=>match c.callee with
   | .builtin .delete=>match c.args.toList,c.argTypes.toList with
     |[m,x],[t, _]=>match P.underlying t,ρ m,ρ x with
      |some (.map g _),some (.map p),some (.int k n)=>match P.underlying g with
       |some (.int h)=>if k=h then∀w1,Ext w w1-> ∃r es d,p=some r/\bE w1 r es d/\HF w1 r k n es d (λa=>K (.tuple ⟨[]⟩) a) else cU 75 o.op
       | _=>cU 76 o.op
      | _, _, _=>cU 77 o.op
     | _, _=>cU 78 o.op
   | .builtin .append=>match c.args.toList,c.argTypes.toList with
     |[s,x],[t,u]=>match P.underlying t,P.underlying u,ρ s,ρ x with
      |some (.slice e),some (.slice _),some (.slice p n m),some (.slice q k l)=>match P.info? e with
       |some i=>match i.zero with
        |some z=>if i.bytes=0 then cU 110 o.op else∀w1,Ext w w1->vp w1 e i.size i.bytes z.cells (p,n,m) (q,k,l) (λr a=>K (.slice r.1 r.2.1 r.2.2) a)
        |none=>cU 111 o.op
       |none=>cU 112 o.op
      | _, _, _, _=>cU 113 o.op
     | _, _=>cU 114 o.op
   | .builtin .copy=>match c.args.toList,c.argTypes.toList with
     |[s,x],[t, _]=>match P.underlying t,ρ s,ρ x with
      |some (.slice e),some (.slice p n _),some (.slice q k _)=>match P.info? e with
       |some i=> ∀w1,Ext w w1->VY w1 i.size (p,n) (q,k) (λr a=>K (.int .i64 r) a)
       |none=>cU 115 o.op
      | _, _, _=>cU 116 o.op
     | _, _=>cU 117 o.op
   | .value f=>match C.So,f with
    |some s,.tmp t=>match ρ (.tmp t),maps ρ c.args.toList with
     |some v,some j=>A7 P v s j w (λx a=>K (s.gj x) a)
     | _, _=>cU 70 o.op
    | _, _=>match ρ f,maps ρ c.args.toList with
     |some (.func (.yield l) first _),some j=> ∀w1,Ext w w1->jZ P l (first.toList++j) w1 (λb a=>K (.bool b) a)
     |some (.func (.func A) first cap),some j=>
      if bA P A=true then
       aB P A (qt C A) (dg first j cap) w (λx a=>K ((qt C A).gj x) a)
      else cU 16 o.op
     | _, _=>cU 17 o.op
   | _=>cU 18 o.op
 | _=>cU 19 o.op
def aF (b:Bool) (x y:Prop):Prop:=match b with
 |true=>x
 |false=>y
theorem ab {b:Bool} {x y:Prop} (a:b=true->x) (c:b=false->y):aF b x y:=by
 cases b
 ·exact c rfl
 ·exact a rfl
theorem zY {b:Bool} {x y:Prop} (h:aF b x y) (e:b=true):x:=by subst e;exact h
theorem wC {b:Bool} {x y:Prop} (h:aF b x y) (e:b=false):y:=by subst e;exact h
def Ie {P:AC} (C:dn P) (ρ:Operand->Option A2) (o:Oper):Bool:=
 match o.op with
 | .store .. | .alloc _| .box .. | .buildSlice .. | .makeSlice .. | .makeMap .. | .makeChan .. | .mapUpdate .. | .insert .. | .range .. | .next .. =>true
 | .call c=>match c.callee with
   | .value f=>match C.So,f with
    |some _,.tmp _=>true
    | _, _=>match ρ f with
     |some (.func (.func a) _ _)=> !((o7 C.oG a).isSome||C.quiet.contains a)
     | _=>true
   | .builtin .append=>true
   | .builtin .copy=>true
   | .builtin .delete=>true
   | _=>false
 | _=>false
def QU:Op->Bool
 | .binOp .. =>true
 | .convert .. =>true
 | .call _=>true
 | _=>false
def ub {P:AC} (C:dn P) (o:Oper) (v:A2) (K:A2->Prop):Prop:=
 match C.rz&&QU o.op,v with
 |true,.int k e=> ∀x,x=e->K (.int k x)
 | _, _=>K v
theorem ov {P:AC} {C:dn P} {o:Oper} {v:A2} {K:A2->Prop} (h:ub C o v K):K v:=by
 unfold ub at h;split at h
 ·exact h _ rfl
 ·exact h
def HG {P:AC} (C:dn P) (ops:Array Oper) (N:Nat) (o:Oper):Nat->List bC->A1->(List bC->A1->Prop)->Prop
 |0, _, _, _=>cU 20 o.op
 |n+1,env,w,K=>match gd ops env o with
  |none=>cU 21 o.op
  |some none=>if l9 ops N env [] o.dst then sy env o.dst [] none undef (λenv=>K env w) else cU 25 o.op
  |some (some (ch,g))=>
   if l9 ops N env ch o.dst then
    if Ie C (sq env ch) o then
     match ch.getLast? with
     |none=>V6 C (sq env []) o w (λv a=>sy env o.dst [] none v (λenv=>K env a))
     |some (j, _)=>match cO ops j with
      |some d=>match bz env d with
       |some e=>match e.v with
        | .bool x=>if e.ch.isEmpty then
           aF x (gZ (env.map (settle j true)) λenv=>HG C ops N o n (⟨d,[],none,.bool true,some true⟩::env) w K)
            (gZ (env.map (settle j false)) λenv=>HG C ops N o n (⟨d,[],none,.bool false,some false⟩::env) w K)
          else cU 22 o.op
        | _=>cU 26 o.op
       |none=>cU 27 o.op
      |none=>cU 28 o.op
    else kP C ops env ch g o w (λv=>ub C o v (λv=>sy env o.dst ch g v (λenv=>K env w)))
   else cU 24 o.op
def zn {P:AC} (C:dn P) (ops:Array Oper) (N:Nat) (i:Nat) (env:List bC) (w:A1) (K:List bC->A1->Prop):Prop:=
 match ops[i]? with
 |none=>False
 |some ⟨dst,op,type,pos,after,guard⟩=>HG C ops N ⟨dst,op,type,pos,after,guard⟩ 40 env w K
def V7 {P:AC} (C:dn P) (ops:Array Oper) (N:Nat):List Nat->List bC->A1->(List bC->A1->Prop)->Prop
 |[],env,w,K=>K env w
 |i::r,env,w,K=>zn C ops N i env w (λenv w=>V7 C ops N r env w K)
def ib (ops:Array Oper) (tmps:Array A2) (ch:List (Nat×Bool)):Prop:= ∀x∈ch,yielded ops tmps x.1=some x.2
def Me (ops:Array Oper) (tmps:Array A2) (ch:List (Nat×Bool)):Option Bool->Prop
 |none=>ch=[]
 |some γ=>ch≠[]/\(γ=true<->ib ops tmps ch)
structure Fit (S:Nat->Option (Option A2)) (ops:Array Oper) (N:Nat) (D:List Deferred) (env:List bC) (a:Act):Prop where
 off: ∀t x,S t=some x->a.tmps[t]? =x
 size:a.tmps.size=N
 ni:a.defers=D
 yes: ∀t e,bz env t=some e->ib ops a.tmps e.ch->a.tmps[t]? =some e.v
 no: ∀t e,bz env t=some e-> ¬ ib ops a.tmps e.ch->a.tmps[t]? =some undef
 A8: ∀e∈env,Me ops a.tmps e.ch e.g
 xE: ∀e∈env, ∀b,e.k=some b->e.v= .bool b/\e.ch=[]
theorem bG: ∀{env:List bC} {t:Nat} {e:bC},bz env t=some e->e∈env
 |[], _, _,h=>by simp[bz] at h
 |x::r,t,e,h=>by
  simp only[bz] at h;split at h
  ·cases h;exact Ey
  ·exact HP _ (bG h)
theorem MM {a b:List (Nat×Bool)} (h:Qq a b=true) {ops:Array Oper} {tmps:Array A2} (hb:ib ops tmps b):ib ops tmps a:=λx c=>by
 simp only[Qq,C7] at h;exact hb x (by simpa using h x c)
variable {S:Nat->Option (Option A2)} {ops:Array Oper} {N:Nat} {D:List Deferred} {env:List bC} {a:Act}
theorem Fit.ev (h:Fit S ops N D env a) {ch:List (Nat×Bool)} (hc:ib ops a.tmps ch) {x:Operand} {v:A2} (b:sq env ch x=some v):a.eval x=v:=by
 cases x with
 |tmp t=>
  simp only[sq] at b;split at b
  ·rename_i t1 e g1 i j c;split at b
   ·rename_i d;cases b;have:=h.yes t _ c (MM d hc);simp[H2,this]
   ·cases b
  ·cases b
 |const v=>simp only[sq,Bo] at b;simp[H2,b]
 |global g=>simp only[sq,Bo] at b;simp[H2,b]
 |func f=>simp only[sq,Bo] at b;simp[H2,b]
theorem AJ {j:Nat} {d:Option Nat} {u:A2} (h: ∀k,d=some k->cO ops j≠some k):yielded ops (a.put d u).tmps j=yielded ops a.tmps j:=by
 cases d with
 |none=>rfl
 |some k=>
  have b:=h k rfl;unfold yielded;unfold cO at b;cases c:(ops[j]?).bind (·.dst) with
  |none=>rfl
  |some t=>
   have f:k≠t:=λe=>b (by rw[c,e]);simp[DB,DS f]
theorem Dm {ch:List (Nat×Bool)} {d:Option Nat} {u:A2} (h: ∀k,d=some k->ch.all (λx=>cO ops x.1 != some k)=true):ib ops (a.put d u).tmps ch<->ib ops a.tmps ch:=by
 have: ∀x∈ch,yielded ops (a.put d u).tmps x.1=yielded ops a.tmps x.1:=λx b=>AJ λk e=>by
  have:=C7.1 (h k e) x b;simpa using this
 constructor
 ·intro c x b;rw[<-this x b];exact c x b
 ·intro c x b;rw[this x b];exact c x b
theorem Fit.put (h:Fit S ops N D env a) {ch:List (Nat×Bool)} {g:Option Bool} {d:Option Nat} {v u:A2} (q:l9 ops N env ch d=true) (s: ∀k,d=some k->S k=none)
 (w:Me ops a.tmps ch g) (y:ib ops a.tmps ch->u=v) (h0: ¬ ib ops a.tmps ch->u=undef):Fit S ops N D (jV env d ch g v) (a.put d u):=by
 cases d with
 |none=>exact h
 |some k=>
  simp only[l9,BA,decide_eq_true_eq] at q;obtain⟨⟨z,hc⟩,A⟩:=q;have j:ib ops (a.put (some k) u).tmps ch<->ib ops a.tmps ch:=Dm λB l=>by cases l;exact hc
  have m: ∀e∈env,(ib ops (a.put (some k) u).tmps e.ch<->ib ops a.tmps e.ch):=λe hm=>Dm λB l=>by
   cases l;exact C7.1 A e hm
  have r:k<a.tmps.size:=by rw[h.size];exact z
  refine⟨λt x n=>?_,by simp[DB,h.size],h.ni,?_,?_,?_,?_⟩
  ·have C:k≠t:=λe=>by subst e;rw[s k rfl] at n;cases n
   simp[DB,DS C,h.off t x n]
  ·intro t e c i;simp only[jV,bz] at c;split at c
   ·rename_i f;cases c;subst f;simp[DB,r,y (j.1 i)]
   ·rename_i f;have:=h.yes t e c ((m e (bG c)).1 i);simp[DB,DS f,this]
  ·intro t e c i;simp only[jV,bz] at c;split at c
   ·rename_i f;cases c;subst f;simp[DB,r,h0 (λo=>i (j.2 o))]
   ·rename_i f;have:=h.no t e c (λo=>i ((m e (bG c)).2 o));simp[DB,DS f,this]
  ·intro e hm;have key: ∀(ch:List (Nat×Bool)) (g:Option Bool),(ib ops (a.put (some k) u).tmps ch<->ib ops a.tmps ch)->Me ops a.tmps ch g->Me ops (a.put (some k) u).tmps ch g:=by
    intro ch g E p;cases g with
    |none=>exact p
    |some γ=>exact⟨p.1,p.2.trans E.symm⟩
   simp only[jV,Bq] at hm;rcases hm with rfl|hm
   ·exact key _ _ j w
   ·exact key _ _ (m e hm) (h.A8 e hm)
  ·intro e hm b hb;simp only[jV,Bq] at hm;rcases hm with rfl|hm
   ·cases hb
   ·exact h.xE e hm b hb
def qF:A2->Option Bool
 | .bool b=>some b
 | _=>none
theorem js {j d:Nat} (b:cO ops j=some d) {v:A2} (hv:a.tmps[d]? =some v):yielded ops a.tmps j=qF v:=by
 unfold yielded;unfold cO at b;simp only[b,S0,hv];cases v<;>rfl
theorem c8:ib ops a.tmps []:=λx b=>by cases b
theorem If (h:Fit S ops N D env a) {o:Oper} {ch:List (Nat×Bool)} {g:Option Bool} (c:gd ops env o=some (some (ch,g))):
 Me ops a.tmps ch g/\(Bg o (yielded ops a.tmps)=true<->ib ops a.tmps ch):=by
 unfold gd at c;unfold Bg;split at c
 ·rename_i l;cases c;exact⟨rfl,by simp[ib,l]⟩
 ·rename_i j b l;split at c
  ·rename_i d p;split at c
   ·rename_i e f;split at c
    ·rename_i u v;obtain⟨hv,i⟩:=h.xE e (bG f) u v;have s:=js (a:=a) p (h.yes d e f (by rw[i];exact c8));rw[hv] at s;split at c
     ·rename_i hb;cases c;refine⟨rfl,?_⟩;simp[l,s,qF,hb,ib]
     ·cases c
    ·split at c
     ·rename_i x w;cases c;have q:(yielded ops a.tmps j=some b)<->ib ops a.tmps e.ch/\x=b:=by
       by_cases hc:ib ops a.tmps e.ch
       ·have r:=h.yes d e f hc;rw[js (a:=a) p r,w];simp[qF,hc]
       ·have r:=h.no d e f hc;rw[js (a:=a) p r];simp[undef,qF,hc]
      have i:ib ops a.tmps ((j,b)::e.ch)<->yielded ops a.tmps j=some b:=by
       constructor
       ·intro m;exact m (j,b) Ey
       ·intro m y k;rcases Bq.1 k with rfl|k
        ·exact m
        ·exact(q.1 m).1 y k
      refine⟨?_,?_⟩
      ·have n:=h.A8 e (bG f);cases t:e.g with
       |none=>
        rw[t] at n;have z:ib ops a.tmps e.ch:=by rw[show e.ch=[] from n];intro y k;cases k
        refine⟨by simp,?_⟩;show(_=true<-> _);rw[i,q];cases b<;>simp[z,lit]
       |some γ=>
        rw[t] at n;refine⟨by simp,?_⟩;show(_=true<-> _);rw[i,q, <-n.2];cases b<;>simp[lit]
      ·rw[i];simp[l]
     ·cases c
   ·cases c
  ·cases c
theorem yn (h:Fit S ops N D env a) {o:Oper} (c:gd ops env o=some none):Bg o (yielded ops a.tmps)=false:=by
 unfold gd at c;unfold Bg;split at c
 ·cases c
 ·rename_i j b i;split at c
  ·rename_i d k;split at c
   ·rename_i e f;split at c
    ·rename_i l m;obtain⟨hv,n⟩:=h.xE e (bG f) l m;have g:=js (a:=a) k (h.yes d e f (by rw[n];exact c8));rw[hv] at g;split at c
     ·cases c
     ·rename_i hb;simp[i,g,qF,hb]
    ·split at c<;>cases c
   ·cases c
  ·cases c
theorem qP {f:bC->bC} (b: ∀e,(f e).t=e.t): ∀{l:List bC} {t:Nat} {e:bC},bz (l.map f) t=some e-> ∃c,bz l t=some c/\e=f c
 |[], _, _,h=>by simp[bz] at h
 |x::r,t,e,h=>by
  simp only[HO,bz,b] at h ⊢;split at h
  ·rename_i a;cases h;exact⟨x,by rw[if_pos a],rfl⟩
  ·rename_i a;rw[if_neg a];exact qP b h
theorem zZ (j:Nat) (b:Bool) (e:bC):(settle j b e).t=e.t:=by
 unfold settle;split
 ·rfl
 ·split
  ·split<;>rfl
  ·rfl
theorem qQ {j:Nat} {b:Bool} (l:yielded ops a.tmps j=some b) (e:bC) (h:Me ops a.tmps e.ch e.g):
 Me ops a.tmps (settle j b e).ch (settle j b e).g/\(ib ops a.tmps e.ch->ib ops a.tmps (settle j b e).ch/\(settle j b e).v=e.v)/\(¬ ib ops a.tmps e.ch->(¬ ib ops a.tmps (settle j b e).ch\/(settle j b e).v=undef))/\
 (¬ ib ops a.tmps (settle j b e).ch-> ¬ ib ops a.tmps e.ch):=by
 unfold settle;split
 ·rename_i hc;have o: ¬ ib ops a.tmps e.ch:=λd=>by
   have:=d (j, !b) (by simpa using hc);rw[l] at this;cases b<;>simp at this
  exact⟨rfl,λd=>absurd d o,λ_=> .inr rfl,λd=>absurd c8 d⟩
 ·split
  ·rename_i p hc;have f:ib ops a.tmps e.ch<->ib ops a.tmps (e.ch.filter (λx=>x != (j,b))):=by
    constructor
    ·intro d x i;exact d x (Bc.1 i).1
    ·intro d x i;by_cases m:x=(j,b)
     ·rw[m];exact l
     ·exact d x (Bc.2 ⟨i,by simpa using m⟩)
   split
   ·rename_i k;rw[k] at f;exact⟨rfl,λ_=>⟨c8,rfl⟩,λd=>absurd (f.2 c8) d,λd=>absurd c8 d⟩
   ·rename_i c r k;rw[k] at f;refine⟨?_,λd=>⟨f.1 d,rfl⟩,λd=> .inl (λh2=>d (f.2 h2)),λd h2=>d (f.1 h2)⟩;cases n:e.g with
    |none=>rw[n] at h;have:e.ch=[]:=h;rw[this] at hc;simp at hc
    |some γ=>rw[n] at h;exact⟨by simp,h.2.trans f⟩
  ·exact⟨h,λd=>⟨d,rfl⟩,λd=> .inl d,λd=>d⟩
theorem Fit.settle (h:Fit S ops N D env a) {j d:Nat} {b:Bool} {e:bC} (p:cO ops j=some d) (q:bz env d=some e) (r:e.ch=[]) (hv:e.v= .bool b):
 Fit S ops N D (⟨d,[],none,.bool b,some b⟩::env.map (settle j b)) a:=by
 have o:=h.yes d e q (by rw[r];exact c8);have k:=js (a:=a) p o;rw[hv] at k;simp only[qF] at k;refine⟨h.off,h.size,h.ni,?_,?_,?_,?_⟩
 ·intro t m g hc;simp only[bz] at g;split at g
  ·rename_i s;cases g;subst s;rw[o,hv]
  ·obtain⟨c,f,rfl⟩:=qP (zZ j b) g;obtain⟨_,s1,u, _⟩:=qQ (a:=a) k c (h.A8 c (bG f));by_cases l:ib ops a.tmps c.ch
   ·rw[h.yes t c f l,(s1 l).2]
   ·rw[h.no t c f l];rcases u l with n|n
    ·exact absurd hc n
    ·rw[n]
 ·intro t m g hc;simp only[bz] at g;split at g
  ·cases g;exact absurd c8 hc
  ·obtain⟨c,f,rfl⟩:=qP (zZ j b) g;obtain⟨_, _, _,w⟩:=qQ (a:=a) k c (h.A8 c (bG f));exact h.no t c f (w hc)
 ·intro m hm;rcases Bq.1 hm with rfl|hm
  ·exact rfl
  ·obtain⟨c,f,rfl⟩:=Hu.1 hm;exact(qQ (a:=a) k c (h.A8 c f)).1
 ·intro m hm x i;rcases Bq.1 hm with rfl|hm
  ·cases i;exact⟨rfl,rfl⟩
  ·obtain⟨c,f,rfl⟩:=Hu.1 hm;unfold RX.settle at i ⊢;split at i
   ·cases i
   ·rename_i y;rw[if_neg y];split at i
    ·split at i<;>cases i
    ·rename_i z;rw[if_neg z];exact h.xE c f x i
variable {P:AC}
def cB (P:AC) (o:Oper) (a:Act) (w:A1) (v:A2):Prop:=
 match (execOp a.eval o).run P w with
 | .ok (.value u) w'=>w'=w/\u=v
 | .ok (.enter f args) w'=>w'=w/\Calls P f args w (λe b=>e= .returned v/\Ext w b)
 | _=>False
theorem bj {o:Oper} {a:Act} {w:A1} {v:A2} (h:(execOp a.eval o).run P w= .ok (.value v) w):cB P o a w v:=by
 unfold cB;rw[h];exact⟨rfl,rfl⟩
theorem bV: ∀(l:List Sc) (x:iv l),(aZ l x).length=l.length
 |[], _=>rfl
 | _::r,x=>by simp[aZ,bV r x.2]
theorem rP {w:A1} {a:A9} {v:A2} (h:w.cell? a=some v):(load a).run P w= .ok v w:=by simp[h]
theorem run_loadCellsFrom {w:A1} {a:A9}: ∀(b:List A2) (k:Nat) (c:Array A2),(∀i,i<b.length->w.cell? (a.add (k+i))=b[i]?)->
 (loadCellsFrom a k b.length c).run P w= .ok (c++b.toArray) w
 |[],k,c, _=>by simp[loadCellsFrom]
 |v::b,k,c,h=>by
  have h0:w.cell? (a.add k)=some v:=by simpa using h 0 (by simp)
  have d:=run_loadCellsFrom b (k+1) (c.push v) (λi hi=>by
   have:=h (i+1) (by simpa using hi);rw[show k+1+i=k+(i+1) by omega,this];rfl)
  simp only[Mr,loadCellsFrom,AX,rP h0,B1,d];simp
theorem pD {w w':A1} (h:Ext w w') {p:Option A9} {el:El} {x:el.T} (c:cI w p el x):cI w' p el x:=by
 cases el with
 |one s=>obtain⟨a,b,hc⟩:=c;exact⟨a,b,h.cell hc⟩
 |agg l=>
  obtain⟨a,b,hc⟩:=c;refine⟨a,b,λi hi=>?_⟩;have d:=hc i hi;have e:i<(aZ l x).length:=by have:=bV l x;omega
  rw[Ht e] at d ⊢;exact h.cell d
theorem pE {w:A1} {a:A9} {t:A_} {el:El} {e:TypeInfo} {x:el.T} (b:qw P t=some el) (hi:P.info? t=some e)
 (i: ¬ k7 el e.size=true) (h:cI w (some a) el x):(loadVar t a).run P w= .ok (el.gj x) w:=by
 unfold loadVar;cases el with
 |one s=>
  have f:iz P t=some false:=by
   unfold qw at b;unfold iz;cases c:P.underlying t with
   |none=>simp[c,wg] at b
   |some d=>cases d<;>first|rfl|(simp only[c] at b;simp[Option.map_eq_some_iff] at b)
  obtain⟨j,g,hc⟩:=h;cases g;simp only[AX,qO f,B1,Et,if_false,rP hc];rfl
 |agg l=>
  have f:iz P t=some true:=by
   unfold qw at b;unfold iz;cases c:P.underlying t with
   |none=>simp[c,wg] at b
   |some d=>cases d<;>first|rfl|(simp only[c] at b;split at b<;>cases b)
  obtain⟨j,g,hc⟩:=h;cases g;have k:l.length=e.size:=by simpa[k7] using i
  have:=run_loadCellsFrom (P:=P) (w:=w) (a:=a) (aZ l x) 0 #[] (by simpa[bV] using hc);rw[bV,k] at this;simp only[AX,qO f,B1,if_true,cG hi,loadCells,this];simp[El.gj]
theorem MN {C:dn P} {w:A1} {a:A9} {t:A_} {el:El} {d:TypeInfo} {x:el.T} (b:Vf C t=some el) (hi:P.info? t=some d)
 (e: ¬ k7 el d.size=true) (c:cI w (some a) el x):(loadVar t a).run P w= .ok (el.gj x) w:=by
 unfold Vf at b;split at b
 ·rename_i h0;split at b
  ·rename_i s g;cases b;have f:cI w (some a) (.one .func) (s.gj x):=c;exact pE (el:= .one .func) h0 hi (by simp[k7]) f
  ·cases b;exact pE h0 hi e c
 ·exact pE b hi e c
theorem Dp: ∀{l:List (Entry P)} {f:B5} {e:Entry P},o7 l f=some e->e.f=f
 |[], _, _,h=>by simp[o7] at h
 |x::r,f,e,h=>by
  simp only[o7] at h;split at h
  ·cases h;assumption
  ·exact Dp h
theorem fJ {g:Option Bool} {p:Prop} {ops:Array Oper} {tmps:Array A2} {ch:List (Nat×Bool)} (h:d_ g p) (a:Me ops tmps ch g) (hc:ib ops tmps ch):p:=by
 cases g with
 |none=>exact h
 |some b=>exact h (a.2.2 hc)
theorem pU {f:B5} {args:Array A2} {w:A1}
 (h:bA P f=true):
 (callFunc f args).run P w= .ok (.enter f args) w:=by
 unfold callFunc;unfold bA at h;cases a:P.funcs[f]? with
 |none=>simp[a] at h
 |some fn=>
  simp only[a,BA,HL] at h;have h2: ¬ (fn.name= "runtime.NumGoroutine"):=by simpa using h.2
  obtain⟨b,hb⟩:=cR h.1;simp[a,h2,hb]
theorem pF {ev:Operand->A2} {dst:Option Nat} {type:A_} {pos:String} {after:Array Edge} {guard:Option (Nat×Bool)} {f:Operand} {args:Array Operand} {ts:Array A_}
 {a:B5} {first cap:Array A2} {b:List A2} (c:ev f= .func (.func a) first cap) (d:args.toList.map ev=b) {w:A1}
 (h:bA P a=true):
 (execOp ev ⟨dst,.call ⟨.value f,args,ts⟩,type,pos,after,guard⟩).run P w= .ok (.enter a ⟨dg first b cap⟩) w:=by
 have e:(first++args.map ev++cap:Array A2)=⟨dg first b cap⟩:=by
  unfold dg;rw[<-d];obtain⟨l1⟩:=first;obtain⟨l2⟩:=args;obtain⟨g⟩:=cap
  simp
 simp only[execOp,resolve,Deferred.ofValue,c,AX,B2,B1,invoke];rw[e];exact pU h
variable {S:Nat->Option (Option A2)} {ops:Array Oper} {N:Nat} {D:List Deferred} {env:List bC} {a:Act}
theorem uU {kd:B3} {n:Int}: ∀(l:List Do) (i0 i:Nat) (v:A2),H6 (.int kd) (.int kd n) l i0=some (some (i,v))->i0<=i/\ ∃e,l[i - i0]? =some e/\e.key= .int kd n/\e.val=v
 |[], _, _, _,h=>by simp[H6] at h
 |e::es,i0,i,v,h=>by
  unfold H6 at h;split at h
  ·rename_i a;simp only[Bo,Prod.mk.injEq] at h;obtain⟨rfl,rfl⟩:=h;refine⟨Di _,e,by simp,?_,rfl⟩;cases b:e.key<;>rw[b] at a<;>simp[Instr.sameNow] at a;obtain⟨rfl,rfl⟩:=a;rfl
  ·obtain⟨g,c,h2,d,f⟩:=uU es (i0+1) i v h;refine⟨by omega,c,?_,d,f⟩;rw[show i - i0=(i - (i0+1))+1 by omega];simpa using h2
  ·cases h
theorem wD {t f l:A_} {kd:B3} {n:Int} {val:A2} {w:A1} {r:Nat} {es:Array Do} {d:Nat} {K:A1->Prop} (g:P.underlying t=some (.map f l)) (a:P.underlying f=some (.int kd)) (hb:bE w r es d)
 (h:gz w r kd n val es d K): ∃j,(P8 t (.map (some r)) (.int kd n) val).run P w= .ok () j/\K j:=by
 have b:w.heap[r]? =some (.map es d):=hb;have k:EE (.int kd) (.int kd n):=by simp[EE]
 unfold gz at h;split at h
 ·rename_i c;refine⟨_,?_,h⟩;simp[P8,run_underlying g,Dn b,EF a k,EH a c,M4 _ b,Bp,Es]
 ·rename_i i v c;obtain⟨_,e,m,o, _⟩:=uU _ _ _ _ c;refine⟨_,?_,h⟩;have p:es[i]? =some e:=by simpa using m
  simp[P8,run_underlying g,Dn b,EF a k,EH a c,p,o,Instr.keyThatStays,Instr.sameBits,M4 _ b,Bp,Es]
 ·exact h.elim
theorem Jq {t d e:A_} {kd:B3} {n:Int} {w:A1} {p:Option Nat} {i:TypeInfo} {z v:A2} (f:P.underlying t=some (.map d e)) (a:P.underlying d=some (.int kd)) (hi:P.info? e=some i) (l:i.zero=some z)
 (h:jg w p kd n z v):(Ho t (.map p) (.int kd n) false).run P w= .ok v w:=by
 obtain⟨r,es,m,rfl,hb,b⟩:=h;have g:w.heap[r]? =some (.map es m):=hb;have k:EE (.int kd) (.int kd n):=by simp[EE]
 split at b
 ·rename_i c;subst b;simp[Ho,run_underlying f,Dn g,EF a k,EH a c,zeroValue,eO hi,l,Bp]
 ·rename_i j u c;subst b;simp[Ho,run_underlying f,Dn g,EF a k,EH a c,Bp]
 ·exact b.elim
theorem EN {t e f:A_} {kd:B3} {n:Int} {w:A1} {p:Option Nat} {i:TypeInfo} {z v:A2} {b:Bool} (g:P.underlying t=some (.map e f)) (a:P.underlying e=some (.int kd)) (hi:P.info? f=some i) (m:i.zero=some z)
 (h:kV w p kd n z v b):(Ho t (.map p) (.int kd n) true).run P w= .ok (.tuple ⟨[v,.bool b]⟩) w:=by
 obtain⟨r,es,o,rfl,hb,c⟩:=h;have k:w.heap[r]? =some (.map es o):=hb;have l:EE (.int kd) (.int kd n):=by simp[EE]
 split at c
 ·rename_i d;obtain⟨rfl,rfl⟩:=c;simp[Ho,run_underlying g,Dn k,EF a l,EH a d,zeroValue,eO hi,m,Bp]
 ·rename_i j u d;obtain⟨rfl,rfl⟩:=c;simp[Ho,run_underlying g,Dn k,EF a l,EH a d,Bp]
 ·exact c.elim
theorem lx {w:A1} {p:Option A9} {k v:A2} (h:zm w p k v):(Instr.entry (.pointer p)).run P w= .ok (.tuple ⟨[k,v]⟩) w:=by
 obtain⟨r,m,a,seen,es,b,e,rfl,c,hb,d,f,rfl,rfl⟩:=h;exact run_entry_at w r m a seen es b e c hb d f
theorem uq {w w':A1} {p:Option A9} {k v:A2} (a:Ext w w') (h:zm w p k v):zm w' p k v:=by
 obtain⟨r,m,b,seen,es,c,e,d,f,hb,h2⟩:=h;exact⟨r,m,b,seen,es,c,e,d,a.obj f,a.obj hb,h2⟩
theorem AK {ρ:Operand->Option A2} {c:Call} {p:Option Nat} (h:yh P ρ c=some p): ∃x t a b,c.args= #[x]/\c.argTypes= #[t]/\P.underlying t=some (.map a b)/\ρ x=some (.map p):=by
 unfold yh at h;split at h
 ·rename_i x t f g;split at h
  ·rename_i a b p' d e;cases h;refine⟨x,t,a,b,?_,?_,d,e⟩
   ·obtain⟨_,args,ts⟩:=c;cases args;simp_all
   ·obtain⟨_,args,ts⟩:=c;cases ts;simp_all
  ·cases h
 ·cases h
theorem yL {ρ:Operand->Option A2} {c:Call} {p:Option Nat} (h:sX P ρ c=some p): ∃x t d a,c.args= #[x]/\c.argTypes= #[t]/\P.underlying t=some (.chan d a)/\ρ x=some (.chan p):=by
 unfold sX at h;split at h
 ·rename_i x t g i;split at h
  ·rename_i b a p' e f;cases h;refine⟨x,t,b,a,?_,?_,e,f⟩
   ·obtain⟨_,args,ts⟩:=c;cases args;simp_all
   ·obtain⟨_,args,ts⟩:=c;cases ts;simp_all
  ·cases h
 ·cases h
theorem Dq {w w':A1} {p q:Option A9} (e:Ext w w') (h:Sp w p q):Sp w' p q:=λa b f h2 g=>by
 obtain⟨⟨c,t,i⟩,d,u,j⟩:=h a b f h2 g;exact⟨⟨c,t,e.obj i⟩,d,u,e.obj j⟩
theorem QV {ρ:Operand->Option A2} {ev:Operand->A2} (j: ∀x v,ρ x=some v->ev x=v) {o:Oper} {p q:Option A9} {w:A1} (h:yf P ρ o.op=some (p,q)) (k:Sp w p q):
 (execOp ev o).run P w= .ok (.value (.bool (decide (p=q)))) w:=by
 obtain⟨dst,op,type,pos,after,guard⟩:=o;unfold yf at h;simp only at h;split at h
 ·rename_i t x y z;split at h
  ·rename_i e p' A f l m;split at h
   ·rename_i i hi;split at h
    ·cases h
    ·rename_i n;cases h;simp only[execOp,j _ _ l,j _ _ m];cases p with
     |none=>
      cases q with
      |none=>
       have:=dH (P:=P) (w:=w) λd=>lp f d none w;simp[eqGuard,binOp,this]
      |some b=>
       have:=dH (P:=P) (w:=w) λd=>lp f d (some b) w;simp[eqGuard,binOp,this]
     |some a=>
      cases q with
      |none=>
       have:=dH (P:=P) (w:=w) λd=>ou f d (some a) w;simp[eqGuard,binOp,this]
      |some b=>
       by_cases g:a=b
       ·subst g;have:=run_eql_ptr_same w a f hi;simp[eqGuard,this]
       ·obtain⟨⟨c,B,r⟩,d,u,s⟩:=k a b rfl rfl g;have:=run_eql_ptr_other w f hi n g r s;simp[eqGuard,this,g]
   ·cases h
  ·cases h
 ·cases h
theorem z4 {w w':A1} {p:Option A9} {n:Nat} {s:ByteArray} (a:Ext w w') (h:sB w p n s):sB w' p n s:=by
 obtain⟨xs,b,h2,c,d⟩:=h;exact⟨xs,b,h2,c,λi x e=>pD a (d i x e)⟩
theorem Jr {ρ:Operand->Option A2} {ev:Operand->A2} (f: ∀x v,ρ x=some v->ev x=v) {o:Oper} {p:Option A9} {n:Nat} {s:ByteArray} {w:A1} (h:yg P ρ o.op=some (p,n)) (g:sB w p n s):
 (execOp ev o).run P w= .ok (.value (.string s)) w:=by
 obtain⟨dst,op,type,pos,after,guard⟩:=o;unfold yg at h;simp only at h;split at h
 ·rename_i j ds x;split at h
  ·rename_i e p' u c k l m;split at h
   ·rename_i q;cases h;obtain⟨xs,rfl,rfl,⟨a,rfl⟩,r⟩:=g;have t:(loadCells a xs.length).run P w= .ok (xs.map (Value.int .u8)).toArray w:=by
     have:=run_loadCellsFrom (P:=P) (w:=w) (a:=a) (xs.map (Value.int .u8)) 0 #[] (λi hi=>by
      rw[PV] at hi;obtain⟨b,hb,hc⟩:=r i _ (Ht hi);cases hb;rw[ED,List.getElem?_map,Ht hi];exact hc)
     rw[PV] at this;simpa[loadCells] using this
    have d:=run_convert_bytes_string (P:=P) w j ds e (some a) xs.length c k q l;rw[run_bytesToString w a _ c xs t] at d;simp only[execOp,f _ _ m,AX,d,B1,B2]
   ·cases h
  ·cases h
 ·cases h
theorem uc {C:dn P} {ch:List (Nat×Bool)} {g:Option Bool} {o:Oper} {w:A1} {K:A2->Prop} (l:Fit S ops N D env a) (G:Me ops a.tmps ch g)
 (h:kP C ops env ch g o w K): ∃v,K v/\(ib ops a.tmps ch-> ∀w',Ext w w'->cB P o a w' v):=by
 have Er: ∀v,a.eval (.const v)=v:=λ_=>rfl;have pure: ∀(L:PR),pop P (sq env ch) o=some L->(match L.ob with|none=>K L.v|some p=>d_ g p/\K L.v)->
  ∃v,K v/\(ib ops a.tmps ch-> ∀w',Ext w w'->cB P o a w' v):=by
  intro L A i;cases T:L.ob with
  |none=>
   rw[T] at i;exact⟨L.v,i,λhc w' _=>bj (Iz (λx v B=>l.ev hc B) Er A (λp M=>by rw[T] at M;cases M) w')⟩
  |some p=>
   rw[T] at i;exact⟨L.v,i.2,λhc w' _=>bj (Iz (λx v B=>l.ev hc B) Er A (λp' M=>by rw[T] at M;cases M;exact fJ i.1 G hc) w')⟩
 have U:(match pop P (sq env ch) o with|some ⟨none,v⟩=>K v|some ⟨some p,v⟩=>d_ g p/\K v|none=>False)->
  ∃v,K v/\(ib ops a.tmps ch-> ∀w',Ext w w'->cB P o a w' v):=by
  intro V;split at V
  ·rename_i v A;exact pure ⟨none,v⟩ A V
  ·rename_i p v A;exact pure ⟨some p,v⟩ A V
  ·exact V.elim
 obtain⟨dst,op,type,pos,after,guard⟩:=o;unfold kP at h;cases op with
 |load t x=>
  simp only at h;split at h
  ·rename_i p el ti B I hi;split at h
   ·exact A3 h
   ·rename_i hs;obtain⟨W,O,i⟩:=h;refine⟨_,i,λhc w' E=>bj ?_⟩;have L3:=pD E (fJ O G hc);have A: ∃a0,p=some a0:=by cases el<;>(obtain⟨a0,h0, _⟩:=L3;exact⟨a0,h0⟩)
    obtain⟨a0,rfl⟩:=A;simp[execOp,Instr.loadAt,l.ev hc B,Hf,MN I hi hs L3]
  ·exact A3 h
 |lookup xt m ix ok=>
  simp only at h;split at h
  ·rename_i X Y p kd n F Z Ep;split at h
   ·rename_i Sr el ti Mf I hi;split at h
    ·rename_i z J;split at h
     ·rename_i nV;subst nV;obtain⟨W,O,i⟩:=h;refine⟨_,i,λhc w' E=>bj ?_⟩;have hl:=fJ O G hc;have AW:jg w' p kd n z (el.gj W):=by
       obtain⟨r,es,Q,h1,h2,h3⟩:=hl;exact⟨r,es,Q,h1,E.obj h2,h3⟩
      simp only[execOp,AX,l.ev hc Z,l.ev hc Ep,Jq F Mf hi J AW,B1,B2]
     ·exact A3 h
    ·exact A3 h
   ·exact A3 h
  ·rename_i X Y p kd n F Z Ep;split at h
   ·rename_i Sr el ti Mf I hi;split at h
    ·rename_i z J;split at h
     ·rename_i nV;subst nV;obtain⟨W,b',O,i⟩:=h;refine⟨_,i,λhc w' E=>bj ?_⟩;have hl:=fJ O G hc;have AW:kV w' p kd n z (el.gj W) b':=by
       obtain⟨r,es,Q,h1,h2,h3⟩:=hl;exact⟨r,es,Q,h1,E.obj h2,h3⟩
      simp only[execOp,AX,l.ev hc Z,l.ev hc Ep,EN F Mf hi J AW,B1,B2]
     ·exact A3 h
    ·exact A3 h
   ·exact A3 h
  ·exact A3 h
 |pick c x y=>
  simp only at h;split at h
  ·rename_i t;split at h
   ·rename_i ec Yn;have known: ∀(b:Bool),ec.k=some b->ib ops a.tmps ch->a.eval (.tmp t)= .bool b:=by
     intro b hb _;obtain⟨hv,mJ⟩:=l.xE ec (bG Yn) b hb;have:=l.yes t ec Yn (by rw[mJ];exact c8);simp[H2,this,hv]
    split at h
    ·rename_i i;split at h
     ·rename_i v hv;refine⟨v,h,λhc w' _=>bj ?_⟩;have H:=known true i hc;simp[execOp,H,l.ev hc hv,asBool]
     ·exact A3 h
    ·rename_i i;split at h
     ·rename_i v hv;refine⟨v,h,λhc w' _=>bj ?_⟩;have H:=known false i hc;simp[execOp,H,l.ev hc hv,asBool]
     ·exact A3 h
    ·split at h
     ·rename_i j hj;have y8:cO ops j=some t:=by
       have:=PY hj;simpa using this
      have key: ∀(b u v:Bool),sq env ch (.tmp t)=some (.bool b)->sq env ((j,true)::ch) x=some (.bool u)->sq env ((j,false)::ch) y=some (.bool v)->
       ∀w',ib ops a.tmps ch->cB P ⟨dst,.pick (.tmp t) x y,type,pos,after,guard⟩ a w' (.bool (bif b then u else v)):=by
       intro b u v hb F hv w' hc;refine bj ?_;have H:=l.ev hc hb;have Yo:yielded ops a.tmps j=some b:=by
        unfold yielded;unfold cO at y8;simp only[y8,S0];have:a.tmps[t]? =some (.bool b):=by
         unfold H2 at H;simp only[GS] at H;cases ht:a.tmps[t]? with
         |none=>rw[ht] at H;simp[undef] at H
         |some z=>rw[ht] at H;simp at H;rw[H]
        rw[this]
       cases b with
       |true=>
        have eu:=l.ev (ch:=(j,true)::ch) (λz J=>by
         rcases Bq.1 J with rfl|J
         ·exact Yo
         ·exact hc z J) F
        simp[execOp,H,eu,asBool]
       |false=>
        have eu:=l.ev (ch:=(j,false)::ch) (λz J=>by
         rcases Bq.1 J with rfl|J
         ·exact Yo
         ·exact hc z J) hv
        simp[execOp,H,eu,asBool]
      split at h
      ·rename_i b u v hb F hv;split at h
       ·cases (show v=false by simp only[sq,Bo,Value.bool.injEq] at hv;exact hv.symm);refine⟨_,h,λhc w' _=>?_⟩;have:=key b u false hb F hv w' hc;cases b<;>exact this
       ·cases (show u=true by simp only[sq,Bo,Value.bool.injEq] at F;exact F.symm);refine⟨_,h,λhc w' _=>?_⟩;have:=key b true v hb F hv w' hc;cases b<;>exact this
       ·exact⟨_,h,λhc w' _=>key b u v hb F hv w' hc⟩
      ·exact A3 h
     ·exact A3 h
   ·exact A3 h
  ·exact A3 h
 |call c=>
  obtain⟨callee,args,ts⟩:=c;cases callee with
  |value f=>
   simp only at h;split at h
   ·rename_i fU first cap aaj hf has
    split at h
    ·rename_i sO;split at h
     ·rename_i e I;split at h
      ·rename_i pre v Xy;refine⟨v,h.2,λhc w' _=>?_⟩;have dp:=pF (P:=P) (dst:=dst) (type:=type) (pos:=pos) (after:=after) (guard:=guard) (ts:=ts) (l.ev hc hf) (jO (λx v B=>l.ev hc B) has) (w:=w') sO;unfold cB;rw[dp];refine⟨rfl,?_⟩;have:=e.ok _ _ _ Xy (fJ h.1 G hc) w';rw[Dp I] at this;exact this
      ·exact A3 h
     ·obtain⟨x,R,i⟩:=h;refine⟨_,i,λhc w' E=>?_⟩;have dp:=pF (P:=P) (dst:=dst) (type:=type) (pos:=pos) (after:=after) (guard:=guard) (ts:=ts) (l.ev hc hf) (jO (λx v B=>l.ev hc B) has) (w:=w') sO;unfold cB;rw[dp];exact⟨rfl,fJ R G hc w' E⟩
    ·exact A3 h
   ·exact A3 h
  |invoke r m=>exact U h
  |builtin b=>
   cases b with
   |len=>
    simp only at h;split at h
    ·rename_i p A;obtain⟨n,hn,i⟩:=h;refine⟨_,i,λhc w' E=>bj ?_⟩;obtain⟨x,t,X,Y,rfl,rfl,F,B⟩:=AK A;obtain⟨r,es,Q,rfl,hb,rfl⟩:=fJ hn G hc;have nU:w'.heap[r]? =some (.map es Q):=E.obj hb;simp[execOp,resolve,invoke,builtin,I_,l.ev hc B,run_underlying F,Dn nU,goInt,Bp]
    ·split at h
     ·rename_i p A;obtain⟨n,hn,i⟩:=h;refine⟨_,i,λhc w' E=>bj ?_⟩;obtain⟨x,t,X,Y,rfl,rfl,F,B⟩:=yL A;obtain⟨r,cap,th,s,m,rfl,hb,rfl⟩:=fJ hn G hc;have nU:w'.heap[r]? =some (.chan cap ⟨th⟩ false s m false):=E.obj hb;have rl:(getObj r).run P w'= .ok (.chan cap ⟨th⟩ false s m false) w':=by simp[getObj,Sem.run,nU]
      simp[execOp,resolve,invoke,builtin,I_,l.ev hc B,run_underlying F,rl,goInt,Bp]
     ·exact U h
   | _=>exact U h
 |entry it=>
  simp only at h;split at h
  ·rename_i p d B;split at h
   ·obtain⟨x,v,I,i⟩:=h;refine⟨_,i,λhc w' E=>bj ?_⟩;simp only[execOp,AX,l.ev hc B,lx (uq E (fJ I G hc)),B1,B2]
   ·obtain⟨x,v,I,i⟩:=h;refine⟨_,i,λhc w' E=>bj ?_⟩;simp only[execOp,AX,l.ev hc B,lx (uq E (fJ I G hc)),B1,B2]
   ·obtain⟨x,v,I,i⟩:=h;refine⟨_,i,λhc w' E=>bj ?_⟩;simp only[execOp,AX,l.ev hc B,lx (uq E (fJ I G hc)),B1,B2]
   ·exact A3 h
  ·exact A3 h
 |binOp op t x y yt=>
  simp only at h;split at h
  ·rename_i v A;exact pure ⟨none,v⟩ A h
  ·rename_i p v A;exact pure ⟨some p,v⟩ A h
  ·split at h
   ·rename_i p q A;obtain⟨R,i⟩:=h;exact⟨_,i,λhc w' E=>bj (QV (o:=⟨dst,.binOp op t x y yt,type,pos,after,guard⟩) (λx v B=>l.ev hc B) A (Dq E (fJ R G hc)))⟩
   ·exact A3 h
 |convert sr ds x=>
  simp only at h;split at h
  ·rename_i v A;exact pure ⟨none,v⟩ A h
  ·rename_i p v A;exact pure ⟨some p,v⟩ A h
  ·split at h
   ·rename_i p n A;obtain⟨s,R,i⟩:=h;exact⟨_,i,λhc w' E=>bj (Jr (o:=⟨dst,.convert sr ds x,type,pos,after,guard⟩) (λx v B=>l.ev hc B) A (z4 E (fJ R G hc)))⟩
   ·exact A3 h
 | _=>exact U h
variable {P:AC}
def WF (r:Option Nat):Fence:={Eo with round:=r}
theorem h_ {r:Option Nat} {n:Nat} {f:B5} {args:Array A2} {w:A1} {R:Ending->A1->Prop}:CallsIn (WF r) n P f args w R<->Calls P f args w R:=
 callsIn_wide (n:=n)
theorem O9 (r:Option Nat) (f:B5):(WF r).fn f:=trivial
theorem Dr (r:Option Nat) (n:Nat):(WF r).room n:=room_wide n
theorem vk {w:A1} {p q:A9} {v:A2} (h:(w.cell? q).isSome=true):((w.setCell p v).cell? q).isSome=true:=by
 unfold P1 at h ⊢;simp only[I2,LL];cases a:w.heap[q.block]? with
 |none=>simp[a] at h
 |some o=>
  simp only[a] at h;by_cases hb:p.block=q.block
  ·simp only[hb,if_true,H7];cases o with
   |cells c e f=>
    simp only at h ⊢;by_cases b:q.spot.isSome=true
    ·simp[b] at h
    ·simp only[b,Et,if_false] at h ⊢;split
     ·exact h
     ·simpa using h
   | _=>simp at h
  ·simp only[hb,if_false];cases o<;>simp_all
theorem vl {w:A1} {p q:A9} {v:A2}:(w.setCell p v).frozen? q=w.frozen? q:=by
 unfold Ql;simp only[I2,LL];by_cases hb:p.block=q.block
 ·simp only[hb,if_true];cases a:w.heap[q.block]? with
  |none=>simp
  |some o=>cases o<;>simp
 ·simp only[hb,if_false]
theorem yM {w:A1} {a:A9} {v:A2} (hv:v.oneCell'=true) (h:(w.cell? a).isSome=true) (b:w.frozen? a=false):(store a v).run P w= .ok () (w.setCell a v):=by
 rw[run_store P w a v .plain hv];obtain⟨u,c⟩:=cR h;simp[c,b]
theorem gP: ∀(b:List A2) (a:A9) (i:Nat) (w:A1),zX b=true->(∀j,j<b.length->(w.cell? (a.add (i+j))).isSome=true/\w.frozen? (a.add (i+j))=false)->
 (storeCells a b i).run P w= .ok () (putAt w a b i)
 |[],a,i,w, _, _=>by simp[storeCells,putAt]
 |v::r,a,i,w,c,h=>by
  simp only[zX,Ic,BA] at c;have h0:=h 0 (by simp);simp only[Nat.add_zero] at h0;have d:=gP r a (i+1) (w.setCell (a.add i) v) c.2 (λj e=>by
   have:=h (j+1) (by simpa using e);rw[show i+1+j=i+(j+1) by omega];exact⟨vk this.1,by rw[vl];exact this.2⟩)
  simp only[storeCells,AX,yM c.1 h0.1 h0.2,B1,d,putAt]
theorem wrap_i64 {n:Int} (h0: -(2 ^ 63)<=n) (a:n<2 ^ 63):H9.wrap n=n:=by
 show(if(true&&decide (n % (2 ^ 64:Int)>=(2 ^ 63:Int)))=true then n % (2 ^ 64:Int) - (2 ^ 64:Int) else n % (2 ^ 64:Int))=n;simp only[Ib,decide_eq_true_eq];split<;>omega
theorem run_makeSlice {t e:A_} {i:TypeInfo} {z:A2} (b:P.underlying t=some (.slice e)) (hi:P.info? e=some i) (c:i.zero=some z) (k d:B3) {n m:Int} (h:TD i.bytes n m) (w:A1):
 (Qt t (.int k n) (.int d m)).run P w= .ok (.slice (some ⟨w.heap.size,0,none⟩) n.toNat m.toNat) (w.alloc (.cells (k8 z.cells (m.toNat*i.size)) e)):=by
 obtain⟨h0,q,h2,r⟩:=h;have f:H9.wrap n=n:=wrap_i64 (by omega) (by omega);have g:H9.wrap m=m:=wrap_i64 (by omega) (by omega);have j: ¬ m<0:=by omega
 have l: ¬ n<0:=by omega
 have o: ¬ n>m:=by omega
 have p: ¬ ((i.bytes:Int)*m>2 ^ 48):=by omega
 unfold Qt;simp only[AX,a8 b,B1,asInt,asIntOf,B2,eO hi,f,g,j,l,o,p,decide_false,MU,Et,if_false,run_askRoom,cG hi,newRow];by_cases a:m.toNat*i.size=0
 ·simp[a,k8]
 ·simp[a,k8,zeroValue,eO hi,c]
theorem sY {w:A1} {p:Option A9} {n size len cap:Nat} {b:List A2} (h:xD w p (n*size) b):(HB size n (.slice p len cap)).run P w= .ok ⟨b⟩ w:=by
 cases p with
 |none=>simp only[xD] at h;subst h;simp[HB]
 |some a=>
  obtain⟨c,hc⟩:=h;have:=run_loadCellsFrom (P:=P) (w:=w) (a:=a) b 0 #[] (λi hi=>by simpa using hc i (by omega));rw[c] at this;simp only[HB,loadCells,this];simp
theorem z5 {w:A1} {p:Option A9} {n:Nat} {a:List A2} (h:xD w p n a):xD w.drew p n a:=h
theorem Js {ts:Array A_} {t u e:A_} {i:TypeInfo} {ty:A_} {p q:Option A9} {n m k l:Nat} (c:ts= #[t,u]) (d:P.underlying t=some (.slice e))
 (hi:P.info? e=some i) {w:A1} {R:Int->A1->Prop} (h:VY w i.size (p,n) (q,k) R):
 ∃r b,(S6 ts ty #[.slice p n m,.slice q k l]).run P w= .ok (.int .i64 r) b/\R r b:=by
 subst c;obtain⟨new,f,g,o⟩:=h;have s:(HB i.size (Nat.min k n) (.slice q k l)).run P w= .ok ⟨new⟩ w:=sY f;refine⟨_, _,?_,o⟩;unfold S6;have h0:(#[t,u]:Array A_)[0]? =some t:=rfl;simp only[h0,Ms,In,My,AX,a8 d,B1,cG hi,PB,B2,s];cases p with
 |none=>
  simp only[B2,fo,goInt]
 |some a=>
  rcases g with h|rfl|⟨⟨A,v,hc⟩,x⟩
  ·cases h
  ·simp[storeCells,fo,putAt,goInt]
  ·cases v;have y:=gP (P:=P) new a 0 w x (λj z=>by simpa using hc j z);simp only[AX,y,B1,B2,goInt];rfl
theorem BX {ts:Array A_} {t u e A:A_} {i:TypeInfo} {z:A2} {ty:A_} {p q:Option A9} {n m k l:Nat} (B:ts= #[t,u]) (g:P.underlying t=some (.slice e)) (o:P.underlying u=some (.slice A))
 (hi:P.info? e=some i) (C:i.zero=some z) (hb:i.bytes≠0) {w:A1} {R:Option A9×Nat×Nat->A1->Prop} (h:vp w e i.size i.bytes z.cells (p,n,m) (q,k,l) R):
 ∃r s,(PE ts ty #[.slice p n m,.slice q k l]).run P w= .ok (.slice r.1 r.2.1 r.2.2) s/\R r s:=by
 subst B;obtain⟨gm,new,D,v,E,F⟩:=h;have G:(HB i.size k (.slice q k l)).run P w= .ok ⟨new⟩ w:=sY v;by_cases b:n+k<=m
 ·obtain⟨H,d⟩:=E b;refine⟨_, _,?_,d⟩;unfold PE;have h0:(#[t,u]:Array A_)[0]? =some t:=rfl;have f:(#[t,u]:Array A_)[1]? =some u:=rfl;simp only[h0,f,Ms,In,My,AX,a8 g,a8 o,B1,cG hi,PB,B2,Et,if_false,b,if_true,PO,G];cases p with
  |none=>
   simp only[B2,fo,Rg]
  |some a=>
   rcases H with rfl|⟨⟨U,x,hc⟩,I⟩
   ·simp[storeCells,fo,putAt]
   ·simp only[H7,Bo] at x;subst x;have J:=gP (P:=P) new (a.add (n*i.size)) 0 w I (λj K=>by simpa using hc j K);rw[AX,J];rfl
 ·obtain⟨L,d⟩:=F (by show m<n+k;omega);have M:=λc hc=>d c hc;have N: ∀(y:Nat),n+k<=(Question.appendCap (n+k) m e).cut y:=λy=>by simp[Question.cut]
  refine⟨_, _,?_,M ((Question.appendCap (n+k) m e).cut (w.tape w.drawn (.appendCap (n+k) m e))) (N _)⟩;unfold PE;have h0:(#[t,u]:Array A_)[0]? =some t:=rfl;have f:(#[t,u]:Array A_)[1]? =some u:=rfl;have O: ¬ (((n+k:Nat):Int)>H9.max/\(False\/i.bytes=0)):=by simp[hb]
  have Q: ¬ (S5 (n+k) m*i.bytes>2 ^ 48):=by simp only at L;omega
  have S:(HB i.size n (.slice p n m)).run P w.drew= .ok ⟨gm⟩ w.drew:=sY (z5 D);have T:(HB i.size k (.slice q k l)).run P w.drew= .ok ⟨new⟩ w.drew:=sY (z5 v);simp only[h0,f,Ms,In,My,AX,a8 g,a8 o,B1,cG hi,PB,B2,Et,if_false,b,PO,if_true,
   eO hi]
  rw[if_neg O];simp only[AX,eO hi,B1,Q,if_false,run_choose_drew,Question.forced,Et,run_askRoom,S,T,zeroValue,C,newRow,B2,run_newObj_alloc];rfl
theorem vm {t e:A_} {i:TypeInfo} {z:A2} {len:Nat} {parts:Array (Nat×A2)} {ps:List (Nat×A2)} {cs:Array A2} (f:P.underlying t=some (.slice e)) (hi:P.info? e=some i) (g:i.zero=some z)
 (d:parts.toList=ps) (h:wi (λk=>some (k*i.size,i.size)) ⟨(Bb (len*i.size)).map (z.cells.toList[· % z.cells.toList.length]!)⟩ ps=some cs) (m:len*i.size<=2 ^ 24) (w:A1):
 (Qz t len parts).run P w= .ok (.slice (some ⟨w.heap.size,0,none⟩) len len) (w.alloc (.cells cs e)):=by
 have j: ¬ len*i.size>2 ^ 24:=by omega
 have b:Hc (λk=>some (k*i.size,i.size)) ((OS (len*i.size)).map ((if len*i.size=0 then #[] else z.cells)[· % (if len*i.size=0 then #[] else z.cells).size]!)) ps=some cs:=by
  rw[<-um h];congr 1;by_cases h0:len*i.size=0
  ·simp[h0]
  ·apply Hz;simp[h0,Array.toList_map,Array.toList_range];intro a _;rw[Array.getElem!_eq_getD,GS]
 unfold Qz;simp only[AX,a8 f,B1,cG hi,j,if_false,newRow];by_cases c:len*i.size=0
 ·rw[c] at b;simp only[c,if_true,d];have l:OS 0= #[]:=rfl;rw[l] at b ⊢;simp only[Array.map_empty] at b ⊢;simp[b]
 ·simp only[c,if_false] at b;simp only[c,if_false,zeroValue,AX,eO hi,B1,g,B2,d,b];simp
theorem cv {r:Option Nat} {ev:Operand->A2} {o:Oper} (h: ∀c,o.op≠ .defer c):o.semAt (WF r).round ev=execOp ev o:=Oper.semAt_eq _ _ _ h
variable {S:Nat->Option (Option A2)} {ops:Array Oper} {N:Nat} {D:List Deferred} {env:List bC} {a:Act}
def dj (o:Oper):Bool:=
 match o.op with
 | .alloc _| .box .. | .buildSlice .. | .makeSlice .. | .makeMap .. | .makeChan .. =>true
 | _=>false
def xP (C:dn P) (o:Oper):Bool:=
 match o.op with
 | .move _| .assign _| .pick .. | .alloc _| .box .. | .buildSlice .. | .makeSlice .. | .makeMap .. | .makeChan .. | .build .. | .load .. | .nilCheck _| .binOp .. | .unOp .. | .convert .. | .makeFunc .. | .slice .. | .fieldAddr .. | .field .. | .indexAddr .. | .index .. | .extract .. | .lookup .. =>false
 | .call c=>match c.callee with
   | .value (.func f)=> !((o7 C.oG f).isSome||C.quiet.contains f)
   | .builtin .len| .builtin .min| .builtin .max=>false
   | _=>true
 | _=>true
theorem Jt {C:dn P} {ρ:Operand->Option A2} {o:Oper} (d: ∀f,ρ (.func f)=some (.func (.func f) #[] #[])) (h:xP C o=false) (a:Ie C ρ o=true):dj o=true:=by
 obtain⟨dst,op,type,pos,after,guard⟩:=o;cases op<;>simp only[xP,Ie,dj] at h a ⊢ <;>(try (simp at h a;done))
 case call c=>
  obtain⟨callee,args,ts⟩:=c;cases callee with
  |value f=>
   cases f with
   |func f=>
    simp only[d] at a;have e:(!((o7 C.oG f).isSome||C.quiet.contains f))=true:=by
     cases g:C.So<;>rw[g] at a<;>exact a
    exact absurd (h.symm.trans e) Bool.false_ne_true
   | _=>simp at h
  |builtin b=>cases b<;>simp at h a
  | _=>simp at a
theorem BY {P:AC} {ts:Array A_} {ty t u e k:A_} {kd:B3} {n:Int} {w:A1} {r:Nat} {es:Array Do} {c:Nat} {K:A1->Prop} (l:ts= #[t,u]) (f:P.underlying t=some (.map e k)) (a:P.underlying e=some (.int kd)) (hb:bE w r es c)
 (h:HF w r kd n es c K): ∃g,(PG ts ty #[.map (some r),.int kd n]).run P w= .ok (.tuple #[]) g/\K g:=by
 subst l;have b:w.heap[r]? =some (.map es c):=hb;have j:EE (.int kd) (.int kd n):=by simp[EE]
 unfold HF at h;split at h
 ·rename_i d;refine⟨_,?_,h⟩;simp[PG,run_underlying f,Dn b,EF a j,EH a d,M4 _ b,Bp,Es]
 ·rename_i i v d;refine⟨_,?_,h⟩;simp[PG,run_underlying f,Dn b,EF a j,EH a d,M4 _ b,Bp,Es]
 ·exact h.elim
theorem QX {r:Option Nat} {o:Oper} {w w':A1} {K:A2->A1->Prop} {next:Act->A1->Prop} {Q:Exit->Act->A1->Prop} (A:Fit S ops N D env a)
 {C:dn P} (h:V6 C (sq env []) o w K) (H:Ext w w') (G: ∀v J,K v J->(dj o=true->Ext w' J)->next (a.put o.dst v) J):o.wpIn (WF r) 0 P a w' next Q:=by
 have hc:ib ops a.tmps []:=λx g=>by cases g
 refine⟨λ_ _=>trivial,?_⟩;obtain⟨dst,op,type,pos,after,guard⟩:=o;unfold V6 at h;cases op<;>simp only at h<;>(try exact A3 h)
 case store t x y=>
  rw[cv (by simp)];split at h
  ·rename_i p v i g hy hi;split at h
   ·rename_i R;obtain⟨⟨ho,a0,hp,QY⟩,E⟩:=h w' H;subst hp;have kN:v.cells.size=i.size:=by simpa[qE] using R
    have qu:=gP (P:=P) (qE v) a0 0 w' ho (λj hj=>by simpa using QY j hj);have:(execOp a.eval ⟨dst,.store t x y,type,pos,after,guard⟩).run P w'= .ok .skip (fo w' (some a0) (qE v)):=by
     simp only[execOp,Instr.storeAt,A.ev hc g,A.ev hc hy,Hf,storeVar,AX,B2,B1,cG hi,kN,ne_eq,not_true,if_false];rw[show v.cells.toList=qE v from rfl,qu];rfl
    rw[this];exact G _ _ E (λB=>by simp[dj] at B)
   ·exact A3 h
  ·exact A3 h
 case mapUpdate t m x v=>
  rw[cv (by simp)];split at h
  ·rename_i kt T p kd n val I U g hv;split at h
   ·rename_i Sr V;split at h
    ·rename_i W;subst W;obtain⟨r,es,M,rfl,hb,X⟩:=h w' H;obtain⟨J,dp,E⟩:=wD I V hb X;have:(execOp a.eval ⟨dst,.mapUpdate t m x v,type,pos,after,guard⟩).run P w'= .ok .skip J:=by
      simp only[execOp,AX,A.ev hc U,A.ev hc g,A.ev hc hv,dp,B1,B2]
     rw[this];exact G _ _ E (λB=>by simp[dj] at B)
    ·exact A3 h
   ·exact A3 h
  ·exact A3 h
 case insert t m x v=>
  rw[cv (by simp)];split at h
  ·rename_i kt T p kd n val I U g hv;split at h
   ·rename_i Sr V;split at h
    ·rename_i W;subst W;obtain⟨r,es,M,rfl,hb,X⟩:=h w' H;obtain⟨J,dp,E⟩:=wD I V hb X;have:(execOp a.eval ⟨dst,.insert t m x v,type,pos,after,guard⟩).run P w'= .ok .skip J:=by
      simp only[execOp,AX,A.ev hc U,A.ev hc g,A.ev hc hv,dp,B1,B2]
     rw[this];exact G _ _ E (λB=>by simp[dj] at B)
    ·exact A3 h
   ·exact A3 h
  ·exact A3 h
 case alloc e=>
  rw[cv (by simp)];split at h
  ·rename_i i hi;split at h
   ·rename_i z O;have h:aA w z.cells e (λb J=>K (.pointer (some ⟨b,0,none⟩)) J):=by
     have e1:Qr P e=z.cells:=by unfold Qr;simp only[hi,O]
     split at h
     ·rw[e1] at h;exact h
     ·exact h
    have E:=h w' H;have:(execOp a.eval ⟨dst,.alloc e,type,pos,after,guard⟩).run P w'= .ok (.value (.pointer (some ⟨w'.heap.size,0,none⟩))) (w'.alloc (.cells z.cells e)):=by
     simp[execOp,Instr.alloc,zeroValue,eO hi,O,newVar,newRow]
    rw[this];exact G _ _ E (λ_=>Ext.alloc _ _)
   ·exact A3 h
  ·exact A3 h
 case box e x=>
  rw[cv (by simp)];split at h
  ·rename_i v hv;have E:=h w' H;have:(execOp a.eval ⟨dst,.box e x,type,pos,after,guard⟩).run P w'= .ok (.value (.pointer (some ⟨w'.heap.size,0,none⟩))) (w'.alloc (.cells v.cells e)):=by
    simp[execOp,Instr.box,A.ev hc hv,newVar,newRow]
   rw[this];exact G _ _ E (λ_=>Ext.alloc _ _)
  ·exact A3 h
 case buildSlice t len parts=>
  rw[cv (by simp)];split at h
  ·rename_i el ps I SV;split at h
   ·rename_i i hi;split at h
    ·rename_i z O;split at h
     ·rename_i cs gQ;split at h
      ·rename_i hlen;have E:=h w' H;have e:=uo (λx v g=>A.ev hc g) SV;have e':(parts.map λ(i,x)=>(i,a.eval x)).toList=ps:=by rw[<-e];simp
       have dp:=vm (P:=P) I hi O e' gQ hlen w';have:(execOp a.eval ⟨dst,.buildSlice t len parts,type,pos,after,guard⟩).run P w'= .ok (.value (.slice (some ⟨w'.heap.size,0,none⟩) len len)) (w'.alloc (.cells cs el)):=by
        simp only[execOp,AX,dp,B1,B2]
       rw[this];exact G _ _ E (λ_=>Ext.alloc _ _)
      ·exact A3 h
     ·exact A3 h
    ·exact A3 h
   ·exact A3 h
  ·exact A3 h
 case makeSlice t l c=>
  rw[cv (by simp)];split at h
  ·rename_i el k n k' m I hl V8;split at h
   ·rename_i i hi;split at h
    ·rename_i z O;obtain⟨ia,E⟩:=h w' H;have dp:=run_makeSlice (P:=P) I hi O k k' ia w';have:(execOp a.eval ⟨dst,.makeSlice t l c,type,pos,after,guard⟩).run P w'= .ok (.value (.slice (some ⟨w'.heap.size,0,none⟩) n.toNat m.toNat)) (w'.alloc (.cells (k8 z.cells (m.toNat*i.size)) el)):=by
      simp only[execOp,A.ev hc hl,A.ev hc V8,AX,dp,B1,B2]
     rw[this];exact G _ _ E (λ_=>Ext.alloc _ _)
    ·exact A3 h
   ·exact A3 h
  ·exact A3 h
 case makeMap t rs=>
  rw[cv (by simp)];split at h
  ·have E:=h w' H;have:(execOp a.eval ⟨dst,.makeMap t none,type,pos,after,guard⟩).run P w'= .ok (.value (.map (some w'.heap.size))) (w'.alloc (.map #[] 0)):=by
    simp[execOp,Instr.makeMap]
   rw[this];exact G _ _ E (λ_=>Ext.alloc _ _)
  ·exact A3 h
 case makeChan t sz=>
  rw[cv (by simp)];split at h
  ·rename_i d e k n I R;split at h
   ·rename_i i hi;split at h
    ·rename_i hn;have E:=h w' H;have hb: ¬ (n<0\/n>H9.max\/i.bytes*n>2 ^ 48 - 112):=by
      have:H9.max=9223372036854775807:=by decide
      omega
     have:(execOp a.eval ⟨dst,.makeChan t sz,type,pos,after,guard⟩).run P w'= .ok (.value (.chan (some w'.heap.size))) (w'.alloc (.chan n.toNat #[] false 0 0 false)):=by
      have nU: ¬ (n<0\/9223372036854775807<n\/281474976710544<(i.bytes:Int)*n):=by omega
      simp[execOp,Instr.makeChan,A.ev hc R,asInt,asIntOf,run_underlying I,eO hi];exact λc=>absurd c nU
     rw[this];exact G _ _ E (λ_=>Ext.alloc _ _)
    ·exact A3 h
   ·exact A3 h
  ·exact A3 h
 case range xt x=>
  rw[cv (by simp)];split at h
  ·rename_i kt T p I g;obtain⟨r,es,M,rfl,hb,E⟩:=h w' H;have nU:w'.heap[r]? =some (.map es M):=hb;have:(execOp a.eval ⟨dst,.range xt x,type,pos,after,guard⟩).run P w'= .ok (.value (.pointer (some ⟨w'.heap.size,0,none⟩))) (w'.alloc (.mapIter (some r) M #[] M)):=by
    simp[execOp,Instr.range,A.ev hc g,run_underlying I,Dn nU,Bp]
   rw[this];exact G _ _ E (λB=>by simp[dj] at B)
  ·rename_i s I g;have:(execOp a.eval ⟨dst,.range xt x,type,pos,after,guard⟩).run P w'= .ok (.value (.pointer (some ⟨w'.heap.size,0,none⟩))) (w'.alloc (.stringIter s 0)):=by
    simp[execOp,Instr.range,A.ev hc g,run_underlying I,Bp]
   rw[this];exact G _ _ (h w' H) (λB=>by simp[dj] at B)
  ·exact A3 h
 case next it b=>
  rw[cv (by simp)];split at h
  ·rename_i p g;obtain⟨r,m,since,seen,last,es,M,rfl,hr,hb,su,hold,k0,k1⟩:=h w' H;rcases run_next_at (P:=P) w' type r m since last seen es M hr hb hold su with ⟨h0,dp⟩|⟨e,L,w1,sv,dp⟩
   ·have:(execOp a.eval ⟨dst,.next it false,type,pos,after,guard⟩).run P w'= .ok (.value (.tuple ⟨[.bool false]⟩)) w':=by
     simp only[execOp,AX,A.ev hc g,dp,B1,B2]
    rw[this];refine G _ _ (k0 (λe L=>?_) w' (Ext.refl _)) (λB=>by simp[dj] at B);unfold leftOf at h0;have h1:=Array.eq_empty_of_size_eq_zero h0;rw[Array.filter_eq_empty_iff] at h1;simpa using h1 e (by simpa using L)
   ·have:(execOp a.eval ⟨dst,.next it false,type,pos,after,guard⟩).run P w'= .ok (.value (.tuple ⟨[.bool true,e.key,e.val]⟩)) (w1.putObj r (.mapIter (some m) since (seen.push e.born) M)):=by
     simp only[execOp,AX,A.ev hc g,dp,B1,B2];rfl
    rw[this];unfold leftOf at L;have ir:e∈es.toList/\seen.contains e.born=false:=by simpa using L
    refine G _ _ (k1 e ir.1 ir.2 w1 ?_) (λB=>by simp[dj] at B);rcases sv with rfl|rfl
    ·exact Ext.refl _
    ·exact⟨rfl,rfl,rfl,Di _,λk E=>rfl⟩
  ·rename_i p g;obtain⟨r,s,q,rfl,hr,k0,k1⟩:=h w' H;have rl:(getObj r).run P w'= .ok (.stringIter s q) w':=by simp[getObj,Sem.run,hr]
   by_cases hq:q<s.size
   ·have PA:(setObj r (.stringIter s (q+(Hr s q).2))).run P w'= .ok () (w'.putObj r (.stringIter s (q+(Hr s q).2))):=by simp[setObj,Sem.run,hr,Es]
    have:(execOp a.eval ⟨dst,.next it true,type,pos,after,guard⟩).run P w'= .ok (.value (.tuple ⟨[.bool true,.int .i64 q,.int .i32 (Hr s q).1]⟩)) (w'.putObj r (.stringIter s (q+(Hr s q).2))):=by
     simp[execOp,Instr.next,A.ev hc g,rl,hq,PA,goInt,Bp]
    rw[this];exact G _ _ (k1 hq) (λB=>by simp[dj] at B)
   ·have:(execOp a.eval ⟨dst,.next it true,type,pos,after,guard⟩).run P w'= .ok (.value (.tuple ⟨[.bool false]⟩)) w':=by
     simp[execOp,Instr.next,A.ev hc g,rl,hq,Bp]
    rw[this];exact G _ _ (k0 hq) (λB=>by simp[dj] at B)
  ·exact A3 h
 case call c=>
  obtain⟨callee,args,ts⟩:=c;rw[cv (by simp)];simp only at h;split at h
  ·
   split at h
   ·rename_i m x t u Ig TE;split at h
    ·rename_i kt T p kd n I U g;split at h
     ·rename_i Sr V;split at h
      ·rename_i W;subst W;obtain⟨r,es,M,rfl,hb,X⟩:=h w' H;have Y:args= #[m,x]:=by cases args;simp_all
       have Zz:ts= #[t,u]:=by cases ts;simp_all
       obtain⟨J,dp,E⟩:=BY (P:=P) (ty:=type) Zz I V hb X;have:(execOp a.eval ⟨dst,.call ⟨.builtin .delete,args,ts⟩,type,pos,after,guard⟩).run P w'= .ok (.value (.tuple ⟨[]⟩)) J:=by
        subst Y;simp only[execOp,resolve,AX,B2,B1,invoke,builtin,Ix,HO,J3,A.ev hc U,A.ev hc g,dp]
       rw[this];exact G _ _ E (λB=>by simp[dj] at B)
      ·exact A3 h
     ·exact A3 h
    ·exact A3 h
   ·exact A3 h
  ·
   split at h
   ·rename_i s x t u Ig TE;split at h
    ·rename_i e ue p n m q k l I Vh R g;split at h
     ·rename_i i hi;split at h
      ·rename_i z O;split at h
       ·exact A3 h
       ·rename_i hb;have PC:=h w' H;have Y:args= #[s,x]:=by cases args;simp_all
        have T:ts= #[t,u]:=by cases ts;simp_all
        obtain⟨res,J,dp,Z⟩:=BX (P:=P) (ty:=type) T I Vh hi O hb PC;have:(execOp a.eval ⟨dst,.call ⟨.builtin .append,args,ts⟩,type,pos,after,guard⟩).run P w'= .ok (.value (.slice res.1 res.2.1 res.2.2)) J:=by
         subst Y;simp only[execOp,resolve,AX,B2,B1,invoke,builtin,Ix,HO,J3,A.ev hc R,A.ev hc g,dp]
        rw[this];exact G _ _ Z (λB=>by simp[dj] at B)
      ·exact A3 h
     ·exact A3 h
    ·exact A3 h
   ·exact A3 h
  ·
   split at h
   ·rename_i s x t u Ig TE;split at h
    ·rename_i e p n m q k l I R g;split at h
     ·rename_i i hi;have PC:=h w' H;have Y:args= #[s,x]:=by cases args;simp_all
      have T:ts= #[t,u]:=by cases ts;simp_all
      obtain⟨res,J,dp,Z⟩:=Js (P:=P) (ty:=type) (m:=m) (l:=l) T I hi PC;have:(execOp a.eval ⟨dst,.call ⟨.builtin .copy,args,ts⟩,type,pos,after,guard⟩).run P w'= .ok (.value (.int .i64 res)) J:=by
       subst Y;simp only[execOp,resolve,AX,B2,B1,invoke,builtin,Ix,HO,J3,A.ev hc R,A.ev hc g,dp]
      rw[this];exact G _ _ Z (λB=>by simp[dj] at B)
     ·exact A3 h
    ·exact A3 h
   ·exact A3 h
  ·rename_i f;split at h
   ·
    rename_i s t;split at h
    ·rename_i v aaj hf has;obtain⟨fU,first,cap,rfl,sO,E⟩:=h w' H;have dp:=pF (P:=P) (dst:=dst) (type:=type) (pos:=pos) (after:=after) (guard:=guard) (ts:=ts) (A.ev hc hf) (jO (λx v g=>A.ev hc g) has) (w:=w') sO;rw[dp];refine⟨by simp[WF,Eo],?_⟩;refine(h_ (n:=0 - 1)).2 ?_;refine Hq E λe J ⟨x,L,g⟩=>?_;subst L;exact G _ _ g (λB=>by simp[dj] at B)
    ·exact A3 h
   rename_i f _ _ _;split at h
   ·
    rename_i l first cp aaj hf has
    obtain⟨rec,tA,hlen,QZ⟩:=h w' H;have e:(first++args.map a.eval:Array A2)=⟨first.toList++aaj⟩:=by
     have:=jO (λx v g=>A.ev hc g) has;rw[<-this];obtain⟨l1⟩:=first;obtain⟨l2⟩:=args
     simp
    have dp:=run_yield (P:=P) (args:=⟨first.toList++aaj⟩) tA (by simpa using hlen);have:(execOp a.eval ⟨dst,.call ⟨.value f,args,ts⟩,type,pos,after,guard⟩).run P w'= .ok (.round l rec.fn ((rec.params.zip ⟨first.toList++aaj⟩).foldl (λtmps (t,a)=>tmps.setIfInBounds t a) rec.tmps) rec.assign rec.body) w':=by
     simp only[execOp,resolve,Deferred.ofValue,A.ev hc hf,AX,B2,B1,invoke];rw[e,dp]
    rw[this];refine⟨by simp[WF,Eo],?_⟩;refine RoundIn.mono (F:=WF r) (n:=0 - 1) QZ λe J ⟨b,L,Z⟩=>?_;subst L;exact G _ _ Z (λB=>by simp[dj] at B)
   ·rename_i fU first cap aaj hf has
    split at h
    ·rename_i sO;have E:=h w' H;have dp:=pF (P:=P) (dst:=dst) (type:=type) (pos:=pos) (after:=after) (guard:=guard) (ts:=ts) (A.ev hc hf) (jO (λx v g=>A.ev hc g) has) (w:=w') sO;rw[dp];refine⟨by simp[WF,Eo],?_⟩;refine(h_ (n:=0 - 1)).2 ?_;refine Hq E λe J ⟨x,L,g⟩=>?_;subst L;exact G _ _ g (λB=>by simp[dj] at B)
    ·exact A3 h
   ·exact A3 h
  ·exact A3 h
theorem wE {o:Oper} {c:Call} (b:o.op= .defer c) {w:A1} {v:A2} (h:cB P o a w v):False:=by
 obtain⟨dst,op,type,pos,after,guard⟩:=o;simp only at b;subst b;unfold cB execOp at h;simp only[AX] at h;generalize (resolve a.eval c type).run P w=res at h;cases res<;>simp at h
def Wr (S:Nat->Option (Option A2)) (ops:Array Oper):Prop:= ∀o∈ops, ∀k,o.dst=some k->S k=none
theorem yN {α:Type} {l:List α} (h:l.getLast?=none):l=[]:=List.getLast?_eq_none_iff.1 h
theorem ur {r:Option Nat} {C:dn P} {i:Nat} {o:Oper} {Q:Exit->Act->A1->Prop} (y:ops[i]? =some o) (l: ∀k,o.dst=some k->S k=none):
 ∀(n:Nat) (env:List bC) (w w':A1) (K:List bC->A1->Prop),Fit S ops N D env a->HG C ops N o n env w K->Ext w w'->
 wpOpIn (WF r) 0 P ops Q i (λa1 w1=>(xP C o=false->Ext w' w1)/\ ∃cn H,K cn H/\Fit S ops N D cn a1/\Ext H w1) a w'
 |0, _, _, _, _, _,h, _=>A3 h
 |n+1,env,w,w',K,b,h,j=>by
  simp only[HG,k9,g8] at h;split at h
  ·exact A3 h
  ·rename_i E;have z:=yn b E;split at h
   ·rename_i s;unfold wpOpIn;simp only[y];rw[if_neg (by rw[z];simp)];exact⟨λ_ _=>trivial,λ_=>Ext.refl _, _,w,h,b.put s l rfl (λ_=>rfl) (λm=>absurd c8 m),j⟩
   ·exact A3 h
  ·rename_i ch g E;obtain⟨A,z⟩:=If b E;split at h
   ·rename_i s;split at h
    ·rename_i L;split at h
     ·rename_i M;have:ch=[]:=yN M;subst this;unfold wpOpIn;simp only[y];rw[if_pos (z.2 c8)];refine QX b h j λv F p q=>⟨λO=>q (Jt (C:=C) (ρ:=sq env []) (λ_=>rfl) O L), _,F,p,?_,Ext.refl _⟩;exact b.put s l rfl (λ_=>rfl) (λm=>absurd c8 m)
     ·split at h
      ·rename_i d I;split at h
       ·rename_i e B;split at h
        ·rename_i x q;split at h
         ·rename_i R;have J:e.ch=[]:=by simpa using R
          cases x with
          |true=>exact ur y l n _ w w' K (b.settle I B J q) h j
          |false=>exact ur y l n _ w w' K (b.settle I B J q) h j
         ·exact A3 h
        ·exact A3 h
       ·exact A3 h
      ·exact A3 h
    ·obtain⟨v,p,T⟩:=uc b A h;replace p:=ov p;unfold wpOpIn;simp only[y];by_cases hc:ib ops a.tmps ch
     ·rw[if_pos (z.2 hc)];have t:=T hc w' j;have U: ∀c,o.op≠ .defer c:=by
       intro c V;exact wE V t
      refine⟨λ_ _=>trivial,?_⟩;rw[cv U];unfold cB at t;split at t
      ·rename_i u F dp;obtain⟨rfl,rfl⟩:=t;rw[dp];exact⟨λ_=>Ext.refl _, _,w,p,b.put s l A (λ_=>rfl) (λm=>absurd hc m),j⟩
      ·rename_i f args F dp;obtain⟨rfl,W⟩:=t;rw[dp];refine⟨by simp[WF,Eo],(h_ (n:=0 - 1)).2 ?_⟩;refine Hq W λe X ⟨B,q⟩=>?_;subst B;exact⟨λ_=>q, _,w,p,b.put s l A (λ_=>rfl) (λm=>absurd hc m),j.trans q⟩
      ·exact t.elim
     ·rw[if_neg (λG=>hc (z.1 G))];exact⟨λ_ _=>trivial,λ_=>Ext.refl _, _,w,p,b.put s l A (λG=>absurd G hc) (λ_=>rfl),j⟩
   ·exact A3 h
theorem z6 {r:Option Nat} {C:dn P} {i:Nat} {w w':A1} {K:List bC->A1->Prop} {Q:Exit->Act->A1->Prop} (d:Wr S ops) (e:Fit S ops N D env a)
 (h:zn C ops N i env w K) (f:Ext w w'):wpOpIn (WF r) 0 P ops Q i (λa1 w1=>(((ops[i]?).map (xP C)).getD true=false->Ext w' w1)/\ ∃cn c,K cn c/\Fit S ops N D cn a1/\Ext c w1) a w':=by
 unfold zn at h;cases b:ops[i]? with
 |none=>simp[b] at h
 |some o=>
  simp only[b] at h ⊢;have:=ur (r:=r) (Q:=Q) b (d o (HQ b)) 40 env w w' K e h f;simpa using this
theorem IC {r:Option Nat} {C:dn P} {Q:Exit->Act->A1->Prop} (e:Wr S ops): ∀(l:List Nat) (env:List bC) (a:Act) (w w':A1) (K:List bC->A1->Prop),Fit S ops N D env a->
 V7 C ops N l env w K->Ext w w'->(∀env a w w',K env w->Fit S ops N D env a->Ext w w'->Q .normal a w')->wpOpsIn (WF r) 0 P ops Q l a w'
 |[],env,a,w,w',K,b,h,c,d=>d env a w w' h b c
 |i::l,env,a,w,w',K,b,h,c,d=>by
  rw[wpOpsIn_cons];exact wpOpIn_mono (λa1 w1 ⟨_,cn,f,g,j,k⟩=>IC e l cn a1 f w1 K j g k d) (z6 e b h c)
variable {P:AC}
def j0 (r:Option Nat) (P:AC) (ops:Array Oper) (Q:Exit->Act->A1->Prop) (CZ:Nat->Bool) (T:Nat->A1->Prop):Nat->Array Bool->Act->A1->Prop
 |0,b,a,w=> ∀w',Ext w w'->B4 .any ops b=[]/\Q .normal a w'
 |fuel+1,b,a,w=> ∀w',Ext w w'->(B4 .any ops b=[]->Q .normal a w')/\
  ∀i∈B4 .any ops b,wpOpIn (WF r) 0 P ops Q i (λa1 w1=>(CZ i=false->Ext w' w1)/\(CZ i=true->T i w1)/\j0 r P ops Q CZ T fuel (b.setIfInBounds i true) a1 w1) a w'
section
variable {r:Option Nat} {ops:Array Oper} {Q:Exit->Act->A1->Prop} {CZ:Nat->Bool} {T:Nat->A1->Prop}
theorem lq {b:Nat} {d:Array Bool} {a:Act} {w w':A1} (h:j0 r P ops Q CZ T b d a w) (e:Ext w w'):j0 r P ops Q CZ T b d a w':=by
 cases b with
 |zero=>exact λc h2=>h c (e.trans h2)
 |succ n=>exact λc h2=>h c (e.trans h2)
theorem uV: ∀(fuel:Nat) (b:Array Bool) (a:Act) (w:A1),j0 r P ops Q CZ T fuel b a w->wpAnyIn (WF r) 0 P .any ops Q fuel b a w
 |0, _, _,w,h=>h w (Ext.refl w)
 |fuel+1, _, _,w,h=>⟨(h w (Ext.refl w)).1,λi hi=>wpOpIn_mono (λa1 w1 c=>uV fuel _ a1 w1 c.2.2) ((h w (Ext.refl w)).2 i hi)⟩
theorem mz {T T':Nat->A1->Prop} (c: ∀j w,T' j w->T j w): ∀(fuel:Nat) (d:Array Bool) (a:Act) (w:A1),j0 r P ops Q CZ T' fuel d a w->j0 r P ops Q CZ T fuel d a w
 |0, _, _, _,h=>h
 |fuel+1, _, _, _,h=>λw' e=>⟨(h w' e).1,λi hi=>wpOpIn_mono (λa1 w1 b=>⟨b.1,λf=>c _ _ (b.2.1 f),mz c fuel _ a1 w1 b.2.2⟩) ((h w' e).2 i hi)⟩
def fh (P:AC) (ops:Array Oper) (o:Oper) (v:A2) (a:Act) (w:A1):Prop:=
 (Bg o (yielded ops a.tmps)=true/\ ∀w',Ext w w'->cB P o a w' v)\/
 (Bg o (yielded ops a.tmps)=false/\v=undef)
theorem fh.of_same {o:Oper} {v:A2} {a b:Act} {w:A1} (c:fh P ops o v a w) (d:execOp b.eval o=execOp a.eval o)
 (e:Bg o (yielded ops b.tmps)=Bg o (yielded ops a.tmps)):fh P ops o v b w:=by
 unfold fh cB at*
 rw[d,e];exact c
theorem fh.op {i:Nat} {o:Oper} {v:A2} {a:Act} {w w':A1} (hi:ops[i]? =some o) (g:fh P ops o v a w) (j:Ext w w') {K:Act->A1->Prop}
 (h: ∀w1,Ext w' w1->K (a.put o.dst v) w1):wpOpIn (WF r) 0 P ops Q i K a w':=by
 unfold wpOpIn;simp only[hi];rcases g with ⟨d,k⟩|⟨d,rfl⟩
 ·rw[if_pos d];have b:=k w' j;refine⟨λ_ _=>trivial,?_⟩;rw[cv (λc l=>wE l b)];unfold cB at b;split at b
  ·rename_i u m dp;obtain⟨rfl,rfl⟩:=b;rw[dp];exact h _ (Ext.refl _)
  ·rename_i f args m dp;obtain⟨rfl,p⟩:=b;rw[dp];refine⟨by simp[WF,Eo],(h_ (n:=0 - 1)).2 ?_⟩;refine Hq p λe t ⟨q,s⟩=>?_;subst q;exact h _ s
  ·exact b.elim
 ·rw[if_neg (by rw[d];simp)];exact⟨λ_ _=>trivial,h _ (Ext.refl _)⟩
def ud (ops:Array Oper) (o:Oper) (a a0:Act):Prop:=execOp a.eval o=execOp a0.eval o/\Bg o (yielded ops a.tmps)=Bg o (yielded ops a0.tmps)
theorem EO {j:Nat} {g k:Oper} {v:A2} {a0:Act} (y:ops[j]? =some k) (z:g.apart ops k=true)
 (A: ∀cs b,g.op≠ .select cs b) (B: ∀cs b,k.op≠ .select cs b) (p: ∀c,k.op≠ .defer c)
 (n: ∀c a w,¬ Q (.panic c) a w) {K:Act->A1->Prop} {a:Act} {w':A1}
 (i:ud ops g a a0) (h:wpOpIn (WF r) 0 P ops Q j K (a.put g.dst v) w'):
 wpOpIn (WF r) 0 P ops Q j (λa1 w1=>ud ops g a1 a0/\K (a1.put g.dst v) w1) a w':=by
 obtain⟨q,h2,s⟩:=Oper.apart_spec z;have eK: ∀(a:Act),ud ops g a a0-> ∀u,ud ops g (a.put k.dst u) a0:=λa i u=>
  ⟨(execOp_put g A a k.dst u s).trans i.1,(wanted_put g a k.dst u s).trans i.2⟩
 unfold wpOpIn at*
 simp only[y] at*
 rw[wanted_put k a g.dst v q] at h;split
 ·rename_i o;simp only[o,if_true] at h;unfold Oper.wpIn at*
  refine⟨λ_ _=>trivial,?_⟩;have h:=h.2;rw[cv p,execOp_put k B a g.dst v q] at h;rw[cv p];generalize (execOp a.eval k).run P w'=res at*
  cases res with
  |ok x C=>
   cases x<;>simp only[Oper.uponIn] at h ⊢
   case value u=>exact⟨eK a i u,by rw[<-H4 a v u h2];exact h⟩
   case skip=>exact⟨eK a i _,by rw[<-H4 a v undef h2];exact h⟩
   case defer d=>
    refine⟨eK ({a with defers:=d::a.defers}:Act) ⟨i.1,i.2⟩ undef,?_⟩;rw[<-H4 _ v undef h2, <-Act.put_defers];exact h
   case enter f args=>
    refine⟨h.1,CallsIn.mono h.2 λe t m=>?_⟩;cases e with
    |returned u=>exact⟨eK a i u,by rw[<-H4 a v u h2];exact m⟩
    |panicked c=>exact absurd m (n _ _ _)
    |outgrown=>exact m
   case row row args=>exact⟨h.1,RowsIn.mono h.2 λu t m=>⟨eK a i u,by rw[<-H4 a v u h2];exact m⟩⟩
   case round l f tmps assign body=>
    refine⟨h.1,RoundIn.mono h.2 λe t m=>?_⟩;cases e with
    |returned u=>exact⟨eK a i u,by rw[<-H4 a v u h2];exact m⟩
    |panicked c=>exact absurd m (n _ _ _)
    |outgrown=>exact m
  |halt x C=>
   cases x<;>simp only[Oper.uponIn] at h ⊢
   case panic u=>exact absurd h (n _ _ _)
 ·rename_i o;simp only[o] at h;exact⟨λ_ _=>trivial,eK a i _,by rw[<-H4 a v undef h2];exact h.2⟩
def Vi (o:Oper):Bool:=match o.op with
 | .move _=>true
 | .assign _=>true
 | .extract .. =>true
 | _=>false
theorem fh.mf {o:Oper} {v:A2} {a:Act} {w w1:A1} (h:Vi o=true) (e:fh P ops o v a w):fh P ops o v a w1:=by
 obtain⟨dst,op,type,pos,after,guard⟩:=o;cases op with
 |move x=>
  rcases e with ⟨b,c⟩|d
  ·refine .inl ⟨b,λg _=>?_⟩;have:=c w (Ext.refl w);simp only[cB,execOp,B2] at this ⊢;exact⟨trivial,this.2⟩
  ·exact .inr d
 |assign x=>
  rcases e with ⟨b,c⟩|d
  ·refine .inl ⟨b,λg _=>?_⟩;have:=c w (Ext.refl w);simp only[cB,execOp,B2] at this ⊢;exact⟨trivial,this.2⟩
  ·exact .inr d
 |extract x k=>
  rcases e with ⟨b,c⟩|d
  ·refine .inl ⟨b,λg _=>?_⟩;have:=c w (Ext.refl w);cases f:a.eval x with
   |tuple i=>
    cases hv:i[k]? with
    |none=>simp[cB,execOp,MH,f,hv] at this
    |some u=>
     simp only[cB,execOp,MH,f,hv,AX,B2,B1] at this ⊢;exact⟨trivial,this.2⟩
   | _=>simp[cB,execOp,MH,f] at this
  ·exact .inr d
 | _=>cases h
theorem pV {i:Nat} {m:Oper} {v:A2} {W:Nat->Bool} {T T':Nat->A1->Prop} {a0:Act} (hi:ops[i]? =some m) (M:CZ i=false) (G: ∀(j:Nat) (o:Oper),ops[j]? =some o->(∀cs b,o.op≠ .select cs b)/\ ∀c,o.op≠ .defer c)
 (X: ∀c a w,¬ Q (.panic c) a w) (I: ∀j w,T' j w->T j w):
 ∀(x:Nat) (d:Array Bool) (a:Act) (w:A1),
  (∀j n,ops[j]? =some n->j≠i->d.getD j true=false->W j=false->m.apart ops n=true/\(CZ j=false\/Vi m=true\/ ∀w1,T' j w1->fh P ops m v a0 w1))->
  (∀j,W j=true->d.getD j true=false/\ ∃n,ops[j]? =some n/\ ∃e∈n.after,EA .any e=true/\(e.on=i\/W e.on=true))->
  i∈B4 .any ops d->ud ops m a a0->fh P ops m v a0 w->
  j0 r P ops Q CZ T' x (d.setIfInBounds i true) (a.put m.dst v) w->j0 r P ops Q CZ T (x+1) d a w:=by
 have nil: ∀(d:Array Bool),i∈B4 .any ops d->B4 .any ops d≠[]:=λl t h=>by rw[h] at t;cases t
 have N: ∀(d:Array Bool) (k:Nat),d.getD k true=false->d.getD k false=true->False:=λl k h0 g=>by
  rcases Nat.lt_or_ge k l.size with h'|h'
  ·simp[h'] at h0 g;rw[h0] at g;cases g
  ·simp[Array.getElem?_eq_none h'] at g
 intro x
 induction x with
 |zero=>
  intro d a w _ _ y u z H w' p;refine⟨λh=>absurd h (nil d y),λj C=>?_⟩;by_cases q:j=i
  ·subst q;refine(z.of_same u.1 u.2).op hi p λw1 g=>⟨λ_=>g,(λf=>by rw[M] at f;cases f),mz I _ _ _ _ (lq H (p.trans g))⟩
  ·have:=ready_mono C q;rw[(H w' p).1] at this;cases this
 |succ x Y=>
  intro d a w O J y u z H w' p;refine⟨λh=>absurd h (nil d y),λj C=>?_⟩;by_cases q:j=i
  ·subst q;refine(z.of_same u.1 u.2).op hi p λw1 g=>⟨λ_=>g,(λf=>by rw[M] at f;cases f),mz I _ _ _ _ (lq H (p.trans g))⟩
  ·have g:=(H w' p).2 j (ready_mono C q);obtain⟨R,n,A,Z⟩:=mem_ready.1 C;have XA:=(mem_ready.1 y).1;have K:W j=false:=by
    cases hW:W j with
    |false=>rfl
    |true=>
     obtain⟨_,oj',S,e,f,hb,B⟩:=J j hW;rw[A] at S;cases S;have t:=Z e f hb;rcases B with B|B
     ·rw[B] at t;exact(N d i XA t).elim
     ·exact(N d _ (J _ B).1 t).elim
   obtain⟨PC,s⟩:=O j n A q R K;have h2:=EO A PC (G i m hi).1 (G j n A).1 (G j n A).2 X u g;refine wpOpIn_mono (λa1 w1 h3=>?_) h2;obtain⟨PD,U,V,L⟩:=h3;refine⟨U,λf=>I _ _ (V f),?_⟩;refine Y (d.setIfInBounds j true) a1 w1 ?_ ?_ (ready_mono y (Ne.symm q)) PD ?_ ?_
   ·intro k ok L V' D E;refine O k ok L V' ?_ E;by_cases F:j=k
    ·subst F;exact R
    ·rw[getD_set_ne true F] at D;exact D
   ·intro k E;obtain⟨D,rest⟩:=J k E;refine⟨?_,rest⟩;have F:j≠k:=λe=>by rw[e,E] at K;cases K
    rw[getD_set_ne true F];exact D
   ·have gm:Ext w' w1->fh P ops m v a0 w1:=λy9=>by
     have ZC:=p.trans y9;rcases z with ⟨sv,Vl⟩|hn
     ·exact .inl ⟨sv,λw2 h2=>Vl w2 (ZC.trans h2)⟩
     ·exact .inr hn
    cases f:CZ j with
    |false=>exact gm (U f)
    |true=>
     rcases s with s|s|s
     ·rw[s] at f;cases f
     ·exact z.mf s
     ·exact s w1 (V f)
   ·rw[Array.setIfInBounds_comm _ _ q];exact L
end
def TI (C:dn P) (ops:Array Oper) (N:Nat) (o:Oper) (env:List bC) (w:A1) (K:List bC->Prop):Prop:=
 match gd ops env o with
 |none=>cU 41 o.op
 |some none=>if l9 ops N env [] o.dst then sy env o.dst [] none undef K else cU 42 o.op
 |some (some (ch,g))=>
  if l9 ops N env ch o.dst then kP C ops env ch g o w (λv=>ub C o v (λv=>sy env o.dst ch g v K)) else cU 43 o.op
def Wa (C:dn P) (ops:Array Oper) (N:Nat) (i:Nat) (env:List bC) (w:A1) (K:List bC->Prop):Prop:=
 match ops[i]? with
 |none=>False
 |some ⟨dst,op,type,pos,after,guard⟩=>TI C ops N ⟨dst,op,type,pos,after,guard⟩ env w K
def Qu {P:AC} (C:dn P) (ops:Array Oper) (env:List bC) (ch:List (Nat×Bool)) (g:Option Bool) (o:Oper) (w:A1) (K:(A1->Prop)->A2->Prop):Prop:=
 let ρ:=sq env ch
 match o.op with
 | .load t x=>match ρ x,Vf C t,P.info? t with
   |some (.pointer p),some el,some i=>if k7 el i.size=true then cU 61 o.op else aj w g p el (λx=>K (λw=>d_ g (cI w p el x)) (el.gj x))
   | _, _, _=>cU 62 o.op
 | .entry _=>cU 63 o.op
 | .lookup r m ix ok=>match ok,P.underlying r,ρ m,ρ ix with
   |false,some (.map h d),some (.map p),some (.int k n)=>match P.underlying h,qw P d,P.info? d with
    |some (.int j),some el,some i=>match i.zero with
     |some z=>if k=j then∃x:el.T,d_ g (jg w p k n z (el.gj x))/\K (λw=>d_ g (jg w p k n z (el.gj x))) (el.gj x) else cU 61 o.op
     |none=>cU 62 o.op
    | _, _, _=>cU 63 o.op
   |true,some (.map h d),some (.map p),some (.int k n)=>match P.underlying h,qw P d,P.info? d with
    |some (.int j),some el,some i=>match i.zero with
     |some z=>if k=j then∃x:el.T, ∃b:Bool,d_ g (kV w p k n z (el.gj x) b)/\K (λw=>d_ g (kV w p k n z (el.gj x) b)) (.tuple ⟨[el.gj x,.bool b]⟩) else cU 61 o.op
     |none=>cU 62 o.op
    | _, _, _=>cU 63 o.op
   | _, _, _, _=>cU 64 o.op
 | .pick .. =>kP C ops env ch g o w (λv=>K (λ_=>True) v)
 | .call c=>match c.callee with
   | .value f=>match ρ f,maps ρ c.args.toList with
     |some (.func (.func a) first cap),some l=>
      if bA P a=true then
       match o7 C.oG a with
       |some e=>match e.fn (dg first l cap) with
        |some (pre,v)=>d_ g pre/\K (λ_=>True) v
        |none=>cU 64 o.op
       |none=> ∃x:(qt C a).T,d_ g (ag P a (dg first l cap) w ((qt C a).gj x))/\K (λw=>d_ g (ag P a (dg first l cap) w ((qt C a).gj x))) ((qt C a).gj x)
      else cU 65 o.op
     | _, _=>cU 66 o.op
   | .builtin .len=>match yh P ρ c with
     |some p=> ∃n:Nat,d_ g (Mv w p n)/\K (λw=>d_ g (Mv w p n)) (.int .i64 n)
     |none=>match sX P ρ c with
      |some p=> ∃n:Nat,d_ g (V5 w p n)/\K (λw=>d_ g (V5 w p n)) (.int .i64 n)
      |none=>kP C ops env ch g o w (λv=>K (λ_=>True) v)
   | _=>kP C ops env ch g o w (λv=>K (λ_=>True) v)
 | .binOp .. =>match pop P ρ o with
   |some ⟨none,v⟩=>K (λ_=>True) v
   |some ⟨some p,v⟩=>d_ g p/\K (λ_=>True) v
   |none=>match yf P ρ o.op with
    |some (p,q)=>d_ g (Sp w p q)/\K (λw=>d_ g (Sp w p q)) (.bool (decide (p=q)))
    |none=>cU 67 o.op
 | .convert .. =>match pop P ρ o with
   |some ⟨none,v⟩=>K (λ_=>True) v
   |some ⟨some p,v⟩=>d_ g p/\K (λ_=>True) v
   |none=>match yg P ρ o.op with
    |some (p,n)=> ∃s:ByteArray,d_ g (sB w p n s)/\K (λw=>d_ g (sB w p n s)) (.string s)
    |none=>cU 67 o.op
 | _=>kP C ops env ch g o w (λv=>K (λ_=>True) v)
def Sv (p:A1->Prop):Prop:= ∀w w',p w->Ext w w'->p w'
theorem jP {g:Option Bool} {p:A1->Prop} (h:Sv p):Sv (λw=>d_ g (p w)):=by
 intro w w' a c;cases g with
 |none=>exact h w w' a c
 |some b=>exact λhb=>h w w' (a hb) c
def ID (op:Op):Bool:=match op with
 | .load .. =>false
 | .lookup .. =>false
 | .entry _=>false
 | .binOp .. =>false
 | .convert .. =>false
 | .call c=>(match c.callee with| .value _=>false| .builtin .len=>false| _=>true)
 | _=>true
theorem EP {C:dn P} {ops:Array Oper} {env:List bC} {ch:List (Nat×Bool)} {g:Option Bool} {o:Oper} {w:A1} {K:A2->Prop} (e:ID o.op=true)
 (h:kP C ops env ch g o w K): ∃v,K v/\ ∀i,kP C ops env ch g o i (λu=>u=v):=by
 obtain⟨dst,op,type,pos,after,guard⟩:=o;cases op with
 |load t x=>cases e
 |lookup a b c d=>cases e
 |entry a=>cases e
 |binOp op t x y j=>cases e
 |convert s d x=>cases e
 |pick c x y=>
  unfold kP at h;simp only at h;unfold kP;simp only;split at h
  ·split at h
   ·split at h
    ·split at h
     ·exact⟨_,h,λ_=>rfl⟩
     ·exact h.elim
    ·split at h
     ·exact⟨_,h,λ_=>rfl⟩
     ·exact h.elim
    ·split at h
     ·split at h
      ·split at h
       ·exact⟨_,h,λ_=>rfl⟩
       ·exact⟨_,h,λ_=>rfl⟩
       ·exact⟨_,h,λ_=>rfl⟩
      ·exact h.elim
     ·exact h.elim
   ·exact h.elim
  ·exact h.elim
 |call c=>
  obtain⟨callee,args,ts⟩:=c;cases callee with
  |value f=>cases e
  |builtin b=>
   cases b with
   |len=>cases e
   | _=>
     unfold kP at h;simp only at h;unfold kP;simp only;split at h
     ·exact⟨_,h,λ_=>rfl⟩
     ·exact⟨_,h.2,λ_=>⟨h.1,rfl⟩⟩
     ·exact h.elim
  | _=>
    unfold kP at h;simp only at h;unfold kP;simp only;split at h
    ·exact⟨_,h,λ_=>rfl⟩
    ·exact⟨_,h.2,λ_=>⟨h.1,rfl⟩⟩
    ·exact h.elim
 | _=>
   unfold kP at h;simp only at h;unfold kP;simp only;split at h
   ·exact⟨_,h,λ_=>rfl⟩
   ·exact⟨_,h.2,λ_=>⟨h.1,rfl⟩⟩
   ·exact h.elim
theorem Ju {C:dn P} {ops:Array Oper} {env:List bC} {ch:List (Nat×Bool)} {g:Option Bool} {o:Oper} {w:A1} {K:(A1->Prop)->A2->Prop} (h:Qu C ops env ch g o w K):
 ∃p v,K p v/\p w/\Sv p/\ ∀j,p j->kP C ops env ch g o j (λu=>u=v):=by
 obtain⟨dst,op,type,pos,after,guard⟩:=o;have st:ID op=true->kP C ops env ch g ⟨dst,op,type,pos,after,guard⟩ w (λv=>K (λ_=>True) v)->
  ∃p v,K p v/\p w/\Sv p/\ ∀j,p j->kP C ops env ch g ⟨dst,op,type,pos,after,guard⟩ j (λu=>u=v):=λS h=>by
  obtain⟨v,k,hv⟩:=EP (o:=⟨dst,op,type,pos,after,guard⟩) S h;exact⟨_,v,k,trivial,λ_ _ _ _=>trivial,λj _=>hv j⟩
 unfold Qu at h;cases op with
 |load t x=>
  simp only at h;split at h
  ·rename_i p el i B h2 H;split at h
   ·exact h.elim
   ·rename_i hb;obtain⟨T,U,k⟩:=h;refine⟨_, _,k,U,jP λw w' d l=>pD l d,λj d=>?_⟩;unfold kP;simp only[B,h2,H,if_neg hb];exact⟨T,d,rfl⟩
  ·exact h.elim
 |entry a=>exact h.elim
 |lookup xt m ix ok=>
  simp only at h;split at h
  ·rename_i V W p kd n B h2 H;split at h
   ·rename_i X el Y L M N;split at h
    ·rename_i z O;split at h
     ·rename_i Q;obtain⟨x,A,k⟩:=h;refine⟨_, _,k,A,jP λw w' d l=>?_,λj d=>?_⟩
      ·obtain⟨r,es,I,D,E,F⟩:=d;exact⟨r,es,I,D,l.obj E,F⟩
      ·unfold kP;simp only[B,h2,H,L,M,N,O,if_pos Q];exact⟨x,d,rfl⟩
     ·exact h.elim
    ·exact h.elim
   ·exact h.elim
  ·rename_i V W p kd n B h2 H;split at h
   ·rename_i X el Y L M N;split at h
    ·rename_i z O;split at h
     ·rename_i Q;obtain⟨x,b,A,k⟩:=h;refine⟨_, _,k,A,jP λw w' d l=>?_,λj d=>?_⟩
      ·obtain⟨r,es,I,D,E,F⟩:=d;exact⟨r,es,I,D,l.obj E,F⟩
      ·unfold kP;simp only[B,h2,H,L,M,N,O,if_pos Q];exact⟨x,b,d,rfl⟩
     ·exact h.elim
    ·exact h.elim
   ·exact h.elim
  ·exact h.elim
 |call c=>
  obtain⟨callee,args,ts⟩:=c;cases callee with
  |value f=>
   simp only at h;split at h
   ·rename_i fU first cap aaj B h2
    split at h
    ·rename_i hc;split at h
     ·rename_i e R;split at h
      ·rename_i pre v Z;refine⟨_,v,h.2,trivial,λ_ _ _ _=>trivial,λj _=>?_⟩;unfold kP;simp only[B,h2,if_pos hc,R,Z];exact⟨h.1,trivial⟩
      ·exact h.elim
     ·rename_i R;obtain⟨x,A,k⟩:=h;refine⟨_, _,k,A,jP λw w' d l=>λj h2=>d j (l.trans h2),λj d=>?_⟩;unfold kP;simp only[B,h2,if_pos hc,R];exact⟨x,d,rfl⟩
    ·exact h.elim
   ·exact h.elim
  |builtin b=>
   cases b with
   |len=>
    simp only at h;split at h
    ·rename_i p d;obtain⟨n,A,k⟩:=h;refine⟨_, _,k,A,jP λw w' d l=>?_,λj G=>?_⟩
     ·obtain⟨r,es,I,D,E,F⟩:=d;exact⟨r,es,I,D,l.obj E,F⟩
     ·unfold kP;simp only[d];exact⟨n,G,rfl⟩
    ·rename_i d;split at h
     ·rename_i p J;obtain⟨n,A,k⟩:=h;refine⟨_, _,k,A,jP λw w' d l=>?_,λj G=>?_⟩
      ·obtain⟨r,cap,th,s,m,D,E,F⟩:=d;exact⟨r,cap,th,s,m,D,l.obj E,F⟩
      ·unfold kP;simp only[d,J];exact⟨n,G,rfl⟩
     ·rename_i J;unfold kP at h;simp only[d,J] at h;split at h
      ·rename_i v hv;refine⟨_,v,h,trivial,λ_ _ _ _=>trivial,λj _=>?_⟩;unfold kP;simp only[d,J,hv]
      ·rename_i p v hv;refine⟨_,v,h.2,trivial,λ_ _ _ _=>trivial,λj _=>?_⟩;unfold kP;simp only[d,J,hv];exact⟨h.1,trivial⟩
      ·exact h.elim
   | _=>exact st rfl h
  | _=>exact st rfl h
 |binOp op t x y yt=>
  simp only at h;split at h
  ·rename_i v hv;refine⟨_,v,h,trivial,λ_ _ _ _=>trivial,λj _=>?_⟩;unfold kP;simp only[hv]
  ·rename_i p v hv;refine⟨_,v,h.2,trivial,λ_ _ _ _=>trivial,λj _=>?_⟩;unfold kP;simp only[hv];exact⟨h.1,trivial⟩
  ·rename_i hv;split at h
   ·rename_i p q d;refine⟨_, _,h.2,h.1,jP λw w' d l=>Dq l d,λj G=>?_⟩;unfold kP;simp only[hv,d];exact⟨G,trivial⟩
   ·exact h.elim
 |convert sr ds x=>
  simp only at h;split at h
  ·rename_i v hv;refine⟨_,v,h,trivial,λ_ _ _ _=>trivial,λj _=>?_⟩;unfold kP;simp only[hv]
  ·rename_i p v hv;refine⟨_,v,h.2,trivial,λ_ _ _ _=>trivial,λj _=>?_⟩;unfold kP;simp only[hv];exact⟨h.1,trivial⟩
  ·rename_i hv;split at h
   ·rename_i p n d;obtain⟨s,A,k⟩:=h;refine⟨_, _,k,A,jP λw w' d l=>z4 l d,λj G=>?_⟩;unfold kP;simp only[hv,d];exact⟨s,G,rfl⟩
   ·exact h.elim
 | _=>exact st rfl h
def O_ (C:dn P) (ops:Array Oper) (N:Nat) (o:Oper) (env:List bC) (w:A1) (K:(A1->Prop)->List bC->Prop):Prop:=
 match gd ops env o with
 |none=>cU 44 o.op
 |some none=>if l9 ops N env [] o.dst then sy env o.dst [] none undef (K λ_=>True) else cU 45 o.op
 |some (some (ch,g))=>
  if l9 ops N env ch o.dst then Qu C ops env ch g o w (λp v=>ub C o v (λv=>sy env o.dst ch g v (K p))) else cU 46 o.op
def Qv (C:dn P) (ops:Array Oper) (N:Nat) (i:Nat) (env:List bC) (w:A1) (K:(A1->Prop)->List bC->Prop):Prop:=
 match ops[i]? with
 |none=>False
 |some ⟨dst,op,type,pos,after,guard⟩=>O_ C ops N ⟨dst,op,type,pos,after,guard⟩ env w K
def wj (j:Nat) (w:A1):List (Nat×(A1->Prop))->Prop->Prop
 |[],K=>K
 |(W,p)::r,K=>match W.testBit j with
  |true=>wj j w r K
  |false=>p w/\wj j w r K
theorem kG {j:Nat} {w:A1}: ∀{l:List (Nat×(A1->Prop))} {K:Prop},wj j w l K<->(∀e∈l,e.1.testBit j=false->e.2 w)/\K
 |[],K=>by simp[wj]
 |(W,p)::r,K=>by
  unfold wj;cases h:W.testBit j with
  |true=>simp only[kG (l:=r),Pa,h];simp
  |false=>simp only[kG (l:=r),Pa,h];simp[and_assoc]
def Ii (ops:Array Oper):Bool:=ops.toList.all λo=>match o.op with| .select .. | .defer _=>false| _=>true
def sb (i:Nat):Nat:=1 <<< i
theorem tI (i j:Nat):(sb i).testBit j=decide (i=j):=by
 unfold sb;rw[Nat.one_shiftLeft,Nat.testBit_two_pow]
def wk:List Nat->Nat
 |[]=>0
 |x::r=>sb x ||| wk r
theorem pG: ∀(l:List Nat) (j:Nat),(wk l).testBit j=decide (j∈l)
 |[],j=>by simp[wk]
 |x::r,j=>by
  rw[wk,H5,tI,pG r];by_cases a:x=j
  ·subst a;simp
  ·have: ¬ j=x:=λe=>a e.symm;simp[a,this]
theorem and_zero {a b j:Nat} (h:((a &&& b)==0)=true) (c:a.testBit j=true):b.testBit j=false:=by
 have:=congrArg (λm=>m.testBit j) (by simpa using h:a &&& b=0);simp only[Lr,c,QS,Ib] at this;exact this
theorem Jv {a b:Nat} (h:((a &&& b) != 0)=true): ∃j,a.testBit j=true/\b.testBit j=true:=by
 have h':a &&& b≠0:=by simpa using h
 obtain⟨j,c⟩:=Nat.exists_testBit_of_ne_zero h';rw[Lr,BA] at c;exact⟨j,c⟩
theorem MO {a b j:Nat} (h:((a &&& b)==a)=true) (c:a.testBit j=true):b.testBit j=true:=by
 have:=congrArg (λm=>m.testBit j) (by simpa using h:a &&& b=a);simp only[Lr,c,Ib] at this;exact this
theorem MP {a b:Nat} (h:((a &&& b)==a)=false): ∃j,a.testBit j=true/\b.testBit j=false:=by
 apply Classical.byContradiction;intro c;have:a &&& b=a:=by
  apply Nat.eq_of_testBit_eq;intro j;rw[Lr];cases d:a.testBit j with
  |false=>rfl
  |true=>
   cases hb:b.testBit j with
   |true=>rfl
   |false=>exact absurd ⟨j,d,hb⟩ c
 simp[this] at h
def Eu (o:Oper):Nat:=wk ((o.after.toList.filter λe=>EA .any e).map (·.on))
def OT (o:Oper):Nat:=match o.dst with
 |some d=>sb d
 |none=>0
def Vm (ops:Array Oper) (o:Oper):Nat:=wk (o.looksAt ops)
def Mg (L i e:Nat):Bool:= !L.testBit i&&(e &&& L)==e
def Ba (L i:Nat):List (Oper×Nat)->Nat->Nat
 |[],W=>W
 |(o,j)::r,W=>Ba L i r (if !L.testBit j&&(Eu o &&& (W ||| sb i)) != 0 then W ||| sb j else W)
def Vn (ops:Array Oper) (x y:Oper):Bool:=(OT x &&& (Vm ops y ||| OT y))==0&&(OT y &&& Vm ops x)==0
def ZD (C:dn P) (ops:Array Oper) (L i W:Nat) (x:Oper) (Z:List (Oper×Nat)):Bool:=
 Z.all λz=>z.2==i||L.testBit z.2||W.testBit z.2||(Vn ops x z.1&&(!xP C z.1||Vi x))
def Yr (C:dn P) (Z:List (Oper×Nat)) (L:Nat):Option (Nat×Bool):=
 match Z.find? λz=>Mg L z.2 (Eu z.1)&& !xP C z.1&& !dj z.1 with
 |some z=>some (z.2,true)
 |none=>match Z.find? λz=>Mg L z.2 (Eu z.1) with
  |some z=>some (z.2,false)
  |none=>none
def ZE (ops:Array Oper) (L i W:Nat) (x:Oper) (Z:List (Oper×Nat)):Bool:=
 Z.all λz=>z.2==i||L.testBit z.2||W.testBit z.2||Vn ops x z.1
inductive Sd where
 |nil|q (i:Nat) (m:Option Nat) (r:Sd)|alt (i:Nat) (r t:Sd)|stop
def mj (C:dn P) (ops:Array Oper) (Z:List (Oper×Nat)):Nat->Nat->Option Sd
 |0,L=>if Z.all λz=> !Mg L z.2 (Eu z.1) then some .nil else none
 |n+1,L=>match Yr C Z L with
  |none=>none
  |some (i,true)=>match ops[i]? with
   |some x=>if Mg L i (Eu x)&& !xP C x then
     if ZD C ops L i (Ba L i Z 0) x Z then match mj C ops Z n (L ||| sb i) with
      |some l=>some (.q i none l)
      |none=>none
     else if ZE ops L i (Ba L i Z 0) x Z then match mj C ops Z n (L ||| sb i) with
      |some l=>some (.q i (some (Ba L i Z 0)) l)
      |none=>none
     else none
    else none
   |none=>none
  |some (_,false)=>(Z.filter λz=>Mg L z.2 (Eu z.1)).foldr (λz c=>match c with
   |none=>none
   |some b=>match mj C ops Z n (L ||| sb z.2) with
    |some a=>some (.alt z.2 a b)
    |none=>none) (some .stop)
def Q0 (C:dn P) (ops:Array Oper):Option Sd:=mj C ops ops.toList.zipIdx ops.size 0
def lB (C:dn P) (ops:Array Oper) (i:Nat):Bool:=((ops[i]?).map (xP C)).getD true
def C8 (C:dn P) (ops:Array Oper) (i:Nat) (w:A1) (l:List (Nat×(A1->Prop))) (K:Prop):Prop:=
 match lB C ops i with
 |true=>wj i w l K
 |false=>K
def Qw (C:dn P) (ops:Array Oper) (N:Nat) (i:Nat) (a:List (Nat×(A1->Prop))) (env:List bC) (w:A1) (F:List bC->A1->Prop):Prop:=match a with
 |[]=>zn C ops N i env w F
 |e::a=>zn C ops N i env w (λenv w=>C8 C ops i w (e::a) (F env w))
def Qx (t:Sd) (a b:Prop):Prop:=match t with
 | .stop=>a
 | _=>a/\b
def y_ (C:dn P) (ops:Array Oper) (N:Nat):Sd->List (Nat×(A1->Prop))->List bC->A1->(List bC->A1->Prop)->Prop
 | .nil, _,env,w,K=>K env w
 | .q i none r,a,env,w,K=>Wa C ops N i env w (λenv=>y_ C ops N r a env w K)
 | .q i (some W) r,a,env,w,K=>Qv C ops N i env w (λp env=>y_ C ops N r ((W,p)::a) env w K)
 | .alt i r t,a,env,w,K=>Qx t (Qw C ops N i a env w (λenv w=>y_ C ops N r a env w K)) (y_ C ops N t a env w K)
 | .stop, _, _, _, _=>True
def TJ (C:dn P) (ops:Array Oper) (N:Nat) (l:Sd) (env:List bC) (w:A1) (K:List bC->A1->Prop):Prop:=y_ C ops N l [] env w K
def Qy (C:dn P) (ops:Array Oper) (N:Nat) (env:List bC) (w:A1) (K:List bC->A1->Prop):Prop:=
 match Q0 C ops with
 |some l=>TJ C ops N l env w K
 |none=>False
def C9 (j:Nat) (x:Sd):Sd->Prop
 | .alt i r t=>(j=i/\x=r)\/C9 j x t
 | _=>False
def Valid (C:dn P) (ops:Array Oper):Nat->Sd->Array Bool->Prop
 |0,t,a=>t= .nil/\B4 .any ops a=[]
 |n+1,t,a=>match t with
  | .q i m r=>i∈B4 .any ops a/\lB C ops i=false/\
    (∃W:Nat->Bool,(∀c,ops[i]? =some c-> ∀j b,ops[j]? =some b->j≠i->a.getD j true=false->W j=false->c.apart ops b=true/\(xP C b=false\/Vi c=true\/ ∃w,m=some w/\w.testBit j=false))/\
     (∀j,W j=true->a.getD j true=false/\ ∃b,ops[j]? =some b/\ ∃e∈b.after,EA .any e=true/\(e.on=i\/W e.on=true)))/\
    Valid C ops n r (a.setIfInBounds i true)
  | .alt i r d=>i∈B4 .any ops a/\ ∀j∈B4 .any ops a, ∃x,C9 j x (.alt i r d)/\Valid C ops n x (a.setIfInBounds j true)
  | _=>False
def vM (ops:Array Oper) (L:Nat) (a:Array Bool):Prop:=a.size=ops.size/\ ∀j,a.getD j false=L.testBit j
theorem vM.un {ops:Array Oper} {L:Nat} {a:Array Bool} (h:vM ops L a) {j:Nat} (b:j<ops.size):a.getD j true=L.testBit j:=by
 rw[<-h.2 j];have:j<a.size:=by rw[h.1];exact b
 simp[HT,this]
theorem vM.set {ops:Array Oper} {L:Nat} {a:Array Bool} (h:vM ops L a) {i:Nat} (hi:i<ops.size):vM ops (L ||| sb i) (a.setIfInBounds i true):=by
 refine⟨by simp[h.1],λj=>?_⟩;rw[H5,tI, <-h.2 j];by_cases e:i=j
 ·subst e;have:i<a.size:=by rw[h.1];exact hi
  simp[HT,this]
 ·rw[getD_set_ne false e];simp[e]
theorem vM.zero (ops:Array Oper):vM ops 0 (Gi ops.size false):=by
 refine⟨by simp,λj=>?_⟩;rw[QS];by_cases h:j<ops.size<;>simp[HT,h]
theorem mO {ops:Array Oper} {o:Oper} {j:Nat}:(o,j)∈ops.toList.zipIdx<->ops[j]? =some o:=by
 rw[List.mem_zipIdx_iff_getElem?];simp
theorem BC {o:Oper} {j:Nat}:(Eu o).testBit j=true<-> ∃e∈o.after,EA .any e=true/\e.on=j:=by
 unfold Eu;rw[pG,decide_eq_true_eq,Hu];constructor
 ·rintro⟨e,a,b⟩;rw[Bc] at a;exact⟨e,by simpa using a.1,a.2,b⟩
 ·rintro⟨e,a,hb,b⟩;exact⟨e,Bc.2 ⟨by simpa using a,hb⟩,b⟩
theorem kH {ops:Array Oper} {L:Nat} {d:Array Bool} (h:vM ops L d) {i:Nat}:i∈B4 .any ops d<-> ∃o,ops[i]? =some o/\Mg L i (Eu o)=true:=by
 unfold B4;rw[Bc,E4];constructor
 ·rintro⟨hi,hc⟩;rw[h.un hi] at hc;simp only[BA] at hc;have a:ops[i]? =some ops[i]:=L_ hi;refine⟨ops[i],a,?_⟩;rw[a] at hc;simp only[H7,MI,LZ] at hc;unfold Mg;rw[BA];refine⟨hc.1,?_⟩;cases f:(Eu ops[i] &&& L)==Eu ops[i] with
  |true=>rfl
  |false=>
   obtain⟨j,g,h2⟩:=MP f;obtain⟨e,c,hb,rfl⟩:=BC.1 g;have:=hc.2 e c;rw[hb,h.2,h2] at this;cases this
 ·rintro⟨o,a,b⟩;have hi:i<ops.size:=(Br.1 a).1;unfold Mg at b;rw[BA] at b;refine⟨hi,?_⟩;rw[h.un hi,BA];refine⟨b.1,?_⟩;rw[a];simp only[H7,MI,LZ];intro e c;rw[h.2];cases hb:EA .any e with
  |false=>rfl
  |true=>rw[MO b.2 (BC.2 ⟨e,c,hb,rfl⟩)];rfl
theorem z7 {L i:Nat}: ∀(Z:List (Oper×Nat)) (W j:Nat),W.testBit j=true->(Ba L i Z W).testBit j=true
 |[], _, _,h=>h
 |(o,k)::r,W,j,h=>by
  unfold Ba;refine z7 r _ j ?_;split
  ·rw[H5,h];rfl
  ·exact h
theorem IE {L i:Nat}: ∀(Z:List (Oper×Nat)) (W:Nat),(∀x,(Ba L i Z W).testBit x=true->W.testBit x=true\/(L.testBit x=false/\ ∃o,(o,x)∈Z/\ ∃k,(Eu o).testBit k=true/\(k=i\/(Ba L i Z W).testBit k=true)))
 |[], _, _,h=> .inl h
 |(o,j)::r,W,x,h=>by
  unfold Ba at h ⊢;rcases IE r _ x h with a|⟨a,o',h2,c⟩
  ·split at a
   ·rename_i hc;rw[H5,tI,Ev,decide_eq_true_eq] at a;rcases a with a|rfl
    ·exact .inl a
    ·rw[BA] at hc;obtain⟨k,d,b⟩:=Jv hc.2;rw[H5,tI,Ev,decide_eq_true_eq] at b;refine .inr ⟨by simpa using hc.1,o,Ey,k,d,?_⟩;rcases b with b|b
     ·refine .inr (z7 r _ k ?_);split
      ·rw[H5,b];rfl
      ·exact b
     ·exact .inl b.symm
   ·exact .inl a
  ·exact .inr ⟨a,o',HP _ h2,c⟩
theorem IF {ops:Array Oper} {x y:Oper} (h:Vn ops x y=true):x.apart ops y=true:=by
 unfold Vn at h;rw[BA] at h;obtain⟨b,h2⟩:=h;unfold Oper.apart;rw[BA];constructor
 ·cases a:x.dst with
  |none=>rfl
  |some d=>
   have hb:(OT x).testBit d=true:=by simp[OT,a,tI]
   have:=and_zero b hb;rw[H5,Bool.or_eq_false_iff] at this;obtain⟨a1,c⟩:=this;unfold Vm at a1;rw[pG] at a1;simp only[decide_eq_false_iff_not] at a1;show(!(y.looksAt ops).contains d&&y.dst != some d)=true;rw[BA];refine⟨by simpa using a1,?_⟩;cases f:y.dst with
   |none=>rfl
   |some d'=>
    have:d'≠d:=λe=>by subst e;simp[OT,f,tI] at c
    simp[this]
 ·cases a:y.dst with
  |none=>rfl
  |some d=>
   have hb:(OT y).testBit d=true:=by simp[OT,a,tI]
   have a1:=and_zero h2 hb;unfold Vm at a1;rw[pG] at a1;simp only[decide_eq_false_iff_not] at a1;show(!(x.looksAt ops).contains d)=true;simpa using a1
theorem Ds {F:Nat->Option Sd}: ∀(l:List (Oper×Nat)) (t:Sd),l.foldr (λz e=>match e with
 |none=>none
 |some b=>match F z.2 with
  |some a=>some (.alt z.2 a b)
  |none=>none) (some Sd.stop)=some t->(l=[]/\t= .stop)\/(∃i r d,t= .alt i r d/\(∃o,(o,i)∈l)/\ ∀z∈l, ∃x,C9 z.2 x t/\F z.2=some x)
 |[],t,h=>by
  simp only[List.foldr_nil,Bo] at h;exact .inl ⟨rfl,h.symm⟩
 |z::l,t,h=>by
  rw[List.foldr_cons] at h;split at h
  ·cases h
  ·rename_i b hb;split at h
   ·rename_i a f;cases h;refine .inr ⟨z.2,a,b,rfl,⟨z.1,Ey⟩,λy c=>?_⟩;rcases Bq.1 c with rfl|c
    ·exact⟨a,.inl ⟨rfl,rfl⟩,f⟩
    ·rcases Ds l b hb with ⟨rfl, _⟩|⟨i,r,d, _, _,g⟩
     ·cases c
     ·obtain⟨x,j,h2⟩:=g y c;exact⟨x,.inr j,h2⟩
   ·cases h
theorem mV {C:dn P} {ops:Array Oper}: ∀(n L:Nat) (p:Array Bool) (l:Sd),vM ops L p->mj C ops ops.toList.zipIdx n L=some l->Valid C ops n l p
 |0,L,p,l,b,h=>by
  simp only[mj] at h;split at h
  ·rename_i hc;cases h;refine⟨rfl,?_⟩;rw[List.eq_nil_iff_forall_not_mem];intro j c;obtain⟨o,d,u⟩:=(kH b).1 c;have:=C7.1 hc (o,j) (mO.2 d);rw[u] at this;cases this
  ·cases h
 |n+1,L,p,l,b,h=>by
  have E: ∀i j,(Ba L i ops.toList.zipIdx 0).testBit j=true->p.getD j true=false/\ ∃f,ops[j]? =some f/\ ∃e∈f.after,EA .any e=true/\(e.on=i\/(Ba L i ops.toList.zipIdx 0).testBit e.on=true):=by
   intro i j g;rcases IE ops.toList.zipIdx 0 j g with a|⟨a,o,h2,k,J,K⟩
   ·simp at a
   ·have d:=mO.1 h2;obtain⟨e,v,hb,rfl⟩:=BC.1 J;exact⟨by rw[b.un (Br.1 d).1];exact a,o,d,e,v,hb,K⟩
  simp only[mj] at h;split at h
  ·cases h
  ·rename_i i _;split at h
   ·rename_i x m;have hi:i<ops.size:=(Br.1 m).1;split at h
    ·rename_i hc;rw[BA,HL] at hc;have G:lB C ops i=false:=by unfold lB;rw[m];exact hc.2
     split at h
     ·rename_i w;split at h
      ·rename_i l' y;cases h;have A:=mV n _ _ l' (b.set hi) y;refine⟨(kH b).2 ⟨x,m,hc.1⟩,G,⟨λj=>(Ba L i ops.toList.zipIdx 0).testBit j,?_,λj=>E i j⟩,A⟩;intro M q j f c B s g;rw[m] at q;cases q;have:=C7.1 w (f,j) (mO.2 c);rw[b.un (Br.1 c).1] at s;have D:(Ba L i ops.toList.zipIdx 0).testBit j=false:=g;simp only[s,D,MU,Ev,beq_iff_eq,BA,HL] at this;rcases this with a|a
       ·exact absurd a B
       ·exact⟨IF a.1,a.2.imp id .inl⟩
      ·cases h
     ·split at h
      ·rename_i w;split at h
       ·rename_i l' y;cases h;have A:=mV n _ _ l' (b.set hi) y;refine⟨(kH b).2 ⟨x,m,hc.1⟩,G,⟨λj=>(Ba L i ops.toList.zipIdx 0).testBit j,?_,λj=>E i j⟩,A⟩;intro M q j f c B s g;rw[m] at q;cases q;have:=C7.1 w (f,j) (mO.2 c);rw[b.un (Br.1 c).1] at s;have D:(Ba L i ops.toList.zipIdx 0).testBit j=false:=g;simp only[s,D,MU,Ev,beq_iff_eq] at this;rcases this with a|a
        ·exact absurd a B
        ·exact⟨IF a,.inr (.inr ⟨_,rfl,g⟩)⟩
       ·cases h
      ·cases h
    ·cases h
   ·cases h
  ·rename_i t;rcases Ds (F:=λj=>mj C ops ops.toList.zipIdx n (L ||| sb j)) _ l h with ⟨v, _⟩|⟨i,r,O,rfl,⟨o,d⟩,N⟩
   ·
    exfalso;unfold Yr at t;split at t
    ·cases t
    ·split at t
     ·rename_i z H;have a:=PY H;have h2:=List.mem_of_find?_eq_some H;have:z∈(ops.toList.zipIdx).filter λz=>Mg L z.2 (Eu z.1):=Bc.2 ⟨h2,a⟩;rw[v] at this;cases this
     ·cases t
   ·rw[Bc] at d;refine⟨(kH b).2 ⟨o,mO.1 d.1,d.2⟩,λj c=>?_⟩;obtain⟨f,I,u⟩:=(kH b).1 c;obtain⟨x,a,h2⟩:=N (f,j) (Bc.2 ⟨mO.2 I,u⟩);exact⟨x,a,mV n _ _ x (b.set (Br.1 I).1) h2⟩
section
variable {r:Option Nat} {S:Nat->Option (Option A2)} {ops:Array Oper} {N:Nat} {D:List Deferred} {Q:Exit->Act->A1->Prop}
theorem Q1 {C:dn P} {i:Nat} {env:List bC} {a:Act} {w:A1} {K:List bC->Prop} (n:Wr S ops) (b:Fit S ops N D env a) (h:Wa C ops N i env w K):
 ∃o u cn,ops[i]? =some o/\K cn/\Fit S ops N D cn (a.put o.dst u)/\fh P ops o u a w:=by
 unfold Wa at h;cases e:ops[i]? with
 |none=>simp[e] at h
 |some o=>
  simp only[e,TI,k9] at h;have f:=n o (HQ e);split at h
  ·exact A3 h
  ·rename_i j;split at h
   ·rename_i c;exact⟨o,undef, _,rfl,h,b.put c f rfl (λ_=>rfl) (λk=>absurd c8 k),.inr ⟨yn b j,rfl⟩⟩
   ·exact A3 h
  ·rename_i ch g j;obtain⟨l,m⟩:=If b j;split at h
   ·rename_i c;obtain⟨v,d,p⟩:=uc b l h;replace d:=ov d;by_cases hc:ib ops a.tmps ch
    ·exact⟨o,v, _,rfl,d,b.put c f l (λ_=>rfl) (λk=>absurd hc k),.inl ⟨m.2 hc,p hc⟩⟩
    ·refine⟨o,undef, _,rfl,d,b.put c f l (λq=>absurd q hc) (λ_=>rfl),.inr ⟨?_,rfl⟩⟩;cases r:Bg o (yielded ops a.tmps) with
     |false=>rfl
     |true=>exact absurd (m.1 r) hc
   ·exact A3 h
theorem MQ {C:dn P} {i:Nat} {env:List bC} {a:Act} {w:A1} {K:(A1->Prop)->List bC->Prop} (x:Wr S ops) (c:Fit S ops N D env a) (h:Qv C ops N i env w K):
 ∃o u cn p,ops[i]? =some o/\K p cn/\Fit S ops N D cn (a.put o.dst u)/\p w/\Sv p/\ ∀b,p b->fh P ops o u a b:=by
 unfold Qv at h;cases j:ops[i]? with
 |none=>simp[j] at h
 |some o=>
  simp only[j,O_,k9] at h;have k:=x o (HQ j);split at h
  ·exact A3 h
  ·rename_i l;split at h
   ·rename_i d;exact⟨o,undef, _, _,rfl,h,c.put d k rfl (λ_=>rfl) (λm=>absurd c8 m),trivial,λ_ _ _ _=>trivial,λ_ _=> .inr ⟨yn c l,rfl⟩⟩
   ·exact A3 h
  ·rename_i ch g l;obtain⟨n,r⟩:=If c l;split at h
   ·rename_i d;obtain⟨p,v,f,s,t,y⟩:=Ju h;replace f:=ov f;have z: ∀b,p b->ib ops a.tmps ch-> ∀w',Ext b w'->cB P o a w' v:=λb h2 hc=>by
     obtain⟨B,e,q⟩:=uc c n (y b h2);subst e;exact q hc
    by_cases hc:ib ops a.tmps ch
    ·exact⟨o,v, _,p,rfl,f,c.put d k n (λ_=>rfl) (λm=>absurd hc m),s,t,λb h2=> .inl ⟨r.2 hc,z b h2 hc⟩⟩
    ·refine⟨o,undef, _,p,rfl,f,c.put d k n (λq=>absurd q hc) (λ_=>rfl),s,t,λb _=> .inr ⟨?_,rfl⟩⟩;cases A:Bg o (yielded ops a.tmps) with
     |false=>rfl
     |true=>exact absurd (r.1 A) hc
   ·exact A3 h
def wo (a:List (Nat×(A1->Prop))) (j:Nat) (w:A1):Prop:= ∀e∈a,e.1.testBit j=false->e.2 w
theorem Dt {C:dn P} {a:List (Nat×(A1->Prop))} {env:List bC} {w:A1} {K:List bC->A1->Prop} {j:Nat} {x:Sd}: ∀{t:Sd},y_ C ops N t a env w K->C9 j x t->Qw C ops N j a env w (λenv w=>y_ C ops N x a env w K)
 | .nil, _,hi=>hi.elim
 | .q .., _,hi=>hi.elim
 | .stop, _,hi=>hi.elim
 | .alt i r t,h,hi=>by
   rw[y_] at h;have b:Qw C ops N i a env w (λenv w=>y_ C ops N r a env w K):=by
    unfold Qx at h;split at h
    ·exact h
    ·exact h.1
   rcases hi with ⟨rfl,rfl⟩|hi
   ·exact b
   ·refine Dt (t:=t) ?_ hi;unfold Qx at h;split at h
    ·cases hi
    ·exact h.2
theorem Q3 {C:dn P} (G:Wr S ops) (tB:Ii ops=true) (U: ∀c a w,¬ Q (.panic c) a w): ∀(n:Nat) (l:Sd) (f:Array Bool) (d:List (Nat×(A1->Prop))) (env:List bC) (a:Act) (w:A1) (K:List bC->A1->Prop),(∀e∈d,Sv e.2)->Fit S ops N D env a->
 Valid C ops n l f->y_ C ops N l d env w K->(∀env a w w',K env w->Fit S ops N D env a->Ext w w'->Q .normal a w')->
 j0 r P ops Q (lB C ops) (wo d) n f a w:=by
 have V: ∀(j:Nat) (o:Oper),ops[j]? =some o->(∀cs b,o.op≠ .select cs b)/\ ∀c,o.op≠ .defer c:=λj o g=>by
  have:=C7.1 tB o (Array.mem_toList_iff.2 (HQ g));constructor
  ·intro cs b he;simp[he] at this
  ·intro c he;simp[he] at this
 intro n
 induction n with
 |zero=>
  intro l f d env a w K _ x hv h y w' H;obtain⟨rfl,hv⟩:=hv;exact⟨hv,y env a w w' h x H⟩
 |succ n I=>
  intro l f d env a w K B x hv h y;cases l with
  |nil=>exact hv.elim
  |stop=>exact hv.elim
  |q i m l=>
   obtain⟨X,Y,⟨W,Z,Su⟩,E⟩:=hv;cases m with
   |none=>
    obtain⟨o,u,cn,g,z,A,F⟩:=Q1 G x h;have J:=I l (f.setIfInBounds i true) d cn (a.put o.dst u) w K B A E z y;exact pV (W:=W) (a0:=a) g Y V U (λ_ _ h=>h) n f a w (λj L k M O R=>by
     have:=Z o g j L k M O R;refine⟨this.1,?_⟩;rcases this.2 with h|h|⟨w,h, _⟩
     ·exact .inl (by unfold lB;rw[k];exact h)
     ·exact .inr (.inl h)
     ·cases h) Su X ⟨rfl,rfl⟩ F J
   |some T=>
    obtain⟨o,u,cn,p,g,z,A,hp,hu,F⟩:=MQ G x h;have J:=I l (f.setIfInBounds i true) ((T,p)::d) cn (a.put o.dst u) w K (λe he=>by
     rcases Bq.1 he with rfl|he
     ·exact hu
     ·exact B e he) A E z y
    exact pV (W:=W) (a0:=a) (T':=wo ((T,p)::d)) g Y V U (λ_ _ h e he=>h e (HP _ he)) n f a w (λj L k M O R=>by
     have:=Z o g j L k M O R;refine⟨this.1,?_⟩;rcases this.2 with h|h|⟨w,h,hb⟩
     ·exact .inl (by unfold lB;rw[k];exact h)
     ·exact .inr (.inl h)
     ·cases h;exact .inr (.inr λw1 hT=>F w1 (hT (T,p) Ey hb))) Su X ⟨rfl,rfl⟩ (F w hp) J
  |alt i l0 t=>
   obtain⟨ZG,gB⟩:=hv;intro w' H;refine⟨λhe=>absurd ZG (by rw[he];simp),λj k=>?_⟩;obtain⟨l,lz,E⟩:=gB j k;have h:=Dt h lz;have h':zn C ops N j env w (λenv w=>(lB C ops j=true->wo d j w)/\y_ C ops N l d env w K):=by
    cases d with
    |nil=>
     have h:zn C ops N j env w (λenv w=>y_ C ops N l [] env w K):=h;have e:(λ(env:List bC) (w:A1)=>(lB C ops j=true->wo [] j w)/\y_ C ops N l [] env w K)=λenv w=>y_ C ops N l [] env w K:=by
      funext env w;exact propext ⟨λh=>h.2,λh=>⟨λ_ e he=>(by cases he),h⟩⟩
     rw[e];exact h
    |cons s v=>
     have h:zn C ops N j env w (λenv w=>C8 C ops j w (s::v) (y_ C ops N l (s::v) env w K)):=h;have e:(λ(env:List bC) (w:A1)=>(lB C ops j=true->wo (s::v) j w)/\y_ C ops N l (s::v) env w K)=λenv w=>C8 C ops j w (s::v) (y_ C ops N l (s::v) env w K):=by
      funext env w;unfold C8;cases lB C ops j with
      |true=>exact propext ⟨λh=>kG.2 ⟨h.1 rfl,h.2⟩,λh=>⟨λ_=>(kG.1 h).1,(kG.1 h).2⟩⟩
      |false=>exact propext ⟨λh=>h.2,λh=>⟨(λhc=>nomatch hc),h⟩⟩
     rw[e];exact h
   refine wpOpIn_mono (λa1 w1 hh=>?_) (z6 G x h' H);obtain⟨hx,cn,wr,⟨PF,z⟩,A,sv⟩:=hh;exact⟨hx,λhe e hm hb=>B e hm wr w1 ((PF he) e hm hb) sv,lq (I l _ d cn a1 wr K B A E z y) sv⟩
theorem MR {C:dn P} (b:Wr S ops) (d:Ii ops=true) (f: ∀c a w,¬ Q (.panic c) a w) (env:List bC) (a:Act) (w:A1) (K:List bC->A1->Prop) (g:Fit S ops N D env a)
 (h:Qy C ops N env w K) (i: ∀env a w w',K env w->Fit S ops N D env a->Ext w w'->Q .normal a w'):
 j0 r P ops Q (lB C ops) (wo []) ops.size (Gi ops.size false) a w:=by
 unfold Qy TJ at h;split at h
 ·rename_i l j;have hv:=mV ops.size 0 _ l (vM.zero ops) j;exact Q3 (r:=r) b d f ops.size l (Gi ops.size false) [] env a w K (λe k=>by cases k) g hv h i
 ·exact h.elim
end
variable {P:AC}
def iA (l:List bC):List bC:=
 match l.filter λe=> !e.ch.isEmpty with
 |[]=>l
 |bad=>l.filter λe=>e.ch.isEmpty&& !(bad.any λb=>b.t==e.t)
def plain (l:List bC):Prop:= ∀e∈l,e.ch=[]/\e.g=none
theorem gy {p:bC->Bool}: ∀{l:List bC} {t:Nat} {e:bC},bz (l.filter p) t=some e->(∀x∈l,x.t=t->p x=true)->bz l t=some e
 |[], _, _,h, _=>by simp[bz] at h
 |x::r,t,e,h,b=>by
  by_cases c:p x=true
  ·simp only[Pd,c,if_true,bz] at h;simp only[bz];split
   ·rename_i a;simp only[a,if_true] at h;exact h
   ·rename_i a;simp only[a,if_false] at h;exact gy h (λy d=>b y (HP _ d))
  ·simp only[Pd,c] at h;have f:x.t≠t:=λa=>c (b x Ey a);simp only[bz,f,if_false];exact gy h (λy d=>b y (HP _ d))
theorem uf: ∀{l:List bC} {t:Nat} {e:bC},bz l t=some e->e.t=t
 |[], _, _,h=>by simp[bz] at h
 |x::r,t,e,h=>by
  simp only[bz] at h;split at h
  ·cases h;assumption
  ·exact uf h
variable {S:Nat->Option (Option A2)} {N:Nat} {D:List Deferred} {env:List bC} {a:Act}
theorem Fit.Jw {ops ops':Array Oper} (h:Fit S ops N D env a) (b:plain env):Fit S ops' N D env a:=by
 have nil: ∀(o:Array Oper),ib o a.tmps []:=λo x f=>by cases f
 refine⟨h.off,h.size,h.ni,λt e c _=>h.yes t e c (by rw[(b e (bG c)).1];exact nil _),λt e c g=>absurd (by rw[(b e (bG c)).1];exact nil _) g,λe d=>?_,h.xE⟩;rw[(b e d).2];exact(b e d).1
theorem wF {ops ops':Array Oper} (h:Fit S ops N D env a):Fit S ops' N D (iA env) a/\plain (iA env):=by
 have q: ∀e∈env,e.ch=[]->e.g=none:=λe c hc=>by
  have:=h.A8 e c;cases r:e.g with
  |none=>rfl
  |some γ=>rw[r] at this;exact absurd hc this.1
 have nil: ∀(o:Array Oper),ib o a.tmps []:=λo x k=>by cases k
 have f: ∀e∈iA env,e.ch=[]/\e∈env:=by
  intro e c;unfold iA at c;split at c
  ·rename_i s;refine⟨?_,c⟩;have:e∉env.filter λe=> !e.ch.isEmpty:=by rw[s];simp
   simp[c] at this;exact this
  ·simp only[Bc,BA,List.isEmpty_iff] at c;exact⟨c.2.1,c.1⟩
 have u: ∀t e,bz (iA env) t=some e->bz env t=some e:=by
  intro t e c;unfold iA at c;split at c
  ·exact c
  ·rename_i B C;refine gy c λx k m=>?_;have n:=bG c;simp only[Bc,BA] at n;have p:=uf c;have l:=n.2.2;have v:x.ch.isEmpty=true:=by
    cases w:x.ch.isEmpty with
    |true=>rfl
    |false=>
     have y:x∈env.filter λe=> !e.ch.isEmpty:=by simp[k,w]
     have:(env.filter λe=> !e.ch.isEmpty).any (λb=>b.t==e.t)=true:=Pl.2 ⟨x,y,by simp[m,p]⟩;rw[this] at l;simp at l
   have z:(env.filter λe=> !e.ch.isEmpty).any (λb=>b.t==x.t)=false:=by
    rw[m, <-p];simpa using l
   rw[v,z];rfl
 have d:plain (iA env):=λe c=>⟨(f e c).1,q e (f e c).2 (f e c).1⟩;refine⟨⟨h.off,h.size,h.ni,λt e i _=>h.yes t e (u t e i) (by rw[(d e (bG i)).1];exact nil _),λt e i A=>absurd (by rw[(d e (bG i)).1];exact nil _) A,λe j=>?_,λe j=>h.xE e (f e j).2⟩,d⟩;rw[(d e j).2];exact(d e j).1
def g6:Code->Option Nat
 | .region id _ _=>some id
 | .seq a b=>match g6 a with
   |some i=>some i
   |none=>g6 b
 | .cond _ a b=>match g6 a with
   |some i=>some i
   |none=>g6 b
 | .block _ b=>g6 b
 | .loop b=>g6 b
 | _=>none
def Mw (ops:Array Oper):List Nat:=ops.toList.filterMap (·.dst)
def writes:Code->List Nat
 | .region _ ops _=>Mw ops
 | .seq a b=>writes a++writes b
 | .cond _ a b=>writes a++writes b
 | .block _ b=>writes b
 | .loop b=>writes b
 | _=>[]
abbrev aV:=List (Nat×El)
def ij:(l:aV)->lO (l.map (·.2))->List bC
 |[], _=>[]
 |(t,s)::r,x=>⟨t,[],none,s.gj x.1,none⟩::ij r x.2
def ma:(l:aV)->List bC->Option (lO (l.map (·.2)))
 |[], _=>some ()
 |(t,s)::r,env=>match bz env t with
  |some e=>match s.proj e.v,ma r env with
   |some x,some y=>some (x,y)
   | _, _=>none
  |none=>none
def Pb (op:Op):Bool:=match op with
 | .send .. | .select .. =>true
 | _=>false
def Ug (ops:Array Oper):Bool:=ops.toList.any λo=>Pb o.op
def fK (n k:Nat):Array Bool:=⟨(Bb n).map λi=>Hb i k⟩
def Mx (ops:Array Oper):Bool:=(Bb ops.size).all λk=>B4 .any ops (fK ops.size k)==[k]
theorem AL {n k:Nat} (h:k<n):(fK n k).setIfInBounds k true=fK n (k+1):=by
 apply Hz;simp only[fK,Array.toList_setIfInBounds];apply List.ext_getElem
 ·simp
 ·intro i a h2;rw[List.getElem_set];simp only[List.getElem_map,List.getElem_range];split
  ·subst_vars
   exact(Eq.mpr I1 (Nat.lt_succ_self _)).symm
  ·rename_i b;rw[Bool.eq_iff_iff,I1,I1];omega
theorem Du {ops:Array Oper} (h:Mx ops=true): ∀(fuel t k:Nat) (a:List Nat),k+fuel=ops.size->HH .any ops fuel t (fK ops.size k) a=a.reverse++K1 k fuel
 |0,t,k,a, _=>by simp[HH]
 |fuel+1,t,k,a,c=>by
  have b:B4 .any ops (fK ops.size k)=[k]:=by
   simp only[Mx,C7,E4,beq_iff_eq] at h;exact h k (by omega)
  simp only[HH];change (match (B4 .any ops (fK ops.size k))[t % (B4 .any ops (fK ops.size k)).length]? with
   |some i=>HH .any ops fuel (t / (B4 .any ops (fK ops.size k)).length) ((fK ops.size k).setIfInBounds i true) (i::a)
   |none=>a.reverse)= _
  rw[b];simp only[List.length_singleton,Nat.mod_one,In];rw[AL (by omega),Du h fuel _ (k+1) (k::a) (by omega)];simp[Mz]
def S_ (P:AC) (o:Oper) (a:Act) (w:A1) (v:A2) (w':A1):Prop:=
 ∃cases b sh,(execOp a.eval o).run P w= .ok (.comm cases b sh) w/\
  ∀fr cs es,stepG P true (IR fr cs) w= .comm (IR fr cs) cases b sh w es->step P (S7 (IR fr cs) w)= .next (S7 (IR (fr.finish v) cs) w')
def L4 (P:AC) (ops:Array Oper) (Q:Act->A1->Prop):List Nat->Act->A1->Prop
 |[],a,w=>Q a w
 |i::l,a,w=> ∃o,ops[i]? =some o/\Bg o (yielded ops a.tmps)=true/\(∀c,o.op≠ .defer c)/\
  ∃v w',((execOp a.eval o).run P w= .ok (.value v) w'\/S_ P o a w v w')/\L4 P ops Q l (a.put o.dst v) w'
theorem z8 {ops:Array Oper} {Q b:Act->A1->Prop} (c: ∀a w,Q a w->b a w): ∀(l:List Nat) (a:Act) (w:A1),L4 P ops Q l a w->L4 P ops b l a w
 |[],a,w,h=>c a w h
 |i::l,a,w,h=>by
  obtain⟨o,d,e,f,v,w',g,j⟩:=h;exact⟨o,d,e,f,v,w',g,z8 c l _ _ j⟩
theorem kI {r:Option Nat} {ops:Array Oper} {Q:Act->A1->Prop}: ∀(l:List Nat) (a:Act) (w:A1),L4 P ops Q l a w-> ∀(b:Frame) (k:List Item) (cs:List Frame),
 ∃c w',Q c w'/\StepsIn (Machine.fenced P (WF r)) P (lone (b.atR a (.inRegion ops l::k)) cs w) (lone (b.atR c k) cs w')
 |[],a,w,h,b,k,cs=>⟨a,w,h,.one (fenced_calm (n:=0) (O9 r _) (Dr r _) rfl) stepR_region_end⟩
 |i::l,a,w,h,b,k,cs=>by
  obtain⟨o,d,p,q,v,w',s,t⟩:=h;obtain⟨c,u,y,z⟩:=kI (r:=r) l _ _ t b k cs;have e:=stepGR_op (P:=P) (b:=b) (k:=k) (cs:=cs) (w:=w) (rest:=l) d p;rw[Oper.semAt_eq _ _ _ q] at e;have g:(b.atR a (.inRegion ops (i::l)::k)).finish v=b.atR (a.put o.dst v) (.inRegion ops l::k):=by rw[Frame.finish_atR,d];rfl
  have h0:(lone (b.atR a (.inRegion ops (i::l)::k)) cs w).fenced P (WF r):=fenced_oper (n:=0) (O9 r _) (Dr r _) d (λ_ _=>trivial);refine⟨c,u,y,.head h0 ?_ z⟩;rcases s with f|⟨j,m,sh,f,hc⟩
  ·refine step_lone_go ?_;rw[e, <-g];simp[stepG.apply,f]
  ·rw[<-g];have key: ∀x:Sem Next,x.run P w= .ok (.comm j m sh) w-> ∃es,stepG.apply P true (b.atR a (.inRegion ops (i::l)::k)) cs none x w= .comm (IR (b.atR a (.inRegion ops (i::l)::k)) cs) j m sh w es:=λx A=>by
    simp only[stepG.apply,Sem.runT_eq,A,if_true,GStep.after];exact⟨_,rfl⟩
   obtain⟨es,B⟩:=key _ f;exact hc _ _ es (e.trans B)
theorem vT {r:Option Nat} {id:Nat} {ops:Array Oper} {g:Bool} {Q:Exit->Act->A1->Prop} {a:Act} {w:A1} (l:P.follows .mixedOrders=true) (m:Mx ops=true)
 (h: ∀w',Ext w w'->L4 P ops (Q .normal) (Bb ops.size) a w'):(Code.region id ops g).wpIn (WF r) 0 P Q a w:=by
 intro b k cs _ hb j;cases g with
 |false=>
  obtain⟨c,w',d,f⟩:=kI (r:=r) _ _ _ (h w (Ext.refl w)) b k cs;exact⟨.normal,c,w',d,StepsIn.head (fenced_calm hb j rfl) stepR_region f⟩
 |true=>
  obtain⟨c,w',d,f⟩:=kI (r:=r) _ _ _ (h _ (Ext.drew w)) b k cs;refine⟨.normal,c,w',d,StepsIn.head (fenced_calm hb j rfl) (stepR_region_draw) ?_⟩;have e: ∀t,Ia (P.follows .mixedOrders) ops t=Bb ops.size:=λt=>by
   simp only[Ia,l,Bool.true_or,if_true,PM];have n:Gi ops.size false=fK ops.size 0:=by
    apply Array.ext
    ·simp[fK]
    ·intro i o h2;have: ∀i,Hb i 0=false:=λi=>by cases i<;>rfl
     simp[fK,this]
   rw[n,Du m _ _ 0 [] (by omega)];simp[Pp]
  rw[e];exact f
def C_ (op:Op):Bool:=match op with
 | .load .. | .fieldAddr .. | .indexAddr .. | .build .. | .field .. | .extract .. | .binOp .. | .move _| .assign _| .convert .. =>true
 | _=>false
theorem Jx {s:Sem A2} {f:B5} {args:Array A2} {w w':A1} (h:(do pure (Next.value (<-s)):Sem Next).run P w= .ok (.enter f args) w'):False:=by
 rw[AX] at h;cases a:s.run P w with
 |ok x w1=>rw[a] at h;simp at h
 |halt x w1=>rw[a] at h;simp[Bp] at h
theorem wG {o:Oper} {a:Act} {w:A1} {v:A2} (h:C_ o.op=true) (b:cB P o a w v):(execOp a.eval o).run P w= .ok (.value v) w/\ ∀c,o.op≠ .defer c:=by
 obtain⟨dst,op,type,pos,after,guard⟩:=o;have g: ∀f args w',(execOp a.eval ⟨dst,op,type,pos,after,guard⟩).run P w≠ .ok (.enter f args) w':=λf args w' e=>by
  cases op<;>simp only[C_,Et] at h<;>first|exact Jx e|(simp[execOp] at e;done)
 refine⟨?_,λc hc=>by simp only at hc;subst hc;cases h⟩;unfold cB at b;split at b
 ·rename_i u i d;obtain⟨rfl,rfl⟩:=b;exact d
 ·rename_i f args i d;exact absurd d (g _ _ _)
 ·exact b.elim
def Vp (P:AC) (ρ:Operand->Option A2) (op:Op) (w:A1) (K:A2->A1->Prop):Prop:=match op with
 | .send ch x=>match ρ ch,ρ x with
   |some (.chan p),some v=> ∀w1,Ext w w1-> ∃r cap a s m,p=some r/\V4 w1 r cap a s m/\a.length<cap/\K undef (w1.putObj r (.chan cap ⟨a++[v]⟩ false (s+1) m false))
   | _, _=>cU 130 op
 | .select cs d=>match d,cs.toList with
   |false,[c]=>match c.send,ρ c.chan,P.info? c.elem,qw P c.elem with
    |none,some (.chan p),some i,some el=>match i.zero with
     |some z=> ∀w1,Ext w w1-> ∃r cap a s m,p=some r/\V4 w1 r cap a s m/\(a=[]->K (.tuple ⟨[.int .i64 (-1),.bool false,z]⟩) w1)/\
      ∀v b,a=v::b-> ∃x:el.T,v=el.gj x/\K (.tuple ⟨[.int .i64 0,.bool true,el.gj x]⟩) (w1.putObj r (.chan cap ⟨b⟩ false s (m+1) false))
     |none=>cU 131 op
    | _, _, _, _=>cU 132 op
   | _, _=>cU 133 op
 | _=>cU 134 op
theorem uW (w:A1) (r cap:Nat) (a:Array A2) (cl:Bool) (s m:Nat) (b:Bool):w.setChan r cap a cl s m b=w.putObj r (.chan cap a cl s m b):=rfl
theorem IH {ρ:Operand->Option A2} {a:Act} (d: ∀x v,ρ x=some v->a.eval x=v) {o:Oper} {w w':A1} {K:A2->A1->Prop} (h:Vp P ρ o.op w K) (g:Ext w w'):
 (∀c,o.op≠ .defer c)/\ ∃v j,S_ P o a w' v j/\K v j:=by
 obtain⟨dst,op,type,pos,after,guard⟩:=o;unfold Vp at h;simp only at h;split at h
 ·rename_i ch x;refine⟨λc hc=>(by cases hc),?_⟩;split at h
  ·rename_i p v e hv;obtain⟨r,cap,k,s,m,rfl,hc,l,f⟩:=h w' g;refine⟨_, _,⟨_, _, _,(by simp only[execOp,d _ _ e,d _ _ hv];rfl),λfr cs es b=>?_⟩,f⟩;have:=Go.Conc.step_lone_send_room (z':= .tuple #[]) b hc (by simpa using l);rw[this,uW];simp
  ·exact h.elim
 ·rename_i cs B;refine⟨λc hc=>(by cases hc),?_⟩;split at h
  ·rename_i c gQ;split at h
   ·rename_i p i el n e hi C;split at h
    ·rename_i z q;obtain⟨r,cap,k,s,m,rfl,hc,h0,t⟩:=h w' g;have u:cs= #[c]:=by cases cs;simp_all
     have dp:(execOp a.eval ⟨dst,.select cs false,type,pos,after,guard⟩).run P w'= .ok (.comm #[S8 r z] false .select) w':=by
      subst u;have y:(zeroValue c.elem).run P w'= .ok z w':=by simp[zeroValue,eO hi,q]
      simp[execOp,n,d _ _ e,y,S8]
     cases k with
     |nil=>exact⟨_, _,⟨_, _, _,dp,λfr cs es b=>Go.Conc.step_lone_select_default b hc⟩,h0 rfl⟩
     |cons v A=>
      obtain⟨x,rfl,f⟩:=t v A rfl;refine⟨_, _,⟨_, _, _,dp,λfr cs es b=>?_⟩,f⟩;have:=Go.Conc.step_lone_select_recv_buf b hc (by simp);rw[this,uW];simp[goInt]
    ·exact h.elim
   ·exact h.elim
  ·exact h.elim
 ·exact h.elim
def Ta (C:dn P) (ops:Array Oper) (N:Nat):List Nat->List bC->A1->(List bC->A1->Prop)->Prop
 |[],env,w,K=>K env w
 |i::r,env,w,K=>match ops[i]? with
  |none=>False
  |some ⟨dst,op,type,pos,after,guard⟩=>match guard with
   |some _=>cU 135 op
   |none=>if l9 ops N env [] dst then match Pb op with
     |true=>Vp P (sq env []) op w (λv a=>sy env dst [] none v (λenv=>Ta C ops N r env a K))
     |false=>if C_ op then kP C ops env [] none ⟨dst,op,type,pos,after,none⟩ w (λv=>sy env dst [] none v (λenv=>Ta C ops N r env w K)) else cU 136 op
    else cU 137 op
theorem BD {ops:Array Oper} {C:dn P} (f:Wr S ops): ∀(l:List Nat) (env:List bC) (a:Act) (w w':A1) (K:List bC->A1->Prop),Fit S ops N D env a->Ta C ops N l env w K->Ext w w'->
 L4 P ops (λa1 w1=> ∃cn j,K cn j/\Fit S ops N D cn a1/\Ext j w1) l a w'
 |[],env,a,w,w',K,b,h,c=>⟨env,w,h,b,c⟩
 |i::l,env,a,w,w',K,b,h,c=>by
  unfold Ta at h;split at h
  ·exact h.elim
  ·rename_i dst op type pos after guard k;have n:=f _ (HQ k);split at h
   ·exact h.elim
   ·split at h
    ·rename_i p;have m: ∀v,Fit S ops N D (jV env dst [] none v) (a.put dst v):=λv=>b.put p n rfl (λ_=>rfl) (λd=>absurd c8 d);refine⟨_,k,(by simp[Bg]),?_⟩;split at h
     ·obtain⟨d,v,q,hc,e⟩:=IH (o:=⟨dst,op,type,pos,after,none⟩) (a:=a) (λx v r=>b.ev c8 r) h c;rw[k9] at e;exact⟨d,v,q,.inr hc,BD f l _ _ _ _ K (m v) e (Ext.refl _)⟩
     ·split at h
      ·rename_i s;obtain⟨v,e,t⟩:=uc (g:=none) b rfl h;obtain⟨u,d⟩:=wG (o:=⟨dst,op,type,pos,after,none⟩) s (t c8 w' c);rw[k9] at e;exact⟨d,v,w',.inl u,BD f l _ _ _ _ K (m v) e c⟩
      ·exact h.elim
    ·exact h.elim
def kW (o:Oper):List Nat:=(o.after.toList.filter λe=>EA .any e).map (·.on)
def BE (o:Oper):List Nat:=o.op.operands.toList.filterMap λ| .tmp t=>some t| _=>none
def Ui (op:Op):Bool:=match op with
 | .select .. =>true
 | _=>false
def Pc (ops:Array Oper) (i:Nat):Bool:=match ops[i]? with
 |none=>false
 |some o=>o.guard.isNone&& !Ui o.op&&((BE o).all λt=>(Bb ops.size).all λj=>cO ops j != some t||(kW o).contains j)&&((kW o).all λj=>Hb j i)&&
  (o.dst.isNone||(Bb i).all λj=>cO ops j != o.dst)&&(Nat.beq (i+1) ops.size||(Bb ops.size).any λk=>Hb i k&&match ops[k]? with
   |some x=>(kW x).contains i
   |none=>false)
def Bh (ops:Array Oper):Bool:=(Bb ops.size).all (Pc ops)
def wpS (P:AC) (ops:Array Oper) (Q:Act->A1->Prop):List Nat->Act->A1->Prop
 |[], _, _=>False
 |[i],a,w=> ∃o,ops[i]? =some o/\(∀c,o.op≠ .defer c)/\ ∃v w',S_ P o a w v w'/\Q (a.put o.dst v) w'
 |i::j::l,a,w=> ∃o,ops[i]? =some o/\(∀c,o.op≠ .defer c)/\ ∃v,(execOp a.eval o).run P w= .ok (.value v) w/\wpS P ops Q (j::l) (a.put o.dst v) w
theorem z9 {ops:Array Oper} {Q d:Act->A1->Prop} (e: ∀a w,Q a w->d a w): ∀(l:List Nat) (a:Act) (w:A1),wpS P ops Q l a w->wpS P ops d l a w
 |[], _, _,h=>h
 |[i],a,w,h=>by
  obtain⟨o,b,c,v,w',hc,h⟩:=h;exact⟨o,b,c,v,w',hc,e _ _ h⟩
 |i::j::l,a,w,h=>by
  obtain⟨o,b,c,v,f,h⟩:=h;exact⟨o,b,c,v,f,z9 e (j::l) _ _ h⟩
def yV (ops:Array Oper) (a:Act) (v:Nat->A2) (k:Nat):Nat->Act
 |0=>a
 |i+1=>(yV ops a v k i).put (cO ops (k+i)) (v i)
theorem wH {ops:Array Oper} {a:Act} {v:Nat->A2} {k:Nat}: ∀i,yV ops (a.put (cO ops k) (v 0)) (λj=>v (j+1)) (k+1) i=yV ops a v k (i+1)
 |0=>rfl
 |i+1=>by
  show(yV ops (a.put (cO ops k) (v 0)) (λj=>v (j+1)) (k+1) i).put (cO ops (k+1+i)) (v (i+1))=(yV ops a v k (i+1)).put (cO ops (k+(i+1))) (v (i+1));rw[wH i,show k+1+i=k+(i+1) by omega]
theorem BF {ops:Array Oper} {i:Nat} {o:Oper} (h:ops[i]? =some o):cO ops i=o.dst:=by unfold cO;rw[h];rfl
theorem Dv {ops:Array Oper} {Q:Act->A1->Prop} {w:A1}: ∀(d k:Nat) (a:Act),wpS P ops Q (K1 k (d+1)) a w->
 ∃(v:Nat->A2),(∀i,i<d-> ∃o,ops[k+i]? =some o/\(∀c,o.op≠ .defer c)/\(execOp (yV ops a v k i).eval o).run P w= .ok (.value (v i)) w)/\
  ∃o,ops[k+d]? =some o/\(∀c,o.op≠ .defer c)/\ ∃u w',S_ P o (yV ops a v k d) w u w'/\Q ((yV ops a v k d).put o.dst u) w'
 |0,k,a,h=>by
  obtain⟨o,b,h2,u,w',f,l⟩:=h;exact⟨λ_=>undef,λi hi=>absurd hi (QT _),o,b,h2,u,w',f,l⟩
 |d+1,k,a,h=>by
  rw[Mz] at h;have e:K1 (k+1) (d+1)=(k+1)::K1 (k+1+1) d:=Mz;rw[e] at h;obtain⟨o,b,m,j,h2,f⟩:=h;rw[<-e] at f;obtain⟨v,n,p,q,r,u,w',k4,k5⟩:=Dv d (k+1) _ f
  let g:Nat->A2:=λi=>match i with
   |0=>j
   |i+1=>v i
  have sh: ∀i,yV ops (a.put o.dst j) v (k+1) i=yV ops a g k (i+1):=λi=>by
   rw[<-wH (ops:=ops) (a:=a) (v:=g) (k:=k) i,BF b]
  refine⟨g,λi hi=>?_,p,by rw[show k+(d+1)=k+1+d by omega];exact q,r,u,w',?_,?_⟩
  ·cases i with
   |zero=>exact⟨o,b,m,h2⟩
   |succ i=>
    obtain⟨s,t,x,y⟩:=n i (by omega);refine⟨s,by rw[show k+(i+1)=k+1+i by omega];exact t,x,?_⟩;rw[<-sh i];exact y
  ·rw[<-sh d];exact k4
  ·rw[<-sh d];exact k5
structure SR (ops:Array Oper) (m:Nat) (v:Nat->A2) (a:Act) (S:Nat->Prop) (b:Act):Prop where
 df:b.defers=a.defers
 sz:b.tmps.size=a.tmps.size
 yes: ∀j t,j<m->S j->cO ops j=some t->b.tmps[t]? =if t<a.tmps.size then some (v j) else none
 no: ∀t,(∀j,j<m->S j->cO ops j≠some t)->b.tmps[t]? =a.tmps[t]?
theorem SR.step {ops:Array Oper} {m:Nat} {v:Nat->A2} {a b:Act} {S S':Nat->Prop} (h:SR ops m v a S b) {i:Nat} (hi:i<m) (l: ∀j,S' j<->S j\/j=i) (o: ∀j t,j<m->cO ops j=some t->cO ops i=some t->j=i):SR ops m v a S' (b.put (cO ops i) (v i)):=by
 cases n:cO ops i with
 |none=>
  refine⟨h.df,h.sz,λj t k g f=>?_,λt f=>h.no t λj k g=>f j k ((l j).2 (.inl g))⟩;rcases(l j).1 g with g|rfl
  ·exact h.yes j t k g f
  ·rw[n] at f;cases f
 |some d=>
  have p:(b.put (some d) (v i)).tmps.size=a.tmps.size:=by simp[DB,h.sz]
  refine⟨h.df,p,λj t k g f=>?_,λt f=>?_⟩
  ·by_cases e:t=d
   ·subst e;have:j=i:=o j t k f n;subst this;simp only[DB];rw[Array.getElem?_setIfInBounds];simp[h.sz]
   ·rcases(l j).1 g with g|rfl
    ·have:(b.put (some d) (v i)).tmps[t]? =b.tmps[t]? :=by simp[DB,DS (λc=>e c.symm)]
     rw[this];exact h.yes j t k g f
    ·rw[n] at f;cases f;exact absurd rfl e
  ·have q:d≠t:=λe=>f i hi ((l i).2 (.inr rfl)) (by rw[n,e]);have:(b.put (some d) (v i)).tmps[t]? =b.tmps[t]? :=by simp[DB,DS q]
   rw[this];exact h.no t λj k g=>f j k ((l j).2 (.inl g))
theorem SR.eq {ops:Array Oper} {m:Nat} {v:Nat->A2} {a b c:Act} {S T:Nat->Prop} (h:SR ops m v a S b) (k:SR ops m v a T c) (l: ∀j,j<m->(S j<->T j)):b=c:=by
 have:b.tmps=c.tmps:=by
  apply Hz;apply List.ext_getElem?;intro t;have e:b.tmps[t]? =c.tmps[t]? :=by
   by_cases i: ∃j,j<m/\S j/\cO ops j=some t
   ·obtain⟨j,d,f,g⟩:=i;rw[h.yes j t d f g,k.yes j t d ((l j d).1 f) g]
   ·rw[h.no t λj d f g=>i ⟨j,d,f,g⟩,k.no t λj d f g=>i ⟨j,d,(l j d).2 f,g⟩]
  simpa using e
 cases b;cases c;have n:=h.df.trans k.df.symm;simp only at this n;subst this;subst n;rfl
theorem eJ {ops:Array Oper} (g:Bh ops=true) {i:Nat} {o:Oper} (l:ops[i]? =some o):
 o.guard=none/\(∀cs b,o.op≠ .select cs b)/\(∀t∈BE o, ∀j,j<ops.size->cO ops j=some t->j∈kW o)/\(∀j∈kW o,j<i)/\(∀j t,j<i->cO ops j=some t->cO ops i≠some t)/\
  (i+1=ops.size\/ ∃k x,i<k/\ops[k]? =some x/\i∈kW x):=by
 have hi:i<ops.size:=(Br.1 l).1;unfold Bh at g;rw[C7] at g;have h:=g i (E4.2 hi);unfold Pc at h;rw[l] at h;simp only[BA,Option.isNone_iff_eq_none,HL,C7,E4,Ev,bne_iff_ne,List.contains_iff_mem,I1,Pl,Nat.beq_eq] at h;obtain⟨⟨⟨⟨⟨q,h2⟩,r⟩,s⟩,a⟩,d⟩:=h;refine⟨q,λcs b e=>(by rw[e] at h2;cases h2),λt u j m n=>(r t u j m).resolve_left λc=>c n,s,λj t m n c=>?_,?_⟩
 ·rw[BF l] at c;rcases a with a|a
  ·rw[a] at c;cases c
  ·exact a j m (by rw[n,c])
 ·rcases d with d|⟨k,v,d,f⟩
  ·exact .inl d
  ·cases p:ops[k]? with
   |none=>rw[p] at f;cases f
   |some x=>rw[p] at f;exact .inr ⟨k,x,d,p,by simpa using f⟩
theorem wI {ops:Array Oper} {a:Array Bool} (g:a.size=ops.size) {i:Nat}:i∈B4 .any ops a<-> ∃o,ops[i]? =some o/\a.getD i false=false/\ ∀j∈kW o,a.getD j false=true:=by
 have f:i<ops.size->(a.getD i true=a.getD i false):=λh=>by simp[HT,g,h]
 unfold B4;rw[Bc,E4];constructor
 ·rintro⟨hi,hc⟩;obtain⟨o,b⟩: ∃o,ops[i]? =some o:=⟨_,L_ hi⟩;rw[b,f hi] at hc;simp only[H7,MI,BA,HL,LZ,Ev] at hc;refine⟨o,b,hc.1,λj k=>?_⟩;obtain⟨e,d,rfl⟩:=Hu.1 k;obtain⟨l,m⟩:=Bc.1 d;rcases hc.2 e (by simpa using l) with c|c
  ·rw[m] at c;cases c
  ·exact c
 ·rintro⟨o,b,n,h2⟩;have hi:i<ops.size:=(Br.1 b).1;refine⟨hi,?_⟩;rw[b,f hi];simp only[H7,MI,BA,HL,LZ,Ev];refine⟨n,λe d=>?_⟩;by_cases hb:EA .any e=true
  ·exact .inr (h2 e.on (Hu.2 ⟨e,Bc.2 ⟨by simpa using d,hb⟩,rfl⟩))
  ·exact .inl (by simpa using hb)
theorem uu {l:Array Bool} {i j:Nat} (hi:i<l.size):(l.setIfInBounds i true).getD j false=true<->l.getD j false=true\/j=i:=by
 by_cases e:j=i
 ·subst e;simp[HT,hi]
 ·have:(l.setIfInBounds i true).getD j false=l.getD j false:=by
   simp only[GS];rw[DS (λc=>e c.symm)]
  rw[this];simp[e]
theorem MS {ops:Array Oper} {Q:Act->A1->Prop} {a:Act} {w:A1} (z:Bh ops=true) {m:Nat} (hm:ops.size=m+1) (h:wpS P ops Q (Bb (m+1)) a w):
 ∀(s t:Nat) (f:Array Bool) (b:Act),f.size=ops.size->(Bb ops.size).countP (λj=> !f.getD j false)=s->f.getD m false=false->
  (∀i o,ops[i]? =some o->f.getD i false=true-> ∀j∈kW o,f.getD j false=true)->
  (∃v:Nat->A2,(∀i,i<m-> ∃o,ops[i]? =some o/\(∀c,o.op≠ .defer c)/\(execOp (yV ops a v 0 i).eval o).run P w= .ok (.value (v i)) w)/\
   (∃o,ops[m]? =some o/\(∀c,o.op≠ .defer c)/\ ∃u w',S_ P o (yV ops a v 0 m) w u w'/\Q ((yV ops a v 0 m).put o.dst u) w')/\SR ops m v a (λj=>f.getD j false=true) b)->
  L4 P ops Q (HH .any ops s t f []) b w:=by
 intro s
 induction s with
 |zero=>
  intro t f b y hc B _ _;exfalso;rw[Ps] at hc;have:=hc m (E4.2 (by omega));rw[B] at this;exact this rfl
 |succ s ih=>
  intro t f b y hc B T J;obtain⟨v,hv,⟨K,C,U,u,w',V,W⟩,E⟩:=J;have X: ∀i j t,i<m->j<m->cO ops i=some t->cO ops j=some t->j=i:=λi j t hi g p h2=>by
   obtain⟨oi,l, _⟩:=hv i hi;obtain⟨oj,F, _⟩:=hv j g;rcases Nat.lt_trichotomy i j with q|q|q
   ·exact absurd h2 ((eJ z F).2.2.2.2.1 i t q p)
   ·exact q.symm
   ·exact absurd p ((eJ z l).2.2.2.2.1 j t q h2)
  have L: ∀k,k<=m->SR ops m v a (λj=>j<k) (yV ops a v 0 k):=by
   intro k
   induction k with
   |zero=>exact λ_=>⟨rfl,rfl,λj t _ hs=>absurd hs (QT _),λt _=>rfl⟩
   |succ k M=>
    intro r;have:=(M (by omega)).step (S':=λj=>j<k+1) (i:=k) (by omega) (λj=>by omega) (λj t g p h2=>X k j t (by omega) g h2 p);show SR ops m v a _ ((yV ops a v 0 k).put (cO ops (0+k)) (v k));rw[ED];exact this
  have same: ∀i o,ops[i]? =some o->i<=m->(∀j∈kW o,f.getD j false=true)->execOp b.eval o=execOp (yV ops a v 0 i).eval o:=λi o l hi D=>by
   obtain⟨_,VX,OR,Y, _, _⟩:=eJ z l;refine execOp_congr o VX λx J=>?_;cases x with
   |tmp t=>
    have ht:t∈BE o:=Pw.2 ⟨.tmp t,by simpa using J,rfl⟩;have key:b.tmps[t]? =(yV ops a v 0 i).tmps[t]? :=by
     by_cases g: ∃j,j<ops.size/\cO ops j=some t
     ·obtain⟨j,Z,N⟩:=g;have G:=OR t ht j Z N;have O:=Y j G;rw[E.yes j t (by omega) (D j G) N,(L i hi).yes j t (by omega) O N]
     ·rw[E.no t λj y8 _ R=>g ⟨j,by omega,R⟩,(L i hi).no t λj y8 _ R=>g ⟨j,by omega,R⟩]
    simp only[H2,GS,key]
   | _=>rfl
  have wt: ∀i o,ops[i]? =some o-> ∀c:Act,Bg o (yielded ops c.tmps)=true:=λi o l c=>by
   unfold Bg;rw[(eJ z l).1]
  simp only[HH];change L4 P ops Q (match (B4 .any ops f)[t % (B4 .any ops f).length]? with
   |some i=>HH .any ops s (t / (B4 .any ops f).length) (f.setIfInBounds i true) [i]
   |none=>[].reverse) b w
  cases hi:(B4 .any ops f)[t % (B4 .any ops f).length]? with
  |none=>
   exfalso;have HJ:B4 .any ops f=[]:=by
    cases hr:B4 .any ops f with
    |nil=>rfl
    |cons x xs=>
     rw[hr] at hi;have Y:t % (x::xs).length<(x::xs).length:=Nat.mod_lt _ (by simp);rw[List.getElem?_eq_none_iff] at hi;omega
   have least: ∀k,k<=m->(∀j,j<k->f.getD j false=true)->f.getD k false=true:=λk r g=>by
    cases A:f.getD k false with
    |true=>rfl
    |false=>
     exfalso;obtain⟨o,l⟩: ∃o,ops[k]? =some o:=⟨_,L_ (by omega)⟩;have:k∈B4 .any ops f:=(wI y).2 ⟨o,l,A,λj G=>g j ((eJ z l).2.2.2.1 j G)⟩;rw[HJ] at this;cases this
   have all: ∀k,k<=m->f.getD k false=true:=by
    intro k
    induction k using OY with
    | _ k M=>exact λr=>least k r λj g=>M j g (by omega)
   rw[all m (Di _)] at B;cases B
  |some i=>
   simp only[];rw[linearise_go_acc,List.reverse_singleton,List.singleton_append];have ZJ:=List.mem_of_getElem? hi;obtain⟨o,l,L5,D⟩:=(wI y).1 ZJ;have H:i<ops.size:=(Br.1 l).1;by_cases Yv:i=m
   ·subst Yv;rw[C] at l;cases l;have all: ∀d k,k+d=i->k<i->f.getD k false=true:=by
     intro d
     induction d using OY with
     | _ d ZK=>
       intro k r V';obtain⟨ok,ia, _⟩:=hv k V';rcases(eJ z ia).2.2.2.2.2 with q|⟨j,x,hkj,I,qy⟩
       ·omega
       ·have Z:j<ops.size:=(Br.1 I).1;by_cases O:j=i
        ·subst O;rw[C] at I;cases I;exact D k qy
        ·exact T j x I (ZK (i - j) (by omega) j (by omega) (by omega)) k qy
    have heq:b=yV ops a v 0 i:=E.eq (L i (Di _)) λj g=>⟨λ_=>g,λ_=>all (i - j) j (by omega) g⟩;have hf:s=0:=by
     have p:(Bb ops.size).countP (λj=> !f.getD j false)<=1:=by
      rw[hm,Px,O0];have:(Bb i).countP (λj=> !f.getD j false)=0:=Ps.2 λj g=>by
       rw[all (i - j) j (by have:=E4.1 g;omega) (E4.1 g)];decide
      rw[this];exact Nat.le_trans (by rw[ED];exact List.countP_le_length) (Di 1)
     omega
    subst hf;refine⟨K,C,wt i K C b,U,u,w',.inr ?_,?_⟩
    ·rw[heq];exact V
    ·rw[heq];exact W
   ·have S:i<m:=by omega
    obtain⟨o',F,hn,dp⟩:=hv i S;rw[l] at F;cases F;refine⟨o,l,wt i o l b,hn,v i,w,.inl (by rw[same i o l (by omega) D];exact dp),?_⟩;have Wd:(f.setIfInBounds i true).size=ops.size:=by simp[y]
    refine ih _ _ _ Wd ?_ ?_ ?_ ⟨v,hv,⟨K,C,U,u,w',V,W⟩,?_⟩
    ·
     have Q4: ∀n,i<n->(Bb n).countP (λj=> !f.getD j false)=(Bb n).countP (λj=> !(f.setIfInBounds i true).getD j false)+1:=by
      intro n
      induction n with
      |zero=>intro h;omega
      |succ n ZL=>
       intro lz;rw[Px,O0,O0];by_cases e:i=n
       ·subst e;have p:(Bb i).countP (λj=> !(f.setIfInBounds i true).getD j false)=(Bb i).countP (λj=> !f.getD j false):=by
         refine List.countP_congr λj g=>?_;have g:=E4.1 g;have:(f.setIfInBounds i true).getD j false=f.getD j false:=by
          simp only[GS];rw[DS (by omega)]
         rw[this]
        have h2:(f.setIfInBounds i true).getD i false=true:=(uu (by rw[y];exact H)).2 (.inr rfl);rw[p,K2,K2,h2,L5];rfl
       ·have h2:(f.setIfInBounds i true).getD n false=f.getD n false:=by
         simp only[GS];rw[DS e]
        rw[ZL (by omega),K2,K2,h2];omega
     have:=Q4 ops.size H;omega
    ·have:(f.setIfInBounds i true).getD m false=f.getD m false:=by
      simp only[GS];rw[DS Yv]
     rw[this];exact B
    ·intro k x r A j g;rw[uu (by rw[y];exact H)] at A ⊢;rcases A with A|rfl
     ·exact .inl (T k x r A j g)
     ·rw[l] at r;cases r;exact .inl (D j g)
    ·have:=E.step (S':=λj=>(f.setIfInBounds i true).getD j false=true) S (λj=>uu (by rw[y];exact H)) (λj t g p h2=>X i j t S g h2 p);rw[BF l] at this;exact this
theorem Pe {ops:Array Oper} {Q:Act->A1->Prop} (c:Bh ops=true) {w:A1}: ∀(l:List Nat) (a:Act),wpS P ops Q l a w->L4 P ops Q l a w
 |[], _,h=>h.elim
 |[i],a,h=>by
  obtain⟨o,b,d,v,w',hc,e⟩:=h;exact⟨o,b,(by unfold Bg;rw[(eJ c b).1]),d,v,w',.inr hc,e⟩
 |i::j::l,a,h=>by
  obtain⟨o,b,d,v,f,g⟩:=h;exact⟨o,b,(by unfold Bg;rw[(eJ c b).1]),d,v,w,.inl f,Pe c (j::l) _ g⟩
theorem vU {r:Option Nat} {id:Nat} {ops:Array Oper} {n:Bool} {Q:Exit->Act->A1->Prop} {a:Act} {w:A1} (y:P.follows .mixedOrders=true) (c:Bh ops=true) (h0:0<ops.size)
 (h: ∀w',Ext w w'->wpS P ops (Q .normal) (Bb ops.size) a w'):(Code.region id ops n).wpIn (WF r) 0 P Q a w:=by
 intro b k cs _ hb p;cases n with
 |false=>
  obtain⟨f,w',d,g⟩:=kI (r:=r) _ _ _ (Pe c _ _ (h w (Ext.refl w))) b k cs;exact⟨.normal,f,w',d,StepsIn.head (fenced_calm hb p rfl) stepR_region g⟩
 |true=>
  have l:=h _ (Ext.drew w);obtain⟨m,q⟩: ∃m,ops.size=m+1:=⟨ops.size - 1,by omega⟩;have key: ∀t,L4 P ops (Q .normal) (Ia (P.follows .mixedOrders) ops t) a {w with drawn:=w.drawn+1}:=λt=>by
   simp only[Ia,y,Bool.true_or,if_true,PM];rw[q] at l;have z:=Dv m 0 a (by rw[<-Pp];exact l);obtain⟨v,hv,o,s,A,u,w',hc,d⟩:=z;have e: ∀j,(Gi ops.size false).getD j false=false:=λj=>by
    by_cases B:j<ops.size<;>simp[HT,B]
   refine MS c q l ops.size t _ a (by simp) ?_ (e m) (λi o _ x=>by rw[e] at x;cases x) ⟨v,λi hi=>?_,⟨o,?_,A,u,w',hc,d⟩,⟨rfl,rfl,λj t _ c=>(by rw[e] at c;cases c),λt _=>rfl⟩⟩
   ·rw[List.countP_eq_length.2 λj _=>by rw[e];rfl,List.length_range]
   ·have:=hv i hi;rw[ED] at this;exact this
   ·rw[ED] at s;exact s
  obtain⟨f,w',d,g⟩:=kI (r:=r) _ _ _ (key _) b k cs;exact⟨.normal,f,w',d,StepsIn.head (fenced_calm hb p rfl) (stepR_region_draw) g⟩
def Vv (C:dn P) (ops:Array Oper) (N:Nat):List Nat->List bC->A1->(List bC->A1->Prop)->Prop
 |[], _, _, _=>False
 |i::r,env,w,K=>match ops[i]? with
  |none=>False
  |some ⟨dst,op,type,pos,after, _⟩=>if l9 ops N env [] dst then match r with
    |[]=>Vp P (sq env []) op w (λv a=>sy env dst [] none v (λenv=>K env a))
    |j::l=>if C_ op then kP C ops env [] none ⟨dst,op,type,pos,after,none⟩ w (λv=>sy env dst [] none v (λenv=>Vv C ops N (j::l) env w K)) else cU 138 op
   else cU 139 op
theorem II {ops:Array Oper} {C:dn P} (k:Bh ops=true) (m:Wr S ops): ∀(l:List Nat) (env:List bC) (a:Act) (w w':A1) (K:List bC->A1->Prop),Fit S ops N D env a->Vv C ops N l env w K->Ext w w'->
 wpS P ops (λa1 w1=> ∃cn n,K cn n/\Fit S ops N D cn a1/\Ext n w1) l a w'
 |[], _, _, _, _, _, _,h, _=>h.elim
 |i::r,env,a,w,w',K,e,h,f=>by
  unfold Vv at h;split at h
  ·exact h.elim
  ·rename_i dst op type pos after guard d;have s:=m _ (HQ d);have t:guard=none:=(eJ k d).1;subst t;split at h
   ·rename_i u;have p: ∀v,Fit S ops N D (jV env dst [] none v) (a.put dst v):=λv=>e.put u s rfl (λ_=>rfl) (λb=>absurd c8 b);split at h
    ·obtain⟨b,v,q,hc,c⟩:=IH (o:=⟨dst,op,type,pos,after,none⟩) (a:=a) (λx v y=>e.ev c8 y) h f;rw[k9] at c;exact⟨_,d,b,v,q,hc, _,q,c,p v,Ext.refl _⟩
    ·rename_i j l;split at h
     ·rename_i z;obtain⟨v,c,A⟩:=uc (g:=none) e rfl h;obtain⟨B,b⟩:=wG (o:=⟨dst,op,type,pos,after,none⟩) z (A c8 w' f);rw[k9] at c;exact⟨_,d,b,v,B,II k m (j::l) _ _ _ _ K (p v) c f⟩
     ·exact h.elim
   ·exact h.elim
def Ij (C:dn P) (N:Nat) (ops:Array Oper) (a:Bool) (env:List bC) (w:A1) (K:List bC->A1->Prop):Prop:=
 if Ug ops then
  if Mx ops then Ta C ops N (Bb ops.size) env w (λenv w=>gZ (iA env) λenv=>K env w)
  else if Bh ops&&Hb 0 ops.size then Vv C ops N (Bb ops.size) env w (λenv w=>gZ (iA env) λenv=>K env w) else False
 else if a then
  if Ii ops then Qy C ops N env w (λenv w=>gZ (iA env) λenv=>K env w) else False
 else V7 C ops N (Bb ops.size) env w (λenv w=>gZ (iA env) λenv=>K env w)
inductive Md where
 |run|to (b:Nat) (K:List bC->A1->Prop)|OU (b:Nat)
def atR (b:Nat) (y:Code):Bool:=match g6 y with
 |some i=>Nat.beq i b
 |none=>false
def Bi (b:Nat):Code->Option Code
 | .seq _ y=>match atR b y with
   |true=>some y
   |false=>Bi b y
 | _=>none
def lZ (b:Nat):Code->List Nat
 | .seq x y=>writes x++(match atR b y with
   |true=>[]
   |false=>lZ b y)
 | _=>[]
def TL (b:Nat):Code->Bool
 | .seq x y=>match atR b x with
   |true=>true
   |false=>TL b y
 |c=>atR b c
def Uj (aM:Nat->aV) (c y:Code):Option (Nat×aV):=match g6 c with
 |none=>none
 |some a=>match aM (1000000+a) with
  |[]=>none
  |(b, _)::sl=>match TL b y with
   |true=>some (b,sl)
   |false=>none
def HM (sl:aV) (J:lO (sl.map (·.2))->A1->Prop) (env:List bC) (w:A1):Prop:=match ma sl env with
 |some s=>J s w
 |none=>False
def bT (C:dn P) (aM:Nat->aV) (N:Nat):Code->Md->List bC->A1->(List bC->A1->Prop)->(Nat->List bC->A1->Prop)->(List bC->A1->Prop)->Prop
 | .skip,.run,env,w,Kn, _, _=>Kn env w
 | .region _ ops g,.run,env,w,Kn, _, _=>Ij C N ops g env w Kn
 | .seq x y,m,env,w,Kn,Kx,Kr=>match m with
   | .run=>match Uj aM x y with
     |none=>bT C aM N x .run env w (λenv w=>bT C aM N y .run env w Kn Kx Kr) Kx Kr
     |some (b,sl)=> ∃J:lO (sl.map (·.2))->A1->Prop,
      bT C aM N x .run env w (λenv w=>match atR b y with
       |true=>HM sl J env w
       |false=>bT C aM N y (.to b (HM sl J)) env w Kn Kx Kr) Kx Kr/\
      ∀s w1,J s w1->gZ (ij sl s++env.filter λe=> !(lZ b (.seq x y)).contains e.t) λcn=>match atR b y with
       |true=>bT C aM N y .run cn w1 Kn Kx Kr
       |false=>bT C aM N y (.OU b) cn w1 Kn Kx Kr
   | .to b K=>bT C aM N x .run env w (λenv w=>match atR b y with
    |true=>K env w
    |false=>bT C aM N y (.to b K) env w Kn Kx Kr) Kx Kr
   | .OU b=>match atR b y with
    |true=>bT C aM N y .run env w Kn Kx Kr
    |false=>bT C aM N y (.OU b) env w Kn Kx Kr
 | .cond c x y,.run,env,w,Kn,Kx,Kr=>match sq env [] c with
   |some (.bool b)=>aF b (bT C aM N x .run env w Kn Kx Kr) (bT C aM N y .run env w Kn Kx Kr)
   | _=>False
 | .block id x,.run,env,w,Kn,Kx,Kr=>bT C aM N x .run env w Kn (λa env w=>if a=id then Kn env w else Kx a env w) Kr
 | .loop x,.run,env,w, _,Kx,Kr=>
   let sl:=aM ((g6 x).getD 0)
   match ma sl env with
   |none=>False
   |some h=> ∃I:Nat->lO (sl.map (·.2))->A1->Prop,(∃n, ∀w1,Ext w w1->I n h w1)/\
    ∀n s w1,I n s w1->gZ (ij sl s++env.filter λe=> !(writes x).contains e.t) λcn=>bT C aM N x .run cn w1
     (λi j=>match ma sl i with
      |some k=> ∀d,Ext j d-> ∃f,f<n/\I f k d
      |none=>False) Kx Kr
 | .exit id,.run,env,w, _,Kx, _=>Kx id env w
 | .ret,.run,env,w, _, _,Kr=>Kr env w
 | _, _, _, _, _, _, _=>False
@[reducible] def oa (C:dn P) (aM:Nat->aV) (N:Nat) (c:Code) (env:List bC) (w:A1) (Kn:List bC->A1->Prop) (Kx:Nat->List bC->A1->Prop) (Kr:List bC->A1->Prop):Prop:=
 bT C aM N c .run env w Kn Kx Kr
def Qp (S:Nat->Option (Option A2)) (N:Nat) (D:List Deferred) (Kn:List bC->A1->Prop) (Kx:Nat->List bC->A1->Prop) (Kr:List bC->A1->Prop):Exit->Act->A1->Prop
 | .normal,a,w=> ∃env b,Kn env b/\plain env/\Fit S #[] N D env a/\Ext b w
 | .exit id,a,w=> ∃env b,Kx id env b/\plain env/\Fit S #[] N D env a/\Ext b w
 | .ret,a,w=> ∃env b,Kr env b/\plain env/\Fit S #[] N D env a/\Ext b w
 | _, _, _=>False
theorem MT {ops:Array Oper} (h: ∀k∈Mw ops,S k=none):Wr S ops:=λo a k b=>h k (by
 simp only[Mw,Pw];exact⟨o,by simpa using a,b⟩)
theorem Jy {r:Option Nat} {C:dn P} {id:Nat} {ops:Array Oper} {m:Bool} {w w':A1} {Kn:List bC->A1->Prop} {Kx:Nat->List bC->A1->Prop} {Kr:List bC->A1->Prop}
 (q: ∀k∈Mw ops,S k=none) (s:plain env) (t:Fit S #[] N D env a) (h:Ij C N ops m env w Kn) (f:Ext w w'):
 (Code.region id ops m).wpIn (WF r) 0 P (Qp S N D Kn Kx Kr) a w':=by
 have g:Fit S ops N D env a:=t.Jw s;have i:=MT q;have j: ∀env a w w',Kn (iA env) w->Fit S ops N D env a->Ext w w'->Qp S N D Kn Kx Kr .normal a w':=λenv a w w' d b e=>
  ⟨_,w,d,(wF (ops':= #[]) b).2,(wF b).1,e⟩
 have u: ∀c a w,¬ Qp S N D Kn Kx Kr (.panic c) a w:=λ_ _ _ h=>h;simp only[Ij,g8] at h;split at h
 ·split at h
  ·rename_i v;refine vT C.mixed v λn o=>?_;have:=BD (C:=C) i _ env a w n _ g h (f.trans o);refine z8 (λa1 w1 ⟨cn,p,d,b,e⟩=>j cn a1 p w1 d b e) _ _ _ this
  ·split at h
   ·rename_i l;rw[BA,I1] at l;refine vU C.mixed l.1 l.2 λn o=>?_;have:=II (C:=C) l.1 i _ env a w n _ g h (f.trans o);exact z9 (λa1 w1 ⟨cn,p,d,b,e⟩=>j cn a1 p w1 d b e) _ _ _ this
   ·exact h.elim
 cases m with
 |false=>exact wpIn_region (IC i _ env a w w' _ g (by simpa using h) f j)
 |true=>
  simp only[if_true] at h;split at h
  ·rename_i x;exact wpIn_region_any C.mixed (uV _ _ _ _ (lq (MR (C:=C) i x u env a w _ g h j) (f.trans (Ext.drew _))))
  ·exact A3 h
theorem pH: ∀{l:aV} {s:lO (l.map (·.2))} {e:bC},e∈ij l s->e.ch=[]/\e.g=none
 |[], _, _,h=>by simp[ij] at h
 |(t,a)::r,s,e,h=>by
  simp only[ij,Bq] at h;rcases h with rfl|h
  ·exact⟨rfl,rfl⟩
  ·exact pH h
theorem yi: ∀{l:aV} {s:lO (l.map (·.2))} {e:bC},e∈ij l s->e.k=none
 |[], _, _,h=>by simp[ij] at h
 |(t,a)::r,s,e,h=>by
  simp only[ij,Bq] at h;rcases h with rfl|h
  ·rfl
  ·exact yi h
theorem jS: ∀{l m:List bC} {t:Nat} {e:bC},bz (l++m) t=some e->(bz l t=some e)\/(bz l t=none/\bz m t=some e)
 |[],m,t,e,h=> .inr ⟨rfl,h⟩
 |x::r,m,t,e,h=>by
  simp only[List.cons_append,bz] at h ⊢;split at h
  ·rename_i a;exact .inl (by rw[if_pos a];exact h)
  ·rename_i a;rw[if_neg a];exact jS h
theorem mW: ∀{l:aV} {env:List bC} {s:lO (l.map (·.2))} {t:Nat} {e:bC},ma l env=some s->bz (ij l s) t=some e-> ∃b,bz env t=some b/\b.v=e.v
 |[], _, _, _, _, _,h=>by simp[ij,bz] at h
 |(t0,j)::r,env,s,t,e,a,h=>by
  simp only[ma] at a;split at a
  ·rename_i c d;split at a
   ·rename_i x y f g;cases a;simp only[ij,bz] at h;split at h
    ·rename_i i;cases h;subst i;exact⟨c,d,(El.gi f).symm⟩
    ·exact mW g h
   ·cases a
  ·cases a
theorem uv {l:List bC} {p:bC->Bool} {t:Nat} {e:bC} (h:bz (l.filter p) t=some e):e∈l/\p e=true:=by
 have:=bG h;simpa using this
theorem uX {F:Fence} {m:Nat} {Q:Exit->Act->A1->Prop} {c:Code} (R:Nat->Act->A1->Prop) {n0:Nat} {a:Act} {w:A1} (h0:R n0 a w)
 (round: ∀n a w,R n a w->c.wpIn F m P (Exit.then (λg w'=> ∃o,o<n/\R o g w') Q) a w):(Code.loop c).wpIn F m P Q a w:=by
 intro b k cs q hb p;have key: ∀j a w,R j a w->
  ∃e g w',Q e g w'/\ArrivesIn (Machine.fenced P F) P (lone (b.atR a (.code c:: .inLoop c::k)) cs w) b k cs e g w':=by
  intro j
  induction j using OY with
  | _ j r=>
    intro a w s;obtain⟨e,h,i,d,f⟩:=round j a w s b (.inLoop c::k) cs q hb p;cases e with
    |normal=>
     obtain⟨o,t,u⟩:=d;obtain⟨v,y,z,A,B⟩:=r o t h i u;exact⟨v,y,z,A,.of_steps (StepsIn.trans f (.one (fenced_calm hb p rfl) stepR_inLoop)) B⟩
    |exit id=>exact⟨_,h,i,d,.pass (x:= .inLoop c) rfl (λ_ _=> .inl (by simp)) f⟩
    |goto l=>exact⟨_,h,i,d,.pass (x:= .inLoop c) rfl (λ_ _=> .inl (by simp)) f⟩
    |ret=>exact⟨_,h,i,d,.pass (x:= .inLoop c) rfl (λ_ _=> .inl (by simp)) f⟩
    |panic ch=>exact⟨_,h,i,d,.pass (x:= .inLoop c) rfl (λ_ _=> .inl (by simp)) f⟩
    |outgrown=>exact⟨_,h,i,d,.pass (x:= .inLoop c) rfl (λ_ _=> .inl (by simp)) f⟩
 obtain⟨e,g,w',d,f⟩:=key _ a w h0;exact⟨e,g,w',d,.of_steps (.one (fenced_calm hb p rfl) stepR_loop) f⟩
theorem Q5 (b:Nat) (c:Code): ∀t:Nat,t∈lZ b c->t∈writes c:=by
 induction c with
 |seq x y _ a=>
  intro t h;simp only[lZ,EB] at h;simp only[writes,EB];rcases h with h|h
  ·exact .inl h
  ·cases e:atR b y with
   |true=>rw[e] at h;cases h
   |false=>rw[e] at h;exact .inr (a t h)
 | _=>intro t h;cases h
structure QB (P:AC) (r:Option Nat) (C:dn P) (aM:Nat->aV) (N:Nat) (D:List Deferred) (c:Code):Prop where
 run: ∀(S:Nat->Option (Option A2)) (env:List bC) (a:Act) (w w':A1) (Kn:List bC->A1->Prop) (Kx:Nat->List bC->A1->Prop) (Kr:List bC->A1->Prop),
  (∀k∈writes c,S k=none)->plain env->Fit S #[] N D env a->bT C aM N c .run env w Kn Kx Kr->Ext w w'->c.wpIn (WF r) 0 P (Qp S N D Kn Kx Kr) a w'
 to: ∀(b:Nat) (K:List bC->A1->Prop) (S:Nat->Option (Option A2)) (env:List bC) (a:Act) (w w':A1) (Kn:List bC->A1->Prop) (Kx:Nat->List bC->A1->Prop) (Kr:List bC->A1->Prop) (Q:Exit->Act->A1->Prop),
  (∀k∈lZ b c,S k=none)->plain env->Fit S #[] N D env a->bT C aM N c (.to b K) env w Kn Kx Kr->Ext w w'->(∀id a w,Qp S N D Kn Kx Kr (.exit id) a w->Q (.exit id) a w)->(∀a w,Qp S N D Kn Kx Kr .ret a w->Q .ret a w)->
  (∀y cn a1 w1 Yx,Bi b c=some y->K cn w1->plain cn->Fit S #[] N D cn a1->Ext w1 Yx->y.wpIn (WF r) 0 P Q a1 Yx)->c.wpIn (WF r) 0 P Q a w'
 OU: ∀(b:Nat) (S:Nat->Option (Option A2)) (env:List bC) (a:Act) (w w':A1) (Kn:List bC->A1->Prop) (Kx:Nat->List bC->A1->Prop) (Kr:List bC->A1->Prop) (y:Code),
  Bi b c=some y->(∀k∈writes c,S k=none)->plain env->Fit S #[] N D env a->bT C aM N c (.OU b) env w Kn Kx Kr->Ext w w'->y.wpIn (WF r) 0 P (Qp S N D Kn Kx Kr) a w'
theorem QB.of {r:Option Nat} {C:dn P} {aM:Nat->aV} {c:Code} (h: ∀(S:Nat->Option (Option A2)) (env:List bC) (a:Act) (w w':A1) (Kn:List bC->A1->Prop) (Kx:Nat->List bC->A1->Prop) (Kr:List bC->A1->Prop),
 (∀k∈writes c,S k=none)->plain env->Fit S #[] N D env a->bT C aM N c .run env w Kn Kx Kr->Ext w w'->c.wpIn (WF r) 0 P (Qp S N D Kn Kx Kr) a w')
 (e: ∀b K env w Kn Kx Kr,¬ bT C aM N c (.to b K) env w Kn Kx Kr) (h2: ∀b env w Kn Kx Kr,¬ bT C aM N c (.OU b) env w Kn Kx Kr):QB P r C aM N D c:=
 ⟨h,λb K _ env _ w _ Kn Kx Kr _ _ _ _ d=>absurd d (e b K env w Kn Kx Kr),λb _ env _ w _ Kn Kx Kr _ _ _ _ _ d=>absurd d (h2 b env w Kn Kx Kr)⟩
theorem BZ {r:Option Nat} {C:dn P} {aM:Nat->aV}: ∀c:Code,QB P r C aM N D c:=by
 intro c
 induction c with
 |skip=>exact .of (λS env a w w' Kn Kx Kr _ g f h l=>wpIn_skip ⟨env,w,h,g,f,l⟩) (λ_ _ _ _ _ _ _ h=>h) (λ_ _ _ _ _ _ h=>h)
 |region id ops draw=>exact .of (λS env a w w' Kn Kx Kr u g f h l=>Jy u g f h l) (λ_ _ _ _ _ _ _ h=>h) (λ_ _ _ _ _ _ h=>h)
 |seq x y Mh M=>
  refine⟨?_,?_,?_⟩
  ·intro S env a w w' Kn Kx Kr u g f h l;simp only[bT] at h;split at h
   ·refine wpIn_seq (wpIn_mono (Mh.run S env a w w' _ Kx Kr (λk d=>u k (by simp[writes,d])) g f h l) ?_);intro e a1 w1 o;cases e with
    |normal=>
     obtain⟨cn,p,d,X,Y,Z⟩:=o;exact M.run S cn a1 p w1 Kn Kx Kr (λk d=>u k (by simp[writes,d])) X Y d Z
    | _=>exact o
   ·rename_i b sl _;obtain⟨J,q,hJ⟩:=h;simp only[g8] at hJ
    let i:Nat->Option (Option A2):=λt=>if(lZ b (.seq x y)).contains t then none else some (a.tmps[t]?)
    let eK:=env.filter λe=> !(lZ b (.seq x y)).contains e.t
    have nil: ∀(tm:Array A2),ib #[] tm []:=λtm x q=>by cases q
    have zJ: ∀t e,bz eK t=some e->a.tmps[t]? =some e.v/\(lZ b (.seq x y)).contains t=false/\e.ch=[]:=by
     intro t e he;have ht:=uf he;have H:=uv he;have F:(lZ b (.seq x y)).contains t=false:=by rw[<-ht];simpa using H.2
     have A:bz env t=some e:=gy he (λy _ Tf=>by rw[Tf,F];rfl);exact⟨f.yes t e A (by rw[(g e H.1).1];exact nil _),F,(g e H.1).1⟩
    have head: ∀(m:List bC) (j:Act) (s:lO (sl.map (·.2))),plain m->Fit i #[] N D m j->ma sl m=some s->Fit i #[] N D (ij sl s++eK) j/\plain (ij sl s++eK):=by
     intro m j s rn B vD;have O:plain (ij sl s++eK):=λe he=>by
      rcases EB.1 he with he|he
      ·exact pH he
      ·exact g e (by simpa[eK] using(Bc.1 he).1)
     refine⟨⟨B.off,B.size,B.ni,λt e he _=>?_,λt e he hn=>absurd (by rw[(O e (bG he)).1];exact nil _) hn,(λe he=>by rw[(O e he).2];exact(O e he).1),λe he b hb=>by
      rcases EB.1 he with he|he
      ·rw[yi he] at hb;cases hb
      ·exact f.xE e (Bc.1 he).1 b hb⟩,O⟩
     rcases jS he with he|⟨_,he⟩
     ·obtain⟨e',ir,hv⟩:=mW vD he;rw[<-hv];exact B.yes t e' ir (by rw[(rn e' (bG ir)).1];exact nil _)
     ·obtain⟨hv,F, _⟩:=zJ t e he;have:=B.off t (a.tmps[t]?) (by simp only[i,F];rfl);rw[this,hv]
    have HN:Fit i #[] N D env a:=⟨λt x q=>by
     simp only[i] at q;split at q
     ·cases q
     ·cases q;rfl,f.size,f.ni,f.yes,f.no,f.A8,f.xE⟩
    have back: ∀{m:List bC} {j:Act},Fit i #[] N D m j->Fit S #[] N D m j:=λ{m j} A=>⟨λt z G=>by
     have F:(lZ b (.seq x y)).contains t=false:=by
      cases hc:(lZ b (.seq x y)).contains t with
      |false=>rfl
      |true=>have:=u t (Q5 b _ t (by simpa using hc));rw[this] at G;cases G
     have h1:=A.off t (a.tmps[t]?) (by simp only[i,F];rfl);rw[h1];exact f.off t z G,A.size,A.ni,A.yes,A.no,A.A8,A.xE⟩
    have SA: ∀k∈lZ b (.seq x y),i k=none:=λk d=>by simp[i,d]
    have XH: ∀k∈writes x,i k=none:=λk d=>SA k (by simp[lZ,d]);have bx: ∀(id:Nat) (a:Act) (w:A1),Qp i N D Kn Kx Kr (.exit id) a w->Qp S N D Kn Kx Kr (.exit id) a w:=λid a w ⟨R,p,d,T,U,V⟩=>⟨R,p,d,T,back U,V⟩;have br: ∀(a:Act) (w:A1),Qp i N D Kn Kx Kr .ret a w->Qp S N D Kn Kx Kr .ret a w:=λa w ⟨R,p,d,T,U,V⟩=>⟨R,p,d,T,back U,V⟩;have G: ∀k∈writes y,S k=none:=λk d=>u k (by simp[writes,d]);refine wpIn_seq (wpIn_mono (Mh.run i env a w w' _ Kx Kr XH g HN q l) ?_);intro e a1 w1 o;cases e with
    |normal=>
     obtain⟨cn,p,d,X,Y,Z⟩:=o;cases E:atR b y with
     |true=>
      simp only[E] at d hJ;unfold HM at d;split at d
      ·rename_i s H;obtain⟨PI,PJ⟩:=head cn a1 s X Y H;exact M.run S _ a1 p w1 Kn Kx Kr G PJ (back PI) (hJ s p d) Z
      ·exact d.elim
     |false=>
      simp only[E] at d hJ;have XI: ∀k∈lZ b y,i k=none:=λk d=>SA k (by simp[lZ,E,d]);refine M.to b (HM sl J) i cn a1 p w1 Kn Kx Kr _ XI X Y d Z bx br ?_;intro y' m j L We W hK rn B oI;unfold HM at hK;split at hK
      ·rename_i s H;obtain⟨PI,PJ⟩:=head m j s rn B H;exact M.OU b S _ j L We Kn Kx Kr y' W G PJ (back PI) (hJ s L hK) oI
      ·exact hK.elim
    |exit id=>exact bx id a1 w1 o
    |ret=>exact br a1 w1 o
    | _=>exact o
  ·intro b K S env a w w' Kn Kx Kr Q u g f h l q hr xQ;simp only[bT] at h;refine wpIn_seq (wpIn_mono (Mh.run S env a w w' _ Kx Kr (λk d=>u k (by simp[lZ,d])) g f h l) ?_);intro e a1 w1 o;cases e with
   |normal=>
    obtain⟨cn,p,d,X,Y,Z⟩:=o;cases E:atR b y with
    |true=>
     simp only[E] at d;exact xQ y cn a1 p w1 (by simp[Bi,E]) d X Y Z
    |false=>
     simp only[E] at d;exact M.to b K S cn a1 p w1 Kn Kx Kr Q (λk d=>u k (by simp[lZ,E,d])) X Y d Z q hr (λy' m j L We W=>xQ y' m j L We (by simp[Bi,E,W]))
   |exit id=>exact q id a1 w1 o
   |ret=>exact hr a1 w1 o
   | _=>exact o.elim
  ·intro b S env a w w' Kn Kx Kr y' W u g f h l;simp only[bT] at h;have G: ∀k∈writes y,S k=none:=λk d=>u k (by simp[writes,d]);cases E:atR b y with
   |true=>
    simp only[E] at h;simp only[Bi,E,Bo] at W;subst W;exact M.run S env a w w' Kn Kx Kr G g f h l
   |false=>
    simp only[E] at h;simp only[Bi,E] at W;exact M.OU b S env a w w' Kn Kx Kr y' W G g f h l
 |cond c x y Mh M=>
  refine .of ?_ (λ_ _ _ _ _ _ _ h=>h) (λ_ _ _ _ _ _ h=>h);intro S env a w w' Kn Kx Kr u g f h l;simp only[bT] at h;split at h
  ·rename_i b hb;have PK:=f.ev (ch:=[]) (λ_ q=>by cases q) hb;refine wpIn_cond_split PK (λht=>Mh.run S env a w w' Kn Kx Kr (λk d=>u k (by simp[writes,d])) g f (zY h ht) l) (λht=>M.run S env a w w' Kn Kx Kr (λk d=>u k (by simp[writes,d])) g f (wC h ht) l)
  ·exact A3 h
 |block id x ih=>
  refine .of ?_ (λ_ _ _ _ _ _ _ h=>h) (λ_ _ _ _ _ _ h=>h);intro S env a w w' Kn Kx Kr u g f h l;refine wpIn_block (wpIn_mono (ih.run S env a w w' Kn _ Kr u g f h l) ?_);intro e a1 w1 o;cases e with
  |exit PH=>
   obtain⟨cn,p,d,rest⟩:=o;simp only[Exit.inBlock];split
   ·rename_i he;simp only[he,if_true] at d;exact⟨cn,p,d,rest⟩
   ·rename_i he;simp only[he,if_false] at d;exact⟨cn,p,d,rest⟩
  | _=>exact o
 |exit id=>exact .of (λS env a w w' Kn Kx Kr _ g f h l=>wpIn_exit ⟨env,w,h,g,f,l⟩) (λ_ _ _ _ _ _ _ h=>h) (λ_ _ _ _ _ _ h=>h)
 |ret=>exact .of (λS env a w w' Kn Kx Kr _ g f h l=>wpIn_ret ⟨env,w,h,g,f,l⟩) (λ_ _ _ _ _ _ _ h=>h) (λ_ _ _ _ _ _ h=>h)
 |loop x ih=>
  refine .of ?_ (λ_ _ _ _ _ _ _ h=>h) (λ_ _ _ _ _ _ h=>h);intro S env a w w' Kn Kx Kr u g f h l;simp only[bT,g8] at h;split at h
  ·exact A3 h
  ·rename_i s0 Wf;obtain⟨I,⟨n0,h0⟩,rA⟩:=h
   let sl:=aM ((g6 x).getD 0)
   let i:Nat->Option (Option A2):=λt=>if(writes x).contains t then none else some (a.tmps[t]?)
   let eK:=env.filter λe=> !(writes x).contains e.t
   have nil: ∀(tm:Array A2),ib #[] tm []:=λtm x q=>by cases q
   have zJ: ∀t e,bz eK t=some e->a.tmps[t]? =some e.v/\(writes x).contains t=false/\e.ch=[]:=by
    intro t e he;have ht:=uf he;have H:=uv he;have F:(writes x).contains t=false:=by rw[<-ht];simpa using H.2
    have A:bz env t=some e:=gy he (λy _ Tf=>by rw[Tf,F];rfl);exact⟨f.yes t e A (by rw[(g e H.1).1];exact nil _),F,(g e H.1).1⟩
   have head: ∀(m:List bC) (j:Act) (s:lO (sl.map (·.2))),plain m->Fit i #[] N D m j->ma sl m=some s->Fit i #[] N D (ij sl s++eK) j/\plain (ij sl s++eK):=by
    intro m j s rn B vD;have O:plain (ij sl s++eK):=λe he=>by
     rcases EB.1 he with he|he
     ·exact pH he
     ·exact g e (by simpa[eK] using(Bc.1 he).1)
    refine⟨⟨B.off,B.size,B.ni,λt e he _=>?_,λt e he hn=>absurd (by rw[(O e (bG he)).1];exact nil _) hn,(λe he=>by rw[(O e he).2];exact(O e he).1),λe he b hb=>by
     rcases EB.1 he with he|he
     ·rw[yi he] at hb;cases hb
     ·exact f.xE e (Bc.1 he).1 b hb⟩,O⟩
    rcases jS he with he|⟨_,he⟩
    ·obtain⟨e',ir,hv⟩:=mW vD he;rw[<-hv];exact B.yes t e' ir (by rw[(rn e' (bG ir)).1];exact nil _)
    ·obtain⟨hv,F, _⟩:=zJ t e he;have:=B.off t (a.tmps[t]?) (by simp only[i,F];rfl);rw[this,hv]
   have HN:Fit i #[] N D env a:=⟨λt x q=>by
    simp only[i] at q;split at q
    ·cases q
    ·cases q;rfl,f.size,f.ni,f.yes,f.no,f.A8,f.xE⟩
   have back: ∀{m:List bC} {j:Act},Fit i #[] N D m j->Fit S #[] N D m j:=λ{m j} A=>⟨λt y G=>by
    have F:(writes x).contains t=false:=by
     cases hc:(writes x).contains t with
     |false=>rfl
     |true=>have:=u t (by simpa[writes] using hc);rw[this] at G;cases G
    have h1:=A.off t (a.tmps[t]?) (by simp only[i,F];rfl);rw[h1];exact f.off t y G,A.size,A.ni,A.yes,A.no,A.A8,A.xE⟩
   have SA: ∀k∈writes x,i k=none:=λk d=>by simp[i,d]
   obtain⟨Wg,Wh⟩:=head env a s0 g HN Wf;refine uX (λn j L=> ∃s,I n s L/\Fit i #[] N D (ij sl s++eK) j/\plain (ij sl s++eK)) (n0:=n0) ⟨s0,h0 w' l,Wg,Wh⟩ ?_;intro n j L ⟨s,hI,B,rn⟩;have hb:=ih.run i _ j L L _ Kx Kr SA rn B (rA n s L hI) (Ext.refl _);refine wpIn_mono hb ?_;intro e a3 w3 o;cases e with
   |normal=>
    obtain⟨R,p,d,T,U,V⟩:=o;simp only[Exit.then];split at d
    ·rename_i s3 Wi;obtain⟨n',fD,Tg⟩:=d w3 V;obtain⟨PI,PJ⟩:=head R a3 s3 T U Wi;exact⟨n',fD,s3,Tg,PI,PJ⟩
    ·exact d.elim
   |exit id=>obtain⟨R,p,d,T,U,V⟩:=o;exact⟨R,p,d,T,back U,V⟩
   |ret=>obtain⟨R,p,d,T,U,V⟩:=o;exact⟨R,p,d,T,back U,V⟩
   | _=>exact o
 | _=>exact .of (λS env a w w' Kn Kx Kr u g f h l=>A3 h) (λ_ _ _ _ _ _ _ h=>h) (λ_ _ _ _ _ _ h=>h)
theorem mX {r:Option Nat} {C:dn P} {aM:Nat->aV}: ∀(c:Code) (S:Nat->Option (Option A2)) (env:List bC) (a:Act) (w w':A1) (Kn:List bC->A1->Prop) (Kx:Nat->List bC->A1->Prop) (Kr:List bC->A1->Prop),
 (∀k∈writes c,S k=none)->plain env->Fit S #[] N D env a->oa C aM N c env w Kn Kx Kr->Ext w w'->c.wpIn (WF r) 0 P (Qp S N D Kn Kx Kr) a w':=λc=>(BZ c).run
def fR:List A2->Nat->List bC
 |[], _=>[]
 |v::r,i=>⟨i,[],none,v,none⟩::fR r (i+1)
def jQ:List ResultVar->List bC->Option (List A2)
 |[], _=>some []
 | .tmp t::r,env=>match bz env t,jQ r env with
   |some e,some l=>some (e.v::l)
   | _, _=>none
 | .cell .. :: _, _=>none
def Bj (l:List A2):A2:=
 match l with
 |[v]=>v
 |l=> .tuple ⟨l⟩
def aJ (C:dn P) (aM:Nat->aV) (f:B5) (args:List A2) (w:A1) (Post:(qt C f).T->A1->Prop):Prop:=
 match P.funcs[f]? with
 |none=>False
 |some fn=>match fn.body with
  |none=>False
  |some c=>
   let fin:List bC->A1->Prop:=λenv w=>match jQ fn.results.toList env with
    |some l=>match (qt C f).proj (Bj l) with
     |some x=>ak w (λw1=>Post x w1)
     |none=>False
    |none=>False
   if args.length<=fn.ntmps then oa C aM fn.ntmps c (fR args 0) w fin (λ_ _ _=>False) fin else False
theorem mA: ∀{l:List A2} {i t:Nat} {e:bC},bz (fR l i) t=some e->i<=t/\l[t - i]? =some e.v/\e.ch=[]/\e.g=none
 |[], _, _, _,h=>by simp[fR,bz] at h
 |v::r,i,t,e,h=>by
  simp only[fR,bz] at h;split at h
  ·rename_i a;cases h;subst a;simp
  ·rename_i a;obtain⟨c,h2,b⟩:=mA h;refine⟨by omega,?_,b⟩;rw[show t - i=(t - (i+1))+1 by omega];simpa using h2
theorem uw: ∀{l:List A2} {i:Nat} {e:bC},e∈fR l i->e.k=none
 |[], _, _,h=>by simp[fR] at h
 |v::r,i,e,h=>by
  simp only[fR,Bq] at h;rcases h with rfl|h
  ·rfl
  ·exact uw h
theorem ow: ∀{l:List A2} {i:Nat} {e:bC},e∈fR l i->e.ch=[]/\e.g=none
 |[], _, _,h=>by simp[fR] at h
 |v::r,i,e,h=>by
  simp only[fR,Bq] at h;rcases h with rfl|h
  ·exact⟨rfl,rfl⟩
  ·exact ow h
def kX (tmps:Array A2):ResultVar->Sem A2
 | .tmp t=>pure (tmps.getD t undef)
 | .cell a t=>do loadVar t (<-asAddr (tmps.getD a undef))
theorem rR {tmps:Array A2} {w:A1}: ∀{l:List ResultVar} {env:List bC} {a:List A2},jQ l env=some a->(∀t e,bz env t=some e->tmps[t]? =some e.v)->
 (l.mapM (kX tmps)).run P w= .ok a w
 |[], _, _,h, _=>by simp only[jQ,Bo] at h;subst h;simp
 | .tmp t::r,env,a,h,hv=>by
   simp only[jQ] at h;split at h
   ·rename_i e l b c;cases h;have d:=rR (w:=w) c hv;simp only[Ih,AX,kX,B2,B1,d];simp[hv t e b]
   ·cases h
 | .cell .. :: _, _, _,h, _=>by simp[jQ] at h
theorem AM {fn:Func} {tmps:Array A2} {w:A1} {env:List bC} {a:List A2} (h:jQ fn.results.toList env=some a) (hv: ∀t e,bz env t=some e->tmps[t]? =some e.v):
 (results fn tmps).run P w= .ok (Bj a) w:=by
 have b:=rR (P:=P) (w:=w) h hv;have h2:(fn.results.mapM (kX tmps)).run P w= .ok ⟨a⟩ w:=by
  rw[O3,MJ,b];rfl
 have e:results fn tmps=(do
  let a<-fn.results.mapM (kX tmps)
  pure (if h:a.size=1 then a[0] else .tuple a)):=rfl
 rw[e,AX,h2];simp only[B1,B2]
 match a with
 |[]=>rfl
 |[v]=>rfl
 |v::u::r=>simp[Bj]
theorem ai {C:dn P} {aM:Nat->aV} {f:B5} {args:List A2} {w:A1} {Post:(qt C f).T->A1->Prop} (h:aJ C aM f args w Post):ar P f (qt C f) args w Post:=by
 unfold aJ at h;split at h
 ·exact A3 h
 ·rename_i fn q;split at h
  ·exact A3 h
  ·rename_i c hb;simp only at h;split at h
   ·rename_i E;have i:plain (fR args 0):=λe a=>ow a;have nil: ∀(o:Array Oper) (m:Array A2),ib o m []:=λo m x g=>by cases g
    have s:Fit (λ_=>none) #[] fn.ntmps [] (fR args 0) {tmps:=(⟨args⟩:Array A2)++Gi (fn.ntmps - args.length) undef,defers:=[]}:=by
     refine⟨(λ_ _ g=>by cases g),(by simp;omega),rfl,λt e a _=>?_,λt e a u=>absurd (by rw[(i e (bG a)).1];exact nil _ _) u,(λe a=>by rw[(i e a).2];exact(i e a).1),λe a b hb=>by rw[uw a] at hb;cases hb⟩;obtain⟨_,hv, _⟩:=mA a;simp only[Nat.sub_zero] at hv;have y:t<args.length:=(O1.1 hv).1;rw[QK (by simpa using y)];simpa using hv
    have z:=mX (r:=none) (C:=C) (aM:=aM) c (λ_=>none) _ _ w w _ _ _ (λ_ _=>rfl) i s h (Ext.refl w);refine calls_of_wp q hb ((wpIn_wide (n:=0)).1 (wpIn_mono z ?_));have fin: ∀a1 w1,(∃env k,(match jQ fn.results.toList env with
     |some l=>match (qt C f).proj (Bj l) with
      |some x=> ∀w1,Ext k w1->Post x w1
      |none=>False
     |none=>False)/\plain env/\Fit (λ_=>none) #[] fn.ntmps [] env a1/\Ext k w1)->a1.defers=[]/\ ∃v,(results fn a1.tmps).run P w1= .ok v w1/\ ∃x:(qt C f).T,Ending.returned v= .returned ((qt C f).gj x)/\Post x w1:=by
     intro a1 w1 ⟨env,k,d,A,p,B⟩;split at d
     ·rename_i l D;split at d
      ·rename_i x g;refine⟨p.ni, _,AM D (λt e a=>p.yes t e a (by rw[(A e (bG a)).1];exact nil _ _)),x,by rw[Sh.gi g],d w1 B⟩
      ·exact d.elim
     ·exact d.elim
    intro e a1 w1 j;cases e with
    |normal=>exact fin a1 w1 j
    |ret=>exact fin a1 w1 j
    |exit id=>obtain⟨_, _,d, _⟩:=j;exact d.elim
    | _=>exact(show False from j).elim
   ·exact A3 h
variable {P:AC}
abbrev nj:=List bC->List Nat->A1->Prop
def marks (D:List Nat):List Deferred:=D.map λr=>{target:= .collected r,args:= #[]}
def tJ:Code->Bool
 | .rangeFunc .. =>true
 | .seq a b=>tJ a||tJ b
 | .cond _ a b=>tJ a||tJ b
 | .block _ b=>tJ b
 | .loop b=>tJ b
 | _=>false
def oS (w:A1) (l:Nat) (rec:Loop) (st:LoopState) (a:Option Code):A1:=w.putObj l (.loop {rec with state:=st,pending:=a})
def bZ (w:A1) (l:Nat) (rec:Loop) (st:LoopState) (a:Option Code):Prop:=w.heap[l]? =some (.loop {rec with state:=st,pending:=a})
def zK:List Nat->A1->Prop
 |[], _=>True
 |r::D,w=>w.heap[r]? =some (.deferred (some []))/\zK D (w.putObj r (.deferred none))
def j7:List Nat->A1->A1
 |[],w=>w
 |r::D,w=>j7 D (w.putObj r (.deferred none))
def xG (l:Nat) (rec:Loop) (w:A1) (K:A1->Prop):Prop:= ∀a,Ext w a-> ∃b,bZ a l rec .ready b/\K (oS a l rec .busy b)
def oJ (l:Nat) (rec:Loop) (a:Option Code) (w:A1) (R:Bool->A1->Prop):Prop:= ∀b,Ext w b-> ∃st c,bZ b l rec st c/\R a.isNone (oS b l rec (if a.isNone then .ready else .done) a)
def zd (l:Nat) (rec:Loop) (n m:Nat) (w:A1) (K:Prop):Prop:=(∃a,bZ w l rec .ready a)/\n=m/\K
def oN (D:List Nat) (w:A1) (K:A1->Prop):Prop:= ∀w1,Ext w w1->zK D w1/\K (j7 D w1)
def vr (P:AC) (b:B5) (args:Nat->List A2) (ps:Array Nat) (w:A1) {T:Type} (c:T->List A2) (d:Nat->Loop->T->A1->(Bool->A1->Prop)->Prop) (f:Nat->Loop->A1->Prop):Prop:=
 ∀w1,Ext w w1-> ∀rec:Loop,rec.params=ps->rec.defers=w1.heap.size->rec.state= .ready->rec.pending=none->
  (∀(x:T) a R,d (w1.heap.size+1) rec x a R->jZ P (w1.heap.size+1) (c x) a R)->
  Calls P b ⟨args (w1.heap.size+1)⟩ ((w1.alloc (.deferred (some []))).alloc (.loop rec)) (λe g=> ∃v,e= .returned v/\f w1.heap.size rec g)
def Dw (C:dn P) (aM:Nat->aV) (N:Nat) (l:Nat) (rec:Loop) (ps:List Nat) (assign body:Code) (env:List bC) (args:List A2) (w:A1) (R:Bool->A1->Prop):Prop:=
 zd l rec args.length ps.length w
 (gZ ((ps.zip args).reverse.map (λx=>⟨x.1,[],none,x.2,none⟩)++env) λb=>oa C aM N assign b w
  (λcn a=>xG l rec a λc=>
   oa C aM N body cn c
    (λ_ a=>oJ l rec none a R)
    (λid _ a=>oJ l rec (some (.exit id)) a R)
    (λ_ a=>oJ l rec (some .ret) a R))
  (λ_ _ _=>False) (λ_ _=>False))
def c9 (l:Nat) (rec:Loop) (a:A1) (Kn:A1->Prop) (Kx:Nat->A1->Prop) (Kr:A1->Prop):Prop:=
 ∃st b,bZ a l rec st b/\st≠ .busy/\
  match b with
  |none=>Kn (oS a l rec .exhausted (none))
  |some (.exit id)=>Kx id (oS a l rec .exhausted (some (.exit id)))
  |some .ret=>Kr (oS a l rec .exhausted (some .ret))
  | _=>False
def Hs (C:dn P) (aM:Nat->aV) (N:Nat):Code->List bC->List Nat->A1->nj->(Nat->nj)->nj->Prop
 | .seq x y,env,D,w,Kn,Kx,Kr=>Hs C aM N x env D w (λenv D w=>Hs C aM N y env D w Kn Kx Kr) Kx Kr
 | .cond c x y,env,D,w,Kn,Kx,Kr=>match sq env [] c with
   |some (.bool b)=>aF b (Hs C aM N x env D w Kn Kx Kr) (Hs C aM N y env D w Kn Kx Kr)
   | _=>False
 | .block id x,env,D,w,Kn,Kx,Kr=>Hs C aM N x env D w Kn (λf env D w=>if f=id then Kn env D w else Kx f env D w) Kr
 | .loop x,env,D,w,Kn,Kx,Kr=>
   if tJ x then
    let sl:=aM ((g6 x).getD 0)
    match ma sl env with
    |none=>False
    |some j=> ∃I:Nat->lO (sl.map (·.2))->List Nat->A1->Prop,(∃n, ∀w1,Ext w w1->I n j D w1)/\
     ∀n s D1 w1,I n s D1 w1->gZ (ij sl s++env.filter λe=> !(writes x).contains e.t) λcn=>Hs C aM N x cn D1 w1
      (λk D2 m=>match ma sl k with
       |some o=> ∀d,Ext m d-> ∃h,h<n/\I h o D2 d
       |none=>False) Kx Kr
   else oa C aM N (.loop x) env w (λenv w=>Kn env D w) (λid env w=>Kx id env D w) (λenv w=>Kr env D w)
 | .rangeFunc g ps assign body,env,D,w,Kn,Kx,Kr=>
   match sq env [] g with
   |some (.func (.func i) first cap)=>
    if bA P i&&ps.toList.all (λp=>decide (p<N)) then
     vr P i (λy=>dg first [.func (.yield y) #[] #[]] cap) ps w (λ(x:lO ((aM ((g6 body).getD 0)).map (·.2)))=>qD _ x)
      (λl rec x d R=>Dw C aM N l rec ps.toList assign body env (qD _ x) d R)
      (λr rec q=>c9 (r+1) rec q (λa=>Kn env (r::D) a) (λid a=>Kx id env (r::D) a) (λa=>Kr env (r::D) a))
    else False
   | _=>False
 |c,env,D,w,Kn,Kx,Kr=>oa C aM N c env w (λenv w=>Kn env D w) (λid env w=>Kx id env D w) (λenv w=>Kr env D w)
def Wk (S:Nat->Option (Option A2)) (N:Nat) (Kn:nj) (Kx:Nat->nj) (Kr:nj):Exit->Act->A1->Prop
 | .normal,a,w=> ∃env D b,Kn env D b/\plain env/\Fit S #[] N (marks D) env a/\Ext b w
 | .exit id,a,w=> ∃env D b,Kx id env D b/\plain env/\Fit S #[] N (marks D) env a/\Ext b w
 | .ret,a,w=> ∃env D b,Kr env D b/\plain env/\Fit S #[] N (marks D) env a/\Ext b w
 | _, _, _=>False
theorem Q6 {S:Nat->Option (Option A2)} {N:Nat} {Kn:nj} {Kx:Nat->nj} {Kr:nj} {D:List Nat}: ∀(e:Exit) (a:Act) (w:A1),
 Qp S N (marks D) (λenv w=>Kn env D w) (λid env w=>Kx id env D w) (λenv w=>Kr env D w) e a w->Wk S N Kn Kx Kr e a w
 | .normal, _, _,⟨env,b,h⟩=>⟨env,D,b,h⟩
 | .exit _, _, _,⟨env,b,h⟩=>⟨env,D,b,h⟩
 | .ret, _, _,⟨env,b,h⟩=>⟨env,D,b,h⟩
 | .goto _, _, _,h=>A3 h
 | .panic _, _, _,h=>A3 h
 | .outgrown, _, _,h=>A3 h
theorem uY {N:Nat} {D:List Deferred}: ∀(l:List (Nat×A2)) (env:List bC) (tmps:Array A2),(∀x∈l,x.1<N)->plain env->Fit (λ_=>none) #[] N D env {tmps,defers:=D}->
 Fit (λ_=>none) #[] N D (l.reverse.map (λx=>⟨x.1,[],none,x.2,none⟩)++env) {tmps:=l.foldl (λtmps (t,a)=>tmps.setIfInBounds t a) tmps,defers:=D}/\plain (l.reverse.map (λx=>(⟨x.1,[],none,x.2,none⟩:bC))++env)
 |[],env,tmps, _,b,h=>⟨h,b⟩
 |(t,v)::r,env,tmps,f,b,h=>by
  have i:plain (⟨t,[],none,v,none⟩::env):=λe he=>by
   rcases Bq.1 he with rfl|he
   ·exact⟨rfl,rfl⟩
   ·exact b e he
  have j:Fit (λ_=>none) #[] N D (⟨t,[],none,v,none⟩::env) {tmps:=tmps.setIfInBounds t v,defers:=D}:=by
   have:=h.put (ch:=[]) (g:=none) (d:=some t) (v:=v) (u:=v) (by
    have:t<N:=f (t,v) Ey;simp only[l9,this,decide_true,List.all_nil,Ib,C7];intro e he;rw[(b e he).1];simp) (λ_ _=>rfl) rfl (λ_=>rfl) (λk=>absurd (λx c=>by cases c) k)
   exact this
  have:=uY r (⟨t,[],none,v,none⟩::env) _ (λx c=>f x (HP _ c)) i j;simpa[QA] using this
theorem B6 {w:A1} {l:Nat} {rec:Loop} {a:Option Code} (h:bZ w l rec .ready a):(Instr.beginRound l).run P w= .ok () (w.putObj l (.loop {rec with state:= .busy,pending:=a})):=
 run_beginRound (r:={rec with state:= .ready,pending:=a}) h rfl
theorem ux {w:A1} {l:Nat} {rec:Loop} {st:LoopState} {b:Option Code} (a:Option Code) (h:bZ w l rec st b):
 (Instr.endRound l a).run P w= .ok (.bool a.isNone) (w.putObj l (.loop {rec with state:=if a.isNone then .ready else .done,pending:=a})):=
 run_endRound (r:={rec with state:=st,pending:=b}) a h
theorem B7 {C:dn P} {aM:Nat->aV} {N l:Nat} {rec:Loop} {assign body:Code} {env:List bC} {args:List A2} {w:A1} {R:Bool->A1->Prop} {tmps:Array A2} {D0:List Deferred}
 (y:rec.tmps=tmps) (z:rec.assign=assign) (hb:rec.body=body) (A: ∀p∈rec.params.toList,p<N) (B:plain env) (b:Fit (λ_=>none) #[] N D0 env {tmps,defers:=D0})
 (h:Dw C aM N l rec rec.params.toList assign body env args w R):jZ P l args w R:=by
 obtain⟨⟨E,G⟩,H,q⟩:=h;rw[g8] at q;refine⟨{rec with state:= .ready,pending:=E},G,by simpa using H,?_⟩;have nil: ∀(s:Array A2),ib #[] s []:=λs x n=>by cases n
 have I:Fit (λ_=>none) #[] N [] env {tmps,defers:=[]}:=⟨b.off,b.size,rfl,b.yes,b.no,b.A8,b.xE⟩;obtain⟨J,K⟩:=uY (D:=[]) (rec.params.toList.zip args) env tmps (λx n=>A x.1 (List.of_mem_zip n).1) B I;have e:(rec.params.zip (⟨args⟩:Array A2)).foldl (λtmps (t,a)=>tmps.setIfInBounds t a) rec.tmps=(rec.params.toList.zip args).foldl (λtmps (t,a)=>tmps.setIfInBounds t a) tmps:=by
  rw[y, <-QJ];simp
 show RoundIn (WF none) 0 P l rec.fn ((rec.params.zip (⟨args⟩:Array A2)).foldl (λtmps (t,a)=>tmps.setIfInBounds t a) rec.tmps) rec.assign rec.body w _;rw[e,z,hb];refine roundIn_of_wpIn (F:=WF none) trivial ?_;have L:=mX (r:=some l) (C:=C) (aM:=aM) assign (λ_=>none) _ _ w w _ _ _ (λ_ _=>rfl) K J q (Ext.refl w);refine wpIn_mono (F:=WF (some l)) L ?_;intro M a1 w1 d;cases M with
 |normal=>
  obtain⟨cn,W,g,O,Q,S⟩:=d;obtain⟨X,T,U⟩:=g w1 S;refine⟨_,B6 T,?_⟩;have h2:=mX (r:=some l) (C:=C) (aM:=aM) body (λ_=>none) _ _ _ _ _ _ _ (λ_ _=>rfl) O Q U (Ext.refl _);refine wpIn_mono (F:=WF (some l)) h2 ?_;intro V Y o f;cases V with
  |normal=>
   obtain⟨_,u,i, _, _,j⟩:=f;obtain⟨st,v,k,m⟩:=i o j;exact⟨_, _,ux none k,true,rfl,m⟩
  |exit id=>
   obtain⟨_,u,i, _, _,j⟩:=f;obtain⟨st,v,k,m⟩:=i o j;exact⟨_, _,ux (some (.exit id)) k,false,rfl,m⟩
  |ret=>
   obtain⟨_,u,i, _, _,j⟩:=f;obtain⟨st,v,k,m⟩:=i o j;exact⟨_, _,ux (some .ret) k,false,rfl,m⟩
  |goto t=>exact A3 f
  |panic c=>exact A3 f
  |outgrown=>exact A3 f
 |exit id=>obtain⟨_, _,g, _⟩:=d;exact A3 g
 |ret=>obtain⟨_, _,g, _⟩:=d;exact A3 g
 |goto t=>exact A3 d
 |panic c=>exact A3 d
 |outgrown=>exact A3 d
variable {P:AC} {N:Nat}
theorem wJ {C:dn P} {aM:Nat->aV} {c:Code} {S:Nat->Option (Option A2)} {env:List bC} {D:List Nat} {a:Act} {w w':A1} {Kn:nj} {Kx:Nat->nj} {Kr:nj}
 (b: ∀k∈writes c,S k=none) (d:plain env) (e:Fit S #[] N (marks D) env a) (h:oa C aM N c env w (λenv w=>Kn env D w) (λid env w=>Kx id env D w) (λenv w=>Kr env D w)) (f:Ext w w'):
 c.wpIn (WF none) 0 P (Wk S N Kn Kx Kr) a w':=
 wpIn_mono (mX (r:=none) c S env a w w' _ _ _ b d e h f) Q6
theorem B8 {w:A1} {l:Nat} {rec:Loop} {st:LoopState} {a:Option Code} (h:bZ w l rec st a) (hb:st≠ .busy):
 (Instr.endLoop l).run P w= .ok a (w.putObj l (.loop {rec with state:= .exhausted,pending:=a})):=
 run_endLoop (r:={rec with state:=st,pending:=a}) h hb
theorem Q7 {C:dn P} {aM:Nat->aV}: ∀(c:Code) (S:Nat->Option (Option A2)) (env:List bC) (D:List Nat) (a:Act) (w w':A1) (Kn:nj) (Kx:Nat->nj) (Kr:nj),
 (∀k∈writes c,S k=none)->plain env->Fit S #[] N (marks D) env a->Hs C aM N c env D w Kn Kx Kr->Ext w w'->c.wpIn (WF none) 0 P (Wk S N Kn Kx Kr) a w':=by
 intro c
 induction c with
 |seq x y Q T=>
  intro S env D a w w' Kn Kx Kr j i d h l;refine wpIn_seq (wpIn_mono (Q S env D a w w' _ Kx Kr (λk f=>j k (by simp[writes,f])) i d h l) ?_);intro e a1 w1 r;cases e with
  |normal=>
   obtain⟨cn,D1,u,f,zb,oH,sv⟩:=r;exact T S cn D1 a1 u w1 Kn Kx Kr (λk f=>j k (by simp[writes,f])) zb oH f sv
  | _=>exact r
 |cond c x y Q T=>
  intro S env D a w w' Kn Kx Kr j i d h l;simp only[Hs] at h;split at h
  ·rename_i b hb;have U:=d.ev (ch:=[]) (λ_ m=>by cases m) hb;exact wpIn_cond_split U (λF=>Q S env D a w w' Kn Kx Kr (λk f=>j k (by simp[writes,f])) i d (zY h F) l) (λF=>T S env D a w w' Kn Kx Kr (λk f=>j k (by simp[writes,f])) i d (wC h F) l)
  ·exact A3 h
 |block id x V=>
  intro S env D a w w' Kn Kx Kr j i d h l;refine wpIn_block (wpIn_mono (V S env D a w w' Kn _ Kr j i d h l) ?_);intro e a1 w1 r;cases e with
  |exit PH=>
   obtain⟨cn,D1,u,f,rest⟩:=r;simp only[Exit.inBlock];split
   ·rename_i he;simp only[he,if_true] at f;exact⟨cn,D1,u,f,rest⟩
   ·rename_i he;simp only[he,if_false] at f;exact⟨cn,D1,u,f,rest⟩
  | _=>exact r
 |loop x V=>
  intro S env D a w w' Kn Kx Kr j i d h l;simp only[Hs,g8] at h;split at h
  ·split at h
   ·exact A3 h
   ·rename_i Z Wf;obtain⟨I,⟨n0,h0⟩,rA⟩:=h
    let sl:=aM ((g6 x).getD 0)
    let o:Nat->Option (Option A2):=λt=>if(writes x).contains t then none else some (a.tmps[t]?)
    let eK:=env.filter λe=> !(writes x).contains e.t
    have nil: ∀(tm:Array A2),ib #[] tm []:=λtm x m=>by cases m
    have zJ: ∀t e,bz eK t=some e->a.tmps[t]? =some e.v/\(writes x).contains t=false/\e.ch=[]:=by
     intro t e he;have F:=uf he;have W:=uv he;have E:(writes x).contains t=false:=by rw[<-F];simpa using W.2
     have z:bz env t=some e:=gy he (λy _ Tf=>by rw[Tf,E];rfl);exact⟨d.yes t e z (by rw[(i e W.1).1];exact nil _),E,(i e W.1).1⟩
    have head: ∀(A:List bC) (D2:List Nat) (p:Act) (s:lO (sl.map (·.2))),plain A->Fit o #[] N (marks D2) A p->ma sl A=some s->Fit o #[] N (marks D2) (ij sl s++eK) p/\plain (ij sl s++eK):=by
     intro A D2 p s X q vD;have O:plain (ij sl s++eK):=λe he=>by
      rcases EB.1 he with he|he
      ·exact pH he
      ·exact i e (by simpa[eK] using(Bc.1 he).1)
     refine⟨⟨q.off,q.size,q.ni,λt e he _=>?_,λt e he hn=>absurd (by rw[(O e (bG he)).1];exact nil _) hn,(λe he=>by rw[(O e he).2];exact(O e he).1),λe he b hb=>by
     rcases EB.1 he with he|he
     ·rw[yi he] at hb;cases hb
     ·exact d.xE e (Bc.1 he).1 b hb⟩,O⟩
     rcases jS he with he|⟨_,he⟩
     ·obtain⟨e',ir,hv⟩:=mW vD he;rw[<-hv];exact q.yes t e' ir (by rw[(X e' (bG ir)).1];exact nil _)
     ·obtain⟨hv,E, _⟩:=zJ t e he;have:=q.off t (a.tmps[t]?) (by simp only[o,E];rfl);rw[this,hv]
    have HN:Fit o #[] N (marks D) env a:=⟨λt x m=>by
     simp only[o] at m;split at m
     ·cases m
     ·cases m;rfl,d.size,d.ni,d.yes,d.no,d.A8,d.xE⟩
    have back: ∀{A:List bC} {D2:List Nat} {p:Act},Fit o #[] N (marks D2) A p->Fit S #[] N (marks D2) A p:=λ{A D2 p} z=>⟨λt y Y=>by
     have E:(writes x).contains t=false:=by
      cases hc:(writes x).contains t with
      |false=>rfl
      |true=>have:=j t (by simpa[writes] using hc);rw[this] at Y;cases Y
     have h1:=z.off t (a.tmps[t]?) (by simp only[o,E];rfl);rw[h1];exact d.off t y Y,z.size,z.ni,z.yes,z.no,z.A8,z.xE⟩
    have SA: ∀k∈writes x,o k=none:=λk f=>by simp[o,f]
    obtain⟨Wg,Wh⟩:=head env D a Z i HN Wf;refine uX (λn p G=> ∃s D2,I n s D2 G/\Fit o #[] N (marks D2) (ij sl s++eK) p/\plain (ij sl s++eK)) (n0:=n0) ⟨Z,D,h0 w' l,Wg,Wh⟩ ?_;intro n p G ⟨s,D2,hI,q,X⟩;have hb:=V o _ D2 p G G _ Kx Kr SA X q (rA n s D2 G hI) (Ext.refl _);refine wpIn_mono hb ?_;intro e a3 w3 r;cases e with
    |normal=>
     obtain⟨H,D3,u,f,J,K,L⟩:=r;simp only[Exit.then];split at f
     ·rename_i s3 Wi;obtain⟨n',fD,Tg⟩:=f w3 L;obtain⟨PI,PJ⟩:=head H D3 a3 s3 J K Wi;exact⟨n',fD,s3,D3,Tg,PI,PJ⟩
     ·exact A3 f
    |exit id=>obtain⟨H,D3,u,f,J,K,L⟩:=r;exact⟨H,D3,u,f,J,back K,L⟩
    |ret=>obtain⟨H,D3,u,f,J,K,L⟩:=r;exact⟨H,D3,u,f,J,back K,L⟩
    | _=>exact r
  ·exact wJ (C:=C) (aM:=aM) j i d h l
 |rangeFunc g ps assign body _ _=>
  intro S env D a w w' Kn Kx Kr j i d h l;simp only[Hs] at h;split at h
  ·rename_i fU first cap hg
   split at h
   ·rename_i ia;simp only[BA,C7,decide_eq_true_eq] at ia;obtain⟨zF,SV⟩:=ia;have U:=d.ev (ch:=[]) (λ_ m=>by cases m) hg;refine wpIn_rangeFunc λfn _=>?_
    let M:Loop:={state:= .ready,pending:=none,fn,tmps:=a.tmps,params:=ps,assign,body,defers:=w'.heap.size}
    have SB:Fit (λ_=>none) #[] N (marks D) env {tmps:=a.tmps,defers:=marks D}:=⟨(λ_ _ m=>by cases m),d.size,rfl,d.yes,d.no,d.A8,d.xE⟩;have f:=h w' l M rfl rfl rfl rfl (λ_ w3 R hr=>B7 (C:=C) (aM:=aM) (rec:=M) rfl rfl rfl SV i SB hr);have Um:(first++ #[Value.func (.yield (w'.heap.size+1)) #[] #[]]++cap:Array A2)=⟨dg first [.func (.yield (w'.heap.size+1)) #[] #[]] cap⟩:=by
     unfold dg;obtain⟨l1⟩:=first;obtain⟨l3⟩:=cap
     simp
    refine⟨w'.heap.size+1,[{target:= .collected w'.heap.size,args:= #[]}],(w'.alloc (.deferred (some []))).alloc (.loop M),{target:= .fn (.func fU) cap,args:=first++ #[.func (.yield (w'.heap.size+1)) #[] #[]]},(w'.alloc (.deferred (some []))).alloc (.loop M),fU,
     ⟨dg first [.func (.yield (w'.heap.size+1)) #[] #[]] cap⟩,(w'.alloc (.deferred (some []))).alloc (.loop M),run_enterLoop_outer _ _ _ _ _,?_,λ_ _=>trivial,?_,by simp[WF,Eo],?_⟩
    ·simp only[resolve,U,Deferred.ofValue,B2,Ix,HO,J3];rfl
    ·simp only[invoke];rw[Um];exact pU zF
    ·refine(h_ (n:=0 - 1)).2 (f.mono λe w4 ⟨v,he,st,pd,rp,qu,B⟩=>?_);subst he;have xQ:=B8 (P:=P) rp qu;have q:Fit S #[] N (marks (w'.heap.size::D)) env {a with defers:=[{target:= .collected w'.heap.size,args:= #[]}]++a.defers}:=
      ⟨d.off,d.size,by simp[marks,d.ni],d.yes,d.no,d.A8,d.xE⟩
     refine⟨pd, _,xQ,?_⟩
     match pd,B with
     |none,B=>exact⟨env, _, _,B,i,q,Ext.refl _⟩
     |some (.exit id),B=>exact wpIn_exit ⟨env, _, _,B,i,q,Ext.refl _⟩
     |some .ret,B=>exact wpIn_ret ⟨env, _, _,B,i,q,Ext.refl _⟩
   ·exact A3 h
  ·exact A3 h
 | _=>intro S env D a w w' Kn Kx Kr j i d h l;exact wJ (C:=C) (aM:=aM) j i d h l
def zq (P:AC) (w:A1):List ResultVar->List bC->(List A2->Prop)->Prop
 |[], _,K=>K []
 | .tmp t::r,env,K=>match bz env t with
   |some e=>zq P w r env (λl=>K (e.v::l))
   |none=>False
 | .cell t ty::r,env,K=>match bz env t with
   |some e=>match e.v,qw P ty,P.info? ty with
    | .pointer p,some el,some i=>if k7 el i.size=true then False else aj w none p el (λx=>zq P w r env (λl=>K (el.gj x::l)))
    | _, _, _=>False
   |none=>False
def MA (s:Sh) (Post:s.T->A1->Prop) (w:A1) (l:List A2):Prop:=
 match s.proj (Bj l) with
 |some x=>Post x w
 |none=>False
def YB (D:List Nat) (x:Prop) (y:Nat->List Nat->Prop):Prop:=match D with
 |[]=>x
 |r::D=>y r D
def Ik (s:Sh) (rs:List ResultVar) (Post:s.T->A1->Prop):nj:=λenv D w=>YB D (ak w (λw1=>zq P w1 rs env (MA s Post w1)))
 (λr D=>oN (r::D) w (λw1=>zq P w1 rs env (MA s Post w1)))
def bO (C:dn P) (aM:Nat->aV) (f:B5) (args:List A2) (w:A1) (Post:(qt C f).T->A1->Prop):Prop:=
 match P.funcs[f]? with
 |none=>False
 |some fn=>match fn.body with
  |none=>False
  |some c=>
   if args.length<=fn.ntmps then Hs C aM fn.ntmps c (fR args 0) [] w (Ik (P:=P) (qt C f) fn.results.toList Post) (λ_ _ _ _=>False) (Ik (P:=P) (qt C f) fn.results.toList Post) else False
theorem uy {tmps:Array A2} {w:A1}: ∀{l:List ResultVar} {env:List bC} {K:List A2->Prop},zq P w l env K->(∀t e,bz env t=some e->tmps[t]? =some e.v)->
 ∃a,(l.mapM (kX tmps)).run P w= .ok a w/\K a
 |[], _, _,h, _=>⟨[],by simp,h⟩
 | .tmp t::r,env,K,h,hv=>by
   simp only[zq] at h;split at h
   ·rename_i e b;obtain⟨a,dp,c⟩:=uy h hv;refine⟨e.v::a,?_,c⟩;simp only[Ih,AX,kX,B2,B1,dp];simp[hv t e b]
   ·exact A3 h
 | .cell t ty::r,env,K,h,hv=>by
   simp only[zq] at h;split at h
   ·rename_i e b;split at h
    ·rename_i p el i f g hi;split at h
     ·exact A3 h
     ·rename_i j;obtain⟨x,d,k⟩:=h;obtain⟨a,dp,c⟩:=uy k hv;refine⟨el.gj x::a,?_,c⟩;have m: ∃a0,p=some a0:=by cases el<;>(obtain⟨a0,h0, _⟩:=d;exact⟨a0,h0⟩)
      obtain⟨a0,rfl⟩:=m;have n:=pE (P:=P) g hi j d;have o:tmps.getD t undef= .pointer (some a0):=by simp[hv t e b,f]
      simp only[Ih,AX,kX,o,asAddr,B2,B1,n,dp]
    ·exact A3 h
   ·exact A3 h
theorem pW {fn:Func} {tmps:Array A2} {R:Ending->A1->Prop}: ∀(D:List Nat) (w:A1),zK D w->(∃v,(results fn tmps).run P (j7 D w)= .ok v (j7 D w)/\R (.returned v) (j7 D w))->
 LeavesInM (WF none) 0 P fn tmps R (marks D) .returning w
 |[],w, _,h=>h
 |r::D,w,a,h=>⟨by simp,.inl ⟨r, _,rfl,run_takeDeferred a.1,pW D _ a.2 h⟩⟩
theorem aO {C:dn P} {aM:Nat->aV} {f:B5} {args:List A2} {w:A1} {Post:(qt C f).T->A1->Prop} (h:bO C aM f args w Post):ar P f (qt C f) args w Post:=by
 unfold bO at h;split at h
 ·exact A3 h
 ·rename_i fn y;split at h
  ·exact A3 h
  ·rename_i c hb;split at h
   ·rename_i I;have i:plain (fR args 0):=λe a=>ow a;have nil: ∀(o:Array Oper) (p:Array A2),ib o p []:=λo p x g=>by cases g
    have z:Fit (λ_=>none) #[] fn.ntmps (marks []) (fR args 0) {tmps:=(⟨args⟩:Array A2)++Gi (fn.ntmps - args.length) undef,defers:=[]}:=by
     refine⟨(λ_ _ g=>by cases g),(by simp;omega),rfl,λt e a _=>?_,λt e a A=>absurd (by rw[(i e (bG a)).1];exact nil _ _) A,(λe a=>by rw[(i e a).2];exact(i e a).1),λe a b hb=>by rw[uw a] at hb;cases hb⟩;obtain⟨_,hv, _⟩:=mA a;simp only[Nat.sub_zero] at hv;have B:t<args.length:=(O1.1 hv).1;rw[QK (by simpa using B)];simpa using hv
    have E:=Q7 (C:=C) (aM:=aM) c (λ_=>none) _ _ _ w w _ _ _ (λ_ _=>rfl) i z h (Ext.refl w);refine(h_ (r:=none) (n:=0)).1 (callsIn_of_wp_marks y hb trivial (wpIn_mono E ?_));have fin: ∀a1 w1,(∃env D m,Ik (P:=P) (qt C f) fn.results.toList Post env D m/\plain env/\Fit (λ_=>none) #[] fn.ntmps (marks D) env a1/\Ext m w1)->
     LeavesInM (WF none) 0 P fn a1.tmps (λe w'=> ∃x:(qt C f).T,e= .returned ((qt C f).gj x)/\Post x w') a1.defers .returning w1:=by
     intro a1 w1 ⟨env,D,m,j,F,q,s⟩;obtain⟨G,H⟩:zK D w1/\zq P (j7 D w1) fn.results.toList env (MA (qt C f) Post (j7 D w1)):=by
      cases D with
      |nil=>exact⟨trivial,j w1 s⟩
      |cons r D=>exact j w1 s
     rw[q.ni];refine pW D w1 G ?_;obtain⟨d,dp,k⟩:=uy H (λt e a=>q.yes t e a (by rw[(F e (bG a)).1];exact nil _ _));unfold MA at k;split at k
     ·rename_i x g;refine⟨Bj d,?_,x,by rw[Sh.gi g],k⟩;have h2:(fn.results.mapM (kX a1.tmps)).run P (j7 D w1)= .ok ⟨d⟩ (j7 D w1):=by
       rw[O3,MJ,dp];rfl
      have e:results fn a1.tmps=(do
       let d<-fn.results.mapM (kX a1.tmps)
       pure (if h:d.size=1 then d[0] else .tuple d)):=rfl
      rw[e,AX,h2];simp only[B1,B2]
      match d with
      |[]=>rfl
      |[v]=>rfl
      |v::u::r=>simp[Bj]
     ·exact A3 k
    intro e a1 w1 l;cases e with
    |normal=>exact fin a1 w1 l
    |ret=>exact fin a1 w1 l
    |exit id=>obtain⟨_, _, _,j, _⟩:=l;exact A3 j
    | _=>exact A3 l
   ·exact A3 h
theorem putObj_size (w:A1) (b:Nat) (o:Obj):(w.putObj b o).heap.size=w.heap.size:=by simp[Es]
theorem eR {w:A1} {b k:Nat} {o:Obj} (h:k≠b):(w.putObj b o).heap[k]? =w.heap[k]? :=by
 simp[Es,Ne.symm h]
theorem iq {w:A1} {b:Nat} {o:Obj} (h:b<w.heap.size):(w.putObj b o).heap[b]? =some o:=by
 simp[Es,h]
theorem yO (w:A1) (a:A9) (v:A2):(w.setCell a v).heap.size=w.heap.size:=by simp[I2]
theorem B9 {w:A1} {a:A9} {k:Nat} {v:A2} (h:k≠a.block):(w.setCell a v).heap[k]? =w.heap[k]? :=by
 simp[I2,LL,Ne.symm h]
theorem A9.qR (a:A9) (n:Nat):(a.add n).block=a.block:=by
 unfold Addr.add;split<;>rfl
theorem ox: ∀(b:List A2) (w:A1) (a:A9) (i:Nat),(putAt w a b i).heap.size=w.heap.size
 |[], _, _, _=>rfl
 |v::r,w,a,i=>by simp only[putAt,ox r,yO]
theorem kB: ∀(b:List A2) (w:A1) (a:A9) (i k:Nat),k≠a.block->(putAt w a b i).heap[k]? =w.heap[k]?
 |[], _, _, _, _, _=>rfl
 |v::r,w,a,i,k,h=>by
  simp only[putAt];rw[kB r _ a (i+1) k h,B9 (by rw[A9.qR];exact h)]
theorem Below.putAt {n:Nat} {w w':A1} (h:Below n w w') (a:A9) (c:n<=a.block): ∀(b:List A2) (i:Nat),Below n w (putAt w' a b i):=by
 intro b i
 induction b generalizing w' i with
 |nil=>exact h
 |cons v r d=>
  simp only[RX.putAt];exact d (h.setCell (by rw[A9.qR];exact c) v) (i+1)
theorem AN {n:Nat} {w w':A1} (h:Below n w w') {b:Nat} (hb:n<=b) (o:Obj):Below n w (w'.putObj b o):=
 ⟨h.os,h.tape,h.output,by rw[putObj_size];exact h.size,λk a=>by rw[eR (Nat.ne_of_lt (P0 a hb))];exact h.block k a⟩
theorem Ext.fo {w w':A1} (h:Ext w w') {a:A9} (c:w.heap.size<=a.block) (b:List A2):Ext w (fo w' (some a) b):=Below.putAt h a c b 0
theorem Ext.putObj {w w':A1} (h:Ext w w') {b:Nat} (hb:w.heap.size<=b) (o:Obj):Ext w (w'.putObj b o):=AN h hb o
theorem Ext.da {w w':A1} (h:Ext w w') (o:Obj):Ext w (w'.alloc o):=h.trans (Ext.alloc w' o)
def bh (w:A1) (b:Nat) (l:List A2):Prop:= ∃t,w.heap[b]? =some (.cells ⟨l⟩ t (0,0))
theorem bh.lt {w:A1} {b:Nat} {l:List A2} (h:bh w b l):b<w.heap.size:=by
 obtain⟨t,h⟩:=h;exact(Br.1 h).1
theorem bh.ext {w w':A1} {b:Nat} {l:List A2} (h:bh w b l) (k:Ext w w'):bh w' b l:=by
 obtain⟨t,h⟩:=h;exact⟨t,k.obj h⟩
theorem jt (w:A1) (o:Obj):(w.alloc o).heap.size=w.heap.size+1:=by simp
theorem fA (w:A1) (o:Obj):(w.alloc o).heap[w.heap.size]? =some o:=by
 show(w.heap.push o)[w.heap.size]? =some o;simp
theorem bh.new (w:A1) (l:List A2) (t:A_):bh (w.alloc (.cells ⟨l⟩ t)) w.heap.size l:=⟨t,fA _ _⟩
theorem bh.same {w w':A1} {b:Nat} {l:List A2} (h:bh w b l) (k:w'.heap[b]? =w.heap[b]?):bh w' b l:=by
 obtain⟨t,h⟩:=h;exact⟨t,by rw[k];exact h⟩
theorem bh.Il {w:A1} {b:Nat} {l:List A2} (h:bh w b l) {a:A9} (d:b≠a.block) (c:List A2):bh (fo w (some a) c) b l:=
 h.same (kB c w a 0 b d)
theorem bh.putObj {w:A1} {b:Nat} {l:List A2} (h:bh w b l) {k:Nat} (a:b≠k) (o:Obj):bh (w.putObj k o) b l:=h.same (eR a)
theorem MB (b o n:Nat):Addr.add ⟨b,o,none⟩ n=⟨b,o+n,none⟩:=by
 unfold Addr.add;split
 ·rename_i h;subst h;rfl
 ·rfl
theorem aL (b o n:Nat):ae (some ⟨b,o,none⟩) n=some ⟨b,o+n,none⟩:=by simp[ae,MB]
theorem bh.cell {w:A1} {b:Nat} {l:List A2} (h:bh w b l) (o:Nat):w.cell? ⟨b,o,none⟩=l[o]? :=by
 obtain⟨t,h⟩:=h;simp[P1,h]
theorem bh.cellAt {w:A1} {b:Nat} {l:List A2} (h:bh w b l) (o n:Nat):w.cell? (Addr.add ⟨b,o,none⟩ n)=l[o+n]? :=by rw[MB,h.cell]
theorem bh.EQ {w:A1} {b:Nat} {l:List A2} (h:bh w b l) (a:A9) (c:a.block=b):w.frozen? a=false:=by
 obtain⟨t,h⟩:=h;simp[Ql,c,h]
theorem bh.lJ {w:A1} {b o:Nat} {l:List A2} (h:bh w b l) {s:Sc} {x:s.T} (a:l[o]? =some (s.gj x)):cI w (some ⟨b,o,none⟩) (.one s) x:=
 ⟨_,rfl,by rw[h.cell];exact a⟩
theorem bh.Mi {w:A1} {b o:Nat} {l:List A2} (h:bh w b l) {ss:List Sc} {x:iv ss} (a: ∀i,i<ss.length->l[o+i]? =(aZ ss x)[i]?):cI w (some ⟨b,o,none⟩) (.agg ss) x:=
 ⟨_,rfl,λi hi=>by rw[h.cellAt];exact a i hi⟩
theorem bh.xD {w:A1} {b o n:Nat} {l a:List A2} (h:bh w b l) (c:a.length=n) (d: ∀i,i<n->l[o+i]? =a[i]?):xD w (some ⟨b,o,none⟩) n a:=
 ⟨c,λi hi=>by rw[h.cellAt];exact d i hi⟩
theorem bh.st {w:A1} {b o n:Nat} {l:List A2} (h:bh w b l) (a:o+n<=l.length):Mu w (some ⟨b,o,none⟩) n:=
 ⟨_,rfl,λi hi=>⟨by rw[h.cellAt,Ht (by omega)];rfl,h.EQ _ (A9.qR _ _)⟩⟩
theorem yP {w:A1} {b o:Nat} {l:List A2} {t:A_} (h:w.heap[b]? =some (.cells ⟨l⟩ t (0,0))) (v:A2):(w.setCell ⟨b,o,none⟩ v).heap[b]? =some (.cells ⟨l.set o v⟩ t (0,0)):=by
 simp only[I2,LL,if_true,h,H7];simp
theorem uZ: ∀(a:List A2) (w:A1) (b o i:Nat) (l:List A2) (t:A_),w.heap[b]? =some (.cells ⟨l⟩ t (0,0))->o+i+a.length<=l.length->
 (putAt w ⟨b,o,none⟩ a i).heap[b]? =some (.cells ⟨l.take (o+i)++(a++l.drop (o+i+a.length))⟩ t (0,0))
 |[],w,b,o,i,l,t,h, _=>by simp[putAt,h]
 |v::r,w,b,o,i,l,t,h,c=>by
  simp only[Mr] at c;simp only[putAt,MB];rw[uZ r _ b o (i+1) (l.set (o+i) v) t (yP h v) (by simp;omega)];congr 3;have d:(l.set (o+i) v).take (o+(i+1))=l.take (o+i)++[v]:=by
   rw[show o+(i+1)=(o+i)+1 by omega,PP,PQ (by omega)];congr 1;rw[PS (by omega)];rfl
  have h2:(l.set (o+i) v).drop (o+(i+1)+r.length)=l.drop (o+i+(r.length+1)):=by
   rw[PU (by omega)];congr 1;omega
  rw[d,h2];simp
theorem bh.put {w:A1} {b o:Nat} {l:List A2} (h:bh w b l) (a:List A2) (c:o+a.length<=l.length):bh (fo w (some ⟨b,o,none⟩) a) b (l.take o++(a++l.drop (o+a.length))):=by
 obtain⟨t,h⟩:=h;exact⟨t,uZ a w b o 0 l t h c⟩
theorem bZ.lt {w:A1} {l:Nat} {rec:Loop} {st:LoopState} {a:Option Code} (h:bZ w l rec st a):l<w.heap.size:=(Br.1 h).1
theorem bZ.ext {w w':A1} {l:Nat} {rec:Loop} {st:LoopState} {a:Option Code} (h:bZ w l rec st a) (k:Ext w w'):bZ w' l rec st a:=k.obj h
theorem bZ.same {w w':A1} {l:Nat} {rec:Loop} {st:LoopState} {a:Option Code} (h:bZ w l rec st a) (k:w'.heap[l]? =w.heap[l]?):bZ w' l rec st a:=by
 unfold bZ;rw[k];exact h
theorem bZ.put {w:A1} {l:Nat} {rec:Loop} {st:LoopState} {c:Option Code} (h:bZ w l rec st c) (a:LoopState) (b:Option Code):bZ (oS w l rec a b) l rec a b:=
 iq h.lt
def cellsOf:(e:El)->e.T->List A2
 | .one s,x=>[s.gj x]
 | .agg l,x=>aZ l x
def aK:El->Nat
 | .one _=>1
 | .agg l=>l.length
theorem cT (e:El) (x:e.T):(cellsOf e x).length=aK e:=by
 cases e with
 |one s=>rfl
 |agg l=>exact bV l x
def Sl (w:A1) (e:El) (p:Option A9) (xs:List e.T):Prop:= ∀i x,xs[i]? =some x->p.isSome=true/\cI w (ae p (i*aK e)) e x
theorem Sl.ext {w w':A1} {e:El} {p:Option A9} {xs:List e.T} (h:Sl w e p xs) (k:Ext w w'):Sl w' e p xs:=
 λi x a=>⟨(h i x a).1,pD k (h i x a).2⟩
def flat (e:El) (xs:List e.T):List A2:=xs.flatMap (cellsOf e)
theorem aN (e:El) (xs:List e.T):(flat e xs).length=xs.length*aK e:=by
 induction xs with
 |nil=>simp[flat]
 |cons x r a=>simp only[flat,L7,FS,cT] at*;rw[a];simp[E5,Nat.add_comm]
theorem rS (e:El) (xs ys:List e.T):flat e (xs++ys)=flat e xs++flat e ys:=by simp[flat]
theorem uz (e:El): ∀(xs:List e.T) (i:Nat) (x:e.T),xs[i]? =some x-> ∀j,j<aK e->(flat e xs)[i*aK e+j]? =(cellsOf e x)[j]?
 |[], _, _,h, _, _=>by simp at h
 |y::r,0,x,h,j,a=>by
  simp at h;subst h;simp only[flat,L7,Nat.zero_mul,ED];rw[List.getElem?_append_left (by rw[cT];exact a)]
 |y::r,i+1,x,h,j,a=>by
  have b:=uz e r i x (by simpa using h) j a;simp only[flat,L7];rw[List.getElem?_append_right (by rw[cT,E5];omega),cT];rw[show(i+1)*aK e+j - aK e=i*aK e+j by rw[E5];omega];exact b
theorem Sl.iB {w:A1} {e:El} {b:Nat} {l:List A2} {xs:List e.T} (h:bh w b l) (d:l.take (xs.length*aK e)=flat e xs):Sl w e (some ⟨b,0,none⟩) xs:=by
 intro i x c;have hi:i<xs.length:=(O1.1 c).1;have f: ∀j,j<aK e->i*aK e+j<xs.length*aK e:=λj a=>by
  have:(i+1)*aK e<=xs.length*aK e:=QW _ hi;rw[E5] at this;omega
 have hc: ∀j,j<aK e->l[i*aK e+j]? =(cellsOf e x)[j]? :=λj a=>by
  rw[<-uz e xs i x c j a, <-d,QC (f j a)]
 refine⟨rfl,?_⟩;rw[aL,ED];cases e with
 |one s=>exact h.lJ (by have:=hc 0 (by simp[aK]);simpa[cellsOf] using this)
 |agg ss=>exact h.Mi (λj a=>hc j a)
def jz (w0 w:A1) (e:El) (s:Option A9×Nat×Nat) (xs:List e.T):Prop:=
 s.2.1=xs.length/\xs.length<=s.2.2/\
 ((s.1=none/\xs=[]/\s.2.2=0)\/ ∃b l,s.1=some ⟨b,0,none⟩/\w0.heap.size<=b/\bh w b l/\l.length=s.2.2*aK e/\l.take (xs.length*aK e)=flat e xs)
theorem jz.nil (w0 w:A1) (e:El):jz w0 w e (none,0,0) []:=⟨rfl,Di _,.inl ⟨rfl,rfl,rfl⟩⟩
theorem jz.ext {w0 w w':A1} {e:El} {s:Option A9×Nat×Nat} {xs:List e.T} (h:jz w0 w e s xs) (k:Ext w w'):jz w0 w' e s xs:=by
 obtain⟨c,h2,a⟩:=h;refine⟨c,h2,?_⟩;rcases a with a|⟨b,l,a1,d,f,g⟩
 ·exact .inl a
 ·exact .inr ⟨b,l,a1,d,f.ext k,g⟩
theorem jz.same {w0 w w':A1} {e:El} {s:Option A9×Nat×Nat} {xs:List e.T} (h:jz w0 w e s xs) (k: ∀a,s.1=some a->w'.heap[a.block]? =w.heap[a.block]?):jz w0 w' e s xs:=by
 obtain⟨d,h2,c⟩:=h;refine⟨d,h2,?_⟩;rcases c with c|⟨b,l,a1,f,g,i⟩
 ·exact .inl c
 ·exact .inr ⟨b,l,a1,f,g.same (k _ a1),i⟩
theorem jz.sl {w0 w:A1} {e:El} {s:Option A9×Nat×Nat} {xs:List e.T} (h:jz w0 w e s xs):Sl w e s.1 xs:=by
 obtain⟨g,h2,c⟩:=h;rcases c with ⟨_,a, _⟩|⟨b,l,a1,j,d,k,f⟩
 ·subst a;intro i x a;simp at a
 ·rw[a1];exact Sl.iB d f
theorem jz.len {w0 w:A1} {e:El} {s:Option A9×Nat×Nat} {xs:List e.T} (h:jz w0 w e s xs):s.2.1=xs.length:=h.1
def j8:El->Bool
 | .one s=>s != .func
 | .agg l=>l.all (· != .func)
theorem u0 (s:Sc) (x:s.T) (h:(s != .func)=true):(s.gj x).oneCell'=true:=by
 cases s<;>first|rfl|(exact absurd h (by decide))
theorem pX: ∀(ss:List Sc) (x:iv ss),ss.all (· != .func)=true->(aZ ss x).all (·.oneCell')=true
 |[], _, _=>rfl
 |s::r,x,h=>by
  simp only[Ic,BA] at h;simp only[aZ,Ic,pX r x.2 h.2,Bool.and_true,u0 s x.1 h.1]
theorem AO (e:El) (x:e.T) (h:j8 e=true):(cellsOf e x).all (·.oneCell')=true:=by
 cases e with
 |one s=>simp[cellsOf,u0 s x h]
 |agg l=>exact pX l x h
theorem kf (e:El) (xs:List e.T) (h:j8 e=true):(flat e xs).all (·.oneCell')=true:=by
 induction xs with
 |nil=>rfl
 |cons x r a=>simp only[flat,L7,List.all_append,BA];exact⟨AO e x h,a⟩
theorem ju {w0 w:A1} {e:El} {s x:Option A9×Nat×Nat} {xs ys:List e.T} {t:A_} {bytes:Nat} {z:Array A2} {R:Option A9×Nat×Nat->A1->Prop}
 (h:jz w0 w e s xs) (h0:Ext w0 w) (A:j8 e=true) (f:x.2.1=ys.length) (B:xD w x.1 (x.2.1*aK e) (flat e ys)) (C:z.size=aK e) (hb:(xs.length+ys.length)*bytes<=140737488355328)
 (k: ∀s' w',jz w0 w' e s' (xs++ys)->Ext w0 w'->(∀b,b<w.heap.size->(∀a,s.1=some a->b≠a.block)->w'.heap[b]? =w.heap[b]?)->w.heap.size<=w'.heap.size->
  ((∃a,s'.1=some a/\s.1=some a)\/(∃a,s'.1=some a/\w.heap.size<=a.block)\/s'=(s.1,s.2.1,s.2.2))->R s' w'):
 vp w t (aK e) bytes z s x R:=by
 obtain⟨d,h2,u⟩:=h;have p:=aN e xs;have m:=aN e ys;have D:xD w s.1 (s.2.1*aK e) (flat e xs):=by
  rcases u with ⟨a1,j,g⟩|⟨b,l,a1,j,g,q,r⟩
  ·rw[a1,j];rfl
  ·rw[a1];refine g.xD (by rw[p,d]) λi hi=>?_;rw[<-r,ED,QC (by rw[<-d];exact hi)]
 refine⟨flat e xs,flat e ys,D,B,λn=>?_,λn=>⟨growslice_fits n (by rw[d,f];exact hb),λc hc=>?_⟩⟩
 ·rcases u with ⟨a1,j,g⟩|⟨b,l,a1,j,g,q,r⟩
  ·rw[g] at n;have E:ys=[]:=List.eq_nil_of_length_eq_zero (by omega);subst E;subst j;refine⟨.inl rfl,?_⟩;have F:s.2.1=0:=d;have v:x.2.1=0:=f;rw[a1];refine k _ _ ⟨by simp[F,v],Nat.zero_le _,.inl ⟨rfl,rfl,g⟩⟩ ?_ (λ_ _ _=>rfl) (Di _) (.inr (.inr ?_))
   ·exact h0
   ·rw[a1,v];rfl
  ·have y:xs.length*aK e+ys.length*aK e<=l.length:=by
    rw[q, <-E5];exact QW _ (by rw[<-d, <-f];exact n)
   have G:s.1.map (·.add (s.2.1*aK e))=some ⟨b,xs.length*aK e,none⟩:=by
    rw[a1,d];simp[MB]
   rw[G];refine⟨.inr ⟨g.st (by rw[m];exact y),kf e ys A⟩,?_⟩;have H:=g.put (o:=xs.length*aK e) (flat e ys) (by rw[m];exact y);refine k _ _ ⟨by simp[d,f],by simp only[FS];rw[<-d, <-f];exact n,.inr ⟨b, _,a1,j,H,?_,?_⟩⟩ (h0.fo (a:=⟨b, _,none⟩) j _) (λI L J=>kB (flat e ys) w ⟨b, _,none⟩ 0 I (J ⟨b,0,none⟩ a1)) (Nat.le_of_eq (ox _ _ _ _).symm) (.inl ⟨_,a1,a1⟩)
   ·simp only[FS,List.length_take,List.length_drop,m];rw[<-q];omega
   ·rw[r];have:(xs++ys).length*aK e=(flat e xs++flat e ys).length:=by simp only[FS,p,m,E5]
    rw[this, <-QA,rS];exact QD rfl
 ·have M:w.drew.heap.size=w.heap.size:=rfl;refine k _ _ ⟨by simp[d,f],by simp only[FS];rw[<-d, <-f];exact hc,.inr ⟨w.heap.size,flat e xs++flat e ys++(IG z (c - (s.2.1+x.2.1))).toList,rfl,h0.size,?_,?_,?_⟩⟩ ((h0.trans (Ext.drew w)).trans (Ext.alloc _ _)) (λb hb _=>?_) ?_ (.inr (.inl ⟨_,rfl,Di _⟩))
  ·have K:(L9 (flat e xs)++L9 (flat e ys)++IG z (c - (s.2.1+x.2.1)))=⟨flat e xs++flat e ys++(IG z (c - (s.2.1+x.2.1))).toList⟩:=by
    apply Hz;simp
   rw[K];exact bh.new w.drew _ _
  ·simp only[FS,p,m,IG,Array.length_toList,Array.size_map,Array.size_range,C];rw[<-E5, <-d, <-f, <-E5];congr 1;omega
  ·have:(xs++ys).length*aK e=(flat e xs++flat e ys).length:=by simp only[FS,p,m,E5]
   rw[this,rS];exact QD rfl
  ·have:w.drew.heap=w.heap:=rfl;rw[Ext.block (Ext.alloc w.drew _) (by rw[this];exact hb),this]
  ·rw[jt];exact Nat.le_succ _
theorem Jz {w0 w c w1:A1} {e:El} {s:Option A9×Nat×Nat} {xs:List e.T} {x:e.T} {t:A_} {bytes:Nat} {z:Array A2} {R:Option A9×Nat×Nat->A1->Prop}
 (h:jz w0 w e s xs) (h0:Ext w0 w) (g:j8 e=true) (j:Ext w c) (d:Ext (c.alloc (.cells ⟨cellsOf e x⟩ t)) w1) (l:z.size=aK e) (hb:(xs.length+1)*bytes<=140737488355328)
 (k: ∀s' w',jz w0 w' e s' (xs++[x])->Ext w0 w'->(∀b,b<w.heap.size->(∀a,s.1=some a->b≠a.block)->w'.heap[b]? =w.heap[b]?)->w.heap.size<=w'.heap.size->R s' w'):
 vp w1 t (aK e) bytes z s (some ⟨c.heap.size,0,none⟩,1,1) R:=by
 have kk:Ext w w1:=(j.trans (Ext.alloc c _)).trans d;have m:bh w1 c.heap.size (cellsOf e x):=(bh.new c _ _).ext d;refine ju (ys:=[x]) (h.ext kk) (h0.trans kk) g rfl ?_ l hb λs' w' n o p q _=>k s' w' n o (λb f r=>?_) (Nat.le_trans kk.size q)
 ·refine m.xD (aN e [x]) λi hi=>?_;simp[flat]
 ·rw[p b (P0 f kk.size) r,kk.block f]
def U (b:BitVec 64):Int:=(b.toNat:Int)
def B (x:Int):BitVec 64:=DA 64 x
theorem tq (b:BitVec 64):B (U b)=b:=by
 unfold B U;simp
theorem Uo {a b:BitVec 64}:U a=U b<->a=b:=⟨λh=>by rw[<-tq a,h,tq],λh=>by rw[h]⟩
theorem wrap_u64 (x:Int):S1.wrap x=x % 18446744073709551616:=by
 simp[S2,S3,S4]
theorem YC (x:Int):U (B x)=x % 18446744073709551616:=by
 unfold U B;rw[BitVec.toNat_ofInt];rw[Int.toNat_of_nonneg (Int.emod_nonneg _ (by decide))];rfl
theorem xR {x:Int} (h:0<=x) (h':x<18446744073709551616):U (B x)=x:=by
 rw[YC,Int.emod_eq_of_lt h h']
theorem qG (x:Int):S1.wrap x=U (B x):=by rw[wrap_u64,YC]
theorem IJ (a b:BitVec 64):lY .u64 (U a) (U b)=U (a &&& b):=by
 unfold lY;rw[qG];show U (B (U (B (U a) &&& B (U b))))= _;rw[tq,tq,tq]
theorem Uq (a b:BitVec 64):Pz .u64 (U a) (U b)=U (a ||| b):=by
 unfold Pz;rw[qG];show U (B (U (B (U a) ||| B (U b))))= _;rw[tq,tq,tq]
theorem ER (a b:BitVec 64):iV .u64 (U a) (U b)=U (a &&& ~~~ b):=by
 unfold iV;rw[qG];show U (B (U (B (U a) &&& ~~~ B (U b))))= _;rw[tq,tq,tq]
theorem Ur (x y:Int):B (x+y)=B x+B y:=by unfold B;exact BitVec.ofInt_add ..
theorem Us (x y:Int):B (x*y)=B x*B y:=by unfold B;exact BitVec.ofInt_mul ..
theorem Q8 (a b:BitVec 64):aC .u64 (U a) (U b)=U (a+b):=by unfold aC;rw[qG,Ur,tq,tq]
theorem Q9 (a b:BitVec 64):dO .u64 (U a) (U b)=U (a*b):=by unfold dO;rw[qG,Us,tq,tq]
theorem IK (a:BitVec 64) (n:Int):zk .u64 (U a) n=U (a <<< n.toNat):=by
 unfold zk;rw[wrap_u64];unfold U;rw[BitVec.toNat_shiftLeft,Nat.shiftLeft_eq];show(a.toNat:Int)*2 ^ (min n.toNat 64) % _= _;by_cases h:n.toNat<=64
 ·rw[Qd h];rw[Int.natCast_emod,Int.natCast_mul,Int.natCast_pow];rfl
 ·rw[Qg (by omega)];have b:(a.toNat*2 ^ n.toNat) % 2 ^ 64=0:=by
   apply Nat.mod_eq_zero_of_dvd;exact Nat.dvd_trans (Nat.pow_dvd_pow 2 (by omega)) (Nat.dvd_mul_left ..)
  rw[b];have:(a.toNat:Int)*2 ^ 64 % 18446744073709551616=0:=by omega
  rw[this];rfl
theorem IL (a:BitVec 64) (n:Int):Be .u64 (U a) n=U (a >>> n.toNat):=by
 unfold Be U;rw[BitVec.toNat_ushiftRight,Nat.shiftRight_eq_div_pow];have e: ∀k:Nat,((a.toNat:Int).fdiv (2 ^ k))=((a.toNat / 2 ^ k:Nat):Int):=λk=>by
  rw[Int.fdiv_eq_ediv_of_nonneg _ (Int.pow_nonneg (by decide))];push_cast;rfl
 show(a.toNat:Int).fdiv (2 ^ (min n.toNat 64))= _;rw[e];by_cases h:n.toNat<=64
 ·rw[Qd h]
 ·rw[Qg (by omega)];have h0:=a.isLt;rw[Qk h0,Qk (P0 h0 (Nat.pow_le_pow_right (by decide) (by omega)))]
theorem dZ {x:Int} (h: -9223372036854775808<=x) (h':x<9223372036854775808):H9.wrap x=x:=by
 simp only[S2,S3,S4];simp;omega
theorem av {x y:Int} (h: -9223372036854775808<=x+y) (h':x+y<9223372036854775808):aC .i64 x y=x+y:=dZ h h'
theorem bU {x y:Int} (h: -9223372036854775808<=x - y) (h':x - y<9223372036854775808):bK .i64 x y=x - y:=dZ h h'
theorem dI {x y:Int} (h: -9223372036854775808<=x*y) (h':x*y<9223372036854775808):dO .i64 x y=x*y:=dZ h h'
theorem aS {P:AC} {f:B5} {sh:Sh} {args:List A2} {w:A1} {x:sh.T} (h:ar P f sh args w (λy w'=>y=x/\Ext w w')):
 Calls P f ⟨args⟩ w (λe w'=>e= .returned (sh.gj x)/\Ext w w'):=
 Hq h λ_ w' ⟨y,a,b,c⟩=>⟨by rw[a,b],c⟩
abbrev ad (b:Nat):Option A9:=some ⟨b,0,none⟩
abbrev jW:El:= .one .ptr
abbrev aT:El:= .one (.int .i64)
abbrev oT:El:= .one (.int .u64)
abbrev jD:El:= .one .slice
abbrev nk:El:= .one .bool
abbrev EG:El:= .one .map
abbrev fQ (w:A1) (a:Option A9) (K:Option A9->Prop):Prop:=aj w none a (.one .ptr) K
abbrev cb (p:Option A9) (n:Nat) (w:A1) (K:Option A9->Prop):Prop:=p.isSome=true/\p.isSome=true/\aj w none (ae p n) (.one .ptr) K
abbrev aQ (w:A1) (a:Option A9) (K:Int->Prop):Prop:=aj w none a (.one (.int .i64)) K
abbrev ee (p:Option A9) (n:Nat) (w:A1) (K:Int->Prop):Prop:=p.isSome=true/\p.isSome=true/\aj w none (ae p n) (.one (.int .i64)) K
abbrev cg (w:A1) (a:Option A9) (K:Int->Prop):Prop:=aj w none a (.one (.int .u64)) K
abbrev aac (p:Option A9) (n:Nat) (w:A1) (K:Int->Prop):Prop:=p.isSome=true/\p.isSome=true/\aj w none (ae p n) (.one (.int .u64)) K
abbrev tC (w:A1) (a:Option A9) (K:Option A9×Nat×Nat->Prop):Prop:=aj w none a (.one .slice) K
abbrev l4 (p:Option A9) (n:Nat) (w:A1) (K:Option A9×Nat×Nat->Prop):Prop:=p.isSome=true/\p.isSome=true/\aj w none (ae p n) (.one .slice) K
abbrev jE (w:A1) (a:Option A9) (K:Bool->Prop):Prop:=aj w none a (.one .bool) K
abbrev XM (p:Option A9) (n:Nat) (w:A1) (K:Bool->Prop):Prop:=p.isSome=true/\p.isSome=true/\aj w none (ae p n) (.one .bool) K
abbrev aad (w:A1) (a:Option A9) (K:Option Nat->Prop):Prop:=aj w none a (.one .map) K
abbrev Bk (p:Option A9) (n:Nat) (w:A1) (K:Option Nat->Prop):Prop:=p.isSome=true/\p.isSome=true/\aj w none (ae p n) (.one .map) K
abbrev aY:El:= .agg [.int .u64,.int .i64]
abbrev cY:El:= .agg [.int .i64,.int .i64,.int .i64,.int .i64]
abbrev nm:El:= .agg [.int .i64,.int .u64,.int .u64,.int .u64]
abbrev zt:El:= .agg [.int .i64,.int .i64,.int .i64]
abbrev aae:El:= .agg [.int .i64,.int .i64,.int .i64,.int .i64,.int .u64,.int .u64,.int .u64,.int .u64,.int .i64]
abbrev fW:El:= .agg [.bool,.int .i64,.bool,.int .i64]
theorem ao {c:Prop} {h:Decidable c} (a: ¬c) {α:Sort _} {t e:α}:ite c t e=e:=if_neg a
theorem ax {c:Prop} {h:Decidable c} (hc:c) {α:Sort _} {t e:α}:ite c t e=t:=if_pos hc
abbrev aa (x:Int):A2:= .int .i64 x
abbrev aq (x:Int):A2:= .int .u64 x
abbrev ah (x:Option A9):A2:= .pointer x
end Go.RX
