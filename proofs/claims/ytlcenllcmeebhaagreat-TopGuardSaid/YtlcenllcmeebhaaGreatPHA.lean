import Derived.CallsIn
import Derived.OrdersIn
import Derived.Below
import Derived.Laws.Sem
import Derived.KernelRfl
import Derived.Laws.StructEq
import Derived.Laws.Small
import Derived.WalkSpells
import Derived.ChangeKeysEq
import Derived.RangeFuncLeaves
import Derived.Laws.World
import Derived.Laws.NewFold
import Derived.OwnWalkIn
import Derived.ChangeMaps4
import Derived.Maps.RangeRun
import Derived.RangeFuncRecord
import Derived.LaidEqlPtr
import Derived.Conc.LoneSelect
import Derived.Laws.Append
import Derived.Test.YtlcenllcmeebhaaGreatProg
import Derived.Deep.Slices
import Derived.ProofKit
import Derived.OpenShut
/-! What the statement leans on: texts joined and shortened by a program of mine. -/
set_option linter.unusedVariables false
set_option linter.unusedSimpArgs false
open Go renaming World->A2,Value->AC,Addr->Ad,TypeId->Ae,Program->Av,IntKind->B4,FuncId->B5,MapEntry->CH
open False renaming elim->Ab
open Go.Sem renaming run_bind->B1,run_pure->B3
open Go.Result renaming andThen_ok->B2,andThen->CN
open Go.Region renaming ready->BJ,wanted->BO,binds->CP,schedule->Fv,linearise->M5
open List renaming range->BK,mem_filter->Bs,mem_cons->Bz,all_eq_true->DB,mem_range->Da,mem_append->De,length_append->Dl,mem_map->Fw,getElem?_cons_zero->Fx,map_toArray->G1,map_cons->GS,map_nil->Ga,range'->Gd,countP_singleton->Gi,all_cons->Hr,getElem?_eq_getElem->Ht,mem_cons_self->Hy,getElem?_toArray->I1,getElem?_cons_succ->I2,range'_succ->IR,countP_append->In,length_cons->M7,take_add_one->MO,take_set_of_le->MQ,drop_set_of_lt->MV,mem_cons_of_mem->MW,find?_some->MZ,filter_cons->NA,range_eq_range'->ND,countP_eq_zero->NE,range_succ->NF,flatMap_cons->NO,take_left'->NQ
open Go.Op renaming equalIn->BL
open Bool renaming and_eq_true->BN,false_eq_true->Dn,or_eq_true->EY,not_eq_true'->H4,or_false->J3,not_false->Nd
open Array renaming getElem?_eq_some_iff->Bp,getElem?_setIfInBounds_ne->CO,replicate->Do,getD_eq_getD_getElem?->F0,all_eq_true_iff_forall_mem->H5,mk->JC,ext'->JD,mapM_eq_mapM_toList->JJ,getD->JL,getElem?_eq_getElem->JP,mem_of_getElem?->JS,getElem?_modify->Nk
open BitVec renaming ofInt->Bv
open Go.Act renaming put->Bx,put_comm->Db,eval->FF
open Option.some renaming injEq->C6
open Go.MapKept renaming run_getObj_map->C7,run_checkKey->CV,run_findKey->CX,IsKey->H6,run_setObj_map->H7
open Nat renaming le_refl->Cb,blt->Dv,add_mul->E4,testBit_or->FS,zero_add->Jn,strongRecOn->Jo,mul_le_mul_right->Nl,lt_of_lt_of_le->No,div_eq_of_lt->Np
open Go.Fence renaming wide->DA
open Go.IntKind renaming i64->Dc,u64->Nq
open Go.Calls renaming mono->E5
open Go.Instr renaming findNow->E6,lookup->E9,fill->HB,indexAt->HE,sureAddr->HG,index->HM,extract->HZ,mapUpdate->Jq,sliceBound->Nu,sliceBounds->Ny,sliceAt->O2,makeSlice->Ok,buildSlice->PP
open Go.World renaming putObj->EO,cell?->Jt,setCell->K1
open Go.Builtin renaming firstCells->EU,len_->Ff,zeroCells->Fs,lenOf->Kg,append_->LL,delete_->M4,nextslicecap->PS,copy_->Pl
open Go.Region.linearise renaming go->EW
open Option renaming map_some->Fu,getD_some->Hb,map_none->Pp
open Go.Conc renaming G->Hq,solo->Rg,rcase->S0
namespace Go.RX
open Go.RowKit
def Ext (w w':A2):Prop:=Below w.heap.size w w'
theorem Ext.refl (w:A2):Ext w w:=Below.refl _ w
theorem Ext.trans {a b c:A2} (h:Ext a b) (k:Ext b c):Ext a c:=Below.trans h (Below.mono k h.size)
theorem Ext.drew (w:A2):Ext w {w with drawn:=w.drawn+1}:=⟨rfl,rfl,rfl,Cb _,λ_ _=>rfl⟩
theorem Ext.alloc (w:A2) (o:Obj):Ext w (w.alloc o):=Below.alloc (Below.refl _ w) (Cb _) o
theorem Ext.size {w w':A2} (h:Ext w w'):w.heap.size<=w'.heap.size:=Below.size h
theorem Ext.block {w w':A2} (h:Ext w w') {k:Nat} (a:k<w.heap.size):w'.heap[k]? =w.heap[k]? :=Below.block h k a
theorem Ext.obj {w w':A2} (h:Ext w w') {k:Nat} {o:Obj} (a:w.heap[k]? =some o):w'.heap[k]? =some o:=by
 rw[h.block (Bp.1 a).1];exact a
theorem F5 {w:A2} {a:Ad} {v:AC} (h:w.cell? a=some v):a.block<w.heap.size:=by
 unfold Jt at h;cases b:w.heap[a.block]? with
 |none=>simp[b] at h
 |some o=>exact(Bp.1 b).1
theorem Ext.cell {w w':A2} (h:Ext w w') {a:Ad} {v:AC} (b:w.cell? a=some v):w'.cell? a=some v:=by
 rw[Below.cell h (F5 b)];exact b
inductive Sc where
 |int (k:B4)|bool|str|ptr|slice|map|chan|func|zF (f:B5) (n:Nat)|WZ
 deriving DecidableEq
@[reducible] def Dj:Nat->Type
 |0=>Unit
 |n+1=>Option Ad×Dj n
def wU:(n:Nat)->Dj n->List AC
 |0, _=>[]
 |n+1,x=> .pointer x.1::wU n x.2
def mM:(n:Nat)->List AC->Option (Dj n)
 |0,[]=>some ()
 |n+1,.pointer a::r=>match mM n r with
  |some y=>some (a,y)
  |none=>none
 | _, _=>none
theorem tu: ∀{n:Nat} {l:List AC} {x:Dj n},mM n l=some x->wU n x=l
 |0,[], _, _=>rfl
 |0, _:: _, _,h=>by simp[mM] at h
 |n+1,[], _,h=>by simp[mM] at h
 |n+1,v::r,x,h=>by
  cases v<;>simp only[mM] at h<;>(try (cases h;done));split at h
  ·rename_i y a;cases h;simp only[wU,tu a]
  ·cases h
@[reducible] def Sc.T:Sc->Type
 | .int _=>Int
 | .bool=>Bool
 | .str=>ByteArray
 | .ptr=>Option Ad
 | .slice=>Option Ad×Nat×Nat
 | .map=>Option Nat
 | .chan=>Option Nat
 | .func=>AC
 | .zF _ n=>Dj n
 | .WZ=>Nat
def Sc.gR:(s:Sc)->s.T->AC
 | .int k,n=> .int k n
 | .bool,b=> .bool b
 | .str,s=> .string s
 | .ptr,a=> .pointer a
 | .slice,x=> .slice x.1 x.2.1 x.2.2
 | .map,r=> .map r
 | .chan,r=> .chan r
 | .func,v=>v
 | .zF f n,x=> .func (.func f) #[] ⟨wU n x⟩
 | .WZ,y=> .func (.yield y) #[] #[]
def Sc.proj:(s:Sc)->AC->Option s.T
 | .int k,.int d n=>if k=d then some n else none
 | .bool,.bool b=>some b
 | .str,.string s=>some s
 | .ptr,.pointer a=>some a
 | .slice,.slice a n c=>some (a,n,c)
 | .map,.map r=>some r
 | .chan,.chan r=>some r
 | .func,v=>some v
 | .zF f n,.func (.func f') ⟨[]⟩ ⟨l⟩=>if f=f' then mM n l else none
 | .WZ,.func (.yield y) ⟨[]⟩ ⟨[]⟩=>some y
 | _, _=>none
theorem Sc.fZ {s:Sc} {v:AC} {x:s.T} (h:s.proj v=some x):s.gR x=v:=by
 cases s with
 |zF f n=>
  cases v with
  |func fn first a=>
   obtain⟨b⟩:=first
   obtain⟨c⟩:=a;cases fn<;>cases b<;>simp only[Sc.proj] at h<;>(try (cases h;done));split at h
   ·subst_vars
    simp only[Sc.gR,tu h]
   ·cases h
  | _=>simp[Sc.proj] at h
 |WZ=>
  cases v with
  |func fn first a=>
   obtain⟨b⟩:=first
   obtain⟨c⟩:=a;cases fn<;>cases b<;>cases c<;>simp only[Sc.proj] at h<;>first|(cases h;done)|(cases h;rfl)
  | _=>simp[Sc.proj] at h
 | _=>
   cases v<;>simp only[Sc.proj] at h<;>
    first
     |(cases h;rfl)
     |(split at h<;>cases h;subst_vars;rfl)
     |(cases h)
@[reducible] def kj:List Sc->Type
 |[]=>Unit
 |s::r=>s.T×kj r
def bj:(l:List Sc)->kj l->List AC
 |[], _=>[]
 |s::r,x=>s.gR x.1::bj r x.2
def lT:(l:List Sc)->List AC->Option (kj l)
 |[],[]=>some ()
 |s::r,v::vs=>match s.proj v,lT r vs with
  |some x,some y=>some (x,y)
  | _, _=>none
 | _, _=>none
theorem pA: ∀{l:List Sc} {vs:List AC} {x:kj l},lT l vs=some x->bj l x=vs
 |[],[], _, _=>rfl
 |[], _:: _, _,h=>by simp[lT] at h
 | _:: _,[], _,h=>by simp[lT] at h
 |s::r,v::vs,x,h=>by
  simp only[lT] at h;cases h1:s.proj v with
  |none=>simp[h1] at h
  |some a=>
   cases c:lT r vs with
   |none=>simp[h1,c] at h
   |some b=>
    simp only[h1,c] at h;cases h;simp only[bj,Sc.fZ h1,pA c]
inductive El where
 |one (s:Sc)|agg (l:List Sc)
@[reducible] def El.T:El->Type
 | .one s=>s.T
 | .agg l=>kj l
def El.gR:(e:El)->e.T->AC
 | .one s,x=>s.gR x
 | .agg l,x=> .agg ⟨bj l x⟩
def El.proj:(e:El)->AC->Option e.T
 | .one s,v=>s.proj v
 | .agg l,.agg ⟨vs⟩=>lT l vs
 | .agg _, _=>none
theorem El.fZ {e:El} {v:AC} {x:e.T} (h:e.proj v=some x):e.gR x=v:=by
 cases e with
 |one s=>exact Sc.fZ h
 |agg l=>
  cases v with
  |agg cs=>obtain⟨vs⟩:=cs;exact congrArg (λl=>Value.agg ⟨l⟩) (pA h)
  | _=>simp[El.proj] at h
@[reducible] def oq:List El->Type
 |[]=>Unit
 |e::r=>e.T×oq r
def uC:(l:List El)->oq l->List AC
 |[], _=>[]
 |e::r,x=>e.gR x.1::uC r x.2
def ny:(l:List El)->List AC->Option (oq l)
 |[],[]=>some ()
 |s::r,v::vs=>match s.proj v,ny r vs with
  |some x,some y=>some (x,y)
  | _, _=>none
 | _, _=>none
theorem vz: ∀{l:List El} {vs:List AC} {x:oq l},ny l vs=some x->uC l x=vs
 |[],[], _, _=>rfl
 |[], _:: _, _,h=>by simp[ny] at h
 | _:: _,[], _,h=>by simp[ny] at h
 |s::r,v::vs,x,h=>by
  simp only[ny] at h;cases h1:s.proj v with
  |none=>simp[h1] at h
  |some a=>
   cases c:ny r vs with
   |none=>simp[h1,c] at h
   |some b=>
    simp only[h1,c] at h;cases h;simp only[uC,El.fZ h1,vz c]
inductive Sh where
 |el (e:El)|bu (l:List El)
@[reducible] def Sh.T:Sh->Type
 | .el e=>e.T
 | .bu l=>oq l
def Sh.gR:(s:Sh)->s.T->AC
 | .el e,x=>e.gR x
 | .bu l,x=> .tuple ⟨uC l x⟩
def Sh.proj:(s:Sh)->AC->Option s.T
 | .el e,v=>e.proj v
 | .bu l,.tuple ⟨vs⟩=>ny l vs
 | .bu _, _=>none
theorem Sh.fZ {e:Sh} {v:AC} {x:e.T} (h:e.proj v=some x):e.gR x=v:=by
 cases e with
 |el s=>exact El.fZ h
 |bu l=>
  cases v with
  |tuple cs=>obtain⟨vs⟩:=cs;exact congrArg (λl=>Value.tuple ⟨l⟩) (vz h)
  | _=>simp[Sh.proj] at h
def Ak (P:Av):Nat->Ae->Option (List Sc)
 |0, _=>none
 |d+1,t=>match P.underlying t with
  |some (.int k)=>some [.int k]
  |some .bool=>some [.bool]
  |some .string=>some [.str]
  |some (.pointer _)=>some [.ptr]
  |some (.slice _)=>some [.slice]
  |some (.map _ _)=>some [.map]
  |some (.chan _ _)=>some [.chan]
  |some (.func _ _ _)=>some [.func]
  |some (.struct fs)=>fs.toList.foldr (λf c=>match Ak P d f.type,c with|some a,some b=>some (a++b)| _, _=>none) (some [])
  |some (.array n e)=>match Ak P d e with
   |some a=>if n<=64 then some (List.replicate n a).flatten else none
   |none=>none
  | _=>none
def um (P:Av) (t:Ae):Option El:=
 match P.underlying t with
 |some (.struct _)|some (.array _ _)=>(Ak P 20 t).map .agg
 | _=>match Ak P 20 t with
   |some [s]=>some (.one s)
   | _=>none
def Wn (P:Av):List Ae->Option (List El)
 |[]=>some []
 |t::r=>match um P t,Wn P r with
  |some e,some l=>some (e::l)
  | _, _=>none
def aaI (P:Av) (f:B5):Sh:=
 match P.funcs[f]? with
 |some fn=>match fn.resultTypes.toList with
  |[t]=>match um P t with
   |some e=> .el e
   |none=> .bu []
  |ts=>match Wn P ts with
   |some l=> .bu l
   |none=> .bu []
 |none=> .bu []
def aB (k:B4) (x y:Int):Int:=k.wrap (x+y)
def aY (k:B4) (x y:Int):Int:=k.wrap (x - y)
def ir (k:B4) (x y:Int):Int:=k.wrap (x*y)
def wD (k:B4) (x y:Int):Int:=k.wrap (x.tdiv y)
def bH (x y:Int):Int:=x.tmod y
def wE (k:B4) (x y:Int):Int:=k.wrap (Bv k.bits x &&& Bv k.bits y).toNat
def ZC (k:B4) (x y:Int):Int:=k.wrap (Bv k.bits x ||| Bv k.bits y).toNat
def aaa (k:B4) (x y:Int):Int:=k.wrap (Bv k.bits x ^^^ Bv k.bits y).toNat
def gD (k:B4) (x y:Int):Int:=k.wrap (Bv k.bits x &&& ~~~ (Bv k.bits y)).toNat
def C4 (k:B4) (x y:Int):Int:=k.wrap (x*2 ^ (min y.toNat k.bits))
def JG (k:B4) (x y:Int):Int:=x.fdiv (2 ^ (min y.toNat k.bits))
def aw (k:B4) (x:Int):Int:=k.wrap x
def aab (k:B4) (x:Int):Int:=k.wrap (Bv k.bits (if k.signed then -1 else k.max) ^^^ Bv k.bits x).toNat
def kl (x y:Int):Int:=if y<x then y else x
def C5 (x y:Int):Int:=if y>x then y else x
structure PR where
 ob:Option Prop
 v:AC
def pf:Operand->Bool
 | .const (.int _ n)=>decide (n≠0)
 | _=>false
def pQ:Operand->Bool
 | .const (.int _ n)=>decide (0<=n)
 | _=>false
def km:Operand->Bool
 | .const (.pointer none)| .const (.slice none _ _)| .const (.map none)| .const .nilFunc=>true
 | _=>false
def Oc (op:BinOp) (k:B4) (x y:Int) (a:Operand):Option PR:=
 match op with
 | .add=>some ⟨none,.int k (aB k x y)⟩
 | .sub=>some ⟨none,.int k (aY k x y)⟩
 | .mul=>some ⟨none,.int k (ir k x y)⟩
 | .quo=>some ⟨if pf a then none else some (y≠0),.int k (wD k x y)⟩
 | .rem=>some ⟨if pf a then none else some (y≠0),.int k (bH x y)⟩
 | .and=>some ⟨none,.int k (wE k x y)⟩
 | .or=>some ⟨none,.int k (ZC k x y)⟩
 | .xor=>some ⟨none,.int k (aaa k x y)⟩
 | .andNot=>some ⟨none,.int k (gD k x y)⟩
 | .eql=>some ⟨none,.bool (x==y)⟩
 | .neq=>some ⟨none,.bool (x != y)⟩
 | .lss=>some ⟨none,.bool (decide (x<y))⟩
 | .leq=>some ⟨none,.bool (decide (x<=y))⟩
 | .gtr=>some ⟨none,.bool (decide (x>y))⟩
 | .geq=>some ⟨none,.bool (decide (x>=y))⟩
 | _=>none
def jZ (P:Av) (t:Ae):Option Bool:=
 match P.underlying t with
 |some (.struct _)|some (.array _ _)=>some true
 |some _=>some false
 |none=>none
def qF (P:Av) (t:Ae) (cs:List AC) (off:Nat):Option AC:=
 match jZ P t,P.info? t with
 |some true,some i=>some (.agg ⟨(cs.drop off).take i.size⟩)
 |some false, _=>cs[off]?
 | _, _=>none
def Nh (P:Av) (g:Ae->AC->AC->Option Bool) (xs ys:List AC):List Field->Option Bool
 |[]=>some true
 |f::fs=>if f.name≠ "_" then
   match qF P f.type xs f.offset,qF P f.type ys f.offset with
   |some a,some b=>match g f.type a b,Nh P g xs ys fs with
    |some r,some s=>some (r&&s)
    | _, _=>none
   | _, _=>none
  else Nh P g xs ys fs
def eqV (P:Av):Nat->Ae->AC->AC->Option Bool
 |0, _, _, _=>none
 |d+1,t,x,y=>
  match P.underlying t with
  |some .bool=>match x,y with
   | .bool a,.bool b=>some (a==b)
   | _, _=>none
  |some (.int _)=>match x,y with
   | .int k a,.int c b=>if k=c then some (a==b) else none
   | _, _=>none
  |some .string=>match x,y with
   | .string a,.string b=>some (a==b)
   | _, _=>none
  |some (.struct fs)=>match x,y with
   | .agg ⟨xs⟩,.agg ⟨ys⟩=>if P.stoodInHeld t then none else Nh P (eqV P d) xs ys fs.toList
   | _, _=>none
  | _=>none
def XM (P:Av) (op:BinOp) (t:Ae) (d c:Operand) (x y:AC):Option PR:=
 match x,y with
 | .int k a,.int e b=>
   match op with
   | .shl=>some ⟨if pQ c then none else some (0<=b),.int k (C4 k a b)⟩
   | .shr=>some ⟨if pQ c then none else some (0<=b),.int k (JG k a b)⟩
   |op=>if k=e then Oc op k a b c else none
 | .bool a,.bool b=>
   match op,P.underlying t with
   | .eql,some .bool=>some ⟨none,.bool (a==b)⟩
   | .neq,some .bool=>some ⟨none,.bool (!(a==b))⟩
   | _, _=>none
 | .pointer p,.pointer q=>
   match op,P.underlying t with
   | .eql,some (.pointer _)=>if km c then some ⟨none,.bool p.isNone⟩ else if km d then some ⟨none,.bool q.isNone⟩ else none
   | .neq,some (.pointer _)=>if km c then some ⟨none,.bool (!p.isNone)⟩ else if km d then some ⟨none,.bool (!q.isNone)⟩ else none
   | _, _=>none
 | .slice p _ _,.slice q _ _=>
   match op,P.underlying t with
   | .eql,some (.slice _)=>if km c then some ⟨none,.bool p.isNone⟩ else if km d then some ⟨none,.bool q.isNone⟩ else none
   | .neq,some (.slice _)=>if km c then some ⟨none,.bool (!p.isNone)⟩ else if km d then some ⟨none,.bool (!q.isNone)⟩ else none
   | _, _=>none
 | .map p,.map q=>
   match op,P.underlying t with
   | .eql,some (.map _ _)=>if km c then some ⟨none,.bool p.isNone⟩ else if km d then some ⟨none,.bool q.isNone⟩ else none
   | .neq,some (.map _ _)=>if km c then some ⟨none,.bool (!p.isNone)⟩ else if km d then some ⟨none,.bool (!q.isNone)⟩ else none
   | _, _=>none
 | .string a,.string b=>
   match op with
   | .eql=>some ⟨none,.bool (a==b)⟩
   | .neq=>some ⟨none,.bool (!(a==b))⟩
   | _=>none
 | .agg xs,.agg ys=>
   if P.eqGuardType P.depth t then none else
   match op,eqV P Op.maxDepth t (.agg xs) (.agg ys) with
   | .eql,some r=>some ⟨none,.bool r⟩
   | .neq,some r=>some ⟨none,.bool (!r)⟩
   | _, _=>none
 | _, _=>none
def unV (op:UnOp) (x:AC):Option PR:=
 match op,x with
 | .not,.bool b=>some ⟨none,.bool (!b)⟩
 | .neg,.int k n=>some ⟨none,.int k (aY k 0 n)⟩
 | .xor,.int k n=>some ⟨none,.int k (aab k n)⟩
 | _, _=>none
def Wo (P:Av) (src dst:Ae) (x:AC):Option PR:=
 match P.underlying src,P.underlying dst,x with
 |some _,some (.int k),.int _ n=>some ⟨none,.int k (aw k n)⟩
 |some .string,some .string,.string s=>some ⟨none,.string s⟩
 | _, _, _=>none
def wV (P:Av) (t:Ae) (i:Nat):Option Field:=
 match P.underlying t with
 |some (.struct fs)=>fs[i]?
 | _=>none
def maps (ρ:Operand->Option AC):List Operand->Option (List AC)
 |[]=>some []
 |x::r=>match ρ x,maps ρ r with
  |some v,some l=>some (v::l)
  | _, _=>none
def Al (ρ:Operand->Option AC):List (Nat×Operand)->Option (List (Nat×AC))
 |[]=>some []
 |(i,x)::r=>match ρ x,Al ρ r with
  |some v,some l=>some ((i,v)::l)
  | _, _=>none
def ad (p:Option Ad) (n:Nat):Option Ad:=p.map (·.add n)
def BT:List AC->B4->Option (List Int)
 |[], _=>some []
 | .int a n::r,k=>if k=a then(match BT r k with|some l=>some (n::l)|none=>none) else none
 | _, _=>none
def JH (l:List Int) (i:Int):Int:=l.getD i.toNat 0
def XN (l:List AC) (i:Int):AC:=l.getD i.toNat undef
def eZ (a:Nat->Option (Nat×Nat)) (cells:List AC):List (Nat×AC)->Option (List AC)
 |[]=>some cells
 |(i,v)::rest=>match a i with
  |none=>none
  |some (off,size)=>
   if(Nat.beq v.cells.toList.length size&&Nat.ble (off+size) cells.length)=true then eZ a (cells.take off++(v.cells.toList++cells.drop (off+size))) rest else none
def Am (a:Nat->Option (Nat×Nat)) (cells:Array AC) (ps:List (Nat×AC)):Option (Array AC):=
 match eZ a cells.toList ps with
 |some l=>some ⟨l⟩
 |none=>none
theorem Dx: ∀(vs:List AC) (k off:Nat) (cs:List AC),off+k+vs.length<=cs.length->
 (vs.zipIdx k).foldl (λ(cs:Array AC) (x:AC×Nat)=>cs.setIfInBounds (off+x.2) x.1) ⟨cs⟩=⟨cs.take (off+k)++(vs++cs.drop (off+k+vs.length))⟩
 |[],k,off,cs,h=>by simp
 |v::vs,k,off,cs,h=>by
  simp only[M7] at h;simp;rw[Dx vs (k+1) off (cs.set (off+k) v) (by simp;omega)];congr 1
  grind[MO,MQ,MV]
theorem Dy (a:Nat->Option (Nat×Nat)): ∀(ps:List (Nat×AC)) (cells r:List AC),eZ a cells ps=some r->HB a ⟨cells⟩ ps=some ⟨r⟩
 |[],cells,r,h=>by cases h;rfl
 |(i,v)::rest,cells,r,h=>by
  unfold eZ at h;unfold HB;split at h
  ·cases h
  ·rename_i off size b;split at h
   ·rename_i hc;simp only[BN,Nat.beq_eq,Nat.ble_eq] at hc;obtain⟨h1,e⟩:=hc;have c:v.cells.size=size:=by simpa using h1
    have d: ¬ ((decide (v.cells.size≠size)||decide (off+v.cells.size>(JC cells).size))=true):=by
     simp[c];omega
    simp only[b,d];have:=Dx v.cells.toList 0 off cells (by simp only[h1];omega);have f:v.cells.zipIdx=⟨v.cells.toList.zipIdx 0⟩:=by
     apply JD;simp
    have g:v.cells.zipIdx.foldl (λ(cs:Array AC) (x:AC×Nat)=>cs.setIfInBounds (off+x.2) x.1) ⟨cells⟩=⟨cells.take off++(v.cells.toList++cells.drop (off+size))⟩:=by
     grind
    refine Eq.trans ?_ (Dy a rest _ r h)
    grind
   ·cases h
theorem yq {a:Nat->Option (Nat×Nat)} {cells:Array AC} {ps:List (Nat×AC)} {cs:Array AC} (h:Am a cells ps=some cs):HB a cells ps=some cs:=by
 unfold Am at h;split at h
 ·rename_i l b;cases h;exact Dy a ps _ l b
 grind
def FG (P:Av) (t:Ae) (parts:List (Nat×AC)):Option (Array AC):=
 match P.info? t with
 |some i=>match i.zero with
  |some z=>match P.underlying t with
   |some (.struct fs)=>if fs.toList.all (λf=>(P.info? f.type).isSome) then Am ((fs.toList.map λf=>(f.offset,P.cellsOf f.type))[·]?) z.cells parts else none
   |some (.array _ e)=>match P.info? e with
    |some a=>Am (λi=>some (i*a.size,a.size)) z.cells parts
    |none=>none
   | _=>none
  |none=>none
 |none=>none
def Wp (s:ByteArray) (i:Int):Int:=(((s.data.toList)[i.toNat]?.getD 0).toNat:Int)
def iv (ρ:Operand->Option AC) (d:Nat):Option Operand->Option (Int)
 |none=>some d
 |some x=>match ρ x with
  |some (.int _ n)=>some n
  | _=>none
def pop (P:Av) (ρ:Operand->Option AC) (o:Oper):Option PR:=
 match o.op with
 | .move x=>match ρ x with
   |some v=>some ⟨none,v⟩
   |none=>none
 | .assign x=>match ρ x with
   |some v=>some ⟨none,v⟩
   |none=>none
 | .nilCheck x=>match ρ x with
   |some (.pointer p)=>some ⟨some (p.isSome=true),.pointer p⟩
   |some (.func (.func f) fs cs)=>some ⟨none,.func (.func f) fs cs⟩
   | _=>none
 | .binOp op t x y _=>match ρ x,ρ y with
   |some a,some b=>XM P op t x y a b
   | _, _=>none
 | .unOp op _ x=>match ρ x with
   |some a=>unV op a
   |none=>none
 | .convert s d x=>match ρ x with
   |some a=>Wo P s d a
   |none=>none
 | .fieldAddr s x f=>match ρ x,wV P s f with
   |some (.pointer p),some fd=>match P.info? fd.type with
    |some i=>if i.size=0 then none else some ⟨some (p.isSome=true),.pointer (ad p fd.offset)⟩
    |none=>none
   | _, _=>none
 | .field t x f=>match ρ x,wV P t f with
   |some (.agg ⟨cs⟩),some fd=>match qF P fd.type cs fd.offset with
    |some v=>some ⟨none,v⟩
    |none=>none
   | _, _=>none
 | .indexAddr t x ix=>match P.underlying t,ρ x,ρ ix with
   |some (.array len e),some (.pointer p),some (.int _ i)=>match P.info? e with
    |some g=>if len<=1 then none else some ⟨some (p.isSome=true/\0<=i/\i<len),.pointer (ad p (i.toNat*g.size))⟩
    |none=>none
   |some (.slice e),some (.slice p len _),some (.int _ i)=>match P.info? e with
    |some g=>some ⟨some (p.isSome=true/\0<=i/\i<len),.pointer (ad p (i.toNat*g.size))⟩
    |none=>none
   | _, _, _=>none
 | .index t x ix=>match P.underlying t,ρ x,ρ ix with
   |some (.array len e),some (.agg ⟨cs⟩),some (.int _ i)=>match P.info? e with
    |some g=>match ix with
     | .const (.int _ n)=>if 0<=n/\n<len then(match qF P e cs (n.toNat*g.size) with
      |some v=>some ⟨none,v⟩
      |none=>none) else none
     | _=>match P.underlying e with
       |some (.int k)=>match BT cs k with
        |some j=>if cs.length=len/\g.size=1 then some ⟨some (0<=i/\i<len),.int k (JH j i)⟩ else none
        |none=>none
       |some (.struct _)=>if cs.length=len/\g.size=1 then some ⟨some (0<=i/\i<len),.agg ⟨[XN cs i]⟩⟩ else none
       | _=>none
    |none=>none
   |some .string,some (.string s),some (.int _ i)=>some ⟨some (0<=i/\i<s.size),.int .u8 (Wp s i)⟩
   | _, _, _=>none
 | .makeFunc fn first q=>match maps ρ first.toList,maps ρ q.toList with
   |some a,some b=>some ⟨none,.func fn ⟨a⟩ ⟨b⟩⟩
   | _, _=>none
 | .extract x i=>match ρ x with
   |some (.tuple ⟨vs⟩)=>match vs[i]? with
    |some v=>some ⟨none,v⟩
    |none=>none
   | _=>none
 | .build t parts=>match Al ρ parts.toList with
   |some ps=>match FG P t ps with
    |some cs=>some ⟨none,.agg cs⟩
    |none=>none
   |none=>none
 | .slice t x lo hi mx=>match P.underlying t,ρ x with
   |some (.slice e),some (.slice p len cap)=>match P.info? e,iv ρ 0 lo,iv ρ len hi,iv ρ cap mx with
    |some g,some l,some h,some m=>if hi.isNone&&mx.isSome then none else
     some ⟨some (0<=l/\l<=h/\h<=m/\m<=cap),.slice (if m.toNat=l.toNat then p else ad p (l.toNat*g.size)) (h.toNat - l.toNat) (m.toNat - l.toNat)⟩
    | _, _, _, _=>none
   |some .string,some (.string s)=>match iv ρ 0 lo,iv ρ s.size hi with
    |some l,some h=>if mx.isSome then none else some ⟨some (0<=l/\l<=h/\h<=s.size),.string (s.extract l.toNat h.toNat)⟩
    | _, _=>none
   | _, _=>none
 | .call c=>match c.callee with
   | .builtin .len=>match c.args.toList,c.argTypes.toList with
     |[x],[t]=>match ρ x,P.underlying t with
      |some (.slice _ n _),some (.slice _)=>some ⟨none,.int .i64 n⟩
      |some (.string s),some .string=>some ⟨none,.int .i64 s.size⟩
      |some (.agg _),some (.array n _)=>some ⟨none,.int .i64 n⟩
      | _, _=>none
     | _, _=>none
   | .builtin .min=>match c.args.toList with
     |[x,y]=>match ρ x,ρ y with
      |some (.int k a),some (.int _ b)=>some ⟨none,.int k (kl a b)⟩
      | _, _=>none
     | _=>none
   | .builtin .max=>match c.args.toList with
     |[x,y]=>match ρ x,ρ y with
      |some (.int k a),some (.int _ b)=>some ⟨none,.int k (C5 a b)⟩
      | _, _=>none
     | _=>none
   | _=>none
 | _=>none
section
variable {P:Av}
theorem bz {t:Ae} {d:TypeDesc} (h:P.underlying t=some d) (w:A2):(underlying t).run P w= .ok d w:=run_underlying h w
theorem ft {t:Ae} {i:TypeInfo} (h:P.info? t=some i) (w:A2):(typeInfo t).run P w= .ok i w:=by
 unfold typeInfo;simp[h]
theorem dk {t:Ae} {i:TypeInfo} (h:P.info? t=some i) (w:A2):(sizeOf t).run P w= .ok i.size w:=by
 unfold sizeOf;simp[ft h]
theorem uJ {t:Ae} {b:Bool} (h:jZ P t=some b) (w:A2):(isAgg t).run P w= .ok b w:=by
 unfold jZ at h;unfold isAgg;cases a:P.underlying t with
 |none=>grind
 |some d=>cases d<;>simp_all [bz]
theorem kG {t:Ae} {cs:List AC} {off:Nat} {v:AC} (h:qF P t cs off=some v) (w:A2):(part t ⟨cs⟩ off).run P w= .ok v w:=by
 unfold qF at h;unfold part;cases hb:jZ P t with
 |none=>grind
 |some b=>
  simp[uJ hb];cases b with
  |true=>
   cases hi:P.info? t with
   |none
   |some i=>
    simp_all[dk]
  |false=>
   simp_all
theorem Ib: ∀(d:Nat) (t:Ae) (x y:AC) (r:Bool),eqV P d t x y=some r-> ∀w,(BL d t x y).run P w= .ok r w:=by
 intro d
 induction d with
 |zero=>intro t x y r h;simp[eqV] at h
 |succ d j=>
  intro t x y r h w;unfold eqV at h;split at h
  ·rename_i c;split at h
   ·cases h;simp[BL,bz c]
   ·cases h
  ·rename_i k0 c;split at h
   ·split at h
    ·cases h;subst_vars;simp[BL,bz c]
    ·cases h
   ·cases h
  ·rename_i c;split at h
   ·cases h;simp[BL,bz c]
   ·cases h
  ·rename_i fs c;split at h
   ·rename_i xs ys;split at h
    ·cases h
    ·rename_i k;have e:P.fieldsOf t=fs:=by simp[Program.fieldsOf,c]
     rw[run_equalIn_struct w d t ⟨xs⟩ ⟨ys⟩ (by rw[e];exact c) (by simpa using k),e];clear c e;generalize fs.toList=l at h
     induction l generalizing r with
     |nil=>simp only[Nh,C6] at h;subst h;simp[Op.eqFields]
     |cons f l i=>
      simp only[Nh] at h;unfold Op.eqFields;split
      ·rename_i g;rw[if_pos g] at h;split at h
       ·rename_i a b m hb;split at h
        ·rename_i n p h1 o;cases h;simp only[B1,kG m,kG hb,B2,j _ _ _ _ h1];cases n
         ·simp
         ·simp[i _ o]
        ·cases h
       ·cases h
      ·rename_i g;rw[if_neg g] at h;exact i _ h
   ·cases h
  ·cases h
end
section
variable {P:Av} {ρ:Operand->Option AC} {ev:Operand->AC}
theorem lU (a: ∀x v,ρ x=some v->ev x=v): ∀{l:List Operand} {vs:List AC},maps ρ l=some vs->l.map ev=vs
 |[],vs,h=>by grind[maps]
 |x::r,vs,h=>by
  simp[maps] at h;split at h
  ·rename_i h1 b;cases h;simp[a _ _ h1,lU a b]
  grind
theorem yr (a: ∀x v,ρ x=some v->ev x=v): ∀{l:List (Nat×Operand)} {vs:List (Nat×AC)},Al ρ l=some vs->(l.map λ(i,x)=>(i,ev x))=vs
 |[],vs,h=>by grind[Al]
 |i::r,vs,h=>by
  simp[Al] at h;split at h
  ·rename_i b;have:=yr a b
   grind
  grind
theorem wO (op:BinOp) (t:Ae) (x y:Operand) (k c:B4) (a b:Int) (w:A2):(eqGuard op t x y (.int k a) (.int c b)).run P w= .ok () w:=by
 unfold eqGuard;simp
theorem Ay {t:Ae} (c:P.underlying t=some .bool) (d:Nat) (a b:Bool) (w:A2):(BL (d+1) t (.bool a) (.bool b)).run P w= .ok (a==b) w:=by
 simp[BL,bz c]
theorem rL {t e:Ae} (a:P.underlying t=some (.pointer e)) (d:Nat) (p:Option Ad) (w:A2):(BL (d+1) t (.pointer p) (.pointer none)).run P w= .ok p.isNone w:=by
 cases p<;>simp[BL,bz a]
theorem nM {t e:Ae} (a:P.underlying t=some (.pointer e)) (d:Nat) (p:Option Ad) (w:A2):(BL (d+1) t (.pointer none) (.pointer p)).run P w= .ok p.isNone w:=by
 cases p<;>simp[BL,bz a]
theorem tw {t e:Ae} (a:P.underlying t=some (.slice e)) (d:Nat) (p:Option Ad) (n c b f:Nat) (w:A2):(BL (d+1) t (.slice p n c) (.slice none b f)).run P w= .ok p.isNone w:=by
 cases p<;>simp[BL,bz a]
theorem tx {t e:Ae} (a:P.underlying t=some (.slice e)) (d:Nat) (p:Option Ad) (n c b f:Nat) (w:A2):(BL (d+1) t (.slice none b f) (.slice p n c)).run P w= .ok p.isNone w:=by
 cases p<;>simp[BL,bz a]
theorem yV {t k e:Ae} (a:P.underlying t=some (.map k e)) (d:Nat) (p:Option Nat) (w:A2):(BL (d+1) t (.map p) (.map none)).run P w= .ok p.isNone w:=by
 cases p<;>simp[BL,bz a]
theorem yW {t k e:Ae} (a:P.underlying t=some (.map k e)) (d:Nat) (p:Option Nat) (w:A2):(BL (d+1) t (.map none) (.map p)).run P w= .ok p.isNone w:=by
 cases p<;>simp[BL,bz a]
theorem d_ {t:Ae} {x y:AC} {r:Bool} {w:A2} (h: ∀d,(BL (d+1) t x y).run P w= .ok r w):(Op.equal t x y).run P w= .ok r w:=h _
theorem TD {op:BinOp} {t:Ae} {i e:Operand} {x y:AC} {l:PR} (j: ∀v,e= .const v->y=v) (m: ∀v,i= .const v->x=v)
 (h:XM P op t i e x y=some l) (o: ∀p,l.ob=some p->p) (w:A2):
 (do eqGuard op t i e x y;binOp op t x y).run P w= .ok l.v w:=by
 unfold XM at h;split at h
 ·
  rename_i k a F b;simp only[B1,wO,B2];have B:pf e=true->b≠0:=by
   intro hc;unfold pf at hc;split at hc
   ·rename_i C n;have:=j _ rfl;cases this;simpa using hc
   ·cases hc
  have z:pQ e=true->0<=b:=by
   intro hc;unfold pQ at hc;split at hc
   ·rename_i C n;have:=j _ rfl;cases this;simpa using hc
   ·cases hc
  split at h
  ·cases h;have h0:0<=b:=by
    by_cases hc:pQ e=true
    ·exact z hc
    ·exact o (0<=b) (by simp[hc])
   simp[binOp,Op.shift,C4,Int.not_lt.2 h0]
  ·cases h;have h0:0<=b:=by
    by_cases hc:pQ e=true
    ·exact z hc
    ·exact o (0<=b) (by simp[hc])
   simp[binOp,Op.shift,JG,Int.not_lt.2 h0]
  ·rename_i G H;split at h
   ·subst_vars
    cases op<;>simp only[Oc] at h<;>(try cases h)<;>
     first
      |(simp[binOp,Op.intArith,aB,aY,ir];done)
      |(simp[binOp,Op.intBits,wE,ZC,aaa,gD];done)
      |(simp[binOp,Op.intCmp];done)
      |(have h0:b≠0:=by
         by_cases hc:pf e=true
         ·exact B hc
         ·exact o (b≠0) (by simp[hc])
        simp[binOp,Op.intDiv,h0,wD,bH])
   ·cases h
 ·
  rename_i a b;split at h
  ·rename_i c;cases h;simp[eqGuard,binOp,d_ λd=>Ay c d a b w]
  ·rename_i c;cases h;simp[eqGuard,binOp,d_ λd=>Ay c d a b w]
  ·cases h
 ·
  rename_i p q;have f:km e=true->q=none:=by
   intro hc;unfold km at hc;split at hc<;>first|(have:=j _ rfl;cases this<;>rfl)|(cases hc)
  have g:km i=true->p=none:=by
   intro hc;unfold km at hc;split at hc<;>first|(have:=m _ rfl;cases this<;>rfl)|(cases hc)
  split at h
  ·rename_i c;split at h
   ·rename_i hc;cases h;rw[f hc];simp[eqGuard,binOp,d_ λd=>rL c d p w]
   ·split at h
    ·rename_i hc;cases h;rw[g hc];simp[eqGuard,binOp,d_ λd=>nM c d q w]
    ·cases h
  ·rename_i c;split at h
   ·rename_i hc;cases h;rw[f hc];simp[eqGuard,binOp,d_ λd=>rL c d p w]
   ·split at h
    ·rename_i hc;cases h;rw[g hc];simp[eqGuard,binOp,d_ λd=>nM c d q w]
    ·cases h
  ·cases h
 ·
  rename_i p _ _ q _ _;have f:km e=true->q=none:=by
   intro hc;unfold km at hc;split at hc<;>first|(have:=j _ rfl;cases this<;>rfl)|(cases hc)
  have g:km i=true->p=none:=by
   intro hc;unfold km at hc;split at hc<;>first|(have:=m _ rfl;cases this<;>rfl)|(cases hc)
  split at h
  ·rename_i c;split at h
   ·rename_i hc;cases h;rw[f hc];simp[eqGuard,binOp,d_ λd=>tw c d p _ _ _ _ w]
   ·split at h
    ·rename_i hc;cases h;rw[g hc];simp[eqGuard,binOp,d_ λd=>tx c d q _ _ _ _ w]
    ·cases h
  ·rename_i c;split at h
   ·rename_i hc;cases h;rw[f hc];simp[eqGuard,binOp,d_ λd=>tw c d p _ _ _ _ w]
   ·split at h
    ·rename_i hc;cases h;rw[g hc];simp[eqGuard,binOp,d_ λd=>tx c d q _ _ _ _ w]
    ·cases h
  ·cases h
 ·
  rename_i p q;have f:km e=true->q=none:=by
   intro hc;unfold km at hc;split at hc<;>first|(have:=j _ rfl;cases this<;>rfl)|(cases hc)
  have g:km i=true->p=none:=by
   intro hc;unfold km at hc;split at hc<;>first|(have:=m _ rfl;cases this<;>rfl)|(cases hc)
  split at h
  ·rename_i c;split at h
   ·rename_i hc;cases h;rw[f hc];simp[eqGuard,binOp,d_ λd=>yV c d p w]
   ·split at h
    ·rename_i hc;cases h;rw[g hc];simp[eqGuard,binOp,d_ λd=>yW c d q w]
    ·cases h
  ·rename_i c;split at h
   ·rename_i hc;cases h;rw[f hc];simp[eqGuard,binOp,d_ λd=>yV c d p w]
   ·split at h
    ·rename_i hc;cases h;rw[g hc];simp[eqGuard,binOp,d_ λd=>yW c d q w]
    ·cases h
  ·cases h
 ·
  rename_i a b;split at h
  ·cases h;simp[eqGuard,binOp,Op.stringOp,beq_toListBytes]
  ·cases h;simp[eqGuard,binOp,Op.stringOp,beq_toListBytes]
  ·cases h
 ·
  rename_i xs ys;split at h
  ·cases h
  ·rename_i D;have E:P.eqGuardType P.depth t=false:=by simpa using D
   have A: ∀op:BinOp,(eqGuard op t i e (.agg xs) (.agg ys)).run P w= .ok () w:=by
    intro op;unfold eqGuard;cases op<;>simp[E]
   split at h
   ·rename_i r s;cases h;simp only[B1,A,B2];have u:(Op.equal t (.agg xs) (.agg ys)).run P w= .ok r w:=Ib (P:=P) _ _ _ _ _ s w;simp[binOp,u]
   ·rename_i r s;cases h;simp only[B1,A,B2];have u:(Op.equal t (.agg xs) (.agg ys)).run P w= .ok r w:=Ib (P:=P) _ _ _ _ _ s w;simp[binOp,u]
   ·cases h
 ·cases h
end
section
variable {P:Av} {ρ:Operand->Option AC} {ev:Operand->AC}
theorem yX: ∀{cs:List AC} {k:B4} {a:List Int},BT cs k=some a-> ∀i,i<cs.length->cs[i]? =some (.int k (a.getD i 0))
 |c::cs,k,a,h,i,hi=>by
  unfold BT at h;split at h
  grind
  ·rename_i e n r f b;cases b;split at h
   ·subst_vars
    split at h
    ·rename_i l d;cases h;cases i with
     |zero=>simp
     |succ i=>simpa using yX d i (by grind)
    grind
   ·cases h
  ·cases h
theorem vA {t:Ae} {f:Nat} {fd:Field} (a:wV P t f=some fd): ∃fs,P.underlying t=some (.struct fs)/\fs[f]? =some fd:=by
 grind[wV]
theorem Ex {t e:Ae} {a:TypeInfo} (p:Ad) (k:B4) (i:Int) (len:Nat) (c: ¬ len<=1) (b:P.underlying t=some (.array len e)) (hi:P.info? e=some a) (h0:0<=i) (h1:i<len) (w:A2):
 (HE t (.pointer (some p)) (.int k i)).run P w= .ok (.pointer (some (p.add (i.toNat*a.size)))) w:=by
 simp[HE,asIntOf,HG,bz b,dk hi,h0,h1]
theorem run_indexAt_slice {t e:Ae} {a:TypeInfo} (p:Ad) (k:B4) (i:Int) (len cap:Nat) (b:P.underlying t=some (.slice e)) (hi:P.info? e=some a) (h0:0<=i) (h1:i<len) (w:A2):
 (HE t (.slice (some p) len cap) (.int k i)).run P w= .ok (.pointer (some (p.add (i.toNat*a.size)))) w:=by
 simp[HE,asIntOf,bz b,dk hi,h0,h1]
theorem e_ {α:Type} {p:Option α} (h:p.isSome=true): ∃a,p=some a:=Option.isSome_iff_exists.1 h
theorem kH (a: ∀x v,ρ x=some v->ev x=v) {d:Nat} {x:Operand} {n:Int} (h:iv ρ d (some x)=some n): ∃k,ev x= .int k n:=by grind[iv]
theorem run_sliceBound (k:B4) (n:Int) (y:Nat) (c:BoundsCode) (h0:0<=n) (h1:n<=y) (w:A2):(Nu (.int k n) y c).run P w= .ok n.toNat w:=by
 simp[Nu,asIntOf,h0,h1]
theorem n_ (b: ∀x v,ρ x=some v->ev x=v) {ZE:Bool} {len cap:Nat} {lo hi mx:Option Operand} {l h m:Int}
 (a:iv ρ 0 lo=some l) (c:iv ρ len hi=some h) (g:iv ρ cap mx=some m) (n: ¬ (hi.isNone=true/\mx.isSome=true))
 (h0:0<=l) (h1:l<=h) (o:h<=m) (p:m<=cap) (w:A2):
 (Ny ZE len cap (lo.map ev) (hi.map ev) (mx.map ev)).run P w= .ok (l.toNat,h.toNat,m.toNat) w:=by
 unfold Ny;have a1:h<=((m.toNat:Nat):Int):=by omega
 have q:l<=((h.toNat:Nat):Int):=by omega
 have i:0<=h:=by omega
 have r:0<=m:=by omega
 cases mx with
 |none=>
  simp only[iv,C6] at g;subst g;have j:h<=(cap:Int):=o;cases hi with
  |none=>
   simp only[iv,C6] at c;subst c;cases lo with
   |none=>simp only[iv,C6] at a;subst a;simp
   |some x=>obtain⟨k,d⟩:=kH b a;simp[d,run_sliceBound k l len _ h0 h1]
  |some y=>
   obtain⟨e,f⟩:=kH b c;cases lo with
   |none=>simp only[iv,C6] at a;subst a;cases ZE<;>simp[f,run_sliceBound e h cap _ i j]
   |some x=>obtain⟨k,d⟩:=kH b a;cases ZE<;>simp[d,f,run_sliceBound e h cap _ i j,run_sliceBound k l h.toNat _ h0 q]
 |some z=>
  obtain⟨s,t⟩:=kH b g;cases hi with
  |none=>simp at n
  |some y=>
   obtain⟨e,f⟩:=kH b c;cases lo with
   |none=>simp only[iv,C6] at a;subst a;cases ZE<;>simp[f,t,run_sliceBound s m cap _ r p,run_sliceBound e h m.toNat _ i a1]
   |some x=>obtain⟨k,d⟩:=kH b a;simp_all[run_sliceBound]
theorem O9 {s:ByteArray} {i:Int} (h0:0<=i) (h1:i<s.size):s[i.toNat]? =some (s.data[i.toNat]?.getD 0):=by
 simp_all
 rfl
theorem run_places: ∀(l:List Field),(l.all λf=>(P.info? f.type).isSome)=true-> ∀w:A2,
 (l.mapM (m:=Sem) λf=>do pure (f.offset, <-sizeOf f.type)).run P w= .ok (l.map λf=>(f.offset,P.cellsOf f.type)) w
 |[], _,w=>by rfl
 |f::l,h,w=>by
  simp only[Hr,BN] at h;obtain⟨i,hi⟩:=e_ h.1;have a:P.cellsOf f.type=i.size:=by simp[Program.cellsOf,hi]
  have b:=run_places l
  simp_all[dk]
theorem O_ {t:Ae} {parts:Array (Nat×AC)} {ps:List (Nat×AC)} {cs:Array AC} (e:parts.toList=ps) (h:FG P t ps=some cs) (w:A2):
 (Instr.build t parts).run P w= .ok (.agg cs) w:=by
 unfold FG at h;split at h
 ·rename_i i hi;split at h
  ·rename_i z b;unfold Instr.build zeroValue;simp only[B1,ft hi,B2,b,B3];split at h
   ·rename_i fs a;split at h
    ·rename_i c;have f:=run_places (P:=P) fs.toList (by simpa using c) w
     simp_all[JJ,yq,bz]
    ·cases h
   ·rename_i n el a;split at h
    ·rename_i g d;simp only[bz a,B2,B1,dk d,e,yq h];rfl
    ·cases h
   ·cases h
  ·cases h
 ·cases h
theorem Od {o:Oper} {H:PR} (g: ∀x v,ρ x=some v->ev x=v) (hc: ∀v,ev (.const v)=v) (h:pop P ρ o=some H) (u: ∀p,H.ob=some p->p) (w:A2):
 (execOp ev o).run P w= .ok (.value H.v) w:=by
 obtain⟨dst,op,type,pos,after,guard⟩:=o;unfold pop at h;cases op<;>simp only at h<;>(try (cases h;done))<;>unfold execOp<;>simp only
 case move x=>
  split at h
  ·rename_i v hv;cases h;simp[g _ _ hv]
  ·cases h
 case assign x=>
  split at h
  ·rename_i v hv;cases h;simp[g _ _ hv]
  ·cases h
 case build t parts=>
  split at h
  ·rename_i ps S;split at h
   ·rename_i cs fq;cases h;have e:=yr g S;have e':(parts.map λ(i,x)=>(i,ev x)).toList=ps:=by rw[<-e];simp
    simp[O_ e' fq]
   ·cases h
  ·cases h
 case nilCheck x=>
  split at h
  ·rename_i p hv;cases h;obtain⟨a,rfl⟩:=e_ (u _ rfl);simp[g _ _ hv]
  ·rename_i f fs cs hv;cases h;simp[g _ _ hv]
  ·cases h
 case binOp op t x y yt=>
  split at h
  ·rename_i a b r hb;have T:=TD (P:=P) (λv hv=>by rw[<-g _ _ hb,hv,hc]) (λv hv=>by rw[<-g _ _ r,hv,hc]) h u w;simp only[g _ _ r,g _ _ hb];rw[B1,T];rfl
  ·cases h
 case unOp op t x=>
  split at h
  ·rename_i a r;simp only[g _ _ r];unfold unV at h;split at h<;>(try cases h)<;>simp[Op.unary,Op.intArith,Op.intBits,aY,aab]
  ·cases h
 case convert s d x=>
  split at h
  ·rename_i a r;simp only[g _ _ r];unfold Wo at h;split at h
   ·rename_i ds k k' n h1 A;cases h;cases ds<;>simp[convert,bz h1,bz A,Conv.intToInt,aw]
   ·rename_i A I;cases h;simp[convert,bz A,bz I]
   ·cases h
  ·cases h
 case makeFunc fn first Q=>
  split at h
  ·rename_i a b r hb;cases h;have J:=lU g r;have U:=lU g hb;have V:first.map ev=⟨a⟩:=by rw[<-J];cases first;simp
   have W:Q.map ev=⟨b⟩:=by rw[<-U];cases Q;simp
   simp[Instr.makeFunc,V,W]
  ·cases h
 case slice t x lo hi mx=>
  split at h
  ·rename_i e p len cap q j;split at h
   ·rename_i C l X m Y D K Z;split at h
    ·cases h
    ·rename_i R;cases h;obtain⟨h0,h1,A,I⟩:=u _ rfl;have abF: ¬ (hi.isNone=true/\mx.isSome=true):=by simpa using R
     have hb:=n_ (P:=P) (ZE:=true) g D K Z abF h0 h1 A I w;simp only[g _ _ j];simp[O2,bz q,Instr.slice,hb,dk Y,ad]
   ·cases h
  ·rename_i s q j;split at h
   ·rename_i l X D K;split at h
    ·cases h
    ·rename_i R;cases h;obtain⟨h0,h1,A⟩:=u _ rfl;have hmx:mx=none:=by cases mx<;>simp_all
     subst hmx;have hb:=n_ (P:=P) (ZE:=false) (cap:=s.size) (mx:=none) g D K rfl (by simp) h0 h1 A (by simp) w;simp only[Pp] at hb;simp only[g _ _ j];simp[O2,bz q,Instr.slice,hb]
   ·cases h
  ·cases h
 case fieldAddr s x f=>
  split at h
  ·rename_i p fd j L;split at h
   ·rename_i i hi;split at h
    ·cases h
    ·rename_i hz;cases h;obtain⟨a,rfl⟩:=e_ (u _ rfl);obtain⟨fs,q,M⟩:=vA L;simp[Instr.fieldAt,bz q,M,g _ _ j,HG,fieldPlace,dk hi,hz,ad]
   ·cases h
  ·cases h
 case field t x f=>
  split at h
  ·rename_i cs fd j L;split at h
   ·rename_i v hv;cases h;obtain⟨fs,q,M⟩:=vA L;simp[Instr.field,bz q,M,g _ _ j,asAgg,kG hv]
   ·cases h
  ·cases h
 case indexAddr t x ix=>
  split at h
  ·rename_i len e p k i q j z;split at h
   ·rename_i C hi;split at h
    ·cases h
    ·rename_i D;cases h;obtain⟨B,h0,h1⟩:=u _ rfl;obtain⟨a,rfl⟩:=e_ B;simp[g _ _ j,g _ _ z,Ex a k i len D q hi h0 h1,ad]
   ·cases h
  ·rename_i e p len cap k i q j z;split at h
   ·rename_i C hi;cases h;obtain⟨B,h0,h1⟩:=u _ rfl;obtain⟨a,rfl⟩:=e_ B;simp[g _ _ j,g _ _ z,run_indexAt_slice a k i len cap q hi h0 h1,ad]
   ·cases h
  ·cases h
 case index t x ix=>
  split at h
  ·rename_i len e cs k i q j z;split at h
   ·rename_i C hi;split at h
    ·rename_i k2 n;have hn:(Value.int k2 n)= .int k i:=by rw[<-g _ _ z,hc]
     cases hn;split at h
     ·rename_i hb;split at h
      ·rename_i v hv;cases h;simp[HM,asIntOf,bz q,g _ _ j,hc,hb.1,hb.2,dk hi,kG hv]
      ·cases h
     ·cases h
    ·split at h
     ·rename_i k3 N;split at h
      ·rename_i ns hns;split at h
       ·rename_i F;cases h;obtain⟨h0,h1⟩:=u _ rfl;have G:i.toNat<cs.length:=by omega
        have jt:=yX hns i.toNat G;have B:qF P e cs (i.toNat*C.size)=some (.int k3 (JH ns i)):=by
         rw[F.2,Nat.mul_one];unfold qF;have:jZ P e=some false:=by unfold jZ;simp[N]
         simp[this,jt,JH]
        simp[HM,asIntOf,bz q,g _ _ j,g _ _ z,h0,h1,dk hi,kG B]
       ·cases h
      ·cases h
     ·rename_i fs N;split at h
      ·rename_i F;cases h;obtain⟨h0,h1⟩:=u _ rfl;have G:i.toNat<cs.length:=by omega
       have B:qF P e cs (i.toNat*C.size)=some (.agg ⟨[XN cs i]⟩):=by
        rw[F.2,Nat.mul_one];unfold qF;have:jZ P e=some true:=by unfold jZ;simp[N]
        simp only[this,hi,F.2,XN];have J:List.take 1 (List.drop i.toNat cs)=[cs.getD i.toNat undef]:=by
         rw[List.drop_eq_getElem_cons G,List.getD_eq_getElem?_getD,Ht G];rfl
        rw[J]
       simp[HM,asIntOf,bz q,g _ _ j,g _ _ z,h0,h1,dk hi,kG B]
      ·cases h
     ·cases h
   ·cases h
  ·rename_i s k i q j z;cases h;obtain⟨h0,h1⟩:=u _ rfl;have hg:=O9 h0 h1;simp[HM,asIntOf,bz q,g _ _ j,g _ _ z,h0,hg,Wp]
  ·cases h
 case extract x i=>
  split at h
  ·rename_i vs j;split at h
   ·rename_i v hv;cases h;simp[g _ _ j,HZ,hv]
   ·cases h
  ·cases h
 case call c=>
  obtain⟨callee,args,argTypes⟩:=c;simp only at h;split at h
  ·
   split at h
   ·rename_i x t r ht;have E:args= #[x]:=by cases args;simp_all
    have et:argTypes= #[t]:=by cases argTypes;simp_all
    subst E et;split at h<;>(try cases h)
    ·rename_i j q;simp[resolve,invoke,builtin,Ff,g _ _ j,bz q,goInt]
    ·rename_i j q;simp[resolve,invoke,builtin,Ff,g _ _ j,bz q,goInt]
    ·rename_i j q;simp[resolve,invoke,builtin,Ff,g _ _ j,bz q,goInt]
   ·cases h
  ·
   split at h
   ·rename_i x y r;have E:args= #[x,y]:=by cases args;simp_all
    subst E;split at h<;>(try cases h);rename_i j O;simp[resolve,invoke,builtin,Builtin.min_,Builtin.min2,g _ _ j,g _ _ O,kl]
   ·cases h
  ·split at h
   ·rename_i x y r;have E:args= #[x,y]:=by cases args;simp_all
    subst E;split at h<;>(try cases h);rename_i j O;simp[resolve,invoke,builtin,Builtin.max_,Builtin.max2,g _ _ j,g _ _ O,C5]
   ·cases h
  ·cases h
end
structure bF where
 t:Nat
 ch:List (Nat×Bool)
 g:Option Bool
 v:AC
 k:Option Bool
def bY:List bF->Nat->Option bF
 |[], _=>none
 |e::r,t=>if e.t=t then some e else bY r t
structure Entry (P:Av) where
 f:B5
 fn:List AC->Option (Prop×AC)
 ok: ∀args pre v,fn args=some (pre,v)->pre-> ∀w,Calls P f ⟨args⟩ w (λe w'=>e= .returned v/\Ext w w')
structure dj (P:Av) where
 rX:List (Entry P)
 quiet:List B5
 sh:List (B5×Sh)
 mixed:P.follows .mixedOrders=true
 vi:Bool:=false
 cl:List (Ae×Sc):=[]
 ZF:Option Sh:=none
def Oe:List (B5×Sh)->B5->Option Sh
 |[], _=>none
 |(g,s)::r,f=>if g=f then some s else Oe r f
def pL {P:Av} (C:dj P) (f:B5):Sh:=
 match Oe C.sh f with
 |some s=>s
 |none=>aaI P f
def Of:List (Ae×Sc)->Ae->Option Sc
 |[], _=>none
 |(g,s)::r,t=>if g=t then some s else Of r t
def elC {P:Av} (C:dj P) (t:Ae):Option El:=
 match um P t with
 |some (.one .func)=>match Of C.cl t with
  |some s=>some (.one s)
  |none=>some (.one .func)
 |e=>e
def xL {P:Av}:List (Entry P)->B5->Option (Entry P)
 |[], _=>none
 |e::r,f=>if e.f=f then some e else xL r f
def cY (first:Array AC) (a:List AC) (cap:Array AC):List AC:=first.toList++(a++cap.toList)
def bK (P:Av) (a:B5):Bool:=
 match P.funcs[a]? with
 |some fn=>fn.body.isSome&& !(fn.name== "runtime.NumGoroutine")
 |none=>false
def ah (P:Av) (f:B5) (args:List AC) (w:A2) (v:AC):Prop:=
 ∀w',Ext w w'->Calls P f ⟨args⟩ w' (λe a=>e= .returned v/\Ext w' a)
def aE (P:Av) (f:B5) (s:Sh) (args:List AC) (w:A2) (R:s.T->A2->Prop):Prop:=
 Calls P f ⟨args⟩ w (λe w'=> ∃x:s.T,e= .returned (s.gR x)/\R x w')
theorem aE.mono {P:Av} {f:B5} {s:Sh} {args:List AC} {w:A2} {R a:s.T->A2->Prop} (h:aE P f s args w R) (k: ∀x w',R x w'->a x w'):aE P f s args w a:=
 E5 h (by grind)
def dt (_:Nat) (_:Op):Prop:=False
def cP (w:A2) (p:Option Ad):(e:El)->e.T->Prop
 | .one s,x=> ∃a,p=some a/\w.cell? a=some (s.gR x)
 | .agg l,x=> ∃a,p=some a/\ ∀i,i<l.length->w.cell? (a.add i)=(bj l x)[i]?
def pR:El->Nat->Bool
 | .one _, _=>false
 | .agg l,n=>l.length != n
def qn (w:A2) (p:Option Ad) (n:Nat) (vs:List AC):Prop:=
 match p with
 |none=>vs=[]
 |some a=>vs.length=n/\ ∀i,i<n->w.cell? (a.add i)=vs[i]?
def Tq (w:A2) (p:Option Ad) (n:Nat):Prop:=
 ∃a,p=some a/\ ∀i,i<n->(w.cell? (a.add i)).isSome=true/\w.frozen? (a.add i)=false
def putAt (w:A2) (a:Ad):List AC->Nat->A2
 |[], _=>w
 |v::r,i=>putAt (w.setCell (a.add i) v) a r (i+1)
def ju (w:A2) (p:Option Ad) (vs:List AC):A2:=
 match p with
 |some a=>putAt w a vs 0
 |none=>w
def m7 (w:A2) (e:Ae) (size bytes:Nat) (z:Array AC) (s x:Option Ad×Nat×Nat) (R:Option Ad×Nat×Nat->A2->Prop):Prop:=
 ∃fa new,qn w s.1 (s.2.1*size) fa/\qn w x.1 (x.2.1*size) new/\
  (s.2.1+x.2.1<=s.2.2->(new=[]\/(Tq w (s.1.map (·.add (s.2.1*size))) new.length/\new.all (·.oneCell')=true))/\
   R (s.1,s.2.1+x.2.1,s.2.2) (ju w (s.1.map (·.add (s.2.1*size))) new))/\
  (s.2.2<s.2.1+x.2.1->PS (s.2.1+x.2.1) s.2.2*bytes<=2 ^ 48/\
   ∀c,s.2.1+x.2.1<=c->R (some ⟨w.heap.size,0,none⟩,s.2.1+x.2.1,c) (w.drew.alloc (.cells (⟨fa⟩++⟨new⟩++Fs z (c - (s.2.1+x.2.1))) e)))
def cpR (w:A2) (size:Nat) (d x:Option Ad×Nat) (R:Int->A2->Prop):Prop:=
 ∃new,qn w x.1 (Nat.min x.2 d.2*size) new/\(d.1=none\/new=[]\/(Tq w d.1 new.length/\new.all (·.oneCell')=true))/\R (Nat.min x.2 d.2:Nat) (ju w d.1 new)
def ma (P:Av) (l:Nat) (args:List AC) (w:A2) (R:Bool->A2->Prop):Prop:=
 ∃rec,w.heap[l]? =some (.loop rec)/\args.length=rec.params.size/\
  RoundIn DA 0 P l rec.fn ((rec.params.zip ⟨args⟩).foldl (λtmps (t,a)=>tmps.setIfInBounds t a) rec.tmps) rec.assign rec.body w
   (λe w'=> ∃b,e= .returned (.bool b)/\R b w')
def gy (g:Option Bool) (p:Prop):Prop:=
 match g with
 |none=>p
 |some b=>b=true->p
@[reducible] def aj (w:A2) (g:Option Bool) (p:Option Ad) (el:El) (K:el.T->Prop):Prop:= ∃x:el.T,gy g (cP w p el x)/\K x
@[reducible] def aC (w:A2) (p:Option Ad) (vs:List AC) (K:A2->Prop):Prop:= ∀w1,Ext w w1->(vs.all (·.oneCell')=true/\Tq w1 p vs.length)/\K (ju w1 p vs)
@[reducible] def aK (w:A2) (cs:Array AC) (e:Ae) (K:Nat->A2->Prop):Prop:= ∀w1,Ext w w1->K w1.heap.size (w1.alloc (.cells cs e))
def aD (P:Av) (f:B5) (s:Sh) (args:List AC) (w:A2) (K:s.T->A2->Prop):Prop:= ∀w1,Ext w w1->aE P f s args w1 K
def aad (bytes:Nat) (n m:Int):Prop:=0<=n/\n<=m/\m<2 ^ 63/\bytes*m<=2 ^ 48
def nA (z:Array AC) (n:Nat):Array AC:=(Array.range n).map ((if n=0 then #[] else z)[· % (if n=0 then #[] else z).size]!)
def wR (P:Av) (v:AC) (s:Sh) (b:List AC) (w:A2) (K:s.T->A2->Prop):Prop:=
 ∀w1,Ext w w1-> ∃a first cap,v= .func (.func a) first cap/\bK P a=true/\aE P a s (cY first b cap) w1 K
def E7 (w:A2) (bytes size:Nat) (n m:Int) (z:Array AC) (e:Ae) (K:Nat->A2->Prop):Prop:= ∀w1,Ext w w1->aad bytes n m/\K w1.heap.size (w1.alloc (.cells (nA z (m.toNat*size)) e))
@[reducible] def ao (w:A2) (K:A2->Prop):Prop:= ∀w1,Ext w w1->K w1
def XO (a b:List (Nat×Bool)):Bool:=a.all λx=>b.contains x
def wS (env:List bF) (ch:List (Nat×Bool)):Operand->Option AC
 | .tmp t=>match bY env t with
   |some ⟨_,c, _,v, _⟩=>if XO c ch then some v else none
   |none=>none
 | .const v=>some v
 | .global g=>some (.pointer (some ⟨g,0,none⟩))
 | .func f=>some (.func (.func f) #[] #[])
def dA (ops:Array Oper) (j:Nat):Option Nat:=(ops[j]?).bind (·.dst)
def lit:Bool->Bool->Bool
 |true,x=>x
 |false,x=> !x
def abG (b:Bool):Option Bool->Option Bool
 |none=>some b
 |some g=>some (g&&b)
def gd (ops:Array Oper) (env:List bF) (o:Oper):Option (Option (List (Nat×Bool)×Option Bool)):=
 match o.guard with
 |none=>some (some ([],none))
 |some (j,b)=>match dA ops j with
  |some d=>match bY env d with
   |some e=>match e.k with
    |some a=>if a=b then some (some ([],none)) else some none
    |none=>match e.v with
     | .bool x=>some (some ((j,b)::e.ch,abG (lit b x) e.g))
     | _=>none
   |none=>none
  |none=>none
def settle (j:Nat) (b:Bool) (e:bF):bF:=
 if e.ch.contains (j, !b) then⟨e.t,[],none,undef,none⟩
 else if e.ch.contains (j,b) then
  match e.ch.filter (λx=>x != (j,b)) with
  |[]=>⟨e.t,[],none,e.v,none⟩
  |c::r=>⟨e.t,c::r,e.g,e.v,none⟩
 else e
def oO (ops:Array Oper) (N:Nat) (env:List bF) (ch:List (Nat×Bool)):Option Nat->Bool
 |none=>true
 |some d=>decide (d<N)&&ch.all (λx=>dA ops x.1 != some d)&&env.all λe=>e.ch.all λx=>dA ops x.1 != some d
def l6 (env:List bF) (d:Option Nat) (ch:List (Nat×Bool)) (g:Option Bool) (v:AC):List bF:=
 match d with
 |some d=>⟨d,ch,g,v,none⟩::env
 |none=>env
def wF (env:List bF) (d:Option Nat) (ch:List (Nat×Bool)) (g:Option Bool) (v:AC) (K:List bF->Prop):Prop:=
 match d with
 |some d=>K (⟨d,ch,g,v,none⟩::env)
 |none=>K env
theorem nC {env:List bF} {d:Option Nat} {ch:List (Nat×Bool)} {g:Option Bool} {v:AC} {K:List bF->Prop}:wF env d ch g v K=K (l6 env d ch g v):=by cases d<;>rfl
def jA:List bF->(List bF->Prop)->Prop
 |[],K=>K []
 |⟨t,ch,g,v,k⟩::r,K=>jA r (λr=>K (⟨t,ch,g,v,k⟩::r))
theorem jE: ∀{l:List bF} {K:List bF->Prop},jA l K=K l
 |[], _=>rfl
 |⟨_, _, _, _, _⟩::r,K=>by simp only[jA];exact jE
def TE (ops:Array Oper) (t:Nat):Option Nat:=(BK ops.size).find? λj=>dA ops j==some t
def bE (w:A2) (r:Nat) (es:Array CH) (a:Nat):Prop:=w.heap[r]? =some (.map es a)
def jP (w:A2) (p:Option Nat) (k:B4) (n:Int) (z v:AC):Prop:=
 ∃r es a,p=some r/\bE w r es a/\match E6 (.int k) (.int k n) es.toList 0 with
  |some none=>v=z
  |some (some (_,u))=>v=u
  |none=>False
def mg (w:A2) (p:Option Nat) (k:B4) (n:Int) (z v:AC) (b:Bool):Prop:=
 ∃r es a,p=some r/\bE w r es a/\match E6 (.int k) (.int k n) es.toList 0 with
  |some none=>v=z/\b=false
  |some (some (_,u))=>v=u/\b=true
  |none=>False
def gS (w:A2) (r:Nat) (k:B4) (n:Int) (val:AC) (es:Array CH) (a:Nat) (K:A2->Prop):Prop:=
 match E6 (.int k) (.int k n) es.toList 0 with
 |some none=>K (w.putObj r (.map (es.push {key:= .int k n,val,born:=a}) (a+1)))
 |some (some (i, _))=>K (w.putObj r (.map (es.modify i λe=>{e with key:= .int k n,val}) a))
 |none=>False
def zS (w:A2) (r:Nat) (k:B4) (n:Int) (es:Array CH) (a:Nat) (K:A2->Prop):Prop:=
 match E6 (.int k) (.int k n) es.toList 0 with
 |some none=>K (w.putObj r (.map es a))
 |some (some (i, _))=>K (w.putObj r (.map (es.eraseIdxIfInBounds i) a))
 |none=>False
def RgP (w:A2) (p:Option Nat) (K:Nat->A2->Prop):Prop:= ∀w1,Ext w w1-> ∃r es a,p=some r/\bE w1 r es a/\K w1.heap.size (w1.alloc (.mapIter (some r) a #[] a))
def NxP (w:A2) (p:Option Ad) (f:A2->Prop) (g:AC->AC->A2->Prop):Prop:= ∀w1,Ext w w1-> ∃(r m b:Nat) (seen:Array Nat) (c:Nat) (es:Array CH) (d:Nat),p=some ⟨r,0,none⟩/\w1.heap[r]? =some (.mapIter (some m) b seen c)/\bE w1 m es d/\b<=c/\(∀e∈es.toList,e.born<b)/\
 ((∀e∈es.toList,seen.contains e.born=true)-> ∀a,Ext w1 a->f a)/\
 ∀e∈es.toList,seen.contains e.born=false-> ∀a,Ext w1 a->g e.key e.val (a.putObj r (.mapIter (some m) b (seen.push e.born) d))
def BB (w:A2) (p:Option Ad) (k v:AC):Prop:= ∃(r m b:Nat) (seen:Array Nat) (es:Array CH) (a:Nat) (e:CH),p=some ⟨r,0,none⟩/\w.heap[r]? =some (.mapIter (some m) b (seen.push e.born) a)/\bE w m es a/\e∈es.toList/\(es.toList.map (·.born)).Nodup/\k=e.key/\v=e.val
def Tr (w:A2) (p:Option Nat) (n:Nat):Prop:= ∃r es a,p=some r/\bE w r es a/\n=es.size
def ChO (w:A2) (r cap:Nat) (a:List AC) (s n:Nat):Prop:=w.heap[r]? =some (.chan cap ⟨a⟩ false s n false)
def ChL (w:A2) (p:Option Nat) (n:Nat):Prop:= ∃r cap a s m,p=some r/\ChO w r cap a s m/\n=a.length
def W6 (w:A2) (p q:Option Ad):Prop:= ∀a b,p=some a->q=some b->a≠b->(∃c t,w.heap[a.block]? =some (.cells c t (0,0)))/\ ∃c t,w.heap[b.block]? =some (.cells c t (0,0))
def wW (P:Av) (ρ:Operand->Option AC) (c:Call):Option (Option Nat):=match c.args.toList,c.argTypes.toList with
 |[x],[t]=>match P.underlying t,ρ x with
  |some (.chan _ _),some (.chan p)=>some p
  | _, _=>none
 | _, _=>none
def BU (P:Av) (ρ:Operand->Option AC):Op->Option (Option Ad×Option Ad)
 | .binOp .eql t x y _=>match P.underlying t,ρ x,ρ y with
   |some (.pointer e),some (.pointer p),some (.pointer q)=>match P.info? e with
    |some i=>if i.size=0 then none else some (p,q)
    |none=>none
   | _, _, _=>none
 | _=>none
def Wq (P:Av) (ops:Array Oper) (d i:Nat):Option El:=match ops.toList.find? λo=>match o.op with
 | .extract (.tmp t) j=>t==d&&j==i
 | _=>false with
 |some o=>um P o.type
 |none=>none
def BV (P:Av) (ρ:Operand->Option AC) (c:Call):Option (Option Nat):=match c.args.toList,c.argTypes.toList with
 |[x],[t]=>match P.underlying t,ρ x with
  |some (.map _ _),some (.map p)=>some p
  | _, _=>none
 | _, _=>none
def oz {P:Av} (C:dj P) (ops:Array Oper) (env:List bF) (ch:List (Nat×Bool)) (g:Option Bool) (o:Oper) (w:A2) (K:AC->Prop):Prop:=
 let ρ:=wS env ch
 match o.op with
 | .load t x=>match ρ x,elC C t,P.info? t with
   |some (.pointer p),some el,some i=>if pR el i.size=true then dt 1 o.op else aj w g p el (λx=>K (el.gR x))
   | _, _, _=>dt 2 o.op
 | .lookup D m ix ok=>match ok,P.underlying D,ρ m,ρ ix with
   |false,some (.map s r),some (.map p),some (.int k n)=>match P.underlying s,um P r,P.info? r with
    |some (.int A),some el,some i=>match i.zero with
     |some z=>if k=A then∃x:el.T,gy g (jP w p k n z (el.gR x))/\K (el.gR x) else dt 51 o.op
     |none=>dt 52 o.op
    | _, _, _=>dt 53 o.op
   |true,some (.map s r),some (.map p),some (.int k n)=>match P.underlying s,um P r,P.info? r with
    |some (.int A),some el,some i=>match i.zero with
     |some z=>if k=A then∃x:el.T, ∃b:Bool,gy g (mg w p k n z (el.gR x) b)/\K (.tuple ⟨[el.gR x,.bool b]⟩) else dt 51 o.op
     |none=>dt 52 o.op
    | _, _, _=>dt 53 o.op
   | _, _, _, _=>dt 54 o.op
 | .pick c x y=>match c with
   | .tmp t=>match bY env t with
     |some E=>match E.k with
      |some true=>match ρ x with
       |some v=>K v
       |none=>dt 31 o.op
      |some false=>match ρ y with
       |some v=>K v
       |none=>dt 32 o.op
      |none=>match TE ops t with
       |some j=>match ρ c,wS env ((j,true)::ch) x,wS env ((j,false)::ch) y with
        |some (.bool b),some (.bool u),some (.bool v)=>match x,y with
         | _,.const (.bool false)=>K (.bool (b&&u))
         | .const (.bool true), _=>K (.bool (b||v))
         | _, _=>K (.bool (bif b then u else v))
        | _, _, _=>dt 3 o.op
       |none=>dt 4 o.op
     |none=>dt 33 o.op
   | _=>dt 5 o.op
 | .entry F=>match ρ F,o.dst with
   |some (.pointer p),some d=>match Wq P ops d 0,Wq P ops d 1 with
    |some a,none=> ∃x:a.T, ∃v:AC,gy g (BB w p (a.gR x) v)/\K (.tuple ⟨[a.gR x,v]⟩)
    |some a,some h=> ∃x:a.T, ∃y:h.T,gy g (BB w p (a.gR x) (h.gR y))/\K (.tuple ⟨[a.gR x,h.gR y]⟩)
    |none,some h=> ∃v:AC, ∃y:h.T,gy g (BB w p v (h.gR y))/\K (.tuple ⟨[v,h.gR y]⟩)
    |none,none=>dt 71 o.op
   | _, _=>dt 72 o.op
 | .call c=>match c.callee with
   | .builtin .len=>match BV P ρ c with
     |some p=> ∃n:Nat,gy g (Tr w p n)/\K (.int .i64 n)
     |none=>match wW P ρ c with
      |some p=> ∃n:Nat,gy g (ChL w p n)/\K (.int .i64 n)
      |none=>match pop P ρ o with
       |some ⟨none,v⟩=>K v
       |some ⟨some p,v⟩=>gy g p/\K v
       |none=>dt 9 o.op
   | .value f=>match ρ f,maps ρ c.args.toList with
     |some (.func (.func l) first cap),some B=>
      if bK P l=true then
       match xL C.rX l with
       |some e=>match e.fn (cY first B cap) with
        |some (pre,v)=>gy g pre/\K v
        |none=>dt 6 o.op
       |none=> ∃x:(pL C l).T,gy g (ah P l (cY first B cap) w ((pL C l).gR x))/\K ((pL C l).gR x)
      else dt 7 o.op
     | _, _=>dt 8 o.op
   | _=>match pop P ρ o with
     |some ⟨none,v⟩=>K v
     |some ⟨some p,v⟩=>gy g p/\K v
     |none=>dt 9 o.op
 | .binOp .. =>match pop P ρ o with
   |some ⟨none,v⟩=>K v
   |some ⟨some p,v⟩=>gy g p/\K v
   |none=>match BU P ρ o.op with
    |some (p,q)=>gy g (W6 w p q)/\K (.bool (decide (p=q)))
    |none=>dt 10 o.op
 | _=>match pop P ρ o with
   |some ⟨none,v⟩=>K v
   |some ⟨some p,v⟩=>gy g p/\K v
   |none=>dt 10 o.op
def XP (P:Av) (e:Ae):Array AC:=match P.info? e with
 |some i=>match i.zero with
  |some z=>z.cells
  |none=> #[]
 |none=> #[]
def uD (v:AC):List AC:=v.cells.toList
def Dz (vs:List AC):Bool:=vs.all (·.oneCell')
def eop {P:Av} (C:dj P) (ρ:Operand->Option AC) (o:Oper) (w:A2) (K:AC->A2->Prop):Prop:=
 match o.op with
 | .store t x y=>match ρ x,ρ y,P.info? t with
   |some (.pointer p),some v,some i=>if(uD v).length=i.size then
     aC w p (uD v) (λa=>K undef a)
    else dt 11 o.op
   | _, _, _=>dt 12 o.op
 | .alloc e=>match P.info? e with
   |some i=>match i.zero with
    |some z=>match Dv 64 i.size with
     |true=>aK w (XP P e) e (λb a=>K (.pointer (some ⟨b,0,none⟩)) a)
     |false=>aK w z.cells e (λb a=>K (.pointer (some ⟨b,0,none⟩)) a)
    |none=>dt 13 o.op
   |none=>dt 14 o.op
 | .box e x=>match ρ x with
   |some v=>aK w v.cells e (λb a=>K (.pointer (some ⟨b,0,none⟩)) a)
   |none=>dt 15 o.op
 | .buildSlice t len parts=>match P.underlying t,Al ρ parts.toList with
   |some (.slice e),some ps=>match P.info? e with
    |some i=>match i.zero with
     |some z=>match Am (λk=>some (k*i.size,i.size)) ⟨(BK (len*i.size)).map (z.cells.toList[· % z.cells.toList.length]!)⟩ ps with
      |some cs=>if len*i.size<=2 ^ 24 then aK w cs e (λb a=>K (.slice (some ⟨b,0,none⟩) len len) a) else dt 101 o.op
      |none=>dt 102 o.op
     |none=>dt 103 o.op
    |none=>dt 104 o.op
   | _, _=>dt 105 o.op
 | .makeSlice t l c=>match P.underlying t,ρ l,ρ c with
   |some (.slice e),some (.int _ n),some (.int _ m)=>match P.info? e with
    |some i=>match i.zero with
     |some z=>E7 w i.bytes i.size n m z.cells e (λb a=>K (.slice (some ⟨b,0,none⟩) n.toNat m.toNat) a)
     |none=>dt 106 o.op
    |none=>dt 107 o.op
   | _, _, _=>dt 108 o.op
 | .mapUpdate t m x v=>match P.underlying t,ρ m,ρ x,ρ v with
   |some (.map g _),some (.map p),some (.int k n),some val=>match P.underlying g with
    |some (.int h)=>if k=h then∀w1,Ext w w1-> ∃r es d,p=some r/\bE w1 r es d/\gS w1 r k n val es d (λa=>K undef a) else dt 55 o.op
    | _=>dt 56 o.op
   | _, _, _, _=>dt 57 o.op
 | .insert t m x v=>match P.underlying t,ρ m,ρ x,ρ v with
   |some (.map g _),some (.map p),some (.int k n),some val=>match P.underlying g with
    |some (.int h)=>if k=h then∀w1,Ext w w1-> ∃r es d,p=some r/\bE w1 r es d/\gS w1 r k n val es d (λa=>K undef a) else dt 55 o.op
    | _=>dt 56 o.op
   | _, _, _, _=>dt 57 o.op
 | .makeMap _ r=>match r with
   |none=> ∀w1,Ext w w1->K (.map (some w1.heap.size)) (w1.alloc (.map #[] 0))
   |some _=>dt 109 o.op
 | .makeChan t s=>match P.underlying t,ρ s with
   |some (.chan _ e),some (.int _ n)=>match P.info? e with
    |some i=>if 0<=n/\n<=2 ^ 32/\i.bytes*n<=2 ^ 47 then∀w1,Ext w w1->K (.chan (some w1.heap.size)) (w1.alloc (.chan n.toNat #[] false 0 0 false)) else dt 118 o.op
    |none=>dt 119 o.op
   | _, _=>dt 120 o.op
 | .range B x=>match P.underlying B,ρ x with
   |some (.map _ _),some (.map p)=>RgP w p (λb a=>K (.pointer (some ⟨b,0,none⟩)) a)
   | _, _=>dt 73 o.op
 | .next D b=>match b,ρ D with
   |false,some (.pointer p)=>NxP w p (λa=>K (.tuple ⟨[.bool false]⟩) a) (λk v a=>K (.tuple ⟨[.bool true,k,v]⟩) a)
   | _, _=>dt 74 o.op
 | .call c=>match c.callee with
   | .builtin .delete=>match c.args.toList,c.argTypes.toList with
     |[m,x],[t, _]=>match P.underlying t,ρ m,ρ x with
      |some (.map g _),some (.map p),some (.int k n)=>match P.underlying g with
       |some (.int h)=>if k=h then∀w1,Ext w w1-> ∃r es d,p=some r/\bE w1 r es d/\zS w1 r k n es d (λa=>K (.tuple ⟨[]⟩) a) else dt 75 o.op
       | _=>dt 76 o.op
      | _, _, _=>dt 77 o.op
     | _, _=>dt 78 o.op
   | .builtin .append=>match c.args.toList,c.argTypes.toList with
     |[s,x],[t,u]=>match P.underlying t,P.underlying u,ρ s,ρ x with
      |some (.slice e),some (.slice _),some (.slice p n m),some (.slice q k l)=>match P.info? e with
       |some i=>match i.zero with
        |some z=>if i.bytes=0 then dt 110 o.op else∀w1,Ext w w1->m7 w1 e i.size i.bytes z.cells (p,n,m) (q,k,l) (λr a=>K (.slice r.1 r.2.1 r.2.2) a)
        |none=>dt 111 o.op
       |none=>dt 112 o.op
      | _, _, _, _=>dt 113 o.op
     | _, _=>dt 114 o.op
   | .builtin .copy=>match c.args.toList,c.argTypes.toList with
     |[s,x],[t, _]=>match P.underlying t,ρ s,ρ x with
      |some (.slice e),some (.slice p n _),some (.slice q k _)=>match P.info? e with
       |some i=> ∀w1,Ext w w1->cpR w1 i.size (p,n) (q,k) (λr a=>K (.int .i64 r) a)
       |none=>dt 115 o.op
      | _, _, _=>dt 116 o.op
     | _, _=>dt 117 o.op
   | .value f=>match C.ZF,f with
    |some s,.tmp t=>match ρ (.tmp t),maps ρ c.args.toList with
     |some v,some j=>wR P v s j w (λx a=>K (s.gR x) a)
     | _, _=>dt 70 o.op
    | _, _=>match ρ f,maps ρ c.args.toList with
     |some (.func (.yield l) first _),some j=> ∀w1,Ext w w1->ma P l (first.toList++j) w1 (λb a=>K (.bool b) a)
     |some (.func (.func A) first cap),some j=>
      if bK P A=true then
       aD P A (pL C A) (cY first j cap) w (λx a=>K ((pL C A).gR x) a)
      else dt 16 o.op
     | _, _=>dt 17 o.op
   | _=>dt 18 o.op
 | _=>dt 19 o.op
def aL (b:Bool) (x y:Prop):Prop:=match b with
 |true=>x
 |false=>y
theorem ab {b:Bool} {x y:Prop} (a:b=true->x) (c:b=false->y):aL b x y:=by
 cases b
 ·exact c rfl
 ·exact a rfl
theorem yw {b:Bool} {x y:Prop} (h:aL b x y) (e:b=true):x:=by subst e;exact h
theorem uK {b:Bool} {x y:Prop} (h:aL b x y) (e:b=false):y:=by subst e;exact h
def NI {P:Av} (C:dj P) (ρ:Operand->Option AC) (o:Oper):Bool:=
 match o.op with
 | .store .. | .alloc _| .box .. | .buildSlice .. | .makeSlice .. | .makeMap .. | .makeChan .. | .mapUpdate .. | .insert .. | .range .. | .next .. =>true
 | .call c=>match c.callee with
   | .value f=>match C.ZF,f with
    |some _,.tmp _=>true
    | _, _=>match ρ f with
     |some (.func (.func a) _ _)=> !((xL C.rX a).isSome||C.quiet.contains a)
     | _=>true
   | .builtin .append=>true
   | .builtin .copy=>true
   | .builtin .delete=>true
   | _=>false
 | _=>false
def Yt:Op->Bool
 | .binOp .. =>true
 | .convert .. =>true
 | .call _=>true
 | _=>false
def yf {P:Av} (C:dj P) (o:Oper) (v:AC) (K:AC->Prop):Prop:=
 match C.vi&&Yt o.op,v with
 |true,.int k e=> ∀x,x=e->K (.int k x)
 | _, _=>K v
theorem rM {P:Av} {C:dj P} {o:Oper} {v:AC} {K:AC->Prop} (h:yf C o v K):K v:=by
 unfold yf at h
 grind
def Ni {P:Av} (C:dj P) (ops:Array Oper) (N:Nat) (o:Oper):Nat->List bF->A2->(List bF->A2->Prop)->Prop
 |0, _, _, _=>dt 20 o.op
 |n+1,env,w,K=>match gd ops env o with
  |none=>dt 21 o.op
  |some none=>if oO ops N env [] o.dst then wF env o.dst [] none undef (λenv=>K env w) else dt 25 o.op
  |some (some (ch,g))=>
   if oO ops N env ch o.dst then
    if NI C (wS env ch) o then
     match ch.getLast? with
     |none=>eop C (wS env []) o w (λv a=>wF env o.dst [] none v (λenv=>K env a))
     |some (j, _)=>match dA ops j with
      |some d=>match bY env d with
       |some e=>match e.v with
        | .bool x=>if e.ch.isEmpty then
           aL x (jA (env.map (settle j true)) λenv=>Ni C ops N o n (⟨d,[],none,.bool true,some true⟩::env) w K)
            (jA (env.map (settle j false)) λenv=>Ni C ops N o n (⟨d,[],none,.bool false,some false⟩::env) w K)
          else dt 22 o.op
        | _=>dt 26 o.op
       |none=>dt 27 o.op
      |none=>dt 28 o.op
    else oz C ops env ch g o w (λv=>yf C o v (λv=>wF env o.dst ch g v (λenv=>K env w)))
   else dt 24 o.op
def Fi {P:Av} (C:dj P) (ops:Array Oper) (N:Nat) (i:Nat) (env:List bF) (w:A2) (K:List bF->A2->Prop):Prop:=
 match ops[i]? with
 |none=>False
 |some ⟨dst,op,type,pos,after,guard⟩=>Ni C ops N ⟨dst,op,type,pos,after,guard⟩ 40 env w K
def rxL {P:Av} (C:dj P) (ops:Array Oper) (N:Nat):List Nat->List bF->A2->(List bF->A2->Prop)->Prop
 |[],env,w,K=>K env w
 |i::r,env,w,K=>Fi C ops N i env w (λenv w=>rxL C ops N r env w K)
def jK (ops:Array Oper) (tmps:Array AC) (ch:List (Nat×Bool)):Prop:= ∀x∈ch,yielded ops tmps x.1=some x.2
def SW (ops:Array Oper) (tmps:Array AC) (ch:List (Nat×Bool)):Option Bool->Prop
 |none=>ch=[]
 |some γ=>ch≠[]/\(γ=true<->jK ops tmps ch)
structure Fit (S:Nat->Option (Option AC)) (ops:Array Oper) (N:Nat) (D:List Deferred) (env:List bF) (a:Act):Prop where
 off: ∀t x,S t=some x->a.tmps[t]? =x
 size:a.tmps.size=N
 oG:a.defers=D
 yes: ∀t e,bY env t=some e->jK ops a.tmps e.ch->a.tmps[t]? =some e.v
 no: ∀t e,bY env t=some e-> ¬ jK ops a.tmps e.ch->a.tmps[t]? =some undef
 E8: ∀e∈env,SW ops a.tmps e.ch e.g
 Bm: ∀e∈env, ∀b,e.k=some b->e.v= .bool b/\e.ch=[]
theorem bO: ∀{env:List bF} {t:Nat} {e:bF},bY env t=some e->e∈env
 |x::r,t,e,h=>by
  simp[bY] at h;split at h
  grind
  ·exact MW _ (bO h)
theorem TF {a b:List (Nat×Bool)} (h:XO a b=true) {ops:Array Oper} {tmps:Array AC} (hb:jK ops tmps b):jK ops tmps a:=λx c=>by
 simp only[XO,DB] at h;exact hb x (by grind)
variable {S:Nat->Option (Option AC)} {ops:Array Oper} {N:Nat} {D:List Deferred} {env:List bF} {a:Act}
theorem Fit.ev (h:Fit S ops N D env a) {ch:List (Nat×Bool)} (hc:jK ops a.tmps ch) {x:Operand} {v:AC} (b:wS env ch x=some v):a.eval x=v:=by
 cases x with
 |tmp t=>
  simp[wS] at b;split at b
  ·rename_i c;split at b
   ·rename_i d;cases b;have:=h.yes t _ c (TF d hc);simp[FF,this]
   grind
  grind
 |const
 |global g
 |func=>simp[wS] at b;simp[FF,b]
theorem Ey {j:Nat} {d:Option Nat} {u:AC} (h: ∀k,d=some k->dA ops j≠some k):yielded ops (a.put d u).tmps j=yielded ops a.tmps j:=by
 cases d with
 |none=>rfl
 |some k=>
  have b:=h k rfl;unfold yielded;unfold dA at b;cases f:ops[j]?.bind _ with
  |none=>rfl
  |some t=>
   have c:k≠t:=λe=>b (by grind);simp[Bx,CO c]
theorem Ic {ch:List (Nat×Bool)} {d:Option Nat} {u:AC} (h: ∀k,d=some k->ch.all (λx=>dA ops x.1 != some k)=true):jK ops (a.put d u).tmps ch<->jK ops a.tmps ch:=by
 have: ∀x∈ch,yielded ops (a.put d u).tmps _=yielded ops _ x.1:=λx b=>Ey (by grind);constructor
 ·intro c x b;rw[<-this x b];exact c x b
 ·intro c x b;rw[this x b];exact c x b
theorem Fit.put (h:Fit S ops N D env a) {ch:List (Nat×Bool)} {g:Option Bool} {d:Option Nat} {v u:AC} (m:oO ops N env ch d=true) (w: ∀k,d=some k->S k=none)
 (o:SW ops a.tmps ch g) (h1:jK ops a.tmps ch->u=v) (h0: ¬ jK ops a.tmps ch->u=undef):Fit S ops N D (l6 env d ch g v) (a.put d u):=by
 cases d with
 |none=>exact h
 |some k=>
  simp only[oO,BN,decide_eq_true_eq] at m;obtain⟨⟨p,hc⟩,y⟩:=m;have c0:jK ops (a.put (some k) u).tmps ch<->jK ops a.tmps ch:=Ic (by grind);have c1: ∀e∈env,(jK ops (a.put (some k) u).tmps e.ch<->jK ops a.tmps e.ch):=λe hm=>Ic (by grind);have n:k<a.tmps.size:=by rw[h.size];exact p
  refine⟨λt x q=>?_,by simp[Bx,h.size],h.oG,?_,?_,?_,?_⟩
  ·have r:k≠t:=λe=>by grind
   simp[Bx,CO r,h.off t x q]
  ·intro t e c i;simp only[l6,bY] at c;split at c
   ·rename_i f;cases c;subst f;simp[Bx,n,h1 (c0.1 i)]
   ·rename_i f;have:=h.yes t e c ((c1 e (bO c)).1 i);simp[Bx,CO f,this]
  ·intro t e c i;simp only[l6,bY] at c;split at c
   ·rename_i f;cases c;subst f;simp[Bx,n,h0 (λj=>i (c0.2 j))]
   ·rename_i f;have:=h.no t e c (λj=>i ((c1 e (bO c)).2 j));simp[Bx,CO f,this]
  ·intro e hm;have key: ∀(ch) (g:Option Bool),(jK ops (a.put (some k) u).tmps ch<->jK ops a.tmps ch)->SW ops a.tmps ch g->SW ops (a.put (some k) u).tmps ch g:=by
    intro ch g s l;cases g with
    |none=>exact l
    |some γ=>exact⟨l.1,l.2.trans s.symm⟩
   simp only[l6,Bz] at hm;rcases hm with rfl|hm
   ·exact key _ _ c0 o
   ·exact key _ _ (c1 e hm) (h.E8 e hm)
  ·intro e hm b hb;simp only[l6,Bz] at hm;rcases hm with rfl|hm
   ·cases hb
   ·exact h.Bm e hm b hb
def yg:AC->Option Bool
 | .bool b=>some b
 | _=>none
theorem lq {j d:Nat} (b:dA ops j=some d) {v:AC} (hv:a.tmps[d]? =some v):yielded ops a.tmps j=yg v:=by
 unfold yielded;unfold dA at b
 simp_all
 cases v<;>rfl
theorem ee:jK ops a.tmps []:=λb=>by simp
theorem NJ (h:Fit S ops N D env a) {o:Oper} {ch:List (Nat×Bool)} {g:Option Bool} (c:gd ops env o=some (some (ch,g))):
 SW ops a.tmps ch g/\(BO o (yielded ops a.tmps)=true<->jK ops a.tmps ch):=by
 unfold gd at c;unfold BO;split at c
 ·rename_i l;cases c;exact⟨rfl,by simp[jK,l]⟩
 ·rename_i j b l;split at c
  ·rename_i d p;split at c
   ·rename_i e f;split at c
    ·rename_i t u;obtain⟨hv,i⟩:=h.Bm e (bO f) t u;have r:=lq (a:=a) p (h.yes d e f (by rw[i];exact ee));rw[hv] at r;split at c
     ·rename_i hb;cases c;refine⟨rfl,?_⟩;simp[l,r,yg,hb,jK]
     ·cases c
    ·split at c
     ·rename_i x v;cases c;have q:(yielded ops a.tmps j=some b)<->jK ops a.tmps e.ch/\x=b:=by
       by_cases hc:jK ops a.tmps e.ch
       ·have h1:=h.yes d e f hc;rw[lq (a:=a) p h1,v];simp[yg,hc]
       ·have h1:=h.no d e f hc;rw[lq (a:=a) p h1];simp[undef,yg,hc]
      have i:jK ops a.tmps ((j,b)::e.ch)<->yielded ops a.tmps j=some b:=by
       constructor
       ·intro m;exact m (j,b) Hy
       ·intro m y k;rcases Bz.1 k with rfl|k
        ·exact m
        ·exact(q.1 m).1 y k
      refine⟨?_,?_⟩
      ·have n:=h.E8 e (bO f);cases s:e.g with
       |none=>
        rw[s] at n;have w:jK ops a.tmps e.ch:=by rw[show e.ch=[] from n];intro y k;cases k
        refine⟨by simp,?_⟩;rw[i,q];cases b<;>simp[w,lit]
       |some γ=>
        rw[s] at n;refine⟨by simp,?_⟩;rw[i,q, <-n.2];cases b<;>simp[lit]
      ·rw[i];simp[l]
     ·cases c
   ·cases c
  ·cases c
theorem Ca (h:Fit S ops N D env a) {o:Oper} (c:gd ops env o=some none):BO o (yielded ops a.tmps)=false:=by
 unfold gd at c;unfold BO;split at c
 ·cases c
 ·rename_i j b m;split at c
  ·rename_i d g;split at c
   ·rename_i e f;split at c
    ·rename_i i k;obtain⟨hv,l⟩:=h.Bm e (bO f) i k;have n:=lq g (h.yes d e f (by rw[l];exact ee))
     grind[yg]
    grind
   ·cases c
  ·cases c
theorem uL {f:bF->bF} (a: ∀e,(f e).t=e.t): ∀{l:List bF} {t:Nat} {e:bF},bY (l.map f) t=some e-> ∃b,bY l t=some b/\e=f b
 |x::r,t,e,h=>by
  simp[bY,a] at h ⊢;split at h
  grind
  ·rename_i c;rw[if_neg c];exact uL a h
theorem DC (j:Nat) (b:Bool) (e:bF):(settle j b e).t=e.t:=by
 grind[settle]
theorem uM {j:Nat} {b:Bool} (m:yielded ops a.tmps j=some b) (e:bF) (f:SW ops a.tmps e.ch e.g):
 SW ops a.tmps (settle j b e).ch (settle j b e).g/\(jK ops a.tmps e.ch->jK ops a.tmps (settle j b e).ch/\(settle j b e).v=e.v)/\(¬ jK ops a.tmps e.ch->(¬ jK ops a.tmps (settle j b e).ch\/(settle j b e).v=undef))/\
 (¬ jK ops a.tmps (settle j b e).ch-> ¬ jK ops a.tmps e.ch):=by
 unfold settle;split
 ·rename_i hc;have n: ¬ jK ops a.tmps e.ch:=λd=>by
   have:=d (j, !b)
   grind
  exact⟨rfl,λd=>absurd d n,λ_=> .inr rfl,λd=>absurd ee d⟩
 ·split
  ·rename_i p hc;have h:jK ops a.tmps e.ch<->jK ops a.tmps (e.ch.filter (λx=>x != (j,b))):=by
    constructor
    ·intro d x k;exact d x (Bs.1 k).1
    ·intro d x k;by_cases o:x=(j,b)
     ·rw[o];exact m
     ·exact d x (by grind)
   split
   ·rename_i i;rw[i] at h;exact⟨rfl,λ_=>⟨ee,rfl⟩,by grind,λd=>absurd ee d⟩
   ·rename_i c r i;rw[i] at h
    simp_all
    cases l:e.g with
    |none=>rw[l] at f;have:e.ch=[]:=f;rw[this] at hc;simp at hc
    |some γ=>rw[l] at f;exact⟨by simp,f.2.trans h⟩
  grind
theorem Fit.settle (h:Fit S ops N D env a) {j d:Nat} {b:Bool} {e:bF} (n:dA ops j=some d) (o:bY env d=some e) (p:e.ch=[]) (hv:e.v= .bool b):
 Fit S ops N D (⟨d,[],none,.bool b,some b⟩::env.map (settle j b)) a:=by
 have h1:=h.yes d e o (by rw[p];exact ee);have k:=lq (a:=a) n h1;rw[hv] at k;refine⟨h.off,h.size,h.oG,?_,?_,?_,?_⟩
 ·intro t l g hc;simp only[bY] at g;split at g
  grind
  ·obtain⟨c,f,rfl⟩:=uL (DC j b) g;obtain⟨_,s1,s2, _⟩:=uM (a:=a) k c (h.E8 c (bO f));by_cases m:jK ops a.tmps c.ch
   ·rw[h.yes t c f m,(s1 m).2]
   ·rw[h.no t c f m]
    grind
 ·intro t l g hc;simp only[bY] at g;split at g
  ·cases g;exact absurd ee hc
  ·obtain⟨c,f,rfl⟩:=uL (DC j b) g;obtain⟨_, _, _,s3⟩:=uM (a:=a) k c (h.E8 c (bO f));exact h.no t c f (s3 hc)
 ·intro l hm;rcases Bz.1 hm with rfl|hm
  ·exact rfl
  ·obtain⟨c,f,rfl⟩:=Fw.1 hm;exact(uM (a:=a) k c (h.E8 c f)).1
 ·intro l hm q i;rcases Bz.1 hm with rfl|hm
  grind
  ·obtain⟨c,f,rfl⟩:=Fw.1 hm;unfold RX.settle at i ⊢;split at i
   ·cases i
   ·rename_i r;rw[if_neg r];split at i
    grind
    ·rename_i s;rw[if_neg s];exact h.Bm c f q i
variable {P:Av}
def di (P:Av) (o:Oper) (a:Act) (w:A2) (v:AC):Prop:=
 match (execOp a.eval o).run P w with
 | .ok (.value u) w'=>w'=w/\u=v
 | .ok (.enter f args) w'=>w'=w/\Calls P f args w (λe b=>e= .returned v/\Ext w b)
 | _=>False
theorem bS {o:Oper} {a:Act} {w:A2} {v:AC} (h:(execOp a.eval o).run P w= .ok (.value v) w):di P o a w v:=by
 grind[di]
theorem cC: ∀(l:List Sc) (x:kj l),(bj l x).length=l.length
 |[], _=>rfl
 | _::r,x=>by simp[bj,cC]
theorem vB {w:A2} {a:Ad} {v:AC} (h:w.cell? a=some v):(load a).run P w= .ok v w:=by simp[h]
theorem run_loadCellsFrom {w:A2} {a:Ad}: ∀(vs:List AC) (k:Nat) (b:Array AC),(∀i,i<vs.length->w.cell? (a.add (k+i))=vs[i]?)->
 (loadCellsFrom a k vs.length b).run P w= .ok (b++vs.toArray) w
 |[],k,b, _=>by rfl
 |v::vs,k,b,h=>by
  have h0:=by simpa using h 0
  have c:=run_loadCellsFrom vs _ (b.push v) λi hi=>by
   have:=h (i+1) (by grind);rw[show k+1+i=k+(i+1) by omega,this];rfl
  simp only[M7,loadCellsFrom,B1,vB h0,B2,c];simp
theorem sP {w w':A2} (h:Ext w w') {p:Option Ad} {el:El} {x:el.T} (c:cP w p el x):cP w' p el x:=by
 cases el with
 |one=>obtain⟨a,b,hc⟩:=c;exact⟨a,b,h.cell hc⟩
 |agg l=>
  obtain⟨a,b,hc⟩:=c;refine⟨a,b,λi hi=>?_⟩;have h1:=hc i hi;have d:i<(bj l x).length:=by have:=cC l x;omega
  rw[Ht d] at h1 ⊢;exact h.cell h1
theorem sS {w:A2} {a:Ad} {t:Ae} {el:El} {b:TypeInfo} {x:el.T} (h:um P t=some el) (hi:P.info? t=some b)
 (f: ¬ pR el b.size=true) (e:cP w (some a) el x):(loadVar t a).run P w= .ok (el.gR x) w:=by
 unfold loadVar;cases el with
 |one s=>
  have c:jZ P t=some false:=by
   grind[um,jZ,Ak,Option.map_eq_some_iff]
  obtain⟨a',d,hc⟩:=e;cases d;simp only[B1,uJ c,B2,Dn,if_false,vB hc];rfl
 |agg l=>
  have c:jZ P t=some true:=by
   grind[um,jZ,Ak]
  obtain⟨a',d,hc⟩:=e;cases d;have g:l.length=b.size:=by simpa[pR] using f
  have:=run_loadCellsFrom (P:=P) (w:=w) (a:=a) (bj l x) 0 #[] (by simpa[cC] using hc);rw[cC,g] at this;simp only[B1,uJ c,B2,if_true,dk hi,loadCells,this];simp[El.gR]
theorem TG {C:dj P} {w:A2} {a:Ad} {t:Ae} {el:El} {c:TypeInfo} {x:el.T} (b:elC C t=some el) (hi:P.info? t=some c)
 (e: ¬ pR el c.size=true) (d:cP w (some a) el x):(loadVar t a).run P w= .ok (el.gR x) w:=by
 unfold elC at b;split at b
 ·rename_i h0;split at b
  ·cases b;have f:=d;exact sS (el:= .one .func) h0 hi ‹_› f
  grind[sS]
 ·exact sS b hi e d
theorem Ie: ∀{l:List (Entry P)} {f:B5} {e:Entry P},xL l f=some e->e.f=f
 |x::r,f,e,h=>by
  simp[xL] at h;split at h
  grind
  ·exact Ie h
theorem il {g:Option Bool} {p:Prop} {ops:Array Oper} {tmps:Array AC} {ch:List (Nat×Bool)} (h:gy g p) (a:SW ops tmps ch g) (hc:jK ops tmps ch):p:=by
 cases g with
 |none=>exact h
 |some=>exact h (a.2.2 hc)
theorem tA {f:B5} {args:Array AC} {w:A2}
 (h:bK P f=true):
 (callFunc f args).run P w= .ok (.enter f args) w:=by
 unfold callFunc;unfold bK at h;cases a:P.funcs[f]? with
 |none=>simp[a] at h
 |some fn=>
  simp_all
  grind[e_]
theorem sT {ev:Operand->AC} {dst:Option Nat} {type:Ae} {pos:String} {after:Array Edge} {guard:Option (Nat×Bool)} {f:Operand} {args:Array Operand} {ts:Array Ae}
 {a:B5} {first cap:Array AC} {b:List AC} (c:ev f= .func (.func a) first cap) (d:args.toList.map ev=b) {w:A2}
 (h:bK P a=true):
 (execOp ev ⟨dst,.call ⟨.value f,args,ts⟩,type,pos,after,guard⟩).run P w= .ok (.enter a ⟨cY first b cap⟩) w:=by
 have e:first++args.map ev++cap=⟨cY first b cap⟩:=by
  simp_all[cY]
 simp only[execOp,resolve,Deferred.ofValue,c,B1,B3,B2,invoke];rw[e];exact tA h
variable {S:Nat->Option (Option AC)} {ops:Array Oper} {N:Nat} {D:List Deferred} {env:List bF} {a:Act}
theorem yY {kd:B4} {n:Int}: ∀(l:List CH) (i0 i:Nat) (v:AC),E6 (.int kd) (.int kd n) l i0=some (some (i,v))->i0<=i/\ ∃e,l[i - i0]? =some e/\e.key= .int kd n/\e.val=v
 |e::es,i0,i,v,h=>by
  unfold E6 at h;split at h
  ·rename_i a;obtain⟨rfl,rfl⟩:=h;simp;cases b:e.key<;>rw[b] at a<;>simp[Instr.sameNow] at a
   grind
  ·obtain:=yY es (i0+1) i v h
   grind
  ·cases h
theorem Az {t d l:Ae} {kd:B4} {n:Int} {val:AC} {w:A2} {r:Nat} {es:Array CH} {f:Nat} {K:A2->Prop} (g:P.underlying t=some (.map d l)) (a:P.underlying d=some (.int kd)) (hb:bE w r es f)
 (h:gS w r kd n val es f K): ∃j,(Jq t (.map (some r)) (.int kd n) val).run P w= .ok () j/\K j:=by
 have b:=hb;have k:H6 (.int kd) (.int kd n):=by rfl
 unfold gS at h;split at h
 ·rename_i c;refine⟨_,?_,h⟩;simp[Jq,run_underlying g,C7 b,CV a k,CX a c,H7 _ b,CN,EO]
 ·rename_i i v c;obtain⟨_,e,m,o, _⟩:=yY _ _ _ _ c;refine⟨_,?_,h⟩;have p:=by simpa using m
  simp[Jq,run_underlying g,C7 b,CV a k,CX a c,p,o,Instr.keyThatStays,Instr.sameBits,H7 _ b,CN,EO]
 grind
theorem Pa {t d e:Ae} {kd:B4} {n:Int} {w:A2} {p:Option Nat} {i:TypeInfo} {z v:AC} (f:P.underlying t=some (.map d e)) (a:P.underlying d=some (.int kd)) (hi:P.info? e=some i) (l:i.zero=some z)
 (h:jP w p kd n z v):(E9 t (.map p) (.int kd n) false).run P w= .ok v w:=by
 obtain⟨r,es,m,rfl,hb,b⟩:=h;have g:=hb;have k:H6 (.int kd) (.int kd n):=by rfl
 split at b
 ·rename_i c;subst b;simp[E9,run_underlying f,C7 g,CV a k,CX a c,zeroValue,ft hi,l]
 ·rename_i j u c;subst b;simp[E9,run_underlying f,C7 g,CV a k,CX a c,CN]
 grind
theorem JX {t d e:Ae} {kd:B4} {n:Int} {w:A2} {p:Option Nat} {i:TypeInfo} {z v:AC} {b:Bool} (f:P.underlying t=some (.map d e)) (a:P.underlying d=some (.int kd)) (hi:P.info? e=some i) (l:i.zero=some z)
 (h:mg w p kd n z v b):(E9 t (.map p) (.int kd n) true).run P w= .ok (.tuple ⟨[v,.bool b]⟩) w:=by
 obtain⟨r,es,o,rfl,hb,m⟩:=h;have g:=hb;have k:H6 (.int kd) (.int kd n):=by rfl
 split at m
 ·rename_i c
  simp_all
  simp[E9,run_underlying f,C7 g,CV a k,CX a c,zeroValue,ft hi,l,CN]
 ·rename_i j u c
  simp_all
  simp[E9,run_underlying f,C7 g,CV a k,CX a c,CN]
 grind
theorem nS {w:A2} {p:Option Ad} {k v:AC} (h:BB w p k v):(Instr.entry (.pointer p)).run P w= .ok (.tuple ⟨[k,v]⟩) w:=by
 obtain⟨r,m,a,seen,es,b,e,rfl,c,hb,d,f,rfl,rfl⟩:=h;exact run_entry_at w r m a seen es b e c hb d f
theorem yx {w w':A2} {p:Option Ad} {k v:AC} (a:Ext w w') (h:BB w p k v):BB w' p k v:=by
 obtain⟨r,m,b,seen,es,c,e,h1,d,hb,f⟩:=h;exact⟨r,m,b,seen,es,c,e,h1,a.obj d,a.obj hb,f⟩
theorem Ez {ρ:Operand->Option AC} {c:Call} {p:Option Nat} (h:BV P ρ c=some p): ∃x t a b,c.args= #[x]/\c.argTypes= #[t]/\P.underlying t=some (.map a b)/\ρ x=some (.map p):=by
 unfold BV at h;split at h
 ·rename_i x t f g;split at h
  ·rename_i a b p' d e;cases h;refine⟨x,t,a,b,?_,?_,d,e⟩
   grind
   grind
  grind
 grind
theorem Cx {ρ:Operand->Option AC} {c:Call} {p:Option Nat} (h:wW P ρ c=some p): ∃x t d a,c.args= #[x]/\c.argTypes= #[t]/\P.underlying t=some (.chan d a)/\ρ x=some (.chan p):=by
 unfold wW at h;split at h
 ·rename_i x t g i;split at h
  ·rename_i b a p' e f;cases h;refine⟨x,t,b,a,?_,?_,e,f⟩
   grind
   grind
  grind
 grind
theorem If {w w':A2} {p q:Option Ad} (e:Ext w w') (h:W6 w p q):W6 w' p q:=λa b h1 f g=>by
 obtain⟨⟨c,t,i⟩,d,u,j⟩:=h a b h1 f g;exact⟨⟨c,t,e.obj i⟩,d,u,e.obj j⟩
theorem Yu {ρ:Operand->Option AC} {ev:Operand->AC} (j: ∀x v,ρ x=some v->ev x=v) {o:Oper} {p q:Option Ad} {w:A2} (h:BU P ρ o.op=some (p,q)) (k:W6 w p q):
 (execOp ev o).run P w= .ok (.value (.bool (decide (p=q)))) w:=by
 obtain⟨dst,op,type,pos,after,guard⟩:=o;unfold BU at h;simp only at h;split at h
 ·rename_i t x y z;split at h
  ·rename_i e p' A f l m;split at h
   ·rename_i i hi;split at h
    ·cases h
    ·rename_i n;cases h;simp only[execOp,j _ _ l,j _ _ m];cases p with
     |none=>
      cases q with
      |none=>
       have:=d_ (P:=P) (w:=w) λd=>nM f d none w;simp[eqGuard,binOp,this]
      |some b=>
       have:=d_ (w:=w) λd=>nM f d (some b) w;simp[eqGuard,binOp,this]
     |some a=>
      cases q with
      |none=>
       have:=d_ (P:=P) λd=>rL f d (some a) w;simp[eqGuard,binOp,this]
      |some b=>
       by_cases g:a=b
       ·subst g;have:=run_eql_ptr_same w a f hi;simp[eqGuard,this]
       ·obtain⟨⟨c,B,r⟩,d,u,s⟩:=k a b rfl rfl g;have:=run_eql_ptr_other w f hi n g r s;simp[eqGuard,this,g]
   ·cases h
  ·cases h
 ·cases h
theorem yh {C:dj P} {ch:List (Nat×Bool)} {g:Option Bool} {o:Oper} {w:A2} {K:AC->Prop} (l:Fit S ops N D env a) (G:SW ops a.tmps ch g)
 (h:oz C ops env ch g o w K): ∃v,K v/\(jK ops a.tmps ch-> ∀w',Ext w w'->di P o a w' v):=by
 have MK: ∀v,a.eval (.const v)=v:=λ_=>rfl;have pure: ∀(J:PR),pop P (wS env ch) o=some J->(match J.ob with|none=>K J.v|some p=>gy g p/\K J.v)->
  ∃v,K v/\(jK ops a.tmps ch-> ∀w',Ext w w'->di P o a w' v):=by
  intro J E i;cases Q:J.ob with
  |none=>
   rw[Q] at i;exact⟨J.v,i,λhc w' _=>bS (Od (λx v A=>l.ev hc A) MK E (λp L=>by rw[Q] at L;cases L) w')⟩
  |some p=>
   rw[Q] at i;exact⟨J.v,i.2,λhc w' _=>bS (Od (λx v A=>l.ev hc A) MK E (λp' L=>by rw[Q] at L;cases L;exact il i.1 G hc) w')⟩
 have R:(match pop P (wS env ch) o with|some ⟨none,v⟩=>K v|some ⟨some p,v⟩=>gy g p/\K v|none=>False)->
  ∃v,K v/\(jK ops a.tmps ch-> ∀w',Ext w w'->di P o a w' v):=by
  intro T;split at T
  ·rename_i v E;exact pure ⟨none,v⟩ E T
  ·rename_i p v E;exact pure ⟨some p,v⟩ E T
  ·exact T.elim
 obtain⟨dst,op,type,pos,after,guard⟩:=o;unfold oz at h;cases op with
 |load t x=>
  simp only at h;split at h
  ·rename_i p el ti A H hi;split at h
   ·exact Ab h
   ·rename_i hs;obtain⟨x',M,i⟩:=h;refine⟨_,i,λhc w' B=>bS ?_⟩;have SG:=sP B (il M G hc);have E: ∃a0,p=some a0:=by cases el<;>(obtain⟨a0,h0, _⟩:=SG;exact⟨a0,h0⟩)
    obtain⟨a0,rfl⟩:=E;simp[execOp,Instr.loadAt,l.ev hc A,HG,TG H hi hs SG]
  ·exact Ab h
 |lookup xt m ix ok=>
  simp only at h;split at h
  ·rename_i U V p kd n F W X;split at h
   ·rename_i ZG el ti Y H hi;split at h
    ·rename_i z I;split at h
     ·rename_i Z;subst Z;obtain⟨x',M,i⟩:=h;refine⟨_,i,λhc w' B=>bS ?_⟩;have hl:=il M G hc;have wq:jP w' p kd n z (el.gR x'):=by
       obtain⟨r,es,O,h1,h2,h3⟩:=hl;exact⟨r,es,O,h1,B.obj h2,h3⟩
      simp only[execOp,B1,l.ev hc W,l.ev hc X,Pa F Y hi I wq,B2,B3]
     ·exact Ab h
    ·exact Ab h
   ·exact Ab h
  ·rename_i U V p kd n F W X;split at h
   ·rename_i ZG el ti Y H hi;split at h
    ·rename_i z I;split at h
     ·rename_i Z;subst Z;obtain⟨x',b',M,i⟩:=h;refine⟨_,i,λhc w' B=>bS ?_⟩;have hl:=il M G hc;have wq:mg w' p kd n z (el.gR x') b':=by
       obtain⟨r,es,O,h1,h2,h3⟩:=hl;exact⟨r,es,O,h1,B.obj h2,h3⟩
      simp only[execOp,B1,l.ev hc W,l.ev hc X,JX F Y hi I wq,B2,B3]
     ·exact Ab h
    ·exact Ab h
   ·exact Ab h
  ·exact Ab h
 |pick c x y=>
  simp only at h;split at h
  ·rename_i t;split at h
   ·rename_i ec hec;have known: ∀(b:Bool),ec.k=some b->jK ops a.tmps ch->a.eval (.tmp t)= .bool b:=by
     intro b hb _;obtain⟨hv,qC⟩:=l.Bm ec (bO hec) b hb;have:=l.yes t ec hec (by rw[qC];exact ee);simp[FF,this,hv]
    split at h
    ·rename_i i;split at h
     ·rename_i v hv;refine⟨v,h,λhc w' _=>bS ?_⟩;have eb:=known true i hc;simp[execOp,eb,l.ev hc hv,asBool]
     ·exact Ab h
    ·rename_i i;split at h
     ·rename_i v hv;refine⟨v,h,λhc w' _=>bS ?_⟩;have eb:=known false i hc;simp[execOp,eb,l.ev hc hv,asBool]
     ·exact Ab h
    ·split at h
     ·rename_i j hj;have Ac:dA ops j=some t:=by
       have:=MZ hj;simpa using this
      have key: ∀(b u v:Bool),wS env ch (.tmp t)=some (.bool b)->wS env ((j,true)::ch) x=some (.bool u)->wS env ((j,false)::ch) y=some (.bool v)->
       ∀w',jK ops a.tmps ch->di P ⟨dst,.pick (.tmp t) x y,type,pos,after,guard⟩ a w' (.bool (bif b then u else v)):=by
       intro b u v hb F hv w' hc;refine bS ?_;have eb:=l.ev hc hb;have hyj:yielded ops a.tmps j=some b:=by
        unfold yielded;unfold dA at Ac;simp only[Ac,Option.bind_some];have:a.tmps[t]? =some (.bool b):=by
         unfold FF at eb;simp only[F0] at eb;cases ht:a.tmps[t]? with
         |none=>rw[ht] at eb;simp[undef] at eb
         |some z=>rw[ht] at eb;simp at eb;rw[eb]
        rw[this]
       cases b with
       |true=>
        have eu:=l.ev (ch:=(j,true)::ch) (λz I=>by
         rcases Bz.1 I with rfl|I
         ·exact hyj
         ·exact hc z I) F
        simp[execOp,eb,eu,asBool]
       |false=>
        have eu:=l.ev (ch:=(j,false)::ch) (λz I=>by
         rcases Bz.1 I with rfl|I
         ·exact hyj
         ·exact hc z I) hv
        simp[execOp,eb,eu,asBool]
      split at h
      ·rename_i b u v hb F hv;split at h
       ·cases (show v=false by simp only[wS,C6,Value.bool.injEq] at hv;exact hv.symm);refine⟨_,h,λhc w' _=>?_⟩;have:=key b u false hb F hv w' hc;cases b<;>exact this
       ·cases (show u=true by simp only[wS,C6,Value.bool.injEq] at F;exact F.symm);refine⟨_,h,λhc w' _=>?_⟩;have:=key b true v hb F hv w' hc;cases b<;>exact this
       ·exact⟨_,h,λhc w' _=>key b u v hb F hv w' hc⟩
      ·exact Ab h
     ·exact Ab h
   ·exact Ab h
  ·exact Ab h
 |call c=>
  obtain⟨callee,args,ts⟩:=c;cases callee with
  |value f=>
   simp only at h;split at h
   ·rename_i fQ first cap acz hf has
    split at h
    ·rename_i q_;split at h
     ·rename_i e H;split at h
      ·rename_i pre v abH;refine⟨v,h.2,λhc w' _=>?_⟩;have dN:=sT (P:=P) (dst:=dst) (type:=type) (pos:=pos) (after:=after) (guard:=guard) (ts:=ts) (l.ev hc hf) (lU (λx v A=>l.ev hc A) has) (w:=w') q_;unfold di;rw[dN];refine⟨rfl,?_⟩;have:=e.ok _ _ _ abH (il h.1 G hc) w';rw[Ie H] at this;exact this
      ·exact Ab h
     ·obtain⟨x,hq,i⟩:=h;refine⟨_,i,λhc w' B=>?_⟩;have dN:=sT (P:=P) (dst:=dst) (type:=type) (pos:=pos) (after:=after) (guard:=guard) (ts:=ts) (l.ev hc hf) (lU (λx v A=>l.ev hc A) has) (w:=w') q_;unfold di;rw[dN];exact⟨rfl,il hq G hc w' B⟩
    ·exact Ab h
   ·exact Ab h
  |invoke r m=>exact R h
  |builtin b=>
   cases b with
   |len=>
    simp only at h;split at h
    ·rename_i p E;obtain⟨n,hn,i⟩:=h;refine⟨_,i,λhc w' B=>bS ?_⟩;obtain⟨x,t,U,V,rfl,rfl,F,A⟩:=Ez E;obtain⟨r,es,O,rfl,hb,rfl⟩:=il hn G hc;have rW:w'.heap[r]? =some (.map es O):=B.obj hb;simp[execOp,resolve,invoke,builtin,Ff,l.ev hc A,run_underlying F,C7 rW,goInt,CN]
    ·split at h
     ·rename_i p E;obtain⟨n,hn,i⟩:=h;refine⟨_,i,λhc w' B=>bS ?_⟩;obtain⟨x,t,U,V,rfl,rfl,F,A⟩:=Cx E;obtain⟨r,cap,qZ,s,m,rfl,hb,rfl⟩:=il hn G hc;have rW:w'.heap[r]? =some (.chan cap ⟨qZ⟩ false s m false):=B.obj hb;have qB:(getObj r).run P w'= .ok (.chan cap ⟨qZ⟩ false s m false) w':=by simp[getObj,Sem.run,rW]
      simp[execOp,resolve,invoke,builtin,Ff,l.ev hc A,run_underlying F,qB,goInt,CN]
     ·exact R h
   | _=>exact R h
 |entry it=>
  simp only at h;split at h
  ·rename_i p d A;split at h
   ·obtain⟨x,v,H,i⟩:=h;refine⟨_,i,λhc w' B=>bS ?_⟩;simp only[execOp,B1,l.ev hc A,nS (yx B (il H G hc)),B2,B3]
   ·obtain⟨x,v,H,i⟩:=h;refine⟨_,i,λhc w' B=>bS ?_⟩;simp only[execOp,B1,l.ev hc A,nS (yx B (il H G hc)),B2,B3]
   ·obtain⟨x,v,H,i⟩:=h;refine⟨_,i,λhc w' B=>bS ?_⟩;simp only[execOp,B1,l.ev hc A,nS (yx B (il H G hc)),B2,B3]
   ·exact Ab h
  ·exact Ab h
 |binOp op t x y yt=>
  simp only at h;split at h
  ·rename_i v E;exact pure ⟨none,v⟩ E h
  ·rename_i p v E;exact pure ⟨some p,v⟩ E h
  ·split at h
   ·rename_i p q E;obtain⟨hq,i⟩:=h;exact⟨_,i,λhc w' B=>bS (Yu (o:=⟨dst,.binOp op t x y yt,type,pos,after,guard⟩) (λx v A=>l.ev hc A) E (If B (il hq G hc)))⟩
   ·exact Ab h
 | _=>exact R h
variable {P:Av}
def WF (r:Option Nat):Fence:={DA with round:=r}
theorem jH {r:Option Nat} {n:Nat} {f:B5} {args:Array AC} {w:A2} {R:Ending->A2->Prop}:CallsIn (WF r) n P f args w R<->Calls P f args w R:=
 callsIn_wide
theorem Ws (r:Option Nat) (f:B5):(WF r).fn f:=trivial
theorem Ig (r:Option Nat) (n:Nat):(WF r).room n:=room_wide n
theorem zv {w:A2} {p q:Ad} {v:AC} (h:(w.cell? q).isSome=true):((w.setCell p v).cell? q).isSome=true:=by
 unfold Jt at h ⊢;simp[K1]
 grind
theorem SE {w:A2} {p q:Ad} {v:AC}:(w.setCell p v).frozen? q=w.frozen? q:=by
 simp
theorem Cy {w:A2} {a:Ad} {v:AC} (hv:v.oneCell'=true) (h:(w.cell? a).isSome=true) (b:w.frozen? a=false):(store a v).run P w= .ok () (w.setCell a v):=by
 rw[run_store P w a v _ hv]
 grind
theorem jf: ∀(vs:List AC) (a:Ad) (i:Nat) (w:A2),Dz vs=true->(∀j,j<vs.length->(w.cell? (a.add (i+j))).isSome=true/\w.frozen? (a.add (i+j))=false)->
 (storeCells a vs i).run P w= .ok () (putAt w a vs i)
 |[],a,i,w, _, _=>by rfl
 |v::r,a,i,w,b,h=>by
  simp only[Dz,Hr,BN] at b;have h0:=h 0;simp at h0;have c:=jf r a (i+1) (w.setCell (a.add i) v) b.2 (λj d=>by
   simp_all
   grind[zv])
  simp[storeCells,Cy b.1 h0.1 h0.2,c,putAt]
theorem wrap_i64 {n:Int} (h0: -(2 ^ 63)<=n) (h1:n<2 ^ 63):Dc.wrap n=n:=by
 show(if(true&&decide (n % 2 ^ 64>=2 ^ 63))=true then n % 2 ^ 64 - 2 ^ 64 else n % 2 ^ 64)=n
 grind
theorem run_makeSlice {t e:Ae} {i:TypeInfo} {z:AC} (b:P.underlying t=some (.slice e)) (hi:P.info? e=some i) (c:i.zero=some z) (k d:B4) {n m:Int} (h:aad i.bytes n m) (w:A2):
 (Ok t (.int k n) (.int d m)).run P w= .ok (.slice (some ⟨w.heap.size,0,none⟩) n.toNat m.toNat) (w.alloc (.cells (nA z.cells (m.toNat*i.size)) e)):=by
 obtain⟨h0,h1,p,q⟩:=h;have wn:Dc.wrap n=n:=wrap_i64 (by omega) (by omega);have f:Dc.wrap m=m:=wrap_i64 (by omega) (by omega);have g: ¬ m<0:=by omega
 have j: ¬ n<0:=by omega
 have l: ¬ n>m:=by omega
 have o: ¬ (i.bytes*m>2 ^ 48):=by omega
 unfold Ok;simp only[B1,bz b,B2,asInt,asIntOf,B3,ft hi,wn,f,g,j,l,o,decide_false,J3,Dn,if_false,run_askRoom,dk hi,newRow];by_cases a:m.toNat*i.size=0
 ·simp[a,nA]
 ·simp[a,nA,zeroValue,ft hi,c]
theorem wX {w:A2} {p:Option Ad} {n size len cap:Nat} {vs:List AC} (h:qn w p (n*size) vs):(EU size n (.slice p len cap)).run P w= .ok ⟨vs⟩ w:=by
 cases p with
 |none=>subst h;rfl
 |some a=>
  obtain⟨b⟩:=h;have:=run_loadCellsFrom (P:=P) (w:=w) (a:=a) vs 0 #[] (by grind);rw[b] at this;simp only[EU,loadCells,this];simp
theorem DD {w:A2} {p:Option Ad} {n:Nat} {vs:List AC} (h:qn w p n vs):qn w.drew p n vs:=h
theorem Pb {ts:Array Ae} {t u e:Ae} {i:TypeInfo} {ty:Ae} {p q:Option Ad} {n m k l:Nat} (c:ts= #[t,u]) (d:P.underlying t=some (.slice e))
 (hi:P.info? e=some i) {w:A2} {R:Int->A2->Prop} (h:cpR w i.size (p,n) (q,k) R):
 ∃r b,(Pl ts ty #[.slice p n m,.slice q k l]).run P w= .ok (.int .i64 r) b/\R r b:=by
 subst c;obtain⟨new,f,g,j⟩:=h;have o:(EU i.size _ (.slice q k l)).run P w= .ok ⟨new⟩ w:=wX f;refine⟨_, _,?_,j⟩;unfold Pl;have h0: #[t,u][0]? =some t:=rfl;simp only[h0,I1,Fx,I2,B1,bz d,B2,dk hi,Kg,B3,o];cases p with
 |none=>
  rfl
 |some a=>
  rcases g with h|rfl|⟨⟨a',s,hc⟩,v⟩
  ·cases h
  ·rfl
  ·cases s;have x:=jf (P:=P) new a 0 w v (by grind);simp only[B1,x,B2,B3,goInt];rfl
theorem F6 {ts:Array Ae} {t u e y:Ae} {i:TypeInfo} {z:AC} {ty:Ae} {p q:Option Ad} {n m k l:Nat} (A:ts= #[t,u]) (f:P.underlying t=some (.slice e)) (g:P.underlying u=some (.slice y))
 (hi:P.info? e=some i) (B:i.zero=some z) (hb:i.bytes≠0) {w:A2} {R:Option Ad×Nat×Nat->A2->Prop} (h:m7 w e i.size i.bytes z.cells (p,n,m) (q,k,l) R):
 ∃r o,(LL ts ty #[.slice p n m,.slice q k l]).run P w= .ok (.slice r.1 r.2.1 r.2.2) o/\R r o:=by
 subst A;obtain⟨fa,new,C,s,D,E⟩:=h;have F:(EU i.size k (.slice q k l)).run P w= .ok ⟨new⟩ w:=wX s;by_cases b:n+k<=m
 ·obtain⟨G,d⟩:=D b;refine⟨_, _,?_,d⟩;unfold LL;have h0:(#[t,u]:Array Ae)[0]? =some t:=rfl;have h1:(#[t,u]:Array Ae)[1]? =some u:=rfl;simp only[h0,h1,I1,Fx,I2,B1,bz f,bz g,B2,dk hi,Kg,B3,Dn,if_false,b,if_true,Nd,F];cases p with
  |none=>
   simp only[B3,ju,Pp]
  |some a=>
   rcases G with rfl|⟨⟨a',v,hc⟩,H⟩
   ·simp[storeCells,ju,putAt]
   ·simp only[Fu,C6] at v;subst v;have I:=jf (P:=P) new (a.add (n*i.size)) 0 w H (λj J=>by simpa using hc j J);rw[B1,I];rfl
 ·obtain⟨K,d⟩:=E (by show m<n+k;omega);have L:=λc hc=>d c hc;have M: ∀(x:Nat),n+k<=(Question.appendCap (n+k) m e).cut x:=λx=>by simp[Question.cut]
  refine⟨_, _,?_,L ((Question.appendCap (n+k) m e).cut (w.tape w.drawn (.appendCap (n+k) m e))) (M _)⟩;unfold LL;have h0:(#[t,u]:Array Ae)[0]? =some t:=rfl;have h1:(#[t,u]:Array Ae)[1]? =some u:=rfl;have N: ¬ (((n+k:Nat):Int)>Dc.max/\(False\/i.bytes=0)):=by simp[hb]
  have O: ¬ (PS (n+k) m*i.bytes>2 ^ 48):=by simp only at K;omega
  have Q:(EU i.size n (.slice p n m)).run P w.drew= .ok ⟨fa⟩ w.drew:=wX (DD C);have S:(EU i.size k (.slice q k l)).run P w.drew= .ok ⟨new⟩ w.drew:=wX (DD s);simp only[h0,h1,I1,Fx,I2,B1,bz f,bz g,B2,dk hi,Kg,B3,Dn,if_false,b,Nd,if_true,
   ft hi]
  rw[if_neg N];simp only[B1,ft hi,B2,O,if_false,run_choose_drew,Question.forced,Dn,run_askRoom,Q,S,zeroValue,B,newRow,B3,run_newObj_alloc];rfl
theorem zw {t e:Ae} {i:TypeInfo} {z:AC} {len:Nat} {parts:Array (Nat×AC)} {ps:List (Nat×AC)} {cs:Array AC} (c:P.underlying t=some (.slice e)) (hi:P.info? e=some i) (d:i.zero=some z)
 (f:parts.toList=ps) (g:Am (λk=>some (k*i.size,i.size)) ⟨(BK (len*i.size)).map (z.cells.toList[· % z.cells.toList.length]!)⟩ ps=some cs) (j:len*i.size<=2 ^ 24) (w:A2):
 (PP t len parts).run P w= .ok (.slice (some ⟨w.heap.size,0,none⟩) len len) (w.alloc (.cells cs e)):=by
 have h: ¬ len*i.size>2 ^ 24:=by omega
 have a:HB (λk=>some (k*i.size,i.size)) ((Array.range (len*i.size)).map ((if len*i.size=0 then #[] else z.cells)[· % (if len*i.size=0 then #[] else z.cells).size]!)) ps=some cs:=by
  rw[<-yq g];congr 1
  grind
 unfold PP;simp only[B1,bz c,B2,dk hi,h,newRow];by_cases b:len*i.size=0
 simp_all
 ·simp only[b,if_false] at a;simp only[b,if_false,zeroValue,B1,ft hi,B2,d,B3,f,a];simp
theorem cT {r:Option Nat} {ev:Operand->AC} {o:Oper} (h: ∀c,o.op≠ .defer c):o.semAt (WF r).round ev=execOp ev o:=Oper.semAt_eq _ _ _ h
variable {S:Nat->Option (Option AC)} {ops:Array Oper} {N:Nat} {D:List Deferred} {env:List bF} {a:Act}
def eT (o:Oper):Bool:=
 match o.op with
 | .alloc _| .box .. | .buildSlice .. | .makeSlice .. | .makeMap .. | .makeChan .. =>true
 | _=>false
def BC (C:dj P) (o:Oper):Bool:=
 match o.op with
 | .move _| .assign _| .pick .. | .alloc _| .box .. | .buildSlice .. | .makeSlice .. | .makeMap .. | .makeChan .. | .build .. | .load .. | .nilCheck _| .binOp .. | .unOp .. | .convert .. | .makeFunc .. | .slice .. | .fieldAddr .. | .field .. | .indexAddr .. | .index .. | .extract .. | .lookup .. =>false
 | .call c=>match c.callee with
   | .value (.func f)=> !((xL C.rX f).isSome||C.quiet.contains f)
   | .builtin .len| .builtin .min| .builtin .max=>false
   | _=>true
 | _=>true
theorem Pc {C:dj P} {ρ:Operand->Option AC} {o:Oper} (a: ∀f,ρ (.func f)=some (.func (.func f) #[] #[])) (h:BC C o=false) (b:NI C ρ o=true):eT o=true:=by
 grind[BC,NI,eT]
theorem F7 {P:Av} {ts:Array Ae} {ty t u d k:Ae} {kd:B4} {n:Int} {w:A2} {r:Nat} {es:Array CH} {e:Nat} {K:A2->Prop} (l:ts= #[t,u]) (f:P.underlying t=some (.map d k)) (a:P.underlying d=some (.int kd)) (hb:bE w r es e)
 (h:zS w r kd n es e K): ∃g,(M4 ts ty #[.map (some r),.int kd n]).run P w= .ok (.tuple #[]) g/\K g:=by
 subst l;have b:=hb;have j:H6 (.int kd) (.int kd n):=by rfl
 unfold zS at h;split at h
 ·rename_i c;refine⟨_,?_,h⟩;simp[M4,run_underlying f,C7 b,CV a j,CX a c,H7 _ b,EO]
 ·rename_i i v c;refine⟨_,?_,h⟩;simp[M4,run_underlying f,C7 b,CV a j,CX a c,H7 _ b,CN,EO]
 grind
theorem Yw {r:Option Nat} {o:Oper} {w w':A2} {K:AC->A2->Prop} {next:Act->A2->Prop} {Q:Exit->Act->A2->Prop} (A:Fit S ops N D env a)
 {C:dj P} (h:eop C (wS env []) o w K) (I:Ext w w') (G: ∀v H,K v H->(eT o=true->Ext w' H)->next (a.put o.dst v) H):o.wpIn (WF r) 0 P a w' next Q:=by
 have hc:jK ops a.tmps []:=λx g=>by cases g
 refine⟨λ_ _=>trivial,?_⟩;obtain⟨dst,op,type,pos,after,guard⟩:=o;unfold eop at h;cases op<;>simp only at h<;>(try exact Ab h)
 case store t x y=>
  rw[cT (by simp)];split at h
  ·rename_i p v i g hy hi;split at h
   ·rename_i R;obtain⟨⟨ho,a0,hp,Yx⟩,B⟩:=h w' I;subst hp;have gx:v.cells.size=i.size:=by simpa[uD] using R
    have u9:=jf (P:=P) (uD v) a0 0 w' ho (λj hj=>by simpa using Yx j hj);have:(execOp a.eval ⟨dst,.store t x y,type,pos,after,guard⟩).run P w'= .ok .skip (ju w' (some a0) (uD v)):=by
     simp only[execOp,Instr.storeAt,A.ev hc g,A.ev hc hy,HG,storeVar,B1,B3,B2,dk hi,gx,ne_eq,not_true,if_false];rw[show v.cells.toList=uD v from rfl,u9];rfl
    rw[this];exact G _ _ B (λE=>by simp[eT] at E)
   ·exact Ab h
  ·exact Ab h
 case mapUpdate t m x v=>
  rw[cT (by simp)];split at h
  ·rename_i kt T p kd n val J U g hv;split at h
   ·rename_i ZG V;split at h
    ·rename_i W;subst W;obtain⟨r,es,M,rfl,hb,X⟩:=h w' I;obtain⟨H,dN,B⟩:=Az J V hb X;have:(execOp a.eval ⟨dst,.mapUpdate t m x v,type,pos,after,guard⟩).run P w'= .ok .skip H:=by
      simp only[execOp,B1,A.ev hc U,A.ev hc g,A.ev hc hv,dN,B2,B3]
     rw[this];exact G _ _ B (λE=>by simp[eT] at E)
    ·exact Ab h
   ·exact Ab h
  ·exact Ab h
 case insert t m x v=>
  rw[cT (by simp)];split at h
  ·rename_i kt T p kd n val J U g hv;split at h
   ·rename_i ZG V;split at h
    ·rename_i W;subst W;obtain⟨r,es,M,rfl,hb,X⟩:=h w' I;obtain⟨H,dN,B⟩:=Az J V hb X;have:(execOp a.eval ⟨dst,.insert t m x v,type,pos,after,guard⟩).run P w'= .ok .skip H:=by
      simp only[execOp,B1,A.ev hc U,A.ev hc g,A.ev hc hv,dN,B2,B3]
     rw[this];exact G _ _ B (λE=>by simp[eT] at E)
    ·exact Ab h
   ·exact Ab h
  ·exact Ab h
 case alloc e=>
  rw[cT (by simp)];split at h
  ·rename_i i hi;split at h
   ·rename_i z O;have h:aK w z.cells e (λb H=>K (.pointer (some ⟨b,0,none⟩)) H):=by
     have e1:XP P e=z.cells:=by unfold XP;simp only[hi,O]
     split at h
     ·rw[e1] at h;exact h
     ·exact h
    have B:=h w' I;have:(execOp a.eval ⟨dst,.alloc e,type,pos,after,guard⟩).run P w'= .ok (.value (.pointer (some ⟨w'.heap.size,0,none⟩))) (w'.alloc (.cells z.cells e)):=by
     simp[execOp,Instr.alloc,zeroValue,ft hi,O,newVar,newRow]
    rw[this];exact G _ _ B (λ_=>Ext.alloc _ _)
   ·exact Ab h
  ·exact Ab h
 case box e x=>
  rw[cT (by simp)];split at h
  ·rename_i v hv;have B:=h w' I;have:(execOp a.eval ⟨dst,.box e x,type,pos,after,guard⟩).run P w'= .ok (.value (.pointer (some ⟨w'.heap.size,0,none⟩))) (w'.alloc (.cells v.cells e)):=by
    simp[execOp,Instr.box,A.ev hc hv,newVar,newRow]
   rw[this];exact G _ _ B (λ_=>Ext.alloc _ _)
  ·exact Ab h
 case buildSlice t len parts=>
  rw[cT (by simp)];split at h
  ·rename_i el ps J SV;split at h
   ·rename_i i hi;split at h
    ·rename_i z O;split at h
     ·rename_i cs fq;split at h
      ·rename_i hlen;have B:=h w' I;have e:=yr (λx v g=>A.ev hc g) SV;have e':(parts.map λ(i,x)=>(i,a.eval x)).toList=ps:=by rw[<-e];simp
       have dN:=zw (P:=P) J hi O e' fq hlen w';have:(execOp a.eval ⟨dst,.buildSlice t len parts,type,pos,after,guard⟩).run P w'= .ok (.value (.slice (some ⟨w'.heap.size,0,none⟩) len len)) (w'.alloc (.cells cs el)):=by
        simp only[execOp,B1,dN,B2,B3]
       rw[this];exact G _ _ B (λ_=>Ext.alloc _ _)
      ·exact Ab h
     ·exact Ab h
    ·exact Ab h
   ·exact Ab h
  ·exact Ab h
 case makeSlice t l c=>
  rw[cT (by simp)];split at h
  ·rename_i el k n k' m J hl Bo;split at h
   ·rename_i i hi;split at h
    ·rename_i z O;obtain⟨jM,B⟩:=h w' I;have dN:=run_makeSlice (P:=P) J hi O k k' jM w';have:(execOp a.eval ⟨dst,.makeSlice t l c,type,pos,after,guard⟩).run P w'= .ok (.value (.slice (some ⟨w'.heap.size,0,none⟩) n.toNat m.toNat)) (w'.alloc (.cells (nA z.cells (m.toNat*i.size)) el)):=by
      simp only[execOp,A.ev hc hl,A.ev hc Bo,B1,dN,B2,B3]
     rw[this];exact G _ _ B (λ_=>Ext.alloc _ _)
    ·exact Ab h
   ·exact Ab h
  ·exact Ab h
 case makeMap t rs=>
  rw[cT (by simp)];split at h
  ·have B:=h w' I;have:(execOp a.eval ⟨dst,.makeMap t none,type,pos,after,guard⟩).run P w'= .ok (.value (.map (some w'.heap.size))) (w'.alloc (.map #[] 0)):=by
    simp[execOp,Instr.makeMap]
   rw[this];exact G _ _ B (λ_=>Ext.alloc _ _)
  ·exact Ab h
 case makeChan t sz=>
  rw[cT (by simp)];split at h
  ·rename_i d e k n J R;split at h
   ·rename_i i hi;split at h
    ·rename_i hn;have B:=h w' I;have hb: ¬ (n<0\/n>Dc.max\/i.bytes*n>2 ^ 48 - 112):=by
      have:Dc.max=9223372036854775807:=by decide
      omega
     have:(execOp a.eval ⟨dst,.makeChan t sz,type,pos,after,guard⟩).run P w'= .ok (.value (.chan (some w'.heap.size))) (w'.alloc (.chan n.toNat #[] false 0 0 false)):=by
      have rW: ¬ (n<0\/9223372036854775807<n\/281474976710544<(i.bytes:Int)*n):=by omega
      simp[execOp,Instr.makeChan,A.ev hc R,asInt,asIntOf,run_underlying J,ft hi];exact λc=>absurd c rW
     rw[this];exact G _ _ B (λ_=>Ext.alloc _ _)
    ·exact Ab h
   ·exact Ab h
  ·exact Ab h
 case range xt x=>
  rw[cT (by simp)];split at h
  ·rename_i kt T p J g;obtain⟨r,es,M,rfl,hb,B⟩:=h w' I;have rW:w'.heap[r]? =some (.map es M):=hb;have:(execOp a.eval ⟨dst,.range xt x,type,pos,after,guard⟩).run P w'= .ok (.value (.pointer (some ⟨w'.heap.size,0,none⟩))) (w'.alloc (.mapIter (some r) M #[] M)):=by
    simp[execOp,Instr.range,A.ev hc g,run_underlying J,C7 rW,CN]
   rw[this];exact G _ _ B (λE=>by simp[eT] at E)
  ·exact Ab h
 case next it b=>
  rw[cT (by simp)];split at h
  ·rename_i p g;obtain⟨r,m,since,seen,last,es,M,rfl,hr,hb,si,hold,k0,k1⟩:=h w' I;rcases run_next_at (P:=P) w' type r m since last seen es M hr hb hold si with ⟨h0,dN⟩|⟨e,L,w1,rb,dN⟩
   ·have:(execOp a.eval ⟨dst,.next it false,type,pos,after,guard⟩).run P w'= .ok (.value (.tuple ⟨[.bool false]⟩)) w':=by
     simp only[execOp,B1,A.ev hc g,dN,B2,B3]
    rw[this];refine G _ _ (k0 (λe L=>?_) w' (Ext.refl _)) (λE=>by simp[eT] at E);unfold leftOf at h0;have h1:=Array.eq_empty_of_size_eq_zero h0;rw[Array.filter_eq_empty_iff] at h1;simpa using h1 e (by simpa using L)
   ·have:(execOp a.eval ⟨dst,.next it false,type,pos,after,guard⟩).run P w'= .ok (.value (.tuple ⟨[.bool true,e.key,e.val]⟩)) (w1.putObj r (.mapIter (some m) since (seen.push e.born) M)):=by
     simp only[execOp,B1,A.ev hc g,dN,B2,B3];rfl
    rw[this];unfold leftOf at L;have jL:e∈es.toList/\seen.contains e.born=false:=by simpa using L
    refine G _ _ (k1 e jL.1 jL.2 w1 ?_) (λE=>by simp[eT] at E);rcases rb with rfl|rfl
    ·exact Ext.refl _
    ·exact⟨rfl,rfl,rfl,Cb _,λk B=>rfl⟩
  ·exact Ab h
 case call c=>
  obtain⟨callee,args,ts⟩:=c;rw[cT (by simp)];simp only at h;split at h
  ·
   split at h
   ·rename_i m x t u NK aae;split at h
    ·rename_i kt T p kd n J U g;split at h
     ·rename_i ZG V;split at h
      ·rename_i W;subst W;obtain⟨r,es,M,rfl,hb,X⟩:=h w' I;have Y:args= #[m,x]:=by cases args;simp_all
       have et':ts= #[t,u]:=by cases ts;simp_all
       obtain⟨H,dN,B⟩:=F7 (P:=P) (ty:=type) et' J V hb X;have:(execOp a.eval ⟨dst,.call ⟨.builtin .delete,args,ts⟩,type,pos,after,guard⟩).run P w'= .ok (.value (.tuple ⟨[]⟩)) H:=by
        subst Y;simp only[execOp,resolve,B1,B3,B2,invoke,builtin,G1,GS,Ga,A.ev hc U,A.ev hc g,dN]
       rw[this];exact G _ _ B (λE=>by simp[eT] at E)
      ·exact Ab h
     ·exact Ab h
    ·exact Ab h
   ·exact Ab h
  ·
   split at h
   ·rename_i s x t u NK aae;split at h
    ·rename_i e ue p n m q k l J hu' R g;split at h
     ·rename_i i hi;split at h
      ·rename_i z O;split at h
       ·exact Ab h
       ·rename_i hb;have SY:=h w' I;have Y:args= #[s,x]:=by cases args;simp_all
        have T:ts= #[t,u]:=by cases ts;simp_all
        obtain⟨res,H,dN,Z⟩:=F6 (P:=P) (ty:=type) T J hu' hi O hb SY;have:(execOp a.eval ⟨dst,.call ⟨.builtin .append,args,ts⟩,type,pos,after,guard⟩).run P w'= .ok (.value (.slice res.1 res.2.1 res.2.2)) H:=by
         subst Y;simp only[execOp,resolve,B1,B3,B2,invoke,builtin,G1,GS,Ga,A.ev hc R,A.ev hc g,dN]
        rw[this];exact G _ _ Z (λE=>by simp[eT] at E)
      ·exact Ab h
     ·exact Ab h
    ·exact Ab h
   ·exact Ab h
  ·
   split at h
   ·rename_i s x t u NK aae;split at h
    ·rename_i e p n m q k l J R g;split at h
     ·rename_i i hi;have SY:=h w' I;have Y:args= #[s,x]:=by cases args;simp_all
      have T:ts= #[t,u]:=by cases ts;simp_all
      obtain⟨res,H,dN,Z⟩:=Pb (P:=P) (ty:=type) (m:=m) (l:=l) T J hi SY;have:(execOp a.eval ⟨dst,.call ⟨.builtin .copy,args,ts⟩,type,pos,after,guard⟩).run P w'= .ok (.value (.int .i64 res)) H:=by
       subst Y;simp only[execOp,resolve,B1,B3,B2,invoke,builtin,G1,GS,Ga,A.ev hc R,A.ev hc g,dN]
      rw[this];exact G _ _ Z (λE=>by simp[eT] at E)
     ·exact Ab h
    ·exact Ab h
   ·exact Ab h
  ·rename_i f;split at h
   ·
    rename_i s t;split at h
    ·rename_i v acz hf has;obtain⟨fQ,first,cap,rfl,q_,B⟩:=h w' I;have dN:=sT (P:=P) (dst:=dst) (type:=type) (pos:=pos) (after:=after) (guard:=guard) (ts:=ts) (A.ev hc hf) (lU (λx v g=>A.ev hc g) has) (w:=w') q_;rw[dN];refine⟨by simp[WF,DA],?_⟩;refine(jH (n:=0 - 1)).2 ?_;refine E5 B λe H ⟨x,L,g⟩=>?_;subst L;exact G _ _ g (λE=>by simp[eT] at E)
    ·exact Ab h
   rename_i f _ _ _;split at h
   ·
    rename_i l first cp acz hf has
    obtain⟨rec,zT,hlen,Yy⟩:=h w' I;have e:(first++args.map a.eval:Array AC)=⟨first.toList++acz⟩:=by
     have:=lU (λx v g=>A.ev hc g) has;rw[<-this];obtain⟨l1⟩:=first;obtain⟨l2⟩:=args
     simp
    have dN:=run_yield (P:=P) (args:=⟨first.toList++acz⟩) zT (by simpa using hlen);have:(execOp a.eval ⟨dst,.call ⟨.value f,args,ts⟩,type,pos,after,guard⟩).run P w'= .ok (.round l rec.fn ((rec.params.zip ⟨first.toList++acz⟩).foldl (λtmps (t,a)=>tmps.setIfInBounds t a) rec.tmps) rec.assign rec.body) w':=by
     simp only[execOp,resolve,Deferred.ofValue,A.ev hc hf,B1,B3,B2,invoke];rw[e,dN]
    rw[this];refine⟨by simp[WF,DA],?_⟩;refine RoundIn.mono (F:=WF r) (n:=0 - 1) Yy λe H ⟨b,L,Z⟩=>?_;subst L;exact G _ _ Z (λE=>by simp[eT] at E)
   ·rename_i fQ first cap acz hf has
    split at h
    ·rename_i q_;have B:=h w' I;have dN:=sT (P:=P) (dst:=dst) (type:=type) (pos:=pos) (after:=after) (guard:=guard) (ts:=ts) (A.ev hc hf) (lU (λx v g=>A.ev hc g) has) (w:=w') q_;rw[dN];refine⟨by simp[WF,DA],?_⟩;refine(jH (n:=0 - 1)).2 ?_;refine E5 B λe H ⟨x,L,g⟩=>?_;subst L;exact G _ _ g (λE=>by simp[eT] at E)
    ·exact Ab h
   ·exact Ab h
  ·exact Ab h
theorem AA {o:Oper} {c:Call} (b:o.op= .defer c) {w:A2} {v:AC} (h:di P o a w v):False:=by
 obtain⟨dst,op,type⟩:=o;unfold di execOp at h
 simp_all
 generalize (resolve _ c type).run P w=res at h;cases res<;>simp at h
def Wr (S:Nat->Option (Option AC)) (ops:Array Oper):Prop:= ∀o∈ops, ∀k,o.dst=some k->S k=none
theorem Cz {α:Type} {l:List α} (h:l.getLast?=none):l=[]:=List.getLast?_eq_none_iff.1 h
theorem yy {r:Option Nat} {C:dj P} {i:Nat} {o:Oper} {Q:Exit->Act->A2->Prop} (y:ops[i]? =some o) (l: ∀k,o.dst=some k->S k=none):
 ∀(n:Nat) (env:List bF) (w w':A2) (K:List bF->A2->Prop),Fit S ops N D env a->Ni C ops N o n env w K->Ext w w'->
 wpOpIn (WF r) 0 P ops Q i (λa1 w1=>(BC C o=false->Ext w' w1)/\ ∃cJ H,K cJ H/\Fit S ops N D cJ a1/\Ext H w1) a w'
 |0, _, _, _, _, _,h, _=>Ab h
 |n+1,env,w,w',K,b,h,j=>by
  simp only[Ni,nC,jE] at h;split at h
  ·exact Ab h
  ·rename_i E;have z:=Ca b E;split at h
   ·rename_i s;unfold wpOpIn;simp only[y];rw[if_neg (by rw[z];simp)];exact⟨λ_ _=>trivial,λ_=>Ext.refl _, _,w,h,b.put s l rfl (λ_=>rfl) (λm=>absurd ee m),j⟩
   ·exact Ab h
  ·rename_i ch g E;obtain⟨A,z⟩:=NJ b E;split at h
   ·rename_i s;split at h
    ·rename_i L;split at h
     ·rename_i M;have:ch=[]:=Cz M;subst this;unfold wpOpIn;simp only[y];rw[if_pos (z.2 ee)];refine Yw b h j λv F p q=>⟨λO=>q (Pc (C:=C) (ρ:=wS env []) (λ_=>rfl) O L), _,F,p,?_,Ext.refl _⟩;exact b.put s l rfl (λ_=>rfl) (λm=>absurd ee m)
     ·split at h
      ·rename_i d I;split at h
       ·rename_i e B;split at h
        ·rename_i x q;split at h
         ·rename_i R;have J:e.ch=[]:=by simpa using R
          cases x with
          |true=>exact yy y l n _ w w' K (b.settle I B J q) h j
          |false=>exact yy y l n _ w w' K (b.settle I B J q) h j
         ·exact Ab h
        ·exact Ab h
       ·exact Ab h
      ·exact Ab h
    ·obtain⟨v,p,T⟩:=yh b A h;replace p:=rM p;unfold wpOpIn;simp only[y];by_cases hc:jK ops a.tmps ch
     ·rw[if_pos (z.2 hc)];have t:=T hc w' j;have U: ∀c,o.op≠ .defer c:=by
       intro c V;exact AA V t
      refine⟨λ_ _=>trivial,?_⟩;rw[cT U];unfold di at t;split at t
      ·rename_i u F dN;obtain⟨rfl,rfl⟩:=t;rw[dN];exact⟨λ_=>Ext.refl _, _,w,p,b.put s l A (λ_=>rfl) (λm=>absurd hc m),j⟩
      ·rename_i f args F dN;obtain⟨rfl,W⟩:=t;rw[dN];refine⟨by simp[WF,DA],(jH (n:=0 - 1)).2 ?_⟩;refine E5 W λe X ⟨B,q⟩=>?_;subst B;exact⟨λ_=>q, _,w,p,b.put s l A (λ_=>rfl) (λm=>absurd hc m),j.trans q⟩
      ·exact t.elim
     ·rw[if_neg (λG=>hc (z.1 G))];exact⟨λ_ _=>trivial,λ_=>Ext.refl _, _,w,p,b.put s l A (λG=>absurd G hc) (λ_=>rfl),j⟩
   ·exact Ab h
theorem DE {r:Option Nat} {C:dj P} {i:Nat} {w w':A2} {K:List bF->A2->Prop} {Q:Exit->Act->A2->Prop} (c:Wr S ops) (d:Fit S ops N D env a)
 (h:Fi C ops N i env w K) (e:Ext w w'):wpOpIn (WF r) 0 P ops Q i (λa1 w1=>(((ops[i]?).map (BC C)).getD true=false->Ext w' w1)/\ ∃cJ b,K cJ b/\Fit S ops N D cJ a1/\Ext b w1) a w':=by
 unfold Fi at h;cases f:ops[i]? with
 |none=>grind
 |some o=>
  simp_all
  have:=yy (r:=r) (Q:=Q) f (c o (by grind)) _ env w w' K d h e;omega
theorem Og {r:Option Nat} {C:dj P} {Q:Exit->Act->A2->Prop} (e:Wr S ops): ∀(l:List Nat) (env:List bF) (a:Act) (w w':A2) (K:List bF->A2->Prop),Fit S ops N D env a->
 rxL C ops N l env w K->Ext w w'->(∀env a w w',K env w->Fit S ops N D env a->Ext w w'->Q .normal a w')->wpOpsIn (WF r) 0 P ops Q l a w'
 |[],env,a,w,w',K,b,h,c,d=>d env a w w' h b c
 |i::l,env,a,w,w',K,b,h,c,d=>by
  exact wpOpIn_mono (λa1 w1 ⟨_,cJ,f,g,j,k⟩=>Og e l cJ a1 f w1 K j g k d) (DE e b h c)
variable {P:Av}
def mh (r:Option Nat) (P:Av) (ops:Array Oper) (Q:Exit->Act->A2->Prop) (Hm:Nat->Bool) (T:Nat->A2->Prop):Nat->Array Bool->Act->A2->Prop
 |0,b,a,w=> ∀w',Ext w w'->BJ .any ops b=[]/\Q .normal a w'
 |fuel+1,b,a,w=> ∀w',Ext w w'->(BJ .any ops b=[]->Q .normal a w')/\
  ∀i∈BJ .any ops b,wpOpIn (WF r) 0 P ops Q i (λa1 w1=>(Hm i=false->Ext w' w1)/\(Hm i=true->T i w1)/\mh r P ops Q Hm T fuel (b.setIfInBounds i true) a1 w1) a w'
section
variable {r:Option Nat} {ops:Array Oper} {Q:Exit->Act->A2->Prop} {Hm:Nat->Bool} {T:Nat->A2->Prop}
theorem nN {b:Nat} {c:Array Bool} {a:Act} {w w':A2} (h:mh r P ops Q Hm T b c a w) (d:Ext w w'):mh r P ops Q Hm T b c a w':=by
 cases b with
 |zero
 |succ=>exact λe f=>h e (d.trans f)
theorem yZ: ∀(fuel:Nat) (b:Array Bool) (a:Act) (w:A2),mh r P ops Q Hm T fuel b a w->wpAnyIn (WF r) 0 P .any ops Q fuel b a w
 |0, _, _,w,h=>h w (Ext.refl w)
 |fuel+1, _, _,w,h=>⟨(h w (Ext.refl w)).1,λi hi=>wpOpIn_mono (λa1 w1 c=>yZ fuel _ a1 w1 c.2.2) ((h w (Ext.refl w)).2 i hi)⟩
theorem pB {T T':Nat->A2->Prop} (e: ∀j w,T' j w->T j w): ∀(fuel:Nat) (b:Array Bool) (a:Act) (w:A2),mh r P ops Q Hm T' fuel b a w->mh r P ops Q Hm T fuel b a w
 |0, _, _, _,h=>h
 |fuel+1, _, _, _,h=>λw' c=>⟨(h w' c).1,λi hi=>wpOpIn_mono (λa1 w1 d=>⟨d.1,by grind,pB e fuel _ a1 w1 d.2.2⟩) ((h w' c).2 i hi)⟩
def fL (P:Av) (ops:Array Oper) (o:Oper) (v:AC) (a:Act) (w:A2):Prop:=
 (BO o (yielded ops a.tmps)=true/\ ∀w',Ext w w'->di P o a w' v)\/
 (BO o (yielded ops a.tmps)=false/\v=undef)
theorem fL.of_same {o:Oper} {v:AC} {a a':Act} {w:A2} (b:fL P ops o v a w) (c:execOp a'.eval o=execOp a.eval o)
 (d:BO o (yielded ops a'.tmps)=BO o (yielded ops a.tmps)):fL P ops o v a' w:=by grind[fL,di]
theorem fL.op {i:Nat} {o:Oper} {v:AC} {a:Act} {w w':A2} (hi:ops[i]? =some o) (d:fL P ops o v a w) (g:Ext w w') {K:Act->A2->Prop}
 (h: ∀w1,Ext w' w1->K (a.put o.dst v) w1):wpOpIn (WF r) 0 P ops Q i K a w':=by
 unfold wpOpIn;simp only[hi];rcases d with ⟨j,k⟩
 ·rw[if_pos j];have b:=k w' g;refine⟨λ_ _=>trivial,?_⟩;rw[cT (λc l=>AA l b)];unfold di at b;split at b
  ·rename_i u m dN;obtain⟨rfl,rfl⟩:=b;rw[dN];exact h _ (Ext.refl _)
  ·rename_i f args m dN;obtain⟨rfl,p⟩:=b;rw[dN];refine⟨by simp[WF,DA],(jH (n:=0 - 1)).2 ?_⟩;refine E5 p λe q=>?_
   grind
  ·exact b.elim
 ·simp_all
  exact⟨λ_ _=>trivial,h _ (Ext.refl _)⟩
def yi (ops:Array Oper) (o:Oper) (a a0:Act):Prop:=execOp a.eval o=execOp a0.eval o/\BO o (yielded ops a.tmps)=BO o (yielded ops a0.tmps)
theorem JY {j:Nat} {g k:Oper} {v:AC} {a0:Act} (t:ops[j]? =some k) (y:g.apart ops k=true)
 (z: ∀cs b,g.op≠ .select cs b) (A: ∀cs b,k.op≠ .select cs b) (p: ∀c,k.op≠ .defer c)
 (C: ∀c a w,¬ Q (.panic c) a w) {K:Act->A2->Prop} {a:Act} {w':A2}
 (i:yi ops g a a0) (h:wpOpIn (WF r) 0 P ops Q j K (a.put g.dst v) w'):
 wpOpIn (WF r) 0 P ops Q j (λa1 w1=>yi ops g a1 a0/\K (a1.put g.dst v) w1) a w':=by
 obtain⟨h1,m,q⟩:=Oper.apart_spec y;have dq: ∀(a:Act),yi ops g a a0-> ∀u,yi ops g (a.put k.dst u) a0:=λa i u=>
  ⟨(execOp_put g z a k.dst u q).trans i.1,(wanted_put g a k.dst u q).trans i.2⟩
 unfold wpOpIn at*
 simp only[t] at*
 rw[wanted_put k a g.dst v h1] at h;split
 ·rename_i o;simp only[o,if_true] at h;refine⟨λ_ _=>trivial,?_⟩;have h:=h.2;rw[cT p,execOp_put k A a g.dst v h1] at h;rw[cT p];generalize (execOp a.eval k).run P w'=res at*
  cases res with
  |ok x B=>
   cases x<;>simp only[Oper.uponIn] at h ⊢
   case value u=>exact⟨dq a i u,by rw[<-Db a v u m];exact h⟩
   case skip=>exact⟨dq a i _,by rw[<-Db a v undef m];exact h⟩
   case defer d=>
    refine⟨dq ({a with defers:=d::a.defers}:Act) ⟨i.1,i.2⟩ undef,?_⟩;rw[<-Db _ v undef m, <-Act.put_defers];exact h
   case enter f args=>
    refine⟨h.1,CallsIn.mono h.2 λe s n=>?_⟩;cases e with
    |returned u=>exact⟨dq a i u,by rw[<-Db a v u m];exact n⟩
    |panicked c=>grind
    |outgrown=>exact n
   case row row args=>exact⟨h.1,RowsIn.mono h.2 λu s n=>⟨dq a i u,by rw[<-Db a v u m];exact n⟩⟩
   case round l f tmps assign body=>
    refine⟨h.1,RoundIn.mono h.2 λe s n=>?_⟩;cases e with
    |returned u=>exact⟨dq a i u,by rw[<-Db a v u m];exact n⟩
    |panicked c=>simp_all
    |outgrown=>exact n
  |halt x B=>
   cases x<;>simp only[Oper.uponIn] at h ⊢
   grind
 ·rename_i o;simp only[o] at h;exact⟨λ_ _=>trivial,dq a i _,by rw[<-Db a v undef m];exact h.2⟩
def mfO (o:Oper):Bool:=match o.op with
 | .move _=>true
 | .assign _=>true
 | .extract .. =>true
 | _=>false
theorem fL.mf {o:Oper} {v:AC} {a:Act} {w w1:A2} (g:mfO o=true) (f:fL P ops o v a w):fL P ops o v a w1:=by
 obtain⟨dst,op,type,pos,after,guard⟩:=o;cases op with
 |move x
 |assign x=>
  rcases f with ⟨b,c⟩|d
  ·refine .inl ⟨b,λh _=>?_⟩;have:=c w (Ext.refl w);simp only[di,execOp,B3] at this ⊢;omega
  ·exact .inr d
 |extract x k=>
  rcases f with ⟨b,c⟩|d
  ·refine .inl ⟨b,λh _=>?_⟩;have:=c w (Ext.refl w);cases e:a.eval x with
   |tuple vs=>
    cases hv:vs[k]? with
    |none=>simp[di,execOp,HZ,e,hv] at this
    |some u=>
     simp only[di,execOp,HZ,e,hv,B1,B3,B2] at this ⊢;omega
   | _=>simp[di,execOp,HZ,e] at this
  ·exact .inr d
 | _=>cases g
theorem tB {i:Nat} {g:Oper} {v:AC} {W:Nat->Bool} {T T':Nat->A2->Prop} {a0:Act} (hi:ops[i]? =some g) (J:Hm i=false) (D: ∀(j:Nat) (o:Oper),ops[j]? =some o->(∀cs b,o.op≠ .select cs b)/\ ∀c,o.op≠ .defer c)
 (R: ∀c a w,¬ Q (.panic c) a w) (E: ∀j w,T' j w->T j w):
 ∀(t:Nat) (d:Array Bool) (a:Act) (w:A2),
  (∀j m,ops[j]? =some m->j≠i->d.getD j true=false->W j=false->g.apart ops m=true/\(Hm j=false\/mfO g=true\/ ∀w1,T' j w1->fL P ops g v a0 w1))->
  (∀j,W j=true->d.getD j true=false/\ ∃m,ops[j]? =some m/\ ∃e∈m.after,CP .any e=true/\(e.on=i\/W e.on=true))->
  i∈BJ .any ops d->yi ops g a a0->fL P ops g v a0 w->
  mh r P ops Q Hm T' t (d.setIfInBounds i true) (a.put g.dst v) w->mh r P ops Q Hm T (t+1) d a w:=by
 have nil: ∀(d:Array Bool),i∈BJ .any ops d->BJ .any ops d≠[]:=λl K h=>by rw[h] at K;cases K
 intro t
 induction t with
 |zero=>
  intro d a w _ _ u s x H w' n;refine⟨λh=>absurd h (nil d u),λj y=>?_⟩;by_cases p:j=i
  ·subst p;refine(x.of_same s.1 s.2).op hi n λw1 h1=>⟨λ_=>h1,(λf=>by rw[J] at f;cases f),pB E _ _ _ _ (nN H (n.trans h1))⟩
  ·have:=ready_mono y p;rw[(H w' n).1] at this;cases this
 |succ t S=>
  intro d a w L U u s x H w' n;refine⟨λh=>absurd h (nil d u),λj y=>?_⟩;by_cases p:j=i
  ·subst p;refine(x.of_same s.1 s.2).op hi n λw1 h1=>⟨λ_=>h1,(λf=>by rw[J] at f;cases f),pB E _ _ _ _ (nN H (n.trans h1))⟩
  ·have h1:=(H w' n).2 j (ready_mono y p);obtain⟨M,m,z,mz⟩:=mem_ready.1 y;have acp:=(mem_ready.1 u).1;have F:W j=false:=by
    grind
   obtain⟨V,q⟩:=L j m z p M F;have G:=JY z V (D i g hi).1 (D j m z).1 (D j m z).2 R s h1;refine wpOpIn_mono (λa1 w1 X=>?_) G;obtain⟨Y,N,O,I⟩:=X;refine⟨N,λf=>E _ _ (O f),?_⟩;refine S (d.setIfInBounds j true) a1 w1 ?_ ?_ (ready_mono u (Ne.symm p)) Y ?_ ?_
   ·intro k ok I Z A B;refine L k ok I Z ?_ B;by_cases C:j=k
    ·subst C;exact M
    ·rw[getD_set_ne true C] at A;exact A
   ·intro k B;obtain⟨A,rest⟩:=U k B;refine⟨?_,rest⟩;have C:j≠k:=λe=>by rw[e,B] at F;cases F
    rw[getD_set_ne true C];exact A
   ·have fa:Ext w' w1->fL P ops g v a0 w1:=λoC=>by
     have hww:=n.trans oC;rcases x with ⟨rb,hq1⟩|hn
     ·exact .inl ⟨rb,λw2 G=>hq1 w2 (hww.trans G)⟩
     ·exact .inr hn
    cases f:Hm j with
    |false=>exact fa (N f)
    |true=>
     rcases q with q|q|q
     ·rw[q] at f;cases f
     ·exact x.mf q
     ·exact q w1 (O f)
   ·rw[Array.setIfInBounds_comm _ _ p];exact I
end
def aag (C:dj P) (ops:Array Oper) (N:Nat) (o:Oper) (env:List bF) (w:A2) (K:List bF->Prop):Prop:=
 match gd ops env o with
 |none=>dt 41 o.op
 |some none=>if oO ops N env [] o.dst then wF env o.dst [] none undef K else dt 42 o.op
 |some (some (ch,g))=>
  if oO ops N env ch o.dst then oz C ops env ch g o w (λv=>yf C o v (λv=>wF env o.dst ch g v K)) else dt 43 o.op
def rxQ (C:dj P) (ops:Array Oper) (N:Nat) (i:Nat) (env:List bF) (w:A2) (K:List bF->Prop):Prop:=
 match ops[i]? with
 |none=>False
 |some ⟨dst,op,type,pos,after,guard⟩=>aag C ops N ⟨dst,op,type,pos,after,guard⟩ env w K
def XU {P:Av} (C:dj P) (ops:Array Oper) (env:List bF) (ch:List (Nat×Bool)) (g:Option Bool) (o:Oper) (w:A2) (K:(A2->Prop)->AC->Prop):Prop:=
 let ρ:=wS env ch
 match o.op with
 | .load t x=>match ρ x,elC C t,P.info? t with
   |some (.pointer p),some el,some i=>if pR el i.size=true then dt 61 o.op else aj w g p el (λx=>K (λw=>gy g (cP w p el x)) (el.gR x))
   | _, _, _=>dt 62 o.op
 | .entry _=>dt 63 o.op
 | .lookup r m ix ok=>match ok,P.underlying r,ρ m,ρ ix with
   |false,some (.map h d),some (.map p),some (.int k n)=>match P.underlying h,um P d,P.info? d with
    |some (.int j),some el,some i=>match i.zero with
     |some z=>if k=j then∃x:el.T,gy g (jP w p k n z (el.gR x))/\K (λw=>gy g (jP w p k n z (el.gR x))) (el.gR x) else dt 61 o.op
     |none=>dt 62 o.op
    | _, _, _=>dt 63 o.op
   |true,some (.map h d),some (.map p),some (.int k n)=>match P.underlying h,um P d,P.info? d with
    |some (.int j),some el,some i=>match i.zero with
     |some z=>if k=j then∃x:el.T, ∃b:Bool,gy g (mg w p k n z (el.gR x) b)/\K (λw=>gy g (mg w p k n z (el.gR x) b)) (.tuple ⟨[el.gR x,.bool b]⟩) else dt 61 o.op
     |none=>dt 62 o.op
    | _, _, _=>dt 63 o.op
   | _, _, _, _=>dt 64 o.op
 | .pick .. =>oz C ops env ch g o w (λv=>K (λ_=>True) v)
 | .call c=>match c.callee with
   | .value f=>match ρ f,maps ρ c.args.toList with
     |some (.func (.func a) first cap),some l=>
      if bK P a=true then
       match xL C.rX a with
       |some e=>match e.fn (cY first l cap) with
        |some (pre,v)=>gy g pre/\K (λ_=>True) v
        |none=>dt 64 o.op
       |none=> ∃x:(pL C a).T,gy g (ah P a (cY first l cap) w ((pL C a).gR x))/\K (λw=>gy g (ah P a (cY first l cap) w ((pL C a).gR x))) ((pL C a).gR x)
      else dt 65 o.op
     | _, _=>dt 66 o.op
   | .builtin .len=>match BV P ρ c with
     |some p=> ∃n:Nat,gy g (Tr w p n)/\K (λw=>gy g (Tr w p n)) (.int .i64 n)
     |none=>match wW P ρ c with
      |some p=> ∃n:Nat,gy g (ChL w p n)/\K (λw=>gy g (ChL w p n)) (.int .i64 n)
      |none=>oz C ops env ch g o w (λv=>K (λ_=>True) v)
   | _=>oz C ops env ch g o w (λv=>K (λ_=>True) v)
 | .binOp .. =>match pop P ρ o with
   |some ⟨none,v⟩=>K (λ_=>True) v
   |some ⟨some p,v⟩=>gy g p/\K (λ_=>True) v
   |none=>match BU P ρ o.op with
    |some (p,q)=>gy g (W6 w p q)/\K (λw=>gy g (W6 w p q)) (.bool (decide (p=q)))
    |none=>dt 67 o.op
 | _=>oz C ops env ch g o w (λv=>K (λ_=>True) v)
def ZH (p:A2->Prop):Prop:= ∀w w',p w->Ext w w'->p w'
theorem nE {g:Option Bool} {p:A2->Prop} (h:ZH p):ZH (λw=>gy g (p w)):=by
 intro w w' a b;cases g with
 |none=>exact h w w' a b
 |some=>exact λhb=>h w w' (a hb) b
def Oh (op:Op):Bool:=match op with
 | .load .. =>false
 | .lookup .. =>false
 | .entry _=>false
 | .binOp .. =>false
 | .call c=>(match c.callee with| .value _=>false| .builtin .len=>false| _=>true)
 | _=>true
theorem JZ {C:dj P} {ops:Array Oper} {env:List bF} {ch:List (Nat×Bool)} {g:Option Bool} {o:Oper} {w:A2} {K:AC->Prop} (e:Oh o.op=true)
 (h:oz C ops env ch g o w K): ∃v,K v/\ ∀i,oz C ops env ch g o i (λu=>u=v):=by
 obtain⟨dst,op,type,pos,after,guard⟩:=o;cases op with
 |load t x=>cases e
 |lookup a b c d=>cases e
 |entry a=>cases e
 |binOp op t x y j=>cases e
 |pick c x y=>
  unfold oz at h;simp only at h;unfold oz;simp only;split at h
  ·split at h
   ·split at h
    ·split at h
     ·exact⟨_,h,λ_=>rfl⟩
     ·exact h.elim
    ·split at h
     ·exact⟨_,h,λ_=>rfl⟩
     ·exact h.elim
    ·split at h
     ·split at h
      ·split at h
       ·exact⟨_,h,λ_=>rfl⟩
       ·exact⟨_,h,λ_=>rfl⟩
       ·exact⟨_,h,λ_=>rfl⟩
      ·exact h.elim
     ·exact h.elim
   ·exact h.elim
  ·exact h.elim
 |call c=>
  obtain⟨callee,args,ts⟩:=c;cases callee with
  |value f=>cases e
  |builtin b=>
   cases b with
   |len=>cases e
   | _=>
     unfold oz at h;simp only at h;unfold oz;simp only;split at h
     ·exact⟨_,h,λ_=>rfl⟩
     ·exact⟨_,h.2,λ_=>⟨h.1,rfl⟩⟩
     ·exact h.elim
  | _=>
    unfold oz at h;simp only at h;unfold oz;simp only;split at h
    ·exact⟨_,h,λ_=>rfl⟩
    ·exact⟨_,h.2,λ_=>⟨h.1,rfl⟩⟩
    ·exact h.elim
 | _=>
   unfold oz at h;simp only at h;unfold oz;simp only;split at h
   ·exact⟨_,h,λ_=>rfl⟩
   ·exact⟨_,h.2,λ_=>⟨h.1,rfl⟩⟩
   ·exact h.elim
theorem Pd {C:dj P} {ops:Array Oper} {env:List bF} {ch:List (Nat×Bool)} {g:Option Bool} {o:Oper} {w:A2} {K:(A2->Prop)->AC->Prop} (h:XU C ops env ch g o w K):
 ∃p v,K p v/\p w/\ZH p/\ ∀j,p j->oz C ops env ch g o j (λu=>u=v):=by
 obtain⟨dst,op,type,pos,after,guard⟩:=o;have st:Oh op=true->oz C ops env ch g ⟨dst,op,type,pos,after,guard⟩ w (λv=>K (λ_=>True) v)->
  ∃p v,K p v/\p w/\ZH p/\ ∀j,p j->oz C ops env ch g ⟨dst,op,type,pos,after,guard⟩ j (λu=>u=v):=λS h=>by
  obtain⟨v,k,hv⟩:=JZ (o:=⟨dst,op,type,pos,after,guard⟩) S h;exact⟨_,v,k,trivial,λ_ _ _ _=>trivial,λj _=>hv j⟩
 unfold XU at h;cases op with
 |load t x=>
  simp only at h;split at h
  ·rename_i p el i h1 A G;split at h
   ·exact h.elim
   ·rename_i hb;obtain⟨x',T,k⟩:=h;refine⟨_, _,k,T,nE λw w' d l=>sP l d,λj d=>?_⟩;unfold oz;simp only[h1,A,G,if_neg hb];exact⟨x',d,rfl⟩
  ·exact h.elim
 |entry a=>exact h.elim
 |lookup xt m ix ok=>
  simp only at h;split at h
  ·rename_i U V p kd n h1 A G;split at h
   ·rename_i W el X L M N;split at h
    ·rename_i z O;split at h
     ·rename_i Q;obtain⟨x,B,k⟩:=h;refine⟨_, _,k,B,nE λw w' d l=>?_,λj d=>?_⟩
      ·obtain⟨r,es,H,D,E,F⟩:=d;exact⟨r,es,H,D,l.obj E,F⟩
      ·unfold oz;simp only[h1,A,G,L,M,N,O,if_pos Q];exact⟨x,d,rfl⟩
     ·exact h.elim
    ·exact h.elim
   ·exact h.elim
  ·rename_i U V p kd n h1 A G;split at h
   ·rename_i W el X L M N;split at h
    ·rename_i z O;split at h
     ·rename_i Q;obtain⟨x,b,B,k⟩:=h;refine⟨_, _,k,B,nE λw w' d l=>?_,λj d=>?_⟩
      ·obtain⟨r,es,H,D,E,F⟩:=d;exact⟨r,es,H,D,l.obj E,F⟩
      ·unfold oz;simp only[h1,A,G,L,M,N,O,if_pos Q];exact⟨x,b,d,rfl⟩
     ·exact h.elim
    ·exact h.elim
   ·exact h.elim
  ·exact h.elim
 |call c=>
  obtain⟨callee,args,ts⟩:=c;cases callee with
  |value f=>
   simp only at h;split at h
   ·rename_i fQ first cap acz h1 A
    split at h
    ·rename_i hc;split at h
     ·rename_i e R;split at h
      ·rename_i pre v Y;refine⟨_,v,h.2,trivial,λ_ _ _ _=>trivial,λj _=>?_⟩;unfold oz;simp only[h1,A,if_pos hc,R,Y];exact⟨h.1,trivial⟩
      ·exact h.elim
     ·rename_i R;obtain⟨x,B,k⟩:=h;refine⟨_, _,k,B,nE λw w' d l=>λj A=>d j (l.trans A),λj d=>?_⟩;unfold oz;simp only[h1,A,if_pos hc,R];exact⟨x,d,rfl⟩
    ·exact h.elim
   ·exact h.elim
  |builtin b=>
   cases b with
   |len=>
    simp only at h;split at h
    ·rename_i p d;obtain⟨n,B,k⟩:=h;refine⟨_, _,k,B,nE λw w' d l=>?_,λj I=>?_⟩
     ·obtain⟨r,es,H,D,E,F⟩:=d;exact⟨r,es,H,D,l.obj E,F⟩
     ·unfold oz;simp only[d];exact⟨n,I,rfl⟩
    ·rename_i d;split at h
     ·rename_i p J;obtain⟨n,B,k⟩:=h;refine⟨_, _,k,B,nE λw w' d l=>?_,λj I=>?_⟩
      ·obtain⟨r,cap,Z,s,m,D,E,F⟩:=d;exact⟨r,cap,Z,s,m,D,l.obj E,F⟩
      ·unfold oz;simp only[d,J];exact⟨n,I,rfl⟩
     ·rename_i J;unfold oz at h;simp only[d,J] at h;split at h
      ·rename_i v hv;refine⟨_,v,h,trivial,λ_ _ _ _=>trivial,λj _=>?_⟩;unfold oz;simp only[d,J,hv]
      ·rename_i p v hv;refine⟨_,v,h.2,trivial,λ_ _ _ _=>trivial,λj _=>?_⟩;unfold oz;simp only[d,J,hv];exact⟨h.1,trivial⟩
      ·exact h.elim
   | _=>exact st rfl h
  | _=>exact st rfl h
 |binOp op t x y yt=>
  simp only at h;split at h
  ·rename_i v hv;refine⟨_,v,h,trivial,λ_ _ _ _=>trivial,λj _=>?_⟩;unfold oz;simp only[hv]
  ·rename_i p v hv;refine⟨_,v,h.2,trivial,λ_ _ _ _=>trivial,λj _=>?_⟩;unfold oz;simp only[hv];exact⟨h.1,trivial⟩
  ·rename_i hv;split at h
   ·rename_i p q d;refine⟨_, _,h.2,h.1,nE λw w' d l=>If l d,λj I=>?_⟩;unfold oz;simp only[hv,d];exact⟨I,trivial⟩
   ·exact h.elim
 | _=>exact st rfl h
def Wt (C:dj P) (ops:Array Oper) (N:Nat) (o:Oper) (env:List bF) (w:A2) (K:(A2->Prop)->List bF->Prop):Prop:=
 match gd ops env o with
 |none=>dt 44 o.op
 |some none=>if oO ops N env [] o.dst then wF env o.dst [] none undef (K λ_=>True) else dt 45 o.op
 |some (some (ch,g))=>
  if oO ops N env ch o.dst then XU C ops env ch g o w (λp v=>yf C o v (λv=>wF env o.dst ch g v (K p))) else dt 46 o.op
def XV (C:dj P) (ops:Array Oper) (N:Nat) (i:Nat) (env:List bF) (w:A2) (K:(A2->Prop)->List bF->Prop):Prop:=
 match ops[i]? with
 |none=>False
 |some ⟨dst,op,type,pos,after,guard⟩=>Wt C ops N ⟨dst,op,type,pos,after,guard⟩ env w K
def An (j:Nat) (w:A2):List (Nat×(A2->Prop))->Prop->Prop
 |[],K=>K
 |(W,p)::r,K=>match W.testBit j with
  |true=>An j w r K
  |false=>p w/\An j w r K
theorem pY {j:Nat} {w:A2}: ∀{l:List (Nat×(A2->Prop))} {K:Prop},An j w l K<->(∀e∈l,e.1.testBit j=false->e.2 w)/\K
 |[],K=>by simp[An]
 |(W,p)::r,K=>by
  unfold An;cases h:W.testBit j with
  |true
  |false=>simp only[pY,List.forall_mem_cons];grind
def NL (ops:Array Oper):Bool:=ops.toList.all λo=>match o.op with| .select .. | .defer _=>false| _=>true
def sb (i:Nat):Nat:=1 <<< i
theorem xM (i j:Nat):(sb i).testBit j=decide (i=j):=by simp[sb,Nat.one_shiftLeft,Nat.testBit_two_pow]
def Ao:List Nat->Nat
 |[]=>0
 |x::r=>sb x ||| Ao r
theorem sU: ∀(l:List Nat) (j:Nat),(Ao l).testBit j=decide (j∈l)
 |[],j=>by simp[Ao]
 |x::r,j=>by
  rw[Ao,FS,xM,sU]
  grind
theorem and_zero {a b j:Nat} (h:((a &&& b)==0)=true) (c:a.testBit j=true):b.testBit j=false:=by
 have:=congrArg (λm=>m.testBit j) (by simpa using h: )
 grind
theorem Pe {a b:Nat} (h:((a &&& b) != 0)=true): ∃j,a.testBit j=true/\b.testBit j=true:=by
 have h':=by simpa using h
 obtain:=Nat.exists_testBit_of_ne_zero h'
 grind
theorem TJ {a b j:Nat} (h:((a &&& b)==a)=true) (c:a.testBit j=true):b.testBit j=true:=by grind
theorem TL {a b:Nat} (h:((a &&& b)==a)=false): ∃j,a.testBit j=true/\b.testBit j=false:=by
 apply Classical.byContradiction;intro;have:a &&& b=a:=by
  apply Nat.eq_of_testBit_eq
  grind
 grind
def Jr (o:Oper):Nat:=Ao ((o.after.toList.filter λe=>CP .any e).map (·.on))
def VW (o:Oper):Nat:=match o.dst with
 |some d=>sb d
 |none=>0
def lkM (ops:Array Oper) (o:Oper):Nat:=Ao (o.looksAt ops)
def SZ (L i e:Nat):Bool:= !L.testBit i&&(e &&& L)==e
def Hn (L i:Nat):List (Oper×Nat)->Nat->Nat
 |[],W=>W
 |(o,j)::r,W=>Hn L i r (if !L.testBit j&&(Jr o &&& (W ||| sb i)) != 0 then W ||| sb j else W)
def Ho (ops:Array Oper) (x y:Oper):Bool:=(VW x &&& (lkM ops y ||| VW y))==0&&(VW y &&& lkM ops x)==0
def frM (C:dj P) (ops:Array Oper) (L i W:Nat) (x:Oper) (Z:List (Oper×Nat)):Bool:=
 Z.all λz=>z.2==i||L.testBit z.2||W.testBit z.2||(Ho ops x z.1&&(!BC C z.1||mfO x))
def nxM (C:dj P) (Z:List (Oper×Nat)) (L:Nat):Option (Nat×Bool):=
 match Z.find? λz=>SZ L z.2 (Jr z.1)&& !BC C z.1&& !eT z.1 with
 |some z=>some (z.2,true)
 |none=>match Z.find? λz=>SZ L z.2 (Jr z.1) with
  |some z=>some (z.2,false)
  |none=>none
def frS (ops:Array Oper) (L i W:Nat) (x:Oper) (Z:List (Oper×Nat)):Bool:=
 Z.all λz=>z.2==i||L.testBit z.2||W.testBit z.2||Ho ops x z.1
inductive Sd where
 |nil|q (i:Nat) (m:Option Nat) (r:Sd)|alt (i:Nat) (r t:Sd)|stop
def oZ (C:dj P) (ops:Array Oper) (Z:List (Oper×Nat)):Nat->Nat->Option Sd
 |0,L=>if Z.all λz=> !SZ L z.2 (Jr z.1) then some .nil else none
 |n+1,L=>match nxM C Z L with
  |none=>none
  |some (i,true)=>match ops[i]? with
   |some x=>if SZ L i (Jr x)&& !BC C x then
     if frM C ops L i (Hn L i Z 0) x Z then match oZ C ops Z n (L ||| sb i) with
      |some l=>some (.q i none l)
      |none=>none
     else if frS ops L i (Hn L i Z 0) x Z then match oZ C ops Z n (L ||| sb i) with
      |some l=>some (.q i (some (Hn L i Z 0)) l)
      |none=>none
     else none
    else none
   |none=>none
  |some (_,false)=>(Z.filter λz=>SZ L z.2 (Jr z.1)).foldr (λz c=>match c with
   |none=>none
   |some b=>match oZ C ops Z n (L ||| sb z.2) with
    |some a=>some (.alt z.2 a b)
    |none=>none) (some .stop)
def Yz (C:dj P) (ops:Array Oper):Option Sd:=oZ C ops ops.toList.zipIdx ops.size 0
def nZ (C:dj P) (ops:Array Oper) (i:Nat):Bool:=((ops[i]?).map (BC C)).getD true
def NM (C:dj P) (ops:Array Oper) (i:Nat) (w:A2) (l:List (Nat×(A2->Prop))) (K:Prop):Prop:=
 match nZ C ops i with
 |true=>An i w l K
 |false=>K
def XW (C:dj P) (ops:Array Oper) (N:Nat) (i:Nat) (a:List (Nat×(A2->Prop))) (env:List bF) (w:A2) (F:List bF->A2->Prop):Prop:=match a with
 |[]=>Fi C ops N i env w F
 |e::a=>Fi C ops N i env w (λenv w=>NM C ops i w (e::a) (F env w))
def XX (t:Sd) (a b:Prop):Prop:=match t with
 | .stop=>a
 | _=>a/\b
def E_ (C:dj P) (ops:Array Oper) (N:Nat):Sd->List (Nat×(A2->Prop))->List bF->A2->(List bF->A2->Prop)->Prop
 | .nil, _,env,w,K=>K env w
 | .q i none r,a,env,w,K=>rxQ C ops N i env w (λenv=>E_ C ops N r a env w K)
 | .q i (some W) r,a,env,w,K=>XV C ops N i env w (λp env=>E_ C ops N r ((W,p)::a) env w K)
 | .alt i r t,a,env,w,K=>XX t (XW C ops N i a env w (λenv w=>E_ C ops N r a env w K)) (E_ C ops N t a env w K)
 | .stop, _, _, _, _=>True
def aah (C:dj P) (ops:Array Oper) (N:Nat) (l:Sd) (env:List bF) (w:A2) (K:List bF->A2->Prop):Prop:=E_ C ops N l [] env w K
def XY (C:dj P) (ops:Array Oper) (N:Nat) (env:List bF) (w:A2) (K:List bF->A2->Prop):Prop:=
 match Yz C ops with
 |some l=>aah C ops N l env w K
 |none=>False
def HJ (j:Nat) (x:Sd):Sd->Prop
 | .alt i r t=>(j=i/\x=r)\/HJ j x t
 | _=>False
def Valid (C:dj P) (ops:Array Oper):Nat->Sd->Array Bool->Prop
 |0,t,a=>t= .nil/\BJ .any ops a=[]
 |n+1,t,a=>match t with
  | .q i m r=>i∈BJ .any ops a/\nZ C ops i=false/\
    (∃W:Nat->Bool,(∀c,ops[i]? =some c-> ∀j b,ops[j]? =some b->j≠i->a.getD j true=false->W j=false->c.apart ops b=true/\(BC C b=false\/mfO c=true\/ ∃w,m=some w/\w.testBit j=false))/\
     (∀j,W j=true->a.getD j true=false/\ ∃b,ops[j]? =some b/\ ∃e∈b.after,CP .any e=true/\(e.on=i\/W e.on=true)))/\
    Valid C ops n r (a.setIfInBounds i true)
  | .alt i r d=>i∈BJ .any ops a/\ ∀j∈BJ .any ops a, ∃x,HJ j x (.alt i r d)/\Valid C ops n x (a.setIfInBounds j true)
  | _=>False
def zV (ops:Array Oper) (L:Nat) (a:Array Bool):Prop:=a.size=ops.size/\ ∀j,a.getD j false=L.testBit j
theorem zV.un {ops:Array Oper} {L:Nat} {a:Array Bool} (h:zV ops L a) {j:Nat} (b:j<ops.size):a.getD j true=L.testBit j:=by
 rw[<-h.2];have:j<a.size:=by rw[h.1];grind
 grind
theorem zV.set {ops:Array Oper} {L:Nat} {a:Array Bool} (h:zV ops L a) {i:Nat} (hi:i<ops.size):zV ops (L ||| sb i) (a.setIfInBounds i true):=by
 refine⟨by simp[h.1],λj=>?_⟩;rw[FS,xM, <-h.2];by_cases e:i=j
 ·subst e;have:i<a.size:=by rw[h.1];omega
  simp[this]
 simp_all
theorem zV.zero (ops:Array Oper):zV ops 0 (Do ops.size false):=by
 refine⟨by simp,λj=>?_⟩;simp[JL]
theorem pS {ops:Array Oper} {o:Oper} {j:Nat}:(o,j)∈ops.toList.zipIdx<->ops[j]? =some o:=by grind
theorem FH {o:Oper} {j:Nat}:(Jr o).testBit j=true<-> ∃e∈o.after,CP .any e=true/\e.on=j:=by
 grind[Jr,sU]
theorem mS {ops:Array Oper} {L:Nat} {c:Array Bool} (h:zV ops L c) {i:Nat}:i∈BJ .any ops c<-> ∃o,ops[i]? =some o/\SZ L i (Jr o)=true:=by
 unfold BJ;rw[Bs,Da];constructor
 ·rintro⟨hi,hc⟩;rw[h.un hi] at hc;simp only[BN] at hc;have a:=JP hi;refine⟨ops[i],a,?_⟩;rw[a] at hc;simp only[Fu,Hb,H5] at hc;unfold SZ;rw[BN];refine⟨hc.1,?_⟩;cases f:(Jr _ &&& L)==Jr _ with
  |true=>rfl
  |false=>
   obtain⟨j,h1,g⟩:=TL f;obtain⟨e,d,hb,rfl⟩:=FH.1 h1;have:=hc.2 e d;rw[hb,h.2,g] at this;cases this
 ·rintro⟨o,a,b⟩;have hi:=(Bp.1 a).1;unfold SZ at b;rw[BN] at b;refine⟨hi,?_⟩;rw[h.un hi,BN];refine⟨b.1,?_⟩;rw[a];simp only[Fu,Hb,H5];intro e d;rw[h.2];cases hb:CP .any e with
  |false=>rfl
  |true=>rw[TJ b.2 (FH.2 (by grind))];rfl
theorem DF {L i:Nat}: ∀(Z:List (Oper×Nat)) (W j:Nat),W.testBit j=true->(Hn L i Z W).testBit j=true
 |[], _, _,h=>h
 |k::r,W,j,h=>by
  refine DF r _ j ?_
  grind
theorem Oi {L i:Nat}: ∀(Z:List (Oper×Nat)) (W:Nat),(∀x,(Hn L i Z W).testBit x=true->W.testBit x=true\/(L.testBit x=false/\ ∃o,(o,x)∈Z/\ ∃k,(Jr o).testBit k=true/\(k=i\/(Hn L i Z W).testBit k=true)))
 |[], _, _,h=> .inl h
 |(o,j)::r,W,x,h=>by
  unfold Hn at h ⊢;rcases Oi r _ x h with h1|⟨h1,o',b,c⟩
  ·split at h1
   ·rename_i hc;rw[FS,xM,EY,decide_eq_true_eq] at h1;rcases h1 with h1|rfl
    ·exact .inl h1
    ·rw[BN] at hc;obtain⟨k,d,a⟩:=Pe hc.2;rw[FS,xM,EY,decide_eq_true_eq] at a
     grind[Hy,DF]
   ·exact .inl h1
  grind
theorem Oj {ops:Array Oper} {x y:Oper} (h:Ho ops x y=true):x.apart ops y=true:=by
 unfold Ho at h;rw[BN] at h;obtain⟨h1,b⟩:=h;unfold Oper.apart;rw[BN];constructor
 ·cases a:x.dst with
  |none=>rfl
  |some d=>
   have hb:(VW x).testBit d=true:=by simp[VW,a,xM]
   have:=and_zero h1 hb;rw[FS,Bool.or_eq_false_iff] at this;obtain⟨a1,c⟩:=this;unfold lkM at a1;rw[sU] at a1
   grind[VW,xM]
 ·cases a:y.dst with
  |none=>rfl
  |some d=>
   have hb:(VW y).testBit d=true:=by simp[VW,a,xM]
   grind[and_zero,lkM,sU]
theorem Ih {F:Nat->Option Sd}: ∀(l:List (Oper×Nat)) (t:Sd),l.foldr (λz e=>match e with
 |none=>none
 |some b=>match F z.2 with
  |some a=>some (.alt z.2 a b)
  |none=>none) (some Sd.stop)=some t->(l=[]/\t= .stop)\/(∃i r d,t= .alt i r d/\(∃o,(o,i)∈l)/\ ∀z∈l, ∃x,HJ z.2 x t/\F z.2=some x)
 |[],t,h=>by
  grind
 |z::l,t,h=>by
  rw[List.foldr_cons] at h;split at h
  ·cases h
  ·rename_i b hb;split at h
   ·rename_i a f;cases h;refine .inr ⟨z.2,a,b,rfl,by grind,λy c=>?_⟩;rcases Bz.1 c with rfl|c
    ·exact⟨a,.inl (by grind),f⟩
    ·rcases Ih l b hb with ⟨rfl, _⟩|⟨i,r,d, _, _,g⟩
     ·cases c
     ·obtain⟨x,h1,j⟩:=g y c;exact⟨x,.inr h1,j⟩
   grind
theorem pZ {C:dj P} {ops:Array Oper}: ∀(n L:Nat) (m:Array Bool) (l:Sd),zV ops L m->oZ C ops ops.toList.zipIdx n L=some l->Valid C ops n l m
 |0,L,m,l,a,h=>by
  simp only[oZ] at h;split at h
  ·rename_i hc;cases h;refine⟨rfl,?_⟩;rw[List.eq_nil_iff_forall_not_mem];intro j b;obtain⟨o,c,u⟩:=(mS a).1 b;have:=DB.1 hc (o,j) (pS.2 c);rw[u] at this;cases this
  ·cases h
 |n+1,L,m,l,a,h=>by
  have E: ∀i j,(Hn L i ops.toList.zipIdx 0).testBit j=true->m.getD j true=false/\ ∃d,ops[j]? =some d/\ ∃e∈d.after,CP .any e=true/\(e.on=i\/(Hn L i ops.toList.zipIdx 0).testBit e.on=true):=by
   intro i j f;rcases Oi ops.toList.zipIdx 0 j f with h1|⟨h1,o,p,k,J,K⟩
   ·simp at h1
   ·have c:=pS.1 p;obtain⟨e,v,hb,rfl⟩:=FH.1 J;exact⟨by rw[a.un (Bp.1 c).1];exact h1,o,c,e,v,hb,K⟩
  simp only[oZ] at h;split at h
  ·cases h
  ·rename_i i _;split at h
   ·rename_i x g;have hi:i<ops.size:=(Bp.1 g).1;split at h
    ·rename_i hc;rw[BN,H4] at hc;have G:nZ C ops i=false:=by unfold nZ;rw[g];exact hc.2
     split at h
     ·rename_i w;split at h
      ·rename_i l' y;cases h;have A:=pZ n _ _ l' (a.set hi) y;refine⟨(mS a).2 ⟨x,g,hc.1⟩,G,⟨λj=>(Hn L i ops.toList.zipIdx 0).testBit j,?_,λj=>E i j⟩,A⟩;intro M q j d b B s f;rw[g] at q;cases q;have:=DB.1 w (d,j) (pS.2 b);rw[a.un (Bp.1 b).1] at s;have D:(Hn L i ops.toList.zipIdx 0).testBit j=false:=f;simp only[s,D,J3,EY,beq_iff_eq,BN,H4] at this;rcases this with h1|h1
       ·exact absurd h1 B
       ·exact⟨Oj h1.1,h1.2.imp id .inl⟩
      ·cases h
     ·split at h
      ·rename_i w;split at h
       ·rename_i l' y;cases h;have A:=pZ n _ _ l' (a.set hi) y;refine⟨(mS a).2 ⟨x,g,hc.1⟩,G,⟨λj=>(Hn L i ops.toList.zipIdx 0).testBit j,?_,λj=>E i j⟩,A⟩;intro M q j d b B s f;rw[g] at q;cases q;have:=DB.1 w (d,j) (pS.2 b);rw[a.un (Bp.1 b).1] at s;have D:(Hn L i ops.toList.zipIdx 0).testBit j=false:=f;simp only[s,D,J3,EY,beq_iff_eq] at this;rcases this with h1|h1
        ·exact absurd h1 B
        ·exact⟨Oj h1,.inr (.inr ⟨_,rfl,f⟩)⟩
       ·cases h
      ·cases h
    ·cases h
   ·cases h
  ·rename_i t;rcases Ih (F:=λj=>oZ C ops ops.toList.zipIdx n (L ||| sb j)) _ l h with ⟨v, _⟩|⟨i,r,O,rfl,⟨o,c⟩,N⟩
   ·
    exfalso;unfold nxM at t;split at t
    ·cases t
    ·split at t
     ·rename_i z H;have h1:=MZ H;have p:=List.mem_of_find?_eq_some H;have:z∈(ops.toList.zipIdx).filter λz=>SZ L z.2 (Jr z.1):=Bs.2 ⟨p,h1⟩;rw[v] at this;cases this
     ·cases t
   ·rw[Bs] at c;refine⟨(mS a).2 ⟨o,pS.1 c.1,c.2⟩,λj b=>?_⟩;obtain⟨d,I,u⟩:=(mS a).1 b;obtain⟨x,h1,p⟩:=N (d,j) (Bs.2 ⟨pS.2 I,u⟩);exact⟨x,h1,pZ n _ _ x (a.set (Bp.1 I).1) p⟩
section
variable {r:Option Nat} {S:Nat->Option (Option AC)} {ops:Array Oper} {N:Nat} {D:List Deferred} {Q:Exit->Act->A2->Prop}
theorem YA {C:dj P} {i:Nat} {env:List bF} {a:Act} {w:A2} {K:List bF->Prop} (l:Wr S ops) (b:Fit S ops N D env a) (h:rxQ C ops N i env w K):
 ∃o u cJ,ops[i]? =some o/\K cJ/\Fit S ops N D cJ (a.put o.dst u)/\fL P ops o u a w:=by
 unfold rxQ at h;cases k:ops[i]? with
 |none=>simp[k] at h
 |some o=>
  simp only[k,aag,nC] at h;have e:=l o (by grind);split at h
  ·exact Ab h
  ·rename_i f;split at h
   ·rename_i c;exact⟨o,undef, _,rfl,h,b.put c e rfl (λ_=>rfl) (by grind),.inr ⟨Ca b f,rfl⟩⟩
   ·exact Ab h
  ·rename_i ch g f;obtain⟨j,m⟩:=NJ b f;split at h
   ·rename_i c;obtain⟨v,d,n⟩:=yh b j h;replace d:=rM d;by_cases hc:jK ops a.tmps ch
    ·exact⟨o,v, _,rfl,d,b.put c e j (λ_=>rfl) (λp=>absurd hc p),.inl ⟨m.2 hc,n hc⟩⟩
    ·refine⟨o,undef, _,rfl,d,b.put c e j (λq=>absurd q hc) (λ_=>rfl),.inr ⟨?_,rfl⟩⟩
     simp_all
   ·exact Ab h
theorem TM {C:dj P} {i:Nat} {env:List bF} {a:Act} {w:A2} {K:(A2->Prop)->List bF->Prop} (t:Wr S ops) (c:Fit S ops N D env a) (h:XV C ops N i env w K):
 ∃o u cJ p,ops[i]? =some o/\K p cJ/\Fit S ops N D cJ (a.put o.dst u)/\p w/\ZH p/\ ∀b,p b->fL P ops o u a b:=by
 unfold XV at h;cases q:ops[i]? with
 |none=>simp[q] at h
 |some o=>
  simp only[q,Wt,nC] at h;have j:=t o (by grind);split at h
  ·exact Ab h
  ·rename_i k;split at h
   ·rename_i d;exact⟨o,undef, _, _,rfl,h,c.put d j rfl (λ_=>rfl) (by grind),trivial,λ_ _ _ _=>trivial,λ_ _=> .inr ⟨Ca c k,rfl⟩⟩
   ·exact Ab h
  ·rename_i ch g k;obtain⟨l,x⟩:=NJ c k;split at h
   ·rename_i d;obtain⟨p,v,f,r,s,y⟩:=Pd h;replace f:=rM f;have z: ∀b,p b->jK ops a.tmps ch-> ∀w',Ext b w'->di P o a w' v:=λb m hc=>by
     obtain⟨B,e,n⟩:=yh c l (y b m);subst e;exact n hc
    by_cases hc:jK ops a.tmps ch
    ·exact⟨o,v, _,p,rfl,f,c.put d j l (λ_=>rfl) (λA=>absurd hc A),r,s,λb m=> .inl ⟨x.2 hc,z b m hc⟩⟩
    ·refine⟨o,undef, _,p,rfl,f,c.put d j l (λn=>absurd n hc) (λ_=>rfl),r,s,λb _=> .inr ⟨?_,rfl⟩⟩
     simp_all
   ·exact Ab h
def Ap (a:List (Nat×(A2->Prop))) (j:Nat) (w:A2):Prop:= ∀e∈a,e.1.testBit j=false->e.2 w
theorem Ii {C:dj P} {a:List (Nat×(A2->Prop))} {env:List bF} {w:A2} {K:List bF->A2->Prop} {j:Nat} {x:Sd}: ∀{t:Sd},E_ C ops N t a env w K->HJ j x t->XW C ops N j a env w (λenv w=>E_ C ops N x a env w K)
 | .alt i r t,h,hi=>by
   rw[E_] at h;have h1:XW C ops N i a env w λenv w=>E_ C ops N r a env w K:=by
    grind[XX]
   rcases hi with ⟨rfl,rfl⟩|hi
   ·omega
   ·refine Ii ?_ hi;unfold XX at h;split at h
    ·cases hi
    grind
theorem YB {C:dj P} (G:Wr S ops) (zU:NL ops=true) (U: ∀c a w,¬ Q (.panic c) a w): ∀(n:Nat) (l:Sd) (f:Array Bool) (d:List (Nat×(A2->Prop))) (env:List bF) (a:Act) (w:A2) (K:List bF->A2->Prop),(∀e∈d,ZH e.2)->Fit S ops N D env a->
 Valid C ops n l f->E_ C ops N l d env w K->(∀env a w w',K env w->Fit S ops N D env a->Ext w w'->Q .normal a w')->
 mh r P ops Q (nZ C ops) (Ap d) n f a w:=by
 have V: ∀(j:Nat) (o:Oper),ops[j]? =some o->(∀cs b,o.op≠ .select cs b)/\ ∀c,o.op≠ .defer c:=λj o g=>by
  have:=DB.1 zU o (Array.mem_toList_iff.2 (JS g));constructor
  ·intro cs b he;simp[he] at this
  ·intro c he;simp[he] at this
 intro n
 induction n with
 |zero=>
  intro l f d env a w K _ s hv h v w' H;obtain⟨rfl,hv⟩:=hv;exact⟨hv,v env a w w' h s H⟩
 |succ n I=>
  intro l f d env a w K z s hv h v;cases l with
  |nil=>exact hv.elim
  |stop=>exact hv.elim
  |q i m l=>
   obtain⟨X,Y,⟨W,Z,W9⟩,A⟩:=hv;cases m with
   |none=>
    obtain⟨o,u,cJ,g,x,y,B⟩:=YA G s h;have J:=I l (f.setIfInBounds i true) d cJ (a.put o.dst u) w K z y A x v;exact tB (W:=W) (a0:=a) g Y V U (λ_ _ h=>h) n f a w (λj L k M O R=>by
     have:=Z o g j L k M O R;refine⟨this.1,?_⟩;rcases this.2 with h|h|⟨w,h, _⟩
     ·exact .inl (by unfold nZ;rw[k];exact h)
     ·exact .inr (.inl h)
     ·cases h) W9 X ⟨rfl,rfl⟩ B J
   |some T=>
    obtain⟨o,u,cJ,p,g,x,y,hp,hu,B⟩:=TM G s h;have J:=I l (f.setIfInBounds i true) ((T,p)::d) cJ (a.put o.dst u) w K (λe he=>by
     rcases Bz.1 he with rfl|he
     ·exact hu
     ·exact z e he) y A x v
    exact tB (W:=W) (a0:=a) (T':=Ap ((T,p)::d)) g Y V U (λ_ _ h e he=>h e (MW _ he)) n f a w (λj L k M O R=>by
     have:=Z o g j L k M O R;refine⟨this.1,?_⟩;rcases this.2 with h|h|⟨w,h,hb⟩
     ·exact .inl (by unfold nZ;rw[k];exact h)
     ·exact .inr (.inl h)
     ·cases h;exact .inr (.inr λw1 hT=>B w1 (hT (T,p) Hy hb))) W9 X ⟨rfl,rfl⟩ (B w hp) J
  |alt i l0 t=>
   obtain⟨hri,mz⟩:=hv;intro w' H;refine⟨λhe=>absurd hri (by rw[he];simp),λj k=>?_⟩;obtain⟨l,lC,A⟩:=mz j k;have h:=Ii h lC;have h':Fi C ops N j env w (λenv w=>(nZ C ops j=true->Ap d j w)/\E_ C ops N l d env w K):=by
    cases d with
    |nil=>
     have h:Fi C ops N j env w (λenv w=>E_ C ops N l [] env w K):=h
     simp_all[nZ,Ap,E_]
    |cons E F=>
     have e:(λ(env:List bF) (w:A2)=>(nZ C ops j=true->Ap (E::F) j w)/\E_ C ops N l (E::F) env w K)=λenv w=>NM C ops j w (E::F) (E_ C ops N l (E::F) env w K):=by
      funext env w;unfold NM;cases nZ C ops j with
      |true=>exact propext ⟨λh=>pY.2 ⟨h.1 rfl,h.2⟩,λh=>⟨λ_=>(pY.1 h).1,(pY.1 h).2⟩⟩
      |false=>simp
     rw[e];exact h
   refine wpOpIn_mono (λa1 w1 hh=>?_) (DE G s h' H);obtain⟨hx,cJ,wr,⟨Xc,x⟩,y,rb⟩:=hh;exact⟨hx,λhe e hm hb=>z e hm wr w1 ((Xc he) e hm hb) rb,nN (I l _ d cJ a1 wr K z y A x v) rb⟩
theorem TN {C:dj P} (d:Wr S ops) (e:NL ops=true) (f: ∀c a w,¬ Q (.panic c) a w) (env:List bF) (a:Act) (w:A2) (K:List bF->A2->Prop) (g:Fit S ops N D env a)
 (h:XY C ops N env w K) (i: ∀env a w w',K env w->Fit S ops N D env a->Ext w w'->Q .normal a w'):
 mh r P ops Q (nZ C ops) (Ap []) ops.size (Do ops.size false) a w:=by
 unfold XY aah at h;split at h
 ·rename_i l b;have hv:=pZ _ 0 _ l (zV.zero ops) b
  grind[YB]
 grind
end
variable {P:Av}
def j7 (l:List bF):List bF:=
 match l.filter λe=> !e.ch.isEmpty with
 |[]=>l
 |bad=>l.filter λe=>e.ch.isEmpty&& !(bad.any λb=>b.t==e.t)
def plain (l:List bF):Prop:= ∀e∈l,e.ch=[]/\e.g=none
theorem iH {p:bF->Bool}: ∀{l:List bF} {t:Nat} {e:bF},bY (l.filter p) t=some e->(∀x∈l,x.t=t->p x=true)->bY l t=some e
 |x::r,t,e,h,d=>by
  by_cases a:p x=true
  ·simp only[NA,a,if_true,bY] at h;simp only[bY];split
   grind
   ·rename_i b
    simp_all
    exact iH h (by grind)
  ·simp only[NA,a] at h;have c:x.t≠t:=λb=>a (by grind);simp only[bY,c];exact iH h (by grind)
theorem yj: ∀{l:List bF} {t:Nat} {e:bF},bY l t=some e->e.t=t
 |x::r,t,e,h=>by
  simp[bY] at h;split at h
  grind
  ·exact yj h
variable {S:Nat->Option (Option AC)} {N:Nat} {D:List Deferred} {env:List bF} {a:Act}
theorem Fit.Pf {ops ops':Array Oper} (h:Fit S ops N D env a) (b:plain env):Fit S ops' N D env a:=by
 have nil: ∀(o),jK o a.tmps []:=λo g=>by simp
 refine⟨h.off,h.size,h.oG,λt e c _=>h.yes t e c (by rw[(b e (bO c)).1];grind),λt e c f=>absurd (by rw[(b e (bO c)).1];grind) f,λe d=>?_,h.Bm⟩;rw[(b e d).2];exact(b e d).1
theorem AB {ops ops':Array Oper} (h:Fit S ops N D env a):Fit S ops' N D (j7 env) a/\plain (j7 env):=by
 have m: ∀e∈env,e.ch=[]->e.g=none:=λe b hc=>by
  have:=h.E8 e b;cases j:e.g with
  |none=>rfl
  |some γ=>rw[j] at this;exact absurd hc this.1
 have nil: ∀(o:Array Oper),jK o a.tmps []:=λo x f=>by cases f
 have i: ∀e∈j7 env,e.ch=[]/\e∈env:=by
  intro e b;unfold j7 at b;split at b
  simp_all
  grind
 have k: ∀t e,bY (j7 env) t=some e->bY env t=some e:=by
  intro t e b;unfold j7 at b;split at b
  ·exact b
  ·rename_i n p;refine iH b λx f q=>?_;have r:=bO b
   grind[yj]
 have d:plain (j7 env):=λe b=>⟨(i e b).1,by grind⟩;refine⟨⟨h.off,h.size,h.oG,λt e l _=>h.yes t e (k t e l) (by grind[bO]),by grind[bO],λe c=>?_,λe c=>h.Bm e (i e c).2⟩,d⟩;rw[(d e c).2];exact(d e c).1
def jB:Code->Option Nat
 | .region id _ _=>some id
 | .seq a b=>match jB a with
   |some i=>some i
   |none=>jB b
 | .cond _ a b=>match jB a with
   |some i=>some i
   |none=>jB b
 | .block _ b=>jB b
 | .loop b=>jB b
 | _=>none
def Ts (ops:Array Oper):List Nat:=ops.toList.filterMap (·.dst)
def writes:Code->List Nat
 | .region _ ops _=>Ts ops
 | .seq a b=>writes a++writes b
 | .cond _ a b=>writes a++writes b
 | .block _ b=>writes b
 | .loop b=>writes b
 | _=>[]
abbrev aZ:=List (Nat×El)
def kO:(l:aZ)->oq (l.map (·.2))->List bF
 |[], _=>[]
 |(t,s)::r,x=>⟨t,[],none,s.gR x.1,none⟩::kO r x.2
def oQ:(l:aZ)->List bF->Option (oq (l.map (·.2)))
 |[], _=>some ()
 |(t,s)::r,env=>match bY env t with
  |some e=>match s.proj e.v,oQ r env with
   |some x,some y=>some (x,y)
   | _, _=>none
  |none=>none
def Wv (op:Op):Bool:=match op with
 | .send .. | .select .. =>true
 | _=>false
def aaN (ops:Array Oper):Bool:=ops.toList.any λo=>Wv o.op
def lV (n k:Nat):Array Bool:=⟨(BK n).map λi=>Dv i k⟩
def Tt (ops:Array Oper):Bool:=(BK ops.size).all λk=>BJ .any ops (lV ops.size k)==[k]
theorem EA {n k:Nat} (h:k<n):(lV n k).setIfInBounds k true=lV n (k+1):=by
 simp[lV];apply List.ext_getElem
 ·simp
 ·intro i a;rw[List.getElem_set];simp only[List.getElem_map,List.getElem_range];split
  ·subst_vars
   simp
  ·rw[Bool.eq_iff_iff,Nat.blt_eq,Nat.blt_eq];omega
theorem Ij {ops:Array Oper} (h:Tt ops=true): ∀(fuel t k:Nat) (a:List Nat),k+fuel=ops.size->EW .any ops fuel t (lV ops.size k) a=a.reverse++Gd k fuel
 |0,t,k,a, _=>by simp[EW]
 |fuel+1,t,k,a,c=>by
  have b:=by
   simp[Tt] at h;exact h k (by omega)
  change (match (BJ .any ops _)[t % (BJ .any ops _).length]? with
   |some i=>EW .any ops fuel _ _ _
   |none=>a.reverse)= _
  rw[b];simp[Nat.mod_one,Fx];rw[EA (by omega),Ij h fuel _ _ _ (by omega)];simp[IR]
def CmR (P:Av) (o:Oper) (a:Act) (w:A2) (v:AC) (w':A2):Prop:=
 ∃cases bl sh,(execOp a.eval o).run P w= .ok (.comm cases bl sh) w/\
  ∀fr cs es,stepG P true (Hq fr cs) w= .comm (Hq fr cs) cases bl sh w es->step P (Rg (Hq fr cs) w)= .next (Rg (Hq (fr.finish v) cs) w')
def SH (P:Av) (ops:Array Oper) (Q:Act->A2->Prop):List Nat->Act->A2->Prop
 |[],a,w=>Q a w
 |i::l,a,w=> ∃o,ops[i]? =some o/\BO o (yielded ops a.tmps)=true/\(∀c,o.op≠ .defer c)/\
  ∃v w',((execOp a.eval o).run P w= .ok (.value v) w'\/CmR P o a w v w')/\SH P ops Q l (a.put o.dst v) w'
theorem DG {ops:Array Oper} {Q b:Act->A2->Prop} (c: ∀a w,Q a w->b a w): ∀(l:List Nat) (a:Act) (w:A2),SH P ops Q l a w->SH P ops b l a w
 |[],a,w,h=>c a w h
 |i::l,a,w,h=>by
  obtain⟨o,d,e,f,v,w',g,j⟩:=h;exact⟨o,d,e,f,v,w',g,DG c l _ _ j⟩
theorem mT {r:Option Nat} {ops:Array Oper} {Q:Act->A2->Prop}: ∀(l:List Nat) (a:Act) (w:A2),SH P ops Q l a w-> ∀(b:Frame) (k:List Item) (cs:List Frame),
 ∃a' w',Q a' w'/\StepsIn (Machine.fenced P (WF r)) P (lone (b.atR a (.inRegion ops l::k)) cs w) (lone (b.atR a' k) cs w')
 |[],a,w,h,b,k,cs=>⟨a,w,h,.one (fenced_calm (n:=0) (Ws r _) (Ig r _) rfl) stepR_region_end⟩
 |i::l,a,w,h,b,k,cs=>by
  obtain⟨o,c,j,m,v,w',p,q⟩:=h;obtain⟨a',s,t,u⟩:=mT l _ _ q b k cs;have d:=stepGR_op (P:=P) (b:=b) (k:=k) (cs:=cs) (w:=w) (rest:=l) c j;rw[Oper.semAt_eq _ _ _ m] at d;have f:(b.atR a (.inRegion ops (i::l)::k)).finish v=b.atR (a.put o.dst v) (.inRegion ops l::k):=by rw[Frame.finish_atR,c];rfl
  have h0:(lone (b.atR a (.inRegion ops (i::l)::k)) cs w).fenced P (WF r):=fenced_oper (n:=0) (Ws r _) (Ig r _) c (λ_ _=>trivial);refine⟨a',s,t,.head h0 ?_ u⟩;rcases p with e|⟨g,bl,sh,e,hc⟩
  ·refine step_lone_go ?_;rw[d, <-f];simp[stepG.apply,e]
  ·rw[<-f];have key: ∀x:Sem Next,x.run P w= .ok (.comm g bl sh) w-> ∃es,stepG.apply P true (b.atR a (.inRegion ops (i::l)::k)) cs none x w= .comm _ g bl sh w es:=λx y=>by
    simp only[stepG.apply,Sem.runT_eq,y,GStep.after];exact⟨_,rfl⟩
   obtain⟨es,z⟩:=key _ e;exact hc _ _ es (d.trans z)
theorem z9 {r:Option Nat} {id:Nat} {ops:Array Oper} {d:Bool} {Q:Exit->Act->A2->Prop} {a:Act} {w:A2} (j:P.follows .mixedOrders=true) (l:Tt ops=true)
 (h: ∀w',Ext w w'->SH P ops (Q .normal) (BK ops.size) a w'):(Code.region id ops d).wpIn (WF r) 0 P Q a w:=by
 intro b k cs _ hb f;cases d with
 |false=>
  obtain⟨a',w',c,g⟩:=mT _ _ _ (h w (Ext.refl w)) b k cs;exact⟨.normal,a',w',c,StepsIn.head (fenced_calm hb f rfl) stepR_region g⟩
 |true=>
  obtain⟨a',w',c,g⟩:=mT (r:=r) _ _ _ (h _ (Ext.drew w)) b k cs;refine⟨.normal,a',w',c,StepsIn.head (fenced_calm hb f rfl) (stepR_region_draw) ?_⟩;have e: ∀t,Fv (P.follows .mixedOrders) ops t=BK ops.size:=λt=>by
   simp only[Fv,j,M5];have m:Do ops.size false=lV ops.size 0:=by
    apply Array.ext
    ·simp[lV]
    ·have: ∀i,Dv i 0=false:=λi=>by rfl
     simp[lV,this]
   grind[Ij,ND]
  grind
def HK (op:Op):Bool:=match op with
 | .load .. | .fieldAddr .. | .indexAddr .. | .build .. | .field .. | .extract .. | .binOp .. | .move _| .assign _| .convert .. =>true
 | _=>false
theorem Ph {s:Sem AC} {f:B5} {args:Array AC} {w w':A2} (h:(do pure (Next.value (<-s)):Sem Next).run P w= .ok (.enter f args) w'):False:=by
 cases a:s.run P w with
 |ok
 |halt=>simp_all
theorem AD {o:Oper} {a:Act} {w:A2} {v:AC} (h:HK o.op=true) (d:di P o a w v):(execOp a.eval o).run P w= .ok (.value v) w/\ ∀c,o.op≠ .defer c:=by
 obtain⟨dst,op,type,pos,after,guard⟩:=o;have e: ∀f args w',(execOp a.eval ⟨dst,op,type,pos,after,guard⟩).run P w≠ .ok (.enter f args) w':=λf args w' b=>by
  cases op<;>simp[HK,Dn] at h<;>first|exact Ph b|(simp[execOp] at b;done)
 refine⟨?_,λc hc=>by subst hc;cases h⟩
 grind[di]
def cop (P:Av) (ρ:Operand->Option AC) (op:Op) (w:A2) (K:AC->A2->Prop):Prop:=match op with
 | .send ch x=>match ρ ch,ρ x with
   |some (.chan p),some v=> ∀w1,Ext w w1-> ∃r cap a s m,p=some r/\ChO w1 r cap a s m/\a.length<cap/\K undef (w1.putObj r (.chan cap ⟨a++[v]⟩ false (s+1) m false))
   | _, _=>dt 130 op
 | .select cs bl=>match bl,cs.toList with
   |false,[c]=>match c.send,ρ c.chan,P.info? c.elem,um P c.elem with
    |none,some (.chan p),some i,some el=>match i.zero with
     |some z=> ∀w1,Ext w w1-> ∃r cap a s m,p=some r/\ChO w1 r cap a s m/\(a=[]->K (.tuple ⟨[.int .i64 (-1),.bool false,z]⟩) w1)/\
      ∀v vs,a=v::vs-> ∃x:el.T,v=el.gR x/\K (.tuple ⟨[.int .i64 0,.bool true,el.gR x]⟩) (w1.putObj r (.chan cap ⟨vs⟩ false s (m+1) false))
     |none=>dt 131 op
    | _, _, _, _=>dt 132 op
   | _, _=>dt 133 op
 | _=>dt 134 op
theorem y6 (w:A2) (r cap:Nat) (a:Array AC) (cl:Bool) (s m:Nat) (b:Bool):w.setChan r cap a cl s m b=w.putObj r (.chan cap a cl s m b):=rfl
theorem Ol {ρ:Operand->Option AC} {a:Act} (d: ∀x v,ρ x=some v->a.eval x=v) {o:Oper} {w w':A2} {K:AC->A2->Prop} (h:cop P ρ o.op w K) (g:Ext w w'):
 (∀c,o.op≠ .defer c)/\ ∃v j,CmR P o a w' v j/\K v j:=by
 obtain⟨dst,op,type,pos,after,guard⟩:=o;unfold cop at h;simp only at h;split at h
 ·rename_i ch x;refine⟨λc hc=>(by cases hc),?_⟩;split at h
  ·rename_i p v e hv;obtain⟨r,cap,k,s,m,rfl,hc,l,f⟩:=h w' g;refine⟨_, _,⟨_, _, _,(by simp only[execOp,d _ _ e,d _ _ hv];rfl),λfr cs es b=>?_⟩,f⟩;have:=Go.Conc.step_lone_send_room (z':= .tuple #[]) b hc (by simpa using l);rw[this,y6];simp
  ·exact h.elim
 ·rename_i cs bl;refine⟨λc hc=>(by cases hc),?_⟩;split at h
  ·rename_i c fq;split at h
   ·rename_i p i el n e hi y;split at h
    ·rename_i z q;obtain⟨r,cap,k,s,m,rfl,hc,h0,h1⟩:=h w' g;have t:cs= #[c]:=by cases cs;simp_all
     have dN:(execOp a.eval ⟨dst,.select cs false,type,pos,after,guard⟩).run P w'= .ok (.comm #[S0 r z] false .select) w':=by
      subst t;have u:(zeroValue c.elem).run P w'= .ok z w':=by simp[zeroValue,ft hi,q]
      simp[execOp,n,d _ _ e,u,S0]
     cases k with
     |nil=>exact⟨_, _,⟨_, _, _,dN,λfr cs es b=>Go.Conc.step_lone_select_default b hc⟩,h0 rfl⟩
     |cons v vs=>
      obtain⟨x,rfl,f⟩:=h1 v vs rfl;refine⟨_, _,⟨_, _, _,dN,λfr cs es b=>?_⟩,f⟩;have:=Go.Conc.step_lone_select_recv_buf b hc (by simp);rw[this,y6];simp[goInt]
    ·exact h.elim
   ·exact h.elim
  ·exact h.elim
 ·exact h.elim
def rxC (C:dj P) (ops:Array Oper) (N:Nat):List Nat->List bF->A2->(List bF->A2->Prop)->Prop
 |[],env,w,K=>K env w
 |i::r,env,w,K=>match ops[i]? with
  |none=>False
  |some ⟨dst,op,type,pos,after,guard⟩=>match guard with
   |some _=>dt 135 op
   |none=>if oO ops N env [] dst then match Wv op with
     |true=>cop P (wS env []) op w (λv a=>wF env dst [] none v (λenv=>rxC C ops N r env a K))
     |false=>if HK op then oz C ops env [] none ⟨dst,op,type,pos,after,none⟩ w (λv=>wF env dst [] none v (λenv=>rxC C ops N r env w K)) else dt 136 op
    else dt 137 op
theorem FI {ops:Array Oper} {C:dj P} (f:Wr S ops): ∀(l:List Nat) (env:List bF) (a:Act) (w w':A2) (K:List bF->A2->Prop),Fit S ops N D env a->rxC C ops N l env w K->Ext w w'->
 SH P ops (λa1 w1=> ∃cJ j,K cJ j/\Fit S ops N D cJ a1/\Ext j w1) l a w'
 |[],env,a,w,w',K,b,h,c=>⟨env,w,h,b,c⟩
 |i::l,env,a,w,w',K,b,h,c=>by
  unfold rxC at h;split at h
  ·exact h.elim
  ·rename_i dst op type pos after guard k;have n:=f _ (JS k);split at h
   ·exact h.elim
   ·split at h
    ·rename_i p;have m: ∀v,Fit S ops N D (l6 env dst [] none v) (a.put dst v):=λv=>b.put p n rfl (λ_=>rfl) (λd=>absurd ee d);refine⟨_,k,(by simp[BO]),?_⟩;split at h
     ·obtain⟨d,v,q,hc,e⟩:=Ol (o:=⟨dst,op,type,pos,after,none⟩) (a:=a) (λx v r=>b.ev ee r) h c;rw[nC] at e;exact⟨d,v,q,.inr hc,FI f l _ _ _ _ K (m v) e (Ext.refl _)⟩
     ·split at h
      ·rename_i s;obtain⟨v,e,t⟩:=yh (g:=none) b rfl h;obtain⟨u,d⟩:=AD s (t ee w' c);rw[nC] at e;exact⟨d,v,w',.inl u,FI f l _ _ _ _ K (m v) e c⟩
      ·exact h.elim
    ·exact h.elim
def nj (o:Oper):List Nat:=(o.after.toList.filter λe=>CP .any e).map (·.on)
def FJ (o:Oper):List Nat:=o.op.operands.toList.filterMap λ| .tmp t=>some t| _=>none
def aaP (op:Op):Bool:=match op with
 | .select .. =>true
 | _=>false
def Ww (ops:Array Oper) (i:Nat):Bool:=match ops[i]? with
 |none=>false
 |some o=>o.guard.isNone&& !aaP o.op&&((FJ o).all λt=>(BK ops.size).all λj=>dA ops j != some t||(nj o).contains j)&&((nj o).all λj=>Dv j i)&&
  (o.dst.isNone||(BK i).all λj=>dA ops j != o.dst)&&(Nat.beq (i+1) ops.size||(BK ops.size).any λk=>Dv i k&&match ops[k]? with
   |some x=>(nj x).contains i
   |none=>false)
def Fk (ops:Array Oper):Bool:=(BK ops.size).all (Ww ops)
def wpS (P:Av) (ops:Array Oper) (Q:Act->A2->Prop):List Nat->Act->A2->Prop
 |[], _, _=>False
 |[i],a,w=> ∃o,ops[i]? =some o/\(∀c,o.op≠ .defer c)/\ ∃v w',CmR P o a w v w'/\Q (a.put o.dst v) w'
 |i::j::l,a,w=> ∃o,ops[i]? =some o/\(∀c,o.op≠ .defer c)/\ ∃v,(execOp a.eval o).run P w= .ok (.value v) w/\wpS P ops Q (j::l) (a.put o.dst v) w
theorem DH {ops:Array Oper} {Q d:Act->A2->Prop} (e: ∀a w,Q a w->d a w): ∀(l:List Nat) (a:Act) (w:A2),wpS P ops Q l a w->wpS P ops d l a w
 |[i],a,w,h=>by
  obtain⟨o,b,c,v,w',hc,h⟩:=h;exact⟨o,b,c,v,w',hc,e _ _ h⟩
 |i::j::l,a,w,h=>by
  obtain⟨o,b,c,v,f,h⟩:=h;exact⟨o,b,c,v,f,DH e _ _ _ h⟩
def CI (ops:Array Oper) (a:Act) (v:Nat->AC) (k:Nat):Nat->Act
 |0=>a
 |i+1=>(CI ops a v k i).put (dA ops (k+i)) (v i)
theorem AE {ops:Array Oper} {a:Act} {v:Nat->AC} {k:Nat}: ∀i,CI ops (a.put (dA ops k) (v 0)) (λj=>v (j+1)) (k+1) i=CI ops a v k (i+1)
 |0=>rfl
 |i+1=>by
  show(CI ops _ _ _ i).put _ _=(CI ops a v k _).put _ _;rw[AE,show k+1+i=k+(i+1) by omega]
theorem FK {ops:Array Oper} {i:Nat} {o:Oper} (h:ops[i]? =some o):dA ops i=o.dst:=by grind[dA]
theorem Ik {ops:Array Oper} {Q:Act->A2->Prop} {w:A2}: ∀(d k:Nat) (a:Act),wpS P ops Q (Gd k (d+1)) a w->
 ∃(v:Nat->AC),(∀i,i<d-> ∃o,ops[k+i]? =some o/\(∀c,o.op≠ .defer c)/\(execOp (CI ops a v k i).eval o).run P w= .ok (.value (v i)) w)/\
  ∃o,ops[k+d]? =some o/\(∀c,o.op≠ .defer c)/\ ∃u w',CmR P o (CI ops a v k d) w u w'/\Q ((CI ops a v k d).put o.dst u) w'
 |0,k,a,h=>by
  obtain⟨o,h1,f,u,w',b,l⟩:=h;exact⟨λ_=>undef,by grind,o,h1,f,u,w',b,l⟩
 |d+1,k,a,h=>by
  rw[IR] at h;have e:Gd (k+1) (d+1)=(k+1)::Gd (k+1+1) d:=IR;rw[e] at h;obtain⟨o,h1,m,g,f,b⟩:=h;rw[<-e] at b;obtain⟨v,q,n,r,p,u,w',k4,k5⟩:=Ik d (k+1) _ b
  let j:Nat->AC:=λi=>match i with
   |0=>g
   |i+1=>v i
  have sh: ∀i,CI ops (a.put o.dst g) v (k+1) i=CI ops a j k (i+1):=λi=>by
   rw[<-AE,FK h1]
  refine⟨j,λi hi=>?_,n,by grind,p,u,w',?_,?_⟩
  ·cases i with
   |zero=>exact⟨o,h1,m,f⟩
   |succ i=>
    grind
  ·rw[<-sh d];exact k4
  ·rw[<-sh d];exact k5
structure SR (ops:Array Oper) (m:Nat) (v:Nat->AC) (a:Act) (S:Nat->Prop) (b:Act):Prop where
 df:b.defers=a.defers
 sz:b.tmps.size=a.tmps.size
 yes: ∀j t,j<m->S j->dA ops j=some t->b.tmps[t]? =if t<a.tmps.size then some (v j) else none
 no: ∀t,(∀j,j<m->S j->dA ops j≠some t)->b.tmps[t]? =a.tmps[t]?
theorem SR.step {ops:Array Oper} {m:Nat} {v:Nat->AC} {a b:Act} {S S':Nat->Prop} (h:SR ops m v a S b) {i:Nat} (hi:i<m) (l: ∀j,S' j<->S j\/j=i) (o: ∀j t,j<m->dA ops j=some t->dA ops i=some t->j=i):SR ops m v a S' (b.put (dA ops i) (v i)):=by
 cases n:dA ops i with
 |none=>
  refine⟨h.df,h.sz,λj t k f g=>?_,λt g=>h.no t (by grind)⟩;rcases(l j).1 f with f|rfl
  ·exact h.yes j t k f g
  grind
 |some d=>
  have p:(b.put (some d) (v i)).tmps.size=a.tmps.size:=by simp[Bx,h.sz]
  refine⟨h.df,p,λj t k f g=>?_,λt g=>?_⟩
  ·by_cases e:t=d
   ·subst e;have:j=i:=o j t k g n;subst this;simp only[Bx];rw[Array.getElem?_setIfInBounds];simp[h.sz]
   ·rcases(l j).1 f with f|rfl
    ·have:(b.put (some d) (v i)).tmps[t]? =b.tmps[t]? :=by simp[Bx,CO (λc=>e c.symm)]
     rw[this];exact h.yes j t k f g
    grind
  ·have q:d≠t:=λe=>g i hi ((l i).2 (.inr rfl)) (by rw[n,e]);have:(b.put (some d) (v i)).tmps[t]? =b.tmps[t]? :=by simp[Bx,CO q]
   rw[this];exact h.no t (by grind)
theorem SR.eq {ops:Array Oper} {m:Nat} {v:Nat->AC} {a b c:Act} {S T:Nat->Prop} (h:SR ops m v a S b) (k:SR ops m v a T c) (i: ∀j,j<m->(S j<->T j)):b=c:=by
 have:=by
  apply JD;apply List.ext_getElem?;intro t;have e:b.tmps[t]? =c.tmps[t]? :=by
   by_cases l: ∃j,j<m/\S j/\dA ops j=some t
   ·obtain⟨j,d,f,g⟩:=l;rw[h.yes j t d f g,k.yes j t d ((i j d).1 f) g]
   ·rw[h.no t (by grind),k.no t (by grind)]
  simpa
 cases b;cases c;have h1:=h.df.trans k.df.symm
 grind
theorem fp {ops:Array Oper} (a:Fk ops=true) {i:Nat} {o:Oper} (d:ops[i]? =some o):
 o.guard=none/\(∀cs b,o.op≠ .select cs b)/\(∀t∈FJ o, ∀j,j<ops.size->dA ops j=some t->j∈nj o)/\(∀j∈nj o,j<i)/\(∀j t,j<i->dA ops j=some t->dA ops i≠some t)/\
  (i+1=ops.size\/ ∃k x,i<k/\ops[k]? =some x/\i∈nj x):=by
 have hi:=(Bp.1 d).1;unfold Fk at a;rw[DB] at a;have h:=a i (Da.2 hi);unfold Ww at h;rw[d] at h;simp at h;obtain⟨⟨⟨⟨⟨h1,f⟩,l⟩,g⟩,m⟩,n⟩:=h;refine⟨h1,λcs b e=>(by rw[e] at f;cases f),by grind,g,λj t p q c=>?_,?_⟩
 ·grind[FK]
 grind
theorem AF {ops:Array Oper} {a:Array Bool} (d:a.size=ops.size) {i:Nat}:i∈BJ .any ops a<-> ∃o,ops[i]? =some o/\a.getD i false=false/\ ∀j∈nj o,a.getD j false=true:=by
 have c:i<ops.size->(a.getD i true=a.getD i false):=λh=>by simp[JL,d,h]
 unfold BJ;rw[Bs,Da];constructor
 ·rintro⟨hi,hc⟩;obtain⟨o,b⟩: ∃o,ops[i]? =some o:=⟨_,JP hi⟩;rw[b,c hi] at hc;simp only[Fu,Hb,BN,H4,H5] at hc;refine⟨o,b,hc.1,λj f=>?_⟩;obtain⟨e,g,rfl⟩:=Fw.1 f
  grind
 ·rintro⟨o,b,h1,k⟩;have hi:i<ops.size:=(Bp.1 b).1;refine⟨hi,?_⟩;rw[b,c hi];simp only[Fu,Hb,BN,H4,H5,EY];refine⟨h1,λe g=>?_⟩;by_cases hb:CP .any e=true
  ·exact .inr (k e.on (Fw.2 (by grind)))
  grind
theorem yz {l:Array Bool} {i j:Nat} (hi:i<l.size):(l.setIfInBounds i true).getD j false=true<->l.getD j false=true\/j=i:=by
 by_cases j=i
 simp_all
 ·simp
  grind
theorem TO {ops:Array Oper} {Q:Act->A2->Prop} {a:Act} {w:A2} (z:Fk ops=true) {m:Nat} (hm:ops.size=m+1) (h:wpS P ops Q (BK (m+1)) a w):
 ∀(s t:Nat) (f:Array Bool) (b:Act),f.size=ops.size->(BK ops.size).countP (λj=> !f.getD j false)=s->f.getD m false=false->
  (∀i o,ops[i]? =some o->f.getD i false=true-> ∀j∈nj o,f.getD j false=true)->
  (∃v:Nat->AC,(∀i,i<m-> ∃o,ops[i]? =some o/\(∀c,o.op≠ .defer c)/\(execOp (CI ops a v 0 i).eval o).run P w= .ok (.value (v i)) w)/\
   (∃o,ops[m]? =some o/\(∀c,o.op≠ .defer c)/\ ∃u w',CmR P o (CI ops a v 0 m) w u w'/\Q ((CI ops a v 0 m).put o.dst u) w')/\SR ops m v a (λj=>f.getD j false=true) b)->
  SH P ops Q (EW .any ops s t f []) b w:=by
 intro s
 induction s with
 |zero=>
  intro t f b y hc B _ _;exfalso;rw[NE] at hc;have:=hc m (Da.2 (by omega));rw[B] at this;exact this rfl
 |succ s ih=>
  intro t f b y hc B T J;obtain⟨v,hv,⟨K,C,U,u,w',V,W⟩,E⟩:=J;have X: ∀i j t,i<m->j<m->dA ops i=some t->dA ops j=some t->j=i:=λi j t hi g h1 p=>by
   obtain⟨oi,l, _⟩:=hv i hi;obtain⟨oj,F, _⟩:=hv j g;rcases Nat.lt_trichotomy i j with q|q|q
   ·exact absurd p ((fp z F).2.2.2.2.1 i t q h1)
   ·exact q.symm
   ·exact absurd h1 ((fp z l).2.2.2.2.1 j t q p)
  have L: ∀k,k<=m->SR ops m v a (λj=>j<k) (CI ops a v 0 k):=by
   intro k
   induction k with
   |zero=>exact λ_=>⟨rfl,rfl,λj t _ hs=>absurd hs (Nat.not_lt_zero _),λt _=>rfl⟩
   |succ k M=>
    intro r;have:=(M (by omega)).step (S':=λj=>j<k+1) (i:=k) (by omega) (λj=>by omega) (λj t g h1 p=>X k j t (by omega) g p h1);show SR ops m v a _ ((CI ops a v 0 k).put (dA ops (0+k)) (v k));rw[Jn];exact this
  have same: ∀i o,ops[i]? =some o->i<=m->(∀j∈nj o,f.getD j false=true)->execOp b.eval o=execOp (CI ops a v 0 i).eval o:=λi o l hi D=>by
   obtain⟨_,hns,Jp,Y, _, _⟩:=fp z l;refine execOp_congr o hns λx J=>?_;cases x with
   |tmp t=>
    have ht:t∈FJ o:=List.mem_filterMap.2 ⟨.tmp t,by simpa using J,rfl⟩;have key:b.tmps[t]? =(CI ops a v 0 i).tmps[t]? :=by
     by_cases g: ∃j,j<ops.size/\dA ops j=some t
     ·obtain⟨j,Z,N⟩:=g;have G:=Jp t ht j Z N;have O:=Y j G;rw[E.yes j t (by omega) (D j G) N,(L i hi).yes j t (by omega) O N]
     ·rw[E.no t λj Ac _ R=>g ⟨j,by omega,R⟩,(L i hi).no t λj Ac _ R=>g ⟨j,by omega,R⟩]
    simp only[FF,F0,key]
   | _=>rfl
  have wt: ∀i o,ops[i]? =some o-> ∀c:Act,BO o (yielded ops c.tmps)=true:=λi o l c=>by
   unfold BO;rw[(fp z l).1]
  simp only[EW];change SH P ops Q (match (BJ .any ops f)[t % (BJ .any ops f).length]? with
   |some i=>EW .any ops s (t / (BJ .any ops f).length) (f.setIfInBounds i true) [i]
   |none=>[].reverse) b w
  cases hi:(BJ .any ops f)[t % (BJ .any ops f).length]? with
  |none=>
   exfalso;have Fj:BJ .any ops f=[]:=by
    cases hr:BJ .any ops f with
    |nil=>rfl
    |cons x xs=>
     rw[hr] at hi;have Y:t % (x::xs).length<(x::xs).length:=Nat.mod_lt _ (by simp);rw[List.getElem?_eq_none_iff] at hi;omega
   have least: ∀k,k<=m->(∀j,j<k->f.getD j false=true)->f.getD k false=true:=λk r g=>by
    cases A:f.getD k false with
    |true=>rfl
    |false=>
     exfalso;obtain⟨o,l⟩: ∃o,ops[k]? =some o:=⟨_,JP (by omega)⟩;have:k∈BJ .any ops f:=(AF y).2 ⟨o,l,A,λj G=>g j ((fp z l).2.2.2.1 j G)⟩;rw[Fj] at this;cases this
   have all: ∀k,k<=m->f.getD k false=true:=by
    intro k
    induction k using Jo with
    | _ k M=>exact λr=>least k r λj g=>M j g (by omega)
   rw[all m (Cb _)] at B;cases B
  |some i=>
   simp only[];rw[linearise_go_acc,List.reverse_singleton,List.singleton_append];have hir:=List.mem_of_getElem? hi;obtain⟨o,l,nX,D⟩:=(AF y).1 hir;have H:i<ops.size:=(Bp.1 l).1;by_cases him:i=m
   ·subst him;rw[C] at l;cases l;have all: ∀d k,k+d=i->k<i->f.getD k false=true:=by
     intro d
     induction d using Jo with
     | _ d ihd=>
       intro k r hki;obtain⟨ok,jM, _⟩:=hv k hki;rcases(fp z jM).2.2.2.2.2 with q|⟨j,x,hkj,I,uq⟩
       ·omega
       ·have Z:j<ops.size:=(Bp.1 I).1;by_cases O:j=i
        ·subst O;rw[C] at I;cases I;exact D k uq
        ·exact T j x I (ihd (i - j) (by omega) j (by omega) (by omega)) k uq
    have heq:b=CI ops a v 0 i:=E.eq (L i (Cb _)) λj g=>⟨λ_=>g,λ_=>all (i - j) j (by omega) g⟩;have hf:s=0:=by
     have h1:(BK ops.size).countP (λj=> !f.getD j false)<=1:=by
      rw[hm,NF,In];have:(BK i).countP (λj=> !f.getD j false)=0:=NE.2 λj g=>by
       rw[all (i - j) j (by have:=Da.1 g;omega) (Da.1 g)];decide
      rw[this];exact Nat.le_trans (by rw[Jn];exact List.countP_le_length) (Cb 1)
     omega
    subst hf;refine⟨K,C,wt i K C b,U,u,w',.inr ?_,?_⟩
    ·rw[heq];exact V
    ·rw[heq];exact W
   ·have S:i<m:=by omega
    obtain⟨o',F,hn,dN⟩:=hv i S;rw[l] at F;cases F;refine⟨o,l,wt i o l b,hn,v i,w,.inl (by rw[same i o l (by omega) D];exact dN),?_⟩;have S4:(f.setIfInBounds i true).size=ops.size:=by simp[y]
    refine ih _ _ _ S4 ?_ ?_ ?_ ⟨v,hv,⟨K,C,U,u,w',V,W⟩,?_⟩
    ·
     have YC: ∀n,i<n->(BK n).countP (λj=> !f.getD j false)=(BK n).countP (λj=> !(f.setIfInBounds i true).getD j false)+1:=by
      intro n
      induction n with
      |zero=>intro h;omega
      |succ n ihn=>
       intro lC;rw[NF,In,In];by_cases e:i=n
       ·subst e;have h1:(BK i).countP (λj=> !(f.setIfInBounds i true).getD j false)=(BK i).countP (λj=> !f.getD j false):=by
         refine List.countP_congr λj g=>?_;have g:=Da.1 g;have:(f.setIfInBounds i true).getD j false=f.getD j false:=by
          simp only[F0];rw[CO (by omega)]
         rw[this]
        have p:(f.setIfInBounds i true).getD i false=true:=(yz (by rw[y];exact H)).2 (.inr rfl);rw[h1,Gi,Gi,p,nX];rfl
       ·have p:(f.setIfInBounds i true).getD n false=f.getD n false:=by
         simp only[F0];rw[CO e]
        rw[ihn (by omega),Gi,Gi,p];omega
     have:=YC ops.size H;omega
    ·have:(f.setIfInBounds i true).getD m false=f.getD m false:=by
      simp only[F0];rw[CO him]
     rw[this];exact B
    ·intro k x r A j g;rw[yz (by rw[y];exact H)] at A ⊢;rcases A with A|rfl
     ·exact .inl (T k x r A j g)
     ·rw[l] at r;cases r;exact .inl (D j g)
    ·have:=E.step (S':=λj=>(f.setIfInBounds i true).getD j false=true) S (λj=>yz (by rw[y];exact H)) (λj t g h1 p=>X i j t S g p h1);rw[FK l] at this;exact this
theorem Wy {ops:Array Oper} {Q:Act->A2->Prop} (c:Fk ops=true) {w:A2}: ∀(l:List Nat) (a:Act),wpS P ops Q l a w->SH P ops Q l a w
 |[i],a,h=>by
  obtain⟨o,b,d,v,w',hc,e⟩:=h;exact⟨o,b,by unfold BO;rw[(fp c b).1],d,v,w',.inr hc,e⟩
 |i::j::l,a,h=>by
  obtain⟨o,b,d,v,f,g⟩:=h;exact⟨o,b,by unfold BO;rw[(fp c b).1],d,v,w,.inl f,Wy c _ _ g⟩
theorem z_ {r:Option Nat} {id:Nat} {ops:Array Oper} {f:Bool} {Q:Exit->Act->A2->Prop} {a:Act} {w:A2} (s:P.follows .mixedOrders=true) (g:Fk ops=true) (h0:0<ops.size)
 (h: ∀w',Ext w w'->wpS P ops (Q .normal) (BK ops.size) a w'):(Code.region id ops f).wpIn (WF r) 0 P Q a w:=by
 intro b k cs _ hb l;cases f with
 |false=>
  obtain⟨a',w',c,d⟩:=mT (r:=r) _ _ _ (Wy g _ _ (h w (Ext.refl w))) b k cs;exact⟨.normal,a',w',c,StepsIn.head (fenced_calm hb l rfl) stepR_region d⟩
 |true=>
  have e:=h _ (Ext.drew w);obtain⟨m,n⟩: ∃m,ops.size=m+1:=⟨ops.size - 1,by omega⟩;have key: ∀t,SH P ops (Q .normal) (Fv (P.follows .mixedOrders) ops t) a {w with drawn:=w.drawn+1}:=λt=>by
   simp only[Fv,s,Bool.true_or,if_true,M5];rw[n] at e;have x:=Ik m 0 a (by rw[<-ND];exact e);obtain⟨v,hv,o,A,y,u,w',hc,c⟩:=x;have p: ∀j,(Do ops.size false).getD j false=false:=λj=>by
    by_cases z:j<ops.size<;>simp[JL,z]
   refine TO g n e ops.size t _ a (by simp) ?_ (p m) (λi o _ q=>by rw[p] at q;cases q) ⟨v,λi hi=>?_,⟨o,?_,y,u,w',hc,c⟩,⟨rfl,rfl,by simp_all,λt _=>rfl⟩⟩
   simp_all
   grind
   grind
  obtain⟨a',w',c,d⟩:=mT (r:=r) _ _ _ (key _) b k cs;exact⟨.normal,a',w',c,StepsIn.head (fenced_calm hb l rfl) (stepR_region_draw) d⟩
def rxP (C:dj P) (ops:Array Oper) (N:Nat):List Nat->List bF->A2->(List bF->A2->Prop)->Prop
 |[], _, _, _=>False
 |i::r,env,w,K=>match ops[i]? with
  |none=>False
  |some ⟨dst,op,type,pos,after, _⟩=>if oO ops N env [] dst then match r with
    |[]=>cop P (wS env []) op w (λv a=>wF env dst [] none v (λenv=>K env a))
    |j::l=>if HK op then oz C ops env [] none ⟨dst,op,type,pos,after,none⟩ w (λv=>wF env dst [] none v (λenv=>rxP C ops N (j::l) env w K)) else dt 138 op
   else dt 139 op
theorem Om {ops:Array Oper} {C:dj P} (k:Fk ops=true) (m:Wr S ops): ∀(l:List Nat) (env:List bF) (a:Act) (w w':A2) (K:List bF->A2->Prop),Fit S ops N D env a->rxP C ops N l env w K->Ext w w'->
 wpS P ops (λa1 w1=> ∃cJ n,K cJ n/\Fit S ops N D cJ a1/\Ext n w1) l a w'
 |[], _, _, _, _, _, _,h, _=>h.elim
 |i::r,env,a,w,w',K,e,h,f=>by
  unfold rxP at h;split at h
  ·exact h.elim
  ·rename_i dst op type pos after guard d;have s:=m _ (JS d);have t:guard=none:=(fp k d).1;subst t;split at h
   ·rename_i u;have p: ∀v,Fit S ops N D (l6 env dst [] none v) (a.put dst v):=λv=>e.put u s rfl (λ_=>rfl) (λb=>absurd ee b);split at h
    ·obtain⟨b,v,q,hc,c⟩:=Ol (o:=⟨dst,op,type,pos,after,none⟩) (a:=a) (λx v y=>e.ev ee y) h f;rw[nC] at c;exact⟨_,d,b,v,q,hc, _,q,c,p v,Ext.refl _⟩
    ·rename_i j l;split at h
     ·rename_i z;obtain⟨v,c,A⟩:=yh (g:=none) e rfl h;obtain⟨B,b⟩:=AD (o:=⟨dst,op,type,pos,after,none⟩) z (A ee w' f);rw[nC] at c;exact⟨_,d,b,v,B,Om k m (j::l) _ _ _ _ K (p v) c f⟩
     ·exact h.elim
   ·exact h.elim
def HL (C:dj P) (N:Nat) (ops:Array Oper) (a:Bool) (env:List bF) (w:A2) (K:List bF->A2->Prop):Prop:=
 if aaN ops then
  if Tt ops then rxC C ops N (BK ops.size) env w (λenv w=>jA (j7 env) λenv=>K env w)
  else if Fk ops&&Dv 0 ops.size then rxP C ops N (BK ops.size) env w (λenv w=>jA (j7 env) λenv=>K env w) else False
 else if a then
  if NL ops then XY C ops N env w (λenv w=>jA (j7 env) λenv=>K env w) else False
 else rxL C ops N (BK ops.size) env w (λenv w=>jA (j7 env) λenv=>K env w)
inductive Md where
 |run|to (b:Nat) (K:List bF->A2->Prop)|VX (b:Nat)
def atR (b:Nat) (y:Code):Bool:=match jB y with
 |some i=>Nat.beq i b
 |none=>false
def Fl (b:Nat):Code->Option Code
 | .seq _ y=>match atR b y with
   |true=>some y
   |false=>Fl b y
 | _=>none
def oH (b:Nat):Code->List Nat
 | .seq x y=>writes x++(match atR b y with
   |true=>[]
   |false=>oH b y)
 | _=>[]
def aaj (b:Nat):Code->Bool
 | .seq x y=>match atR b x with
   |true=>true
   |false=>aaj b y
 |c=>atR b c
def aaQ (aT:Nat->aZ) (c y:Code):Option (Nat×aZ):=match jB c with
 |none=>none
 |some a=>match aT (1000000+a) with
  |[]=>none
  |(b, _)::sl=>match aaj b y with
   |true=>some (b,sl)
   |false=>none
def Nj (sl:aZ) (J:oq (sl.map (·.2))->A2->Prop) (env:List bF) (w:A2):Prop:=match oQ sl env with
 |some s=>J s w
 |none=>False
def cz (C:dj P) (aT:Nat->aZ) (N:Nat):Code->Md->List bF->A2->(List bF->A2->Prop)->(Nat->List bF->A2->Prop)->(List bF->A2->Prop)->Prop
 | .skip,.run,env,w,Kn, _, _=>Kn env w
 | .region _ ops g,.run,env,w,Kn, _, _=>HL C N ops g env w Kn
 | .seq x y,m,env,w,Kn,Kx,Kr=>match m with
   | .run=>match aaQ aT x y with
     |none=>cz C aT N x .run env w (λenv w=>cz C aT N y .run env w Kn Kx Kr) Kx Kr
     |some (b,sl)=> ∃J:oq (sl.map (·.2))->A2->Prop,
      cz C aT N x .run env w (λenv w=>match atR b y with
       |true=>Nj sl J env w
       |false=>cz C aT N y (.to b (Nj sl J)) env w Kn Kx Kr) Kx Kr/\
      ∀s w1,J s w1->jA (kO sl s++env.filter λe=> !(oH b (.seq x y)).contains e.t) λcJ=>match atR b y with
       |true=>cz C aT N y .run cJ w1 Kn Kx Kr
       |false=>cz C aT N y (.VX b) cJ w1 Kn Kx Kr
   | .to b K=>cz C aT N x .run env w (λenv w=>match atR b y with
    |true=>K env w
    |false=>cz C aT N y (.to b K) env w Kn Kx Kr) Kx Kr
   | .VX b=>match atR b y with
    |true=>cz C aT N y .run env w Kn Kx Kr
    |false=>cz C aT N y (.VX b) env w Kn Kx Kr
 | .cond c x y,.run,env,w,Kn,Kx,Kr=>match wS env [] c with
   |some (.bool b)=>aL b (cz C aT N x .run env w Kn Kx Kr) (cz C aT N y .run env w Kn Kx Kr)
   | _=>False
 | .block id x,.run,env,w,Kn,Kx,Kr=>cz C aT N x .run env w Kn (λa env w=>if a=id then Kn env w else Kx a env w) Kr
 | .loop x,.run,env,w, _,Kx,Kr=>
   let sl:=aT ((jB x).getD 0)
   match oQ sl env with
   |none=>False
   |some s0=> ∃I:Nat->oq (sl.map (·.2))->A2->Prop,(∃n, ∀w1,Ext w w1->I n s0 w1)/\
    ∀n s w1,I n s w1->jA (kO sl s++env.filter λe=> !(writes x).contains e.t) λcJ=>cz C aT N x .run cJ w1
     (λh i=>match oQ sl h with
      |some s2=> ∀d,Ext i d-> ∃f,f<n/\I f s2 d
      |none=>False) Kx Kr
 | .exit id,.run,env,w, _,Kx, _=>Kx id env w
 | .ret,.run,env,w, _, _,Kr=>Kr env w
 | _, _, _, _, _, _, _=>False
@[reducible] def rD (C:dj P) (aT:Nat->aZ) (N:Nat) (c:Code) (env:List bF) (w:A2) (Kn:List bF->A2->Prop) (Kx:Nat->List bF->A2->Prop) (Kr:List bF->A2->Prop):Prop:=
 cz C aT N c .run env w Kn Kx Kr
def Qp (S:Nat->Option (Option AC)) (N:Nat) (D:List Deferred) (Kn:List bF->A2->Prop) (Kx:Nat->List bF->A2->Prop) (Kr:List bF->A2->Prop):Exit->Act->A2->Prop
 | .normal,a,w=> ∃env b,Kn env b/\plain env/\Fit S #[] N D env a/\Ext b w
 | .exit id,a,w=> ∃env b,Kx id env b/\plain env/\Fit S #[] N D env a/\Ext b w
 | .ret,a,w=> ∃env b,Kr env b/\plain env/\Fit S #[] N D env a/\Ext b w
 | _, _, _=>False
theorem TP {ops:Array Oper} (h: ∀k∈Ts ops,S k=none):Wr S ops:=λo a k b=>h k (by
 simp[Ts]
 grind)
theorem DI {r:Option Nat} {C:dj P} {id:Nat} {ops:Array Oper} {b:Bool} {w w':A2} {Kn:List bF->A2->Prop} {Kx:Nat->List bF->A2->Prop} {Kr:List bF->A2->Prop}
 (m: ∀k∈Ts ops,S k=none) (n:plain env) (o:Fit S #[] N D env a) (h:HL C N ops b env w Kn) (d:Ext w w'):
 (Code.region id ops b).wpIn (WF r) 0 P (Qp S N D Kn Kx Kr) a w':=by
 have e:Fit S ops N D env a:=o.Pf n;have f:=TP m;have p: ∀env a w w',Kn (j7 env) w->Fit S ops N D env a->Ext w w'->Qp S N D Kn Kx Kr .normal a w':=λenv a w w' q l s=>
  ⟨_,w,q,(AB (ops':= #[]) l).2,(AB l).1,s⟩
 have t: ∀c a w,¬ Qp S N D Kn Kx Kr (.panic c) a w:=λ_ _ _ h=>h;simp only[HL,jE] at h;split at h
 ·split at h
  ·rename_i u;refine z9 C.mixed u λg i=>?_;have:=FI (C:=C) f _ env a w g _ e h (d.trans i)
   grind[DG]
  ·split at h
   ·rename_i j
    simp_all
    refine z_ C.mixed j.1 j.2 λg i=>?_;have:=Om (C:=C) j.1 f _ env a w g _ e h (d.trans i)
    grind[DH]
   ·exact h.elim
 cases b with
 |false=>exact wpIn_region (by grind[Og])
 |true=>
  simp only[if_true] at h;split at h
  ·rename_i v;exact wpIn_region_any C.mixed (yZ _ _ _ _ (nN (TN (C:=C) f v t env a w _ e h p) (d.trans (Ext.drew _))))
  ·exact Ab h
theorem sV: ∀{l:aZ} {s:oq (l.map (·.2))} {e:bF},e∈kO l s->e.ch=[]/\e.g=none
 |sc::r,s,e,h=>by
  simp[kO] at h;rcases h with rfl|h;simp
  ·exact sV h
theorem BW: ∀{l:aZ} {s:oq (l.map (·.2))} {e:bF},e∈kO l s->e.k=none
 |t::r,s,e,h=>by
  simp[kO] at h;rcases h with rfl|h
  ·rfl
  ·exact BW h
theorem lX: ∀{l m:List bF} {t:Nat} {e:bF},bY (l++m) t=some e->(bY l t=some e)\/(bY l t=none/\bY m t=some e)
 |[],m,t,e,h=> .inr ⟨rfl,h⟩
 |x::r,m,t,e,h=>by
  simp[bY] at h ⊢;split at h
  grind
  ·rename_i a;rw[if_neg a];exact lX h
theorem p8: ∀{l:aZ} {env:List bF} {s:oq (l.map (·.2))} {t:Nat} {e:bF},oQ l env=some s->bY (kO l s) t=some e-> ∃e',bY env t=some e'/\e'.v=e.v
 |(t0,sc)::r,env,s,t,e,a,h=>by
  simp only[oQ] at a;split at a
  ·rename_i c d;split at a
   ·rename_i x y f b;cases a;simp only[kO,bY] at h;split at h
    ·grind[El.fZ]
    ·exact p8 b h
   ·cases a
  ·cases a
theorem yA {l:List bF} {p:bF->Bool} {t:Nat} {e:bF} (h:bY (l.filter p) t=some e):e∈l/\p e=true:=by
 have:=bO h;simpa
theorem y7 {F:Fence} {m:Nat} {Q:Exit->Act->A2->Prop} {c:Code} (R:Nat->Act->A2->Prop) {n0:Nat} {a:Act} {w:A2} (h0:R n0 a w)
 (round: ∀n a w,R n a w->c.wpIn F m P (Exit.then (λa' w'=> ∃d,d<n/\R d a' w') Q) a w):(Code.loop c).wpIn F m P Q a w:=by
 intro b k cs i hb g;have key: ∀j a w,R j a w->
  ∃e a' w',Q e a' w'/\ArrivesIn (Machine.fenced P F) P (lone (b.atR a (.code c:: .inLoop c::k)) cs w) b k cs e a' w':=by
  intro j
  induction j using Jo with
  | _ j l=>
    intro a w o;obtain⟨e,p,q,f,h⟩:=round j a w o b _ cs i hb g;cases e with
    |normal=>
     obtain⟨d,r,s⟩:=f;obtain⟨t,u,v,x,y⟩:=l d r _ _ s;exact⟨t,u,v,x,.of_steps (StepsIn.trans h (.one (fenced_calm hb g rfl) stepR_inLoop)) y⟩
    |exit
    |goto
    |ret
    |panic
    |outgrown=>exact⟨_,p,q,f,‹_›⟩
 obtain⟨e,a',w',f,h⟩:=key _ a w h0;exact⟨e,a',w',f,.of_steps (.one (fenced_calm hb g rfl) stepR_loop) h⟩
theorem YD (b:Nat) (c:Code): ∀t:Nat,t∈oH b c->t∈writes c:=by
 induction c with
 |seq=>
  grind[oH,writes]
 | _=>intro t h;cases h
structure X6 (P:Av) (r:Option Nat) (C:dj P) (aT:Nat->aZ) (N:Nat) (D:List Deferred) (c:Code):Prop where
 run: ∀(S:Nat->Option (Option AC)) (env:List bF) (a:Act) (w w':A2) (Kn:List bF->A2->Prop) (Kx:Nat->List bF->A2->Prop) (Kr:List bF->A2->Prop),
  (∀k∈writes c,S k=none)->plain env->Fit S #[] N D env a->cz C aT N c .run env w Kn Kx Kr->Ext w w'->c.wpIn (WF r) 0 P (Qp S N D Kn Kx Kr) a w'
 to: ∀(b:Nat) (K:List bF->A2->Prop) (S:Nat->Option (Option AC)) (env:List bF) (a:Act) (w w':A2) (Kn:List bF->A2->Prop) (Kx:Nat->List bF->A2->Prop) (Kr:List bF->A2->Prop) (Q:Exit->Act->A2->Prop),
  (∀k∈oH b c,S k=none)->plain env->Fit S #[] N D env a->cz C aT N c (.to b K) env w Kn Kx Kr->Ext w w'->(∀id a w,Qp S N D Kn Kx Kr (.exit id) a w->Q (.exit id) a w)->(∀a w,Qp S N D Kn Kx Kr .ret a w->Q .ret a w)->
  (∀y cJ a1 w1 zI,Fl b c=some y->K cJ w1->plain cJ->Fit S #[] N D cJ a1->Ext w1 zI->y.wpIn (WF r) 0 P Q a1 zI)->c.wpIn (WF r) 0 P Q a w'
 VX: ∀(b:Nat) (S:Nat->Option (Option AC)) (env:List bF) (a:Act) (w w':A2) (Kn:List bF->A2->Prop) (Kx:Nat->List bF->A2->Prop) (Kr:List bF->A2->Prop) (y:Code),
  Fl b c=some y->(∀k∈writes c,S k=none)->plain env->Fit S #[] N D env a->cz C aT N c (.VX b) env w Kn Kx Kr->Ext w w'->y.wpIn (WF r) 0 P (Qp S N D Kn Kx Kr) a w'
theorem X6.of {r:Option Nat} {C:dj P} {aT:Nat->aZ} {c:Code} (h: ∀(S:Nat->Option (Option AC)) (env:List bF) (a:Act) (w w':A2) (Kn:List bF->A2->Prop) (Kx:Nat->List bF->A2->Prop) (Kr:List bF->A2->Prop),
 (∀k∈writes c,S k=none)->plain env->Fit S #[] N D env a->cz C aT N c .run env w Kn Kx Kr->Ext w w'->c.wpIn (WF r) 0 P (Qp S N D Kn Kx Kr) a w')
 (h1: ∀b K env w Kn Kx Kr,¬ cz C aT N c (.to b K) env w Kn Kx Kr) (d: ∀b env w Kn Kx Kr,¬ cz C aT N c (.VX b) env w Kn Kx Kr):X6 P r C aT N D c:=
 ⟨h,by grind,by grind⟩
theorem F8 {r:Option Nat} {C:dj P} {aT:Nat->aZ}: ∀c:Code,X6 P r C aT N D c:=by
 intro c
 induction c with
 |skip=>exact .of (λS env a w w' Kn Kx Kr _ g f h l=>wpIn_skip ⟨env,w,h,g,f,l⟩) (λ_ _ _ _ _ _ _ h=>h) (λ_ _ _ _ _ _ h=>h)
 |region id ops draw=>exact .of (λS env a w w' Kn Kx Kr u g f h l=>DI u g f h l) (λ_ _ _ _ _ _ _ h=>h) (λ_ _ _ _ _ _ h=>h)
 |seq x y Js M=>
  refine⟨?_,?_,?_⟩
  ·intro S env a w w' Kn Kx Kr u g f h l;simp only[cz] at h;split at h
   ·refine wpIn_seq (wpIn_mono (Js.run S env a w w' _ Kx Kr (λk d=>u k (by simp[writes,d])) g f h l) ?_);intro e a1 w1 o;cases e with
    |normal=>
     obtain⟨cJ,p,d,X,Y,Z⟩:=o;exact M.run S cJ a1 p w1 Kn Kx Kr (λk d=>u k (by simp[writes,d])) X Y d Z
    | _=>exact o
   ·rename_i b sl _;obtain⟨J,q,hJ⟩:=h;simp only[jE] at hJ
    let i:Nat->Option (Option AC):=λt=>if(oH b (.seq x y)).contains t then none else some (a.tmps[t]?)
    let dq:=env.filter λe=> !(oH b (.seq x y)).contains e.t
    have nil: ∀(tm:Array AC),jK #[] tm []:=λtm x q=>by cases q
    have Dm: ∀t e,bY dq t=some e->a.tmps[t]? =some e.v/\(oH b (.seq x y)).contains t=false/\e.ch=[]:=by
     intro t e he;have ht:=yj he;have H:=yA he;have F:(oH b (.seq x y)).contains t=false:=by rw[<-ht];simpa using H.2
     have A:bY env t=some e:=iH he (λy _ hyt=>by rw[hyt,F];rfl);exact⟨f.yes t e A (by rw[(g e H.1).1];exact nil _),F,(g e H.1).1⟩
    have head: ∀(m:List bF) (j:Act) (s:oq (sl.map (·.2))),plain m->Fit i #[] N D m j->oQ sl m=some s->Fit i #[] N D (kO sl s++dq) j/\plain (kO sl s++dq):=by
     intro m j s rh B zJ;have O:plain (kO sl s++dq):=λe he=>by
      rcases De.1 he with he|he
      ·exact sV he
      ·exact g e (by simpa[dq] using(Bs.1 he).1)
     refine⟨⟨B.off,B.size,B.oG,λt e he _=>?_,λt e he hn=>absurd (by rw[(O e (bO he)).1];exact nil _) hn,(λe he=>by rw[(O e he).2];exact(O e he).1),λe he b hb=>by
      rcases De.1 he with he|he
      ·rw[BW he] at hb;cases hb
      ·exact f.Bm e (Bs.1 he).1 b hb⟩,O⟩
     rcases lX he with he|⟨_,he⟩
     ·obtain⟨e',jL,hv⟩:=p8 zJ he;rw[<-hv];exact B.yes t e' jL (by rw[(rh e' (bO jL)).1];exact nil _)
     ·obtain⟨hv,F, _⟩:=Dm t e he;have:=B.off t (a.tmps[t]?) (by simp only[i,F];rfl);rw[this,hv]
    have Nn:Fit i #[] N D env a:=⟨λt x q=>by
     simp only[i] at q;split at q
     ·cases q
     ·cases q;rfl,f.size,f.oG,f.yes,f.no,f.E8,f.Bm⟩
    have back: ∀{m:List bF} {j:Act},Fit i #[] N D m j->Fit S #[] N D m j:=λ{m j} A=>⟨λt z G=>by
     have F:(oH b (.seq x y)).contains t=false:=by
      cases hc:(oH b (.seq x y)).contains t with
      |false=>rfl
      |true=>have:=u t (YD b _ t (by simpa using hc));rw[this] at G;cases G
     have h1:=A.off t (a.tmps[t]?) (by simp only[i,F];rfl);rw[h1];exact f.off t z G,A.size,A.oG,A.yes,A.no,A.E8,A.Bm⟩
    have ZL: ∀k∈oH b (.seq x y),i k=none:=λk d=>by simp[i,d]
    have abK: ∀k∈writes x,i k=none:=λk d=>ZL k (by simp[oH,d]);have bx: ∀(id:Nat) (a:Act) (w:A2),Qp i N D Kn Kx Kr (.exit id) a w->Qp S N D Kn Kx Kr (.exit id) a w:=λid a w ⟨R,p,d,T,U,V⟩=>⟨R,p,d,T,back U,V⟩;have br: ∀(a:Act) (w:A2),Qp i N D Kn Kx Kr .ret a w->Qp S N D Kn Kx Kr .ret a w:=λa w ⟨R,p,d,T,U,V⟩=>⟨R,p,d,T,back U,V⟩;have G: ∀k∈writes y,S k=none:=λk d=>u k (by simp[writes,d]);refine wpIn_seq (wpIn_mono (Js.run i env a w w' _ Kx Kr abK g Nn q l) ?_);intro e a1 w1 o;cases e with
    |normal=>
     obtain⟨cJ,p,d,X,Y,Z⟩:=o;cases E:atR b y with
     |true=>
      simp only[E] at d hJ;unfold Nj at d;split at d
      ·rename_i s H;obtain⟨Xe,Xf⟩:=head cJ a1 s X Y H;exact M.run S _ a1 p w1 Kn Kx Kr G Xf (back Xe) (hJ s p d) Z
      ·exact d.elim
     |false=>
      simp only[E] at d hJ;have abL: ∀k∈oH b y,i k=none:=λk d=>ZL k (by simp[oH,E,d]);refine M.to b (Nj sl J) i cJ a1 p w1 Kn Kx Kr _ abL X Y d Z bx br ?_;intro y' m j L Bt W hK rh B sj;unfold Nj at hK;split at hK
      ·rename_i s H;obtain⟨Xe,Xf⟩:=head m j s rh B H;exact M.VX b S _ j L Bt Kn Kx Kr y' W G Xf (back Xe) (hJ s L hK) sj
      ·exact hK.elim
    |exit id=>exact bx id a1 w1 o
    |ret=>exact br a1 w1 o
    | _=>exact o
  ·intro b K S env a w w' Kn Kx Kr Q u g f h l q hr JI;simp only[cz] at h;refine wpIn_seq (wpIn_mono (Js.run S env a w w' _ Kx Kr (λk d=>u k (by simp[oH,d])) g f h l) ?_);intro e a1 w1 o;cases e with
   |normal=>
    obtain⟨cJ,p,d,X,Y,Z⟩:=o;cases E:atR b y with
    |true=>
     simp only[E] at d;exact JI y cJ a1 p w1 (by simp[Fl,E]) d X Y Z
    |false=>
     simp only[E] at d;exact M.to b K S cJ a1 p w1 Kn Kx Kr Q (λk d=>u k (by simp[oH,E,d])) X Y d Z q hr (λy' m j L Bt W=>JI y' m j L Bt (by simp[Fl,E,W]))
   |exit id=>exact q id a1 w1 o
   |ret=>exact hr a1 w1 o
   | _=>exact o.elim
  ·intro b S env a w w' Kn Kx Kr y' W u g f h l;simp only[cz] at h;have G: ∀k∈writes y,S k=none:=λk d=>u k (by simp[writes,d]);cases E:atR b y with
   |true=>
    simp only[E] at h;simp only[Fl,E,C6] at W;subst W;exact M.run S env a w w' Kn Kx Kr G g f h l
   |false=>
    simp only[E] at h;simp only[Fl,E] at W;exact M.VX b S env a w w' Kn Kx Kr y' W G g f h l
 |cond c x y Js M=>
  refine .of ?_ (λ_ _ _ _ _ _ _ h=>h) (λ_ _ _ _ _ _ h=>h);intro S env a w w' Kn Kx Kr u g f h l;simp only[cz] at h;split at h
  ·rename_i b hb;have S5:=f.ev (ch:=[]) (λ_ q=>by cases q) hb;refine wpIn_cond_split S5 (λht=>Js.run S env a w w' Kn Kx Kr (λk d=>u k (by simp[writes,d])) g f (yw h ht) l) (λht=>M.run S env a w w' Kn Kx Kr (λk d=>u k (by simp[writes,d])) g f (uK h ht) l)
  ·exact Ab h
 |block id x ih=>
  refine .of ?_ (λ_ _ _ _ _ _ _ h=>h) (λ_ _ _ _ _ _ h=>h);intro S env a w w' Kn Kx Kr u g f h l;refine wpIn_block (wpIn_mono (ih.run S env a w w' Kn _ Kr u g f h l) ?_);intro e a1 w1 o;cases e with
  |exit MX=>
   obtain⟨cJ,p,d,rest⟩:=o;simp only[Exit.inBlock];split
   ·rename_i he;simp only[he,if_true] at d;exact⟨cJ,p,d,rest⟩
   ·rename_i he;simp only[he,if_false] at d;exact⟨cJ,p,d,rest⟩
  | _=>exact o
 |exit id=>exact .of (λS env a w w' Kn Kx Kr _ g f h l=>wpIn_exit ⟨env,w,h,g,f,l⟩) (λ_ _ _ _ _ _ _ h=>h) (λ_ _ _ _ _ _ h=>h)
 |ret=>exact .of (λS env a w w' Kn Kx Kr _ g f h l=>wpIn_ret ⟨env,w,h,g,f,l⟩) (λ_ _ _ _ _ _ _ h=>h) (λ_ _ _ _ _ _ h=>h)
 |loop x ih=>
  refine .of ?_ (λ_ _ _ _ _ _ _ h=>h) (λ_ _ _ _ _ _ h=>h);intro S env a w w' Kn Kx Kr u g f h l;simp only[cz,jE] at h;split at h
  ·exact Ab h
  ·rename_i s0 hs0;obtain⟨I,⟨n0,h0⟩,oR⟩:=h
   let sl:=aT ((jB x).getD 0)
   let i:Nat->Option (Option AC):=λt=>if(writes x).contains t then none else some (a.tmps[t]?)
   let dq:=env.filter λe=> !(writes x).contains e.t
   have nil: ∀(tm:Array AC),jK #[] tm []:=λtm x q=>by cases q
   have Dm: ∀t e,bY dq t=some e->a.tmps[t]? =some e.v/\(writes x).contains t=false/\e.ch=[]:=by
    intro t e he;have ht:=yj he;have H:=yA he;have F:(writes x).contains t=false:=by rw[<-ht];simpa using H.2
    have A:bY env t=some e:=iH he (λy _ hyt=>by rw[hyt,F];rfl);exact⟨f.yes t e A (by rw[(g e H.1).1];exact nil _),F,(g e H.1).1⟩
   have head: ∀(m:List bF) (j:Act) (s:oq (sl.map (·.2))),plain m->Fit i #[] N D m j->oQ sl m=some s->Fit i #[] N D (kO sl s++dq) j/\plain (kO sl s++dq):=by
    intro m j s rh B zJ;have O:plain (kO sl s++dq):=λe he=>by
     rcases De.1 he with he|he
     ·exact sV he
     ·exact g e (by simpa[dq] using(Bs.1 he).1)
    refine⟨⟨B.off,B.size,B.oG,λt e he _=>?_,λt e he hn=>absurd (by rw[(O e (bO he)).1];exact nil _) hn,(λe he=>by rw[(O e he).2];exact(O e he).1),λe he b hb=>by
     rcases De.1 he with he|he
     ·rw[BW he] at hb;cases hb
     ·exact f.Bm e (Bs.1 he).1 b hb⟩,O⟩
    rcases lX he with he|⟨_,he⟩
    ·obtain⟨e',jL,hv⟩:=p8 zJ he;rw[<-hv];exact B.yes t e' jL (by rw[(rh e' (bO jL)).1];exact nil _)
    ·obtain⟨hv,F, _⟩:=Dm t e he;have:=B.off t (a.tmps[t]?) (by simp only[i,F];rfl);rw[this,hv]
   have Nn:Fit i #[] N D env a:=⟨λt x q=>by
    simp only[i] at q;split at q
    ·cases q
    ·cases q;rfl,f.size,f.oG,f.yes,f.no,f.E8,f.Bm⟩
   have back: ∀{m:List bF} {j:Act},Fit i #[] N D m j->Fit S #[] N D m j:=λ{m j} A=>⟨λt y G=>by
    have F:(writes x).contains t=false:=by
     cases hc:(writes x).contains t with
     |false=>rfl
     |true=>have:=u t (by simpa[writes] using hc);rw[this] at G;cases G
    have h1:=A.off t (a.tmps[t]?) (by simp only[i,F];rfl);rw[h1];exact f.off t y G,A.size,A.oG,A.yes,A.no,A.E8,A.Bm⟩
   have ZL: ∀k∈writes x,i k=none:=λk d=>by simp[i,d]
   obtain⟨hF4,hp4⟩:=head env a s0 g Nn hs0;refine y7 (λn j L=> ∃s,I n s L/\Fit i #[] N D (kO sl s++dq) j/\plain (kO sl s++dq)) (n0:=n0) ⟨s0,h0 w' l,hF4,hp4⟩ ?_;intro n j L ⟨s,hI,B,rh⟩;have hb:=ih.run i _ j L L _ Kx Kr ZL rh B (oR n s L hI) (Ext.refl _);refine wpIn_mono hb ?_;intro e a3 w3 o;cases e with
   |normal=>
    obtain⟨R,p,d,T,U,V⟩:=o;simp only[Exit.then];split at d
    ·rename_i s3 hs3;obtain⟨n',iK,hI'⟩:=d w3 V;obtain⟨Xe,Xf⟩:=head R a3 s3 T U hs3;exact⟨n',iK,s3,hI',Xe,Xf⟩
    ·exact d.elim
   |exit id=>obtain⟨R,p,d,T,U,V⟩:=o;exact⟨R,p,d,T,back U,V⟩
   |ret=>obtain⟨R,p,d,T,U,V⟩:=o;exact⟨R,p,d,T,back U,V⟩
   | _=>exact o
 | _=>exact .of (λS env a w w' Kn Kx Kr u g f h l=>Ab h) (λ_ _ _ _ _ _ _ h=>h) (λ_ _ _ _ _ _ h=>h)
theorem p9 {r:Option Nat} {C:dj P} {aT:Nat->aZ}: ∀(c:Code) (S:Nat->Option (Option AC)) (env:List bF) (a:Act) (w w':A2) (Kn:List bF->A2->Prop) (Kx:Nat->List bF->A2->Prop) (Kr:List bF->A2->Prop),
 (∀k∈writes c,S k=none)->plain env->Fit S #[] N D env a->rD C aT N c env w Kn Kx Kr->Ext w w'->c.wpIn (WF r) 0 P (Qp S N D Kn Kx Kr) a w':=λc=>(F8 c).run
def gT:List AC->Nat->List bF
 |[], _=>[]
 |v::r,i=>⟨i,[],none,v,none⟩::gT r (i+1)
def ku:List ResultVar->List bF->Option (List AC)
 |[], _=>some []
 | .tmp t::r,env=>match bY env t,ku r env with
   |some e,some l=>some (e.v::l)
   | _, _=>none
 | .cell .. :: _, _=>none
def C8 (l:List AC):AC:=
 match l with
 |[v]=>v
 |l=> .tuple ⟨l⟩
def aN (C:dj P) (aT:Nat->aZ) (f:B5) (args:List AC) (w:A2) (Post:(pL C f).T->A2->Prop):Prop:=
 match P.funcs[f]? with
 |none=>False
 |some fn=>match fn.body with
  |none=>False
  |some c=>
   let fin:List bF->A2->Prop:=λenv w=>match ku fn.results.toList env with
    |some l=>match (pL C f).proj (C8 l) with
     |some x=>ao w (λw1=>Post x w1)
     |none=>False
    |none=>False
   if args.length<=fn.ntmps then rD C aT fn.ntmps c (gT args 0) w fin (λ_ _ _=>False) fin else False
theorem lY: ∀{l:List AC} {i t:Nat} {e:bF},bY (gT l i) t=some e->i<=t/\l[t - i]? =some e.v/\e.ch=[]/\e.g=none
 |v::r,i,t,e,h=>by
  simp[gT,bY] at h;split at h
  grind
  ·obtain:=lY h
   grind
theorem sW: ∀{l:List AC} {i:Nat} {e:bF},e∈gT l i->e.k=none
 |v::r,i,e,h=>by
  simp[gT] at h;rcases h with rfl|h
  ·rfl
  ·exact sW h
theorem nO: ∀{l:List AC} {i:Nat} {e:bF},e∈gT l i->e.ch=[]/\e.g=none
 |v::r,i,e,h=>by
  simp[gT] at h;rcases h with rfl|h;simp
  ·exact nO h
def nq (tmps:Array AC):ResultVar->Sem AC
 | .tmp t=>pure (tmps.getD t undef)
 | .cell a t=>do loadVar t (<-asAddr (tmps.getD a undef))
theorem vC {tmps:Array AC} {w:A2}: ∀{l:List ResultVar} {env:List bF} {vs:List AC},ku l env=some vs->(∀t e,bY env t=some e->tmps[t]? =some e.v)->
 (l.mapM (nq tmps)).run P w= .ok vs w
 |[], _, _,h, _=>by simp_all[ku]
 | .tmp t::r,env,vs,h,hv=>by
   simp[ku] at h;split at h
   ·rename_i e l b a;have c:=vC (w:=w) a hv
    simp_all[nq]
   grind
theorem vD {fn:Func} {tmps:Array AC} {w:A2} {env:List bF} {vs:List AC} (h:ku fn.results.toList env=some vs) (hv: ∀t e,bY env t=some e->tmps[t]? =some e.v):
 (results fn tmps).run P w= .ok (C8 vs) w:=by
 have h1:=vC (P:=P) (w:=w) h hv;have a:(fn.results.mapM (nq tmps)).run P w= .ok ⟨vs⟩ w:=by
  simp_all[JJ]
 have e:results fn tmps=(do
  let vs<-fn.results.mapM (nq tmps)
  pure _):=rfl
 rw[e,B1,a]
 match vs with
 |[]=>rfl
 |[v]=>rfl
 |v::u::r=>rfl
theorem ai {C:dj P} {aT:Nat->aZ} {f:B5} {args:List AC} {w:A2} {Post:(pL C f).T->A2->Prop} (h:aN C aT f args w Post):aE P f (pL C f) args w Post:=by
 unfold aN at h;split at h
 ·exact Ab h
 ·rename_i fn p;split at h
  ·exact Ab h
  ·rename_i c hb;simp only at h;split at h
   ·rename_i B;have g:plain (gT args 0):=λe a=>nO a;have nil: ∀(o:Array Oper) (k:Array AC),jK o k []:=λo k x d=>by cases d
    have q:Fit (λ_=>none) #[] fn.ntmps [] (gT args 0) {tmps:=(⟨args⟩:Array AC)++Do (fn.ntmps - args.length) undef,defers:=[]}:=by
     refine⟨(λ_ _ d=>by cases d),(by simp;omega),rfl,λt e a _=>?_,λt e a s=>absurd (by rw[(g e (bO a)).1];exact nil _ _) s,(λe a=>by rw[(g e a).2];exact(g e a).1),by grind[sW]⟩;obtain⟨_,hv, _⟩:=lY a
     grind
    have u:=p9 (r:=none) (C:=C) (aT:=aT) c (λ_=>none) _ _ w w _ _ _ (λ_ _=>rfl) g q h (Ext.refl w);refine calls_of_wp p hb ((wpIn_wide (n:=0)).1 (wpIn_mono u ?_));have fin: ∀a1 w1,(∃env j,(match ku fn.results.toList env with
     |some l=>match (pL C f).proj (C8 l) with
      |some x=> ∀w1,Ext j w1->Post x w1
      |none=>False
     |none=>False)/\plain env/\Fit (λ_=>none) #[] fn.ntmps [] env a1/\Ext j w1)->a1.defers=[]/\ ∃v,(results fn a1.tmps).run P w1= .ok v w1/\ ∃x:(pL C f).T,Ending.returned v= .returned ((pL C f).gR x)/\Post x w1:=by
     intro a1 w1 ⟨env,j,b,y,m,z⟩;split at b
     ·rename_i l A;split at b
      ·rename_i x d;refine⟨m.oG, _,vD A (λt e a=>m.yes t e a (by rw[(y e (bO a)).1];exact nil _ _)),x,by rw[Sh.fZ d],b w1 z⟩
      ·exact b.elim
     ·exact b.elim
    intro e a1 w1 i;cases e with
    |normal=>exact fin a1 w1 i
    |ret=>exact fin a1 w1 i
    |exit id=>obtain⟨_, _,b, _⟩:=i;exact b.elim
    | _=>exact(show False from i).elim
   ·exact Ab h
variable {P:Av}
abbrev qs:=List bF->List Nat->A2->Prop
def marks (D:List Nat):List Deferred:=D.map λr=>{target:= .collected r,args:= #[]}
def xN:Code->Bool
 | .rangeFunc .. =>true
 | .seq a b=>xN a||xN b
 | .cond _ a b=>xN a||xN b
 | .block _ b=>xN b
 | .loop b=>xN b
 | _=>false
def sv (w:A2) (l:Nat) (rec:Loop) (st:LoopState) (a:Option Code):A2:=w.putObj l (.loop {rec with state:=st,pending:=a})
def cU (w:A2) (l:Nat) (rec:Loop) (st:LoopState) (a:Option Code):Prop:=w.heap[l]? =some (.loop {rec with state:=st,pending:=a})
def Dp:List Nat->A2->Prop
 |[], _=>True
 |r::D,w=>w.heap[r]? =some (.deferred (some []))/\Dp D (w.putObj r (.deferred none))
def mi:List Nat->A2->A2
 |[],w=>w
 |r::D,w=>mi D (w.putObj r (.deferred none))
def Bu (l:Nat) (rec:Loop) (w:A2) (K:A2->Prop):Prop:= ∀a,Ext w a-> ∃b,cU a l rec .ready b/\K (sv a l rec .busy b)
def rY (l:Nat) (rec:Loop) (a:Option Code) (w:A2) (R:Bool->A2->Prop):Prop:= ∀b,Ext w b-> ∃st c,cU b l rec st c/\R a.isNone (sv b l rec (if a.isNone then .ready else .done) a)
def CQ (l:Nat) (rec:Loop) (n m:Nat) (w:A2) (K:Prop):Prop:=(∃a,cU w l rec .ready a)/\n=m/\K
def rZ (D:List Nat) (w:A2) (K:A2->Prop):Prop:= ∀w1,Ext w w1->Dp D w1/\K (mi D w1)
def zz (P:Av) (b:B5) (args:Nat->List AC) (ps:Array Nat) (w:A2) {T:Type} (c:T->List AC) (d:Nat->Loop->T->A2->(Bool->A2->Prop)->Prop) (f:Nat->Loop->A2->Prop):Prop:=
 ∀w1,Ext w w1-> ∀rec:Loop,rec.params=ps->rec.defers=w1.heap.size->rec.state= .ready->rec.pending=none->
  (∀(x:T) a R,d (w1.heap.size+1) rec x a R->ma P (w1.heap.size+1) (c x) a R)->
  Calls P b ⟨args (w1.heap.size+1)⟩ ((w1.alloc (.deferred (some []))).alloc (.loop rec)) (λe g=> ∃v,e= .returned v/\f w1.heap.size rec g)
def Il (C:dj P) (aT:Nat->aZ) (N:Nat) (l:Nat) (rec:Loop) (ps:List Nat) (assign body:Code) (env:List bF) (args:List AC) (w:A2) (R:Bool->A2->Prop):Prop:=
 CQ l rec args.length ps.length w
 (jA ((ps.zip args).reverse.map (λx=>⟨x.1,[],none,x.2,none⟩)++env) λb=>rD C aT N assign b w
  (λcJ a=>Bu l rec a λc=>
   rD C aT N body cJ c
    (λ_ a=>rY l rec none a R)
    (λid _ a=>rY l rec (some (.exit id)) a R)
    (λ_ a=>rY l rec (some .ret) a R))
  (λ_ _ _=>False) (λ_ _=>False))
def dv (l:Nat) (rec:Loop) (a:A2) (Kn:A2->Prop) (Kx:Nat->A2->Prop) (Kr:A2->Prop):Prop:=
 ∃st b,cU a l rec st b/\st≠ .busy/\
  match b with
  |none=>Kn (sv a l rec .exhausted (none))
  |some (.exit id)=>Kx id (sv a l rec .exhausted (some (.exit id)))
  |some .ret=>Kr (sv a l rec .exhausted (some .ret))
  | _=>False
def MY (C:dj P) (aT:Nat->aZ) (N:Nat):Code->List bF->List Nat->A2->qs->(Nat->qs)->qs->Prop
 | .seq x y,env,D,w,Kn,Kx,Kr=>MY C aT N x env D w (λenv D w=>MY C aT N y env D w Kn Kx Kr) Kx Kr
 | .cond c x y,env,D,w,Kn,Kx,Kr=>match wS env [] c with
   |some (.bool b)=>aL b (MY C aT N x env D w Kn Kx Kr) (MY C aT N y env D w Kn Kx Kr)
   | _=>False
 | .block id x,env,D,w,Kn,Kx,Kr=>MY C aT N x env D w Kn (λf env D w=>if f=id then Kn env D w else Kx f env D w) Kr
 | .loop x,env,D,w,Kn,Kx,Kr=>
   if xN x then
    let sl:=aT ((jB x).getD 0)
    match oQ sl env with
    |none=>False
    |some s0=> ∃I:Nat->oq (sl.map (·.2))->List Nat->A2->Prop,(∃n, ∀w1,Ext w w1->I n s0 D w1)/\
     ∀n s D1 w1,I n s D1 w1->jA (kO sl s++env.filter λe=> !(writes x).contains e.t) λcJ=>MY C aT N x cJ D1 w1
      (λj D2 k=>match oQ sl j with
       |some s2=> ∀d,Ext k d-> ∃h,h<n/\I h s2 D2 d
       |none=>False) Kx Kr
   else rD C aT N (.loop x) env w (λenv w=>Kn env D w) (λid env w=>Kx id env D w) (λenv w=>Kr env D w)
 | .rangeFunc g ps assign body,env,D,w,Kn,Kx,Kr=>
   match wS env [] g with
   |some (.func (.func i) first cap)=>
    if bK P i&&ps.toList.all (λp=>decide (p<N)) then
     zz P i (λy=>cY first [.func (.yield y) #[] #[]] cap) ps w (λ(x:oq ((aT ((jB body).getD 0)).map (·.2)))=>uC _ x)
      (λl rec x d R=>Il C aT N l rec ps.toList assign body env (uC _ x) d R)
      (λr rec m=>dv (r+1) rec m (λa=>Kn env (r::D) a) (λid a=>Kx id env (r::D) a) (λa=>Kr env (r::D) a))
    else False
   | _=>False
 |c,env,D,w,Kn,Kx,Kr=>rD C aT N c env w (λenv w=>Kn env D w) (λid env w=>Kx id env D w) (λenv w=>Kr env D w)
def QpF (S:Nat->Option (Option AC)) (N:Nat) (Kn:qs) (Kx:Nat->qs) (Kr:qs):Exit->Act->A2->Prop
 | .normal,a,w=> ∃env D b,Kn env D b/\plain env/\Fit S #[] N (marks D) env a/\Ext b w
 | .exit id,a,w=> ∃env D b,Kx id env D b/\plain env/\Fit S #[] N (marks D) env a/\Ext b w
 | .ret,a,w=> ∃env D b,Kr env D b/\plain env/\Fit S #[] N (marks D) env a/\Ext b w
 | _, _, _=>False
theorem YE {S:Nat->Option (Option AC)} {N:Nat} {Kn:qs} {Kx:Nat->qs} {Kr:qs} {D:List Nat}: ∀(e:Exit) (a:Act) (w:A2),
 Qp S N (marks D) (λenv w=>Kn env D w) (λid env w=>Kx id env D w) (λenv w=>Kr env D w) e a w->QpF S N Kn Kx Kr e a w
 | .normal, _, _,⟨env,b,h⟩=>⟨env,D,b,h⟩
 | .exit _, _, _,⟨env,b,h⟩=>⟨env,D,b,h⟩
 | .ret, _, _,⟨env,b,h⟩=>⟨env,D,b,h⟩
theorem y8 {N:Nat} {D:List Deferred}: ∀(l:List (Nat×AC)) (env:List bF) (tmps:Array AC),(∀x∈l,x.1<N)->plain env->Fit (λ_=>none) #[] N D env {tmps,defers:=D}->
 Fit (λ_=>none) #[] N D (l.reverse.map (λx=>⟨x.1,[],none,x.2,none⟩)++env) {tmps:=l.foldl (λtmps (t,a)=>tmps.setIfInBounds t a) tmps,defers:=D}/\plain (l.reverse.map (λx=>(⟨x.1,[],none,x.2,none⟩:bF))++env)
 |[],env,tmps, _,b,h=>⟨h,b⟩
 |(t,v)::r,env,tmps,c,b,h=>by
  have f:plain (⟨t,[],none,v,none⟩::env):=λe he=>by
   rcases Bz.1 he with rfl|he;simp
   ·exact b e he
  have h1:=by
   have:=h.put (g:=none) (d:=some t) (u:=v) (by
    have:=c (t,v) (by grind);simp[oO,this];intro e he;rw[(b e he).1];simp) (λ_ _=>rfl) rfl (λ_=>rfl) (λi=>absurd (λx j=>by cases j) i)
   exact this
  have:=y8 r _ _ (by grind) f h1
  grind
theorem F9 {w:A2} {l:Nat} {rec:Loop} {a:Option Code} (h:cU w l rec .ready a):(Instr.beginRound l).run P w= .ok () (w.putObj l (.loop {rec with state:= .busy,pending:=a})):=
 run_beginRound h rfl
theorem yB {w:A2} {l:Nat} {rec:Loop} {st:LoopState} {b:Option Code} (a:Option Code) (h:cU w l rec st b):
 (Instr.endRound l a).run P w= .ok (.bool a.isNone) (w.putObj l (.loop {rec with state:=if a.isNone then .ready else .done,pending:=a})):=
 run_endRound (r:={rec with state:=st,pending:=b}) a h
theorem F_ {C:dj P} {aT:Nat->aZ} {N l:Nat} {rec:Loop} {assign body:Code} {env:List bF} {args:List AC} {w:A2} {R:Bool->A2->Prop} {tmps:Array AC} {D0:List Deferred}
 (u:rec.tmps=tmps) (v:rec.assign=assign) (hb:rec.body=body) (y: ∀p∈rec.params.toList,p<N) (z:plain env) (b:Fit (λ_=>none) #[] N D0 env {tmps,defers:=D0})
 (h:Il C aT N l rec rec.params.toList assign body env args w R):ma P l args w R:=by
 obtain⟨⟨A,B⟩,E,o⟩:=h;rw[jE] at o;refine⟨{rec with state:= .ready,pending:=A},B,by simpa using E,?_⟩;have G:Fit (λ_=>none) #[] N [] env {tmps,defers:=[]}:=⟨b.off,b.size,rfl,b.yes,b.no,b.E8,b.Bm⟩;obtain⟨H,I⟩:=y8 (D:=[]) (rec.params.toList.zip args) env tmps (λx J=>y x.1 (List.of_mem_zip J).1) z G;have e:(rec.params.zip (⟨args⟩:Array AC)).foldl (λtmps (t,a)=>tmps.setIfInBounds t a) rec.tmps=(rec.params.toList.zip args).foldl (λtmps (t,a)=>tmps.setIfInBounds t a) tmps:=by
  rw[u, <-Array.foldl_toList];simp
 rw[e,v,hb];refine roundIn_of_wpIn (F:=WF none) trivial ?_;have h1:=p9 (r:=some l) (C:=C) (aT:=aT) assign (λ_=>none) _ _ w w _ _ _ (λ_ _=>rfl) I H o (Ext.refl w);refine wpIn_mono h1 ?_;intro K a1 w1 k;cases K with
 |normal=>
  obtain⟨cJ,V,m,L,M,O⟩:=k;obtain⟨W,Q,S⟩:=m w1 O;refine⟨_,F9 Q,?_⟩;have T:=p9 (r:=some l) (C:=C) (aT:=aT) body (λ_=>none) _ _ _ _ _ _ _ (λ_ _=>rfl) L M S (Ext.refl _);refine wpIn_mono T ?_;intro U X n j;cases U with
  |normal=>
   obtain⟨_,q,d, _, _,f⟩:=j;obtain⟨st,s,g,i⟩:=d n f;exact⟨_, _,yB none g,true,rfl,i⟩
  |exit id=>
   obtain⟨_,q,d, _, _,f⟩:=j;obtain⟨st,s,g,i⟩:=d n f;exact⟨_, _,yB (some (.exit id)) g,false,rfl,i⟩
  |ret=>
   obtain⟨_,q,d, _, _,f⟩:=j;obtain⟨st,s,g,i⟩:=d n f;exact⟨_, _,yB (some .ret) g,false,rfl,i⟩
  |goto t
  |panic c
  |outgrown=>exact Ab j
 |exit id
 |ret=>obtain⟨_, _,m, _⟩:=k;exact Ab m
 |goto t
 |panic c
 |outgrown=>exact Ab k
variable {P:Av} {N:Nat}
theorem AG {C:dj P} {aT:Nat->aZ} {c:Code} {S:Nat->Option (Option AC)} {env:List bF} {D:List Nat} {a:Act} {w w':A2} {Kn:qs} {Kx:Nat->qs} {Kr:qs}
 (b: ∀k∈writes c,S k=none) (d:plain env) (e:Fit S #[] N (marks D) env a) (h:rD C aT N c env w (λenv w=>Kn env D w) (λid env w=>Kx id env D w) (λenv w=>Kr env D w)) (f:Ext w w'):
 c.wpIn (WF none) 0 P (QpF S N Kn Kx Kr) a w':=
 wpIn_mono (p9 c S env a w w' _ _ _ b d e h f) YE
theorem F' {w:A2} {l:Nat} {rec:Loop} {st:LoopState} {a:Option Code} (h:cU w l rec st a) (hb:st≠ .busy):
 (Instr.endLoop l).run P w= .ok a (w.putObj l (.loop {rec with state:= .exhausted,pending:=a})):=
 run_endLoop h hb
theorem YF {C:dj P} {aT:Nat->aZ}: ∀(c:Code) (S:Nat->Option (Option AC)) (env:List bF) (D:List Nat) (a:Act) (w w':A2) (Kn:qs) (Kx:Nat->qs) (Kr:qs),
 (∀k∈writes c,S k=none)->plain env->Fit S #[] N (marks D) env a->MY C aT N c env D w Kn Kx Kr->Ext w w'->c.wpIn (WF none) 0 P (QpF S N Kn Kx Kr) a w':=by
 intro c
 induction c with
 |seq x y Q T=>
  intro S env D a w w' Kn Kx Kr j i d h l;refine wpIn_seq (wpIn_mono (Q S env D a w w' _ Kx Kr (λk f=>j k (by simp[writes,f])) i d h l) ?_);intro e a1 w1 r;cases e with
  |normal=>
   obtain⟨cJ,D1,u,f,xz,oA,rb⟩:=r;exact T S cJ D1 a1 u w1 Kn Kx Kr (λk f=>j k (by simp[writes,f])) xz oA f rb
  | _=>exact r
 |cond c x y Q T=>
  intro S env D a w w' Kn Kx Kr j i d h l;simp only[MY] at h;split at h
  ·rename_i b hb;have U:=d.ev (ch:=[]) (λ_ m=>by cases m) hb;exact wpIn_cond_split U (λF=>Q S env D a w w' Kn Kx Kr (λk f=>j k (by simp[writes,f])) i d (yw h F) l) (λF=>T S env D a w w' Kn Kx Kr (λk f=>j k (by simp[writes,f])) i d (uK h F) l)
  ·exact Ab h
 |block id x V=>
  intro S env D a w w' Kn Kx Kr j i d h l;refine wpIn_block (wpIn_mono (V S env D a w w' Kn _ Kr j i d h l) ?_);intro e a1 w1 r;cases e with
  |exit MX=>
   obtain⟨cJ,D1,u,f,rest⟩:=r;simp only[Exit.inBlock];split
   ·rename_i he;simp only[he,if_true] at f;exact⟨cJ,D1,u,f,rest⟩
   ·rename_i he;simp only[he,if_false] at f;exact⟨cJ,D1,u,f,rest⟩
  | _=>exact r
 |loop x V=>
  intro S env D a w w' Kn Kx Kr j i d h l;simp only[MY,jE] at h;split at h
  ·split at h
   ·exact Ab h
   ·rename_i s0 hs0;obtain⟨I,⟨n0,h0⟩,oR⟩:=h
    let sl:=aT ((jB x).getD 0)
    let o:Nat->Option (Option AC):=λt=>if(writes x).contains t then none else some (a.tmps[t]?)
    let dq:=env.filter λe=> !(writes x).contains e.t
    have nil: ∀(Z:Array AC),jK #[] Z []:=λZ x m=>by cases m
    have Dm: ∀t e,bY dq t=some e->a.tmps[t]? =some e.v/\(writes x).contains t=false/\e.ch=[]:=by
     intro t e he;have F:=yj he;have W:=yA he;have E:(writes x).contains t=false:=by rw[<-F];simpa using W.2
     have z:bY env t=some e:=iH he (λy _ hyt=>by rw[hyt,E];rfl);exact⟨d.yes t e z (by rw[(i e W.1).1];exact nil _),E,(i e W.1).1⟩
    have head: ∀(A:List bF) (D2:List Nat) (p:Act) (s:oq (sl.map (·.2))),plain A->Fit o #[] N (marks D2) A p->oQ sl A=some s->Fit o #[] N (marks D2) (kO sl s++dq) p/\plain (kO sl s++dq):=by
     intro A D2 p s X q zJ;have O:plain (kO sl s++dq):=λe he=>by
      rcases De.1 he with he|he
      ·exact sV he
      ·exact i e (by simpa[dq] using(Bs.1 he).1)
     refine⟨⟨q.off,q.size,q.oG,λt e he _=>?_,λt e he hn=>absurd (by rw[(O e (bO he)).1];exact nil _) hn,(λe he=>by rw[(O e he).2];exact(O e he).1),λe he b hb=>by
     rcases De.1 he with he|he
     ·rw[BW he] at hb;cases hb
     ·exact d.Bm e (Bs.1 he).1 b hb⟩,O⟩
     rcases lX he with he|⟨_,he⟩
     ·obtain⟨e',jL,hv⟩:=p8 zJ he;rw[<-hv];exact q.yes t e' jL (by rw[(X e' (bO jL)).1];exact nil _)
     ·obtain⟨hv,E, _⟩:=Dm t e he;have:=q.off t (a.tmps[t]?) (by simp only[o,E];rfl);rw[this,hv]
    have Nn:Fit o #[] N (marks D) env a:=⟨λt x m=>by
     simp only[o] at m;split at m
     ·cases m
     ·cases m;rfl,d.size,d.oG,d.yes,d.no,d.E8,d.Bm⟩
    have back: ∀{A:List bF} {D2:List Nat} {p:Act},Fit o #[] N (marks D2) A p->Fit S #[] N (marks D2) A p:=λ{A D2 p} z=>⟨λt y Y=>by
     have E:(writes x).contains t=false:=by
      cases hc:(writes x).contains t with
      |false=>rfl
      |true=>have:=j t (by simpa[writes] using hc);rw[this] at Y;cases Y
     have h1:=z.off t (a.tmps[t]?) (by simp only[o,E];rfl);rw[h1];exact d.off t y Y,z.size,z.oG,z.yes,z.no,z.E8,z.Bm⟩
    have ZL: ∀k∈writes x,o k=none:=λk f=>by simp[o,f]
    obtain⟨hF4,hp4⟩:=head env D a s0 i Nn hs0;refine y7 (λn p G=> ∃s D2,I n s D2 G/\Fit o #[] N (marks D2) (kO sl s++dq) p/\plain (kO sl s++dq)) (n0:=n0) ⟨s0,D,h0 w' l,hF4,hp4⟩ ?_;intro n p G ⟨s,D2,hI,q,X⟩;have hb:=V o _ D2 p G G _ Kx Kr ZL X q (oR n s D2 G hI) (Ext.refl _);refine wpIn_mono hb ?_;intro e a3 w3 r;cases e with
    |normal=>
     obtain⟨H,D3,u,f,J,K,L⟩:=r;simp only[Exit.then];split at f
     ·rename_i s3 hs3;obtain⟨n',iK,hI'⟩:=f w3 L;obtain⟨Xe,Xf⟩:=head H D3 a3 s3 J K hs3;exact⟨n',iK,s3,D3,hI',Xe,Xf⟩
     ·exact Ab f
    |exit id=>obtain⟨H,D3,u,f,J,K,L⟩:=r;exact⟨H,D3,u,f,J,back K,L⟩
    |ret=>obtain⟨H,D3,u,f,J,K,L⟩:=r;exact⟨H,D3,u,f,J,back K,L⟩
    | _=>exact r
  ·exact AG (C:=C) (aT:=aT) j i d h l
 |rangeFunc g ps assign body _ _=>
  intro S env D a w w' Kn Kx Kr j i d h l;simp only[MY] at h;split at h
  ·rename_i fQ first cap hg
   split at h
   ·rename_i jM;simp only[BN,DB,decide_eq_true_eq] at jM;obtain⟨Dk,SV⟩:=jM;have U:=d.ev (ch:=[]) (λ_ m=>by cases m) hg;refine wpIn_rangeFunc λfn _=>?_
    let M:Loop:={state:= .ready,pending:=none,fn,tmps:=a.tmps,params:=ps,assign,body,defers:=w'.heap.size}
    have ZM:Fit (λ_=>none) #[] N (marks D) env {tmps:=a.tmps,defers:=marks D}:=⟨(λ_ _ m=>by cases m),d.size,rfl,d.yes,d.no,d.E8,d.Bm⟩;have f:=h w' l M rfl rfl rfl rfl (λ_ w3 R hr=>F_ (C:=C) (aT:=aT) (rec:=M) rfl rfl rfl SV i ZM hr);have aaS:(first++ #[Value.func (.yield (w'.heap.size+1)) #[] #[]]++cap:Array AC)=⟨cY first [.func (.yield (w'.heap.size+1)) #[] #[]] cap⟩:=by
     unfold cY;obtain⟨l1⟩:=first;obtain⟨l3⟩:=cap
     simp
    refine⟨w'.heap.size+1,[{target:= .collected w'.heap.size,args:= #[]}],(w'.alloc (.deferred (some []))).alloc (.loop M),{target:= .fn (.func fQ) cap,args:=first++ #[.func (.yield (w'.heap.size+1)) #[] #[]]},(w'.alloc (.deferred (some []))).alloc (.loop M),fQ,
     ⟨cY first [.func (.yield (w'.heap.size+1)) #[] #[]] cap⟩,(w'.alloc (.deferred (some []))).alloc (.loop M),run_enterLoop_outer _ _ _ _ _,?_,λ_ _=>trivial,?_,by simp[WF,DA],?_⟩
    ·simp only[resolve,U,Deferred.ofValue,B3,G1,GS,Ga];rfl
    ·simp only[invoke];rw[aaS];exact tA Dk
    ·refine(jH (n:=0 - 1)).2 (f.mono λe w4 ⟨v,he,st,pd,sk,u9,B⟩=>?_);subst he;have JI:=F' (P:=P) sk u9;have q:Fit S #[] N (marks (w'.heap.size::D)) env {a with defers:=[{target:= .collected w'.heap.size,args:= #[]}]++a.defers}:=
      ⟨d.off,d.size,by simp[marks,d.oG],d.yes,d.no,d.E8,d.Bm⟩
     refine⟨pd, _,JI,?_⟩
     match pd,B with
     |none,B=>exact⟨env, _, _,B,i,q,Ext.refl _⟩
     |some (.exit id),B=>exact wpIn_exit ⟨env, _, _,B,i,q,Ext.refl _⟩
     |some .ret,B=>exact wpIn_ret ⟨env, _, _,B,i,q,Ext.refl _⟩
   ·exact Ab h
  ·exact Ab h
 | _=>intro S env D a w w' Kn Kx Kr j i d h l;exact AG (C:=C) (aT:=aT) j i d h l
def C9 (P:Av) (w:A2):List ResultVar->List bF->(List AC->Prop)->Prop
 |[], _,K=>K []
 | .tmp t::r,env,K=>match bY env t with
   |some e=>C9 P w r env (λl=>K (e.v::l))
   |none=>False
 | .cell t ty::r,env,K=>match bY env t with
   |some e=>match e.v,um P ty,P.info? ty with
    | .pointer p,some el,some i=>if pR el i.size=true then False else aj w none p el (λx=>C9 P w r env (λl=>K (el.gR x::l)))
    | _, _, _=>False
   |none=>False
def Tw (s:Sh) (Post:s.T->A2->Prop) (w:A2) (l:List AC):Prop:=
 match s.proj (C8 l) with
 |some x=>Post x w
 |none=>False
def byD (D:List Nat) (x:Prop) (y:Nat->List Nat->Prop):Prop:=match D with
 |[]=>x
 |r::D=>y r D
def NP (s:Sh) (rs:List ResultVar) (Post:s.T->A2->Prop):qs:=λenv D w=>byD D (ao w (λw1=>C9 P w1 rs env (Tw s Post w1)))
 (λr D=>rZ (r::D) w (λw1=>C9 P w1 rs env (Tw s Post w1)))
def bQ (C:dj P) (aT:Nat->aZ) (f:B5) (args:List AC) (w:A2) (Post:(pL C f).T->A2->Prop):Prop:=
 match P.funcs[f]? with
 |none=>False
 |some fn=>match fn.body with
  |none=>False
  |some c=>
   if args.length<=fn.ntmps then MY C aT fn.ntmps c (gT args 0) [] w (NP (P:=P) (pL C f) fn.results.toList Post) (λ_ _ _ _=>False) (NP (P:=P) (pL C f) fn.results.toList Post) else False
theorem yC {tmps:Array AC} {w:A2}: ∀{l:List ResultVar} {env:List bF} {K:List AC->Prop},C9 P w l env K->(∀t e,bY env t=some e->tmps[t]? =some e.v)->
 ∃vs,(l.mapM (nq tmps)).run P w= .ok vs w/\K vs
 |[], _, _,h, _=>⟨[],by simp,h⟩
 | .tmp t::r,env,K,h,hv=>by
   simp only[C9] at h;split at h
   ·rename_i e a;obtain⟨vs,dN,b⟩:=yC h hv
    simp_all[nq]
   ·exact Ab h
 | .cell t ty::r,env,K,h,hv=>by
   simp only[C9] at h;split at h
   ·rename_i e a;split at h
    ·rename_i p el i d f hi;split at h
     ·exact Ab h
     ·rename_i g;obtain⟨x,c,j⟩:=h;obtain⟨vs,dN,b⟩:=yC j hv;refine⟨el.gR x::vs,?_,b⟩;have k: ∃a0,p=some a0:=by cases el<;>(obtain⟨a0,h0, _⟩:=c;exact⟨a0,h0⟩)
      obtain⟨a0,rfl⟩:=k;have m:=sS (P:=P) f hi g c;have n:tmps.getD t undef= .pointer (some a0):=by simp[hv t e a,d]
      simp only[List.mapM_cons,B1,nq,n,asAddr,B3,B2,m,dN]
    ·exact Ab h
   ·exact Ab h
theorem tC {fn:Func} {tmps:Array AC} {R:Ending->A2->Prop}: ∀(D:List Nat) (w:A2),Dp D w->(∃v,(results fn tmps).run P (mi D w)= .ok v (mi D w)/\R (.returned v) (mi D w))->
 LeavesInM (WF none) 0 P fn tmps R (marks D) .returning w
 |[],w, _,h=>h
 |r::D,w,a,h=>⟨by simp,.inl ⟨r, _,rfl,run_takeDeferred a.1,tC D _ a.2 h⟩⟩
theorem aQ {C:dj P} {aT:Nat->aZ} {f:B5} {args:List AC} {w:A2} {Post:(pL C f).T->A2->Prop} (h:bQ C aT f args w Post):aE P f (pL C f) args w Post:=by
 unfold bQ at h;split at h
 ·exact Ab h
 ·rename_i fn s;split at h
  ·exact Ab h
  ·rename_i c hb;split at h
   ·rename_i H;have g:plain (gT args 0):=λe a=>nO a;have nil: ∀(o:Array Oper) (m:Array AC),jK o m []:=λo m x d=>by cases d
    have y:Fit (λ_=>none) #[] fn.ntmps (marks []) (gT args 0) {tmps:=(⟨args⟩:Array AC)++Do (fn.ntmps - args.length) undef,defers:=[]}:=by
     refine⟨(λ_ _ d=>by cases d),(by simp;omega),rfl,λt e a _=>?_,λt e a z=>absurd (by rw[(g e (bO a)).1];exact nil _ _) z,(λe a=>by rw[(g e a).2];exact(g e a).1),λe a b hb=>by rw[sW a] at hb;cases hb⟩;obtain⟨_,hv, _⟩:=lY a
     grind
    have A:=YF (C:=C) (aT:=aT) c (λ_=>none) _ _ _ w w _ _ _ (λ_ _=>rfl) g y h (Ext.refl w);refine(jH (r:=none) (n:=0)).1 (callsIn_of_wp_marks s hb trivial (wpIn_mono A ?_));have fin: ∀a1 w1,(∃env D l,NP (P:=P) (pL C f) fn.results.toList Post env D l/\plain env/\Fit (λ_=>none) #[] fn.ntmps (marks D) env a1/\Ext l w1)->
     LeavesInM (WF none) 0 P fn a1.tmps (λe w'=> ∃x:(pL C f).T,e= .returned ((pL C f).gR x)/\Post x w') a1.defers .returning w1:=by
     intro a1 w1 ⟨env,D,l,i,B,p,q⟩;obtain⟨E,F⟩:Dp D w1/\C9 P (mi D w1) fn.results.toList env (Tw (pL C f) Post (mi D w1)):=by
      cases D with
      |nil=>exact⟨trivial,i w1 q⟩
      |cons r D=>exact i w1 q
     rw[p.oG];refine tC D w1 E ?_;obtain⟨vs,dN,j⟩:=yC F (λt e a=>p.yes t e a (by rw[(B e (bO a)).1];exact nil _ _));unfold Tw at j;split at j
     ·rename_i x d;refine⟨C8 vs,?_,x,by rw[Sh.fZ d],j⟩;have G:(fn.results.mapM (nq a1.tmps)).run P (mi D w1)= .ok ⟨vs⟩ (mi D w1):=by
       rw[JJ,Sem.run_map,dN];rfl
      have e:results fn a1.tmps=(do
       let vs<-fn.results.mapM (nq a1.tmps)
       pure _):=rfl
      rw[e,B1,G];simp only[B2,B3]
      match vs with
      |[]=>rfl
      |[v]=>rfl
      |v::u::r=>simp[C8]
     ·exact Ab j
    intro e a1 w1 k;cases e with
    |normal=>exact fin a1 w1 k
    |ret=>exact fin a1 w1 k
    |exit id=>obtain⟨_, _, _,i, _⟩:=k;exact Ab i
    | _=>exact Ab k
   ·exact Ab h
theorem putObj_size (w:A2) (b:Nat) (o:Obj):(w.putObj b o).heap.size=w.heap.size:=by simp
theorem fx {w:A2} {b k:Nat} {o:Obj} (h:k≠b):(w.putObj b o).heap[k]? =w.heap[k]? :=by
 simp[EO,Ne.symm h]
theorem jV {w:A2} {b:Nat} {o:Obj} (h:b<w.heap.size):(w.putObj b o).heap[b]? =some o:=by
 simp[EO,h]
theorem VV (w:A2) (a:Ad) (v:AC):(w.setCell a v).heap.size=w.heap.size:=by simp
theorem Gb {w:A2} {a:Ad} {k:Nat} {v:AC} (h:k≠a.block):(w.setCell a v).heap[k]? =w.heap[k]? :=by
 simp[K1,Nk,Ne.symm h]
theorem Ad.uN (a:Ad) (n:Nat):(a.add n).block=a.block:=by
 unfold Addr.add;grind
theorem rN: ∀(vs:List AC) (w:A2) (a:Ad) (i:Nat),(putAt w a vs i).heap.size=w.heap.size
 |[], _, _, _=>rfl
 |v::r,w,a,i=>by simp[putAt,rN]
theorem mN: ∀(vs:List AC) (w:A2) (a:Ad) (i k:Nat),k≠a.block->(putAt w a vs i).heap[k]? =w.heap[k]?
 |[], _, _, _, _, _=>rfl
 |v::r,w,a,i,k,h=>by
  simp[putAt];rw[mN r _ a _ k h,Gb (by rw[Ad.uN];omega)]
theorem Below.putAt {n:Nat} {w w':A2} (h:Below n w w') (a:Ad) (c:n<=a.block): ∀(vs:List AC) (i:Nat),Below n w (putAt w' a vs i):=by
 intro vs i
 induction vs generalizing w' i with
 |nil=>exact h
 |cons v r b=>
  exact b (h.setCell (by rw[Ad.uN];omega) v) _
theorem EB {n:Nat} {w w':A2} (h:Below n w w') {b:Nat} (hb:n<=b) (o:Obj):Below n w (w'.putObj b o):=
 ⟨h.os,h.tape,h.output,by rw[putObj_size];exact h.size,λk a=>by rw[fx (by omega)];exact h.block k a⟩
theorem Ext.ju {w w':A2} (h:Ext w w') {a:Ad} (b:w.heap.size<=a.block) (vs:List AC):Ext w (ju w' (some a) vs):=Below.putAt h a b vs 0
theorem Ext.putObj {w w':A2} (h:Ext w w') {b:Nat} (hb:w.heap.size<=b) (o:Obj):Ext w (w'.putObj b o):=EB h hb o
theorem Ext.iV {w w':A2} (h:Ext w w') (o:Obj):Ext w (w'.alloc o):=h.trans (Ext.alloc w' o)
def bM (w:A2) (b:Nat) (l:List AC):Prop:= ∃t,w.heap[b]? =some (.cells ⟨l⟩ t (0,0))
theorem bM.lt {w:A2} {b:Nat} {l:List AC} (h:bM w b l):b<w.heap.size:=by
 obtain⟨⟩:=h;grind
theorem bM.ext {w w':A2} {b:Nat} {l:List AC} (h:bM w b l) (k:Ext w w'):bM w' b l:=by
 obtain⟨t,h⟩:=h;exact⟨t,k.obj h⟩
theorem lr (w:A2) (o:Obj):(w.alloc o).heap.size=w.heap.size+1:=by simp
theorem eO (w:A2) (o:Obj):(w.alloc o).heap[w.heap.size]? =some o:=by
 show(w.heap.push o)[w.heap.size]? =some o;simp
theorem bM.new (w:A2) (l:List AC) (t:Ae):bM (w.alloc (.cells ⟨l⟩ t)) w.heap.size l:=⟨t,eO _ _⟩
theorem bM.same {w w':A2} {b:Nat} {l:List AC} (h:bM w b l) (k:w'.heap[b]? =w.heap[b]?):bM w' b l:=by
 obtain⟨t⟩:=h;exact⟨t,by grind⟩
theorem bM.Wz {w:A2} {b:Nat} {l:List AC} (h:bM w b l) {a:Ad} (c:b≠a.block) (vs:List AC):bM (ju w (some a) vs) b l:=
 h.same (mN vs w a 0 b c)
theorem bM.putObj {w:A2} {b:Nat} {l:List AC} (h:bM w b l) {k:Nat} (a:b≠k) (o:Obj):bM (w.putObj k o) b l:=h.same (fx a)
theorem Nr (b o n:Nat):Addr.add ⟨b,o,none⟩ n=⟨b,o+n,none⟩:=by
 unfold Addr.add;simp
theorem aR (b o n:Nat):ad (some ⟨b,o,none⟩) n=some ⟨b,o+n,none⟩:=by simp[ad,Nr]
theorem bM.cell {w:A2} {b:Nat} {l:List AC} (h:bM w b l) (o:Nat):w.cell? ⟨b,o,none⟩=l[o]? :=by
 obtain⟨t,h⟩:=h;simp[Jt,h]
theorem bM.cellAt {w:A2} {b:Nat} {l:List AC} (h:bM w b l) (o n:Nat):w.cell? (Addr.add ⟨b,o,none⟩ n)=l[o+n]? :=by rw[Nr,h.cell]
theorem bM.J0 {w:A2} {b:Nat} {l:List AC} (h:bM w b l) (a:Ad) (c:a.block=b):w.frozen? a=false:=by
 obtain⟨t,h⟩:=h;simp[World.frozen?,c,h]
theorem bM.lM {w:A2} {b o:Nat} {l:List AC} (h:bM w b l) {s:Sc} {x:s.T} (a:l[o]? =some (s.gR x)):cP w (some ⟨b,o,none⟩) (.one s) x:=
 ⟨_,rfl,by rw[h.cell];omega⟩
theorem bM.ZN {w:A2} {b o:Nat} {l:List AC} (h:bM w b l) {ss:List Sc} {x:kj ss} (a: ∀i,i<ss.length->l[o+i]? =(bj ss x)[i]?):cP w (some ⟨b,o,none⟩) (.agg ss) x:=
 ⟨_,rfl,λhi=>by rw[h.cellAt];grind⟩
theorem bM.qn {w:A2} {b o n:Nat} {l vs:List AC} (h:bM w b l) (a:vs.length=n) (c: ∀i,i<n->l[o+i]? =vs[i]?):qn w (some ⟨b,o,none⟩) n vs:=
 ⟨a,λhi=>by rw[h.cellAt];grind⟩
theorem bM.st {w:A2} {b o n:Nat} {l:List AC} (h:bM w b l) (a:o+n<=l.length):Tq w (some ⟨b,o,none⟩) n:=
 ⟨_,rfl,λi hi=>⟨by rw[h.cellAt,Ht (by omega)];rfl,h.J0 _ (Ad.uN _ _)⟩⟩
theorem CB {w:A2} {b o:Nat} {l:List AC} {t:Ae} (h:w.heap[b]? =some (.cells ⟨l⟩ t (0,0))) (v:AC):(w.setCell ⟨b,o,none⟩ v).heap[b]? =some (.cells ⟨l.set o v⟩ t (0,0)):=by
 simp only[K1,Nk,h];simp
theorem y9: ∀(vs:List AC) (w:A2) (b o i:Nat) (l:List AC) (t:Ae),w.heap[b]? =some (.cells ⟨l⟩ t (0,0))->o+i+vs.length<=l.length->
 (putAt w ⟨b,o,none⟩ vs i).heap[b]? =some (.cells ⟨l.take (o+i)++(vs++l.drop (o+i+vs.length))⟩ t (0,0))
 |[],w,b,o,i,l,t,h, _=>by simp[putAt,h]
 |v::r,w,b,o,i,l,t,h,c=>by
  simp_all
  simp only[putAt,Nr];rw[y9 r _ b o (i+1) (l.set (o+i) v) t (CB h v) (by simp;omega)];congr 3;have h1:(l.set (o+i) v).take (o+(i+1))=l.take (o+i)++[v]:=by
   grind[MO,MQ]
  have a:(l.set (o+i) v).drop (o+(i+1)+r.length)=l.drop (o+i+(r.length+1)):=by
   grind[MV]
  rw[h1,a];simp
theorem bM.put {w:A2} {b o:Nat} {l:List AC} (h:bM w b l) (vs:List AC) (a:o+vs.length<=l.length):bM (ju w (some ⟨b,o,none⟩) vs) b (l.take o++(vs++l.drop (o+vs.length))):=by
 obtain⟨t,h⟩:=h;exact⟨t,y9 vs w b o 0 l t h a⟩
theorem cU.lt {w:A2} {l:Nat} {rec:Loop} {st:LoopState} {a:Option Code} (h:cU w l rec st a):l<w.heap.size:=(Bp.1 h).1
theorem cU.ext {w w':A2} {l:Nat} {rec:Loop} {st:LoopState} {a:Option Code} (h:cU w l rec st a) (k:Ext w w'):cU w' l rec st a:=k.obj h
theorem cU.same {w w':A2} {l:Nat} {rec:Loop} {st:LoopState} {a:Option Code} (h:cU w l rec st a) (k:w'.heap[l]? =w.heap[l]?):cU w' l rec st a:=by grind[cU]
theorem cU.put {w:A2} {l:Nat} {rec:Loop} {st:LoopState} {c:Option Code} (h:cU w l rec st c) (a:LoopState) (b:Option Code):cU (sv w l rec a b) l rec a b:=
 jV h.lt
def cellsOf:(e:El)->e.T->List AC
 | .one s,x=>[s.gR x]
 | .agg l,x=>bj l x
def aG:El->Nat
 | .one _=>1
 | .agg l=>l.length
theorem dm (e:El) (x:e.T):(cellsOf e x).length=aG e:=by
 cases e with
 |one=>rfl
 |agg l=>exact cC l x
def Sl (w:A2) (e:El) (p:Option Ad) (xs:List e.T):Prop:= ∀i x,xs[i]? =some x->p.isSome=true/\cP w (ad p (i*aG e)) e x
theorem Sl.ext {w w':A2} {e:El} {p:Option Ad} {xs:List e.T} (h:Sl w e p xs) (k:Ext w w'):Sl w' e p xs:=
 λi x a=>⟨(h i x a).1,sP k (h i x a).2⟩
def flat (e:El) (xs:List e.T):List AC:=xs.flatMap (cellsOf e)
theorem aI (e:El) (xs:List e.T):(flat e xs).length=xs.length*aG e:=by
 induction xs with
 |nil
 |cons=>simp only[flat,NO,Dl,dm] at*;grind
theorem dM (e:El) (xs ys:List e.T):flat e (xs++ys)=flat e xs++flat e ys:=by simp[flat]
theorem yD (e:El): ∀(xs:List e.T) (i:Nat) (x:e.T),xs[i]? =some x-> ∀j,j<aG e->(flat e xs)[i*aG e+j]? =(cellsOf e x)[j]?
 |y::r,0,x,h,j,a=>by
  simp_all[flat,List.getElem?_append_left,dm]
 |y::r,i+1,x,h,j,a=>by
  have b:=yD e r i x ‹_› j a;simp[flat,NO];rw[List.getElem?_append_right (by rw[dm,E4];omega),dm];rw[show(i+1)*aG e+j - aG e=i*aG e+j by grind];exact b
theorem Sl.jC {w:A2} {e:El} {b:Nat} {l:List AC} {xs:List e.T} (h:bM w b l) (d:l.take (xs.length*aG e)=flat e xs):Sl w e (some ⟨b,0,none⟩) xs:=by
 intro i x c;have hi:=(List.getElem?_eq_some_iff.1 c).1;have f: ∀j,j<aG e->i*aG e+j<xs.length*aG e:=λj a=>by
  have:(i+1)*aG e<=xs.length*aG e:=Nl _ hi
  grind
 have hc: ∀j,j<aG e->l[i*aG e+j]? =(cellsOf e x)[j]? :=λj a=>by
  rw[<-yD e xs i x c j a, <-d,List.getElem?_take_of_lt (f j a)]
 simp;rw[aR,Jn];cases e with
 |one=>exact h.lM (by simp_all[aG,cellsOf])
 |agg ss=>exact h.ZN ‹_›
def lD (w0 w:A2) (e:El) (s:Option Ad×Nat×Nat) (xs:List e.T):Prop:=
 s.2.1=xs.length/\xs.length<=s.2.2/\
 ((s.1=none/\xs=[]/\s.2.2=0)\/ ∃b l,s.1=some ⟨b,0,none⟩/\w0.heap.size<=b/\bM w b l/\l.length=s.2.2*aG e/\l.take (xs.length*aG e)=flat e xs)
theorem lD.nil (w0 w:A2) (e:El):lD w0 w e (none,0,0) []:=⟨rfl,by simp⟩
theorem lD.ext {w0 w w':A2} {e:El} {s:Option Ad×Nat×Nat} {xs:List e.T} (h:lD w0 w e s xs) (k:Ext w w'):lD w0 w' e s xs:=by
 obtain⟨h1,c,a⟩:=h;refine⟨h1,c,?_⟩;rcases a with a|⟨b,l,a1,d,f,g⟩
 ·grind
 ·exact .inr ⟨b,l,a1,d,f.ext k,g⟩
theorem lD.same {w0 w w':A2} {e:El} {s:Option Ad×Nat×Nat} {xs:List e.T} (h:lD w0 w e s xs) (k: ∀a,s.1=some a->w'.heap[a.block]? =w.heap[a.block]?):lD w0 w' e s xs:=by
 obtain⟨h1,d,c⟩:=h;refine⟨h1,d,?_⟩;rcases c with c|⟨b,l,a1,f,g,i⟩
 ·grind
 ·exact .inr ⟨b,l,a1,f,g.same (k _ a1),i⟩
theorem lD.sl {w0 w:A2} {e:El} {s:Option Ad×Nat×Nat} {xs:List e.T} (h:lD w0 w e s xs):Sl w e s.1 xs:=by
 obtain⟨h1,f,a⟩:=h;rcases a with ⟨_,g, _⟩|⟨b,l,a1,i,c,j,d⟩
 ·intro;grind
 ·rw[a1];exact Sl.jC c d
theorem lD.len {w0 w:A2} {e:El} {s:Option Ad×Nat×Nat} {xs:List e.T} (h:lD w0 w e s xs):s.2.1=xs.length:=h.1
def gU:El->Bool
 | .one s=>s != .func
 | .agg l=>l.all (· != .func)
theorem y_ (s:Sc) (x:s.T) (h:(s != .func)=true):(s.gR x).oneCell'=true:=by
 cases s<;>first|rfl|grind
theorem tD: ∀(ss:List Sc) (x:kj ss),ss.all (· != .func)=true->(bj ss x).all (·.oneCell')=true
 |[], _, _=>rfl
 |s::r,x,h=>by
  simp only[Hr,BN] at h;simp[bj,tD r _ h.2,y_ s _ h.1]
theorem EC (e:El) (x:e.T) (h:gU e=true):(cellsOf e x).all (·.oneCell')=true:=by
 cases e with
 |one s=>simp[cellsOf,y_ s x h]
 |agg l=>exact tD l x h
theorem jJ (e:El) (xs:List e.T) (h:gU e=true):(flat e xs).all (·.oneCell')=true:=by grind[flat,EC]
theorem lu {w0 w:A2} {e:El} {s x:Option Ad×Nat×Nat} {xs ys:List e.T} {t:Ae} {bytes:Nat} {z:Array AC} {R:Option Ad×Nat×Nat->A2->Prop}
 (h:lD w0 w e s xs) (h0:Ext w0 w) (y:gU e=true) (d:x.2.1=ys.length) (A:qn w x.1 (x.2.1*aG e) (flat e ys)) (B:z.size=aG e) (hb:(xs.length+ys.length)*bytes<=140737488355328)
 (k: ∀s' w',lD w0 w' e s' (xs++ys)->Ext w0 w'->(∀b,b<w.heap.size->(∀a,s.1=some a->b≠a.block)->w'.heap[b]? =w.heap[b]?)->w.heap.size<=w'.heap.size->
  ((∃a,s'.1=some a/\s.1=some a)\/(∃a,s'.1=some a/\w.heap.size<=a.block)\/s'=(s.1,s.2.1,s.2.2))->R s' w'):
 m7 w t (aG e) bytes z s x R:=by
 obtain⟨h1,K,p⟩:=h;have n:=aI e xs;have j:=aI e ys;have C:qn w s.1 (s.2.1*aG e) (flat e xs):=by
  rcases p with ⟨a1,g,f⟩|⟨b,l,a1,g,f,q,r⟩
  ·rw[a1,g];rfl
  ·rw[a1];refine f.qn (by rw[n,h1]) λi hi=>?_
   grind
 refine⟨flat e xs,flat e ys,C,A,λm=>?_,λm=>⟨growslice_fits m (by rw[h1,d];exact hb),λc hc=>?_⟩⟩
 ·rcases p with ⟨a1,g,f⟩|⟨b,l,a1,g,f,q,r⟩
  ·rw[f] at m;have D:ys=[]:=List.eq_nil_of_length_eq_zero (by omega);subst D;subst g;refine⟨.inl rfl,?_⟩;have E:s.2.1=0:=h1;have u:x.2.1=0:=d;rw[a1];refine k _ _ ⟨by simp[E,u],Nat.zero_le _,.inl ⟨rfl,rfl,f⟩⟩ ?_ (λ_ _ _=>rfl) (Cb _) (.inr (.inr ?_))
   ·exact h0
   ·rw[a1,u];rfl
  ·have v:xs.length*aG e+ys.length*aG e<=l.length:=by
    rw[q, <-E4];exact Nl _ (by rw[<-h1, <-d];exact m)
   have F:s.1.map (·.add (s.2.1*aG e))=some ⟨b,xs.length*aG e,none⟩:=by
    rw[a1,h1];simp[Nr]
   rw[F];refine⟨.inr ⟨f.st (by rw[j];exact v),jJ e ys y⟩,?_⟩;have G:=f.put (o:=xs.length*aG e) (flat e ys) (by rw[j];exact v);refine k _ _ ⟨by simp[h1,d],by simp only[Dl];rw[<-h1, <-d];exact m,.inr ⟨b, _,a1,g,G,?_,?_⟩⟩ (h0.ju (a:=⟨b, _,none⟩) g _) (λH L I=>mN (flat e ys) w ⟨b, _,none⟩ 0 H (I ⟨b,0,none⟩ a1)) (Nat.le_of_eq (rN _ _ _ _).symm) (.inl ⟨_,a1,a1⟩)
   grind
   ·rw[r];have:(xs++ys).length*aG e=(flat e xs++flat e ys).length:=by simp only[Dl,n,j,E4]
    rw[this, <-List.append_assoc,dM];exact NQ rfl
 ·have M:w.drew.heap.size=w.heap.size:=rfl;refine k _ _ ⟨by simp[h1,d],by simp only[Dl];rw[<-h1, <-d];exact hc,.inr ⟨w.heap.size,flat e xs++flat e ys++(Fs z (c - (s.2.1+x.2.1))).toList,rfl,h0.size,?_,?_,?_⟩⟩ ((h0.trans (Ext.drew w)).trans (Ext.alloc _ _)) (λb hb _=>?_) ?_ (.inr (.inl ⟨_,rfl,Cb _⟩))
  ·have J:(JC (flat e xs)++JC (flat e ys)++Fs z (c - (s.2.1+x.2.1)))=⟨flat e xs++flat e ys++(Fs z (c - (s.2.1+x.2.1))).toList⟩:=by
    apply JD;simp
   rw[J];exact bM.new w.drew _ _
  ·simp only[Dl,n,j,Fs,Array.length_toList,Array.size_map,Array.size_range,B];rw[<-E4, <-h1, <-d, <-E4];congr 1;omega
  ·have:(xs++ys).length*aG e=(flat e xs++flat e ys).length:=by simp only[Dl,n,j,E4]
   rw[this,dM];exact NQ rfl
  ·have:w.drew.heap=w.heap:=rfl;rw[Ext.block (Ext.alloc w.drew _) (by rw[this];exact hb),this]
  ·rw[lr];exact Nat.le_succ _
theorem Pj {w0 w c w1:A2} {e:El} {s:Option Ad×Nat×Nat} {xs:List e.T} {x:e.T} {t:Ae} {bytes:Nat} {z:Array AC} {R:Option Ad×Nat×Nat->A2->Prop}
 (h:lD w0 w e s xs) (h0:Ext w0 w) (g:gU e=true) (i:Ext w c) (d:Ext (c.alloc (.cells ⟨cellsOf e x⟩ t)) w1) (j:z.size=aG e) (hb:(xs.length+1)*bytes<=140737488355328)
 (k: ∀s' w',lD w0 w' e s' (xs++[x])->Ext w0 w'->(∀b,b<w.heap.size->(∀a,s.1=some a->b≠a.block)->w'.heap[b]? =w.heap[b]?)->w.heap.size<=w'.heap.size->R s' w'):
 m7 w1 t (aG e) bytes z s (some ⟨c.heap.size,0,none⟩,1,1) R:=by
 have kk:=(i.trans (Ext.alloc c _)).trans d;have l:=(bM.new c _ _).ext d;refine lu (ys:=[x]) (h.ext kk) (h0.trans kk) g rfl ?_ j hb λs' w' m n o p _=>k s' w' m n (λb f q=>?_) (Nat.le_trans kk.size p)
 ·refine l.qn (aI e _) λhi=>?_;simp[flat]
 ·rw[o b (No f kk.size) q,kk.block f]
def U (b:BitVec 64):Int:=(b.toNat:Int)
def B (x:Int):BitVec 64:=Bv 64 x
theorem EP (b:BitVec 64):B (U b)=b:=by simp[B,U]
theorem aaT {a b:BitVec 64}:U a=U b<->a=b:=by grind[EP]
theorem wrap_u64 (x:Int):Nq.wrap x=x % 18446744073709551616:=rfl
theorem U_B (x:Int):U (B x)=x % 18446744073709551616:=by
 unfold U B;simp
 grind
theorem BD {x:Int} (h:0<=x) (h':x<18446744073709551616):U (B x)=x:=by
 rw[U_B,Int.emod_eq_of_lt h h']
theorem YG (x:Int):Nq.wrap x=U (B x):=by rw[wrap_u64,U_B]
theorem On (a b:BitVec 64):wE .u64 (U a) (U b)=U (a &&& b):=by
 show U (B (U (B _ &&& B _)))= _;rw[EP,EP,EP]
theorem aaU (a b:BitVec 64):ZC .u64 (U a) (U b)=U (a ||| b):=by
 show U (B (U (B _ ||| B _)))= _;rw[EP,EP,EP]
theorem J1 (a b:BitVec 64):gD .u64 (U a) (U b)=U (a &&& ~~~ b):=by
 show U (B (U (B _ &&& ~~~ B _)))= _;rw[EP,EP,EP]
theorem Oo (a:BitVec 64) (n:Int):C4 .u64 (U a) n=U (a <<< n.toNat):=by
 unfold C4;rw[wrap_u64];unfold U;rw[BitVec.toNat_shiftLeft,Nat.shiftLeft_eq];show(a.toNat:Int)*2 ^ min _ 64 % _= _;by_cases n.toNat<=64
 grind
 ·have h1:a.toNat*2 ^ n.toNat % 2 ^ 64=0:=by
   apply Nat.mod_eq_zero_of_dvd;exact Nat.dvd_trans (Nat.pow_dvd_pow 2 (by omega)) (Nat.dvd_mul_left ..)
  grind
theorem Oq (a:BitVec 64) (n:Int):JG .u64 (U a) n=U (a >>> n.toNat):=by
 unfold U;rw[BitVec.toNat_ushiftRight,Nat.shiftRight_eq_div_pow];have e: ∀k,(a.toNat:Int).fdiv (2 ^ k)=(a.toNat / 2 ^ k: ):=λk=>by
  grind
 show(a.toNat:Int).fdiv (2 ^ min _ 64)= _;rw[e];by_cases n.toNat<=64
 grind
 ·rw[Nat.min_eq_right (by omega)];have h0:=a.isLt;rw[Np h0,Np (No h0 (Nat.pow_le_pow_right (by simp) (by omega)))]
theorem gm {x:Int} (h: -9223372036854775808<=x) (h':x<9223372036854775808):Dc.wrap x=x:=by
 simp only[IntKind.wrap,IntKind.bits,IntKind.signed]
 grind
theorem ax {x y:Int} (h: -9223372036854775808<=x+y) (h':x+y<9223372036854775808):aB .i64 x y=x+y:=gm h h'
theorem bD {x y:Int} (h: -9223372036854775808<=x - y) (h':x - y<9223372036854775808):aY .i64 x y=x - y:=gm h h'
theorem eo {x y:Int} (h: -9223372036854775808<=x*y) (h':x*y<9223372036854775808):ir .i64 x y=x*y:=gm h h'
theorem bW {P:Av} {f:B5} {sh:Sh} {args:List AC} {w:A2} {x:sh.T} (h:aE P f sh args w (λy w'=>y=x/\Ext w w')):
 Calls P f ⟨args⟩ w (λe w'=>e= .returned (sh.gR x)/\Ext w w'):=
 E5 h (by grind)
abbrev ae (b:Nat):Option Ad:=some ⟨b,0,none⟩
abbrev kQ:El:= .one .ptr
abbrev aV:El:= .one (.int .i64)
abbrev ou:El:= .one (.int .u64)
abbrev iu:El:= .one .slice
abbrev oI:El:= .one .bool
abbrev Ns:El:= .one .map
abbrev fR (w:A2) (a:Option Ad) (K:Option Ad->Prop):Prop:=aj w none a (.one .ptr) K
abbrev bN (p:Option Ad) (n:Nat) (w:A2) (K:Option Ad->Prop):Prop:=p.isSome=true/\p.isSome=true/\aj w none (ad p n) (.one .ptr) K
abbrev aU (w:A2) (a:Option Ad) (K:Int->Prop):Prop:=aj w none a (.one (.int .i64)) K
abbrev cv (p:Option Ad) (n:Nat) (w:A2) (K:Int->Prop):Prop:=p.isSome=true/\p.isSome=true/\aj w none (ad p n) (.one (.int .i64)) K
abbrev cB (w:A2) (a:Option Ad) (K:Int->Prop):Prop:=aj w none a (.one (.int .u64)) K
abbrev aak (p:Option Ad) (n:Nat) (w:A2) (K:Int->Prop):Prop:=p.isSome=true/\p.isSome=true/\aj w none (ad p n) (.one (.int .u64)) K
abbrev sw (w:A2) (a:Option Ad) (K:Option Ad×Nat×Nat->Prop):Prop:=aj w none a (.one .slice) K
abbrev fC (p:Option Ad) (n:Nat) (w:A2) (K:Option Ad×Nat×Nat->Prop):Prop:=p.isSome=true/\p.isSome=true/\aj w none (ad p n) (.one .slice) K
abbrev uu (w:A2) (a:Option Ad) (K:Bool->Prop):Prop:=aj w none a (.one .bool) K
abbrev aal (p:Option Ad) (n:Nat) (w:A2) (K:Bool->Prop):Prop:=p.isSome=true/\p.isSome=true/\aj w none (ad p n) (.one .bool) K
abbrev acq (w:A2) (a:Option Ad) (K:Option Nat->Prop):Prop:=aj w none a (.one .map) K
abbrev uv (p:Option Ad) (n:Nat) (w:A2) (K:Option Nat->Prop):Prop:=p.isSome=true/\p.isSome=true/\aj w none (ad p n) (.one .map) K
abbrev cK:El:= .agg [.int .u64,.int .i64]
abbrev dO:El:= .agg [.int .i64,.int .i64,.int .i64,.int .i64]
abbrev wG:El:= .agg [.int .i64,.int .u64,.int .u64,.int .u64]
abbrev wH:El:= .agg [.int .i64,.int .i64,.int .i64]
abbrev abO:El:= .agg [.int .i64,.int .i64,.int .i64,.int .i64,.int .u64,.int .u64,.int .u64,.int .u64,.int .i64]
abbrev jX:El:= .agg [.bool,.int .i64,.bool,.int .i64]
theorem au {c:Prop} {h:Decidable c} (a: ¬c) {α:Sort _} {t e:α}:ite c t e=e:=if_neg a
theorem az {c:Prop} {h:Decidable c} (hc:c) {α:Sort _} {t e:α}:ite c t e=t:=if_pos hc
abbrev aa (x:Int):AC:= .int .i64 x
abbrev ay (x:Int):AC:= .int .u64 x
abbrev ag (x:Option Ad):AC:= .pointer x
end Go.RX
