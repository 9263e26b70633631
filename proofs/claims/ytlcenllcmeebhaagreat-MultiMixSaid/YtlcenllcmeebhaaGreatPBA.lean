import Derived.CallsIn
import Derived.OrdersIn
import Derived.Below
import Derived.Laws.Sem
import Derived.KernelRfl
import Derived.Laws.StructEq
import Derived.Laws.Small
import Derived.WalkSpells
import Derived.ChangeKeysEq
import Derived.RangeFuncLeaves
import Derived.Laws.World
import Derived.Laws.NewFold
import Derived.OwnWalkIn
import Derived.ChangeMaps4
import Derived.Maps.RangeRun
import Derived.RangeFuncRecord
import Derived.LaidEqlPtr
import Derived.Conc.LoneSelect
import Derived.Laws.Append
import Derived.Test.YtlcenllcmeebhaaGreatProg
import Derived.Deep.Slices
import Derived.ProofKit
import Derived.OpenShut
/-! What the statement leans on: texts joined and shortened by a program of mine. -/
set_option linter.unusedVariables false
set_option linter.unusedSimpArgs false
open Go renaming World->A1,Value->A2,Addr->AL,TypeId->AM,Program->AP,IntKind->Ar,FuncId->Az,MapEntry->DA
open False renaming elim->AC
open Go.Sem renaming run_bind->AY,run_pure->Ap
open Go.Result renaming andThen_ok->Am,andThen->DB
open Go.Region renaming ready->B1,wanted->B5,binds->DF,schedule->GH,linearise->Kt
open List renaming range->B2,mem_filter->Bx,mem_cons->CF,all_eq_true->DZ,mem_range->Dn,mem_append->E4,length_append->E5,mem_map->GI,getElem?_cons_zero->GJ,map_toArray->GS,map_cons->Ga,map_nil->Gd,range'->Gi,countP_singleton->Gj,all_cons->Hq,getElem?_eq_getElem->Hr,mem_cons_self->I1,getElem?_toArray->I2,getElem?_cons_succ->I3,range'_succ->I8,countP_append->IG,length_cons->LL,take_add_one->M4,take_set_of_le->M5,drop_set_of_lt->N4,mem_cons_of_mem->N7,find?_some->N9,filter_cons->N_,range_eq_range'->Nz,countP_eq_zero->O2,range_succ->OC,flatMap_cons->OG,take_left'->OI
open Go.Op renaming equalIn->B3
open Bool renaming and_eq_true->B4,false_eq_true->Ea,or_eq_true->FU,not_eq_true'->Gn,or_false->IJ,not_false->OK
open Array renaming getElem?_eq_some_iff->Be,getElem?_setIfInBounds_ne->DD,replicate->Ee,getD_eq_getD_getElem?->FX,all_eq_true_iff_forall_mem->Gp,mk->IN,ext'->IQ,mapM_eq_mapM_toList->IR,getD->In,getElem?_eq_getElem->J3,mem_of_getElem?->K1,getElem?_modify->OR
open BitVec renaming ofInt->CB
open Go.Act renaming put->CD,put_comm->Do,eval->FY
open Option.some renaming injEq->Cf
open Go.MapKept renaming run_getObj_map->Cp,run_checkKey->DL,run_findKey->DM,IsKey->Gq,run_setObj_map->Gr
open Nat renaming le_refl->DR,blt->Ek,add_mul->Eo,testBit_or->G1,zero_add->KA,strongRecOn->KF,mul_le_mul_right->Oe,lt_of_lt_of_le->Og,div_eq_of_lt->Ox
open Go.Fence renaming wide->DU
open Go.IntKind renaming i64->Du,u64->Oy
open Go.Calls renaming mono->F5
open Go.Instr renaming findNow->F6,lookup->F7,fill->Gz,indexAt->H4,sureAddr->H5,index->H6,extract->H7,mapUpdate->Kf,sliceBound->PP,sliceBounds->PS,sliceAt->Pl,makeSlice->Pn,buildSlice->Pp
open Go.World renaming putObj->FI,cell?->Kg,setCell->Kh
open Go.Builtin renaming firstCells->FK,len_->GD,zeroCells->GF,lenOf->Kj,append_->Kl,delete_->Km,nextslicecap->Rg,copy_->S0
open Go.Region.linearise renaming go->FS
open Option renaming map_some->GG,getD_some->HB,map_none->S1
open Go.Conc renaming G->Hb,solo->S2,rcase->T0
namespace Go.RX
open Go.RowKit
def Ext (w w':A1):Prop:=Below w.heap.size w w'
theorem Ext.refl (w:A1):Ext w w:=Below.refl _ w
theorem Ext.trans {a b c:A1} (h:Ext a b) (k:Ext b c):Ext a c:=Below.trans h (Below.mono k h.size)
theorem Ext.drew (w:A1):Ext w {w with drawn:=w.drawn+1}:=⟨rfl,rfl,rfl,DR _,λ_ _=>rfl⟩
theorem Ext.alloc (w:A1) (o:Obj):Ext w (w.alloc o):=Below.alloc (Below.refl _ w) (DR _) o
theorem Ext.size {w w':A1} (h:Ext w w'):w.heap.size<=w'.heap.size:=Below.size h
theorem Ext.block {w w':A1} (h:Ext w w') {k:Nat} (a:k<w.heap.size):w'.heap[k]? =w.heap[k]? :=Below.block h k a
theorem Ext.obj {w w':A1} (h:Ext w w') {k:Nat} {o:Obj} (a:w.heap[k]? =some o):w'.heap[k]? =some o:=by
 rw[h.block (Be.1 a).1];exact a
theorem Hg {w:A1} {a:AL} {v:A2} (h:w.cell? a=some v):a.block<w.heap.size:=by
 unfold Kg at h;cases b:w.heap[a.block]? with
 |none=>simp[b] at h
 |some o=>exact(Be.1 b).1
theorem Ext.cell {w w':A1} (h:Ext w w') {a:AL} {v:A2} (b:w.cell? a=some v):w'.cell? a=some v:=by
 rw[Below.cell h (Hg b)];exact b
inductive Sc where
 |int (k:Ar)|bool|str|ptr|slice|map|chan|func|Au (f:Az) (n:Nat)|XX
 deriving DecidableEq
@[reducible] def D9:Nat->Type
 |0=>Unit
 |n+1=>Option AL×D9 n
def xU:(n:Nat)->D9 n->List A2
 |0, _=>[]
 |n+1,x=> .pointer x.1::xU n x.2
def mU:(n:Nat)->List A2->Option (D9 n)
 |0,[]=>some ()
 |n+1,.pointer a::r=>match mU n r with
  |some y=>some (a,y)
  |none=>none
 | _, _=>none
theorem uq: ∀{n:Nat} {l:List A2} {x:D9 n},mU n l=some x->xU n x=l
 |0,[], _, _=>rfl
 |0, _:: _, _,h=>by simp[mU] at h
 |n+1,[], _,h=>by simp[mU] at h
 |n+1,v::r,x,h=>by
  cases v<;>simp only[mU] at h<;>(try (cases h;done));split at h
  ·rename_i y a;cases h;simp only[xU,uq a]
  ·cases h
@[reducible] def Sc.T:Sc->Type
 | .int _=>Int
 | .bool=>Bool
 | .str=>ByteArray
 | .ptr=>Option AL
 | .slice=>Option AL×Nat×Nat
 | .map=>Option Nat
 | .chan=>Option Nat
 | .func=>A2
 | .Au _ n=>D9 n
 | .XX=>Nat
def Sc.gO:(s:Sc)->s.T->A2
 | .int k,n=> .int k n
 | .bool,b=> .bool b
 | .str,s=> .string s
 | .ptr,a=> .pointer a
 | .slice,x=> .slice x.1 x.2.1 x.2.2
 | .map,r=> .map r
 | .chan,r=> .chan r
 | .func,v=>v
 | .Au f n,x=> .func (.func f) #[] ⟨xU n x⟩
 | .XX,y=> .func (.yield y) #[] #[]
def Sc.proj:(s:Sc)->A2->Option s.T
 | .int k,.int d n=>if k=d then some n else none
 | .bool,.bool b=>some b
 | .str,.string s=>some s
 | .ptr,.pointer a=>some a
 | .slice,.slice a n c=>some (a,n,c)
 | .map,.map r=>some r
 | .chan,.chan r=>some r
 | .func,v=>some v
 | .Au f n,.func (.func f') ⟨[]⟩ ⟨l⟩=>if f=f' then mU n l else none
 | .XX,.func (.yield y) ⟨[]⟩ ⟨[]⟩=>some y
 | _, _=>none
theorem Sc.ir {s:Sc} {v:A2} {x:s.T} (h:s.proj v=some x):s.gO x=v:=by
 cases s with
 |Au f n=>
  cases v with
  |func fn first a=>
   obtain⟨b⟩:=first
   obtain⟨c⟩:=a;cases fn<;>cases b<;>simp only[Sc.proj] at h<;>(try (cases h;done));split at h
   ·subst_vars
    simp only[Sc.gO,uq h]
   ·cases h
  | _=>simp[Sc.proj] at h
 |XX=>
  cases v with
  |func fn first a=>
   obtain⟨b⟩:=first
   obtain⟨c⟩:=a;cases fn<;>cases b<;>cases c<;>simp only[Sc.proj] at h<;>first|(cases h;done)|(cases h;rfl)
  | _=>simp[Sc.proj] at h
 | _=>
   cases v<;>simp only[Sc.proj] at h<;>
    first
     |(cases h;rfl)
     |(split at h<;>cases h;subst_vars;rfl)
     |(cases h)
@[reducible] def iA:List Sc->Type
 |[]=>Unit
 |s::r=>s.T×iA r
def a_:(l:List Sc)->iA l->List A2
 |[], _=>[]
 |s::r,x=>s.gO x.1::a_ r x.2
def l9:(l:List Sc)->List A2->Option (iA l)
 |[],[]=>some ()
 |s::r,v::vs=>match s.proj v,l9 r vs with
  |some x,some y=>some (x,y)
  | _, _=>none
 | _, _=>none
theorem pS: ∀{l:List Sc} {vs:List A2} {x:iA l},l9 l vs=some x->a_ l x=vs
 |[],[], _, _=>rfl
 |[], _:: _, _,h=>by simp[l9] at h
 | _:: _,[], _,h=>by simp[l9] at h
 |s::r,v::vs,x,h=>by
  simp only[l9] at h;cases h1:s.proj v with
  |none=>simp[h1] at h
  |some a=>
   cases c:l9 r vs with
   |none=>simp[h1,c] at h
   |some b=>
    simp only[h1,c] at h;cases h;simp only[a_,Sc.ir h1,pS c]
inductive El where
 |one (s:Sc)|agg (l:List Sc)
@[reducible] def El.T:El->Type
 | .one s=>s.T
 | .agg l=>iA l
def El.gO:(e:El)->e.T->A2
 | .one s,x=>s.gO x
 | .agg l,x=> .agg ⟨a_ l x⟩
def El.proj:(e:El)->A2->Option e.T
 | .one s,v=>s.proj v
 | .agg l,.agg ⟨vs⟩=>l9 l vs
 | .agg _, _=>none
theorem El.ir {e:El} {v:A2} {x:e.T} (h:e.proj v=some x):e.gO x=v:=by
 cases e with
 |one s=>exact Sc.ir h
 |agg l=>
  cases v with
  |agg cs=>obtain⟨vs⟩:=cs;exact congrArg (λl=>Value.agg ⟨l⟩) (pS h)
  | _=>simp[El.proj] at h
@[reducible] def oN:List El->Type
 |[]=>Unit
 |e::r=>e.T×oN r
def vn:(l:List El)->oN l->List A2
 |[], _=>[]
 |e::r,x=>e.gO x.1::vn r x.2
def nK:(l:List El)->List A2->Option (oN l)
 |[],[]=>some ()
 |s::r,v::vs=>match s.proj v,nK r vs with
  |some x,some y=>some (x,y)
  | _, _=>none
 | _, _=>none
theorem wy: ∀{l:List El} {vs:List A2} {x:oN l},nK l vs=some x->vn l x=vs
 |[],[], _, _=>rfl
 |[], _:: _, _,h=>by simp[nK] at h
 | _:: _,[], _,h=>by simp[nK] at h
 |s::r,v::vs,x,h=>by
  simp only[nK] at h;cases h1:s.proj v with
  |none=>simp[h1] at h
  |some a=>
   cases c:nK r vs with
   |none=>simp[h1,c] at h
   |some b=>
    simp only[h1,c] at h;cases h;simp only[vn,El.ir h1,wy c]
inductive Sh where
 |el (e:El)|bu (l:List El)
@[reducible] def Sh.T:Sh->Type
 | .el e=>e.T
 | .bu l=>oN l
def Sh.gO:(s:Sh)->s.T->A2
 | .el e,x=>e.gO x
 | .bu l,x=> .tuple ⟨vn l x⟩
def Sh.proj:(s:Sh)->A2->Option s.T
 | .el e,v=>e.proj v
 | .bu l,.tuple ⟨vs⟩=>nK l vs
 | .bu _, _=>none
theorem Sh.ir {e:Sh} {v:A2} {x:e.T} (h:e.proj v=some x):e.gO x=v:=by
 cases e with
 |el s=>exact El.ir h
 |bu l=>
  cases v with
  |tuple cs=>obtain⟨vs⟩:=cs;exact congrArg (λl=>Value.tuple ⟨l⟩) (wy h)
  | _=>simp[Sh.proj] at h
def A4 (P:AP):Nat->AM->Option (List Sc)
 |0, _=>none
 |d+1,t=>match P.underlying t with
  |some (.int k)=>some [.int k]
  |some .bool=>some [.bool]
  |some .string=>some [.str]
  |some (.pointer _)=>some [.ptr]
  |some (.slice _)=>some [.slice]
  |some (.map _ _)=>some [.map]
  |some (.chan _ _)=>some [.chan]
  |some (.func _ _ _)=>some [.func]
  |some (.struct fs)=>fs.toList.foldr (λf c=>match A4 P d f.type,c with|some a,some b=>some (a++b)| _, _=>none) (some [])
  |some (.array n e)=>match A4 P d e with
   |some a=>if n<=64 then some (List.replicate n a).flatten else none
   |none=>none
  | _=>none
def vd (P:AP) (t:AM):Option El:=
 match P.underlying t with
 |some (.struct _)|some (.array _ _)=>(A4 P 20 t).map .agg
 | _=>match A4 P 20 t with
   |some [s]=>some (.one s)
   | _=>none
def Xt (P:AP):List AM->Option (List El)
 |[]=>some []
 |t::r=>match vd P t,Xt P r with
  |some e,some l=>some (e::l)
  | _, _=>none
def abf (P:AP) (f:Az):Sh:=
 match P.funcs[f]? with
 |some fn=>match fn.resultTypes.toList with
  |[t]=>match vd P t with
   |some e=> .el e
   |none=> .bu []
  |ts=>match Xt P ts with
   |some l=> .bu l
   |none=> .bu []
 |none=> .bu []
def aH (k:Ar) (x y:Int):Int:=k.wrap (x+y)
def aZ (k:Ar) (x y:Int):Int:=k.wrap (x - y)
def iB (k:Ar) (x y:Int):Int:=k.wrap (x*y)
def tj (k:Ar) (x y:Int):Int:=k.wrap (x.tdiv y)
def dX (x y:Int):Int:=x.tmod y
def xB (k:Ar) (x y:Int):Int:=k.wrap (CB k.bits x &&& CB k.bits y).toNat
def orI (k:Ar) (x y:Int):Int:=k.wrap (CB k.bits x ||| CB k.bits y).toNat
def aaC (k:Ar) (x y:Int):Int:=k.wrap (CB k.bits x ^^^ CB k.bits y).toNat
def gL (k:Ar) (x y:Int):Int:=k.wrap (CB k.bits x &&& ~~~ (CB k.bits y)).toNat
def DP (k:Ar) (x y:Int):Int:=k.wrap (x*2 ^ (min y.toNat k.bits))
def Kv (k:Ar) (x y:Int):Int:=x.fdiv (2 ^ (min y.toNat k.bits))
def aD (k:Ar) (x:Int):Int:=k.wrap x
def aaD (k:Ar) (x:Int):Int:=k.wrap (CB k.bits (if k.signed then -1 else k.max) ^^^ CB k.bits x).toNat
def kK (x y:Int):Int:=if y<x then y else x
def DQ (x y:Int):Int:=if y>x then y else x
structure PR where
 ob:Option Prop
 v:A2
def pK:Operand->Bool
 | .const (.int _ n)=>decide (n≠0)
 | _=>false
def qe:Operand->Bool
 | .const (.int _ n)=>decide (0<=n)
 | _=>false
def kL:Operand->Bool
 | .const (.pointer none)| .const (.slice none _ _)| .const (.map none)| .const .nilFunc=>true
 | _=>false
def Pb (op:BinOp) (k:Ar) (x y:Int) (a:Operand):Option PR:=
 match op with
 | .add=>some ⟨none,.int k (aH k x y)⟩
 | .sub=>some ⟨none,.int k (aZ k x y)⟩
 | .mul=>some ⟨none,.int k (iB k x y)⟩
 | .quo=>some ⟨if pK a then none else some (y≠0),.int k (tj k x y)⟩
 | .rem=>some ⟨if pK a then none else some (y≠0),.int k (dX x y)⟩
 | .and=>some ⟨none,.int k (xB k x y)⟩
 | .or=>some ⟨none,.int k (orI k x y)⟩
 | .xor=>some ⟨none,.int k (aaC k x y)⟩
 | .andNot=>some ⟨none,.int k (gL k x y)⟩
 | .eql=>some ⟨none,.bool (x==y)⟩
 | .neq=>some ⟨none,.bool (x != y)⟩
 | .lss=>some ⟨none,.bool (decide (x<y))⟩
 | .leq=>some ⟨none,.bool (decide (x<=y))⟩
 | .gtr=>some ⟨none,.bool (decide (x>y))⟩
 | .geq=>some ⟨none,.bool (decide (x>=y))⟩
 | _=>none
def kj (P:AP) (t:AM):Option Bool:=
 match P.underlying t with
 |some (.struct _)|some (.array _ _)=>some true
 |some _=>some false
 |none=>none
def q_ (P:AP) (t:AM) (cs:List A2) (off:Nat):Option A2:=
 match kj P t,P.info? t with
 |some true,some i=>some (.agg ⟨(cs.drop off).take i.size⟩)
 |some false, _=>cs[off]?
 | _, _=>none
def Ot (P:AP) (g:AM->A2->A2->Option Bool) (xs ys:List A2):List Field->Option Bool
 |[]=>some true
 |f::fs=>if f.name≠ "_" then
   match q_ P f.type xs f.offset,q_ P f.type ys f.offset with
   |some a,some b=>match g f.type a b,Ot P g xs ys fs with
    |some r,some s=>some (r&&s)
    | _, _=>none
   | _, _=>none
  else Ot P g xs ys fs
def eqV (P:AP):Nat->AM->A2->A2->Option Bool
 |0, _, _, _=>none
 |d+1,t,x,y=>
  match P.underlying t with
  |some .bool=>match x,y with
   | .bool a,.bool b=>some (a==b)
   | _, _=>none
  |some (.int _)=>match x,y with
   | .int k a,.int c b=>if k=c then some (a==b) else none
   | _, _=>none
  |some .string=>match x,y with
   | .string a,.string b=>some (a==b)
   | _, _=>none
  |some (.struct fs)=>match x,y with
   | .agg ⟨xs⟩,.agg ⟨ys⟩=>if P.stoodInHeld t then none else Ot P (eqV P d) xs ys fs.toList
   | _, _=>none
  | _=>none
def YN (P:AP) (op:BinOp) (t:AM) (d c:Operand) (x y:A2):Option PR:=
 match x,y with
 | .int k a,.int e b=>
   match op with
   | .shl=>some ⟨if qe c then none else some (0<=b),.int k (DP k a b)⟩
   | .shr=>some ⟨if qe c then none else some (0<=b),.int k (Kv k a b)⟩
   |op=>if k=e then Pb op k a b c else none
 | .bool a,.bool b=>
   match op,P.underlying t with
   | .eql,some .bool=>some ⟨none,.bool (a==b)⟩
   | .neq,some .bool=>some ⟨none,.bool (!(a==b))⟩
   | _, _=>none
 | .pointer p,.pointer q=>
   match op,P.underlying t with
   | .eql,some (.pointer _)=>if kL c then some ⟨none,.bool p.isNone⟩ else if kL d then some ⟨none,.bool q.isNone⟩ else none
   | .neq,some (.pointer _)=>if kL c then some ⟨none,.bool (!p.isNone)⟩ else if kL d then some ⟨none,.bool (!q.isNone)⟩ else none
   | _, _=>none
 | .slice p _ _,.slice q _ _=>
   match op,P.underlying t with
   | .eql,some (.slice _)=>if kL c then some ⟨none,.bool p.isNone⟩ else if kL d then some ⟨none,.bool q.isNone⟩ else none
   | .neq,some (.slice _)=>if kL c then some ⟨none,.bool (!p.isNone)⟩ else if kL d then some ⟨none,.bool (!q.isNone)⟩ else none
   | _, _=>none
 | .map p,.map q=>
   match op,P.underlying t with
   | .eql,some (.map _ _)=>if kL c then some ⟨none,.bool p.isNone⟩ else if kL d then some ⟨none,.bool q.isNone⟩ else none
   | .neq,some (.map _ _)=>if kL c then some ⟨none,.bool (!p.isNone)⟩ else if kL d then some ⟨none,.bool (!q.isNone)⟩ else none
   | _, _=>none
 | .string a,.string b=>
   match op with
   | .eql=>some ⟨none,.bool (a==b)⟩
   | .neq=>some ⟨none,.bool (!(a==b))⟩
   | _=>none
 | .agg xs,.agg ys=>
   if P.eqGuardType P.depth t then none else
   match op,eqV P Op.maxDepth t (.agg xs) (.agg ys) with
   | .eql,some r=>some ⟨none,.bool r⟩
   | .neq,some r=>some ⟨none,.bool (!r)⟩
   | _, _=>none
 | _, _=>none
def unV (op:UnOp) (x:A2):Option PR:=
 match op,x with
 | .not,.bool b=>some ⟨none,.bool (!b)⟩
 | .neg,.int k n=>some ⟨none,.int k (aZ k 0 n)⟩
 | .xor,.int k n=>some ⟨none,.int k (aaD k n)⟩
 | _, _=>none
def Xu (P:AP) (src dst:AM) (x:A2):Option PR:=
 match P.underlying src,P.underlying dst,x with
 |some _,some (.int k),.int _ n=>some ⟨none,.int k (aD k n)⟩
 |some .string,some .string,.string s=>some ⟨none,.string s⟩
 | _, _, _=>none
def xV (P:AP) (t:AM) (i:Nat):Option Field:=
 match P.underlying t with
 |some (.struct fs)=>fs[i]?
 | _=>none
def maps (ρ:Operand->Option A2):List Operand->Option (List A2)
 |[]=>some []
 |x::r=>match ρ x,maps ρ r with
  |some v,some l=>some (v::l)
  | _, _=>none
def A5 (ρ:Operand->Option A2):List (Nat×Operand)->Option (List (Nat×A2))
 |[]=>some []
 |(i,x)::r=>match ρ x,A5 ρ r with
  |some v,some l=>some ((i,v)::l)
  | _, _=>none
def ad (p:Option AL) (n:Nat):Option AL:=p.map (·.add n)
def CJ:List A2->Ar->Option (List Int)
 |[], _=>some []
 | .int a n::r,k=>if k=a then(match CJ r k with|some l=>some (n::l)|none=>none) else none
 | _, _=>none
def Kw (l:List Int) (i:Int):Int:=l.getD i.toNat 0
def YO (l:List A2) (i:Int):A2:=l.getD i.toNat undef
def fb (a:Nat->Option (Nat×Nat)) (cells:List A2):List (Nat×A2)->Option (List A2)
 |[]=>some cells
 |(i,v)::rest=>match a i with
  |none=>none
  |some (off,size)=>
   if(Nat.beq v.cells.toList.length size&&Nat.ble (off+size) cells.length)=true then fb a (cells.take off++(v.cells.toList++cells.drop (off+size))) rest else none
def A6 (a:Nat->Option (Nat×Nat)) (cells:Array A2) (ps:List (Nat×A2)):Option (Array A2):=
 match fb a cells.toList ps with
 |some l=>some ⟨l⟩
 |none=>none
theorem Ep: ∀(vs:List A2) (k off:Nat) (cs:List A2),off+k+vs.length<=cs.length->
 (vs.zipIdx k).foldl (λ(cs:Array A2) (x:A2×Nat)=>cs.setIfInBounds (off+x.2) x.1) ⟨cs⟩=⟨cs.take (off+k)++(vs++cs.drop (off+k+vs.length))⟩
 |[],k,off,cs,h=>by simp
 |v::vs,k,off,cs,h=>by
  simp only[LL] at h;simp;rw[Ep vs (k+1) off (cs.set (off+k) v) (by simp;omega)];congr 1
  grind[M4,M5,N4]
theorem Er (a:Nat->Option (Nat×Nat)): ∀(ps:List (Nat×A2)) (cells r:List A2),fb a cells ps=some r->Gz a ⟨cells⟩ ps=some ⟨r⟩
 |[],cells,r,h=>by cases h;rfl
 |(i,v)::rest,cells,r,h=>by
  unfold fb at h;unfold Gz;split at h
  ·cases h
  ·rename_i off size b;split at h
   ·rename_i hc;simp only[B4,Nat.beq_eq,Nat.ble_eq] at hc;obtain⟨h1,e⟩:=hc;have c:v.cells.size=size:=by simpa using h1
    have d: ¬ ((decide (v.cells.size≠size)||decide (off+v.cells.size>(IN cells).size))=true):=by
     simp[c];omega
    simp only[b,d];have:=Ep v.cells.toList 0 off cells (by simp only[h1];omega);have f:v.cells.zipIdx=⟨v.cells.toList.zipIdx 0⟩:=by
     apply IQ;simp
    have g:v.cells.zipIdx.foldl (λ(cs:Array A2) (x:A2×Nat)=>cs.setIfInBounds (off+x.2) x.1) ⟨cells⟩=⟨cells.take off++(v.cells.toList++cells.drop (off+size))⟩:=by
     grind
    refine Eq.trans ?_ (Er a rest _ r h)
    grind
   ·cases h
theorem y_ {a:Nat->Option (Nat×Nat)} {cells:Array A2} {ps:List (Nat×A2)} {cs:Array A2} (h:A6 a cells ps=some cs):Gz a cells ps=some cs:=by
 unfold A6 at h;split at h
 ·rename_i l b;cases h;exact Er a ps _ l b
 grind
def GL (P:AP) (t:AM) (parts:List (Nat×A2)):Option (Array A2):=
 match P.info? t with
 |some i=>match i.zero with
  |some z=>match P.underlying t with
   |some (.struct fs)=>if fs.toList.all (λf=>(P.info? f.type).isSome) then A6 ((fs.toList.map λf=>(f.offset,P.cellsOf f.type))[·]?) z.cells parts else none
   |some (.array _ e)=>match P.info? e with
    |some a=>A6 (λi=>some (i*a.size,a.size)) z.cells parts
    |none=>none
   | _=>none
  |none=>none
 |none=>none
def Xv (s:ByteArray) (i:Int):Int:=(((s.data.toList)[i.toNat]?.getD 0).toNat:Int)
def iD (ρ:Operand->Option A2) (d:Nat):Option Operand->Option (Int)
 |none=>some d
 |some x=>match ρ x with
  |some (.int _ n)=>some n
  | _=>none
def pop (P:AP) (ρ:Operand->Option A2) (o:Oper):Option PR:=
 match o.op with
 | .move x=>match ρ x with
   |some v=>some ⟨none,v⟩
   |none=>none
 | .assign x=>match ρ x with
   |some v=>some ⟨none,v⟩
   |none=>none
 | .nilCheck x=>match ρ x with
   |some (.pointer p)=>some ⟨some (p.isSome=true),.pointer p⟩
   |some (.func (.func f) fs cs)=>some ⟨none,.func (.func f) fs cs⟩
   | _=>none
 | .binOp op t x y _=>match ρ x,ρ y with
   |some a,some b=>YN P op t x y a b
   | _, _=>none
 | .unOp op _ x=>match ρ x with
   |some a=>unV op a
   |none=>none
 | .convert s d x=>match ρ x with
   |some a=>Xu P s d a
   |none=>none
 | .fieldAddr s x f=>match ρ x,xV P s f with
   |some (.pointer p),some fd=>match P.info? fd.type with
    |some i=>if i.size=0 then none else some ⟨some (p.isSome=true),.pointer (ad p fd.offset)⟩
    |none=>none
   | _, _=>none
 | .field t x f=>match ρ x,xV P t f with
   |some (.agg ⟨cs⟩),some fd=>match q_ P fd.type cs fd.offset with
    |some v=>some ⟨none,v⟩
    |none=>none
   | _, _=>none
 | .indexAddr t x ix=>match P.underlying t,ρ x,ρ ix with
   |some (.array len e),some (.pointer p),some (.int _ i)=>match P.info? e with
    |some g=>if len<=1 then none else some ⟨some (p.isSome=true/\0<=i/\i<len),.pointer (ad p (i.toNat*g.size))⟩
    |none=>none
   |some (.slice e),some (.slice p len _),some (.int _ i)=>match P.info? e with
    |some g=>some ⟨some (p.isSome=true/\0<=i/\i<len),.pointer (ad p (i.toNat*g.size))⟩
    |none=>none
   | _, _, _=>none
 | .index t x ix=>match P.underlying t,ρ x,ρ ix with
   |some (.array len e),some (.agg ⟨cs⟩),some (.int _ i)=>match P.info? e with
    |some g=>match ix with
     | .const (.int _ n)=>if 0<=n/\n<len then(match q_ P e cs (n.toNat*g.size) with
      |some v=>some ⟨none,v⟩
      |none=>none) else none
     | _=>match P.underlying e with
       |some (.int k)=>match CJ cs k with
        |some j=>if cs.length=len/\g.size=1 then some ⟨some (0<=i/\i<len),.int k (Kw j i)⟩ else none
        |none=>none
       |some (.struct _)=>if cs.length=len/\g.size=1 then some ⟨some (0<=i/\i<len),.agg ⟨[YO cs i]⟩⟩ else none
       | _=>none
    |none=>none
   |some .string,some (.string s),some (.int _ i)=>some ⟨some (0<=i/\i<s.size),.int .u8 (Xv s i)⟩
   | _, _, _=>none
 | .makeFunc fn first q=>match maps ρ first.toList,maps ρ q.toList with
   |some a,some b=>some ⟨none,.func fn ⟨a⟩ ⟨b⟩⟩
   | _, _=>none
 | .extract x i=>match ρ x with
   |some (.tuple ⟨vs⟩)=>match vs[i]? with
    |some v=>some ⟨none,v⟩
    |none=>none
   | _=>none
 | .build t parts=>match A5 ρ parts.toList with
   |some ps=>match GL P t ps with
    |some cs=>some ⟨none,.agg cs⟩
    |none=>none
   |none=>none
 | .slice t x lo hi mx=>match P.underlying t,ρ x with
   |some (.slice e),some (.slice p len cap)=>match P.info? e,iD ρ 0 lo,iD ρ len hi,iD ρ cap mx with
    |some g,some l,some h,some m=>if hi.isNone&&mx.isSome then none else
     some ⟨some (0<=l/\l<=h/\h<=m/\m<=cap),.slice (if m.toNat=l.toNat then p else ad p (l.toNat*g.size)) (h.toNat - l.toNat) (m.toNat - l.toNat)⟩
    | _, _, _, _=>none
   |some .string,some (.string s)=>match iD ρ 0 lo,iD ρ s.size hi with
    |some l,some h=>if mx.isSome then none else some ⟨some (0<=l/\l<=h/\h<=s.size),.string (s.extract l.toNat h.toNat)⟩
    | _, _=>none
   | _, _=>none
 | .call c=>match c.callee with
   | .builtin .len=>match c.args.toList,c.argTypes.toList with
     |[x],[t]=>match ρ x,P.underlying t with
      |some (.slice _ n _),some (.slice _)=>some ⟨none,.int .i64 n⟩
      |some (.string s),some .string=>some ⟨none,.int .i64 s.size⟩
      |some (.agg _),some (.array n _)=>some ⟨none,.int .i64 n⟩
      | _, _=>none
     | _, _=>none
   | .builtin .min=>match c.args.toList with
     |[x,y]=>match ρ x,ρ y with
      |some (.int k a),some (.int _ b)=>some ⟨none,.int k (kK a b)⟩
      | _, _=>none
     | _=>none
   | .builtin .max=>match c.args.toList with
     |[x,y]=>match ρ x,ρ y with
      |some (.int k a),some (.int _ b)=>some ⟨none,.int k (DQ a b)⟩
      | _, _=>none
     | _=>none
   | _=>none
 | _=>none
section
variable {P:AP}
theorem bC {t:AM} {d:TypeDesc} (h:P.underlying t=some d) (w:A1):(underlying t).run P w= .ok d w:=run_underlying h w
theorem fJ {t:AM} {i:TypeInfo} (h:P.info? t=some i) (w:A1):(typeInfo t).run P w= .ok i w:=by
 unfold typeInfo;simp[h]
theorem dv {t:AM} {i:TypeInfo} (h:P.info? t=some i) (w:A1):(sizeOf t).run P w= .ok i.size w:=by
 unfold sizeOf;simp[fJ h]
theorem vx {t:AM} {b:Bool} (h:kj P t=some b) (w:A1):(isAgg t).run P w= .ok b w:=by
 unfold kj at h;unfold isAgg;cases a:P.underlying t with
 |none=>grind
 |some d=>cases d<;>simp_all [bC]
theorem kT {t:AM} {cs:List A2} {off:Nat} {v:A2} (h:q_ P t cs off=some v) (w:A1):(part t ⟨cs⟩ off).run P w= .ok v w:=by
 unfold q_ at h;unfold part;cases hb:kj P t with
 |none=>grind
 |some b=>
  simp[vx hb];cases b with
  |true=>
   cases hi:P.info? t with
   |none
   |some i=>
    simp_all[dv]
  |false=>
   simp_all
theorem Jb: ∀(d:Nat) (t:AM) (x y:A2) (r:Bool),eqV P d t x y=some r-> ∀w,(B3 d t x y).run P w= .ok r w:=by
 intro d
 induction d with
 |zero=>intro t x y r h;simp[eqV] at h
 |succ d j=>
  intro t x y r h w;unfold eqV at h;split at h
  ·rename_i c;split at h
   ·cases h;simp[B3,bC c]
   ·cases h
  ·rename_i k0 c;split at h
   ·split at h
    ·cases h;subst_vars;simp[B3,bC c]
    ·cases h
   ·cases h
  ·rename_i c;split at h
   ·cases h;simp[B3,bC c]
   ·cases h
  ·rename_i fs c;split at h
   ·rename_i xs ys;split at h
    ·cases h
    ·rename_i k;have e:P.fieldsOf t=fs:=by simp[Program.fieldsOf,c]
     rw[run_equalIn_struct w d t ⟨xs⟩ ⟨ys⟩ (by rw[e];exact c) (by simpa using k),e];clear c e;generalize fs.toList=l at h
     induction l generalizing r with
     |nil=>simp only[Ot,Cf] at h;subst h;simp[Op.eqFields]
     |cons f l i=>
      simp only[Ot] at h;unfold Op.eqFields;split
      ·rename_i g;rw[if_pos g] at h;split at h
       ·rename_i a b m hb;split at h
        ·rename_i n p h1 o;cases h;simp only[AY,kT m,kT hb,Am,j _ _ _ _ h1];cases n
         ·simp
         ·simp[i _ o]
        ·cases h
       ·cases h
      ·rename_i g;rw[if_neg g] at h;exact i _ h
   ·cases h
  ·cases h
end
section
variable {P:AP} {ρ:Operand->Option A2} {ev:Operand->A2}
theorem l_ (a: ∀x v,ρ x=some v->ev x=v): ∀{l:List Operand} {vs:List A2},maps ρ l=some vs->l.map ev=vs
 |[],vs,h=>by grind[maps]
 |x::r,vs,h=>by
  simp[maps] at h;split at h
  ·rename_i h1 b;cases h;simp[a _ _ h1,l_ a b]
  grind
theorem za (a: ∀x v,ρ x=some v->ev x=v): ∀{l:List (Nat×Operand)} {vs:List (Nat×A2)},A5 ρ l=some vs->(l.map λ(i,x)=>(i,ev x))=vs
 |[],vs,h=>by grind[A5]
 |i::r,vs,h=>by
  simp[A5] at h;split at h
  ·rename_i b;have:=za a b
   grind
  grind
theorem xL (op:BinOp) (t:AM) (x y:Operand) (k c:Ar) (a b:Int) (w:A1):(eqGuard op t x y (.int k a) (.int c b)).run P w= .ok () w:=by
 unfold eqGuard;simp
theorem Bi {t:AM} (c:P.underlying t=some .bool) (d:Nat) (a b:Bool) (w:A1):(B3 (d+1) t (.bool a) (.bool b)).run P w= .ok (a==b) w:=by
 simp[B3,bC c]
theorem sw {t e:AM} (a:P.underlying t=some (.pointer e)) (d:Nat) (p:Option AL) (w:A1):(B3 (d+1) t (.pointer p) (.pointer none)).run P w= .ok p.isNone w:=by
 cases p<;>simp[B3,bC a]
theorem nX {t e:AM} (a:P.underlying t=some (.pointer e)) (d:Nat) (p:Option AL) (w:A1):(B3 (d+1) t (.pointer none) (.pointer p)).run P w= .ok p.isNone w:=by
 cases p<;>simp[B3,bC a]
theorem ur {t e:AM} (a:P.underlying t=some (.slice e)) (d:Nat) (p:Option AL) (n c b f:Nat) (w:A1):(B3 (d+1) t (.slice p n c) (.slice none b f)).run P w= .ok p.isNone w:=by
 cases p<;>simp[B3,bC a]
theorem uu {t e:AM} (a:P.underlying t=some (.slice e)) (d:Nat) (p:Option AL) (n c b f:Nat) (w:A1):(B3 (d+1) t (.slice none b f) (.slice p n c)).run P w= .ok p.isNone w:=by
 cases p<;>simp[B3,bC a]
theorem zI {t k e:AM} (a:P.underlying t=some (.map k e)) (d:Nat) (p:Option Nat) (w:A1):(B3 (d+1) t (.map p) (.map none)).run P w= .ok p.isNone w:=by
 cases p<;>simp[B3,bC a]
theorem zJ {t k e:AM} (a:P.underlying t=some (.map k e)) (d:Nat) (p:Option Nat) (w:A1):(B3 (d+1) t (.map none) (.map p)).run P w= .ok p.isNone w:=by
 cases p<;>simp[B3,bC a]
theorem eH {t:AM} {x y:A2} {r:Bool} {w:A1} (h: ∀d,(B3 (d+1) t x y).run P w= .ok r w):(Op.equal t x y).run P w= .ok r w:=h _
theorem UB {op:BinOp} {t:AM} {i e:Operand} {x y:A2} {l:PR} (j: ∀v,e= .const v->y=v) (m: ∀v,i= .const v->x=v)
 (h:YN P op t i e x y=some l) (o: ∀p,l.ob=some p->p) (w:A1):
 (do eqGuard op t i e x y;binOp op t x y).run P w= .ok l.v w:=by
 unfold YN at h;split at h
 ·
  rename_i k a F b;simp only[AY,xL,Am];have B:pK e=true->b≠0:=by
   intro hc;unfold pK at hc;split at hc
   ·rename_i C n;have:=j _ rfl;cases this;simpa using hc
   ·cases hc
  have z:qe e=true->0<=b:=by
   intro hc;unfold qe at hc;split at hc
   ·rename_i C n;have:=j _ rfl;cases this;simpa using hc
   ·cases hc
  split at h
  ·cases h;have h0:0<=b:=by
    by_cases hc:qe e=true
    ·exact z hc
    ·exact o (0<=b) (by simp[hc])
   simp[binOp,Op.shift,DP,Int.not_lt.2 h0]
  ·cases h;have h0:0<=b:=by
    by_cases hc:qe e=true
    ·exact z hc
    ·exact o (0<=b) (by simp[hc])
   simp[binOp,Op.shift,Kv,Int.not_lt.2 h0]
  ·rename_i G H;split at h
   ·subst_vars
    cases op<;>simp only[Pb] at h<;>(try cases h)<;>
     first
      |(simp[binOp,Op.intArith,aH,aZ,iB];done)
      |(simp[binOp,Op.intBits,xB,orI,aaC,gL];done)
      |(simp[binOp,Op.intCmp];done)
      |(have h0:b≠0:=by
         by_cases hc:pK e=true
         ·exact B hc
         ·exact o (b≠0) (by simp[hc])
        simp[binOp,Op.intDiv,h0,tj,dX])
   ·cases h
 ·
  rename_i a b;split at h
  ·rename_i c;cases h;simp[eqGuard,binOp,eH λd=>Bi c d a b w]
  ·rename_i c;cases h;simp[eqGuard,binOp,eH λd=>Bi c d a b w]
  ·cases h
 ·
  rename_i p q;have f:kL e=true->q=none:=by
   intro hc;unfold kL at hc;split at hc<;>first|(have:=j _ rfl;cases this<;>rfl)|(cases hc)
  have g:kL i=true->p=none:=by
   intro hc;unfold kL at hc;split at hc<;>first|(have:=m _ rfl;cases this<;>rfl)|(cases hc)
  split at h
  ·rename_i c;split at h
   ·rename_i hc;cases h;rw[f hc];simp[eqGuard,binOp,eH λd=>sw c d p w]
   ·split at h
    ·rename_i hc;cases h;rw[g hc];simp[eqGuard,binOp,eH λd=>nX c d q w]
    ·cases h
  ·rename_i c;split at h
   ·rename_i hc;cases h;rw[f hc];simp[eqGuard,binOp,eH λd=>sw c d p w]
   ·split at h
    ·rename_i hc;cases h;rw[g hc];simp[eqGuard,binOp,eH λd=>nX c d q w]
    ·cases h
  ·cases h
 ·
  rename_i p _ _ q _ _;have f:kL e=true->q=none:=by
   intro hc;unfold kL at hc;split at hc<;>first|(have:=j _ rfl;cases this<;>rfl)|(cases hc)
  have g:kL i=true->p=none:=by
   intro hc;unfold kL at hc;split at hc<;>first|(have:=m _ rfl;cases this<;>rfl)|(cases hc)
  split at h
  ·rename_i c;split at h
   ·rename_i hc;cases h;rw[f hc];simp[eqGuard,binOp,eH λd=>ur c d p _ _ _ _ w]
   ·split at h
    ·rename_i hc;cases h;rw[g hc];simp[eqGuard,binOp,eH λd=>uu c d q _ _ _ _ w]
    ·cases h
  ·rename_i c;split at h
   ·rename_i hc;cases h;rw[f hc];simp[eqGuard,binOp,eH λd=>ur c d p _ _ _ _ w]
   ·split at h
    ·rename_i hc;cases h;rw[g hc];simp[eqGuard,binOp,eH λd=>uu c d q _ _ _ _ w]
    ·cases h
  ·cases h
 ·
  rename_i p q;have f:kL e=true->q=none:=by
   intro hc;unfold kL at hc;split at hc<;>first|(have:=j _ rfl;cases this<;>rfl)|(cases hc)
  have g:kL i=true->p=none:=by
   intro hc;unfold kL at hc;split at hc<;>first|(have:=m _ rfl;cases this<;>rfl)|(cases hc)
  split at h
  ·rename_i c;split at h
   ·rename_i hc;cases h;rw[f hc];simp[eqGuard,binOp,eH λd=>zI c d p w]
   ·split at h
    ·rename_i hc;cases h;rw[g hc];simp[eqGuard,binOp,eH λd=>zJ c d q w]
    ·cases h
  ·rename_i c;split at h
   ·rename_i hc;cases h;rw[f hc];simp[eqGuard,binOp,eH λd=>zI c d p w]
   ·split at h
    ·rename_i hc;cases h;rw[g hc];simp[eqGuard,binOp,eH λd=>zJ c d q w]
    ·cases h
  ·cases h
 ·
  rename_i a b;split at h
  ·cases h;simp[eqGuard,binOp,Op.stringOp,beq_toListBytes]
  ·cases h;simp[eqGuard,binOp,Op.stringOp,beq_toListBytes]
  ·cases h
 ·
  rename_i xs ys;split at h
  ·cases h
  ·rename_i D;have E:P.eqGuardType P.depth t=false:=by simpa using D
   have A: ∀op:BinOp,(eqGuard op t i e (.agg xs) (.agg ys)).run P w= .ok () w:=by
    intro op;unfold eqGuard;cases op<;>simp[E]
   split at h
   ·rename_i r s;cases h;simp only[AY,A,Am];have u:(Op.equal t (.agg xs) (.agg ys)).run P w= .ok r w:=Jb (P:=P) _ _ _ _ _ s w;simp[binOp,u]
   ·rename_i r s;cases h;simp only[AY,A,Am];have u:(Op.equal t (.agg xs) (.agg ys)).run P w= .ok r w:=Jb (P:=P) _ _ _ _ _ s w;simp[binOp,u]
   ·cases h
 ·cases h
end
section
variable {P:AP} {ρ:Operand->Option A2} {ev:Operand->A2}
theorem zK: ∀{cs:List A2} {k:Ar} {a:List Int},CJ cs k=some a-> ∀i,i<cs.length->cs[i]? =some (.int k (a.getD i 0))
 |c::cs,k,a,h,i,hi=>by
  unfold CJ at h;split at h
  grind
  ·rename_i e n r f b;cases b;split at h
   ·subst_vars
    split at h
    ·rename_i l d;cases h;cases i with
     |zero=>simp
     |succ i=>simpa using zK d i (by grind)
    grind
   ·cases h
  ·cases h
theorem wz {t:AM} {f:Nat} {fd:Field} (a:xV P t f=some fd): ∃fs,P.underlying t=some (.struct fs)/\fs[f]? =some fd:=by
 grind[xV]
theorem Fo {t e:AM} {a:TypeInfo} (p:AL) (k:Ar) (i:Int) (len:Nat) (c: ¬ len<=1) (b:P.underlying t=some (.array len e)) (hi:P.info? e=some a) (h0:0<=i) (h1:i<len) (w:A1):
 (H4 t (.pointer (some p)) (.int k i)).run P w= .ok (.pointer (some (p.add (i.toNat*a.size)))) w:=by
 simp[H4,asIntOf,H5,bC b,dv hi,h0,h1]
theorem run_indexAt_slice {t e:AM} {a:TypeInfo} (p:AL) (k:Ar) (i:Int) (len cap:Nat) (b:P.underlying t=some (.slice e)) (hi:P.info? e=some a) (h0:0<=i) (h1:i<len) (w:A1):
 (H4 t (.slice (some p) len cap) (.int k i)).run P w= .ok (.pointer (some (p.add (i.toNat*a.size)))) w:=by
 simp[H4,asIntOf,bC b,dv hi,h0,h1]
theorem fg {α:Type} {p:Option α} (h:p.isSome=true): ∃a,p=some a:=Option.isSome_iff_exists.1 h
theorem kU (a: ∀x v,ρ x=some v->ev x=v) {d:Nat} {x:Operand} {n:Int} (h:iD ρ d (some x)=some n): ∃k,ev x= .int k n:=by grind[iD]
theorem run_sliceBound (k:Ar) (n:Int) (y:Nat) (c:BoundsCode) (h0:0<=n) (h1:n<=y) (w:A1):(PP (.int k n) y c).run P w= .ok n.toNat w:=by
 simp[PP,asIntOf,h0,h1]
theorem oA (b: ∀x v,ρ x=some v->ev x=v) {isS:Bool} {len cap:Nat} {lo hi mx:Option Operand} {l h m:Int}
 (a:iD ρ 0 lo=some l) (c:iD ρ len hi=some h) (g:iD ρ cap mx=some m) (n: ¬ (hi.isNone=true/\mx.isSome=true))
 (h0:0<=l) (h1:l<=h) (o:h<=m) (p:m<=cap) (w:A1):
 (PS isS len cap (lo.map ev) (hi.map ev) (mx.map ev)).run P w= .ok (l.toNat,h.toNat,m.toNat) w:=by
 unfold PS;have a1:h<=((m.toNat:Nat):Int):=by omega
 have q:l<=((h.toNat:Nat):Int):=by omega
 have i:0<=h:=by omega
 have r:0<=m:=by omega
 cases mx with
 |none=>
  simp only[iD,Cf] at g;subst g;have j:h<=(cap:Int):=o;cases hi with
  |none=>
   simp only[iD,Cf] at c;subst c;cases lo with
   |none=>simp only[iD,Cf] at a;subst a;simp
   |some x=>obtain⟨k,d⟩:=kU b a;simp[d,run_sliceBound k l len _ h0 h1]
  |some y=>
   obtain⟨e,f⟩:=kU b c;cases lo with
   |none=>simp only[iD,Cf] at a;subst a;cases isS<;>simp[f,run_sliceBound e h cap _ i j]
   |some x=>obtain⟨k,d⟩:=kU b a;cases isS<;>simp[d,f,run_sliceBound e h cap _ i j,run_sliceBound k l h.toNat _ h0 q]
 |some z=>
  obtain⟨s,t⟩:=kU b g;cases hi with
  |none=>simp at n
  |some y=>
   obtain⟨e,f⟩:=kU b c;cases lo with
   |none=>simp only[iD,Cf] at a;subst a;cases isS<;>simp[f,t,run_sliceBound s m cap _ r p,run_sliceBound e h m.toNat _ i a1]
   |some x=>obtain⟨k,d⟩:=kU b a;simp_all[run_sliceBound]
theorem Qf {s:ByteArray} {i:Int} (h0:0<=i) (h1:i<s.size):s[i.toNat]? =some (s.data[i.toNat]?.getD 0):=by
 simp_all
 rfl
theorem run_places: ∀(l:List Field),(l.all λf=>(P.info? f.type).isSome)=true-> ∀w:A1,
 (l.mapM (m:=Sem) λf=>do pure (f.offset, <-sizeOf f.type)).run P w= .ok (l.map λf=>(f.offset,P.cellsOf f.type)) w
 |[], _,w=>by rfl
 |f::l,h,w=>by
  simp only[Hq,B4] at h;obtain⟨i,hi⟩:=fg h.1;have a:P.cellsOf f.type=i.size:=by simp[Program.cellsOf,hi]
  have b:=run_places l
  simp_all[dv]
theorem Qg {t:AM} {parts:Array (Nat×A2)} {ps:List (Nat×A2)} {cs:Array A2} (e:parts.toList=ps) (h:GL P t ps=some cs) (w:A1):
 (Instr.build t parts).run P w= .ok (.agg cs) w:=by
 unfold GL at h;split at h
 ·rename_i i hi;split at h
  ·rename_i z b;unfold Instr.build zeroValue;simp only[AY,fJ hi,Am,b,Ap];split at h
   ·rename_i fs a;split at h
    ·rename_i c;have f:=run_places (P:=P) fs.toList (by simpa using c) w
     simp_all[IR,y_,bC]
    ·cases h
   ·rename_i n el a;split at h
    ·rename_i g d;simp only[bC a,Am,AY,dv d,e,y_ h];rfl
    ·cases h
   ·cases h
  ·cases h
 ·cases h
theorem Pc {o:Oper} {H:PR} (g: ∀x v,ρ x=some v->ev x=v) (hc: ∀v,ev (.const v)=v) (h:pop P ρ o=some H) (u: ∀p,H.ob=some p->p) (w:A1):
 (execOp ev o).run P w= .ok (.value H.v) w:=by
 obtain⟨dst,op,type,pos,after,guard⟩:=o;unfold pop at h;cases op<;>simp only at h<;>(try (cases h;done))<;>unfold execOp<;>simp only
 case move x=>
  split at h
  ·rename_i v hv;cases h;simp[g _ _ hv]
  ·cases h
 case assign x=>
  split at h
  ·rename_i v hv;cases h;simp[g _ _ hv]
  ·cases h
 case build t parts=>
  split at h
  ·rename_i ps S;split at h
   ·rename_i cs fh;cases h;have e:=za g S;have e':(parts.map λ(i,x)=>(i,ev x)).toList=ps:=by rw[<-e];simp
    simp[Qg e' fh]
   ·cases h
  ·cases h
 case nilCheck x=>
  split at h
  ·rename_i p hv;cases h;obtain⟨a,rfl⟩:=fg (u _ rfl);simp[g _ _ hv]
  ·rename_i f fs cs hv;cases h;simp[g _ _ hv]
  ·cases h
 case binOp op t x y yt=>
  split at h
  ·rename_i a b r hb;have T:=UB (P:=P) (λv hv=>by rw[<-g _ _ hb,hv,hc]) (λv hv=>by rw[<-g _ _ r,hv,hc]) h u w;simp only[g _ _ r,g _ _ hb];rw[AY,T];rfl
  ·cases h
 case unOp op t x=>
  split at h
  ·rename_i a r;simp only[g _ _ r];unfold unV at h;split at h<;>(try cases h)<;>simp[Op.unary,Op.intArith,Op.intBits,aZ,aaD]
  ·cases h
 case convert s d x=>
  split at h
  ·rename_i a r;simp only[g _ _ r];unfold Xu at h;split at h
   ·rename_i ds k k' n h1 A;cases h;cases ds<;>simp[convert,bC h1,bC A,Conv.intToInt,aD]
   ·rename_i A I;cases h;simp[convert,bC A,bC I]
   ·cases h
  ·cases h
 case makeFunc fn first Q=>
  split at h
  ·rename_i a b r hb;cases h;have J:=l_ g r;have U:=l_ g hb;have V:first.map ev=⟨a⟩:=by rw[<-J];cases first;simp
   have W:Q.map ev=⟨b⟩:=by rw[<-U];cases Q;simp
   simp[Instr.makeFunc,V,W]
  ·cases h
 case slice t x lo hi mx=>
  split at h
  ·rename_i e p len cap q j;split at h
   ·rename_i C l X m Y D K Z;split at h
    ·cases h
    ·rename_i R;cases h;obtain⟨h0,h1,A,I⟩:=u _ rfl;have ace: ¬ (hi.isNone=true/\mx.isSome=true):=by simpa using R
     have hb:=oA (P:=P) (isS:=true) g D K Z ace h0 h1 A I w;simp only[g _ _ j];simp[Pl,bC q,Instr.slice,hb,dv Y,ad]
   ·cases h
  ·rename_i s q j;split at h
   ·rename_i l X D K;split at h
    ·cases h
    ·rename_i R;cases h;obtain⟨h0,h1,A⟩:=u _ rfl;have hmx:mx=none:=by cases mx<;>simp_all
     subst hmx;have hb:=oA (P:=P) (isS:=false) (cap:=s.size) (mx:=none) g D K rfl (by simp) h0 h1 A (by simp) w;simp only[S1] at hb;simp only[g _ _ j];simp[Pl,bC q,Instr.slice,hb]
   ·cases h
  ·cases h
 case fieldAddr s x f=>
  split at h
  ·rename_i p fd j L;split at h
   ·rename_i i hi;split at h
    ·cases h
    ·rename_i hz;cases h;obtain⟨a,rfl⟩:=fg (u _ rfl);obtain⟨fs,q,M⟩:=wz L;simp[Instr.fieldAt,bC q,M,g _ _ j,H5,fieldPlace,dv hi,hz,ad]
   ·cases h
  ·cases h
 case field t x f=>
  split at h
  ·rename_i cs fd j L;split at h
   ·rename_i v hv;cases h;obtain⟨fs,q,M⟩:=wz L;simp[Instr.field,bC q,M,g _ _ j,asAgg,kT hv]
   ·cases h
  ·cases h
 case indexAddr t x ix=>
  split at h
  ·rename_i len e p k i q j z;split at h
   ·rename_i C hi;split at h
    ·cases h
    ·rename_i D;cases h;obtain⟨B,h0,h1⟩:=u _ rfl;obtain⟨a,rfl⟩:=fg B;simp[g _ _ j,g _ _ z,Fo a k i len D q hi h0 h1,ad]
   ·cases h
  ·rename_i e p len cap k i q j z;split at h
   ·rename_i C hi;cases h;obtain⟨B,h0,h1⟩:=u _ rfl;obtain⟨a,rfl⟩:=fg B;simp[g _ _ j,g _ _ z,run_indexAt_slice a k i len cap q hi h0 h1,ad]
   ·cases h
  ·cases h
 case index t x ix=>
  split at h
  ·rename_i len e cs k i q j z;split at h
   ·rename_i C hi;split at h
    ·rename_i k2 n;have hn:(Value.int k2 n)= .int k i:=by rw[<-g _ _ z,hc]
     cases hn;split at h
     ·rename_i hb;split at h
      ·rename_i v hv;cases h;simp[H6,asIntOf,bC q,g _ _ j,hc,hb.1,hb.2,dv hi,kT hv]
      ·cases h
     ·cases h
    ·split at h
     ·rename_i k3 N;split at h
      ·rename_i ns hns;split at h
       ·rename_i F;cases h;obtain⟨h0,h1⟩:=u _ rfl;have G:i.toNat<cs.length:=by omega
        have iW:=zK hns i.toNat G;have B:q_ P e cs (i.toNat*C.size)=some (.int k3 (Kw ns i)):=by
         rw[F.2,Nat.mul_one];unfold q_;have:kj P e=some false:=by unfold kj;simp[N]
         simp[this,iW,Kw]
        simp[H6,asIntOf,bC q,g _ _ j,g _ _ z,h0,h1,dv hi,kT B]
       ·cases h
      ·cases h
     ·rename_i fs N;split at h
      ·rename_i F;cases h;obtain⟨h0,h1⟩:=u _ rfl;have G:i.toNat<cs.length:=by omega
       have B:q_ P e cs (i.toNat*C.size)=some (.agg ⟨[YO cs i]⟩):=by
        rw[F.2,Nat.mul_one];unfold q_;have:kj P e=some true:=by unfold kj;simp[N]
        simp only[this,hi,F.2,YO];have J:List.take 1 (List.drop i.toNat cs)=[cs.getD i.toNat undef]:=by
         rw[List.drop_eq_getElem_cons G,List.getD_eq_getElem?_getD,Hr G];rfl
        rw[J]
       simp[H6,asIntOf,bC q,g _ _ j,g _ _ z,h0,h1,dv hi,kT B]
      ·cases h
     ·cases h
   ·cases h
  ·rename_i s k i q j z;cases h;obtain⟨h0,h1⟩:=u _ rfl;have hg:=Qf h0 h1;simp[H6,asIntOf,bC q,g _ _ j,g _ _ z,h0,hg,Xv]
  ·cases h
 case extract x i=>
  split at h
  ·rename_i vs j;split at h
   ·rename_i v hv;cases h;simp[g _ _ j,H7,hv]
   ·cases h
  ·cases h
 case call c=>
  obtain⟨callee,args,argTypes⟩:=c;simp only at h;split at h
  ·
   split at h
   ·rename_i x t r ht;have E:args= #[x]:=by cases args;simp_all
    have et:argTypes= #[t]:=by cases argTypes;simp_all
    subst E et;split at h<;>(try cases h)
    ·rename_i j q;simp[resolve,invoke,builtin,GD,g _ _ j,bC q,goInt]
    ·rename_i j q;simp[resolve,invoke,builtin,GD,g _ _ j,bC q,goInt]
    ·rename_i j q;simp[resolve,invoke,builtin,GD,g _ _ j,bC q,goInt]
   ·cases h
  ·
   split at h
   ·rename_i x y r;have E:args= #[x,y]:=by cases args;simp_all
    subst E;split at h<;>(try cases h);rename_i j O;simp[resolve,invoke,builtin,Builtin.min_,Builtin.min2,g _ _ j,g _ _ O,kK]
   ·cases h
  ·split at h
   ·rename_i x y r;have E:args= #[x,y]:=by cases args;simp_all
    subst E;split at h<;>(try cases h);rename_i j O;simp[resolve,invoke,builtin,Builtin.max_,Builtin.max2,g _ _ j,g _ _ O,DQ]
   ·cases h
  ·cases h
end
structure bO where
 t:Nat
 ch:List (Nat×Bool)
 g:Option Bool
 v:A2
 k:Option Bool
def bX:List bO->Nat->Option bO
 |[], _=>none
 |e::r,t=>if e.t=t then some e else bX r t
structure Entry (P:AP) where
 f:Az
 fn:List A2->Option (Prop×A2)
 ok: ∀args pre v,fn args=some (pre,v)->pre-> ∀w,Calls P f ⟨args⟩ w (λe w'=>e= .returned v/\Ext w w')
structure dJ (P:AP) where
 sW:List (Entry P)
 quiet:List Az
 sh:List (Az×Sh)
 mixed:P.follows .mixedOrders=true
 v7:Bool:=false
 cl:List (AM×Sc):=[]
 dyn:Option Sh:=none
def Pd:List (Az×Sh)->Az->Option Sh
 |[], _=>none
 |(g,s)::r,f=>if g=f then some s else Pd r f
def u9 {P:AP} (C:dJ P) (f:Az):Sh:=
 match Pd C.sh f with
 |some s=>s
 |none=>abf P f
def Pe:List (AM×Sc)->AM->Option Sc
 |[], _=>none
 |(g,s)::r,t=>if g=t then some s else Pe r t
def elC {P:AP} (C:dJ P) (t:AM):Option El:=
 match vd P t with
 |some (.one .func)=>match Pe C.cl t with
  |some s=>some (.one s)
  |none=>some (.one .func)
 |e=>e
def yC {P:AP}:List (Entry P)->Az->Option (Entry P)
 |[], _=>none
 |e::r,f=>if e.f=f then some e else yC r f
def cY (first:Array A2) (a:List A2) (cap:Array A2):List A2:=first.toList++(a++cap.toList)
def bJ (P:AP) (a:Az):Bool:=
 match P.funcs[a]? with
 |some fn=>fn.body.isSome&& !(fn.name== "runtime.NumGoroutine")
 |none=>false
def ae (P:AP) (f:Az) (args:List A2) (w:A1) (v:A2):Prop:=
 ∀w',Ext w w'->Calls P f ⟨args⟩ w' (λe a=>e= .returned v/\Ext w' a)
def aE (P:AP) (f:Az) (s:Sh) (args:List A2) (w:A1) (R:s.T->A1->Prop):Prop:=
 Calls P f ⟨args⟩ w (λe w'=> ∃x:s.T,e= .returned (s.gO x)/\R x w')
theorem aE.mono {P:AP} {f:Az} {s:Sh} {args:List A2} {w:A1} {R a:s.T->A1->Prop} (h:aE P f s args w R) (k: ∀x w',R x w'->a x w'):aE P f s args w a:=
 F5 h (by grind)
def dz (_:Nat) (_:Op):Prop:=False
def cC (w:A1) (p:Option AL):(e:El)->e.T->Prop
 | .one s,x=> ∃a,p=some a/\w.cell? a=some (s.gO x)
 | .agg l,x=> ∃a,p=some a/\ ∀i,i<l.length->w.cell? (a.add i)=(a_ l x)[i]?
def qf:El->Nat->Bool
 | .one _, _=>false
 | .agg l,n=>l.length != n
def oW (w:A1) (p:Option AL) (n:Nat) (vs:List A2):Prop:=
 match p with
 |none=>vs=[]
 |some a=>vs.length=n/\ ∀i,i<n->w.cell? (a.add i)=vs[i]?
def Un (w:A1) (p:Option AL) (n:Nat):Prop:=
 ∃a,p=some a/\ ∀i,i<n->(w.cell? (a.add i)).isSome=true/\w.frozen? (a.add i)=false
def putAt (w:A1) (a:AL):List A2->Nat->A1
 |[], _=>w
 |v::r,i=>putAt (w.setCell (a.add i) v) a r (i+1)
def jB (w:A1) (p:Option AL) (vs:List A2):A1:=
 match p with
 |some a=>putAt w a vs 0
 |none=>w
def mF (w:A1) (e:AM) (size bytes:Nat) (z:Array A2) (s x:Option AL×Nat×Nat) (R:Option AL×Nat×Nat->A1->Prop):Prop:=
 ∃fG new,oW w s.1 (s.2.1*size) fG/\oW w x.1 (x.2.1*size) new/\
  (s.2.1+x.2.1<=s.2.2->(new=[]\/(Un w (s.1.map (·.add (s.2.1*size))) new.length/\new.all (·.oneCell')=true))/\
   R (s.1,s.2.1+x.2.1,s.2.2) (jB w (s.1.map (·.add (s.2.1*size))) new))/\
  (s.2.2<s.2.1+x.2.1->Rg (s.2.1+x.2.1) s.2.2*bytes<=2 ^ 48/\
   ∀c,s.2.1+x.2.1<=c->R (some ⟨w.heap.size,0,none⟩,s.2.1+x.2.1,c) (w.drew.alloc (.cells (⟨fG⟩++⟨new⟩++GF z (c - (s.2.1+x.2.1))) e)))
def cpR (w:A1) (size:Nat) (d x:Option AL×Nat) (R:Int->A1->Prop):Prop:=
 ∃new,oW w x.1 (Nat.min x.2 d.2*size) new/\(d.1=none\/new=[]\/(Un w d.1 new.length/\new.all (·.oneCell')=true))/\R (Nat.min x.2 d.2:Nat) (jB w d.1 new)
def mq (P:AP) (l:Nat) (args:List A2) (w:A1) (R:Bool->A1->Prop):Prop:=
 ∃rec,w.heap[l]? =some (.loop rec)/\args.length=rec.params.size/\
  RoundIn DU 0 P l rec.fn ((rec.params.zip ⟨args⟩).foldl (λtmps (t,a)=>tmps.setIfInBounds t a) rec.tmps) rec.assign rec.body w
   (λe w'=> ∃b,e= .returned (.bool b)/\R b w')
def gF (g:Option Bool) (p:Prop):Prop:=
 match g with
 |none=>p
 |some b=>b=true->p
@[reducible] def aj (w:A1) (g:Option Bool) (p:Option AL) (el:El) (K:el.T->Prop):Prop:= ∃x:el.T,gF g (cC w p el x)/\K x
@[reducible] def aC (w:A1) (p:Option AL) (vs:List A2) (K:A1->Prop):Prop:= ∀w1,Ext w w1->(vs.all (·.oneCell')=true/\Un w1 p vs.length)/\K (jB w1 p vs)
@[reducible] def aN (w:A1) (cs:Array A2) (e:AM) (K:Nat->A1->Prop):Prop:= ∀w1,Ext w w1->K w1.heap.size (w1.alloc (.cells cs e))
def az (P:AP) (f:Az) (s:Sh) (args:List A2) (w:A1) (K:s.T->A1->Prop):Prop:= ∀w1,Ext w w1->aE P f s args w1 K
def aaF (bytes:Nat) (n m:Int):Prop:=0<=n/\n<=m/\m<2 ^ 63/\bytes*m<=2 ^ 48
def nL (z:Array A2) (n:Nat):Array A2:=(Array.range n).map ((if n=0 then #[] else z)[· % (if n=0 then #[] else z).size]!)
def Ak (P:AP) (v:A2) (s:Sh) (b:List A2) (w:A1) (K:s.T->A1->Prop):Prop:=
 ∀w1,Ext w w1-> ∃a first cap,v= .func (.func a) first cap/\bJ P a=true/\aE P a s (cY first b cap) w1 K
def N8 (w:A1) (bytes size:Nat) (n m:Int) (z:Array A2) (e:AM) (K:Nat->A1->Prop):Prop:= ∀w1,Ext w w1->aaF bytes n m/\K w1.heap.size (w1.alloc (.cells (nL z (m.toNat*size)) e))
@[reducible] def au (w:A1) (K:A1->Prop):Prop:= ∀w1,Ext w w1->K w1
def YP (a b:List (Nat×Bool)):Bool:=a.all λx=>b.contains x
def yl (env:List bO) (ch:List (Nat×Bool)):Operand->Option A2
 | .tmp t=>match bX env t with
   |some ⟨_,c, _,v, _⟩=>if YP c ch then some v else none
   |none=>none
 | .const v=>some v
 | .global g=>some (.pointer (some ⟨g,0,none⟩))
 | .func f=>some (.func (.func f) #[] #[])
def dE (ops:Array Oper) (j:Nat):Option Nat:=(ops[j]?).bind (·.dst)
def lit:Bool->Bool->Bool
 |true,x=>x
 |false,x=> !x
def acf (b:Bool):Option Bool->Option Bool
 |none=>some b
 |some g=>some (g&&b)
def gd (ops:Array Oper) (env:List bO) (o:Oper):Option (Option (List (Nat×Bool)×Option Bool)):=
 match o.guard with
 |none=>some (some ([],none))
 |some (j,b)=>match dE ops j with
  |some d=>match bX env d with
   |some e=>match e.k with
    |some a=>if a=b then some (some ([],none)) else some none
    |none=>match e.v with
     | .bool x=>some (some ((j,b)::e.ch,acf (lit b x) e.g))
     | _=>none
   |none=>none
  |none=>none
def settle (j:Nat) (b:Bool) (e:bO):bO:=
 if e.ch.contains (j, !b) then⟨e.t,[],none,undef,none⟩
 else if e.ch.contains (j,b) then
  match e.ch.filter (λx=>x != (j,b)) with
  |[]=>⟨e.t,[],none,e.v,none⟩
  |c::r=>⟨e.t,c::r,e.g,e.v,none⟩
 else e
def pf (ops:Array Oper) (N:Nat) (env:List bO) (ch:List (Nat×Bool)):Option Nat->Bool
 |none=>true
 |some d=>decide (d<N)&&ch.all (λx=>dE ops x.1 != some d)&&env.all λe=>e.ch.all λx=>dE ops x.1 != some d
def mj (env:List bO) (d:Option Nat) (ch:List (Nat×Bool)) (g:Option Bool) (v:A2):List bO:=
 match d with
 |some d=>⟨d,ch,g,v,none⟩::env
 |none=>env
def xC (env:List bO) (d:Option Nat) (ch:List (Nat×Bool)) (g:Option Bool) (v:A2) (K:List bO->Prop):Prop:=
 match d with
 |some d=>K (⟨d,ch,g,v,none⟩::env)
 |none=>K env
theorem nM {env:List bO} {d:Option Nat} {ch:List (Nat×Bool)} {g:Option Bool} {v:A2} {K:List bO->Prop}:xC env d ch g v K=K (mj env d ch g v):=by cases d<;>rfl
def jF:List bO->(List bO->Prop)->Prop
 |[],K=>K []
 |⟨t,ch,g,v,k⟩::r,K=>jF r (λr=>K (⟨t,ch,g,v,k⟩::r))
theorem jL: ∀{l:List bO} {K:List bO->Prop},jF l K=K l
 |[], _=>rfl
 |⟨_, _, _, _, _⟩::r,K=>by simp only[jF];exact jL
def UC (ops:Array Oper) (t:Nat):Option Nat:=(B2 ops.size).find? λj=>dE ops j==some t
def bF (w:A1) (r:Nat) (es:Array DA) (a:Nat):Prop:=w.heap[r]? =some (.map es a)
def jU (w:A1) (p:Option Nat) (k:Ar) (n:Int) (z v:A2):Prop:=
 ∃r es a,p=some r/\bF w r es a/\match F6 (.int k) (.int k n) es.toList 0 with
  |some none=>v=z
  |some (some (_,u))=>v=u
  |none=>False
def mr (w:A1) (p:Option Nat) (k:Ar) (n:Int) (z v:A2) (b:Bool):Prop:=
 ∃r es a,p=some r/\bF w r es a/\match F6 (.int k) (.int k n) es.toList 0 with
  |some none=>v=z/\b=false
  |some (some (_,u))=>v=u/\b=true
  |none=>False
def gX (w:A1) (r:Nat) (k:Ar) (n:Int) (val:A2) (es:Array DA) (a:Nat) (K:A1->Prop):Prop:=
 match F6 (.int k) (.int k n) es.toList 0 with
 |some none=>K (w.putObj r (.map (es.push {key:= .int k n,val,born:=a}) (a+1)))
 |some (some (i, _))=>K (w.putObj r (.map (es.modify i λe=>{e with key:= .int k n,val}) a))
 |none=>False
def AD (w:A1) (r:Nat) (k:Ar) (n:Int) (es:Array DA) (a:Nat) (K:A1->Prop):Prop:=
 match F6 (.int k) (.int k n) es.toList 0 with
 |some none=>K (w.putObj r (.map es a))
 |some (some (i, _))=>K (w.putObj r (.map (es.eraseIdxIfInBounds i) a))
 |none=>False
def RgP (w:A1) (p:Option Nat) (K:Nat->A1->Prop):Prop:= ∀w1,Ext w w1-> ∃r es a,p=some r/\bF w1 r es a/\K w1.heap.size (w1.alloc (.mapIter (some r) a #[] a))
def NxP (w:A1) (p:Option AL) (f:A1->Prop) (g:A2->A2->A1->Prop):Prop:= ∀w1,Ext w w1-> ∃(r m b:Nat) (seen:Array Nat) (c:Nat) (es:Array DA) (d:Nat),p=some ⟨r,0,none⟩/\w1.heap[r]? =some (.mapIter (some m) b seen c)/\bF w1 m es d/\b<=c/\(∀e∈es.toList,e.born<b)/\
 ((∀e∈es.toList,seen.contains e.born=true)-> ∀a,Ext w1 a->f a)/\
 ∀e∈es.toList,seen.contains e.born=false-> ∀a,Ext w1 a->g e.key e.val (a.putObj r (.mapIter (some m) b (seen.push e.born) d))
def AE (w:A1) (p:Option AL) (k v:A2):Prop:= ∃(r m b:Nat) (seen:Array Nat) (es:Array DA) (a:Nat) (e:DA),p=some ⟨r,0,none⟩/\w.heap[r]? =some (.mapIter (some m) b (seen.push e.born) a)/\bF w m es a/\e∈es.toList/\(es.toList.map (·.born)).Nodup/\k=e.key/\v=e.val
def Uo (w:A1) (p:Option Nat) (n:Nat):Prop:= ∃r es a,p=some r/\bF w r es a/\n=es.size
def ChO (w:A1) (r cap:Nat) (a:List A2) (s n:Nat):Prop:=w.heap[r]? =some (.chan cap ⟨a⟩ false s n false)
def ChL (w:A1) (p:Option Nat) (n:Nat):Prop:= ∃r cap a s m,p=some r/\ChO w r cap a s m/\n=a.length
def XY (w:A1) (p q:Option AL):Prop:= ∀a b,p=some a->q=some b->a≠b->(∃c t,w.heap[a.block]? =some (.cells c t (0,0)))/\ ∃c t,w.heap[b.block]? =some (.cells c t (0,0))
def xW (P:AP) (ρ:Operand->Option A2) (c:Call):Option (Option Nat):=match c.args.toList,c.argTypes.toList with
 |[x],[t]=>match P.underlying t,ρ x with
  |some (.chan _ _),some (.chan p)=>some p
  | _, _=>none
 | _, _=>none
def CK (P:AP) (ρ:Operand->Option A2):Op->Option (Option AL×Option AL)
 | .binOp .eql t x y _=>match P.underlying t,ρ x,ρ y with
   |some (.pointer e),some (.pointer p),some (.pointer q)=>match P.info? e with
    |some i=>if i.size=0 then none else some (p,q)
    |none=>none
   | _, _, _=>none
 | _=>none
def Xw (P:AP) (ops:Array Oper) (d i:Nat):Option El:=match ops.toList.find? λo=>match o.op with
 | .extract (.tmp t) j=>t==d&&j==i
 | _=>false with
 |some o=>vd P o.type
 |none=>none
def CL (P:AP) (ρ:Operand->Option A2) (c:Call):Option (Option Nat):=match c.args.toList,c.argTypes.toList with
 |[x],[t]=>match P.underlying t,ρ x with
  |some (.map _ _),some (.map p)=>some p
  | _, _=>none
 | _, _=>none
def oT {P:AP} (C:dJ P) (ops:Array Oper) (env:List bO) (ch:List (Nat×Bool)) (g:Option Bool) (o:Oper) (w:A1) (K:A2->Prop):Prop:=
 let ρ:=yl env ch
 match o.op with
 | .load t x=>match ρ x,elC C t,P.info? t with
   |some (.pointer p),some el,some i=>if qf el i.size=true then dz 1 o.op else aj w g p el (λx=>K (el.gO x))
   | _, _, _=>dz 2 o.op
 | .lookup D m ix ok=>match ok,P.underlying D,ρ m,ρ ix with
   |false,some (.map s r),some (.map p),some (.int k n)=>match P.underlying s,vd P r,P.info? r with
    |some (.int A),some el,some i=>match i.zero with
     |some z=>if k=A then∃x:el.T,gF g (jU w p k n z (el.gO x))/\K (el.gO x) else dz 51 o.op
     |none=>dz 52 o.op
    | _, _, _=>dz 53 o.op
   |true,some (.map s r),some (.map p),some (.int k n)=>match P.underlying s,vd P r,P.info? r with
    |some (.int A),some el,some i=>match i.zero with
     |some z=>if k=A then∃x:el.T, ∃b:Bool,gF g (mr w p k n z (el.gO x) b)/\K (.tuple ⟨[el.gO x,.bool b]⟩) else dz 51 o.op
     |none=>dz 52 o.op
    | _, _, _=>dz 53 o.op
   | _, _, _, _=>dz 54 o.op
 | .pick c x y=>match c with
   | .tmp t=>match bX env t with
     |some E=>match E.k with
      |some true=>match ρ x with
       |some v=>K v
       |none=>dz 31 o.op
      |some false=>match ρ y with
       |some v=>K v
       |none=>dz 32 o.op
      |none=>match UC ops t with
       |some j=>match ρ c,yl env ((j,true)::ch) x,yl env ((j,false)::ch) y with
        |some (.bool b),some (.bool u),some (.bool v)=>match x,y with
         | _,.const (.bool false)=>K (.bool (b&&u))
         | .const (.bool true), _=>K (.bool (b||v))
         | _, _=>K (.bool (bif b then u else v))
        | _, _, _=>dz 3 o.op
       |none=>dz 4 o.op
     |none=>dz 33 o.op
   | _=>dz 5 o.op
 | .entry F=>match ρ F,o.dst with
   |some (.pointer p),some d=>match Xw P ops d 0,Xw P ops d 1 with
    |some a,none=> ∃x:a.T, ∃v:A2,gF g (AE w p (a.gO x) v)/\K (.tuple ⟨[a.gO x,v]⟩)
    |some a,some h=> ∃x:a.T, ∃y:h.T,gF g (AE w p (a.gO x) (h.gO y))/\K (.tuple ⟨[a.gO x,h.gO y]⟩)
    |none,some h=> ∃v:A2, ∃y:h.T,gF g (AE w p v (h.gO y))/\K (.tuple ⟨[v,h.gO y]⟩)
    |none,none=>dz 71 o.op
   | _, _=>dz 72 o.op
 | .call c=>match c.callee with
   | .builtin .len=>match CL P ρ c with
     |some p=> ∃n:Nat,gF g (Uo w p n)/\K (.int .i64 n)
     |none=>match xW P ρ c with
      |some p=> ∃n:Nat,gF g (ChL w p n)/\K (.int .i64 n)
      |none=>match pop P ρ o with
       |some ⟨none,v⟩=>K v
       |some ⟨some p,v⟩=>gF g p/\K v
       |none=>dz 9 o.op
   | .value f=>match ρ f,maps ρ c.args.toList with
     |some (.func (.func l) first cap),some B=>
      if bJ P l=true then
       match yC C.sW l with
       |some e=>match e.fn (cY first B cap) with
        |some (pre,v)=>gF g pre/\K v
        |none=>dz 6 o.op
       |none=> ∃x:(u9 C l).T,gF g (ae P l (cY first B cap) w ((u9 C l).gO x))/\K ((u9 C l).gO x)
      else dz 7 o.op
     | _, _=>dz 8 o.op
   | _=>match pop P ρ o with
     |some ⟨none,v⟩=>K v
     |some ⟨some p,v⟩=>gF g p/\K v
     |none=>dz 9 o.op
 | .binOp .. =>match pop P ρ o with
   |some ⟨none,v⟩=>K v
   |some ⟨some p,v⟩=>gF g p/\K v
   |none=>match CK P ρ o.op with
    |some (p,q)=>gF g (XY w p q)/\K (.bool (decide (p=q)))
    |none=>dz 10 o.op
 | _=>match pop P ρ o with
   |some ⟨none,v⟩=>K v
   |some ⟨some p,v⟩=>gF g p/\K v
   |none=>dz 10 o.op
def YQ (P:AP) (e:AM):Array A2:=match P.info? e with
 |some i=>match i.zero with
  |some z=>z.cells
  |none=> #[]
 |none=> #[]
def vo (v:A2):List A2:=v.cells.toList
def Es (vs:List A2):Bool:=vs.all (·.oneCell')
def eop {P:AP} (C:dJ P) (ρ:Operand->Option A2) (o:Oper) (w:A1) (K:A2->A1->Prop):Prop:=
 match o.op with
 | .store t x y=>match ρ x,ρ y,P.info? t with
   |some (.pointer p),some v,some i=>if(vo v).length=i.size then
     aC w p (vo v) (λa=>K undef a)
    else dz 11 o.op
   | _, _, _=>dz 12 o.op
 | .alloc e=>match P.info? e with
   |some i=>match i.zero with
    |some z=>match Ek 64 i.size with
     |true=>aN w (YQ P e) e (λb a=>K (.pointer (some ⟨b,0,none⟩)) a)
     |false=>aN w z.cells e (λb a=>K (.pointer (some ⟨b,0,none⟩)) a)
    |none=>dz 13 o.op
   |none=>dz 14 o.op
 | .box e x=>match ρ x with
   |some v=>aN w v.cells e (λb a=>K (.pointer (some ⟨b,0,none⟩)) a)
   |none=>dz 15 o.op
 | .buildSlice t len parts=>match P.underlying t,A5 ρ parts.toList with
   |some (.slice e),some ps=>match P.info? e with
    |some i=>match i.zero with
     |some z=>match A6 (λk=>some (k*i.size,i.size)) ⟨(B2 (len*i.size)).map (z.cells.toList[· % z.cells.toList.length]!)⟩ ps with
      |some cs=>if len*i.size<=2 ^ 24 then aN w cs e (λb a=>K (.slice (some ⟨b,0,none⟩) len len) a) else dz 101 o.op
      |none=>dz 102 o.op
     |none=>dz 103 o.op
    |none=>dz 104 o.op
   | _, _=>dz 105 o.op
 | .makeSlice t l c=>match P.underlying t,ρ l,ρ c with
   |some (.slice e),some (.int _ n),some (.int _ m)=>match P.info? e with
    |some i=>match i.zero with
     |some z=>N8 w i.bytes i.size n m z.cells e (λb a=>K (.slice (some ⟨b,0,none⟩) n.toNat m.toNat) a)
     |none=>dz 106 o.op
    |none=>dz 107 o.op
   | _, _, _=>dz 108 o.op
 | .mapUpdate t m x v=>match P.underlying t,ρ m,ρ x,ρ v with
   |some (.map g _),some (.map p),some (.int k n),some val=>match P.underlying g with
    |some (.int h)=>if k=h then∀w1,Ext w w1-> ∃r es d,p=some r/\bF w1 r es d/\gX w1 r k n val es d (λa=>K undef a) else dz 55 o.op
    | _=>dz 56 o.op
   | _, _, _, _=>dz 57 o.op
 | .insert t m x v=>match P.underlying t,ρ m,ρ x,ρ v with
   |some (.map g _),some (.map p),some (.int k n),some val=>match P.underlying g with
    |some (.int h)=>if k=h then∀w1,Ext w w1-> ∃r es d,p=some r/\bF w1 r es d/\gX w1 r k n val es d (λa=>K undef a) else dz 55 o.op
    | _=>dz 56 o.op
   | _, _, _, _=>dz 57 o.op
 | .makeMap _ r=>match r with
   |none=> ∀w1,Ext w w1->K (.map (some w1.heap.size)) (w1.alloc (.map #[] 0))
   |some _=>dz 109 o.op
 | .makeChan t s=>match P.underlying t,ρ s with
   |some (.chan _ e),some (.int _ n)=>match P.info? e with
    |some i=>if 0<=n/\n<=2 ^ 32/\i.bytes*n<=2 ^ 47 then∀w1,Ext w w1->K (.chan (some w1.heap.size)) (w1.alloc (.chan n.toNat #[] false 0 0 false)) else dz 118 o.op
    |none=>dz 119 o.op
   | _, _=>dz 120 o.op
 | .range B x=>match P.underlying B,ρ x with
   |some (.map _ _),some (.map p)=>RgP w p (λb a=>K (.pointer (some ⟨b,0,none⟩)) a)
   | _, _=>dz 73 o.op
 | .next D b=>match b,ρ D with
   |false,some (.pointer p)=>NxP w p (λa=>K (.tuple ⟨[.bool false]⟩) a) (λk v a=>K (.tuple ⟨[.bool true,k,v]⟩) a)
   | _, _=>dz 74 o.op
 | .call c=>match c.callee with
   | .builtin .delete=>match c.args.toList,c.argTypes.toList with
     |[m,x],[t, _]=>match P.underlying t,ρ m,ρ x with
      |some (.map g _),some (.map p),some (.int k n)=>match P.underlying g with
       |some (.int h)=>if k=h then∀w1,Ext w w1-> ∃r es d,p=some r/\bF w1 r es d/\AD w1 r k n es d (λa=>K (.tuple ⟨[]⟩) a) else dz 75 o.op
       | _=>dz 76 o.op
      | _, _, _=>dz 77 o.op
     | _, _=>dz 78 o.op
   | .builtin .append=>match c.args.toList,c.argTypes.toList with
     |[s,x],[t,u]=>match P.underlying t,P.underlying u,ρ s,ρ x with
      |some (.slice e),some (.slice _),some (.slice p n m),some (.slice q k l)=>match P.info? e with
       |some i=>match i.zero with
        |some z=>if i.bytes=0 then dz 110 o.op else∀w1,Ext w w1->mF w1 e i.size i.bytes z.cells (p,n,m) (q,k,l) (λr a=>K (.slice r.1 r.2.1 r.2.2) a)
        |none=>dz 111 o.op
       |none=>dz 112 o.op
      | _, _, _, _=>dz 113 o.op
     | _, _=>dz 114 o.op
   | .builtin .copy=>match c.args.toList,c.argTypes.toList with
     |[s,x],[t, _]=>match P.underlying t,ρ s,ρ x with
      |some (.slice e),some (.slice p n _),some (.slice q k _)=>match P.info? e with
       |some i=> ∀w1,Ext w w1->cpR w1 i.size (p,n) (q,k) (λr a=>K (.int .i64 r) a)
       |none=>dz 115 o.op
      | _, _, _=>dz 116 o.op
     | _, _=>dz 117 o.op
   | .value f=>match C.dyn,f with
    |some s,.tmp t=>match ρ (.tmp t),maps ρ c.args.toList with
     |some v,some j=>Ak P v s j w (λx a=>K (s.gO x) a)
     | _, _=>dz 70 o.op
    | _, _=>match ρ f,maps ρ c.args.toList with
     |some (.func (.yield l) first _),some j=> ∀w1,Ext w w1->mq P l (first.toList++j) w1 (λb a=>K (.bool b) a)
     |some (.func (.func A) first cap),some j=>
      if bJ P A=true then
       az P A (u9 C A) (cY first j cap) w (λx a=>K ((u9 C A).gO x) a)
      else dz 16 o.op
     | _, _=>dz 17 o.op
   | _=>dz 18 o.op
 | _=>dz 19 o.op
def aI (b:Bool) (x y:Prop):Prop:=match b with
 |true=>x
 |false=>y
theorem ab {b:Bool} {x y:Prop} (a:b=true->x) (c:b=false->y):aI b x y:=by
 cases b
 ·exact c rfl
 ·exact a rfl
theorem Et {b:Bool} {x y:Prop} (h:aI b x y) (e:b=true):x:=by subst e;exact h
theorem Bj {b:Bool} {x y:Prop} (h:aI b x y) (e:b=false):y:=by subst e;exact h
def ON {P:AP} (C:dJ P) (ρ:Operand->Option A2) (o:Oper):Bool:=
 match o.op with
 | .store .. | .alloc _| .box .. | .buildSlice .. | .makeSlice .. | .makeMap .. | .makeChan .. | .mapUpdate .. | .insert .. | .range .. | .next .. =>true
 | .call c=>match c.callee with
   | .value f=>match C.dyn,f with
    |some _,.tmp _=>true
    | _, _=>match ρ f with
     |some (.func (.func a) _ _)=> !((yC C.sW a).isSome||C.quiet.contains a)
     | _=>true
   | .builtin .append=>true
   | .builtin .copy=>true
   | .builtin .delete=>true
   | _=>false
 | _=>false
def Zr:Op->Bool
 | .binOp .. =>true
 | .convert .. =>true
 | .call _=>true
 | _=>false
def yU {P:AP} (C:dJ P) (o:Oper) (v:A2) (K:A2->Prop):Prop:=
 match C.v7&&Zr o.op,v with
 |true,.int k e=> ∀x,x=e->K (.int k x)
 | _, _=>K v
theorem sy {P:AP} {C:dJ P} {o:Oper} {v:A2} {K:A2->Prop} (h:yU C o v K):K v:=by
 unfold yU at h
 grind
def Ou {P:AP} (C:dJ P) (ops:Array Oper) (N:Nat) (o:Oper):Nat->List bO->A1->(List bO->A1->Prop)->Prop
 |0, _, _, _=>dz 20 o.op
 |n+1,env,w,K=>match gd ops env o with
  |none=>dz 21 o.op
  |some none=>if pf ops N env [] o.dst then xC env o.dst [] none undef (λenv=>K env w) else dz 25 o.op
  |some (some (ch,g))=>
   if pf ops N env ch o.dst then
    if ON C (yl env ch) o then
     match ch.getLast? with
     |none=>eop C (yl env []) o w (λv a=>xC env o.dst [] none v (λenv=>K env a))
     |some (j, _)=>match dE ops j with
      |some d=>match bX env d with
       |some e=>match e.v with
        | .bool x=>if e.ch.isEmpty then
           aI x (jF (env.map (settle j true)) λenv=>Ou C ops N o n (⟨d,[],none,.bool true,some true⟩::env) w K)
            (jF (env.map (settle j false)) λenv=>Ou C ops N o n (⟨d,[],none,.bool false,some false⟩::env) w K)
          else dz 22 o.op
        | _=>dz 26 o.op
       |none=>dz 27 o.op
      |none=>dz 28 o.op
    else oT C ops env ch g o w (λv=>yU C o v (λv=>xC env o.dst ch g v (λenv=>K env w)))
   else dz 24 o.op
def F_ {P:AP} (C:dJ P) (ops:Array Oper) (N:Nat) (i:Nat) (env:List bO) (w:A1) (K:List bO->A1->Prop):Prop:=
 match ops[i]? with
 |none=>False
 |some ⟨dst,op,type,pos,after,guard⟩=>Ou C ops N ⟨dst,op,type,pos,after,guard⟩ 40 env w K
def rxL {P:AP} (C:dJ P) (ops:Array Oper) (N:Nat):List Nat->List bO->A1->(List bO->A1->Prop)->Prop
 |[],env,w,K=>K env w
 |i::r,env,w,K=>F_ C ops N i env w (λenv w=>rxL C ops N r env w K)
def j_ (ops:Array Oper) (tmps:Array A2) (ch:List (Nat×Bool)):Prop:= ∀x∈ch,yielded ops tmps x.1=some x.2
def TU (ops:Array Oper) (tmps:Array A2) (ch:List (Nat×Bool)):Option Bool->Prop
 |none=>ch=[]
 |some γ=>ch≠[]/\(γ=true<->j_ ops tmps ch)
structure Fit (S:Nat->Option (Option A2)) (ops:Array Oper) (N:Nat) (D:List Deferred) (env:List bO) (a:Act):Prop where
 off: ∀t x,S t=some x->a.tmps[t]? =x
 size:a.tmps.size=N
 qL:a.defers=D
 yes: ∀t e,bX env t=some e->j_ ops a.tmps e.ch->a.tmps[t]? =some e.v
 no: ∀t e,bX env t=some e-> ¬ j_ ops a.tmps e.ch->a.tmps[t]? =some undef
 FR: ∀e∈env,TU ops a.tmps e.ch e.g
 Cd: ∀e∈env, ∀b,e.k=some b->e.v= .bool b/\e.ch=[]
theorem bU: ∀{env:List bO} {t:Nat} {e:bO},bX env t=some e->e∈env
 |x::r,t,e,h=>by
  simp[bX] at h;split at h
  grind
  ·exact N7 _ (bU h)
theorem UD {a b:List (Nat×Bool)} (h:YP a b=true) {ops:Array Oper} {tmps:Array A2} (hb:j_ ops tmps b):j_ ops tmps a:=λx c=>by
 simp only[YP,DZ] at h;exact hb x (by grind)
variable {S:Nat->Option (Option A2)} {ops:Array Oper} {N:Nat} {D:List Deferred} {env:List bO} {a:Act}
theorem Fit.ev (h:Fit S ops N D env a) {ch:List (Nat×Bool)} (hc:j_ ops a.tmps ch) {x:Operand} {v:A2} (b:yl env ch x=some v):a.eval x=v:=by
 cases x with
 |tmp t=>
  simp[yl] at b;split at b
  ·rename_i c;split at b
   ·rename_i d;cases b;have:=h.yes t _ c (UD d hc);simp[FY,this]
   grind
  grind
 |const
 |global g
 |func=>simp[yl] at b;simp[FY,b]
theorem Fp {j:Nat} {d:Option Nat} {u:A2} (h: ∀k,d=some k->dE ops j≠some k):yielded ops (a.put d u).tmps j=yielded ops a.tmps j:=by
 cases d with
 |none=>rfl
 |some k=>
  have b:=h k rfl;unfold yielded;unfold dE at b;cases f:ops[j]?.bind _ with
  |none=>rfl
  |some t=>
   have c:k≠t:=λe=>b (by grind);simp[CD,DD c]
theorem Jc {ch:List (Nat×Bool)} {d:Option Nat} {u:A2} (h: ∀k,d=some k->ch.all (λx=>dE ops x.1 != some k)=true):j_ ops (a.put d u).tmps ch<->j_ ops a.tmps ch:=by
 have: ∀x∈ch,yielded ops (a.put d u).tmps _=yielded ops _ x.1:=λx b=>Fp (by grind);constructor
 ·intro c x b;rw[<-this x b];exact c x b
 ·intro c x b;rw[this x b];exact c x b
theorem Fit.put (h:Fit S ops N D env a) {ch:List (Nat×Bool)} {g:Option Bool} {d:Option Nat} {v u:A2} (m:pf ops N env ch d=true) (w: ∀k,d=some k->S k=none)
 (o:TU ops a.tmps ch g) (h1:j_ ops a.tmps ch->u=v) (h0: ¬ j_ ops a.tmps ch->u=undef):Fit S ops N D (mj env d ch g v) (a.put d u):=by
 cases d with
 |none=>exact h
 |some k=>
  simp only[pf,B4,decide_eq_true_eq] at m;obtain⟨⟨p,hc⟩,y⟩:=m;have c0:j_ ops (a.put (some k) u).tmps ch<->j_ ops a.tmps ch:=Jc (by grind);have c1: ∀e∈env,(j_ ops (a.put (some k) u).tmps e.ch<->j_ ops a.tmps e.ch):=λe hm=>Jc (by grind);have n:k<a.tmps.size:=by rw[h.size];exact p
  refine⟨λt x q=>?_,by simp[CD,h.size],h.qL,?_,?_,?_,?_⟩
  ·have r:k≠t:=λe=>by grind
   simp[CD,DD r,h.off t x q]
  ·intro t e c i;simp only[mj,bX] at c;split at c
   ·rename_i f;cases c;subst f;simp[CD,n,h1 (c0.1 i)]
   ·rename_i f;have:=h.yes t e c ((c1 e (bU c)).1 i);simp[CD,DD f,this]
  ·intro t e c i;simp only[mj,bX] at c;split at c
   ·rename_i f;cases c;subst f;simp[CD,n,h0 (λj=>i (c0.2 j))]
   ·rename_i f;have:=h.no t e c (λj=>i ((c1 e (bU c)).2 j));simp[CD,DD f,this]
  ·intro e hm;have key: ∀(ch) (g:Option Bool),(j_ ops (a.put (some k) u).tmps ch<->j_ ops a.tmps ch)->TU ops a.tmps ch g->TU ops (a.put (some k) u).tmps ch g:=by
    intro ch g s l;cases g with
    |none=>exact l
    |some γ=>exact⟨l.1,l.2.trans s.symm⟩
   simp only[mj,CF] at hm;rcases hm with rfl|hm
   ·exact key _ _ c0 o
   ·exact key _ _ (c1 e hm) (h.FR e hm)
  ·intro e hm b hb;simp only[mj,CF] at hm;rcases hm with rfl|hm
   ·cases hb
   ·exact h.Cd e hm b hb
def yV:A2->Option Bool
 | .bool b=>some b
 | _=>none
theorem lF {j d:Nat} (b:dE ops j=some d) {v:A2} (hv:a.tmps[d]? =some v):yielded ops a.tmps j=yV v:=by
 unfold yielded;unfold dE at b
 simp_all
 cases v<;>rfl
theorem eJ:j_ ops a.tmps []:=λb=>by simp
theorem OO (h:Fit S ops N D env a) {o:Oper} {ch:List (Nat×Bool)} {g:Option Bool} (c:gd ops env o=some (some (ch,g))):
 TU ops a.tmps ch g/\(B5 o (yielded ops a.tmps)=true<->j_ ops a.tmps ch):=by
 unfold gd at c;unfold B5;split at c
 ·rename_i l;cases c;exact⟨rfl,by simp[j_,l]⟩
 ·rename_i j b l;split at c
  ·rename_i d p;split at c
   ·rename_i e f;split at c
    ·rename_i t u;obtain⟨hv,i⟩:=h.Cd e (bU f) t u;have r:=lF (a:=a) p (h.yes d e f (by rw[i];exact eJ));rw[hv] at r;split at c
     ·rename_i hb;cases c;refine⟨rfl,?_⟩;simp[l,r,yV,hb,j_]
     ·cases c
    ·split at c
     ·rename_i x v;cases c;have q:(yielded ops a.tmps j=some b)<->j_ ops a.tmps e.ch/\x=b:=by
       by_cases hc:j_ ops a.tmps e.ch
       ·have h1:=h.yes d e f hc;rw[lF (a:=a) p h1,v];simp[yV,hc]
       ·have h1:=h.no d e f hc;rw[lF (a:=a) p h1];simp[undef,yV,hc]
      have i:j_ ops a.tmps ((j,b)::e.ch)<->yielded ops a.tmps j=some b:=by
       constructor
       ·intro m;exact m (j,b) I1
       ·intro m y k;rcases CF.1 k with rfl|k
        ·exact m
        ·exact(q.1 m).1 y k
      refine⟨?_,?_⟩
      ·have n:=h.FR e (bU f);cases s:e.g with
       |none=>
        rw[s] at n;have w:j_ ops a.tmps e.ch:=by rw[show e.ch=[] from n];intro y k;cases k
        refine⟨by simp,?_⟩;rw[i,q];cases b<;>simp[w,lit]
       |some γ=>
        rw[s] at n;refine⟨by simp,?_⟩;rw[i,q, <-n.2];cases b<;>simp[lit]
      ·rw[i];simp[l]
     ·cases c
   ·cases c
  ·cases c
theorem CX (h:Fit S ops N D env a) {o:Oper} (c:gd ops env o=some none):B5 o (yielded ops a.tmps)=false:=by
 unfold gd at c;unfold B5;split at c
 ·cases c
 ·rename_i j b m;split at c
  ·rename_i d g;split at c
   ·rename_i e f;split at c
    ·rename_i i k;obtain⟨hv,l⟩:=h.Cd e (bU f) i k;have n:=lF g (h.yes d e f (by rw[l];exact eJ))
     grind[yV]
    grind
   ·cases c
  ·cases c
theorem vy {f:bO->bO} (a: ∀e,(f e).t=e.t): ∀{l:List bO} {t:Nat} {e:bO},bX (l.map f) t=some e-> ∃b,bX l t=some b/\e=f b
 |x::r,t,e,h=>by
  simp[bX,a] at h ⊢;split at h
  grind
  ·rename_i c;rw[if_neg c];exact vy a h
theorem Eu (j:Nat) (b:Bool) (e:bO):(settle j b e).t=e.t:=by
 grind[settle]
theorem vz {j:Nat} {b:Bool} (m:yielded ops a.tmps j=some b) (e:bO) (f:TU ops a.tmps e.ch e.g):
 TU ops a.tmps (settle j b e).ch (settle j b e).g/\(j_ ops a.tmps e.ch->j_ ops a.tmps (settle j b e).ch/\(settle j b e).v=e.v)/\(¬ j_ ops a.tmps e.ch->(¬ j_ ops a.tmps (settle j b e).ch\/(settle j b e).v=undef))/\
 (¬ j_ ops a.tmps (settle j b e).ch-> ¬ j_ ops a.tmps e.ch):=by
 unfold settle;split
 ·rename_i hc;have n: ¬ j_ ops a.tmps e.ch:=λd=>by
   have:=d (j, !b)
   grind
  exact⟨rfl,λd=>absurd d n,λ_=> .inr rfl,λd=>absurd eJ d⟩
 ·split
  ·rename_i p hc;have h:j_ ops a.tmps e.ch<->j_ ops a.tmps (e.ch.filter (λx=>x != (j,b))):=by
    constructor
    ·intro d x k;exact d x (Bx.1 k).1
    ·intro d x k;by_cases o:x=(j,b)
     ·rw[o];exact m
     ·exact d x (by grind)
   split
   ·rename_i i;rw[i] at h;exact⟨rfl,λ_=>⟨eJ,rfl⟩,by grind,λd=>absurd eJ d⟩
   ·rename_i c r i;rw[i] at h
    simp_all
    cases l:e.g with
    |none=>rw[l] at f;have:e.ch=[]:=f;rw[this] at hc;simp at hc
    |some γ=>rw[l] at f;exact⟨by simp,f.2.trans h⟩
  grind
theorem Fit.settle (h:Fit S ops N D env a) {j d:Nat} {b:Bool} {e:bO} (n:dE ops j=some d) (o:bX env d=some e) (p:e.ch=[]) (hv:e.v= .bool b):
 Fit S ops N D (⟨d,[],none,.bool b,some b⟩::env.map (settle j b)) a:=by
 have h1:=h.yes d e o (by rw[p];exact eJ);have k:=lF (a:=a) n h1;rw[hv] at k;refine⟨h.off,h.size,h.qL,?_,?_,?_,?_⟩
 ·intro t l g hc;simp only[bX] at g;split at g
  grind
  ·obtain⟨c,f,rfl⟩:=vy (Eu j b) g;obtain⟨_,s1,w, _⟩:=vz (a:=a) k c (h.FR c (bU f));by_cases m:j_ ops a.tmps c.ch
   ·rw[h.yes t c f m,(s1 m).2]
   ·rw[h.no t c f m]
    grind
 ·intro t l g hc;simp only[bX] at g;split at g
  ·cases g;exact absurd eJ hc
  ·obtain⟨c,f,rfl⟩:=vy (Eu j b) g;obtain⟨_, _, _,q⟩:=vz (a:=a) k c (h.FR c (bU f));exact h.no t c f (q hc)
 ·intro l hm;rcases CF.1 hm with rfl|hm
  ·exact rfl
  ·obtain⟨c,f,rfl⟩:=GI.1 hm;exact(vz (a:=a) k c (h.FR c f)).1
 ·intro l hm r i;rcases CF.1 hm with rfl|hm
  grind
  ·obtain⟨c,f,rfl⟩:=GI.1 hm;unfold RX.settle at i ⊢;split at i
   ·cases i
   ·rename_i s;rw[if_neg s];split at i
    grind
    ·rename_i u;rw[if_neg u];exact h.Cd c f r i
variable {P:AP}
def dt (P:AP) (o:Oper) (a:Act) (w:A1) (v:A2):Prop:=
 match (execOp a.eval o).run P w with
 | .ok (.value u) w'=>w'=w/\u=v
 | .ok (.enter f args) w'=>w'=w/\Calls P f args w (λe b=>e= .returned v/\Ext w b)
 | _=>False
theorem bN {o:Oper} {a:Act} {w:A1} {v:A2} (h:(execOp a.eval o).run P w= .ok (.value v) w):dt P o a w v:=by
 grind[dt]
theorem cD: ∀(l:List Sc) (x:iA l),(a_ l x).length=l.length
 |[], _=>rfl
 | _::r,x=>by simp[a_,cD]
theorem wC {w:A1} {a:AL} {v:A2} (h:w.cell? a=some v):(load a).run P w= .ok v w:=by simp[h]
theorem run_loadCellsFrom {w:A1} {a:AL}: ∀(vs:List A2) (k:Nat) (b:Array A2),(∀i,i<vs.length->w.cell? (a.add (k+i))=vs[i]?)->
 (loadCellsFrom a k vs.length b).run P w= .ok (b++vs.toArray) w
 |[],k,b, _=>by rfl
 |v::vs,k,b,h=>by
  have h0:=by simpa using h 0
  have c:=run_loadCellsFrom vs _ (b.push v) λi hi=>by
   have:=h (i+1) (by grind);rw[show k+1+i=k+(i+1) by omega,this];rfl
  simp only[LL,loadCellsFrom,AY,wC h0,Am,c];simp
theorem pL {w w':A1} (h:Ext w w') {p:Option AL} {el:El} {x:el.T} (c:cC w p el x):cC w' p el x:=by
 cases el with
 |one=>obtain⟨a,b,hc⟩:=c;exact⟨a,b,h.cell hc⟩
 |agg l=>
  obtain⟨a,b,hc⟩:=c;refine⟨a,b,λi hi=>?_⟩;have h1:=hc i hi;have d:i<(a_ l x).length:=by have:=cD l x;omega
  rw[Hr d] at h1 ⊢;exact h.cell h1
theorem tR {w:A1} {a:AL} {t:AM} {el:El} {b:TypeInfo} {x:el.T} (h:vd P t=some el) (hi:P.info? t=some b)
 (f: ¬ qf el b.size=true) (e:cC w (some a) el x):(loadVar t a).run P w= .ok (el.gO x) w:=by
 unfold loadVar;cases el with
 |one s=>
  have c:kj P t=some false:=by
   grind[vd,kj,A4,Option.map_eq_some_iff]
  obtain⟨a',d,hc⟩:=e;cases d;simp only[AY,vx c,Am,Ea,if_false,wC hc];rfl
 |agg l=>
  have c:kj P t=some true:=by
   grind[vd,kj,A4]
  obtain⟨a',d,hc⟩:=e;cases d;have g:l.length=b.size:=by simpa[qf] using f
  have:=run_loadCellsFrom (P:=P) (w:=w) (a:=a) (a_ l x) 0 #[] (by simpa[cD] using hc);rw[cD,g] at this;simp only[AY,vx c,Am,if_true,dv hi,loadCells,this];simp[El.gO]
theorem UE {C:dJ P} {w:A1} {a:AL} {t:AM} {el:El} {c:TypeInfo} {x:el.T} (b:elC C t=some el) (hi:P.info? t=some c)
 (e: ¬ qf el c.size=true) (d:cC w (some a) el x):(loadVar t a).run P w= .ok (el.gO x) w:=by
 unfold elC at b;split at b
 ·rename_i h0;split at b
  ·cases b;have f:=d;exact tR (el:= .one .func) h0 hi ‹_› f
  grind[tR]
 ·exact tR b hi e d
theorem Jd: ∀{l:List (Entry P)} {f:Az} {e:Entry P},yC l f=some e->e.f=f
 |x::r,f,e,h=>by
  simp[yC] at h;split at h
  grind
  ·exact Jd h
theorem iy {g:Option Bool} {p:Prop} {ops:Array Oper} {tmps:Array A2} {ch:List (Nat×Bool)} (h:gF g p) (a:TU ops tmps ch g) (hc:j_ ops tmps ch):p:=by
 cases g with
 |none=>exact h
 |some=>exact h (a.2.2 hc)
theorem uv {f:Az} {args:Array A2} {w:A1}
 (h:bJ P f=true):
 (callFunc f args).run P w= .ok (.enter f args) w:=by
 unfold callFunc;unfold bJ at h;cases a:P.funcs[f]? with
 |none=>simp[a] at h
 |some fn=>
  simp_all
  grind[fg]
theorem tS {ev:Operand->A2} {dst:Option Nat} {type:AM} {pos:String} {after:Array Edge} {guard:Option (Nat×Bool)} {f:Operand} {args:Array Operand} {ts:Array AM}
 {a:Az} {first cap:Array A2} {b:List A2} (c:ev f= .func (.func a) first cap) (d:args.toList.map ev=b) {w:A1}
 (h:bJ P a=true):
 (execOp ev ⟨dst,.call ⟨.value f,args,ts⟩,type,pos,after,guard⟩).run P w= .ok (.enter a ⟨cY first b cap⟩) w:=by
 have e:first++args.map ev++cap=⟨cY first b cap⟩:=by
  simp_all[cY]
 simp only[execOp,resolve,Deferred.ofValue,c,AY,Ap,Am,invoke];rw[e];exact uv h
variable {S:Nat->Option (Option A2)} {ops:Array Oper} {N:Nat} {D:List Deferred} {env:List bO} {a:Act}
theorem zL {kd:Ar} {n:Int}: ∀(l:List DA) (i0 i:Nat) (v:A2),F6 (.int kd) (.int kd n) l i0=some (some (i,v))->i0<=i/\ ∃e,l[i - i0]? =some e/\e.key= .int kd n/\e.val=v
 |e::es,i0,i,v,h=>by
  unfold F6 at h;split at h
  ·rename_i a;obtain⟨rfl,rfl⟩:=h;simp;cases b:e.key<;>rw[b] at a<;>simp[Instr.sameNow] at a
   grind
  ·obtain:=zL es (i0+1) i v h
   grind
  ·cases h
theorem Bk {t d l:AM} {kd:Ar} {n:Int} {val:A2} {w:A1} {r:Nat} {es:Array DA} {f:Nat} {K:A1->Prop} (g:P.underlying t=some (.map d l)) (a:P.underlying d=some (.int kd)) (hb:bF w r es f)
 (h:gX w r kd n val es f K): ∃j,(Kf t (.map (some r)) (.int kd n) val).run P w= .ok () j/\K j:=by
 have b:=hb;have k:Gq (.int kd) (.int kd n):=by rfl
 unfold gX at h;split at h
 ·rename_i c;refine⟨_,?_,h⟩;simp[Kf,run_underlying g,Cp b,DL a k,DM a c,Gr _ b,DB,FI]
 ·rename_i i v c;obtain⟨_,e,m,o, _⟩:=zL _ _ _ _ c;refine⟨_,?_,h⟩;have p:=by simpa using m
  simp[Kf,run_underlying g,Cp b,DL a k,DM a c,p,o,Instr.keyThatStays,Instr.sameBits,Gr _ b,DB,FI]
 grind
theorem Qh {t d e:AM} {kd:Ar} {n:Int} {w:A1} {p:Option Nat} {i:TypeInfo} {z v:A2} (f:P.underlying t=some (.map d e)) (a:P.underlying d=some (.int kd)) (hi:P.info? e=some i) (l:i.zero=some z)
 (h:jU w p kd n z v):(F7 t (.map p) (.int kd n) false).run P w= .ok v w:=by
 obtain⟨r,es,m,rfl,hb,b⟩:=h;have g:=hb;have k:Gq (.int kd) (.int kd n):=by rfl
 split at b
 ·rename_i c;subst b;simp[F7,run_underlying f,Cp g,DL a k,DM a c,zeroValue,fJ hi,l]
 ·rename_i j u c;subst b;simp[F7,run_underlying f,Cp g,DL a k,DM a c,DB]
 grind
theorem KL {t d e:AM} {kd:Ar} {n:Int} {w:A1} {p:Option Nat} {i:TypeInfo} {z v:A2} {b:Bool} (f:P.underlying t=some (.map d e)) (a:P.underlying d=some (.int kd)) (hi:P.info? e=some i) (l:i.zero=some z)
 (h:mr w p kd n z v b):(F7 t (.map p) (.int kd n) true).run P w= .ok (.tuple ⟨[v,.bool b]⟩) w:=by
 obtain⟨r,es,o,rfl,hb,m⟩:=h;have g:=hb;have k:Gq (.int kd) (.int kd n):=by rfl
 split at m
 ·rename_i c
  simp_all
  simp[F7,run_underlying f,Cp g,DL a k,DM a c,zeroValue,fJ hi,l,DB]
 ·rename_i j u c
  simp_all
  simp[F7,run_underlying f,Cp g,DL a k,DM a c,DB]
 grind
theorem n7 {w:A1} {p:Option AL} {k v:A2} (h:AE w p k v):(Instr.entry (.pointer p)).run P w= .ok (.tuple ⟨[k,v]⟩) w:=by
 obtain⟨r,m,a,seen,es,b,e,rfl,c,hb,d,f,rfl,rfl⟩:=h;exact run_entry_at w r m a seen es b e c hb d f
theorem zb {w w':A1} {p:Option AL} {k v:A2} (a:Ext w w') (h:AE w p k v):AE w' p k v:=by
 obtain⟨r,m,b,seen,es,c,e,h1,d,hb,f⟩:=h;exact⟨r,m,b,seen,es,c,e,h1,a.obj d,a.obj hb,f⟩
theorem Fq {ρ:Operand->Option A2} {c:Call} {p:Option Nat} (h:CL P ρ c=some p): ∃x t a b,c.args= #[x]/\c.argTypes= #[t]/\P.underlying t=some (.map a b)/\ρ x=some (.map p):=by
 unfold CL at h;split at h
 ·rename_i x t f g;split at h
  ·rename_i a b p' d e;cases h;refine⟨x,t,a,b,?_,?_,d,e⟩
   grind
   grind
  grind
 grind
theorem Dk {ρ:Operand->Option A2} {c:Call} {p:Option Nat} (h:xW P ρ c=some p): ∃x t d a,c.args= #[x]/\c.argTypes= #[t]/\P.underlying t=some (.chan d a)/\ρ x=some (.chan p):=by
 unfold xW at h;split at h
 ·rename_i x t g i;split at h
  ·rename_i b a p' e f;cases h;refine⟨x,t,b,a,?_,?_,e,f⟩
   grind
   grind
  grind
 grind
theorem Je {w w':A1} {p q:Option AL} (e:Ext w w') (h:XY w p q):XY w' p q:=λa b h1 f g=>by
 obtain⟨⟨c,t,i⟩,d,u,j⟩:=h a b h1 f g;exact⟨⟨c,t,e.obj i⟩,d,u,e.obj j⟩
theorem Zt {ρ:Operand->Option A2} {ev:Operand->A2} (j: ∀x v,ρ x=some v->ev x=v) {o:Oper} {p q:Option AL} {w:A1} (h:CK P ρ o.op=some (p,q)) (k:XY w p q):
 (execOp ev o).run P w= .ok (.value (.bool (decide (p=q)))) w:=by
 obtain⟨dst,op,type,pos,after,guard⟩:=o;unfold CK at h;simp only at h;split at h
 ·rename_i t x y z;split at h
  ·rename_i e p' A f l m;split at h
   ·rename_i i hi;split at h
    ·cases h
    ·rename_i n;cases h;simp only[execOp,j _ _ l,j _ _ m];cases p with
     |none=>
      cases q with
      |none=>
       have:=eH (P:=P) (w:=w) λd=>nX f d none w;simp[eqGuard,binOp,this]
      |some b=>
       have:=eH (w:=w) λd=>nX f d (some b) w;simp[eqGuard,binOp,this]
     |some a=>
      cases q with
      |none=>
       have:=eH (P:=P) λd=>sw f d (some a) w;simp[eqGuard,binOp,this]
      |some b=>
       by_cases g:a=b
       ·subst g;have:=run_eql_ptr_same w a f hi;simp[eqGuard,this]
       ·obtain⟨⟨c,B,r⟩,d,u,s⟩:=k a b rfl rfl g;have:=run_eql_ptr_other w f hi n g r s;simp[eqGuard,this,g]
   ·cases h
  ·cases h
 ·cases h
theorem yW {C:dJ P} {ch:List (Nat×Bool)} {g:Option Bool} {o:Oper} {w:A1} {K:A2->Prop} (l:Fit S ops N D env a) (G:TU ops a.tmps ch g)
 (h:oT C ops env ch g o w K): ∃v,K v/\(j_ ops a.tmps ch-> ∀w',Ext w w'->dt P o a w' v):=by
 have NV: ∀v,a.eval (.const v)=v:=λ_=>rfl;have pure: ∀(J:PR),pop P (yl env ch) o=some J->(match J.ob with|none=>K J.v|some p=>gF g p/\K J.v)->
  ∃v,K v/\(j_ ops a.tmps ch-> ∀w',Ext w w'->dt P o a w' v):=by
  intro J E i;cases Q:J.ob with
  |none=>
   rw[Q] at i;exact⟨J.v,i,λhc w' _=>bN (Pc (λx v A=>l.ev hc A) NV E (λp L=>by rw[Q] at L;cases L) w')⟩
  |some p=>
   rw[Q] at i;exact⟨J.v,i.2,λhc w' _=>bN (Pc (λx v A=>l.ev hc A) NV E (λp' L=>by rw[Q] at L;cases L;exact iy i.1 G hc) w')⟩
 have R:(match pop P (yl env ch) o with|some ⟨none,v⟩=>K v|some ⟨some p,v⟩=>gF g p/\K v|none=>False)->
  ∃v,K v/\(j_ ops a.tmps ch-> ∀w',Ext w w'->dt P o a w' v):=by
  intro T;split at T
  ·rename_i v E;exact pure ⟨none,v⟩ E T
  ·rename_i p v E;exact pure ⟨some p,v⟩ E T
  ·exact T.elim
 obtain⟨dst,op,type,pos,after,guard⟩:=o;unfold oT at h;cases op with
 |load t x=>
  simp only at h;split at h
  ·rename_i p el ti A H hi;split at h
   ·exact AC h
   ·rename_i hs;obtain⟨x',M,i⟩:=h;refine⟨_,i,λhc w' B=>bN ?_⟩;have TI:=pL B (iy M G hc);have E: ∃a0,p=some a0:=by cases el<;>(obtain⟨a0,h0, _⟩:=TI;exact⟨a0,h0⟩)
    obtain⟨a0,rfl⟩:=E;simp[execOp,Instr.loadAt,l.ev hc A,H5,UE H hi hs TI]
  ·exact AC h
 |lookup xt m ix ok=>
  simp only at h;split at h
  ·rename_i U V p kd n F W X;split at h
   ·rename_i kd' el ti Y H hi;split at h
    ·rename_i z I;split at h
     ·rename_i Z;subst Z;obtain⟨x',M,i⟩:=h;refine⟨_,i,λhc w' B=>bN ?_⟩;have hl:=iy M G hc;have Al:jU w' p kd n z (el.gO x'):=by
       obtain⟨r,es,O,h1,h2,h3⟩:=hl;exact⟨r,es,O,h1,B.obj h2,h3⟩
      simp only[execOp,AY,l.ev hc W,l.ev hc X,Qh F Y hi I Al,Am,Ap]
     ·exact AC h
    ·exact AC h
   ·exact AC h
  ·rename_i U V p kd n F W X;split at h
   ·rename_i kd' el ti Y H hi;split at h
    ·rename_i z I;split at h
     ·rename_i Z;subst Z;obtain⟨x',b',M,i⟩:=h;refine⟨_,i,λhc w' B=>bN ?_⟩;have hl:=iy M G hc;have Al:mr w' p kd n z (el.gO x') b':=by
       obtain⟨r,es,O,h1,h2,h3⟩:=hl;exact⟨r,es,O,h1,B.obj h2,h3⟩
      simp only[execOp,AY,l.ev hc W,l.ev hc X,KL F Y hi I Al,Am,Ap]
     ·exact AC h
    ·exact AC h
   ·exact AC h
  ·exact AC h
 |pick c x y=>
  simp only at h;split at h
  ·rename_i t;split at h
   ·rename_i ec hec;have known: ∀(b:Bool),ec.k=some b->j_ ops a.tmps ch->a.eval (.tmp t)= .bool b:=by
     intro b hb _;obtain⟨hv,qY⟩:=l.Cd ec (bU hec) b hb;have:=l.yes t ec hec (by rw[qY];exact eJ);simp[FY,this,hv]
    split at h
    ·rename_i i;split at h
     ·rename_i v hv;refine⟨v,h,λhc w' _=>bN ?_⟩;have eb:=known true i hc;simp[execOp,eb,l.ev hc hv,asBool]
     ·exact AC h
    ·rename_i i;split at h
     ·rename_i v hv;refine⟨v,h,λhc w' _=>bN ?_⟩;have eb:=known false i hc;simp[execOp,eb,l.ev hc hv,asBool]
     ·exact AC h
    ·split at h
     ·rename_i j hj;have Av:dE ops j=some t:=by
       have:=N9 hj;simpa using this
      have key: ∀(b u v:Bool),yl env ch (.tmp t)=some (.bool b)->yl env ((j,true)::ch) x=some (.bool u)->yl env ((j,false)::ch) y=some (.bool v)->
       ∀w',j_ ops a.tmps ch->dt P ⟨dst,.pick (.tmp t) x y,type,pos,after,guard⟩ a w' (.bool (bif b then u else v)):=by
       intro b u v hb F hv w' hc;refine bN ?_;have eb:=l.ev hc hb;have hyj:yielded ops a.tmps j=some b:=by
        unfold yielded;unfold dE at Av;simp only[Av,Option.bind_some];have:a.tmps[t]? =some (.bool b):=by
         unfold FY at eb;simp only[FX] at eb;cases ht:a.tmps[t]? with
         |none=>rw[ht] at eb;simp[undef] at eb
         |some z=>rw[ht] at eb;simp at eb;rw[eb]
        rw[this]
       cases b with
       |true=>
        have eu:=l.ev (ch:=(j,true)::ch) (λz I=>by
         rcases CF.1 I with rfl|I
         ·exact hyj
         ·exact hc z I) F
        simp[execOp,eb,eu,asBool]
       |false=>
        have eu:=l.ev (ch:=(j,false)::ch) (λz I=>by
         rcases CF.1 I with rfl|I
         ·exact hyj
         ·exact hc z I) hv
        simp[execOp,eb,eu,asBool]
      split at h
      ·rename_i b u v hb F hv;split at h
       ·cases (show v=false by simp only[yl,Cf,Value.bool.injEq] at hv;exact hv.symm);refine⟨_,h,λhc w' _=>?_⟩;have:=key b u false hb F hv w' hc;cases b<;>exact this
       ·cases (show u=true by simp only[yl,Cf,Value.bool.injEq] at F;exact F.symm);refine⟨_,h,λhc w' _=>?_⟩;have:=key b true v hb F hv w' hc;cases b<;>exact this
       ·exact⟨_,h,λhc w' _=>key b u v hb F hv w' hc⟩
      ·exact AC h
     ·exact AC h
   ·exact AC h
  ·exact AC h
 |call c=>
  obtain⟨callee,args,ts⟩:=c;cases callee with
  |value f=>
   simp only at h;split at h
   ·rename_i gg first cap adl hf has
    split at h
    ·rename_i rJ;split at h
     ·rename_i e H;split at h
      ·rename_i pre v acg;refine⟨v,h.2,λhc w' _=>?_⟩;have dQ:=tS (P:=P) (dst:=dst) (type:=type) (pos:=pos) (after:=after) (guard:=guard) (ts:=ts) (l.ev hc hf) (l_ (λx v A=>l.ev hc A) has) (w:=w') rJ;unfold dt;rw[dQ];refine⟨rfl,?_⟩;have:=e.ok _ _ _ acg (iy h.1 G hc) w';rw[Jd H] at this;exact this
      ·exact AC h
     ·obtain⟨x,hq,i⟩:=h;refine⟨_,i,λhc w' B=>?_⟩;have dQ:=tS (P:=P) (dst:=dst) (type:=type) (pos:=pos) (after:=after) (guard:=guard) (ts:=ts) (l.ev hc hf) (l_ (λx v A=>l.ev hc A) has) (w:=w') rJ;unfold dt;rw[dQ];exact⟨rfl,iy hq G hc w' B⟩
    ·exact AC h
   ·exact AC h
  |invoke r m=>exact R h
  |builtin b=>
   cases b with
   |len=>
    simp only at h;split at h
    ·rename_i p E;obtain⟨n,hn,i⟩:=h;refine⟨_,i,λhc w' B=>bN ?_⟩;obtain⟨x,t,U,V,rfl,rfl,F,A⟩:=Fq E;obtain⟨r,es,O,rfl,hb,rfl⟩:=iy hn G hc;have qI:w'.heap[r]? =some (.map es O):=B.obj hb;simp[execOp,resolve,invoke,builtin,GD,l.ev hc A,run_underlying F,Cp qI,goInt,DB]
    ·split at h
     ·rename_i p E;obtain⟨n,hn,i⟩:=h;refine⟨_,i,λhc w' B=>bN ?_⟩;obtain⟨x,t,U,V,rfl,rfl,F,A⟩:=Dk E;obtain⟨r,cap,rI,s,m,rfl,hb,rfl⟩:=iy hn G hc;have qI:w'.heap[r]? =some (.chan cap ⟨rI⟩ false s m false):=B.obj hb;have u7:(getObj r).run P w'= .ok (.chan cap ⟨rI⟩ false s m false) w':=by simp[getObj,Sem.run,qI]
      simp[execOp,resolve,invoke,builtin,GD,l.ev hc A,run_underlying F,u7,goInt,DB]
     ·exact R h
   | _=>exact R h
 |entry it=>
  simp only at h;split at h
  ·rename_i p d A;split at h
   ·obtain⟨x,v,H,i⟩:=h;refine⟨_,i,λhc w' B=>bN ?_⟩;simp only[execOp,AY,l.ev hc A,n7 (zb B (iy H G hc)),Am,Ap]
   ·obtain⟨x,v,H,i⟩:=h;refine⟨_,i,λhc w' B=>bN ?_⟩;simp only[execOp,AY,l.ev hc A,n7 (zb B (iy H G hc)),Am,Ap]
   ·obtain⟨x,v,H,i⟩:=h;refine⟨_,i,λhc w' B=>bN ?_⟩;simp only[execOp,AY,l.ev hc A,n7 (zb B (iy H G hc)),Am,Ap]
   ·exact AC h
  ·exact AC h
 |binOp op t x y yt=>
  simp only at h;split at h
  ·rename_i v E;exact pure ⟨none,v⟩ E h
  ·rename_i p v E;exact pure ⟨some p,v⟩ E h
  ·split at h
   ·rename_i p q E;obtain⟨hq,i⟩:=h;exact⟨_,i,λhc w' B=>bN (Zt (o:=⟨dst,.binOp op t x y yt,type,pos,after,guard⟩) (λx v A=>l.ev hc A) E (Je B (iy hq G hc)))⟩
   ·exact AC h
 | _=>exact R h
variable {P:AP}
def WF (r:Option Nat):Fence:={DU with round:=r}
theorem jN {r:Option Nat} {n:Nat} {f:Az} {args:Array A2} {w:A1} {R:Ending->A1->Prop}:CallsIn (WF r) n P f args w R<->Calls P f args w R:=
 callsIn_wide
theorem Xx (r:Option Nat) (f:Az):(WF r).fn f:=trivial
theorem Jf (r:Option Nat) (n:Nat):(WF r).room n:=room_wide n
theorem Ah {w:A1} {p q:AL} {v:A2} (h:(w.cell? q).isSome=true):((w.setCell p v).cell? q).isSome=true:=by
 unfold Kg at h ⊢;simp[Kh]
 grind
theorem TG {w:A1} {p q:AL} {v:A2}:(w.setCell p v).frozen? q=w.frozen? q:=by
 simp
theorem Dl {w:A1} {a:AL} {v:A2} (hv:v.oneCell'=true) (h:(w.cell? a).isSome=true) (b:w.frozen? a=false):(store a v).run P w= .ok () (w.setCell a v):=by
 rw[run_store P w a v _ hv]
 grind
theorem jm: ∀(vs:List A2) (a:AL) (i:Nat) (w:A1),Es vs=true->(∀j,j<vs.length->(w.cell? (a.add (i+j))).isSome=true/\w.frozen? (a.add (i+j))=false)->
 (storeCells a vs i).run P w= .ok () (putAt w a vs i)
 |[],a,i,w, _, _=>by rfl
 |v::r,a,i,w,b,h=>by
  simp only[Es,Hq,B4] at b;have h0:=h 0;simp at h0;have c:=jm r a (i+1) (w.setCell (a.add i) v) b.2 (λj d=>by
   simp_all
   grind[Ah])
  simp[storeCells,Dl b.1 h0.1 h0.2,c,putAt]
theorem wrap_i64 {n:Int} (h0: -(2 ^ 63)<=n) (h1:n<2 ^ 63):Du.wrap n=n:=by
 show(if(true&&decide (n % 2 ^ 64>=2 ^ 63))=true then n % 2 ^ 64 - 2 ^ 64 else n % 2 ^ 64)=n
 grind
theorem run_makeSlice {t e:AM} {i:TypeInfo} {z:A2} (b:P.underlying t=some (.slice e)) (hi:P.info? e=some i) (c:i.zero=some z) (k d:Ar) {n m:Int} (h:aaF i.bytes n m) (w:A1):
 (Pn t (.int k n) (.int d m)).run P w= .ok (.slice (some ⟨w.heap.size,0,none⟩) n.toNat m.toNat) (w.alloc (.cells (nL z.cells (m.toNat*i.size)) e)):=by
 obtain⟨h0,h1,p,q⟩:=h;have wn:Du.wrap n=n:=wrap_i64 (by omega) (by omega);have f:Du.wrap m=m:=wrap_i64 (by omega) (by omega);have g: ¬ m<0:=by omega
 have j: ¬ n<0:=by omega
 have l: ¬ n>m:=by omega
 have o: ¬ (i.bytes*m>2 ^ 48):=by omega
 unfold Pn;simp only[AY,bC b,Am,asInt,asIntOf,Ap,fJ hi,wn,f,g,j,l,o,decide_false,IJ,Ea,if_false,run_askRoom,dv hi,newRow];by_cases a:m.toNat*i.size=0
 ·simp[a,nL]
 ·simp[a,nL,zeroValue,fJ hi,c]
theorem xX {w:A1} {p:Option AL} {n size len cap:Nat} {vs:List A2} (h:oW w p (n*size) vs):(FK size n (.slice p len cap)).run P w= .ok ⟨vs⟩ w:=by
 cases p with
 |none=>subst h;rfl
 |some a=>
  obtain⟨b⟩:=h;have:=run_loadCellsFrom (P:=P) (w:=w) (a:=a) vs 0 #[] (by grind);rw[b] at this;simp only[FK,loadCells,this];simp
theorem Ev {w:A1} {p:Option AL} {n:Nat} {vs:List A2} (h:oW w p n vs):oW w.drew p n vs:=h
theorem Qi {ts:Array AM} {t u e:AM} {i:TypeInfo} {ty:AM} {p q:Option AL} {n m k l:Nat} (c:ts= #[t,u]) (d:P.underlying t=some (.slice e))
 (hi:P.info? e=some i) {w:A1} {R:Int->A1->Prop} (h:cpR w i.size (p,n) (q,k) R):
 ∃r b,(S0 ts ty #[.slice p n m,.slice q k l]).run P w= .ok (.int .i64 r) b/\R r b:=by
 subst c;obtain⟨new,f,g,j⟩:=h;have o:(FK i.size _ (.slice q k l)).run P w= .ok ⟨new⟩ w:=xX f;refine⟨_, _,?_,j⟩;unfold S0;have h0: #[t,u][0]? =some t:=rfl;simp only[h0,I2,GJ,I3,AY,bC d,Am,dv hi,Kj,Ap,o];cases p with
 |none=>
  rfl
 |some a=>
  rcases g with h|rfl|⟨⟨a',s,hc⟩,v⟩
  ·cases h
  ·rfl
  ·cases s;have x:=jm (P:=P) new a 0 w v (by grind);simp only[AY,x,Am,Ap,goInt];rfl
theorem Hh {ts:Array AM} {t u e y:AM} {i:TypeInfo} {z:A2} {ty:AM} {p q:Option AL} {n m k l:Nat} (A:ts= #[t,u]) (f:P.underlying t=some (.slice e)) (g:P.underlying u=some (.slice y))
 (hi:P.info? e=some i) (B:i.zero=some z) (hb:i.bytes≠0) {w:A1} {R:Option AL×Nat×Nat->A1->Prop} (h:mF w e i.size i.bytes z.cells (p,n,m) (q,k,l) R):
 ∃r o,(Kl ts ty #[.slice p n m,.slice q k l]).run P w= .ok (.slice r.1 r.2.1 r.2.2) o/\R r o:=by
 subst A;obtain⟨fG,new,C,s,D,E⟩:=h;have F:(FK i.size k (.slice q k l)).run P w= .ok ⟨new⟩ w:=xX s;by_cases b:n+k<=m
 ·obtain⟨G,d⟩:=D b;refine⟨_, _,?_,d⟩;unfold Kl;have h0:(#[t,u]:Array AM)[0]? =some t:=rfl;have h1:(#[t,u]:Array AM)[1]? =some u:=rfl;simp only[h0,h1,I2,GJ,I3,AY,bC f,bC g,Am,dv hi,Kj,Ap,Ea,if_false,b,if_true,OK,F];cases p with
  |none=>
   simp only[Ap,jB,S1]
  |some a=>
   rcases G with rfl|⟨⟨a',v,hc⟩,H⟩
   ·simp[storeCells,jB,putAt]
   ·simp only[GG,Cf] at v;subst v;have I:=jm (P:=P) new (a.add (n*i.size)) 0 w H (λj J=>by simpa using hc j J);rw[AY,I];rfl
 ·obtain⟨K,d⟩:=E (by show m<n+k;omega);have L:=λc hc=>d c hc;have M: ∀(x:Nat),n+k<=(Question.appendCap (n+k) m e).cut x:=λx=>by simp[Question.cut]
  refine⟨_, _,?_,L ((Question.appendCap (n+k) m e).cut (w.tape w.drawn (.appendCap (n+k) m e))) (M _)⟩;unfold Kl;have h0:(#[t,u]:Array AM)[0]? =some t:=rfl;have h1:(#[t,u]:Array AM)[1]? =some u:=rfl;have N: ¬ (((n+k:Nat):Int)>Du.max/\(False\/i.bytes=0)):=by simp[hb]
  have O: ¬ (Rg (n+k) m*i.bytes>2 ^ 48):=by simp only at K;omega
  have Q:(FK i.size n (.slice p n m)).run P w.drew= .ok ⟨fG⟩ w.drew:=xX (Ev C);have S:(FK i.size k (.slice q k l)).run P w.drew= .ok ⟨new⟩ w.drew:=xX (Ev s);simp only[h0,h1,I2,GJ,I3,AY,bC f,bC g,Am,dv hi,Kj,Ap,Ea,if_false,b,OK,if_true,
   fJ hi]
  rw[if_neg N];simp only[AY,fJ hi,Am,O,if_false,run_choose_drew,Question.forced,Ea,run_askRoom,Q,S,zeroValue,B,newRow,Ap,run_newObj_alloc];rfl
theorem Ai {t e:AM} {i:TypeInfo} {z:A2} {len:Nat} {parts:Array (Nat×A2)} {ps:List (Nat×A2)} {cs:Array A2} (c:P.underlying t=some (.slice e)) (hi:P.info? e=some i) (d:i.zero=some z)
 (f:parts.toList=ps) (g:A6 (λk=>some (k*i.size,i.size)) ⟨(B2 (len*i.size)).map (z.cells.toList[· % z.cells.toList.length]!)⟩ ps=some cs) (j:len*i.size<=2 ^ 24) (w:A1):
 (Pp t len parts).run P w= .ok (.slice (some ⟨w.heap.size,0,none⟩) len len) (w.alloc (.cells cs e)):=by
 have h: ¬ len*i.size>2 ^ 24:=by omega
 have a:Gz (λk=>some (k*i.size,i.size)) ((Array.range (len*i.size)).map ((if len*i.size=0 then #[] else z.cells)[· % (if len*i.size=0 then #[] else z.cells).size]!)) ps=some cs:=by
  rw[<-y_ g];congr 1
  grind
 unfold Pp;simp only[AY,bC c,Am,dv hi,h,newRow];by_cases b:len*i.size=0
 simp_all
 ·simp only[b,if_false] at a;simp only[b,if_false,zeroValue,AY,fJ hi,Am,d,Ap,f,a];simp
theorem cR {r:Option Nat} {ev:Operand->A2} {o:Oper} (h: ∀c,o.op≠ .defer c):o.semAt (WF r).round ev=execOp ev o:=Oper.semAt_eq _ _ _ h
variable {S:Nat->Option (Option A2)} {ops:Array Oper} {N:Nat} {D:List Deferred} {env:List bO} {a:Act}
def e9 (o:Oper):Bool:=
 match o.op with
 | .alloc _| .box .. | .buildSlice .. | .makeSlice .. | .makeMap .. | .makeChan .. =>true
 | _=>false
def Ct (C:dJ P) (o:Oper):Bool:=
 match o.op with
 | .move _| .assign _| .pick .. | .alloc _| .box .. | .buildSlice .. | .makeSlice .. | .makeMap .. | .makeChan .. | .build .. | .load .. | .nilCheck _| .binOp .. | .unOp .. | .convert .. | .makeFunc .. | .slice .. | .fieldAddr .. | .field .. | .indexAddr .. | .index .. | .extract .. | .lookup .. =>false
 | .call c=>match c.callee with
   | .value (.func f)=> !((yC C.sW f).isSome||C.quiet.contains f)
   | .builtin .len| .builtin .min| .builtin .max=>false
   | _=>true
 | _=>true
theorem Qj {C:dJ P} {ρ:Operand->Option A2} {o:Oper} (a: ∀f,ρ (.func f)=some (.func (.func f) #[] #[])) (h:Ct C o=false) (b:ON C ρ o=true):e9 o=true:=by
 grind[Ct,ON,e9]
theorem Hi {P:AP} {ts:Array AM} {ty t u d k:AM} {kd:Ar} {n:Int} {w:A1} {r:Nat} {es:Array DA} {e:Nat} {K:A1->Prop} (l:ts= #[t,u]) (f:P.underlying t=some (.map d k)) (a:P.underlying d=some (.int kd)) (hb:bF w r es e)
 (h:AD w r kd n es e K): ∃g,(Km ts ty #[.map (some r),.int kd n]).run P w= .ok (.tuple #[]) g/\K g:=by
 subst l;have b:=hb;have j:Gq (.int kd) (.int kd n):=by rfl
 unfold AD at h;split at h
 ·rename_i c;refine⟨_,?_,h⟩;simp[Km,run_underlying f,Cp b,DL a j,DM a c,Gr _ b,FI]
 ·rename_i i v c;refine⟨_,?_,h⟩;simp[Km,run_underlying f,Cp b,DL a j,DM a c,Gr _ b,DB,FI]
 grind
theorem Zv {r:Option Nat} {o:Oper} {w w':A1} {K:A2->A1->Prop} {next:Act->A1->Prop} {Q:Exit->Act->A1->Prop} (A:Fit S ops N D env a)
 {C:dJ P} (h:eop C (yl env []) o w K) (I:Ext w w') (G: ∀v H,K v H->(e9 o=true->Ext w' H)->next (a.put o.dst v) H):o.wpIn (WF r) 0 P a w' next Q:=by
 have hc:j_ ops a.tmps []:=λx g=>by cases g
 refine⟨λ_ _=>trivial,?_⟩;obtain⟨dst,op,type,pos,after,guard⟩:=o;unfold eop at h;cases op<;>simp only at h<;>(try exact AC h)
 case store t x y=>
  rw[cR (by simp)];split at h
  ·rename_i p v i g hy hi;split at h
   ·rename_i R;obtain⟨⟨ho,a0,hp,Zw⟩,B⟩:=h w' I;subst hp;have h_:v.cells.size=i.size:=by simpa[vo] using R
    have vP:=jm (P:=P) (vo v) a0 0 w' ho (λj hj=>by simpa using Zw j hj);have:(execOp a.eval ⟨dst,.store t x y,type,pos,after,guard⟩).run P w'= .ok .skip (jB w' (some a0) (vo v)):=by
     simp only[execOp,Instr.storeAt,A.ev hc g,A.ev hc hy,H5,storeVar,AY,Ap,Am,dv hi,h_,ne_eq,not_true,if_false];rw[show v.cells.toList=vo v from rfl,vP];rfl
    rw[this];exact G _ _ B (λE=>by simp[e9] at E)
   ·exact AC h
  ·exact AC h
 case mapUpdate t m x v=>
  rw[cR (by simp)];split at h
  ·rename_i kt T p kd n val J U g hv;split at h
   ·rename_i kd' V;split at h
    ·rename_i W;subst W;obtain⟨r,es,M,rfl,hb,X⟩:=h w' I;obtain⟨H,dQ,B⟩:=Bk J V hb X;have:(execOp a.eval ⟨dst,.mapUpdate t m x v,type,pos,after,guard⟩).run P w'= .ok .skip H:=by
      simp only[execOp,AY,A.ev hc U,A.ev hc g,A.ev hc hv,dQ,Am,Ap]
     rw[this];exact G _ _ B (λE=>by simp[e9] at E)
    ·exact AC h
   ·exact AC h
  ·exact AC h
 case insert t m x v=>
  rw[cR (by simp)];split at h
  ·rename_i kt T p kd n val J U g hv;split at h
   ·rename_i kd' V;split at h
    ·rename_i W;subst W;obtain⟨r,es,M,rfl,hb,X⟩:=h w' I;obtain⟨H,dQ,B⟩:=Bk J V hb X;have:(execOp a.eval ⟨dst,.insert t m x v,type,pos,after,guard⟩).run P w'= .ok .skip H:=by
      simp only[execOp,AY,A.ev hc U,A.ev hc g,A.ev hc hv,dQ,Am,Ap]
     rw[this];exact G _ _ B (λE=>by simp[e9] at E)
    ·exact AC h
   ·exact AC h
  ·exact AC h
 case alloc e=>
  rw[cR (by simp)];split at h
  ·rename_i i hi;split at h
   ·rename_i z O;have h:aN w z.cells e (λb H=>K (.pointer (some ⟨b,0,none⟩)) H):=by
     have e1:YQ P e=z.cells:=by unfold YQ;simp only[hi,O]
     split at h
     ·rw[e1] at h;exact h
     ·exact h
    have B:=h w' I;have:(execOp a.eval ⟨dst,.alloc e,type,pos,after,guard⟩).run P w'= .ok (.value (.pointer (some ⟨w'.heap.size,0,none⟩))) (w'.alloc (.cells z.cells e)):=by
     simp[execOp,Instr.alloc,zeroValue,fJ hi,O,newVar,newRow]
    rw[this];exact G _ _ B (λ_=>Ext.alloc _ _)
   ·exact AC h
  ·exact AC h
 case box e x=>
  rw[cR (by simp)];split at h
  ·rename_i v hv;have B:=h w' I;have:(execOp a.eval ⟨dst,.box e x,type,pos,after,guard⟩).run P w'= .ok (.value (.pointer (some ⟨w'.heap.size,0,none⟩))) (w'.alloc (.cells v.cells e)):=by
    simp[execOp,Instr.box,A.ev hc hv,newVar,newRow]
   rw[this];exact G _ _ B (λ_=>Ext.alloc _ _)
  ·exact AC h
 case buildSlice t len parts=>
  rw[cR (by simp)];split at h
  ·rename_i el ps J TT;split at h
   ·rename_i i hi;split at h
    ·rename_i z O;split at h
     ·rename_i cs fh;split at h
      ·rename_i hlen;have B:=h w' I;have e:=za (λx v g=>A.ev hc g) TT;have e':(parts.map λ(i,x)=>(i,a.eval x)).toList=ps:=by rw[<-e];simp
       have dQ:=Ai (P:=P) J hi O e' fh hlen w';have:(execOp a.eval ⟨dst,.buildSlice t len parts,type,pos,after,guard⟩).run P w'= .ok (.value (.slice (some ⟨w'.heap.size,0,none⟩) len len)) (w'.alloc (.cells cs el)):=by
        simp only[execOp,AY,dQ,Am,Ap]
       rw[this];exact G _ _ B (λ_=>Ext.alloc _ _)
      ·exact AC h
     ·exact AC h
    ·exact AC h
   ·exact AC h
  ·exact AC h
 case makeSlice t l c=>
  rw[cR (by simp)];split at h
  ·rename_i el k n k' m J hl Ce;split at h
   ·rename_i i hi;split at h
    ·rename_i z O;obtain⟨jO,B⟩:=h w' I;have dQ:=run_makeSlice (P:=P) J hi O k k' jO w';have:(execOp a.eval ⟨dst,.makeSlice t l c,type,pos,after,guard⟩).run P w'= .ok (.value (.slice (some ⟨w'.heap.size,0,none⟩) n.toNat m.toNat)) (w'.alloc (.cells (nL z.cells (m.toNat*i.size)) el)):=by
      simp only[execOp,A.ev hc hl,A.ev hc Ce,AY,dQ,Am,Ap]
     rw[this];exact G _ _ B (λ_=>Ext.alloc _ _)
    ·exact AC h
   ·exact AC h
  ·exact AC h
 case makeMap t rs=>
  rw[cR (by simp)];split at h
  ·have B:=h w' I;have:(execOp a.eval ⟨dst,.makeMap t none,type,pos,after,guard⟩).run P w'= .ok (.value (.map (some w'.heap.size))) (w'.alloc (.map #[] 0)):=by
    simp[execOp,Instr.makeMap]
   rw[this];exact G _ _ B (λ_=>Ext.alloc _ _)
  ·exact AC h
 case makeChan t sz=>
  rw[cR (by simp)];split at h
  ·rename_i d e k n J R;split at h
   ·rename_i i hi;split at h
    ·rename_i hn;have B:=h w' I;have hb: ¬ (n<0\/n>Du.max\/i.bytes*n>2 ^ 48 - 112):=by
      have:Du.max=9223372036854775807:=by decide
      omega
     have:(execOp a.eval ⟨dst,.makeChan t sz,type,pos,after,guard⟩).run P w'= .ok (.value (.chan (some w'.heap.size))) (w'.alloc (.chan n.toNat #[] false 0 0 false)):=by
      have qI: ¬ (n<0\/9223372036854775807<n\/281474976710544<(i.bytes:Int)*n):=by omega
      simp[execOp,Instr.makeChan,A.ev hc R,asInt,asIntOf,run_underlying J,fJ hi];exact λc=>absurd c qI
     rw[this];exact G _ _ B (λ_=>Ext.alloc _ _)
    ·exact AC h
   ·exact AC h
  ·exact AC h
 case range xt x=>
  rw[cR (by simp)];split at h
  ·rename_i kt T p J g;obtain⟨r,es,M,rfl,hb,B⟩:=h w' I;have qI:w'.heap[r]? =some (.map es M):=hb;have:(execOp a.eval ⟨dst,.range xt x,type,pos,after,guard⟩).run P w'= .ok (.value (.pointer (some ⟨w'.heap.size,0,none⟩))) (w'.alloc (.mapIter (some r) M #[] M)):=by
    simp[execOp,Instr.range,A.ev hc g,run_underlying J,Cp qI,DB]
   rw[this];exact G _ _ B (λE=>by simp[e9] at E)
  ·exact AC h
 case next it b=>
  rw[cR (by simp)];split at h
  ·rename_i p g;obtain⟨r,m,since,seen,last,es,M,rfl,hr,hb,xm,hold,k0,k1⟩:=h w' I;rcases run_next_at (P:=P) w' type r m since last seen es M hr hb hold xm with ⟨h0,dQ⟩|⟨e,L,w1,xq,dQ⟩
   ·have:(execOp a.eval ⟨dst,.next it false,type,pos,after,guard⟩).run P w'= .ok (.value (.tuple ⟨[.bool false]⟩)) w':=by
     simp only[execOp,AY,A.ev hc g,dQ,Am,Ap]
    rw[this];refine G _ _ (k0 (λe L=>?_) w' (Ext.refl _)) (λE=>by simp[e9] at E);unfold leftOf at h0;have h1:=Array.eq_empty_of_size_eq_zero h0;rw[Array.filter_eq_empty_iff] at h1;simpa using h1 e (by simpa using L)
   ·have:(execOp a.eval ⟨dst,.next it false,type,pos,after,guard⟩).run P w'= .ok (.value (.tuple ⟨[.bool true,e.key,e.val]⟩)) (w1.putObj r (.mapIter (some m) since (seen.push e.born) M)):=by
     simp only[execOp,AY,A.ev hc g,dQ,Am,Ap];rfl
    rw[this];unfold leftOf at L;have jR:e∈es.toList/\seen.contains e.born=false:=by simpa using L
    refine G _ _ (k1 e jR.1 jR.2 w1 ?_) (λE=>by simp[e9] at E);rcases xq with rfl|rfl
    ·exact Ext.refl _
    ·exact⟨rfl,rfl,rfl,DR _,λk B=>rfl⟩
  ·exact AC h
 case call c=>
  obtain⟨callee,args,ts⟩:=c;rw[cR (by simp)];simp only at h;split at h
  ·
   split at h
   ·rename_i m x t u IS aaG;split at h
    ·rename_i kt T p kd n J U g;split at h
     ·rename_i kd' V;split at h
      ·rename_i W;subst W;obtain⟨r,es,M,rfl,hb,X⟩:=h w' I;have Y:args= #[m,x]:=by cases args;simp_all
       have et':ts= #[t,u]:=by cases ts;simp_all
       obtain⟨H,dQ,B⟩:=Hi (P:=P) (ty:=type) et' J V hb X;have:(execOp a.eval ⟨dst,.call ⟨.builtin .delete,args,ts⟩,type,pos,after,guard⟩).run P w'= .ok (.value (.tuple ⟨[]⟩)) H:=by
        subst Y;simp only[execOp,resolve,AY,Ap,Am,invoke,builtin,GS,Ga,Gd,A.ev hc U,A.ev hc g,dQ]
       rw[this];exact G _ _ B (λE=>by simp[e9] at E)
      ·exact AC h
     ·exact AC h
    ·exact AC h
   ·exact AC h
  ·
   split at h
   ·rename_i s x t u IS aaG;split at h
    ·rename_i e ue p n m q k l J hu' R g;split at h
     ·rename_i i hi;split at h
      ·rename_i z O;split at h
       ·exact AC h
       ·rename_i hb;have TW:=h w' I;have Y:args= #[s,x]:=by cases args;simp_all
        have T:ts= #[t,u]:=by cases ts;simp_all
        obtain⟨res,H,dQ,Z⟩:=Hh (P:=P) (ty:=type) T J hu' hi O hb TW;have:(execOp a.eval ⟨dst,.call ⟨.builtin .append,args,ts⟩,type,pos,after,guard⟩).run P w'= .ok (.value (.slice res.1 res.2.1 res.2.2)) H:=by
         subst Y;simp only[execOp,resolve,AY,Ap,Am,invoke,builtin,GS,Ga,Gd,A.ev hc R,A.ev hc g,dQ]
        rw[this];exact G _ _ Z (λE=>by simp[e9] at E)
      ·exact AC h
     ·exact AC h
    ·exact AC h
   ·exact AC h
  ·
   split at h
   ·rename_i s x t u IS aaG;split at h
    ·rename_i e p n m q k l J R g;split at h
     ·rename_i i hi;have TW:=h w' I;have Y:args= #[s,x]:=by cases args;simp_all
      have T:ts= #[t,u]:=by cases ts;simp_all
      obtain⟨res,H,dQ,Z⟩:=Qi (P:=P) (ty:=type) (m:=m) (l:=l) T J hi TW;have:(execOp a.eval ⟨dst,.call ⟨.builtin .copy,args,ts⟩,type,pos,after,guard⟩).run P w'= .ok (.value (.int .i64 res)) H:=by
       subst Y;simp only[execOp,resolve,AY,Ap,Am,invoke,builtin,GS,Ga,Gd,A.ev hc R,A.ev hc g,dQ]
      rw[this];exact G _ _ Z (λE=>by simp[e9] at E)
     ·exact AC h
    ·exact AC h
   ·exact AC h
  ·rename_i f;split at h
   ·
    rename_i s t;split at h
    ·rename_i v adl hf has;obtain⟨gg,first,cap,rfl,rJ,B⟩:=h w' I;have dQ:=tS (P:=P) (dst:=dst) (type:=type) (pos:=pos) (after:=after) (guard:=guard) (ts:=ts) (A.ev hc hf) (l_ (λx v g=>A.ev hc g) has) (w:=w') rJ;rw[dQ];refine⟨by simp[WF,DU],?_⟩;refine(jN (n:=0 - 1)).2 ?_;refine F5 B λe H ⟨x,L,g⟩=>?_;subst L;exact G _ _ g (λE=>by simp[e9] at E)
    ·exact AC h
   rename_i f _ _ _;split at h
   ·
    rename_i l first cp adl hf has
    obtain⟨rec,AF,hlen,Zx⟩:=h w' I;have e:(first++args.map a.eval:Array A2)=⟨first.toList++adl⟩:=by
     have:=l_ (λx v g=>A.ev hc g) has;rw[<-this];obtain⟨l1⟩:=first;obtain⟨l2⟩:=args
     simp
    have dQ:=run_yield (P:=P) (args:=⟨first.toList++adl⟩) AF (by simpa using hlen);have:(execOp a.eval ⟨dst,.call ⟨.value f,args,ts⟩,type,pos,after,guard⟩).run P w'= .ok (.round l rec.fn ((rec.params.zip ⟨first.toList++adl⟩).foldl (λtmps (t,a)=>tmps.setIfInBounds t a) rec.tmps) rec.assign rec.body) w':=by
     simp only[execOp,resolve,Deferred.ofValue,A.ev hc hf,AY,Ap,Am,invoke];rw[e,dQ]
    rw[this];refine⟨by simp[WF,DU],?_⟩;refine RoundIn.mono (F:=WF r) (n:=0 - 1) Zx λe H ⟨b,L,Z⟩=>?_;subst L;exact G _ _ Z (λE=>by simp[e9] at E)
   ·rename_i gg first cap adl hf has
    split at h
    ·rename_i rJ;have B:=h w' I;have dQ:=tS (P:=P) (dst:=dst) (type:=type) (pos:=pos) (after:=after) (guard:=guard) (ts:=ts) (A.ev hc hf) (l_ (λx v g=>A.ev hc g) has) (w:=w') rJ;rw[dQ];refine⟨by simp[WF,DU],?_⟩;refine(jN (n:=0 - 1)).2 ?_;refine F5 B λe H ⟨x,L,g⟩=>?_;subst L;exact G _ _ g (λE=>by simp[e9] at E)
    ·exact AC h
   ·exact AC h
  ·exact AC h
theorem Bl {o:Oper} {c:Call} (b:o.op= .defer c) {w:A1} {v:A2} (h:dt P o a w v):False:=by
 obtain⟨dst,op,type⟩:=o;unfold dt execOp at h
 simp_all
 generalize (resolve _ c type).run P w=res at h;cases res<;>simp at h
def Wr (S:Nat->Option (Option A2)) (ops:Array Oper):Prop:= ∀o∈ops, ∀k,o.dst=some k->S k=none
theorem Dm {α:Type} {l:List α} (h:l.getLast?=none):l=[]:=List.getLast?_eq_none_iff.1 h
theorem zc {r:Option Nat} {C:dJ P} {i:Nat} {o:Oper} {Q:Exit->Act->A1->Prop} (y:ops[i]? =some o) (l: ∀k,o.dst=some k->S k=none):
 ∀(n:Nat) (env:List bO) (w w':A1) (K:List bO->A1->Prop),Fit S ops N D env a->Ou C ops N o n env w K->Ext w w'->
 wpOpIn (WF r) 0 P ops Q i (λa1 w1=>(Ct C o=false->Ext w' w1)/\ ∃c_ H,K c_ H/\Fit S ops N D c_ a1/\Ext H w1) a w'
 |0, _, _, _, _, _,h, _=>AC h
 |n+1,env,w,w',K,b,h,j=>by
  simp only[Ou,nM,jL] at h;split at h
  ·exact AC h
  ·rename_i E;have z:=CX b E;split at h
   ·rename_i s;unfold wpOpIn;simp only[y];rw[if_neg (by rw[z];simp)];exact⟨λ_ _=>trivial,λ_=>Ext.refl _, _,w,h,b.put s l rfl (λ_=>rfl) (λm=>absurd eJ m),j⟩
   ·exact AC h
  ·rename_i ch g E;obtain⟨A,z⟩:=OO b E;split at h
   ·rename_i s;split at h
    ·rename_i L;split at h
     ·rename_i M;have:ch=[]:=Dm M;subst this;unfold wpOpIn;simp only[y];rw[if_pos (z.2 eJ)];refine Zv b h j λv F p q=>⟨λO=>q (Qj (C:=C) (ρ:=yl env []) (λ_=>rfl) O L), _,F,p,?_,Ext.refl _⟩;exact b.put s l rfl (λ_=>rfl) (λm=>absurd eJ m)
     ·split at h
      ·rename_i d I;split at h
       ·rename_i e B;split at h
        ·rename_i x q;split at h
         ·rename_i R;have J:e.ch=[]:=by simpa using R
          cases x with
          |true=>exact zc y l n _ w w' K (b.settle I B J q) h j
          |false=>exact zc y l n _ w w' K (b.settle I B J q) h j
         ·exact AC h
        ·exact AC h
       ·exact AC h
      ·exact AC h
    ·obtain⟨v,p,T⟩:=yW b A h;replace p:=sy p;unfold wpOpIn;simp only[y];by_cases hc:j_ ops a.tmps ch
     ·rw[if_pos (z.2 hc)];have t:=T hc w' j;have U: ∀c,o.op≠ .defer c:=by
       intro c V;exact Bl V t
      refine⟨λ_ _=>trivial,?_⟩;rw[cR U];unfold dt at t;split at t
      ·rename_i u F dQ;obtain⟨rfl,rfl⟩:=t;rw[dQ];exact⟨λ_=>Ext.refl _, _,w,p,b.put s l A (λ_=>rfl) (λm=>absurd hc m),j⟩
      ·rename_i f args F dQ;obtain⟨rfl,W⟩:=t;rw[dQ];refine⟨by simp[WF,DU],(jN (n:=0 - 1)).2 ?_⟩;refine F5 W λe X ⟨B,q⟩=>?_;subst B;exact⟨λ_=>q, _,w,p,b.put s l A (λ_=>rfl) (λm=>absurd hc m),j.trans q⟩
      ·exact t.elim
     ·rw[if_neg (λG=>hc (z.1 G))];exact⟨λ_ _=>trivial,λ_=>Ext.refl _, _,w,p,b.put s l A (λG=>absurd G hc) (λ_=>rfl),j⟩
   ·exact AC h
theorem Ew {r:Option Nat} {C:dJ P} {i:Nat} {w w':A1} {K:List bO->A1->Prop} {Q:Exit->Act->A1->Prop} (c:Wr S ops) (d:Fit S ops N D env a)
 (h:F_ C ops N i env w K) (e:Ext w w'):wpOpIn (WF r) 0 P ops Q i (λa1 w1=>(((ops[i]?).map (Ct C)).getD true=false->Ext w' w1)/\ ∃c_ b,K c_ b/\Fit S ops N D c_ a1/\Ext b w1) a w':=by
 unfold F_ at h;cases f:ops[i]? with
 |none=>grind
 |some o=>
  simp_all
  have:=zc (r:=r) (Q:=Q) f (c o (by grind)) _ env w w' K d h e;omega
theorem Pf {r:Option Nat} {C:dJ P} {Q:Exit->Act->A1->Prop} (e:Wr S ops): ∀(l:List Nat) (env:List bO) (a:Act) (w w':A1) (K:List bO->A1->Prop),Fit S ops N D env a->
 rxL C ops N l env w K->Ext w w'->(∀env a w w',K env w->Fit S ops N D env a->Ext w w'->Q .normal a w')->wpOpsIn (WF r) 0 P ops Q l a w'
 |[],env,a,w,w',K,b,h,c,d=>d env a w w' h b c
 |i::l,env,a,w,w',K,b,h,c,d=>by
  exact wpOpIn_mono (λa1 w1 ⟨_,c_,f,g,j,k⟩=>Pf e l c_ a1 f w1 K j g k d) (Ew e b h c)
variable {P:AP}
def mv (r:Option Nat) (P:AP) (ops:Array Oper) (Q:Exit->Act->A1->Prop) (ID:Nat->Bool) (T:Nat->A1->Prop):Nat->Array Bool->Act->A1->Prop
 |0,b,a,w=> ∀w',Ext w w'->B1 .any ops b=[]/\Q .normal a w'
 |fuel+1,b,a,w=> ∀w',Ext w w'->(B1 .any ops b=[]->Q .normal a w')/\
  ∀i∈B1 .any ops b,wpOpIn (WF r) 0 P ops Q i (λa1 w1=>(ID i=false->Ext w' w1)/\(ID i=true->T i w1)/\mv r P ops Q ID T fuel (b.setIfInBounds i true) a1 w1) a w'
section
variable {r:Option Nat} {ops:Array Oper} {Q:Exit->Act->A1->Prop} {ID:Nat->Bool} {T:Nat->A1->Prop}
theorem nY {b:Nat} {c:Array Bool} {a:Act} {w w':A1} (h:mv r P ops Q ID T b c a w) (d:Ext w w'):mv r P ops Q ID T b c a w':=by
 cases b with
 |zero
 |succ=>exact λe f=>h e (d.trans f)
theorem zM: ∀(fuel:Nat) (b:Array Bool) (a:Act) (w:A1),mv r P ops Q ID T fuel b a w->wpAnyIn (WF r) 0 P .any ops Q fuel b a w
 |0, _, _,w,h=>h w (Ext.refl w)
 |fuel+1, _, _,w,h=>⟨(h w (Ext.refl w)).1,λi hi=>wpOpIn_mono (λa1 w1 c=>zM fuel _ a1 w1 c.2.2) ((h w (Ext.refl w)).2 i hi)⟩
theorem pT {T T':Nat->A1->Prop} (e: ∀j w,T' j w->T j w): ∀(fuel:Nat) (b:Array Bool) (a:Act) (w:A1),mv r P ops Q ID T' fuel b a w->mv r P ops Q ID T fuel b a w
 |0, _, _, _,h=>h
 |fuel+1, _, _, _,h=>λw' c=>⟨(h w' c).1,λi hi=>wpOpIn_mono (λa1 w1 d=>⟨d.1,by grind,pT e fuel _ a1 w1 d.2.2⟩) ((h w' c).2 i hi)⟩
def fY (P:AP) (ops:Array Oper) (o:Oper) (v:A2) (a:Act) (w:A1):Prop:=
 (B5 o (yielded ops a.tmps)=true/\ ∀w',Ext w w'->dt P o a w' v)\/
 (B5 o (yielded ops a.tmps)=false/\v=undef)
theorem fY.of_same {o:Oper} {v:A2} {a a':Act} {w:A1} (b:fY P ops o v a w) (c:execOp a'.eval o=execOp a.eval o)
 (d:B5 o (yielded ops a'.tmps)=B5 o (yielded ops a.tmps)):fY P ops o v a' w:=by grind[fY,dt]
theorem fY.op {i:Nat} {o:Oper} {v:A2} {a:Act} {w w':A1} (hi:ops[i]? =some o) (d:fY P ops o v a w) (g:Ext w w') {K:Act->A1->Prop}
 (h: ∀w1,Ext w' w1->K (a.put o.dst v) w1):wpOpIn (WF r) 0 P ops Q i K a w':=by
 unfold wpOpIn;simp only[hi];rcases d with ⟨j,k⟩
 ·rw[if_pos j];have b:=k w' g;refine⟨λ_ _=>trivial,?_⟩;rw[cR (λc l=>Bl l b)];unfold dt at b;split at b
  ·rename_i u m dQ;obtain⟨rfl,rfl⟩:=b;rw[dQ];exact h _ (Ext.refl _)
  ·rename_i f args m dQ;obtain⟨rfl,p⟩:=b;rw[dQ];refine⟨by simp[WF,DU],(jN (n:=0 - 1)).2 ?_⟩;refine F5 p λe q=>?_
   grind
  ·exact b.elim
 ·simp_all
  exact⟨λ_ _=>trivial,h _ (Ext.refl _)⟩
def yX (ops:Array Oper) (o:Oper) (a a0:Act):Prop:=execOp a.eval o=execOp a0.eval o/\B5 o (yielded ops a.tmps)=B5 o (yielded ops a0.tmps)
theorem KM {j:Nat} {g k:Oper} {v:A2} {a0:Act} (t:ops[j]? =some k) (y:g.apart ops k=true)
 (z: ∀cs b,g.op≠ .select cs b) (A: ∀cs b,k.op≠ .select cs b) (p: ∀c,k.op≠ .defer c)
 (C: ∀c a w,¬ Q (.panic c) a w) {K:Act->A1->Prop} {a:Act} {w':A1}
 (i:yX ops g a a0) (h:wpOpIn (WF r) 0 P ops Q j K (a.put g.dst v) w'):
 wpOpIn (WF r) 0 P ops Q j (λa1 w1=>yX ops g a1 a0/\K (a1.put g.dst v) w1) a w':=by
 obtain⟨h1,m,q⟩:=Oper.apart_spec y;have dy: ∀(a:Act),yX ops g a a0-> ∀u,yX ops g (a.put k.dst u) a0:=λa i u=>
  ⟨(execOp_put g z a k.dst u q).trans i.1,(wanted_put g a k.dst u q).trans i.2⟩
 unfold wpOpIn at*
 simp only[t] at*
 rw[wanted_put k a g.dst v h1] at h;split
 ·rename_i o;simp only[o,if_true] at h;refine⟨λ_ _=>trivial,?_⟩;have h:=h.2;rw[cR p,execOp_put k A a g.dst v h1] at h;rw[cR p];generalize (execOp a.eval k).run P w'=res at*
  cases res with
  |ok x B=>
   cases x<;>simp only[Oper.uponIn] at h ⊢
   case value u=>exact⟨dy a i u,by rw[<-Do a v u m];exact h⟩
   case skip=>exact⟨dy a i _,by rw[<-Do a v undef m];exact h⟩
   case defer d=>
    refine⟨dy ({a with defers:=d::a.defers}:Act) ⟨i.1,i.2⟩ undef,?_⟩;rw[<-Do _ v undef m, <-Act.put_defers];exact h
   case enter f args=>
    refine⟨h.1,CallsIn.mono h.2 λe s n=>?_⟩;cases e with
    |returned u=>exact⟨dy a i u,by rw[<-Do a v u m];exact n⟩
    |panicked c=>grind
    |outgrown=>exact n
   case row row args=>exact⟨h.1,RowsIn.mono h.2 λu s n=>⟨dy a i u,by rw[<-Do a v u m];exact n⟩⟩
   case round l f tmps assign body=>
    refine⟨h.1,RoundIn.mono h.2 λe s n=>?_⟩;cases e with
    |returned u=>exact⟨dy a i u,by rw[<-Do a v u m];exact n⟩
    |panicked c=>simp_all
    |outgrown=>exact n
  |halt x B=>
   cases x<;>simp only[Oper.uponIn] at h ⊢
   grind
 ·rename_i o;simp only[o] at h;exact⟨λ_ _=>trivial,dy a i _,by rw[<-Do a v undef m];exact h.2⟩
def mfO (o:Oper):Bool:=match o.op with
 | .move _=>true
 | .assign _=>true
 | .extract .. =>true
 | _=>false
theorem fY.mf {o:Oper} {v:A2} {a:Act} {w w1:A1} (g:mfO o=true) (f:fY P ops o v a w):fY P ops o v a w1:=by
 obtain⟨dst,op,type,pos,after,guard⟩:=o;cases op with
 |move x
 |assign x=>
  rcases f with ⟨b,c⟩|d
  ·refine .inl ⟨b,λh _=>?_⟩;have:=c w (Ext.refl w);simp only[dt,execOp,Ap] at this ⊢;omega
  ·exact .inr d
 |extract x k=>
  rcases f with ⟨b,c⟩|d
  ·refine .inl ⟨b,λh _=>?_⟩;have:=c w (Ext.refl w);cases e:a.eval x with
   |tuple vs=>
    cases hv:vs[k]? with
    |none=>simp[dt,execOp,H7,e,hv] at this
    |some u=>
     simp only[dt,execOp,H7,e,hv,AY,Ap,Am] at this ⊢;omega
   | _=>simp[dt,execOp,H7,e] at this
  ·exact .inr d
 | _=>cases g
theorem uw {i:Nat} {g:Oper} {v:A2} {W:Nat->Bool} {T T':Nat->A1->Prop} {a0:Act} (hi:ops[i]? =some g) (J:ID i=false) (D: ∀(j:Nat) (o:Oper),ops[j]? =some o->(∀cs b,o.op≠ .select cs b)/\ ∀c,o.op≠ .defer c)
 (R: ∀c a w,¬ Q (.panic c) a w) (E: ∀j w,T' j w->T j w):
 ∀(t:Nat) (d:Array Bool) (a:Act) (w:A1),
  (∀j m,ops[j]? =some m->j≠i->d.getD j true=false->W j=false->g.apart ops m=true/\(ID j=false\/mfO g=true\/ ∀w1,T' j w1->fY P ops g v a0 w1))->
  (∀j,W j=true->d.getD j true=false/\ ∃m,ops[j]? =some m/\ ∃e∈m.after,DF .any e=true/\(e.on=i\/W e.on=true))->
  i∈B1 .any ops d->yX ops g a a0->fY P ops g v a0 w->
  mv r P ops Q ID T' t (d.setIfInBounds i true) (a.put g.dst v) w->mv r P ops Q ID T (t+1) d a w:=by
 have nil: ∀(d:Array Bool),i∈B1 .any ops d->B1 .any ops d≠[]:=λl K h=>by rw[h] at K;cases K
 intro t
 induction t with
 |zero=>
  intro d a w _ _ u s x H w' n;refine⟨λh=>absurd h (nil d u),λj y=>?_⟩;by_cases p:j=i
  ·subst p;refine(x.of_same s.1 s.2).op hi n λw1 h1=>⟨λ_=>h1,(λf=>by rw[J] at f;cases f),pT E _ _ _ _ (nY H (n.trans h1))⟩
  ·have:=ready_mono y p;rw[(H w' n).1] at this;cases this
 |succ t S=>
  intro d a w L U u s x H w' n;refine⟨λh=>absurd h (nil d u),λj y=>?_⟩;by_cases p:j=i
  ·subst p;refine(x.of_same s.1 s.2).op hi n λw1 h1=>⟨λ_=>h1,(λf=>by rw[J] at f;cases f),pT E _ _ _ _ (nY H (n.trans h1))⟩
  ·have h1:=(H w' n).2 j (ready_mono y p);obtain⟨M,m,z,mH⟩:=mem_ready.1 y;have ac':=(mem_ready.1 u).1;have F:W j=false:=by
    grind
   obtain⟨V,q⟩:=L j m z p M F;have G:=KM z V (D i g hi).1 (D j m z).1 (D j m z).2 R s h1;refine wpOpIn_mono (λa1 w1 X=>?_) G;obtain⟨Y,N,O,I⟩:=X;refine⟨N,λf=>E _ _ (O f),?_⟩;refine S (d.setIfInBounds j true) a1 w1 ?_ ?_ (ready_mono u (Ne.symm p)) Y ?_ ?_
   ·intro k ok I Z A B;refine L k ok I Z ?_ B;by_cases C:j=k
    ·subst C;exact M
    ·rw[getD_set_ne true C] at A;exact A
   ·intro k B;obtain⟨A,rest⟩:=U k B;refine⟨?_,rest⟩;have C:j≠k:=λe=>by rw[e,B] at F;cases F
    rw[getD_set_ne true C];exact A
   ·have fG:Ext w' w1->fY P ops g v a0 w1:=λoJ=>by
     have hww:=n.trans oJ;rcases x with ⟨xq,hq1⟩|hn
     ·exact .inl ⟨xq,λw2 G=>hq1 w2 (hww.trans G)⟩
     ·exact .inr hn
    cases f:ID j with
    |false=>exact fG (N f)
    |true=>
     rcases q with q|q|q
     ·rw[q] at f;cases f
     ·exact x.mf q
     ·exact q w1 (O f)
   ·rw[Array.setIfInBounds_comm _ _ p];exact I
end
def aaI (C:dJ P) (ops:Array Oper) (N:Nat) (o:Oper) (env:List bO) (w:A1) (K:List bO->Prop):Prop:=
 match gd ops env o with
 |none=>dz 41 o.op
 |some none=>if pf ops N env [] o.dst then xC env o.dst [] none undef K else dz 42 o.op
 |some (some (ch,g))=>
  if pf ops N env ch o.dst then oT C ops env ch g o w (λv=>yU C o v (λv=>xC env o.dst ch g v K)) else dz 43 o.op
def rxQ (C:dJ P) (ops:Array Oper) (N:Nat) (i:Nat) (env:List bO) (w:A1) (K:List bO->Prop):Prop:=
 match ops[i]? with
 |none=>False
 |some ⟨dst,op,type,pos,after,guard⟩=>aaI C ops N ⟨dst,op,type,pos,after,guard⟩ env w K
def YV {P:AP} (C:dJ P) (ops:Array Oper) (env:List bO) (ch:List (Nat×Bool)) (g:Option Bool) (o:Oper) (w:A1) (K:(A1->Prop)->A2->Prop):Prop:=
 let ρ:=yl env ch
 match o.op with
 | .load t x=>match ρ x,elC C t,P.info? t with
   |some (.pointer p),some el,some i=>if qf el i.size=true then dz 61 o.op else aj w g p el (λx=>K (λw=>gF g (cC w p el x)) (el.gO x))
   | _, _, _=>dz 62 o.op
 | .entry _=>dz 63 o.op
 | .lookup r m ix ok=>match ok,P.underlying r,ρ m,ρ ix with
   |false,some (.map h d),some (.map p),some (.int k n)=>match P.underlying h,vd P d,P.info? d with
    |some (.int j),some el,some i=>match i.zero with
     |some z=>if k=j then∃x:el.T,gF g (jU w p k n z (el.gO x))/\K (λw=>gF g (jU w p k n z (el.gO x))) (el.gO x) else dz 61 o.op
     |none=>dz 62 o.op
    | _, _, _=>dz 63 o.op
   |true,some (.map h d),some (.map p),some (.int k n)=>match P.underlying h,vd P d,P.info? d with
    |some (.int j),some el,some i=>match i.zero with
     |some z=>if k=j then∃x:el.T, ∃b:Bool,gF g (mr w p k n z (el.gO x) b)/\K (λw=>gF g (mr w p k n z (el.gO x) b)) (.tuple ⟨[el.gO x,.bool b]⟩) else dz 61 o.op
     |none=>dz 62 o.op
    | _, _, _=>dz 63 o.op
   | _, _, _, _=>dz 64 o.op
 | .pick .. =>oT C ops env ch g o w (λv=>K (λ_=>True) v)
 | .call c=>match c.callee with
   | .value f=>match ρ f,maps ρ c.args.toList with
     |some (.func (.func a) first cap),some l=>
      if bJ P a=true then
       match yC C.sW a with
       |some e=>match e.fn (cY first l cap) with
        |some (pre,v)=>gF g pre/\K (λ_=>True) v
        |none=>dz 64 o.op
       |none=> ∃x:(u9 C a).T,gF g (ae P a (cY first l cap) w ((u9 C a).gO x))/\K (λw=>gF g (ae P a (cY first l cap) w ((u9 C a).gO x))) ((u9 C a).gO x)
      else dz 65 o.op
     | _, _=>dz 66 o.op
   | .builtin .len=>match CL P ρ c with
     |some p=> ∃n:Nat,gF g (Uo w p n)/\K (λw=>gF g (Uo w p n)) (.int .i64 n)
     |none=>match xW P ρ c with
      |some p=> ∃n:Nat,gF g (ChL w p n)/\K (λw=>gF g (ChL w p n)) (.int .i64 n)
      |none=>oT C ops env ch g o w (λv=>K (λ_=>True) v)
   | _=>oT C ops env ch g o w (λv=>K (λ_=>True) v)
 | .binOp .. =>match pop P ρ o with
   |some ⟨none,v⟩=>K (λ_=>True) v
   |some ⟨some p,v⟩=>gF g p/\K (λ_=>True) v
   |none=>match CK P ρ o.op with
    |some (p,q)=>gF g (XY w p q)/\K (λw=>gF g (XY w p q)) (.bool (decide (p=q)))
    |none=>dz 67 o.op
 | _=>oT C ops env ch g o w (λv=>K (λ_=>True) v)
def UpC (p:A1->Prop):Prop:= ∀w w',p w->Ext w w'->p w'
theorem nN {g:Option Bool} {p:A1->Prop} (h:UpC p):UpC (λw=>gF g (p w)):=by
 intro w w' a b;cases g with
 |none=>exact h w w' a b
 |some=>exact λhb=>h w w' (a hb) b
def Ph (op:Op):Bool:=match op with
 | .load .. =>false
 | .lookup .. =>false
 | .entry _=>false
 | .binOp .. =>false
 | .call c=>(match c.callee with| .value _=>false| .builtin .len=>false| _=>true)
 | _=>true
theorem KN {C:dJ P} {ops:Array Oper} {env:List bO} {ch:List (Nat×Bool)} {g:Option Bool} {o:Oper} {w:A1} {K:A2->Prop} (e:Ph o.op=true)
 (h:oT C ops env ch g o w K): ∃v,K v/\ ∀i,oT C ops env ch g o i (λu=>u=v):=by
 obtain⟨dst,op,type,pos,after,guard⟩:=o;cases op with
 |load t x=>cases e
 |lookup a b c d=>cases e
 |entry a=>cases e
 |binOp op t x y j=>cases e
 |pick c x y=>
  unfold oT at h;simp only at h;unfold oT;simp only;split at h
  ·split at h
   ·split at h
    ·split at h
     ·exact⟨_,h,λ_=>rfl⟩
     ·exact h.elim
    ·split at h
     ·exact⟨_,h,λ_=>rfl⟩
     ·exact h.elim
    ·split at h
     ·split at h
      ·split at h
       ·exact⟨_,h,λ_=>rfl⟩
       ·exact⟨_,h,λ_=>rfl⟩
       ·exact⟨_,h,λ_=>rfl⟩
      ·exact h.elim
     ·exact h.elim
   ·exact h.elim
  ·exact h.elim
 |call c=>
  obtain⟨callee,args,ts⟩:=c;cases callee with
  |value f=>cases e
  |builtin b=>
   cases b with
   |len=>cases e
   | _=>
     unfold oT at h;simp only at h;unfold oT;simp only;split at h
     ·exact⟨_,h,λ_=>rfl⟩
     ·exact⟨_,h.2,λ_=>⟨h.1,rfl⟩⟩
     ·exact h.elim
  | _=>
    unfold oT at h;simp only at h;unfold oT;simp only;split at h
    ·exact⟨_,h,λ_=>rfl⟩
    ·exact⟨_,h.2,λ_=>⟨h.1,rfl⟩⟩
    ·exact h.elim
 | _=>
   unfold oT at h;simp only at h;unfold oT;simp only;split at h
   ·exact⟨_,h,λ_=>rfl⟩
   ·exact⟨_,h.2,λ_=>⟨h.1,rfl⟩⟩
   ·exact h.elim
theorem Qk {C:dJ P} {ops:Array Oper} {env:List bO} {ch:List (Nat×Bool)} {g:Option Bool} {o:Oper} {w:A1} {K:(A1->Prop)->A2->Prop} (h:YV C ops env ch g o w K):
 ∃p v,K p v/\p w/\UpC p/\ ∀j,p j->oT C ops env ch g o j (λu=>u=v):=by
 obtain⟨dst,op,type,pos,after,guard⟩:=o;have st:Ph op=true->oT C ops env ch g ⟨dst,op,type,pos,after,guard⟩ w (λv=>K (λ_=>True) v)->
  ∃p v,K p v/\p w/\UpC p/\ ∀j,p j->oT C ops env ch g ⟨dst,op,type,pos,after,guard⟩ j (λu=>u=v):=λS h=>by
  obtain⟨v,k,hv⟩:=KN (o:=⟨dst,op,type,pos,after,guard⟩) S h;exact⟨_,v,k,trivial,λ_ _ _ _=>trivial,λj _=>hv j⟩
 unfold YV at h;cases op with
 |load t x=>
  simp only at h;split at h
  ·rename_i p el i h1 A G;split at h
   ·exact h.elim
   ·rename_i hb;obtain⟨x',T,k⟩:=h;refine⟨_, _,k,T,nN λw w' d l=>pL l d,λj d=>?_⟩;unfold oT;simp only[h1,A,G,if_neg hb];exact⟨x',d,rfl⟩
  ·exact h.elim
 |entry a=>exact h.elim
 |lookup xt m ix ok=>
  simp only at h;split at h
  ·rename_i U V p kd n h1 A G;split at h
   ·rename_i W el X L M N;split at h
    ·rename_i z O;split at h
     ·rename_i Q;obtain⟨x,B,k⟩:=h;refine⟨_, _,k,B,nN λw w' d l=>?_,λj d=>?_⟩
      ·obtain⟨r,es,H,D,E,F⟩:=d;exact⟨r,es,H,D,l.obj E,F⟩
      ·unfold oT;simp only[h1,A,G,L,M,N,O,if_pos Q];exact⟨x,d,rfl⟩
     ·exact h.elim
    ·exact h.elim
   ·exact h.elim
  ·rename_i U V p kd n h1 A G;split at h
   ·rename_i W el X L M N;split at h
    ·rename_i z O;split at h
     ·rename_i Q;obtain⟨x,b,B,k⟩:=h;refine⟨_, _,k,B,nN λw w' d l=>?_,λj d=>?_⟩
      ·obtain⟨r,es,H,D,E,F⟩:=d;exact⟨r,es,H,D,l.obj E,F⟩
      ·unfold oT;simp only[h1,A,G,L,M,N,O,if_pos Q];exact⟨x,b,d,rfl⟩
     ·exact h.elim
    ·exact h.elim
   ·exact h.elim
  ·exact h.elim
 |call c=>
  obtain⟨callee,args,ts⟩:=c;cases callee with
  |value f=>
   simp only at h;split at h
   ·rename_i gg first cap adl h1 A
    split at h
    ·rename_i hc;split at h
     ·rename_i e R;split at h
      ·rename_i pre v Y;refine⟨_,v,h.2,trivial,λ_ _ _ _=>trivial,λj _=>?_⟩;unfold oT;simp only[h1,A,if_pos hc,R,Y];exact⟨h.1,trivial⟩
      ·exact h.elim
     ·rename_i R;obtain⟨x,B,k⟩:=h;refine⟨_, _,k,B,nN λw w' d l=>λj A=>d j (l.trans A),λj d=>?_⟩;unfold oT;simp only[h1,A,if_pos hc,R];exact⟨x,d,rfl⟩
    ·exact h.elim
   ·exact h.elim
  |builtin b=>
   cases b with
   |len=>
    simp only at h;split at h
    ·rename_i p d;obtain⟨n,B,k⟩:=h;refine⟨_, _,k,B,nN λw w' d l=>?_,λj I=>?_⟩
     ·obtain⟨r,es,H,D,E,F⟩:=d;exact⟨r,es,H,D,l.obj E,F⟩
     ·unfold oT;simp only[d];exact⟨n,I,rfl⟩
    ·rename_i d;split at h
     ·rename_i p J;obtain⟨n,B,k⟩:=h;refine⟨_, _,k,B,nN λw w' d l=>?_,λj I=>?_⟩
      ·obtain⟨r,cap,Z,s,m,D,E,F⟩:=d;exact⟨r,cap,Z,s,m,D,l.obj E,F⟩
      ·unfold oT;simp only[d,J];exact⟨n,I,rfl⟩
     ·rename_i J;unfold oT at h;simp only[d,J] at h;split at h
      ·rename_i v hv;refine⟨_,v,h,trivial,λ_ _ _ _=>trivial,λj _=>?_⟩;unfold oT;simp only[d,J,hv]
      ·rename_i p v hv;refine⟨_,v,h.2,trivial,λ_ _ _ _=>trivial,λj _=>?_⟩;unfold oT;simp only[d,J,hv];exact⟨h.1,trivial⟩
      ·exact h.elim
   | _=>exact st rfl h
  | _=>exact st rfl h
 |binOp op t x y yt=>
  simp only at h;split at h
  ·rename_i v hv;refine⟨_,v,h,trivial,λ_ _ _ _=>trivial,λj _=>?_⟩;unfold oT;simp only[hv]
  ·rename_i p v hv;refine⟨_,v,h.2,trivial,λ_ _ _ _=>trivial,λj _=>?_⟩;unfold oT;simp only[hv];exact⟨h.1,trivial⟩
  ·rename_i hv;split at h
   ·rename_i p q d;refine⟨_, _,h.2,h.1,nN λw w' d l=>Je l d,λj I=>?_⟩;unfold oT;simp only[hv,d];exact⟨I,trivial⟩
   ·exact h.elim
 | _=>exact st rfl h
def Xy (C:dJ P) (ops:Array Oper) (N:Nat) (o:Oper) (env:List bO) (w:A1) (K:(A1->Prop)->List bO->Prop):Prop:=
 match gd ops env o with
 |none=>dz 44 o.op
 |some none=>if pf ops N env [] o.dst then xC env o.dst [] none undef (K λ_=>True) else dz 45 o.op
 |some (some (ch,g))=>
  if pf ops N env ch o.dst then YV C ops env ch g o w (λp v=>yU C o v (λv=>xC env o.dst ch g v (K p))) else dz 46 o.op
def YW (C:dJ P) (ops:Array Oper) (N:Nat) (i:Nat) (env:List bO) (w:A1) (K:(A1->Prop)->List bO->Prop):Prop:=
 match ops[i]? with
 |none=>False
 |some ⟨dst,op,type,pos,after,guard⟩=>Xy C ops N ⟨dst,op,type,pos,after,guard⟩ env w K
def A7 (j:Nat) (w:A1):List (Nat×(A1->Prop))->Prop->Prop
 |[],K=>K
 |(W,p)::r,K=>match W.testBit j with
  |true=>A7 j w r K
  |false=>p w/\A7 j w r K
theorem qn {j:Nat} {w:A1}: ∀{l:List (Nat×(A1->Prop))} {K:Prop},A7 j w l K<->(∀e∈l,e.1.testBit j=false->e.2 w)/\K
 |[],K=>by simp[A7]
 |(W,p)::r,K=>by
  unfold A7;cases h:W.testBit j with
  |true
  |false=>simp only[qn,List.forall_mem_cons];grind
def OP (ops:Array Oper):Bool:=ops.toList.all λo=>match o.op with| .select .. | .defer _=>false| _=>true
def sb (i:Nat):Nat:=1 <<< i
theorem yD (i j:Nat):(sb i).testBit j=decide (i=j):=by simp[sb,Nat.one_shiftLeft,Nat.testBit_two_pow]
def A8:List Nat->Nat
 |[]=>0
 |x::r=>sb x ||| A8 r
theorem tT: ∀(l:List Nat) (j:Nat),(A8 l).testBit j=decide (j∈l)
 |[],j=>by simp[A8]
 |x::r,j=>by
  rw[A8,G1,yD,tT]
  grind
theorem and_zero {a b j:Nat} (h:((a &&& b)==0)=true) (c:a.testBit j=true):b.testBit j=false:=by
 have:=congrArg (λm=>m.testBit j) (by simpa using h: )
 grind
theorem Ql {a b:Nat} (h:((a &&& b) != 0)=true): ∃j,a.testBit j=true/\b.testBit j=true:=by
 have h':=by simpa using h
 obtain:=Nat.exists_testBit_of_ne_zero h'
 grind
theorem UF {a b j:Nat} (h:((a &&& b)==a)=true) (c:a.testBit j=true):b.testBit j=true:=by grind
theorem UG {a b:Nat} (h:((a &&& b)==a)=false): ∃j,a.testBit j=true/\b.testBit j=false:=by
 apply Classical.byContradiction;intro;have:a &&& b=a:=by
  apply Nat.eq_of_testBit_eq
  grind
 grind
def Kk (o:Oper):Nat:=A8 ((o.after.toList.filter λe=>DF .any e).map (·.on))
def WY (o:Oper):Nat:=match o.dst with
 |some d=>sb d
 |none=>0
def lkM (ops:Array Oper) (o:Oper):Nat:=A8 (o.looksAt ops)
def TX (L i e:Nat):Bool:= !L.testBit i&&(e &&& L)==e
def IE (L i:Nat):List (Oper×Nat)->Nat->Nat
 |[],W=>W
 |(o,j)::r,W=>IE L i r (if !L.testBit j&&(Kk o &&& (W ||| sb i)) != 0 then W ||| sb j else W)
def FV (ops:Array Oper) (x y:Oper):Bool:=(WY x &&& (lkM ops y ||| WY y))==0&&(WY y &&& lkM ops x)==0
def frM (C:dJ P) (ops:Array Oper) (L i W:Nat) (x:Oper) (Z:List (Oper×Nat)):Bool:=
 Z.all λz=>z.2==i||L.testBit z.2||W.testBit z.2||(FV ops x z.1&&(!Ct C z.1||mfO x))
def nxM (C:dJ P) (Z:List (Oper×Nat)) (L:Nat):Option (Nat×Bool):=
 match Z.find? λz=>TX L z.2 (Kk z.1)&& !Ct C z.1&& !e9 z.1 with
 |some z=>some (z.2,true)
 |none=>match Z.find? λz=>TX L z.2 (Kk z.1) with
  |some z=>some (z.2,false)
  |none=>none
def frS (ops:Array Oper) (L i W:Nat) (x:Oper) (Z:List (Oper×Nat)):Bool:=
 Z.all λz=>z.2==i||L.testBit z.2||W.testBit z.2||FV ops x z.1
inductive Sd where
 |nil|q (i:Nat) (m:Option Nat) (r:Sd)|alt (i:Nat) (r t:Sd)|stop
def pG (C:dJ P) (ops:Array Oper) (Z:List (Oper×Nat)):Nat->Nat->Option Sd
 |0,L=>if Z.all λz=> !TX L z.2 (Kk z.1) then some .nil else none
 |n+1,L=>match nxM C Z L with
  |none=>none
  |some (i,true)=>match ops[i]? with
   |some x=>if TX L i (Kk x)&& !Ct C x then
     if frM C ops L i (IE L i Z 0) x Z then match pG C ops Z n (L ||| sb i) with
      |some l=>some (.q i none l)
      |none=>none
     else if frS ops L i (IE L i Z 0) x Z then match pG C ops Z n (L ||| sb i) with
      |some l=>some (.q i (some (IE L i Z 0)) l)
      |none=>none
     else none
    else none
   |none=>none
  |some (_,false)=>(Z.filter λz=>TX L z.2 (Kk z.1)).foldr (λz c=>match c with
   |none=>none
   |some b=>match pG C ops Z n (L ||| sb z.2) with
    |some a=>some (.alt z.2 a b)
    |none=>none) (some .stop)
def Zy (C:dJ P) (ops:Array Oper):Option Sd:=pG C ops ops.toList.zipIdx ops.size 0
def oo (C:dJ P) (ops:Array Oper) (i:Nat):Bool:=((ops[i]?).map (Ct C)).getD true
def OQ (C:dJ P) (ops:Array Oper) (i:Nat) (w:A1) (l:List (Nat×(A1->Prop))) (K:Prop):Prop:=
 match oo C ops i with
 |true=>A7 i w l K
 |false=>K
def YX (C:dJ P) (ops:Array Oper) (N:Nat) (i:Nat) (a:List (Nat×(A1->Prop))) (env:List bO) (w:A1) (F:List bO->A1->Prop):Prop:=match a with
 |[]=>F_ C ops N i env w F
 |e::a=>F_ C ops N i env w (λenv w=>OQ C ops i w (e::a) (F env w))
def YY (t:Sd) (a b:Prop):Prop:=match t with
 | .stop=>a
 | _=>a/\b
def FW (C:dJ P) (ops:Array Oper) (N:Nat):Sd->List (Nat×(A1->Prop))->List bO->A1->(List bO->A1->Prop)->Prop
 | .nil, _,env,w,K=>K env w
 | .q i none r,a,env,w,K=>rxQ C ops N i env w (λenv=>FW C ops N r a env w K)
 | .q i (some W) r,a,env,w,K=>YW C ops N i env w (λp env=>FW C ops N r ((W,p)::a) env w K)
 | .alt i r t,a,env,w,K=>YY t (YX C ops N i a env w (λenv w=>FW C ops N r a env w K)) (FW C ops N t a env w K)
 | .stop, _, _, _, _=>True
def aaJ (C:dJ P) (ops:Array Oper) (N:Nat) (l:Sd) (env:List bO) (w:A1) (K:List bO->A1->Prop):Prop:=FW C ops N l [] env w K
def YZ (C:dJ P) (ops:Array Oper) (N:Nat) (env:List bO) (w:A1) (K:List bO->A1->Prop):Prop:=
 match Zy C ops with
 |some l=>aaJ C ops N l env w K
 |none=>False
def IT (j:Nat) (x:Sd):Sd->Prop
 | .alt i r t=>(j=i/\x=r)\/IT j x t
 | _=>False
def Valid (C:dJ P) (ops:Array Oper):Nat->Sd->Array Bool->Prop
 |0,t,a=>t= .nil/\B1 .any ops a=[]
 |n+1,t,a=>match t with
  | .q i m r=>i∈B1 .any ops a/\oo C ops i=false/\
    (∃W:Nat->Bool,(∀c,ops[i]? =some c-> ∀j b,ops[j]? =some b->j≠i->a.getD j true=false->W j=false->c.apart ops b=true/\(Ct C b=false\/mfO c=true\/ ∃w,m=some w/\w.testBit j=false))/\
     (∀j,W j=true->a.getD j true=false/\ ∃b,ops[j]? =some b/\ ∃e∈b.after,DF .any e=true/\(e.on=i\/W e.on=true)))/\
    Valid C ops n r (a.setIfInBounds i true)
  | .alt i r d=>i∈B1 .any ops a/\ ∀j∈B1 .any ops a, ∃x,IT j x (.alt i r d)/\Valid C ops n x (a.setIfInBounds j true)
  | _=>False
def AH (ops:Array Oper) (L:Nat) (a:Array Bool):Prop:=a.size=ops.size/\ ∀j,a.getD j false=L.testBit j
theorem AH.un {ops:Array Oper} {L:Nat} {a:Array Bool} (h:AH ops L a) {j:Nat} (b:j<ops.size):a.getD j true=L.testBit j:=by
 rw[<-h.2];have:j<a.size:=by rw[h.1];grind
 grind
theorem AH.set {ops:Array Oper} {L:Nat} {a:Array Bool} (h:AH ops L a) {i:Nat} (hi:i<ops.size):AH ops (L ||| sb i) (a.setIfInBounds i true):=by
 refine⟨by simp[h.1],λj=>?_⟩;rw[G1,yD, <-h.2];by_cases e:i=j
 ·subst e;have:i<a.size:=by rw[h.1];omega
  simp[this]
 simp_all
theorem AH.zero (ops:Array Oper):AH ops 0 (Ee ops.size false):=by
 refine⟨by simp,λj=>?_⟩;simp[In]
theorem qg {ops:Array Oper} {o:Oper} {j:Nat}:(o,j)∈ops.toList.zipIdx<->ops[j]? =some o:=by grind
theorem GM {o:Oper} {j:Nat}:(Kk o).testBit j=true<-> ∃e∈o.after,DF .any e=true/\e.on=j:=by
 grind[Kk,tT]
theorem m7 {ops:Array Oper} {L:Nat} {c:Array Bool} (h:AH ops L c) {i:Nat}:i∈B1 .any ops c<-> ∃o,ops[i]? =some o/\TX L i (Kk o)=true:=by
 unfold B1;rw[Bx,Dn];constructor
 ·rintro⟨hi,hc⟩;rw[h.un hi] at hc;simp only[B4] at hc;have a:=J3 hi;refine⟨ops[i],a,?_⟩;rw[a] at hc;simp only[GG,HB,Gp] at hc;unfold TX;rw[B4];refine⟨hc.1,?_⟩;cases f:(Kk _ &&& L)==Kk _ with
  |true=>rfl
  |false=>
   obtain⟨j,h1,g⟩:=UG f;obtain⟨e,d,hb,rfl⟩:=GM.1 h1;have:=hc.2 e d;rw[hb,h.2,g] at this;cases this
 ·rintro⟨o,a,b⟩;have hi:=(Be.1 a).1;unfold TX at b;rw[B4] at b;refine⟨hi,?_⟩;rw[h.un hi,B4];refine⟨b.1,?_⟩;rw[a];simp only[GG,HB,Gp];intro e d;rw[h.2];cases hb:DF .any e with
  |false=>rfl
  |true=>rw[UF b.2 (GM.2 (by grind))];rfl
theorem Ex {L i:Nat}: ∀(Z:List (Oper×Nat)) (W j:Nat),W.testBit j=true->(IE L i Z W).testBit j=true
 |[], _, _,h=>h
 |k::r,W,j,h=>by
  refine Ex r _ j ?_
  grind
theorem Pj {L i:Nat}: ∀(Z:List (Oper×Nat)) (W:Nat),(∀x,(IE L i Z W).testBit x=true->W.testBit x=true\/(L.testBit x=false/\ ∃o,(o,x)∈Z/\ ∃k,(Kk o).testBit k=true/\(k=i\/(IE L i Z W).testBit k=true)))
 |[], _, _,h=> .inl h
 |(o,j)::r,W,x,h=>by
  unfold IE at h ⊢;rcases Pj r _ x h with h1|⟨h1,o',b,c⟩
  ·split at h1
   ·rename_i hc;rw[G1,yD,FU,decide_eq_true_eq] at h1;rcases h1 with h1|rfl
    ·exact .inl h1
    ·rw[B4] at hc;obtain⟨k,d,a⟩:=Ql hc.2;rw[G1,yD,FU,decide_eq_true_eq] at a
     grind[I1,Ex]
   ·exact .inl h1
  grind
theorem Pm {ops:Array Oper} {x y:Oper} (h:FV ops x y=true):x.apart ops y=true:=by
 unfold FV at h;rw[B4] at h;obtain⟨h1,b⟩:=h;unfold Oper.apart;rw[B4];constructor
 ·cases a:x.dst with
  |none=>rfl
  |some d=>
   have hb:(WY x).testBit d=true:=by simp[WY,a,yD]
   have:=and_zero h1 hb;rw[G1,Bool.or_eq_false_iff] at this;obtain⟨a1,c⟩:=this;unfold lkM at a1;rw[tT] at a1
   grind[WY,yD]
 ·cases a:y.dst with
  |none=>rfl
  |some d=>
   have hb:(WY y).testBit d=true:=by simp[WY,a,yD]
   grind[and_zero,lkM,tT]
theorem Jg {F:Nat->Option Sd}: ∀(l:List (Oper×Nat)) (t:Sd),l.foldr (λz e=>match e with
 |none=>none
 |some b=>match F z.2 with
  |some a=>some (.alt z.2 a b)
  |none=>none) (some Sd.stop)=some t->(l=[]/\t= .stop)\/(∃i r d,t= .alt i r d/\(∃o,(o,i)∈l)/\ ∀z∈l, ∃x,IT z.2 x t/\F z.2=some x)
 |[],t,h=>by
  grind
 |z::l,t,h=>by
  rw[List.foldr_cons] at h;split at h
  ·cases h
  ·rename_i b hb;split at h
   ·rename_i a f;cases h;refine .inr ⟨z.2,a,b,rfl,by grind,λy c=>?_⟩;rcases CF.1 c with rfl|c
    ·exact⟨a,.inl (by grind),f⟩
    ·rcases Jg l b hb with ⟨rfl, _⟩|⟨i,r,d, _, _,g⟩
     ·cases c
     ·obtain⟨x,h1,j⟩:=g y c;exact⟨x,.inr h1,j⟩
   grind
theorem qo {C:dJ P} {ops:Array Oper}: ∀(n L:Nat) (m:Array Bool) (l:Sd),AH ops L m->pG C ops ops.toList.zipIdx n L=some l->Valid C ops n l m
 |0,L,m,l,a,h=>by
  simp only[pG] at h;split at h
  ·rename_i hc;cases h;refine⟨rfl,?_⟩;rw[List.eq_nil_iff_forall_not_mem];intro j b;obtain⟨o,c,u⟩:=(m7 a).1 b;have:=DZ.1 hc (o,j) (qg.2 c);rw[u] at this;cases this
  ·cases h
 |n+1,L,m,l,a,h=>by
  have E: ∀i j,(IE L i ops.toList.zipIdx 0).testBit j=true->m.getD j true=false/\ ∃d,ops[j]? =some d/\ ∃e∈d.after,DF .any e=true/\(e.on=i\/(IE L i ops.toList.zipIdx 0).testBit e.on=true):=by
   intro i j f;rcases Pj ops.toList.zipIdx 0 j f with h1|⟨h1,o,p,k,J,K⟩
   ·simp at h1
   ·have c:=qg.1 p;obtain⟨e,v,hb,rfl⟩:=GM.1 J;exact⟨by rw[a.un (Be.1 c).1];exact h1,o,c,e,v,hb,K⟩
  simp only[pG] at h;split at h
  ·cases h
  ·rename_i i _;split at h
   ·rename_i x g;have hi:i<ops.size:=(Be.1 g).1;split at h
    ·rename_i hc;rw[B4,Gn] at hc;have G:oo C ops i=false:=by unfold oo;rw[g];exact hc.2
     split at h
     ·rename_i w;split at h
      ·rename_i l' y;cases h;have A:=qo n _ _ l' (a.set hi) y;refine⟨(m7 a).2 ⟨x,g,hc.1⟩,G,⟨λj=>(IE L i ops.toList.zipIdx 0).testBit j,?_,λj=>E i j⟩,A⟩;intro M q j d b B s f;rw[g] at q;cases q;have:=DZ.1 w (d,j) (qg.2 b);rw[a.un (Be.1 b).1] at s;have D:(IE L i ops.toList.zipIdx 0).testBit j=false:=f;simp only[s,D,IJ,FU,beq_iff_eq,B4,Gn] at this;rcases this with h1|h1
       ·exact absurd h1 B
       ·exact⟨Pm h1.1,h1.2.imp id .inl⟩
      ·cases h
     ·split at h
      ·rename_i w;split at h
       ·rename_i l' y;cases h;have A:=qo n _ _ l' (a.set hi) y;refine⟨(m7 a).2 ⟨x,g,hc.1⟩,G,⟨λj=>(IE L i ops.toList.zipIdx 0).testBit j,?_,λj=>E i j⟩,A⟩;intro M q j d b B s f;rw[g] at q;cases q;have:=DZ.1 w (d,j) (qg.2 b);rw[a.un (Be.1 b).1] at s;have D:(IE L i ops.toList.zipIdx 0).testBit j=false:=f;simp only[s,D,IJ,FU,beq_iff_eq] at this;rcases this with h1|h1
        ·exact absurd h1 B
        ·exact⟨Pm h1,.inr (.inr ⟨_,rfl,f⟩)⟩
       ·cases h
      ·cases h
    ·cases h
   ·cases h
  ·rename_i t;rcases Jg (F:=λj=>pG C ops ops.toList.zipIdx n (L ||| sb j)) _ l h with ⟨v, _⟩|⟨i,r,O,rfl,⟨o,c⟩,N⟩
   ·
    exfalso;unfold nxM at t;split at t
    ·cases t
    ·split at t
     ·rename_i z H;have h1:=N9 H;have p:=List.mem_of_find?_eq_some H;have:z∈(ops.toList.zipIdx).filter λz=>TX L z.2 (Kk z.1):=Bx.2 ⟨p,h1⟩;rw[v] at this;cases this
     ·cases t
   ·rw[Bx] at c;refine⟨(m7 a).2 ⟨o,qg.1 c.1,c.2⟩,λj b=>?_⟩;obtain⟨d,I,u⟩:=(m7 a).1 b;obtain⟨x,h1,p⟩:=N (d,j) (Bx.2 ⟨qg.2 I,u⟩);exact⟨x,h1,qo n _ _ x (a.set (Be.1 I).1) p⟩
section
variable {r:Option Nat} {S:Nat->Option (Option A2)} {ops:Array Oper} {N:Nat} {D:List Deferred} {Q:Exit->Act->A1->Prop}
theorem Zz {C:dJ P} {i:Nat} {env:List bO} {a:Act} {w:A1} {K:List bO->Prop} (l:Wr S ops) (b:Fit S ops N D env a) (h:rxQ C ops N i env w K):
 ∃o u c_,ops[i]? =some o/\K c_/\Fit S ops N D c_ (a.put o.dst u)/\fY P ops o u a w:=by
 unfold rxQ at h;cases k:ops[i]? with
 |none=>simp[k] at h
 |some o=>
  simp only[k,aaI,nM] at h;have e:=l o (by grind);split at h
  ·exact AC h
  ·rename_i f;split at h
   ·rename_i c;exact⟨o,undef, _,rfl,h,b.put c e rfl (λ_=>rfl) (by grind),.inr ⟨CX b f,rfl⟩⟩
   ·exact AC h
  ·rename_i ch g f;obtain⟨j,m⟩:=OO b f;split at h
   ·rename_i c;obtain⟨v,d,n⟩:=yW b j h;replace d:=sy d;by_cases hc:j_ ops a.tmps ch
    ·exact⟨o,v, _,rfl,d,b.put c e j (λ_=>rfl) (λp=>absurd hc p),.inl ⟨m.2 hc,n hc⟩⟩
    ·refine⟨o,undef, _,rfl,d,b.put c e j (λq=>absurd q hc) (λ_=>rfl),.inr ⟨?_,rfl⟩⟩
     simp_all
   ·exact AC h
theorem UH {C:dJ P} {i:Nat} {env:List bO} {a:Act} {w:A1} {K:(A1->Prop)->List bO->Prop} (t:Wr S ops) (c:Fit S ops N D env a) (h:YW C ops N i env w K):
 ∃o u c_ p,ops[i]? =some o/\K p c_/\Fit S ops N D c_ (a.put o.dst u)/\p w/\UpC p/\ ∀b,p b->fY P ops o u a b:=by
 unfold YW at h;cases q:ops[i]? with
 |none=>simp[q] at h
 |some o=>
  simp only[q,Xy,nM] at h;have j:=t o (by grind);split at h
  ·exact AC h
  ·rename_i k;split at h
   ·rename_i d;exact⟨o,undef, _, _,rfl,h,c.put d j rfl (λ_=>rfl) (by grind),trivial,λ_ _ _ _=>trivial,λ_ _=> .inr ⟨CX c k,rfl⟩⟩
   ·exact AC h
  ·rename_i ch g k;obtain⟨l,x⟩:=OO c k;split at h
   ·rename_i d;obtain⟨p,v,f,r,s,y⟩:=Qk h;replace f:=sy f;have z: ∀b,p b->j_ ops a.tmps ch-> ∀w',Ext b w'->dt P o a w' v:=λb m hc=>by
     obtain⟨B,e,n⟩:=yW c l (y b m);subst e;exact n hc
    by_cases hc:j_ ops a.tmps ch
    ·exact⟨o,v, _,p,rfl,f,c.put d j l (λ_=>rfl) (λA=>absurd hc A),r,s,λb m=> .inl ⟨x.2 hc,z b m hc⟩⟩
    ·refine⟨o,undef, _,p,rfl,f,c.put d j l (λn=>absurd n hc) (λ_=>rfl),r,s,λb _=> .inr ⟨?_,rfl⟩⟩
     simp_all
   ·exact AC h
def A9 (a:List (Nat×(A1->Prop))) (j:Nat) (w:A1):Prop:= ∀e∈a,e.1.testBit j=false->e.2 w
theorem Jh {C:dJ P} {a:List (Nat×(A1->Prop))} {env:List bO} {w:A1} {K:List bO->A1->Prop} {j:Nat} {x:Sd}: ∀{t:Sd},FW C ops N t a env w K->IT j x t->YX C ops N j a env w (λenv w=>FW C ops N x a env w K)
 | .alt i r t,h,hi=>by
   rw[FW] at h;have h1:YX C ops N i a env w λenv w=>FW C ops N r a env w K:=by
    grind[YY]
   rcases hi with ⟨rfl,rfl⟩|hi
   ·omega
   ·refine Jh ?_ hi;unfold YY at h;split at h
    ·cases hi
    grind
theorem ZA {C:dJ P} (G:Wr S ops) (AG:OP ops=true) (U: ∀c a w,¬ Q (.panic c) a w): ∀(n:Nat) (l:Sd) (f:Array Bool) (d:List (Nat×(A1->Prop))) (env:List bO) (a:Act) (w:A1) (K:List bO->A1->Prop),(∀e∈d,UpC e.2)->Fit S ops N D env a->
 Valid C ops n l f->FW C ops N l d env w K->(∀env a w w',K env w->Fit S ops N D env a->Ext w w'->Q .normal a w')->
 mv r P ops Q (oo C ops) (A9 d) n f a w:=by
 have V: ∀(j:Nat) (o:Oper),ops[j]? =some o->(∀cs b,o.op≠ .select cs b)/\ ∀c,o.op≠ .defer c:=λj o g=>by
  have:=DZ.1 AG o (Array.mem_toList_iff.2 (K1 g));constructor
  ·intro cs b he;simp[he] at this
  ·intro c he;simp[he] at this
 intro n
 induction n with
 |zero=>
  intro l f d env a w K _ s hv h v w' H;obtain⟨rfl,hv⟩:=hv;exact⟨hv,v env a w w' h s H⟩
 |succ n I=>
  intro l f d env a w K z s hv h v;cases l with
  |nil=>exact hv.elim
  |stop=>exact hv.elim
  |q i m l=>
   obtain⟨X,Y,⟨W,Z,X3⟩,A⟩:=hv;cases m with
   |none=>
    obtain⟨o,u,c_,g,x,y,B⟩:=Zz G s h;have J:=I l (f.setIfInBounds i true) d c_ (a.put o.dst u) w K z y A x v;exact uw (W:=W) (a0:=a) g Y V U (λ_ _ h=>h) n f a w (λj L k M O R=>by
     have:=Z o g j L k M O R;refine⟨this.1,?_⟩;rcases this.2 with h|h|⟨w,h, _⟩
     ·exact .inl (by unfold oo;rw[k];exact h)
     ·exact .inr (.inl h)
     ·cases h) X3 X ⟨rfl,rfl⟩ B J
   |some T=>
    obtain⟨o,u,c_,p,g,x,y,hp,hu,B⟩:=UH G s h;have J:=I l (f.setIfInBounds i true) ((T,p)::d) c_ (a.put o.dst u) w K (λe he=>by
     rcases CF.1 he with rfl|he
     ·exact hu
     ·exact z e he) y A x v
    exact uw (W:=W) (a0:=a) (T':=A9 ((T,p)::d)) g Y V U (λ_ _ h e he=>h e (N7 _ he)) n f a w (λj L k M O R=>by
     have:=Z o g j L k M O R;refine⟨this.1,?_⟩;rcases this.2 with h|h|⟨w,h,hb⟩
     ·exact .inl (by unfold oo;rw[k];exact h)
     ·exact .inr (.inl h)
     ·cases h;exact .inr (.inr λw1 hT=>B w1 (hT (T,p) I1 hb))) X3 X ⟨rfl,rfl⟩ (B w hp) J
  |alt i l0 t=>
   obtain⟨hri,mH⟩:=hv;intro w' H;refine⟨λhe=>absurd hri (by rw[he];simp),λj k=>?_⟩;obtain⟨l,lQ,A⟩:=mH j k;have h:=Jh h lQ;have h':F_ C ops N j env w (λenv w=>(oo C ops j=true->A9 d j w)/\FW C ops N l d env w K):=by
    cases d with
    |nil=>
     have h:F_ C ops N j env w (λenv w=>FW C ops N l [] env w K):=h
     simp_all[oo,A9,FW]
    |cons E F=>
     have e:(λ(env:List bO) (w:A1)=>(oo C ops j=true->A9 (E::F) j w)/\FW C ops N l (E::F) env w K)=λenv w=>OQ C ops j w (E::F) (FW C ops N l (E::F) env w K):=by
      funext env w;unfold OQ;cases oo C ops j with
      |true=>exact propext ⟨λh=>qn.2 ⟨h.1 rfl,h.2⟩,λh=>⟨λ_=>(qn.1 h).1,(qn.1 h).2⟩⟩
      |false=>simp
     rw[e];exact h
   refine wpOpIn_mono (λa1 w1 hh=>?_) (Ew G s h' H);obtain⟨hx,c_,wr,⟨X7,x⟩,y,xq⟩:=hh;exact⟨hx,λhe e hm hb=>z e hm wr w1 ((X7 he) e hm hb) xq,nY (I l _ d c_ a1 wr K z y A x v) xq⟩
theorem UI {C:dJ P} (d:Wr S ops) (e:OP ops=true) (f: ∀c a w,¬ Q (.panic c) a w) (env:List bO) (a:Act) (w:A1) (K:List bO->A1->Prop) (g:Fit S ops N D env a)
 (h:YZ C ops N env w K) (i: ∀env a w w',K env w->Fit S ops N D env a->Ext w w'->Q .normal a w'):
 mv r P ops Q (oo C ops) (A9 []) ops.size (Ee ops.size false) a w:=by
 unfold YZ aaJ at h;split at h
 ·rename_i l b;have hv:=qo _ 0 _ l (AH.zero ops) b
  grind[ZA]
 grind
end
variable {P:AP}
def kl (l:List bO):List bO:=
 match l.filter λe=> !e.ch.isEmpty with
 |[]=>l
 |bad=>l.filter λe=>e.ch.isEmpty&& !(bad.any λb=>b.t==e.t)
def plain (l:List bO):Prop:= ∀e∈l,e.ch=[]/\e.g=none
theorem iP {p:bO->Bool}: ∀{l:List bO} {t:Nat} {e:bO},bX (l.filter p) t=some e->(∀x∈l,x.t=t->p x=true)->bX l t=some e
 |x::r,t,e,h,d=>by
  by_cases a:p x=true
  ·simp only[N_,a,if_true,bX] at h;simp only[bX];split
   grind
   ·rename_i b
    simp_all
    exact iP h (by grind)
  ·simp only[N_,a] at h;have c:x.t≠t:=λb=>a (by grind);simp only[bX,c];exact iP h (by grind)
theorem yY: ∀{l:List bO} {t:Nat} {e:bO},bX l t=some e->e.t=t
 |x::r,t,e,h=>by
  simp[bX] at h;split at h
  grind
  ·exact yY h
variable {S:Nat->Option (Option A2)} {N:Nat} {D:List Deferred} {env:List bO} {a:Act}
theorem Fit.Qm {ops ops':Array Oper} (h:Fit S ops N D env a) (b:plain env):Fit S ops' N D env a:=by
 have nil: ∀(o),j_ o a.tmps []:=λo g=>by simp
 refine⟨h.off,h.size,h.qL,λt e c _=>h.yes t e c (by rw[(b e (bU c)).1];grind),λt e c f=>absurd (by rw[(b e (bU c)).1];grind) f,λe d=>?_,h.Cd⟩;rw[(b e d).2];exact(b e d).1
theorem Bm {ops ops':Array Oper} (h:Fit S ops N D env a):Fit S ops' N D (kl env) a/\plain (kl env):=by
 have m: ∀e∈env,e.ch=[]->e.g=none:=λe b hc=>by
  have:=h.FR e b;cases j:e.g with
  |none=>rfl
  |some γ=>rw[j] at this;exact absurd hc this.1
 have nil: ∀(o:Array Oper),j_ o a.tmps []:=λo x f=>by cases f
 have i: ∀e∈kl env,e.ch=[]/\e∈env:=by
  intro e b;unfold kl at b;split at b
  simp_all
  grind
 have k: ∀t e,bX (kl env) t=some e->bX env t=some e:=by
  intro t e b;unfold kl at b;split at b
  ·exact b
  ·rename_i n p;refine iP b λx f q=>?_;have r:=bU b
   grind[yY]
 have d:plain (kl env):=λe b=>⟨(i e b).1,by grind⟩;refine⟨⟨h.off,h.size,h.qL,λt e l _=>h.yes t e (k t e l) (by grind[bU]),by grind[bU],λe c=>?_,λe c=>h.Cd e (i e c).2⟩,d⟩;rw[(d e c).2];exact(d e c).1
def jG:Code->Option Nat
 | .region id _ _=>some id
 | .seq a b=>match jG a with
   |some i=>some i
   |none=>jG b
 | .cond _ a b=>match jG a with
   |some i=>some i
   |none=>jG b
 | .block _ b=>jG b
 | .loop b=>jG b
 | _=>none
def Uq (ops:Array Oper):List Nat:=ops.toList.filterMap (·.dst)
def writes:Code->List Nat
 | .region _ ops _=>Uq ops
 | .seq a b=>writes a++writes b
 | .cond _ a b=>writes a++writes b
 | .block _ b=>writes b
 | .loop b=>writes b
 | _=>[]
abbrev a6:=List (Nat×El)
def k8:(l:a6)->oN (l.map (·.2))->List bO
 |[], _=>[]
 |(t,s)::r,x=>⟨t,[],none,s.gO x.1,none⟩::k8 r x.2
def pk:(l:a6)->List bO->Option (oN (l.map (·.2)))
 |[], _=>some ()
 |(t,s)::r,env=>match bX env t with
  |some e=>match s.proj e.v,pk r env with
   |some x,some y=>some (x,y)
   | _, _=>none
  |none=>none
def XA (op:Op):Bool:=match op with
 | .send .. | .select .. =>true
 | _=>false
def abk (ops:Array Oper):Bool:=ops.toList.any λo=>XA o.op
def ma (n k:Nat):Array Bool:=⟨(B2 n).map λi=>Ek i k⟩
def Ur (ops:Array Oper):Bool:=(B2 ops.size).all λk=>B1 .any ops (ma ops.size k)==[k]
theorem Ft {n k:Nat} (h:k<n):(ma n k).setIfInBounds k true=ma n (k+1):=by
 simp[ma];apply List.ext_getElem
 ·simp
 ·intro i a;rw[List.getElem_set];simp only[List.getElem_map,List.getElem_range];split
  ·subst_vars
   simp
  ·rw[Bool.eq_iff_iff,Nat.blt_eq,Nat.blt_eq];omega
theorem Ji {ops:Array Oper} (h:Ur ops=true): ∀(fuel t k:Nat) (a:List Nat),k+fuel=ops.size->FS .any ops fuel t (ma ops.size k) a=a.reverse++Gi k fuel
 |0,t,k,a, _=>by simp[FS]
 |fuel+1,t,k,a,c=>by
  have b:=by
   simp[Ur] at h;exact h k (by omega)
  change (match (B1 .any ops _)[t % (B1 .any ops _).length]? with
   |some i=>FS .any ops fuel _ _ _
   |none=>a.reverse)= _
  rw[b];simp[Nat.mod_one,GJ];rw[Ft (by omega),Ji h fuel _ _ _ (by omega)];simp[I8]
def CmR (P:AP) (o:Oper) (a:Act) (w:A1) (v:A2) (w':A1):Prop:=
 ∃cases bl sh,(execOp a.eval o).run P w= .ok (.comm cases bl sh) w/\
  ∀fr cs es,stepG P true (Hb fr cs) w= .comm (Hb fr cs) cases bl sh w es->step P (S2 (Hb fr cs) w)= .next (S2 (Hb (fr.finish v) cs) w')
def TL (P:AP) (ops:Array Oper) (Q:Act->A1->Prop):List Nat->Act->A1->Prop
 |[],a,w=>Q a w
 |i::l,a,w=> ∃o,ops[i]? =some o/\B5 o (yielded ops a.tmps)=true/\(∀c,o.op≠ .defer c)/\
  ∃v w',((execOp a.eval o).run P w= .ok (.value v) w'\/CmR P o a w v w')/\TL P ops Q l (a.put o.dst v) w'
theorem Ey {ops:Array Oper} {Q b:Act->A1->Prop} (c: ∀a w,Q a w->b a w): ∀(l:List Nat) (a:Act) (w:A1),TL P ops Q l a w->TL P ops b l a w
 |[],a,w,h=>c a w h
 |i::l,a,w,h=>by
  obtain⟨o,d,e,f,v,w',g,j⟩:=h;exact⟨o,d,e,f,v,w',g,Ey c l _ _ j⟩
theorem m8 {r:Option Nat} {ops:Array Oper} {Q:Act->A1->Prop}: ∀(l:List Nat) (a:Act) (w:A1),TL P ops Q l a w-> ∀(b:Frame) (k:List Item) (cs:List Frame),
 ∃a' w',Q a' w'/\StepsIn (Machine.fenced P (WF r)) P (lone (b.atR a (.inRegion ops l::k)) cs w) (lone (b.atR a' k) cs w')
 |[],a,w,h,b,k,cs=>⟨a,w,h,.one (fenced_calm (n:=0) (Xx r _) (Jf r _) rfl) stepR_region_end⟩
 |i::l,a,w,h,b,k,cs=>by
  obtain⟨o,c,j,m,v,w',p,q⟩:=h;obtain⟨a',s,t,u⟩:=m8 l _ _ q b k cs;have d:=stepGR_op (P:=P) (b:=b) (k:=k) (cs:=cs) (w:=w) (rest:=l) c j;rw[Oper.semAt_eq _ _ _ m] at d;have f:(b.atR a (.inRegion ops (i::l)::k)).finish v=b.atR (a.put o.dst v) (.inRegion ops l::k):=by rw[Frame.finish_atR,c];rfl
  have h0:(lone (b.atR a (.inRegion ops (i::l)::k)) cs w).fenced P (WF r):=fenced_oper (n:=0) (Xx r _) (Jf r _) c (λ_ _=>trivial);refine⟨a',s,t,.head h0 ?_ u⟩;rcases p with e|⟨g,bl,sh,e,hc⟩
  ·refine step_lone_go ?_;rw[d, <-f];simp[stepG.apply,e]
  ·rw[<-f];have key: ∀x:Sem Next,x.run P w= .ok (.comm g bl sh) w-> ∃es,stepG.apply P true (b.atR a (.inRegion ops (i::l)::k)) cs none x w= .comm _ g bl sh w es:=λx y=>by
    simp only[stepG.apply,Sem.runT_eq,y,GStep.after];exact⟨_,rfl⟩
   obtain⟨es,z⟩:=key _ e;exact hc _ _ es (d.trans z)
theorem AV {r:Option Nat} {id:Nat} {ops:Array Oper} {d:Bool} {Q:Exit->Act->A1->Prop} {a:Act} {w:A1} (j:P.follows .mixedOrders=true) (l:Ur ops=true)
 (h: ∀w',Ext w w'->TL P ops (Q .normal) (B2 ops.size) a w'):(Code.region id ops d).wpIn (WF r) 0 P Q a w:=by
 intro b k cs _ hb f;cases d with
 |false=>
  obtain⟨a',w',c,g⟩:=m8 _ _ _ (h w (Ext.refl w)) b k cs;exact⟨.normal,a',w',c,StepsIn.head (fenced_calm hb f rfl) stepR_region g⟩
 |true=>
  obtain⟨a',w',c,g⟩:=m8 (r:=r) _ _ _ (h _ (Ext.drew w)) b k cs;refine⟨.normal,a',w',c,StepsIn.head (fenced_calm hb f rfl) (stepR_region_draw) ?_⟩;have e: ∀t,GH (P.follows .mixedOrders) ops t=B2 ops.size:=λt=>by
   simp only[GH,j,Kt];have m:Ee ops.size false=ma ops.size 0:=by
    apply Array.ext
    ·simp[ma]
    ·have: ∀i,Ek i 0=false:=λi=>by rfl
     simp[ma,this]
   grind[Ji,Nz]
  grind
def IU (op:Op):Bool:=match op with
 | .load .. | .fieldAddr .. | .indexAddr .. | .build .. | .field .. | .extract .. | .binOp .. | .move _| .assign _| .convert .. =>true
 | _=>false
theorem Qn {s:Sem A2} {f:Az} {args:Array A2} {w w':A1} (h:(do pure (Next.value (<-s)):Sem Next).run P w= .ok (.enter f args) w'):False:=by
 cases a:s.run P w with
 |ok
 |halt=>simp_all
theorem Bo {o:Oper} {a:Act} {w:A1} {v:A2} (h:IU o.op=true) (d:dt P o a w v):(execOp a.eval o).run P w= .ok (.value v) w/\ ∀c,o.op≠ .defer c:=by
 obtain⟨dst,op,type,pos,after,guard⟩:=o;have e: ∀f args w',(execOp a.eval ⟨dst,op,type,pos,after,guard⟩).run P w≠ .ok (.enter f args) w':=λf args w' b=>by
  cases op<;>simp[IU,Ea] at h<;>first|exact Qn b|(simp[execOp] at b;done)
 refine⟨?_,λc hc=>by subst hc;cases h⟩
 grind[dt]
def cop (P:AP) (ρ:Operand->Option A2) (op:Op) (w:A1) (K:A2->A1->Prop):Prop:=match op with
 | .send ch x=>match ρ ch,ρ x with
   |some (.chan p),some v=> ∀w1,Ext w w1-> ∃r cap a s m,p=some r/\ChO w1 r cap a s m/\a.length<cap/\K undef (w1.putObj r (.chan cap ⟨a++[v]⟩ false (s+1) m false))
   | _, _=>dz 130 op
 | .select cs bl=>match bl,cs.toList with
   |false,[c]=>match c.send,ρ c.chan,P.info? c.elem,vd P c.elem with
    |none,some (.chan p),some i,some el=>match i.zero with
     |some z=> ∀w1,Ext w w1-> ∃r cap a s m,p=some r/\ChO w1 r cap a s m/\(a=[]->K (.tuple ⟨[.int .i64 (-1),.bool false,z]⟩) w1)/\
      ∀v vs,a=v::vs-> ∃x:el.T,v=el.gO x/\K (.tuple ⟨[.int .i64 0,.bool true,el.gO x]⟩) (w1.putObj r (.chan cap ⟨vs⟩ false s (m+1) false))
     |none=>dz 131 op
    | _, _, _, _=>dz 132 op
   | _, _=>dz 133 op
 | _=>dz 134 op
theorem zN (w:A1) (r cap:Nat) (a:Array A2) (cl:Bool) (s m:Nat) (b:Bool):w.setChan r cap a cl s m b=w.putObj r (.chan cap a cl s m b):=rfl
theorem Pq {ρ:Operand->Option A2} {a:Act} (d: ∀x v,ρ x=some v->a.eval x=v) {o:Oper} {w w':A1} {K:A2->A1->Prop} (h:cop P ρ o.op w K) (g:Ext w w'):
 (∀c,o.op≠ .defer c)/\ ∃v j,CmR P o a w' v j/\K v j:=by
 obtain⟨dst,op,type,pos,after,guard⟩:=o;unfold cop at h;simp only at h;split at h
 ·rename_i ch x;refine⟨λc hc=>(by cases hc),?_⟩;split at h
  ·rename_i p v e hv;obtain⟨r,cap,k,s,m,rfl,hc,l,f⟩:=h w' g;refine⟨_, _,⟨_, _, _,(by simp only[execOp,d _ _ e,d _ _ hv];rfl),λfr cs es b=>?_⟩,f⟩;have:=Go.Conc.step_lone_send_room (z':= .tuple #[]) b hc (by simpa using l);rw[this,zN];simp
  ·exact h.elim
 ·rename_i cs bl;refine⟨λc hc=>(by cases hc),?_⟩;split at h
  ·rename_i c fh;split at h
   ·rename_i p i el n e hi y;split at h
    ·rename_i z q;obtain⟨r,cap,k,s,m,rfl,hc,h0,h1⟩:=h w' g;have t:cs= #[c]:=by cases cs;simp_all
     have dQ:(execOp a.eval ⟨dst,.select cs false,type,pos,after,guard⟩).run P w'= .ok (.comm #[T0 r z] false .select) w':=by
      subst t;have u:(zeroValue c.elem).run P w'= .ok z w':=by simp[zeroValue,fJ hi,q]
      simp[execOp,n,d _ _ e,u,T0]
     cases k with
     |nil=>exact⟨_, _,⟨_, _, _,dQ,λfr cs es b=>Go.Conc.step_lone_select_default b hc⟩,h0 rfl⟩
     |cons v vs=>
      obtain⟨x,rfl,f⟩:=h1 v vs rfl;refine⟨_, _,⟨_, _, _,dQ,λfr cs es b=>?_⟩,f⟩;have:=Go.Conc.step_lone_select_recv_buf b hc (by simp);rw[this,zN];simp[goInt]
    ·exact h.elim
   ·exact h.elim
  ·exact h.elim
 ·exact h.elim
def rxC (C:dJ P) (ops:Array Oper) (N:Nat):List Nat->List bO->A1->(List bO->A1->Prop)->Prop
 |[],env,w,K=>K env w
 |i::r,env,w,K=>match ops[i]? with
  |none=>False
  |some ⟨dst,op,type,pos,after,guard⟩=>match guard with
   |some _=>dz 135 op
   |none=>if pf ops N env [] dst then match XA op with
     |true=>cop P (yl env []) op w (λv a=>xC env dst [] none v (λenv=>rxC C ops N r env a K))
     |false=>if IU op then oT C ops env [] none ⟨dst,op,type,pos,after,none⟩ w (λv=>xC env dst [] none v (λenv=>rxC C ops N r env w K)) else dz 136 op
    else dz 137 op
theorem GN {ops:Array Oper} {C:dJ P} (f:Wr S ops): ∀(l:List Nat) (env:List bO) (a:Act) (w w':A1) (K:List bO->A1->Prop),Fit S ops N D env a->rxC C ops N l env w K->Ext w w'->
 TL P ops (λa1 w1=> ∃c_ j,K c_ j/\Fit S ops N D c_ a1/\Ext j w1) l a w'
 |[],env,a,w,w',K,b,h,c=>⟨env,w,h,b,c⟩
 |i::l,env,a,w,w',K,b,h,c=>by
  unfold rxC at h;split at h
  ·exact h.elim
  ·rename_i dst op type pos after guard k;have n:=f _ (K1 k);split at h
   ·exact h.elim
   ·split at h
    ·rename_i p;have m: ∀v,Fit S ops N D (mj env dst [] none v) (a.put dst v):=λv=>b.put p n rfl (λ_=>rfl) (λd=>absurd eJ d);refine⟨_,k,(by simp[B5]),?_⟩;split at h
     ·obtain⟨d,v,q,hc,e⟩:=Pq (o:=⟨dst,op,type,pos,after,none⟩) (a:=a) (λx v r=>b.ev eJ r) h c;rw[nM] at e;exact⟨d,v,q,.inr hc,GN f l _ _ _ _ K (m v) e (Ext.refl _)⟩
     ·split at h
      ·rename_i s;obtain⟨v,e,t⟩:=yW (g:=none) b rfl h;obtain⟨u,d⟩:=Bo s (t eJ w' c);rw[nM] at e;exact⟨d,v,w',.inl u,GN f l _ _ _ _ K (m v) e c⟩
      ·exact h.elim
    ·exact h.elim
def nG (o:Oper):List Nat:=(o.after.toList.filter λe=>DF .any e).map (·.on)
def GO (o:Oper):List Nat:=o.op.operands.toList.filterMap λ| .tmp t=>some t| _=>none
def abm (op:Op):Bool:=match op with
 | .select .. =>true
 | _=>false
def XB (ops:Array Oper) (i:Nat):Bool:=match ops[i]? with
 |none=>false
 |some o=>o.guard.isNone&& !abm o.op&&((GO o).all λt=>(B2 ops.size).all λj=>dE ops j != some t||(nG o).contains j)&&((nG o).all λj=>Ek j i)&&
  (o.dst.isNone||(B2 i).all λj=>dE ops j != o.dst)&&(Nat.beq (i+1) ops.size||(B2 ops.size).any λk=>Ek i k&&match ops[k]? with
   |some x=>(nG x).contains i
   |none=>false)
def Gb (ops:Array Oper):Bool:=(B2 ops.size).all (XB ops)
def wpS (P:AP) (ops:Array Oper) (Q:Act->A1->Prop):List Nat->Act->A1->Prop
 |[], _, _=>False
 |[i],a,w=> ∃o,ops[i]? =some o/\(∀c,o.op≠ .defer c)/\ ∃v w',CmR P o a w v w'/\Q (a.put o.dst v) w'
 |i::j::l,a,w=> ∃o,ops[i]? =some o/\(∀c,o.op≠ .defer c)/\ ∃v,(execOp a.eval o).run P w= .ok (.value v) w/\wpS P ops Q (j::l) (a.put o.dst v) w
theorem Ez {ops:Array Oper} {Q d:Act->A1->Prop} (e: ∀a w,Q a w->d a w): ∀(l:List Nat) (a:Act) (w:A1),wpS P ops Q l a w->wpS P ops d l a w
 |[i],a,w,h=>by
  obtain⟨o,b,c,v,w',hc,h⟩:=h;exact⟨o,b,c,v,w',hc,e _ _ h⟩
 |i::j::l,a,w,h=>by
  obtain⟨o,b,c,v,f,h⟩:=h;exact⟨o,b,c,v,f,Ez e _ _ _ h⟩
def Dv (ops:Array Oper) (a:Act) (v:Nat->A2) (k:Nat):Nat->Act
 |0=>a
 |i+1=>(Dv ops a v k i).put (dE ops (k+i)) (v i)
theorem Bp {ops:Array Oper} {a:Act} {v:Nat->A2} {k:Nat}: ∀i,Dv ops (a.put (dE ops k) (v 0)) (λj=>v (j+1)) (k+1) i=Dv ops a v k (i+1)
 |0=>rfl
 |i+1=>by
  show(Dv ops _ _ _ i).put _ _=(Dv ops a v k _).put _ _;rw[Bp,show k+1+i=k+(i+1) by omega]
theorem GP {ops:Array Oper} {i:Nat} {o:Oper} (h:ops[i]? =some o):dE ops i=o.dst:=by grind[dE]
theorem Jj {ops:Array Oper} {Q:Act->A1->Prop} {w:A1}: ∀(d k:Nat) (a:Act),wpS P ops Q (Gi k (d+1)) a w->
 ∃(v:Nat->A2),(∀i,i<d-> ∃o,ops[k+i]? =some o/\(∀c,o.op≠ .defer c)/\(execOp (Dv ops a v k i).eval o).run P w= .ok (.value (v i)) w)/\
  ∃o,ops[k+d]? =some o/\(∀c,o.op≠ .defer c)/\ ∃u w',CmR P o (Dv ops a v k d) w u w'/\Q ((Dv ops a v k d).put o.dst u) w'
 |0,k,a,h=>by
  obtain⟨o,h1,f,u,w',b,l⟩:=h;exact⟨λ_=>undef,by grind,o,h1,f,u,w',b,l⟩
 |d+1,k,a,h=>by
  rw[I8] at h;have e:Gi (k+1) (d+1)=(k+1)::Gi (k+1+1) d:=I8;rw[e] at h;obtain⟨o,h1,m,g,f,b⟩:=h;rw[<-e] at b;obtain⟨v,q,n,r,p,u,w',k4,k5⟩:=Jj d (k+1) _ b
  let j:Nat->A2:=λi=>match i with
   |0=>g
   |i+1=>v i
  have sh: ∀i,Dv ops (a.put o.dst g) v (k+1) i=Dv ops a j k (i+1):=λi=>by
   rw[<-Bp,GP h1]
  refine⟨j,λi hi=>?_,n,by grind,p,u,w',?_,?_⟩
  ·cases i with
   |zero=>exact⟨o,h1,m,f⟩
   |succ i=>
    grind
  ·rw[<-sh d];exact k4
  ·rw[<-sh d];exact k5
structure SR (ops:Array Oper) (m:Nat) (v:Nat->A2) (a:Act) (S:Nat->Prop) (b:Act):Prop where
 df:b.defers=a.defers
 sz:b.tmps.size=a.tmps.size
 yes: ∀j t,j<m->S j->dE ops j=some t->b.tmps[t]? =if t<a.tmps.size then some (v j) else none
 no: ∀t,(∀j,j<m->S j->dE ops j≠some t)->b.tmps[t]? =a.tmps[t]?
theorem SR.step {ops:Array Oper} {m:Nat} {v:Nat->A2} {a b:Act} {S S':Nat->Prop} (h:SR ops m v a S b) {i:Nat} (hi:i<m) (l: ∀j,S' j<->S j\/j=i) (o: ∀j t,j<m->dE ops j=some t->dE ops i=some t->j=i):SR ops m v a S' (b.put (dE ops i) (v i)):=by
 cases n:dE ops i with
 |none=>
  refine⟨h.df,h.sz,λj t k f g=>?_,λt g=>h.no t (by grind)⟩;rcases(l j).1 f with f|rfl
  ·exact h.yes j t k f g
  grind
 |some d=>
  have p:(b.put (some d) (v i)).tmps.size=a.tmps.size:=by simp[CD,h.sz]
  refine⟨h.df,p,λj t k f g=>?_,λt g=>?_⟩
  ·by_cases e:t=d
   ·subst e;have:j=i:=o j t k g n;subst this;simp only[CD];rw[Array.getElem?_setIfInBounds];simp[h.sz]
   ·rcases(l j).1 f with f|rfl
    ·have:(b.put (some d) (v i)).tmps[t]? =b.tmps[t]? :=by simp[CD,DD (λc=>e c.symm)]
     rw[this];exact h.yes j t k f g
    grind
  ·have q:d≠t:=λe=>g i hi ((l i).2 (.inr rfl)) (by rw[n,e]);have:(b.put (some d) (v i)).tmps[t]? =b.tmps[t]? :=by simp[CD,DD q]
   rw[this];exact h.no t (by grind)
theorem SR.eq {ops:Array Oper} {m:Nat} {v:Nat->A2} {a b c:Act} {S T:Nat->Prop} (h:SR ops m v a S b) (k:SR ops m v a T c) (i: ∀j,j<m->(S j<->T j)):b=c:=by
 have:=by
  apply IQ;apply List.ext_getElem?;intro t;have e:b.tmps[t]? =c.tmps[t]? :=by
   by_cases l: ∃j,j<m/\S j/\dE ops j=some t
   ·obtain⟨j,d,f,g⟩:=l;rw[h.yes j t d f g,k.yes j t d ((i j d).1 f) g]
   ·rw[h.no t (by grind),k.no t (by grind)]
  simpa
 cases b;cases c;have h1:=h.df.trans k.df.symm
 grind
theorem fC {ops:Array Oper} (a:Gb ops=true) {i:Nat} {o:Oper} (d:ops[i]? =some o):
 o.guard=none/\(∀cs b,o.op≠ .select cs b)/\(∀t∈GO o, ∀j,j<ops.size->dE ops j=some t->j∈nG o)/\(∀j∈nG o,j<i)/\(∀j t,j<i->dE ops j=some t->dE ops i≠some t)/\
  (i+1=ops.size\/ ∃k x,i<k/\ops[k]? =some x/\i∈nG x):=by
 have hi:=(Be.1 d).1;unfold Gb at a;rw[DZ] at a;have h:=a i (Dn.2 hi);unfold XB at h;rw[d] at h;simp at h;obtain⟨⟨⟨⟨⟨h1,f⟩,l⟩,g⟩,m⟩,n⟩:=h;refine⟨h1,λcs b e=>(by rw[e] at f;cases f),by grind,g,λj t p q c=>?_,?_⟩
 ·grind[GP]
 grind
theorem Bq {ops:Array Oper} {a:Array Bool} (d:a.size=ops.size) {i:Nat}:i∈B1 .any ops a<-> ∃o,ops[i]? =some o/\a.getD i false=false/\ ∀j∈nG o,a.getD j false=true:=by
 have c:i<ops.size->(a.getD i true=a.getD i false):=λh=>by simp[In,d,h]
 unfold B1;rw[Bx,Dn];constructor
 ·rintro⟨hi,hc⟩;obtain⟨o,b⟩: ∃o,ops[i]? =some o:=⟨_,J3 hi⟩;rw[b,c hi] at hc;simp only[GG,HB,B4,Gn,Gp] at hc;refine⟨o,b,hc.1,λj f=>?_⟩;obtain⟨e,g,rfl⟩:=GI.1 f
  grind
 ·rintro⟨o,b,h1,k⟩;have hi:i<ops.size:=(Be.1 b).1;refine⟨hi,?_⟩;rw[b,c hi];simp only[GG,HB,B4,Gn,Gp,FU];refine⟨h1,λe g=>?_⟩;by_cases hb:DF .any e=true
  ·exact .inr (k e.on (GI.2 (by grind)))
  grind
theorem zd {l:Array Bool} {i j:Nat} (hi:i<l.size):(l.setIfInBounds i true).getD j false=true<->l.getD j false=true\/j=i:=by
 by_cases j=i
 simp_all
 ·simp
  grind
theorem UJ {ops:Array Oper} {Q:Act->A1->Prop} {a:Act} {w:A1} (z:Gb ops=true) {m:Nat} (hm:ops.size=m+1) (h:wpS P ops Q (B2 (m+1)) a w):
 ∀(s t:Nat) (f:Array Bool) (b:Act),f.size=ops.size->(B2 ops.size).countP (λj=> !f.getD j false)=s->f.getD m false=false->
  (∀i o,ops[i]? =some o->f.getD i false=true-> ∀j∈nG o,f.getD j false=true)->
  (∃v:Nat->A2,(∀i,i<m-> ∃o,ops[i]? =some o/\(∀c,o.op≠ .defer c)/\(execOp (Dv ops a v 0 i).eval o).run P w= .ok (.value (v i)) w)/\
   (∃o,ops[m]? =some o/\(∀c,o.op≠ .defer c)/\ ∃u w',CmR P o (Dv ops a v 0 m) w u w'/\Q ((Dv ops a v 0 m).put o.dst u) w')/\SR ops m v a (λj=>f.getD j false=true) b)->
  TL P ops Q (FS .any ops s t f []) b w:=by
 intro s
 induction s with
 |zero=>
  intro t f b y hc B _ _;exfalso;rw[O2] at hc;have:=hc m (Dn.2 (by omega));rw[B] at this;exact this rfl
 |succ s ih=>
  intro t f b y hc B T J;obtain⟨v,hv,⟨K,C,U,u,w',V,W⟩,E⟩:=J;have X: ∀i j t,i<m->j<m->dE ops i=some t->dE ops j=some t->j=i:=λi j t hi g h1 p=>by
   obtain⟨oi,l, _⟩:=hv i hi;obtain⟨oj,F, _⟩:=hv j g;rcases Nat.lt_trichotomy i j with q|q|q
   ·exact absurd p ((fC z F).2.2.2.2.1 i t q h1)
   ·exact q.symm
   ·exact absurd h1 ((fC z l).2.2.2.2.1 j t q p)
  have L: ∀k,k<=m->SR ops m v a (λj=>j<k) (Dv ops a v 0 k):=by
   intro k
   induction k with
   |zero=>exact λ_=>⟨rfl,rfl,λj t _ hs=>absurd hs (Nat.not_lt_zero _),λt _=>rfl⟩
   |succ k M=>
    intro r;have:=(M (by omega)).step (S':=λj=>j<k+1) (i:=k) (by omega) (λj=>by omega) (λj t g h1 p=>X k j t (by omega) g p h1);show SR ops m v a _ ((Dv ops a v 0 k).put (dE ops (0+k)) (v k));rw[KA];exact this
  have same: ∀i o,ops[i]? =some o->i<=m->(∀j∈nG o,f.getD j false=true)->execOp b.eval o=execOp (Dv ops a v 0 i).eval o:=λi o l hi D=>by
   obtain⟨_,hns,Ki,Y, _, _⟩:=fC z l;refine execOp_congr o hns λx J=>?_;cases x with
   |tmp t=>
    have ht:t∈GO o:=List.mem_filterMap.2 ⟨.tmp t,by simpa using J,rfl⟩;have key:b.tmps[t]? =(Dv ops a v 0 i).tmps[t]? :=by
     by_cases g: ∃j,j<ops.size/\dE ops j=some t
     ·obtain⟨j,Z,N⟩:=g;have G:=Ki t ht j Z N;have O:=Y j G;rw[E.yes j t (by omega) (D j G) N,(L i hi).yes j t (by omega) O N]
     ·rw[E.no t λj Av _ R=>g ⟨j,by omega,R⟩,(L i hi).no t λj Av _ R=>g ⟨j,by omega,R⟩]
    simp only[FY,FX,key]
   | _=>rfl
  have wt: ∀i o,ops[i]? =some o-> ∀c:Act,B5 o (yielded ops c.tmps)=true:=λi o l c=>by
   unfold B5;rw[(fC z l).1]
  simp only[FS];change TL P ops Q (match (B1 .any ops f)[t % (B1 .any ops f).length]? with
   |some i=>FS .any ops s (t / (B1 .any ops f).length) (f.setIfInBounds i true) [i]
   |none=>[].reverse) b w
  cases hi:(B1 .any ops f)[t % (B1 .any ops f).length]? with
  |none=>
   exfalso;have F':B1 .any ops f=[]:=by
    cases hr:B1 .any ops f with
    |nil=>rfl
    |cons x xs=>
     rw[hr] at hi;have Y:t % (x::xs).length<(x::xs).length:=Nat.mod_lt _ (by simp);rw[List.getElem?_eq_none_iff] at hi;omega
   have least: ∀k,k<=m->(∀j,j<k->f.getD j false=true)->f.getD k false=true:=λk r g=>by
    cases A:f.getD k false with
    |true=>rfl
    |false=>
     exfalso;obtain⟨o,l⟩: ∃o,ops[k]? =some o:=⟨_,J3 (by omega)⟩;have:k∈B1 .any ops f:=(Bq y).2 ⟨o,l,A,λj G=>g j ((fC z l).2.2.2.1 j G)⟩;rw[F'] at this;cases this
   have all: ∀k,k<=m->f.getD k false=true:=by
    intro k
    induction k using KF with
    | _ k M=>exact λr=>least k r λj g=>M j g (by omega)
   rw[all m (DR _)] at B;cases B
  |some i=>
   simp only[];rw[linearise_go_acc,List.reverse_singleton,List.singleton_append];have hir:=List.mem_of_getElem? hi;obtain⟨o,l,lY,D⟩:=(Bq y).1 hir;have H:i<ops.size:=(Be.1 l).1;by_cases him:i=m
   ·subst him;rw[C] at l;cases l;have all: ∀d k,k+d=i->k<i->f.getD k false=true:=by
     intro d
     induction d using KF with
     | _ d ihd=>
       intro k r hki;obtain⟨ok,jO, _⟩:=hv k hki;rcases(fC z jO).2.2.2.2.2 with q|⟨j,x,hkj,I,vf⟩
       ·omega
       ·have Z:j<ops.size:=(Be.1 I).1;by_cases O:j=i
        ·subst O;rw[C] at I;cases I;exact D k vf
        ·exact T j x I (ihd (i - j) (by omega) j (by omega) (by omega)) k vf
    have heq:b=Dv ops a v 0 i:=E.eq (L i (DR _)) λj g=>⟨λ_=>g,λ_=>all (i - j) j (by omega) g⟩;have hf:s=0:=by
     have h1:(B2 ops.size).countP (λj=> !f.getD j false)<=1:=by
      rw[hm,OC,IG];have:(B2 i).countP (λj=> !f.getD j false)=0:=O2.2 λj g=>by
       rw[all (i - j) j (by have:=Dn.1 g;omega) (Dn.1 g)];decide
      rw[this];exact Nat.le_trans (by rw[KA];exact List.countP_le_length) (DR 1)
     omega
    subst hf;refine⟨K,C,wt i K C b,U,u,w',.inr ?_,?_⟩
    ·rw[heq];exact V
    ·rw[heq];exact W
   ·have S:i<m:=by omega
    obtain⟨o',F,hn,dQ⟩:=hv i S;rw[l] at F;cases F;refine⟨o,l,wt i o l b,hn,v i,w,.inl (by rw[same i o l (by omega) D];exact dQ),?_⟩;have Oa:(f.setIfInBounds i true).size=ops.size:=by simp[y]
    refine ih _ _ _ Oa ?_ ?_ ?_ ⟨v,hv,⟨K,C,U,u,w',V,W⟩,?_⟩
    ·
     have ZB: ∀n,i<n->(B2 n).countP (λj=> !f.getD j false)=(B2 n).countP (λj=> !(f.setIfInBounds i true).getD j false)+1:=by
      intro n
      induction n with
      |zero=>intro h;omega
      |succ n ihn=>
       intro lQ;rw[OC,IG,IG];by_cases e:i=n
       ·subst e;have h1:(B2 i).countP (λj=> !(f.setIfInBounds i true).getD j false)=(B2 i).countP (λj=> !f.getD j false):=by
         refine List.countP_congr λj g=>?_;have g:=Dn.1 g;have:(f.setIfInBounds i true).getD j false=f.getD j false:=by
          simp only[FX];rw[DD (by omega)]
         rw[this]
        have p:(f.setIfInBounds i true).getD i false=true:=(zd (by rw[y];exact H)).2 (.inr rfl);rw[h1,Gj,Gj,p,lY];rfl
       ·have p:(f.setIfInBounds i true).getD n false=f.getD n false:=by
         simp only[FX];rw[DD e]
        rw[ihn (by omega),Gj,Gj,p];omega
     have:=ZB ops.size H;omega
    ·have:(f.setIfInBounds i true).getD m false=f.getD m false:=by
      simp only[FX];rw[DD him]
     rw[this];exact B
    ·intro k x r A j g;rw[zd (by rw[y];exact H)] at A ⊢;rcases A with A|rfl
     ·exact .inl (T k x r A j g)
     ·rw[l] at r;cases r;exact .inl (D j g)
    ·have:=E.step (S':=λj=>(f.setIfInBounds i true).getD j false=true) S (λj=>zd (by rw[y];exact H)) (λj t g h1 p=>X i j t S g p h1);rw[GP l] at this;exact this
theorem XD {ops:Array Oper} {Q:Act->A1->Prop} (c:Gb ops=true) {w:A1}: ∀(l:List Nat) (a:Act),wpS P ops Q l a w->TL P ops Q l a w
 |[i],a,h=>by
  obtain⟨o,b,d,v,w',hc,e⟩:=h;exact⟨o,b,by unfold B5;rw[(fC c b).1],d,v,w',.inr hc,e⟩
 |i::j::l,a,h=>by
  obtain⟨o,b,d,v,f,g⟩:=h;exact⟨o,b,by unfold B5;rw[(fC c b).1],d,v,w,.inl f,XD c _ _ g⟩
theorem AW {r:Option Nat} {id:Nat} {ops:Array Oper} {f:Bool} {Q:Exit->Act->A1->Prop} {a:Act} {w:A1} (s:P.follows .mixedOrders=true) (g:Gb ops=true) (h0:0<ops.size)
 (h: ∀w',Ext w w'->wpS P ops (Q .normal) (B2 ops.size) a w'):(Code.region id ops f).wpIn (WF r) 0 P Q a w:=by
 intro b k cs _ hb l;cases f with
 |false=>
  obtain⟨a',w',c,d⟩:=m8 (r:=r) _ _ _ (XD g _ _ (h w (Ext.refl w))) b k cs;exact⟨.normal,a',w',c,StepsIn.head (fenced_calm hb l rfl) stepR_region d⟩
 |true=>
  have e:=h _ (Ext.drew w);obtain⟨m,n⟩: ∃m,ops.size=m+1:=⟨ops.size - 1,by omega⟩;have key: ∀t,TL P ops (Q .normal) (GH (P.follows .mixedOrders) ops t) a {w with drawn:=w.drawn+1}:=λt=>by
   simp only[GH,s,Bool.true_or,if_true,Kt];rw[n] at e;have x:=Jj m 0 a (by rw[<-Nz];exact e);obtain⟨v,hv,o,A,y,u,w',hc,c⟩:=x;have p: ∀j,(Ee ops.size false).getD j false=false:=λj=>by
    by_cases z:j<ops.size<;>simp[In,z]
   refine UJ g n e ops.size t _ a (by simp) ?_ (p m) (λi o _ q=>by rw[p] at q;cases q) ⟨v,λi hi=>?_,⟨o,?_,y,u,w',hc,c⟩,⟨rfl,rfl,by simp_all,λt _=>rfl⟩⟩
   simp_all
   grind
   grind
  obtain⟨a',w',c,d⟩:=m8 (r:=r) _ _ _ (key _) b k cs;exact⟨.normal,a',w',c,StepsIn.head (fenced_calm hb l rfl) (stepR_region_draw) d⟩
def rxP (C:dJ P) (ops:Array Oper) (N:Nat):List Nat->List bO->A1->(List bO->A1->Prop)->Prop
 |[], _, _, _=>False
 |i::r,env,w,K=>match ops[i]? with
  |none=>False
  |some ⟨dst,op,type,pos,after, _⟩=>if pf ops N env [] dst then match r with
    |[]=>cop P (yl env []) op w (λv a=>xC env dst [] none v (λenv=>K env a))
    |j::l=>if IU op then oT C ops env [] none ⟨dst,op,type,pos,after,none⟩ w (λv=>xC env dst [] none v (λenv=>rxP C ops N (j::l) env w K)) else dz 138 op
   else dz 139 op
theorem Pr {ops:Array Oper} {C:dJ P} (k:Gb ops=true) (m:Wr S ops): ∀(l:List Nat) (env:List bO) (a:Act) (w w':A1) (K:List bO->A1->Prop),Fit S ops N D env a->rxP C ops N l env w K->Ext w w'->
 wpS P ops (λa1 w1=> ∃c_ n,K c_ n/\Fit S ops N D c_ a1/\Ext n w1) l a w'
 |[], _, _, _, _, _, _,h, _=>h.elim
 |i::r,env,a,w,w',K,e,h,f=>by
  unfold rxP at h;split at h
  ·exact h.elim
  ·rename_i dst op type pos after guard d;have s:=m _ (K1 d);have t:guard=none:=(fC k d).1;subst t;split at h
   ·rename_i u;have p: ∀v,Fit S ops N D (mj env dst [] none v) (a.put dst v):=λv=>e.put u s rfl (λ_=>rfl) (λb=>absurd eJ b);split at h
    ·obtain⟨b,v,q,hc,c⟩:=Pq (o:=⟨dst,op,type,pos,after,none⟩) (a:=a) (λx v y=>e.ev eJ y) h f;rw[nM] at c;exact⟨_,d,b,v,q,hc, _,q,c,p v,Ext.refl _⟩
    ·rename_i j l;split at h
     ·rename_i z;obtain⟨v,c,A⟩:=yW (g:=none) e rfl h;obtain⟨B,b⟩:=Bo (o:=⟨dst,op,type,pos,after,none⟩) z (A eJ w' f);rw[nM] at c;exact⟨_,d,b,v,B,Pr k m (j::l) _ _ _ _ K (p v) c f⟩
     ·exact h.elim
   ·exact h.elim
def OS (C:dJ P) (N:Nat) (ops:Array Oper) (a:Bool) (env:List bO) (w:A1) (K:List bO->A1->Prop):Prop:=
 if abk ops then
  if Ur ops then rxC C ops N (B2 ops.size) env w (λenv w=>jF (kl env) λenv=>K env w)
  else if Gb ops&&Ek 0 ops.size then rxP C ops N (B2 ops.size) env w (λenv w=>jF (kl env) λenv=>K env w) else False
 else if a then
  if OP ops then YZ C ops N env w (λenv w=>jF (kl env) λenv=>K env w) else False
 else rxL C ops N (B2 ops.size) env w (λenv w=>jF (kl env) λenv=>K env w)
inductive Md where
 |run|to (b:Nat) (K:List bO->A1->Prop)|WZ (b:Nat)
def atR (b:Nat) (y:Code):Bool:=match jG y with
 |some i=>Nat.beq i b
 |none=>false
def Gc (b:Nat):Code->Option Code
 | .seq _ y=>match atR b y with
   |true=>some y
   |false=>Gc b y
 | _=>none
def oZ (b:Nat):Code->List Nat
 | .seq x y=>writes x++(match atR b y with
   |true=>[]
   |false=>oZ b y)
 | _=>[]
def aaL (b:Nat):Code->Bool
 | .seq x y=>match atR b x with
   |true=>true
   |false=>aaL b y
 |c=>atR b c
def abn (aR:Nat->a6) (c y:Code):Option (Nat×a6):=match jG c with
 |none=>none
 |some a=>match aR (1000000+a) with
  |[]=>none
  |(b, _)::sl=>match aaL b y with
   |true=>some (b,sl)
   |false=>none
def Ov (sl:a6) (J:oN (sl.map (·.2))->A1->Prop) (env:List bO) (w:A1):Prop:=match pk sl env with
 |some s=>J s w
 |none=>False
def cA (C:dJ P) (aR:Nat->a6) (N:Nat):Code->Md->List bO->A1->(List bO->A1->Prop)->(Nat->List bO->A1->Prop)->(List bO->A1->Prop)->Prop
 | .skip,.run,env,w,Kn, _, _=>Kn env w
 | .region _ ops g,.run,env,w,Kn, _, _=>OS C N ops g env w Kn
 | .seq x y,m,env,w,Kn,Kx,Kr=>match m with
   | .run=>match abn aR x y with
     |none=>cA C aR N x .run env w (λenv w=>cA C aR N y .run env w Kn Kx Kr) Kx Kr
     |some (b,sl)=> ∃J:oN (sl.map (·.2))->A1->Prop,
      cA C aR N x .run env w (λenv w=>match atR b y with
       |true=>Ov sl J env w
       |false=>cA C aR N y (.to b (Ov sl J)) env w Kn Kx Kr) Kx Kr/\
      ∀s w1,J s w1->jF (k8 sl s++env.filter λe=> !(oZ b (.seq x y)).contains e.t) λc_=>match atR b y with
       |true=>cA C aR N y .run c_ w1 Kn Kx Kr
       |false=>cA C aR N y (.WZ b) c_ w1 Kn Kx Kr
   | .to b K=>cA C aR N x .run env w (λenv w=>match atR b y with
    |true=>K env w
    |false=>cA C aR N y (.to b K) env w Kn Kx Kr) Kx Kr
   | .WZ b=>match atR b y with
    |true=>cA C aR N y .run env w Kn Kx Kr
    |false=>cA C aR N y (.WZ b) env w Kn Kx Kr
 | .cond c x y,.run,env,w,Kn,Kx,Kr=>match yl env [] c with
   |some (.bool b)=>aI b (cA C aR N x .run env w Kn Kx Kr) (cA C aR N y .run env w Kn Kx Kr)
   | _=>False
 | .block id x,.run,env,w,Kn,Kx,Kr=>cA C aR N x .run env w Kn (λa env w=>if a=id then Kn env w else Kx a env w) Kr
 | .loop x,.run,env,w, _,Kx,Kr=>
   let sl:=aR ((jG x).getD 0)
   match pk sl env with
   |none=>False
   |some h=> ∃I:Nat->oN (sl.map (·.2))->A1->Prop,(∃n, ∀w1,Ext w w1->I n h w1)/\
    ∀n s w1,I n s w1->jF (k8 sl s++env.filter λe=> !(writes x).contains e.t) λc_=>cA C aR N x .run c_ w1
     (λi j=>match pk sl i with
      |some k=> ∀d,Ext j d-> ∃f,f<n/\I f k d
      |none=>False) Kx Kr
 | .exit id,.run,env,w, _,Kx, _=>Kx id env w
 | .ret,.run,env,w, _, _,Kr=>Kr env w
 | _, _, _, _, _, _, _=>False
@[reducible] def sa (C:dJ P) (aR:Nat->a6) (N:Nat) (c:Code) (env:List bO) (w:A1) (Kn:List bO->A1->Prop) (Kx:Nat->List bO->A1->Prop) (Kr:List bO->A1->Prop):Prop:=
 cA C aR N c .run env w Kn Kx Kr
def Qp (S:Nat->Option (Option A2)) (N:Nat) (D:List Deferred) (Kn:List bO->A1->Prop) (Kx:Nat->List bO->A1->Prop) (Kr:List bO->A1->Prop):Exit->Act->A1->Prop
 | .normal,a,w=> ∃env b,Kn env b/\plain env/\Fit S #[] N D env a/\Ext b w
 | .exit id,a,w=> ∃env b,Kx id env b/\plain env/\Fit S #[] N D env a/\Ext b w
 | .ret,a,w=> ∃env b,Kr env b/\plain env/\Fit S #[] N D env a/\Ext b w
 | _, _, _=>False
theorem UK {ops:Array Oper} (h: ∀k∈Uq ops,S k=none):Wr S ops:=λo a k b=>h k (by
 simp[Uq]
 grind)
theorem Qo {r:Option Nat} {C:dJ P} {id:Nat} {ops:Array Oper} {b:Bool} {w w':A1} {Kn:List bO->A1->Prop} {Kx:Nat->List bO->A1->Prop} {Kr:List bO->A1->Prop}
 (m: ∀k∈Uq ops,S k=none) (n:plain env) (o:Fit S #[] N D env a) (h:OS C N ops b env w Kn) (d:Ext w w'):
 (Code.region id ops b).wpIn (WF r) 0 P (Qp S N D Kn Kx Kr) a w':=by
 have e:Fit S ops N D env a:=o.Qm n;have f:=UK m;have p: ∀env a w w',Kn (kl env) w->Fit S ops N D env a->Ext w w'->Qp S N D Kn Kx Kr .normal a w':=λenv a w w' q l s=>
  ⟨_,w,q,(Bm (ops':= #[]) l).2,(Bm l).1,s⟩
 have t: ∀c a w,¬ Qp S N D Kn Kx Kr (.panic c) a w:=λ_ _ _ h=>h;simp only[OS,jL] at h;split at h
 ·split at h
  ·rename_i u;refine AV C.mixed u λg i=>?_;have:=GN (C:=C) f _ env a w g _ e h (d.trans i)
   grind[Ey]
  ·split at h
   ·rename_i j
    simp_all
    refine AW C.mixed j.1 j.2 λg i=>?_;have:=Pr (C:=C) j.1 f _ env a w g _ e h (d.trans i)
    grind[Ez]
   ·exact h.elim
 cases b with
 |false=>exact wpIn_region (by grind[Pf])
 |true=>
  simp only[if_true] at h;split at h
  ·rename_i v;exact wpIn_region_any C.mixed (zM _ _ _ _ (nY (UI (C:=C) f v t env a w _ e h p) (d.trans (Ext.drew _))))
  ·exact AC h
theorem tU: ∀{l:a6} {s:oN (l.map (·.2))} {e:bO},e∈k8 l s->e.ch=[]/\e.g=none
 |sc::r,s,e,h=>by
  simp[k8] at h;rcases h with rfl|h;simp
  ·exact tU h
theorem CM: ∀{l:a6} {s:oN (l.map (·.2))} {e:bO},e∈k8 l s->e.k=none
 |t::r,s,e,h=>by
  simp[k8] at h;rcases h with rfl|h
  ·rfl
  ·exact CM h
theorem mh: ∀{l m:List bO} {t:Nat} {e:bO},bX (l++m) t=some e->(bX l t=some e)\/(bX l t=none/\bX m t=some e)
 |[],m,t,e,h=> .inr ⟨rfl,h⟩
 |x::r,m,t,e,h=>by
  simp[bX] at h ⊢;split at h
  grind
  ·rename_i a;rw[if_neg a];exact mh h
theorem qp: ∀{l:a6} {env:List bO} {s:oN (l.map (·.2))} {t:Nat} {e:bO},pk l env=some s->bX (k8 l s) t=some e-> ∃e',bX env t=some e'/\e'.v=e.v
 |(t0,sc)::r,env,s,t,e,a,h=>by
  simp only[pk] at a;split at a
  ·rename_i c d;split at a
   ·rename_i x y f b;cases a;simp only[k8,bX] at h;split at h
    ·grind[El.ir]
    ·exact qp b h
   ·cases a
  ·cases a
theorem ze {l:List bO} {p:bO->Bool} {t:Nat} {e:bO} (h:bX (l.filter p) t=some e):e∈l/\p e=true:=by
 have:=bU h;simpa
theorem zO {F:Fence} {m:Nat} {Q:Exit->Act->A1->Prop} {c:Code} (R:Nat->Act->A1->Prop) {n0:Nat} {a:Act} {w:A1} (h0:R n0 a w)
 (round: ∀n a w,R n a w->c.wpIn F m P (Exit.then (λa' w'=> ∃d,d<n/\R d a' w') Q) a w):(Code.loop c).wpIn F m P Q a w:=by
 intro b k cs i hb g;have key: ∀j a w,R j a w->
  ∃e a' w',Q e a' w'/\ArrivesIn (Machine.fenced P F) P (lone (b.atR a (.code c:: .inLoop c::k)) cs w) b k cs e a' w':=by
  intro j
  induction j using KF with
  | _ j l=>
    intro a w o;obtain⟨e,p,q,f,h⟩:=round j a w o b _ cs i hb g;cases e with
    |normal=>
     obtain⟨d,r,s⟩:=f;obtain⟨t,u,v,x,y⟩:=l d r _ _ s;exact⟨t,u,v,x,.of_steps (StepsIn.trans h (.one (fenced_calm hb g rfl) stepR_inLoop)) y⟩
    |exit
    |goto
    |ret
    |panic
    |outgrown=>exact⟨_,p,q,f,‹_›⟩
 obtain⟨e,a',w',f,h⟩:=key _ a w h0;exact⟨e,a',w',f,.of_steps (.one (fenced_calm hb g rfl) stepR_loop) h⟩
theorem ZC (b:Nat) (c:Code): ∀t:Nat,t∈oZ b c->t∈writes c:=by
 induction c with
 |seq=>
  grind[oZ,writes]
 | _=>intro t h;cases h
structure Y5 (P:AP) (r:Option Nat) (C:dJ P) (aR:Nat->a6) (N:Nat) (D:List Deferred) (c:Code):Prop where
 run: ∀(S:Nat->Option (Option A2)) (env:List bO) (a:Act) (w w':A1) (Kn:List bO->A1->Prop) (Kx:Nat->List bO->A1->Prop) (Kr:List bO->A1->Prop),
  (∀k∈writes c,S k=none)->plain env->Fit S #[] N D env a->cA C aR N c .run env w Kn Kx Kr->Ext w w'->c.wpIn (WF r) 0 P (Qp S N D Kn Kx Kr) a w'
 to: ∀(b:Nat) (K:List bO->A1->Prop) (S:Nat->Option (Option A2)) (env:List bO) (a:Act) (w w':A1) (Kn:List bO->A1->Prop) (Kx:Nat->List bO->A1->Prop) (Kr:List bO->A1->Prop) (Q:Exit->Act->A1->Prop),
  (∀k∈oZ b c,S k=none)->plain env->Fit S #[] N D env a->cA C aR N c (.to b K) env w Kn Kx Kr->Ext w w'->(∀id a w,Qp S N D Kn Kx Kr (.exit id) a w->Q (.exit id) a w)->(∀a w,Qp S N D Kn Kx Kr .ret a w->Q .ret a w)->
  (∀y c_ a1 w1 Ax,Gc b c=some y->K c_ w1->plain c_->Fit S #[] N D c_ a1->Ext w1 Ax->y.wpIn (WF r) 0 P Q a1 Ax)->c.wpIn (WF r) 0 P Q a w'
 WZ: ∀(b:Nat) (S:Nat->Option (Option A2)) (env:List bO) (a:Act) (w w':A1) (Kn:List bO->A1->Prop) (Kx:Nat->List bO->A1->Prop) (Kr:List bO->A1->Prop) (y:Code),
  Gc b c=some y->(∀k∈writes c,S k=none)->plain env->Fit S #[] N D env a->cA C aR N c (.WZ b) env w Kn Kx Kr->Ext w w'->y.wpIn (WF r) 0 P (Qp S N D Kn Kx Kr) a w'
theorem Y5.of {r:Option Nat} {C:dJ P} {aR:Nat->a6} {c:Code} (h: ∀(S:Nat->Option (Option A2)) (env:List bO) (a:Act) (w w':A1) (Kn:List bO->A1->Prop) (Kx:Nat->List bO->A1->Prop) (Kr:List bO->A1->Prop),
 (∀k∈writes c,S k=none)->plain env->Fit S #[] N D env a->cA C aR N c .run env w Kn Kx Kr->Ext w w'->c.wpIn (WF r) 0 P (Qp S N D Kn Kx Kr) a w')
 (h1: ∀b K env w Kn Kx Kr,¬ cA C aR N c (.to b K) env w Kn Kx Kr) (d: ∀b env w Kn Kx Kr,¬ cA C aR N c (.WZ b) env w Kn Kx Kr):Y5 P r C aR N D c:=
 ⟨h,by grind,by grind⟩
theorem Hj {r:Option Nat} {C:dJ P} {aR:Nat->a6}: ∀c:Code,Y5 P r C aR N D c:=by
 intro c
 induction c with
 |skip=>exact .of (λS env a w w' Kn Kx Kr _ g f h l=>wpIn_skip ⟨env,w,h,g,f,l⟩) (λ_ _ _ _ _ _ _ h=>h) (λ_ _ _ _ _ _ h=>h)
 |region id ops draw=>exact .of (λS env a w w' Kn Kx Kr u g f h l=>Qo u g f h l) (λ_ _ _ _ _ _ _ h=>h) (λ_ _ _ _ _ _ h=>h)
 |seq x y TZ M=>
  refine⟨?_,?_,?_⟩
  ·intro S env a w w' Kn Kx Kr u g f h l;simp only[cA] at h;split at h
   ·refine wpIn_seq (wpIn_mono (TZ.run S env a w w' _ Kx Kr (λk d=>u k (by simp[writes,d])) g f h l) ?_);intro e a1 w1 o;cases e with
    |normal=>
     obtain⟨c_,p,d,X,Y,Z⟩:=o;exact M.run S c_ a1 p w1 Kn Kx Kr (λk d=>u k (by simp[writes,d])) X Y d Z
    | _=>exact o
   ·rename_i b sl _;obtain⟨J,q,hJ⟩:=h;simp only[jL] at hJ
    let i:Nat->Option (Option A2):=λt=>if(oZ b (.seq x y)).contains t then none else some (a.tmps[t]?)
    let dy:=env.filter λe=> !(oZ b (.seq x y)).contains e.t
    have nil: ∀(tm:Array A2),j_ #[] tm []:=λtm x q=>by cases q
    have Eb: ∀t e,bX dy t=some e->a.tmps[t]? =some e.v/\(oZ b (.seq x y)).contains t=false/\e.ch=[]:=by
     intro t e he;have ht:=yY he;have H:=ze he;have F:(oZ b (.seq x y)).contains t=false:=by rw[<-ht];simpa using H.2
     have A:bX env t=some e:=iP he (λy _ hyt=>by rw[hyt,F];rfl);exact⟨f.yes t e A (by rw[(g e H.1).1];exact nil _),F,(g e H.1).1⟩
    have head: ∀(m:List bO) (j:Act) (s:oN (sl.map (·.2))),plain m->Fit i #[] N D m j->pk sl m=some s->Fit i #[] N D (k8 sl s++dy) j/\plain (k8 sl s++dy):=by
     intro m j s s_ B Ay;have O:plain (k8 sl s++dy):=λe he=>by
      rcases E4.1 he with he|he
      ·exact tU he
      ·exact g e (by simpa[dy] using(Bx.1 he).1)
     refine⟨⟨B.off,B.size,B.qL,λt e he _=>?_,λt e he hn=>absurd (by rw[(O e (bU he)).1];exact nil _) hn,(λe he=>by rw[(O e he).2];exact(O e he).1),λe he b hb=>by
      rcases E4.1 he with he|he
      ·rw[CM he] at hb;cases hb
      ·exact f.Cd e (Bx.1 he).1 b hb⟩,O⟩
     rcases mh he with he|⟨_,he⟩
     ·obtain⟨e',jR,hv⟩:=qp Ay he;rw[<-hv];exact B.yes t e' jR (by rw[(s_ e' (bU jR)).1];exact nil _)
     ·obtain⟨hv,F, _⟩:=Eb t e he;have:=B.off t (a.tmps[t]?) (by simp only[i,F];rfl);rw[this,hv]
    have Ow:Fit i #[] N D env a:=⟨λt x q=>by
     simp only[i] at q;split at q
     ·cases q
     ·cases q;rfl,f.size,f.qL,f.yes,f.no,f.FR,f.Cd⟩
    have back: ∀{m:List bO} {j:Act},Fit i #[] N D m j->Fit S #[] N D m j:=λ{m j} A=>⟨λt z G=>by
     have F:(oZ b (.seq x y)).contains t=false:=by
      cases hc:(oZ b (.seq x y)).contains t with
      |false=>rfl
      |true=>have:=u t (ZC b _ t (by simpa using hc));rw[this] at G;cases G
     have h1:=A.off t (a.tmps[t]?) (by simp only[i,F];rfl);rw[h1];exact f.off t z G,A.size,A.qL,A.yes,A.no,A.FR,A.Cd⟩
    have hS1: ∀k∈oZ b (.seq x y),i k=none:=λk d=>by simp[i,d]
    have acp: ∀k∈writes x,i k=none:=λk d=>hS1 k (by simp[oZ,d]);have bx: ∀(id:Nat) (a:Act) (w:A1),Qp i N D Kn Kx Kr (.exit id) a w->Qp S N D Kn Kx Kr (.exit id) a w:=λid a w ⟨R,p,d,T,U,V⟩=>⟨R,p,d,T,back U,V⟩;have br: ∀(a:Act) (w:A1),Qp i N D Kn Kx Kr .ret a w->Qp S N D Kn Kx Kr .ret a w:=λa w ⟨R,p,d,T,U,V⟩=>⟨R,p,d,T,back U,V⟩;have G: ∀k∈writes y,S k=none:=λk d=>u k (by simp[writes,d]);refine wpIn_seq (wpIn_mono (TZ.run i env a w w' _ Kx Kr acp g Ow q l) ?_);intro e a1 w1 o;cases e with
    |normal=>
     obtain⟨c_,p,d,X,Y,Z⟩:=o;cases E:atR b y with
     |true=>
      simp only[E] at d hJ;unfold Ov at d;split at d
      ·rename_i s H;obtain⟨Ya,Yb⟩:=head c_ a1 s X Y H;exact M.run S _ a1 p w1 Kn Kx Kr G Yb (back Ya) (hJ s p d) Z
      ·exact d.elim
     |false=>
      simp only[E] at d hJ;have acq: ∀k∈oZ b y,i k=none:=λk d=>hS1 k (by simp[oZ,E,d]);refine M.to b (Ov sl J) i c_ a1 p w1 Kn Kx Kr _ acq X Y d Z bx br ?_;intro y' m j L Ck W hK s_ B yn;unfold Ov at hK;split at hK
      ·rename_i s H;obtain⟨Ya,Yb⟩:=head m j s s_ B H;exact M.WZ b S _ j L Ck Kn Kx Kr y' W G Yb (back Ya) (hJ s L hK) yn
      ·exact hK.elim
    |exit id=>exact bx id a1 w1 o
    |ret=>exact br a1 w1 o
    | _=>exact o
  ·intro b K S env a w w' Kn Kx Kr Q u g f h l q hr Ky;simp only[cA] at h;refine wpIn_seq (wpIn_mono (TZ.run S env a w w' _ Kx Kr (λk d=>u k (by simp[oZ,d])) g f h l) ?_);intro e a1 w1 o;cases e with
   |normal=>
    obtain⟨c_,p,d,X,Y,Z⟩:=o;cases E:atR b y with
    |true=>
     simp only[E] at d;exact Ky y c_ a1 p w1 (by simp[Gc,E]) d X Y Z
    |false=>
     simp only[E] at d;exact M.to b K S c_ a1 p w1 Kn Kx Kr Q (λk d=>u k (by simp[oZ,E,d])) X Y d Z q hr (λy' m j L Ck W=>Ky y' m j L Ck (by simp[Gc,E,W]))
   |exit id=>exact q id a1 w1 o
   |ret=>exact hr a1 w1 o
   | _=>exact o.elim
  ·intro b S env a w w' Kn Kx Kr y' W u g f h l;simp only[cA] at h;have G: ∀k∈writes y,S k=none:=λk d=>u k (by simp[writes,d]);cases E:atR b y with
   |true=>
    simp only[E] at h;simp only[Gc,E,Cf] at W;subst W;exact M.run S env a w w' Kn Kx Kr G g f h l
   |false=>
    simp only[E] at h;simp only[Gc,E] at W;exact M.WZ b S env a w w' Kn Kx Kr y' W G g f h l
 |cond c x y TZ M=>
  refine .of ?_ (λ_ _ _ _ _ _ _ h=>h) (λ_ _ _ _ _ _ h=>h);intro S env a w w' Kn Kx Kr u g f h l;simp only[cA] at h;split at h
  ·rename_i b hb;have Yc:=f.ev (ch:=[]) (λ_ q=>by cases q) hb;refine wpIn_cond_split Yc (λht=>TZ.run S env a w w' Kn Kx Kr (λk d=>u k (by simp[writes,d])) g f (Et h ht) l) (λht=>M.run S env a w w' Kn Kx Kr (λk d=>u k (by simp[writes,d])) g f (Bj h ht) l)
  ·exact AC h
 |block id x ih=>
  refine .of ?_ (λ_ _ _ _ _ _ _ h=>h) (λ_ _ _ _ _ _ h=>h);intro S env a w w' Kn Kx Kr u g f h l;refine wpIn_block (wpIn_mono (ih.run S env a w w' Kn _ Kr u g f h l) ?_);intro e a1 w1 o;cases e with
  |exit X_=>
   obtain⟨c_,p,d,rest⟩:=o;simp only[Exit.inBlock];split
   ·rename_i he;simp only[he,if_true] at d;exact⟨c_,p,d,rest⟩
   ·rename_i he;simp only[he,if_false] at d;exact⟨c_,p,d,rest⟩
  | _=>exact o
 |exit id=>exact .of (λS env a w w' Kn Kx Kr _ g f h l=>wpIn_exit ⟨env,w,h,g,f,l⟩) (λ_ _ _ _ _ _ _ h=>h) (λ_ _ _ _ _ _ h=>h)
 |ret=>exact .of (λS env a w w' Kn Kx Kr _ g f h l=>wpIn_ret ⟨env,w,h,g,f,l⟩) (λ_ _ _ _ _ _ _ h=>h) (λ_ _ _ _ _ _ h=>h)
 |loop x ih=>
  refine .of ?_ (λ_ _ _ _ _ _ _ h=>h) (λ_ _ _ _ _ _ h=>h);intro S env a w w' Kn Kx Kr u g f h l;simp only[cA,jL] at h;split at h
  ·exact AC h
  ·rename_i s0 hs0;obtain⟨I,⟨n0,h0⟩,pq⟩:=h
   let sl:=aR ((jG x).getD 0)
   let i:Nat->Option (Option A2):=λt=>if(writes x).contains t then none else some (a.tmps[t]?)
   let dy:=env.filter λe=> !(writes x).contains e.t
   have nil: ∀(tm:Array A2),j_ #[] tm []:=λtm x q=>by cases q
   have Eb: ∀t e,bX dy t=some e->a.tmps[t]? =some e.v/\(writes x).contains t=false/\e.ch=[]:=by
    intro t e he;have ht:=yY he;have H:=ze he;have F:(writes x).contains t=false:=by rw[<-ht];simpa using H.2
    have A:bX env t=some e:=iP he (λy _ hyt=>by rw[hyt,F];rfl);exact⟨f.yes t e A (by rw[(g e H.1).1];exact nil _),F,(g e H.1).1⟩
   have head: ∀(m:List bO) (j:Act) (s:oN (sl.map (·.2))),plain m->Fit i #[] N D m j->pk sl m=some s->Fit i #[] N D (k8 sl s++dy) j/\plain (k8 sl s++dy):=by
    intro m j s s_ B Ay;have O:plain (k8 sl s++dy):=λe he=>by
     rcases E4.1 he with he|he
     ·exact tU he
     ·exact g e (by simpa[dy] using(Bx.1 he).1)
    refine⟨⟨B.off,B.size,B.qL,λt e he _=>?_,λt e he hn=>absurd (by rw[(O e (bU he)).1];exact nil _) hn,(λe he=>by rw[(O e he).2];exact(O e he).1),λe he b hb=>by
     rcases E4.1 he with he|he
     ·rw[CM he] at hb;cases hb
     ·exact f.Cd e (Bx.1 he).1 b hb⟩,O⟩
    rcases mh he with he|⟨_,he⟩
    ·obtain⟨e',jR,hv⟩:=qp Ay he;rw[<-hv];exact B.yes t e' jR (by rw[(s_ e' (bU jR)).1];exact nil _)
    ·obtain⟨hv,F, _⟩:=Eb t e he;have:=B.off t (a.tmps[t]?) (by simp only[i,F];rfl);rw[this,hv]
   have Ow:Fit i #[] N D env a:=⟨λt x q=>by
    simp only[i] at q;split at q
    ·cases q
    ·cases q;rfl,f.size,f.qL,f.yes,f.no,f.FR,f.Cd⟩
   have back: ∀{m:List bO} {j:Act},Fit i #[] N D m j->Fit S #[] N D m j:=λ{m j} A=>⟨λt y G=>by
    have F:(writes x).contains t=false:=by
     cases hc:(writes x).contains t with
     |false=>rfl
     |true=>have:=u t (by simpa[writes] using hc);rw[this] at G;cases G
    have h1:=A.off t (a.tmps[t]?) (by simp only[i,F];rfl);rw[h1];exact f.off t y G,A.size,A.qL,A.yes,A.no,A.FR,A.Cd⟩
   have hS1: ∀k∈writes x,i k=none:=λk d=>by simp[i,d]
   obtain⟨hF4,hp4⟩:=head env a s0 g Ow hs0;refine zO (λn j L=> ∃s,I n s L/\Fit i #[] N D (k8 sl s++dy) j/\plain (k8 sl s++dy)) (n0:=n0) ⟨s0,h0 w' l,hF4,hp4⟩ ?_;intro n j L ⟨s,hI,B,s_⟩;have hb:=ih.run i _ j L L _ Kx Kr hS1 s_ B (pq n s L hI) (Ext.refl _);refine wpIn_mono hb ?_;intro e a3 w3 o;cases e with
   |normal=>
    obtain⟨R,p,d,T,U,V⟩:=o;simp only[Exit.then];split at d
    ·rename_i s3 hs3;obtain⟨n',jn,hI'⟩:=d w3 V;obtain⟨Ya,Yb⟩:=head R a3 s3 T U hs3;exact⟨n',jn,s3,hI',Ya,Yb⟩
    ·exact d.elim
   |exit id=>obtain⟨R,p,d,T,U,V⟩:=o;exact⟨R,p,d,T,back U,V⟩
   |ret=>obtain⟨R,p,d,T,U,V⟩:=o;exact⟨R,p,d,T,back U,V⟩
   | _=>exact o
 | _=>exact .of (λS env a w w' Kn Kx Kr u g f h l=>AC h) (λ_ _ _ _ _ _ _ h=>h) (λ_ _ _ _ _ _ h=>h)
theorem qs {r:Option Nat} {C:dJ P} {aR:Nat->a6}: ∀(c:Code) (S:Nat->Option (Option A2)) (env:List bO) (a:Act) (w w':A1) (Kn:List bO->A1->Prop) (Kx:Nat->List bO->A1->Prop) (Kr:List bO->A1->Prop),
 (∀k∈writes c,S k=none)->plain env->Fit S #[] N D env a->sa C aR N c env w Kn Kx Kr->Ext w w'->c.wpIn (WF r) 0 P (Qp S N D Kn Kx Kr) a w':=λc=>(Hj c).run
def jH:List A2->Nat->List bO
 |[], _=>[]
 |v::r,i=>⟨i,[],none,v,none⟩::jH r (i+1)
def nO:List ResultVar->List bO->Option (List A2)
 |[], _=>some []
 | .tmp t::r,env=>match bX env t,nO r env with
   |some e,some l=>some (e.v::l)
   | _, _=>none
 | .cell .. :: _, _=>none
def Kz (l:List A2):A2:=
 match l with
 |[v]=>v
 |l=> .tuple ⟨l⟩
def aK (C:dJ P) (aR:Nat->a6) (f:Az) (args:List A2) (w:A1) (Post:(u9 C f).T->A1->Prop):Prop:=
 match P.funcs[f]? with
 |none=>False
 |some fn=>match fn.body with
  |none=>False
  |some c=>
   let fin:List bO->A1->Prop:=λenv w=>match nO fn.results.toList env with
    |some l=>match (u9 C f).proj (Kz l) with
     |some x=>au w (λw1=>Post x w1)
     |none=>False
    |none=>False
   if args.length<=fn.ntmps then sa C aR fn.ntmps c (jH args 0) w fin (λ_ _ _=>False) fin else False
theorem pU: ∀{l:List A2} {i t:Nat} {e:bO},bX (jH l i) t=some e->i<=t/\l[t - i]? =some e.v/\e.ch=[]/\e.g=none
 |v::r,i,t,e,h=>by
  simp[jH,bX] at h;split at h
  grind
  ·obtain:=pU h
   grind
theorem zf: ∀{l:List A2} {i:Nat} {e:bO},e∈jH l i->e.k=none
 |v::r,i,e,h=>by
  simp[jH] at h;rcases h with rfl|h
  ·rfl
  ·exact zf h
theorem sK: ∀{l:List A2} {i:Nat} {e:bO},e∈jH l i->e.ch=[]/\e.g=none
 |v::r,i,e,h=>by
  simp[jH] at h;rcases h with rfl|h;simp
  ·exact sK h
def nH (tmps:Array A2):ResultVar->Sem A2
 | .tmp t=>pure (tmps.getD t undef)
 | .cell a t=>do loadVar t (<-asAddr (tmps.getD a undef))
theorem wD {tmps:Array A2} {w:A1}: ∀{l:List ResultVar} {env:List bO} {vs:List A2},nO l env=some vs->(∀t e,bX env t=some e->tmps[t]? =some e.v)->
 (l.mapM (nH tmps)).run P w= .ok vs w
 |[], _, _,h, _=>by simp_all[nO]
 | .tmp t::r,env,vs,h,hv=>by
   simp[nO] at h;split at h
   ·rename_i e l b a;have c:=wD (w:=w) a hv
    simp_all[nH]
   grind
theorem Fu {fn:Func} {tmps:Array A2} {w:A1} {env:List bO} {vs:List A2} (h:nO fn.results.toList env=some vs) (hv: ∀t e,bX env t=some e->tmps[t]? =some e.v):
 (results fn tmps).run P w= .ok (Kz vs) w:=by
 have h1:=wD (P:=P) (w:=w) h hv;have a:(fn.results.mapM (nH tmps)).run P w= .ok ⟨vs⟩ w:=by
  simp_all[IR]
 have e:results fn tmps=(do
  let vs<-fn.results.mapM (nH tmps)
  pure _):=rfl
 rw[e,AY,a]
 match vs with
 |[]=>rfl
 |[v]=>rfl
 |v::u::r=>rfl
theorem ai {C:dJ P} {aR:Nat->a6} {f:Az} {args:List A2} {w:A1} {Post:(u9 C f).T->A1->Prop} (h:aK C aR f args w Post):aE P f (u9 C f) args w Post:=by
 unfold aK at h;split at h
 ·exact AC h
 ·rename_i fn p;split at h
  ·exact AC h
  ·rename_i c hb;simp only at h;split at h
   ·rename_i B;have g:plain (jH args 0):=λe a=>sK a;have nil: ∀(o:Array Oper) (k:Array A2),j_ o k []:=λo k x d=>by cases d
    have q:Fit (λ_=>none) #[] fn.ntmps [] (jH args 0) {tmps:=(⟨args⟩:Array A2)++Ee (fn.ntmps - args.length) undef,defers:=[]}:=by
     refine⟨(λ_ _ d=>by cases d),(by simp;omega),rfl,λt e a _=>?_,λt e a s=>absurd (by rw[(g e (bU a)).1];exact nil _ _) s,(λe a=>by rw[(g e a).2];exact(g e a).1),by grind[zf]⟩;obtain⟨_,hv, _⟩:=pU a
     grind
    have u:=qs (r:=none) (C:=C) (aR:=aR) c (λ_=>none) _ _ w w _ _ _ (λ_ _=>rfl) g q h (Ext.refl w);refine calls_of_wp p hb ((wpIn_wide (n:=0)).1 (wpIn_mono u ?_));have fin: ∀a1 w1,(∃env j,(match nO fn.results.toList env with
     |some l=>match (u9 C f).proj (Kz l) with
      |some x=> ∀w1,Ext j w1->Post x w1
      |none=>False
     |none=>False)/\plain env/\Fit (λ_=>none) #[] fn.ntmps [] env a1/\Ext j w1)->a1.defers=[]/\ ∃v,(results fn a1.tmps).run P w1= .ok v w1/\ ∃x:(u9 C f).T,Ending.returned v= .returned ((u9 C f).gO x)/\Post x w1:=by
     intro a1 w1 ⟨env,j,b,y,m,z⟩;split at b
     ·rename_i l A;split at b
      ·rename_i x d;refine⟨m.qL, _,Fu A (λt e a=>m.yes t e a (by rw[(y e (bU a)).1];exact nil _ _)),x,by rw[Sh.ir d],b w1 z⟩
      ·exact b.elim
     ·exact b.elim
    intro e a1 w1 i;cases e with
    |normal=>exact fin a1 w1 i
    |ret=>exact fin a1 w1 i
    |exit id=>obtain⟨_, _,b, _⟩:=i;exact b.elim
    | _=>exact(show False from i).elim
   ·exact AC h
variable {P:AP}
abbrev qM:=List bO->List Nat->A1->Prop
def marks (D:List Nat):List Deferred:=D.map λr=>{target:= .collected r,args:= #[]}
def yE:Code->Bool
 | .rangeFunc .. =>true
 | .seq a b=>yE a||yE b
 | .cond _ a b=>yE a||yE b
 | .block _ b=>yE b
 | .loop b=>yE b
 | _=>false
def tn (w:A1) (l:Nat) (rec:Loop) (st:LoopState) (a:Option Code):A1:=w.putObj l (.loop {rec with state:=st,pending:=a})
def cT (w:A1) (l:Nat) (rec:Loop) (st:LoopState) (a:Option Code):Prop:=w.heap[l]? =some (.loop {rec with state:=st,pending:=a})
def Ec:List Nat->A1->Prop
 |[], _=>True
 |r::D,w=>w.heap[r]? =some (.deferred (some []))/\Ec D (w.putObj r (.deferred none))
def mw:List Nat->A1->A1
 |[],w=>w
 |r::D,w=>mw D (w.putObj r (.deferred none))
def Cl (l:Nat) (rec:Loop) (w:A1) (K:A1->Prop):Prop:= ∀a,Ext w a-> ∃b,cT a l rec .ready b/\K (tn a l rec .busy b)
def sY (l:Nat) (rec:Loop) (a:Option Code) (w:A1) (R:Bool->A1->Prop):Prop:= ∀b,Ext w b-> ∃st c,cT b l rec st c/\R a.isNone (tn b l rec (if a.isNone then .ready else .done) a)
def DG (l:Nat) (rec:Loop) (n m:Nat) (w:A1) (K:Prop):Prop:=(∃a,cT w l rec .ready a)/\n=m/\K
def sZ (D:List Nat) (w:A1) (K:A1->Prop):Prop:= ∀w1,Ext w w1->Ec D w1/\K (mw D w1)
def An (P:AP) (b:Az) (args:Nat->List A2) (ps:Array Nat) (w:A1) {T:Type} (c:T->List A2) (d:Nat->Loop->T->A1->(Bool->A1->Prop)->Prop) (f:Nat->Loop->A1->Prop):Prop:=
 ∀w1,Ext w w1-> ∀rec:Loop,rec.params=ps->rec.defers=w1.heap.size->rec.state= .ready->rec.pending=none->
  (∀(x:T) a R,d (w1.heap.size+1) rec x a R->mq P (w1.heap.size+1) (c x) a R)->
  Calls P b ⟨args (w1.heap.size+1)⟩ ((w1.alloc (.deferred (some []))).alloc (.loop rec)) (λe g=> ∃v,e= .returned v/\f w1.heap.size rec g)
def Jk (C:dJ P) (aR:Nat->a6) (N:Nat) (l:Nat) (rec:Loop) (ps:List Nat) (assign body:Code) (env:List bO) (args:List A2) (w:A1) (R:Bool->A1->Prop):Prop:=
 DG l rec args.length ps.length w
 (jF ((ps.zip args).reverse.map (λx=>⟨x.1,[],none,x.2,none⟩)++env) λb=>sa C aR N assign b w
  (λc_ a=>Cl l rec a λc=>
   sa C aR N body c_ c
    (λ_ a=>sY l rec none a R)
    (λid _ a=>sY l rec (some (.exit id)) a R)
    (λ_ a=>sY l rec (some .ret) a R))
  (λ_ _ _=>False) (λ_ _=>False))
def dB (l:Nat) (rec:Loop) (a:A1) (Kn:A1->Prop) (Kx:Nat->A1->Prop) (Kr:A1->Prop):Prop:=
 ∃st b,cT a l rec st b/\st≠ .busy/\
  match b with
  |none=>Kn (tn a l rec .exhausted (none))
  |some (.exit id)=>Kx id (tn a l rec .exhausted (some (.exit id)))
  |some .ret=>Kr (tn a l rec .exhausted (some .ret))
  | _=>False
def Od (C:dJ P) (aR:Nat->a6) (N:Nat):Code->List bO->List Nat->A1->qM->(Nat->qM)->qM->Prop
 | .seq x y,env,D,w,Kn,Kx,Kr=>Od C aR N x env D w (λenv D w=>Od C aR N y env D w Kn Kx Kr) Kx Kr
 | .cond c x y,env,D,w,Kn,Kx,Kr=>match yl env [] c with
   |some (.bool b)=>aI b (Od C aR N x env D w Kn Kx Kr) (Od C aR N y env D w Kn Kx Kr)
   | _=>False
 | .block id x,env,D,w,Kn,Kx,Kr=>Od C aR N x env D w Kn (λf env D w=>if f=id then Kn env D w else Kx f env D w) Kr
 | .loop x,env,D,w,Kn,Kx,Kr=>
   if yE x then
    let sl:=aR ((jG x).getD 0)
    match pk sl env with
    |none=>False
    |some j=> ∃I:Nat->oN (sl.map (·.2))->List Nat->A1->Prop,(∃n, ∀w1,Ext w w1->I n j D w1)/\
     ∀n s D1 w1,I n s D1 w1->jF (k8 sl s++env.filter λe=> !(writes x).contains e.t) λc_=>Od C aR N x c_ D1 w1
      (λk D2 m=>match pk sl k with
       |some o=> ∀d,Ext m d-> ∃h,h<n/\I h o D2 d
       |none=>False) Kx Kr
   else sa C aR N (.loop x) env w (λenv w=>Kn env D w) (λid env w=>Kx id env D w) (λenv w=>Kr env D w)
 | .rangeFunc g ps assign body,env,D,w,Kn,Kx,Kr=>
   match yl env [] g with
   |some (.func (.func i) first cap)=>
    if bJ P i&&ps.toList.all (λp=>decide (p<N)) then
     An P i (λy=>cY first [.func (.yield y) #[] #[]] cap) ps w (λ(x:oN ((aR ((jG body).getD 0)).map (·.2)))=>vn _ x)
      (λl rec x d R=>Jk C aR N l rec ps.toList assign body env (vn _ x) d R)
      (λr rec q=>dB (r+1) rec q (λa=>Kn env (r::D) a) (λid a=>Kx id env (r::D) a) (λa=>Kr env (r::D) a))
    else False
   | _=>False
 |c,env,D,w,Kn,Kx,Kr=>sa C aR N c env w (λenv w=>Kn env D w) (λid env w=>Kx id env D w) (λenv w=>Kr env D w)
def QpF (S:Nat->Option (Option A2)) (N:Nat) (Kn:qM) (Kx:Nat->qM) (Kr:qM):Exit->Act->A1->Prop
 | .normal,a,w=> ∃env D b,Kn env D b/\plain env/\Fit S #[] N (marks D) env a/\Ext b w
 | .exit id,a,w=> ∃env D b,Kx id env D b/\plain env/\Fit S #[] N (marks D) env a/\Ext b w
 | .ret,a,w=> ∃env D b,Kr env D b/\plain env/\Fit S #[] N (marks D) env a/\Ext b w
 | _, _, _=>False
theorem ZD {S:Nat->Option (Option A2)} {N:Nat} {Kn:qM} {Kx:Nat->qM} {Kr:qM} {D:List Nat}: ∀(e:Exit) (a:Act) (w:A1),
 Qp S N (marks D) (λenv w=>Kn env D w) (λid env w=>Kx id env D w) (λenv w=>Kr env D w) e a w->QpF S N Kn Kx Kr e a w
 | .normal, _, _,⟨env,b,h⟩=>⟨env,D,b,h⟩
 | .exit _, _, _,⟨env,b,h⟩=>⟨env,D,b,h⟩
 | .ret, _, _,⟨env,b,h⟩=>⟨env,D,b,h⟩
theorem zQ {N:Nat} {D:List Deferred}: ∀(l:List (Nat×A2)) (env:List bO) (tmps:Array A2),(∀x∈l,x.1<N)->plain env->Fit (λ_=>none) #[] N D env {tmps,defers:=D}->
 Fit (λ_=>none) #[] N D (l.reverse.map (λx=>⟨x.1,[],none,x.2,none⟩)++env) {tmps:=l.foldl (λtmps (t,a)=>tmps.setIfInBounds t a) tmps,defers:=D}/\plain (l.reverse.map (λx=>(⟨x.1,[],none,x.2,none⟩:bO))++env)
 |[],env,tmps, _,b,h=>⟨h,b⟩
 |(t,v)::r,env,tmps,c,b,h=>by
  have f:plain (⟨t,[],none,v,none⟩::env):=λe he=>by
   rcases CF.1 he with rfl|he;simp
   ·exact b e he
  have h1:=by
   have:=h.put (g:=none) (d:=some t) (u:=v) (by
    have:=c (t,v) (by grind);simp[pf,this];intro e he;rw[(b e he).1];simp) (λ_ _=>rfl) rfl (λ_=>rfl) (λi=>absurd (λx j=>by cases j) i)
   exact this
  have:=zQ r _ _ (by grind) f h1
  grind
theorem Hk {w:A1} {l:Nat} {rec:Loop} {a:Option Code} (h:cT w l rec .ready a):(Instr.beginRound l).run P w= .ok () (w.putObj l (.loop {rec with state:= .busy,pending:=a})):=
 run_beginRound h rfl
theorem zg {w:A1} {l:Nat} {rec:Loop} {st:LoopState} {b:Option Code} (a:Option Code) (h:cT w l rec st b):
 (Instr.endRound l a).run P w= .ok (.bool a.isNone) (w.putObj l (.loop {rec with state:=if a.isNone then .ready else .done,pending:=a})):=
 run_endRound (r:={rec with state:=st,pending:=b}) a h
theorem Hl {C:dJ P} {aR:Nat->a6} {N l:Nat} {rec:Loop} {assign body:Code} {env:List bO} {args:List A2} {w:A1} {R:Bool->A1->Prop} {tmps:Array A2} {D0:List Deferred}
 (u:rec.tmps=tmps) (v:rec.assign=assign) (hb:rec.body=body) (y: ∀p∈rec.params.toList,p<N) (z:plain env) (b:Fit (λ_=>none) #[] N D0 env {tmps,defers:=D0})
 (h:Jk C aR N l rec rec.params.toList assign body env args w R):mq P l args w R:=by
 obtain⟨⟨A,B⟩,E,o⟩:=h;rw[jL] at o;refine⟨{rec with state:= .ready,pending:=A},B,by simpa using E,?_⟩;have G:Fit (λ_=>none) #[] N [] env {tmps,defers:=[]}:=⟨b.off,b.size,rfl,b.yes,b.no,b.FR,b.Cd⟩;obtain⟨H,I⟩:=zQ (D:=[]) (rec.params.toList.zip args) env tmps (λx J=>y x.1 (List.of_mem_zip J).1) z G;have e:(rec.params.zip (⟨args⟩:Array A2)).foldl (λtmps (t,a)=>tmps.setIfInBounds t a) rec.tmps=(rec.params.toList.zip args).foldl (λtmps (t,a)=>tmps.setIfInBounds t a) tmps:=by
  rw[u, <-Array.foldl_toList];simp
 rw[e,v,hb];refine roundIn_of_wpIn (F:=WF none) trivial ?_;have h1:=qs (r:=some l) (C:=C) (aR:=aR) assign (λ_=>none) _ _ w w _ _ _ (λ_ _=>rfl) I H o (Ext.refl w);refine wpIn_mono h1 ?_;intro K a1 w1 k;cases K with
 |normal=>
  obtain⟨c_,V,m,L,M,O⟩:=k;obtain⟨W,Q,S⟩:=m w1 O;refine⟨_,Hk Q,?_⟩;have T:=qs (r:=some l) (C:=C) (aR:=aR) body (λ_=>none) _ _ _ _ _ _ _ (λ_ _=>rfl) L M S (Ext.refl _);refine wpIn_mono T ?_;intro U X n j;cases U with
  |normal=>
   obtain⟨_,q,d, _, _,f⟩:=j;obtain⟨st,s,g,i⟩:=d n f;exact⟨_, _,zg none g,true,rfl,i⟩
  |exit id=>
   obtain⟨_,q,d, _, _,f⟩:=j;obtain⟨st,s,g,i⟩:=d n f;exact⟨_, _,zg (some (.exit id)) g,false,rfl,i⟩
  |ret=>
   obtain⟨_,q,d, _, _,f⟩:=j;obtain⟨st,s,g,i⟩:=d n f;exact⟨_, _,zg (some .ret) g,false,rfl,i⟩
  |goto t
  |panic c
  |outgrown=>exact AC j
 |exit id
 |ret=>obtain⟨_, _,m, _⟩:=k;exact AC m
 |goto t
 |panic c
 |outgrown=>exact AC k
variable {P:AP} {N:Nat}
theorem Br {C:dJ P} {aR:Nat->a6} {c:Code} {S:Nat->Option (Option A2)} {env:List bO} {D:List Nat} {a:Act} {w w':A1} {Kn:qM} {Kx:Nat->qM} {Kr:qM}
 (b: ∀k∈writes c,S k=none) (d:plain env) (e:Fit S #[] N (marks D) env a) (h:sa C aR N c env w (λenv w=>Kn env D w) (λid env w=>Kx id env D w) (λenv w=>Kr env D w)) (f:Ext w w'):
 c.wpIn (WF none) 0 P (QpF S N Kn Kx Kr) a w':=
 wpIn_mono (qs c S env a w w' _ _ _ b d e h f) ZD
theorem Hm {w:A1} {l:Nat} {rec:Loop} {st:LoopState} {a:Option Code} (h:cT w l rec st a) (hb:st≠ .busy):
 (Instr.endLoop l).run P w= .ok a (w.putObj l (.loop {rec with state:= .exhausted,pending:=a})):=
 run_endLoop h hb
theorem ZE {C:dJ P} {aR:Nat->a6}: ∀(c:Code) (S:Nat->Option (Option A2)) (env:List bO) (D:List Nat) (a:Act) (w w':A1) (Kn:qM) (Kx:Nat->qM) (Kr:qM),
 (∀k∈writes c,S k=none)->plain env->Fit S #[] N (marks D) env a->Od C aR N c env D w Kn Kx Kr->Ext w w'->c.wpIn (WF none) 0 P (QpF S N Kn Kx Kr) a w':=by
 intro c
 induction c with
 |seq x y Q T=>
  intro S env D a w w' Kn Kx Kr j i d h l;refine wpIn_seq (wpIn_mono (Q S env D a w w' _ Kx Kr (λk f=>j k (by simp[writes,f])) i d h l) ?_);intro e a1 w1 r;cases e with
  |normal=>
   obtain⟨c_,D1,u,f,DE,s9,xq⟩:=r;exact T S c_ D1 a1 u w1 Kn Kx Kr (λk f=>j k (by simp[writes,f])) DE s9 f xq
  | _=>exact r
 |cond c x y Q T=>
  intro S env D a w w' Kn Kx Kr j i d h l;simp only[Od] at h;split at h
  ·rename_i b hb;have U:=d.ev (ch:=[]) (λ_ m=>by cases m) hb;exact wpIn_cond_split U (λF=>Q S env D a w w' Kn Kx Kr (λk f=>j k (by simp[writes,f])) i d (Et h F) l) (λF=>T S env D a w w' Kn Kx Kr (λk f=>j k (by simp[writes,f])) i d (Bj h F) l)
  ·exact AC h
 |block id x V=>
  intro S env D a w w' Kn Kx Kr j i d h l;refine wpIn_block (wpIn_mono (V S env D a w w' Kn _ Kr j i d h l) ?_);intro e a1 w1 r;cases e with
  |exit X_=>
   obtain⟨c_,D1,u,f,rest⟩:=r;simp only[Exit.inBlock];split
   ·rename_i he;simp only[he,if_true] at f;exact⟨c_,D1,u,f,rest⟩
   ·rename_i he;simp only[he,if_false] at f;exact⟨c_,D1,u,f,rest⟩
  | _=>exact r
 |loop x V=>
  intro S env D a w w' Kn Kx Kr j i d h l;simp only[Od,jL] at h;split at h
  ·split at h
   ·exact AC h
   ·rename_i Z hs0;obtain⟨I,⟨n0,h0⟩,pq⟩:=h
    let sl:=aR ((jG x).getD 0)
    let o:Nat->Option (Option A2):=λt=>if(writes x).contains t then none else some (a.tmps[t]?)
    let dy:=env.filter λe=> !(writes x).contains e.t
    have nil: ∀(tm:Array A2),j_ #[] tm []:=λtm x m=>by cases m
    have Eb: ∀t e,bX dy t=some e->a.tmps[t]? =some e.v/\(writes x).contains t=false/\e.ch=[]:=by
     intro t e he;have F:=yY he;have W:=ze he;have E:(writes x).contains t=false:=by rw[<-F];simpa using W.2
     have z:bX env t=some e:=iP he (λy _ hyt=>by rw[hyt,E];rfl);exact⟨d.yes t e z (by rw[(i e W.1).1];exact nil _),E,(i e W.1).1⟩
    have head: ∀(A:List bO) (D2:List Nat) (p:Act) (s:oN (sl.map (·.2))),plain A->Fit o #[] N (marks D2) A p->pk sl A=some s->Fit o #[] N (marks D2) (k8 sl s++dy) p/\plain (k8 sl s++dy):=by
     intro A D2 p s X q Ay;have O:plain (k8 sl s++dy):=λe he=>by
      rcases E4.1 he with he|he
      ·exact tU he
      ·exact i e (by simpa[dy] using(Bx.1 he).1)
     refine⟨⟨q.off,q.size,q.qL,λt e he _=>?_,λt e he hn=>absurd (by rw[(O e (bU he)).1];exact nil _) hn,(λe he=>by rw[(O e he).2];exact(O e he).1),λe he b hb=>by
     rcases E4.1 he with he|he
     ·rw[CM he] at hb;cases hb
     ·exact d.Cd e (Bx.1 he).1 b hb⟩,O⟩
     rcases mh he with he|⟨_,he⟩
     ·obtain⟨e',jR,hv⟩:=qp Ay he;rw[<-hv];exact q.yes t e' jR (by rw[(X e' (bU jR)).1];exact nil _)
     ·obtain⟨hv,E, _⟩:=Eb t e he;have:=q.off t (a.tmps[t]?) (by simp only[o,E];rfl);rw[this,hv]
    have Ow:Fit o #[] N (marks D) env a:=⟨λt x m=>by
     simp only[o] at m;split at m
     ·cases m
     ·cases m;rfl,d.size,d.qL,d.yes,d.no,d.FR,d.Cd⟩
    have back: ∀{A:List bO} {D2:List Nat} {p:Act},Fit o #[] N (marks D2) A p->Fit S #[] N (marks D2) A p:=λ{A D2 p} z=>⟨λt y Y=>by
     have E:(writes x).contains t=false:=by
      cases hc:(writes x).contains t with
      |false=>rfl
      |true=>have:=j t (by simpa[writes] using hc);rw[this] at Y;cases Y
     have h1:=z.off t (a.tmps[t]?) (by simp only[o,E];rfl);rw[h1];exact d.off t y Y,z.size,z.qL,z.yes,z.no,z.FR,z.Cd⟩
    have hS1: ∀k∈writes x,o k=none:=λk f=>by simp[o,f]
    obtain⟨hF4,hp4⟩:=head env D a Z i Ow hs0;refine zO (λn p G=> ∃s D2,I n s D2 G/\Fit o #[] N (marks D2) (k8 sl s++dy) p/\plain (k8 sl s++dy)) (n0:=n0) ⟨Z,D,h0 w' l,hF4,hp4⟩ ?_;intro n p G ⟨s,D2,hI,q,X⟩;have hb:=V o _ D2 p G G _ Kx Kr hS1 X q (pq n s D2 G hI) (Ext.refl _);refine wpIn_mono hb ?_;intro e a3 w3 r;cases e with
    |normal=>
     obtain⟨H,D3,u,f,J,K,L⟩:=r;simp only[Exit.then];split at f
     ·rename_i s3 hs3;obtain⟨n',jn,hI'⟩:=f w3 L;obtain⟨Ya,Yb⟩:=head H D3 a3 s3 J K hs3;exact⟨n',jn,s3,D3,hI',Ya,Yb⟩
     ·exact AC f
    |exit id=>obtain⟨H,D3,u,f,J,K,L⟩:=r;exact⟨H,D3,u,f,J,back K,L⟩
    |ret=>obtain⟨H,D3,u,f,J,K,L⟩:=r;exact⟨H,D3,u,f,J,back K,L⟩
    | _=>exact r
  ·exact Br (C:=C) (aR:=aR) j i d h l
 |rangeFunc g ps assign body _ _=>
  intro S env D a w w' Kn Kx Kr j i d h l;simp only[Od] at h;split at h
  ·rename_i gg first cap hg
   split at h
   ·rename_i jO;simp only[B4,DZ,decide_eq_true_eq] at jO;obtain⟨D_,TT⟩:=jO;have U:=d.ev (ch:=[]) (λ_ m=>by cases m) hg;refine wpIn_rangeFunc λfn _=>?_
    let M:Loop:={state:= .ready,pending:=none,fn,tmps:=a.tmps,params:=ps,assign,body,defers:=w'.heap.size}
    have hF':Fit (λ_=>none) #[] N (marks D) env {tmps:=a.tmps,defers:=marks D}:=⟨(λ_ _ m=>by cases m),d.size,rfl,d.yes,d.no,d.FR,d.Cd⟩;have f:=h w' l M rfl rfl rfl rfl (λ_ w3 R hr=>Hl (C:=C) (aR:=aR) (rec:=M) rfl rfl rfl TT i hF' hr);have abq:(first++ #[Value.func (.yield (w'.heap.size+1)) #[] #[]]++cap:Array A2)=⟨cY first [.func (.yield (w'.heap.size+1)) #[] #[]] cap⟩:=by
     unfold cY;obtain⟨l1⟩:=first;obtain⟨l3⟩:=cap
     simp
    refine⟨w'.heap.size+1,[{target:= .collected w'.heap.size,args:= #[]}],(w'.alloc (.deferred (some []))).alloc (.loop M),{target:= .fn (.func gg) cap,args:=first++ #[.func (.yield (w'.heap.size+1)) #[] #[]]},(w'.alloc (.deferred (some []))).alloc (.loop M),gg,
     ⟨cY first [.func (.yield (w'.heap.size+1)) #[] #[]] cap⟩,(w'.alloc (.deferred (some []))).alloc (.loop M),run_enterLoop_outer _ _ _ _ _,?_,λ_ _=>trivial,?_,by simp[WF,DU],?_⟩
    ·simp only[resolve,U,Deferred.ofValue,Ap,GS,Ga,Gd];rfl
    ·simp only[invoke];rw[abq];exact uv D_
    ·refine(jN (n:=0 - 1)).2 (f.mono λe w4 ⟨v,he,st,pd,sX,vP,B⟩=>?_);subst he;have Ky:=Hm (P:=P) sX vP;have q:Fit S #[] N (marks (w'.heap.size::D)) env {a with defers:=[{target:= .collected w'.heap.size,args:= #[]}]++a.defers}:=
      ⟨d.off,d.size,by simp[marks,d.qL],d.yes,d.no,d.FR,d.Cd⟩
     refine⟨pd, _,Ky,?_⟩
     match pd,B with
     |none,B=>exact⟨env, _, _,B,i,q,Ext.refl _⟩
     |some (.exit id),B=>exact wpIn_exit ⟨env, _, _,B,i,q,Ext.refl _⟩
     |some .ret,B=>exact wpIn_ret ⟨env, _, _,B,i,q,Ext.refl _⟩
   ·exact AC h
  ·exact AC h
 | _=>intro S env D a w w' Kn Kx Kr j i d h l;exact Br (C:=C) (aR:=aR) j i d h l
def DV (P:AP) (w:A1):List ResultVar->List bO->(List A2->Prop)->Prop
 |[], _,K=>K []
 | .tmp t::r,env,K=>match bX env t with
   |some e=>DV P w r env (λl=>K (e.v::l))
   |none=>False
 | .cell t ty::r,env,K=>match bX env t with
   |some e=>match e.v,vd P ty,P.info? ty with
    | .pointer p,some el,some i=>if qf el i.size=true then False else aj w none p el (λx=>DV P w r env (λl=>K (el.gO x::l)))
    | _, _, _=>False
   |none=>False
def Ut (s:Sh) (Post:s.T->A1->Prop) (w:A1) (l:List A2):Prop:=
 match s.proj (Kz l) with
 |some x=>Post x w
 |none=>False
def byD (D:List Nat) (x:Prop) (y:Nat->List Nat->Prop):Prop:=match D with
 |[]=>x
 |r::D=>y r D
def OT (s:Sh) (rs:List ResultVar) (Post:s.T->A1->Prop):qM:=λenv D w=>byD D (au w (λw1=>DV P w1 rs env (Ut s Post w1)))
 (λr D=>sZ (r::D) w (λw1=>DV P w1 rs env (Ut s Post w1)))
def bS (C:dJ P) (aR:Nat->a6) (f:Az) (args:List A2) (w:A1) (Post:(u9 C f).T->A1->Prop):Prop:=
 match P.funcs[f]? with
 |none=>False
 |some fn=>match fn.body with
  |none=>False
  |some c=>
   if args.length<=fn.ntmps then Od C aR fn.ntmps c (jH args 0) [] w (OT (P:=P) (u9 C f) fn.results.toList Post) (λ_ _ _ _=>False) (OT (P:=P) (u9 C f) fn.results.toList Post) else False
theorem zh {tmps:Array A2} {w:A1}: ∀{l:List ResultVar} {env:List bO} {K:List A2->Prop},DV P w l env K->(∀t e,bX env t=some e->tmps[t]? =some e.v)->
 ∃vs,(l.mapM (nH tmps)).run P w= .ok vs w/\K vs
 |[], _, _,h, _=>⟨[],by simp,h⟩
 | .tmp t::r,env,K,h,hv=>by
   simp only[DV] at h;split at h
   ·rename_i e a;obtain⟨vs,dQ,b⟩:=zh h hv
    simp_all[nH]
   ·exact AC h
 | .cell t ty::r,env,K,h,hv=>by
   simp only[DV] at h;split at h
   ·rename_i e a;split at h
    ·rename_i p el i d f hi;split at h
     ·exact AC h
     ·rename_i g;obtain⟨x,c,j⟩:=h;obtain⟨vs,dQ,b⟩:=zh j hv;refine⟨el.gO x::vs,?_,b⟩;have k: ∃a0,p=some a0:=by cases el<;>(obtain⟨a0,h0, _⟩:=c;exact⟨a0,h0⟩)
      obtain⟨a0,rfl⟩:=k;have m:=tR (P:=P) f hi g c;have n:tmps.getD t undef= .pointer (some a0):=by simp[hv t e a,d]
      simp only[List.mapM_cons,AY,nH,n,asAddr,Ap,Am,m,dQ]
    ·exact AC h
   ·exact AC h
theorem ux {fn:Func} {tmps:Array A2} {R:Ending->A1->Prop}: ∀(D:List Nat) (w:A1),Ec D w->(∃v,(results fn tmps).run P (mw D w)= .ok v (mw D w)/\R (.returned v) (mw D w))->
 LeavesInM (WF none) 0 P fn tmps R (marks D) .returning w
 |[],w, _,h=>h
 |r::D,w,a,h=>⟨by simp,.inl ⟨r, _,rfl,run_takeDeferred a.1,ux D _ a.2 h⟩⟩
theorem aQ {C:dJ P} {aR:Nat->a6} {f:Az} {args:List A2} {w:A1} {Post:(u9 C f).T->A1->Prop} (h:bS C aR f args w Post):aE P f (u9 C f) args w Post:=by
 unfold bS at h;split at h
 ·exact AC h
 ·rename_i fn s;split at h
  ·exact AC h
  ·rename_i c hb;split at h
   ·rename_i H;have g:plain (jH args 0):=λe a=>sK a;have nil: ∀(o:Array Oper) (m:Array A2),j_ o m []:=λo m x d=>by cases d
    have y:Fit (λ_=>none) #[] fn.ntmps (marks []) (jH args 0) {tmps:=(⟨args⟩:Array A2)++Ee (fn.ntmps - args.length) undef,defers:=[]}:=by
     refine⟨(λ_ _ d=>by cases d),(by simp;omega),rfl,λt e a _=>?_,λt e a z=>absurd (by rw[(g e (bU a)).1];exact nil _ _) z,(λe a=>by rw[(g e a).2];exact(g e a).1),λe a b hb=>by rw[zf a] at hb;cases hb⟩;obtain⟨_,hv, _⟩:=pU a
     grind
    have A:=ZE (C:=C) (aR:=aR) c (λ_=>none) _ _ _ w w _ _ _ (λ_ _=>rfl) g y h (Ext.refl w);refine(jN (r:=none) (n:=0)).1 (callsIn_of_wp_marks s hb trivial (wpIn_mono A ?_));have fin: ∀a1 w1,(∃env D l,OT (P:=P) (u9 C f) fn.results.toList Post env D l/\plain env/\Fit (λ_=>none) #[] fn.ntmps (marks D) env a1/\Ext l w1)->
     LeavesInM (WF none) 0 P fn a1.tmps (λe w'=> ∃x:(u9 C f).T,e= .returned ((u9 C f).gO x)/\Post x w') a1.defers .returning w1:=by
     intro a1 w1 ⟨env,D,l,i,B,p,q⟩;obtain⟨E,F⟩:Ec D w1/\DV P (mw D w1) fn.results.toList env (Ut (u9 C f) Post (mw D w1)):=by
      cases D with
      |nil=>exact⟨trivial,i w1 q⟩
      |cons r D=>exact i w1 q
     rw[p.qL];refine ux D w1 E ?_;obtain⟨vs,dQ,j⟩:=zh F (λt e a=>p.yes t e a (by rw[(B e (bU a)).1];exact nil _ _));unfold Ut at j;split at j
     ·rename_i x d;refine⟨Kz vs,?_,x,by rw[Sh.ir d],j⟩;have G:(fn.results.mapM (nH a1.tmps)).run P (mw D w1)= .ok ⟨vs⟩ (mw D w1):=by
       rw[IR,Sem.run_map,dQ];rfl
      have e:results fn a1.tmps=(do
       let vs<-fn.results.mapM (nH a1.tmps)
       pure _):=rfl
      rw[e,AY,G];simp only[Am,Ap]
      match vs with
      |[]=>rfl
      |[v]=>rfl
      |v::u::r=>simp[Kz]
     ·exact AC j
    intro e a1 w1 k;cases e with
    |normal=>exact fin a1 w1 k
    |ret=>exact fin a1 w1 k
    |exit id=>obtain⟨_, _, _,i, _⟩:=k;exact AC i
    | _=>exact AC k
   ·exact AC h
theorem putObj_size (w:A1) (b:Nat) (o:Obj):(w.putObj b o).heap.size=w.heap.size:=by simp
theorem fO {w:A1} {b k:Nat} {o:Obj} (h:k≠b):(w.putObj b o).heap[k]? =w.heap[k]? :=by
 simp[FI,Ne.symm h]
theorem j9 {w:A1} {b:Nat} {o:Obj} (h:b<w.heap.size):(w.putObj b o).heap[b]? =some o:=by
 simp[FI,h]
theorem WW (w:A1) (a:AL) (v:A2):(w.setCell a v).heap.size=w.heap.size:=by simp
theorem Hn {w:A1} {a:AL} {k:Nat} {v:A2} (h:k≠a.block):(w.setCell a v).heap[k]? =w.heap[k]? :=by
 simp[Kh,OR,Ne.symm h]
theorem AL.vA (a:AL) (n:Nat):(a.add n).block=a.block:=by
 unfold Addr.add;grind
theorem sL: ∀(vs:List A2) (w:A1) (a:AL) (i:Nat),(putAt w a vs i).heap.size=w.heap.size
 |[], _, _, _=>rfl
 |v::r,w,a,i=>by simp[putAt,sL]
theorem mV: ∀(vs:List A2) (w:A1) (a:AL) (i k:Nat),k≠a.block->(putAt w a vs i).heap[k]? =w.heap[k]?
 |[], _, _, _, _, _=>rfl
 |v::r,w,a,i,k,h=>by
  simp[putAt];rw[mV r _ a _ k h,Hn (by rw[AL.vA];omega)]
theorem Below.putAt {n:Nat} {w w':A1} (h:Below n w w') (a:AL) (c:n<=a.block): ∀(vs:List A2) (i:Nat),Below n w (putAt w' a vs i):=by
 intro vs i
 induction vs generalizing w' i with
 |nil=>exact h
 |cons v r b=>
  exact b (h.setCell (by rw[AL.vA];omega) v) _
theorem Fv {n:Nat} {w w':A1} (h:Below n w w') {b:Nat} (hb:n<=b) (o:Obj):Below n w (w'.putObj b o):=
 ⟨h.os,h.tape,h.output,by rw[putObj_size];exact h.size,λk a=>by rw[fO (by omega)];exact h.block k a⟩
theorem Ext.jB {w w':A1} (h:Ext w w') {a:AL} (b:w.heap.size<=a.block) (vs:List A2):Ext w (jB w' (some a) vs):=Below.putAt h a b vs 0
theorem Ext.putObj {w w':A1} (h:Ext w w') {b:Nat} (hb:w.heap.size<=b) (o:Obj):Ext w (w'.putObj b o):=Fv h hb o
theorem Ext.jc {w w':A1} (h:Ext w w') (o:Obj):Ext w (w'.alloc o):=h.trans (Ext.alloc w' o)
def bK (w:A1) (b:Nat) (l:List A2):Prop:= ∃t,w.heap[b]? =some (.cells ⟨l⟩ t (0,0))
theorem bK.lt {w:A1} {b:Nat} {l:List A2} (h:bK w b l):b<w.heap.size:=by
 obtain⟨⟩:=h;grind
theorem bK.ext {w w':A1} {b:Nat} {l:List A2} (h:bK w b l) (k:Ext w w'):bK w' b l:=by
 obtain⟨t,h⟩:=h;exact⟨t,k.obj h⟩
theorem lG (w:A1) (o:Obj):(w.alloc o).heap.size=w.heap.size+1:=by simp
theorem fD (w:A1) (o:Obj):(w.alloc o).heap[w.heap.size]? =some o:=by
 show(w.heap.push o)[w.heap.size]? =some o;simp
theorem bK.new (w:A1) (l:List A2) (t:AM):bK (w.alloc (.cells ⟨l⟩ t)) w.heap.size l:=⟨t,fD _ _⟩
theorem bK.same {w w':A1} {b:Nat} {l:List A2} (h:bK w b l) (k:w'.heap[b]? =w.heap[b]?):bK w' b l:=by
 obtain⟨t⟩:=h;exact⟨t,by grind⟩
theorem bK.XE {w:A1} {b:Nat} {l:List A2} (h:bK w b l) {a:AL} (c:b≠a.block) (vs:List A2):bK (jB w (some a) vs) b l:=
 h.same (mV vs w a 0 b c)
theorem bK.putObj {w:A1} {b:Nat} {l:List A2} (h:bK w b l) {k:Nat} (a:b≠k) (o:Obj):bK (w.putObj k o) b l:=h.same (fO a)
theorem Oz (b o n:Nat):Addr.add ⟨b,o,none⟩ n=⟨b,o+n,none⟩:=by
 unfold Addr.add;simp
theorem aW (b o n:Nat):ad (some ⟨b,o,none⟩) n=some ⟨b,o+n,none⟩:=by simp[ad,Oz]
theorem bK.cell {w:A1} {b:Nat} {l:List A2} (h:bK w b l) (o:Nat):w.cell? ⟨b,o,none⟩=l[o]? :=by
 obtain⟨t,h⟩:=h;simp[Kg,h]
theorem bK.cellAt {w:A1} {b:Nat} {l:List A2} (h:bK w b l) (o n:Nat):w.cell? (Addr.add ⟨b,o,none⟩ n)=l[o+n]? :=by rw[Oz,h.cell]
theorem bK.KO {w:A1} {b:Nat} {l:List A2} (h:bK w b l) (a:AL) (c:a.block=b):w.frozen? a=false:=by
 obtain⟨t,h⟩:=h;simp[World.frozen?,c,h]
theorem bK.oK {w:A1} {b o:Nat} {l:List A2} (h:bK w b l) {s:Sc} {x:s.T} (a:l[o]? =some (s.gO x)):cC w (some ⟨b,o,none⟩) (.one s) x:=
 ⟨_,rfl,by rw[h.cell];omega⟩
theorem bK.rdA {w:A1} {b o:Nat} {l:List A2} (h:bK w b l) {ss:List Sc} {x:iA ss} (a: ∀i,i<ss.length->l[o+i]? =(a_ ss x)[i]?):cC w (some ⟨b,o,none⟩) (.agg ss) x:=
 ⟨_,rfl,λhi=>by rw[h.cellAt];grind⟩
theorem bK.oW {w:A1} {b o n:Nat} {l vs:List A2} (h:bK w b l) (a:vs.length=n) (c: ∀i,i<n->l[o+i]? =vs[i]?):oW w (some ⟨b,o,none⟩) n vs:=
 ⟨a,λhi=>by rw[h.cellAt];grind⟩
theorem bK.st {w:A1} {b o n:Nat} {l:List A2} (h:bK w b l) (a:o+n<=l.length):Un w (some ⟨b,o,none⟩) n:=
 ⟨_,rfl,λi hi=>⟨by rw[h.cellAt,Hr (by omega)];rfl,h.KO _ (AL.vA _ _)⟩⟩
theorem Dp {w:A1} {b o:Nat} {l:List A2} {t:AM} (h:w.heap[b]? =some (.cells ⟨l⟩ t (0,0))) (v:A2):(w.setCell ⟨b,o,none⟩ v).heap[b]? =some (.cells ⟨l.set o v⟩ t (0,0)):=by
 simp only[Kh,OR,h];simp
theorem zR: ∀(vs:List A2) (w:A1) (b o i:Nat) (l:List A2) (t:AM),w.heap[b]? =some (.cells ⟨l⟩ t (0,0))->o+i+vs.length<=l.length->
 (putAt w ⟨b,o,none⟩ vs i).heap[b]? =some (.cells ⟨l.take (o+i)++(vs++l.drop (o+i+vs.length))⟩ t (0,0))
 |[],w,b,o,i,l,t,h, _=>by simp[putAt,h]
 |v::r,w,b,o,i,l,t,h,c=>by
  simp_all
  simp only[putAt,Oz];rw[zR r _ b o (i+1) (l.set (o+i) v) t (Dp h v) (by simp;omega)];congr 3;have h1:(l.set (o+i) v).take (o+(i+1))=l.take (o+i)++[v]:=by
   grind[M4,M5]
  have a:(l.set (o+i) v).drop (o+(i+1)+r.length)=l.drop (o+i+(r.length+1)):=by
   grind[N4]
  rw[h1,a];simp
theorem bK.put {w:A1} {b o:Nat} {l:List A2} (h:bK w b l) (vs:List A2) (a:o+vs.length<=l.length):bK (jB w (some ⟨b,o,none⟩) vs) b (l.take o++(vs++l.drop (o+vs.length))):=by
 obtain⟨t,h⟩:=h;exact⟨t,zR vs w b o 0 l t h a⟩
theorem cT.lt {w:A1} {l:Nat} {rec:Loop} {st:LoopState} {a:Option Code} (h:cT w l rec st a):l<w.heap.size:=(Be.1 h).1
theorem cT.ext {w w':A1} {l:Nat} {rec:Loop} {st:LoopState} {a:Option Code} (h:cT w l rec st a) (k:Ext w w'):cT w' l rec st a:=k.obj h
theorem cT.same {w w':A1} {l:Nat} {rec:Loop} {st:LoopState} {a:Option Code} (h:cT w l rec st a) (k:w'.heap[l]? =w.heap[l]?):cT w' l rec st a:=by grind[cT]
theorem cT.put {w:A1} {l:Nat} {rec:Loop} {st:LoopState} {c:Option Code} (h:cT w l rec st c) (a:LoopState) (b:Option Code):cT (tn w l rec a b) l rec a b:=
 j9 h.lt
theorem jZ {w:A1} {p:Option AL} {ss:List Sc} {x:iA ss} {j:Nat} {s:Sc} {y:s.T} (h:cC w p (.agg ss) x) (b:j<ss.length) (c:(a_ ss x)[j]? =some (s.gO y)):cC w (ad p j) (.one s) y:=by
 obtain⟨a,rfl,h⟩:=h;exact⟨a.add j,rfl,by grind⟩
theorem Bt {p:Option AL} (h:p.isSome=true) (n:Nat):(ad p n).isSome=true:=by
 cases p
 ·grind
 rfl
def cellsOf:(e:El)->e.T->List A2
 | .one s,x=>[s.gO x]
 | .agg l,x=>a_ l x
def aF:El->Nat
 | .one _=>1
 | .agg l=>l.length
theorem dw (e:El) (x:e.T):(cellsOf e x).length=aF e:=by
 cases e with
 |one=>rfl
 |agg l=>exact cD l x
def Sl (w:A1) (e:El) (p:Option AL) (xs:List e.T):Prop:= ∀i x,xs[i]? =some x->p.isSome=true/\cC w (ad p (i*aF e)) e x
theorem Sl.ext {w w':A1} {e:El} {p:Option AL} {xs:List e.T} (h:Sl w e p xs) (k:Ext w w'):Sl w' e p xs:=
 λi x a=>⟨(h i x a).1,pL k (h i x a).2⟩
def flat (e:El) (xs:List e.T):List A2:=xs.flatMap (cellsOf e)
theorem aG (e:El) (xs:List e.T):(flat e xs).length=xs.length*aF e:=by
 induction xs with
 |nil
 |cons=>simp only[flat,OG,E5,dw] at*;grind
theorem dO (e:El) (xs ys:List e.T):flat e (xs++ys)=flat e xs++flat e ys:=by simp[flat]
theorem zj (e:El): ∀(xs:List e.T) (i:Nat) (x:e.T),xs[i]? =some x-> ∀j,j<aF e->(flat e xs)[i*aF e+j]? =(cellsOf e x)[j]?
 |y::r,0,x,h,j,a=>by
  simp_all[flat,List.getElem?_append_left,dw]
 |y::r,i+1,x,h,j,a=>by
  have b:=zj e r i x ‹_› j a;simp[flat,OG];rw[List.getElem?_append_right (by rw[dw,Eo];omega),dw];rw[show(i+1)*aF e+j - aF e=i*aF e+j by grind];exact b
theorem Sl.jI {w:A1} {e:El} {b:Nat} {l:List A2} {xs:List e.T} (h:bK w b l) (d:l.take (xs.length*aF e)=flat e xs):Sl w e (some ⟨b,0,none⟩) xs:=by
 intro i x c;have hi:=(List.getElem?_eq_some_iff.1 c).1;have f: ∀j,j<aF e->i*aF e+j<xs.length*aF e:=λj a=>by
  have:(i+1)*aF e<=xs.length*aF e:=Oe _ hi
  grind
 have hc: ∀j,j<aF e->l[i*aF e+j]? =(cellsOf e x)[j]? :=λj a=>by
  rw[<-zj e xs i x c j a, <-d,List.getElem?_take_of_lt (f j a)]
 simp;rw[aW,KA];cases e with
 |one=>exact h.oK (by simp_all[aF,cellsOf])
 |agg ss=>exact h.rdA ‹_›
def lR (w0 w:A1) (e:El) (s:Option AL×Nat×Nat) (xs:List e.T):Prop:=
 s.2.1=xs.length/\xs.length<=s.2.2/\
 ((s.1=none/\xs=[]/\s.2.2=0)\/ ∃b l,s.1=some ⟨b,0,none⟩/\w0.heap.size<=b/\bK w b l/\l.length=s.2.2*aF e/\l.take (xs.length*aF e)=flat e xs)
theorem lR.nil (w0 w:A1) (e:El):lR w0 w e (none,0,0) []:=⟨rfl,by simp⟩
theorem lR.ext {w0 w w':A1} {e:El} {s:Option AL×Nat×Nat} {xs:List e.T} (h:lR w0 w e s xs) (k:Ext w w'):lR w0 w' e s xs:=by
 obtain⟨h1,c,a⟩:=h;refine⟨h1,c,?_⟩;rcases a with a|⟨b,l,a1,d,f,g⟩
 ·grind
 ·exact .inr ⟨b,l,a1,d,f.ext k,g⟩
theorem lR.same {w0 w w':A1} {e:El} {s:Option AL×Nat×Nat} {xs:List e.T} (h:lR w0 w e s xs) (k: ∀a,s.1=some a->w'.heap[a.block]? =w.heap[a.block]?):lR w0 w' e s xs:=by
 obtain⟨h1,d,c⟩:=h;refine⟨h1,d,?_⟩;rcases c with c|⟨b,l,a1,f,g,i⟩
 ·grind
 ·exact .inr ⟨b,l,a1,f,g.same (k _ a1),i⟩
theorem lR.sl {w0 w:A1} {e:El} {s:Option AL×Nat×Nat} {xs:List e.T} (h:lR w0 w e s xs):Sl w e s.1 xs:=by
 obtain⟨h1,f,a⟩:=h;rcases a with ⟨_,g, _⟩|⟨b,l,a1,i,c,j,d⟩
 ·intro;grind
 ·rw[a1];exact Sl.jI c d
theorem lR.len {w0 w:A1} {e:El} {s:Option AL×Nat×Nat} {xs:List e.T} (h:lR w0 w e s xs):s.2.1=xs.length:=h.1
def gY:El->Bool
 | .one s=>s != .func
 | .agg l=>l.all (· != .func)
theorem zS (s:Sc) (x:s.T) (h:(s != .func)=true):(s.gO x).oneCell'=true:=by
 cases s<;>first|rfl|grind
theorem uy: ∀(ss:List Sc) (x:iA ss),ss.all (· != .func)=true->(a_ ss x).all (·.oneCell')=true
 |[], _, _=>rfl
 |s::r,x,h=>by
  simp only[Hq,B4] at h;simp[a_,uy r _ h.2,zS s _ h.1]
theorem Fw (e:El) (x:e.T) (h:gY e=true):(cellsOf e x).all (·.oneCell')=true:=by
 cases e with
 |one s=>simp[cellsOf,zS s x h]
 |agg l=>exact uy l x h
theorem jQ (e:El) (xs:List e.T) (h:gY e=true):(flat e xs).all (·.oneCell')=true:=by grind[flat,Fw]
theorem lH {w0 w:A1} {e:El} {s x:Option AL×Nat×Nat} {xs ys:List e.T} {t:AM} {bytes:Nat} {z:Array A2} {R:Option AL×Nat×Nat->A1->Prop}
 (h:lR w0 w e s xs) (h0:Ext w0 w) (y:gY e=true) (d:x.2.1=ys.length) (A:oW w x.1 (x.2.1*aF e) (flat e ys)) (B:z.size=aF e) (hb:(xs.length+ys.length)*bytes<=140737488355328)
 (k: ∀s' w',lR w0 w' e s' (xs++ys)->Ext w0 w'->(∀b,b<w.heap.size->(∀a,s.1=some a->b≠a.block)->w'.heap[b]? =w.heap[b]?)->w.heap.size<=w'.heap.size->
  ((∃a,s'.1=some a/\s.1=some a)\/(∃a,s'.1=some a/\w.heap.size<=a.block)\/s'=(s.1,s.2.1,s.2.2))->R s' w'):
 mF w t (aF e) bytes z s x R:=by
 obtain⟨h1,K,p⟩:=h;have n:=aG e xs;have j:=aG e ys;have C:oW w s.1 (s.2.1*aF e) (flat e xs):=by
  rcases p with ⟨a1,g,f⟩|⟨b,l,a1,g,f,q,r⟩
  ·rw[a1,g];rfl
  ·rw[a1];refine f.oW (by rw[n,h1]) λi hi=>?_
   grind
 refine⟨flat e xs,flat e ys,C,A,λm=>?_,λm=>⟨growslice_fits m (by rw[h1,d];exact hb),λc hc=>?_⟩⟩
 ·rcases p with ⟨a1,g,f⟩|⟨b,l,a1,g,f,q,r⟩
  ·rw[f] at m;have D:ys=[]:=List.eq_nil_of_length_eq_zero (by omega);subst D;subst g;refine⟨.inl rfl,?_⟩;have E:s.2.1=0:=h1;have u:x.2.1=0:=d;rw[a1];refine k _ _ ⟨by simp[E,u],Nat.zero_le _,.inl ⟨rfl,rfl,f⟩⟩ ?_ (λ_ _ _=>rfl) (DR _) (.inr (.inr ?_))
   ·exact h0
   ·rw[a1,u];rfl
  ·have v:xs.length*aF e+ys.length*aF e<=l.length:=by
    rw[q, <-Eo];exact Oe _ (by rw[<-h1, <-d];exact m)
   have F:s.1.map (·.add (s.2.1*aF e))=some ⟨b,xs.length*aF e,none⟩:=by
    rw[a1,h1];simp[Oz]
   rw[F];refine⟨.inr ⟨f.st (by rw[j];exact v),jQ e ys y⟩,?_⟩;have G:=f.put (o:=xs.length*aF e) (flat e ys) (by rw[j];exact v);refine k _ _ ⟨by simp[h1,d],by simp only[E5];rw[<-h1, <-d];exact m,.inr ⟨b, _,a1,g,G,?_,?_⟩⟩ (h0.jB (a:=⟨b, _,none⟩) g _) (λH L I=>mV (flat e ys) w ⟨b, _,none⟩ 0 H (I ⟨b,0,none⟩ a1)) (Nat.le_of_eq (sL _ _ _ _).symm) (.inl ⟨_,a1,a1⟩)
   grind
   ·rw[r];have:(xs++ys).length*aF e=(flat e xs++flat e ys).length:=by simp only[E5,n,j,Eo]
    rw[this, <-List.append_assoc,dO];exact OI rfl
 ·have M:w.drew.heap.size=w.heap.size:=rfl;refine k _ _ ⟨by simp[h1,d],by simp only[E5];rw[<-h1, <-d];exact hc,.inr ⟨w.heap.size,flat e xs++flat e ys++(GF z (c - (s.2.1+x.2.1))).toList,rfl,h0.size,?_,?_,?_⟩⟩ ((h0.trans (Ext.drew w)).trans (Ext.alloc _ _)) (λb hb _=>?_) ?_ (.inr (.inl ⟨_,rfl,DR _⟩))
  ·have J:(IN (flat e xs)++IN (flat e ys)++GF z (c - (s.2.1+x.2.1)))=⟨flat e xs++flat e ys++(GF z (c - (s.2.1+x.2.1))).toList⟩:=by
    apply IQ;simp
   rw[J];exact bK.new w.drew _ _
  ·simp only[E5,n,j,GF,Array.length_toList,Array.size_map,Array.size_range,B];rw[<-Eo, <-h1, <-d, <-Eo];congr 1;omega
  ·have:(xs++ys).length*aF e=(flat e xs++flat e ys).length:=by simp only[E5,n,j,Eo]
   rw[this,dO];exact OI rfl
  ·have:w.drew.heap=w.heap:=rfl;rw[Ext.block (Ext.alloc w.drew _) (by rw[this];exact hb),this]
  ·rw[lG];exact Nat.le_succ _
theorem Qq {w0 w c w1:A1} {e:El} {s:Option AL×Nat×Nat} {xs:List e.T} {x:e.T} {t:AM} {bytes:Nat} {z:Array A2} {R:Option AL×Nat×Nat->A1->Prop}
 (h:lR w0 w e s xs) (h0:Ext w0 w) (g:gY e=true) (i:Ext w c) (d:Ext (c.alloc (.cells ⟨cellsOf e x⟩ t)) w1) (j:z.size=aF e) (hb:(xs.length+1)*bytes<=140737488355328)
 (k: ∀s' w',lR w0 w' e s' (xs++[x])->Ext w0 w'->(∀b,b<w.heap.size->(∀a,s.1=some a->b≠a.block)->w'.heap[b]? =w.heap[b]?)->w.heap.size<=w'.heap.size->R s' w'):
 mF w1 t (aF e) bytes z s (some ⟨c.heap.size,0,none⟩,1,1) R:=by
 have kk:=(i.trans (Ext.alloc c _)).trans d;have l:=(bK.new c _ _).ext d;refine lH (ys:=[x]) (h.ext kk) (h0.trans kk) g rfl ?_ j hb λs' w' m n o p _=>k s' w' m n (λb f q=>?_) (Nat.le_trans kk.size p)
 ·refine l.oW (aG e _) λhi=>?_;simp[flat]
 ·rw[o b (Og f kk.size) q,kk.block f]
def U (b:BitVec 64):Int:=(b.toNat:Int)
def B (x:Int):BitVec 64:=CB 64 x
theorem FJ (b:BitVec 64):B (U b)=b:=by simp[B,U]
theorem abr {a b:BitVec 64}:U a=U b<->a=b:=by grind[FJ]
theorem wrap_u64 (x:Int):Oy.wrap x=x % 18446744073709551616:=rfl
theorem U_B (x:Int):U (B x)=x % 18446744073709551616:=by
 unfold U B;simp
 grind
theorem Cu {x:Int} (h:0<=x) (h':x<18446744073709551616):U (B x)=x:=by
 rw[U_B,Int.emod_eq_of_lt h h']
theorem ZF (x:Int):Oy.wrap x=U (B x):=by rw[wrap_u64,U_B]
theorem Ps (a b:BitVec 64):xB .u64 (U a) (U b)=U (a &&& b):=by
 show U (B (U (B _ &&& B _)))= _;rw[FJ,FJ,FJ]
theorem abt (a b:BitVec 64):orI .u64 (U a) (U b)=U (a ||| b):=by
 show U (B (U (B _ ||| B _)))= _;rw[FJ,FJ,FJ]
theorem KP (a b:BitVec 64):gL .u64 (U a) (U b)=U (a &&& ~~~ b):=by
 show U (B (U (B _ &&& ~~~ B _)))= _;rw[FJ,FJ,FJ]
theorem Pt (a:BitVec 64) (n:Int):DP .u64 (U a) n=U (a <<< n.toNat):=by
 unfold DP;rw[wrap_u64];unfold U;rw[BitVec.toNat_shiftLeft,Nat.shiftLeft_eq];show(a.toNat:Int)*2 ^ min _ 64 % _= _;by_cases n.toNat<=64
 grind
 ·have h1:a.toNat*2 ^ n.toNat % 2 ^ 64=0:=by
   apply Nat.mod_eq_zero_of_dvd;exact Nat.dvd_trans (Nat.pow_dvd_pow 2 (by omega)) (Nat.dvd_mul_left ..)
  grind
theorem Pu (a:BitVec 64) (n:Int):Kv .u64 (U a) n=U (a >>> n.toNat):=by
 unfold U;rw[BitVec.toNat_ushiftRight,Nat.shiftRight_eq_div_pow];have e: ∀k,(a.toNat:Int).fdiv (2 ^ k)=(a.toNat / 2 ^ k: ):=λk=>by
  grind
 show(a.toNat:Int).fdiv (2 ^ min _ 64)= _;rw[e];by_cases n.toNat<=64
 grind
 ·rw[Nat.min_eq_right (by omega)];have h0:=a.isLt;rw[Ox h0,Ox (Og h0 (Nat.pow_le_pow_right (by simp) (by omega)))]
theorem gz {x:Int} (h: -9223372036854775808<=x) (h':x<9223372036854775808):Du.wrap x=x:=by
 simp only[IntKind.wrap,IntKind.bits,IntKind.signed]
 grind
theorem aw {x y:Int} (h: -9223372036854775808<=x+y) (h':x+y<9223372036854775808):aH .i64 x y=x+y:=gz h h'
theorem bE {x y:Int} (h: -9223372036854775808<=x - y) (h':x - y<9223372036854775808):aZ .i64 x y=x - y:=gz h h'
theorem eK {x y:Int} (h: -9223372036854775808<=x*y) (h':x*y<9223372036854775808):iB .i64 x y=x*y:=gz h h'
theorem bV {P:AP} {f:Az} {sh:Sh} {args:List A2} {w:A1} {x:sh.T} (h:aE P f sh args w (λy w'=>y=x/\Ext w w')):
 Calls P f ⟨args⟩ w (λe w'=>e= .returned (sh.gO x)/\Ext w w'):=
 F5 h (by grind)
abbrev af (b:Nat):Option AL:=some ⟨b,0,none⟩
abbrev kM:El:= .one .ptr
abbrev aS:El:= .one (.int .i64)
abbrev qN:El:= .one (.int .u64)
abbrev eY:El:= .one .slice
abbrev qO:El:= .one .bool
abbrev OA:El:= .one .map
abbrev gi (w:A1) (a:Option AL) (K:Option AL->Prop):Prop:=aj w none a (.one .ptr) K
abbrev bG (p:Option AL) (n:Nat) (w:A1) (K:Option AL->Prop):Prop:=p.isSome=true/\p.isSome=true/\aj w none (ad p n) (.one .ptr) K
abbrev aU (w:A1) (a:Option AL) (K:Int->Prop):Prop:=aj w none a (.one (.int .i64)) K
abbrev cN (p:Option AL) (n:Nat) (w:A1) (K:Int->Prop):Prop:=p.isSome=true/\p.isSome=true/\aj w none (ad p n) (.one (.int .i64)) K
abbrev cM (w:A1) (a:Option AL) (K:Int->Prop):Prop:=aj w none a (.one (.int .u64)) K
abbrev ada (p:Option AL) (n:Nat) (w:A1) (K:Int->Prop):Prop:=p.isSome=true/\p.isSome=true/\aj w none (ad p n) (.one (.int .u64)) K
abbrev tq (w:A1) (a:Option AL) (K:Option AL×Nat×Nat->Prop):Prop:=aj w none a (.one .slice) K
abbrev fi (p:Option AL) (n:Nat) (w:A1) (K:Option AL×Nat×Nat->Prop):Prop:=p.isSome=true/\p.isSome=true/\aj w none (ad p n) (.one .slice) K
abbrev tr (w:A1) (a:Option AL) (K:Bool->Prop):Prop:=aj w none a (.one .bool) K
abbrev acu (p:Option AL) (n:Nat) (w:A1) (K:Bool->Prop):Prop:=p.isSome=true/\p.isSome=true/\aj w none (ad p n) (.one .bool) K
abbrev adb (w:A1) (a:Option AL) (K:Option Nat->Prop):Prop:=aj w none a (.one .map) K
abbrev tu (p:Option AL) (n:Nat) (w:A1) (K:Option Nat->Prop):Prop:=p.isSome=true/\p.isSome=true/\aj w none (ad p n) (.one .map) K
abbrev cF:El:= .agg [.int .u64,.int .i64]
abbrev dR:El:= .agg [.int .i64,.int .i64,.int .i64,.int .i64]
abbrev vh:El:= .agg [.int .i64,.int .u64,.int .u64,.int .u64]
abbrev xD:El:= .agg [.int .i64,.int .i64,.int .i64]
abbrev Y8:El:= .agg [.int .i64,.int .i64,.int .i64,.int .i64,.int .u64,.int .u64,.int .u64,.int .u64,.int .i64]
abbrev kh:El:= .agg [.bool,.int .i64,.bool,.int .i64]
theorem ao {c:Prop} {h:Decidable c} (a: ¬c) {α:Sort _} {t e:α}:ite c t e=e:=if_neg a
theorem av {c:Prop} {h:Decidable c} (hc:c) {α:Sort _} {t e:α}:ite c t e=t:=if_pos hc
abbrev aa (x:Int):A2:= .int .i64 x
abbrev ay (x:Int):A2:= .int .u64 x
abbrev ag (x:Option AL):A2:= .pointer x
end Go.RX
