import Derived.CallsIn
import Derived.OrdersIn
import Derived.Below
import Derived.Laws.Sem
import Derived.KernelRfl
import Derived.Laws.StructEq
import Derived.Laws.Small
import Derived.WalkSpells
import Derived.ChangeKeysEq
import Derived.RangeFuncLeaves
import Derived.Laws.World
import Derived.Laws.NewFold
import Derived.OwnWalkIn
import Derived.ChangeMaps4
import Derived.Maps.RangeRun
import Derived.RangeFuncRecord
import Derived.LaidEqlPtr
import Derived.Conc.LoneSelect
import Derived.Laws.Append
import Derived.Test.YtlcenllcmeebhaaGreatProg
import Derived.Deep.Slices
import Derived.ProofKit
import Derived.OpenShut
/-! What the statement leans on: texts joined and shortened by a program of mine. -/
set_option linter.unusedVariables false
set_option linter.unusedSimpArgs false
open Go renaming World->A2,Value->AB,Addr->AR,TypeId->Ab,Program->Ax,IntKind->B3,FuncId->B4,MapEntry->DG
open False renaming elim->AC
open Go.Sem renaming run_bind->Az,run_pure->B2
open Go.Result renaming andThen_ok->B1,andThen->DJ
open Go.Region renaming ready->B5,wanted->BT,binds->DU,schedule->GS,linearise->NU
open List renaming range->B9,mem_filter->Bx,mem_cons->Ca,all_eq_true->Df,mem_range->Dj,mem_append->Do,length_append->Ds,mem_map->Ga,getElem?_cons_zero->Gd,map_toArray->Gi,map_cons->H4,map_nil->H5,range'->H6,countP_singleton->H7,all_cons->Ix,getElem?_eq_getElem->J3,mem_cons_self->J4,getElem?_toArray->J8,getElem?_cons_succ->JJ,range'_succ->JL,countP_append->JN,length_cons->NY,take_add_one->Nl,take_set_of_le->Np,drop_set_of_lt->Nq,mem_cons_of_mem->Ns,find?_some->Nt,filter_cons->Nv,range_eq_range'->Ny,countP_eq_zero->O2,range_succ->OJ,flatMap_cons->Of,take_left'->PP
open Go.Op renaming equalIn->B_
open Bool renaming and_eq_true->BN,false_eq_true->Dt,or_eq_true->FX,not_eq_true'->HB,or_false->JP,not_false->PS
open Array renaming getElem?_eq_some_iff->Bs,getElem?_setIfInBounds_ne->DM,replicate->Dy,getD_eq_getD_getElem?->FY,all_eq_true_iff_forall_mem->HZ,mk->JQ,ext'->JV,mapM_eq_mapM_toList->JW,getD->K1,getElem?_eq_getElem->LL,mem_of_getElem?->M4,getElem?_modify->Pl
open BitVec renaming ofInt->C6
open Go.Act renaming put->C8,put_comm->Dl,eval->Fo
open Option.some renaming injEq->DA
open Go.MapKept renaming run_getObj_map->DB,run_checkKey->DY,run_findKey->Db,IsKey->Hb,run_setObj_map->Hr
open Nat renaming le_refl->Dc,blt->E4,add_mul->E5,testBit_or->Ft,zero_add->M5,strongRecOn->N2,mul_le_mul_right->Pp,lt_of_lt_of_le->Rg,div_eq_of_lt->Rz
open Go.Fence renaming wide->Dd
open Go.IntKind renaming i64->Dn,u64->S0
open Go.Calls renaming mono->F5
open Go.Instr renaming findNow->FC,lookup->FG,fill->I1,indexAt->I2,sureAddr->IR,index->If,extract->Ij,mapUpdate->N4,sliceBound->S1,sliceBounds->S2,sliceAt->S8,makeSlice->T0,buildSlice->T3
open Go.World renaming putObj->FS,cell?->N5,setCell->N6
open Go.Builtin renaming firstCells->FV,len_->Fw,zeroCells->Fy,lenOf->N7,append_->NO,delete_->NP,nextslicecap->T_,copy_->TD
open Go.Region.linearise renaming go->FW
open Option renaming map_some->G1,getD_some->Ik,map_none->TE
open Go.Conc renaming G->In,solo->TH,rcase->TO
namespace Go.RX
open Go.RowKit
def Ext (w w':A2):Prop:=Below w.heap.size w w'
theorem Ext.refl (w:A2):Ext w w:=Below.refl _ w
theorem Ext.trans {a b c:A2} (h:Ext a b) (k:Ext b c):Ext a c:=Below.trans h (Below.mono k h.size)
theorem Ext.drew (w:A2):Ext w {w with drawn:=w.drawn+1}:=⟨rfl,rfl,rfl,Dc _,λ_ _=>rfl⟩
theorem Ext.alloc (w:A2) (o:Obj):Ext w (w.alloc o):=Below.alloc (Below.refl _ w) (Dc _) o
theorem Ext.size {w w':A2} (h:Ext w w'):w.heap.size<=w'.heap.size:=Below.size h
theorem Ext.block {w w':A2} (h:Ext w w') {k:Nat} (a:k<w.heap.size):w'.heap[k]? =w.heap[k]? :=Below.block h k a
theorem Ext.obj {w w':A2} (h:Ext w w') {k:Nat} {o:Obj} (a:w.heap[k]? =some o):w'.heap[k]? =some o:=by
 rw[h.block (Bs.1 a).1];exact a
theorem GB {w:A2} {a:AR} {v:AB} (h:w.cell? a=some v):a.block<w.heap.size:=by
 unfold N5 at h;cases b:w.heap[a.block]? with
 |none=>simp[b] at h
 |some o=>exact(Bs.1 b).1
theorem Ext.cell {w w':A2} (h:Ext w w') {a:AR} {v:AB} (b:w.cell? a=some v):w'.cell? a=some v:=by
 rw[Below.cell h (GB b)];exact b
inductive Sc where
 |int (k:B3)|bool|str|ptr|slice|map|chan|func|z7 (f:B4) (n:Nat)|Xh
 deriving DecidableEq
@[reducible] def DH:Nat->Type
 |0=>Unit
 |n+1=>Option AR×DH n
def xx:(n:Nat)->DH n->List AB
 |0, _=>[]
 |n+1,x=> .pointer x.1::xx n x.2
def mP:(n:Nat)->List AB->Option (DH n)
 |0,[]=>some ()
 |n+1,.pointer a::r=>match mP n r with
  |some y=>some (a,y)
  |none=>none
 | _, _=>none
theorem tN: ∀{n:Nat} {l:List AB} {x:DH n},mP n l=some x->xx n x=l
 |0,[], _, _=>rfl
 |0, _:: _, _,h=>by simp[mP] at h
 |n+1,[], _,h=>by simp[mP] at h
 |n+1,v::r,x,h=>by
  cases v<;>simp only[mP] at h<;>(try (cases h;done));split at h
  ·rename_i y a;cases h;simp only[xx,tN a]
  ·cases h
@[reducible] def Sc.T:Sc->Type
 | .int _=>Int
 | .bool=>Bool
 | .str=>ByteArray
 | .ptr=>Option AR
 | .slice=>Option AR×Nat×Nat
 | .map=>Option Nat
 | .chan=>Option Nat
 | .func=>AB
 | .z7 _ n=>DH n
 | .Xh=>Nat
def Sc.gz:(s:Sc)->s.T->AB
 | .int k,n=> .int k n
 | .bool,b=> .bool b
 | .str,s=> .string s
 | .ptr,a=> .pointer a
 | .slice,x=> .slice x.1 x.2.1 x.2.2
 | .map,r=> .map r
 | .chan,r=> .chan r
 | .func,v=>v
 | .z7 f n,x=> .func (.func f) #[] ⟨xx n x⟩
 | .Xh,y=> .func (.yield y) #[] #[]
def Sc.proj:(s:Sc)->AB->Option s.T
 | .int k,.int d n=>if k=d then some n else none
 | .bool,.bool b=>some b
 | .str,.string s=>some s
 | .ptr,.pointer a=>some a
 | .slice,.slice a n c=>some (a,n,c)
 | .map,.map r=>some r
 | .chan,.chan r=>some r
 | .func,v=>some v
 | .z7 f n,.func (.func f') ⟨[]⟩ ⟨l⟩=>if f=f' then mP n l else none
 | .Xh,.func (.yield y) ⟨[]⟩ ⟨[]⟩=>some y
 | _, _=>none
theorem Sc.iu {s:Sc} {v:AB} {x:s.T} (h:s.proj v=some x):s.gz x=v:=by
 cases s with
 |z7 f n=>
  cases v with
  |func fn first a=>
   obtain⟨b⟩:=first
   obtain⟨c⟩:=a;cases fn<;>cases b<;>simp only[Sc.proj] at h<;>(try (cases h;done));split at h
   ·subst_vars
    simp only[Sc.gz,tN h]
   ·cases h
  | _=>simp[Sc.proj] at h
 |Xh=>
  cases v with
  |func fn first a=>
   obtain⟨b⟩:=first
   obtain⟨c⟩:=a;cases fn<;>cases b<;>cases c<;>simp only[Sc.proj] at h<;>first|(cases h;done)|(cases h;rfl)
  | _=>simp[Sc.proj] at h
 | _=>
   cases v<;>simp only[Sc.proj] at h<;>
    first
     |(cases h;rfl)
     |(split at h<;>cases h;subst_vars;rfl)
     |(cases h)
@[reducible] def g_:List Sc->Type
 |[]=>Unit
 |s::r=>s.T×g_ r
def a9:(l:List Sc)->g_ l->List AB
 |[], _=>[]
 |s::r,x=>s.gz x.1::a9 r x.2
def lY:(l:List Sc)->List AB->Option (g_ l)
 |[],[]=>some ()
 |s::r,v::vs=>match s.proj v,lY r vs with
  |some x,some y=>some (x,y)
  | _, _=>none
 | _, _=>none
theorem pL: ∀{l:List Sc} {vs:List AB} {x:g_ l},lY l vs=some x->a9 l x=vs
 |[],[], _, _=>rfl
 |[], _:: _, _,h=>by simp[lY] at h
 | _:: _,[], _,h=>by simp[lY] at h
 |s::r,v::vs,x,h=>by
  simp only[lY] at h;cases h1:s.proj v with
  |none=>simp[h1] at h
  |some a=>
   cases c:lY r vs with
   |none=>simp[h1,c] at h
   |some b=>
    simp only[h1,c] at h;cases h;simp only[a9,Sc.iu h1,pL c]
inductive El where
 |one (s:Sc)|agg (l:List Sc)
@[reducible] def El.T:El->Type
 | .one s=>s.T
 | .agg l=>g_ l
def El.gz:(e:El)->e.T->AB
 | .one s,x=>s.gz x
 | .agg l,x=> .agg ⟨a9 l x⟩
def El.proj:(e:El)->AB->Option e.T
 | .one s,v=>s.proj v
 | .agg l,.agg ⟨vs⟩=>lY l vs
 | .agg _, _=>none
theorem El.iu {e:El} {v:AB} {x:e.T} (h:e.proj v=some x):e.gz x=v:=by
 cases e with
 |one s=>exact Sc.iu h
 |agg l=>
  cases v with
  |agg cs=>obtain⟨vs⟩:=cs;exact congrArg (λl=>Value.agg ⟨l⟩) (pL h)
  | _=>simp[El.proj] at h
@[reducible] def oK:List El->Type
 |[]=>Unit
 |e::r=>e.T×oK r
def uW:(l:List El)->oK l->List AB
 |[], _=>[]
 |e::r,x=>e.gz x.1::uW r x.2
def nM:(l:List El)->List AB->Option (oK l)
 |[],[]=>some ()
 |s::r,v::vs=>match s.proj v,nM r vs with
  |some x,some y=>some (x,y)
  | _, _=>none
 | _, _=>none
theorem vQ: ∀{l:List El} {vs:List AB} {x:oK l},nM l vs=some x->uW l x=vs
 |[],[], _, _=>rfl
 |[], _:: _, _,h=>by simp[nM] at h
 | _:: _,[], _,h=>by simp[nM] at h
 |s::r,v::vs,x,h=>by
  simp only[nM] at h;cases h1:s.proj v with
  |none=>simp[h1] at h
  |some a=>
   cases c:nM r vs with
   |none=>simp[h1,c] at h
   |some b=>
    simp only[h1,c] at h;cases h;simp only[uW,El.iu h1,vQ c]
inductive Sh where
 |el (e:El)|bG (l:List El)
@[reducible] def Sh.T:Sh->Type
 | .el e=>e.T
 | .bG l=>oK l
def Sh.gz:(s:Sh)->s.T->AB
 | .el e,x=>e.gz x
 | .bG l,x=> .tuple ⟨uW l x⟩
def Sh.proj:(s:Sh)->AB->Option s.T
 | .el e,v=>e.proj v
 | .bG l,.tuple ⟨vs⟩=>nM l vs
 | .bG _, _=>none
theorem Sh.iu {e:Sh} {v:AB} {x:e.T} (h:e.proj v=some x):e.gz x=v:=by
 cases e with
 |el s=>exact El.iu h
 |bG l=>
  cases v with
  |tuple cs=>obtain⟨vs⟩:=cs;exact congrArg (λl=>Value.tuple ⟨l⟩) (vQ h)
  | _=>simp[Sh.proj] at h
def AD (P:Ax):Nat->Ab->Option (List Sc)
 |0, _=>none
 |d+1,t=>match P.underlying t with
  |some (.int k)=>some [.int k]
  |some .bool=>some [.bool]
  |some .string=>some [.str]
  |some (.pointer _)=>some [.ptr]
  |some (.slice _)=>some [.slice]
  |some (.map _ _)=>some [.map]
  |some (.chan _ _)=>some [.chan]
  |some (.func _ _ _)=>some [.func]
  |some (.struct fs)=>fs.toList.foldr (λf c=>match AD P d f.type,c with|some a,some b=>some (a++b)| _, _=>none) (some [])
  |some (.array n e)=>match AD P d e with
   |some a=>if n<=64 then some (List.replicate n a).flatten else none
   |none=>none
  | _=>none
def uM (P:Ax) (t:Ab):Option El:=
 match P.underlying t with
 |some (.struct _)|some (.array _ _)=>(AD P 20 t).map .agg
 | _=>match AD P 20 t with
   |some [s]=>some (.one s)
   | _=>none
def WB (P:Ax):List Ab->Option (List El)
 |[]=>some []
 |t::r=>match uM P t,WB P r with
  |some e,some l=>some (e::l)
  | _, _=>none
def aaH (P:Ax) (f:B4):Sh:=
 match P.funcs[f]? with
 |some fn=>match fn.resultTypes.toList with
  |[t]=>match uM P t with
   |some e=> .el e
   |none=> .bG []
  |ts=>match WB P ts with
   |some l=> .bG l
   |none=> .bG []
 |none=> .bG []
def aI (k:B3) (x y:Int):Int:=k.wrap (x+y)
def aZ (k:B3) (x y:Int):Int:=k.wrap (x - y)
def iD (k:B3) (x y:Int):Int:=k.wrap (x*y)
def wT (k:B3) (x y:Int):Int:=k.wrap (x.tdiv y)
def fb (x y:Int):Int:=x.tmod y
def wU (k:B3) (x y:Int):Int:=k.wrap (C6 k.bits x &&& C6 k.bits y).toNat
def ZX (k:B3) (x y:Int):Int:=k.wrap (C6 k.bits x ||| C6 k.bits y).toNat
def aaa (k:B3) (x y:Int):Int:=k.wrap (C6 k.bits x ^^^ C6 k.bits y).toNat
def gF (k:B3) (x y:Int):Int:=k.wrap (C6 k.bits x &&& ~~~ (C6 k.bits y)).toNat
def Dq (k:B3) (x y:Int):Int:=k.wrap (x*2 ^ (min y.toNat k.bits))
def JZ (k:B3) (x y:Int):Int:=x.fdiv (2 ^ (min y.toNat k.bits))
def aG (k:B3) (x:Int):Int:=k.wrap x
def aab (k:B3) (x:Int):Int:=k.wrap (C6 k.bits (if k.signed then -1 else k.max) ^^^ C6 k.bits x).toNat
def kF (x y:Int):Int:=if y<x then y else x
def Dr (x y:Int):Int:=if y>x then y else x
structure PR where
 ob:Option Prop
 v:AB
def pF:Operand->Bool
 | .const (.int _ n)=>decide (n≠0)
 | _=>false
def p9:Operand->Bool
 | .const (.int _ n)=>decide (0<=n)
 | _=>false
def kG:Operand->Bool
 | .const (.pointer none)| .const (.slice none _ _)| .const (.map none)| .const .nilFunc=>true
 | _=>false
def OB (op:BinOp) (k:B3) (x y:Int) (a:Operand):Option PR:=
 match op with
 | .add=>some ⟨none,.int k (aI k x y)⟩
 | .sub=>some ⟨none,.int k (aZ k x y)⟩
 | .mul=>some ⟨none,.int k (iD k x y)⟩
 | .quo=>some ⟨if pF a then none else some (y≠0),.int k (wT k x y)⟩
 | .rem=>some ⟨if pF a then none else some (y≠0),.int k (fb x y)⟩
 | .and=>some ⟨none,.int k (wU k x y)⟩
 | .or=>some ⟨none,.int k (ZX k x y)⟩
 | .xor=>some ⟨none,.int k (aaa k x y)⟩
 | .andNot=>some ⟨none,.int k (gF k x y)⟩
 | .eql=>some ⟨none,.bool (x==y)⟩
 | .neq=>some ⟨none,.bool (x != y)⟩
 | .lss=>some ⟨none,.bool (decide (x<y))⟩
 | .leq=>some ⟨none,.bool (decide (x<=y))⟩
 | .gtr=>some ⟨none,.bool (decide (x>y))⟩
 | .geq=>some ⟨none,.bool (decide (x>=y))⟩
 | _=>none
def ki (P:Ax) (t:Ab):Option Bool:=
 match P.underlying t with
 |some (.struct _)|some (.array _ _)=>some true
 |some _=>some false
 |none=>none
def qQ (P:Ax) (t:Ab) (cs:List AB) (off:Nat):Option AB:=
 match ki P t,P.info? t with
 |some true,some i=>some (.agg ⟨(cs.drop off).take i.size⟩)
 |some false, _=>cs[off]?
 | _, _=>none
def NJ (P:Ax) (g:Ab->AB->AB->Option Bool) (xs ys:List AB):List Field->Option Bool
 |[]=>some true
 |f::fs=>if f.name≠ "_" then
   match qQ P f.type xs f.offset,qQ P f.type ys f.offset with
   |some a,some b=>match g f.type a b,NJ P g xs ys fs with
    |some r,some s=>some (r&&s)
    | _, _=>none
   | _, _=>none
  else NJ P g xs ys fs
def eqV (P:Ax):Nat->Ab->AB->AB->Option Bool
 |0, _, _, _=>none
 |d+1,t,x,y=>
  match P.underlying t with
  |some .bool=>match x,y with
   | .bool a,.bool b=>some (a==b)
   | _, _=>none
  |some (.int _)=>match x,y with
   | .int k a,.int c b=>if k=c then some (a==b) else none
   | _, _=>none
  |some .string=>match x,y with
   | .string a,.string b=>some (a==b)
   | _, _=>none
  |some (.struct fs)=>match x,y with
   | .agg ⟨xs⟩,.agg ⟨ys⟩=>if P.stoodInHeld t then none else NJ P (eqV P d) xs ys fs.toList
   | _, _=>none
  | _=>none
def X6 (P:Ax) (op:BinOp) (t:Ab) (d c:Operand) (x y:AB):Option PR:=
 match x,y with
 | .int k a,.int e b=>
   match op with
   | .shl=>some ⟨if p9 c then none else some (0<=b),.int k (Dq k a b)⟩
   | .shr=>some ⟨if p9 c then none else some (0<=b),.int k (JZ k a b)⟩
   |op=>if k=e then OB op k a b c else none
 | .bool a,.bool b=>
   match op,P.underlying t with
   | .eql,some .bool=>some ⟨none,.bool (a==b)⟩
   | .neq,some .bool=>some ⟨none,.bool (!(a==b))⟩
   | _, _=>none
 | .pointer p,.pointer q=>
   match op,P.underlying t with
   | .eql,some (.pointer _)=>if kG c then some ⟨none,.bool p.isNone⟩ else if kG d then some ⟨none,.bool q.isNone⟩ else none
   | .neq,some (.pointer _)=>if kG c then some ⟨none,.bool (!p.isNone)⟩ else if kG d then some ⟨none,.bool (!q.isNone)⟩ else none
   | _, _=>none
 | .slice p _ _,.slice q _ _=>
   match op,P.underlying t with
   | .eql,some (.slice _)=>if kG c then some ⟨none,.bool p.isNone⟩ else if kG d then some ⟨none,.bool q.isNone⟩ else none
   | .neq,some (.slice _)=>if kG c then some ⟨none,.bool (!p.isNone)⟩ else if kG d then some ⟨none,.bool (!q.isNone)⟩ else none
   | _, _=>none
 | .map p,.map q=>
   match op,P.underlying t with
   | .eql,some (.map _ _)=>if kG c then some ⟨none,.bool p.isNone⟩ else if kG d then some ⟨none,.bool q.isNone⟩ else none
   | .neq,some (.map _ _)=>if kG c then some ⟨none,.bool (!p.isNone)⟩ else if kG d then some ⟨none,.bool (!q.isNone)⟩ else none
   | _, _=>none
 | .string a,.string b=>
   match op with
   | .eql=>some ⟨none,.bool (a==b)⟩
   | .neq=>some ⟨none,.bool (!(a==b))⟩
   | _=>none
 | .agg xs,.agg ys=>
   if P.eqGuardType P.depth t then none else
   match op,eqV P Op.maxDepth t (.agg xs) (.agg ys) with
   | .eql,some r=>some ⟨none,.bool r⟩
   | .neq,some r=>some ⟨none,.bool (!r)⟩
   | _, _=>none
 | _, _=>none
def unV (op:UnOp) (x:AB):Option PR:=
 match op,x with
 | .not,.bool b=>some ⟨none,.bool (!b)⟩
 | .neg,.int k n=>some ⟨none,.int k (aZ k 0 n)⟩
 | .xor,.int k n=>some ⟨none,.int k (aab k n)⟩
 | _, _=>none
def WC (P:Ax) (src dst:Ab) (x:AB):Option PR:=
 match P.underlying src,P.underlying dst,x with
 |some _,some (.int k),.int _ n=>some ⟨none,.int k (aG k n)⟩
 |some .string,some .string,.string s=>some ⟨none,.string s⟩
 | _, _, _=>none
def xy (P:Ax) (t:Ab) (i:Nat):Option Field:=
 match P.underlying t with
 |some (.struct fs)=>fs[i]?
 | _=>none
def maps (ρ:Operand->Option AB):List Operand->Option (List AB)
 |[]=>some []
 |x::r=>match ρ x,maps ρ r with
  |some v,some l=>some (v::l)
  | _, _=>none
def AE (ρ:Operand->Option AB):List (Nat×Operand)->Option (List (Nat×AB))
 |[]=>some []
 |(i,x)::r=>match ρ x,AE ρ r with
  |some v,some l=>some ((i,v)::l)
  | _, _=>none
def ad (p:Option AR) (n:Nat):Option AR:=p.map (·.add n)
def Cg:List AB->B3->Option (List Int)
 |[], _=>some []
 | .int a n::r,k=>if k=a then(match Cg r k with|some l=>some (n::l)|none=>none) else none
 | _, _=>none
def J0 (l:List Int) (i:Int):Int:=l.getD i.toNat 0
def X7 (l:List AB) (i:Int):AB:=l.getD i.toNat undef
def eZ (a:Nat->Option (Nat×Nat)) (cells:List AB):List (Nat×AB)->Option (List AB)
 |[]=>some cells
 |(i,v)::rest=>match a i with
  |none=>none
  |some (off,size)=>
   if(Nat.beq v.cells.toList.length size&&Nat.ble (off+size) cells.length)=true then eZ a (cells.take off++(v.cells.toList++cells.drop (off+size))) rest else none
def AF (a:Nat->Option (Nat×Nat)) (cells:Array AB) (ps:List (Nat×AB)):Option (Array AB):=
 match eZ a cells.toList ps with
 |some l=>some ⟨l⟩
 |none=>none
theorem DZ: ∀(vs:List AB) (k off:Nat) (cs:List AB),off+k+vs.length<=cs.length->
 (vs.zipIdx k).foldl (λ(cs:Array AB) (x:AB×Nat)=>cs.setIfInBounds (off+x.2) x.1) ⟨cs⟩=⟨cs.take (off+k)++(vs++cs.drop (off+k+vs.length))⟩
 |[],k,off,cs,h=>by simp
 |v::vs,k,off,cs,h=>by
  simp only[NY] at h;simp;rw[DZ vs (k+1) off (cs.set (off+k) v) (by simp;omega)];congr 1
  grind[Nl,Np,Nq]
theorem D4 (a:Nat->Option (Nat×Nat)): ∀(ps:List (Nat×AB)) (cells r:List AB),eZ a cells ps=some r->I1 a ⟨cells⟩ ps=some ⟨r⟩
 |[],cells,r,h=>by cases h;rfl
 |(i,v)::rest,cells,r,h=>by
  unfold eZ at h;unfold I1;split at h
  ·cases h
  ·rename_i off size b;split at h
   ·rename_i hc;simp only[BN,Nat.beq_eq,Nat.ble_eq] at hc;obtain⟨h1,e⟩:=hc;have c:v.cells.size=size:=by simpa using h1
    have d: ¬ ((decide (v.cells.size≠size)||decide (off+v.cells.size>(JQ cells).size))=true):=by
     simp[c];omega
    simp only[b,d];have:=DZ v.cells.toList 0 off cells (by simp only[h1];omega);have f:v.cells.zipIdx=⟨v.cells.toList.zipIdx 0⟩:=by
     apply JV;simp
    have g:v.cells.zipIdx.foldl (λ(cs:Array AB) (x:AB×Nat)=>cs.setIfInBounds (off+x.2) x.1) ⟨cells⟩=⟨cells.take off++(v.cells.toList++cells.drop (off+size))⟩:=by
     grind
    refine Eq.trans ?_ (D4 a rest _ r h)
    grind
   ·cases h
theorem yL {a:Nat->Option (Nat×Nat)} {cells:Array AB} {ps:List (Nat×AB)} {cs:Array AB} (h:AF a cells ps=some cs):I1 a cells ps=some cs:=by
 unfold AF at h;split at h
 ·rename_i l b;cases h;exact D4 a ps _ l b
 grind
def F7 (P:Ax) (t:Ab) (parts:List (Nat×AB)):Option (Array AB):=
 match P.info? t with
 |some i=>match i.zero with
  |some z=>match P.underlying t with
   |some (.struct fs)=>if fs.toList.all (λf=>(P.info? f.type).isSome) then AF ((fs.toList.map λf=>(f.offset,P.cellsOf f.type))[·]?) z.cells parts else none
   |some (.array _ e)=>match P.info? e with
    |some a=>AF (λi=>some (i*a.size,a.size)) z.cells parts
    |none=>none
   | _=>none
  |none=>none
 |none=>none
def WE (s:ByteArray) (i:Int):Int:=(((s.data.toList)[i.toNat]?.getD 0).toNat:Int)
def iF (ρ:Operand->Option AB) (d:Nat):Option Operand->Option (Int)
 |none=>some d
 |some x=>match ρ x with
  |some (.int _ n)=>some n
  | _=>none
def pop (P:Ax) (ρ:Operand->Option AB) (o:Oper):Option PR:=
 match o.op with
 | .move x=>match ρ x with
   |some v=>some ⟨none,v⟩
   |none=>none
 | .assign x=>match ρ x with
   |some v=>some ⟨none,v⟩
   |none=>none
 | .nilCheck x=>match ρ x with
   |some (.pointer p)=>some ⟨some (p.isSome=true),.pointer p⟩
   |some (.func (.func f) fs cs)=>some ⟨none,.func (.func f) fs cs⟩
   | _=>none
 | .binOp op t x y _=>match ρ x,ρ y with
   |some a,some b=>X6 P op t x y a b
   | _, _=>none
 | .unOp op _ x=>match ρ x with
   |some a=>unV op a
   |none=>none
 | .convert s d x=>match ρ x with
   |some a=>WC P s d a
   |none=>none
 | .fieldAddr s x f=>match ρ x,xy P s f with
   |some (.pointer p),some fd=>match P.info? fd.type with
    |some i=>if i.size=0 then none else some ⟨some (p.isSome=true),.pointer (ad p fd.offset)⟩
    |none=>none
   | _, _=>none
 | .field t x f=>match ρ x,xy P t f with
   |some (.agg ⟨cs⟩),some fd=>match qQ P fd.type cs fd.offset with
    |some v=>some ⟨none,v⟩
    |none=>none
   | _, _=>none
 | .indexAddr t x ix=>match P.underlying t,ρ x,ρ ix with
   |some (.array len e),some (.pointer p),some (.int _ i)=>match P.info? e with
    |some g=>if len<=1 then none else some ⟨some (p.isSome=true/\0<=i/\i<len),.pointer (ad p (i.toNat*g.size))⟩
    |none=>none
   |some (.slice e),some (.slice p len _),some (.int _ i)=>match P.info? e with
    |some g=>some ⟨some (p.isSome=true/\0<=i/\i<len),.pointer (ad p (i.toNat*g.size))⟩
    |none=>none
   | _, _, _=>none
 | .index t x ix=>match P.underlying t,ρ x,ρ ix with
   |some (.array len e),some (.agg ⟨cs⟩),some (.int _ i)=>match P.info? e with
    |some g=>match ix with
     | .const (.int _ n)=>if 0<=n/\n<len then(match qQ P e cs (n.toNat*g.size) with
      |some v=>some ⟨none,v⟩
      |none=>none) else none
     | _=>match P.underlying e with
       |some (.int k)=>match Cg cs k with
        |some j=>if cs.length=len/\g.size=1 then some ⟨some (0<=i/\i<len),.int k (J0 j i)⟩ else none
        |none=>none
       |some (.struct _)=>if cs.length=len/\g.size=1 then some ⟨some (0<=i/\i<len),.agg ⟨[X7 cs i]⟩⟩ else none
       | _=>none
    |none=>none
   |some .string,some (.string s),some (.int _ i)=>some ⟨some (0<=i/\i<s.size),.int .u8 (WE s i)⟩
   | _, _, _=>none
 | .makeFunc fn first q=>match maps ρ first.toList,maps ρ q.toList with
   |some a,some b=>some ⟨none,.func fn ⟨a⟩ ⟨b⟩⟩
   | _, _=>none
 | .extract x i=>match ρ x with
   |some (.tuple ⟨vs⟩)=>match vs[i]? with
    |some v=>some ⟨none,v⟩
    |none=>none
   | _=>none
 | .build t parts=>match AE ρ parts.toList with
   |some ps=>match F7 P t ps with
    |some cs=>some ⟨none,.agg cs⟩
    |none=>none
   |none=>none
 | .slice t x lo hi mx=>match P.underlying t,ρ x with
   |some (.slice e),some (.slice p len cap)=>match P.info? e,iF ρ 0 lo,iF ρ len hi,iF ρ cap mx with
    |some g,some l,some h,some m=>if hi.isNone&&mx.isSome then none else
     some ⟨some (0<=l/\l<=h/\h<=m/\m<=cap),.slice (if m.toNat=l.toNat then p else ad p (l.toNat*g.size)) (h.toNat - l.toNat) (m.toNat - l.toNat)⟩
    | _, _, _, _=>none
   |some .string,some (.string s)=>match iF ρ 0 lo,iF ρ s.size hi with
    |some l,some h=>if mx.isSome then none else some ⟨some (0<=l/\l<=h/\h<=s.size),.string (s.extract l.toNat h.toNat)⟩
    | _, _=>none
   | _, _=>none
 | .call c=>match c.callee with
   | .builtin .len=>match c.args.toList,c.argTypes.toList with
     |[x],[t]=>match ρ x,P.underlying t with
      |some (.slice _ n _),some (.slice _)=>some ⟨none,.int .i64 n⟩
      |some (.string s),some .string=>some ⟨none,.int .i64 s.size⟩
      |some (.agg _),some (.array n _)=>some ⟨none,.int .i64 n⟩
      | _, _=>none
     | _, _=>none
   | .builtin .min=>match c.args.toList with
     |[x,y]=>match ρ x,ρ y with
      |some (.int k a),some (.int _ b)=>some ⟨none,.int k (kF a b)⟩
      | _, _=>none
     | _=>none
   | .builtin .max=>match c.args.toList with
     |[x,y]=>match ρ x,ρ y with
      |some (.int k a),some (.int _ b)=>some ⟨none,.int k (Dr a b)⟩
      | _, _=>none
     | _=>none
   | _=>none
 | _=>none
section
variable {P:Ax}
theorem bE {t:Ab} {d:TypeDesc} (h:P.underlying t=some d) (w:A2):(underlying t).run P w= .ok d w:=run_underlying h w
theorem fB {t:Ab} {i:TypeInfo} (h:P.info? t=some i) (w:A2):(typeInfo t).run P w= .ok i w:=by
 unfold typeInfo;simp[h]
theorem dp {t:Ab} {i:TypeInfo} (h:P.info? t=some i) (w:A2):(sizeOf t).run P w= .ok i.size w:=by
 unfold sizeOf;simp[fB h]
theorem u9 {t:Ab} {b:Bool} (h:ki P t=some b) (w:A2):(isAgg t).run P w= .ok b w:=by
 unfold ki at h;unfold isAgg;cases a:P.underlying t with
 |none=>grind
 |some d=>cases d<;>simp_all [bE]
theorem kQ {t:Ab} {cs:List AB} {off:Nat} {v:AB} (h:qQ P t cs off=some v) (w:A2):(part t ⟨cs⟩ off).run P w= .ok v w:=by
 unfold qQ at h;unfold part;cases hb:ki P t with
 |none=>grind
 |some b=>
  simp[u9 hb];cases b with
  |true=>
   cases hi:P.info? t with
   |none
   |some i=>
    simp_all[dp]
  |false=>
   simp_all
theorem IB: ∀(d:Nat) (t:Ab) (x y:AB) (r:Bool),eqV P d t x y=some r-> ∀w,(B_ d t x y).run P w= .ok r w:=by
 intro d
 induction d with
 |zero=>intro t x y r h;simp[eqV] at h
 |succ d j=>
  intro t x y r h w;unfold eqV at h;split at h
  ·rename_i c;split at h
   ·cases h;simp[B_,bE c]
   ·cases h
  ·rename_i k0 c;split at h
   ·split at h
    ·cases h;subst_vars;simp[B_,bE c]
    ·cases h
   ·cases h
  ·rename_i c;split at h
   ·cases h;simp[B_,bE c]
   ·cases h
  ·rename_i fs c;split at h
   ·rename_i xs ys;split at h
    ·cases h
    ·rename_i k;have e:P.fieldsOf t=fs:=by simp[Program.fieldsOf,c]
     rw[run_equalIn_struct w d t ⟨xs⟩ ⟨ys⟩ (by rw[e];exact c) (by simpa using k),e];clear c e;generalize fs.toList=l at h
     induction l generalizing r with
     |nil=>simp only[NJ,DA] at h;subst h;simp[Op.eqFields]
     |cons f l i=>
      simp only[NJ] at h;unfold Op.eqFields;split
      ·rename_i g;rw[if_pos g] at h;split at h
       ·rename_i a b m hb;split at h
        ·rename_i n p h1 o;cases h;simp only[Az,kQ m,kQ hb,B1,j _ _ _ _ h1];cases n
         ·simp
         ·simp[i _ o]
        ·cases h
       ·cases h
      ·rename_i g;rw[if_neg g] at h;exact i _ h
   ·cases h
  ·cases h
end
section
variable {P:Ax} {ρ:Operand->Option AB} {ev:Operand->AB}
theorem lZ (a: ∀x v,ρ x=some v->ev x=v): ∀{l:List Operand} {vs:List AB},maps ρ l=some vs->l.map ev=vs
 |[],vs,h=>by grind[maps]
 |x::r,vs,h=>by
  simp[maps] at h;split at h
  ·rename_i h1 b;cases h;simp[a _ _ h1,lZ a b]
  grind
theorem yM (a: ∀x v,ρ x=some v->ev x=v): ∀{l:List (Nat×Operand)} {vs:List (Nat×AB)},AE ρ l=some vs->(l.map λ(i,x)=>(i,ev x))=vs
 |[],vs,h=>by grind[AE]
 |i::r,vs,h=>by
  simp[AE] at h;split at h
  ·rename_i b;have:=yM a b
   grind
  grind
theorem xh (op:BinOp) (t:Ab) (x y:Operand) (k c:B3) (a b:Int) (w:A2):(eqGuard op t x y (.int k a) (.int c b)).run P w= .ok () w:=by
 unfold eqGuard;simp
theorem AU {t:Ab} (c:P.underlying t=some .bool) (d:Nat) (a b:Bool) (w:A2):(B_ (d+1) t (.bool a) (.bool b)).run P w= .ok (a==b) w:=by
 simp[B_,bE c]
theorem rS {t e:Ab} (a:P.underlying t=some (.pointer e)) (d:Nat) (p:Option AR) (w:A2):(B_ (d+1) t (.pointer p) (.pointer none)).run P w= .ok p.isNone w:=by
 cases p<;>simp[B_,bE a]
theorem nZ {t e:Ab} (a:P.underlying t=some (.pointer e)) (d:Nat) (p:Option AR) (w:A2):(B_ (d+1) t (.pointer none) (.pointer p)).run P w= .ok p.isNone w:=by
 cases p<;>simp[B_,bE a]
theorem tO {t e:Ab} (a:P.underlying t=some (.slice e)) (d:Nat) (p:Option AR) (n c b f:Nat) (w:A2):(B_ (d+1) t (.slice p n c) (.slice none b f)).run P w= .ok p.isNone w:=by
 cases p<;>simp[B_,bE a]
theorem tP {t e:Ab} (a:P.underlying t=some (.slice e)) (d:Nat) (p:Option AR) (n c b f:Nat) (w:A2):(B_ (d+1) t (.slice none b f) (.slice p n c)).run P w= .ok p.isNone w:=by
 cases p<;>simp[B_,bE a]
theorem zl {t k e:Ab} (a:P.underlying t=some (.map k e)) (d:Nat) (p:Option Nat) (w:A2):(B_ (d+1) t (.map p) (.map none)).run P w= .ok p.isNone w:=by
 cases p<;>simp[B_,bE a]
theorem zm {t k e:Ab} (a:P.underlying t=some (.map k e)) (d:Nat) (p:Option Nat) (w:A2):(B_ (d+1) t (.map none) (.map p)).run P w= .ok p.isNone w:=by
 cases p<;>simp[B_,bE a]
theorem eA {t:Ab} {x y:AB} {r:Bool} {w:A2} (h: ∀d,(B_ (d+1) t x y).run P w= .ok r w):(Op.equal t x y).run P w= .ok r w:=h _
theorem TX {op:BinOp} {t:Ab} {i e:Operand} {x y:AB} {l:PR} (j: ∀v,e= .const v->y=v) (m: ∀v,i= .const v->x=v)
 (h:X6 P op t i e x y=some l) (o: ∀p,l.ob=some p->p) (w:A2):
 (do eqGuard op t i e x y;binOp op t x y).run P w= .ok l.v w:=by
 unfold X6 at h;split at h
 ·
  rename_i k a F b;simp only[Az,xh,B1];have B:pF e=true->b≠0:=by
   intro hc;unfold pF at hc;split at hc
   ·rename_i C n;have:=j _ rfl;cases this;simpa using hc
   ·cases hc
  have z:p9 e=true->0<=b:=by
   intro hc;unfold p9 at hc;split at hc
   ·rename_i C n;have:=j _ rfl;cases this;simpa using hc
   ·cases hc
  split at h
  ·cases h;have h0:0<=b:=by
    by_cases hc:p9 e=true
    ·exact z hc
    ·exact o (0<=b) (by simp[hc])
   simp[binOp,Op.shift,Dq,Int.not_lt.2 h0]
  ·cases h;have h0:0<=b:=by
    by_cases hc:p9 e=true
    ·exact z hc
    ·exact o (0<=b) (by simp[hc])
   simp[binOp,Op.shift,JZ,Int.not_lt.2 h0]
  ·rename_i G H;split at h
   ·subst_vars
    cases op<;>simp only[OB] at h<;>(try cases h)<;>
     first
      |(simp[binOp,Op.intArith,aI,aZ,iD];done)
      |(simp[binOp,Op.intBits,wU,ZX,aaa,gF];done)
      |(simp[binOp,Op.intCmp];done)
      |(have h0:b≠0:=by
         by_cases hc:pF e=true
         ·exact B hc
         ·exact o (b≠0) (by simp[hc])
        simp[binOp,Op.intDiv,h0,wT,fb])
   ·cases h
 ·
  rename_i a b;split at h
  ·rename_i c;cases h;simp[eqGuard,binOp,eA λd=>AU c d a b w]
  ·rename_i c;cases h;simp[eqGuard,binOp,eA λd=>AU c d a b w]
  ·cases h
 ·
  rename_i p q;have f:kG e=true->q=none:=by
   intro hc;unfold kG at hc;split at hc<;>first|(have:=j _ rfl;cases this<;>rfl)|(cases hc)
  have g:kG i=true->p=none:=by
   intro hc;unfold kG at hc;split at hc<;>first|(have:=m _ rfl;cases this<;>rfl)|(cases hc)
  split at h
  ·rename_i c;split at h
   ·rename_i hc;cases h;rw[f hc];simp[eqGuard,binOp,eA λd=>rS c d p w]
   ·split at h
    ·rename_i hc;cases h;rw[g hc];simp[eqGuard,binOp,eA λd=>nZ c d q w]
    ·cases h
  ·rename_i c;split at h
   ·rename_i hc;cases h;rw[f hc];simp[eqGuard,binOp,eA λd=>rS c d p w]
   ·split at h
    ·rename_i hc;cases h;rw[g hc];simp[eqGuard,binOp,eA λd=>nZ c d q w]
    ·cases h
  ·cases h
 ·
  rename_i p _ _ q _ _;have f:kG e=true->q=none:=by
   intro hc;unfold kG at hc;split at hc<;>first|(have:=j _ rfl;cases this<;>rfl)|(cases hc)
  have g:kG i=true->p=none:=by
   intro hc;unfold kG at hc;split at hc<;>first|(have:=m _ rfl;cases this<;>rfl)|(cases hc)
  split at h
  ·rename_i c;split at h
   ·rename_i hc;cases h;rw[f hc];simp[eqGuard,binOp,eA λd=>tO c d p _ _ _ _ w]
   ·split at h
    ·rename_i hc;cases h;rw[g hc];simp[eqGuard,binOp,eA λd=>tP c d q _ _ _ _ w]
    ·cases h
  ·rename_i c;split at h
   ·rename_i hc;cases h;rw[f hc];simp[eqGuard,binOp,eA λd=>tO c d p _ _ _ _ w]
   ·split at h
    ·rename_i hc;cases h;rw[g hc];simp[eqGuard,binOp,eA λd=>tP c d q _ _ _ _ w]
    ·cases h
  ·cases h
 ·
  rename_i p q;have f:kG e=true->q=none:=by
   intro hc;unfold kG at hc;split at hc<;>first|(have:=j _ rfl;cases this<;>rfl)|(cases hc)
  have g:kG i=true->p=none:=by
   intro hc;unfold kG at hc;split at hc<;>first|(have:=m _ rfl;cases this<;>rfl)|(cases hc)
  split at h
  ·rename_i c;split at h
   ·rename_i hc;cases h;rw[f hc];simp[eqGuard,binOp,eA λd=>zl c d p w]
   ·split at h
    ·rename_i hc;cases h;rw[g hc];simp[eqGuard,binOp,eA λd=>zm c d q w]
    ·cases h
  ·rename_i c;split at h
   ·rename_i hc;cases h;rw[f hc];simp[eqGuard,binOp,eA λd=>zl c d p w]
   ·split at h
    ·rename_i hc;cases h;rw[g hc];simp[eqGuard,binOp,eA λd=>zm c d q w]
    ·cases h
  ·cases h
 ·
  rename_i a b;split at h
  ·cases h;simp[eqGuard,binOp,Op.stringOp,beq_toListBytes]
  ·cases h;simp[eqGuard,binOp,Op.stringOp,beq_toListBytes]
  ·cases h
 ·
  rename_i xs ys;split at h
  ·cases h
  ·rename_i D;have E:P.eqGuardType P.depth t=false:=by simpa using D
   have A: ∀op:BinOp,(eqGuard op t i e (.agg xs) (.agg ys)).run P w= .ok () w:=by
    intro op;unfold eqGuard;cases op<;>simp[E]
   split at h
   ·rename_i r s;cases h;simp only[Az,A,B1];have u:(Op.equal t (.agg xs) (.agg ys)).run P w= .ok r w:=IB (P:=P) _ _ _ _ _ s w;simp[binOp,u]
   ·rename_i r s;cases h;simp only[Az,A,B1];have u:(Op.equal t (.agg xs) (.agg ys)).run P w= .ok r w:=IB (P:=P) _ _ _ _ _ s w;simp[binOp,u]
   ·cases h
 ·cases h
end
section
variable {P:Ax} {ρ:Operand->Option AB} {ev:Operand->AB}
theorem zn: ∀{cs:List AB} {k:B3} {a:List Int},Cg cs k=some a-> ∀i,i<cs.length->cs[i]? =some (.int k (a.getD i 0))
 |c::cs,k,a,h,i,hi=>by
  unfold Cg at h;split at h
  grind
  ·rename_i e n r f b;cases b;split at h
   ·subst_vars
    split at h
    ·rename_i l d;cases h;cases i with
     |zero=>simp
     |succ i=>simpa using zn d i (by grind)
    grind
   ·cases h
  ·cases h
theorem vR {t:Ab} {f:Nat} {fd:Field} (a:xy P t f=some fd): ∃fs,P.underlying t=some (.struct fs)/\fs[f]? =some fd:=by
 grind[xy]
theorem EY {t e:Ab} {a:TypeInfo} (p:AR) (k:B3) (i:Int) (len:Nat) (c: ¬ len<=1) (b:P.underlying t=some (.array len e)) (hi:P.info? e=some a) (h0:0<=i) (h1:i<len) (w:A2):
 (I2 t (.pointer (some p)) (.int k i)).run P w= .ok (.pointer (some (p.add (i.toNat*a.size)))) w:=by
 simp[I2,asIntOf,IR,bE b,dp hi,h0,h1]
theorem run_indexAt_slice {t e:Ab} {a:TypeInfo} (p:AR) (k:B3) (i:Int) (len cap:Nat) (b:P.underlying t=some (.slice e)) (hi:P.info? e=some a) (h0:0<=i) (h1:i<len) (w:A2):
 (I2 t (.slice (some p) len cap) (.int k i)).run P w= .ok (.pointer (some (p.add (i.toNat*a.size)))) w:=by
 simp[I2,asIntOf,bE b,dp hi,h0,h1]
theorem fa {α:Type} {p:Option α} (h:p.isSome=true): ∃a,p=some a:=Option.isSome_iff_exists.1 h
theorem kR (a: ∀x v,ρ x=some v->ev x=v) {d:Nat} {x:Operand} {n:Int} (h:iF ρ d (some x)=some n): ∃k,ev x= .int k n:=by grind[iF]
theorem run_sliceBound (k:B3) (n:Int) (y:Nat) (c:BoundsCode) (h0:0<=n) (h1:n<=y) (w:A2):(S1 (.int k n) y c).run P w= .ok n.toNat w:=by
 simp[S1,asIntOf,h0,h1]
theorem oA (b: ∀x v,ρ x=some v->ev x=v) {ZZ:Bool} {len cap:Nat} {lo hi mx:Option Operand} {l h m:Int}
 (a:iF ρ 0 lo=some l) (c:iF ρ len hi=some h) (g:iF ρ cap mx=some m) (n: ¬ (hi.isNone=true/\mx.isSome=true))
 (h0:0<=l) (h1:l<=h) (o:h<=m) (p:m<=cap) (w:A2):
 (S2 ZZ len cap (lo.map ev) (hi.map ev) (mx.map ev)).run P w= .ok (l.toNat,h.toNat,m.toNat) w:=by
 unfold S2;have a1:h<=((m.toNat:Nat):Int):=by omega
 have q:l<=((h.toNat:Nat):Int):=by omega
 have i:0<=h:=by omega
 have r:0<=m:=by omega
 cases mx with
 |none=>
  simp only[iF,DA] at g;subst g;have j:h<=(cap:Int):=o;cases hi with
  |none=>
   simp only[iF,DA] at c;subst c;cases lo with
   |none=>simp only[iF,DA] at a;subst a;simp
   |some x=>obtain⟨k,d⟩:=kR b a;simp[d,run_sliceBound k l len _ h0 h1]
  |some y=>
   obtain⟨e,f⟩:=kR b c;cases lo with
   |none=>simp only[iF,DA] at a;subst a;cases ZZ<;>simp[f,run_sliceBound e h cap _ i j]
   |some x=>obtain⟨k,d⟩:=kR b a;cases ZZ<;>simp[d,f,run_sliceBound e h cap _ i j,run_sliceBound k l h.toNat _ h0 q]
 |some z=>
  obtain⟨s,t⟩:=kR b g;cases hi with
  |none=>simp at n
  |some y=>
   obtain⟨e,f⟩:=kR b c;cases lo with
   |none=>simp only[iF,DA] at a;subst a;cases ZZ<;>simp[f,t,run_sliceBound s m cap _ r p,run_sliceBound e h m.toNat _ i a1]
   |some x=>obtain⟨k,d⟩:=kR b a;simp_all[run_sliceBound]
theorem PD {s:ByteArray} {i:Int} (h0:0<=i) (h1:i<s.size):s[i.toNat]? =some (s.data[i.toNat]?.getD 0):=by
 simp_all
 rfl
theorem run_places: ∀(l:List Field),(l.all λf=>(P.info? f.type).isSome)=true-> ∀w:A2,
 (l.mapM (m:=Sem) λf=>do pure (f.offset, <-sizeOf f.type)).run P w= .ok (l.map λf=>(f.offset,P.cellsOf f.type)) w
 |[], _,w=>by rfl
 |f::l,h,w=>by
  simp only[Ix,BN] at h;obtain⟨i,hi⟩:=fa h.1;have a:P.cellsOf f.type=i.size:=by simp[Program.cellsOf,hi]
  have b:=run_places l
  simp_all[dp]
theorem PE {t:Ab} {parts:Array (Nat×AB)} {ps:List (Nat×AB)} {cs:Array AB} (e:parts.toList=ps) (h:F7 P t ps=some cs) (w:A2):
 (Instr.build t parts).run P w= .ok (.agg cs) w:=by
 unfold F7 at h;split at h
 ·rename_i i hi;split at h
  ·rename_i z b;unfold Instr.build zeroValue;simp only[Az,fB hi,B1,b,B2];split at h
   ·rename_i fs a;split at h
    ·rename_i c;have f:=run_places (P:=P) fs.toList (by simpa using c) w
     simp_all[JW,yL,bE]
    ·cases h
   ·rename_i n el a;split at h
    ·rename_i g d;simp only[bE a,B1,Az,dp d,e,yL h];rfl
    ·cases h
   ·cases h
  ·cases h
 ·cases h
theorem OC {o:Oper} {H:PR} (g: ∀x v,ρ x=some v->ev x=v) (hc: ∀v,ev (.const v)=v) (h:pop P ρ o=some H) (u: ∀p,H.ob=some p->p) (w:A2):
 (execOp ev o).run P w= .ok (.value H.v) w:=by
 obtain⟨dst,op,type,pos,after,guard⟩:=o;unfold pop at h;cases op<;>simp only at h<;>(try (cases h;done))<;>unfold execOp<;>simp only
 case move x=>
  split at h
  ·rename_i v hv;cases h;simp[g _ _ hv]
  ·cases h
 case assign x=>
  split at h
  ·rename_i v hv;cases h;simp[g _ _ hv]
  ·cases h
 case build t parts=>
  split at h
  ·rename_i ps S;split at h
   ·rename_i cs fg;cases h;have e:=yM g S;have e':(parts.map λ(i,x)=>(i,ev x)).toList=ps:=by rw[<-e];simp
    simp[PE e' fg]
   ·cases h
  ·cases h
 case nilCheck x=>
  split at h
  ·rename_i p hv;cases h;obtain⟨a,rfl⟩:=fa (u _ rfl);simp[g _ _ hv]
  ·rename_i f fs cs hv;cases h;simp[g _ _ hv]
  ·cases h
 case binOp op t x y yt=>
  split at h
  ·rename_i a b r hb;have T:=TX (P:=P) (λv hv=>by rw[<-g _ _ hb,hv,hc]) (λv hv=>by rw[<-g _ _ r,hv,hc]) h u w;simp only[g _ _ r,g _ _ hb];rw[Az,T];rfl
  ·cases h
 case unOp op t x=>
  split at h
  ·rename_i a r;simp only[g _ _ r];unfold unV at h;split at h<;>(try cases h)<;>simp[Op.unary,Op.intArith,Op.intBits,aZ,aab]
  ·cases h
 case convert s d x=>
  split at h
  ·rename_i a r;simp only[g _ _ r];unfold WC at h;split at h
   ·rename_i ds k k' n h1 A;cases h;cases ds<;>simp[convert,bE h1,bE A,Conv.intToInt,aG]
   ·rename_i A I;cases h;simp[convert,bE A,bE I]
   ·cases h
  ·cases h
 case makeFunc fn first Q=>
  split at h
  ·rename_i a b r hb;cases h;have J:=lZ g r;have U:=lZ g hb;have V:first.map ev=⟨a⟩:=by rw[<-J];cases first;simp
   have W:Q.map ev=⟨b⟩:=by rw[<-U];cases Q;simp
   simp[Instr.makeFunc,V,W]
  ·cases h
 case slice t x lo hi mx=>
  split at h
  ·rename_i e p len cap q j;split at h
   ·rename_i C l X m Y D K Z;split at h
    ·cases h
    ·rename_i R;cases h;obtain⟨h0,h1,A,I⟩:=u _ rfl;have abL: ¬ (hi.isNone=true/\mx.isSome=true):=by simpa using R
     have hb:=oA (P:=P) (ZZ:=true) g D K Z abL h0 h1 A I w;simp only[g _ _ j];simp[S8,bE q,Instr.slice,hb,dp Y,ad]
   ·cases h
  ·rename_i s q j;split at h
   ·rename_i l X D K;split at h
    ·cases h
    ·rename_i R;cases h;obtain⟨h0,h1,A⟩:=u _ rfl;have hmx:mx=none:=by cases mx<;>simp_all
     subst hmx;have hb:=oA (P:=P) (ZZ:=false) (cap:=s.size) (mx:=none) g D K rfl (by simp) h0 h1 A (by simp) w;simp only[TE] at hb;simp only[g _ _ j];simp[S8,bE q,Instr.slice,hb]
   ·cases h
  ·cases h
 case fieldAddr s x f=>
  split at h
  ·rename_i p fd j L;split at h
   ·rename_i i hi;split at h
    ·cases h
    ·rename_i hz;cases h;obtain⟨a,rfl⟩:=fa (u _ rfl);obtain⟨fs,q,M⟩:=vR L;simp[Instr.fieldAt,bE q,M,g _ _ j,IR,fieldPlace,dp hi,hz,ad]
   ·cases h
  ·cases h
 case field t x f=>
  split at h
  ·rename_i cs fd j L;split at h
   ·rename_i v hv;cases h;obtain⟨fs,q,M⟩:=vR L;simp[Instr.field,bE q,M,g _ _ j,asAgg,kQ hv]
   ·cases h
  ·cases h
 case indexAddr t x ix=>
  split at h
  ·rename_i len e p k i q j z;split at h
   ·rename_i C hi;split at h
    ·cases h
    ·rename_i D;cases h;obtain⟨B,h0,h1⟩:=u _ rfl;obtain⟨a,rfl⟩:=fa B;simp[g _ _ j,g _ _ z,EY a k i len D q hi h0 h1,ad]
   ·cases h
  ·rename_i e p len cap k i q j z;split at h
   ·rename_i C hi;cases h;obtain⟨B,h0,h1⟩:=u _ rfl;obtain⟨a,rfl⟩:=fa B;simp[g _ _ j,g _ _ z,run_indexAt_slice a k i len cap q hi h0 h1,ad]
   ·cases h
  ·cases h
 case index t x ix=>
  split at h
  ·rename_i len e cs k i q j z;split at h
   ·rename_i C hi;split at h
    ·rename_i k2 n;have hn:(Value.int k2 n)= .int k i:=by rw[<-g _ _ z,hc]
     cases hn;split at h
     ·rename_i hb;split at h
      ·rename_i v hv;cases h;simp[If,asIntOf,bE q,g _ _ j,hc,hb.1,hb.2,dp hi,kQ hv]
      ·cases h
     ·cases h
    ·split at h
     ·rename_i k3 N;split at h
      ·rename_i ns hns;split at h
       ·rename_i F;cases h;obtain⟨h0,h1⟩:=u _ rfl;have G:i.toNat<cs.length:=by omega
        have h_:=zn hns i.toNat G;have B:qQ P e cs (i.toNat*C.size)=some (.int k3 (J0 ns i)):=by
         rw[F.2,Nat.mul_one];unfold qQ;have:ki P e=some false:=by unfold ki;simp[N]
         simp[this,h_,J0]
        simp[If,asIntOf,bE q,g _ _ j,g _ _ z,h0,h1,dp hi,kQ B]
       ·cases h
      ·cases h
     ·rename_i fs N;split at h
      ·rename_i F;cases h;obtain⟨h0,h1⟩:=u _ rfl;have G:i.toNat<cs.length:=by omega
       have B:qQ P e cs (i.toNat*C.size)=some (.agg ⟨[X7 cs i]⟩):=by
        rw[F.2,Nat.mul_one];unfold qQ;have:ki P e=some true:=by unfold ki;simp[N]
        simp only[this,hi,F.2,X7];have J:List.take 1 (List.drop i.toNat cs)=[cs.getD i.toNat undef]:=by
         rw[List.drop_eq_getElem_cons G,List.getD_eq_getElem?_getD,J3 G];rfl
        rw[J]
       simp[If,asIntOf,bE q,g _ _ j,g _ _ z,h0,h1,dp hi,kQ B]
      ·cases h
     ·cases h
   ·cases h
  ·rename_i s k i q j z;cases h;obtain⟨h0,h1⟩:=u _ rfl;have hg:=PD h0 h1;simp[If,asIntOf,bE q,g _ _ j,g _ _ z,h0,hg,WE]
  ·cases h
 case extract x i=>
  split at h
  ·rename_i vs j;split at h
   ·rename_i v hv;cases h;simp[g _ _ j,Ij,hv]
   ·cases h
  ·cases h
 case call c=>
  obtain⟨callee,args,argTypes⟩:=c;simp only at h;split at h
  ·
   split at h
   ·rename_i x t r ht;have E:args= #[x]:=by cases args;simp_all
    have et:argTypes= #[t]:=by cases argTypes;simp_all
    subst E et;split at h<;>(try cases h)
    ·rename_i j q;simp[resolve,invoke,builtin,Fw,g _ _ j,bE q,goInt]
    ·rename_i j q;simp[resolve,invoke,builtin,Fw,g _ _ j,bE q,goInt]
    ·rename_i j q;simp[resolve,invoke,builtin,Fw,g _ _ j,bE q,goInt]
   ·cases h
  ·
   split at h
   ·rename_i x y r;have E:args= #[x,y]:=by cases args;simp_all
    subst E;split at h<;>(try cases h);rename_i j O;simp[resolve,invoke,builtin,Builtin.min_,Builtin.min2,g _ _ j,g _ _ O,kF]
   ·cases h
  ·split at h
   ·rename_i x y r;have E:args= #[x,y]:=by cases args;simp_all
    subst E;split at h<;>(try cases h);rename_i j O;simp[resolve,invoke,builtin,Builtin.max_,Builtin.max2,g _ _ j,g _ _ O,Dr]
   ·cases h
  ·cases h
end
structure bP where
 t:Nat
 ch:List (Nat×Bool)
 g:Option Bool
 v:AB
 k:Option Bool
def bY:List bP->Nat->Option bP
 |[], _=>none
 |e::r,t=>if e.t=t then some e else bY r t
structure Entry (P:Ax) where
 f:B4
 fn:List AB->Option (Prop×AB)
 ok: ∀args pre v,fn args=some (pre,v)->pre-> ∀w,Calls P f ⟨args⟩ w (λe w'=>e= .returned v/\Ext w w')
structure dH (P:Ax) where
 sj:List (Entry P)
 quiet:List B4
 sh:List (B4×Sh)
 mixed:P.follows .mixedOrders=true
 vC:Bool:=false
 cl:List (Ab×Sc):=[]
 Z0:Option Sh:=none
def OD:List (B4×Sh)->B4->Option Sh
 |[], _=>none
 |(g,s)::r,f=>if g=f then some s else OD r f
def uG {P:Ax} (C:dH P) (f:B4):Sh:=
 match OD C.sh f with
 |some s=>s
 |none=>aaH P f
def OE:List (Ab×Sc)->Ab->Option Sc
 |[], _=>none
 |(g,s)::r,t=>if g=t then some s else OE r t
def elC {P:Ax} (C:dH P) (t:Ab):Option El:=
 match uM P t with
 |some (.one .func)=>match OE C.cl t with
  |some s=>some (.one s)
  |none=>some (.one .func)
 |e=>e
def yd {P:Ax}:List (Entry P)->B4->Option (Entry P)
 |[], _=>none
 |e::r,f=>if e.f=f then some e else yd r f
def cY (first:Array AB) (a:List AB) (cap:Array AB):List AB:=first.toList++(a++cap.toList)
def bL (P:Ax) (a:B4):Bool:=
 match P.funcs[a]? with
 |some fn=>fn.body.isSome&& !(fn.name== "runtime.NumGoroutine")
 |none=>false
def af (P:Ax) (f:B4) (args:List AB) (w:A2) (v:AB):Prop:=
 ∀w',Ext w w'->Calls P f ⟨args⟩ w' (λe a=>e= .returned v/\Ext w' a)
def aE (P:Ax) (f:B4) (s:Sh) (args:List AB) (w:A2) (R:s.T->A2->Prop):Prop:=
 Calls P f ⟨args⟩ w (λe w'=> ∃x:s.T,e= .returned (s.gz x)/\R x w')
theorem aE.mono {P:Ax} {f:B4} {s:Sh} {args:List AB} {w:A2} {R a:s.T->A2->Prop} (h:aE P f s args w R) (k: ∀x w',R x w'->a x w'):aE P f s args w a:=
 F5 h (by grind)
def dv (_:Nat) (_:Op):Prop:=False
def cH (w:A2) (p:Option AR):(e:El)->e.T->Prop
 | .one s,x=> ∃a,p=some a/\w.cell? a=some (s.gz x)
 | .agg l,x=> ∃a,p=some a/\ ∀i,i<l.length->w.cell? (a.add i)=(a9 l x)[i]?
def p_:El->Nat->Bool
 | .one _, _=>false
 | .agg l,n=>l.length != n
def pX (w:A2) (p:Option AR) (n:Nat) (vs:List AB):Prop:=
 match p with
 |none=>vs=[]
 |some a=>vs.length=n/\ ∀i,i<n->w.cell? (a.add i)=vs[i]?
def TJ (w:A2) (p:Option AR) (n:Nat):Prop:=
 ∃a,p=some a/\ ∀i,i<n->(w.cell? (a.add i)).isSome=true/\w.frozen? (a.add i)=false
def putAt (w:A2) (a:AR):List AB->Nat->A2
 |[], _=>w
 |v::r,i=>putAt (w.setCell (a.add i) v) a r (i+1)
def jx (w:A2) (p:Option AR) (vs:List AB):A2:=
 match p with
 |some a=>putAt w a vs 0
 |none=>w
def nb (w:A2) (e:Ab) (size bytes:Nat) (z:Array AB) (s x:Option AR×Nat×Nat) (R:Option AR×Nat×Nat->A2->Prop):Prop:=
 ∃fQ new,pX w s.1 (s.2.1*size) fQ/\pX w x.1 (x.2.1*size) new/\
  (s.2.1+x.2.1<=s.2.2->(new=[]\/(TJ w (s.1.map (·.add (s.2.1*size))) new.length/\new.all (·.oneCell')=true))/\
   R (s.1,s.2.1+x.2.1,s.2.2) (jx w (s.1.map (·.add (s.2.1*size))) new))/\
  (s.2.2<s.2.1+x.2.1->T_ (s.2.1+x.2.1) s.2.2*bytes<=2 ^ 48/\
   ∀c,s.2.1+x.2.1<=c->R (some ⟨w.heap.size,0,none⟩,s.2.1+x.2.1,c) (w.drew.alloc (.cells (⟨fQ⟩++⟨new⟩++Fy z (c - (s.2.1+x.2.1))) e)))
def cpR (w:A2) (size:Nat) (d x:Option AR×Nat) (R:Int->A2->Prop):Prop:=
 ∃new,pX w x.1 (Nat.min x.2 d.2*size) new/\(d.1=none\/new=[]\/(TJ w d.1 new.length/\new.all (·.oneCell')=true))/\R (Nat.min x.2 d.2:Nat) (jx w d.1 new)
def mh (P:Ax) (l:Nat) (args:List AB) (w:A2) (R:Bool->A2->Prop):Prop:=
 ∃rec,w.heap[l]? =some (.loop rec)/\args.length=rec.params.size/\
  RoundIn Dd 0 P l rec.fn ((rec.params.zip ⟨args⟩).foldl (λtmps (t,a)=>tmps.setIfInBounds t a) rec.tmps) rec.assign rec.body w
   (λe w'=> ∃b,e= .returned (.bool b)/\R b w')
def gA (g:Option Bool) (p:Prop):Prop:=
 match g with
 |none=>p
 |some b=>b=true->p
@[reducible] def aj (w:A2) (g:Option Bool) (p:Option AR) (el:El) (K:el.T->Prop):Prop:= ∃x:el.T,gA g (cH w p el x)/\K x
@[reducible] def az (w:A2) (p:Option AR) (vs:List AB) (K:A2->Prop):Prop:= ∀w1,Ext w w1->(vs.all (·.oneCell')=true/\TJ w1 p vs.length)/\K (jx w1 p vs)
@[reducible] def aL (w:A2) (cs:Array AB) (e:Ab) (K:Nat->A2->Prop):Prop:= ∀w1,Ext w w1->K w1.heap.size (w1.alloc (.cells cs e))
def aB (P:Ax) (f:B4) (s:Sh) (args:List AB) (w:A2) (K:s.T->A2->Prop):Prop:= ∀w1,Ext w w1->aE P f s args w1 K
def aad (bytes:Nat) (n m:Int):Prop:=0<=n/\n<=m/\m<2 ^ 63/\bytes*m<=2 ^ 48
def nN (z:Array AB) (n:Nat):Array AB:=(Array.range n).map ((if n=0 then #[] else z)[· % (if n=0 then #[] else z).size]!)
def zX (P:Ax) (v:AB) (s:Sh) (b:List AB) (w:A2) (K:s.T->A2->Prop):Prop:=
 ∀w1,Ext w w1-> ∃a first cap,v= .func (.func a) first cap/\bL P a=true/\aE P a s (cY first b cap) w1 K
def Nr (w:A2) (bytes size:Nat) (n m:Int) (z:Array AB) (e:Ab) (K:Nat->A2->Prop):Prop:= ∀w1,Ext w w1->aad bytes n m/\K w1.heap.size (w1.alloc (.cells (nN z (m.toNat*size)) e))
@[reducible] def au (w:A2) (K:A2->Prop):Prop:= ∀w1,Ext w w1->K w1
def X8 (a b:List (Nat×Bool)):Bool:=a.all λx=>b.contains x
def xR (env:List bP) (ch:List (Nat×Bool)):Operand->Option AB
 | .tmp t=>match bY env t with
   |some ⟨_,c, _,v, _⟩=>if X8 c ch then some v else none
   |none=>none
 | .const v=>some v
 | .global g=>some (.pointer (some ⟨g,0,none⟩))
 | .func f=>some (.func (.func f) #[] #[])
def dB (ops:Array Oper) (j:Nat):Option Nat:=(ops[j]?).bind (·.dst)
def lit:Bool->Bool->Bool
 |true,x=>x
 |false,x=> !x
def abM (b:Bool):Option Bool->Option Bool
 |none=>some b
 |some g=>some (g&&b)
def gd (ops:Array Oper) (env:List bP) (o:Oper):Option (Option (List (Nat×Bool)×Option Bool)):=
 match o.guard with
 |none=>some (some ([],none))
 |some (j,b)=>match dB ops j with
  |some d=>match bY env d with
   |some e=>match e.k with
    |some a=>if a=b then some (some ([],none)) else some none
    |none=>match e.v with
     | .bool x=>some (some ((j,b)::e.ch,abM (lit b x) e.g))
     | _=>none
   |none=>none
  |none=>none
def settle (j:Nat) (b:Bool) (e:bP):bP:=
 if e.ch.contains (j, !b) then⟨e.t,[],none,undef,none⟩
 else if e.ch.contains (j,b) then
  match e.ch.filter (λx=>x != (j,b)) with
  |[]=>⟨e.t,[],none,e.v,none⟩
  |c::r=>⟨e.t,c::r,e.g,e.v,none⟩
 else e
def o_ (ops:Array Oper) (N:Nat) (env:List bP) (ch:List (Nat×Bool)):Option Nat->Bool
 |none=>true
 |some d=>decide (d<N)&&ch.all (λx=>dB ops x.1 != some d)&&env.all λe=>e.ch.all λx=>dB ops x.1 != some d
def lQ (env:List bP) (d:Option Nat) (ch:List (Nat×Bool)) (g:Option Bool) (v:AB):List bP:=
 match d with
 |some d=>⟨d,ch,g,v,none⟩::env
 |none=>env
def wV (env:List bP) (d:Option Nat) (ch:List (Nat×Bool)) (g:Option Bool) (v:AB) (K:List bP->Prop):Prop:=
 match d with
 |some d=>K (⟨d,ch,g,v,none⟩::env)
 |none=>K env
theorem nO {env:List bP} {d:Option Nat} {ch:List (Nat×Bool)} {g:Option Bool} {v:AB} {K:List bP->Prop}:wV env d ch g v K=K (lQ env d ch g v):=by cases d<;>rfl
def jC:List bP->(List bP->Prop)->Prop
 |[],K=>K []
 |⟨t,ch,g,v,k⟩::r,K=>jC r (λr=>K (⟨t,ch,g,v,k⟩::r))
theorem jI: ∀{l:List bP} {K:List bP->Prop},jC l K=K l
 |[], _=>rfl
 |⟨_, _, _, _, _⟩::r,K=>by simp only[jC];exact jI
def TY (ops:Array Oper) (t:Nat):Option Nat:=(B9 ops.size).find? λj=>dB ops j==some t
def bH (w:A2) (r:Nat) (es:Array DG) (a:Nat):Prop:=w.heap[r]? =some (.map es a)
def jT (w:A2) (p:Option Nat) (k:B3) (n:Int) (z v:AB):Prop:=
 ∃r es a,p=some r/\bH w r es a/\match FC (.int k) (.int k n) es.toList 0 with
  |some none=>v=z
  |some (some (_,u))=>v=u
  |none=>False
def mi (w:A2) (p:Option Nat) (k:B3) (n:Int) (z v:AB) (b:Bool):Prop:=
 ∃r es a,p=some r/\bH w r es a/\match FC (.int k) (.int k n) es.toList 0 with
  |some none=>v=z/\b=false
  |some (some (_,u))=>v=u/\b=true
  |none=>False
def gU (w:A2) (r:Nat) (k:B3) (n:Int) (val:AB) (es:Array DG) (a:Nat) (K:A2->Prop):Prop:=
 match FC (.int k) (.int k n) es.toList 0 with
 |some none=>K (w.putObj r (.map (es.push {key:= .int k n,val,born:=a}) (a+1)))
 |some (some (i, _))=>K (w.putObj r (.map (es.modify i λe=>{e with key:= .int k n,val}) a))
 |none=>False
def Ag (w:A2) (r:Nat) (k:B3) (n:Int) (es:Array DG) (a:Nat) (K:A2->Prop):Prop:=
 match FC (.int k) (.int k n) es.toList 0 with
 |some none=>K (w.putObj r (.map es a))
 |some (some (i, _))=>K (w.putObj r (.map (es.eraseIdxIfInBounds i) a))
 |none=>False
def RgP (w:A2) (p:Option Nat) (K:Nat->A2->Prop):Prop:= ∀w1,Ext w w1-> ∃r es a,p=some r/\bH w1 r es a/\K w1.heap.size (w1.alloc (.mapIter (some r) a #[] a))
def NxP (w:A2) (p:Option AR) (f:A2->Prop) (g:AB->AB->A2->Prop):Prop:= ∀w1,Ext w w1-> ∃(r m b:Nat) (seen:Array Nat) (c:Nat) (es:Array DG) (d:Nat),p=some ⟨r,0,none⟩/\w1.heap[r]? =some (.mapIter (some m) b seen c)/\bH w1 m es d/\b<=c/\(∀e∈es.toList,e.born<b)/\
 ((∀e∈es.toList,seen.contains e.born=true)-> ∀a,Ext w1 a->f a)/\
 ∀e∈es.toList,seen.contains e.born=false-> ∀a,Ext w1 a->g e.key e.val (a.putObj r (.mapIter (some m) b (seen.push e.born) d))
def Ah (w:A2) (p:Option AR) (k v:AB):Prop:= ∃(r m b:Nat) (seen:Array Nat) (es:Array DG) (a:Nat) (e:DG),p=some ⟨r,0,none⟩/\w.heap[r]? =some (.mapIter (some m) b (seen.push e.born) a)/\bH w m es a/\e∈es.toList/\(es.toList.map (·.born)).Nodup/\k=e.key/\v=e.val
def TL (w:A2) (p:Option Nat) (n:Nat):Prop:= ∃r es a,p=some r/\bH w r es a/\n=es.size
def ChO (w:A2) (r cap:Nat) (a:List AB) (s n:Nat):Prop:=w.heap[r]? =some (.chan cap ⟨a⟩ false s n false)
def ChL (w:A2) (p:Option Nat) (n:Nat):Prop:= ∃r cap a s m,p=some r/\ChO w r cap a s m/\n=a.length
def Xi (w:A2) (p q:Option AR):Prop:= ∀a b,p=some a->q=some b->a≠b->(∃c t,w.heap[a.block]? =some (.cells c t (0,0)))/\ ∃c t,w.heap[b.block]? =some (.cells c t (0,0))
def xz (P:Ax) (ρ:Operand->Option AB) (c:Call):Option (Option Nat):=match c.args.toList,c.argTypes.toList with
 |[x],[t]=>match P.underlying t,ρ x with
  |some (.chan _ _),some (.chan p)=>some p
  | _, _=>none
 | _, _=>none
def Ci (P:Ax) (ρ:Operand->Option AB):Op->Option (Option AR×Option AR)
 | .binOp .eql t x y _=>match P.underlying t,ρ x,ρ y with
   |some (.pointer e),some (.pointer p),some (.pointer q)=>match P.info? e with
    |some i=>if i.size=0 then none else some (p,q)
    |none=>none
   | _, _, _=>none
 | _=>none
def WG (P:Ax) (ops:Array Oper) (d i:Nat):Option El:=match ops.toList.find? λo=>match o.op with
 | .extract (.tmp t) j=>t==d&&j==i
 | _=>false with
 |some o=>uM P o.type
 |none=>none
def Cj (P:Ax) (ρ:Operand->Option AB) (c:Call):Option (Option Nat):=match c.args.toList,c.argTypes.toList with
 |[x],[t]=>match P.underlying t,ρ x with
  |some (.map _ _),some (.map p)=>some p
  | _, _=>none
 | _, _=>none
def oS {P:Ax} (C:dH P) (ops:Array Oper) (env:List bP) (ch:List (Nat×Bool)) (g:Option Bool) (o:Oper) (w:A2) (K:AB->Prop):Prop:=
 let ρ:=xR env ch
 match o.op with
 | .load t x=>match ρ x,elC C t,P.info? t with
   |some (.pointer p),some el,some i=>if p_ el i.size=true then dv 1 o.op else aj w g p el (λx=>K (el.gz x))
   | _, _, _=>dv 2 o.op
 | .lookup D m ix ok=>match ok,P.underlying D,ρ m,ρ ix with
   |false,some (.map s r),some (.map p),some (.int k n)=>match P.underlying s,uM P r,P.info? r with
    |some (.int A),some el,some i=>match i.zero with
     |some z=>if k=A then∃x:el.T,gA g (jT w p k n z (el.gz x))/\K (el.gz x) else dv 51 o.op
     |none=>dv 52 o.op
    | _, _, _=>dv 53 o.op
   |true,some (.map s r),some (.map p),some (.int k n)=>match P.underlying s,uM P r,P.info? r with
    |some (.int A),some el,some i=>match i.zero with
     |some z=>if k=A then∃x:el.T, ∃b:Bool,gA g (mi w p k n z (el.gz x) b)/\K (.tuple ⟨[el.gz x,.bool b]⟩) else dv 51 o.op
     |none=>dv 52 o.op
    | _, _, _=>dv 53 o.op
   | _, _, _, _=>dv 54 o.op
 | .pick c x y=>match c with
   | .tmp t=>match bY env t with
     |some E=>match E.k with
      |some true=>match ρ x with
       |some v=>K v
       |none=>dv 31 o.op
      |some false=>match ρ y with
       |some v=>K v
       |none=>dv 32 o.op
      |none=>match TY ops t with
       |some j=>match ρ c,xR env ((j,true)::ch) x,xR env ((j,false)::ch) y with
        |some (.bool b),some (.bool u),some (.bool v)=>match x,y with
         | _,.const (.bool false)=>K (.bool (b&&u))
         | .const (.bool true), _=>K (.bool (b||v))
         | _, _=>K (.bool (bif b then u else v))
        | _, _, _=>dv 3 o.op
       |none=>dv 4 o.op
     |none=>dv 33 o.op
   | _=>dv 5 o.op
 | .entry F=>match ρ F,o.dst with
   |some (.pointer p),some d=>match WG P ops d 0,WG P ops d 1 with
    |some a,none=> ∃x:a.T, ∃v:AB,gA g (Ah w p (a.gz x) v)/\K (.tuple ⟨[a.gz x,v]⟩)
    |some a,some h=> ∃x:a.T, ∃y:h.T,gA g (Ah w p (a.gz x) (h.gz y))/\K (.tuple ⟨[a.gz x,h.gz y]⟩)
    |none,some h=> ∃v:AB, ∃y:h.T,gA g (Ah w p v (h.gz y))/\K (.tuple ⟨[v,h.gz y]⟩)
    |none,none=>dv 71 o.op
   | _, _=>dv 72 o.op
 | .call c=>match c.callee with
   | .builtin .len=>match Cj P ρ c with
     |some p=> ∃n:Nat,gA g (TL w p n)/\K (.int .i64 n)
     |none=>match xz P ρ c with
      |some p=> ∃n:Nat,gA g (ChL w p n)/\K (.int .i64 n)
      |none=>match pop P ρ o with
       |some ⟨none,v⟩=>K v
       |some ⟨some p,v⟩=>gA g p/\K v
       |none=>dv 9 o.op
   | .value f=>match ρ f,maps ρ c.args.toList with
     |some (.func (.func l) first cap),some B=>
      if bL P l=true then
       match yd C.sj l with
       |some e=>match e.fn (cY first B cap) with
        |some (pre,v)=>gA g pre/\K v
        |none=>dv 6 o.op
       |none=> ∃x:(uG C l).T,gA g (af P l (cY first B cap) w ((uG C l).gz x))/\K ((uG C l).gz x)
      else dv 7 o.op
     | _, _=>dv 8 o.op
   | _=>match pop P ρ o with
     |some ⟨none,v⟩=>K v
     |some ⟨some p,v⟩=>gA g p/\K v
     |none=>dv 9 o.op
 | .binOp .. =>match pop P ρ o with
   |some ⟨none,v⟩=>K v
   |some ⟨some p,v⟩=>gA g p/\K v
   |none=>match Ci P ρ o.op with
    |some (p,q)=>gA g (Xi w p q)/\K (.bool (decide (p=q)))
    |none=>dv 10 o.op
 | _=>match pop P ρ o with
   |some ⟨none,v⟩=>K v
   |some ⟨some p,v⟩=>gA g p/\K v
   |none=>dv 10 o.op
def X9 (P:Ax) (e:Ab):Array AB:=match P.info? e with
 |some i=>match i.zero with
  |some z=>z.cells
  |none=> #[]
 |none=> #[]
def uX (v:AB):List AB:=v.cells.toList
def D5 (vs:List AB):Bool:=vs.all (·.oneCell')
def eop {P:Ax} (C:dH P) (ρ:Operand->Option AB) (o:Oper) (w:A2) (K:AB->A2->Prop):Prop:=
 match o.op with
 | .store t x y=>match ρ x,ρ y,P.info? t with
   |some (.pointer p),some v,some i=>if(uX v).length=i.size then
     az w p (uX v) (λa=>K undef a)
    else dv 11 o.op
   | _, _, _=>dv 12 o.op
 | .alloc e=>match P.info? e with
   |some i=>match i.zero with
    |some z=>match E4 64 i.size with
     |true=>aL w (X9 P e) e (λb a=>K (.pointer (some ⟨b,0,none⟩)) a)
     |false=>aL w z.cells e (λb a=>K (.pointer (some ⟨b,0,none⟩)) a)
    |none=>dv 13 o.op
   |none=>dv 14 o.op
 | .box e x=>match ρ x with
   |some v=>aL w v.cells e (λb a=>K (.pointer (some ⟨b,0,none⟩)) a)
   |none=>dv 15 o.op
 | .buildSlice t len parts=>match P.underlying t,AE ρ parts.toList with
   |some (.slice e),some ps=>match P.info? e with
    |some i=>match i.zero with
     |some z=>match AF (λk=>some (k*i.size,i.size)) ⟨(B9 (len*i.size)).map (z.cells.toList[· % z.cells.toList.length]!)⟩ ps with
      |some cs=>if len*i.size<=2 ^ 24 then aL w cs e (λb a=>K (.slice (some ⟨b,0,none⟩) len len) a) else dv 101 o.op
      |none=>dv 102 o.op
     |none=>dv 103 o.op
    |none=>dv 104 o.op
   | _, _=>dv 105 o.op
 | .makeSlice t l c=>match P.underlying t,ρ l,ρ c with
   |some (.slice e),some (.int _ n),some (.int _ m)=>match P.info? e with
    |some i=>match i.zero with
     |some z=>Nr w i.bytes i.size n m z.cells e (λb a=>K (.slice (some ⟨b,0,none⟩) n.toNat m.toNat) a)
     |none=>dv 106 o.op
    |none=>dv 107 o.op
   | _, _, _=>dv 108 o.op
 | .mapUpdate t m x v=>match P.underlying t,ρ m,ρ x,ρ v with
   |some (.map g _),some (.map p),some (.int k n),some val=>match P.underlying g with
    |some (.int h)=>if k=h then∀w1,Ext w w1-> ∃r es d,p=some r/\bH w1 r es d/\gU w1 r k n val es d (λa=>K undef a) else dv 55 o.op
    | _=>dv 56 o.op
   | _, _, _, _=>dv 57 o.op
 | .insert t m x v=>match P.underlying t,ρ m,ρ x,ρ v with
   |some (.map g _),some (.map p),some (.int k n),some val=>match P.underlying g with
    |some (.int h)=>if k=h then∀w1,Ext w w1-> ∃r es d,p=some r/\bH w1 r es d/\gU w1 r k n val es d (λa=>K undef a) else dv 55 o.op
    | _=>dv 56 o.op
   | _, _, _, _=>dv 57 o.op
 | .makeMap _ r=>match r with
   |none=> ∀w1,Ext w w1->K (.map (some w1.heap.size)) (w1.alloc (.map #[] 0))
   |some _=>dv 109 o.op
 | .makeChan t s=>match P.underlying t,ρ s with
   |some (.chan _ e),some (.int _ n)=>match P.info? e with
    |some i=>if 0<=n/\n<=2 ^ 32/\i.bytes*n<=2 ^ 47 then∀w1,Ext w w1->K (.chan (some w1.heap.size)) (w1.alloc (.chan n.toNat #[] false 0 0 false)) else dv 118 o.op
    |none=>dv 119 o.op
   | _, _=>dv 120 o.op
 | .range B x=>match P.underlying B,ρ x with
   |some (.map _ _),some (.map p)=>RgP w p (λb a=>K (.pointer (some ⟨b,0,none⟩)) a)
   | _, _=>dv 73 o.op
 | .next D b=>match b,ρ D with
   |false,some (.pointer p)=>NxP w p (λa=>K (.tuple ⟨[.bool false]⟩) a) (λk v a=>K (.tuple ⟨[.bool true,k,v]⟩) a)
   | _, _=>dv 74 o.op
 | .call c=>match c.callee with
   | .builtin .delete=>match c.args.toList,c.argTypes.toList with
     |[m,x],[t, _]=>match P.underlying t,ρ m,ρ x with
      |some (.map g _),some (.map p),some (.int k n)=>match P.underlying g with
       |some (.int h)=>if k=h then∀w1,Ext w w1-> ∃r es d,p=some r/\bH w1 r es d/\Ag w1 r k n es d (λa=>K (.tuple ⟨[]⟩) a) else dv 75 o.op
       | _=>dv 76 o.op
      | _, _, _=>dv 77 o.op
     | _, _=>dv 78 o.op
   | .builtin .append=>match c.args.toList,c.argTypes.toList with
     |[s,x],[t,u]=>match P.underlying t,P.underlying u,ρ s,ρ x with
      |some (.slice e),some (.slice _),some (.slice p n m),some (.slice q k l)=>match P.info? e with
       |some i=>match i.zero with
        |some z=>if i.bytes=0 then dv 110 o.op else∀w1,Ext w w1->nb w1 e i.size i.bytes z.cells (p,n,m) (q,k,l) (λr a=>K (.slice r.1 r.2.1 r.2.2) a)
        |none=>dv 111 o.op
       |none=>dv 112 o.op
      | _, _, _, _=>dv 113 o.op
     | _, _=>dv 114 o.op
   | .builtin .copy=>match c.args.toList,c.argTypes.toList with
     |[s,x],[t, _]=>match P.underlying t,ρ s,ρ x with
      |some (.slice e),some (.slice p n _),some (.slice q k _)=>match P.info? e with
       |some i=> ∀w1,Ext w w1->cpR w1 i.size (p,n) (q,k) (λr a=>K (.int .i64 r) a)
       |none=>dv 115 o.op
      | _, _, _=>dv 116 o.op
     | _, _=>dv 117 o.op
   | .value f=>match C.Z0,f with
    |some s,.tmp t=>match ρ (.tmp t),maps ρ c.args.toList with
     |some v,some j=>zX P v s j w (λx a=>K (s.gz x) a)
     | _, _=>dv 70 o.op
    | _, _=>match ρ f,maps ρ c.args.toList with
     |some (.func (.yield l) first _),some j=> ∀w1,Ext w w1->mh P l (first.toList++j) w1 (λb a=>K (.bool b) a)
     |some (.func (.func A) first cap),some j=>
      if bL P A=true then
       aB P A (uG C A) (cY first j cap) w (λx a=>K ((uG C A).gz x) a)
      else dv 16 o.op
     | _, _=>dv 17 o.op
   | _=>dv 18 o.op
 | _=>dv 19 o.op
def aJ (b:Bool) (x y:Prop):Prop:=match b with
 |true=>x
 |false=>y
theorem ab {b:Bool} {x y:Prop} (a:b=true->x) (c:b=false->y):aJ b x y:=by
 cases b
 ·exact c rfl
 ·exact a rfl
theorem D6 {b:Bool} {x y:Prop} (h:aJ b x y) (e:b=true):x:=by subst e;exact h
theorem AV {b:Bool} {x y:Prop} (h:aJ b x y) (e:b=false):y:=by subst e;exact h
def Oa {P:Ax} (C:dH P) (ρ:Operand->Option AB) (o:Oper):Bool:=
 match o.op with
 | .store .. | .alloc _| .box .. | .buildSlice .. | .makeSlice .. | .makeMap .. | .makeChan .. | .mapUpdate .. | .insert .. | .range .. | .next .. =>true
 | .call c=>match c.callee with
   | .value f=>match C.Z0,f with
    |some _,.tmp _=>true
    | _, _=>match ρ f with
     |some (.func (.func a) _ _)=> !((yd C.sj a).isSome||C.quiet.contains a)
     | _=>true
   | .builtin .append=>true
   | .builtin .copy=>true
   | .builtin .delete=>true
   | _=>false
 | _=>false
def YK:Op->Bool
 | .binOp .. =>true
 | .convert .. =>true
 | .call _=>true
 | _=>false
def yA {P:Ax} (C:dH P) (o:Oper) (v:AB) (K:AB->Prop):Prop:=
 match C.vC&&YK o.op,v with
 |true,.int k e=> ∀x,x=e->K (.int k x)
 | _, _=>K v
theorem rT {P:Ax} {C:dH P} {o:Oper} {v:AB} {K:AB->Prop} (h:yA C o v K):K v:=by
 unfold yA at h
 grind
def NK {P:Ax} (C:dH P) (ops:Array Oper) (N:Nat) (o:Oper):Nat->List bP->A2->(List bP->A2->Prop)->Prop
 |0, _, _, _=>dv 20 o.op
 |n+1,env,w,K=>match gd ops env o with
  |none=>dv 21 o.op
  |some none=>if o_ ops N env [] o.dst then wV env o.dst [] none undef (λenv=>K env w) else dv 25 o.op
  |some (some (ch,g))=>
   if o_ ops N env ch o.dst then
    if Oa C (xR env ch) o then
     match ch.getLast? with
     |none=>eop C (xR env []) o w (λv a=>wV env o.dst [] none v (λenv=>K env a))
     |some (j, _)=>match dB ops j with
      |some d=>match bY env d with
       |some e=>match e.v with
        | .bool x=>if e.ch.isEmpty then
           aJ x (jC (env.map (settle j true)) λenv=>NK C ops N o n (⟨d,[],none,.bool true,some true⟩::env) w K)
            (jC (env.map (settle j false)) λenv=>NK C ops N o n (⟨d,[],none,.bool false,some false⟩::env) w K)
          else dv 22 o.op
        | _=>dv 26 o.op
       |none=>dv 27 o.op
      |none=>dv 28 o.op
    else oS C ops env ch g o w (λv=>yA C o v (λv=>wV env o.dst ch g v (λenv=>K env w)))
   else dv 24 o.op
def FK {P:Ax} (C:dH P) (ops:Array Oper) (N:Nat) (i:Nat) (env:List bP) (w:A2) (K:List bP->A2->Prop):Prop:=
 match ops[i]? with
 |none=>False
 |some ⟨dst,op,type,pos,after,guard⟩=>NK C ops N ⟨dst,op,type,pos,after,guard⟩ 40 env w K
def rxL {P:Ax} (C:dH P) (ops:Array Oper) (N:Nat):List Nat->List bP->A2->(List bP->A2->Prop)->Prop
 |[],env,w,K=>K env w
 |i::r,env,w,K=>FK C ops N i env w (λenv w=>rxL C ops N r env w K)
def j8 (ops:Array Oper) (tmps:Array AB) (ch:List (Nat×Bool)):Prop:= ∀x∈ch,yielded ops tmps x.1=some x.2
def Tj (ops:Array Oper) (tmps:Array AB) (ch:List (Nat×Bool)):Option Bool->Prop
 |none=>ch=[]
 |some γ=>ch≠[]/\(γ=true<->j8 ops tmps ch)
structure Fit (S:Nat->Option (Option AB)) (ops:Array Oper) (N:Nat) (D:List Deferred) (env:List bP) (a:Act):Prop where
 off: ∀t x,S t=some x->a.tmps[t]? =x
 size:a.tmps.size=N
 qA:a.defers=D
 yes: ∀t e,bY env t=some e->j8 ops a.tmps e.ch->a.tmps[t]? =some e.v
 no: ∀t e,bY env t=some e-> ¬ j8 ops a.tmps e.ch->a.tmps[t]? =some undef
 Fx: ∀e∈env,Tj ops a.tmps e.ch e.g
 BL: ∀e∈env, ∀b,e.k=some b->e.v= .bool b/\e.ch=[]
theorem bV: ∀{env:List bP} {t:Nat} {e:bP},bY env t=some e->e∈env
 |x::r,t,e,h=>by
  simp[bY] at h;split at h
  grind
  ·exact Ns _ (bV h)
theorem TZ {a b:List (Nat×Bool)} (h:X8 a b=true) {ops:Array Oper} {tmps:Array AB} (hb:j8 ops tmps b):j8 ops tmps a:=λx c=>by
 simp only[X8,Df] at h;exact hb x (by grind)
variable {S:Nat->Option (Option AB)} {ops:Array Oper} {N:Nat} {D:List Deferred} {env:List bP} {a:Act}
theorem Fit.ev (h:Fit S ops N D env a) {ch:List (Nat×Bool)} (hc:j8 ops a.tmps ch) {x:Operand} {v:AB} (b:xR env ch x=some v):a.eval x=v:=by
 cases x with
 |tmp t=>
  simp[xR] at b;split at b
  ·rename_i c;split at b
   ·rename_i d;cases b;have:=h.yes t _ c (TZ d hc);simp[Fo,this]
   grind
  grind
 |const
 |global g
 |func=>simp[xR] at b;simp[Fo,b]
theorem EZ {j:Nat} {d:Option Nat} {u:AB} (h: ∀k,d=some k->dB ops j≠some k):yielded ops (a.put d u).tmps j=yielded ops a.tmps j:=by
 cases d with
 |none=>rfl
 |some k=>
  have b:=h k rfl;unfold yielded;unfold dB at b;cases f:ops[j]?.bind _ with
  |none=>rfl
  |some t=>
   have c:k≠t:=λe=>b (by grind);simp[C8,DM c]
theorem IC {ch:List (Nat×Bool)} {d:Option Nat} {u:AB} (h: ∀k,d=some k->ch.all (λx=>dB ops x.1 != some k)=true):j8 ops (a.put d u).tmps ch<->j8 ops a.tmps ch:=by
 have: ∀x∈ch,yielded ops (a.put d u).tmps _=yielded ops _ x.1:=λx b=>EZ (by grind);constructor
 ·intro c x b;rw[<-this x b];exact c x b
 ·intro c x b;rw[this x b];exact c x b
theorem Fit.put (h:Fit S ops N D env a) {ch:List (Nat×Bool)} {g:Option Bool} {d:Option Nat} {v u:AB} (m:o_ ops N env ch d=true) (w: ∀k,d=some k->S k=none)
 (o:Tj ops a.tmps ch g) (h1:j8 ops a.tmps ch->u=v) (h0: ¬ j8 ops a.tmps ch->u=undef):Fit S ops N D (lQ env d ch g v) (a.put d u):=by
 cases d with
 |none=>exact h
 |some k=>
  simp only[o_,BN,decide_eq_true_eq] at m;obtain⟨⟨p,hc⟩,y⟩:=m;have c0:j8 ops (a.put (some k) u).tmps ch<->j8 ops a.tmps ch:=IC (by grind);have c1: ∀e∈env,(j8 ops (a.put (some k) u).tmps e.ch<->j8 ops a.tmps e.ch):=λe hm=>IC (by grind);have n:k<a.tmps.size:=by rw[h.size];exact p
  refine⟨λt x q=>?_,by simp[C8,h.size],h.qA,?_,?_,?_,?_⟩
  ·have r:k≠t:=λe=>by grind
   simp[C8,DM r,h.off t x q]
  ·intro t e c i;simp only[lQ,bY] at c;split at c
   ·rename_i f;cases c;subst f;simp[C8,n,h1 (c0.1 i)]
   ·rename_i f;have:=h.yes t e c ((c1 e (bV c)).1 i);simp[C8,DM f,this]
  ·intro t e c i;simp only[lQ,bY] at c;split at c
   ·rename_i f;cases c;subst f;simp[C8,n,h0 (λj=>i (c0.2 j))]
   ·rename_i f;have:=h.no t e c (λj=>i ((c1 e (bV c)).2 j));simp[C8,DM f,this]
  ·intro e hm;have key: ∀(ch) (g:Option Bool),(j8 ops (a.put (some k) u).tmps ch<->j8 ops a.tmps ch)->Tj ops a.tmps ch g->Tj ops (a.put (some k) u).tmps ch g:=by
    intro ch g s l;cases g with
    |none=>exact l
    |some γ=>exact⟨l.1,l.2.trans s.symm⟩
   simp only[lQ,Ca] at hm;rcases hm with rfl|hm
   ·exact key _ _ c0 o
   ·exact key _ _ (c1 e hm) (h.Fx e hm)
  ·intro e hm b hb;simp only[lQ,Ca] at hm;rcases hm with rfl|hm
   ·cases hb
   ·exact h.BL e hm b hb
def yB:AB->Option Bool
 | .bool b=>some b
 | _=>none
theorem lD {j d:Nat} (b:dB ops j=some d) {v:AB} (hv:a.tmps[d]? =some v):yielded ops a.tmps j=yB v:=by
 unfold yielded;unfold dB at b
 simp_all
 cases v<;>rfl
theorem eB:j8 ops a.tmps []:=λb=>by simp
theorem Oc (h:Fit S ops N D env a) {o:Oper} {ch:List (Nat×Bool)} {g:Option Bool} (c:gd ops env o=some (some (ch,g))):
 Tj ops a.tmps ch g/\(BT o (yielded ops a.tmps)=true<->j8 ops a.tmps ch):=by
 unfold gd at c;unfold BT;split at c
 ·rename_i l;cases c;exact⟨rfl,by simp[j8,l]⟩
 ·rename_i j b l;split at c
  ·rename_i d p;split at c
   ·rename_i e f;split at c
    ·rename_i t u;obtain⟨hv,i⟩:=h.BL e (bV f) t u;have r:=lD (a:=a) p (h.yes d e f (by rw[i];exact eB));rw[hv] at r;split at c
     ·rename_i hb;cases c;refine⟨rfl,?_⟩;simp[l,r,yB,hb,j8]
     ·cases c
    ·split at c
     ·rename_i x v;cases c;have q:(yielded ops a.tmps j=some b)<->j8 ops a.tmps e.ch/\x=b:=by
       by_cases hc:j8 ops a.tmps e.ch
       ·have h1:=h.yes d e f hc;rw[lD (a:=a) p h1,v];simp[yB,hc]
       ·have h1:=h.no d e f hc;rw[lD (a:=a) p h1];simp[undef,yB,hc]
      have i:j8 ops a.tmps ((j,b)::e.ch)<->yielded ops a.tmps j=some b:=by
       constructor
       ·intro m;exact m (j,b) J4
       ·intro m y k;rcases Ca.1 k with rfl|k
        ·exact m
        ·exact(q.1 m).1 y k
      refine⟨?_,?_⟩
      ·have n:=h.Fx e (bV f);cases s:e.g with
       |none=>
        rw[s] at n;have w:j8 ops a.tmps e.ch:=by rw[show e.ch=[] from n];intro y k;cases k
        refine⟨by simp,?_⟩;rw[i,q];cases b<;>simp[w,lit]
       |some γ=>
        rw[s] at n;refine⟨by simp,?_⟩;rw[i,q, <-n.2];cases b<;>simp[lit]
      ·rw[i];simp[l]
     ·cases c
   ·cases c
  ·cases c
theorem Ct (h:Fit S ops N D env a) {o:Oper} (c:gd ops env o=some none):BT o (yielded ops a.tmps)=false:=by
 unfold gd at c;unfold BT;split at c
 ·cases c
 ·rename_i j b m;split at c
  ·rename_i d g;split at c
   ·rename_i e f;split at c
    ·rename_i i k;obtain⟨hv,l⟩:=h.BL e (bV f) i k;have n:=lD g (h.yes d e f (by rw[l];exact eB))
     grind[yB]
    grind
   ·cases c
  ·cases c
theorem u_ {f:bP->bP} (a: ∀e,(f e).t=e.t): ∀{l:List bP} {t:Nat} {e:bP},bY (l.map f) t=some e-> ∃b,bY l t=some b/\e=f b
 |x::r,t,e,h=>by
  simp[bY,a] at h ⊢;split at h
  grind
  ·rename_i c;rw[if_neg c];exact u_ a h
theorem D7 (j:Nat) (b:Bool) (e:bP):(settle j b e).t=e.t:=by
 grind[settle]
theorem u' {j:Nat} {b:Bool} (m:yielded ops a.tmps j=some b) (e:bP) (f:Tj ops a.tmps e.ch e.g):
 Tj ops a.tmps (settle j b e).ch (settle j b e).g/\(j8 ops a.tmps e.ch->j8 ops a.tmps (settle j b e).ch/\(settle j b e).v=e.v)/\(¬ j8 ops a.tmps e.ch->(¬ j8 ops a.tmps (settle j b e).ch\/(settle j b e).v=undef))/\
 (¬ j8 ops a.tmps (settle j b e).ch-> ¬ j8 ops a.tmps e.ch):=by
 unfold settle;split
 ·rename_i hc;have n: ¬ j8 ops a.tmps e.ch:=λd=>by
   have:=d (j, !b)
   grind
  exact⟨rfl,λd=>absurd d n,λ_=> .inr rfl,λd=>absurd eB d⟩
 ·split
  ·rename_i p hc;have h:j8 ops a.tmps e.ch<->j8 ops a.tmps (e.ch.filter (λx=>x != (j,b))):=by
    constructor
    ·intro d x k;exact d x (Bx.1 k).1
    ·intro d x k;by_cases o:x=(j,b)
     ·rw[o];exact m
     ·exact d x (by grind)
   split
   ·rename_i i;rw[i] at h;exact⟨rfl,λ_=>⟨eB,rfl⟩,by grind,λd=>absurd eB d⟩
   ·rename_i c r i;rw[i] at h
    simp_all
    cases l:e.g with
    |none=>rw[l] at f;have:e.ch=[]:=f;rw[this] at hc;simp at hc
    |some γ=>rw[l] at f;exact⟨by simp,f.2.trans h⟩
  grind
theorem Fit.settle (h:Fit S ops N D env a) {j d:Nat} {b:Bool} {e:bP} (n:dB ops j=some d) (o:bY env d=some e) (p:e.ch=[]) (hv:e.v= .bool b):
 Fit S ops N D (⟨d,[],none,.bool b,some b⟩::env.map (settle j b)) a:=by
 have h1:=h.yes d e o (by rw[p];exact eB);have k:=lD (a:=a) n h1;rw[hv] at k;refine⟨h.off,h.size,h.qA,?_,?_,?_,?_⟩
 ·intro t l g hc;simp only[bY] at g;split at g
  grind
  ·obtain⟨c,f,rfl⟩:=u_ (D7 j b) g;obtain⟨_,s1,w, _⟩:=u' (a:=a) k c (h.Fx c (bV f));by_cases m:j8 ops a.tmps c.ch
   ·rw[h.yes t c f m,(s1 m).2]
   ·rw[h.no t c f m]
    grind
 ·intro t l g hc;simp only[bY] at g;split at g
  ·cases g;exact absurd eB hc
  ·obtain⟨c,f,rfl⟩:=u_ (D7 j b) g;obtain⟨_, _, _,q⟩:=u' (a:=a) k c (h.Fx c (bV f));exact h.no t c f (q hc)
 ·intro l hm;rcases Ca.1 hm with rfl|hm
  ·exact rfl
  ·obtain⟨c,f,rfl⟩:=Ga.1 hm;exact(u' (a:=a) k c (h.Fx c f)).1
 ·intro l hm r i;rcases Ca.1 hm with rfl|hm
  grind
  ·obtain⟨c,f,rfl⟩:=Ga.1 hm;unfold RX.settle at i ⊢;split at i
   ·cases i
   ·rename_i s;rw[if_neg s];split at i
    grind
    ·rename_i u;rw[if_neg u];exact h.BL c f r i
variable {P:Ax}
def dm (P:Ax) (o:Oper) (a:Act) (w:A2) (v:AB):Prop:=
 match (execOp a.eval o).run P w with
 | .ok (.value u) w'=>w'=w/\u=v
 | .ok (.enter f args) w'=>w'=w/\Calls P f args w (λe b=>e= .returned v/\Ext w b)
 | _=>False
theorem bO {o:Oper} {a:Act} {w:A2} {v:AB} (h:(execOp a.eval o).run P w= .ok (.value v) w):dm P o a w v:=by
 grind[dm]
theorem cB: ∀(l:List Sc) (x:g_ l),(a9 l x).length=l.length
 |[], _=>rfl
 | _::r,x=>by simp[a9,cB]
theorem vS {w:A2} {a:AR} {v:AB} (h:w.cell? a=some v):(load a).run P w= .ok v w:=by simp[h]
theorem run_loadCellsFrom {w:A2} {a:AR}: ∀(vs:List AB) (k:Nat) (b:Array AB),(∀i,i<vs.length->w.cell? (a.add (k+i))=vs[i]?)->
 (loadCellsFrom a k vs.length b).run P w= .ok (b++vs.toArray) w
 |[],k,b, _=>by rfl
 |v::vs,k,b,h=>by
  have h0:=by simpa using h 0
  have c:=run_loadCellsFrom vs _ (b.push v) λi hi=>by
   have:=h (i+1) (by grind);rw[show k+1+i=k+(i+1) by omega,this];rfl
  simp only[NY,loadCellsFrom,Az,vS h0,B1,c];simp
theorem th {w w':A2} (h:Ext w w') {p:Option AR} {el:El} {x:el.T} (c:cH w p el x):cH w' p el x:=by
 cases el with
 |one=>obtain⟨a,b,hc⟩:=c;exact⟨a,b,h.cell hc⟩
 |agg l=>
  obtain⟨a,b,hc⟩:=c;refine⟨a,b,λi hi=>?_⟩;have h1:=hc i hi;have d:i<(a9 l x).length:=by have:=cB l x;omega
  rw[J3 d] at h1 ⊢;exact h.cell h1
theorem tj {w:A2} {a:AR} {t:Ab} {el:El} {b:TypeInfo} {x:el.T} (h:uM P t=some el) (hi:P.info? t=some b)
 (f: ¬ p_ el b.size=true) (e:cH w (some a) el x):(loadVar t a).run P w= .ok (el.gz x) w:=by
 unfold loadVar;cases el with
 |one s=>
  have c:ki P t=some false:=by
   grind[uM,ki,AD,Option.map_eq_some_iff]
  obtain⟨a',d,hc⟩:=e;cases d;simp only[Az,u9 c,B1,Dt,if_false,vS hc];rfl
 |agg l=>
  have c:ki P t=some true:=by
   grind[uM,ki,AD]
  obtain⟨a',d,hc⟩:=e;cases d;have g:l.length=b.size:=by simpa[p_] using f
  have:=run_loadCellsFrom (P:=P) (w:=w) (a:=a) (a9 l x) 0 #[] (by simpa[cB] using hc);rw[cB,g] at this;simp only[Az,u9 c,B1,if_true,dp hi,loadCells,this];simp[El.gz]
theorem T1 {C:dH P} {w:A2} {a:AR} {t:Ab} {el:El} {c:TypeInfo} {x:el.T} (b:elC C t=some el) (hi:P.info? t=some c)
 (e: ¬ p_ el c.size=true) (d:cH w (some a) el x):(loadVar t a).run P w= .ok (el.gz x) w:=by
 unfold elC at b;split at b
 ·rename_i h0;split at b
  ·cases b;have f:=d;exact tj (el:= .one .func) h0 hi ‹_› f
  grind[tj]
 ·exact tj b hi e d
theorem ID: ∀{l:List (Entry P)} {f:B4} {e:Entry P},yd l f=some e->e.f=f
 |x::r,f,e,h=>by
  simp[yd] at h;split at h
  grind
  ·exact ID h
theorem iA {g:Option Bool} {p:Prop} {ops:Array Oper} {tmps:Array AB} {ch:List (Nat×Bool)} (h:gA g p) (a:Tj ops tmps ch g) (hc:j8 ops tmps ch):p:=by
 cases g with
 |none=>exact h
 |some=>exact h (a.2.2 hc)
theorem tQ {f:B4} {args:Array AB} {w:A2}
 (h:bL P f=true):
 (callFunc f args).run P w= .ok (.enter f args) w:=by
 unfold callFunc;unfold bL at h;cases a:P.funcs[f]? with
 |none=>simp[a] at h
 |some fn=>
  simp_all
  grind[fa]
theorem tn {ev:Operand->AB} {dst:Option Nat} {type:Ab} {pos:String} {after:Array Edge} {guard:Option (Nat×Bool)} {f:Operand} {args:Array Operand} {ts:Array Ab}
 {a:B4} {first cap:Array AB} {b:List AB} (c:ev f= .func (.func a) first cap) (d:args.toList.map ev=b) {w:A2}
 (h:bL P a=true):
 (execOp ev ⟨dst,.call ⟨.value f,args,ts⟩,type,pos,after,guard⟩).run P w= .ok (.enter a ⟨cY first b cap⟩) w:=by
 have e:first++args.map ev++cap=⟨cY first b cap⟩:=by
  simp_all[cY]
 simp only[execOp,resolve,Deferred.ofValue,c,Az,B2,B1,invoke];rw[e];exact tQ h
variable {S:Nat->Option (Option AB)} {ops:Array Oper} {N:Nat} {D:List Deferred} {env:List bP} {a:Act}
theorem zo {kd:B3} {n:Int}: ∀(l:List DG) (i0 i:Nat) (v:AB),FC (.int kd) (.int kd n) l i0=some (some (i,v))->i0<=i/\ ∃e,l[i - i0]? =some e/\e.key= .int kd n/\e.val=v
 |e::es,i0,i,v,h=>by
  unfold FC at h;split at h
  ·rename_i a;obtain⟨rfl,rfl⟩:=h;simp;cases b:e.key<;>rw[b] at a<;>simp[Instr.sameNow] at a
   grind
  ·obtain:=zo es (i0+1) i v h
   grind
  ·cases h
theorem AW {t d l:Ab} {kd:B3} {n:Int} {val:AB} {w:A2} {r:Nat} {es:Array DG} {f:Nat} {K:A2->Prop} (g:P.underlying t=some (.map d l)) (a:P.underlying d=some (.int kd)) (hb:bH w r es f)
 (h:gU w r kd n val es f K): ∃j,(N4 t (.map (some r)) (.int kd n) val).run P w= .ok () j/\K j:=by
 have b:=hb;have k:Hb (.int kd) (.int kd n):=by rfl
 unfold gU at h;split at h
 ·rename_i c;refine⟨_,?_,h⟩;simp[N4,run_underlying g,DB b,DY a k,Db a c,Hr _ b,DJ,FS]
 ·rename_i i v c;obtain⟨_,e,m,o, _⟩:=zo _ _ _ _ c;refine⟨_,?_,h⟩;have p:=by simpa using m
  simp[N4,run_underlying g,DB b,DY a k,Db a c,p,o,Instr.keyThatStays,Instr.sameBits,Hr _ b,DJ,FS]
 grind
theorem PF {t d e:Ab} {kd:B3} {n:Int} {w:A2} {p:Option Nat} {i:TypeInfo} {z v:AB} (f:P.underlying t=some (.map d e)) (a:P.underlying d=some (.int kd)) (hi:P.info? e=some i) (l:i.zero=some z)
 (h:jT w p kd n z v):(FG t (.map p) (.int kd n) false).run P w= .ok v w:=by
 obtain⟨r,es,m,rfl,hb,b⟩:=h;have g:=hb;have k:Hb (.int kd) (.int kd n):=by rfl
 split at b
 ·rename_i c;subst b;simp[FG,run_underlying f,DB g,DY a k,Db a c,zeroValue,fB hi,l]
 ·rename_i j u c;subst b;simp[FG,run_underlying f,DB g,DY a k,Db a c,DJ]
 grind
theorem Kb {t d e:Ab} {kd:B3} {n:Int} {w:A2} {p:Option Nat} {i:TypeInfo} {z v:AB} {b:Bool} (f:P.underlying t=some (.map d e)) (a:P.underlying d=some (.int kd)) (hi:P.info? e=some i) (l:i.zero=some z)
 (h:mi w p kd n z v b):(FG t (.map p) (.int kd n) true).run P w= .ok (.tuple ⟨[v,.bool b]⟩) w:=by
 obtain⟨r,es,o,rfl,hb,m⟩:=h;have g:=hb;have k:Hb (.int kd) (.int kd n):=by rfl
 split at m
 ·rename_i c
  simp_all
  simp[FG,run_underlying f,DB g,DY a k,Db a c,zeroValue,fB hi,l,DJ]
 ·rename_i j u c
  simp_all
  simp[FG,run_underlying f,DB g,DY a k,Db a c,DJ]
 grind
theorem n9 {w:A2} {p:Option AR} {k v:AB} (h:Ah w p k v):(Instr.entry (.pointer p)).run P w= .ok (.tuple ⟨[k,v]⟩) w:=by
 obtain⟨r,m,a,seen,es,b,e,rfl,c,hb,d,f,rfl,rfl⟩:=h;exact run_entry_at w r m a seen es b e c hb d f
theorem yN {w w':A2} {p:Option AR} {k v:AB} (a:Ext w w') (h:Ah w p k v):Ah w' p k v:=by
 obtain⟨r,m,b,seen,es,c,e,h1,d,hb,f⟩:=h;exact⟨r,m,b,seen,es,c,e,h1,a.obj d,a.obj hb,f⟩
theorem E6 {ρ:Operand->Option AB} {c:Call} {p:Option Nat} (h:Cj P ρ c=some p): ∃x t a b,c.args= #[x]/\c.argTypes= #[t]/\P.underlying t=some (.map a b)/\ρ x=some (.map p):=by
 unfold Cj at h;split at h
 ·rename_i x t f g;split at h
  ·rename_i a b p' d e;cases h;refine⟨x,t,a,b,?_,?_,d,e⟩
   grind
   grind
  grind
 grind
theorem CU {ρ:Operand->Option AB} {c:Call} {p:Option Nat} (h:xz P ρ c=some p): ∃x t d a,c.args= #[x]/\c.argTypes= #[t]/\P.underlying t=some (.chan d a)/\ρ x=some (.chan p):=by
 unfold xz at h;split at h
 ·rename_i x t g i;split at h
  ·rename_i b a p' e f;cases h;refine⟨x,t,b,a,?_,?_,e,f⟩
   grind
   grind
  grind
 grind
theorem IE {w w':A2} {p q:Option AR} (e:Ext w w') (h:Xi w p q):Xi w' p q:=λa b h1 f g=>by
 obtain⟨⟨c,t,i⟩,d,u,j⟩:=h a b h1 f g;exact⟨⟨c,t,e.obj i⟩,d,u,e.obj j⟩
theorem YL {ρ:Operand->Option AB} {ev:Operand->AB} (j: ∀x v,ρ x=some v->ev x=v) {o:Oper} {p q:Option AR} {w:A2} (h:Ci P ρ o.op=some (p,q)) (k:Xi w p q):
 (execOp ev o).run P w= .ok (.value (.bool (decide (p=q)))) w:=by
 obtain⟨dst,op,type,pos,after,guard⟩:=o;unfold Ci at h;simp only at h;split at h
 ·rename_i t x y z;split at h
  ·rename_i e p' A f l m;split at h
   ·rename_i i hi;split at h
    ·cases h
    ·rename_i n;cases h;simp only[execOp,j _ _ l,j _ _ m];cases p with
     |none=>
      cases q with
      |none=>
       have:=eA (P:=P) (w:=w) λd=>nZ f d none w;simp[eqGuard,binOp,this]
      |some b=>
       have:=eA (w:=w) λd=>nZ f d (some b) w;simp[eqGuard,binOp,this]
     |some a=>
      cases q with
      |none=>
       have:=eA (P:=P) λd=>rS f d (some a) w;simp[eqGuard,binOp,this]
      |some b=>
       by_cases g:a=b
       ·subst g;have:=run_eql_ptr_same w a f hi;simp[eqGuard,this]
       ·obtain⟨⟨c,B,r⟩,d,u,s⟩:=k a b rfl rfl g;have:=run_eql_ptr_other w f hi n g r s;simp[eqGuard,this,g]
   ·cases h
  ·cases h
 ·cases h
theorem yC {C:dH P} {ch:List (Nat×Bool)} {g:Option Bool} {o:Oper} {w:A2} {K:AB->Prop} (l:Fit S ops N D env a) (G:Tj ops a.tmps ch g)
 (h:oS C ops env ch g o w K): ∃v,K v/\(j8 ops a.tmps ch-> ∀w',Ext w w'->dm P o a w' v):=by
 have Ng: ∀v,a.eval (.const v)=v:=λ_=>rfl;have pure: ∀(J:PR),pop P (xR env ch) o=some J->(match J.ob with|none=>K J.v|some p=>gA g p/\K J.v)->
  ∃v,K v/\(j8 ops a.tmps ch-> ∀w',Ext w w'->dm P o a w' v):=by
  intro J E i;cases Q:J.ob with
  |none=>
   rw[Q] at i;exact⟨J.v,i,λhc w' _=>bO (OC (λx v A=>l.ev hc A) Ng E (λp L=>by rw[Q] at L;cases L) w')⟩
  |some p=>
   rw[Q] at i;exact⟨J.v,i.2,λhc w' _=>bO (OC (λx v A=>l.ev hc A) Ng E (λp' L=>by rw[Q] at L;cases L;exact iA i.1 G hc) w')⟩
 have R:(match pop P (xR env ch) o with|some ⟨none,v⟩=>K v|some ⟨some p,v⟩=>gA g p/\K v|none=>False)->
  ∃v,K v/\(j8 ops a.tmps ch-> ∀w',Ext w w'->dm P o a w' v):=by
  intro T;split at T
  ·rename_i v E;exact pure ⟨none,v⟩ E T
  ·rename_i p v E;exact pure ⟨some p,v⟩ E T
  ·exact T.elim
 obtain⟨dst,op,type,pos,after,guard⟩:=o;unfold oS at h;cases op with
 |load t x=>
  simp only at h;split at h
  ·rename_i p el ti A H hi;split at h
   ·exact AC h
   ·rename_i hs;obtain⟨x',M,i⟩:=h;refine⟨_,i,λhc w' B=>bO ?_⟩;have S9:=th B (iA M G hc);have E: ∃a0,p=some a0:=by cases el<;>(obtain⟨a0,h0, _⟩:=S9;exact⟨a0,h0⟩)
    obtain⟨a0,rfl⟩:=E;simp[execOp,Instr.loadAt,l.ev hc A,IR,T1 H hi hs S9]
  ·exact AC h
 |lookup xt m ix ok=>
  simp only at h;split at h
  ·rename_i U V p kd n F W X;split at h
   ·rename_i Z1 el ti Y H hi;split at h
    ·rename_i z I;split at h
     ·rename_i Z;subst Z;obtain⟨x',M,i⟩:=h;refine⟨_,i,λhc w' B=>bO ?_⟩;have hl:=iA M G hc;have zY:jT w' p kd n z (el.gz x'):=by
       obtain⟨r,es,O,h1,h2,h3⟩:=hl;exact⟨r,es,O,h1,B.obj h2,h3⟩
      simp only[execOp,Az,l.ev hc W,l.ev hc X,PF F Y hi I zY,B1,B2]
     ·exact AC h
    ·exact AC h
   ·exact AC h
  ·rename_i U V p kd n F W X;split at h
   ·rename_i Z1 el ti Y H hi;split at h
    ·rename_i z I;split at h
     ·rename_i Z;subst Z;obtain⟨x',b',M,i⟩:=h;refine⟨_,i,λhc w' B=>bO ?_⟩;have hl:=iA M G hc;have zY:mi w' p kd n z (el.gz x') b':=by
       obtain⟨r,es,O,h1,h2,h3⟩:=hl;exact⟨r,es,O,h1,B.obj h2,h3⟩
      simp only[execOp,Az,l.ev hc W,l.ev hc X,Kb F Y hi I zY,B1,B2]
     ·exact AC h
    ·exact AC h
   ·exact AC h
  ·exact AC h
 |pick c x y=>
  simp only at h;split at h
  ·rename_i t;split at h
   ·rename_i ec hec;have known: ∀(b:Bool),ec.k=some b->j8 ops a.tmps ch->a.eval (.tmp t)= .bool b:=by
     intro b hb _;obtain⟨hv,qJ⟩:=l.BL ec (bV hec) b hb;have:=l.yes t ec hec (by rw[qJ];exact eB);simp[Fo,this,hv]
    split at h
    ·rename_i i;split at h
     ·rename_i v hv;refine⟨v,h,λhc w' _=>bO ?_⟩;have eb:=known true i hc;simp[execOp,eb,l.ev hc hv,asBool]
     ·exact AC h
    ·rename_i i;split at h
     ·rename_i v hv;refine⟨v,h,λhc w' _=>bO ?_⟩;have eb:=known false i hc;simp[execOp,eb,l.ev hc hv,asBool]
     ·exact AC h
    ·split at h
     ·rename_i j hj;have z8:dB ops j=some t:=by
       have:=Nt hj;simpa using this
      have key: ∀(b u v:Bool),xR env ch (.tmp t)=some (.bool b)->xR env ((j,true)::ch) x=some (.bool u)->xR env ((j,false)::ch) y=some (.bool v)->
       ∀w',j8 ops a.tmps ch->dm P ⟨dst,.pick (.tmp t) x y,type,pos,after,guard⟩ a w' (.bool (bif b then u else v)):=by
       intro b u v hb F hv w' hc;refine bO ?_;have eb:=l.ev hc hb;have hyj:yielded ops a.tmps j=some b:=by
        unfold yielded;unfold dB at z8;simp only[z8,Option.bind_some];have:a.tmps[t]? =some (.bool b):=by
         unfold Fo at eb;simp only[FY] at eb;cases ht:a.tmps[t]? with
         |none=>rw[ht] at eb;simp[undef] at eb
         |some z=>rw[ht] at eb;simp at eb;rw[eb]
        rw[this]
       cases b with
       |true=>
        have eu:=l.ev (ch:=(j,true)::ch) (λz I=>by
         rcases Ca.1 I with rfl|I
         ·exact hyj
         ·exact hc z I) F
        simp[execOp,eb,eu,asBool]
       |false=>
        have eu:=l.ev (ch:=(j,false)::ch) (λz I=>by
         rcases Ca.1 I with rfl|I
         ·exact hyj
         ·exact hc z I) hv
        simp[execOp,eb,eu,asBool]
      split at h
      ·rename_i b u v hb F hv;split at h
       ·cases (show v=false by simp only[xR,DA,Value.bool.injEq] at hv;exact hv.symm);refine⟨_,h,λhc w' _=>?_⟩;have:=key b u false hb F hv w' hc;cases b<;>exact this
       ·cases (show u=true by simp only[xR,DA,Value.bool.injEq] at F;exact F.symm);refine⟨_,h,λhc w' _=>?_⟩;have:=key b true v hb F hv w' hc;cases b<;>exact this
       ·exact⟨_,h,λhc w' _=>key b u v hb F hv w' hc⟩
      ·exact AC h
     ·exact AC h
   ·exact AC h
  ·exact AC h
 |call c=>
  obtain⟨callee,args,ts⟩:=c;cases callee with
  |value f=>
   simp only at h;split at h
   ·rename_i fY first cap acR hf has
    split at h
    ·rename_i ru;split at h
     ·rename_i e H;split at h
      ·rename_i pre v abN;refine⟨v,h.2,λhc w' _=>?_⟩;have dQ:=tn (P:=P) (dst:=dst) (type:=type) (pos:=pos) (after:=after) (guard:=guard) (ts:=ts) (l.ev hc hf) (lZ (λx v A=>l.ev hc A) has) (w:=w') ru;unfold dm;rw[dQ];refine⟨rfl,?_⟩;have:=e.ok _ _ _ abN (iA h.1 G hc) w';rw[ID H] at this;exact this
      ·exact AC h
     ·obtain⟨x,hq,i⟩:=h;refine⟨_,i,λhc w' B=>?_⟩;have dQ:=tn (P:=P) (dst:=dst) (type:=type) (pos:=pos) (after:=after) (guard:=guard) (ts:=ts) (l.ev hc hf) (lZ (λx v A=>l.ev hc A) has) (w:=w') ru;unfold dm;rw[dQ];exact⟨rfl,iA hq G hc w' B⟩
    ·exact AC h
   ·exact AC h
  |invoke r m=>exact R h
  |builtin b=>
   cases b with
   |len=>
    simp only at h;split at h
    ·rename_i p E;obtain⟨n,hn,i⟩:=h;refine⟨_,i,λhc w' B=>bO ?_⟩;obtain⟨x,t,U,V,rfl,rfl,F,A⟩:=E6 E;obtain⟨r,es,O,rfl,hb,rfl⟩:=iA hn G hc;have si:w'.heap[r]? =some (.map es O):=B.obj hb;simp[execOp,resolve,invoke,builtin,Fw,l.ev hc A,run_underlying F,DB si,goInt,DJ]
    ·split at h
     ·rename_i p E;obtain⟨n,hn,i⟩:=h;refine⟨_,i,λhc w' B=>bO ?_⟩;obtain⟨x,t,U,V,rfl,rfl,F,A⟩:=CU E;obtain⟨r,cap,rq,s,m,rfl,hb,rfl⟩:=iA hn G hc;have si:w'.heap[r]? =some (.chan cap ⟨rq⟩ false s m false):=B.obj hb;have uF:(getObj r).run P w'= .ok (.chan cap ⟨rq⟩ false s m false) w':=by simp[getObj,Sem.run,si]
      simp[execOp,resolve,invoke,builtin,Fw,l.ev hc A,run_underlying F,uF,goInt,DJ]
     ·exact R h
   | _=>exact R h
 |entry it=>
  simp only at h;split at h
  ·rename_i p d A;split at h
   ·obtain⟨x,v,H,i⟩:=h;refine⟨_,i,λhc w' B=>bO ?_⟩;simp only[execOp,Az,l.ev hc A,n9 (yN B (iA H G hc)),B1,B2]
   ·obtain⟨x,v,H,i⟩:=h;refine⟨_,i,λhc w' B=>bO ?_⟩;simp only[execOp,Az,l.ev hc A,n9 (yN B (iA H G hc)),B1,B2]
   ·obtain⟨x,v,H,i⟩:=h;refine⟨_,i,λhc w' B=>bO ?_⟩;simp only[execOp,Az,l.ev hc A,n9 (yN B (iA H G hc)),B1,B2]
   ·exact AC h
  ·exact AC h
 |binOp op t x y yt=>
  simp only at h;split at h
  ·rename_i v E;exact pure ⟨none,v⟩ E h
  ·rename_i p v E;exact pure ⟨some p,v⟩ E h
  ·split at h
   ·rename_i p q E;obtain⟨hq,i⟩:=h;exact⟨_,i,λhc w' B=>bO (YL (o:=⟨dst,.binOp op t x y yt,type,pos,after,guard⟩) (λx v A=>l.ev hc A) E (IE B (iA hq G hc)))⟩
   ·exact AC h
 | _=>exact R h
variable {P:Ax}
def WF (r:Option Nat):Fence:={Dd with round:=r}
theorem jK {r:Option Nat} {n:Nat} {f:B4} {args:Array AB} {w:A2} {R:Ending->A2->Prop}:CallsIn (WF r) n P f args w R<->Calls P f args w R:=
 callsIn_wide
theorem WH (r:Option Nat) (f:B4):(WF r).fn f:=trivial
theorem IF (r:Option Nat) (n:Nat):(WF r).room n:=room_wide n
theorem zT {w:A2} {p q:AR} {v:AB} (h:(w.cell? q).isSome=true):((w.setCell p v).cell? q).isSome=true:=by
 unfold N5 at h ⊢;simp[N6]
 grind
theorem S7 {w:A2} {p q:AR} {v:AB}:(w.setCell p v).frozen? q=w.frozen? q:=by
 simp
theorem CV {w:A2} {a:AR} {v:AB} (hv:v.oneCell'=true) (h:(w.cell? a).isSome=true) (b:w.frozen? a=false):(store a v).run P w= .ok () (w.setCell a v):=by
 rw[run_store P w a v _ hv]
 grind
theorem ji: ∀(vs:List AB) (a:AR) (i:Nat) (w:A2),D5 vs=true->(∀j,j<vs.length->(w.cell? (a.add (i+j))).isSome=true/\w.frozen? (a.add (i+j))=false)->
 (storeCells a vs i).run P w= .ok () (putAt w a vs i)
 |[],a,i,w, _, _=>by rfl
 |v::r,a,i,w,b,h=>by
  simp only[D5,Ix,BN] at b;have h0:=h 0;simp at h0;have c:=ji r a (i+1) (w.setCell (a.add i) v) b.2 (λj d=>by
   simp_all
   grind[zT])
  simp[storeCells,CV b.1 h0.1 h0.2,c,putAt]
theorem wrap_i64 {n:Int} (h0: -(2 ^ 63)<=n) (h1:n<2 ^ 63):Dn.wrap n=n:=by
 show(if(true&&decide (n % 2 ^ 64>=2 ^ 63))=true then n % 2 ^ 64 - 2 ^ 64 else n % 2 ^ 64)=n
 grind
theorem run_makeSlice {t e:Ab} {i:TypeInfo} {z:AB} (b:P.underlying t=some (.slice e)) (hi:P.info? e=some i) (c:i.zero=some z) (k d:B3) {n m:Int} (h:aad i.bytes n m) (w:A2):
 (T0 t (.int k n) (.int d m)).run P w= .ok (.slice (some ⟨w.heap.size,0,none⟩) n.toNat m.toNat) (w.alloc (.cells (nN z.cells (m.toNat*i.size)) e)):=by
 obtain⟨h0,h1,p,q⟩:=h;have wn:Dn.wrap n=n:=wrap_i64 (by omega) (by omega);have f:Dn.wrap m=m:=wrap_i64 (by omega) (by omega);have g: ¬ m<0:=by omega
 have j: ¬ n<0:=by omega
 have l: ¬ n>m:=by omega
 have o: ¬ (i.bytes*m>2 ^ 48):=by omega
 unfold T0;simp only[Az,bE b,B1,asInt,asIntOf,B2,fB hi,wn,f,g,j,l,o,decide_false,JP,Dt,if_false,run_askRoom,dp hi,newRow];by_cases a:m.toNat*i.size=0
 ·simp[a,nN]
 ·simp[a,nN,zeroValue,fB hi,c]
theorem xA {w:A2} {p:Option AR} {n size len cap:Nat} {vs:List AB} (h:pX w p (n*size) vs):(FV size n (.slice p len cap)).run P w= .ok ⟨vs⟩ w:=by
 cases p with
 |none=>subst h;rfl
 |some a=>
  obtain⟨b⟩:=h;have:=run_loadCellsFrom (P:=P) (w:=w) (a:=a) vs 0 #[] (by grind);rw[b] at this;simp only[FV,loadCells,this];simp
theorem D8 {w:A2} {p:Option AR} {n:Nat} {vs:List AB} (h:pX w p n vs):pX w.drew p n vs:=h
theorem PG {ts:Array Ab} {t u e:Ab} {i:TypeInfo} {ty:Ab} {p q:Option AR} {n m k l:Nat} (c:ts= #[t,u]) (d:P.underlying t=some (.slice e))
 (hi:P.info? e=some i) {w:A2} {R:Int->A2->Prop} (h:cpR w i.size (p,n) (q,k) R):
 ∃r b,(TD ts ty #[.slice p n m,.slice q k l]).run P w= .ok (.int .i64 r) b/\R r b:=by
 subst c;obtain⟨new,f,g,j⟩:=h;have o:(FV i.size _ (.slice q k l)).run P w= .ok ⟨new⟩ w:=xA f;refine⟨_, _,?_,j⟩;unfold TD;have h0: #[t,u][0]? =some t:=rfl;simp only[h0,J8,Gd,JJ,Az,bE d,B1,dp hi,N7,B2,o];cases p with
 |none=>
  rfl
 |some a=>
  rcases g with h|rfl|⟨⟨a',s,hc⟩,v⟩
  ·cases h
  ·rfl
  ·cases s;have x:=ji (P:=P) new a 0 w v (by grind);simp only[Az,x,B1,B2,goInt];rfl
theorem GC {ts:Array Ab} {t u e y:Ab} {i:TypeInfo} {z:AB} {ty:Ab} {p q:Option AR} {n m k l:Nat} (A:ts= #[t,u]) (f:P.underlying t=some (.slice e)) (g:P.underlying u=some (.slice y))
 (hi:P.info? e=some i) (B:i.zero=some z) (hb:i.bytes≠0) {w:A2} {R:Option AR×Nat×Nat->A2->Prop} (h:nb w e i.size i.bytes z.cells (p,n,m) (q,k,l) R):
 ∃r o,(NO ts ty #[.slice p n m,.slice q k l]).run P w= .ok (.slice r.1 r.2.1 r.2.2) o/\R r o:=by
 subst A;obtain⟨fQ,new,C,s,D,E⟩:=h;have F:(FV i.size k (.slice q k l)).run P w= .ok ⟨new⟩ w:=xA s;by_cases b:n+k<=m
 ·obtain⟨G,d⟩:=D b;refine⟨_, _,?_,d⟩;unfold NO;have h0:(#[t,u]:Array Ab)[0]? =some t:=rfl;have h1:(#[t,u]:Array Ab)[1]? =some u:=rfl;simp only[h0,h1,J8,Gd,JJ,Az,bE f,bE g,B1,dp hi,N7,B2,Dt,if_false,b,if_true,PS,F];cases p with
  |none=>
   simp only[B2,jx,TE]
  |some a=>
   rcases G with rfl|⟨⟨a',v,hc⟩,H⟩
   ·simp[storeCells,jx,putAt]
   ·simp only[G1,DA] at v;subst v;have I:=ji (P:=P) new (a.add (n*i.size)) 0 w H (λj J=>by simpa using hc j J);rw[Az,I];rfl
 ·obtain⟨K,d⟩:=E (by show m<n+k;omega);have L:=λc hc=>d c hc;have M: ∀(x:Nat),n+k<=(Question.appendCap (n+k) m e).cut x:=λx=>by simp[Question.cut]
  refine⟨_, _,?_,L ((Question.appendCap (n+k) m e).cut (w.tape w.drawn (.appendCap (n+k) m e))) (M _)⟩;unfold NO;have h0:(#[t,u]:Array Ab)[0]? =some t:=rfl;have h1:(#[t,u]:Array Ab)[1]? =some u:=rfl;have N: ¬ (((n+k:Nat):Int)>Dn.max/\(False\/i.bytes=0)):=by simp[hb]
  have O: ¬ (T_ (n+k) m*i.bytes>2 ^ 48):=by simp only at K;omega
  have Q:(FV i.size n (.slice p n m)).run P w.drew= .ok ⟨fQ⟩ w.drew:=xA (D8 C);have S:(FV i.size k (.slice q k l)).run P w.drew= .ok ⟨new⟩ w.drew:=xA (D8 s);simp only[h0,h1,J8,Gd,JJ,Az,bE f,bE g,B1,dp hi,N7,B2,Dt,if_false,b,PS,if_true,
   fB hi]
  rw[if_neg N];simp only[Az,fB hi,B1,O,if_false,run_choose_drew,Question.forced,Dt,run_askRoom,Q,S,zeroValue,B,newRow,B2,run_newObj_alloc];rfl
theorem zU {t e:Ab} {i:TypeInfo} {z:AB} {len:Nat} {parts:Array (Nat×AB)} {ps:List (Nat×AB)} {cs:Array AB} (c:P.underlying t=some (.slice e)) (hi:P.info? e=some i) (d:i.zero=some z)
 (f:parts.toList=ps) (g:AF (λk=>some (k*i.size,i.size)) ⟨(B9 (len*i.size)).map (z.cells.toList[· % z.cells.toList.length]!)⟩ ps=some cs) (j:len*i.size<=2 ^ 24) (w:A2):
 (T3 t len parts).run P w= .ok (.slice (some ⟨w.heap.size,0,none⟩) len len) (w.alloc (.cells cs e)):=by
 have h: ¬ len*i.size>2 ^ 24:=by omega
 have a:I1 (λk=>some (k*i.size,i.size)) ((Array.range (len*i.size)).map ((if len*i.size=0 then #[] else z.cells)[· % (if len*i.size=0 then #[] else z.cells).size]!)) ps=some cs:=by
  rw[<-yL g];congr 1
  grind
 unfold T3;simp only[Az,bE c,B1,dp hi,h,newRow];by_cases b:len*i.size=0
 simp_all
 ·simp only[b,if_false] at a;simp only[b,if_false,zeroValue,Az,fB hi,B1,d,B2,f,a];simp
theorem cQ {r:Option Nat} {ev:Operand->AB} {o:Oper} (h: ∀c,o.op≠ .defer c):o.semAt (WF r).round ev=execOp ev o:=Oper.semAt_eq _ _ _ h
variable {S:Nat->Option (Option AB)} {ops:Array Oper} {N:Nat} {D:List Deferred} {env:List bP} {a:Act}
def eT (o:Oper):Bool:=
 match o.op with
 | .alloc _| .box .. | .buildSlice .. | .makeSlice .. | .makeMap .. | .makeChan .. =>true
 | _=>false
def BV (C:dH P) (o:Oper):Bool:=
 match o.op with
 | .move _| .assign _| .pick .. | .alloc _| .box .. | .buildSlice .. | .makeSlice .. | .makeMap .. | .makeChan .. | .build .. | .load .. | .nilCheck _| .binOp .. | .unOp .. | .convert .. | .makeFunc .. | .slice .. | .fieldAddr .. | .field .. | .indexAddr .. | .index .. | .extract .. | .lookup .. =>false
 | .call c=>match c.callee with
   | .value (.func f)=> !((yd C.sj f).isSome||C.quiet.contains f)
   | .builtin .len| .builtin .min| .builtin .max=>false
   | _=>true
 | _=>true
theorem PH {C:dH P} {ρ:Operand->Option AB} {o:Oper} (a: ∀f,ρ (.func f)=some (.func (.func f) #[] #[])) (h:BV C o=false) (b:Oa C ρ o=true):eT o=true:=by
 grind[BV,Oa,eT]
theorem GD {P:Ax} {ts:Array Ab} {ty t u d k:Ab} {kd:B3} {n:Int} {w:A2} {r:Nat} {es:Array DG} {e:Nat} {K:A2->Prop} (l:ts= #[t,u]) (f:P.underlying t=some (.map d k)) (a:P.underlying d=some (.int kd)) (hb:bH w r es e)
 (h:Ag w r kd n es e K): ∃g,(NP ts ty #[.map (some r),.int kd n]).run P w= .ok (.tuple #[]) g/\K g:=by
 subst l;have b:=hb;have j:Hb (.int kd) (.int kd n):=by rfl
 unfold Ag at h;split at h
 ·rename_i c;refine⟨_,?_,h⟩;simp[NP,run_underlying f,DB b,DY a j,Db a c,Hr _ b,FS]
 ·rename_i i v c;refine⟨_,?_,h⟩;simp[NP,run_underlying f,DB b,DY a j,Db a c,Hr _ b,DJ,FS]
 grind
theorem YN {r:Option Nat} {o:Oper} {w w':A2} {K:AB->A2->Prop} {next:Act->A2->Prop} {Q:Exit->Act->A2->Prop} (A:Fit S ops N D env a)
 {C:dH P} (h:eop C (xR env []) o w K) (I:Ext w w') (G: ∀v H,K v H->(eT o=true->Ext w' H)->next (a.put o.dst v) H):o.wpIn (WF r) 0 P a w' next Q:=by
 have hc:j8 ops a.tmps []:=λx g=>by cases g
 refine⟨λ_ _=>trivial,?_⟩;obtain⟨dst,op,type,pos,after,guard⟩:=o;unfold eop at h;cases op<;>simp only at h<;>(try exact AC h)
 case store t x y=>
  rw[cQ (by simp)];split at h
  ·rename_i p v i g hy hi;split at h
   ·rename_i R;obtain⟨⟨ho,a0,hp,YO⟩,B⟩:=h w' I;subst hp;have iz:v.cells.size=i.size:=by simpa[uX] using R
    have vq:=ji (P:=P) (uX v) a0 0 w' ho (λj hj=>by simpa using YO j hj);have:(execOp a.eval ⟨dst,.store t x y,type,pos,after,guard⟩).run P w'= .ok .skip (jx w' (some a0) (uX v)):=by
     simp only[execOp,Instr.storeAt,A.ev hc g,A.ev hc hy,IR,storeVar,Az,B2,B1,dp hi,iz,ne_eq,not_true,if_false];rw[show v.cells.toList=uX v from rfl,vq];rfl
    rw[this];exact G _ _ B (λE=>by simp[eT] at E)
   ·exact AC h
  ·exact AC h
 case mapUpdate t m x v=>
  rw[cQ (by simp)];split at h
  ·rename_i kt T p kd n val J U g hv;split at h
   ·rename_i Z1 V;split at h
    ·rename_i W;subst W;obtain⟨r,es,M,rfl,hb,X⟩:=h w' I;obtain⟨H,dQ,B⟩:=AW J V hb X;have:(execOp a.eval ⟨dst,.mapUpdate t m x v,type,pos,after,guard⟩).run P w'= .ok .skip H:=by
      simp only[execOp,Az,A.ev hc U,A.ev hc g,A.ev hc hv,dQ,B1,B2]
     rw[this];exact G _ _ B (λE=>by simp[eT] at E)
    ·exact AC h
   ·exact AC h
  ·exact AC h
 case insert t m x v=>
  rw[cQ (by simp)];split at h
  ·rename_i kt T p kd n val J U g hv;split at h
   ·rename_i Z1 V;split at h
    ·rename_i W;subst W;obtain⟨r,es,M,rfl,hb,X⟩:=h w' I;obtain⟨H,dQ,B⟩:=AW J V hb X;have:(execOp a.eval ⟨dst,.insert t m x v,type,pos,after,guard⟩).run P w'= .ok .skip H:=by
      simp only[execOp,Az,A.ev hc U,A.ev hc g,A.ev hc hv,dQ,B1,B2]
     rw[this];exact G _ _ B (λE=>by simp[eT] at E)
    ·exact AC h
   ·exact AC h
  ·exact AC h
 case alloc e=>
  rw[cQ (by simp)];split at h
  ·rename_i i hi;split at h
   ·rename_i z O;have h:aL w z.cells e (λb H=>K (.pointer (some ⟨b,0,none⟩)) H):=by
     have e1:X9 P e=z.cells:=by unfold X9;simp only[hi,O]
     split at h
     ·rw[e1] at h;exact h
     ·exact h
    have B:=h w' I;have:(execOp a.eval ⟨dst,.alloc e,type,pos,after,guard⟩).run P w'= .ok (.value (.pointer (some ⟨w'.heap.size,0,none⟩))) (w'.alloc (.cells z.cells e)):=by
     simp[execOp,Instr.alloc,zeroValue,fB hi,O,newVar,newRow]
    rw[this];exact G _ _ B (λ_=>Ext.alloc _ _)
   ·exact AC h
  ·exact AC h
 case box e x=>
  rw[cQ (by simp)];split at h
  ·rename_i v hv;have B:=h w' I;have:(execOp a.eval ⟨dst,.box e x,type,pos,after,guard⟩).run P w'= .ok (.value (.pointer (some ⟨w'.heap.size,0,none⟩))) (w'.alloc (.cells v.cells e)):=by
    simp[execOp,Instr.box,A.ev hc hv,newVar,newRow]
   rw[this];exact G _ _ B (λ_=>Ext.alloc _ _)
  ·exact AC h
 case buildSlice t len parts=>
  rw[cQ (by simp)];split at h
  ·rename_i el ps J Ti;split at h
   ·rename_i i hi;split at h
    ·rename_i z O;split at h
     ·rename_i cs fg;split at h
      ·rename_i hlen;have B:=h w' I;have e:=yM (λx v g=>A.ev hc g) Ti;have e':(parts.map λ(i,x)=>(i,a.eval x)).toList=ps:=by rw[<-e];simp
       have dQ:=zU (P:=P) J hi O e' fg hlen w';have:(execOp a.eval ⟨dst,.buildSlice t len parts,type,pos,after,guard⟩).run P w'= .ok (.value (.slice (some ⟨w'.heap.size,0,none⟩) len len)) (w'.alloc (.cells cs el)):=by
        simp only[execOp,Az,dQ,B1,B2]
       rw[this];exact G _ _ B (λ_=>Ext.alloc _ _)
      ·exact AC h
     ·exact AC h
    ·exact AC h
   ·exact AC h
  ·exact AC h
 case makeSlice t l c=>
  rw[cQ (by simp)];split at h
  ·rename_i el k n k' m J hl BM;split at h
   ·rename_i i hi;split at h
    ·rename_i z O;obtain⟨jn,B⟩:=h w' I;have dQ:=run_makeSlice (P:=P) J hi O k k' jn w';have:(execOp a.eval ⟨dst,.makeSlice t l c,type,pos,after,guard⟩).run P w'= .ok (.value (.slice (some ⟨w'.heap.size,0,none⟩) n.toNat m.toNat)) (w'.alloc (.cells (nN z.cells (m.toNat*i.size)) el)):=by
      simp only[execOp,A.ev hc hl,A.ev hc BM,Az,dQ,B1,B2]
     rw[this];exact G _ _ B (λ_=>Ext.alloc _ _)
    ·exact AC h
   ·exact AC h
  ·exact AC h
 case makeMap t rs=>
  rw[cQ (by simp)];split at h
  ·have B:=h w' I;have:(execOp a.eval ⟨dst,.makeMap t none,type,pos,after,guard⟩).run P w'= .ok (.value (.map (some w'.heap.size))) (w'.alloc (.map #[] 0)):=by
    simp[execOp,Instr.makeMap]
   rw[this];exact G _ _ B (λ_=>Ext.alloc _ _)
  ·exact AC h
 case makeChan t sz=>
  rw[cQ (by simp)];split at h
  ·rename_i d e k n J R;split at h
   ·rename_i i hi;split at h
    ·rename_i hn;have B:=h w' I;have hb: ¬ (n<0\/n>Dn.max\/i.bytes*n>2 ^ 48 - 112):=by
      have:Dn.max=9223372036854775807:=by decide
      omega
     have:(execOp a.eval ⟨dst,.makeChan t sz,type,pos,after,guard⟩).run P w'= .ok (.value (.chan (some w'.heap.size))) (w'.alloc (.chan n.toNat #[] false 0 0 false)):=by
      have si: ¬ (n<0\/9223372036854775807<n\/281474976710544<(i.bytes:Int)*n):=by omega
      simp[execOp,Instr.makeChan,A.ev hc R,asInt,asIntOf,run_underlying J,fB hi];exact λc=>absurd c si
     rw[this];exact G _ _ B (λ_=>Ext.alloc _ _)
    ·exact AC h
   ·exact AC h
  ·exact AC h
 case range xt x=>
  rw[cQ (by simp)];split at h
  ·rename_i kt T p J g;obtain⟨r,es,M,rfl,hb,B⟩:=h w' I;have si:w'.heap[r]? =some (.map es M):=hb;have:(execOp a.eval ⟨dst,.range xt x,type,pos,after,guard⟩).run P w'= .ok (.value (.pointer (some ⟨w'.heap.size,0,none⟩))) (w'.alloc (.mapIter (some r) M #[] M)):=by
    simp[execOp,Instr.range,A.ev hc g,run_underlying J,DB si,DJ]
   rw[this];exact G _ _ B (λE=>by simp[eT] at E)
  ·exact AC h
 case next it b=>
  rw[cQ (by simp)];split at h
  ·rename_i p g;obtain⟨r,m,since,seen,last,es,M,rfl,hr,hb,wL,hold,k0,k1⟩:=h w' I;rcases run_next_at (P:=P) w' type r m since last seen es M hr hb hold wL with ⟨h0,dQ⟩|⟨e,L,w1,wM,dQ⟩
   ·have:(execOp a.eval ⟨dst,.next it false,type,pos,after,guard⟩).run P w'= .ok (.value (.tuple ⟨[.bool false]⟩)) w':=by
     simp only[execOp,Az,A.ev hc g,dQ,B1,B2]
    rw[this];refine G _ _ (k0 (λe L=>?_) w' (Ext.refl _)) (λE=>by simp[eT] at E);unfold leftOf at h0;have h1:=Array.eq_empty_of_size_eq_zero h0;rw[Array.filter_eq_empty_iff] at h1;simpa using h1 e (by simpa using L)
   ·have:(execOp a.eval ⟨dst,.next it false,type,pos,after,guard⟩).run P w'= .ok (.value (.tuple ⟨[.bool true,e.key,e.val]⟩)) (w1.putObj r (.mapIter (some m) since (seen.push e.born) M)):=by
     simp only[execOp,Az,A.ev hc g,dQ,B1,B2];rfl
    rw[this];unfold leftOf at L;have jO:e∈es.toList/\seen.contains e.born=false:=by simpa using L
    refine G _ _ (k1 e jO.1 jO.2 w1 ?_) (λE=>by simp[eT] at E);rcases wM with rfl|rfl
    ·exact Ext.refl _
    ·exact⟨rfl,rfl,rfl,Dc _,λk B=>rfl⟩
  ·exact AC h
 case call c=>
  obtain⟨callee,args,ts⟩:=c;rw[cQ (by simp)];simp only at h;split at h
  ·
   split at h
   ·rename_i m x t u Il aae;split at h
    ·rename_i kt T p kd n J U g;split at h
     ·rename_i Z1 V;split at h
      ·rename_i W;subst W;obtain⟨r,es,M,rfl,hb,X⟩:=h w' I;have Y:args= #[m,x]:=by cases args;simp_all
       have et':ts= #[t,u]:=by cases ts;simp_all
       obtain⟨H,dQ,B⟩:=GD (P:=P) (ty:=type) et' J V hb X;have:(execOp a.eval ⟨dst,.call ⟨.builtin .delete,args,ts⟩,type,pos,after,guard⟩).run P w'= .ok (.value (.tuple ⟨[]⟩)) H:=by
        subst Y;simp only[execOp,resolve,Az,B2,B1,invoke,builtin,Gi,H4,H5,A.ev hc U,A.ev hc g,dQ]
       rw[this];exact G _ _ B (λE=>by simp[eT] at E)
      ·exact AC h
     ·exact AC h
    ·exact AC h
   ·exact AC h
  ·
   split at h
   ·rename_i s x t u Il aae;split at h
    ·rename_i e ue p n m q k l J hu' R g;split at h
     ·rename_i i hi;split at h
      ·rename_i z O;split at h
       ·exact AC h
       ·rename_i hb;have Tl:=h w' I;have Y:args= #[s,x]:=by cases args;simp_all
        have T:ts= #[t,u]:=by cases ts;simp_all
        obtain⟨res,H,dQ,Z⟩:=GC (P:=P) (ty:=type) T J hu' hi O hb Tl;have:(execOp a.eval ⟨dst,.call ⟨.builtin .append,args,ts⟩,type,pos,after,guard⟩).run P w'= .ok (.value (.slice res.1 res.2.1 res.2.2)) H:=by
         subst Y;simp only[execOp,resolve,Az,B2,B1,invoke,builtin,Gi,H4,H5,A.ev hc R,A.ev hc g,dQ]
        rw[this];exact G _ _ Z (λE=>by simp[eT] at E)
      ·exact AC h
     ·exact AC h
    ·exact AC h
   ·exact AC h
  ·
   split at h
   ·rename_i s x t u Il aae;split at h
    ·rename_i e p n m q k l J R g;split at h
     ·rename_i i hi;have Tl:=h w' I;have Y:args= #[s,x]:=by cases args;simp_all
      have T:ts= #[t,u]:=by cases ts;simp_all
      obtain⟨res,H,dQ,Z⟩:=PG (P:=P) (ty:=type) (m:=m) (l:=l) T J hi Tl;have:(execOp a.eval ⟨dst,.call ⟨.builtin .copy,args,ts⟩,type,pos,after,guard⟩).run P w'= .ok (.value (.int .i64 res)) H:=by
       subst Y;simp only[execOp,resolve,Az,B2,B1,invoke,builtin,Gi,H4,H5,A.ev hc R,A.ev hc g,dQ]
      rw[this];exact G _ _ Z (λE=>by simp[eT] at E)
     ·exact AC h
    ·exact AC h
   ·exact AC h
  ·rename_i f;split at h
   ·
    rename_i s t;split at h
    ·rename_i v acR hf has;obtain⟨fY,first,cap,rfl,ru,B⟩:=h w' I;have dQ:=tn (P:=P) (dst:=dst) (type:=type) (pos:=pos) (after:=after) (guard:=guard) (ts:=ts) (A.ev hc hf) (lZ (λx v g=>A.ev hc g) has) (w:=w') ru;rw[dQ];refine⟨by simp[WF,Dd],?_⟩;refine(jK (n:=0 - 1)).2 ?_;refine F5 B λe H ⟨x,L,g⟩=>?_;subst L;exact G _ _ g (λE=>by simp[eT] at E)
    ·exact AC h
   rename_i f _ _ _;split at h
   ·
    rename_i l first cp acR hf has
    obtain⟨rec,Ai,hlen,YP⟩:=h w' I;have e:(first++args.map a.eval:Array AB)=⟨first.toList++acR⟩:=by
     have:=lZ (λx v g=>A.ev hc g) has;rw[<-this];obtain⟨l1⟩:=first;obtain⟨l2⟩:=args
     simp
    have dQ:=run_yield (P:=P) (args:=⟨first.toList++acR⟩) Ai (by simpa using hlen);have:(execOp a.eval ⟨dst,.call ⟨.value f,args,ts⟩,type,pos,after,guard⟩).run P w'= .ok (.round l rec.fn ((rec.params.zip ⟨first.toList++acR⟩).foldl (λtmps (t,a)=>tmps.setIfInBounds t a) rec.tmps) rec.assign rec.body) w':=by
     simp only[execOp,resolve,Deferred.ofValue,A.ev hc hf,Az,B2,B1,invoke];rw[e,dQ]
    rw[this];refine⟨by simp[WF,Dd],?_⟩;refine RoundIn.mono (F:=WF r) (n:=0 - 1) YP λe H ⟨b,L,Z⟩=>?_;subst L;exact G _ _ Z (λE=>by simp[eT] at E)
   ·rename_i fY first cap acR hf has
    split at h
    ·rename_i ru;have B:=h w' I;have dQ:=tn (P:=P) (dst:=dst) (type:=type) (pos:=pos) (after:=after) (guard:=guard) (ts:=ts) (A.ev hc hf) (lZ (λx v g=>A.ev hc g) has) (w:=w') ru;rw[dQ];refine⟨by simp[WF,Dd],?_⟩;refine(jK (n:=0 - 1)).2 ?_;refine F5 B λe H ⟨x,L,g⟩=>?_;subst L;exact G _ _ g (λE=>by simp[eT] at E)
    ·exact AC h
   ·exact AC h
  ·exact AC h
theorem AX {o:Oper} {c:Call} (b:o.op= .defer c) {w:A2} {v:AB} (h:dm P o a w v):False:=by
 obtain⟨dst,op,type⟩:=o;unfold dm execOp at h
 simp_all
 generalize (resolve _ c type).run P w=res at h;cases res<;>simp at h
def Wr (S:Nat->Option (Option AB)) (ops:Array Oper):Prop:= ∀o∈ops, ∀k,o.dst=some k->S k=none
theorem CW {α:Type} {l:List α} (h:l.getLast?=none):l=[]:=List.getLast?_eq_none_iff.1 h
theorem yO {r:Option Nat} {C:dH P} {i:Nat} {o:Oper} {Q:Exit->Act->A2->Prop} (y:ops[i]? =some o) (l: ∀k,o.dst=some k->S k=none):
 ∀(n:Nat) (env:List bP) (w w':A2) (K:List bP->A2->Prop),Fit S ops N D env a->NK C ops N o n env w K->Ext w w'->
 wpOpIn (WF r) 0 P ops Q i (λa1 w1=>(BV C o=false->Ext w' w1)/\ ∃c_ H,K c_ H/\Fit S ops N D c_ a1/\Ext H w1) a w'
 |0, _, _, _, _, _,h, _=>AC h
 |n+1,env,w,w',K,b,h,j=>by
  simp only[NK,nO,jI] at h;split at h
  ·exact AC h
  ·rename_i E;have z:=Ct b E;split at h
   ·rename_i s;unfold wpOpIn;simp only[y];rw[if_neg (by rw[z];simp)];exact⟨λ_ _=>trivial,λ_=>Ext.refl _, _,w,h,b.put s l rfl (λ_=>rfl) (λm=>absurd eB m),j⟩
   ·exact AC h
  ·rename_i ch g E;obtain⟨A,z⟩:=Oc b E;split at h
   ·rename_i s;split at h
    ·rename_i L;split at h
     ·rename_i M;have:ch=[]:=CW M;subst this;unfold wpOpIn;simp only[y];rw[if_pos (z.2 eB)];refine YN b h j λv F p q=>⟨λO=>q (PH (C:=C) (ρ:=xR env []) (λ_=>rfl) O L), _,F,p,?_,Ext.refl _⟩;exact b.put s l rfl (λ_=>rfl) (λm=>absurd eB m)
     ·split at h
      ·rename_i d I;split at h
       ·rename_i e B;split at h
        ·rename_i x q;split at h
         ·rename_i R;have J:e.ch=[]:=by simpa using R
          cases x with
          |true=>exact yO y l n _ w w' K (b.settle I B J q) h j
          |false=>exact yO y l n _ w w' K (b.settle I B J q) h j
         ·exact AC h
        ·exact AC h
       ·exact AC h
      ·exact AC h
    ·obtain⟨v,p,T⟩:=yC b A h;replace p:=rT p;unfold wpOpIn;simp only[y];by_cases hc:j8 ops a.tmps ch
     ·rw[if_pos (z.2 hc)];have t:=T hc w' j;have U: ∀c,o.op≠ .defer c:=by
       intro c V;exact AX V t
      refine⟨λ_ _=>trivial,?_⟩;rw[cQ U];unfold dm at t;split at t
      ·rename_i u F dQ;obtain⟨rfl,rfl⟩:=t;rw[dQ];exact⟨λ_=>Ext.refl _, _,w,p,b.put s l A (λ_=>rfl) (λm=>absurd hc m),j⟩
      ·rename_i f args F dQ;obtain⟨rfl,W⟩:=t;rw[dQ];refine⟨by simp[WF,Dd],(jK (n:=0 - 1)).2 ?_⟩;refine F5 W λe X ⟨B,q⟩=>?_;subst B;exact⟨λ_=>q, _,w,p,b.put s l A (λ_=>rfl) (λm=>absurd hc m),j.trans q⟩
      ·exact t.elim
     ·rw[if_neg (λG=>hc (z.1 G))];exact⟨λ_ _=>trivial,λ_=>Ext.refl _, _,w,p,b.put s l A (λG=>absurd G hc) (λ_=>rfl),j⟩
   ·exact AC h
theorem D9 {r:Option Nat} {C:dH P} {i:Nat} {w w':A2} {K:List bP->A2->Prop} {Q:Exit->Act->A2->Prop} (c:Wr S ops) (d:Fit S ops N D env a)
 (h:FK C ops N i env w K) (e:Ext w w'):wpOpIn (WF r) 0 P ops Q i (λa1 w1=>(((ops[i]?).map (BV C)).getD true=false->Ext w' w1)/\ ∃c_ b,K c_ b/\Fit S ops N D c_ a1/\Ext b w1) a w':=by
 unfold FK at h;cases f:ops[i]? with
 |none=>grind
 |some o=>
  simp_all
  have:=yO (r:=r) (Q:=Q) f (c o (by grind)) _ env w w' K d h e;omega
theorem OF {r:Option Nat} {C:dH P} {Q:Exit->Act->A2->Prop} (e:Wr S ops): ∀(l:List Nat) (env:List bP) (a:Act) (w w':A2) (K:List bP->A2->Prop),Fit S ops N D env a->
 rxL C ops N l env w K->Ext w w'->(∀env a w w',K env w->Fit S ops N D env a->Ext w w'->Q .normal a w')->wpOpsIn (WF r) 0 P ops Q l a w'
 |[],env,a,w,w',K,b,h,c,d=>d env a w w' h b c
 |i::l,env,a,w,w',K,b,h,c,d=>by
  exact wpOpIn_mono (λa1 w1 ⟨_,c_,f,g,j,k⟩=>OF e l c_ a1 f w1 K j g k d) (D9 e b h c)
variable {P:Ax}
def mj (r:Option Nat) (P:Ax) (ops:Array Oper) (Q:Exit->Act->A2->Prop) (HT:Nat->Bool) (T:Nat->A2->Prop):Nat->Array Bool->Act->A2->Prop
 |0,b,a,w=> ∀w',Ext w w'->B5 .any ops b=[]/\Q .normal a w'
 |fuel+1,b,a,w=> ∀w',Ext w w'->(B5 .any ops b=[]->Q .normal a w')/\
  ∀i∈B5 .any ops b,wpOpIn (WF r) 0 P ops Q i (λa1 w1=>(HT i=false->Ext w' w1)/\(HT i=true->T i w1)/\mj r P ops Q HT T fuel (b.setIfInBounds i true) a1 w1) a w'
section
variable {r:Option Nat} {ops:Array Oper} {Q:Exit->Act->A2->Prop} {HT:Nat->Bool} {T:Nat->A2->Prop}
theorem n5 {b:Nat} {c:Array Bool} {a:Act} {w w':A2} (h:mj r P ops Q HT T b c a w) (d:Ext w w'):mj r P ops Q HT T b c a w':=by
 cases b with
 |zero
 |succ=>exact λe f=>h e (d.trans f)
theorem zp: ∀(fuel:Nat) (b:Array Bool) (a:Act) (w:A2),mj r P ops Q HT T fuel b a w->wpAnyIn (WF r) 0 P .any ops Q fuel b a w
 |0, _, _,w,h=>h w (Ext.refl w)
 |fuel+1, _, _,w,h=>⟨(h w (Ext.refl w)).1,λi hi=>wpOpIn_mono (λa1 w1 c=>zp fuel _ a1 w1 c.2.2) ((h w (Ext.refl w)).2 i hi)⟩
theorem pM {T T':Nat->A2->Prop} (e: ∀j w,T' j w->T j w): ∀(fuel:Nat) (b:Array Bool) (a:Act) (w:A2),mj r P ops Q HT T' fuel b a w->mj r P ops Q HT T fuel b a w
 |0, _, _, _,h=>h
 |fuel+1, _, _, _,h=>λw' c=>⟨(h w' c).1,λi hi=>wpOpIn_mono (λa1 w1 d=>⟨d.1,by grind,pM e fuel _ a1 w1 d.2.2⟩) ((h w' c).2 i hi)⟩
def fT (P:Ax) (ops:Array Oper) (o:Oper) (v:AB) (a:Act) (w:A2):Prop:=
 (BT o (yielded ops a.tmps)=true/\ ∀w',Ext w w'->dm P o a w' v)\/
 (BT o (yielded ops a.tmps)=false/\v=undef)
theorem fT.of_same {o:Oper} {v:AB} {a a':Act} {w:A2} (b:fT P ops o v a w) (c:execOp a'.eval o=execOp a.eval o)
 (d:BT o (yielded ops a'.tmps)=BT o (yielded ops a.tmps)):fT P ops o v a' w:=by grind[fT,dm]
theorem fT.op {i:Nat} {o:Oper} {v:AB} {a:Act} {w w':A2} (hi:ops[i]? =some o) (d:fT P ops o v a w) (g:Ext w w') {K:Act->A2->Prop}
 (h: ∀w1,Ext w' w1->K (a.put o.dst v) w1):wpOpIn (WF r) 0 P ops Q i K a w':=by
 unfold wpOpIn;simp only[hi];rcases d with ⟨j,k⟩
 ·rw[if_pos j];have b:=k w' g;refine⟨λ_ _=>trivial,?_⟩;rw[cQ (λc l=>AX l b)];unfold dm at b;split at b
  ·rename_i u m dQ;obtain⟨rfl,rfl⟩:=b;rw[dQ];exact h _ (Ext.refl _)
  ·rename_i f args m dQ;obtain⟨rfl,p⟩:=b;rw[dQ];refine⟨by simp[WF,Dd],(jK (n:=0 - 1)).2 ?_⟩;refine F5 p λe q=>?_
   grind
  ·exact b.elim
 ·simp_all
  exact⟨λ_ _=>trivial,h _ (Ext.refl _)⟩
def yD (ops:Array Oper) (o:Oper) (a a0:Act):Prop:=execOp a.eval o=execOp a0.eval o/\BT o (yielded ops a.tmps)=BT o (yielded ops a0.tmps)
theorem Kc {j:Nat} {g k:Oper} {v:AB} {a0:Act} (t:ops[j]? =some k) (y:g.apart ops k=true)
 (z: ∀cs b,g.op≠ .select cs b) (A: ∀cs b,k.op≠ .select cs b) (p: ∀c,k.op≠ .defer c)
 (C: ∀c a w,¬ Q (.panic c) a w) {K:Act->A2->Prop} {a:Act} {w':A2}
 (i:yD ops g a a0) (h:wpOpIn (WF r) 0 P ops Q j K (a.put g.dst v) w'):
 wpOpIn (WF r) 0 P ops Q j (λa1 w1=>yD ops g a1 a0/\K (a1.put g.dst v) w1) a w':=by
 obtain⟨h1,m,q⟩:=Oper.apart_spec y;have du: ∀(a:Act),yD ops g a a0-> ∀u,yD ops g (a.put k.dst u) a0:=λa i u=>
  ⟨(execOp_put g z a k.dst u q).trans i.1,(wanted_put g a k.dst u q).trans i.2⟩
 unfold wpOpIn at*
 simp only[t] at*
 rw[wanted_put k a g.dst v h1] at h;split
 ·rename_i o;simp only[o,if_true] at h;refine⟨λ_ _=>trivial,?_⟩;have h:=h.2;rw[cQ p,execOp_put k A a g.dst v h1] at h;rw[cQ p];generalize (execOp a.eval k).run P w'=res at*
  cases res with
  |ok x B=>
   cases x<;>simp only[Oper.uponIn] at h ⊢
   case value u=>exact⟨du a i u,by rw[<-Dl a v u m];exact h⟩
   case skip=>exact⟨du a i _,by rw[<-Dl a v undef m];exact h⟩
   case defer d=>
    refine⟨du ({a with defers:=d::a.defers}:Act) ⟨i.1,i.2⟩ undef,?_⟩;rw[<-Dl _ v undef m, <-Act.put_defers];exact h
   case enter f args=>
    refine⟨h.1,CallsIn.mono h.2 λe s n=>?_⟩;cases e with
    |returned u=>exact⟨du a i u,by rw[<-Dl a v u m];exact n⟩
    |panicked c=>grind
    |outgrown=>exact n
   case row row args=>exact⟨h.1,RowsIn.mono h.2 λu s n=>⟨du a i u,by rw[<-Dl a v u m];exact n⟩⟩
   case round l f tmps assign body=>
    refine⟨h.1,RoundIn.mono h.2 λe s n=>?_⟩;cases e with
    |returned u=>exact⟨du a i u,by rw[<-Dl a v u m];exact n⟩
    |panicked c=>simp_all
    |outgrown=>exact n
  |halt x B=>
   cases x<;>simp only[Oper.uponIn] at h ⊢
   grind
 ·rename_i o;simp only[o] at h;exact⟨λ_ _=>trivial,du a i _,by rw[<-Dl a v undef m];exact h.2⟩
def mfO (o:Oper):Bool:=match o.op with
 | .move _=>true
 | .assign _=>true
 | .extract .. =>true
 | _=>false
theorem fT.mf {o:Oper} {v:AB} {a:Act} {w w1:A2} (g:mfO o=true) (f:fT P ops o v a w):fT P ops o v a w1:=by
 obtain⟨dst,op,type,pos,after,guard⟩:=o;cases op with
 |move x
 |assign x=>
  rcases f with ⟨b,c⟩|d
  ·refine .inl ⟨b,λh _=>?_⟩;have:=c w (Ext.refl w);simp only[dm,execOp,B2] at this ⊢;omega
  ·exact .inr d
 |extract x k=>
  rcases f with ⟨b,c⟩|d
  ·refine .inl ⟨b,λh _=>?_⟩;have:=c w (Ext.refl w);cases e:a.eval x with
   |tuple vs=>
    cases hv:vs[k]? with
    |none=>simp[dm,execOp,Ij,e,hv] at this
    |some u=>
     simp only[dm,execOp,Ij,e,hv,Az,B2,B1] at this ⊢;omega
   | _=>simp[dm,execOp,Ij,e] at this
  ·exact .inr d
 | _=>cases g
theorem tR {i:Nat} {g:Oper} {v:AB} {W:Nat->Bool} {T T':Nat->A2->Prop} {a0:Act} (hi:ops[i]? =some g) (J:HT i=false) (D: ∀(j:Nat) (o:Oper),ops[j]? =some o->(∀cs b,o.op≠ .select cs b)/\ ∀c,o.op≠ .defer c)
 (R: ∀c a w,¬ Q (.panic c) a w) (E: ∀j w,T' j w->T j w):
 ∀(t:Nat) (d:Array Bool) (a:Act) (w:A2),
  (∀j m,ops[j]? =some m->j≠i->d.getD j true=false->W j=false->g.apart ops m=true/\(HT j=false\/mfO g=true\/ ∀w1,T' j w1->fT P ops g v a0 w1))->
  (∀j,W j=true->d.getD j true=false/\ ∃m,ops[j]? =some m/\ ∃e∈m.after,DU .any e=true/\(e.on=i\/W e.on=true))->
  i∈B5 .any ops d->yD ops g a a0->fT P ops g v a0 w->
  mj r P ops Q HT T' t (d.setIfInBounds i true) (a.put g.dst v) w->mj r P ops Q HT T (t+1) d a w:=by
 have nil: ∀(d:Array Bool),i∈B5 .any ops d->B5 .any ops d≠[]:=λl K h=>by rw[h] at K;cases K
 intro t
 induction t with
 |zero=>
  intro d a w _ _ u s x H w' n;refine⟨λh=>absurd h (nil d u),λj y=>?_⟩;by_cases p:j=i
  ·subst p;refine(x.of_same s.1 s.2).op hi n λw1 h1=>⟨λ_=>h1,(λf=>by rw[J] at f;cases f),pM E _ _ _ _ (n5 H (n.trans h1))⟩
  ·have:=ready_mono y p;rw[(H w' n).1] at this;cases this
 |succ t S=>
  intro d a w L U u s x H w' n;refine⟨λh=>absurd h (nil d u),λj y=>?_⟩;by_cases p:j=i
  ·subst p;refine(x.of_same s.1 s.2).op hi n λw1 h1=>⟨λ_=>h1,(λf=>by rw[J] at f;cases f),pM E _ _ _ _ (n5 H (n.trans h1))⟩
  ·have h1:=(H w' n).2 j (ready_mono y p);obtain⟨M,m,z,mA⟩:=mem_ready.1 y;have acH:=(mem_ready.1 u).1;have F:W j=false:=by
    grind
   obtain⟨V,q⟩:=L j m z p M F;have G:=Kc z V (D i g hi).1 (D j m z).1 (D j m z).2 R s h1;refine wpOpIn_mono (λa1 w1 X=>?_) G;obtain⟨Y,N,O,I⟩:=X;refine⟨N,λf=>E _ _ (O f),?_⟩;refine S (d.setIfInBounds j true) a1 w1 ?_ ?_ (ready_mono u (Ne.symm p)) Y ?_ ?_
   ·intro k ok I Z A B;refine L k ok I Z ?_ B;by_cases C:j=k
    ·subst C;exact M
    ·rw[getD_set_ne true C] at A;exact A
   ·intro k B;obtain⟨A,rest⟩:=U k B;refine⟨?_,rest⟩;have C:j≠k:=λe=>by rw[e,B] at F;cases F
    rw[getD_set_ne true C];exact A
   ·have fQ:Ext w' w1->fT P ops g v a0 w1:=λoT=>by
     have hww:=n.trans oT;rcases x with ⟨wM,hq1⟩|hn
     ·exact .inl ⟨wM,λw2 G=>hq1 w2 (hww.trans G)⟩
     ·exact .inr hn
    cases f:HT j with
    |false=>exact fQ (N f)
    |true=>
     rcases q with q|q|q
     ·rw[q] at f;cases f
     ·exact x.mf q
     ·exact q w1 (O f)
   ·rw[Array.setIfInBounds_comm _ _ p];exact I
end
def aag (C:dH P) (ops:Array Oper) (N:Nat) (o:Oper) (env:List bP) (w:A2) (K:List bP->Prop):Prop:=
 match gd ops env o with
 |none=>dv 41 o.op
 |some none=>if o_ ops N env [] o.dst then wV env o.dst [] none undef K else dv 42 o.op
 |some (some (ch,g))=>
  if o_ ops N env ch o.dst then oS C ops env ch g o w (λv=>yA C o v (λv=>wV env o.dst ch g v K)) else dv 43 o.op
def rxQ (C:dH P) (ops:Array Oper) (N:Nat) (i:Nat) (env:List bP) (w:A2) (K:List bP->Prop):Prop:=
 match ops[i]? with
 |none=>False
 |some ⟨dst,op,type,pos,after,guard⟩=>aag C ops N ⟨dst,op,type,pos,after,guard⟩ env w K
def Ye {P:Ax} (C:dH P) (ops:Array Oper) (env:List bP) (ch:List (Nat×Bool)) (g:Option Bool) (o:Oper) (w:A2) (K:(A2->Prop)->AB->Prop):Prop:=
 let ρ:=xR env ch
 match o.op with
 | .load t x=>match ρ x,elC C t,P.info? t with
   |some (.pointer p),some el,some i=>if p_ el i.size=true then dv 61 o.op else aj w g p el (λx=>K (λw=>gA g (cH w p el x)) (el.gz x))
   | _, _, _=>dv 62 o.op
 | .entry _=>dv 63 o.op
 | .lookup r m ix ok=>match ok,P.underlying r,ρ m,ρ ix with
   |false,some (.map h d),some (.map p),some (.int k n)=>match P.underlying h,uM P d,P.info? d with
    |some (.int j),some el,some i=>match i.zero with
     |some z=>if k=j then∃x:el.T,gA g (jT w p k n z (el.gz x))/\K (λw=>gA g (jT w p k n z (el.gz x))) (el.gz x) else dv 61 o.op
     |none=>dv 62 o.op
    | _, _, _=>dv 63 o.op
   |true,some (.map h d),some (.map p),some (.int k n)=>match P.underlying h,uM P d,P.info? d with
    |some (.int j),some el,some i=>match i.zero with
     |some z=>if k=j then∃x:el.T, ∃b:Bool,gA g (mi w p k n z (el.gz x) b)/\K (λw=>gA g (mi w p k n z (el.gz x) b)) (.tuple ⟨[el.gz x,.bool b]⟩) else dv 61 o.op
     |none=>dv 62 o.op
    | _, _, _=>dv 63 o.op
   | _, _, _, _=>dv 64 o.op
 | .pick .. =>oS C ops env ch g o w (λv=>K (λ_=>True) v)
 | .call c=>match c.callee with
   | .value f=>match ρ f,maps ρ c.args.toList with
     |some (.func (.func a) first cap),some l=>
      if bL P a=true then
       match yd C.sj a with
       |some e=>match e.fn (cY first l cap) with
        |some (pre,v)=>gA g pre/\K (λ_=>True) v
        |none=>dv 64 o.op
       |none=> ∃x:(uG C a).T,gA g (af P a (cY first l cap) w ((uG C a).gz x))/\K (λw=>gA g (af P a (cY first l cap) w ((uG C a).gz x))) ((uG C a).gz x)
      else dv 65 o.op
     | _, _=>dv 66 o.op
   | .builtin .len=>match Cj P ρ c with
     |some p=> ∃n:Nat,gA g (TL w p n)/\K (λw=>gA g (TL w p n)) (.int .i64 n)
     |none=>match xz P ρ c with
      |some p=> ∃n:Nat,gA g (ChL w p n)/\K (λw=>gA g (ChL w p n)) (.int .i64 n)
      |none=>oS C ops env ch g o w (λv=>K (λ_=>True) v)
   | _=>oS C ops env ch g o w (λv=>K (λ_=>True) v)
 | .binOp .. =>match pop P ρ o with
   |some ⟨none,v⟩=>K (λ_=>True) v
   |some ⟨some p,v⟩=>gA g p/\K (λ_=>True) v
   |none=>match Ci P ρ o.op with
    |some (p,q)=>gA g (Xi w p q)/\K (λw=>gA g (Xi w p q)) (.bool (decide (p=q)))
    |none=>dv 67 o.op
 | _=>oS C ops env ch g o w (λv=>K (λ_=>True) v)
def Z2 (p:A2->Prop):Prop:= ∀w w',p w->Ext w w'->p w'
theorem nP {g:Option Bool} {p:A2->Prop} (h:Z2 p):Z2 (λw=>gA g (p w)):=by
 intro w w' a b;cases g with
 |none=>exact h w w' a b
 |some=>exact λhb=>h w w' (a hb) b
def OG (op:Op):Bool:=match op with
 | .load .. =>false
 | .lookup .. =>false
 | .entry _=>false
 | .binOp .. =>false
 | .call c=>(match c.callee with| .value _=>false| .builtin .len=>false| _=>true)
 | _=>true
theorem Kd {C:dH P} {ops:Array Oper} {env:List bP} {ch:List (Nat×Bool)} {g:Option Bool} {o:Oper} {w:A2} {K:AB->Prop} (e:OG o.op=true)
 (h:oS C ops env ch g o w K): ∃v,K v/\ ∀i,oS C ops env ch g o i (λu=>u=v):=by
 obtain⟨dst,op,type,pos,after,guard⟩:=o;cases op with
 |load t x=>cases e
 |lookup a b c d=>cases e
 |entry a=>cases e
 |binOp op t x y j=>cases e
 |pick c x y=>
  unfold oS at h;simp only at h;unfold oS;simp only;split at h
  ·split at h
   ·split at h
    ·split at h
     ·exact⟨_,h,λ_=>rfl⟩
     ·exact h.elim
    ·split at h
     ·exact⟨_,h,λ_=>rfl⟩
     ·exact h.elim
    ·split at h
     ·split at h
      ·split at h
       ·exact⟨_,h,λ_=>rfl⟩
       ·exact⟨_,h,λ_=>rfl⟩
       ·exact⟨_,h,λ_=>rfl⟩
      ·exact h.elim
     ·exact h.elim
   ·exact h.elim
  ·exact h.elim
 |call c=>
  obtain⟨callee,args,ts⟩:=c;cases callee with
  |value f=>cases e
  |builtin b=>
   cases b with
   |len=>cases e
   | _=>
     unfold oS at h;simp only at h;unfold oS;simp only;split at h
     ·exact⟨_,h,λ_=>rfl⟩
     ·exact⟨_,h.2,λ_=>⟨h.1,rfl⟩⟩
     ·exact h.elim
  | _=>
    unfold oS at h;simp only at h;unfold oS;simp only;split at h
    ·exact⟨_,h,λ_=>rfl⟩
    ·exact⟨_,h.2,λ_=>⟨h.1,rfl⟩⟩
    ·exact h.elim
 | _=>
   unfold oS at h;simp only at h;unfold oS;simp only;split at h
   ·exact⟨_,h,λ_=>rfl⟩
   ·exact⟨_,h.2,λ_=>⟨h.1,rfl⟩⟩
   ·exact h.elim
theorem PI {C:dH P} {ops:Array Oper} {env:List bP} {ch:List (Nat×Bool)} {g:Option Bool} {o:Oper} {w:A2} {K:(A2->Prop)->AB->Prop} (h:Ye C ops env ch g o w K):
 ∃p v,K p v/\p w/\Z2 p/\ ∀j,p j->oS C ops env ch g o j (λu=>u=v):=by
 obtain⟨dst,op,type,pos,after,guard⟩:=o;have st:OG op=true->oS C ops env ch g ⟨dst,op,type,pos,after,guard⟩ w (λv=>K (λ_=>True) v)->
  ∃p v,K p v/\p w/\Z2 p/\ ∀j,p j->oS C ops env ch g ⟨dst,op,type,pos,after,guard⟩ j (λu=>u=v):=λS h=>by
  obtain⟨v,k,hv⟩:=Kd (o:=⟨dst,op,type,pos,after,guard⟩) S h;exact⟨_,v,k,trivial,λ_ _ _ _=>trivial,λj _=>hv j⟩
 unfold Ye at h;cases op with
 |load t x=>
  simp only at h;split at h
  ·rename_i p el i h1 A G;split at h
   ·exact h.elim
   ·rename_i hb;obtain⟨x',T,k⟩:=h;refine⟨_, _,k,T,nP λw w' d l=>th l d,λj d=>?_⟩;unfold oS;simp only[h1,A,G,if_neg hb];exact⟨x',d,rfl⟩
  ·exact h.elim
 |entry a=>exact h.elim
 |lookup xt m ix ok=>
  simp only at h;split at h
  ·rename_i U V p kd n h1 A G;split at h
   ·rename_i W el X L M N;split at h
    ·rename_i z O;split at h
     ·rename_i Q;obtain⟨x,B,k⟩:=h;refine⟨_, _,k,B,nP λw w' d l=>?_,λj d=>?_⟩
      ·obtain⟨r,es,H,D,E,F⟩:=d;exact⟨r,es,H,D,l.obj E,F⟩
      ·unfold oS;simp only[h1,A,G,L,M,N,O,if_pos Q];exact⟨x,d,rfl⟩
     ·exact h.elim
    ·exact h.elim
   ·exact h.elim
  ·rename_i U V p kd n h1 A G;split at h
   ·rename_i W el X L M N;split at h
    ·rename_i z O;split at h
     ·rename_i Q;obtain⟨x,b,B,k⟩:=h;refine⟨_, _,k,B,nP λw w' d l=>?_,λj d=>?_⟩
      ·obtain⟨r,es,H,D,E,F⟩:=d;exact⟨r,es,H,D,l.obj E,F⟩
      ·unfold oS;simp only[h1,A,G,L,M,N,O,if_pos Q];exact⟨x,b,d,rfl⟩
     ·exact h.elim
    ·exact h.elim
   ·exact h.elim
  ·exact h.elim
 |call c=>
  obtain⟨callee,args,ts⟩:=c;cases callee with
  |value f=>
   simp only at h;split at h
   ·rename_i fY first cap acR h1 A
    split at h
    ·rename_i hc;split at h
     ·rename_i e R;split at h
      ·rename_i pre v Y;refine⟨_,v,h.2,trivial,λ_ _ _ _=>trivial,λj _=>?_⟩;unfold oS;simp only[h1,A,if_pos hc,R,Y];exact⟨h.1,trivial⟩
      ·exact h.elim
     ·rename_i R;obtain⟨x,B,k⟩:=h;refine⟨_, _,k,B,nP λw w' d l=>λj A=>d j (l.trans A),λj d=>?_⟩;unfold oS;simp only[h1,A,if_pos hc,R];exact⟨x,d,rfl⟩
    ·exact h.elim
   ·exact h.elim
  |builtin b=>
   cases b with
   |len=>
    simp only at h;split at h
    ·rename_i p d;obtain⟨n,B,k⟩:=h;refine⟨_, _,k,B,nP λw w' d l=>?_,λj I=>?_⟩
     ·obtain⟨r,es,H,D,E,F⟩:=d;exact⟨r,es,H,D,l.obj E,F⟩
     ·unfold oS;simp only[d];exact⟨n,I,rfl⟩
    ·rename_i d;split at h
     ·rename_i p J;obtain⟨n,B,k⟩:=h;refine⟨_, _,k,B,nP λw w' d l=>?_,λj I=>?_⟩
      ·obtain⟨r,cap,Z,s,m,D,E,F⟩:=d;exact⟨r,cap,Z,s,m,D,l.obj E,F⟩
      ·unfold oS;simp only[d,J];exact⟨n,I,rfl⟩
     ·rename_i J;unfold oS at h;simp only[d,J] at h;split at h
      ·rename_i v hv;refine⟨_,v,h,trivial,λ_ _ _ _=>trivial,λj _=>?_⟩;unfold oS;simp only[d,J,hv]
      ·rename_i p v hv;refine⟨_,v,h.2,trivial,λ_ _ _ _=>trivial,λj _=>?_⟩;unfold oS;simp only[d,J,hv];exact⟨h.1,trivial⟩
      ·exact h.elim
   | _=>exact st rfl h
  | _=>exact st rfl h
 |binOp op t x y yt=>
  simp only at h;split at h
  ·rename_i v hv;refine⟨_,v,h,trivial,λ_ _ _ _=>trivial,λj _=>?_⟩;unfold oS;simp only[hv]
  ·rename_i p v hv;refine⟨_,v,h.2,trivial,λ_ _ _ _=>trivial,λj _=>?_⟩;unfold oS;simp only[hv];exact⟨h.1,trivial⟩
  ·rename_i hv;split at h
   ·rename_i p q d;refine⟨_, _,h.2,h.1,nP λw w' d l=>IE l d,λj I=>?_⟩;unfold oS;simp only[hv,d];exact⟨I,trivial⟩
   ·exact h.elim
 | _=>exact st rfl h
def WI (C:dH P) (ops:Array Oper) (N:Nat) (o:Oper) (env:List bP) (w:A2) (K:(A2->Prop)->List bP->Prop):Prop:=
 match gd ops env o with
 |none=>dv 44 o.op
 |some none=>if o_ ops N env [] o.dst then wV env o.dst [] none undef (K λ_=>True) else dv 45 o.op
 |some (some (ch,g))=>
  if o_ ops N env ch o.dst then Ye C ops env ch g o w (λp v=>yA C o v (λv=>wV env o.dst ch g v (K p))) else dv 46 o.op
def Yf (C:dH P) (ops:Array Oper) (N:Nat) (i:Nat) (env:List bP) (w:A2) (K:(A2->Prop)->List bP->Prop):Prop:=
 match ops[i]? with
 |none=>False
 |some ⟨dst,op,type,pos,after,guard⟩=>WI C ops N ⟨dst,op,type,pos,after,guard⟩ env w K
def AG (j:Nat) (w:A2):List (Nat×(A2->Prop))->Prop->Prop
 |[],K=>K
 |(W,p)::r,K=>match W.testBit j with
  |true=>AG j w r K
  |false=>p w/\AG j w r K
theorem qf {j:Nat} {w:A2}: ∀{l:List (Nat×(A2->Prop))} {K:Prop},AG j w l K<->(∀e∈l,e.1.testBit j=false->e.2 w)/\K
 |[],K=>by simp[AG]
 |(W,p)::r,K=>by
  unfold AG;cases h:W.testBit j with
  |true
  |false=>simp only[qf,List.forall_mem_cons];grind
def Od (ops:Array Oper):Bool:=ops.toList.all λo=>match o.op with| .select .. | .defer _=>false| _=>true
def sb (i:Nat):Nat:=1 <<< i
theorem ye (i j:Nat):(sb i).testBit j=decide (i=j):=by simp[sb,Nat.one_shiftLeft,Nat.testBit_two_pow]
def AH:List Nat->Nat
 |[]=>0
 |x::r=>sb x ||| AH r
theorem tq: ∀(l:List Nat) (j:Nat),(AH l).testBit j=decide (j∈l)
 |[],j=>by simp[AH]
 |x::r,j=>by
  rw[AH,Ft,ye,tq]
  grind
theorem and_zero {a b j:Nat} (h:((a &&& b)==0)=true) (c:a.testBit j=true):b.testBit j=false:=by
 have:=congrArg (λm=>m.testBit j) (by simpa using h: )
 grind
theorem PJ {a b:Nat} (h:((a &&& b) != 0)=true): ∃j,a.testBit j=true/\b.testBit j=true:=by
 have h':=by simpa using h
 obtain:=Nat.exists_testBit_of_ne_zero h'
 grind
theorem T4 {a b j:Nat} (h:((a &&& b)==a)=true) (c:a.testBit j=true):b.testBit j=true:=by grind
theorem T5 {a b:Nat} (h:((a &&& b)==a)=false): ∃j,a.testBit j=true/\b.testBit j=false:=by
 apply Classical.byContradiction;intro;have:a &&& b=a:=by
  apply Nat.eq_of_testBit_eq
  grind
 grind
def JO (o:Oper):Nat:=AH ((o.after.toList.filter λe=>DU .any e).map (·.on))
def Wc (o:Oper):Nat:=match o.dst with
 |some d=>sb d
 |none=>0
def lkM (ops:Array Oper) (o:Oper):Nat:=AH (o.looksAt ops)
def Tm (L i e:Nat):Bool:= !L.testBit i&&(e &&& L)==e
def HU (L i:Nat):List (Oper×Nat)->Nat->Nat
 |[],W=>W
 |(o,j)::r,W=>HU L i r (if !L.testBit j&&(JO o &&& (W ||| sb i)) != 0 then W ||| sb j else W)
def Fz (ops:Array Oper) (x y:Oper):Bool:=(Wc x &&& (lkM ops y ||| Wc y))==0&&(Wc y &&& lkM ops x)==0
def frM (C:dH P) (ops:Array Oper) (L i W:Nat) (x:Oper) (Z:List (Oper×Nat)):Bool:=
 Z.all λz=>z.2==i||L.testBit z.2||W.testBit z.2||(Fz ops x z.1&&(!BV C z.1||mfO x))
def nxM (C:dH P) (Z:List (Oper×Nat)) (L:Nat):Option (Nat×Bool):=
 match Z.find? λz=>Tm L z.2 (JO z.1)&& !BV C z.1&& !eT z.1 with
 |some z=>some (z.2,true)
 |none=>match Z.find? λz=>Tm L z.2 (JO z.1) with
  |some z=>some (z.2,false)
  |none=>none
def frS (ops:Array Oper) (L i W:Nat) (x:Oper) (Z:List (Oper×Nat)):Bool:=
 Z.all λz=>z.2==i||L.testBit z.2||W.testBit z.2||Fz ops x z.1
inductive Sd where
 |nil|q (i:Nat) (m:Option Nat) (r:Sd)|alt (i:Nat) (r t:Sd)|stop
def pB (C:dH P) (ops:Array Oper) (Z:List (Oper×Nat)):Nat->Nat->Option Sd
 |0,L=>if Z.all λz=> !Tm L z.2 (JO z.1) then some .nil else none
 |n+1,L=>match nxM C Z L with
  |none=>none
  |some (i,true)=>match ops[i]? with
   |some x=>if Tm L i (JO x)&& !BV C x then
     if frM C ops L i (HU L i Z 0) x Z then match pB C ops Z n (L ||| sb i) with
      |some l=>some (.q i none l)
      |none=>none
     else if frS ops L i (HU L i Z 0) x Z then match pB C ops Z n (L ||| sb i) with
      |some l=>some (.q i (some (HU L i Z 0)) l)
      |none=>none
     else none
    else none
   |none=>none
  |some (_,false)=>(Z.filter λz=>Tm L z.2 (JO z.1)).foldr (λz c=>match c with
   |none=>none
   |some b=>match pB C ops Z n (L ||| sb z.2) with
    |some a=>some (.alt z.2 a b)
    |none=>none) (some .stop)
def YQ (C:dH P) (ops:Array Oper):Option Sd:=pB C ops ops.toList.zipIdx ops.size 0
def oo (C:dH P) (ops:Array Oper) (i:Nat):Bool:=((ops[i]?).map (BV C)).getD true
def Oe (C:dH P) (ops:Array Oper) (i:Nat) (w:A2) (l:List (Nat×(A2->Prop))) (K:Prop):Prop:=
 match oo C ops i with
 |true=>AG i w l K
 |false=>K
def Yg (C:dH P) (ops:Array Oper) (N:Nat) (i:Nat) (a:List (Nat×(A2->Prop))) (env:List bP) (w:A2) (F:List bP->A2->Prop):Prop:=match a with
 |[]=>FK C ops N i env w F
 |e::a=>FK C ops N i env w (λenv w=>Oe C ops i w (e::a) (F env w))
def Yh (t:Sd) (a b:Prop):Prop:=match t with
 | .stop=>a
 | _=>a/\b
def FA (C:dH P) (ops:Array Oper) (N:Nat):Sd->List (Nat×(A2->Prop))->List bP->A2->(List bP->A2->Prop)->Prop
 | .nil, _,env,w,K=>K env w
 | .q i none r,a,env,w,K=>rxQ C ops N i env w (λenv=>FA C ops N r a env w K)
 | .q i (some W) r,a,env,w,K=>Yf C ops N i env w (λp env=>FA C ops N r ((W,p)::a) env w K)
 | .alt i r t,a,env,w,K=>Yh t (Yg C ops N i a env w (λenv w=>FA C ops N r a env w K)) (FA C ops N t a env w K)
 | .stop, _, _, _, _=>True
def aah (C:dH P) (ops:Array Oper) (N:Nat) (l:Sd) (env:List bP) (w:A2) (K:List bP->A2->Prop):Prop:=FA C ops N l [] env w K
def Yi (C:dH P) (ops:Array Oper) (N:Nat) (env:List bP) (w:A2) (K:List bP->A2->Prop):Prop:=
 match YQ C ops with
 |some l=>aah C ops N l env w K
 |none=>False
def Im (j:Nat) (x:Sd):Sd->Prop
 | .alt i r t=>(j=i/\x=r)\/Im j x t
 | _=>False
def Valid (C:dH P) (ops:Array Oper):Nat->Sd->Array Bool->Prop
 |0,t,a=>t= .nil/\B5 .any ops a=[]
 |n+1,t,a=>match t with
  | .q i m r=>i∈B5 .any ops a/\oo C ops i=false/\
    (∃W:Nat->Bool,(∀c,ops[i]? =some c-> ∀j b,ops[j]? =some b->j≠i->a.getD j true=false->W j=false->c.apart ops b=true/\(BV C b=false\/mfO c=true\/ ∃w,m=some w/\w.testBit j=false))/\
     (∀j,W j=true->a.getD j true=false/\ ∃b,ops[j]? =some b/\ ∃e∈b.after,DU .any e=true/\(e.on=i\/W e.on=true)))/\
    Valid C ops n r (a.setIfInBounds i true)
  | .alt i r d=>i∈B5 .any ops a/\ ∀j∈B5 .any ops a, ∃x,Im j x (.alt i r d)/\Valid C ops n x (a.setIfInBounds j true)
  | _=>False
def Ak (ops:Array Oper) (L:Nat) (a:Array Bool):Prop:=a.size=ops.size/\ ∀j,a.getD j false=L.testBit j
theorem Ak.un {ops:Array Oper} {L:Nat} {a:Array Bool} (h:Ak ops L a) {j:Nat} (b:j<ops.size):a.getD j true=L.testBit j:=by
 rw[<-h.2];have:j<a.size:=by rw[h.1];grind
 grind
theorem Ak.set {ops:Array Oper} {L:Nat} {a:Array Bool} (h:Ak ops L a) {i:Nat} (hi:i<ops.size):Ak ops (L ||| sb i) (a.setIfInBounds i true):=by
 refine⟨by simp[h.1],λj=>?_⟩;rw[Ft,ye, <-h.2];by_cases e:i=j
 ·subst e;have:i<a.size:=by rw[h.1];omega
  simp[this]
 simp_all
theorem Ak.zero (ops:Array Oper):Ak ops 0 (Dy ops.size false):=by
 refine⟨by simp,λj=>?_⟩;simp[K1]
theorem qa {ops:Array Oper} {o:Oper} {j:Nat}:(o,j)∈ops.toList.zipIdx<->ops[j]? =some o:=by grind
theorem F8 {o:Oper} {j:Nat}:(JO o).testBit j=true<-> ∃e∈o.after,DU .any e=true/\e.on=j:=by
 grind[JO,tq]
theorem mW {ops:Array Oper} {L:Nat} {c:Array Bool} (h:Ak ops L c) {i:Nat}:i∈B5 .any ops c<-> ∃o,ops[i]? =some o/\Tm L i (JO o)=true:=by
 unfold B5;rw[Bx,Dj];constructor
 ·rintro⟨hi,hc⟩;rw[h.un hi] at hc;simp only[BN] at hc;have a:=LL hi;refine⟨ops[i],a,?_⟩;rw[a] at hc;simp only[G1,Ik,HZ] at hc;unfold Tm;rw[BN];refine⟨hc.1,?_⟩;cases f:(JO _ &&& L)==JO _ with
  |true=>rfl
  |false=>
   obtain⟨j,h1,g⟩:=T5 f;obtain⟨e,d,hb,rfl⟩:=F8.1 h1;have:=hc.2 e d;rw[hb,h.2,g] at this;cases this
 ·rintro⟨o,a,b⟩;have hi:=(Bs.1 a).1;unfold Tm at b;rw[BN] at b;refine⟨hi,?_⟩;rw[h.un hi,BN];refine⟨b.1,?_⟩;rw[a];simp only[G1,Ik,HZ];intro e d;rw[h.2];cases hb:DU .any e with
  |false=>rfl
  |true=>rw[T4 b.2 (F8.2 (by grind))];rfl
theorem D_ {L i:Nat}: ∀(Z:List (Oper×Nat)) (W j:Nat),W.testBit j=true->(HU L i Z W).testBit j=true
 |[], _, _,h=>h
 |k::r,W,j,h=>by
  refine D_ r _ j ?_
  grind
theorem OH {L i:Nat}: ∀(Z:List (Oper×Nat)) (W:Nat),(∀x,(HU L i Z W).testBit x=true->W.testBit x=true\/(L.testBit x=false/\ ∃o,(o,x)∈Z/\ ∃k,(JO o).testBit k=true/\(k=i\/(HU L i Z W).testBit k=true)))
 |[], _, _,h=> .inl h
 |(o,j)::r,W,x,h=>by
  unfold HU at h ⊢;rcases OH r _ x h with h1|⟨h1,o',b,c⟩
  ·split at h1
   ·rename_i hc;rw[Ft,ye,FX,decide_eq_true_eq] at h1;rcases h1 with h1|rfl
    ·exact .inl h1
    ·rw[BN] at hc;obtain⟨k,d,a⟩:=PJ hc.2;rw[Ft,ye,FX,decide_eq_true_eq] at a
     grind[J4,D_]
   ·exact .inl h1
  grind
theorem OI {ops:Array Oper} {x y:Oper} (h:Fz ops x y=true):x.apart ops y=true:=by
 unfold Fz at h;rw[BN] at h;obtain⟨h1,b⟩:=h;unfold Oper.apart;rw[BN];constructor
 ·cases a:x.dst with
  |none=>rfl
  |some d=>
   have hb:(Wc x).testBit d=true:=by simp[Wc,a,ye]
   have:=and_zero h1 hb;rw[Ft,Bool.or_eq_false_iff] at this;obtain⟨a1,c⟩:=this;unfold lkM at a1;rw[tq] at a1
   grind[Wc,ye]
 ·cases a:y.dst with
  |none=>rfl
  |some d=>
   have hb:(Wc y).testBit d=true:=by simp[Wc,a,ye]
   grind[and_zero,lkM,tq]
theorem IG {F:Nat->Option Sd}: ∀(l:List (Oper×Nat)) (t:Sd),l.foldr (λz e=>match e with
 |none=>none
 |some b=>match F z.2 with
  |some a=>some (.alt z.2 a b)
  |none=>none) (some Sd.stop)=some t->(l=[]/\t= .stop)\/(∃i r d,t= .alt i r d/\(∃o,(o,i)∈l)/\ ∀z∈l, ∃x,Im z.2 x t/\F z.2=some x)
 |[],t,h=>by
  grind
 |z::l,t,h=>by
  rw[List.foldr_cons] at h;split at h
  ·cases h
  ·rename_i b hb;split at h
   ·rename_i a f;cases h;refine .inr ⟨z.2,a,b,rfl,by grind,λy c=>?_⟩;rcases Ca.1 c with rfl|c
    ·exact⟨a,.inl (by grind),f⟩
    ·rcases IG l b hb with ⟨rfl, _⟩|⟨i,r,d, _, _,g⟩
     ·cases c
     ·obtain⟨x,h1,j⟩:=g y c;exact⟨x,.inr h1,j⟩
   grind
theorem qg {C:dH P} {ops:Array Oper}: ∀(n L:Nat) (m:Array Bool) (l:Sd),Ak ops L m->pB C ops ops.toList.zipIdx n L=some l->Valid C ops n l m
 |0,L,m,l,a,h=>by
  simp only[pB] at h;split at h
  ·rename_i hc;cases h;refine⟨rfl,?_⟩;rw[List.eq_nil_iff_forall_not_mem];intro j b;obtain⟨o,c,u⟩:=(mW a).1 b;have:=Df.1 hc (o,j) (qa.2 c);rw[u] at this;cases this
  ·cases h
 |n+1,L,m,l,a,h=>by
  have E: ∀i j,(HU L i ops.toList.zipIdx 0).testBit j=true->m.getD j true=false/\ ∃d,ops[j]? =some d/\ ∃e∈d.after,DU .any e=true/\(e.on=i\/(HU L i ops.toList.zipIdx 0).testBit e.on=true):=by
   intro i j f;rcases OH ops.toList.zipIdx 0 j f with h1|⟨h1,o,p,k,J,K⟩
   ·simp at h1
   ·have c:=qa.1 p;obtain⟨e,v,hb,rfl⟩:=F8.1 J;exact⟨by rw[a.un (Bs.1 c).1];exact h1,o,c,e,v,hb,K⟩
  simp only[pB] at h;split at h
  ·cases h
  ·rename_i i _;split at h
   ·rename_i x g;have hi:i<ops.size:=(Bs.1 g).1;split at h
    ·rename_i hc;rw[BN,HB] at hc;have G:oo C ops i=false:=by unfold oo;rw[g];exact hc.2
     split at h
     ·rename_i w;split at h
      ·rename_i l' y;cases h;have A:=qg n _ _ l' (a.set hi) y;refine⟨(mW a).2 ⟨x,g,hc.1⟩,G,⟨λj=>(HU L i ops.toList.zipIdx 0).testBit j,?_,λj=>E i j⟩,A⟩;intro M q j d b B s f;rw[g] at q;cases q;have:=Df.1 w (d,j) (qa.2 b);rw[a.un (Bs.1 b).1] at s;have D:(HU L i ops.toList.zipIdx 0).testBit j=false:=f;simp only[s,D,JP,FX,beq_iff_eq,BN,HB] at this;rcases this with h1|h1
       ·exact absurd h1 B
       ·exact⟨OI h1.1,h1.2.imp id .inl⟩
      ·cases h
     ·split at h
      ·rename_i w;split at h
       ·rename_i l' y;cases h;have A:=qg n _ _ l' (a.set hi) y;refine⟨(mW a).2 ⟨x,g,hc.1⟩,G,⟨λj=>(HU L i ops.toList.zipIdx 0).testBit j,?_,λj=>E i j⟩,A⟩;intro M q j d b B s f;rw[g] at q;cases q;have:=Df.1 w (d,j) (qa.2 b);rw[a.un (Bs.1 b).1] at s;have D:(HU L i ops.toList.zipIdx 0).testBit j=false:=f;simp only[s,D,JP,FX,beq_iff_eq] at this;rcases this with h1|h1
        ·exact absurd h1 B
        ·exact⟨OI h1,.inr (.inr ⟨_,rfl,f⟩)⟩
       ·cases h
      ·cases h
    ·cases h
   ·cases h
  ·rename_i t;rcases IG (F:=λj=>pB C ops ops.toList.zipIdx n (L ||| sb j)) _ l h with ⟨v, _⟩|⟨i,r,O,rfl,⟨o,c⟩,N⟩
   ·
    exfalso;unfold nxM at t;split at t
    ·cases t
    ·split at t
     ·rename_i z H;have h1:=Nt H;have p:=List.mem_of_find?_eq_some H;have:z∈(ops.toList.zipIdx).filter λz=>Tm L z.2 (JO z.1):=Bx.2 ⟨p,h1⟩;rw[v] at this;cases this
     ·cases t
   ·rw[Bx] at c;refine⟨(mW a).2 ⟨o,qa.1 c.1,c.2⟩,λj b=>?_⟩;obtain⟨d,I,u⟩:=(mW a).1 b;obtain⟨x,h1,p⟩:=N (d,j) (Bx.2 ⟨qa.2 I,u⟩);exact⟨x,h1,qg n _ _ x (a.set (Bs.1 I).1) p⟩
section
variable {r:Option Nat} {S:Nat->Option (Option AB)} {ops:Array Oper} {N:Nat} {D:List Deferred} {Q:Exit->Act->A2->Prop}
theorem YR {C:dH P} {i:Nat} {env:List bP} {a:Act} {w:A2} {K:List bP->Prop} (l:Wr S ops) (b:Fit S ops N D env a) (h:rxQ C ops N i env w K):
 ∃o u c_,ops[i]? =some o/\K c_/\Fit S ops N D c_ (a.put o.dst u)/\fT P ops o u a w:=by
 unfold rxQ at h;cases k:ops[i]? with
 |none=>simp[k] at h
 |some o=>
  simp only[k,aag,nO] at h;have e:=l o (by grind);split at h
  ·exact AC h
  ·rename_i f;split at h
   ·rename_i c;exact⟨o,undef, _,rfl,h,b.put c e rfl (λ_=>rfl) (by grind),.inr ⟨Ct b f,rfl⟩⟩
   ·exact AC h
  ·rename_i ch g f;obtain⟨j,m⟩:=Oc b f;split at h
   ·rename_i c;obtain⟨v,d,n⟩:=yC b j h;replace d:=rT d;by_cases hc:j8 ops a.tmps ch
    ·exact⟨o,v, _,rfl,d,b.put c e j (λ_=>rfl) (λp=>absurd hc p),.inl ⟨m.2 hc,n hc⟩⟩
    ·refine⟨o,undef, _,rfl,d,b.put c e j (λq=>absurd q hc) (λ_=>rfl),.inr ⟨?_,rfl⟩⟩
     simp_all
   ·exact AC h
theorem T6 {C:dH P} {i:Nat} {env:List bP} {a:Act} {w:A2} {K:(A2->Prop)->List bP->Prop} (t:Wr S ops) (c:Fit S ops N D env a) (h:Yf C ops N i env w K):
 ∃o u c_ p,ops[i]? =some o/\K p c_/\Fit S ops N D c_ (a.put o.dst u)/\p w/\Z2 p/\ ∀b,p b->fT P ops o u a b:=by
 unfold Yf at h;cases q:ops[i]? with
 |none=>simp[q] at h
 |some o=>
  simp only[q,WI,nO] at h;have j:=t o (by grind);split at h
  ·exact AC h
  ·rename_i k;split at h
   ·rename_i d;exact⟨o,undef, _, _,rfl,h,c.put d j rfl (λ_=>rfl) (by grind),trivial,λ_ _ _ _=>trivial,λ_ _=> .inr ⟨Ct c k,rfl⟩⟩
   ·exact AC h
  ·rename_i ch g k;obtain⟨l,x⟩:=Oc c k;split at h
   ·rename_i d;obtain⟨p,v,f,r,s,y⟩:=PI h;replace f:=rT f;have z: ∀b,p b->j8 ops a.tmps ch-> ∀w',Ext b w'->dm P o a w' v:=λb m hc=>by
     obtain⟨B,e,n⟩:=yC c l (y b m);subst e;exact n hc
    by_cases hc:j8 ops a.tmps ch
    ·exact⟨o,v, _,p,rfl,f,c.put d j l (λ_=>rfl) (λA=>absurd hc A),r,s,λb m=> .inl ⟨x.2 hc,z b m hc⟩⟩
    ·refine⟨o,undef, _,p,rfl,f,c.put d j l (λn=>absurd n hc) (λ_=>rfl),r,s,λb _=> .inr ⟨?_,rfl⟩⟩
     simp_all
   ·exact AC h
def AI (a:List (Nat×(A2->Prop))) (j:Nat) (w:A2):Prop:= ∀e∈a,e.1.testBit j=false->e.2 w
theorem IH {C:dH P} {a:List (Nat×(A2->Prop))} {env:List bP} {w:A2} {K:List bP->A2->Prop} {j:Nat} {x:Sd}: ∀{t:Sd},FA C ops N t a env w K->Im j x t->Yg C ops N j a env w (λenv w=>FA C ops N x a env w K)
 | .alt i r t,h,hi=>by
   rw[FA] at h;have h1:Yg C ops N i a env w λenv w=>FA C ops N r a env w K:=by
    grind[Yh]
   rcases hi with ⟨rfl,rfl⟩|hi
   ·omega
   ·refine IH ?_ hi;unfold Yh at h;split at h
    ·cases hi
    grind
theorem YS {C:dH P} (G:Wr S ops) (Aj:Od ops=true) (U: ∀c a w,¬ Q (.panic c) a w): ∀(n:Nat) (l:Sd) (f:Array Bool) (d:List (Nat×(A2->Prop))) (env:List bP) (a:Act) (w:A2) (K:List bP->A2->Prop),(∀e∈d,Z2 e.2)->Fit S ops N D env a->
 Valid C ops n l f->FA C ops N l d env w K->(∀env a w w',K env w->Fit S ops N D env a->Ext w w'->Q .normal a w')->
 mj r P ops Q (oo C ops) (AI d) n f a w:=by
 have V: ∀(j:Nat) (o:Oper),ops[j]? =some o->(∀cs b,o.op≠ .select cs b)/\ ∀c,o.op≠ .defer c:=λj o g=>by
  have:=Df.1 Aj o (Array.mem_toList_iff.2 (M4 g));constructor
  ·intro cs b he;simp[he] at this
  ·intro c he;simp[he] at this
 intro n
 induction n with
 |zero=>
  intro l f d env a w K _ s hv h v w' H;obtain⟨rfl,hv⟩:=hv;exact⟨hv,v env a w w' h s H⟩
 |succ n I=>
  intro l f d env a w K z s hv h v;cases l with
  |nil=>exact hv.elim
  |stop=>exact hv.elim
  |q i m l=>
   obtain⟨X,Y,⟨W,Z,Xl⟩,A⟩:=hv;cases m with
   |none=>
    obtain⟨o,u,c_,g,x,y,B⟩:=YR G s h;have J:=I l (f.setIfInBounds i true) d c_ (a.put o.dst u) w K z y A x v;exact tR (W:=W) (a0:=a) g Y V U (λ_ _ h=>h) n f a w (λj L k M O R=>by
     have:=Z o g j L k M O R;refine⟨this.1,?_⟩;rcases this.2 with h|h|⟨w,h, _⟩
     ·exact .inl (by unfold oo;rw[k];exact h)
     ·exact .inr (.inl h)
     ·cases h) Xl X ⟨rfl,rfl⟩ B J
   |some T=>
    obtain⟨o,u,c_,p,g,x,y,hp,hu,B⟩:=T6 G s h;have J:=I l (f.setIfInBounds i true) ((T,p)::d) c_ (a.put o.dst u) w K (λe he=>by
     rcases Ca.1 he with rfl|he
     ·exact hu
     ·exact z e he) y A x v
    exact tR (W:=W) (a0:=a) (T':=AI ((T,p)::d)) g Y V U (λ_ _ h e he=>h e (Ns _ he)) n f a w (λj L k M O R=>by
     have:=Z o g j L k M O R;refine⟨this.1,?_⟩;rcases this.2 with h|h|⟨w,h,hb⟩
     ·exact .inl (by unfold oo;rw[k];exact h)
     ·exact .inr (.inl h)
     ·cases h;exact .inr (.inr λw1 hT=>B w1 (hT (T,p) J4 hb))) Xl X ⟨rfl,rfl⟩ (B w hp) J
  |alt i l0 t=>
   obtain⟨hri,mA⟩:=hv;intro w' H;refine⟨λhe=>absurd hri (by rw[he];simp),λj k=>?_⟩;obtain⟨l,lL,A⟩:=mA j k;have h:=IH h lL;have h':FK C ops N j env w (λenv w=>(oo C ops j=true->AI d j w)/\FA C ops N l d env w K):=by
    cases d with
    |nil=>
     have h:FK C ops N j env w (λenv w=>FA C ops N l [] env w K):=h
     simp_all[oo,AI,FA]
    |cons E F=>
     have e:(λ(env:List bP) (w:A2)=>(oo C ops j=true->AI (E::F) j w)/\FA C ops N l (E::F) env w K)=λenv w=>Oe C ops j w (E::F) (FA C ops N l (E::F) env w K):=by
      funext env w;unfold Oe;cases oo C ops j with
      |true=>exact propext ⟨λh=>qf.2 ⟨h.1 rfl,h.2⟩,λh=>⟨λ_=>(qf.1 h).1,(qf.1 h).2⟩⟩
      |false=>simp
     rw[e];exact h
   refine wpOpIn_mono (λa1 w1 hh=>?_) (D9 G s h' H);obtain⟨hx,c_,wr,⟨Xq,x⟩,y,wM⟩:=hh;exact⟨hx,λhe e hm hb=>z e hm wr w1 ((Xq he) e hm hb) wM,n5 (I l _ d c_ a1 wr K z y A x v) wM⟩
theorem T7 {C:dH P} (d:Wr S ops) (e:Od ops=true) (f: ∀c a w,¬ Q (.panic c) a w) (env:List bP) (a:Act) (w:A2) (K:List bP->A2->Prop) (g:Fit S ops N D env a)
 (h:Yi C ops N env w K) (i: ∀env a w w',K env w->Fit S ops N D env a->Ext w w'->Q .normal a w'):
 mj r P ops Q (oo C ops) (AI []) ops.size (Dy ops.size false) a w:=by
 unfold Yi aah at h;split at h
 ·rename_i l b;have hv:=qg _ 0 _ l (Ak.zero ops) b
  grind[YS]
 grind
end
variable {P:Ax}
def kj (l:List bP):List bP:=
 match l.filter λe=> !e.ch.isEmpty with
 |[]=>l
 |bad=>l.filter λe=>e.ch.isEmpty&& !(bad.any λb=>b.t==e.t)
def plain (l:List bP):Prop:= ∀e∈l,e.ch=[]/\e.g=none
theorem iQ {p:bP->Bool}: ∀{l:List bP} {t:Nat} {e:bP},bY (l.filter p) t=some e->(∀x∈l,x.t=t->p x=true)->bY l t=some e
 |x::r,t,e,h,d=>by
  by_cases a:p x=true
  ·simp only[Nv,a,if_true,bY] at h;simp only[bY];split
   grind
   ·rename_i b
    simp_all
    exact iQ h (by grind)
  ·simp only[Nv,a] at h;have c:x.t≠t:=λb=>a (by grind);simp only[bY,c];exact iQ h (by grind)
theorem yE: ∀{l:List bP} {t:Nat} {e:bP},bY l t=some e->e.t=t
 |x::r,t,e,h=>by
  simp[bY] at h;split at h
  grind
  ·exact yE h
variable {S:Nat->Option (Option AB)} {N:Nat} {D:List Deferred} {env:List bP} {a:Act}
theorem Fit.PK {ops ops':Array Oper} (h:Fit S ops N D env a) (b:plain env):Fit S ops' N D env a:=by
 have nil: ∀(o),j8 o a.tmps []:=λo g=>by simp
 refine⟨h.off,h.size,h.qA,λt e c _=>h.yes t e c (by rw[(b e (bV c)).1];grind),λt e c f=>absurd (by rw[(b e (bV c)).1];grind) f,λe d=>?_,h.BL⟩;rw[(b e d).2];exact(b e d).1
theorem AY {ops ops':Array Oper} (h:Fit S ops N D env a):Fit S ops' N D (kj env) a/\plain (kj env):=by
 have m: ∀e∈env,e.ch=[]->e.g=none:=λe b hc=>by
  have:=h.Fx e b;cases j:e.g with
  |none=>rfl
  |some γ=>rw[j] at this;exact absurd hc this.1
 have nil: ∀(o:Array Oper),j8 o a.tmps []:=λo x f=>by cases f
 have i: ∀e∈kj env,e.ch=[]/\e∈env:=by
  intro e b;unfold kj at b;split at b
  simp_all
  grind
 have k: ∀t e,bY (kj env) t=some e->bY env t=some e:=by
  intro t e b;unfold kj at b;split at b
  ·exact b
  ·rename_i n p;refine iQ b λx f q=>?_;have r:=bV b
   grind[yE]
 have d:plain (kj env):=λe b=>⟨(i e b).1,by grind⟩;refine⟨⟨h.off,h.size,h.qA,λt e l _=>h.yes t e (k t e l) (by grind[bV]),by grind[bV],λe c=>?_,λe c=>h.BL e (i e c).2⟩,d⟩;rw[(d e c).2];exact(d e c).1
def jD:Code->Option Nat
 | .region id _ _=>some id
 | .seq a b=>match jD a with
   |some i=>some i
   |none=>jD b
 | .cond _ a b=>match jD a with
   |some i=>some i
   |none=>jD b
 | .block _ b=>jD b
 | .loop b=>jD b
 | _=>none
def TM (ops:Array Oper):List Nat:=ops.toList.filterMap (·.dst)
def writes:Code->List Nat
 | .region _ ops _=>TM ops
 | .seq a b=>writes a++writes b
 | .cond _ a b=>writes a++writes b
 | .block _ b=>writes b
 | .loop b=>writes b
 | _=>[]
abbrev a7:=List (Nat×El)
def kZ:(l:a7)->oK (l.map (·.2))->List bP
 |[], _=>[]
 |(t,s)::r,x=>⟨t,[],none,s.gz x.1,none⟩::kZ r x.2
def pf:(l:a7)->List bP->Option (oK (l.map (·.2)))
 |[], _=>some ()
 |(t,s)::r,env=>match bY env t with
  |some e=>match s.proj e.v,pf r env with
   |some x,some y=>some (x,y)
   | _, _=>none
  |none=>none
def WK (op:Op):Bool:=match op with
 | .send .. | .select .. =>true
 | _=>false
def aaM (ops:Array Oper):Bool:=ops.toList.any λo=>WK o.op
def l4 (n k:Nat):Array Bool:=⟨(B9 n).map λi=>E4 i k⟩
def TN (ops:Array Oper):Bool:=(B9 ops.size).all λk=>B5 .any ops (l4 ops.size k)==[k]
theorem E7 {n k:Nat} (h:k<n):(l4 n k).setIfInBounds k true=l4 n (k+1):=by
 simp[l4];apply List.ext_getElem
 ·simp
 ·intro i a;rw[List.getElem_set];simp only[List.getElem_map,List.getElem_range];split
  ·subst_vars
   simp
  ·rw[Bool.eq_iff_iff,Nat.blt_eq,Nat.blt_eq];omega
theorem II {ops:Array Oper} (h:TN ops=true): ∀(fuel t k:Nat) (a:List Nat),k+fuel=ops.size->FW .any ops fuel t (l4 ops.size k) a=a.reverse++H6 k fuel
 |0,t,k,a, _=>by simp[FW]
 |fuel+1,t,k,a,c=>by
  have b:=by
   simp[TN] at h;exact h k (by omega)
  change (match (B5 .any ops _)[t % (B5 .any ops _).length]? with
   |some i=>FW .any ops fuel _ _ _
   |none=>a.reverse)= _
  rw[b];simp[Nat.mod_one,Gd];rw[E7 (by omega),II h fuel _ _ _ (by omega)];simp[JL]
def CmR (P:Ax) (o:Oper) (a:Act) (w:A2) (v:AB) (w':A2):Prop:=
 ∃cases bl sh,(execOp a.eval o).run P w= .ok (.comm cases bl sh) w/\
  ∀fr cs es,stepG P true (In fr cs) w= .comm (In fr cs) cases bl sh w es->step P (TH (In fr cs) w)= .next (TH (In (fr.finish v) cs) w')
def S_ (P:Ax) (ops:Array Oper) (Q:Act->A2->Prop):List Nat->Act->A2->Prop
 |[],a,w=>Q a w
 |i::l,a,w=> ∃o,ops[i]? =some o/\BT o (yielded ops a.tmps)=true/\(∀c,o.op≠ .defer c)/\
  ∃v w',((execOp a.eval o).run P w= .ok (.value v) w'\/CmR P o a w v w')/\S_ P ops Q l (a.put o.dst v) w'
theorem Ea {ops:Array Oper} {Q b:Act->A2->Prop} (c: ∀a w,Q a w->b a w): ∀(l:List Nat) (a:Act) (w:A2),S_ P ops Q l a w->S_ P ops b l a w
 |[],a,w,h=>c a w h
 |i::l,a,w,h=>by
  obtain⟨o,d,e,f,v,w',g,j⟩:=h;exact⟨o,d,e,f,v,w',g,Ea c l _ _ j⟩
theorem mX {r:Option Nat} {ops:Array Oper} {Q:Act->A2->Prop}: ∀(l:List Nat) (a:Act) (w:A2),S_ P ops Q l a w-> ∀(b:Frame) (k:List Item) (cs:List Frame),
 ∃a' w',Q a' w'/\StepsIn (Machine.fenced P (WF r)) P (lone (b.atR a (.inRegion ops l::k)) cs w) (lone (b.atR a' k) cs w')
 |[],a,w,h,b,k,cs=>⟨a,w,h,.one (fenced_calm (n:=0) (WH r _) (IF r _) rfl) stepR_region_end⟩
 |i::l,a,w,h,b,k,cs=>by
  obtain⟨o,c,j,m,v,w',p,q⟩:=h;obtain⟨a',s,t,u⟩:=mX l _ _ q b k cs;have d:=stepGR_op (P:=P) (b:=b) (k:=k) (cs:=cs) (w:=w) (rest:=l) c j;rw[Oper.semAt_eq _ _ _ m] at d;have f:(b.atR a (.inRegion ops (i::l)::k)).finish v=b.atR (a.put o.dst v) (.inRegion ops l::k):=by rw[Frame.finish_atR,c];rfl
  have h0:(lone (b.atR a (.inRegion ops (i::l)::k)) cs w).fenced P (WF r):=fenced_oper (n:=0) (WH r _) (IF r _) c (λ_ _=>trivial);refine⟨a',s,t,.head h0 ?_ u⟩;rcases p with e|⟨g,bl,sh,e,hc⟩
  ·refine step_lone_go ?_;rw[d, <-f];simp[stepG.apply,e]
  ·rw[<-f];have key: ∀x:Sem Next,x.run P w= .ok (.comm g bl sh) w-> ∃es,stepG.apply P true (b.atR a (.inRegion ops (i::l)::k)) cs none x w= .comm _ g bl sh w es:=λx y=>by
    simp only[stepG.apply,Sem.runT_eq,y,GStep.after];exact⟨_,rfl⟩
   obtain⟨es,z⟩:=key _ e;exact hc _ _ es (d.trans z)
theorem Au {r:Option Nat} {id:Nat} {ops:Array Oper} {d:Bool} {Q:Exit->Act->A2->Prop} {a:Act} {w:A2} (j:P.follows .mixedOrders=true) (l:TN ops=true)
 (h: ∀w',Ext w w'->S_ P ops (Q .normal) (B9 ops.size) a w'):(Code.region id ops d).wpIn (WF r) 0 P Q a w:=by
 intro b k cs _ hb f;cases d with
 |false=>
  obtain⟨a',w',c,g⟩:=mX _ _ _ (h w (Ext.refl w)) b k cs;exact⟨.normal,a',w',c,StepsIn.head (fenced_calm hb f rfl) stepR_region g⟩
 |true=>
  obtain⟨a',w',c,g⟩:=mX (r:=r) _ _ _ (h _ (Ext.drew w)) b k cs;refine⟨.normal,a',w',c,StepsIn.head (fenced_calm hb f rfl) (stepR_region_draw) ?_⟩;have e: ∀t,GS (P.follows .mixedOrders) ops t=B9 ops.size:=λt=>by
   simp only[GS,j,NU];have m:Dy ops.size false=l4 ops.size 0:=by
    apply Array.ext
    ·simp[l4]
    ·have: ∀i,E4 i 0=false:=λi=>by rfl
     simp[l4,this]
   grind[II,Ny]
  grind
def Io (op:Op):Bool:=match op with
 | .load .. | .fieldAddr .. | .indexAddr .. | .build .. | .field .. | .extract .. | .binOp .. | .move _| .assign _| .convert .. =>true
 | _=>false
theorem PL {s:Sem AB} {f:B4} {args:Array AB} {w w':A2} (h:(do pure (Next.value (<-s)):Sem Next).run P w= .ok (.enter f args) w'):False:=by
 cases a:s.run P w with
 |ok
 |halt=>simp_all
theorem AZ {o:Oper} {a:Act} {w:A2} {v:AB} (h:Io o.op=true) (d:dm P o a w v):(execOp a.eval o).run P w= .ok (.value v) w/\ ∀c,o.op≠ .defer c:=by
 obtain⟨dst,op,type,pos,after,guard⟩:=o;have e: ∀f args w',(execOp a.eval ⟨dst,op,type,pos,after,guard⟩).run P w≠ .ok (.enter f args) w':=λf args w' b=>by
  cases op<;>simp[Io,Dt] at h<;>first|exact PL b|(simp[execOp] at b;done)
 refine⟨?_,λc hc=>by subst hc;cases h⟩
 grind[dm]
def cop (P:Ax) (ρ:Operand->Option AB) (op:Op) (w:A2) (K:AB->A2->Prop):Prop:=match op with
 | .send ch x=>match ρ ch,ρ x with
   |some (.chan p),some v=> ∀w1,Ext w w1-> ∃r cap a s m,p=some r/\ChO w1 r cap a s m/\a.length<cap/\K undef (w1.putObj r (.chan cap ⟨a++[v]⟩ false (s+1) m false))
   | _, _=>dv 130 op
 | .select cs bl=>match bl,cs.toList with
   |false,[c]=>match c.send,ρ c.chan,P.info? c.elem,uM P c.elem with
    |none,some (.chan p),some i,some el=>match i.zero with
     |some z=> ∀w1,Ext w w1-> ∃r cap a s m,p=some r/\ChO w1 r cap a s m/\(a=[]->K (.tuple ⟨[.int .i64 (-1),.bool false,z]⟩) w1)/\
      ∀v vs,a=v::vs-> ∃x:el.T,v=el.gz x/\K (.tuple ⟨[.int .i64 0,.bool true,el.gz x]⟩) (w1.putObj r (.chan cap ⟨vs⟩ false s (m+1) false))
     |none=>dv 131 op
    | _, _, _, _=>dv 132 op
   | _, _=>dv 133 op
 | _=>dv 134 op
theorem zq (w:A2) (r cap:Nat) (a:Array AB) (cl:Bool) (s m:Nat) (b:Bool):w.setChan r cap a cl s m b=w.putObj r (.chan cap a cl s m b):=rfl
theorem OK {ρ:Operand->Option AB} {a:Act} (d: ∀x v,ρ x=some v->a.eval x=v) {o:Oper} {w w':A2} {K:AB->A2->Prop} (h:cop P ρ o.op w K) (g:Ext w w'):
 (∀c,o.op≠ .defer c)/\ ∃v j,CmR P o a w' v j/\K v j:=by
 obtain⟨dst,op,type,pos,after,guard⟩:=o;unfold cop at h;simp only at h;split at h
 ·rename_i ch x;refine⟨λc hc=>(by cases hc),?_⟩;split at h
  ·rename_i p v e hv;obtain⟨r,cap,k,s,m,rfl,hc,l,f⟩:=h w' g;refine⟨_, _,⟨_, _, _,(by simp only[execOp,d _ _ e,d _ _ hv];rfl),λfr cs es b=>?_⟩,f⟩;have:=Go.Conc.step_lone_send_room (z':= .tuple #[]) b hc (by simpa using l);rw[this,zq];simp
  ·exact h.elim
 ·rename_i cs bl;refine⟨λc hc=>(by cases hc),?_⟩;split at h
  ·rename_i c fg;split at h
   ·rename_i p i el n e hi y;split at h
    ·rename_i z q;obtain⟨r,cap,k,s,m,rfl,hc,h0,h1⟩:=h w' g;have t:cs= #[c]:=by cases cs;simp_all
     have dQ:(execOp a.eval ⟨dst,.select cs false,type,pos,after,guard⟩).run P w'= .ok (.comm #[TO r z] false .select) w':=by
      subst t;have u:(zeroValue c.elem).run P w'= .ok z w':=by simp[zeroValue,fB hi,q]
      simp[execOp,n,d _ _ e,u,TO]
     cases k with
     |nil=>exact⟨_, _,⟨_, _, _,dQ,λfr cs es b=>Go.Conc.step_lone_select_default b hc⟩,h0 rfl⟩
     |cons v vs=>
      obtain⟨x,rfl,f⟩:=h1 v vs rfl;refine⟨_, _,⟨_, _, _,dQ,λfr cs es b=>?_⟩,f⟩;have:=Go.Conc.step_lone_select_recv_buf b hc (by simp);rw[this,zq];simp[goInt]
    ·exact h.elim
   ·exact h.elim
  ·exact h.elim
 ·exact h.elim
def rxC (C:dH P) (ops:Array Oper) (N:Nat):List Nat->List bP->A2->(List bP->A2->Prop)->Prop
 |[],env,w,K=>K env w
 |i::r,env,w,K=>match ops[i]? with
  |none=>False
  |some ⟨dst,op,type,pos,after,guard⟩=>match guard with
   |some _=>dv 135 op
   |none=>if o_ ops N env [] dst then match WK op with
     |true=>cop P (xR env []) op w (λv a=>wV env dst [] none v (λenv=>rxC C ops N r env a K))
     |false=>if Io op then oS C ops env [] none ⟨dst,op,type,pos,after,none⟩ w (λv=>wV env dst [] none v (λenv=>rxC C ops N r env w K)) else dv 136 op
    else dv 137 op
theorem F9 {ops:Array Oper} {C:dH P} (f:Wr S ops): ∀(l:List Nat) (env:List bP) (a:Act) (w w':A2) (K:List bP->A2->Prop),Fit S ops N D env a->rxC C ops N l env w K->Ext w w'->
 S_ P ops (λa1 w1=> ∃c_ j,K c_ j/\Fit S ops N D c_ a1/\Ext j w1) l a w'
 |[],env,a,w,w',K,b,h,c=>⟨env,w,h,b,c⟩
 |i::l,env,a,w,w',K,b,h,c=>by
  unfold rxC at h;split at h
  ·exact h.elim
  ·rename_i dst op type pos after guard k;have n:=f _ (M4 k);split at h
   ·exact h.elim
   ·split at h
    ·rename_i p;have m: ∀v,Fit S ops N D (lQ env dst [] none v) (a.put dst v):=λv=>b.put p n rfl (λ_=>rfl) (λd=>absurd eB d);refine⟨_,k,(by simp[BT]),?_⟩;split at h
     ·obtain⟨d,v,q,hc,e⟩:=OK (o:=⟨dst,op,type,pos,after,none⟩) (a:=a) (λx v r=>b.ev eB r) h c;rw[nO] at e;exact⟨d,v,q,.inr hc,F9 f l _ _ _ _ K (m v) e (Ext.refl _)⟩
     ·split at h
      ·rename_i s;obtain⟨v,e,t⟩:=yC (g:=none) b rfl h;obtain⟨u,d⟩:=AZ s (t eB w' c);rw[nO] at e;exact⟨d,v,w',.inl u,F9 f l _ _ _ _ K (m v) e c⟩
      ·exact h.elim
    ·exact h.elim
def nG (o:Oper):List Nat:=(o.after.toList.filter λe=>DU .any e).map (·.on)
def F_ (o:Oper):List Nat:=o.op.operands.toList.filterMap λ| .tmp t=>some t| _=>none
def aaO (op:Op):Bool:=match op with
 | .select .. =>true
 | _=>false
def WL (ops:Array Oper) (i:Nat):Bool:=match ops[i]? with
 |none=>false
 |some o=>o.guard.isNone&& !aaO o.op&&((F_ o).all λt=>(B9 ops.size).all λj=>dB ops j != some t||(nG o).contains j)&&((nG o).all λj=>E4 j i)&&
  (o.dst.isNone||(B9 i).all λj=>dB ops j != o.dst)&&(Nat.beq (i+1) ops.size||(B9 ops.size).any λk=>E4 i k&&match ops[k]? with
   |some x=>(nG x).contains i
   |none=>false)
def FM (ops:Array Oper):Bool:=(B9 ops.size).all (WL ops)
def wpS (P:Ax) (ops:Array Oper) (Q:Act->A2->Prop):List Nat->Act->A2->Prop
 |[], _, _=>False
 |[i],a,w=> ∃o,ops[i]? =some o/\(∀c,o.op≠ .defer c)/\ ∃v w',CmR P o a w v w'/\Q (a.put o.dst v) w'
 |i::j::l,a,w=> ∃o,ops[i]? =some o/\(∀c,o.op≠ .defer c)/\ ∃v,(execOp a.eval o).run P w= .ok (.value v) w/\wpS P ops Q (j::l) (a.put o.dst v) w
theorem Eb {ops:Array Oper} {Q d:Act->A2->Prop} (e: ∀a w,Q a w->d a w): ∀(l:List Nat) (a:Act) (w:A2),wpS P ops Q l a w->wpS P ops d l a w
 |[i],a,w,h=>by
  obtain⟨o,b,c,v,w',hc,h⟩:=h;exact⟨o,b,c,v,w',hc,e _ _ h⟩
 |i::j::l,a,w,h=>by
  obtain⟨o,b,c,v,f,h⟩:=h;exact⟨o,b,c,v,f,Eb e _ _ _ h⟩
def C7 (ops:Array Oper) (a:Act) (v:Nat->AB) (k:Nat):Nat->Act
 |0=>a
 |i+1=>(C7 ops a v k i).put (dB ops (k+i)) (v i)
theorem A0 {ops:Array Oper} {a:Act} {v:Nat->AB} {k:Nat}: ∀i,C7 ops (a.put (dB ops k) (v 0)) (λj=>v (j+1)) (k+1) i=C7 ops a v k (i+1)
 |0=>rfl
 |i+1=>by
  show(C7 ops _ _ _ i).put _ _=(C7 ops a v k _).put _ _;rw[A0,show k+1+i=k+(i+1) by omega]
theorem F' {ops:Array Oper} {i:Nat} {o:Oper} (h:ops[i]? =some o):dB ops i=o.dst:=by grind[dB]
theorem IJ {ops:Array Oper} {Q:Act->A2->Prop} {w:A2}: ∀(d k:Nat) (a:Act),wpS P ops Q (H6 k (d+1)) a w->
 ∃(v:Nat->AB),(∀i,i<d-> ∃o,ops[k+i]? =some o/\(∀c,o.op≠ .defer c)/\(execOp (C7 ops a v k i).eval o).run P w= .ok (.value (v i)) w)/\
  ∃o,ops[k+d]? =some o/\(∀c,o.op≠ .defer c)/\ ∃u w',CmR P o (C7 ops a v k d) w u w'/\Q ((C7 ops a v k d).put o.dst u) w'
 |0,k,a,h=>by
  obtain⟨o,h1,f,u,w',b,l⟩:=h;exact⟨λ_=>undef,by grind,o,h1,f,u,w',b,l⟩
 |d+1,k,a,h=>by
  rw[JL] at h;have e:H6 (k+1) (d+1)=(k+1)::H6 (k+1+1) d:=JL;rw[e] at h;obtain⟨o,h1,m,g,f,b⟩:=h;rw[<-e] at b;obtain⟨v,q,n,r,p,u,w',k4,k5⟩:=IJ d (k+1) _ b
  let j:Nat->AB:=λi=>match i with
   |0=>g
   |i+1=>v i
  have sh: ∀i,C7 ops (a.put o.dst g) v (k+1) i=C7 ops a j k (i+1):=λi=>by
   rw[<-A0,F' h1]
  refine⟨j,λi hi=>?_,n,by grind,p,u,w',?_,?_⟩
  ·cases i with
   |zero=>exact⟨o,h1,m,f⟩
   |succ i=>
    grind
  ·rw[<-sh d];exact k4
  ·rw[<-sh d];exact k5
structure SR (ops:Array Oper) (m:Nat) (v:Nat->AB) (a:Act) (S:Nat->Prop) (b:Act):Prop where
 df:b.defers=a.defers
 sz:b.tmps.size=a.tmps.size
 yes: ∀j t,j<m->S j->dB ops j=some t->b.tmps[t]? =if t<a.tmps.size then some (v j) else none
 no: ∀t,(∀j,j<m->S j->dB ops j≠some t)->b.tmps[t]? =a.tmps[t]?
theorem SR.step {ops:Array Oper} {m:Nat} {v:Nat->AB} {a b:Act} {S S':Nat->Prop} (h:SR ops m v a S b) {i:Nat} (hi:i<m) (l: ∀j,S' j<->S j\/j=i) (o: ∀j t,j<m->dB ops j=some t->dB ops i=some t->j=i):SR ops m v a S' (b.put (dB ops i) (v i)):=by
 cases n:dB ops i with
 |none=>
  refine⟨h.df,h.sz,λj t k f g=>?_,λt g=>h.no t (by grind)⟩;rcases(l j).1 f with f|rfl
  ·exact h.yes j t k f g
  grind
 |some d=>
  have p:(b.put (some d) (v i)).tmps.size=a.tmps.size:=by simp[C8,h.sz]
  refine⟨h.df,p,λj t k f g=>?_,λt g=>?_⟩
  ·by_cases e:t=d
   ·subst e;have:j=i:=o j t k g n;subst this;simp only[C8];rw[Array.getElem?_setIfInBounds];simp[h.sz]
   ·rcases(l j).1 f with f|rfl
    ·have:(b.put (some d) (v i)).tmps[t]? =b.tmps[t]? :=by simp[C8,DM (λc=>e c.symm)]
     rw[this];exact h.yes j t k f g
    grind
  ·have q:d≠t:=λe=>g i hi ((l i).2 (.inr rfl)) (by rw[n,e]);have:(b.put (some d) (v i)).tmps[t]? =b.tmps[t]? :=by simp[C8,DM q]
   rw[this];exact h.no t (by grind)
theorem SR.eq {ops:Array Oper} {m:Nat} {v:Nat->AB} {a b c:Act} {S T:Nat->Prop} (h:SR ops m v a S b) (k:SR ops m v a T c) (i: ∀j,j<m->(S j<->T j)):b=c:=by
 have:=by
  apply JV;apply List.ext_getElem?;intro t;have e:b.tmps[t]? =c.tmps[t]? :=by
   by_cases l: ∃j,j<m/\S j/\dB ops j=some t
   ·obtain⟨j,d,f,g⟩:=l;rw[h.yes j t d f g,k.yes j t d ((i j d).1 f) g]
   ·rw[h.no t (by grind),k.no t (by grind)]
  simpa
 cases b;cases c;have h1:=h.df.trans k.df.symm
 grind
theorem fv {ops:Array Oper} (a:FM ops=true) {i:Nat} {o:Oper} (d:ops[i]? =some o):
 o.guard=none/\(∀cs b,o.op≠ .select cs b)/\(∀t∈F_ o, ∀j,j<ops.size->dB ops j=some t->j∈nG o)/\(∀j∈nG o,j<i)/\(∀j t,j<i->dB ops j=some t->dB ops i≠some t)/\
  (i+1=ops.size\/ ∃k x,i<k/\ops[k]? =some x/\i∈nG x):=by
 have hi:=(Bs.1 d).1;unfold FM at a;rw[Df] at a;have h:=a i (Dj.2 hi);unfold WL at h;rw[d] at h;simp at h;obtain⟨⟨⟨⟨⟨h1,f⟩,l⟩,g⟩,m⟩,n⟩:=h;refine⟨h1,λcs b e=>(by rw[e] at f;cases f),by grind,g,λj t p q c=>?_,?_⟩
 ·grind[F']
 grind
theorem A1 {ops:Array Oper} {a:Array Bool} (d:a.size=ops.size) {i:Nat}:i∈B5 .any ops a<-> ∃o,ops[i]? =some o/\a.getD i false=false/\ ∀j∈nG o,a.getD j false=true:=by
 have c:i<ops.size->(a.getD i true=a.getD i false):=λh=>by simp[K1,d,h]
 unfold B5;rw[Bx,Dj];constructor
 ·rintro⟨hi,hc⟩;obtain⟨o,b⟩: ∃o,ops[i]? =some o:=⟨_,LL hi⟩;rw[b,c hi] at hc;simp only[G1,Ik,BN,HB,HZ] at hc;refine⟨o,b,hc.1,λj f=>?_⟩;obtain⟨e,g,rfl⟩:=Ga.1 f
  grind
 ·rintro⟨o,b,h1,k⟩;have hi:i<ops.size:=(Bs.1 b).1;refine⟨hi,?_⟩;rw[b,c hi];simp only[G1,Ik,BN,HB,HZ,FX];refine⟨h1,λe g=>?_⟩;by_cases hb:DU .any e=true
  ·exact .inr (k e.on (Ga.2 (by grind)))
  grind
theorem yP {l:Array Bool} {i j:Nat} (hi:i<l.size):(l.setIfInBounds i true).getD j false=true<->l.getD j false=true\/j=i:=by
 by_cases j=i
 simp_all
 ·simp
  grind
theorem T8 {ops:Array Oper} {Q:Act->A2->Prop} {a:Act} {w:A2} (z:FM ops=true) {m:Nat} (hm:ops.size=m+1) (h:wpS P ops Q (B9 (m+1)) a w):
 ∀(s t:Nat) (f:Array Bool) (b:Act),f.size=ops.size->(B9 ops.size).countP (λj=> !f.getD j false)=s->f.getD m false=false->
  (∀i o,ops[i]? =some o->f.getD i false=true-> ∀j∈nG o,f.getD j false=true)->
  (∃v:Nat->AB,(∀i,i<m-> ∃o,ops[i]? =some o/\(∀c,o.op≠ .defer c)/\(execOp (C7 ops a v 0 i).eval o).run P w= .ok (.value (v i)) w)/\
   (∃o,ops[m]? =some o/\(∀c,o.op≠ .defer c)/\ ∃u w',CmR P o (C7 ops a v 0 m) w u w'/\Q ((C7 ops a v 0 m).put o.dst u) w')/\SR ops m v a (λj=>f.getD j false=true) b)->
  S_ P ops Q (FW .any ops s t f []) b w:=by
 intro s
 induction s with
 |zero=>
  intro t f b y hc B _ _;exfalso;rw[O2] at hc;have:=hc m (Dj.2 (by omega));rw[B] at this;exact this rfl
 |succ s ih=>
  intro t f b y hc B T J;obtain⟨v,hv,⟨K,C,U,u,w',V,W⟩,E⟩:=J;have X: ∀i j t,i<m->j<m->dB ops i=some t->dB ops j=some t->j=i:=λi j t hi g h1 p=>by
   obtain⟨oi,l, _⟩:=hv i hi;obtain⟨oj,F, _⟩:=hv j g;rcases Nat.lt_trichotomy i j with q|q|q
   ·exact absurd p ((fv z F).2.2.2.2.1 i t q h1)
   ·exact q.symm
   ·exact absurd h1 ((fv z l).2.2.2.2.1 j t q p)
  have L: ∀k,k<=m->SR ops m v a (λj=>j<k) (C7 ops a v 0 k):=by
   intro k
   induction k with
   |zero=>exact λ_=>⟨rfl,rfl,λj t _ hs=>absurd hs (Nat.not_lt_zero _),λt _=>rfl⟩
   |succ k M=>
    intro r;have:=(M (by omega)).step (S':=λj=>j<k+1) (i:=k) (by omega) (λj=>by omega) (λj t g h1 p=>X k j t (by omega) g p h1);show SR ops m v a _ ((C7 ops a v 0 k).put (dB ops (0+k)) (v k));rw[M5];exact this
  have same: ∀i o,ops[i]? =some o->i<=m->(∀j∈nG o,f.getD j false=true)->execOp b.eval o=execOp (C7 ops a v 0 i).eval o:=λi o l hi D=>by
   obtain⟨_,hns,JM,Y, _, _⟩:=fv z l;refine execOp_congr o hns λx J=>?_;cases x with
   |tmp t=>
    have ht:t∈F_ o:=List.mem_filterMap.2 ⟨.tmp t,by simpa using J,rfl⟩;have key:b.tmps[t]? =(C7 ops a v 0 i).tmps[t]? :=by
     by_cases g: ∃j,j<ops.size/\dB ops j=some t
     ·obtain⟨j,Z,N⟩:=g;have G:=JM t ht j Z N;have O:=Y j G;rw[E.yes j t (by omega) (D j G) N,(L i hi).yes j t (by omega) O N]
     ·rw[E.no t λj z8 _ R=>g ⟨j,by omega,R⟩,(L i hi).no t λj z8 _ R=>g ⟨j,by omega,R⟩]
    simp only[Fo,FY,key]
   | _=>rfl
  have wt: ∀i o,ops[i]? =some o-> ∀c:Act,BT o (yielded ops c.tmps)=true:=λi o l c=>by
   unfold BT;rw[(fv z l).1]
  simp only[FW];change S_ P ops Q (match (B5 .any ops f)[t % (B5 .any ops f).length]? with
   |some i=>FW .any ops s (t / (B5 .any ops f).length) (f.setIfInBounds i true) [i]
   |none=>[].reverse) b w
  cases hi:(B5 .any ops f)[t % (B5 .any ops f).length]? with
  |none=>
   exfalso;have FL:B5 .any ops f=[]:=by
    cases hr:B5 .any ops f with
    |nil=>rfl
    |cons x xs=>
     rw[hr] at hi;have Y:t % (x::xs).length<(x::xs).length:=Nat.mod_lt _ (by simp);rw[List.getElem?_eq_none_iff] at hi;omega
   have least: ∀k,k<=m->(∀j,j<k->f.getD j false=true)->f.getD k false=true:=λk r g=>by
    cases A:f.getD k false with
    |true=>rfl
    |false=>
     exfalso;obtain⟨o,l⟩: ∃o,ops[k]? =some o:=⟨_,LL (by omega)⟩;have:k∈B5 .any ops f:=(A1 y).2 ⟨o,l,A,λj G=>g j ((fv z l).2.2.2.1 j G)⟩;rw[FL] at this;cases this
   have all: ∀k,k<=m->f.getD k false=true:=by
    intro k
    induction k using N2 with
    | _ k M=>exact λr=>least k r λj g=>M j g (by omega)
   rw[all m (Dc _)] at B;cases B
  |some i=>
   simp only[];rw[linearise_go_acc,List.reverse_singleton,List.singleton_append];have hir:=List.mem_of_getElem? hi;obtain⟨o,l,nc,D⟩:=(A1 y).1 hir;have H:i<ops.size:=(Bs.1 l).1;by_cases him:i=m
   ·subst him;rw[C] at l;cases l;have all: ∀d k,k+d=i->k<i->f.getD k false=true:=by
     intro d
     induction d using N2 with
     | _ d ihd=>
       intro k r hki;obtain⟨ok,jn, _⟩:=hv k hki;rcases(fv z jn).2.2.2.2.2 with q|⟨j,x,hkj,I,uO⟩
       ·omega
       ·have Z:j<ops.size:=(Bs.1 I).1;by_cases O:j=i
        ·subst O;rw[C] at I;cases I;exact D k uO
        ·exact T j x I (ihd (i - j) (by omega) j (by omega) (by omega)) k uO
    have heq:b=C7 ops a v 0 i:=E.eq (L i (Dc _)) λj g=>⟨λ_=>g,λ_=>all (i - j) j (by omega) g⟩;have hf:s=0:=by
     have h1:(B9 ops.size).countP (λj=> !f.getD j false)<=1:=by
      rw[hm,OJ,JN];have:(B9 i).countP (λj=> !f.getD j false)=0:=O2.2 λj g=>by
       rw[all (i - j) j (by have:=Dj.1 g;omega) (Dj.1 g)];decide
      rw[this];exact Nat.le_trans (by rw[M5];exact List.countP_le_length) (Dc 1)
     omega
    subst hf;refine⟨K,C,wt i K C b,U,u,w',.inr ?_,?_⟩
    ·rw[heq];exact V
    ·rw[heq];exact W
   ·have S:i<m:=by omega
    obtain⟨o',F,hn,dQ⟩:=hv i S;rw[l] at F;cases F;refine⟨o,l,wt i o l b,hn,v i,w,.inl (by rw[same i o l (by omega) D];exact dQ),?_⟩;have To:(f.setIfInBounds i true).size=ops.size:=by simp[y]
    refine ih _ _ _ To ?_ ?_ ?_ ⟨v,hv,⟨K,C,U,u,w',V,W⟩,?_⟩
    ·
     have YT: ∀n,i<n->(B9 n).countP (λj=> !f.getD j false)=(B9 n).countP (λj=> !(f.setIfInBounds i true).getD j false)+1:=by
      intro n
      induction n with
      |zero=>intro h;omega
      |succ n ihn=>
       intro lL;rw[OJ,JN,JN];by_cases e:i=n
       ·subst e;have h1:(B9 i).countP (λj=> !(f.setIfInBounds i true).getD j false)=(B9 i).countP (λj=> !f.getD j false):=by
         refine List.countP_congr λj g=>?_;have g:=Dj.1 g;have:(f.setIfInBounds i true).getD j false=f.getD j false:=by
          simp only[FY];rw[DM (by omega)]
         rw[this]
        have p:(f.setIfInBounds i true).getD i false=true:=(yP (by rw[y];exact H)).2 (.inr rfl);rw[h1,H7,H7,p,nc];rfl
       ·have p:(f.setIfInBounds i true).getD n false=f.getD n false:=by
         simp only[FY];rw[DM e]
        rw[ihn (by omega),H7,H7,p];omega
     have:=YT ops.size H;omega
    ·have:(f.setIfInBounds i true).getD m false=f.getD m false:=by
      simp only[FY];rw[DM him]
     rw[this];exact B
    ·intro k x r A j g;rw[yP (by rw[y];exact H)] at A ⊢;rcases A with A|rfl
     ·exact .inl (T k x r A j g)
     ·rw[l] at r;cases r;exact .inl (D j g)
    ·have:=E.step (S':=λj=>(f.setIfInBounds i true).getD j false=true) S (λj=>yP (by rw[y];exact H)) (λj t g h1 p=>X i j t S g p h1);rw[F' l] at this;exact this
theorem WN {ops:Array Oper} {Q:Act->A2->Prop} (c:FM ops=true) {w:A2}: ∀(l:List Nat) (a:Act),wpS P ops Q l a w->S_ P ops Q l a w
 |[i],a,h=>by
  obtain⟨o,b,d,v,w',hc,e⟩:=h;exact⟨o,b,by unfold BT;rw[(fv c b).1],d,v,w',.inr hc,e⟩
 |i::j::l,a,h=>by
  obtain⟨o,b,d,v,f,g⟩:=h;exact⟨o,b,by unfold BT;rw[(fv c b).1],d,v,w,.inl f,WN c _ _ g⟩
theorem Av {r:Option Nat} {id:Nat} {ops:Array Oper} {f:Bool} {Q:Exit->Act->A2->Prop} {a:Act} {w:A2} (s:P.follows .mixedOrders=true) (g:FM ops=true) (h0:0<ops.size)
 (h: ∀w',Ext w w'->wpS P ops (Q .normal) (B9 ops.size) a w'):(Code.region id ops f).wpIn (WF r) 0 P Q a w:=by
 intro b k cs _ hb l;cases f with
 |false=>
  obtain⟨a',w',c,d⟩:=mX (r:=r) _ _ _ (WN g _ _ (h w (Ext.refl w))) b k cs;exact⟨.normal,a',w',c,StepsIn.head (fenced_calm hb l rfl) stepR_region d⟩
 |true=>
  have e:=h _ (Ext.drew w);obtain⟨m,n⟩: ∃m,ops.size=m+1:=⟨ops.size - 1,by omega⟩;have key: ∀t,S_ P ops (Q .normal) (GS (P.follows .mixedOrders) ops t) a {w with drawn:=w.drawn+1}:=λt=>by
   simp only[GS,s,Bool.true_or,if_true,NU];rw[n] at e;have x:=IJ m 0 a (by rw[<-Ny];exact e);obtain⟨v,hv,o,A,y,u,w',hc,c⟩:=x;have p: ∀j,(Dy ops.size false).getD j false=false:=λj=>by
    by_cases z:j<ops.size<;>simp[K1,z]
   refine T8 g n e ops.size t _ a (by simp) ?_ (p m) (λi o _ q=>by rw[p] at q;cases q) ⟨v,λi hi=>?_,⟨o,?_,y,u,w',hc,c⟩,⟨rfl,rfl,by simp_all,λt _=>rfl⟩⟩
   simp_all
   grind
   grind
  obtain⟨a',w',c,d⟩:=mX (r:=r) _ _ _ (key _) b k cs;exact⟨.normal,a',w',c,StepsIn.head (fenced_calm hb l rfl) (stepR_region_draw) d⟩
def rxP (C:dH P) (ops:Array Oper) (N:Nat):List Nat->List bP->A2->(List bP->A2->Prop)->Prop
 |[], _, _, _=>False
 |i::r,env,w,K=>match ops[i]? with
  |none=>False
  |some ⟨dst,op,type,pos,after, _⟩=>if o_ ops N env [] dst then match r with
    |[]=>cop P (xR env []) op w (λv a=>wV env dst [] none v (λenv=>K env a))
    |j::l=>if Io op then oS C ops env [] none ⟨dst,op,type,pos,after,none⟩ w (λv=>wV env dst [] none v (λenv=>rxP C ops N (j::l) env w K)) else dv 138 op
   else dv 139 op
theorem OL {ops:Array Oper} {C:dH P} (k:FM ops=true) (m:Wr S ops): ∀(l:List Nat) (env:List bP) (a:Act) (w w':A2) (K:List bP->A2->Prop),Fit S ops N D env a->rxP C ops N l env w K->Ext w w'->
 wpS P ops (λa1 w1=> ∃c_ n,K c_ n/\Fit S ops N D c_ a1/\Ext n w1) l a w'
 |[], _, _, _, _, _, _,h, _=>h.elim
 |i::r,env,a,w,w',K,e,h,f=>by
  unfold rxP at h;split at h
  ·exact h.elim
  ·rename_i dst op type pos after guard d;have s:=m _ (M4 d);have t:guard=none:=(fv k d).1;subst t;split at h
   ·rename_i u;have p: ∀v,Fit S ops N D (lQ env dst [] none v) (a.put dst v):=λv=>e.put u s rfl (λ_=>rfl) (λb=>absurd eB b);split at h
    ·obtain⟨b,v,q,hc,c⟩:=OK (o:=⟨dst,op,type,pos,after,none⟩) (a:=a) (λx v y=>e.ev eB y) h f;rw[nO] at c;exact⟨_,d,b,v,q,hc, _,q,c,p v,Ext.refl _⟩
    ·rename_i j l;split at h
     ·rename_i z;obtain⟨v,c,A⟩:=yC (g:=none) e rfl h;obtain⟨B,b⟩:=AZ (o:=⟨dst,op,type,pos,after,none⟩) z (A eB w' f);rw[nO] at c;exact⟨_,d,b,v,B,OL k m (j::l) _ _ _ _ K (p v) c f⟩
     ·exact h.elim
   ·exact h.elim
def Og (C:dH P) (N:Nat) (ops:Array Oper) (a:Bool) (env:List bP) (w:A2) (K:List bP->A2->Prop):Prop:=
 if aaM ops then
  if TN ops then rxC C ops N (B9 ops.size) env w (λenv w=>jC (kj env) λenv=>K env w)
  else if FM ops&&E4 0 ops.size then rxP C ops N (B9 ops.size) env w (λenv w=>jC (kj env) λenv=>K env w) else False
 else if a then
  if Od ops then Yi C ops N env w (λenv w=>jC (kj env) λenv=>K env w) else False
 else rxL C ops N (B9 ops.size) env w (λenv w=>jC (kj env) λenv=>K env w)
inductive Md where
 |run|to (b:Nat) (K:List bP->A2->Prop)|Wd (b:Nat)
def atR (b:Nat) (y:Code):Bool:=match jD y with
 |some i=>Nat.beq i b
 |none=>false
def FN (b:Nat):Code->Option Code
 | .seq _ y=>match atR b y with
   |true=>some y
   |false=>FN b y
 | _=>none
def oX (b:Nat):Code->List Nat
 | .seq x y=>writes x++(match atR b y with
   |true=>[]
   |false=>oX b y)
 | _=>[]
def aaj (b:Nat):Code->Bool
 | .seq x y=>match atR b x with
   |true=>true
   |false=>aaj b y
 |c=>atR b c
def aaP (aS:Nat->a7) (c y:Code):Option (Nat×a7):=match jD c with
 |none=>none
 |some a=>match aS (1000000+a) with
  |[]=>none
  |(b, _)::sl=>match aaj b y with
   |true=>some (b,sl)
   |false=>none
def NL (sl:a7) (J:oK (sl.map (·.2))->A2->Prop) (env:List bP) (w:A2):Prop:=match pf sl env with
 |some s=>J s w
 |none=>False
def cz (C:dH P) (aS:Nat->a7) (N:Nat):Code->Md->List bP->A2->(List bP->A2->Prop)->(Nat->List bP->A2->Prop)->(List bP->A2->Prop)->Prop
 | .skip,.run,env,w,Kn, _, _=>Kn env w
 | .region _ ops g,.run,env,w,Kn, _, _=>Og C N ops g env w Kn
 | .seq x y,m,env,w,Kn,Kx,Kr=>match m with
   | .run=>match aaP aS x y with
     |none=>cz C aS N x .run env w (λenv w=>cz C aS N y .run env w Kn Kx Kr) Kx Kr
     |some (b,sl)=> ∃J:oK (sl.map (·.2))->A2->Prop,
      cz C aS N x .run env w (λenv w=>match atR b y with
       |true=>NL sl J env w
       |false=>cz C aS N y (.to b (NL sl J)) env w Kn Kx Kr) Kx Kr/\
      ∀s w1,J s w1->jC (kZ sl s++env.filter λe=> !(oX b (.seq x y)).contains e.t) λc_=>match atR b y with
       |true=>cz C aS N y .run c_ w1 Kn Kx Kr
       |false=>cz C aS N y (.Wd b) c_ w1 Kn Kx Kr
   | .to b K=>cz C aS N x .run env w (λenv w=>match atR b y with
    |true=>K env w
    |false=>cz C aS N y (.to b K) env w Kn Kx Kr) Kx Kr
   | .Wd b=>match atR b y with
    |true=>cz C aS N y .run env w Kn Kx Kr
    |false=>cz C aS N y (.Wd b) env w Kn Kx Kr
 | .cond c x y,.run,env,w,Kn,Kx,Kr=>match xR env [] c with
   |some (.bool b)=>aJ b (cz C aS N x .run env w Kn Kx Kr) (cz C aS N y .run env w Kn Kx Kr)
   | _=>False
 | .block id x,.run,env,w,Kn,Kx,Kr=>cz C aS N x .run env w Kn (λa env w=>if a=id then Kn env w else Kx a env w) Kr
 | .loop x,.run,env,w, _,Kx,Kr=>
   let sl:=aS ((jD x).getD 0)
   match pf sl env with
   |none=>False
   |some h=> ∃I:Nat->oK (sl.map (·.2))->A2->Prop,(∃n, ∀w1,Ext w w1->I n h w1)/\
    ∀n s w1,I n s w1->jC (kZ sl s++env.filter λe=> !(writes x).contains e.t) λc_=>cz C aS N x .run c_ w1
     (λi j=>match pf sl i with
      |some k=> ∀d,Ext j d-> ∃f,f<n/\I f k d
      |none=>False) Kx Kr
 | .exit id,.run,env,w, _,Kx, _=>Kx id env w
 | .ret,.run,env,w, _, _,Kr=>Kr env w
 | _, _, _, _, _, _, _=>False
@[reducible] def rK (C:dH P) (aS:Nat->a7) (N:Nat) (c:Code) (env:List bP) (w:A2) (Kn:List bP->A2->Prop) (Kx:Nat->List bP->A2->Prop) (Kr:List bP->A2->Prop):Prop:=
 cz C aS N c .run env w Kn Kx Kr
def Qp (S:Nat->Option (Option AB)) (N:Nat) (D:List Deferred) (Kn:List bP->A2->Prop) (Kx:Nat->List bP->A2->Prop) (Kr:List bP->A2->Prop):Exit->Act->A2->Prop
 | .normal,a,w=> ∃env b,Kn env b/\plain env/\Fit S #[] N D env a/\Ext b w
 | .exit id,a,w=> ∃env b,Kx id env b/\plain env/\Fit S #[] N D env a/\Ext b w
 | .ret,a,w=> ∃env b,Kr env b/\plain env/\Fit S #[] N D env a/\Ext b w
 | _, _, _=>False
theorem T9 {ops:Array Oper} (h: ∀k∈TM ops,S k=none):Wr S ops:=λo a k b=>h k (by
 simp[TM]
 grind)
theorem PM {r:Option Nat} {C:dH P} {id:Nat} {ops:Array Oper} {b:Bool} {w w':A2} {Kn:List bP->A2->Prop} {Kx:Nat->List bP->A2->Prop} {Kr:List bP->A2->Prop}
 (m: ∀k∈TM ops,S k=none) (n:plain env) (o:Fit S #[] N D env a) (h:Og C N ops b env w Kn) (d:Ext w w'):
 (Code.region id ops b).wpIn (WF r) 0 P (Qp S N D Kn Kx Kr) a w':=by
 have e:Fit S ops N D env a:=o.PK n;have f:=T9 m;have p: ∀env a w w',Kn (kj env) w->Fit S ops N D env a->Ext w w'->Qp S N D Kn Kx Kr .normal a w':=λenv a w w' q l s=>
  ⟨_,w,q,(AY (ops':= #[]) l).2,(AY l).1,s⟩
 have t: ∀c a w,¬ Qp S N D Kn Kx Kr (.panic c) a w:=λ_ _ _ h=>h;simp only[Og,jI] at h;split at h
 ·split at h
  ·rename_i u;refine Au C.mixed u λg i=>?_;have:=F9 (C:=C) f _ env a w g _ e h (d.trans i)
   grind[Ea]
  ·split at h
   ·rename_i j
    simp_all
    refine Av C.mixed j.1 j.2 λg i=>?_;have:=OL (C:=C) j.1 f _ env a w g _ e h (d.trans i)
    grind[Eb]
   ·exact h.elim
 cases b with
 |false=>exact wpIn_region (by grind[OF])
 |true=>
  simp only[if_true] at h;split at h
  ·rename_i v;exact wpIn_region_any C.mixed (zp _ _ _ _ (n5 (T7 (C:=C) f v t env a w _ e h p) (d.trans (Ext.drew _))))
  ·exact AC h
theorem tr: ∀{l:a7} {s:oK (l.map (·.2))} {e:bP},e∈kZ l s->e.ch=[]/\e.g=none
 |sc::r,s,e,h=>by
  simp[kZ] at h;rcases h with rfl|h;simp
  ·exact tr h
theorem Ck: ∀{l:a7} {s:oK (l.map (·.2))} {e:bP},e∈kZ l s->e.k=none
 |t::r,s,e,h=>by
  simp[kZ] at h;rcases h with rfl|h
  ·rfl
  ·exact Ck h
theorem l6: ∀{l m:List bP} {t:Nat} {e:bP},bY (l++m) t=some e->(bY l t=some e)\/(bY l t=none/\bY m t=some e)
 |[],m,t,e,h=> .inr ⟨rfl,h⟩
 |x::r,m,t,e,h=>by
  simp[bY] at h ⊢;split at h
  grind
  ·rename_i a;rw[if_neg a];exact l6 h
theorem qh: ∀{l:a7} {env:List bP} {s:oK (l.map (·.2))} {t:Nat} {e:bP},pf l env=some s->bY (kZ l s) t=some e-> ∃e',bY env t=some e'/\e'.v=e.v
 |(t0,sc)::r,env,s,t,e,a,h=>by
  simp only[pf] at a;split at a
  ·rename_i c d;split at a
   ·rename_i x y f b;cases a;simp only[kZ,bY] at h;split at h
    ·grind[El.iu]
    ·exact qh b h
   ·cases a
  ·cases a
theorem yQ {l:List bP} {p:bP->Bool} {t:Nat} {e:bP} (h:bY (l.filter p) t=some e):e∈l/\p e=true:=by
 have:=bV h;simpa
theorem zt {F:Fence} {m:Nat} {Q:Exit->Act->A2->Prop} {c:Code} (R:Nat->Act->A2->Prop) {n0:Nat} {a:Act} {w:A2} (h0:R n0 a w)
 (round: ∀n a w,R n a w->c.wpIn F m P (Exit.then (λa' w'=> ∃d,d<n/\R d a' w') Q) a w):(Code.loop c).wpIn F m P Q a w:=by
 intro b k cs i hb g;have key: ∀j a w,R j a w->
  ∃e a' w',Q e a' w'/\ArrivesIn (Machine.fenced P F) P (lone (b.atR a (.code c:: .inLoop c::k)) cs w) b k cs e a' w':=by
  intro j
  induction j using N2 with
  | _ j l=>
    intro a w o;obtain⟨e,p,q,f,h⟩:=round j a w o b _ cs i hb g;cases e with
    |normal=>
     obtain⟨d,r,s⟩:=f;obtain⟨t,u,v,x,y⟩:=l d r _ _ s;exact⟨t,u,v,x,.of_steps (StepsIn.trans h (.one (fenced_calm hb g rfl) stepR_inLoop)) y⟩
    |exit
    |goto
    |ret
    |panic
    |outgrown=>exact⟨_,p,q,f,‹_›⟩
 obtain⟨e,a',w',f,h⟩:=key _ a w h0;exact⟨e,a',w',f,.of_steps (.one (fenced_calm hb g rfl) stepR_loop) h⟩
theorem YU (b:Nat) (c:Code): ∀t:Nat,t∈oX b c->t∈writes c:=by
 induction c with
 |seq=>
  grind[oX,writes]
 | _=>intro t h;cases h
structure Yn (P:Ax) (r:Option Nat) (C:dH P) (aS:Nat->a7) (N:Nat) (D:List Deferred) (c:Code):Prop where
 run: ∀(S:Nat->Option (Option AB)) (env:List bP) (a:Act) (w w':A2) (Kn:List bP->A2->Prop) (Kx:Nat->List bP->A2->Prop) (Kr:List bP->A2->Prop),
  (∀k∈writes c,S k=none)->plain env->Fit S #[] N D env a->cz C aS N c .run env w Kn Kx Kr->Ext w w'->c.wpIn (WF r) 0 P (Qp S N D Kn Kx Kr) a w'
 to: ∀(b:Nat) (K:List bP->A2->Prop) (S:Nat->Option (Option AB)) (env:List bP) (a:Act) (w w':A2) (Kn:List bP->A2->Prop) (Kx:Nat->List bP->A2->Prop) (Kr:List bP->A2->Prop) (Q:Exit->Act->A2->Prop),
  (∀k∈oX b c,S k=none)->plain env->Fit S #[] N D env a->cz C aS N c (.to b K) env w Kn Kx Kr->Ext w w'->(∀id a w,Qp S N D Kn Kx Kr (.exit id) a w->Q (.exit id) a w)->(∀a w,Qp S N D Kn Kx Kr .ret a w->Q .ret a w)->
  (∀y c_ a1 w1 z_,FN b c=some y->K c_ w1->plain c_->Fit S #[] N D c_ a1->Ext w1 z_->y.wpIn (WF r) 0 P Q a1 z_)->c.wpIn (WF r) 0 P Q a w'
 Wd: ∀(b:Nat) (S:Nat->Option (Option AB)) (env:List bP) (a:Act) (w w':A2) (Kn:List bP->A2->Prop) (Kx:Nat->List bP->A2->Prop) (Kr:List bP->A2->Prop) (y:Code),
  FN b c=some y->(∀k∈writes c,S k=none)->plain env->Fit S #[] N D env a->cz C aS N c (.Wd b) env w Kn Kx Kr->Ext w w'->y.wpIn (WF r) 0 P (Qp S N D Kn Kx Kr) a w'
theorem Yn.of {r:Option Nat} {C:dH P} {aS:Nat->a7} {c:Code} (h: ∀(S:Nat->Option (Option AB)) (env:List bP) (a:Act) (w w':A2) (Kn:List bP->A2->Prop) (Kx:Nat->List bP->A2->Prop) (Kr:List bP->A2->Prop),
 (∀k∈writes c,S k=none)->plain env->Fit S #[] N D env a->cz C aS N c .run env w Kn Kx Kr->Ext w w'->c.wpIn (WF r) 0 P (Qp S N D Kn Kx Kr) a w')
 (h1: ∀b K env w Kn Kx Kr,¬ cz C aS N c (.to b K) env w Kn Kx Kr) (d: ∀b env w Kn Kx Kr,¬ cz C aS N c (.Wd b) env w Kn Kx Kr):Yn P r C aS N D c:=
 ⟨h,by grind,by grind⟩
theorem GF {r:Option Nat} {C:dH P} {aS:Nat->a7}: ∀c:Code,Yn P r C aS N D c:=by
 intro c
 induction c with
 |skip=>exact .of (λS env a w w' Kn Kx Kr _ g f h l=>wpIn_skip ⟨env,w,h,g,f,l⟩) (λ_ _ _ _ _ _ _ h=>h) (λ_ _ _ _ _ _ h=>h)
 |region id ops draw=>exact .of (λS env a w w' Kn Kx Kr u g f h l=>PM u g f h l) (λ_ _ _ _ _ _ _ h=>h) (λ_ _ _ _ _ _ h=>h)
 |seq x y Tp M=>
  refine⟨?_,?_,?_⟩
  ·intro S env a w w' Kn Kx Kr u g f h l;simp only[cz] at h;split at h
   ·refine wpIn_seq (wpIn_mono (Tp.run S env a w w' _ Kx Kr (λk d=>u k (by simp[writes,d])) g f h l) ?_);intro e a1 w1 o;cases e with
    |normal=>
     obtain⟨c_,p,d,X,Y,Z⟩:=o;exact M.run S c_ a1 p w1 Kn Kx Kr (λk d=>u k (by simp[writes,d])) X Y d Z
    | _=>exact o
   ·rename_i b sl _;obtain⟨J,q,hJ⟩:=h;simp only[jI] at hJ
    let i:Nat->Option (Option AB):=λt=>if(oX b (.seq x y)).contains t then none else some (a.tmps[t]?)
    let du:=env.filter λe=> !(oX b (.seq x y)).contains e.t
    have nil: ∀(tm:Array AB),j8 #[] tm []:=λtm x q=>by cases q
    have DK: ∀t e,bY du t=some e->a.tmps[t]? =some e.v/\(oX b (.seq x y)).contains t=false/\e.ch=[]:=by
     intro t e he;have ht:=yE he;have H:=yQ he;have F:(oX b (.seq x y)).contains t=false:=by rw[<-ht];simpa using H.2
     have A:bY env t=some e:=iQ he (λy _ hyt=>by rw[hyt,F];rfl);exact⟨f.yes t e A (by rw[(g e H.1).1];exact nil _),F,(g e H.1).1⟩
    have head: ∀(m:List bP) (j:Act) (s:oK (sl.map (·.2))),plain m->Fit i #[] N D m j->pf sl m=some s->Fit i #[] N D (kZ sl s++du) j/\plain (kZ sl s++du):=by
     intro m j s sE B wP;have O:plain (kZ sl s++du):=λe he=>by
      rcases Do.1 he with he|he
      ·exact tr he
      ·exact g e (by simpa[du] using(Bx.1 he).1)
     refine⟨⟨B.off,B.size,B.qA,λt e he _=>?_,λt e he hn=>absurd (by rw[(O e (bV he)).1];exact nil _) hn,(λe he=>by rw[(O e he).2];exact(O e he).1),λe he b hb=>by
      rcases Do.1 he with he|he
      ·rw[Ck he] at hb;cases hb
      ·exact f.BL e (Bx.1 he).1 b hb⟩,O⟩
     rcases l6 he with he|⟨_,he⟩
     ·obtain⟨e',jO,hv⟩:=qh wP he;rw[<-hv];exact B.yes t e' jO (by rw[(sE e' (bV jO)).1];exact nil _)
     ·obtain⟨hv,F, _⟩:=DK t e he;have:=B.off t (a.tmps[t]?) (by simp only[i,F];rfl);rw[this,hv]
    have NM:Fit i #[] N D env a:=⟨λt x q=>by
     simp only[i] at q;split at q
     ·cases q
     ·cases q;rfl,f.size,f.qA,f.yes,f.no,f.Fx,f.BL⟩
    have back: ∀{m:List bP} {j:Act},Fit i #[] N D m j->Fit S #[] N D m j:=λ{m j} A=>⟨λt z G=>by
     have F:(oX b (.seq x y)).contains t=false:=by
      cases hc:(oX b (.seq x y)).contains t with
      |false=>rfl
      |true=>have:=u t (YU b _ t (by simpa using hc));rw[this] at G;cases G
     have h1:=A.off t (a.tmps[t]?) (by simp only[i,F];rfl);rw[h1];exact f.off t z G,A.size,A.qA,A.yes,A.no,A.Fx,A.BL⟩
    have Z6: ∀k∈oX b (.seq x y),i k=none:=λk d=>by simp[i,d]
    have abV: ∀k∈writes x,i k=none:=λk d=>Z6 k (by simp[oX,d]);have bx: ∀(id:Nat) (a:Act) (w:A2),Qp i N D Kn Kx Kr (.exit id) a w->Qp S N D Kn Kx Kr (.exit id) a w:=λid a w ⟨R,p,d,T,U,V⟩=>⟨R,p,d,T,back U,V⟩;have br: ∀(a:Act) (w:A2),Qp i N D Kn Kx Kr .ret a w->Qp S N D Kn Kx Kr .ret a w:=λa w ⟨R,p,d,T,U,V⟩=>⟨R,p,d,T,back U,V⟩;have G: ∀k∈writes y,S k=none:=λk d=>u k (by simp[writes,d]);refine wpIn_seq (wpIn_mono (Tp.run i env a w w' _ Kx Kr abV g NM q l) ?_);intro e a1 w1 o;cases e with
    |normal=>
     obtain⟨c_,p,d,X,Y,Z⟩:=o;cases E:atR b y with
     |true=>
      simp only[E] at d hJ;unfold NL at d;split at d
      ·rename_i s H;obtain⟨Xt,Xu⟩:=head c_ a1 s X Y H;exact M.run S _ a1 p w1 Kn Kx Kr G Xu (back Xt) (hJ s p d) Z
      ·exact d.elim
     |false=>
      simp only[E] at d hJ;have abW: ∀k∈oX b y,i k=none:=λk d=>Z6 k (by simp[oX,E,d]);refine M.to b (NL sl J) i c_ a1 p w1 Kn Kx Kr _ abW X Y d Z bx br ?_;intro y' m j L BQ W hK sE B xU;unfold NL at hK;split at hK
      ·rename_i s H;obtain⟨Xt,Xu⟩:=head m j s sE B H;exact M.Wd b S _ j L BQ Kn Kx Kr y' W G Xu (back Xt) (hJ s L hK) xU
      ·exact hK.elim
    |exit id=>exact bx id a1 w1 o
    |ret=>exact br a1 w1 o
    | _=>exact o
  ·intro b K S env a w w' Kn Kx Kr Q u g f h l q hr xY;simp only[cz] at h;refine wpIn_seq (wpIn_mono (Tp.run S env a w w' _ Kx Kr (λk d=>u k (by simp[oX,d])) g f h l) ?_);intro e a1 w1 o;cases e with
   |normal=>
    obtain⟨c_,p,d,X,Y,Z⟩:=o;cases E:atR b y with
    |true=>
     simp only[E] at d;exact xY y c_ a1 p w1 (by simp[FN,E]) d X Y Z
    |false=>
     simp only[E] at d;exact M.to b K S c_ a1 p w1 Kn Kx Kr Q (λk d=>u k (by simp[oX,E,d])) X Y d Z q hr (λy' m j L BQ W=>xY y' m j L BQ (by simp[FN,E,W]))
   |exit id=>exact q id a1 w1 o
   |ret=>exact hr a1 w1 o
   | _=>exact o.elim
  ·intro b S env a w w' Kn Kx Kr y' W u g f h l;simp only[cz] at h;have G: ∀k∈writes y,S k=none:=λk d=>u k (by simp[writes,d]);cases E:atR b y with
   |true=>
    simp only[E] at h;simp only[FN,E,DA] at W;subst W;exact M.run S env a w w' Kn Kx Kr G g f h l
   |false=>
    simp only[E] at h;simp only[FN,E] at W;exact M.Wd b S env a w w' Kn Kx Kr y' W G g f h l
 |cond c x y Tp M=>
  refine .of ?_ (λ_ _ _ _ _ _ _ h=>h) (λ_ _ _ _ _ _ h=>h);intro S env a w w' Kn Kx Kr u g f h l;simp only[cz] at h;split at h
  ·rename_i b hb;have Xv:=f.ev (ch:=[]) (λ_ q=>by cases q) hb;refine wpIn_cond_split Xv (λht=>Tp.run S env a w w' Kn Kx Kr (λk d=>u k (by simp[writes,d])) g f (D6 h ht) l) (λht=>M.run S env a w w' Kn Kx Kr (λk d=>u k (by simp[writes,d])) g f (AV h ht) l)
  ·exact AC h
 |block id x ih=>
  refine .of ?_ (λ_ _ _ _ _ _ _ h=>h) (λ_ _ _ _ _ _ h=>h);intro S env a w w' Kn Kx Kr u g f h l;refine wpIn_block (wpIn_mono (ih.run S env a w w' Kn _ Kr u g f h l) ?_);intro e a1 w1 o;cases e with
  |exit Xs=>
   obtain⟨c_,p,d,rest⟩:=o;simp only[Exit.inBlock];split
   ·rename_i he;simp only[he,if_true] at d;exact⟨c_,p,d,rest⟩
   ·rename_i he;simp only[he,if_false] at d;exact⟨c_,p,d,rest⟩
  | _=>exact o
 |exit id=>exact .of (λS env a w w' Kn Kx Kr _ g f h l=>wpIn_exit ⟨env,w,h,g,f,l⟩) (λ_ _ _ _ _ _ _ h=>h) (λ_ _ _ _ _ _ h=>h)
 |ret=>exact .of (λS env a w w' Kn Kx Kr _ g f h l=>wpIn_ret ⟨env,w,h,g,f,l⟩) (λ_ _ _ _ _ _ _ h=>h) (λ_ _ _ _ _ _ h=>h)
 |loop x ih=>
  refine .of ?_ (λ_ _ _ _ _ _ _ h=>h) (λ_ _ _ _ _ _ h=>h);intro S env a w w' Kn Kx Kr u g f h l;simp only[cz,jI] at h;split at h
  ·exact AC h
  ·rename_i s0 hs0;obtain⟨I,⟨n0,h0⟩,pj⟩:=h
   let sl:=aS ((jD x).getD 0)
   let i:Nat->Option (Option AB):=λt=>if(writes x).contains t then none else some (a.tmps[t]?)
   let du:=env.filter λe=> !(writes x).contains e.t
   have nil: ∀(tm:Array AB),j8 #[] tm []:=λtm x q=>by cases q
   have DK: ∀t e,bY du t=some e->a.tmps[t]? =some e.v/\(writes x).contains t=false/\e.ch=[]:=by
    intro t e he;have ht:=yE he;have H:=yQ he;have F:(writes x).contains t=false:=by rw[<-ht];simpa using H.2
    have A:bY env t=some e:=iQ he (λy _ hyt=>by rw[hyt,F];rfl);exact⟨f.yes t e A (by rw[(g e H.1).1];exact nil _),F,(g e H.1).1⟩
   have head: ∀(m:List bP) (j:Act) (s:oK (sl.map (·.2))),plain m->Fit i #[] N D m j->pf sl m=some s->Fit i #[] N D (kZ sl s++du) j/\plain (kZ sl s++du):=by
    intro m j s sE B wP;have O:plain (kZ sl s++du):=λe he=>by
     rcases Do.1 he with he|he
     ·exact tr he
     ·exact g e (by simpa[du] using(Bx.1 he).1)
    refine⟨⟨B.off,B.size,B.qA,λt e he _=>?_,λt e he hn=>absurd (by rw[(O e (bV he)).1];exact nil _) hn,(λe he=>by rw[(O e he).2];exact(O e he).1),λe he b hb=>by
     rcases Do.1 he with he|he
     ·rw[Ck he] at hb;cases hb
     ·exact f.BL e (Bx.1 he).1 b hb⟩,O⟩
    rcases l6 he with he|⟨_,he⟩
    ·obtain⟨e',jO,hv⟩:=qh wP he;rw[<-hv];exact B.yes t e' jO (by rw[(sE e' (bV jO)).1];exact nil _)
    ·obtain⟨hv,F, _⟩:=DK t e he;have:=B.off t (a.tmps[t]?) (by simp only[i,F];rfl);rw[this,hv]
   have NM:Fit i #[] N D env a:=⟨λt x q=>by
    simp only[i] at q;split at q
    ·cases q
    ·cases q;rfl,f.size,f.qA,f.yes,f.no,f.Fx,f.BL⟩
   have back: ∀{m:List bP} {j:Act},Fit i #[] N D m j->Fit S #[] N D m j:=λ{m j} A=>⟨λt y G=>by
    have F:(writes x).contains t=false:=by
     cases hc:(writes x).contains t with
     |false=>rfl
     |true=>have:=u t (by simpa[writes] using hc);rw[this] at G;cases G
    have h1:=A.off t (a.tmps[t]?) (by simp only[i,F];rfl);rw[h1];exact f.off t y G,A.size,A.qA,A.yes,A.no,A.Fx,A.BL⟩
   have Z6: ∀k∈writes x,i k=none:=λk d=>by simp[i,d]
   obtain⟨hF4,hp4⟩:=head env a s0 g NM hs0;refine zt (λn j L=> ∃s,I n s L/\Fit i #[] N D (kZ sl s++du) j/\plain (kZ sl s++du)) (n0:=n0) ⟨s0,h0 w' l,hF4,hp4⟩ ?_;intro n j L ⟨s,hI,B,sE⟩;have hb:=ih.run i _ j L L _ Kx Kr Z6 sE B (pj n s L hI) (Ext.refl _);refine wpIn_mono hb ?_;intro e a3 w3 o;cases e with
   |normal=>
    obtain⟨R,p,d,T,U,V⟩:=o;simp only[Exit.then];split at d
    ·rename_i s3 hs3;obtain⟨n',jm,hI'⟩:=d w3 V;obtain⟨Xt,Xu⟩:=head R a3 s3 T U hs3;exact⟨n',jm,s3,hI',Xt,Xu⟩
    ·exact d.elim
   |exit id=>obtain⟨R,p,d,T,U,V⟩:=o;exact⟨R,p,d,T,back U,V⟩
   |ret=>obtain⟨R,p,d,T,U,V⟩:=o;exact⟨R,p,d,T,back U,V⟩
   | _=>exact o
 | _=>exact .of (λS env a w w' Kn Kx Kr u g f h l=>AC h) (λ_ _ _ _ _ _ _ h=>h) (λ_ _ _ _ _ _ h=>h)
theorem qi {r:Option Nat} {C:dH P} {aS:Nat->a7}: ∀(c:Code) (S:Nat->Option (Option AB)) (env:List bP) (a:Act) (w w':A2) (Kn:List bP->A2->Prop) (Kx:Nat->List bP->A2->Prop) (Kr:List bP->A2->Prop),
 (∀k∈writes c,S k=none)->plain env->Fit S #[] N D env a->rK C aS N c env w Kn Kx Kr->Ext w w'->c.wpIn (WF r) 0 P (Qp S N D Kn Kx Kr) a w':=λc=>(GF c).run
def jE:List AB->Nat->List bP
 |[], _=>[]
 |v::r,i=>⟨i,[],none,v,none⟩::jE r (i+1)
def nQ:List ResultVar->List bP->Option (List AB)
 |[], _=>some []
 | .tmp t::r,env=>match bY env t,nQ r env with
   |some e,some l=>some (e.v::l)
   | _, _=>none
 | .cell .. :: _, _=>none
def J1 (l:List AB):AB:=
 match l with
 |[v]=>v
 |l=> .tuple ⟨l⟩
def aM (C:dH P) (aS:Nat->a7) (f:B4) (args:List AB) (w:A2) (Post:(uG C f).T->A2->Prop):Prop:=
 match P.funcs[f]? with
 |none=>False
 |some fn=>match fn.body with
  |none=>False
  |some c=>
   let fin:List bP->A2->Prop:=λenv w=>match nQ fn.results.toList env with
    |some l=>match (uG C f).proj (J1 l) with
     |some x=>au w (λw1=>Post x w1)
     |none=>False
    |none=>False
   if args.length<=fn.ntmps then rK C aS fn.ntmps c (jE args 0) w fin (λ_ _ _=>False) fin else False
theorem pN: ∀{l:List AB} {i t:Nat} {e:bP},bY (jE l i) t=some e->i<=t/\l[t - i]? =some e.v/\e.ch=[]/\e.g=none
 |v::r,i,t,e,h=>by
  simp[jE,bY] at h;split at h
  grind
  ·obtain:=pN h
   grind
theorem yR: ∀{l:List AB} {i:Nat} {e:bP},e∈jE l i->e.k=none
 |v::r,i,e,h=>by
  simp[jE] at h;rcases h with rfl|h
  ·rfl
  ·exact yR h
theorem rU: ∀{l:List AB} {i:Nat} {e:bP},e∈jE l i->e.ch=[]/\e.g=none
 |v::r,i,e,h=>by
  simp[jE] at h;rcases h with rfl|h;simp
  ·exact rU h
def nH (tmps:Array AB):ResultVar->Sem AB
 | .tmp t=>pure (tmps.getD t undef)
 | .cell a t=>do loadVar t (<-asAddr (tmps.getD a undef))
theorem vT {tmps:Array AB} {w:A2}: ∀{l:List ResultVar} {env:List bP} {vs:List AB},nQ l env=some vs->(∀t e,bY env t=some e->tmps[t]? =some e.v)->
 (l.mapM (nH tmps)).run P w= .ok vs w
 |[], _, _,h, _=>by simp_all[nQ]
 | .tmp t::r,env,vs,h,hv=>by
   simp[nQ] at h;split at h
   ·rename_i e l b a;have c:=vT (w:=w) a hv
    simp_all[nH]
   grind
theorem E8 {fn:Func} {tmps:Array AB} {w:A2} {env:List bP} {vs:List AB} (h:nQ fn.results.toList env=some vs) (hv: ∀t e,bY env t=some e->tmps[t]? =some e.v):
 (results fn tmps).run P w= .ok (J1 vs) w:=by
 have h1:=vT (P:=P) (w:=w) h hv;have a:(fn.results.mapM (nH tmps)).run P w= .ok ⟨vs⟩ w:=by
  simp_all[JW]
 have e:results fn tmps=(do
  let vs<-fn.results.mapM (nH tmps)
  pure _):=rfl
 rw[e,Az,a]
 match vs with
 |[]=>rfl
 |[v]=>rfl
 |v::u::r=>rfl
theorem ai {C:dH P} {aS:Nat->a7} {f:B4} {args:List AB} {w:A2} {Post:(uG C f).T->A2->Prop} (h:aM C aS f args w Post):aE P f (uG C f) args w Post:=by
 unfold aM at h;split at h
 ·exact AC h
 ·rename_i fn p;split at h
  ·exact AC h
  ·rename_i c hb;simp only at h;split at h
   ·rename_i B;have g:plain (jE args 0):=λe a=>rU a;have nil: ∀(o:Array Oper) (k:Array AB),j8 o k []:=λo k x d=>by cases d
    have q:Fit (λ_=>none) #[] fn.ntmps [] (jE args 0) {tmps:=(⟨args⟩:Array AB)++Dy (fn.ntmps - args.length) undef,defers:=[]}:=by
     refine⟨(λ_ _ d=>by cases d),(by simp;omega),rfl,λt e a _=>?_,λt e a s=>absurd (by rw[(g e (bV a)).1];exact nil _ _) s,(λe a=>by rw[(g e a).2];exact(g e a).1),by grind[yR]⟩;obtain⟨_,hv, _⟩:=pN a
     grind
    have u:=qi (r:=none) (C:=C) (aS:=aS) c (λ_=>none) _ _ w w _ _ _ (λ_ _=>rfl) g q h (Ext.refl w);refine calls_of_wp p hb ((wpIn_wide (n:=0)).1 (wpIn_mono u ?_));have fin: ∀a1 w1,(∃env j,(match nQ fn.results.toList env with
     |some l=>match (uG C f).proj (J1 l) with
      |some x=> ∀w1,Ext j w1->Post x w1
      |none=>False
     |none=>False)/\plain env/\Fit (λ_=>none) #[] fn.ntmps [] env a1/\Ext j w1)->a1.defers=[]/\ ∃v,(results fn a1.tmps).run P w1= .ok v w1/\ ∃x:(uG C f).T,Ending.returned v= .returned ((uG C f).gz x)/\Post x w1:=by
     intro a1 w1 ⟨env,j,b,y,m,z⟩;split at b
     ·rename_i l A;split at b
      ·rename_i x d;refine⟨m.qA, _,E8 A (λt e a=>m.yes t e a (by rw[(y e (bV a)).1];exact nil _ _)),x,by rw[Sh.iu d],b w1 z⟩
      ·exact b.elim
     ·exact b.elim
    intro e a1 w1 i;cases e with
    |normal=>exact fin a1 w1 i
    |ret=>exact fin a1 w1 i
    |exit id=>obtain⟨_, _,b, _⟩:=i;exact b.elim
    | _=>exact(show False from i).elim
   ·exact AC h
variable {P:Ax}
abbrev qB:=List bP->List Nat->A2->Prop
def marks (D:List Nat):List Deferred:=D.map λr=>{target:= .collected r,args:= #[]}
def yf:Code->Bool
 | .rangeFunc .. =>true
 | .seq a b=>yf a||yf b
 | .cond _ a b=>yf a||yf b
 | .block _ b=>yf b
 | .loop b=>yf b
 | _=>false
def sI (w:A2) (l:Nat) (rec:Loop) (st:LoopState) (a:Option Code):A2:=w.putObj l (.loop {rec with state:=st,pending:=a})
def cT (w:A2) (l:Nat) (rec:Loop) (st:LoopState) (a:Option Code):Prop:=w.heap[l]? =some (.loop {rec with state:=st,pending:=a})
def DL:List Nat->A2->Prop
 |[], _=>True
 |r::D,w=>w.heap[r]? =some (.deferred (some []))/\DL D (w.putObj r (.deferred none))
def ml:List Nat->A2->A2
 |[],w=>w
 |r::D,w=>ml D (w.putObj r (.deferred none))
def BR (l:Nat) (rec:Loop) (w:A2) (K:A2->Prop):Prop:= ∀a,Ext w a-> ∃b,cT a l rec .ready b/\K (sI a l rec .busy b)
def sk (l:Nat) (rec:Loop) (a:Option Code) (w:A2) (R:Bool->A2->Prop):Prop:= ∀b,Ext w b-> ∃st c,cT b l rec st c/\R a.isNone (sI b l rec (if a.isNone then .ready else .done) a)
def Dg (l:Nat) (rec:Loop) (n m:Nat) (w:A2) (K:Prop):Prop:=(∃a,cT w l rec .ready a)/\n=m/\K
def sq (D:List Nat) (w:A2) (K:A2->Prop):Prop:= ∀w1,Ext w w1->DL D w1/\K (ml D w1)
def zZ (P:Ax) (b:B4) (args:Nat->List AB) (ps:Array Nat) (w:A2) {T:Type} (c:T->List AB) (d:Nat->Loop->T->A2->(Bool->A2->Prop)->Prop) (f:Nat->Loop->A2->Prop):Prop:=
 ∀w1,Ext w w1-> ∀rec:Loop,rec.params=ps->rec.defers=w1.heap.size->rec.state= .ready->rec.pending=none->
  (∀(x:T) a R,d (w1.heap.size+1) rec x a R->mh P (w1.heap.size+1) (c x) a R)->
  Calls P b ⟨args (w1.heap.size+1)⟩ ((w1.alloc (.deferred (some []))).alloc (.loop rec)) (λe g=> ∃v,e= .returned v/\f w1.heap.size rec g)
def IK (C:dH P) (aS:Nat->a7) (N:Nat) (l:Nat) (rec:Loop) (ps:List Nat) (assign body:Code) (env:List bP) (args:List AB) (w:A2) (R:Bool->A2->Prop):Prop:=
 Dg l rec args.length ps.length w
 (jC ((ps.zip args).reverse.map (λx=>⟨x.1,[],none,x.2,none⟩)++env) λb=>rK C aS N assign b w
  (λc_ a=>BR l rec a λc=>
   rK C aS N body c_ c
    (λ_ a=>sk l rec none a R)
    (λid _ a=>sk l rec (some (.exit id)) a R)
    (λ_ a=>sk l rec (some .ret) a R))
  (λ_ _ _=>False) (λ_ _=>False))
def dx (l:Nat) (rec:Loop) (a:A2) (Kn:A2->Prop) (Kx:Nat->A2->Prop) (Kr:A2->Prop):Prop:=
 ∃st b,cT a l rec st b/\st≠ .busy/\
  match b with
  |none=>Kn (sI a l rec .exhausted (none))
  |some (.exit id)=>Kx id (sI a l rec .exhausted (some (.exit id)))
  |some .ret=>Kr (sI a l rec .exhausted (some .ret))
  | _=>False
def Nu (C:dH P) (aS:Nat->a7) (N:Nat):Code->List bP->List Nat->A2->qB->(Nat->qB)->qB->Prop
 | .seq x y,env,D,w,Kn,Kx,Kr=>Nu C aS N x env D w (λenv D w=>Nu C aS N y env D w Kn Kx Kr) Kx Kr
 | .cond c x y,env,D,w,Kn,Kx,Kr=>match xR env [] c with
   |some (.bool b)=>aJ b (Nu C aS N x env D w Kn Kx Kr) (Nu C aS N y env D w Kn Kx Kr)
   | _=>False
 | .block id x,env,D,w,Kn,Kx,Kr=>Nu C aS N x env D w Kn (λf env D w=>if f=id then Kn env D w else Kx f env D w) Kr
 | .loop x,env,D,w,Kn,Kx,Kr=>
   if yf x then
    let sl:=aS ((jD x).getD 0)
    match pf sl env with
    |none=>False
    |some j=> ∃I:Nat->oK (sl.map (·.2))->List Nat->A2->Prop,(∃n, ∀w1,Ext w w1->I n j D w1)/\
     ∀n s D1 w1,I n s D1 w1->jC (kZ sl s++env.filter λe=> !(writes x).contains e.t) λc_=>Nu C aS N x c_ D1 w1
      (λk D2 m=>match pf sl k with
       |some o=> ∀d,Ext m d-> ∃h,h<n/\I h o D2 d
       |none=>False) Kx Kr
   else rK C aS N (.loop x) env w (λenv w=>Kn env D w) (λid env w=>Kx id env D w) (λenv w=>Kr env D w)
 | .rangeFunc g ps assign body,env,D,w,Kn,Kx,Kr=>
   match xR env [] g with
   |some (.func (.func i) first cap)=>
    if bL P i&&ps.toList.all (λp=>decide (p<N)) then
     zZ P i (λy=>cY first [.func (.yield y) #[] #[]] cap) ps w (λ(x:oK ((aS ((jD body).getD 0)).map (·.2)))=>uW _ x)
      (λl rec x d R=>IK C aS N l rec ps.toList assign body env (uW _ x) d R)
      (λr rec q=>dx (r+1) rec q (λa=>Kn env (r::D) a) (λid a=>Kx id env (r::D) a) (λa=>Kr env (r::D) a))
    else False
   | _=>False
 |c,env,D,w,Kn,Kx,Kr=>rK C aS N c env w (λenv w=>Kn env D w) (λid env w=>Kx id env D w) (λenv w=>Kr env D w)
def QpF (S:Nat->Option (Option AB)) (N:Nat) (Kn:qB) (Kx:Nat->qB) (Kr:qB):Exit->Act->A2->Prop
 | .normal,a,w=> ∃env D b,Kn env D b/\plain env/\Fit S #[] N (marks D) env a/\Ext b w
 | .exit id,a,w=> ∃env D b,Kx id env D b/\plain env/\Fit S #[] N (marks D) env a/\Ext b w
 | .ret,a,w=> ∃env D b,Kr env D b/\plain env/\Fit S #[] N (marks D) env a/\Ext b w
 | _, _, _=>False
theorem YV {S:Nat->Option (Option AB)} {N:Nat} {Kn:qB} {Kx:Nat->qB} {Kr:qB} {D:List Nat}: ∀(e:Exit) (a:Act) (w:A2),
 Qp S N (marks D) (λenv w=>Kn env D w) (λid env w=>Kx id env D w) (λenv w=>Kr env D w) e a w->QpF S N Kn Kx Kr e a w
 | .normal, _, _,⟨env,b,h⟩=>⟨env,D,b,h⟩
 | .exit _, _, _,⟨env,b,h⟩=>⟨env,D,b,h⟩
 | .ret, _, _,⟨env,b,h⟩=>⟨env,D,b,h⟩
theorem zu {N:Nat} {D:List Deferred}: ∀(l:List (Nat×AB)) (env:List bP) (tmps:Array AB),(∀x∈l,x.1<N)->plain env->Fit (λ_=>none) #[] N D env {tmps,defers:=D}->
 Fit (λ_=>none) #[] N D (l.reverse.map (λx=>⟨x.1,[],none,x.2,none⟩)++env) {tmps:=l.foldl (λtmps (t,a)=>tmps.setIfInBounds t a) tmps,defers:=D}/\plain (l.reverse.map (λx=>(⟨x.1,[],none,x.2,none⟩:bP))++env)
 |[],env,tmps, _,b,h=>⟨h,b⟩
 |(t,v)::r,env,tmps,c,b,h=>by
  have f:plain (⟨t,[],none,v,none⟩::env):=λe he=>by
   rcases Ca.1 he with rfl|he;simp
   ·exact b e he
  have h1:=by
   have:=h.put (g:=none) (d:=some t) (u:=v) (by
    have:=c (t,v) (by grind);simp[o_,this];intro e he;rw[(b e he).1];simp) (λ_ _=>rfl) rfl (λ_=>rfl) (λi=>absurd (λx j=>by cases j) i)
   exact this
  have:=zu r _ _ (by grind) f h1
  grind
theorem GG {w:A2} {l:Nat} {rec:Loop} {a:Option Code} (h:cT w l rec .ready a):(Instr.beginRound l).run P w= .ok () (w.putObj l (.loop {rec with state:= .busy,pending:=a})):=
 run_beginRound h rfl
theorem yS {w:A2} {l:Nat} {rec:Loop} {st:LoopState} {b:Option Code} (a:Option Code) (h:cT w l rec st b):
 (Instr.endRound l a).run P w= .ok (.bool a.isNone) (w.putObj l (.loop {rec with state:=if a.isNone then .ready else .done,pending:=a})):=
 run_endRound (r:={rec with state:=st,pending:=b}) a h
theorem GH {C:dH P} {aS:Nat->a7} {N l:Nat} {rec:Loop} {assign body:Code} {env:List bP} {args:List AB} {w:A2} {R:Bool->A2->Prop} {tmps:Array AB} {D0:List Deferred}
 (u:rec.tmps=tmps) (v:rec.assign=assign) (hb:rec.body=body) (y: ∀p∈rec.params.toList,p<N) (z:plain env) (b:Fit (λ_=>none) #[] N D0 env {tmps,defers:=D0})
 (h:IK C aS N l rec rec.params.toList assign body env args w R):mh P l args w R:=by
 obtain⟨⟨A,B⟩,E,o⟩:=h;rw[jI] at o;refine⟨{rec with state:= .ready,pending:=A},B,by simpa using E,?_⟩;have G:Fit (λ_=>none) #[] N [] env {tmps,defers:=[]}:=⟨b.off,b.size,rfl,b.yes,b.no,b.Fx,b.BL⟩;obtain⟨H,I⟩:=zu (D:=[]) (rec.params.toList.zip args) env tmps (λx J=>y x.1 (List.of_mem_zip J).1) z G;have e:(rec.params.zip (⟨args⟩:Array AB)).foldl (λtmps (t,a)=>tmps.setIfInBounds t a) rec.tmps=(rec.params.toList.zip args).foldl (λtmps (t,a)=>tmps.setIfInBounds t a) tmps:=by
  rw[u, <-Array.foldl_toList];simp
 rw[e,v,hb];refine roundIn_of_wpIn (F:=WF none) trivial ?_;have h1:=qi (r:=some l) (C:=C) (aS:=aS) assign (λ_=>none) _ _ w w _ _ _ (λ_ _=>rfl) I H o (Ext.refl w);refine wpIn_mono h1 ?_;intro K a1 w1 k;cases K with
 |normal=>
  obtain⟨c_,V,m,L,M,O⟩:=k;obtain⟨W,Q,S⟩:=m w1 O;refine⟨_,GG Q,?_⟩;have T:=qi (r:=some l) (C:=C) (aS:=aS) body (λ_=>none) _ _ _ _ _ _ _ (λ_ _=>rfl) L M S (Ext.refl _);refine wpIn_mono T ?_;intro U X n j;cases U with
  |normal=>
   obtain⟨_,q,d, _, _,f⟩:=j;obtain⟨st,s,g,i⟩:=d n f;exact⟨_, _,yS none g,true,rfl,i⟩
  |exit id=>
   obtain⟨_,q,d, _, _,f⟩:=j;obtain⟨st,s,g,i⟩:=d n f;exact⟨_, _,yS (some (.exit id)) g,false,rfl,i⟩
  |ret=>
   obtain⟨_,q,d, _, _,f⟩:=j;obtain⟨st,s,g,i⟩:=d n f;exact⟨_, _,yS (some .ret) g,false,rfl,i⟩
  |goto t
  |panic c
  |outgrown=>exact AC j
 |exit id
 |ret=>obtain⟨_, _,m, _⟩:=k;exact AC m
 |goto t
 |panic c
 |outgrown=>exact AC k
variable {P:Ax} {N:Nat}
theorem A3 {C:dH P} {aS:Nat->a7} {c:Code} {S:Nat->Option (Option AB)} {env:List bP} {D:List Nat} {a:Act} {w w':A2} {Kn:qB} {Kx:Nat->qB} {Kr:qB}
 (b: ∀k∈writes c,S k=none) (d:plain env) (e:Fit S #[] N (marks D) env a) (h:rK C aS N c env w (λenv w=>Kn env D w) (λid env w=>Kx id env D w) (λenv w=>Kr env D w)) (f:Ext w w'):
 c.wpIn (WF none) 0 P (QpF S N Kn Kx Kr) a w':=
 wpIn_mono (qi c S env a w w' _ _ _ b d e h f) YV
theorem GI {w:A2} {l:Nat} {rec:Loop} {st:LoopState} {a:Option Code} (h:cT w l rec st a) (hb:st≠ .busy):
 (Instr.endLoop l).run P w= .ok a (w.putObj l (.loop {rec with state:= .exhausted,pending:=a})):=
 run_endLoop h hb
theorem YW {C:dH P} {aS:Nat->a7}: ∀(c:Code) (S:Nat->Option (Option AB)) (env:List bP) (D:List Nat) (a:Act) (w w':A2) (Kn:qB) (Kx:Nat->qB) (Kr:qB),
 (∀k∈writes c,S k=none)->plain env->Fit S #[] N (marks D) env a->Nu C aS N c env D w Kn Kx Kr->Ext w w'->c.wpIn (WF none) 0 P (QpF S N Kn Kx Kr) a w':=by
 intro c
 induction c with
 |seq x y Q T=>
  intro S env D a w w' Kn Kx Kr j i d h l;refine wpIn_seq (wpIn_mono (Q S env D a w w' _ Kx Kr (λk f=>j k (by simp[writes,f])) i d h l) ?_);intro e a1 w1 r;cases e with
  |normal=>
   obtain⟨c_,D1,u,f,De,sC,wM⟩:=r;exact T S c_ D1 a1 u w1 Kn Kx Kr (λk f=>j k (by simp[writes,f])) De sC f wM
  | _=>exact r
 |cond c x y Q T=>
  intro S env D a w w' Kn Kx Kr j i d h l;simp only[Nu] at h;split at h
  ·rename_i b hb;have U:=d.ev (ch:=[]) (λ_ m=>by cases m) hb;exact wpIn_cond_split U (λF=>Q S env D a w w' Kn Kx Kr (λk f=>j k (by simp[writes,f])) i d (D6 h F) l) (λF=>T S env D a w w' Kn Kx Kr (λk f=>j k (by simp[writes,f])) i d (AV h F) l)
  ·exact AC h
 |block id x V=>
  intro S env D a w w' Kn Kx Kr j i d h l;refine wpIn_block (wpIn_mono (V S env D a w w' Kn _ Kr j i d h l) ?_);intro e a1 w1 r;cases e with
  |exit Xs=>
   obtain⟨c_,D1,u,f,rest⟩:=r;simp only[Exit.inBlock];split
   ·rename_i he;simp only[he,if_true] at f;exact⟨c_,D1,u,f,rest⟩
   ·rename_i he;simp only[he,if_false] at f;exact⟨c_,D1,u,f,rest⟩
  | _=>exact r
 |loop x V=>
  intro S env D a w w' Kn Kx Kr j i d h l;simp only[Nu,jI] at h;split at h
  ·split at h
   ·exact AC h
   ·rename_i Z hs0;obtain⟨I,⟨n0,h0⟩,pj⟩:=h
    let sl:=aS ((jD x).getD 0)
    let o:Nat->Option (Option AB):=λt=>if(writes x).contains t then none else some (a.tmps[t]?)
    let du:=env.filter λe=> !(writes x).contains e.t
    have nil: ∀(tm:Array AB),j8 #[] tm []:=λtm x m=>by cases m
    have DK: ∀t e,bY du t=some e->a.tmps[t]? =some e.v/\(writes x).contains t=false/\e.ch=[]:=by
     intro t e he;have F:=yE he;have W:=yQ he;have E:(writes x).contains t=false:=by rw[<-F];simpa using W.2
     have z:bY env t=some e:=iQ he (λy _ hyt=>by rw[hyt,E];rfl);exact⟨d.yes t e z (by rw[(i e W.1).1];exact nil _),E,(i e W.1).1⟩
    have head: ∀(A:List bP) (D2:List Nat) (p:Act) (s:oK (sl.map (·.2))),plain A->Fit o #[] N (marks D2) A p->pf sl A=some s->Fit o #[] N (marks D2) (kZ sl s++du) p/\plain (kZ sl s++du):=by
     intro A D2 p s X q wP;have O:plain (kZ sl s++du):=λe he=>by
      rcases Do.1 he with he|he
      ·exact tr he
      ·exact i e (by simpa[du] using(Bx.1 he).1)
     refine⟨⟨q.off,q.size,q.qA,λt e he _=>?_,λt e he hn=>absurd (by rw[(O e (bV he)).1];exact nil _) hn,(λe he=>by rw[(O e he).2];exact(O e he).1),λe he b hb=>by
     rcases Do.1 he with he|he
     ·rw[Ck he] at hb;cases hb
     ·exact d.BL e (Bx.1 he).1 b hb⟩,O⟩
     rcases l6 he with he|⟨_,he⟩
     ·obtain⟨e',jO,hv⟩:=qh wP he;rw[<-hv];exact q.yes t e' jO (by rw[(X e' (bV jO)).1];exact nil _)
     ·obtain⟨hv,E, _⟩:=DK t e he;have:=q.off t (a.tmps[t]?) (by simp only[o,E];rfl);rw[this,hv]
    have NM:Fit o #[] N (marks D) env a:=⟨λt x m=>by
     simp only[o] at m;split at m
     ·cases m
     ·cases m;rfl,d.size,d.qA,d.yes,d.no,d.Fx,d.BL⟩
    have back: ∀{A:List bP} {D2:List Nat} {p:Act},Fit o #[] N (marks D2) A p->Fit S #[] N (marks D2) A p:=λ{A D2 p} z=>⟨λt y Y=>by
     have E:(writes x).contains t=false:=by
      cases hc:(writes x).contains t with
      |false=>rfl
      |true=>have:=j t (by simpa[writes] using hc);rw[this] at Y;cases Y
     have h1:=z.off t (a.tmps[t]?) (by simp only[o,E];rfl);rw[h1];exact d.off t y Y,z.size,z.qA,z.yes,z.no,z.Fx,z.BL⟩
    have Z6: ∀k∈writes x,o k=none:=λk f=>by simp[o,f]
    obtain⟨hF4,hp4⟩:=head env D a Z i NM hs0;refine zt (λn p G=> ∃s D2,I n s D2 G/\Fit o #[] N (marks D2) (kZ sl s++du) p/\plain (kZ sl s++du)) (n0:=n0) ⟨Z,D,h0 w' l,hF4,hp4⟩ ?_;intro n p G ⟨s,D2,hI,q,X⟩;have hb:=V o _ D2 p G G _ Kx Kr Z6 X q (pj n s D2 G hI) (Ext.refl _);refine wpIn_mono hb ?_;intro e a3 w3 r;cases e with
    |normal=>
     obtain⟨H,D3,u,f,J,K,L⟩:=r;simp only[Exit.then];split at f
     ·rename_i s3 hs3;obtain⟨n',jm,hI'⟩:=f w3 L;obtain⟨Xt,Xu⟩:=head H D3 a3 s3 J K hs3;exact⟨n',jm,s3,D3,hI',Xt,Xu⟩
     ·exact AC f
    |exit id=>obtain⟨H,D3,u,f,J,K,L⟩:=r;exact⟨H,D3,u,f,J,back K,L⟩
    |ret=>obtain⟨H,D3,u,f,J,K,L⟩:=r;exact⟨H,D3,u,f,J,back K,L⟩
    | _=>exact r
  ·exact A3 (C:=C) (aS:=aS) j i d h l
 |rangeFunc g ps assign body _ _=>
  intro S env D a w w' Kn Kx Kr j i d h l;simp only[Nu] at h;split at h
  ·rename_i fY first cap hg
   split at h
   ·rename_i jn;simp only[BN,Df,decide_eq_true_eq] at jn;obtain⟨DI,Ti⟩:=jn;have U:=d.ev (ch:=[]) (λ_ m=>by cases m) hg;refine wpIn_rangeFunc λfn _=>?_
    let M:Loop:={state:= .ready,pending:=none,fn,tmps:=a.tmps,params:=ps,assign,body,defers:=w'.heap.size}
    have Z7:Fit (λ_=>none) #[] N (marks D) env {tmps:=a.tmps,defers:=marks D}:=⟨(λ_ _ m=>by cases m),d.size,rfl,d.yes,d.no,d.Fx,d.BL⟩;have f:=h w' l M rfl rfl rfl rfl (λ_ w3 R hr=>GH (C:=C) (aS:=aS) (rec:=M) rfl rfl rfl Ti i Z7 hr);have aaS:(first++ #[Value.func (.yield (w'.heap.size+1)) #[] #[]]++cap:Array AB)=⟨cY first [.func (.yield (w'.heap.size+1)) #[] #[]] cap⟩:=by
     unfold cY;obtain⟨l1⟩:=first;obtain⟨l3⟩:=cap
     simp
    refine⟨w'.heap.size+1,[{target:= .collected w'.heap.size,args:= #[]}],(w'.alloc (.deferred (some []))).alloc (.loop M),{target:= .fn (.func fY) cap,args:=first++ #[.func (.yield (w'.heap.size+1)) #[] #[]]},(w'.alloc (.deferred (some []))).alloc (.loop M),fY,
     ⟨cY first [.func (.yield (w'.heap.size+1)) #[] #[]] cap⟩,(w'.alloc (.deferred (some []))).alloc (.loop M),run_enterLoop_outer _ _ _ _ _,?_,λ_ _=>trivial,?_,by simp[WF,Dd],?_⟩
    ·simp only[resolve,U,Deferred.ofValue,B2,Gi,H4,H5];rfl
    ·simp only[invoke];rw[aaS];exact tQ DI
    ·refine(jK (n:=0 - 1)).2 (f.mono λe w4 ⟨v,he,st,pd,qK,vq,B⟩=>?_);subst he;have xY:=GI (P:=P) qK vq;have q:Fit S #[] N (marks (w'.heap.size::D)) env {a with defers:=[{target:= .collected w'.heap.size,args:= #[]}]++a.defers}:=
      ⟨d.off,d.size,by simp[marks,d.qA],d.yes,d.no,d.Fx,d.BL⟩
     refine⟨pd, _,xY,?_⟩
     match pd,B with
     |none,B=>exact⟨env, _, _,B,i,q,Ext.refl _⟩
     |some (.exit id),B=>exact wpIn_exit ⟨env, _, _,B,i,q,Ext.refl _⟩
     |some .ret,B=>exact wpIn_ret ⟨env, _, _,B,i,q,Ext.refl _⟩
   ·exact AC h
  ·exact AC h
 | _=>intro S env D a w w' Kn Kx Kr j i d h l;exact A3 (C:=C) (aS:=aS) j i d h l
def Du (P:Ax) (w:A2):List ResultVar->List bP->(List AB->Prop)->Prop
 |[], _,K=>K []
 | .tmp t::r,env,K=>match bY env t with
   |some e=>Du P w r env (λl=>K (e.v::l))
   |none=>False
 | .cell t ty::r,env,K=>match bY env t with
   |some e=>match e.v,uM P ty,P.info? ty with
    | .pointer p,some el,some i=>if p_ el i.size=true then False else aj w none p el (λx=>Du P w r env (λl=>K (el.gz x::l)))
    | _, _, _=>False
   |none=>False
def TP (s:Sh) (Post:s.T->A2->Prop) (w:A2) (l:List AB):Prop:=
 match s.proj (J1 l) with
 |some x=>Post x w
 |none=>False
def byD (D:List Nat) (x:Prop) (y:Nat->List Nat->Prop):Prop:=match D with
 |[]=>x
 |r::D=>y r D
def Oh (s:Sh) (rs:List ResultVar) (Post:s.T->A2->Prop):qB:=λenv D w=>byD D (au w (λw1=>Du P w1 rs env (TP s Post w1)))
 (λr D=>sq (r::D) w (λw1=>Du P w1 rs env (TP s Post w1)))
def bT (C:dH P) (aS:Nat->a7) (f:B4) (args:List AB) (w:A2) (Post:(uG C f).T->A2->Prop):Prop:=
 match P.funcs[f]? with
 |none=>False
 |some fn=>match fn.body with
  |none=>False
  |some c=>
   if args.length<=fn.ntmps then Nu C aS fn.ntmps c (jE args 0) [] w (Oh (P:=P) (uG C f) fn.results.toList Post) (λ_ _ _ _=>False) (Oh (P:=P) (uG C f) fn.results.toList Post) else False
theorem yT {tmps:Array AB} {w:A2}: ∀{l:List ResultVar} {env:List bP} {K:List AB->Prop},Du P w l env K->(∀t e,bY env t=some e->tmps[t]? =some e.v)->
 ∃vs,(l.mapM (nH tmps)).run P w= .ok vs w/\K vs
 |[], _, _,h, _=>⟨[],by simp,h⟩
 | .tmp t::r,env,K,h,hv=>by
   simp only[Du] at h;split at h
   ·rename_i e a;obtain⟨vs,dQ,b⟩:=yT h hv
    simp_all[nH]
   ·exact AC h
 | .cell t ty::r,env,K,h,hv=>by
   simp only[Du] at h;split at h
   ·rename_i e a;split at h
    ·rename_i p el i d f hi;split at h
     ·exact AC h
     ·rename_i g;obtain⟨x,c,j⟩:=h;obtain⟨vs,dQ,b⟩:=yT j hv;refine⟨el.gz x::vs,?_,b⟩;have k: ∃a0,p=some a0:=by cases el<;>(obtain⟨a0,h0, _⟩:=c;exact⟨a0,h0⟩)
      obtain⟨a0,rfl⟩:=k;have m:=tj (P:=P) f hi g c;have n:tmps.getD t undef= .pointer (some a0):=by simp[hv t e a,d]
      simp only[List.mapM_cons,Az,nH,n,asAddr,B2,B1,m,dQ]
    ·exact AC h
   ·exact AC h
theorem tS {fn:Func} {tmps:Array AB} {R:Ending->A2->Prop}: ∀(D:List Nat) (w:A2),DL D w->(∃v,(results fn tmps).run P (ml D w)= .ok v (ml D w)/\R (.returned v) (ml D w))->
 LeavesInM (WF none) 0 P fn tmps R (marks D) .returning w
 |[],w, _,h=>h
 |r::D,w,a,h=>⟨by simp,.inl ⟨r, _,rfl,run_takeDeferred a.1,tS D _ a.2 h⟩⟩
theorem aR {C:dH P} {aS:Nat->a7} {f:B4} {args:List AB} {w:A2} {Post:(uG C f).T->A2->Prop} (h:bT C aS f args w Post):aE P f (uG C f) args w Post:=by
 unfold bT at h;split at h
 ·exact AC h
 ·rename_i fn s;split at h
  ·exact AC h
  ·rename_i c hb;split at h
   ·rename_i H;have g:plain (jE args 0):=λe a=>rU a;have nil: ∀(o:Array Oper) (m:Array AB),j8 o m []:=λo m x d=>by cases d
    have y:Fit (λ_=>none) #[] fn.ntmps (marks []) (jE args 0) {tmps:=(⟨args⟩:Array AB)++Dy (fn.ntmps - args.length) undef,defers:=[]}:=by
     refine⟨(λ_ _ d=>by cases d),(by simp;omega),rfl,λt e a _=>?_,λt e a z=>absurd (by rw[(g e (bV a)).1];exact nil _ _) z,(λe a=>by rw[(g e a).2];exact(g e a).1),λe a b hb=>by rw[yR a] at hb;cases hb⟩;obtain⟨_,hv, _⟩:=pN a
     grind
    have A:=YW (C:=C) (aS:=aS) c (λ_=>none) _ _ _ w w _ _ _ (λ_ _=>rfl) g y h (Ext.refl w);refine(jK (r:=none) (n:=0)).1 (callsIn_of_wp_marks s hb trivial (wpIn_mono A ?_));have fin: ∀a1 w1,(∃env D l,Oh (P:=P) (uG C f) fn.results.toList Post env D l/\plain env/\Fit (λ_=>none) #[] fn.ntmps (marks D) env a1/\Ext l w1)->
     LeavesInM (WF none) 0 P fn a1.tmps (λe w'=> ∃x:(uG C f).T,e= .returned ((uG C f).gz x)/\Post x w') a1.defers .returning w1:=by
     intro a1 w1 ⟨env,D,l,i,B,p,q⟩;obtain⟨E,F⟩:DL D w1/\Du P (ml D w1) fn.results.toList env (TP (uG C f) Post (ml D w1)):=by
      cases D with
      |nil=>exact⟨trivial,i w1 q⟩
      |cons r D=>exact i w1 q
     rw[p.qA];refine tS D w1 E ?_;obtain⟨vs,dQ,j⟩:=yT F (λt e a=>p.yes t e a (by rw[(B e (bV a)).1];exact nil _ _));unfold TP at j;split at j
     ·rename_i x d;refine⟨J1 vs,?_,x,by rw[Sh.iu d],j⟩;have G:(fn.results.mapM (nH a1.tmps)).run P (ml D w1)= .ok ⟨vs⟩ (ml D w1):=by
       rw[JW,Sem.run_map,dQ];rfl
      have e:results fn a1.tmps=(do
       let vs<-fn.results.mapM (nH a1.tmps)
       pure _):=rfl
      rw[e,Az,G];simp only[B1,B2]
      match vs with
      |[]=>rfl
      |[v]=>rfl
      |v::u::r=>simp[J1]
     ·exact AC j
    intro e a1 w1 k;cases e with
    |normal=>exact fin a1 w1 k
    |ret=>exact fin a1 w1 k
    |exit id=>obtain⟨_, _, _,i, _⟩:=k;exact AC i
    | _=>exact AC k
   ·exact AC h
theorem putObj_size (w:A2) (b:Nat) (o:Obj):(w.putObj b o).heap.size=w.heap.size:=by simp
theorem fG {w:A2} {b k:Nat} {o:Obj} (h:k≠b):(w.putObj b o).heap[k]? =w.heap[k]? :=by
 simp[FS,Ne.symm h]
theorem j7 {w:A2} {b:Nat} {o:Obj} (h:b<w.heap.size):(w.putObj b o).heap[b]? =some o:=by
 simp[FS,h]
theorem Wb (w:A2) (a:AR) (v:AB):(w.setCell a v).heap.size=w.heap.size:=by simp
theorem GJ {w:A2} {a:AR} {k:Nat} {v:AB} (h:k≠a.block):(w.setCell a v).heap[k]? =w.heap[k]? :=by
 simp[N6,Pl,Ne.symm h]
theorem AR.va (a:AR) (n:Nat):(a.add n).block=a.block:=by
 unfold Addr.add;grind
theorem rV: ∀(vs:List AB) (w:A2) (a:AR) (i:Nat),(putAt w a vs i).heap.size=w.heap.size
 |[], _, _, _=>rfl
 |v::r,w,a,i=>by simp[putAt,rV]
theorem mQ: ∀(vs:List AB) (w:A2) (a:AR) (i k:Nat),k≠a.block->(putAt w a vs i).heap[k]? =w.heap[k]?
 |[], _, _, _, _, _=>rfl
 |v::r,w,a,i,k,h=>by
  simp[putAt];rw[mQ r _ a _ k h,GJ (by rw[AR.va];omega)]
theorem Below.putAt {n:Nat} {w w':A2} (h:Below n w w') (a:AR) (c:n<=a.block): ∀(vs:List AB) (i:Nat),Below n w (putAt w' a vs i):=by
 intro vs i
 induction vs generalizing w' i with
 |nil=>exact h
 |cons v r b=>
  exact b (h.setCell (by rw[AR.va];omega) v) _
theorem E9 {n:Nat} {w w':A2} (h:Below n w w') {b:Nat} (hb:n<=b) (o:Obj):Below n w (w'.putObj b o):=
 ⟨h.os,h.tape,h.output,by rw[putObj_size];exact h.size,λk a=>by rw[fG (by omega)];exact h.block k a⟩
theorem Ext.jx {w w':A2} (h:Ext w w') {a:AR} (b:w.heap.size<=a.block) (vs:List AB):Ext w (jx w' (some a) vs):=Below.putAt h a b vs 0
theorem Ext.putObj {w w':A2} (h:Ext w w') {b:Nat} (hb:w.heap.size<=b) (o:Obj):Ext w (w'.putObj b o):=E9 h hb o
theorem Ext.iY {w w':A2} (h:Ext w w') (o:Obj):Ext w (w'.alloc o):=h.trans (Ext.alloc w' o)
def bN (w:A2) (b:Nat) (l:List AB):Prop:= ∃t,w.heap[b]? =some (.cells ⟨l⟩ t (0,0))
theorem bN.lt {w:A2} {b:Nat} {l:List AB} (h:bN w b l):b<w.heap.size:=by
 obtain⟨⟩:=h;grind
theorem bN.ext {w w':A2} {b:Nat} {l:List AB} (h:bN w b l) (k:Ext w w'):bN w' b l:=by
 obtain⟨t,h⟩:=h;exact⟨t,k.obj h⟩
theorem lE (w:A2) (o:Obj):(w.alloc o).heap.size=w.heap.size+1:=by simp
theorem fw (w:A2) (o:Obj):(w.alloc o).heap[w.heap.size]? =some o:=by
 show(w.heap.push o)[w.heap.size]? =some o;simp
theorem bN.new (w:A2) (l:List AB) (t:Ab):bN (w.alloc (.cells ⟨l⟩ t)) w.heap.size l:=⟨t,fw _ _⟩
theorem bN.same {w w':A2} {b:Nat} {l:List AB} (h:bN w b l) (k:w'.heap[b]? =w.heap[b]?):bN w' b l:=by
 obtain⟨t⟩:=h;exact⟨t,by grind⟩
theorem bN.WO {w:A2} {b:Nat} {l:List AB} (h:bN w b l) {a:AR} (c:b≠a.block) (vs:List AB):bN (jx w (some a) vs) b l:=
 h.same (mQ vs w a 0 b c)
theorem bN.putObj {w:A2} {b:Nat} {l:List AB} (h:bN w b l) {k:Nat} (a:b≠k) (o:Obj):bN (w.putObj k o) b l:=h.same (fG a)
theorem NR (b o n:Nat):Addr.add ⟨b,o,none⟩ n=⟨b,o+n,none⟩:=by
 unfold Addr.add;simp
theorem aX (b o n:Nat):ad (some ⟨b,o,none⟩) n=some ⟨b,o+n,none⟩:=by simp[ad,NR]
theorem bN.cell {w:A2} {b:Nat} {l:List AB} (h:bN w b l) (o:Nat):w.cell? ⟨b,o,none⟩=l[o]? :=by
 obtain⟨t,h⟩:=h;simp[N5,h]
theorem bN.cellAt {w:A2} {b:Nat} {l:List AB} (h:bN w b l) (o n:Nat):w.cell? (Addr.add ⟨b,o,none⟩ n)=l[o+n]? :=by rw[NR,h.cell]
theorem bN.Ke {w:A2} {b:Nat} {l:List AB} (h:bN w b l) (a:AR) (c:a.block=b):w.frozen? a=false:=by
 obtain⟨t,h⟩:=h;simp[World.frozen?,c,h]
theorem bN.oI {w:A2} {b o:Nat} {l:List AB} (h:bN w b l) {s:Sc} {x:s.T} (a:l[o]? =some (s.gz x)):cH w (some ⟨b,o,none⟩) (.one s) x:=
 ⟨_,rfl,by rw[h.cell];omega⟩
theorem bN.Z8 {w:A2} {b o:Nat} {l:List AB} (h:bN w b l) {ss:List Sc} {x:g_ ss} (a: ∀i,i<ss.length->l[o+i]? =(a9 ss x)[i]?):cH w (some ⟨b,o,none⟩) (.agg ss) x:=
 ⟨_,rfl,λhi=>by rw[h.cellAt];grind⟩
theorem bN.pX {w:A2} {b o n:Nat} {l vs:List AB} (h:bN w b l) (a:vs.length=n) (c: ∀i,i<n->l[o+i]? =vs[i]?):pX w (some ⟨b,o,none⟩) n vs:=
 ⟨a,λhi=>by rw[h.cellAt];grind⟩
theorem bN.st {w:A2} {b o n:Nat} {l:List AB} (h:bN w b l) (a:o+n<=l.length):TJ w (some ⟨b,o,none⟩) n:=
 ⟨_,rfl,λi hi=>⟨by rw[h.cellAt,J3 (by omega)];rfl,h.Ke _ (AR.va _ _)⟩⟩
theorem CX {w:A2} {b o:Nat} {l:List AB} {t:Ab} (h:w.heap[b]? =some (.cells ⟨l⟩ t (0,0))) (v:AB):(w.setCell ⟨b,o,none⟩ v).heap[b]? =some (.cells ⟨l.set o v⟩ t (0,0)):=by
 simp only[N6,Pl,h];simp
theorem zv: ∀(vs:List AB) (w:A2) (b o i:Nat) (l:List AB) (t:Ab),w.heap[b]? =some (.cells ⟨l⟩ t (0,0))->o+i+vs.length<=l.length->
 (putAt w ⟨b,o,none⟩ vs i).heap[b]? =some (.cells ⟨l.take (o+i)++(vs++l.drop (o+i+vs.length))⟩ t (0,0))
 |[],w,b,o,i,l,t,h, _=>by simp[putAt,h]
 |v::r,w,b,o,i,l,t,h,c=>by
  simp_all
  simp only[putAt,NR];rw[zv r _ b o (i+1) (l.set (o+i) v) t (CX h v) (by simp;omega)];congr 3;have h1:(l.set (o+i) v).take (o+(i+1))=l.take (o+i)++[v]:=by
   grind[Nl,Np]
  have a:(l.set (o+i) v).drop (o+(i+1)+r.length)=l.drop (o+i+(r.length+1)):=by
   grind[Nq]
  rw[h1,a];simp
theorem bN.put {w:A2} {b o:Nat} {l:List AB} (h:bN w b l) (vs:List AB) (a:o+vs.length<=l.length):bN (jx w (some ⟨b,o,none⟩) vs) b (l.take o++(vs++l.drop (o+vs.length))):=by
 obtain⟨t,h⟩:=h;exact⟨t,zv vs w b o 0 l t h a⟩
theorem cT.lt {w:A2} {l:Nat} {rec:Loop} {st:LoopState} {a:Option Code} (h:cT w l rec st a):l<w.heap.size:=(Bs.1 h).1
theorem cT.ext {w w':A2} {l:Nat} {rec:Loop} {st:LoopState} {a:Option Code} (h:cT w l rec st a) (k:Ext w w'):cT w' l rec st a:=k.obj h
theorem cT.same {w w':A2} {l:Nat} {rec:Loop} {st:LoopState} {a:Option Code} (h:cT w l rec st a) (k:w'.heap[l]? =w.heap[l]?):cT w' l rec st a:=by grind[cT]
theorem cT.put {w:A2} {l:Nat} {rec:Loop} {st:LoopState} {c:Option Code} (h:cT w l rec st c) (a:LoopState) (b:Option Code):cT (sI w l rec a b) l rec a b:=
 j7 h.lt
theorem tu {w:A2} {p:Option AR} {ss:List Sc} {x:g_ ss} {j:Nat} {s:Sc} {y:s.T} (h:cH w p (.agg ss) x) (b:j<ss.length) (c:(a9 ss x)[j]? =some (s.gz y)):cH w (ad p j) (.one s) y:=by
 obtain⟨a,rfl,h⟩:=h;exact⟨a.add j,rfl,by grind⟩
theorem Kf {p:Option AR} (h:p.isSome=true) (n:Nat):(ad p n).isSome=true:=by
 cases p
 ·grind
 rfl
def cellsOf:(e:El)->e.T->List AB
 | .one s,x=>[s.gz x]
 | .agg l,x=>a9 l x
def aF:El->Nat
 | .one _=>1
 | .agg l=>l.length
theorem dq (e:El) (x:e.T):(cellsOf e x).length=aF e:=by
 cases e with
 |one=>rfl
 |agg l=>exact cB l x
def Sl (w:A2) (e:El) (p:Option AR) (xs:List e.T):Prop:= ∀i x,xs[i]? =some x->p.isSome=true/\cH w (ad p (i*aF e)) e x
theorem Sl.ext {w w':A2} {e:El} {p:Option AR} {xs:List e.T} (h:Sl w e p xs) (k:Ext w w'):Sl w' e p xs:=
 λi x a=>⟨(h i x a).1,th k (h i x a).2⟩
def flat (e:El) (xs:List e.T):List AB:=xs.flatMap (cellsOf e)
theorem aH (e:El) (xs:List e.T):(flat e xs).length=xs.length*aF e:=by
 induction xs with
 |nil
 |cons=>simp only[flat,Of,Ds,dq] at*;grind
theorem dM (e:El) (xs ys:List e.T):flat e (xs++ys)=flat e xs++flat e ys:=by simp[flat]
theorem yU (e:El): ∀(xs:List e.T) (i:Nat) (x:e.T),xs[i]? =some x-> ∀j,j<aF e->(flat e xs)[i*aF e+j]? =(cellsOf e x)[j]?
 |y::r,0,x,h,j,a=>by
  simp_all[flat,List.getElem?_append_left,dq]
 |y::r,i+1,x,h,j,a=>by
  have b:=yU e r i x ‹_› j a;simp[flat,Of];rw[List.getElem?_append_right (by rw[dq,E5];omega),dq];rw[show(i+1)*aF e+j - aF e=i*aF e+j by grind];exact b
theorem Sl.jF {w:A2} {e:El} {b:Nat} {l:List AB} {xs:List e.T} (h:bN w b l) (d:l.take (xs.length*aF e)=flat e xs):Sl w e (some ⟨b,0,none⟩) xs:=by
 intro i x c;have hi:=(List.getElem?_eq_some_iff.1 c).1;have f: ∀j,j<aF e->i*aF e+j<xs.length*aF e:=λj a=>by
  have:(i+1)*aF e<=xs.length*aF e:=Pp _ hi
  grind
 have hc: ∀j,j<aF e->l[i*aF e+j]? =(cellsOf e x)[j]? :=λj a=>by
  rw[<-yU e xs i x c j a, <-d,List.getElem?_take_of_lt (f j a)]
 simp;rw[aX,M5];cases e with
 |one=>exact h.oI (by simp_all[aF,cellsOf])
 |agg ss=>exact h.Z8 ‹_›
def lM (w0 w:A2) (e:El) (s:Option AR×Nat×Nat) (xs:List e.T):Prop:=
 s.2.1=xs.length/\xs.length<=s.2.2/\
 ((s.1=none/\xs=[]/\s.2.2=0)\/ ∃b l,s.1=some ⟨b,0,none⟩/\w0.heap.size<=b/\bN w b l/\l.length=s.2.2*aF e/\l.take (xs.length*aF e)=flat e xs)
theorem lM.nil (w0 w:A2) (e:El):lM w0 w e (none,0,0) []:=⟨rfl,by simp⟩
theorem lM.ext {w0 w w':A2} {e:El} {s:Option AR×Nat×Nat} {xs:List e.T} (h:lM w0 w e s xs) (k:Ext w w'):lM w0 w' e s xs:=by
 obtain⟨h1,c,a⟩:=h;refine⟨h1,c,?_⟩;rcases a with a|⟨b,l,a1,d,f,g⟩
 ·grind
 ·exact .inr ⟨b,l,a1,d,f.ext k,g⟩
theorem lM.same {w0 w w':A2} {e:El} {s:Option AR×Nat×Nat} {xs:List e.T} (h:lM w0 w e s xs) (k: ∀a,s.1=some a->w'.heap[a.block]? =w.heap[a.block]?):lM w0 w' e s xs:=by
 obtain⟨h1,d,c⟩:=h;refine⟨h1,d,?_⟩;rcases c with c|⟨b,l,a1,f,g,i⟩
 ·grind
 ·exact .inr ⟨b,l,a1,f,g.same (k _ a1),i⟩
theorem lM.sl {w0 w:A2} {e:El} {s:Option AR×Nat×Nat} {xs:List e.T} (h:lM w0 w e s xs):Sl w e s.1 xs:=by
 obtain⟨h1,f,a⟩:=h;rcases a with ⟨_,g, _⟩|⟨b,l,a1,i,c,j,d⟩
 ·intro;grind
 ·rw[a1];exact Sl.jF c d
theorem lM.len {w0 w:A2} {e:El} {s:Option AR×Nat×Nat} {xs:List e.T} (h:lM w0 w e s xs):s.2.1=xs.length:=h.1
def gY:El->Bool
 | .one s=>s != .func
 | .agg l=>l.all (· != .func)
theorem zw (s:Sc) (x:s.T) (h:(s != .func)=true):(s.gz x).oneCell'=true:=by
 cases s<;>first|rfl|grind
theorem tT: ∀(ss:List Sc) (x:g_ ss),ss.all (· != .func)=true->(a9 ss x).all (·.oneCell')=true
 |[], _, _=>rfl
 |s::r,x,h=>by
  simp only[Ix,BN] at h;simp[a9,tT r _ h.2,zw s _ h.1]
theorem E_ (e:El) (x:e.T) (h:gY e=true):(cellsOf e x).all (·.oneCell')=true:=by
 cases e with
 |one s=>simp[cellsOf,zw s x h]
 |agg l=>exact tT l x h
theorem jN (e:El) (xs:List e.T) (h:gY e=true):(flat e xs).all (·.oneCell')=true:=by grind[flat,E_]
theorem lF {w0 w:A2} {e:El} {s x:Option AR×Nat×Nat} {xs ys:List e.T} {t:Ab} {bytes:Nat} {z:Array AB} {R:Option AR×Nat×Nat->A2->Prop}
 (h:lM w0 w e s xs) (h0:Ext w0 w) (y:gY e=true) (d:x.2.1=ys.length) (A:pX w x.1 (x.2.1*aF e) (flat e ys)) (B:z.size=aF e) (hb:(xs.length+ys.length)*bytes<=140737488355328)
 (k: ∀s' w',lM w0 w' e s' (xs++ys)->Ext w0 w'->(∀b,b<w.heap.size->(∀a,s.1=some a->b≠a.block)->w'.heap[b]? =w.heap[b]?)->w.heap.size<=w'.heap.size->
  ((∃a,s'.1=some a/\s.1=some a)\/(∃a,s'.1=some a/\w.heap.size<=a.block)\/s'=(s.1,s.2.1,s.2.2))->R s' w'):
 nb w t (aF e) bytes z s x R:=by
 obtain⟨h1,K,p⟩:=h;have n:=aH e xs;have j:=aH e ys;have C:pX w s.1 (s.2.1*aF e) (flat e xs):=by
  rcases p with ⟨a1,g,f⟩|⟨b,l,a1,g,f,q,r⟩
  ·rw[a1,g];rfl
  ·rw[a1];refine f.pX (by rw[n,h1]) λi hi=>?_
   grind
 refine⟨flat e xs,flat e ys,C,A,λm=>?_,λm=>⟨growslice_fits m (by rw[h1,d];exact hb),λc hc=>?_⟩⟩
 ·rcases p with ⟨a1,g,f⟩|⟨b,l,a1,g,f,q,r⟩
  ·rw[f] at m;have D:ys=[]:=List.eq_nil_of_length_eq_zero (by omega);subst D;subst g;refine⟨.inl rfl,?_⟩;have E:s.2.1=0:=h1;have u:x.2.1=0:=d;rw[a1];refine k _ _ ⟨by simp[E,u],Nat.zero_le _,.inl ⟨rfl,rfl,f⟩⟩ ?_ (λ_ _ _=>rfl) (Dc _) (.inr (.inr ?_))
   ·exact h0
   ·rw[a1,u];rfl
  ·have v:xs.length*aF e+ys.length*aF e<=l.length:=by
    rw[q, <-E5];exact Pp _ (by rw[<-h1, <-d];exact m)
   have F:s.1.map (·.add (s.2.1*aF e))=some ⟨b,xs.length*aF e,none⟩:=by
    rw[a1,h1];simp[NR]
   rw[F];refine⟨.inr ⟨f.st (by rw[j];exact v),jN e ys y⟩,?_⟩;have G:=f.put (o:=xs.length*aF e) (flat e ys) (by rw[j];exact v);refine k _ _ ⟨by simp[h1,d],by simp only[Ds];rw[<-h1, <-d];exact m,.inr ⟨b, _,a1,g,G,?_,?_⟩⟩ (h0.jx (a:=⟨b, _,none⟩) g _) (λH L I=>mQ (flat e ys) w ⟨b, _,none⟩ 0 H (I ⟨b,0,none⟩ a1)) (Nat.le_of_eq (rV _ _ _ _).symm) (.inl ⟨_,a1,a1⟩)
   grind
   ·rw[r];have:(xs++ys).length*aF e=(flat e xs++flat e ys).length:=by simp only[Ds,n,j,E5]
    rw[this, <-List.append_assoc,dM];exact PP rfl
 ·have M:w.drew.heap.size=w.heap.size:=rfl;refine k _ _ ⟨by simp[h1,d],by simp only[Ds];rw[<-h1, <-d];exact hc,.inr ⟨w.heap.size,flat e xs++flat e ys++(Fy z (c - (s.2.1+x.2.1))).toList,rfl,h0.size,?_,?_,?_⟩⟩ ((h0.trans (Ext.drew w)).trans (Ext.alloc _ _)) (λb hb _=>?_) ?_ (.inr (.inl ⟨_,rfl,Dc _⟩))
  ·have J:(JQ (flat e xs)++JQ (flat e ys)++Fy z (c - (s.2.1+x.2.1)))=⟨flat e xs++flat e ys++(Fy z (c - (s.2.1+x.2.1))).toList⟩:=by
    apply JV;simp
   rw[J];exact bN.new w.drew _ _
  ·simp only[Ds,n,j,Fy,Array.length_toList,Array.size_map,Array.size_range,B];rw[<-E5, <-h1, <-d, <-E5];congr 1;omega
  ·have:(xs++ys).length*aF e=(flat e xs++flat e ys).length:=by simp only[Ds,n,j,E5]
   rw[this,dM];exact PP rfl
  ·have:w.drew.heap=w.heap:=rfl;rw[Ext.block (Ext.alloc w.drew _) (by rw[this];exact hb),this]
  ·rw[lE];exact Nat.le_succ _
theorem PN {w0 w c w1:A2} {e:El} {s:Option AR×Nat×Nat} {xs:List e.T} {x:e.T} {t:Ab} {bytes:Nat} {z:Array AB} {R:Option AR×Nat×Nat->A2->Prop}
 (h:lM w0 w e s xs) (h0:Ext w0 w) (g:gY e=true) (i:Ext w c) (d:Ext (c.alloc (.cells ⟨cellsOf e x⟩ t)) w1) (j:z.size=aF e) (hb:(xs.length+1)*bytes<=140737488355328)
 (k: ∀s' w',lM w0 w' e s' (xs++[x])->Ext w0 w'->(∀b,b<w.heap.size->(∀a,s.1=some a->b≠a.block)->w'.heap[b]? =w.heap[b]?)->w.heap.size<=w'.heap.size->R s' w'):
 nb w1 t (aF e) bytes z s (some ⟨c.heap.size,0,none⟩,1,1) R:=by
 have kk:=(i.trans (Ext.alloc c _)).trans d;have l:=(bN.new c _ _).ext d;refine lF (ys:=[x]) (h.ext kk) (h0.trans kk) g rfl ?_ j hb λs' w' m n o p _=>k s' w' m n (λb f q=>?_) (Nat.le_trans kk.size p)
 ·refine l.pX (aH e _) λhi=>?_;simp[flat]
 ·rw[o b (Rg f kk.size) q,kk.block f]
def U (b:BitVec 64):Int:=(b.toNat:Int)
def B (x:Int):BitVec 64:=C6 64 x
theorem Fm (b:BitVec 64):B (U b)=b:=by simp[B,U]
theorem aaT {a b:BitVec 64}:U a=U b<->a=b:=by grind[Fm]
theorem wrap_u64 (x:Int):S0.wrap x=x % 18446744073709551616:=rfl
theorem U_B (x:Int):U (B x)=x % 18446744073709551616:=by
 unfold U B;simp
 grind
theorem BW {x:Int} (h:0<=x) (h':x<18446744073709551616):U (B x)=x:=by
 rw[U_B,Int.emod_eq_of_lt h h']
theorem YX (x:Int):S0.wrap x=U (B x):=by rw[wrap_u64,U_B]
theorem OM (a b:BitVec 64):wU .u64 (U a) (U b)=U (a &&& b):=by
 show U (B (U (B _ &&& B _)))= _;rw[Fm,Fm,Fm]
theorem aaU (a b:BitVec 64):ZX .u64 (U a) (U b)=U (a ||| b):=by
 show U (B (U (B _ ||| B _)))= _;rw[Fm,Fm,Fm]
theorem Kg (a b:BitVec 64):gF .u64 (U a) (U b)=U (a &&& ~~~ b):=by
 show U (B (U (B _ &&& ~~~ B _)))= _;rw[Fm,Fm,Fm]
theorem ON (a:BitVec 64) (n:Int):Dq .u64 (U a) n=U (a <<< n.toNat):=by
 unfold Dq;rw[wrap_u64];unfold U;rw[BitVec.toNat_shiftLeft,Nat.shiftLeft_eq];show(a.toNat:Int)*2 ^ min _ 64 % _= _;by_cases n.toNat<=64
 grind
 ·have h1:a.toNat*2 ^ n.toNat % 2 ^ 64=0:=by
   apply Nat.mod_eq_zero_of_dvd;exact Nat.dvd_trans (Nat.pow_dvd_pow 2 (by omega)) (Nat.dvd_mul_left ..)
  grind
theorem OO (a:BitVec 64) (n:Int):JZ .u64 (U a) n=U (a >>> n.toNat):=by
 unfold U;rw[BitVec.toNat_ushiftRight,Nat.shiftRight_eq_div_pow];have e: ∀k,(a.toNat:Int).fdiv (2 ^ k)=(a.toNat / 2 ^ k: ):=λk=>by
  grind
 show(a.toNat:Int).fdiv (2 ^ min _ 64)= _;rw[e];by_cases n.toNat<=64
 grind
 ·rw[Nat.min_eq_right (by omega)];have h0:=a.isLt;rw[Rz h0,Rz (Rg h0 (Nat.pow_le_pow_right (by simp) (by omega)))]
theorem gw {x:Int} (h: -9223372036854775808<=x) (h':x<9223372036854775808):Dn.wrap x=x:=by
 simp only[IntKind.wrap,IntKind.bits,IntKind.signed]
 grind
theorem av {x y:Int} (h: -9223372036854775808<=x+y) (h':x+y<9223372036854775808):aI .i64 x y=x+y:=gw h h'
theorem bD {x y:Int} (h: -9223372036854775808<=x - y) (h':x - y<9223372036854775808):aZ .i64 x y=x - y:=gw h h'
theorem eH {x y:Int} (h: -9223372036854775808<=x*y) (h':x*y<9223372036854775808):iD .i64 x y=x*y:=gw h h'
theorem bW {P:Ax} {f:B4} {sh:Sh} {args:List AB} {w:A2} {x:sh.T} (h:aE P f sh args w (λy w'=>y=x/\Ext w w')):
 Calls P f ⟨args⟩ w (λe w'=>e= .returned (sh.gz x)/\Ext w w'):=
 F5 h (by grind)
abbrev ae (b:Nat):Option AR:=some ⟨b,0,none⟩
abbrev jQ:El:= .one .ptr
abbrev aU:El:= .one (.int .i64)
abbrev rD:El:= .one (.int .u64)
abbrev fZ:El:= .one .slice
abbrev oY:El:= .one .bool
abbrev NS:El:= .one .map
abbrev f_ (w:A2) (a:Option AR) (K:Option AR->Prop):Prop:=aj w none a (.one .ptr) K
abbrev bI (p:Option AR) (n:Nat) (w:A2) (K:Option AR->Prop):Prop:=p.isSome=true/\p.isSome=true/\aj w none (ad p n) (.one .ptr) K
abbrev aT (w:A2) (a:Option AR) (K:Int->Prop):Prop:=aj w none a (.one (.int .i64)) K
abbrev cR (p:Option AR) (n:Nat) (w:A2) (K:Int->Prop):Prop:=p.isSome=true/\p.isSome=true/\aj w none (ad p n) (.one (.int .i64)) K
abbrev cK (w:A2) (a:Option AR) (K:Int->Prop):Prop:=aj w none a (.one (.int .u64)) K
abbrev acI (p:Option AR) (n:Nat) (w:A2) (K:Int->Prop):Prop:=p.isSome=true/\p.isSome=true/\aj w none (ad p n) (.one (.int .u64)) K
abbrev sJ (w:A2) (a:Option AR) (K:Option AR×Nat×Nat->Prop):Prop:=aj w none a (.one .slice) K
abbrev fx (p:Option AR) (n:Nat) (w:A2) (K:Option AR×Nat×Nat->Prop):Prop:=p.isSome=true/\p.isSome=true/\aj w none (ad p n) (.one .slice) K
abbrev sK (w:A2) (a:Option AR) (K:Bool->Prop):Prop:=aj w none a (.one .bool) K
abbrev abZ (p:Option AR) (n:Nat) (w:A2) (K:Bool->Prop):Prop:=p.isSome=true/\p.isSome=true/\aj w none (ad p n) (.one .bool) K
abbrev acJ (w:A2) (a:Option AR) (K:Option Nat->Prop):Prop:=aj w none a (.one .map) K
abbrev sL (p:Option AR) (n:Nat) (w:A2) (K:Option Nat->Prop):Prop:=p.isSome=true/\p.isSome=true/\aj w none (ad p n) (.one .map) K
abbrev cI:El:= .agg [.int .u64,.int .i64]
abbrev dR:El:= .agg [.int .i64,.int .i64,.int .i64,.int .i64]
abbrev sM:El:= .agg [.int .i64,.int .u64,.int .u64,.int .u64]
abbrev wW:El:= .agg [.int .i64,.int .i64,.int .i64]
abbrev ab0:El:= .agg [.int .i64,.int .i64,.int .i64,.int .i64,.int .u64,.int .u64,.int .u64,.int .u64,.int .i64]
abbrev ka:El:= .agg [.bool,.int .i64,.bool,.int .i64]
theorem ao {c:Prop} {h:Decidable c} (a: ¬c) {α:Sort _} {t e:α}:ite c t e=e:=if_neg a
theorem ax {c:Prop} {h:Decidable c} (hc:c) {α:Sort _} {t e:α}:ite c t e=t:=if_pos hc
abbrev aa (x:Int):AB:= .int .i64 x
abbrev ay (x:Int):AB:= .int .u64 x
abbrev ag (x:Option AR):AB:= .pointer x
end Go.RX
