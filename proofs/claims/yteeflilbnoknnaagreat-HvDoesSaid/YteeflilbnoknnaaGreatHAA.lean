import Derived.CallsIn
import Derived.OrdersIn
import Derived.Below
import Derived.Laws.Sem
import Derived.KernelRfl
import Derived.Laws.StructEq
import Derived.Laws.Small
import Derived.WalkSpells
import Derived.ChangeKeysEq
import Derived.RangeFuncLeaves
import Derived.Laws.World
import Derived.Laws.NewFold
import Derived.OwnWalkIn
import Derived.ChangeMaps4
import Derived.Maps.RangeRun
import Derived.RangeFuncRecord
import Derived.Laws.Append
import Derived.Test.YteeflilbnoknnaaGreatProg
import Derived.Deep.Slices
import Derived.ProofKit
import Derived.OpenShut
/-! What the statement leans on: texts joined and shortened by a program of mine. -/
set_option linter.unusedVariables false
set_option linter.unusedSimpArgs false
open Go renaming World->A2,Value->AC,Addr->AG,TypeId->AR,Program->AT,IntKind->B2,FuncId->B3,MapEntry->DB
open False renaming elim->AE
open Go.Sem renaming run_bind->AU,run_pure->B1
open Go.Result renaming andThen_ok->AZ,andThen->DS
open Go.Op renaming equalIn->B4
open Bool renaming and_eq_true->B5,false_eq_true->FS,or_eq_true->GS,or_false->Hb,not_false->L2,not_eq_true'->LL
open Go.Region renaming ready->C7,wanted->Ch,binds->Do
open BitVec renaming ofInt->C9,eq_of_getLsbD_eq->Fe,getLsbD_and->Ff,toNat_shiftLeft->M5,toNat_ushiftRight->M6,allOnes->M9,getLsbD_shiftLeft->MD,getLsbD_ushiftRight->MF,getLsbD_or->MG
open List renaming mem_filter->Ce,mem_cons->Cs,all_eq_true->Dt,mem_append->Du,length_append->Dx,range->Gi,map_toArray->H2,map_cons->H4,map_nil->H5,all_cons->Hr,mem_cons_self->Hz,getElem?_toArray->I1,getElem?_cons_zero->I8,getElem?_cons_succ->I_,length_cons->MJ,take_add_one->MM,take_set_of_le->MV,drop_set_of_lt->MW,mem_cons_of_mem->MY,getElem?_eq_getElem->Ml,find?_some->Mo,filter_cons->Mv,flatMap_cons->Mx,take_left'->My
open Option.some renaming injEq->Ct
open Go.MapKept renaming run_getObj_map->DA,run_checkKey->Da,run_findKey->Df,IsKey->H6,run_setObj_map->H7
open Array renaming getElem?_eq_some_iff->DC,getElem?_setIfInBounds_ne->H8,replicate->H9,mk->IR,mapM_eq_mapM_toList->In,all_eq_true_iff_forall_mem->Mz,getElem?_modify->NB
open Go.Fence renaming wide->Dl
open Go.Act renaming put->Dm,put_comm->Dn,eval->HB
open Go.Calls renaming mono->E4
open Go.Instr renaming findNow->E5,lookup->FA,fill->HD,indexAt->HF,sureAddr->HH,extract->HQ,index->J3,mapUpdate->Jc,sliceBound->Nb,sliceBounds->Nd,sliceAt->Nf,makeSlice->Ng,buildSlice->Nh
open Go.World renaming putObj->FB,cell?->Jf,setCell->Jj
open Go.Builtin renaming firstCells->FC,zeroCells->Fh,len_->HY,lenOf->Jl,append_->K0,delete_->K1,nextslicecap->Nl,copy_->O2
open Nat renaming add_mul->FJ,le_refl->Fk,testBit_or->Fm,mul_le_mul_right->P2,lt_of_lt_of_le->P3,shiftLeft_eq->P4,shiftRight_eq_div_pow->PP,div_eq_of_lt->PS
open Go.IntKind renaming i64->Fz,u64->Pl
open Option renaming map_some->K2,map_none->Pp,getD_some->Qg
namespace Go.RX
open Go.RowKit
def Ext (w w':A2):Prop:=Below w.heap.size w w'
theorem Ext.refl (w:A2):Ext w w:=Below.refl _ w
theorem Ext.trans {a b c:A2} (h:Ext a b) (k:Ext b c):Ext a c:=Below.trans h (Below.mono k h.size)
theorem Ext.drew (w:A2):Ext w {w with drawn:=w.drawn+1}:=⟨rfl,rfl,rfl,Fk _,λ_ _=>rfl⟩
theorem Ext.alloc (w:A2) (o:Obj):Ext w (w.alloc o):=Below.alloc (Below.refl _ w) (Fk _) o
theorem Ext.size {w w':A2} (h:Ext w w'):w.heap.size<=w'.heap.size:=Below.size h
theorem Ext.block {w w':A2} (h:Ext w w') {k:Nat} (a:k<w.heap.size):w'.heap[k]? =w.heap[k]? :=Below.block h k a
theorem Ext.obj {w w':A2} (h:Ext w w') {k:Nat} {o:Obj} (a:w.heap[k]? =some o):w'.heap[k]? =some o:=by
 rw[h.block (DC.1 a).1];exact a
theorem F9 {w:A2} {a:AG} {v:AC} (h:w.cell? a=some v):a.block<w.heap.size:=by
 unfold Jf at h;cases b:w.heap[a.block]? with
 |none=>simp[b] at h
 |some o=>exact(DC.1 b).1
theorem Ext.cell {w w':A2} (h:Ext w w') {a:AG} {v:AC} (b:w.cell? a=some v):w'.cell? a=some v:=by
 rw[Below.cell h (F9 b)];exact b
inductive Sc where
 |int (k:B2)|bool|str|ptr|slice|map|func|vk (f:B3) (n:Nat)|Wn
 deriving DecidableEq
@[reducible] def Dv:Nat->Type
 |0=>Unit
 |n+1=>Option AG×Dv n
def xW:(n:Nat)->Dv n->List AC
 |0, _=>[]
 |n+1,x=> .pointer x.1::xW n x.2
def nT:(n:Nat)->List AC->Option (Dv n)
 |0,[]=>some ()
 |n+1,.pointer a::r=>match nT n r with
  |some y=>some (a,y)
  |none=>none
 | _, _=>none
theorem uC: ∀{n:Nat} {l:List AC} {x:Dv n},nT n l=some x->xW n x=l
 |0,[], _, _=>rfl
 |0, _:: _, _,h=>by simp[nT] at h
 |n+1,[], _,h=>by simp[nT] at h
 |n+1,v::r,x,h=>by
  cases v<;>simp only[nT] at h<;>(try (cases h;done));split at h
  .rename_i y a;cases h;simp only[xW,uC a]
  .cases h
@[reducible] def Sc.T:Sc->Type
 | .int _=>Int
 | .bool=>Bool
 | .str=>ByteArray
 | .ptr=>Option AG
 | .slice=>Option AG×Nat×Nat
 | .map=>Option Nat
 | .func=>AC
 | .vk _ n=>Dv n
 | .Wn=>Nat
def Sc.g9:(s:Sc)->s.T->AC
 | .int k,n=> .int k n
 | .bool,b=> .bool b
 | .str,s=> .string s
 | .ptr,a=> .pointer a
 | .slice,x=> .slice x.1 x.2.1 x.2.2
 | .map,r=> .map r
 | .func,v=>v
 | .vk f n,x=> .func (.func f) #[] ⟨xW n x⟩
 | .Wn,y=> .func (.yield y) #[] #[]
def Sc.proj:(s:Sc)->AC->Option s.T
 | .int k,.int d n=>if k=d then some n else none
 | .bool,.bool b=>some b
 | .str,.string s=>some s
 | .ptr,.pointer a=>some a
 | .slice,.slice a n c=>some (a,n,c)
 | .map,.map r=>some r
 | .func,v=>some v
 | .vk f n,.func (.func f') ⟨[]⟩ ⟨l⟩=>if f=f' then nT n l else none
 | .Wn,.func (.yield y) ⟨[]⟩ ⟨[]⟩=>some y
 | _, _=>none
theorem Sc.jj {s:Sc} {v:AC} {x:s.T} (h:s.proj v=some x):s.g9 x=v:=by
 cases s with
 |vk f n=>
  cases v with
  |func fn first a=>
   have ⟨l1⟩:=first
   have ⟨l2⟩:=a;cases fn<;>cases l1<;>simp only[Sc.proj] at h<;>(try (cases h;done));split at h
   .subst_vars
    simp only[Sc.g9,uC h]
   .cases h
  | _=>simp[Sc.proj] at h
 |Wn=>
  cases v with
  |func fn first a=>
   have ⟨l1⟩:=first
   have ⟨l2⟩:=a;cases fn<;>cases l1<;>cases l2<;>simp only[Sc.proj] at h<;>first|(cases h;done)|(cases h;rfl)
  | _=>simp[Sc.proj] at h
 | _=>
   cases v<;>simp only[Sc.proj] at h<;>
    first
     |(cases h;rfl)
     |(split at h<;>cases h;subst_vars;rfl)
     |(cases h)
@[reducible] def g_:List Sc->Type
 |[]=>Unit
 |s::r=>s.T×g_ r
def a6:(l:List Sc)->g_ l->List AC
 |[], _=>[]
 |s::r,x=>s.g9 x.1::a6 r x.2
def mU:(l:List Sc)->List AC->Option (g_ l)
 |[],[]=>some ()
 |s::r,v::vs=>match s.proj v,mU r vs with
  |some x,some y=>some (x,y)
  | _, _=>none
 | _, _=>none
theorem qq: ∀{l:List Sc} {vs:List AC} {x:g_ l},mU l vs=some x->a6 l x=vs
 |[],[], _, _=>rfl
 |[], _:: _, _,h=>by simp[mU] at h
 | _:: _,[], _,h=>by simp[mU] at h
 |s::r,v::vs,x,h=>by
  simp only[mU] at h;cases c:s.proj v with
  |none=>simp[c] at h
  |some a=>
   cases h2:mU r vs with
   |none=>simp[c,h2] at h
   |some b=>
    simp only[c,h2] at h;cases h;simp only[a6,Sc.jj c,qq h2]
inductive El where
 |one (s:Sc)|agg (l:List Sc)
@[reducible] def El.T:El->Type
 | .one s=>s.T
 | .agg l=>g_ l
def El.g9:(e:El)->e.T->AC
 | .one s,x=>s.g9 x
 | .agg l,x=> .agg ⟨a6 l x⟩
def El.proj:(e:El)->AC->Option e.T
 | .one s,v=>s.proj v
 | .agg l,.agg ⟨vs⟩=>mU l vs
 | .agg _, _=>none
theorem El.jj {e:El} {v:AC} {x:e.T} (h:e.proj v=some x):e.g9 x=v:=by
 cases e with
 |one s=>exact Sc.jj h
 |agg l=>
  cases v with
  |agg cs=>have ⟨vs⟩:=cs;exact congrArg (λl=>Value.agg ⟨l⟩) (qq h)
  | _=>simp[El.proj] at h
@[reducible] def pI:List El->Type
 |[]=>Unit
 |e::r=>e.T×pI r
def vG:(l:List El)->pI l->List AC
 |[], _=>[]
 |e::r,x=>e.g9 x.1::vG r x.2
def oC:(l:List El)->List AC->Option (pI l)
 |[],[]=>some ()
 |s::r,v::vs=>match s.proj v,oC r vs with
  |some x,some y=>some (x,y)
  | _, _=>none
 | _, _=>none
theorem wH: ∀{l:List El} {vs:List AC} {x:pI l},oC l vs=some x->vG l x=vs
 |[],[], _, _=>rfl
 |[], _:: _, _,h=>by simp[oC] at h
 | _:: _,[], _,h=>by simp[oC] at h
 |s::r,v::vs,x,h=>by
  simp only[oC] at h;cases c:s.proj v with
  |none=>simp[c] at h
  |some a=>
   cases h2:oC r vs with
   |none=>simp[c,h2] at h
   |some b=>
    simp only[c,h2] at h;cases h;simp only[vG,El.jj c,wH h2]
inductive Sh where
 |el (e:El)|bu (l:List El)
@[reducible] def Sh.T:Sh->Type
 | .el e=>e.T
 | .bu l=>pI l
def Sh.g9:(s:Sh)->s.T->AC
 | .el e,x=>e.g9 x
 | .bu l,x=> .tuple ⟨vG l x⟩
def Sh.proj:(s:Sh)->AC->Option s.T
 | .el e,v=>e.proj v
 | .bu l,.tuple ⟨vs⟩=>oC l vs
 | .bu _, _=>none
theorem Sh.jj {e:Sh} {v:AC} {x:e.T} (h:e.proj v=some x):e.g9 x=v:=by
 cases e with
 |el s=>exact El.jj h
 |bu l=>
  cases v with
  |tuple cs=>have ⟨vs⟩:=cs;exact congrArg (λl=>Value.tuple ⟨l⟩) (wH h)
  | _=>simp[Sh.proj] at h
def A5 (P:AT):Nat->AR->Option (List Sc)
 |0, _=>none
 |d+1,t=>match P.underlying t with
  |some (.int k)=>some [.int k]
  |some .bool=>some [.bool]
  |some .string=>some [.str]
  |some (.pointer _)=>some [.ptr]
  |some (.slice _)=>some [.slice]
  |some (.map _ _)=>some [.map]
  |some (.func _ _ _)=>some [.func]
  |some (.struct c)=>c.toList.foldr (λf g=>match A5 P d f.type,g with|some a,some b=>some (a++b)| _, _=>none) (some [])
  |some (.array n e)=>match A5 P d e with
   |some a=>if n<=64 then some (List.replicate n a).flatten else none
   |none=>none
  | _=>none
def xM (P:AT) (t:AR):Option El:=
 match P.underlying t with
 |some (.struct _)|some (.array _ _)=>(A5 P 20 t).map .agg
 | _=>match A5 P 20 t with
   |some [s]=>some (.one s)
   | _=>none
def VR (P:AT):List AR->Option (List El)
 |[]=>some []
 |t::r=>match xM P t,VR P r with
  |some e,some l=>some (e::l)
  | _, _=>none
def aaO (P:AT) (f:B3):Sh:=
 match P.funcs[f]? with
 |some fn=>match fn.resultTypes.toList with
  |[t]=>match xM P t with
   |some e=> .el e
   |none=> .bu []
  |ts=>match VR P ts with
   |some l=> .bu l
   |none=> .bu []
 |none=> .bu []
def ay (k:B2) (x y:Int):Int:=k.wrap (x+y)
def aR (k:B2) (x y:Int):Int:=k.wrap (x - y)
def dk (k:B2) (x y:Int):Int:=k.wrap (x*y)
def pT (k:B2) (x y:Int):Int:=k.wrap (x.tdiv y)
def gj (x y:Int):Int:=x.tmod y
def iF (k:B2) (x y:Int):Int:=k.wrap (C9 k.bits x &&& C9 k.bits y).toNat
def Zk (k:B2) (x y:Int):Int:=k.wrap (C9 k.bits x ||| C9 k.bits y).toNat
def aaa (k:B2) (x y:Int):Int:=k.wrap (C9 k.bits x ^^^ C9 k.bits y).toNat
def mV (k:B2) (x y:Int):Int:=k.wrap (C9 k.bits x &&& ~~~ (C9 k.bits y)).toNat
def Di (k:B2) (x y:Int):Int:=k.wrap (x*2 ^ (min y.toNat k.bits))
def Jg (k:B2) (x y:Int):Int:=x.fdiv (2 ^ (min y.toNat k.bits))
def aB (k:B2) (x:Int):Int:=k.wrap x
def aab (k:B2) (x:Int):Int:=k.wrap (C9 k.bits (if k.signed then -1 else k.max) ^^^ C9 k.bits x).toNat
def lL (x y:Int):Int:=if y<x then y else x
def Dj (x y:Int):Int:=if y>x then y else x
structure PR where
 ob:Option Prop
 v:AC
def qk:Operand->Bool
 | .const (.int _ n)=>decide (n≠0)
 | _=>false
def qI:Operand->Bool
 | .const (.int _ n)=>decide (0<=n)
 | _=>false
def lM:Operand->Bool
 | .const (.pointer none)| .const (.slice none _ _)| .const (.map none)| .const .nilFunc=>true
 | _=>false
def NG (op:BinOp) (k:B2) (x y:Int) (a:Operand):Option PR:=
 match op with
 | .add=>some ⟨none,.int k (ay k x y)⟩
 | .sub=>some ⟨none,.int k (aR k x y)⟩
 | .mul=>some ⟨none,.int k (dk k x y)⟩
 | .quo=>some ⟨if qk a then none else some (y≠0),.int k (pT k x y)⟩
 | .rem=>some ⟨if qk a then none else some (y≠0),.int k (gj x y)⟩
 | .and=>some ⟨none,.int k (iF k x y)⟩
 | .or=>some ⟨none,.int k (Zk k x y)⟩
 | .xor=>some ⟨none,.int k (aaa k x y)⟩
 | .andNot=>some ⟨none,.int k (mV k x y)⟩
 | .eql=>some ⟨none,.bool (x==y)⟩
 | .neq=>some ⟨none,.bool (x != y)⟩
 | .lss=>some ⟨none,.bool (decide (x<y))⟩
 | .leq=>some ⟨none,.bool (decide (x<=y))⟩
 | .gtr=>some ⟨none,.bool (decide (x>y))⟩
 | .geq=>some ⟨none,.bool (decide (x>=y))⟩
 | _=>none
def ny (P:AT) (t:AR):Option Bool:=
 match P.underlying t with
 |some (.struct _)|some (.array _ _)=>some true
 |some _=>some false
 |none=>none
def ww (P:AT) (t:AR) (cs:List AC) (off:Nat):Option AC:=
 match ny P t,P.info? t with
 |some true,some i=>some (.agg ⟨(cs.drop off).take i.size⟩)
 |some false, _=>cs[off]?
 | _, _=>none
def MO (P:AT) (g:AR->AC->AC->Option Bool) (xs ys:List AC):List Field->Option Bool
 |[]=>some true
 |f::c=>if f.name≠ "_" then
   match ww P f.type xs f.offset,ww P f.type ys f.offset with
   |some a,some b=>match g f.type a b,MO P g xs ys c with
    |some r,some s=>some (r&&s)
    | _, _=>none
   | _, _=>none
  else MO P g xs ys c
def ZM (P:AT):Nat->AR->AC->AC->Option Bool
 |0, _, _, _=>none
 |d+1,t,x,y=>
  match P.underlying t with
  |some .bool=>match x,y with
   | .bool a,.bool b=>some (a==b)
   | _, _=>none
  |some (.int _)=>match x,y with
   | .int k a,.int c b=>if k=c then some (a==b) else none
   | _, _=>none
  |some .string=>match x,y with
   | .string a,.string b=>some (a==b)
   | _, _=>none
  |some (.struct e)=>match x,y with
   | .agg ⟨xs⟩,.agg ⟨ys⟩=>if P.stoodInHeld t then none else MO P (ZM P d) xs ys e.toList
   | _, _=>none
  | _=>none
def Xh (P:AT) (op:BinOp) (t:AR) (d c:Operand) (x y:AC):Option PR:=
 match x,y with
 | .int k a,.int e b=>
   match op with
   | .shl=>some ⟨if qI c then none else some (0<=b),.int k (Di k a b)⟩
   | .shr=>some ⟨if qI c then none else some (0<=b),.int k (Jg k a b)⟩
   |op=>if k=e then NG op k a b c else none
 | .bool a,.bool b=>
   match op,P.underlying t with
   | .eql,some .bool=>some ⟨none,.bool (a==b)⟩
   | .neq,some .bool=>some ⟨none,.bool (!(a==b))⟩
   | _, _=>none
 | .pointer p,.pointer q=>
   match op,P.underlying t with
   | .eql,some (.pointer _)=>if lM c then some ⟨none,.bool p.isNone⟩ else if lM d then some ⟨none,.bool q.isNone⟩ else none
   | .neq,some (.pointer _)=>if lM c then some ⟨none,.bool (!p.isNone)⟩ else if lM d then some ⟨none,.bool (!q.isNone)⟩ else none
   | _, _=>none
 | .slice p _ _,.slice q _ _=>
   match op,P.underlying t with
   | .eql,some (.slice _)=>if lM c then some ⟨none,.bool p.isNone⟩ else if lM d then some ⟨none,.bool q.isNone⟩ else none
   | .neq,some (.slice _)=>if lM c then some ⟨none,.bool (!p.isNone)⟩ else if lM d then some ⟨none,.bool (!q.isNone)⟩ else none
   | _, _=>none
 | .map p,.map q=>
   match op,P.underlying t with
   | .eql,some (.map _ _)=>if lM c then some ⟨none,.bool p.isNone⟩ else if lM d then some ⟨none,.bool q.isNone⟩ else none
   | .neq,some (.map _ _)=>if lM c then some ⟨none,.bool (!p.isNone)⟩ else if lM d then some ⟨none,.bool (!q.isNone)⟩ else none
   | _, _=>none
 | .string a,.string b=>
   match op with
   | .eql=>some ⟨none,.bool (a==b)⟩
   | .neq=>some ⟨none,.bool (!(a==b))⟩
   | _=>none
 | .agg xs,.agg ys=>
   if P.eqGuardType P.depth t then none else
   match op,ZM P Op.maxDepth t (.agg xs) (.agg ys) with
   | .eql,some r=>some ⟨none,.bool r⟩
   | .neq,some r=>some ⟨none,.bool (!r)⟩
   | _, _=>none
 | _, _=>none
def unV (op:UnOp) (x:AC):Option PR:=
 match op,x with
 | .not,.bool b=>some ⟨none,.bool (!b)⟩
 | .neg,.int k n=>some ⟨none,.int k (aR k 0 n)⟩
 | .xor,.int k n=>some ⟨none,.int k (aab k n)⟩
 | _, _=>none
def VS (P:AT) (src dst:AR) (x:AC):Option PR:=
 match P.underlying src,P.underlying dst,x with
 |some _,some (.int k),.int _ n=>some ⟨none,.int k (aB k n)⟩
 |some .string,some .string,.string s=>some ⟨none,.string s⟩
 | _, _, _=>none
def xX (P:AT) (t:AR) (i:Nat):Option Field:=
 match P.underlying t with
 |some (.struct a)=>a[i]?
 | _=>none
def maps (ρ:Operand->Option AC):List Operand->Option (List AC)
 |[]=>some []
 |x::r=>match ρ x,maps ρ r with
  |some v,some l=>some (v::l)
  | _, _=>none
def A6 (ρ:Operand->Option AC):List (Nat×Operand)->Option (List (Nat×AC))
 |[]=>some []
 |(i,x)::r=>match ρ x,A6 ρ r with
  |some v,some l=>some ((i,v)::l)
  | _, _=>none
def ad (p:Option AG) (n:Nat):Option AG:=p.map (·.add n)
def Cv:List AC->B2->Option (List Int)
 |[], _=>some []
 | .int a n::r,k=>if k=a then(match Cv r k with|some l=>some (n::l)|none=>none) else none
 | _, _=>none
def Jh (l:List Int) (i:Int):Int:=l.getD i.toNat 0
def dz (a:Nat->Option (Nat×Nat)) (cells:List AC):List (Nat×AC)->Option (List AC)
 |[]=>some cells
 |(i,v)::rest=>match a i with
  |none=>none
  |some (off,size)=>
   if(Nat.beq v.cells.toList.length size&&Nat.ble (off+size) cells.length)=true then dz a (cells.take off++(v.cells.toList++cells.drop (off+size))) rest else none
def A7 (a:Nat->Option (Nat×Nat)) (cells:Array AC) (ps:List (Nat×AC)):Option (Array AC):=
 match dz a cells.toList ps with
 |some l=>some ⟨l⟩
 |none=>none
theorem DI: ∀(vs:List AC) (k off:Nat) (cs:List AC),off+k+vs.length<=cs.length->
 (vs.zipIdx k).foldl (λ(cs:Array AC) (x:AC×Nat)=>cs.setIfInBounds (off+x.2) x.1) ⟨cs⟩=⟨cs.take (off+k)++(vs++cs.drop (off+k+vs.length))⟩
 |[],k,off,cs,h=>by simp
 |v::vs,k,off,cs,h=>by
  simp only[MJ] at h;simp;rw[DI vs (k+1) off (cs.set (off+k) v) (by simp;omega)];congr 1
  grind[MM,MV,MW]
theorem DJ (a:Nat->Option (Nat×Nat)): ∀(ps:List (Nat×AC)) (cells r:List AC),dz a cells ps=some r->HD a ⟨cells⟩ ps=some ⟨r⟩
 |[],cells,r,h=>by cases h;rfl
 |(i,v)::rest,cells,r,h=>by
  unfold dz at h;unfold HD;split at h
  .cases h
  .rename_i off size c;split at h
   .rename_i hc;simp only[B5,Nat.beq_eq,Nat.ble_eq] at hc;have ⟨b,h2⟩:=hc;have d:v.cells.size=size:=by simpa using b
    have e: ¬ ((decide (v.cells.size≠size)||decide (off+v.cells.size>(IR cells).size))=true):=by
     simp[d];omega
    simp only[c,e];have:=DI v.cells.toList 0 off cells (by simp only[b];omega);have f:v.cells.zipIdx=⟨v.cells.toList.zipIdx 0⟩:=by
     apply Array.ext';simp
    have g:v.cells.zipIdx.foldl (λ(cs:Array AC) (x:AC×Nat)=>cs.setIfInBounds (off+x.2) x.1) ⟨cells⟩=⟨cells.take off++(v.cells.toList++cells.drop (off+size))⟩:=by
     grind
    refine Eq.trans ?_ (DJ a rest _ r h)
    grind
   .cases h
theorem zj {a:Nat->Option (Nat×Nat)} {cells:Array AC} {ps:List (Nat×AC)} {cs:Array AC} (h:A7 a cells ps=some cs):HD a cells ps=some cs:=by
 unfold A7 at h;split at h
 .rename_i l b;cases h;exact DJ a ps _ l b
 grind
def FN (P:AT) (t:AR) (parts:List (Nat×AC)):Option (Array AC):=
 match P.info? t with
 |some i=>match i.zero with
  |some z=>match P.underlying t with
   |some (.struct a)=>if a.toList.all (λf=>(P.info? f.type).isSome) then A7 ((a.toList.map λf=>(f.offset,P.cellsOf f.type))[·]?) z.cells parts else none
   |some (.array _ e)=>match P.info? e with
    |some b=>A7 (λi=>some (i*b.size,b.size)) z.cells parts
    |none=>none
   | _=>none
  |none=>none
 |none=>none
def VT (s:ByteArray) (i:Int):Int:=(((s.data.toList)[i.toNat]?.getD 0).toNat:Int)
def ju (ρ:Operand->Option AC) (d:Nat):Option Operand->Option (Int)
 |none=>some d
 |some x=>match ρ x with
  |some (.int _ n)=>some n
  | _=>none
def pop (P:AT) (ρ:Operand->Option AC) (o:Oper):Option PR:=
 match o.op with
 | .move x=>match ρ x with
   |some v=>some ⟨none,v⟩
   |none=>none
 | .assign x=>match ρ x with
   |some v=>some ⟨none,v⟩
   |none=>none
 | .nilCheck x=>match ρ x with
   |some (.pointer p)=>some ⟨some (p.isSome=true),.pointer p⟩
   |some (.func (.func f) j cs)=>some ⟨none,.func (.func f) j cs⟩
   | _=>none
 | .binOp op t x y _=>match ρ x,ρ y with
   |some a,some b=>Xh P op t x y a b
   | _, _=>none
 | .unOp op _ x=>match ρ x with
   |some a=>unV op a
   |none=>none
 | .convert s d x=>match ρ x with
   |some a=>VS P s d a
   |none=>none
 | .fieldAddr s x f=>match ρ x,xX P s f with
   |some (.pointer p),some fd=>match P.info? fd.type with
    |some i=>if i.size=0 then none else some ⟨some (p.isSome=true),.pointer (ad p fd.offset)⟩
    |none=>none
   | _, _=>none
 | .field t x f=>match ρ x,xX P t f with
   |some (.agg ⟨cs⟩),some fd=>match ww P fd.type cs fd.offset with
    |some v=>some ⟨none,v⟩
    |none=>none
   | _, _=>none
 | .indexAddr t x ix=>match P.underlying t,ρ x,ρ ix with
   |some (.array len e),some (.pointer p),some (.int _ i)=>match P.info? e with
    |some g=>if len<=1 then none else some ⟨some (p.isSome=true/\0<=i/\i<len),.pointer (ad p (i.toNat*g.size))⟩
    |none=>none
   |some (.slice e),some (.slice p len _),some (.int _ i)=>match P.info? e with
    |some g=>some ⟨some (p.isSome=true/\0<=i/\i<len),.pointer (ad p (i.toNat*g.size))⟩
    |none=>none
   | _, _, _=>none
 | .index t x ix=>match P.underlying t,ρ x,ρ ix with
   |some (.array len e),some (.agg ⟨cs⟩),some (.int _ i)=>match P.info? e with
    |some g=>match ix with
     | .const (.int _ n)=>if 0<=n/\n<len then(match ww P e cs (n.toNat*g.size) with
      |some v=>some ⟨none,v⟩
      |none=>none) else none
     | _=>match P.underlying e with
       |some (.int k)=>match Cv cs k with
        |some q=>if cs.length=len/\g.size=1 then some ⟨some (0<=i/\i<len),.int k (Jh q i)⟩ else none
        |none=>none
       | _=>none
    |none=>none
   |some .string,some (.string s),some (.int _ i)=>some ⟨some (0<=i/\i<s.size),.int .u8 (VT s i)⟩
   | _, _, _=>none
 | .makeFunc fn first r=>match maps ρ first.toList,maps ρ r.toList with
   |some a,some b=>some ⟨none,.func fn ⟨a⟩ ⟨b⟩⟩
   | _, _=>none
 | .extract x i=>match ρ x with
   |some (.tuple ⟨vs⟩)=>match vs[i]? with
    |some v=>some ⟨none,v⟩
    |none=>none
   | _=>none
 | .build t parts=>match A6 ρ parts.toList with
   |some ps=>match FN P t ps with
    |some cs=>some ⟨none,.agg cs⟩
    |none=>none
   |none=>none
 | .slice t x lo hi mx=>match P.underlying t,ρ x with
   |some (.slice e),some (.slice p len cap)=>match P.info? e,ju ρ 0 lo,ju ρ len hi,ju ρ cap mx with
    |some g,some l,some h,some m=>if hi.isNone&&mx.isSome then none else
     some ⟨some (0<=l/\l<=h/\h<=m/\m<=cap),.slice (if m.toNat=l.toNat then p else ad p (l.toNat*g.size)) (h.toNat - l.toNat) (m.toNat - l.toNat)⟩
    | _, _, _, _=>none
   |some .string,some (.string s)=>match ju ρ 0 lo,ju ρ s.size hi with
    |some l,some h=>if mx.isSome then none else some ⟨some (0<=l/\l<=h/\h<=s.size),.string (s.extract l.toNat h.toNat)⟩
    | _, _=>none
   | _, _=>none
 | .call c=>match c.callee with
   | .builtin .len=>match c.args.toList,c.argTypes.toList with
     |[x],[t]=>match ρ x,P.underlying t with
      |some (.slice _ n _),some (.slice _)=>some ⟨none,.int .i64 n⟩
      |some (.string s),some .string=>some ⟨none,.int .i64 s.size⟩
      |some (.agg _),some (.array n _)=>some ⟨none,.int .i64 n⟩
      | _, _=>none
     | _, _=>none
   | .builtin .min=>match c.args.toList with
     |[x,y]=>match ρ x,ρ y with
      |some (.int k a),some (.int _ b)=>some ⟨none,.int k (lL a b)⟩
      | _, _=>none
     | _=>none
   | .builtin .max=>match c.args.toList with
     |[x,y]=>match ρ x,ρ y with
      |some (.int k a),some (.int _ b)=>some ⟨none,.int k (Dj a b)⟩
      | _, _=>none
     | _=>none
   | _=>none
 | _=>none
section
variable {P:AT}
theorem bN {t:AR} {d:TypeDesc} (h:P.underlying t=some d) (w:A2):(underlying t).run P w= .ok d w:=run_underlying h w
theorem jk {t:AR} {i:TypeInfo} (h:P.info? t=some i) (w:A2):(typeInfo t).run P w= .ok i w:=by
 unfold typeInfo;simp[h]
theorem eV {t:AR} {i:TypeInfo} (h:P.info? t=some i) (w:A2):(sizeOf t).run P w= .ok i.size w:=by
 unfold sizeOf;simp[jk h]
theorem vP {t:AR} {b:Bool} (h:ny P t=some b) (w:A2):(isAgg t).run P w= .ok b w:=by
 unfold ny at h;unfold isAgg;cases a:P.underlying t with
 |none=>grind
 |some d=>cases d<;>simp_all [bN]
theorem n7 {t:AR} {cs:List AC} {off:Nat} {v:AC} (h:ww P t cs off=some v) (w:A2):(part t ⟨cs⟩ off).run P w= .ok v w:=by
 unfold ww at h;unfold part;cases hb:ny P t with
 |none=>grind
 |some b=>
  simp[vP hb];cases b with
  |true=>
   cases hi:P.info? t with
   |none
   |some i=>
    simp_all[eV]
  |false=>
   simp_all
theorem Ie: ∀(d:Nat) (t:AR) (x y:AC) (r:Bool),ZM P d t x y=some r-> ∀w,(B4 d t x y).run P w= .ok r w:=by
 intro d
 induction d with
 |zero=>intro t x y r h;simp[ZM] at h
 |succ d k=>
  intro t x y r h w;unfold ZM at h;split at h
  .rename_i c;split at h
   .cases h;simp[B4,bN c]
   .cases h
  .rename_i k0 c;split at h
   .split at h
    .cases h;subst_vars;simp[B4,bN c]
    .cases h
   .cases h
  .rename_i c;split at h
   .cases h;simp[B4,bN c]
   .cases h
  .rename_i i c;split at h
   .rename_i xs ys;split at h
    .cases h
    .rename_i m;have e:P.fieldsOf t=i:=by simp[Program.fieldsOf,c]
     rw[run_equalIn_struct w d t ⟨xs⟩ ⟨ys⟩ (by rw[e];exact c) (by simpa using m),e];clear c e;generalize i.toList=l at h
     induction l generalizing r with
     |nil=>simp only[MO,Ct] at h;subst h;simp[Op.eqFields]
     |cons f l j=>
      simp only[MO] at h;unfold Op.eqFields;split
      .rename_i g;rw[if_pos g] at h;split at h
       .rename_i a b n hb;split at h
        .rename_i o q p h2;cases h;simp only[AU,n7 n,n7 hb,AZ,k _ _ _ _ p];cases o
         .simp
         .simp[j _ h2]
        .cases h
       .cases h
      .rename_i g;rw[if_neg g] at h;exact j _ h
   .cases h
  .cases h
end
section
variable {P:AT} {ρ:Operand->Option AC} {ev:Operand->AC}
theorem mW (a: ∀x v,ρ x=some v->ev x=v): ∀{l:List Operand} {vs:List AC},maps ρ l=some vs->l.map ev=vs
 |[],vs,h=>by grind[maps]
 |x::r,vs,h=>by
  simp[maps] at h;split at h
  .rename_i b h2;cases h;simp[a _ _ b,mW a h2]
  grind
theorem zk (a: ∀x v,ρ x=some v->ev x=v): ∀{l:List (Nat×Operand)} {vs:List (Nat×AC)},A6 ρ l=some vs->(l.map λ(i,x)=>(i,ev x))=vs
 |[],vs,h=>by grind[A6]
 |i::r,vs,h=>by
  simp[A6] at h;split at h
  .rename_i h2;have:=zk a h2
   grind
  grind
theorem xR (op:BinOp) (t:AR) (x y:Operand) (k c:B2) (a b:Int) (w:A2):(eqGuard op t x y (.int k a) (.int c b)).run P w= .ok () w:=by
 unfold eqGuard;simp
theorem Bk {t:AR} (c:P.underlying t=some .bool) (d:Nat) (a b:Bool) (w:A2):(B4 (d+1) t (.bool a) (.bool b)).run P w= .ok (a==b) w:=by
 simp[B4,bN c]
theorem zU {t e:AR} (a:P.underlying t=some (.pointer e)) (d:Nat) (p:Option AG) (w:A2):(B4 (d+1) t (.pointer p) (.pointer none)).run P w= .ok p.isNone w:=by
 cases p<;>simp[B4,bN a]
theorem zV {t e:AR} (a:P.underlying t=some (.pointer e)) (d:Nat) (p:Option AG) (w:A2):(B4 (d+1) t (.pointer none) (.pointer p)).run P w= .ok p.isNone w:=by
 cases p<;>simp[B4,bN a]
theorem uD {t e:AR} (a:P.underlying t=some (.slice e)) (d:Nat) (p:Option AG) (n c b f:Nat) (w:A2):(B4 (d+1) t (.slice p n c) (.slice none b f)).run P w= .ok p.isNone w:=by
 cases p<;>simp[B4,bN a]
theorem uE {t e:AR} (a:P.underlying t=some (.slice e)) (d:Nat) (p:Option AG) (n c b f:Nat) (w:A2):(B4 (d+1) t (.slice none b f) (.slice p n c)).run P w= .ok p.isNone w:=by
 cases p<;>simp[B4,bN a]
theorem zW {t k e:AR} (a:P.underlying t=some (.map k e)) (d:Nat) (p:Option Nat) (w:A2):(B4 (d+1) t (.map p) (.map none)).run P w= .ok p.isNone w:=by
 cases p<;>simp[B4,bN a]
theorem zX {t k e:AR} (a:P.underlying t=some (.map k e)) (d:Nat) (p:Option Nat) (w:A2):(B4 (d+1) t (.map none) (.map p)).run P w= .ok p.isNone w:=by
 cases p<;>simp[B4,bN a]
theorem gX {t:AR} {x y:AC} {r:Bool} {w:A2} (h: ∀d,(B4 (d+1) t x y).run P w= .ok r w):(Op.equal t x y).run P w= .ok r w:=h _
theorem Tc {op:BinOp} {t:AR} {i e:Operand} {x y:AC} {l:PR} (j: ∀v,e= .const v->y=v) (m: ∀v,i= .const v->x=v)
 (h:Xh P op t i e x y=some l) (o: ∀p,l.ob=some p->p) (w:A2):
 (do eqGuard op t i e x y;binOp op t x y).run P w= .ok l.v w:=by
 unfold Xh at h;split at h
 .
  rename_i k a F b;simp only[AU,xR,AZ];have B:qk e=true->b≠0:=by
   intro hc;unfold qk at hc;split at hc
   .rename_i C n;have:=j _ rfl;cases this;simpa using hc
   .cases hc
  have z:qI e=true->0<=b:=by
   intro hc;unfold qI at hc;split at hc
   .rename_i C n;have:=j _ rfl;cases this;simpa using hc
   .cases hc
  split at h
  .cases h;have h0:0<=b:=by
    by_cases hc:qI e=true
    .exact z hc
    .exact o (0<=b) (by simp[hc])
   simp[binOp,Op.shift,Di,Int.not_lt.2 h0]
  .cases h;have h0:0<=b:=by
    by_cases hc:qI e=true
    .exact z hc
    .exact o (0<=b) (by simp[hc])
   simp[binOp,Op.shift,Jg,Int.not_lt.2 h0]
  .rename_i G H;split at h
   .subst_vars
    cases op<;>simp only[NG] at h<;>(try cases h)<;>
     first
      |(simp[binOp,Op.intArith,ay,aR,dk];done)
      |(simp[binOp,Op.intBits,iF,Zk,aaa,mV];done)
      |(simp[binOp,Op.intCmp];done)
      |(have h0:b≠0:=by
         by_cases hc:qk e=true
         .exact B hc
         .exact o (b≠0) (by simp[hc])
        simp[binOp,Op.intDiv,h0,pT,gj])
   .cases h
 .
  rename_i a b;split at h
  .rename_i c;cases h;simp[eqGuard,binOp,gX λd=>Bk c d a b w]
  .rename_i c;cases h;simp[eqGuard,binOp,gX λd=>Bk c d a b w]
  .cases h
 .
  rename_i p q;have f:lM e=true->q=none:=by
   intro hc;unfold lM at hc;split at hc<;>first|(have:=j _ rfl;cases this<;>rfl)|(cases hc)
  have g:lM i=true->p=none:=by
   intro hc;unfold lM at hc;split at hc<;>first|(have:=m _ rfl;cases this<;>rfl)|(cases hc)
  split at h
  .rename_i c;split at h
   .rename_i hc;cases h;rw[f hc];simp[eqGuard,binOp,gX λd=>zU c d p w]
   .split at h
    .rename_i hc;cases h;rw[g hc];simp[eqGuard,binOp,gX λd=>zV c d q w]
    .cases h
  .rename_i c;split at h
   .rename_i hc;cases h;rw[f hc];simp[eqGuard,binOp,gX λd=>zU c d p w]
   .split at h
    .rename_i hc;cases h;rw[g hc];simp[eqGuard,binOp,gX λd=>zV c d q w]
    .cases h
  .cases h
 .
  rename_i p _ _ q _ _;have f:lM e=true->q=none:=by
   intro hc;unfold lM at hc;split at hc<;>first|(have:=j _ rfl;cases this<;>rfl)|(cases hc)
  have g:lM i=true->p=none:=by
   intro hc;unfold lM at hc;split at hc<;>first|(have:=m _ rfl;cases this<;>rfl)|(cases hc)
  split at h
  .rename_i c;split at h
   .rename_i hc;cases h;rw[f hc];simp[eqGuard,binOp,gX λd=>uD c d p _ _ _ _ w]
   .split at h
    .rename_i hc;cases h;rw[g hc];simp[eqGuard,binOp,gX λd=>uE c d q _ _ _ _ w]
    .cases h
  .rename_i c;split at h
   .rename_i hc;cases h;rw[f hc];simp[eqGuard,binOp,gX λd=>uD c d p _ _ _ _ w]
   .split at h
    .rename_i hc;cases h;rw[g hc];simp[eqGuard,binOp,gX λd=>uE c d q _ _ _ _ w]
    .cases h
  .cases h
 .
  rename_i p q;have f:lM e=true->q=none:=by
   intro hc;unfold lM at hc;split at hc<;>first|(have:=j _ rfl;cases this<;>rfl)|(cases hc)
  have g:lM i=true->p=none:=by
   intro hc;unfold lM at hc;split at hc<;>first|(have:=m _ rfl;cases this<;>rfl)|(cases hc)
  split at h
  .rename_i c;split at h
   .rename_i hc;cases h;rw[f hc];simp[eqGuard,binOp,gX λd=>zW c d p w]
   .split at h
    .rename_i hc;cases h;rw[g hc];simp[eqGuard,binOp,gX λd=>zX c d q w]
    .cases h
  .rename_i c;split at h
   .rename_i hc;cases h;rw[f hc];simp[eqGuard,binOp,gX λd=>zW c d p w]
   .split at h
    .rename_i hc;cases h;rw[g hc];simp[eqGuard,binOp,gX λd=>zX c d q w]
    .cases h
  .cases h
 .
  rename_i a b;split at h
  .cases h;simp[eqGuard,binOp,Op.stringOp,beq_toListBytes]
  .cases h;simp[eqGuard,binOp,Op.stringOp,beq_toListBytes]
  .cases h
 .
  rename_i xs ys;split at h
  .cases h
  .rename_i D;have E:P.eqGuardType P.depth t=false:=by simpa using D
   have A: ∀op:BinOp,(eqGuard op t i e (.agg xs) (.agg ys)).run P w= .ok () w:=by
    intro op;unfold eqGuard;cases op<;>simp[E]
   split at h
   .rename_i r s;cases h;simp only[AU,A,AZ];have u:(Op.equal t (.agg xs) (.agg ys)).run P w= .ok r w:=Ie (P:=P) _ _ _ _ _ s w;simp[binOp,u]
   .rename_i r s;cases h;simp only[AU,A,AZ];have u:(Op.equal t (.agg xs) (.agg ys)).run P w= .ok r w:=Ie (P:=P) _ _ _ _ _ s w;simp[binOp,u]
   .cases h
 .cases h
end
section
variable {P:AT} {ρ:Operand->Option AC} {ev:Operand->AC}
theorem zY: ∀{cs:List AC} {k:B2} {a:List Int},Cv cs k=some a-> ∀i,i<cs.length->cs[i]? =some (.int k (a.getD i 0))
 |c::cs,k,a,h,i,hi=>by
  unfold Cv at h;split at h
  grind
  .rename_i e n r f b;cases b;split at h
   .subst_vars
    split at h
    .rename_i l d;cases h;cases i with
     |zero=>simp
     |succ i=>simpa using zY d i (by grind)
    grind
   .cases h
  .cases h
theorem wI {t:AR} {f:Nat} {fd:Field} (b:xX P t f=some fd): ∃a,P.underlying t=some (.struct a)/\a[f]? =some fd:=by
 grind[xX]
theorem Ez {t e:AR} {a:TypeInfo} (p:AG) (k:B2) (i:Int) (len:Nat) (d: ¬ len<=1) (b:P.underlying t=some (.array len e)) (hi:P.info? e=some a) (h0:0<=i) (c:i<len) (w:A2):
 (HF t (.pointer (some p)) (.int k i)).run P w= .ok (.pointer (some (p.add (i.toNat*a.size)))) w:=by
 simp[HF,asIntOf,HH,bN b,eV hi,h0,c]
theorem run_indexAt_slice {t e:AR} {a:TypeInfo} (p:AG) (k:B2) (i:Int) (len cap:Nat) (b:P.underlying t=some (.slice e)) (hi:P.info? e=some a) (h0:0<=i) (c:i<len) (w:A2):
 (HF t (.slice (some p) len cap) (.int k i)).run P w= .ok (.pointer (some (p.add (i.toNat*a.size)))) w:=by
 simp[HF,asIntOf,bN b,eV hi,h0,c]
theorem fW {α:Type} {p:Option α} (h:p.isSome=true): ∃a,p=some a:=Option.isSome_iff_exists.1 h
theorem lV (a: ∀x v,ρ x=some v->ev x=v) {d:Nat} {x:Operand} {n:Int} (h:ju ρ d (some x)=some n): ∃k,ev x= .int k n:=by grind[ju]
theorem run_sliceBound (k:B2) (n:Int) (y:Nat) (c:BoundsCode) (h0:0<=n) (a:n<=y) (w:A2):(Nb (.int k n) y c).run P w= .ok n.toNat w:=by
 simp[Nb,asIntOf,h0,a]
theorem py (b: ∀x v,ρ x=some v->ev x=v) {Zl:Bool} {len cap:Nat} {lo hi mx:Option Operand} {l h m:Int}
 (a:ju ρ 0 lo=some l) (c:ju ρ len hi=some h) (g:ju ρ cap mx=some m) (n: ¬ (hi.isNone=true/\mx.isSome=true))
 (h0:0<=l) (o:l<=h) (h2:h<=m) (p:m<=cap) (w:A2):
 (Nd Zl len cap (lo.map ev) (hi.map ev) (mx.map ev)).run P w= .ok (l.toNat,h.toNat,m.toNat) w:=by
 unfold Nd;have a1:h<=((m.toNat:Nat):Int):=by omega
 have q:l<=((h.toNat:Nat):Int):=by omega
 have i:0<=h:=by omega
 have r:0<=m:=by omega
 cases mx with
 |none=>
  simp only[ju,Ct] at g;subst g;have j:h<=(cap:Int):=h2;cases hi with
  |none=>
   simp only[ju,Ct] at c;subst c;cases lo with
   |none=>simp only[ju,Ct] at a;subst a;simp
   |some x=>have ⟨k,d⟩:=lV b a;simp[d,run_sliceBound k l len _ h0 o]
  |some y=>
   have ⟨e,f⟩:=lV b c;cases lo with
   |none=>simp only[ju,Ct] at a;subst a;cases Zl<;>simp[f,run_sliceBound e h cap _ i j]
   |some x=>have ⟨k,d⟩:=lV b a;cases Zl<;>simp[d,f,run_sliceBound e h cap _ i j,run_sliceBound k l h.toNat _ h0 q]
 |some z=>
  have ⟨s,t⟩:=lV b g;cases hi with
  |none=>simp at n
  |some y=>
   have ⟨e,f⟩:=lV b c;cases lo with
   |none=>simp only[ju,Ct] at a;subst a;cases Zl<;>simp[f,t,run_sliceBound s m cap _ r p,run_sliceBound e h m.toNat _ i a1]
   |some x=>have ⟨k,d⟩:=lV b a;simp_all[run_sliceBound]
theorem OB {s:ByteArray} {i:Int} (h0:0<=i) (a:i<s.size):s[i.toNat]? =some (s.data[i.toNat]?.getD 0):=by
 simp_all
 rfl
theorem run_places: ∀(l:List Field),(l.all λf=>(P.info? f.type).isSome)=true-> ∀w:A2,
 (l.mapM (m:=Sem) λf=>do pure (f.offset, <-sizeOf f.type)).run P w= .ok (l.map λf=>(f.offset,P.cellsOf f.type)) w
 |[], _,w=>by rfl
 |f::l,h,w=>by
  simp only[Hr,B5] at h;have ⟨i,hi⟩:=fW h.1;have a:P.cellsOf f.type=i.size:=by simp[Program.cellsOf,hi]
  have b:=run_places l
  simp_all[eV]
theorem OC {t:AR} {parts:Array (Nat×AC)} {ps:List (Nat×AC)} {cs:Array AC} (e:parts.toList=ps) (h:FN P t ps=some cs) (w:A2):
 (Instr.build t parts).run P w= .ok (.agg cs) w:=by
 unfold FN at h;split at h
 .rename_i i hi;split at h
  .rename_i z b;unfold Instr.build zeroValue;simp only[AU,jk hi,AZ,b,B1];split at h
   .rename_i c a;split at h
    .rename_i d;have g:=run_places (P:=P) c.toList (by simpa using d) w
     simp_all[In,zj,bN]
    .cases h
   .rename_i n el a;split at h
    .rename_i j f;simp only[bN a,AZ,AU,eV f,e,zj h];rfl
    .cases h
   .cases h
  .cases h
 .cases h
theorem NH {o:Oper} {F:PR} (g: ∀x v,ρ x=some v->ev x=v) (hc: ∀v,ev (.const v)=v) (h:pop P ρ o=some F) (z: ∀p,F.ob=some p->p) (w:A2):
 (execOp ev o).run P w= .ok (.value F.v) w:=by
 have ⟨dst,op,type,pos,after,guard⟩:=o;unfold pop at h;cases op<;>simp only at h<;>(try (cases h;done))<;>unfold execOp<;>simp only
 case move x=>
  split at h
  .rename_i v hv;cases h;simp[g _ _ hv]
  .cases h
 case assign x=>
  split at h
  .rename_i v hv;cases h;simp[g _ _ hv]
  .cases h
 case build t parts=>
  split at h
  .rename_i ps O;split at h
   .rename_i cs kv;cases h;have e:=zk g O;have Q:(parts.map λ(i,x)=>(i,ev x)).toList=ps:=by rw[<-e];simp
    simp[OC Q kv]
   .cases h
  .cases h
 case nilCheck x=>
  split at h
  .rename_i p hv;cases h;obtain⟨a,rfl⟩:=fW (z _ rfl);simp[g _ _ hv]
  .rename_i f L cs hv;cases h;simp[g _ _ hv]
  .cases h
 case binOp op t x y yt=>
  split at h
  .rename_i a b u hb;have R:=Tc (P:=P) (λv hv=>by rw[<-g _ _ hb,hv,hc]) (λv hv=>by rw[<-g _ _ u,hv,hc]) h z w;simp only[g _ _ u,g _ _ hb];rw[AU,R];rfl
  .cases h
 case unOp op t x=>
  split at h
  .rename_i a u;simp only[g _ _ u];unfold unV at h;split at h<;>(try cases h)<;>simp[Op.unary,Op.intArith,Op.intBits,aR,aab]
  .cases h
 case convert s d x=>
  split at h
  .rename_i a u;simp only[g _ _ u];unfold VS at h;split at h
   .rename_i ds k k' n r h2;cases h;cases ds<;>simp[convert,bN r,bN h2,Conv.intToInt,aB]
   .rename_i h2 G;cases h;simp[convert,bN h2,bN G]
   .cases h
  .cases h
 case makeFunc fn first M=>
  split at h
  .rename_i a b u hb;cases h;have S:=mW g u;have T:=mW g hb;have U:first.map ev=⟨a⟩:=by rw[<-S];cases first;simp
   have V:M.map ev=⟨b⟩:=by rw[<-T];cases M;simp
   simp[Instr.makeFunc,U,V]
  .cases h
 case slice t x lo hi mx=>
  split at h
  .rename_i e p len cap q j;split at h
   .rename_i E l W m X B H Y;split at h
    .cases h
    .rename_i N;cases h;have ⟨h0,r,h2,G⟩:=z _ rfl;have Z: ¬ (hi.isNone=true/\mx.isSome=true):=by simpa using N
     have hb:=py (P:=P) (Zl:=true) g B H Y Z h0 r h2 G w;simp only[g _ _ j];simp[Nf,bN q,Instr.slice,hb,eV X,ad]
   .cases h
  .rename_i s q j;split at h
   .rename_i l W B H;split at h
    .cases h
    .rename_i N;cases h;have ⟨h0,r,h2⟩:=z _ rfl;have hmx:mx=none:=by cases mx<;>simp_all
     subst hmx;have hb:=py (P:=P) (Zl:=false) (cap:=s.size) (mx:=none) g B H rfl (by simp) h0 r h2 (by simp) w;simp only[Pp] at hb;simp only[g _ _ j];simp[Nf,bN q,Instr.slice,hb]
   .cases h
  .cases h
 case fieldAddr s x f=>
  split at h
  .rename_i p fd j I;split at h
   .rename_i i hi;split at h
    .cases h
    .rename_i hz;cases h;obtain⟨a,rfl⟩:=fW (z _ rfl);have ⟨L,q,J⟩:=wI I;simp[Instr.fieldAt,bN q,J,g _ _ j,HH,fieldPlace,eV hi,hz,ad]
   .cases h
  .cases h
 case field t x f=>
  split at h
  .rename_i cs fd j I;split at h
   .rename_i v hv;cases h;have ⟨L,q,J⟩:=wI I;simp[Instr.field,bN q,J,g _ _ j,asAgg,n7 hv]
   .cases h
  .cases h
 case indexAddr t x ix=>
  split at h
  .rename_i len e p k i q j A;split at h
   .rename_i E hi;split at h
    .cases h
    .rename_i B;cases h;have ⟨C,h0,r⟩:=z _ rfl;obtain⟨a,rfl⟩:=fW C;simp[g _ _ j,g _ _ A,Ez a k i len B q hi h0 r,ad]
   .cases h
  .rename_i e p len cap k i q j A;split at h
   .rename_i E hi;cases h;have ⟨C,h0,r⟩:=z _ rfl;obtain⟨a,rfl⟩:=fW C;simp[g _ _ j,g _ _ A,run_indexAt_slice a k i len cap q hi h0 r,ad]
   .cases h
  .cases h
 case index t x ix=>
  split at h
  .rename_i len e cs k i q j A;split at h
   .rename_i E hi;split at h
    .rename_i k2 n;have hn:(Value.int k2 n)= .int k i:=by rw[<-g _ _ A,hc]
     cases hn;split at h
     .rename_i hb;split at h
      .rename_i v hv;cases h;simp[J3,asIntOf,bN q,g _ _ j,hc,hb.1,hb.2,eV hi,n7 hv]
      .cases h
     .cases h
    .split at h
     .rename_i k3 hu3;split at h
      .rename_i ns hns;split at h
       .rename_i hlen;cases h;have ⟨h0,r⟩:=z _ rfl;have gL:i.toNat<cs.length:=by omega
        have dJ:=zY hns i.toNat gL;have C:ww P e cs (i.toNat*E.size)=some (.int k3 (Jh ns i)):=by
         rw[hlen.2,Nat.mul_one];unfold ww;have:ny P e=some false:=by unfold ny;simp[hu3]
         simp[this,dJ,Jh]
        simp[J3,asIntOf,bN q,g _ _ j,g _ _ A,h0,r,eV hi,n7 C]
       .cases h
      .cases h
     .cases h
   .cases h
  .rename_i s k i q j A;cases h;have ⟨h0,r⟩:=z _ rfl;have hg:=OB h0 r;simp[J3,asIntOf,bN q,g _ _ j,g _ _ A,h0,hg,VT]
  .cases h
 case extract x i=>
  split at h
  .rename_i vs j;split at h
   .rename_i v hv;cases h;simp[g _ _ j,HQ,hv]
   .cases h
  .cases h
 case call c=>
  have ⟨callee,args,argTypes⟩:=c;simp only at h;split at h
  .
   split at h
   .rename_i x t u ht;have D:args= #[x]:=by cases args;simp_all
    have et:argTypes= #[t]:=by cases argTypes;simp_all
    subst D et;split at h<;>(try cases h)
    .rename_i j q;simp[resolve,invoke,builtin,HY,g _ _ j,bN q,goInt]
    .rename_i j q;simp[resolve,invoke,builtin,HY,g _ _ j,bN q,goInt]
    .rename_i j q;simp[resolve,invoke,builtin,HY,g _ _ j,bN q,goInt]
   .cases h
  .
   split at h
   .rename_i x y u;have D:args= #[x,y]:=by cases args;simp_all
    subst D;split at h<;>(try cases h);rename_i j K;simp[resolve,invoke,builtin,Builtin.min_,Builtin.min2,g _ _ j,g _ _ K,lL]
   .cases h
  .split at h
   .rename_i x y u;have D:args= #[x,y]:=by cases args;simp_all
    subst D;split at h<;>(try cases h);rename_i j K;simp[resolve,invoke,builtin,Builtin.max_,Builtin.max2,g _ _ j,g _ _ K,Dj]
   .cases h
  .cases h
end
structure cb where
 t:Nat
 ch:List (Nat×Bool)
 g:Option Bool
 v:AC
 k:Option Bool
def cm:List cb->Nat->Option cb
 |[], _=>none
 |e::r,t=>if e.t=t then some e else cm r t
structure Entry (P:AT) where
 f:B3
 fn:List AC->Option (Prop×AC)
 ok: ∀args pre v,fn args=some (pre,v)->pre-> ∀w,Calls P f ⟨args⟩ w (λe w'=>e= .returned v/\Ext w w')
structure fa (P:AT) where
 oW:List (Entry P)
 quiet:List B3
 sh:List (B3×Sh)
 mixed:P.follows .mixedOrders=true
 wx:Bool:=false
 cl:List (AR×Sc):=[]
 ZP:Option Sh:=none
def NI:List (B3×Sh)->B3->Option Sh
 |[], _=>none
 |(g,s)::r,f=>if g=f then some s else NI r f
def vw {P:AT} (C:fa P) (f:B3):Sh:=
 match NI C.sh f with
 |some s=>s
 |none=>aaO P f
def NJ:List (AR×Sc)->AR->Option Sc
 |[], _=>none
 |(g,s)::r,t=>if g=t then some s else NJ r t
def elC {P:AT} (C:fa P) (t:AR):Option El:=
 match xM P t with
 |some (.one .func)=>match NJ C.cl t with
  |some s=>some (.one s)
  |none=>some (.one .func)
 |e=>e
def yI {P:AT}:List (Entry P)->B3->Option (Entry P)
 |[], _=>none
 |e::r,f=>if e.f=f then some e else yI r f
def fi (first:Array AC) (a:List AC) (cap:Array AC):List AC:=first.toList++(a++cap.toList)
def bT (P:AT) (a:B3):Bool:=
 match P.funcs[a]? with
 |some fn=>fn.body.isSome&& !(fn.name== "runtime.NumGoroutine")
 |none=>false
def ai (P:AT) (f:B3) (args:List AC) (w:A2) (v:AC):Prop:=
 ∀w',Ext w w'->Calls P f ⟨args⟩ w' (λe a=>e= .returned v/\Ext w' a)
def aC (P:AT) (f:B3) (s:Sh) (args:List AC) (w:A2) (R:s.T->A2->Prop):Prop:=
 Calls P f ⟨args⟩ w (λe w'=> ∃x:s.T,e= .returned (s.g9 x)/\R x w')
theorem aC.mono {P:AT} {f:B3} {s:Sh} {args:List AC} {w:A2} {R a:s.T->A2->Prop} (h:aC P f s args w R) (k: ∀x w',R x w'->a x w'):aC P f s args w a:=
 E4 h (by grind)
def fy (_:Nat) (_:Op):Prop:=False
def bP (w:A2) (p:Option AG):(e:El)->e.T->Prop
 | .one s,x=> ∃a,p=some a/\w.cell? a=some (s.g9 x)
 | .agg l,x=> ∃a,p=some a/\ ∀i,i<l.length->w.cell? (a.add i)=(a6 l x)[i]?
def qJ:El->Nat->Bool
 | .one _, _=>false
 | .agg l,n=>l.length != n
def rS (w:A2) (p:Option AG) (n:Nat) (vs:List AC):Prop:=
 match p with
 |none=>vs=[]
 |some a=>vs.length=n/\ ∀i,i<n->w.cell? (a.add i)=vs[i]?
def SV (w:A2) (p:Option AG) (n:Nat):Prop:=
 ∃a,p=some a/\ ∀i,i<n->(w.cell? (a.add i)).isSome=true/\w.frozen? (a.add i)=false
def putAt (w:A2) (a:AG):List AC->Nat->A2
 |[], _=>w
 |v::r,i=>putAt (w.setCell (a.add i) v) a r (i+1)
def jb (w:A2) (p:Option AG) (vs:List AC):A2:=
 match p with
 |some a=>putAt w a vs 0
 |none=>w
def nm (w:A2) (e:AR) (size bytes:Nat) (z:Array AC) (s x:Option AG×Nat×Nat) (R:Option AG×Nat×Nat->A2->Prop):Prop:=
 ∃iQ new,rS w s.1 (s.2.1*size) iQ/\rS w x.1 (x.2.1*size) new/\
  (s.2.1+x.2.1<=s.2.2->(new=[]\/(SV w (s.1.map (·.add (s.2.1*size))) new.length/\new.all (·.oneCell')=true))/\
   R (s.1,s.2.1+x.2.1,s.2.2) (jb w (s.1.map (·.add (s.2.1*size))) new))/\
  (s.2.2<s.2.1+x.2.1->Nl (s.2.1+x.2.1) s.2.2*bytes<=2 ^ 48/\
   ∀c,s.2.1+x.2.1<=c->R (some ⟨w.heap.size,0,none⟩,s.2.1+x.2.1,c) (w.drew.alloc (.cells (⟨iQ⟩++⟨new⟩++Fh z (c - (s.2.1+x.2.1))) e)))
def cpR (w:A2) (size:Nat) (d x:Option AG×Nat) (R:Int->A2->Prop):Prop:=
 ∃new,rS w x.1 (Nat.min x.2 d.2*size) new/\(d.1=none\/new=[]\/(SV w d.1 new.length/\new.all (·.oneCell')=true))/\R (Nat.min x.2 d.2:Nat) (jb w d.1 new)
def nA (P:AT) (l:Nat) (args:List AC) (w:A2) (R:Bool->A2->Prop):Prop:=
 ∃rec,w.heap[l]? =some (.loop rec)/\args.length=rec.params.size/\
  RoundIn Dl 0 P l rec.fn ((rec.params.zip ⟨args⟩).foldl (λtmps (t,a)=>tmps.setIfInBounds t a) rec.tmps) rec.assign rec.body w
   (λe w'=> ∃b,e= .returned (.bool b)/\R b w')
def kV (g:Option Bool) (p:Prop):Prop:=
 match g with
 |none=>p
 |some b=>b=true->p
@[reducible] def ag (w:A2) (g:Option Bool) (p:Option AG) (el:El) (K:el.T->Prop):Prop:= ∃x:el.T,kV g (bP w p el x)/\K x
@[reducible] def aw (w:A2) (p:Option AG) (vs:List AC) (K:A2->Prop):Prop:= ∀w1,Ext w w1->(vs.all (·.oneCell')=true/\SV w1 p vs.length)/\K (jb w1 p vs)
@[reducible] def aH (w:A2) (cs:Array AC) (e:AR) (K:Nat->A2->Prop):Prop:= ∀w1,Ext w w1->K w1.heap.size (w1.alloc (.cells cs e))
def aA (P:AT) (f:B3) (s:Sh) (args:List AC) (w:A2) (K:s.T->A2->Prop):Prop:= ∀w1,Ext w w1->aC P f s args w1 K
def aac (bytes:Nat) (n m:Int):Prop:=0<=n/\n<=m/\m<2 ^ 63/\bytes*m<=2 ^ 48
def oD (z:Array AC) (n:Nat):Array AC:=(Array.range n).map ((if n=0 then #[] else z)[· % (if n=0 then #[] else z).size]!)
def Hx (P:AT) (v:AC) (s:Sh) (b:List AC) (w:A2) (K:s.T->A2->Prop):Prop:=
 ∀w1,Ext w w1-> ∃a first cap,v= .func (.func a) first cap/\bT P a=true/\aC P a s (fi first b cap) w1 K
def xG (w:A2) (bytes size:Nat) (n m:Int) (z:Array AC) (e:AR) (K:Nat->A2->Prop):Prop:= ∀w1,Ext w w1->aac bytes n m/\K w1.heap.size (w1.alloc (.cells (oD z (m.toNat*size)) e))
@[reducible] def ak (w:A2) (K:A2->Prop):Prop:= ∀w1,Ext w w1->K w1
def Xi (a b:List (Nat×Bool)):Bool:=a.all λx=>b.contains x
def AF (env:List cb) (ch:List (Nat×Bool)):Operand->Option AC
 | .tmp t=>match cm env t with
   |some ⟨_,c, _,v, _⟩=>if Xi c ch then some v else none
   |none=>none
 | .const v=>some v
 | .global g=>some (.pointer (some ⟨g,0,none⟩))
 | .func f=>some (.func (.func f) #[] #[])
def nO (ops:Array Oper) (j:Nat):Option Nat:=(ops[j]?).bind (·.dst)
def lit:Bool->Bool->Bool
 |true,x=>x
 |false,x=> !x
def abT (b:Bool):Option Bool->Option Bool
 |none=>some b
 |some g=>some (g&&b)
def gd (ops:Array Oper) (env:List cb) (o:Oper):Option (Option (List (Nat×Bool)×Option Bool)):=
 match o.guard with
 |none=>some (some ([],none))
 |some (j,b)=>match nO ops j with
  |some d=>match cm env d with
   |some e=>match e.k with
    |some a=>if a=b then some (some ([],none)) else some none
    |none=>match e.v with
     | .bool x=>some (some ((j,b)::e.ch,abT (lit b x) e.g))
     | _=>none
   |none=>none
  |none=>none
def settle (j:Nat) (b:Bool) (e:cb):cb:=
 if e.ch.contains (j, !b) then⟨e.t,[],none,undef,none⟩
 else if e.ch.contains (j,b) then
  match e.ch.filter (λx=>x != (j,b)) with
  |[]=>⟨e.t,[],none,e.v,none⟩
  |c::r=>⟨e.t,c::r,e.g,e.v,none⟩
 else e
def tI (ops:Array Oper) (N:Nat) (env:List cb) (ch:List (Nat×Bool)):Option Nat->Bool
 |none=>true
 |some d=>decide (d<N)&&ch.all (λx=>nO ops x.1 != some d)&&env.all λe=>e.ch.all λx=>nO ops x.1 != some d
def lp (env:List cb) (d:Option Nat) (ch:List (Nat×Bool)) (g:Option Bool) (v:AC):List cb:=
 match d with
 |some d=>⟨d,ch,g,v,none⟩::env
 |none=>env
def Dk (env:List cb) (d:Option Nat) (ch:List (Nat×Bool)) (g:Option Bool) (v:AC) (K:List cb->Prop):Prop:=
 match d with
 |some d=>K (⟨d,ch,g,v,none⟩::env)
 |none=>K env
theorem CC {env:List cb} {d:Option Nat} {ch:List (Nat×Bool)} {g:Option Bool} {v:AC} {K:List cb->Prop}:Dk env d ch g v K=K (lp env d ch g v):=by cases d<;>rfl
def mm:List cb->(List cb->Prop)->Prop
 |[],K=>K []
 |⟨t,ch,g,v,k⟩::r,K=>mm r (λr=>K (⟨t,ch,g,v,k⟩::r))
theorem kI: ∀{l:List cb} {K:List cb->Prop},mm l K=K l
 |[], _=>rfl
 |⟨_, _, _, _, _⟩::r,K=>by simp only[mm];exact kI
def Td (ops:Array Oper) (t:Nat):Option Nat:=(Gi ops.size).find? λj=>nO ops j==some t
def cd (w:A2) (r:Nat) (es:Array DB) (a:Nat):Prop:=w.heap[r]? =some (.map es a)
def o8 (w:A2) (p:Option Nat) (k:B2) (n:Int) (z v:AC):Prop:=
 ∃r es a,p=some r/\cd w r es a/\match E5 (.int k) (.int k n) es.toList 0 with
  |some none=>v=z
  |some (some (_,u))=>v=u
  |none=>False
def ox (w:A2) (p:Option Nat) (k:B2) (n:Int) (z v:AC) (b:Bool):Prop:=
 ∃r es a,p=some r/\cd w r es a/\match E5 (.int k) (.int k n) es.toList 0 with
  |some none=>v=z/\b=false
  |some (some (_,u))=>v=u/\b=true
  |none=>False
def jE (w:A2) (r:Nat) (k:B2) (n:Int) (val:AC) (es:Array DB) (a:Nat) (K:A2->Prop):Prop:=
 match E5 (.int k) (.int k n) es.toList 0 with
 |some none=>K (w.putObj r (.map (es.push {key:= .int k n,val,born:=a}) (a+1)))
 |some (some (i, _))=>K (w.putObj r (.map (es.modify i λe=>{e with key:= .int k n,val}) a))
 |none=>False
def MP (w:A2) (r:Nat) (k:B2) (n:Int) (es:Array DB) (a:Nat) (K:A2->Prop):Prop:=
 match E5 (.int k) (.int k n) es.toList 0 with
 |some none=>K (w.putObj r (.map es a))
 |some (some (i, _))=>K (w.putObj r (.map (es.eraseIdxIfInBounds i) a))
 |none=>False
def RgP (w:A2) (p:Option Nat) (K:Nat->A2->Prop):Prop:= ∀w1,Ext w w1-> ∃r es a,p=some r/\cd w1 r es a/\K w1.heap.size (w1.alloc (.mapIter (some r) a #[] a))
def NxP (w:A2) (p:Option AG) (d:A2->Prop) (f:AC->AC->A2->Prop):Prop:= ∀w1,Ext w w1-> ∃(r m b:Nat) (seen:Array Nat) (last:Nat) (es:Array DB) (c:Nat),p=some ⟨r,0,none⟩/\w1.heap[r]? =some (.mapIter (some m) b seen last)/\cd w1 m es c/\b<=last/\(∀e∈es.toList,e.born<b)/\
 ((∀e∈es.toList,seen.contains e.born=true)-> ∀a,Ext w1 a->d a)/\
 ∀e∈es.toList,seen.contains e.born=false-> ∀a,Ext w1 a->f e.key e.val (a.putObj r (.mapIter (some m) b (seen.push e.born) c))
def Fp (w:A2) (p:Option AG) (k v:AC):Prop:= ∃(r m b:Nat) (seen:Array Nat) (es:Array DB) (a:Nat) (e:DB),p=some ⟨r,0,none⟩/\w.heap[r]? =some (.mapIter (some m) b (seen.push e.born) a)/\cd w m es a/\e∈es.toList/\(es.toList.map (·.born)).Nodup/\k=e.key/\v=e.val
def SW (w:A2) (p:Option Nat) (n:Nat):Prop:= ∃r es a,p=some r/\cd w r es a/\n=es.size
def VU (P:AT) (ops:Array Oper) (d i:Nat):Option El:=match ops.toList.find? λo=>match o.op with
 | .extract (.tmp t) j=>t==d&&j==i
 | _=>false with
 |some o=>xM P o.type
 |none=>none
def Cw (P:AT) (ρ:Operand->Option AC) (c:Call):Option (Option Nat):=match c.args.toList,c.argTypes.toList with
 |[x],[t]=>match P.underlying t,ρ x with
  |some (.map _ _),some (.map p)=>some p
  | _, _=>none
 | _, _=>none
def tg {P:AT} (C:fa P) (ops:Array Oper) (env:List cb) (ch:List (Nat×Bool)) (g:Option Bool) (o:Oper) (w:A2) (K:AC->Prop):Prop:=
 let ρ:=AF env ch
 match o.op with
 | .load t x=>match ρ x,elC C t,P.info? t with
   |some (.pointer p),some el,some i=>if qJ el i.size=true then fy 1 o.op else ag w g p el (λx=>K (el.g9 x))
   | _, _, _=>fy 2 o.op
 | .lookup B m ix ok=>match ok,P.underlying B,ρ m,ρ ix with
   |false,some (.map r q),some (.map p),some (.int k n)=>match P.underlying r,xM P q,P.info? q with
    |some (.int s),some el,some i=>match i.zero with
     |some z=>if k=s then∃x:el.T,kV g (o8 w p k n z (el.g9 x))/\K (el.g9 x) else fy 51 o.op
     |none=>fy 52 o.op
    | _, _, _=>fy 53 o.op
   |true,some (.map r q),some (.map p),some (.int k n)=>match P.underlying r,xM P q,P.info? q with
    |some (.int s),some el,some i=>match i.zero with
     |some z=>if k=s then∃x:el.T, ∃b:Bool,kV g (ox w p k n z (el.g9 x) b)/\K (.tuple ⟨[el.g9 x,.bool b]⟩) else fy 51 o.op
     |none=>fy 52 o.op
    | _, _, _=>fy 53 o.op
   | _, _, _, _=>fy 54 o.op
 | .pick c x y=>match c with
   | .tmp t=>match cm env t with
     |some D=>match D.k with
      |some true=>match ρ x with
       |some v=>K v
       |none=>fy 31 o.op
      |some false=>match ρ y with
       |some v=>K v
       |none=>fy 32 o.op
      |none=>match Td ops t with
       |some j=>match ρ c,AF env ((j,true)::ch) x,AF env ((j,false)::ch) y with
        |some (.bool b),some (.bool u),some (.bool v)=>match x,y with
         | _,.const (.bool false)=>K (.bool (b&&u))
         | .const (.bool true), _=>K (.bool (b||v))
         | _, _=>K (.bool (bif b then u else v))
        | _, _, _=>fy 3 o.op
       |none=>fy 4 o.op
     |none=>fy 33 o.op
   | _=>fy 5 o.op
 | .entry E=>match ρ E,o.dst with
   |some (.pointer p),some d=>match VU P ops d 0,VU P ops d 1 with
    |some a,none=> ∃x:a.T, ∃v:AC,kV g (Fp w p (a.g9 x) v)/\K (.tuple ⟨[a.g9 x,v]⟩)
    |some a,some h=> ∃x:a.T, ∃y:h.T,kV g (Fp w p (a.g9 x) (h.g9 y))/\K (.tuple ⟨[a.g9 x,h.g9 y]⟩)
    |none,some h=> ∃v:AC, ∃y:h.T,kV g (Fp w p v (h.g9 y))/\K (.tuple ⟨[v,h.g9 y]⟩)
    |none,none=>fy 71 o.op
   | _, _=>fy 72 o.op
 | .call c=>match c.callee with
   | .builtin .len=>match Cw P ρ c with
     |some p=> ∃n:Nat,kV g (SW w p n)/\K (.int .i64 n)
     |none=>match pop P ρ o with
      |some ⟨none,v⟩=>K v
      |some ⟨some p,v⟩=>kV g p/\K v
      |none=>fy 9 o.op
   | .value f=>match ρ f,maps ρ c.args.toList with
     |some (.func (.func l) first cap),some A=>
      if bT P l=true then
       match yI C.oW l with
       |some e=>match e.fn (fi first A cap) with
        |some (pre,v)=>kV g pre/\K v
        |none=>fy 6 o.op
       |none=> ∃x:(vw C l).T,kV g (ai P l (fi first A cap) w ((vw C l).g9 x))/\K ((vw C l).g9 x)
      else fy 7 o.op
     | _, _=>fy 8 o.op
   | _=>match pop P ρ o with
     |some ⟨none,v⟩=>K v
     |some ⟨some p,v⟩=>kV g p/\K v
     |none=>fy 9 o.op
 | _=>match pop P ρ o with
   |some ⟨none,v⟩=>K v
   |some ⟨some p,v⟩=>kV g p/\K v
   |none=>fy 10 o.op
def Xj (P:AT) (e:AR):Array AC:=match P.info? e with
 |some i=>match i.zero with
  |some z=>z.cells
  |none=> #[]
 |none=> #[]
def vH (v:AC):List AC:=v.cells.toList
def DK (vs:List AC):Bool:=vs.all (·.oneCell')
def eop {P:AT} (C:fa P) (ρ:Operand->Option AC) (o:Oper) (w:A2) (K:AC->A2->Prop):Prop:=
 match o.op with
 | .store t x y=>match ρ x,ρ y,P.info? t with
   |some (.pointer p),some v,some i=>if(vH v).length=i.size then
     aw w p (vH v) (λa=>K undef a)
    else fy 11 o.op
   | _, _, _=>fy 12 o.op
 | .alloc e=>match P.info? e with
   |some i=>match i.zero with
    |some z=>match Nat.blt 64 i.size with
     |true=>aH w (Xj P e) e (λb a=>K (.pointer (some ⟨b,0,none⟩)) a)
     |false=>aH w z.cells e (λb a=>K (.pointer (some ⟨b,0,none⟩)) a)
    |none=>fy 13 o.op
   |none=>fy 14 o.op
 | .box e x=>match ρ x with
   |some v=>aH w v.cells e (λb a=>K (.pointer (some ⟨b,0,none⟩)) a)
   |none=>fy 15 o.op
 | .buildSlice t len parts=>match P.underlying t,A6 ρ parts.toList with
   |some (.slice e),some ps=>match P.info? e with
    |some i=>match i.zero with
     |some z=>match A7 (λk=>some (k*i.size,i.size)) ⟨(Gi (len*i.size)).map (z.cells.toList[· % z.cells.toList.length]!)⟩ ps with
      |some cs=>if len*i.size<=2 ^ 24 then aH w cs e (λb a=>K (.slice (some ⟨b,0,none⟩) len len) a) else fy 101 o.op
      |none=>fy 102 o.op
     |none=>fy 103 o.op
    |none=>fy 104 o.op
   | _, _=>fy 105 o.op
 | .makeSlice t l c=>match P.underlying t,ρ l,ρ c with
   |some (.slice e),some (.int _ n),some (.int _ m)=>match P.info? e with
    |some i=>match i.zero with
     |some z=>xG w i.bytes i.size n m z.cells e (λb a=>K (.slice (some ⟨b,0,none⟩) n.toNat m.toNat) a)
     |none=>fy 106 o.op
    |none=>fy 107 o.op
   | _, _, _=>fy 108 o.op
 | .mapUpdate t m x v=>match P.underlying t,ρ m,ρ x,ρ v with
   |some (.map g _),some (.map p),some (.int k n),some val=>match P.underlying g with
    |some (.int h)=>if k=h then∀w1,Ext w w1-> ∃r es d,p=some r/\cd w1 r es d/\jE w1 r k n val es d (λa=>K undef a) else fy 55 o.op
    | _=>fy 56 o.op
   | _, _, _, _=>fy 57 o.op
 | .insert t m x v=>match P.underlying t,ρ m,ρ x,ρ v with
   |some (.map g _),some (.map p),some (.int k n),some val=>match P.underlying g with
    |some (.int h)=>if k=h then∀w1,Ext w w1-> ∃r es d,p=some r/\cd w1 r es d/\jE w1 r k n val es d (λa=>K undef a) else fy 55 o.op
    | _=>fy 56 o.op
   | _, _, _, _=>fy 57 o.op
 | .makeMap _ r=>match r with
   |none=> ∀w1,Ext w w1->K (.map (some w1.heap.size)) (w1.alloc (.map #[] 0))
   |some _=>fy 109 o.op
 | .range B x=>match P.underlying B,ρ x with
   |some (.map _ _),some (.map p)=>RgP w p (λb a=>K (.pointer (some ⟨b,0,none⟩)) a)
   | _, _=>fy 73 o.op
 | .next D b=>match b,ρ D with
   |false,some (.pointer p)=>NxP w p (λa=>K (.tuple ⟨[.bool false]⟩) a) (λk v a=>K (.tuple ⟨[.bool true,k,v]⟩) a)
   | _, _=>fy 74 o.op
 | .call c=>match c.callee with
   | .builtin .delete=>match c.args.toList,c.argTypes.toList with
     |[m,x],[t, _]=>match P.underlying t,ρ m,ρ x with
      |some (.map g _),some (.map p),some (.int k n)=>match P.underlying g with
       |some (.int h)=>if k=h then∀w1,Ext w w1-> ∃r es d,p=some r/\cd w1 r es d/\MP w1 r k n es d (λa=>K (.tuple ⟨[]⟩) a) else fy 75 o.op
       | _=>fy 76 o.op
      | _, _, _=>fy 77 o.op
     | _, _=>fy 78 o.op
   | .builtin .append=>match c.args.toList,c.argTypes.toList with
     |[s,x],[t,u]=>match P.underlying t,P.underlying u,ρ s,ρ x with
      |some (.slice e),some (.slice _),some (.slice p n m),some (.slice q k l)=>match P.info? e with
       |some i=>match i.zero with
        |some z=>if i.bytes=0 then fy 110 o.op else∀w1,Ext w w1->nm w1 e i.size i.bytes z.cells (p,n,m) (q,k,l) (λr a=>K (.slice r.1 r.2.1 r.2.2) a)
        |none=>fy 111 o.op
       |none=>fy 112 o.op
      | _, _, _, _=>fy 113 o.op
     | _, _=>fy 114 o.op
   | .builtin .copy=>match c.args.toList,c.argTypes.toList with
     |[s,x],[t, _]=>match P.underlying t,ρ s,ρ x with
      |some (.slice e),some (.slice p n _),some (.slice q k _)=>match P.info? e with
       |some i=> ∀w1,Ext w w1->cpR w1 i.size (p,n) (q,k) (λr a=>K (.int .i64 r) a)
       |none=>fy 115 o.op
      | _, _, _=>fy 116 o.op
     | _, _=>fy 117 o.op
   | .value f=>match C.ZP,f with
    |some s,.tmp t=>match ρ (.tmp t),maps ρ c.args.toList with
     |some v,some j=>Hx P v s j w (λx a=>K (s.g9 x) a)
     | _, _=>fy 70 o.op
    | _, _=>match ρ f,maps ρ c.args.toList with
     |some (.func (.yield l) first _),some j=> ∀w1,Ext w w1->nA P l (first.toList++j) w1 (λb a=>K (.bool b) a)
     |some (.func (.func A) first cap),some j=>
      if bT P A=true then
       aA P A (vw C A) (fi first j cap) w (λx a=>K ((vw C A).g9 x) a)
      else fy 16 o.op
     | _, _=>fy 17 o.op
   | _=>fy 18 o.op
 | _=>fy 19 o.op
def aD (b:Bool) (x y:Prop):Prop:=match b with
 |true=>x
 |false=>y
theorem ab {b:Bool} {x y:Prop} (a:b=true->x) (c:b=false->y):aD b x y:=by
 cases b
 .exact c rfl
 .exact a rfl
theorem DL {b:Bool} {x y:Prop} (h:aD b x y) (e:b=true):x:=by subst e;exact h
theorem Bl {b:Bool} {x y:Prop} (h:aD b x y) (e:b=false):y:=by subst e;exact h
def Nm {P:AT} (C:fa P) (ρ:Operand->Option AC) (o:Oper):Bool:=
 match o.op with
 | .store .. | .alloc _| .box .. | .buildSlice .. | .makeSlice .. | .makeMap .. | .mapUpdate .. | .insert .. | .range .. | .next .. =>true
 | .call c=>match c.callee with
   | .value f=>match C.ZP,f with
    |some _,.tmp _=>true
    | _, _=>match ρ f with
     |some (.func (.func a) _ _)=> !((yI C.oW a).isSome||C.quiet.contains a)
     | _=>true
   | .builtin .append=>true
   | .builtin .copy=>true
   | .builtin .delete=>true
   | _=>false
 | _=>false
def XN:Op->Bool
 | .binOp .. =>true
 | .convert .. =>true
 | .call _=>true
 | _=>false
def za {P:AT} (C:fa P) (o:Oper) (v:AC) (K:AC->Prop):Prop:=
 match C.wx&&XN o.op,v with
 |true,.int k e=> ∀x,x=e->K (.int k x)
 | _, _=>K v
theorem sX {P:AT} {C:fa P} {o:Oper} {v:AC} {K:AC->Prop} (h:za C o v K):K v:=by
 unfold za at h
 grind
def MQ {P:AT} (C:fa P) (ops:Array Oper) (N:Nat) (o:Oper):Nat->List cb->A2->(List cb->A2->Prop)->Prop
 |0, _, _, _=>fy 20 o.op
 |n+1,env,w,K=>match gd ops env o with
  |none=>fy 21 o.op
  |some none=>if tI ops N env [] o.dst then Dk env o.dst [] none undef (λenv=>K env w) else fy 25 o.op
  |some (some (ch,g))=>
   if tI ops N env ch o.dst then
    if Nm C (AF env ch) o then
     match ch.getLast? with
     |none=>eop C (AF env []) o w (λv a=>Dk env o.dst [] none v (λenv=>K env a))
     |some (j, _)=>match nO ops j with
      |some d=>match cm env d with
       |some e=>match e.v with
        | .bool x=>if e.ch.isEmpty then
           aD x (mm (env.map (settle j true)) λenv=>MQ C ops N o n (⟨d,[],none,.bool true,some true⟩::env) w K)
            (mm (env.map (settle j false)) λenv=>MQ C ops N o n (⟨d,[],none,.bool false,some false⟩::env) w K)
          else fy 22 o.op
        | _=>fy 26 o.op
       |none=>fy 27 o.op
      |none=>fy 28 o.op
    else tg C ops env ch g o w (λv=>za C o v (λv=>Dk env o.dst ch g v (λenv=>K env w)))
   else fy 24 o.op
def Fq {P:AT} (C:fa P) (ops:Array Oper) (N:Nat) (i:Nat) (env:List cb) (w:A2) (K:List cb->A2->Prop):Prop:=
 match ops[i]? with
 |none=>False
 |some ⟨dst,op,type,pos,after,guard⟩=>MQ C ops N ⟨dst,op,type,pos,after,guard⟩ 40 env w K
def rxL {P:AT} (C:fa P) (ops:Array Oper) (N:Nat):List Nat->List cb->A2->(List cb->A2->Prop)->Prop
 |[],env,w,K=>K env w
 |i::r,env,w,K=>Fq C ops N i env w (λenv w=>rxL C ops N r env w K)
def lf (ops:Array Oper) (tmps:Array AC) (ch:List (Nat×Bool)):Prop:= ∀x∈ch,yielded ops tmps x.1=some x.2
def Sv (ops:Array Oper) (tmps:Array AC) (ch:List (Nat×Bool)):Option Bool->Prop
 |none=>ch=[]
 |some γ=>ch≠[]/\(γ=true<->lf ops tmps ch)
structure Fit (S:Nat->Option (Option AC)) (ops:Array Oper) (N:Nat) (D:List Deferred) (env:List cb) (a:Act):Prop where
 off: ∀t x,S t=some x->a.tmps[t]? =x
 size:a.tmps.size=N
 rH:a.defers=D
 yes: ∀t e,cm env t=some e->lf ops a.tmps e.ch->a.tmps[t]? =some e.v
 no: ∀t e,cm env t=some e-> ¬ lf ops a.tmps e.ch->a.tmps[t]? =some undef
 Fc: ∀e∈env,Sv ops a.tmps e.ch e.g
 B9: ∀e∈env, ∀b,e.k=some b->e.v= .bool b/\e.ch=[]
theorem cg: ∀{env:List cb} {t:Nat} {e:cb},cm env t=some e->e∈env
 |x::r,t,e,h=>by
  simp[cm] at h;split at h
  grind
  .exact MY _ (cg h)
theorem Te {a b:List (Nat×Bool)} (h:Xi a b=true) {ops:Array Oper} {tmps:Array AC} (hb:lf ops tmps b):lf ops tmps a:=λx c=>by
 simp only[Xi,Dt] at h;exact hb x (by grind)
variable {S:Nat->Option (Option AC)} {ops:Array Oper} {N:Nat} {D:List Deferred} {env:List cb} {a:Act}
theorem Fit.ev (h:Fit S ops N D env a) {ch:List (Nat×Bool)} (hc:lf ops a.tmps ch) {x:Operand} {v:AC} (b:AF env ch x=some v):a.eval x=v:=by
 cases x with
 |tmp t=>
  simp[AF] at b;split at b
  .rename_i c;split at b
   .rename_i d;cases b;have:=h.yes t _ c (Te d hc);simp[HB,this]
   grind
  grind
 |const
 |global g
 |func=>simp[AF] at b;simp[HB,b]
theorem EA {j:Nat} {d:Option Nat} {u:AC} (h: ∀k,d=some k->nO ops j≠some k):yielded ops (a.put d u).tmps j=yielded ops a.tmps j:=by
 cases d with
 |none=>rfl
 |some k=>
  have b:=h k rfl;unfold yielded;unfold nO at b;cases f:ops[j]?.bind _ with
  |none=>rfl
  |some t=>
   have c:k≠t:=λe=>b (by grind);simp[Dm,H8 c]
theorem If {ch:List (Nat×Bool)} {d:Option Nat} {u:AC} (h: ∀k,d=some k->ch.all (λx=>nO ops x.1 != some k)=true):lf ops (a.put d u).tmps ch<->lf ops a.tmps ch:=by
 have: ∀x∈ch,yielded ops (a.put d u).tmps _=yielded ops _ x.1:=λx b=>EA (by grind);constructor
 .intro c x b;rw[<-this x b];exact c x b
 .intro c x b;rw[this x b];exact c x b
theorem Fit.put (h:Fit S ops N D env a) {ch:List (Nat×Bool)} {g:Option Bool} {d:Option Nat} {v u:AC} (o:tI ops N env ch d=true) (A: ∀k,d=some k->S k=none)
 (q:Sv ops a.tmps ch g) (r:lf ops a.tmps ch->u=v) (h0: ¬ lf ops a.tmps ch->u=undef):Fit S ops N D (lp env d ch g v) (a.put d u):=by
 cases d with
 |none=>exact h
 |some k=>
  simp only[tI,B5,decide_eq_true_eq] at o;have ⟨⟨s,hc⟩,B⟩:=o;have j:lf ops (a.put (some k) u).tmps ch<->lf ops a.tmps ch:=If (by grind);have l: ∀e∈env,(lf ops (a.put (some k) u).tmps e.ch<->lf ops a.tmps e.ch):=λe hm=>If (by grind);have p:k<a.tmps.size:=by rw[h.size];exact s
  refine⟨λt x w=>?_,by simp[Dm,h.size],h.rH,?_,?_,?_,?_⟩
  .have y:k≠t:=λe=>by grind
   simp[Dm,H8 y,h.off t x w]
  .intro t e c i;simp only[lp,cm] at c;split at c
   .rename_i f;cases c;subst f;simp[Dm,p,r (j.1 i)]
   .rename_i f;have:=h.yes t e c ((l e (cg c)).1 i);simp[Dm,H8 f,this]
  .intro t e c i;simp only[lp,cm] at c;split at c
   .rename_i f;cases c;subst f;simp[Dm,p,h0 (λm=>i (j.2 m))]
   .rename_i f;have:=h.no t e c (λm=>i ((l e (cg c)).2 m));simp[Dm,H8 f,this]
  .intro e hm;have key: ∀(ch) (g:Option Bool),(lf ops (a.put (some k) u).tmps ch<->lf ops a.tmps ch)->Sv ops a.tmps ch g->Sv ops (a.put (some k) u).tmps ch g:=by
    intro ch g z n;cases g with
    |none=>exact n
    |some γ=>exact⟨n.1,n.2.trans z.symm⟩
   simp only[lp,Cs] at hm;rcases hm with rfl|hm
   .exact key _ _ j q
   .exact key _ _ (l e hm) (h.Fc e hm)
  .intro e hm b hb;simp only[lp,Cs] at hm;rcases hm with rfl|hm
   .cases hb
   .exact h.B9 e hm b hb
def zb:AC->Option Bool
 | .bool b=>some b
 | _=>none
theorem mz {j d:Nat} (hd:nO ops j=some d) {v:AC} (hv:a.tmps[d]? =some v):yielded ops a.tmps j=zb v:=by
 unfold yielded;unfold nO at hd
 simp_all
 cases v<;>rfl
theorem jV:lf ops a.tmps []:=λb=>by simp
theorem Nn (h:Fit S ops N D env a) {o:Oper} {ch:List (Nat×Bool)} {g:Option Bool} (c:gd ops env o=some (some (ch,g))):
 Sv ops a.tmps ch g/\(Ch o (yielded ops a.tmps)=true<->lf ops a.tmps ch):=by
 unfold gd at c;unfold Ch;split at c
 .rename_i l;cases c;exact⟨rfl,by simp[lf,l]⟩
 .rename_i j b l;split at c
  .rename_i d hd;split at c
   .rename_i e f;split at c
    .rename_i t u;have ⟨hv,i⟩:=h.B9 e (cg f) t u;have r:=mz (a:=a) hd (h.yes d e f (by rw[i];exact jV));rw[hv] at r;split at c
     .rename_i hb;cases c;refine⟨rfl,?_⟩;simp[l,r,zb,hb,lf]
     .cases c
    .split at c
     .rename_i x v;cases c;have p:(yielded ops a.tmps j=some b)<->lf ops a.tmps e.ch/\x=b:=by
       by_cases hc:lf ops a.tmps e.ch
       .have q:=h.yes d e f hc;rw[mz (a:=a) hd q,v];simp[zb,hc]
       .have q:=h.no d e f hc;rw[mz (a:=a) hd q];simp[undef,zb,hc]
      have i:lf ops a.tmps ((j,b)::e.ch)<->yielded ops a.tmps j=some b:=by
       constructor
       .intro m;exact m (j,b) Hz
       .intro m y k;rcases Cs.1 k with rfl|k
        .exact m
        .exact(p.1 m).1 y k
      refine⟨?_,?_⟩
      .have n:=h.Fc e (cg f);cases s:e.g with
       |none=>
        rw[s] at n;have w:lf ops a.tmps e.ch:=by rw[show e.ch=[] from n];intro y k;cases k
        refine⟨by simp,?_⟩;rw[i,p];cases b<;>simp[w,lit]
       |some γ=>
        rw[s] at n;refine⟨by simp,?_⟩;rw[i,p, <-n.2];cases b<;>simp[lit]
      .rw[i];simp[l]
     .cases c
   .cases c
  .cases c
theorem CD (h:Fit S ops N D env a) {o:Oper} (c:gd ops env o=some none):Ch o (yielded ops a.tmps)=false:=by
 unfold gd at c;unfold Ch;split at c
 .cases c
 .rename_i j b l;split at c
  .rename_i d hd;split at c
   .rename_i e f;split at c
    .rename_i g i;have ⟨hv,k⟩:=h.B9 e (cg f) g i;have m:=mz hd (h.yes d e f (by rw[k];exact jV))
     grind[zb]
    grind
   .cases c
  .cases c
theorem vQ {f:cb->cb} (a: ∀e,(f e).t=e.t): ∀{l:List cb} {t:Nat} {e:cb},cm (l.map f) t=some e-> ∃b,cm l t=some b/\e=f b
 |x::r,t,e,h=>by
  simp[cm,a] at h ⊢;split at h
  grind
  .rename_i c;rw[if_neg c];exact vQ a h
theorem DN (j:Nat) (b:Bool) (e:cb):(settle j b e).t=e.t:=by
 grind[settle]
theorem vR {j:Nat} {b:Bool} (m:yielded ops a.tmps j=some b) (e:cb) (f:Sv ops a.tmps e.ch e.g):
 Sv ops a.tmps (settle j b e).ch (settle j b e).g/\(lf ops a.tmps e.ch->lf ops a.tmps (settle j b e).ch/\(settle j b e).v=e.v)/\(¬ lf ops a.tmps e.ch->(¬ lf ops a.tmps (settle j b e).ch\/(settle j b e).v=undef))/\
 (¬ lf ops a.tmps (settle j b e).ch-> ¬ lf ops a.tmps e.ch):=by
 unfold settle;split
 .rename_i hc;have n: ¬ lf ops a.tmps e.ch:=λd=>by
   have:=d (j, !b)
   grind
  exact⟨rfl,λd=>absurd d n,λ_=> .inr rfl,λd=>absurd jV d⟩
 .split
  .rename_i p hc;have h:lf ops a.tmps e.ch<->lf ops a.tmps (e.ch.filter (λx=>x != (j,b))):=by
    constructor
    .intro d x k;exact d x (Ce.1 k).1
    .intro d x k;by_cases o:x=(j,b)
     .rw[o];exact m
     .exact d x (by grind)
   split
   .rename_i i;rw[i] at h;exact⟨rfl,λ_=>⟨jV,rfl⟩,by grind,λd=>absurd jV d⟩
   .rename_i c r i;rw[i] at h
    simp_all
    cases l:e.g with
    |none=>rw[l] at f;have:e.ch=[]:=f;rw[this] at hc;simp at hc
    |some γ=>rw[l] at f;exact⟨by simp,f.2.trans h⟩
  grind
theorem Fit.settle (h:Fit S ops N D env a) {j d:Nat} {b:Bool} {e:cb} (hd:nO ops j=some d) (n:cm env d=some e) (o:e.ch=[]) (hv:e.v= .bool b):
 Fit S ops N D (⟨d,[],none,.bool b,some b⟩::env.map (settle j b)) a:=by
 have p:=h.yes d e n (by rw[o];exact jV);have k:=mz (a:=a) hd p;rw[hv] at k;refine⟨h.off,h.size,h.rH,?_,?_,?_,?_⟩
 .intro t l g hc;simp only[cm] at g;split at g
  grind
  .obtain⟨c,f,rfl⟩:=vQ (DN j b) g;have ⟨_,s1,u, _⟩:=vR (a:=a) k c (h.Fc c (cg f));by_cases m:lf ops a.tmps c.ch
   .rw[h.yes t c f m,(s1 m).2]
   .rw[h.no t c f m]
    grind
 .intro t l g hc;simp only[cm] at g;split at g
  .cases g;exact absurd jV hc
  .obtain⟨c,f,rfl⟩:=vQ (DN j b) g;have ⟨_, _, _,q⟩:=vR (a:=a) k c (h.Fc c (cg f));exact h.no t c f (q hc)
 .intro l hm;rcases Cs.1 hm with rfl|hm
  .exact rfl
  .obtain⟨c,f,rfl⟩:=List.mem_map.1 hm;exact(vR (a:=a) k c (h.Fc c f)).1
 .intro l hm b1 i;rcases Cs.1 hm with rfl|hm
  grind
  .obtain⟨c,f,rfl⟩:=List.mem_map.1 hm;unfold RX.settle at i ⊢;split at i
   .cases i
   .rename_i r;rw[if_neg r];split at i
    grind
    .rename_i s;rw[if_neg s];exact h.B9 c f b1 i
variable {P:AT}
def e9 (P:AT) (o:Oper) (a:Act) (w:A2) (v:AC):Prop:=
 match (execOp a.eval o).run P w with
 | .ok (.value u) w'=>w'=w/\u=v
 | .ok (.enter f args) w'=>w'=w/\Calls P f args w (λe b=>e= .returned v/\Ext w b)
 | _=>False
theorem cF {o:Oper} {a:Act} {w:A2} {v:AC} (h:(execOp a.eval o).run P w= .ok (.value v) w):e9 P o a w v:=by
 grind[e9]
theorem cG: ∀(l:List Sc) (x:g_ l),(a6 l x).length=l.length
 |[], _=>rfl
 | _::r,x=>by simp[a6,cG]
theorem wJ {w:A2} {a:AG} {v:AC} (h:w.cell? a=some v):(load a).run P w= .ok v w:=by simp[h]
theorem run_loadCellsFrom {w:A2} {a:AG}: ∀(vs:List AC) (k:Nat) (b:Array AC),(∀i,i<vs.length->w.cell? (a.add (k+i))=vs[i]?)->
 (loadCellsFrom a k vs.length b).run P w= .ok (b++vs.toArray) w
 |[],k,b, _=>by rfl
 |v::vs,k,b,h=>by
  have h0:=by simpa using h 0
  have c:=run_loadCellsFrom vs _ (b.push v) λi hi=>by
   have:=h (i+1) (by grind);rw[show k+1+i=k+(i+1) by omega,this];rfl
  simp only[MJ,loadCellsFrom,AU,wJ h0,AZ,c];simp
theorem zl {w w':A2} (h:Ext w w') {p:Option AG} {el:El} {x:el.T} (c:bP w p el x):bP w' p el x:=by
 cases el with
 |one=>have ⟨a,b,hc⟩:=c;exact⟨a,b,h.cell hc⟩
 |agg l=>
  have ⟨a,b,hc⟩:=c;refine⟨a,b,λi hi=>?_⟩;have d:=hc i hi;have e:i<(a6 l x).length:=by have:=cG l x;omega
  rw[Ml e] at d ⊢;exact h.cell d
theorem uc {w:A2} {a:AG} {t:AR} {el:El} {b:TypeInfo} {x:el.T} (i:xM P t=some el) (hi:P.info? t=some b)
 (f: ¬ qJ el b.size=true) (e:bP w (some a) el x):(loadVar t a).run P w= .ok (el.g9 x) w:=by
 unfold loadVar;cases el with
 |one s=>
  have c:ny P t=some false:=by
   grind[xM,ny,A5,Option.map_eq_some_iff]
  have ⟨g,d,hc⟩:=e;cases d;simp only[AU,vP c,AZ,FS,if_false,wJ hc];rfl
 |agg l=>
  have c:ny P t=some true:=by
   grind[xM,ny,A5]
  have ⟨g,d,hc⟩:=e;cases d;have h:l.length=b.size:=by simpa[qJ] using f
  have:=run_loadCellsFrom (P:=P) (w:=w) (a:=a) (a6 l x) 0 #[] (by simpa[cG] using hc);rw[cG,h] at this;simp only[AU,vP c,AZ,if_true,eV hi,loadCells,this];simp[El.g9]
theorem Tf {C:fa P} {w:A2} {a:AG} {t:AR} {el:El} {c:TypeInfo} {x:el.T} (b:elC C t=some el) (hi:P.info? t=some c)
 (e: ¬ qJ el c.size=true) (d:bP w (some a) el x):(loadVar t a).run P w= .ok (el.g9 x) w:=by
 unfold elC at b;split at b
 .rename_i h0;split at b
  .cases b;have f:=d;exact uc (el:= .one .func) h0 hi ‹_› f
  grind[uc]
 .exact uc b hi e d
theorem Ig: ∀{l:List (Entry P)} {f:B3} {e:Entry P},yI l f=some e->e.f=f
 |x::r,f,e,h=>by
  simp[yI] at h;split at h
  grind
  .exact Ig h
theorem kQ {g:Option Bool} {p:Prop} {ops:Array Oper} {tmps:Array AC} {ch:List (Nat×Bool)} (h:kV g p) (a:Sv ops tmps ch g) (hc:lf ops tmps ch):p:=by
 cases g with
 |none=>exact h
 |some=>exact h (a.2.2 hc)
theorem uF {f:B3} {args:Array AC} {w:A2}
 (h:bT P f=true):
 (callFunc f args).run P w= .ok (.enter f args) w:=by
 unfold callFunc;unfold bT at h;cases a:P.funcs[f]? with
 |none=>simp[a] at h
 |some fn=>
  simp_all
  grind[fW]
theorem ud {ev:Operand->AC} {dst:Option Nat} {type:AR} {pos:String} {after:Array Edge} {guard:Option (Nat×Bool)} {f:Operand} {args:Array Operand} {ts:Array AR}
 {a:B3} {first cap:Array AC} {b:List AC} (c:ev f= .func (.func a) first cap) (d:args.toList.map ev=b) {w:A2}
 (h:bT P a=true):
 (execOp ev ⟨dst,.call ⟨.value f,args,ts⟩,type,pos,after,guard⟩).run P w= .ok (.enter a ⟨fi first b cap⟩) w:=by
 have e:first++args.map ev++cap=⟨fi first b cap⟩:=by
  simp_all[fi]
 simp only[execOp,resolve,Deferred.ofValue,c,AU,B1,AZ,invoke];rw[e];exact uF h
variable {S:Nat->Option (Option AC)} {ops:Array Oper} {N:Nat} {D:List Deferred} {env:List cb} {a:Act}
theorem zZ {kd:B2} {n:Int}: ∀(l:List DB) (i0 i:Nat) (v:AC),E5 (.int kd) (.int kd n) l i0=some (some (i,v))->i0<=i/\ ∃e,l[i - i0]? =some e/\e.key= .int kd n/\e.val=v
 |e::es,i0,i,v,h=>by
  unfold E5 at h;split at h
  .rename_i a;obtain⟨rfl,rfl⟩:=h;simp;cases b:e.key<;>rw[b] at a<;>simp[Instr.sameNow] at a
   grind
  .obtain:=zZ es (i0+1) i v h
   grind
  .cases h
theorem Bm {t d l:AR} {kd:B2} {n:Int} {val:AC} {w:A2} {r:Nat} {es:Array DB} {f:Nat} {K:A2->Prop} (g:P.underlying t=some (.map d l)) (a:P.underlying d=some (.int kd)) (hb:cd w r es f)
 (h:jE w r kd n val es f K): ∃j,(Jc t (.map (some r)) (.int kd n) val).run P w= .ok () j/\K j:=by
 have b:=hb;have k:H6 (.int kd) (.int kd n):=by rfl
 unfold jE at h;split at h
 .rename_i c;refine⟨_,?_,h⟩;simp[Jc,run_underlying g,DA b,Da a k,Df a c,H7 _ b,DS,FB]
 .rename_i i v c;have ⟨_,e,m,o, _⟩:=zZ _ _ _ _ c;refine⟨_,?_,h⟩;have p:=by simpa using m
  simp[Jc,run_underlying g,DA b,Da a k,Df a c,p,o,Instr.keyThatStays,Instr.sameBits,H7 _ b,DS,FB]
 grind
theorem OD {t d e:AR} {kd:B2} {n:Int} {w:A2} {p:Option Nat} {i:TypeInfo} {z v:AC} (f:P.underlying t=some (.map d e)) (a:P.underlying d=some (.int kd)) (hi:P.info? e=some i) (l:i.zero=some z)
 (h:o8 w p kd n z v):(FA t (.map p) (.int kd n) false).run P w= .ok v w:=by
 obtain⟨r,es,m,rfl,hb,b⟩:=h;have g:=hb;have k:H6 (.int kd) (.int kd n):=by rfl
 split at b
 .rename_i c;subst b;simp[FA,run_underlying f,DA g,Da a k,Df a c,zeroValue,jk hi,l]
 .rename_i j u c;subst b;simp[FA,run_underlying f,DA g,Da a k,Df a c,DS]
 grind
theorem Jr {t d e:AR} {kd:B2} {n:Int} {w:A2} {p:Option Nat} {i:TypeInfo} {z v:AC} {b:Bool} (f:P.underlying t=some (.map d e)) (a:P.underlying d=some (.int kd)) (hi:P.info? e=some i) (l:i.zero=some z)
 (h:ox w p kd n z v b):(FA t (.map p) (.int kd n) true).run P w= .ok (.tuple ⟨[v,.bool b]⟩) w:=by
 obtain⟨r,es,o,rfl,hb,m⟩:=h;have g:=hb;have k:H6 (.int kd) (.int kd n):=by rfl
 split at m
 .rename_i c
  simp_all
  simp[FA,run_underlying f,DA g,Da a k,Df a c,zeroValue,jk hi,l,DS]
 .rename_i j u c
  simp_all
  simp[FA,run_underlying f,DA g,Da a k,Df a c,DS]
 grind
theorem oQ {w:A2} {p:Option AG} {k v:AC} (h:Fp w p k v):(Instr.entry (.pointer p)).run P w= .ok (.tuple ⟨[k,v]⟩) w:=by
 obtain⟨r,m,a,seen,es,b,e,rfl,c,hb,d,f,rfl,rfl⟩:=h;exact run_entry_at w r m a seen es b e c hb d f
theorem zm {w w':A2} {p:Option AG} {k v:AC} (a:Ext w w') (h:Fp w p k v):Fp w' p k v:=by
 have ⟨r,m,b,seen,es,c,e,d,f,hb,h2⟩:=h;exact⟨r,m,b,seen,es,c,e,d,a.obj f,a.obj hb,h2⟩
theorem EB {ρ:Operand->Option AC} {c:Call} {p:Option Nat} (h:Cw P ρ c=some p): ∃x t a b,c.args= #[x]/\c.argTypes= #[t]/\P.underlying t=some (.map a b)/\ρ x=some (.map p):=by
 unfold Cw at h;split at h
 .rename_i x t f g;split at h
  .rename_i a b p' d e;cases h;refine⟨x,t,a,b,?_,?_,d,e⟩
   grind
   grind
  grind
 grind
theorem FO {C:fa P} {ch:List (Nat×Bool)} {g:Option Bool} {o:Oper} {w:A2} {K:AC->Prop} (l:Fit S ops N D env a) (G:Sv ops a.tmps ch g)
 (h:tg C ops env ch g o w K): ∃v,K v/\(lf ops a.tmps ch-> ∀w',Ext w w'->e9 P o a w' v):=by
 have Mm: ∀v,a.eval (.const v)=v:=λ_=>rfl;have pure: ∀(I:PR),pop P (AF env ch) o=some I->(match I.ob with|none=>K I.v|some p=>kV g p/\K I.v)->
  ∃v,K v/\(lf ops a.tmps ch-> ∀w',Ext w w'->e9 P o a w' v):=by
  intro I H i;cases O:I.ob with
  |none=>
   rw[O] at i;exact⟨I.v,i,λhc w' _=>cF (NH (λx v q=>l.ev hc q) Mm H (λp J=>by rw[O] at J;cases J) w')⟩
  |some p=>
   rw[O] at i;exact⟨I.v,i.2,λhc w' _=>cF (NH (λx v q=>l.ev hc q) Mm H (λp' J=>by rw[O] at J;cases J;exact kQ i.1 G hc) w')⟩
 have Q:(match pop P (AF env ch) o with|some ⟨none,v⟩=>K v|some ⟨some p,v⟩=>kV g p/\K v|none=>False)->
  ∃v,K v/\(lf ops a.tmps ch-> ∀w',Ext w w'->e9 P o a w' v):=by
  intro R;split at R
  .rename_i v H;exact pure ⟨none,v⟩ H R
  .rename_i p v H;exact pure ⟨some p,v⟩ H R
  .exact R.elim
 have ⟨dst,op,type,pos,after,guard⟩:=o;unfold tg at h;cases op with
 |load t x=>
  simp only at h;split at h
  .rename_i p el ti q E hi;split at h
   .exact AE h
   .rename_i hs;have ⟨T,L,i⟩:=h;refine⟨_,i,λhc w' s=>cF ?_⟩;have I6:=zl s (kQ L G hc);have H: ∃a0,p=some a0:=by cases el<;>(have ⟨a0,h0, _⟩:=I6;exact⟨a0,h0⟩)
    obtain⟨a0,rfl⟩:=H;simp[execOp,Instr.loadAt,l.ev hc q,HH,Tf E hi hs I6]
  .exact AE h
 |lookup xt m ix ok=>
  simp only at h;split at h
  .rename_i kt et p kd n A U V;split at h
   .rename_i Zm el ti W E hi;split at h
    .rename_i z F;split at h
     .rename_i X;subst X;have ⟨T,L,i⟩:=h;refine⟨_,i,λhc w' s=>cF ?_⟩;have Y:=kQ L G hc;have Z:o8 w' p kd n z (el.g9 T):=by
       have ⟨r,es,M,h1,h2,h3⟩:=Y;exact⟨r,es,M,h1,s.obj h2,h3⟩
      simp only[execOp,AU,l.ev hc U,l.ev hc V,OD A W hi F Z,AZ,B1]
     .exact AE h
    .exact AE h
   .exact AE h
  .rename_i kt et p kd n A U V;split at h
   .rename_i Zm el ti W E hi;split at h
    .rename_i z F;split at h
     .rename_i X;subst X;have ⟨T,b',L,i⟩:=h;refine⟨_,i,λhc w' s=>cF ?_⟩;have Y:=kQ L G hc;have Z:ox w' p kd n z (el.g9 T) b':=by
       have ⟨r,es,M,h1,h2,h3⟩:=Y;exact⟨r,es,M,h1,s.obj h2,h3⟩
      simp only[execOp,AU,l.ev hc U,l.ev hc V,Jr A W hi F Z,AZ,B1]
     .exact AE h
    .exact AE h
   .exact AE h
  .exact AE h
 |pick c x y=>
  simp only at h;split at h
  .rename_i t;split at h
   .rename_i ec hec;have known: ∀(b:Bool),ec.k=some b->lf ops a.tmps ch->a.eval (.tmp t)= .bool b:=by
     intro b hb _;have ⟨hv,rT⟩:=l.B9 ec (cg hec) b hb;have:=l.yes t ec hec (by rw[rT];exact jV);simp[HB,this,hv]
    split at h
    .rename_i i;split at h
     .rename_i v hv;refine⟨v,h,λhc w' _=>cF ?_⟩;have B:=known true i hc;simp[execOp,B,l.ev hc hv,asBool]
     .exact AE h
    .rename_i i;split at h
     .rename_i v hv;refine⟨v,h,λhc w' _=>cF ?_⟩;have B:=known false i hc;simp[execOp,B,l.ev hc hv,asBool]
     .exact AE h
    .split at h
     .rename_i j hj;have I7:nO ops j=some t:=by
       have:=Mo hj;simpa using this
      have key: ∀(b u v:Bool),AF env ch (.tmp t)=some (.bool b)->AF env ((j,true)::ch) x=some (.bool u)->AF env ((j,false)::ch) y=some (.bool v)->
       ∀w',lf ops a.tmps ch->e9 P ⟨dst,.pick (.tmp t) x y,type,pos,after,guard⟩ a w' (.bool (bif b then u else v)):=by
       intro b u v hb A hv w' hc;refine cF ?_;have B:=l.ev hc hb;have hyj:yielded ops a.tmps j=some b:=by
        unfold yielded;unfold nO at I7;simp only[I7,Option.bind_some];have:a.tmps[t]? =some (.bool b):=by
         unfold HB at B;simp only[Array.getD_eq_getD_getElem?] at B;cases ht:a.tmps[t]? with
         |none=>rw[ht] at B;simp[undef] at B
         |some z=>rw[ht] at B;simp at B;rw[B]
        rw[this]
       cases b with
       |true=>
        have eu:=l.ev (ch:=(j,true)::ch) (λz F=>by
         rcases Cs.1 F with rfl|F
         .exact hyj
         .exact hc z F) A
        simp[execOp,B,eu,asBool]
       |false=>
        have eu:=l.ev (ch:=(j,false)::ch) (λz F=>by
         rcases Cs.1 F with rfl|F
         .exact hyj
         .exact hc z F) hv
        simp[execOp,B,eu,asBool]
      split at h
      .rename_i b u v hb A hv;split at h
       .cases (show v=false by simp only[AF,Ct,Value.bool.injEq] at hv;exact hv.symm);refine⟨_,h,λhc w' _=>?_⟩;have:=key b u false hb A hv w' hc;cases b<;>exact this
       .cases (show u=true by simp only[AF,Ct,Value.bool.injEq] at A;exact A.symm);refine⟨_,h,λhc w' _=>?_⟩;have:=key b true v hb A hv w' hc;cases b<;>exact this
       .exact⟨_,h,λhc w' _=>key b u v hb A hv w' hc⟩
      .exact AE h
     .exact AE h
   .exact AE h
  .exact AE h
 |call c=>
  have ⟨callee,args,ts⟩:=c;cases callee with
  |value f=>
   simp only at h;split at h
   .rename_i ja first cap acZ hf has
    split at h
    .rename_i th;split at h
     .rename_i e E;split at h
      .rename_i pre v abV;refine⟨v,h.2,λhc w' _=>?_⟩;have fL:=ud (P:=P) (dst:=dst) (type:=type) (pos:=pos) (after:=after) (guard:=guard) (ts:=ts) (l.ev hc hf) (mW (λx v q=>l.ev hc q) has) (w:=w') th;unfold e9;rw[fL];refine⟨rfl,?_⟩;have:=e.ok _ _ _ abV (kQ h.1 G hc) w';rw[Ig E] at this;exact this
      .exact AE h
     .have ⟨x,hq,i⟩:=h;refine⟨_,i,λhc w' s=>?_⟩;have fL:=ud (P:=P) (dst:=dst) (type:=type) (pos:=pos) (after:=after) (guard:=guard) (ts:=ts) (l.ev hc hf) (mW (λx v q=>l.ev hc q) has) (w:=w') th;unfold e9;rw[fL];exact⟨rfl,kQ hq G hc w' s⟩
    .exact AE h
   .exact AE h
  |invoke r m=>exact Q h
  |builtin b=>
   cases b with
   |len=>
    simp only at h;split at h
    .rename_i p H;have ⟨n,hn,i⟩:=h;refine⟨_,i,λhc w' s=>cF ?_⟩;obtain⟨x,t,kt,et,rfl,rfl,A,q⟩:=EB H;obtain⟨r,es,M,rfl,hb,rfl⟩:=kQ hn G hc;have vu:w'.heap[r]? =some (.map es M):=s.obj hb;simp[execOp,resolve,invoke,builtin,HY,l.ev hc q,run_underlying A,DA vu,goInt,DS]
    .exact Q h
   | _=>exact Q h
 |entry it=>
  simp only at h;split at h
  .rename_i p d q;split at h
   .have ⟨x,v,E,i⟩:=h;refine⟨_,i,λhc w' s=>cF ?_⟩;simp only[execOp,AU,l.ev hc q,oQ (zm s (kQ E G hc)),AZ,B1]
   .have ⟨x,v,E,i⟩:=h;refine⟨_,i,λhc w' s=>cF ?_⟩;simp only[execOp,AU,l.ev hc q,oQ (zm s (kQ E G hc)),AZ,B1]
   .have ⟨x,v,E,i⟩:=h;refine⟨_,i,λhc w' s=>cF ?_⟩;simp only[execOp,AU,l.ev hc q,oQ (zm s (kQ E G hc)),AZ,B1]
   .exact AE h
  .exact AE h
 | _=>exact Q h
variable {P:AT}
def WF (r:Option Nat):Fence:={Dl with round:=r}
theorem kO {r:Option Nat} {n:Nat} {f:B3} {args:Array AC} {w:A2} {R:Ending->A2->Prop}:CallsIn (WF r) n P f args w R<->Calls P f args w R:=
 callsIn_wide
theorem acK (r:Option Nat) (f:B3):(WF r).fn f:=trivial
theorem abR (r:Option Nat) (n:Nat):(WF r).room n:=room_wide n
theorem As {w:A2} {p q:AG} {v:AC} (h:(w.cell? q).isSome=true):((w.setCell p v).cell? q).isSome=true:=by
 unfold Jf at h ⊢;simp[Jj]
 grind
theorem CS {w:A2} {a:AG} {v:AC} (hv:v.oneCell'=true) (h:(w.cell? a).isSome=true) (b:w.frozen? a=false):(store a v).run P w= .ok () (w.setCell a v):=by
 rw[run_store P w a v _ hv]
 grind
theorem j7: ∀(vs:List AC) (a:AG) (i:Nat) (w:A2),DK vs=true->(∀j,j<vs.length->(w.cell? (a.add (i+j))).isSome=true/\w.frozen? (a.add (i+j))=false)->
 (storeCells a vs i).run P w= .ok () (putAt w a vs i)
 |[],a,i,w, _, _=>by rfl
 |v::r,a,i,w,b,h=>by
  simp only[DK,Hr,B5] at b;have h0:=h 0;simp at h0;have c:=j7 r a (i+1) (w.setCell (a.add i) v) b.2 (λj d=>by
   simp_all
   grind[As])
  simp[storeCells,CS b.1 h0.1 h0.2,c,putAt]
theorem wrap_i64 {n:Int} (h0: -(2 ^ 63)<=n) (a:n<2 ^ 63):Fz.wrap n=n:=by
 show(if(true&&decide (n % 2 ^ 64>=2 ^ 63))=true then n % 2 ^ 64 - 2 ^ 64 else n % 2 ^ 64)=n
 grind
theorem run_makeSlice {t e:AR} {i:TypeInfo} {z:AC} (b:P.underlying t=some (.slice e)) (hi:P.info? e=some i) (c:i.zero=some z) (k d:B2) {n m:Int} (h:aac i.bytes n m) (w:A2):
 (Ng t (.int k n) (.int d m)).run P w= .ok (.slice (some ⟨w.heap.size,0,none⟩) n.toNat m.toNat) (w.alloc (.cells (oD z.cells (m.toNat*i.size)) e)):=by
 have ⟨h0,q,h2,r⟩:=h;have f:Fz.wrap n=n:=wrap_i64 (by omega) (by omega);have g:Fz.wrap m=m:=wrap_i64 (by omega) (by omega);have j: ¬ m<0:=by omega
 have l: ¬ n<0:=by omega
 have o: ¬ n>m:=by omega
 have p: ¬ (i.bytes*m>2 ^ 48):=by omega
 unfold Ng;simp only[AU,bN b,AZ,asInt,asIntOf,B1,jk hi,f,g,j,l,o,p,decide_false,Hb,FS,if_false,run_askRoom,eV hi,newRow];by_cases a:m.toNat*i.size=0
 .simp[a,oD]
 .simp[a,oD,zeroValue,jk hi,c]
theorem xY {w:A2} {p:Option AG} {n size len cap:Nat} {vs:List AC} (h:rS w p (n*size) vs):(FC size n (.slice p len cap)).run P w= .ok ⟨vs⟩ w:=by
 cases p with
 |none=>subst h;rfl
 |some a=>
  obtain⟨b⟩:=h;have:=run_loadCellsFrom (P:=P) (w:=w) (a:=a) vs 0 #[] (by grind);rw[b] at this;simp only[FC,loadCells,this];simp
theorem DO {w:A2} {p:Option AG} {n:Nat} {vs:List AC} (h:rS w p n vs):rS w.drew p n vs:=h
theorem OE {ts:Array AR} {t u e:AR} {i:TypeInfo} {ty:AR} {p q:Option AG} {n m k l:Nat} (c:ts= #[t,u]) (d:P.underlying t=some (.slice e))
 (hi:P.info? e=some i) {w:A2} {R:Int->A2->Prop} (h:cpR w i.size (p,n) (q,k) R):
 ∃r b,(O2 ts ty #[.slice p n m,.slice q k l]).run P w= .ok (.int .i64 r) b/\R r b:=by
 subst c;have ⟨new,f,g,j⟩:=h;have MR:(FC i.size _ (.slice q k l)).run P w= .ok ⟨new⟩ w:=xY f;refine⟨_, _,?_,j⟩;unfold O2;have h0: #[t,u][0]? =some t:=rfl;simp only[h0,I1,I8,I_,AU,bN d,AZ,eV hi,Jl,B1,MR];cases p with
 |none=>
  rfl
 |some a=>
  rcases g with h|rfl|⟨⟨x,o,hc⟩,s⟩
  .cases h
  .rfl
  .cases o;have v:=j7 (P:=P) new a 0 w s (by grind);simp only[AU,v,AZ,B1,goInt];rfl
theorem F_ {ts:Array AR} {t u e A:AR} {i:TypeInfo} {z:AC} {ty:AR} {p q:Option AG} {n m k l:Nat} (B:ts= #[t,u]) (g:P.underlying t=some (.slice e)) (o:P.underlying u=some (.slice A))
 (hi:P.info? e=some i) (C:i.zero=some z) (hb:i.bytes≠0) {w:A2} {R:Option AG×Nat×Nat->A2->Prop} (h:nm w e i.size i.bytes z.cells (p,n,m) (q,k,l) R):
 ∃r s,(K0 ts ty #[.slice p n m,.slice q k l]).run P w= .ok (.slice r.1 r.2.1 r.2.2) s/\R r s:=by
 subst B;have ⟨iQ,new,D,v,E,F⟩:=h;have MR:(FC i.size k (.slice q k l)).run P w= .ok ⟨new⟩ w:=xY v;by_cases b:n+k<=m
 .have ⟨G,d⟩:=E b;refine⟨_, _,?_,d⟩;unfold K0;have h0:(#[t,u]:Array AR)[0]? =some t:=rfl;have f:(#[t,u]:Array AR)[1]? =some u:=rfl;simp only[h0,f,I1,I8,I_,AU,bN g,bN o,AZ,eV hi,Jl,B1,FS,if_false,b,if_true,L2,MR];cases p with
  |none=>
   simp only[B1,jb,Pp]
  |some a=>
   rcases G with rfl|⟨⟨T,x,hc⟩,H⟩
   .simp[storeCells,jb,putAt]
   .simp only[K2,Ct] at x;subst x;have I:=j7 (P:=P) new (a.add (n*i.size)) 0 w H (λj J=>by simpa using hc j J);rw[AU,I];rfl
 .have ⟨K,d⟩:=F (by show m<n+k;omega);have L:=λc hc=>d c hc;have M: ∀(y:Nat),n+k<=(Question.appendCap (n+k) m e).cut y:=λy=>by simp[Question.cut]
  refine⟨_, _,?_,L ((Question.appendCap (n+k) m e).cut (w.tape w.drawn (.appendCap (n+k) m e))) (M _)⟩;unfold K0;have h0:(#[t,u]:Array AR)[0]? =some t:=rfl;have f:(#[t,u]:Array AR)[1]? =some u:=rfl;have N: ¬ (((n+k:Nat):Int)>Fz.max/\(False\/i.bytes=0)):=by simp[hb]
  have O: ¬ (Nl (n+k) m*i.bytes>2 ^ 48):=by simp only at K;omega
  have Q:(FC i.size n (.slice p n m)).run P w.drew= .ok ⟨iQ⟩ w.drew:=xY (DO D);have S:(FC i.size k (.slice q k l)).run P w.drew= .ok ⟨new⟩ w.drew:=xY (DO v);simp only[h0,f,I1,I8,I_,AU,bN g,bN o,AZ,eV hi,Jl,B1,FS,if_false,b,L2,if_true,
   jk hi]
  rw[if_neg N];simp only[AU,jk hi,AZ,O,if_false,run_choose_drew,Question.forced,FS,run_askRoom,Q,S,zeroValue,C,newRow,B1,run_newObj_alloc];rfl
theorem Au {t e:AR} {i:TypeInfo} {z:AC} {len:Nat} {parts:Array (Nat×AC)} {ps:List (Nat×AC)} {cs:Array AC} (c:P.underlying t=some (.slice e)) (hi:P.info? e=some i) (d:i.zero=some z)
 (f:parts.toList=ps) (g:A7 (λk=>some (k*i.size,i.size)) ⟨(Gi (len*i.size)).map (z.cells.toList[· % z.cells.toList.length]!)⟩ ps=some cs) (j:len*i.size<=2 ^ 24) (w:A2):
 (Nh t len parts).run P w= .ok (.slice (some ⟨w.heap.size,0,none⟩) len len) (w.alloc (.cells cs e)):=by
 have h: ¬ len*i.size>2 ^ 24:=by omega
 have a:HD (λk=>some (k*i.size,i.size)) ((Array.range (len*i.size)).map ((if len*i.size=0 then #[] else z.cells)[· % (if len*i.size=0 then #[] else z.cells).size]!)) ps=some cs:=by
  rw[<-zj g];congr 1
  grind
 unfold Nh;simp only[AU,bN c,AZ,eV hi,h,newRow];by_cases b:len*i.size=0
 simp_all
 .simp only[b,if_false] at a;simp only[b,if_false,zeroValue,AU,jk hi,AZ,d,B1,f,a];simp
theorem dD {r:Option Nat} {ev:Operand->AC} {o:Oper} (h: ∀c,o.op≠ .defer c):o.semAt (WF r).round ev=execOp ev o:=Oper.semAt_eq _ _ _ h
variable {S:Nat->Option (Option AC)} {ops:Array Oper} {N:Nat} {D:List Deferred} {env:List cb} {a:Act}
def fQ (o:Oper):Bool:=
 match o.op with
 | .alloc _| .box .. | .buildSlice .. | .makeSlice .. | .makeMap .. =>true
 | _=>false
def Ci (C:fa P) (o:Oper):Bool:=
 match o.op with
 | .move _| .assign _| .pick .. | .alloc _| .box .. | .buildSlice .. | .makeSlice .. | .makeMap .. | .build .. | .load .. | .nilCheck _| .binOp .. | .unOp .. | .convert .. | .makeFunc .. | .slice .. | .fieldAddr .. | .field .. | .indexAddr .. | .index .. | .extract .. | .lookup .. =>false
 | .call c=>match c.callee with
   | .value (.func f)=> !((yI C.oW f).isSome||C.quiet.contains f)
   | .builtin .len| .builtin .min| .builtin .max=>false
   | _=>true
 | _=>true
theorem OF {C:fa P} {ρ:Operand->Option AC} {o:Oper} (a: ∀f,ρ (.func f)=some (.func (.func f) #[] #[])) (h:Ci C o=false) (b:Nm C ρ o=true):fQ o=true:=by
 grind[Ci,Nm,fQ]
theorem F' {P:AT} {ts:Array AR} {ty t u d k:AR} {kd:B2} {n:Int} {w:A2} {r:Nat} {es:Array DB} {e:Nat} {K:A2->Prop} (l:ts= #[t,u]) (f:P.underlying t=some (.map d k)) (a:P.underlying d=some (.int kd)) (hb:cd w r es e)
 (h:MP w r kd n es e K): ∃g,(K1 ts ty #[.map (some r),.int kd n]).run P w= .ok (.tuple #[]) g/\K g:=by
 subst l;have b:=hb;have j:H6 (.int kd) (.int kd n):=by rfl
 unfold MP at h;split at h
 .rename_i c;refine⟨_,?_,h⟩;simp[K1,run_underlying f,DA b,Da a j,Df a c,H7 _ b,FB]
 .rename_i i v c;refine⟨_,?_,h⟩;simp[K1,run_underlying f,DA b,Da a j,Df a c,H7 _ b,DS,FB]
 grind
theorem XP {r:Option Nat} {o:Oper} {w w':A2} {K:AC->A2->Prop} {next:Act->A2->Prop} {Q:Exit->Act->A2->Prop} (g:Fit S ops N D env a)
 {C:fa P} (h:eop C (AF env []) o w K) (H:Ext w w') (G: ∀v E,K v E->(fQ o=true->Ext w' E)->next (a.put o.dst v) E):o.wpIn (WF r) 0 P a w' next Q:=by
 have hc:lf ops a.tmps []:=λx d=>by cases d
 refine⟨λ_ _=>trivial,?_⟩;have ⟨dst,op,type,pos,after,guard⟩:=o;unfold eop at h;cases op<;>simp only at h<;>(try exact AE h)
 case store t x y=>
  rw[dD (by simp)];split at h
  .rename_i p v i d hy hi;split at h
   .rename_i R;have ⟨⟨ho,a0,hp,XQ⟩,A⟩:=h w' H;subst hp;have nL:v.cells.size=i.size:=by simpa[vH] using R
    have EW:=j7 (P:=P) (vH v) a0 0 w' ho (λj hj=>by simpa using XQ j hj);have:(execOp a.eval ⟨dst,.store t x y,type,pos,after,guard⟩).run P w'= .ok .skip (jb w' (some a0) (vH v)):=by
     simp only[execOp,Instr.storeAt,g.ev hc d,g.ev hc hy,HH,storeVar,AU,B1,AZ,eV hi,nL,ne_eq,not_true,if_false];rw[show v.cells.toList=vH v from rfl,EW];rfl
    rw[this];exact G _ _ A (λB=>by simp[fQ] at B)
   .exact AE h
  .exact AE h
 case mapUpdate t m x v=>
  rw[dD (by simp)];split at h
  .rename_i kt O p kd n val I T d hv;split at h
   .rename_i Zm U;split at h
    .rename_i V;subst V;obtain⟨r,es,L,rfl,hb,W⟩:=h w' H;have ⟨E,fL,A⟩:=Bm I U hb W;have:(execOp a.eval ⟨dst,.mapUpdate t m x v,type,pos,after,guard⟩).run P w'= .ok .skip E:=by
      simp only[execOp,AU,g.ev hc T,g.ev hc d,g.ev hc hv,fL,AZ,B1]
     rw[this];exact G _ _ A (λB=>by simp[fQ] at B)
    .exact AE h
   .exact AE h
  .exact AE h
 case insert t m x v=>
  rw[dD (by simp)];split at h
  .rename_i kt O p kd n val I T d hv;split at h
   .rename_i Zm U;split at h
    .rename_i V;subst V;obtain⟨r,es,L,rfl,hb,W⟩:=h w' H;have ⟨E,fL,A⟩:=Bm I U hb W;have:(execOp a.eval ⟨dst,.insert t m x v,type,pos,after,guard⟩).run P w'= .ok .skip E:=by
      simp only[execOp,AU,g.ev hc T,g.ev hc d,g.ev hc hv,fL,AZ,B1]
     rw[this];exact G _ _ A (λB=>by simp[fQ] at B)
    .exact AE h
   .exact AE h
  .exact AE h
 case alloc e=>
  rw[dD (by simp)];split at h
  .rename_i i hi;split at h
   .rename_i z M;have h:aH w z.cells e (λb E=>K (.pointer (some ⟨b,0,none⟩)) E):=by
     have e1:Xj P e=z.cells:=by unfold Xj;simp only[hi,M]
     split at h
     .rw[e1] at h;exact h
     .exact h
    have A:=h w' H;have:(execOp a.eval ⟨dst,.alloc e,type,pos,after,guard⟩).run P w'= .ok (.value (.pointer (some ⟨w'.heap.size,0,none⟩))) (w'.alloc (.cells z.cells e)):=by
     simp[execOp,Instr.alloc,zeroValue,jk hi,M,newVar,newRow]
    rw[this];exact G _ _ A (λ_=>Ext.alloc _ _)
   .exact AE h
  .exact AE h
 case box e x=>
  rw[dD (by simp)];split at h
  .rename_i v hv;have A:=h w' H;have:(execOp a.eval ⟨dst,.box e x,type,pos,after,guard⟩).run P w'= .ok (.value (.pointer (some ⟨w'.heap.size,0,none⟩))) (w'.alloc (.cells v.cells e)):=by
    simp[execOp,Instr.box,g.ev hc hv,newVar,newRow]
   rw[this];exact G _ _ A (λ_=>Ext.alloc _ _)
  .exact AE h
 case buildSlice t len parts=>
  rw[dD (by simp)];split at h
  .rename_i el ps I ZO;split at h
   .rename_i i hi;split at h
    .rename_i z M;split at h
     .rename_i cs kv;split at h
      .rename_i hlen;have A:=h w' H;have e:=zk (λx v d=>g.ev hc d) ZO;have e':(parts.map λ(i,x)=>(i,a.eval x)).toList=ps:=by rw[<-e];simp
       have fL:=Au (P:=P) I hi M e' kv hlen w';have:(execOp a.eval ⟨dst,.buildSlice t len parts,type,pos,after,guard⟩).run P w'= .ok (.value (.slice (some ⟨w'.heap.size,0,none⟩) len len)) (w'.alloc (.cells cs el)):=by
        simp only[execOp,AU,fL,AZ,B1]
       rw[this];exact G _ _ A (λ_=>Ext.alloc _ _)
      .exact AE h
     .exact AE h
    .exact AE h
   .exact AE h
  .exact AE h
 case makeSlice t l c=>
  rw[dD (by simp)];split at h
  .rename_i el k n k' m I hl hcc;split at h
   .rename_i i hi;split at h
    .rename_i z M;have ⟨fO,A⟩:=h w' H;have fL:=run_makeSlice (P:=P) I hi M k k' fO w';have:(execOp a.eval ⟨dst,.makeSlice t l c,type,pos,after,guard⟩).run P w'= .ok (.value (.slice (some ⟨w'.heap.size,0,none⟩) n.toNat m.toNat)) (w'.alloc (.cells (oD z.cells (m.toNat*i.size)) el)):=by
      simp only[execOp,g.ev hc hl,g.ev hc hcc,AU,fL,AZ,B1]
     rw[this];exact G _ _ A (λ_=>Ext.alloc _ _)
    .exact AE h
   .exact AE h
  .exact AE h
 case makeMap t rs=>
  rw[dD (by simp)];split at h
  .have A:=h w' H;have:(execOp a.eval ⟨dst,.makeMap t none,type,pos,after,guard⟩).run P w'= .ok (.value (.map (some w'.heap.size))) (w'.alloc (.map #[] 0)):=by
    simp[execOp,Instr.makeMap]
   rw[this];exact G _ _ A (λ_=>Ext.alloc _ _)
  .exact AE h
 case range xt x=>
  rw[dD (by simp)];split at h
  .rename_i kt O p I d;obtain⟨r,es,L,rfl,hb,A⟩:=h w' H;have vu:w'.heap[r]? =some (.map es L):=hb;have:(execOp a.eval ⟨dst,.range xt x,type,pos,after,guard⟩).run P w'= .ok (.value (.pointer (some ⟨w'.heap.size,0,none⟩))) (w'.alloc (.mapIter (some r) L #[] L)):=by
    simp[execOp,Instr.range,g.ev hc d,run_underlying I,DA vu,DS]
   rw[this];exact G _ _ A (λB=>by simp[fQ] at B)
  .exact AE h
 case next it b=>
  rw[dD (by simp)];split at h
  .rename_i p d;obtain⟨r,m,since,seen,last,es,L,rfl,hr,hb,ke,hold,k0,k1⟩:=h w' H;rcases run_next_at (P:=P) w' type r m since last seen es L hr hb hold ke with ⟨h0,fL⟩|⟨e,J,w1,xH,fL⟩
   .have:(execOp a.eval ⟨dst,.next it false,type,pos,after,guard⟩).run P w'= .ok (.value (.tuple ⟨[.bool false]⟩)) w':=by
     simp only[execOp,AU,g.ev hc d,fL,AZ,B1]
    rw[this];refine G _ _ (k0 (λe J=>?_) w' (Ext.refl _)) (λB=>by simp[fQ] at B);unfold leftOf at h0;have h1:=Array.eq_empty_of_size_eq_zero h0;rw[Array.filter_eq_empty_iff] at h1;simpa using h1 e (by simpa using J)
   .have:(execOp a.eval ⟨dst,.next it false,type,pos,after,guard⟩).run P w'= .ok (.value (.tuple ⟨[.bool true,e.key,e.val]⟩)) (w1.putObj r (.mapIter (some m) since (seen.push e.born) L)):=by
     simp only[execOp,AU,g.ev hc d,fL,AZ,B1];rfl
    rw[this];unfold leftOf at J;have lD:e∈es.toList/\seen.contains e.born=false:=by simpa using J
    refine G _ _ (k1 e lD.1 lD.2 w1 ?_) (λB=>by simp[fQ] at B);rcases xH with rfl|rfl
    .exact Ext.refl _
    .exact⟨rfl,rfl,rfl,Fk _,λk A=>rfl⟩
  .exact AE h
 case call c=>
  have ⟨callee,args,ts⟩:=c;rw[dD (by simp)];simp only at h;split at h
  .
   split at h
   .rename_i m x t u No aad;split at h
    .rename_i kt O p kd n I T d;split at h
     .rename_i Zm U;split at h
      .rename_i V;subst V;obtain⟨r,es,L,rfl,hb,W⟩:=h w' H;have X:args= #[m,x]:=by cases args;simp_all
       have et':ts= #[t,u]:=by cases ts;simp_all
       have ⟨E,fL,A⟩:=F' (P:=P) (ty:=type) et' I U hb W;have:(execOp a.eval ⟨dst,.call ⟨.builtin .delete,args,ts⟩,type,pos,after,guard⟩).run P w'= .ok (.value (.tuple ⟨[]⟩)) E:=by
        subst X;simp only[execOp,resolve,AU,B1,AZ,invoke,builtin,H2,H4,H5,g.ev hc T,g.ev hc d,fL]
       rw[this];exact G _ _ A (λB=>by simp[fQ] at B)
      .exact AE h
     .exact AE h
    .exact AE h
   .exact AE h
  .
   split at h
   .rename_i s x t u No aad;split at h
    .rename_i e ue p n m q k l I hu' R d;split at h
     .rename_i i hi;split at h
      .rename_i z M;split at h
       .exact AE h
       .rename_i hb;have Wq:=h w' H;have X:args= #[s,x]:=by cases args;simp_all
        have O:ts= #[t,u]:=by cases ts;simp_all
        have ⟨res,E,fL,Y⟩:=F_ (P:=P) (ty:=type) O I hu' hi M hb Wq;have:(execOp a.eval ⟨dst,.call ⟨.builtin .append,args,ts⟩,type,pos,after,guard⟩).run P w'= .ok (.value (.slice res.1 res.2.1 res.2.2)) E:=by
         subst X;simp only[execOp,resolve,AU,B1,AZ,invoke,builtin,H2,H4,H5,g.ev hc R,g.ev hc d,fL]
        rw[this];exact G _ _ Y (λB=>by simp[fQ] at B)
      .exact AE h
     .exact AE h
    .exact AE h
   .exact AE h
  .
   split at h
   .rename_i s x t u No aad;split at h
    .rename_i e p n m q k l I R d;split at h
     .rename_i i hi;have Wq:=h w' H;have X:args= #[s,x]:=by cases args;simp_all
      have O:ts= #[t,u]:=by cases ts;simp_all
      have ⟨res,E,fL,Y⟩:=OE (P:=P) (ty:=type) (m:=m) (l:=l) O I hi Wq;have:(execOp a.eval ⟨dst,.call ⟨.builtin .copy,args,ts⟩,type,pos,after,guard⟩).run P w'= .ok (.value (.int .i64 res)) E:=by
       subst X;simp only[execOp,resolve,AU,B1,AZ,invoke,builtin,H2,H4,H5,g.ev hc R,g.ev hc d,fL]
      rw[this];exact G _ _ Y (λB=>by simp[fQ] at B)
     .exact AE h
    .exact AE h
   .exact AE h
  .rename_i f;split at h
   .
    rename_i s t;split at h
    .rename_i v Z hf has;obtain⟨ja,first,cap,rfl,th,A⟩:=h w' H;have fL:=ud (P:=P) (dst:=dst) (type:=type) (pos:=pos) (after:=after) (guard:=guard) (ts:=ts) (g.ev hc hf) (mW (λx v d=>g.ev hc d) has) (w:=w') th;rw[fL];refine⟨by simp[WF,Dl],?_⟩;refine(kO (n:=0 - 1)).2 ?_;refine E4 A λe E ⟨x,J,d⟩=>?_;subst J;exact G _ _ d (λB=>by simp[fQ] at B)
    .exact AE h
   rename_i f _ _ _;split at h
   .
    rename_i l first cp Z hf has
    have ⟨rec,AJ,hlen,XR⟩:=h w' H;have e:(first++args.map a.eval:Array AC)=⟨first.toList++Z⟩:=by
     have:=mW (λx v d=>g.ev hc d) has;rw[<-this];have ⟨l1⟩:=first;have ⟨l2⟩:=args
     simp
    have fL:=run_yield (P:=P) (args:=⟨first.toList++Z⟩) AJ (by simpa using hlen);have:(execOp a.eval ⟨dst,.call ⟨.value f,args,ts⟩,type,pos,after,guard⟩).run P w'= .ok (.round l rec.fn ((rec.params.zip ⟨first.toList++Z⟩).foldl (λtmps (t,a)=>tmps.setIfInBounds t a) rec.tmps) rec.assign rec.body) w':=by
     simp only[execOp,resolve,Deferred.ofValue,g.ev hc hf,AU,B1,AZ,invoke];rw[e,fL]
    rw[this];refine⟨by simp[WF,Dl],?_⟩;refine RoundIn.mono (F:=WF r) (n:=0 - 1) XR λe E ⟨b,J,Y⟩=>?_;subst J;exact G _ _ Y (λB=>by simp[fQ] at B)
   .rename_i ja first cap Z hf has
    split at h
    .rename_i th;have A:=h w' H;have fL:=ud (P:=P) (dst:=dst) (type:=type) (pos:=pos) (after:=after) (guard:=guard) (ts:=ts) (g.ev hc hf) (mW (λx v d=>g.ev hc d) has) (w:=w') th;rw[fL];refine⟨by simp[WF,Dl],?_⟩;refine(kO (n:=0 - 1)).2 ?_;refine E4 A λe E ⟨x,J,d⟩=>?_;subst J;exact G _ _ d (λB=>by simp[fQ] at B)
    .exact AE h
   .exact AE h
  .exact AE h
theorem Bn {o:Oper} {c:Call} (b:o.op= .defer c) {w:A2} {v:AC} (h:e9 P o a w v):False:=by
 obtain⟨dst,op,type⟩:=o;unfold e9 execOp at h
 simp_all
 generalize (resolve _ c type).run P w=res at h;cases res<;>simp at h
def Wr (S:Nat->Option (Option AC)) (ops:Array Oper):Prop:= ∀o∈ops, ∀k,o.dst=some k->S k=none
theorem CT {α:Type} {l:List α} (h:l.getLast?=none):l=[]:=List.getLast?_eq_none_iff.1 h
theorem zn {r:Option Nat} {C:fa P} {i:Nat} {o:Oper} {Q:Exit->Act->A2->Prop} (y:ops[i]? =some o) (l: ∀k,o.dst=some k->S k=none):
 ∀(n:Nat) (env:List cb) (w w':A2) (K:List cb->A2->Prop),Fit S ops N D env a->MQ C ops N o n env w K->Ext w w'->
 wpOpIn (WF r) 0 P ops Q i (λa1 w1=>(Ci C o=false->Ext w' w1)/\ ∃eZ H,K eZ H/\Fit S ops N D eZ a1/\Ext H w1) a w'
 |0, _, _, _, _, _,h, _=>AE h
 |n+1,env,w,w',K,b,h,j=>by
  simp only[MQ,CC,kI] at h;split at h
  .exact AE h
  .rename_i E;have z:=CD b E;split at h
   .rename_i s;unfold wpOpIn;simp only[y];rw[if_neg (by rw[z];simp)];exact⟨λ_ _=>trivial,λ_=>Ext.refl _, _,w,h,b.put s l rfl (λ_=>rfl) (λm=>absurd jV m),j⟩
   .exact AE h
  .rename_i ch g E;have ⟨A,z⟩:=Nn b E;split at h
   .rename_i s;split at h
    .rename_i J;split at h
     .rename_i L;have:ch=[]:=CT L;subst this;unfold wpOpIn;simp only[y];rw[if_pos (z.2 jV)];refine XP b h j λv F p q=>⟨λM=>q (OF (C:=C) (ρ:=AF env []) (λ_=>rfl) M J), _,F,p,?_,Ext.refl _⟩;exact b.put s l rfl (λ_=>rfl) (λm=>absurd jV m)
     .split at h
      .rename_i d hd;split at h
       .rename_i e B;split at h
        .rename_i x q;split at h
         .rename_i O;have I:e.ch=[]:=by simpa using O
          cases x with
          |true=>exact zn y l n _ w w' K (b.settle hd B I q) h j
          |false=>exact zn y l n _ w w' K (b.settle hd B I q) h j
         .exact AE h
        .exact AE h
       .exact AE h
      .exact AE h
    .have ⟨v,p,R⟩:=FO b A h;replace p:=sX p;unfold wpOpIn;simp only[y];by_cases hc:lf ops a.tmps ch
     .rw[if_pos (z.2 hc)];have t:=R hc w' j;have T: ∀c,o.op≠ .defer c:=by
       intro c U;exact Bn U t
      refine⟨λ_ _=>trivial,?_⟩;rw[dD T];unfold e9 at t;split at t
      .rename_i u F fL;obtain⟨rfl,rfl⟩:=t;rw[fL];exact⟨λ_=>Ext.refl _, _,w,p,b.put s l A (λ_=>rfl) (λm=>absurd hc m),j⟩
      .rename_i f args F fL;obtain⟨rfl,V⟩:=t;rw[fL];refine⟨by simp[WF,Dl],(kO (n:=0 - 1)).2 ?_⟩;refine E4 V λe W ⟨B,q⟩=>?_;subst B;exact⟨λ_=>q, _,w,p,b.put s l A (λ_=>rfl) (λm=>absurd hc m),j.trans q⟩
      .exact t.elim
     .rw[if_neg (λG=>hc (z.1 G))];exact⟨λ_ _=>trivial,λ_=>Ext.refl _, _,w,p,b.put s l A (λG=>absurd G hc) (λ_=>rfl),j⟩
   .exact AE h
theorem DP {r:Option Nat} {C:fa P} {i:Nat} {w w':A2} {K:List cb->A2->Prop} {Q:Exit->Act->A2->Prop} (c:Wr S ops) (d:Fit S ops N D env a)
 (h:Fq C ops N i env w K) (e:Ext w w'):wpOpIn (WF r) 0 P ops Q i (λa1 w1=>(((ops[i]?).map (Ci C)).getD true=false->Ext w' w1)/\ ∃eZ b,K eZ b/\Fit S ops N D eZ a1/\Ext b w1) a w':=by
 unfold Fq at h;cases f:ops[i]? with
 |none=>grind
 |some o=>
  simp_all
  have:=zn (r:=r) (Q:=Q) f (c o (by grind)) _ env w w' K d h e;omega
theorem NK {r:Option Nat} {C:fa P} {Q:Exit->Act->A2->Prop} (e:Wr S ops): ∀(l:List Nat) (env:List cb) (a:Act) (w w':A2) (K:List cb->A2->Prop),Fit S ops N D env a->
 rxL C ops N l env w K->Ext w w'->(∀env a w w',K env w->Fit S ops N D env a->Ext w w'->Q .normal a w')->wpOpsIn (WF r) 0 P ops Q l a w'
 |[],env,a,w,w',K,b,h,c,d=>d env a w w' h b c
 |i::l,env,a,w,w',K,b,h,c,d=>by
  exact wpOpIn_mono (λa1 w1 ⟨_,eZ,f,g,j,k⟩=>NK e l eZ a1 f w1 K j g k d) (DP e b h c)
variable {P:AT}
def nC (r:Option Nat) (P:AT) (ops:Array Oper) (Q:Exit->Act->A2->Prop) (Hy:Nat->Bool) (T:Nat->A2->Prop):Nat->Array Bool->Act->A2->Prop
 |0,b,a,w=> ∀w',Ext w w'->C7 .any ops b=[]/\Q .normal a w'
 |fuel+1,b,a,w=> ∀w',Ext w w'->(C7 .any ops b=[]->Q .normal a w')/\
  ∀i∈C7 .any ops b,wpOpIn (WF r) 0 P ops Q i (λa1 w1=>(Hy i=false->Ext w' w1)/\(Hy i=true->T i w1)/\nC r P ops Q Hy T fuel (b.setIfInBounds i true) a1 w1) a w'
section
variable {r:Option Nat} {ops:Array Oper} {Q:Exit->Act->A2->Prop} {Hy:Nat->Bool} {T:Nat->A2->Prop}
theorem oK {b:Nat} {c:Array Bool} {a:Act} {w w':A2} (h:nC r P ops Q Hy T b c a w) (d:Ext w w'):nC r P ops Q Hy T b c a w':=by
 cases b with
 |zero
 |succ=>exact λe h2=>h e (d.trans h2)
theorem z4: ∀(fuel:Nat) (b:Array Bool) (a:Act) (w:A2),nC r P ops Q Hy T fuel b a w->wpAnyIn (WF r) 0 P .any ops Q fuel b a w
 |0, _, _,w,h=>h w (Ext.refl w)
 |fuel+1, _, _,w,h=>⟨(h w (Ext.refl w)).1,λi hi=>wpOpIn_mono (λa1 w1 c=>z4 fuel _ a1 w1 c.2.2) ((h w (Ext.refl w)).2 i hi)⟩
theorem qs {T T':Nat->A2->Prop} (e: ∀j w,T' j w->T j w): ∀(fuel:Nat) (b:Array Bool) (a:Act) (w:A2),nC r P ops Q Hy T' fuel b a w->nC r P ops Q Hy T fuel b a w
 |0, _, _, _,h=>h
 |fuel+1, _, _, _,h=>λw' c=>⟨(h w' c).1,λi hi=>wpOpIn_mono (λa1 w1 d=>⟨d.1,by grind,qs e fuel _ a1 w1 d.2.2⟩) ((h w' c).2 i hi)⟩
def gY (P:AT) (ops:Array Oper) (o:Oper) (v:AC) (a:Act) (w:A2):Prop:=
 (Ch o (yielded ops a.tmps)=true/\ ∀w',Ext w w'->e9 P o a w' v)\/
 (Ch o (yielded ops a.tmps)=false/\v=undef)
theorem gY.of_same {o:Oper} {v:AC} {a b:Act} {w:A2} (c:gY P ops o v a w) (d:execOp b.eval o=execOp a.eval o)
 (e:Ch o (yielded ops b.tmps)=Ch o (yielded ops a.tmps)):gY P ops o v b w:=by grind[gY,e9]
theorem gY.op {i:Nat} {o:Oper} {v:AC} {a:Act} {w w':A2} (hi:ops[i]? =some o) (d:gY P ops o v a w) (g:Ext w w') {K:Act->A2->Prop}
 (h: ∀w1,Ext w' w1->K (a.put o.dst v) w1):wpOpIn (WF r) 0 P ops Q i K a w':=by
 unfold wpOpIn;simp only[hi];rcases d with ⟨j,k⟩
 .rw[if_pos j];have b:=k w' g;refine⟨λ_ _=>trivial,?_⟩;rw[dD (λc l=>Bn l b)];unfold e9 at b;split at b
  .rename_i u m fL;obtain⟨rfl,rfl⟩:=b;rw[fL];exact h _ (Ext.refl _)
  .rename_i f args m fL;obtain⟨rfl,p⟩:=b;rw[fL];refine⟨by simp[WF,Dl],(kO (n:=0 - 1)).2 ?_⟩;refine E4 p λe q=>?_
   grind
  .exact b.elim
 .simp_all
  exact⟨λ_ _=>trivial,h _ (Ext.refl _)⟩
def zc (ops:Array Oper) (o:Oper) (a a0:Act):Prop:=execOp a.eval o=execOp a0.eval o/\Ch o (yielded ops a.tmps)=Ch o (yielded ops a0.tmps)
theorem Js {j:Nat} {g k:Oper} {v:AC} {a0:Act} (t:ops[j]? =some k) (y:g.apart ops k=true)
 (z: ∀cs b,g.op≠ .select cs b) (A: ∀cs b,k.op≠ .select cs b) (o: ∀c,k.op≠ .defer c)
 (C: ∀c a w,¬ Q (.panic c) a w) {K:Act->A2->Prop} {a:Act} {w':A2}
 (i:zc ops g a a0) (h:wpOpIn (WF r) 0 P ops Q j K (a.put g.dst v) w'):
 wpOpIn (WF r) 0 P ops Q j (λa1 w1=>zc ops g a1 a0/\K (a1.put g.dst v) w1) a w':=by
 have ⟨p,h2,q⟩:=Oper.apart_spec y;have gC: ∀(a:Act),zc ops g a a0-> ∀u,zc ops g (a.put k.dst u) a0:=λa i u=>
  ⟨(execOp_put g z a k.dst u q).trans i.1,(wanted_put g a k.dst u q).trans i.2⟩
 unfold wpOpIn at*
 simp only[t] at*
 rw[wanted_put k a g.dst v p] at h;split
 .rename_i n;simp only[n,if_true] at h;refine⟨λ_ _=>trivial,?_⟩;have h:=h.2;rw[dD o,execOp_put k A a g.dst v p] at h;rw[dD o];generalize (execOp a.eval k).run P w'=res at*
  cases res with
  |ok x B=>
   cases x<;>simp only[Oper.uponIn] at h ⊢
   case value u=>exact⟨gC a i u,by rw[<-Dn a v u h2];exact h⟩
   case skip=>exact⟨gC a i _,by rw[<-Dn a v undef h2];exact h⟩
   case defer d=>
    refine⟨gC ({a with defers:=d::a.defers}:Act) ⟨i.1,i.2⟩ undef,?_⟩;rw[<-Dn _ v undef h2, <-Act.put_defers];exact h
   case enter f args=>
    refine⟨h.1,CallsIn.mono h.2 λe s m=>?_⟩;cases e with
    |returned u=>exact⟨gC a i u,by rw[<-Dn a v u h2];exact m⟩
    |panicked c=>grind
    |outgrown=>exact m
   case row row args=>exact⟨h.1,RowsIn.mono h.2 λu s m=>⟨gC a i u,by rw[<-Dn a v u h2];exact m⟩⟩
   case round l f tmps assign body=>
    refine⟨h.1,RoundIn.mono h.2 λe s m=>?_⟩;cases e with
    |returned u=>exact⟨gC a i u,by rw[<-Dn a v u h2];exact m⟩
    |panicked c=>simp_all
    |outgrown=>exact m
  |halt x B=>
   cases x<;>simp only[Oper.uponIn] at h ⊢
   grind
 .rename_i n;simp only[n] at h;exact⟨λ_ _=>trivial,gC a i _,by rw[<-Dn a v undef h2];exact h.2⟩
def mfO (o:Oper):Bool:=match o.op with
 | .move _=>true
 | .assign _=>true
 | .extract .. =>true
 | _=>false
theorem gY.mf {o:Oper} {v:AC} {a:Act} {w w1:A2} (g:mfO o=true) (f:gY P ops o v a w):gY P ops o v a w1:=by
 have ⟨dst,op,type,pos,after,guard⟩:=o;cases op with
 |move x
 |assign x=>
  rcases f with ⟨b,c⟩|d
  .refine .inl ⟨b,λh _=>?_⟩;have:=c w (Ext.refl w);simp only[e9,execOp,B1] at this ⊢;omega
  .exact .inr d
 |extract x k=>
  rcases f with ⟨b,c⟩|d
  .refine .inl ⟨b,λh _=>?_⟩;have:=c w (Ext.refl w);cases e:a.eval x with
   |tuple vs=>
    cases hv:vs[k]? with
    |none=>simp[e9,execOp,HQ,e,hv] at this
    |some u=>
     simp only[e9,execOp,HQ,e,hv,AU,B1,AZ] at this ⊢;omega
   | _=>simp[e9,execOp,HQ,e] at this
  .exact .inr d
 | _=>cases g
theorem uG {i:Nat} {g:Oper} {v:AC} {W:Nat->Bool} {T T':Nat->A2->Prop} {a0:Act} (hi:ops[i]? =some g) (J:Hy i=false) (E: ∀(j:Nat) (o:Oper),ops[j]? =some o->(∀cs b,o.op≠ .select cs b)/\ ∀c,o.op≠ .defer c)
 (R: ∀c a w,¬ Q (.panic c) a w) (F: ∀j w,T' j w->T j w):
 ∀(u:Nat) (d:Array Bool) (a:Act) (w:A2),
  (∀j m,ops[j]? =some m->j≠i->d.getD j true=false->W j=false->g.apart ops m=true/\(Hy j=false\/mfO g=true\/ ∀w1,T' j w1->gY P ops g v a0 w1))->
  (∀j,W j=true->d.getD j true=false/\ ∃m,ops[j]? =some m/\ ∃e∈m.after,Do .any e=true/\(e.on=i\/W e.on=true))->
  i∈C7 .any ops d->zc ops g a a0->gY P ops g v a0 w->
  nC r P ops Q Hy T' u (d.setIfInBounds i true) (a.put g.dst v) w->nC r P ops Q Hy T (u+1) d a w:=by
 have nil: ∀(d:Array Bool),i∈C7 .any ops d->C7 .any ops d≠[]:=λl K h=>by rw[h] at K;cases K
 intro u
 induction u with
 |zero=>
  intro d a w _ _ x t y H w' n;refine⟨λh=>absurd h (nil d x),λj z=>?_⟩;by_cases p:j=i
  .subst p;refine(y.of_same t.1 t.2).op hi n λw1 q=>⟨λ_=>q,(λf=>by rw[J] at f;cases f),qs F _ _ _ _ (oK H (n.trans q))⟩
  .have:=ready_mono z p;rw[(H w' n).1] at this;cases this
 |succ u S=>
  intro d a w L U x t y H w' n;refine⟨λh=>absurd h (nil d x),λj z=>?_⟩;by_cases p:j=i
  .subst p;refine(y.of_same t.1 t.2).op hi n λw1 q=>⟨λ_=>q,(λf=>by rw[J] at f;cases f),qs F _ _ _ _ (oK H (n.trans q))⟩
  .have q:=(H w' n).2 j (ready_mono z p);have ⟨M,m,A,fR⟩:=mem_ready.1 z;have acQ:=(mem_ready.1 x).1;have G:W j=false:=by
    grind
   have ⟨V,s⟩:=L j m A p M G;have h2:=Js A V (E i g hi).1 (E j m A).1 (E j m A).2 R t q;refine wpOpIn_mono (λa1 w1 X=>?_) h2;have ⟨Y,N,O,I⟩:=X;refine⟨N,λf=>F _ _ (O f),?_⟩;refine S (d.setIfInBounds j true) a1 w1 ?_ ?_ (ready_mono x (Ne.symm p)) Y ?_ ?_
   .intro k ok I Z B C;refine L k ok I Z ?_ C;by_cases D:j=k
    .subst D;exact M
    .rw[getD_set_ne true D] at B;exact B
   .intro k C;have ⟨B,rest⟩:=U k C;refine⟨?_,rest⟩;have D:j≠k:=λe=>by rw[e,C] at G;cases G
    rw[getD_set_ne true D];exact B
   .have iQ:Ext w' w1->gY P ops g v a0 w1:=λym=>by
     have hww:=n.trans ym;rcases y with ⟨xH,Zo⟩|hn
     .exact .inl ⟨xH,λw2 h2=>Zo w2 (hww.trans h2)⟩
     .exact .inr hn
    cases f:Hy j with
    |false=>exact iQ (N f)
    |true=>
     rcases s with s|s|s
     .rw[s] at f;cases f
     .exact y.mf s
     .exact s w1 (O f)
   .rw[Array.setIfInBounds_comm _ _ p];exact I
end
def aaf (C:fa P) (ops:Array Oper) (N:Nat) (o:Oper) (env:List cb) (w:A2) (K:List cb->Prop):Prop:=
 match gd ops env o with
 |none=>fy 41 o.op
 |some none=>if tI ops N env [] o.dst then Dk env o.dst [] none undef K else fy 42 o.op
 |some (some (ch,g))=>
  if tI ops N env ch o.dst then tg C ops env ch g o w (λv=>za C o v (λv=>Dk env o.dst ch g v K)) else fy 43 o.op
def rxQ (C:fa P) (ops:Array Oper) (N:Nat) (i:Nat) (env:List cb) (w:A2) (K:List cb->Prop):Prop:=
 match ops[i]? with
 |none=>False
 |some ⟨dst,op,type,pos,after,guard⟩=>aaf C ops N ⟨dst,op,type,pos,after,guard⟩ env w K
def Xm {P:AT} (C:fa P) (ops:Array Oper) (env:List cb) (ch:List (Nat×Bool)) (g:Option Bool) (o:Oper) (w:A2) (K:(A2->Prop)->AC->Prop):Prop:=
 let ρ:=AF env ch
 match o.op with
 | .load t x=>match ρ x,elC C t,P.info? t with
   |some (.pointer p),some el,some i=>if qJ el i.size=true then fy 61 o.op else ag w g p el (λx=>K (λw=>kV g (bP w p el x)) (el.g9 x))
   | _, _, _=>fy 62 o.op
 | .entry _=>fy 63 o.op
 | .lookup q m ix ok=>match ok,P.underlying q,ρ m,ρ ix with
   |false,some (.map h d),some (.map p),some (.int k n)=>match P.underlying h,xM P d,P.info? d with
    |some (.int j),some el,some i=>match i.zero with
     |some z=>if k=j then∃x:el.T,kV g (o8 w p k n z (el.g9 x))/\K (λw=>kV g (o8 w p k n z (el.g9 x))) (el.g9 x) else fy 61 o.op
     |none=>fy 62 o.op
    | _, _, _=>fy 63 o.op
   |true,some (.map h d),some (.map p),some (.int k n)=>match P.underlying h,xM P d,P.info? d with
    |some (.int j),some el,some i=>match i.zero with
     |some z=>if k=j then∃x:el.T, ∃b:Bool,kV g (ox w p k n z (el.g9 x) b)/\K (λw=>kV g (ox w p k n z (el.g9 x) b)) (.tuple ⟨[el.g9 x,.bool b]⟩) else fy 61 o.op
     |none=>fy 62 o.op
    | _, _, _=>fy 63 o.op
   | _, _, _, _=>fy 64 o.op
 | .pick .. =>tg C ops env ch g o w (λv=>K (λ_=>True) v)
 | .call c=>match c.callee with
   | .value f=>match ρ f,maps ρ c.args.toList with
     |some (.func (.func a) first cap),some l=>
      if bT P a=true then
       match yI C.oW a with
       |some e=>match e.fn (fi first l cap) with
        |some (pre,v)=>kV g pre/\K (λ_=>True) v
        |none=>fy 64 o.op
       |none=> ∃x:(vw C a).T,kV g (ai P a (fi first l cap) w ((vw C a).g9 x))/\K (λw=>kV g (ai P a (fi first l cap) w ((vw C a).g9 x))) ((vw C a).g9 x)
      else fy 65 o.op
     | _, _=>fy 66 o.op
   | .builtin .len=>match Cw P ρ c with
     |some p=> ∃n:Nat,kV g (SW w p n)/\K (λw=>kV g (SW w p n)) (.int .i64 n)
     |none=>tg C ops env ch g o w (λv=>K (λ_=>True) v)
   | _=>tg C ops env ch g o w (λv=>K (λ_=>True) v)
 | _=>tg C ops env ch g o w (λv=>K (λ_=>True) v)
def Zp (p:A2->Prop):Prop:= ∀w w',p w->Ext w w'->p w'
theorem tP {g:Option Bool} {p:A2->Prop} (h:Zp p):Zp (λw=>kV g (p w)):=by
 intro w w' a b;cases g with
 |none=>exact h w w' a b
 |some=>exact λhb=>h w w' (a hb) b
def NL (op:Op):Bool:=match op with
 | .load .. =>false
 | .lookup .. =>false
 | .entry _=>false
 | .call c=>(match c.callee with| .value _=>false| .builtin .len=>false| _=>true)
 | _=>true
theorem Jt {C:fa P} {ops:Array Oper} {env:List cb} {ch:List (Nat×Bool)} {g:Option Bool} {o:Oper} {w:A2} {K:AC->Prop} (e:NL o.op=true)
 (h:tg C ops env ch g o w K): ∃v,K v/\ ∀i,tg C ops env ch g o i (λu=>u=v):=by
 have ⟨dst,op,type,pos,after,guard⟩:=o;cases op with
 |load t x=>cases e
 |lookup a b c d=>cases e
 |entry a=>cases e
 |pick c x y=>
  unfold tg at h;simp only at h;unfold tg;simp only;split at h
  .split at h
   .split at h
    .split at h
     .exact⟨_,h,λ_=>rfl⟩
     .exact h.elim
    .split at h
     .exact⟨_,h,λ_=>rfl⟩
     .exact h.elim
    .split at h
     .split at h
      .split at h
       .exact⟨_,h,λ_=>rfl⟩
       .exact⟨_,h,λ_=>rfl⟩
       .exact⟨_,h,λ_=>rfl⟩
      .exact h.elim
     .exact h.elim
   .exact h.elim
  .exact h.elim
 |call c=>
  have ⟨callee,args,ts⟩:=c;cases callee with
  |value f=>cases e
  |builtin b=>
   cases b with
   |len=>cases e
   | _=>
     unfold tg at h;simp only at h;unfold tg;simp only;split at h
     .exact⟨_,h,λ_=>rfl⟩
     .exact⟨_,h.2,λ_=>⟨h.1,rfl⟩⟩
     .exact h.elim
  | _=>
    unfold tg at h;simp only at h;unfold tg;simp only;split at h
    .exact⟨_,h,λ_=>rfl⟩
    .exact⟨_,h.2,λ_=>⟨h.1,rfl⟩⟩
    .exact h.elim
 | _=>
   unfold tg at h;simp only at h;unfold tg;simp only;split at h
   .exact⟨_,h,λ_=>rfl⟩
   .exact⟨_,h.2,λ_=>⟨h.1,rfl⟩⟩
   .exact h.elim
theorem OG {C:fa P} {ops:Array Oper} {env:List cb} {ch:List (Nat×Bool)} {g:Option Bool} {o:Oper} {w:A2} {K:(A2->Prop)->AC->Prop} (h:Xm C ops env ch g o w K):
 ∃p v,K p v/\p w/\Zp p/\ ∀j,p j->tg C ops env ch g o j (λu=>u=v):=by
 have ⟨dst,op,type,pos,after,guard⟩:=o;have st:NL op=true->tg C ops env ch g ⟨dst,op,type,pos,after,guard⟩ w (λv=>K (λ_=>True) v)->
  ∃p v,K p v/\p w/\Zp p/\ ∀j,p j->tg C ops env ch g ⟨dst,op,type,pos,after,guard⟩ j (λu=>u=v):=λM h=>by
  have ⟨v,k,hv⟩:=Jt (o:=⟨dst,op,type,pos,after,guard⟩) M h;exact⟨_,v,k,trivial,λ_ _ _ _=>trivial,λj _=>hv j⟩
 unfold Xm at h;cases op with
 |load t x=>
  simp only at h;split at h
  .rename_i p el i q h2 y;split at h
   .exact h.elim
   .rename_i hb;have ⟨N,O,k⟩:=h;refine⟨_, _,k,O,tP λw w' d l=>zl l d,λj d=>?_⟩;unfold tg;simp only[q,h2,y,if_neg hb];exact⟨N,d,rfl⟩
  .exact h.elim
 |entry a=>exact h.elim
 |lookup W m ix ok=>
  simp only at h;split at h
  .rename_i Q R p kd n q h2 y;split at h
   .rename_i S el T F G H;split at h
    .rename_i z I;split at h
     .rename_i J;have ⟨x,s,k⟩:=h;refine⟨_, _,k,s,tP λw w' d l=>?_,λj d=>?_⟩
      .have ⟨r,es,A,B,D,E⟩:=d;exact⟨r,es,A,B,l.obj D,E⟩
      .unfold tg;simp only[q,h2,y,F,G,H,I,if_pos J];exact⟨x,d,rfl⟩
     .exact h.elim
    .exact h.elim
   .exact h.elim
  .rename_i Q R p kd n q h2 y;split at h
   .rename_i S el T F G H;split at h
    .rename_i z I;split at h
     .rename_i J;have ⟨x,b,s,k⟩:=h;refine⟨_, _,k,s,tP λw w' d l=>?_,λj d=>?_⟩
      .have ⟨r,es,A,B,D,E⟩:=d;exact⟨r,es,A,B,l.obj D,E⟩
      .unfold tg;simp only[q,h2,y,F,G,H,I,if_pos J];exact⟨x,b,d,rfl⟩
     .exact h.elim
    .exact h.elim
   .exact h.elim
  .exact h.elim
 |call c=>
  have ⟨callee,args,ts⟩:=c;cases callee with
  |value f=>
   simp only at h;split at h
   .rename_i X first cap Y q h2
    split at h
    .rename_i hc;split at h
     .rename_i e L;split at h
      .rename_i pre v U;refine⟨_,v,h.2,trivial,λ_ _ _ _=>trivial,λj _=>?_⟩;unfold tg;simp only[q,h2,if_pos hc,L,U];exact⟨h.1,trivial⟩
      .exact h.elim
     .rename_i L;have ⟨x,s,k⟩:=h;refine⟨_, _,k,s,tP λw w' d l=>λj h2=>d j (l.trans h2),λj d=>?_⟩;unfold tg;simp only[q,h2,if_pos hc,L];exact⟨x,d,rfl⟩
    .exact h.elim
   .exact h.elim
  |builtin b=>
   cases b with
   |len=>
    simp only at h;split at h
    .rename_i p d;have ⟨n,s,k⟩:=h;refine⟨_, _,k,s,tP λw w' d l=>?_,λj V=>?_⟩
     .have ⟨r,es,A,B,D,E⟩:=d;exact⟨r,es,A,B,l.obj D,E⟩
     .unfold tg;simp only[d];exact⟨n,V,rfl⟩
    .rename_i d;unfold tg at h;simp only[d] at h;split at h
     .rename_i v hv;refine⟨_,v,h,trivial,λ_ _ _ _=>trivial,λj _=>?_⟩;unfold tg;simp only[d,hv]
     .rename_i p v hv;refine⟨_,v,h.2,trivial,λ_ _ _ _=>trivial,λj _=>?_⟩;unfold tg;simp only[d,hv];exact⟨h.1,trivial⟩
     .exact h.elim
   | _=>exact st rfl h
  | _=>exact st rfl h
 | _=>exact st rfl h
def VW (C:fa P) (ops:Array Oper) (N:Nat) (o:Oper) (env:List cb) (w:A2) (K:(A2->Prop)->List cb->Prop):Prop:=
 match gd ops env o with
 |none=>fy 44 o.op
 |some none=>if tI ops N env [] o.dst then Dk env o.dst [] none undef (K λ_=>True) else fy 45 o.op
 |some (some (ch,g))=>
  if tI ops N env ch o.dst then Xm C ops env ch g o w (λp v=>za C o v (λv=>Dk env o.dst ch g v (K p))) else fy 46 o.op
def Xn (C:fa P) (ops:Array Oper) (N:Nat) (i:Nat) (env:List cb) (w:A2) (K:(A2->Prop)->List cb->Prop):Prop:=
 match ops[i]? with
 |none=>False
 |some ⟨dst,op,type,pos,after,guard⟩=>VW C ops N ⟨dst,op,type,pos,after,guard⟩ env w K
def A8 (j:Nat) (w:A2):List (Nat×(A2->Prop))->Prop->Prop
 |[],K=>K
 |(W,p)::r,K=>match W.testBit j with
  |true=>A8 j w r K
  |false=>p w/\A8 j w r K
theorem qT {j:Nat} {w:A2}: ∀{l:List (Nat×(A2->Prop))} {K:Prop},A8 j w l K<->(∀e∈l,e.1.testBit j=false->e.2 w)/\K
 |[],K=>by simp[A8]
 |(W,p)::r,K=>by
  unfold A8;cases h:W.testBit j with
  |true
  |false=>simp only[qT,List.forall_mem_cons];grind
def Np (ops:Array Oper):Bool:=ops.toList.all λo=>match o.op with| .select .. | .defer _=>false| _=>true
def sb (i:Nat):Nat:=1 <<< i
theorem yJ (i j:Nat):(sb i).testBit j=decide (i=j):=by simp[sb,Nat.one_shiftLeft,Nat.testBit_two_pow]
def A9:List Nat->Nat
 |[]=>0
 |x::r=>sb x ||| A9 r
theorem uf: ∀(l:List Nat) (j:Nat),(A9 l).testBit j=decide (j∈l)
 |[],j=>by simp[A9]
 |x::r,j=>by
  rw[A9,Fm,yJ,uf]
  grind
theorem and_zero {a b j:Nat} (h:((a &&& b)==0)=true) (c:a.testBit j=true):b.testBit j=false:=by
 have:=congrArg (λm=>m.testBit j) (by simpa using h: )
 grind
theorem OH {a b:Nat} (h:((a &&& b) != 0)=true): ∃j,a.testBit j=true/\b.testBit j=true:=by
 have h':=by simpa using h
 obtain:=Nat.exists_testBit_of_ne_zero h'
 grind
theorem Tg {a b j:Nat} (h:((a &&& b)==a)=true) (c:a.testBit j=true):b.testBit j=true:=by grind
theorem Th {a b:Nat} (h:((a &&& b)==a)=false): ∃j,a.testBit j=true/\b.testBit j=false:=by
 apply Classical.byContradiction;intro;have:a &&& b=a:=by
  apply Nat.eq_of_testBit_eq
  grind
 grind
def I9 (o:Oper):Nat:=A9 ((o.after.toList.filter λe=>Do .any e).map (·.on))
def Vz (o:Oper):Nat:=match o.dst with
 |some d=>sb d
 |none=>0
def lkM (ops:Array Oper) (o:Oper):Nat:=A9 (o.looksAt ops)
def Sy (L i e:Nat):Bool:= !L.testBit i&&(e &&& L)==e
def HA (L i:Nat):List (Oper×Nat)->Nat->Nat
 |[],W=>W
 |(o,j)::r,W=>HA L i r (if !L.testBit j&&(I9 o &&& (W ||| sb i)) != 0 then W ||| sb j else W)
def apM (ops:Array Oper) (x y:Oper):Bool:=(Vz x &&& (lkM ops y ||| Vz y))==0&&(Vz y &&& lkM ops x)==0
def frM (C:fa P) (ops:Array Oper) (L i W:Nat) (x:Oper) (Z:List (Oper×Nat)):Bool:=
 Z.all λz=>z.2==i||L.testBit z.2||W.testBit z.2||(apM ops x z.1&&(!Ci C z.1||mfO x))
def nxM (C:fa P) (Z:List (Oper×Nat)) (L:Nat):Option (Nat×Bool):=
 match Z.find? λz=>Sy L z.2 (I9 z.1)&& !Ci C z.1&& !fQ z.1 with
 |some z=>some (z.2,true)
 |none=>match Z.find? λz=>Sy L z.2 (I9 z.1) with
  |some z=>some (z.2,false)
  |none=>none
def frS (ops:Array Oper) (L i W:Nat) (x:Oper) (Z:List (Oper×Nat)):Bool:=
 Z.all λz=>z.2==i||L.testBit z.2||W.testBit z.2||apM ops x z.1
inductive Sd where
 |nil|q (i:Nat) (m:Option Nat) (r:Sd)|alt (i:Nat) (r t:Sd)|stop
def qg (C:fa P) (ops:Array Oper) (Z:List (Oper×Nat)):Nat->Nat->Option Sd
 |0,L=>if Z.all λz=> !Sy L z.2 (I9 z.1) then some .nil else none
 |n+1,L=>match nxM C Z L with
  |none=>none
  |some (i,true)=>match ops[i]? with
   |some x=>if Sy L i (I9 x)&& !Ci C x then
     if frM C ops L i (HA L i Z 0) x Z then match qg C ops Z n (L ||| sb i) with
      |some l=>some (.q i none l)
      |none=>none
     else if frS ops L i (HA L i Z 0) x Z then match qg C ops Z n (L ||| sb i) with
      |some l=>some (.q i (some (HA L i Z 0)) l)
      |none=>none
     else none
    else none
   |none=>none
  |some (_,false)=>(Z.filter λz=>Sy L z.2 (I9 z.1)).foldr (λz c=>match c with
   |none=>none
   |some b=>match qg C ops Z n (L ||| sb z.2) with
    |some a=>some (.alt z.2 a b)
    |none=>none) (some .stop)
def XS (C:fa P) (ops:Array Oper):Option Sd:=qg C ops ops.toList.zipIdx ops.size 0
def o9 (C:fa P) (ops:Array Oper) (i:Nat):Bool:=((ops[i]?).map (Ci C)).getD true
def Nq (C:fa P) (ops:Array Oper) (i:Nat) (w:A2) (l:List (Nat×(A2->Prop))) (K:Prop):Prop:=
 match o9 C ops i with
 |true=>A8 i w l K
 |false=>K
def Xo (C:fa P) (ops:Array Oper) (N:Nat) (i:Nat) (a:List (Nat×(A2->Prop))) (env:List cb) (w:A2) (F:List cb->A2->Prop):Prop:=match a with
 |[]=>Fq C ops N i env w F
 |e::a=>Fq C ops N i env w (λenv w=>Nq C ops i w (e::a) (F env w))
def Xp (t:Sd) (a b:Prop):Prop:=match t with
 | .stop=>a
 | _=>a/\b
def Fg (C:fa P) (ops:Array Oper) (N:Nat):Sd->List (Nat×(A2->Prop))->List cb->A2->(List cb->A2->Prop)->Prop
 | .nil, _,env,w,K=>K env w
 | .q i none r,a,env,w,K=>rxQ C ops N i env w (λenv=>Fg C ops N r a env w K)
 | .q i (some W) r,a,env,w,K=>Xn C ops N i env w (λp env=>Fg C ops N r ((W,p)::a) env w K)
 | .alt i r t,a,env,w,K=>Xp t (Xo C ops N i a env w (λenv w=>Fg C ops N r a env w K)) (Fg C ops N t a env w K)
 | .stop, _, _, _, _=>True
def aag (C:fa P) (ops:Array Oper) (N:Nat) (l:Sd) (env:List cb) (w:A2) (K:List cb->A2->Prop):Prop:=Fg C ops N l [] env w K
def Xq (C:fa P) (ops:Array Oper) (N:Nat) (env:List cb) (w:A2) (K:List cb->A2->Prop):Prop:=
 match XS C ops with
 |some l=>aag C ops N l env w K
 |none=>False
def HR (j:Nat) (x:Sd):Sd->Prop
 | .alt i r t=>(j=i/\x=r)\/HR j x t
 | _=>False
def Valid (C:fa P) (ops:Array Oper):Nat->Sd->Array Bool->Prop
 |0,t,a=>t= .nil/\C7 .any ops a=[]
 |n+1,t,a=>match t with
  | .q i m r=>i∈C7 .any ops a/\o9 C ops i=false/\
    (∃W:Nat->Bool,(∀c,ops[i]? =some c-> ∀j b,ops[j]? =some b->j≠i->a.getD j true=false->W j=false->c.apart ops b=true/\(Ci C b=false\/mfO c=true\/ ∃w,m=some w/\w.testBit j=false))/\
     (∀j,W j=true->a.getD j true=false/\ ∃b,ops[j]? =some b/\ ∃e∈b.after,Do .any e=true/\(e.on=i\/W e.on=true)))/\
    Valid C ops n r (a.setIfInBounds i true)
  | .alt i r d=>i∈C7 .any ops a/\ ∀j∈C7 .any ops a, ∃x,HR j x (.alt i r d)/\Valid C ops n x (a.setIfInBounds j true)
  | _=>False
def AL (ops:Array Oper) (L:Nat) (a:Array Bool):Prop:=a.size=ops.size/\ ∀j,a.getD j false=L.testBit j
theorem AL.un {ops:Array Oper} {L:Nat} {a:Array Bool} (h:AL ops L a) {j:Nat} (b:j<ops.size):a.getD j true=L.testBit j:=by
 rw[<-h.2];have:j<a.size:=by rw[h.1];grind
 grind
theorem AL.set {ops:Array Oper} {L:Nat} {a:Array Bool} (h:AL ops L a) {i:Nat} (hi:i<ops.size):AL ops (L ||| sb i) (a.setIfInBounds i true):=by
 refine⟨by simp[h.1],λj=>?_⟩;rw[Fm,yJ, <-h.2];by_cases e:i=j
 .subst e;have:i<a.size:=by rw[h.1];omega
  simp[this]
 simp_all
theorem AL.zero (ops:Array Oper):AL ops 0 (H9 ops.size false):=by
 refine⟨by simp,λj=>?_⟩;simp[Array.getD]
theorem qK {ops:Array Oper} {o:Oper} {j:Nat}:(o,j)∈ops.toList.zipIdx<->ops[j]? =some o:=by grind
theorem FP {o:Oper} {j:Nat}:(I9 o).testBit j=true<-> ∃e∈o.after,Do .any e=true/\e.on=j:=by
 grind[I9,uf]
theorem n8 {ops:Array Oper} {L:Nat} {c:Array Bool} (h:AL ops L c) {i:Nat}:i∈C7 .any ops c<-> ∃o,ops[i]? =some o/\Sy L i (I9 o)=true:=by
 unfold C7;rw[Ce,List.mem_range];constructor
 .rintro⟨hi,hc⟩;rw[h.un hi] at hc;simp only[B5] at hc;have a:=Array.getElem?_eq_getElem hi;refine⟨ops[i],a,?_⟩;rw[a] at hc;simp only[K2,Qg,Mz] at hc;unfold Sy;rw[B5];refine⟨hc.1,?_⟩;cases f:(I9 _ &&& L)==I9 _ with
  |true=>rfl
  |false=>
   have ⟨j,g,h2⟩:=Th f;obtain⟨e,d,hb,rfl⟩:=FP.1 g;have:=hc.2 e d;rw[hb,h.2,h2] at this;cases this
 .rintro⟨o,a,b⟩;have hi:=(DC.1 a).1;unfold Sy at b;rw[B5] at b;refine⟨hi,?_⟩;rw[h.un hi,B5];refine⟨b.1,?_⟩;rw[a];simp only[K2,Qg,Mz];intro e d;rw[h.2];cases hb:Do .any e with
  |false=>rfl
  |true=>rw[Tg b.2 (FP.2 (by grind))];rfl
theorem DQ {L i:Nat}: ∀(Z:List (Oper×Nat)) (W j:Nat),W.testBit j=true->(HA L i Z W).testBit j=true
 |[], _, _,h=>h
 |k::r,W,j,h=>by
  refine DQ r _ j ?_
  grind
theorem NM {L i:Nat}: ∀(Z:List (Oper×Nat)) (W:Nat),(∀x,(HA L i Z W).testBit x=true->W.testBit x=true\/(L.testBit x=false/\ ∃o,(o,x)∈Z/\ ∃k,(I9 o).testBit k=true/\(k=i\/(HA L i Z W).testBit k=true)))
 |[], _, _,h=> .inl h
 |(o,j)::r,W,x,h=>by
  unfold HA at h ⊢;rcases NM r _ x h with a|⟨a,o',h2,c⟩
  .split at a
   .rename_i hc;rw[Fm,yJ,GS,decide_eq_true_eq] at a;rcases a with a|rfl
    .exact .inl a
    .rw[B5] at hc;have ⟨k,d,b⟩:=OH hc.2;rw[Fm,yJ,GS,decide_eq_true_eq] at b
     grind[Hz,DQ]
   .exact .inl a
  grind
theorem NN {ops:Array Oper} {x y:Oper} (h:apM ops x y=true):x.apart ops y=true:=by
 unfold apM at h;rw[B5] at h;have ⟨a,h2⟩:=h;unfold Oper.apart;rw[B5];constructor
 .cases hd:x.dst with
  |none=>rfl
  |some d=>
   have hb:(Vz x).testBit d=true:=by simp[Vz,hd,yJ]
   have:=and_zero a hb;rw[Fm,Bool.or_eq_false_iff] at this;have ⟨a1,b⟩:=this;unfold lkM at a1;rw[uf] at a1
   grind[Vz,yJ]
 .cases hd:y.dst with
  |none=>rfl
  |some d=>
   have hb:(Vz y).testBit d=true:=by simp[Vz,hd,yJ]
   grind[and_zero,lkM,uf]
theorem Ih {F:Nat->Option Sd}: ∀(l:List (Oper×Nat)) (t:Sd),l.foldr (λz e=>match e with
 |none=>none
 |some b=>match F z.2 with
  |some a=>some (.alt z.2 a b)
  |none=>none) (some Sd.stop)=some t->(l=[]/\t= .stop)\/(∃i r d,t= .alt i r d/\(∃o,(o,i)∈l)/\ ∀z∈l, ∃x,HR z.2 x t/\F z.2=some x)
 |[],t,h=>by
  grind
 |z::l,t,h=>by
  rw[List.foldr_cons] at h;split at h
  .cases h
  .rename_i b hb;split at h
   .rename_i a f;cases h;refine .inr ⟨z.2,a,b,rfl,by grind,λy c=>?_⟩;rcases Cs.1 c with rfl|c
    .exact⟨a,.inl (by grind),f⟩
    .rcases Ih l b hb with ⟨rfl, _⟩|⟨i,r,d, _, _,g⟩
     .cases c
     .have ⟨x,j,h2⟩:=g y c;exact⟨x,.inr j,h2⟩
   grind
theorem qU {C:fa P} {ops:Array Oper}: ∀(n L:Nat) (p:Array Bool) (l:Sd),AL ops L p->qg C ops ops.toList.zipIdx n L=some l->Valid C ops n l p
 |0,L,p,l,b,h=>by
  simp only[qg] at h;split at h
  .rename_i hc;cases h;refine⟨rfl,?_⟩;rw[List.eq_nil_iff_forall_not_mem];intro j c;have ⟨o,d,u⟩:=(n8 b).1 c;have:=Dt.1 hc (o,j) (qK.2 d);rw[u] at this;cases this
  .cases h
 |n+1,L,p,l,b,h=>by
  have E: ∀i j,(HA L i ops.toList.zipIdx 0).testBit j=true->p.getD j true=false/\ ∃f,ops[j]? =some f/\ ∃e∈f.after,Do .any e=true/\(e.on=i\/(HA L i ops.toList.zipIdx 0).testBit e.on=true):=by
   intro i j g;rcases NM ops.toList.zipIdx 0 j g with a|⟨a,o,h2,k,J,K⟩
   .simp at a
   .have d:=qK.1 h2;obtain⟨e,v,hb,rfl⟩:=FP.1 J;exact⟨by rw[b.un (DC.1 d).1];exact a,o,d,e,v,hb,K⟩
  simp only[qg] at h;split at h
  .cases h
  .rename_i i _;split at h
   .rename_i x m;have hi:i<ops.size:=(DC.1 m).1;split at h
    .rename_i hc;rw[B5,LL] at hc;have G:o9 C ops i=false:=by unfold o9;rw[m];exact hc.2
     split at h
     .rename_i w;split at h
      .rename_i l' y;cases h;have A:=qU n _ _ l' (b.set hi) y;refine⟨(n8 b).2 ⟨x,m,hc.1⟩,G,⟨λj=>(HA L i ops.toList.zipIdx 0).testBit j,?_,λj=>E i j⟩,A⟩;intro M q j f c B s g;rw[m] at q;cases q;have:=Dt.1 w (f,j) (qK.2 c);rw[b.un (DC.1 c).1] at s;have D:(HA L i ops.toList.zipIdx 0).testBit j=false:=g;simp only[s,D,Hb,GS,beq_iff_eq,B5,LL] at this;rcases this with a|a
       .exact absurd a B
       .exact⟨NN a.1,a.2.imp id .inl⟩
      .cases h
     .split at h
      .rename_i w;split at h
       .rename_i l' y;cases h;have A:=qU n _ _ l' (b.set hi) y;refine⟨(n8 b).2 ⟨x,m,hc.1⟩,G,⟨λj=>(HA L i ops.toList.zipIdx 0).testBit j,?_,λj=>E i j⟩,A⟩;intro M q j f c B s g;rw[m] at q;cases q;have:=Dt.1 w (f,j) (qK.2 c);rw[b.un (DC.1 c).1] at s;have D:(HA L i ops.toList.zipIdx 0).testBit j=false:=g;simp only[s,D,Hb,GS,beq_iff_eq] at this;rcases this with a|a
        .exact absurd a B
        .exact⟨NN a,.inr (.inr ⟨_,rfl,g⟩)⟩
       .cases h
      .cases h
    .cases h
   .cases h
  .rename_i t;rcases Ih (F:=λj=>qg C ops ops.toList.zipIdx n (L ||| sb j)) _ l h with ⟨v, _⟩|⟨i,r,O,rfl,⟨o,d⟩,N⟩
   .
    exfalso;unfold nxM at t;split at t
    .cases t
    .split at t
     .rename_i z H;have a:=Mo H;have h2:=List.mem_of_find?_eq_some H;have:z∈(ops.toList.zipIdx).filter λz=>Sy L z.2 (I9 z.1):=Ce.2 ⟨h2,a⟩;rw[v] at this;cases this
     .cases t
   .rw[Ce] at d;refine⟨(n8 b).2 ⟨o,qK.1 d.1,d.2⟩,λj c=>?_⟩;have ⟨f,I,u⟩:=(n8 b).1 c;have ⟨x,a,h2⟩:=N (f,j) (Ce.2 ⟨qK.2 I,u⟩);exact⟨x,a,qU n _ _ x (b.set (DC.1 I).1) h2⟩
section
variable {r:Option Nat} {S:Nat->Option (Option AC)} {ops:Array Oper} {N:Nat} {D:List Deferred} {Q:Exit->Act->A2->Prop}
theorem XT {C:fa P} {i:Nat} {env:List cb} {a:Act} {w:A2} {K:List cb->Prop} (l:Wr S ops) (b:Fit S ops N D env a) (h:rxQ C ops N i env w K):
 ∃o u eZ,ops[i]? =some o/\K eZ/\Fit S ops N D eZ (a.put o.dst u)/\gY P ops o u a w:=by
 unfold rxQ at h;cases k:ops[i]? with
 |none=>simp[k] at h
 |some o=>
  simp only[k,aaf,CC] at h;have e:=l o (by grind);split at h
  .exact AE h
  .rename_i f;split at h
   .rename_i c;exact⟨o,undef, _,rfl,h,b.put c e rfl (λ_=>rfl) (by grind),.inr ⟨CD b f,rfl⟩⟩
   .exact AE h
  .rename_i ch g f;have ⟨j,m⟩:=Nn b f;split at h
   .rename_i c;have ⟨v,d,n⟩:=FO b j h;replace d:=sX d;by_cases hc:lf ops a.tmps ch
    .exact⟨o,v, _,rfl,d,b.put c e j (λ_=>rfl) (λp=>absurd hc p),.inl ⟨m.2 hc,n hc⟩⟩
    .refine⟨o,undef, _,rfl,d,b.put c e j (λq=>absurd q hc) (λ_=>rfl),.inr ⟨?_,rfl⟩⟩
     simp_all
   .exact AE h
theorem Ti {C:fa P} {i:Nat} {env:List cb} {a:Act} {w:A2} {K:(A2->Prop)->List cb->Prop} (s:Wr S ops) (c:Fit S ops N D env a) (h:Xn C ops N i env w K):
 ∃o u eZ p,ops[i]? =some o/\K p eZ/\Fit S ops N D eZ (a.put o.dst u)/\p w/\Zp p/\ ∀b,p b->gY P ops o u a b:=by
 unfold Xn at h;cases n:ops[i]? with
 |none=>simp[n] at h
 |some o=>
  simp only[n,VW,CC] at h;have j:=s o (by grind);split at h
  .exact AE h
  .rename_i k;split at h
   .rename_i d;exact⟨o,undef, _, _,rfl,h,c.put d j rfl (λ_=>rfl) (by grind),trivial,λ_ _ _ _=>trivial,λ_ _=> .inr ⟨CD c k,rfl⟩⟩
   .exact AE h
  .rename_i ch g k;have ⟨l,t⟩:=Nn c k;split at h
   .rename_i d;have ⟨p,v,f,q,r,x⟩:=OG h;replace f:=sX f;have y: ∀b,p b->lf ops a.tmps ch-> ∀w',Ext b w'->e9 P o a w' v:=λb h2 hc=>by
     have ⟨A,e,m⟩:=FO c l (x b h2);subst e;exact m hc
    by_cases hc:lf ops a.tmps ch
    .exact⟨o,v, _,p,rfl,f,c.put d j l (λ_=>rfl) (λz=>absurd hc z),q,r,λb h2=> .inl ⟨t.2 hc,y b h2 hc⟩⟩
    .refine⟨o,undef, _,p,rfl,f,c.put d j l (λm=>absurd m hc) (λ_=>rfl),q,r,λb _=> .inr ⟨?_,rfl⟩⟩
     simp_all
   .exact AE h
def A_ (a:List (Nat×(A2->Prop))) (j:Nat) (w:A2):Prop:= ∀e∈a,e.1.testBit j=false->e.2 w
theorem Ii {C:fa P} {a:List (Nat×(A2->Prop))} {env:List cb} {w:A2} {K:List cb->A2->Prop} {j:Nat} {x:Sd}: ∀{t:Sd},Fg C ops N t a env w K->HR j x t->Xo C ops N j a env w (λenv w=>Fg C ops N x a env w K)
 | .alt i r t,h,hi=>by
   rw[Fg] at h;have b:Xo C ops N i a env w λenv w=>Fg C ops N r a env w K:=by
    grind[Xp]
   rcases hi with ⟨rfl,rfl⟩|hi
   .omega
   .refine Ii ?_ hi;unfold Xp at h;split at h
    .cases hi
    grind
theorem XU {C:fa P} (G:Wr S ops) (AK:Np ops=true) (U: ∀c a w,¬ Q (.panic c) a w): ∀(n:Nat) (l:Sd) (f:Array Bool) (d:List (Nat×(A2->Prop))) (env:List cb) (a:Act) (w:A2) (K:List cb->A2->Prop),(∀e∈d,Zp e.2)->Fit S ops N D env a->
 Valid C ops n l f->Fg C ops N l d env w K->(∀env a w w',K env w->Fit S ops N D env a->Ext w w'->Q .normal a w')->
 nC r P ops Q (o9 C ops) (A_ d) n f a w:=by
 have V: ∀(j:Nat) (o:Oper),ops[j]? =some o->(∀cs b,o.op≠ .select cs b)/\ ∀c,o.op≠ .defer c:=λj o g=>by
  have:=Dt.1 AK o (Array.mem_toList_iff.2 (Array.mem_of_getElem? g));constructor
  .intro cs b he;simp[he] at this
  .intro c he;simp[he] at this
 intro n
 induction n with
 |zero=>
  intro l f d env a w K _ s hv h v w' H;obtain⟨rfl,hv⟩:=hv;exact⟨hv,v env a w w' h s H⟩
 |succ n I=>
  intro l f d env a w K z s hv h v;cases l with
  |nil=>exact hv.elim
  |stop=>exact hv.elim
  |q i m l=>
   have ⟨X,Y,⟨W,Z,hwt⟩,A⟩:=hv;cases m with
   |none=>
    have ⟨o,u,eZ,g,x,y,B⟩:=XT G s h;have J:=I l (f.setIfInBounds i true) d eZ (a.put o.dst u) w K z y A x v;exact uG (W:=W) (a0:=a) g Y V U (λ_ _ h=>h) n f a w (λj L k M O R=>by
     have:=Z o g j L k M O R;refine⟨this.1,?_⟩;rcases this.2 with h|h|⟨w,h, _⟩
     .exact .inl (by unfold o9;rw[k];exact h)
     .exact .inr (.inl h)
     .cases h) hwt X ⟨rfl,rfl⟩ B J
   |some T=>
    have ⟨o,u,eZ,p,g,x,y,hp,hu,B⟩:=Ti G s h;have J:=I l (f.setIfInBounds i true) ((T,p)::d) eZ (a.put o.dst u) w K (λe he=>by
     rcases Cs.1 he with rfl|he
     .exact hu
     .exact z e he) y A x v
    exact uG (W:=W) (a0:=a) (T':=A_ ((T,p)::d)) g Y V U (λ_ _ h e he=>h e (MY _ he)) n f a w (λj L k M O R=>by
     have:=Z o g j L k M O R;refine⟨this.1,?_⟩;rcases this.2 with h|h|⟨w,h,hb⟩
     .exact .inl (by unfold o9;rw[k];exact h)
     .exact .inr (.inl h)
     .cases h;exact .inr (.inr λw1 hT=>B w1 (hT (T,p) Hz hb))) hwt X ⟨rfl,rfl⟩ (B w hp) J
  |alt i l0 t=>
   have ⟨Wt,fR⟩:=hv;intro w' H;refine⟨λhe=>absurd Wt (by rw[he];simp),λj k=>?_⟩;have ⟨l,gR,A⟩:=fR j k;have h:=Ii h gR;have h':Fq C ops N j env w (λenv w=>(o9 C ops j=true->A_ d j w)/\Fg C ops N l d env w K):=by
    cases d with
    |nil=>
     have h:Fq C ops N j env w (λenv w=>Fg C ops N l [] env w K):=h
     simp_all[o9,A_,Fg]
    |cons E F=>
     have e:(λ(env:List cb) (w:A2)=>(o9 C ops j=true->A_ (E::F) j w)/\Fg C ops N l (E::F) env w K)=λenv w=>Nq C ops j w (E::F) (Fg C ops N l (E::F) env w K):=by
      funext env w;unfold Nq;cases o9 C ops j with
      |true=>exact propext ⟨λh=>qT.2 ⟨h.1 rfl,h.2⟩,λh=>⟨λ_=>(qT.1 h).1,(qT.1 h).2⟩⟩
      |false=>simp
     rw[e];exact h
   refine wpOpIn_mono (λa1 w1 hh=>?_) (DP G s h' H);have ⟨hx,eZ,wr,⟨Wu,x⟩,y,xH⟩:=hh;exact⟨hx,λhe e hm hb=>z e hm wr w1 ((Wu he) e hm hb) xH,oK (I l _ d eZ a1 wr K z y A x v) xH⟩
theorem Tj {C:fa P} (d:Wr S ops) (e:Np ops=true) (f: ∀c a w,¬ Q (.panic c) a w) (env:List cb) (a:Act) (w:A2) (K:List cb->A2->Prop) (g:Fit S ops N D env a)
 (h:Xq C ops N env w K) (i: ∀env a w w',K env w->Fit S ops N D env a->Ext w w'->Q .normal a w'):
 nC r P ops Q (o9 C ops) (A_ []) ops.size (H9 ops.size false) a w:=by
 unfold Xq aag at h;split at h
 .rename_i l b;have hv:=qU _ 0 _ l (AL.zero ops) b
  grind[XU]
 grind
end
variable {P:AT}
def nE (l:List cb):List cb:=
 match l.filter λe=> !e.ch.isEmpty with
 |[]=>l
 |bad=>l.filter λe=>e.ch.isEmpty&& !(bad.any λb=>b.t==e.t)
def plain (l:List cb):Prop:= ∀e∈l,e.ch=[]/\e.g=none
theorem jD {p:cb->Bool}: ∀{l:List cb} {t:Nat} {e:cb},cm (l.filter p) t=some e->(∀x∈l,x.t=t->p x=true)->cm l t=some e
 |x::r,t,e,h,d=>by
  by_cases a:p x=true
  .simp only[Mv,a,if_true,cm] at h;simp only[cm];split
   grind
   .rename_i b
    simp_all
    exact jD h (by grind)
  .simp only[Mv,a] at h;have c:x.t≠t:=λb=>a (by grind);simp only[cm,c];exact jD h (by grind)
theorem zd: ∀{l:List cb} {t:Nat} {e:cb},cm l t=some e->e.t=t
 |x::r,t,e,h=>by
  simp[cm] at h;split at h
  grind
  .exact zd h
variable {S:Nat->Option (Option AC)} {N:Nat} {D:List Deferred} {env:List cb} {a:Act}
theorem Fit.OI {ops ops':Array Oper} (h:Fit S ops N D env a) (b:plain env):Fit S ops' N D env a:=by
 have nil: ∀(o),lf o a.tmps []:=λo g=>by simp
 refine⟨h.off,h.size,h.rH,λt e c _=>h.yes t e c (by rw[(b e (cg c)).1];grind),λt e c f=>absurd (by rw[(b e (cg c)).1];grind) f,λe d=>?_,h.B9⟩;rw[(b e d).2];exact(b e d).1
theorem Bo {ops ops':Array Oper} (h:Fit S ops N D env a):Fit S ops' N D (nE env) a/\plain (nE env):=by
 have m: ∀e∈env,e.ch=[]->e.g=none:=λe b hc=>by
  have:=h.Fc e b;cases j:e.g with
  |none=>rfl
  |some γ=>rw[j] at this;exact absurd hc this.1
 have nil: ∀(o:Array Oper),lf o a.tmps []:=λo x f=>by cases f
 have i: ∀e∈nE env,e.ch=[]/\e∈env:=by
  intro e b;unfold nE at b;split at b
  simp_all
  grind
 have k: ∀t e,cm (nE env) t=some e->cm env t=some e:=by
  intro t e b;unfold nE at b;split at b
  .exact b
  .rename_i n p;refine jD b λx f q=>?_;have r:=cg b
   grind[zd]
 have d:plain (nE env):=λe b=>⟨(i e b).1,by grind⟩;refine⟨⟨h.off,h.size,h.rH,λt e l _=>h.yes t e (k t e l) (by grind[cg]),by grind[cg],λe c=>?_,λe c=>h.B9 e (i e c).2⟩,d⟩;rw[(d e c).2];exact(d e c).1
def kE:Code->Option Nat
 | .region id _ _=>some id
 | .seq a b=>match kE a with
   |some i=>some i
   |none=>kE b
 | .cond _ a b=>match kE a with
   |some i=>some i
   |none=>kE b
 | .block _ b=>kE b
 | .loop b=>kE b
 | _=>none
def SX (ops:Array Oper):List Nat:=ops.toList.filterMap (·.dst)
def writes:Code->List Nat
 | .region _ ops _=>SX ops
 | .seq a b=>writes a++writes b
 | .cond _ a b=>writes a++writes b
 | .block _ b=>writes b
 | .loop b=>writes b
 | _=>[]
abbrev aW:=List (Nat×El)
def l7:(l:aW)->pI (l.map (·.2))->List cb
 |[], _=>[]
 |(t,s)::r,x=>⟨t,[],none,s.g9 x.1,none⟩::l7 r x.2
def p_:(l:aW)->List cb->Option (pI (l.map (·.2)))
 |[], _=>some ()
 |(t,s)::r,env=>match cm env t with
  |some e=>match s.proj e.v,p_ r env with
   |some x,some y=>some (x,y)
   | _, _=>none
  |none=>none
def Nr (C:fa P) (N:Nat) (ops:Array Oper) (a:Bool) (env:List cb) (w:A2) (K:List cb->A2->Prop):Prop:=
 if a then
  if Np ops then Xq C ops N env w (λenv w=>mm (nE env) λenv=>K env w) else False
 else rxL C ops N (Gi ops.size) env w (λenv w=>mm (nE env) λenv=>K env w)
inductive Md where
 |run|to (b:Nat) (K:List cb->A2->Prop)|VB (b:Nat)
def atR (b:Nat) (y:Code):Bool:=match kE y with
 |some i=>Nat.beq i b
 |none=>false
def Ft (b:Nat):Code->Option Code
 | .seq _ y=>match atR b y with
   |true=>some y
   |false=>Ft b y
 | _=>none
def pU (b:Nat):Code->List Nat
 | .seq x y=>writes x++(match atR b y with
   |true=>[]
   |false=>pU b y)
 | _=>[]
def aah (b:Nat):Code->Bool
 | .seq x y=>match atR b x with
   |true=>true
   |false=>aah b y
 |c=>atR b c
def aaT (b_:Nat->aW) (c y:Code):Option (Nat×aW):=match kE c with
 |none=>none
 |some a=>match b_ (1000000+a) with
  |[]=>none
  |(b, _)::sl=>match aah b y with
   |true=>some (b,sl)
   |false=>none
def MT (sl:aW) (J:pI (sl.map (·.2))->A2->Prop) (env:List cb) (w:A2):Prop:=match p_ sl env with
 |some s=>J s w
 |none=>False
def cR (C:fa P) (b_:Nat->aW) (N:Nat):Code->Md->List cb->A2->(List cb->A2->Prop)->(Nat->List cb->A2->Prop)->(List cb->A2->Prop)->Prop
 | .skip,.run,env,w,Kn, _, _=>Kn env w
 | .region _ ops g,.run,env,w,Kn, _, _=>Nr C N ops g env w Kn
 | .seq x y,m,env,w,Kn,Kx,Kr=>match m with
   | .run=>match aaT b_ x y with
     |none=>cR C b_ N x .run env w (λenv w=>cR C b_ N y .run env w Kn Kx Kr) Kx Kr
     |some (b,sl)=> ∃J:pI (sl.map (·.2))->A2->Prop,
      cR C b_ N x .run env w (λenv w=>match atR b y with
       |true=>MT sl J env w
       |false=>cR C b_ N y (.to b (MT sl J)) env w Kn Kx Kr) Kx Kr/\
      ∀s w1,J s w1->mm (l7 sl s++env.filter λe=> !(pU b (.seq x y)).contains e.t) λeZ=>match atR b y with
       |true=>cR C b_ N y .run eZ w1 Kn Kx Kr
       |false=>cR C b_ N y (.VB b) eZ w1 Kn Kx Kr
   | .to b K=>cR C b_ N x .run env w (λenv w=>match atR b y with
    |true=>K env w
    |false=>cR C b_ N y (.to b K) env w Kn Kx Kr) Kx Kr
   | .VB b=>match atR b y with
    |true=>cR C b_ N y .run env w Kn Kx Kr
    |false=>cR C b_ N y (.VB b) env w Kn Kx Kr
 | .cond c x y,.run,env,w,Kn,Kx,Kr=>match AF env [] c with
   |some (.bool b)=>aD b (cR C b_ N x .run env w Kn Kx Kr) (cR C b_ N y .run env w Kn Kx Kr)
   | _=>False
 | .block id x,.run,env,w,Kn,Kx,Kr=>cR C b_ N x .run env w Kn (λa env w=>if a=id then Kn env w else Kx a env w) Kr
 | .loop x,.run,env,w, _,Kx,Kr=>
   let sl:=b_ ((kE x).getD 0)
   match p_ sl env with
   |none=>False
   |some h=> ∃I:Nat->pI (sl.map (·.2))->A2->Prop,(∃n, ∀w1,Ext w w1->I n h w1)/\
    ∀n s w1,I n s w1->mm (l7 sl s++env.filter λe=> !(writes x).contains e.t) λeZ=>cR C b_ N x .run eZ w1
     (λi j=>match p_ sl i with
      |some k=> ∀d,Ext j d-> ∃f,f<n/\I f k d
      |none=>False) Kx Kr
 | .exit id,.run,env,w, _,Kx, _=>Kx id env w
 | .ret,.run,env,w, _, _,Kr=>Kr env w
 | _, _, _, _, _, _, _=>False
@[reducible] def sN (C:fa P) (b_:Nat->aW) (N:Nat) (c:Code) (env:List cb) (w:A2) (Kn:List cb->A2->Prop) (Kx:Nat->List cb->A2->Prop) (Kr:List cb->A2->Prop):Prop:=
 cR C b_ N c .run env w Kn Kx Kr
def Qp (S:Nat->Option (Option AC)) (N:Nat) (D:List Deferred) (Kn:List cb->A2->Prop) (Kx:Nat->List cb->A2->Prop) (Kr:List cb->A2->Prop):Exit->Act->A2->Prop
 | .normal,a,w=> ∃env b,Kn env b/\plain env/\Fit S #[] N D env a/\Ext b w
 | .exit id,a,w=> ∃env b,Kx id env b/\plain env/\Fit S #[] N D env a/\Ext b w
 | .ret,a,w=> ∃env b,Kr env b/\plain env/\Fit S #[] N D env a/\Ext b w
 | _, _, _=>False
theorem Tk {ops:Array Oper} (h: ∀k∈SX ops,S k=none):Wr S ops:=λo a k b=>h k (by
 simp[SX]
 grind)
theorem OJ {r:Option Nat} {C:fa P} {id:Nat} {ops:Array Oper} {b:Bool} {w w':A2} {Kn:List cb->A2->Prop} {Kx:Nat->List cb->A2->Prop} {Kr:List cb->A2->Prop}
 (j: ∀k∈SX ops,S k=none) (l:plain env) (m:Fit S #[] N D env a) (h:Nr C N ops b env w Kn) (d:Ext w w'):
 (Code.region id ops b).wpIn (WF r) 0 P (Qp S N D Kn Kx Kr) a w':=by
 have e:Fit S ops N D env a:=m.OI l;have f:=Tk j;have g: ∀env a w w',Kn (nE env) w->Fit S ops N D env a->Ext w w'->Qp S N D Kn Kx Kr .normal a w':=λenv a w w' n i o=>
  ⟨_,w,n,(Bo (ops':= #[]) i).2,(Bo i).1,o⟩
 have p: ∀c a w,¬ Qp S N D Kn Kx Kr (.panic c) a w:=λ_ _ _ h=>h;simp only[Nr,kI] at h;cases b with
 |false=>exact wpIn_region (NK f _ env a w w' _ e (by simpa using h) d g)
 |true=>
  simp only[if_true] at h;split at h
  .rename_i q;exact wpIn_region_any C.mixed (z4 _ _ _ _ (oK (Tj (C:=C) f q p env a w _ e h g) (d.trans (Ext.drew _))))
  .exact AE h
theorem ug: ∀{l:aW} {s:pI (l.map (·.2))} {e:cb},e∈l7 l s->e.ch=[]/\e.g=none
 |a::r,s,e,h=>by
  simp[l7] at h;rcases h with rfl|h;simp
  .exact ug h
theorem Cx: ∀{l:aW} {s:pI (l.map (·.2))} {e:cb},e∈l7 l s->e.k=none
 |t::r,s,e,h=>by
  simp[l7] at h;rcases h with rfl|h
  .rfl
  .exact Cx h
theorem m7: ∀{l m:List cb} {t:Nat} {e:cb},cm (l++m) t=some e->(cm l t=some e)\/(cm l t=none/\cm m t=some e)
 |[],m,t,e,h=> .inr ⟨rfl,h⟩
 |x::r,m,t,e,h=>by
  simp[cm] at h ⊢;split at h
  grind
  .rename_i a;rw[if_neg a];exact m7 h
theorem qV: ∀{l:aW} {env:List cb} {s:pI (l.map (·.2))} {t:Nat} {e:cb},p_ l env=some s->cm (l7 l s) t=some e-> ∃b,cm env t=some b/\b.v=e.v
 |(t0,d)::r,env,s,t,e,a,h=>by
  simp only[p_] at a;split at a
  .rename_i f g;split at a
   .rename_i x y i c;cases a;simp only[l7,cm] at h;split at h
    .grind[El.jj]
    .exact qV c h
   .cases a
  .cases a
theorem zo {l:List cb} {p:cb->Bool} {t:Nat} {e:cb} (h:cm (l.filter p) t=some e):e∈l/\p e=true:=by
 have:=cg h;simpa
theorem z5 {F:Fence} {m:Nat} {Q:Exit->Act->A2->Prop} {c:Code} (R:Nat->Act->A2->Prop) {n0:Nat} {a:Act} {w:A2} (h0:R n0 a w)
 (round: ∀n a w,R n a w->c.wpIn F m P (Exit.then (λd w'=> ∃f,f<n/\R f d w') Q) a w):(Code.loop c).wpIn F m P Q a w:=by
 intro b k cs l hb h;have key: ∀j a w,R j a w->
  ∃e d w',Q e d w'/\ArrivesIn (Machine.fenced P F) P (lone (b.atR a (.code c:: .inLoop c::k)) cs w) b k cs e d w':=by
  intro j
  induction j using Nat.strongRecOn with
  | _ j o=>
    intro a w p;obtain⟨e,q,r,g,i⟩:=round j a w p b _ cs l hb h;cases e with
    |normal=>
     obtain⟨f,s,t⟩:=g;obtain⟨u,v,x,y,z⟩:=o f s _ _ t;exact⟨u,v,x,y,.of_steps (StepsIn.trans i (.one (fenced_calm hb h rfl) stepR_inLoop)) z⟩
    |exit
    |goto
    |ret
    |panic
    |outgrown=>exact⟨_,q,r,g,‹_›⟩
 obtain⟨e,d,w',g,i⟩:=key _ a w h0;exact⟨e,d,w',g,.of_steps (.one (fenced_calm hb h rfl) stepR_loop) i⟩
theorem XV (b:Nat) (c:Code): ∀t:Nat,t∈pU b c->t∈writes c:=by
 induction c with
 |seq=>
  grind[pU,writes]
 | _=>intro t h;cases h
structure Xs (P:AT) (r:Option Nat) (C:fa P) (b_:Nat->aW) (N:Nat) (D:List Deferred) (c:Code):Prop where
 run: ∀(S:Nat->Option (Option AC)) (env:List cb) (a:Act) (w w':A2) (Kn:List cb->A2->Prop) (Kx:Nat->List cb->A2->Prop) (Kr:List cb->A2->Prop),
  (∀k∈writes c,S k=none)->plain env->Fit S #[] N D env a->cR C b_ N c .run env w Kn Kx Kr->Ext w w'->c.wpIn (WF r) 0 P (Qp S N D Kn Kx Kr) a w'
 to: ∀(b:Nat) (K:List cb->A2->Prop) (S:Nat->Option (Option AC)) (env:List cb) (a:Act) (w w':A2) (Kn:List cb->A2->Prop) (Kx:Nat->List cb->A2->Prop) (Kr:List cb->A2->Prop) (Q:Exit->Act->A2->Prop),
  (∀k∈pU b c,S k=none)->plain env->Fit S #[] N D env a->cR C b_ N c (.to b K) env w Kn Kx Kr->Ext w w'->(∀id a w,Qp S N D Kn Kx Kr (.exit id) a w->Q (.exit id) a w)->(∀a w,Qp S N D Kn Kx Kr .ret a w->Q .ret a w)->
  (∀y eZ a1 w1 w1',Ft b c=some y->K eZ w1->plain eZ->Fit S #[] N D eZ a1->Ext w1 w1'->y.wpIn (WF r) 0 P Q a1 w1')->c.wpIn (WF r) 0 P Q a w'
 VB: ∀(b:Nat) (S:Nat->Option (Option AC)) (env:List cb) (a:Act) (w w':A2) (Kn:List cb->A2->Prop) (Kx:Nat->List cb->A2->Prop) (Kr:List cb->A2->Prop) (y:Code),
  Ft b c=some y->(∀k∈writes c,S k=none)->plain env->Fit S #[] N D env a->cR C b_ N c (.VB b) env w Kn Kx Kr->Ext w w'->y.wpIn (WF r) 0 P (Qp S N D Kn Kx Kr) a w'
theorem Xs.of {r:Option Nat} {C:fa P} {b_:Nat->aW} {c:Code} (h: ∀(S:Nat->Option (Option AC)) (env:List cb) (a:Act) (w w':A2) (Kn:List cb->A2->Prop) (Kx:Nat->List cb->A2->Prop) (Kr:List cb->A2->Prop),
 (∀k∈writes c,S k=none)->plain env->Fit S #[] N D env a->cR C b_ N c .run env w Kn Kx Kr->Ext w w'->c.wpIn (WF r) 0 P (Qp S N D Kn Kx Kr) a w')
 (d: ∀b K env w Kn Kx Kr,¬ cR C b_ N c (.to b K) env w Kn Kx Kr) (h2: ∀b env w Kn Kx Kr,¬ cR C b_ N c (.VB b) env w Kn Kx Kr):Xs P r C b_ N D c:=
 ⟨h,by grind,by grind⟩
theorem Ga {r:Option Nat} {C:fa P} {b_:Nat->aW}: ∀c:Code,Xs P r C b_ N D c:=by
 intro c
 induction c with
 |skip=>exact .of (λS env a w w' Kn Kx Kr _ g f h l=>wpIn_skip ⟨env,w,h,g,f,l⟩) (λ_ _ _ _ _ _ _ h=>h) (λ_ _ _ _ _ _ h=>h)
 |region id ops draw=>exact .of (λS env a w w' Kn Kx Kr u g f h l=>OJ u g f h l) (λ_ _ _ _ _ _ _ h=>h) (λ_ _ _ _ _ _ h=>h)
 |seq x y Sz M=>
  refine⟨?_,?_,?_⟩
  .intro S env a w w' Kn Kx Kr u g f h l;simp only[cR] at h;split at h
   .refine wpIn_seq (wpIn_mono (Sz.run S env a w w' _ Kx Kr (λk d=>u k (by simp[writes,d])) g f h l) ?_);intro e a1 w1 o;cases e with
    |normal=>
     obtain⟨eZ,p,d,X,Y,Z⟩:=o;exact M.run S eZ a1 p w1 Kn Kx Kr (λk d=>u k (by simp[writes,d])) X Y d Z
    | _=>exact o
   .rename_i b sl _;obtain⟨J,q,hJ⟩:=h;simp only[kI] at hJ
    let i:Nat->Option (Option AC):=λt=>if(pU b (.seq x y)).contains t then none else some (a.tmps[t]?)
    let gC:=env.filter λe=> !(pU b (.seq x y)).contains e.t
    have nil: ∀(tm:Array AC),lf #[] tm []:=λtm x q=>by cases q
    have Dy: ∀t e,cm gC t=some e->a.tmps[t]? =some e.v/\(pU b (.seq x y)).contains t=false/\e.ch=[]:=by
     intro t e he;have ht:=zd he;have H:=zo he;have F:(pU b (.seq x y)).contains t=false:=by rw[<-ht];simpa using H.2
     have A:cm env t=some e:=jD he (λy _ ZX=>by rw[ZX,F];rfl);exact⟨f.yes t e A (by rw[(g e H.1).1];exact nil _),F,(g e H.1).1⟩
    have head: ∀(m:List cb) (j:Act) (s:pI (sl.map (·.2))),plain m->Fit i #[] N D m j->p_ sl m=some s->Fit i #[] N D (l7 sl s++gC) j/\plain (l7 sl s++gC):=by
     intro m j s Db B yn;have O:plain (l7 sl s++gC):=λe he=>by
      rcases Du.1 he with he|he
      .exact ug he
      .exact g e (by simpa[gC] using(Ce.1 he).1)
     refine⟨⟨B.off,B.size,B.rH,λt e he _=>?_,λt e he hn=>absurd (by rw[(O e (cg he)).1];exact nil _) hn,(λe he=>by rw[(O e he).2];exact(O e he).1),λe he b hb=>by
      rcases Du.1 he with he|he
      .rw[Cx he] at hb;cases hb
      .exact f.B9 e (Ce.1 he).1 b hb⟩,O⟩
     rcases m7 he with he|⟨_,he⟩
     .obtain⟨e',lD,hv⟩:=qV yn he;rw[<-hv];exact B.yes t e' lD (by rw[(Db e' (cg lD)).1];exact nil _)
     .obtain⟨hv,F, _⟩:=Dy t e he;have:=B.off t (a.tmps[t]?) (by simp only[i,F];rfl);rw[this,hv]
    have MU:Fit i #[] N D env a:=⟨λt x q=>by
     simp only[i] at q;split at q
     .cases q
     .cases q;rfl,f.size,f.rH,f.yes,f.no,f.Fc,f.B9⟩
    have back: ∀{m:List cb} {j:Act},Fit i #[] N D m j->Fit S #[] N D m j:=λ{m j} A=>⟨λt z G=>by
     have F:(pU b (.seq x y)).contains t=false:=by
      cases hc:(pU b (.seq x y)).contains t with
      |false=>rfl
      |true=>have:=u t (XV b _ t (by simpa using hc));rw[this] at G;cases G
     have h1:=A.off t (a.tmps[t]?) (by simp only[i,F];rfl);rw[h1];exact f.off t z G,A.size,A.rH,A.yes,A.no,A.Fc,A.B9⟩
    have Zr: ∀k∈pU b (.seq x y),i k=none:=λk d=>by simp[i,d]
    have ab2: ∀k∈writes x,i k=none:=λk d=>Zr k (by simp[pU,d]);have bx: ∀(id:Nat) (a:Act) (w:A2),Qp i N D Kn Kx Kr (.exit id) a w->Qp S N D Kn Kx Kr (.exit id) a w:=λid a w ⟨R,p,d,T,U,V⟩=>⟨R,p,d,T,back U,V⟩;have br: ∀(a:Act) (w:A2),Qp i N D Kn Kx Kr .ret a w->Qp S N D Kn Kx Kr .ret a w:=λa w ⟨R,p,d,T,U,V⟩=>⟨R,p,d,T,back U,V⟩;have G: ∀k∈writes y,S k=none:=λk d=>u k (by simp[writes,d]);refine wpIn_seq (wpIn_mono (Sz.run i env a w w' _ Kx Kr ab2 g MU q l) ?_);intro e a1 w1 o;cases e with
    |normal=>
     obtain⟨eZ,p,d,X,Y,Z⟩:=o;cases E:atR b y with
     |true=>
      simp only[E] at d hJ;unfold MT at d;split at d
      .rename_i s H;obtain⟨Ww,Wx⟩:=head eZ a1 s X Y H;exact M.run S _ a1 p w1 Kn Kx Kr G Wx (back Ww) (hJ s p d) Z
      .exact d.elim
     |false=>
      simp only[E] at d hJ;have ab3: ∀k∈pU b y,i k=none:=λk d=>Zr k (by simp[pU,E,d]);refine M.to b (MT sl J) i eZ a1 p w1 Kn Kx Kr _ ab3 X Y d Z bx br ?_;intro y' m j L w2' W hK Db B vn;unfold MT at hK;split at hK
      .rename_i s H;obtain⟨Ww,Wx⟩:=head m j s Db B H;exact M.VB b S _ j L w2' Kn Kx Kr y' W G Wx (back Ww) (hJ s L hK) vn
      .exact hK.elim
    |exit id=>exact bx id a1 w1 o
    |ret=>exact br a1 w1 o
    | _=>exact o
  .intro b K S env a w w' Kn Kx Kr Q u g f h l q hr Fu;simp only[cR] at h;refine wpIn_seq (wpIn_mono (Sz.run S env a w w' _ Kx Kr (λk d=>u k (by simp[pU,d])) g f h l) ?_);intro e a1 w1 o;cases e with
   |normal=>
    obtain⟨eZ,p,d,X,Y,Z⟩:=o;cases E:atR b y with
    |true=>
     simp only[E] at d;exact Fu y eZ a1 p w1 (by simp[Ft,E]) d X Y Z
    |false=>
     simp only[E] at d;exact M.to b K S eZ a1 p w1 Kn Kx Kr Q (λk d=>u k (by simp[pU,E,d])) X Y d Z q hr (λy' m j L w2' W=>Fu y' m j L w2' (by simp[Ft,E,W]))
   |exit id=>exact q id a1 w1 o
   |ret=>exact hr a1 w1 o
   | _=>exact o.elim
  .intro b S env a w w' Kn Kx Kr y' W u g f h l;simp only[cR] at h;have G: ∀k∈writes y,S k=none:=λk d=>u k (by simp[writes,d]);cases E:atR b y with
   |true=>
    simp only[E] at h;simp only[Ft,E,Ct] at W;subst W;exact M.run S env a w w' Kn Kx Kr G g f h l
   |false=>
    simp only[E] at h;simp only[Ft,E] at W;exact M.VB b S env a w w' Kn Kx Kr y' W G g f h l
 |cond c x y Sz M=>
  refine .of ?_ (λ_ _ _ _ _ _ _ h=>h) (λ_ _ _ _ _ _ h=>h);intro S env a w w' Kn Kx Kr u g f h l;simp only[cR] at h;split at h
  .rename_i b hb;have Wy:=f.ev (ch:=[]) (λ_ q=>by cases q) hb;refine wpIn_cond_split Wy (λht=>Sz.run S env a w w' Kn Kx Kr (λk d=>u k (by simp[writes,d])) g f (DL h ht) l) (λht=>M.run S env a w w' Kn Kx Kr (λk d=>u k (by simp[writes,d])) g f (Bl h ht) l)
  .exact AE h
 |block id x ih=>
  refine .of ?_ (λ_ _ _ _ _ _ _ h=>h) (λ_ _ _ _ _ _ h=>h);intro S env a w w' Kn Kx Kr u g f h l;refine wpIn_block (wpIn_mono (ih.run S env a w w' Kn _ Kr u g f h l) ?_);intro e a1 w1 o;cases e with
  |exit Wv=>
   obtain⟨eZ,p,d,rest⟩:=o;simp only[Exit.inBlock];split
   .rename_i he;simp only[he,if_true] at d;exact⟨eZ,p,d,rest⟩
   .rename_i he;simp only[he,if_false] at d;exact⟨eZ,p,d,rest⟩
  | _=>exact o
 |exit id=>exact .of (λS env a w w' Kn Kx Kr _ g f h l=>wpIn_exit ⟨env,w,h,g,f,l⟩) (λ_ _ _ _ _ _ _ h=>h) (λ_ _ _ _ _ _ h=>h)
 |ret=>exact .of (λS env a w w' Kn Kx Kr _ g f h l=>wpIn_ret ⟨env,w,h,g,f,l⟩) (λ_ _ _ _ _ _ _ h=>h) (λ_ _ _ _ _ _ h=>h)
 |loop x ih=>
  refine .of ?_ (λ_ _ _ _ _ _ _ h=>h) (λ_ _ _ _ _ _ h=>h);intro S env a w w' Kn Kx Kr u g f h l;simp only[cR,kI] at h;split at h
  .exact AE h
  .rename_i s0 hs0;obtain⟨I,⟨n0,h0⟩,Ba⟩:=h
   let sl:=b_ ((kE x).getD 0)
   let i:Nat->Option (Option AC):=λt=>if(writes x).contains t then none else some (a.tmps[t]?)
   let gC:=env.filter λe=> !(writes x).contains e.t
   have nil: ∀(tm:Array AC),lf #[] tm []:=λtm x q=>by cases q
   have Dy: ∀t e,cm gC t=some e->a.tmps[t]? =some e.v/\(writes x).contains t=false/\e.ch=[]:=by
    intro t e he;have ht:=zd he;have H:=zo he;have F:(writes x).contains t=false:=by rw[<-ht];simpa using H.2
    have A:cm env t=some e:=jD he (λy _ ZX=>by rw[ZX,F];rfl);exact⟨f.yes t e A (by rw[(g e H.1).1];exact nil _),F,(g e H.1).1⟩
   have head: ∀(m:List cb) (j:Act) (s:pI (sl.map (·.2))),plain m->Fit i #[] N D m j->p_ sl m=some s->Fit i #[] N D (l7 sl s++gC) j/\plain (l7 sl s++gC):=by
    intro m j s Db B yn;have O:plain (l7 sl s++gC):=λe he=>by
     rcases Du.1 he with he|he
     .exact ug he
     .exact g e (by simpa[gC] using(Ce.1 he).1)
    refine⟨⟨B.off,B.size,B.rH,λt e he _=>?_,λt e he hn=>absurd (by rw[(O e (cg he)).1];exact nil _) hn,(λe he=>by rw[(O e he).2];exact(O e he).1),λe he b hb=>by
     rcases Du.1 he with he|he
     .rw[Cx he] at hb;cases hb
     .exact f.B9 e (Ce.1 he).1 b hb⟩,O⟩
    rcases m7 he with he|⟨_,he⟩
    .obtain⟨e',lD,hv⟩:=qV yn he;rw[<-hv];exact B.yes t e' lD (by rw[(Db e' (cg lD)).1];exact nil _)
    .obtain⟨hv,F, _⟩:=Dy t e he;have:=B.off t (a.tmps[t]?) (by simp only[i,F];rfl);rw[this,hv]
   have MU:Fit i #[] N D env a:=⟨λt x q=>by
    simp only[i] at q;split at q
    .cases q
    .cases q;rfl,f.size,f.rH,f.yes,f.no,f.Fc,f.B9⟩
   have back: ∀{m:List cb} {j:Act},Fit i #[] N D m j->Fit S #[] N D m j:=λ{m j} A=>⟨λt y G=>by
    have F:(writes x).contains t=false:=by
     cases hc:(writes x).contains t with
     |false=>rfl
     |true=>have:=u t (by simpa[writes] using hc);rw[this] at G;cases G
    have h1:=A.off t (a.tmps[t]?) (by simp only[i,F];rfl);rw[h1];exact f.off t y G,A.size,A.rH,A.yes,A.no,A.Fc,A.B9⟩
   have Zr: ∀k∈writes x,i k=none:=λk d=>by simp[i,d]
   obtain⟨hF4,hp4⟩:=head env a s0 g MU hs0;refine z5 (λn j L=> ∃s,I n s L/\Fit i #[] N D (l7 sl s++gC) j/\plain (l7 sl s++gC)) (n0:=n0) ⟨s0,h0 w' l,hF4,hp4⟩ ?_;intro n j L ⟨s,hI,B,Db⟩;have hb:=ih.run i _ j L L _ Kx Kr Zr Db B (Ba n s L hI) (Ext.refl _);refine wpIn_mono hb ?_;intro e a3 w3 o;cases e with
   |normal=>
    obtain⟨R,p,d,T,U,V⟩:=o;simp only[Exit.then];split at d
    .rename_i s3 VC;obtain⟨n',gL,hI'⟩:=d w3 V;obtain⟨Ww,Wx⟩:=head R a3 s3 T U VC;exact⟨n',gL,s3,hI',Ww,Wx⟩
    .exact d.elim
   |exit id=>obtain⟨R,p,d,T,U,V⟩:=o;exact⟨R,p,d,T,back U,V⟩
   |ret=>obtain⟨R,p,d,T,U,V⟩:=o;exact⟨R,p,d,T,back U,V⟩
   | _=>exact o
 | _=>exact .of (λS env a w w' Kn Kx Kr u g f h l=>AE h) (λ_ _ _ _ _ _ _ h=>h) (λ_ _ _ _ _ _ h=>h)
theorem qW {r:Option Nat} {C:fa P} {b_:Nat->aW}: ∀(c:Code) (S:Nat->Option (Option AC)) (env:List cb) (a:Act) (w w':A2) (Kn:List cb->A2->Prop) (Kx:Nat->List cb->A2->Prop) (Kr:List cb->A2->Prop),
 (∀k∈writes c,S k=none)->plain env->Fit S #[] N D env a->sN C b_ N c env w Kn Kx Kr->Ext w w'->c.wpIn (WF r) 0 P (Qp S N D Kn Kx Kr) a w':=λc=>(Ga c).run
def kF:List AC->Nat->List cb
 |[], _=>[]
 |v::r,i=>⟨i,[],none,v,none⟩::kF r (i+1)
def oE:List ResultVar->List cb->Option (List AC)
 |[], _=>some []
 | .tmp t::r,env=>match cm env t,oE r env with
   |some e,some l=>some (e.v::l)
   | _, _=>none
 | .cell .. :: _, _=>none
def Ji (l:List AC):AC:=
 match l with
 |[v]=>v
 |l=> .tuple ⟨l⟩
def aL (C:fa P) (b_:Nat->aW) (f:B3) (args:List AC) (w:A2) (Post:(vw C f).T->A2->Prop):Prop:=
 match P.funcs[f]? with
 |none=>False
 |some fn=>match fn.body with
  |none=>False
  |some c=>
   let fin:List cb->A2->Prop:=λenv w=>match oE fn.results.toList env with
    |some l=>match (vw C f).proj (Ji l) with
     |some x=>ak w (λw1=>Post x w1)
     |none=>False
    |none=>False
   if args.length<=fn.ntmps then sN C b_ fn.ntmps c (kF args 0) w fin (λ_ _ _=>False) fin else False
theorem qt: ∀{l:List AC} {i t:Nat} {e:cb},cm (kF l i) t=some e->i<=t/\l[t - i]? =some e.v/\e.ch=[]/\e.g=none
 |v::r,i,t,e,h=>by
  simp[kF,cm] at h;split at h
  grind
  .obtain:=qt h
   grind
theorem zp: ∀{l:List AC} {i:Nat} {e:cb},e∈kF l i->e.k=none
 |v::r,i,e,h=>by
  simp[kF] at h;rcases h with rfl|h
  .rfl
  .exact zp h
theorem sY: ∀{l:List AC} {i:Nat} {e:cb},e∈kF l i->e.ch=[]/\e.g=none
 |v::r,i,e,h=>by
  simp[kF] at h;rcases h with rfl|h;simp
  .exact sY h
def oy (tmps:Array AC):ResultVar->Sem AC
 | .tmp t=>pure (tmps.getD t undef)
 | .cell a t=>do loadVar t (<-asAddr (tmps.getD a undef))
theorem wK {tmps:Array AC} {w:A2}: ∀{l:List ResultVar} {env:List cb} {vs:List AC},oE l env=some vs->(∀t e,cm env t=some e->tmps[t]? =some e.v)->
 (l.mapM (oy tmps)).run P w= .ok vs w
 |[], _, _,h, _=>by simp_all[oE]
 | .tmp t::r,env,vs,h,hv=>by
   simp[oE] at h;split at h
   .rename_i e l b a;have c:=wK (w:=w) a hv
    simp_all[oy]
   grind
theorem EC {fn:Func} {tmps:Array AC} {w:A2} {env:List cb} {vs:List AC} (h:oE fn.results.toList env=some vs) (hv: ∀t e,cm env t=some e->tmps[t]? =some e.v):
 (results fn tmps).run P w= .ok (Ji vs) w:=by
 have a:=wK (P:=P) (w:=w) h hv;have h2:(fn.results.mapM (oy tmps)).run P w= .ok ⟨vs⟩ w:=by
  simp_all[In]
 have e:results fn tmps=(do
  let vs<-fn.results.mapM (oy tmps)
  pure _):=rfl
 rw[e,AU,h2]
 match vs with
 |[]=>rfl
 |[v]=>rfl
 |v::u::r=>rfl
theorem aj {C:fa P} {b_:Nat->aW} {f:B3} {args:List AC} {w:A2} {Post:(vw C f).T->A2->Prop} (h:aL C b_ f args w Post):aC P f (vw C f) args w Post:=by
 unfold aL at h;split at h
 .exact AE h
 .rename_i fn p;split at h
  .exact AE h
  .rename_i c hb;simp only at h;split at h
   .rename_i B;have g:plain (kF args 0):=λe a=>sY a;have nil: ∀(o:Array Oper) (k:Array AC),lf o k []:=λo k x d=>by cases d
    have q:Fit (λ_=>none) #[] fn.ntmps [] (kF args 0) {tmps:=(⟨args⟩:Array AC)++H9 (fn.ntmps - args.length) undef,defers:=[]}:=by
     refine⟨(λ_ _ d=>by cases d),(by simp;omega),rfl,λt e a _=>?_,λt e a s=>absurd (by rw[(g e (cg a)).1];exact nil _ _) s,(λe a=>by rw[(g e a).2];exact(g e a).1),by grind[zp]⟩;have ⟨_,hv, _⟩:=qt a
     grind
    have u:=qW (r:=none) (C:=C) (b_:=b_) c (λ_=>none) _ _ w w _ _ _ (λ_ _=>rfl) g q h (Ext.refl w);refine calls_of_wp p hb ((wpIn_wide (n:=0)).1 (wpIn_mono u ?_));have fin: ∀a1 w1,(∃env j,(match oE fn.results.toList env with
     |some l=>match (vw C f).proj (Ji l) with
      |some x=> ∀w1,Ext j w1->Post x w1
      |none=>False
     |none=>False)/\plain env/\Fit (λ_=>none) #[] fn.ntmps [] env a1/\Ext j w1)->a1.defers=[]/\ ∃v,(results fn a1.tmps).run P w1= .ok v w1/\ ∃x:(vw C f).T,Ending.returned v= .returned ((vw C f).g9 x)/\Post x w1:=by
     intro a1 w1 ⟨env,j,b,y,m,z⟩;split at b
     .rename_i l A;split at b
      .rename_i x d;refine⟨m.rH, _,EC A (λt e a=>m.yes t e a (by rw[(y e (cg a)).1];exact nil _ _)),x,by rw[Sh.jj d],b w1 z⟩
      .exact b.elim
     .exact b.elim
    intro e a1 w1 i;cases e with
    |normal=>exact fin a1 w1 i
    |ret=>exact fin a1 w1 i
    |exit id=>have ⟨_, _,b, _⟩:=i;exact b.elim
    | _=>exact(show False from i).elim
   .exact AE h
variable {P:AT}
abbrev rI:=List cb->List Nat->A2->Prop
def marks (D:List Nat):List Deferred:=D.map λr=>{target:= .collected r,args:= #[]}
def yK:Code->Bool
 | .rangeFunc .. =>true
 | .seq a b=>yK a||yK b
 | .cond _ a b=>yK a||yK b
 | .block _ b=>yK b
 | .loop b=>yK b
 | _=>false
def tx (w:A2) (l:Nat) (rec:Loop) (st:LoopState) (a:Option Code):A2:=w.putObj l (.loop {rec with state:=st,pending:=a})
def dt (w:A2) (l:Nat) (rec:Loop) (st:LoopState) (a:Option Code):Prop:=w.heap[l]? =some (.loop {rec with state:=st,pending:=a})
def Dz:List Nat->A2->Prop
 |[], _=>True
 |r::D,w=>w.heap[r]? =some (.deferred (some []))/\Dz D (w.putObj r (.deferred none))
def nF:List Nat->A2->A2
 |[],w=>w
 |r::D,w=>nF D (w.putObj r (.deferred none))
def B_ (l:Nat) (rec:Loop) (w:A2) (K:A2->Prop):Prop:= ∀a,Ext w a-> ∃b,dt a l rec .ready b/\K (tx a l rec .busy b)
def tj (l:Nat) (rec:Loop) (a:Option Code) (w:A2) (R:Bool->A2->Prop):Prop:= ∀b,Ext w b-> ∃st c,dt b l rec st c/\R a.isNone (tx b l rec (if a.isNone then .ready else .done) a)
def De (l:Nat) (rec:Loop) (n m:Nat) (w:A2) (K:Prop):Prop:=(∃a,dt w l rec .ready a)/\n=m/\K
def tq (D:List Nat) (w:A2) (K:A2->Prop):Prop:= ∀w1,Ext w w1->Dz D w1/\K (nF D w1)
def Aw (P:AT) (b:B3) (args:Nat->List AC) (ps:Array Nat) (w:A2) {T:Type} (c:T->List AC) (d:Nat->Loop->T->A2->(Bool->A2->Prop)->Prop) (f:Nat->Loop->A2->Prop):Prop:=
 ∀w1,Ext w w1-> ∀rec:Loop,rec.params=ps->rec.defers=w1.heap.size->rec.state= .ready->rec.pending=none->
  (∀(x:T) a R,d (w1.heap.size+1) rec x a R->nA P (w1.heap.size+1) (c x) a R)->
  Calls P b ⟨args (w1.heap.size+1)⟩ ((w1.alloc (.deferred (some []))).alloc (.loop rec)) (λe g=> ∃v,e= .returned v/\f w1.heap.size rec g)
def Ij (C:fa P) (b_:Nat->aW) (N:Nat) (l:Nat) (rec:Loop) (ps:List Nat) (assign body:Code) (env:List cb) (args:List AC) (w:A2) (R:Bool->A2->Prop):Prop:=
 De l rec args.length ps.length w
 (mm ((ps.zip args).reverse.map (λx=>⟨x.1,[],none,x.2,none⟩)++env) λb=>sN C b_ N assign b w
  (λeZ a=>B_ l rec a λc=>
   sN C b_ N body eZ c
    (λ_ a=>tj l rec none a R)
    (λid _ a=>tj l rec (some (.exit id)) a R)
    (λ_ a=>tj l rec (some .ret) a R))
  (λ_ _ _=>False) (λ_ _=>False))
def dX (l:Nat) (rec:Loop) (a:A2) (Kn:A2->Prop) (Kx:Nat->A2->Prop) (Kr:A2->Prop):Prop:=
 ∃st b,dt a l rec st b/\st≠ .busy/\
  match b with
  |none=>Kn (tx a l rec .exhausted (none))
  |some (.exit id)=>Kx id (tx a l rec .exhausted (some (.exit id)))
  |some .ret=>Kr (tx a l rec .exhausted (some .ret))
  | _=>False
def MA (C:fa P) (b_:Nat->aW) (N:Nat):Code->List cb->List Nat->A2->rI->(Nat->rI)->rI->Prop
 | .seq x y,env,D,w,Kn,Kx,Kr=>MA C b_ N x env D w (λenv D w=>MA C b_ N y env D w Kn Kx Kr) Kx Kr
 | .cond c x y,env,D,w,Kn,Kx,Kr=>match AF env [] c with
   |some (.bool b)=>aD b (MA C b_ N x env D w Kn Kx Kr) (MA C b_ N y env D w Kn Kx Kr)
   | _=>False
 | .block id x,env,D,w,Kn,Kx,Kr=>MA C b_ N x env D w Kn (λf env D w=>if f=id then Kn env D w else Kx f env D w) Kr
 | .loop x,env,D,w,Kn,Kx,Kr=>
   if yK x then
    let sl:=b_ ((kE x).getD 0)
    match p_ sl env with
    |none=>False
    |some j=> ∃I:Nat->pI (sl.map (·.2))->List Nat->A2->Prop,(∃n, ∀w1,Ext w w1->I n j D w1)/\
     ∀n s D1 w1,I n s D1 w1->mm (l7 sl s++env.filter λe=> !(writes x).contains e.t) λeZ=>MA C b_ N x eZ D1 w1
      (λk D2 m=>match p_ sl k with
       |some o=> ∀d,Ext m d-> ∃h,h<n/\I h o D2 d
       |none=>False) Kx Kr
   else sN C b_ N (.loop x) env w (λenv w=>Kn env D w) (λid env w=>Kx id env D w) (λenv w=>Kr env D w)
 | .rangeFunc g ps assign body,env,D,w,Kn,Kx,Kr=>
   match AF env [] g with
   |some (.func (.func i) first cap)=>
    if bT P i&&ps.toList.all (λp=>decide (p<N)) then
     Aw P i (λy=>fi first [.func (.yield y) #[] #[]] cap) ps w (λ(x:pI ((b_ ((kE body).getD 0)).map (·.2)))=>vG _ x)
      (λl rec x d R=>Ij C b_ N l rec ps.toList assign body env (vG _ x) d R)
      (λr rec q=>dX (r+1) rec q (λa=>Kn env (r::D) a) (λid a=>Kx id env (r::D) a) (λa=>Kr env (r::D) a))
    else False
   | _=>False
 |c,env,D,w,Kn,Kx,Kr=>sN C b_ N c env w (λenv w=>Kn env D w) (λid env w=>Kx id env D w) (λenv w=>Kr env D w)
def QpF (S:Nat->Option (Option AC)) (N:Nat) (Kn:rI) (Kx:Nat->rI) (Kr:rI):Exit->Act->A2->Prop
 | .normal,a,w=> ∃env D b,Kn env D b/\plain env/\Fit S #[] N (marks D) env a/\Ext b w
 | .exit id,a,w=> ∃env D b,Kx id env D b/\plain env/\Fit S #[] N (marks D) env a/\Ext b w
 | .ret,a,w=> ∃env D b,Kr env D b/\plain env/\Fit S #[] N (marks D) env a/\Ext b w
 | _, _, _=>False
theorem XW {S:Nat->Option (Option AC)} {N:Nat} {Kn:rI} {Kx:Nat->rI} {Kr:rI} {D:List Nat}: ∀(e:Exit) (a:Act) (w:A2),
 Qp S N (marks D) (λenv w=>Kn env D w) (λid env w=>Kx id env D w) (λenv w=>Kr env D w) e a w->QpF S N Kn Kx Kr e a w
 | .normal, _, _,⟨env,b,h⟩=>⟨env,D,b,h⟩
 | .exit _, _, _,⟨env,b,h⟩=>⟨env,D,b,h⟩
 | .ret, _, _,⟨env,b,h⟩=>⟨env,D,b,h⟩
theorem z6 {N:Nat} {D:List Deferred}: ∀(l:List (Nat×AC)) (env:List cb) (tmps:Array AC),(∀x∈l,x.1<N)->plain env->Fit (λ_=>none) #[] N D env {tmps,defers:=D}->
 Fit (λ_=>none) #[] N D (l.reverse.map (λx=>⟨x.1,[],none,x.2,none⟩)++env) {tmps:=l.foldl (λtmps (t,a)=>tmps.setIfInBounds t a) tmps,defers:=D}/\plain (l.reverse.map (λx=>(⟨x.1,[],none,x.2,none⟩:cb))++env)
 |[],env,tmps, _,b,h=>⟨h,b⟩
 |(t,v)::r,env,tmps,c,b,h=>by
  have f:plain (⟨t,[],none,v,none⟩::env):=λe he=>by
   rcases Cs.1 he with rfl|he;simp
   .exact b e he
  have i:=by
   have:=h.put (g:=none) (d:=some t) (u:=v) (by
    have:=c (t,v) (by grind);simp[tI,this];intro e he;rw[(b e he).1];simp) (λ_ _=>rfl) rfl (λ_=>rfl) (λj=>absurd (λx k=>by cases k) j)
   exact this
  have:=z6 r _ _ (by grind) f i
  grind
theorem Gb {w:A2} {l:Nat} {rec:Loop} {a:Option Code} (h:dt w l rec .ready a):(Instr.beginRound l).run P w= .ok () (w.putObj l (.loop {rec with state:= .busy,pending:=a})):=
 run_beginRound h rfl
theorem zq {w:A2} {l:Nat} {rec:Loop} {st:LoopState} {b:Option Code} (a:Option Code) (h:dt w l rec st b):
 (Instr.endRound l a).run P w= .ok (.bool a.isNone) (w.putObj l (.loop {rec with state:=if a.isNone then .ready else .done,pending:=a})):=
 run_endRound (r:={rec with state:=st,pending:=b}) a h
theorem Gc {C:fa P} {b_:Nat->aW} {N l:Nat} {rec:Loop} {assign body:Code} {env:List cb} {args:List AC} {w:A2} {R:Bool->A2->Prop} {tmps:Array AC} {D0:List Deferred}
 (u:rec.tmps=tmps) (v:rec.assign=assign) (hb:rec.body=body) (y: ∀p∈rec.params.toList,p<N) (z:plain env) (b:Fit (λ_=>none) #[] N D0 env {tmps,defers:=D0})
 (h:Ij C b_ N l rec rec.params.toList assign body env args w R):nA P l args w R:=by
 have ⟨⟨A,B⟩,E,o⟩:=h;rw[kI] at o;refine⟨{rec with state:= .ready,pending:=A},B,by simpa using E,?_⟩;have G:Fit (λ_=>none) #[] N [] env {tmps,defers:=[]}:=⟨b.off,b.size,rfl,b.yes,b.no,b.Fc,b.B9⟩;have ⟨H,I⟩:=z6 (D:=[]) (rec.params.toList.zip args) env tmps (λx J=>y x.1 (List.of_mem_zip J).1) z G;have e:(rec.params.zip (⟨args⟩:Array AC)).foldl (λtmps (t,a)=>tmps.setIfInBounds t a) rec.tmps=(rec.params.toList.zip args).foldl (λtmps (t,a)=>tmps.setIfInBounds t a) tmps:=by
  rw[u, <-Array.foldl_toList];simp
 rw[e,v,hb];refine roundIn_of_wpIn (F:=WF none) trivial ?_;have K:=qW (r:=some l) (C:=C) (b_:=b_) assign (λ_=>none) _ _ w w _ _ _ (λ_ _=>rfl) I H o (Ext.refl w);refine wpIn_mono K ?_;intro L a1 w1 k;cases L with
 |normal=>
  have ⟨eZ,V,m,M,O,Q⟩:=k;have ⟨W,S,T⟩:=m w1 Q;refine⟨_,Gb S,?_⟩;have h2:=qW (r:=some l) (C:=C) (b_:=b_) body (λ_=>none) _ _ _ _ _ _ _ (λ_ _=>rfl) M O T (Ext.refl _);refine wpIn_mono h2 ?_;intro U X n j;cases U with
  |normal=>
   have ⟨_,q,d, _, _,f⟩:=j;have ⟨st,s,g,i⟩:=d n f;exact⟨_, _,zq none g,true,rfl,i⟩
  |exit id=>
   have ⟨_,q,d, _, _,f⟩:=j;have ⟨st,s,g,i⟩:=d n f;exact⟨_, _,zq (some (.exit id)) g,false,rfl,i⟩
  |ret=>
   have ⟨_,q,d, _, _,f⟩:=j;have ⟨st,s,g,i⟩:=d n f;exact⟨_, _,zq (some .ret) g,false,rfl,i⟩
  |goto t
  |panic c
  |outgrown=>exact AE j
 |exit id
 |ret=>have ⟨_, _,m, _⟩:=k;exact AE m
 |goto t
 |panic c
 |outgrown=>exact AE k
variable {P:AT} {N:Nat}
theorem Bp {C:fa P} {b_:Nat->aW} {c:Code} {S:Nat->Option (Option AC)} {env:List cb} {D:List Nat} {a:Act} {w w':A2} {Kn:rI} {Kx:Nat->rI} {Kr:rI}
 (b: ∀k∈writes c,S k=none) (d:plain env) (e:Fit S #[] N (marks D) env a) (h:sN C b_ N c env w (λenv w=>Kn env D w) (λid env w=>Kx id env D w) (λenv w=>Kr env D w)) (f:Ext w w'):
 c.wpIn (WF none) 0 P (QpF S N Kn Kx Kr) a w':=
 wpIn_mono (qW c S env a w w' _ _ _ b d e h f) XW
theorem Gd {w:A2} {l:Nat} {rec:Loop} {st:LoopState} {a:Option Code} (h:dt w l rec st a) (hb:st≠ .busy):
 (Instr.endLoop l).run P w= .ok a (w.putObj l (.loop {rec with state:= .exhausted,pending:=a})):=
 run_endLoop h hb
theorem XX {C:fa P} {b_:Nat->aW}: ∀(c:Code) (S:Nat->Option (Option AC)) (env:List cb) (D:List Nat) (a:Act) (w w':A2) (Kn:rI) (Kx:Nat->rI) (Kr:rI),
 (∀k∈writes c,S k=none)->plain env->Fit S #[] N (marks D) env a->MA C b_ N c env D w Kn Kx Kr->Ext w w'->c.wpIn (WF none) 0 P (QpF S N Kn Kx Kr) a w':=by
 intro c
 induction c with
 |seq x y Q T=>
  intro S env D a w w' Kn Kx Kr j i d h l;refine wpIn_seq (wpIn_mono (Q S env D a w w' _ Kx Kr (λk f=>j k (by simp[writes,f])) i d h l) ?_);intro e a1 w1 r;cases e with
  |normal=>
   obtain⟨eZ,D1,u,f,Dc,vm,xH⟩:=r;exact T S eZ D1 a1 u w1 Kn Kx Kr (λk f=>j k (by simp[writes,f])) Dc vm f xH
  | _=>exact r
 |cond c x y Q T=>
  intro S env D a w w' Kn Kx Kr j i d h l;simp only[MA] at h;split at h
  .rename_i b hb;have U:=d.ev (ch:=[]) (λ_ m=>by cases m) hb;exact wpIn_cond_split U (λF=>Q S env D a w w' Kn Kx Kr (λk f=>j k (by simp[writes,f])) i d (DL h F) l) (λF=>T S env D a w w' Kn Kx Kr (λk f=>j k (by simp[writes,f])) i d (Bl h F) l)
  .exact AE h
 |block id x V=>
  intro S env D a w w' Kn Kx Kr j i d h l;refine wpIn_block (wpIn_mono (V S env D a w w' Kn _ Kr j i d h l) ?_);intro e a1 w1 r;cases e with
  |exit Wv=>
   obtain⟨eZ,D1,u,f,rest⟩:=r;simp only[Exit.inBlock];split
   .rename_i he;simp only[he,if_true] at f;exact⟨eZ,D1,u,f,rest⟩
   .rename_i he;simp only[he,if_false] at f;exact⟨eZ,D1,u,f,rest⟩
  | _=>exact r
 |loop x V=>
  intro S env D a w w' Kn Kx Kr j i d h l;simp only[MA,kI] at h;split at h
  .split at h
   .exact AE h
   .rename_i Z hs0;obtain⟨I,⟨n0,h0⟩,Ba⟩:=h
    let sl:=b_ ((kE x).getD 0)
    let o:Nat->Option (Option AC):=λt=>if(writes x).contains t then none else some (a.tmps[t]?)
    let gC:=env.filter λe=> !(writes x).contains e.t
    have nil: ∀(tm:Array AC),lf #[] tm []:=λtm x m=>by cases m
    have Dy: ∀t e,cm gC t=some e->a.tmps[t]? =some e.v/\(writes x).contains t=false/\e.ch=[]:=by
     intro t e he;have F:=zd he;have W:=zo he;have E:(writes x).contains t=false:=by rw[<-F];simpa using W.2
     have z:cm env t=some e:=jD he (λy _ ZX=>by rw[ZX,E];rfl);exact⟨d.yes t e z (by rw[(i e W.1).1];exact nil _),E,(i e W.1).1⟩
    have head: ∀(A:List cb) (D2:List Nat) (p:Act) (s:pI (sl.map (·.2))),plain A->Fit o #[] N (marks D2) A p->p_ sl A=some s->Fit o #[] N (marks D2) (l7 sl s++gC) p/\plain (l7 sl s++gC):=by
     intro A D2 p s X q yn;have O:plain (l7 sl s++gC):=λe he=>by
      rcases Du.1 he with he|he
      .exact ug he
      .exact i e (by simpa[gC] using(Ce.1 he).1)
     refine⟨⟨q.off,q.size,q.rH,λt e he _=>?_,λt e he hn=>absurd (by rw[(O e (cg he)).1];exact nil _) hn,(λe he=>by rw[(O e he).2];exact(O e he).1),λe he b hb=>by
     rcases Du.1 he with he|he
     .rw[Cx he] at hb;cases hb
     .exact d.B9 e (Ce.1 he).1 b hb⟩,O⟩
     rcases m7 he with he|⟨_,he⟩
     .obtain⟨e',lD,hv⟩:=qV yn he;rw[<-hv];exact q.yes t e' lD (by rw[(X e' (cg lD)).1];exact nil _)
     .obtain⟨hv,E, _⟩:=Dy t e he;have:=q.off t (a.tmps[t]?) (by simp only[o,E];rfl);rw[this,hv]
    have MU:Fit o #[] N (marks D) env a:=⟨λt x m=>by
     simp only[o] at m;split at m
     .cases m
     .cases m;rfl,d.size,d.rH,d.yes,d.no,d.Fc,d.B9⟩
    have back: ∀{A:List cb} {D2:List Nat} {p:Act},Fit o #[] N (marks D2) A p->Fit S #[] N (marks D2) A p:=λ{A D2 p} z=>⟨λt y Y=>by
     have E:(writes x).contains t=false:=by
      cases hc:(writes x).contains t with
      |false=>rfl
      |true=>have:=j t (by simpa[writes] using hc);rw[this] at Y;cases Y
     have h1:=z.off t (a.tmps[t]?) (by simp only[o,E];rfl);rw[h1];exact d.off t y Y,z.size,z.rH,z.yes,z.no,z.Fc,z.B9⟩
    have Zr: ∀k∈writes x,o k=none:=λk f=>by simp[o,f]
    obtain⟨hF4,hp4⟩:=head env D a Z i MU hs0;refine z5 (λn p G=> ∃s D2,I n s D2 G/\Fit o #[] N (marks D2) (l7 sl s++gC) p/\plain (l7 sl s++gC)) (n0:=n0) ⟨Z,D,h0 w' l,hF4,hp4⟩ ?_;intro n p G ⟨s,D2,hI,q,X⟩;have hb:=V o _ D2 p G G _ Kx Kr Zr X q (Ba n s D2 G hI) (Ext.refl _);refine wpIn_mono hb ?_;intro e a3 w3 r;cases e with
    |normal=>
     obtain⟨H,D3,u,f,J,K,L⟩:=r;simp only[Exit.then];split at f
     .rename_i s3 VC;obtain⟨n',gL,hI'⟩:=f w3 L;obtain⟨Ww,Wx⟩:=head H D3 a3 s3 J K VC;exact⟨n',gL,s3,D3,hI',Ww,Wx⟩
     .exact AE f
    |exit id=>obtain⟨H,D3,u,f,J,K,L⟩:=r;exact⟨H,D3,u,f,J,back K,L⟩
    |ret=>obtain⟨H,D3,u,f,J,K,L⟩:=r;exact⟨H,D3,u,f,J,back K,L⟩
    | _=>exact r
  .exact Bp (C:=C) (b_:=b_) j i d h l
 |rangeFunc g ps assign body _ _=>
  intro S env D a w w' Kn Kx Kr j i d h l;simp only[MA] at h;split at h
  .rename_i ja first cap hg
   split at h
   .rename_i fO;simp only[B5,Dt,decide_eq_true_eq] at fO;obtain⟨Dw,ZO⟩:=fO;have U:=d.ev (ch:=[]) (λ_ m=>by cases m) hg;refine wpIn_rangeFunc λfn _=>?_
    let M:Loop:={state:= .ready,pending:=none,fn,tmps:=a.tmps,params:=ps,assign,body,defers:=w'.heap.size}
    have VD:Fit (λ_=>none) #[] N (marks D) env {tmps:=a.tmps,defers:=marks D}:=⟨(λ_ _ m=>by cases m),d.size,rfl,d.yes,d.no,d.Fc,d.B9⟩;have f:=h w' l M rfl rfl rfl rfl (λ_ w3 R hr=>Gc (C:=C) (b_:=b_) (rec:=M) rfl rfl rfl ZO i VD hr);have aaW:(first++ #[Value.func (.yield (w'.heap.size+1)) #[] #[]]++cap:Array AC)=⟨fi first [.func (.yield (w'.heap.size+1)) #[] #[]] cap⟩:=by
     unfold fi;obtain⟨l1⟩:=first;obtain⟨l3⟩:=cap
     simp
    refine⟨w'.heap.size+1,[{target:= .collected w'.heap.size,args:= #[]}],(w'.alloc (.deferred (some []))).alloc (.loop M),{target:= .fn (.func ja) cap,args:=first++ #[.func (.yield (w'.heap.size+1)) #[] #[]]},(w'.alloc (.deferred (some []))).alloc (.loop M),ja,
     ⟨fi first [.func (.yield (w'.heap.size+1)) #[] #[]] cap⟩,(w'.alloc (.deferred (some []))).alloc (.loop M),run_enterLoop_outer _ _ _ _ _,?_,λ_ _=>trivial,?_,by simp[WF,Dl],?_⟩
    .simp only[resolve,U,Deferred.ofValue,B1,H2,H4,H5];rfl
    .simp only[invoke];rw[aaW];exact uF Dw
    .refine(kO (n:=0 - 1)).2 (f.mono λe w4 ⟨v,he,st,pd,rU,EW,B⟩=>?_);subst he;have Fu:=Gd (P:=P) rU EW;have q:Fit S #[] N (marks (w'.heap.size::D)) env {a with defers:=[{target:= .collected w'.heap.size,args:= #[]}]++a.defers}:=
      ⟨d.off,d.size,by simp[marks,d.rH],d.yes,d.no,d.Fc,d.B9⟩
     refine⟨pd, _,Fu,?_⟩
     match pd,B with
     |none,B=>exact⟨env, _, _,B,i,q,Ext.refl _⟩
     |some (.exit id),B=>exact wpIn_exit ⟨env, _, _,B,i,q,Ext.refl _⟩
     |some .ret,B=>exact wpIn_ret ⟨env, _, _,B,i,q,Ext.refl _⟩
   .exact AE h
  .exact AE h
 | _=>intro S env D a w w' Kn Kx Kr j i d h l;exact Bp (C:=C) (b_:=b_) j i d h l
def Dp (P:AT) (w:A2):List ResultVar->List cb->(List AC->Prop)->Prop
 |[], _,K=>K []
 | .tmp t::r,env,K=>match cm env t with
   |some e=>Dp P w r env (λl=>K (e.v::l))
   |none=>False
 | .cell t ty::r,env,K=>match cm env t with
   |some e=>match e.v,xM P ty,P.info? ty with
    | .pointer p,some el,some i=>if qJ el i.size=true then False else ag w none p el (λx=>Dp P w r env (λl=>K (el.g9 x::l)))
    | _, _, _=>False
   |none=>False
def SY (s:Sh) (Post:s.T->A2->Prop) (w:A2) (l:List AC):Prop:=
 match s.proj (Ji l) with
 |some x=>Post x w
 |none=>False
def byD (D:List Nat) (x:Prop) (y:Nat->List Nat->Prop):Prop:=match D with
 |[]=>x
 |r::D=>y r D
def Ns (s:Sh) (rs:List ResultVar) (Post:s.T->A2->Prop):rI:=λenv D w=>byD D (ak w (λw1=>Dp P w1 rs env (SY s Post w1)))
 (λr D=>tq (r::D) w (λw1=>Dp P w1 rs env (SY s Post w1)))
def bO (C:fa P) (b_:Nat->aW) (f:B3) (args:List AC) (w:A2) (Post:(vw C f).T->A2->Prop):Prop:=
 match P.funcs[f]? with
 |none=>False
 |some fn=>match fn.body with
  |none=>False
  |some c=>
   if args.length<=fn.ntmps then MA C b_ fn.ntmps c (kF args 0) [] w (Ns (P:=P) (vw C f) fn.results.toList Post) (λ_ _ _ _=>False) (Ns (P:=P) (vw C f) fn.results.toList Post) else False
theorem zt {tmps:Array AC} {w:A2}: ∀{l:List ResultVar} {env:List cb} {K:List AC->Prop},Dp P w l env K->(∀t e,cm env t=some e->tmps[t]? =some e.v)->
 ∃vs,(l.mapM (oy tmps)).run P w= .ok vs w/\K vs
 |[], _, _,h, _=>⟨[],by simp,h⟩
 | .tmp t::r,env,K,h,hv=>by
   simp only[Dp] at h;split at h
   .rename_i e a;have ⟨vs,fL,b⟩:=zt h hv
    simp_all[oy]
   .exact AE h
 | .cell t ty::r,env,K,h,hv=>by
   simp only[Dp] at h;split at h
   .rename_i e a;split at h
    .rename_i p el i d f hi;split at h
     .exact AE h
     .rename_i g;have ⟨x,c,j⟩:=h;have ⟨vs,fL,b⟩:=zt j hv;refine⟨el.g9 x::vs,?_,b⟩;have k: ∃a0,p=some a0:=by cases el<;>(have ⟨a0,h0, _⟩:=c;exact⟨a0,h0⟩)
      obtain⟨a0,rfl⟩:=k;have m:=uc (P:=P) f hi g c;have n:tmps.getD t undef= .pointer (some a0):=by simp[hv t e a,d]
      simp only[List.mapM_cons,AU,oy,n,asAddr,B1,AZ,m,fL]
    .exact AE h
   .exact AE h
theorem uH {fn:Func} {tmps:Array AC} {R:Ending->A2->Prop}: ∀(D:List Nat) (w:A2),Dz D w->(∃v,(results fn tmps).run P (nF D w)= .ok v (nF D w)/\R (.returned v) (nF D w))->
 LeavesInM (WF none) 0 P fn tmps R (marks D) .returning w
 |[],w, _,h=>h
 |r::D,w,a,h=>⟨by simp,.inl ⟨r, _,rfl,run_takeDeferred a.1,uH D _ a.2 h⟩⟩
theorem aQ {C:fa P} {b_:Nat->aW} {f:B3} {args:List AC} {w:A2} {Post:(vw C f).T->A2->Prop} (h:bO C b_ f args w Post):aC P f (vw C f) args w Post:=by
 unfold bO at h;split at h
 .exact AE h
 .rename_i fn s;split at h
  .exact AE h
  .rename_i c hb;split at h
   .rename_i G;have g:plain (kF args 0):=λe a=>sY a;have nil: ∀(o:Array Oper) (m:Array AC),lf o m []:=λo m x d=>by cases d
    have y:Fit (λ_=>none) #[] fn.ntmps (marks []) (kF args 0) {tmps:=(⟨args⟩:Array AC)++H9 (fn.ntmps - args.length) undef,defers:=[]}:=by
     refine⟨(λ_ _ d=>by cases d),(by simp;omega),rfl,λt e a _=>?_,λt e a z=>absurd (by rw[(g e (cg a)).1];exact nil _ _) z,(λe a=>by rw[(g e a).2];exact(g e a).1),λe a b hb=>by rw[zp a] at hb;cases hb⟩;have ⟨_,hv, _⟩:=qt a
     grind
    have A:=XX (C:=C) (b_:=b_) c (λ_=>none) _ _ _ w w _ _ _ (λ_ _=>rfl) g y h (Ext.refl w);refine(kO (r:=none) (n:=0)).1 (callsIn_of_wp_marks s hb trivial (wpIn_mono A ?_));have fin: ∀a1 w1,(∃env D l,Ns (P:=P) (vw C f) fn.results.toList Post env D l/\plain env/\Fit (λ_=>none) #[] fn.ntmps (marks D) env a1/\Ext l w1)->
     LeavesInM (WF none) 0 P fn a1.tmps (λe w'=> ∃x:(vw C f).T,e= .returned ((vw C f).g9 x)/\Post x w') a1.defers .returning w1:=by
     intro a1 w1 ⟨env,D,l,i,B,p,q⟩;have ⟨E,F⟩:Dz D w1/\Dp P (nF D w1) fn.results.toList env (SY (vw C f) Post (nF D w1)):=by
      cases D with
      |nil=>exact⟨trivial,i w1 q⟩
      |cons r D=>exact i w1 q
     rw[p.rH];refine uH D w1 E ?_;have ⟨vs,fL,j⟩:=zt F (λt e a=>p.yes t e a (by rw[(B e (cg a)).1];exact nil _ _));unfold SY at j;split at j
     .rename_i x d;refine⟨Ji vs,?_,x,by rw[Sh.jj d],j⟩;have h2:(fn.results.mapM (oy a1.tmps)).run P (nF D w1)= .ok ⟨vs⟩ (nF D w1):=by
       rw[In,Sem.run_map,fL];rfl
      have e:results fn a1.tmps=(do
       let vs<-fn.results.mapM (oy a1.tmps)
       pure _):=rfl
      rw[e,AU,h2];simp only[AZ,B1]
      match vs with
      |[]=>rfl
      |[v]=>rfl
      |v::u::r=>simp[Ji]
     .exact AE j
    intro e a1 w1 k;cases e with
    |normal=>exact fin a1 w1 k
    |ret=>exact fin a1 w1 k
    |exit id=>have ⟨_, _, _,i, _⟩:=k;exact AE i
    | _=>exact AE k
   .exact AE h
theorem putObj_size (w:A2) (b:Nat) (o:Obj):(w.putObj b o).heap.size=w.heap.size:=by simp
theorem gM {w:A2} {b k:Nat} {o:Obj} (h:k≠b):(w.putObj b o).heap[k]? =w.heap[k]? :=by
 simp[FB,Ne.symm h]
theorem k7 {w:A2} {b:Nat} {o:Obj} (h:b<w.heap.size):(w.putObj b o).heap[b]? =some o:=by
 simp[FB,h]
theorem Ge {w:A2} {a:AG} {k:Nat} {v:AC} (h:k≠a.block):(w.setCell a v).heap[k]? =w.heap[k]? :=by
 simp[Jj,NB,Ne.symm h]
theorem AG.vS (a:AG) (n:Nat):(a.add n).block=a.block:=by
 unfold Addr.add;grind
theorem sZ: ∀(vs:List AC) (w:A2) (a:AG) (i:Nat),(putAt w a vs i).heap.size=w.heap.size
 |[], _, _, _=>rfl
 |v::r,w,a,i=>by simp[putAt,sZ]
theorem nU: ∀(vs:List AC) (w:A2) (a:AG) (i k:Nat),k≠a.block->(putAt w a vs i).heap[k]? =w.heap[k]?
 |[], _, _, _, _, _=>rfl
 |v::r,w,a,i,k,h=>by
  simp[putAt];rw[nU r _ a _ k h,Ge (by rw[AG.vS];omega)]
theorem Below.putAt {n:Nat} {w w':A2} (h:Below n w w') (a:AG) (c:n<=a.block): ∀(vs:List AC) (i:Nat),Below n w (putAt w' a vs i):=by
 intro vs i
 induction vs generalizing w' i with
 |nil=>exact h
 |cons v r b=>
  exact b (h.setCell (by rw[AG.vS];omega) v) _
theorem ED {n:Nat} {w w':A2} (h:Below n w w') {b:Nat} (hb:n<=b) (o:Obj):Below n w (w'.putObj b o):=
 ⟨h.os,h.tape,h.output,by rw[putObj_size];exact h.size,λk a=>by rw[gM (by omega)];exact h.block k a⟩
theorem Ext.jb {w w':A2} (h:Ext w w') {a:AG} (b:w.heap.size<=a.block) (vs:List AC):Ext w (jb w' (some a) vs):=Below.putAt h a b vs 0
theorem Ext.putObj {w w':A2} (h:Ext w w') {b:Nat} (hb:w.heap.size<=b) (o:Obj):Ext w (w'.putObj b o):=ED h hb o
theorem Ext.eA {w w':A2} (h:Ext w w') (o:Obj):Ext w (w'.alloc o):=h.trans (Ext.alloc w' o)
def bq (w:A2) (b:Nat) (l:List AC):Prop:= ∃t,w.heap[b]? =some (.cells ⟨l⟩ t (0,0))
theorem bq.lt {w:A2} {b:Nat} {l:List AC} (h:bq w b l):b<w.heap.size:=by
 obtain⟨⟩:=h;grind
theorem bq.ext {w w':A2} {b:Nat} {l:List AC} (h:bq w b l) (k:Ext w w'):bq w' b l:=by
 have ⟨t,h⟩:=h;exact⟨t,k.obj h⟩
theorem mA (w:A2) (o:Obj):(w.alloc o).heap.size=w.heap.size+1:=by simp
theorem iy (w:A2) (o:Obj):(w.alloc o).heap[w.heap.size]? =some o:=by
 show(w.heap.push o)[w.heap.size]? =some o;simp
theorem bq.new (w:A2) (l:List AC) (t:AR):bq (w.alloc (.cells ⟨l⟩ t)) w.heap.size l:=⟨t,iy _ _⟩
theorem bq.same {w w':A2} {b:Nat} {l:List AC} (h:bq w b l) (k:w'.heap[b]? =w.heap[b]?):bq w' b l:=by
 obtain⟨t⟩:=h;exact⟨t,by grind⟩
theorem bq.Nt {w:A2} {b:Nat} {l:List AC} (h:bq w b l) {a:AG} (c:b≠a.block) (vs:List AC):bq (jb w (some a) vs) b l:=
 h.same (nU vs w a 0 b c)
theorem bq.putObj {w:A2} {b:Nat} {l:List AC} (h:bq w b l) {k:Nat} (a:b≠k) (o:Obj):bq (w.putObj k o) b l:=h.same (gM a)
theorem MX (b o n:Nat):Addr.add ⟨b,o,none⟩ n=⟨b,o+n,none⟩:=by
 unfold Addr.add;simp
theorem aS (b o n:Nat):ad (some ⟨b,o,none⟩) n=some ⟨b,o+n,none⟩:=by simp[ad,MX]
theorem bq.cell {w:A2} {b:Nat} {l:List AC} (h:bq w b l) (o:Nat):w.cell? ⟨b,o,none⟩=l[o]? :=by
 have ⟨t,h⟩:=h;simp[Jf,h]
theorem bq.cellAt {w:A2} {b:Nat} {l:List AC} (h:bq w b l) (o n:Nat):w.cell? (Addr.add ⟨b,o,none⟩ n)=l[o+n]? :=by rw[MX,h.cell]
theorem bq.Ju {w:A2} {b:Nat} {l:List AC} (h:bq w b l) (a:AG) (c:a.block=b):w.frozen? a=false:=by
 have ⟨t,h⟩:=h;simp[World.frozen?,c,h]
theorem bq.mF {w:A2} {b o:Nat} {l:List AC} (h:bq w b l) {s:Sc} {x:s.T} (a:l[o]? =some (s.g9 x)):bP w (some ⟨b,o,none⟩) (.one s) x:=
 ⟨_,rfl,by rw[h.cell];omega⟩
theorem bq.SA {w:A2} {b o:Nat} {l:List AC} (h:bq w b l) {ss:List Sc} {x:g_ ss} (a: ∀i,i<ss.length->l[o+i]? =(a6 ss x)[i]?):bP w (some ⟨b,o,none⟩) (.agg ss) x:=
 ⟨_,rfl,λhi=>by rw[h.cellAt];grind⟩
theorem bq.rS {w:A2} {b o n:Nat} {l vs:List AC} (h:bq w b l) (a:vs.length=n) (c: ∀i,i<n->l[o+i]? =vs[i]?):rS w (some ⟨b,o,none⟩) n vs:=
 ⟨a,λhi=>by rw[h.cellAt];grind⟩
theorem bq.st {w:A2} {b o n:Nat} {l:List AC} (h:bq w b l) (a:o+n<=l.length):SV w (some ⟨b,o,none⟩) n:=
 ⟨_,rfl,λi hi=>⟨by rw[h.cellAt,Ml (by omega)];rfl,h.Ju _ (AG.vS _ _)⟩⟩
theorem CU {w:A2} {b o:Nat} {l:List AC} {t:AR} (h:w.heap[b]? =some (.cells ⟨l⟩ t (0,0))) (v:AC):(w.setCell ⟨b,o,none⟩ v).heap[b]? =some (.cells ⟨l.set o v⟩ t (0,0)):=by
 simp only[Jj,NB,h];simp
theorem z7: ∀(vs:List AC) (w:A2) (b o i:Nat) (l:List AC) (t:AR),w.heap[b]? =some (.cells ⟨l⟩ t (0,0))->o+i+vs.length<=l.length->
 (putAt w ⟨b,o,none⟩ vs i).heap[b]? =some (.cells ⟨l.take (o+i)++(vs++l.drop (o+i+vs.length))⟩ t (0,0))
 |[],w,b,o,i,l,t,h, _=>by simp[putAt,h]
 |v::r,w,b,o,i,l,t,h,c=>by
  simp_all
  simp only[putAt,MX];rw[z7 r _ b o (i+1) (l.set (o+i) v) t (CU h v) (by simp;omega)];congr 3;have a:(l.set (o+i) v).take (o+(i+1))=l.take (o+i)++[v]:=by
   grind[MM,MV]
  have h2:(l.set (o+i) v).drop (o+(i+1)+r.length)=l.drop (o+i+(r.length+1)):=by
   grind[MW]
  rw[a,h2];simp
theorem bq.put {w:A2} {b o:Nat} {l:List AC} (h:bq w b l) (vs:List AC) (a:o+vs.length<=l.length):bq (jb w (some ⟨b,o,none⟩) vs) b (l.take o++(vs++l.drop (o+vs.length))):=by
 have ⟨t,h⟩:=h;exact⟨t,z7 vs w b o 0 l t h a⟩
theorem dt.lt {w:A2} {l:Nat} {rec:Loop} {st:LoopState} {a:Option Code} (h:dt w l rec st a):l<w.heap.size:=(DC.1 h).1
theorem dt.ext {w w':A2} {l:Nat} {rec:Loop} {st:LoopState} {a:Option Code} (h:dt w l rec st a) (k:Ext w w'):dt w' l rec st a:=k.obj h
theorem dt.same {w w':A2} {l:Nat} {rec:Loop} {st:LoopState} {a:Option Code} (h:dt w l rec st a) (k:w'.heap[l]? =w.heap[l]?):dt w' l rec st a:=by grind[dt]
theorem dt.put {w:A2} {l:Nat} {rec:Loop} {st:LoopState} {c:Option Code} (h:dt w l rec st c) (a:LoopState) (b:Option Code):dt (tx w l rec a b) l rec a b:=
 k7 h.lt
theorem jl {w:A2} {p:Option AG} {ss:List Sc} {x:g_ ss} {j:Nat} {s:Sc} {y:s.T} (h:bP w p (.agg ss) x) (b:j<ss.length) (c:(a6 ss x)[j]? =some (s.g9 y)):bP w (ad p j) (.one s) y:=by
 obtain⟨a,rfl,h⟩:=h;exact⟨a.add j,rfl,by grind⟩
theorem kJ {p:Option AG} (h:p.isSome=true) (n:Nat):(ad p n).isSome=true:=by
 cases p
 .grind
 rfl
def cellsOf:(e:El)->e.T->List AC
 | .one s,x=>[s.g9 x]
 | .agg l,x=>a6 l x
def aM:El->Nat
 | .one _=>1
 | .agg l=>l.length
theorem dT (e:El) (x:e.T):(cellsOf e x).length=aM e:=by
 cases e with
 |one=>rfl
 |agg l=>exact cG l x
def Sl (w:A2) (e:El) (p:Option AG) (xs:List e.T):Prop:= ∀i x,xs[i]? =some x->p.isSome=true/\bP w (ad p (i*aM e)) e x
theorem Sl.ext {w w':A2} {e:El} {p:Option AG} {xs:List e.T} (h:Sl w e p xs) (k:Ext w w'):Sl w' e p xs:=
 λi x a=>⟨(h i x a).1,zl k (h i x a).2⟩
def flat (e:El) (xs:List e.T):List AC:=xs.flatMap (cellsOf e)
theorem aK (e:El) (xs:List e.T):(flat e xs).length=xs.length*aM e:=by
 induction xs with
 |nil
 |cons=>simp only[flat,Mx,Dx,dT] at*;grind
theorem k8 (e:El) (xs ys:List e.T):flat e (xs++ys)=flat e xs++flat e ys:=by simp[flat]
theorem zu (e:El): ∀(xs:List e.T) (i:Nat) (x:e.T),xs[i]? =some x-> ∀j,j<aM e->(flat e xs)[i*aM e+j]? =(cellsOf e x)[j]?
 |y::r,0,x,h,j,a=>by
  simp_all[flat,List.getElem?_append_left,dT]
 |y::r,i+1,x,h,j,a=>by
  have b:=zu e r i x ‹_› j a;simp[flat,Mx];rw[List.getElem?_append_right (by rw[dT,FJ];omega),dT];rw[show(i+1)*aM e+j - aM e=i*aM e+j by grind];exact b
theorem Sl.jR {w:A2} {e:El} {b:Nat} {l:List AC} {xs:List e.T} (h:bq w b l) (d:l.take (xs.length*aM e)=flat e xs):Sl w e (some ⟨b,0,none⟩) xs:=by
 intro i x c;have hi:=(List.getElem?_eq_some_iff.1 c).1;have f: ∀j,j<aM e->i*aM e+j<xs.length*aM e:=λj a=>by
  have:(i+1)*aM e<=xs.length*aM e:=P2 _ hi
  grind
 have hc: ∀j,j<aM e->l[i*aM e+j]? =(cellsOf e x)[j]? :=λj a=>by
  rw[<-zu e xs i x c j a, <-d,List.getElem?_take_of_lt (f j a)]
 simp;rw[aS,Nat.zero_add];cases e with
 |one=>exact h.mF (by simp_all[aM,cellsOf])
 |agg ss=>exact h.SA ‹_›
def kx (w0 w:A2) (e:El) (s:Option AG×Nat×Nat) (xs:List e.T):Prop:=
 s.2.1=xs.length/\xs.length<=s.2.2/\
 ((s.1=none/\xs=[]/\s.2.2=0)\/ ∃b l,s.1=some ⟨b,0,none⟩/\w0.heap.size<=b/\bq w b l/\l.length=s.2.2*aM e/\l.take (xs.length*aM e)=flat e xs)
theorem kx.nil (w0 w:A2) (e:El):kx w0 w e (none,0,0) []:=⟨rfl,by simp⟩
theorem kx.ext {w0 w w':A2} {e:El} {s:Option AG×Nat×Nat} {xs:List e.T} (h:kx w0 w e s xs) (k:Ext w w'):kx w0 w' e s xs:=by
 have ⟨c,h2,a⟩:=h;refine⟨c,h2,?_⟩;rcases a with a|⟨b,l,a1,d,f,g⟩
 .grind
 .exact .inr ⟨b,l,a1,d,f.ext k,g⟩
theorem kx.same {w0 w w':A2} {e:El} {s:Option AG×Nat×Nat} {xs:List e.T} (h:kx w0 w e s xs) (k: ∀a,s.1=some a->w'.heap[a.block]? =w.heap[a.block]?):kx w0 w' e s xs:=by
 have ⟨d,h2,c⟩:=h;refine⟨d,h2,?_⟩;rcases c with c|⟨b,l,a1,f,g,i⟩
 .grind
 .exact .inr ⟨b,l,a1,f,g.same (k _ a1),i⟩
theorem kx.sl {w0 w:A2} {e:El} {s:Option AG×Nat×Nat} {xs:List e.T} (h:kx w0 w e s xs):Sl w e s.1 xs:=by
 have ⟨f,h2,a⟩:=h;rcases a with ⟨_,g, _⟩|⟨b,l,a1,i,c,j,d⟩
 .intro;grind
 .rw[a1];exact Sl.jR c d
theorem kx.len {w0 w:A2} {e:El} {s:Option AG×Nat×Nat} {xs:List e.T} (h:kx w0 w e s xs):s.2.1=xs.length:=h.1
def lx:El->Bool
 | .one s=>s != .func
 | .agg l=>l.all (· != .func)
theorem z8 (s:Sc) (x:s.T) (h:(s != .func)=true):(s.g9 x).oneCell'=true:=by
 cases s<;>first|rfl|grind
theorem uI: ∀(ss:List Sc) (x:g_ ss),ss.all (· != .func)=true->(a6 ss x).all (·.oneCell')=true
 |[], _, _=>rfl
 |s::r,x,h=>by
  simp only[Hr,B5] at h;simp[a6,uI r _ h.2,z8 s _ h.1]
theorem EE (e:El) (x:e.T) (h:lx e=true):(cellsOf e x).all (·.oneCell')=true:=by
 cases e with
 |one s=>simp[cellsOf,z8 s x h]
 |agg l=>exact uI l x h
theorem kR (e:El) (xs:List e.T) (h:lx e=true):(flat e xs).all (·.oneCell')=true:=by grind[flat,EE]
theorem mB {w0 w:A2} {e:El} {s x:Option AG×Nat×Nat} {xs ys:List e.T} {t:AR} {bytes:Nat} {z:Array AC} {R:Option AG×Nat×Nat->A2->Prop}
 (h:kx w0 w e s xs) (h0:Ext w0 w) (A:lx e=true) (f:x.2.1=ys.length) (B:rS w x.1 (x.2.1*aM e) (flat e ys)) (C:z.size=aM e) (hb:(xs.length+ys.length)*bytes<=140737488355328)
 (k: ∀s' w',kx w0 w' e s' (xs++ys)->Ext w0 w'->(∀b,b<w.heap.size->(∀a,s.1=some a->b≠a.block)->w'.heap[b]? =w.heap[b]?)->w.heap.size<=w'.heap.size->
  ((∃a,s'.1=some a/\s.1=some a)\/(∃a,s'.1=some a/\w.heap.size<=a.block)\/s'=(s.1,s.2.1,s.2.2))->R s' w'):
 nm w t (aM e) bytes z s x R:=by
 have ⟨d,h2,q⟩:=h;have p:=aK e xs;have m:=aK e ys;have D:rS w s.1 (s.2.1*aM e) (flat e xs):=by
  rcases q with ⟨a1,j,g⟩|⟨b,l,a1,j,g,r,u⟩
  .rw[a1,j];rfl
  .rw[a1];refine g.rS (by rw[p,d]) λi hi=>?_
   grind
 refine⟨flat e xs,flat e ys,D,B,λn=>?_,λn=>⟨growslice_fits n (by rw[d,f];exact hb),λc hc=>?_⟩⟩
 .rcases q with ⟨a1,j,g⟩|⟨b,l,a1,j,g,r,u⟩
  .rw[g] at n;have E:ys=[]:=List.eq_nil_of_length_eq_zero (by omega);subst E;subst j;refine⟨.inl rfl,?_⟩;have F:s.2.1=0:=d;have v:x.2.1=0:=f;rw[a1];refine k _ _ ⟨by simp[F,v],Nat.zero_le _,.inl ⟨rfl,rfl,g⟩⟩ ?_ (λ_ _ _=>rfl) (Fk _) (.inr (.inr ?_))
   .exact h0
   .rw[a1,v];rfl
  .have y:xs.length*aM e+ys.length*aM e<=l.length:=by
    rw[r, <-FJ];exact P2 _ (by rw[<-d, <-f];exact n)
   have G:s.1.map (·.add (s.2.1*aM e))=some ⟨b,xs.length*aM e,none⟩:=by
    rw[a1,d];simp[MX]
   rw[G];refine⟨.inr ⟨g.st (by rw[m];exact y),kR e ys A⟩,?_⟩;have H:=g.put (o:=xs.length*aM e) (flat e ys) (by rw[m];exact y);refine k _ _ ⟨by simp[d,f],by simp only[Dx];rw[<-d, <-f];exact n,.inr ⟨b, _,a1,j,H,?_,?_⟩⟩ (h0.jb (a:=⟨b, _,none⟩) j _) (λI L J=>nU (flat e ys) w ⟨b, _,none⟩ 0 I (J ⟨b,0,none⟩ a1)) (Nat.le_of_eq (sZ _ _ _ _).symm) (.inl ⟨_,a1,a1⟩)
   grind
   .rw[u];have:(xs++ys).length*aM e=(flat e xs++flat e ys).length:=by simp only[Dx,p,m,FJ]
    rw[this, <-List.append_assoc,k8];exact My rfl
 .have M:w.drew.heap.size=w.heap.size:=rfl;refine k _ _ ⟨by simp[d,f],by simp only[Dx];rw[<-d, <-f];exact hc,.inr ⟨w.heap.size,flat e xs++flat e ys++(Fh z (c - (s.2.1+x.2.1))).toList,rfl,h0.size,?_,?_,?_⟩⟩ ((h0.trans (Ext.drew w)).trans (Ext.alloc _ _)) (λb hb _=>?_) ?_ (.inr (.inl ⟨_,rfl,Fk _⟩))
  .have K:(IR (flat e xs)++IR (flat e ys)++Fh z (c - (s.2.1+x.2.1)))=⟨flat e xs++flat e ys++(Fh z (c - (s.2.1+x.2.1))).toList⟩:=by
    apply Array.ext';simp
   rw[K];exact bq.new w.drew _ _
  .simp only[Dx,p,m,Fh,Array.length_toList,Array.size_map,Array.size_range,C];rw[<-FJ, <-d, <-f, <-FJ];congr 1;omega
  .have:(xs++ys).length*aM e=(flat e xs++flat e ys).length:=by simp only[Dx,p,m,FJ]
   rw[this,k8];exact My rfl
  .have:w.drew.heap=w.heap:=rfl;rw[Ext.block (Ext.alloc w.drew _) (by rw[this];exact hb),this]
  .rw[mA];exact Nat.le_succ _
theorem OK {w0 w c w1:A2} {e:El} {s:Option AG×Nat×Nat} {xs:List e.T} {x:e.T} {t:AR} {bytes:Nat} {z:Array AC} {R:Option AG×Nat×Nat->A2->Prop}
 (h:kx w0 w e s xs) (h0:Ext w0 w) (g:lx e=true) (i:Ext w c) (d:Ext (c.alloc (.cells ⟨cellsOf e x⟩ t)) w1) (j:z.size=aM e) (hb:(xs.length+1)*bytes<=140737488355328)
 (k: ∀s' w',kx w0 w' e s' (xs++[x])->Ext w0 w'->(∀b,b<w.heap.size->(∀a,s.1=some a->b≠a.block)->w'.heap[b]? =w.heap[b]?)->w.heap.size<=w'.heap.size->R s' w'):
 nm w1 t (aM e) bytes z s (some ⟨c.heap.size,0,none⟩,1,1) R:=by
 have kk:=(i.trans (Ext.alloc c _)).trans d;have l:=(bq.new c _ _).ext d;refine mB (ys:=[x]) (h.ext kk) (h0.trans kk) g rfl ?_ j hb λs' w' m n o p _=>k s' w' m n (λb f q=>?_) (Nat.le_trans kk.size p)
 .refine l.rS (aK e _) λhi=>?_;simp[flat]
 .rw[o b (P3 f kk.size) q,kk.block f]
def U (b:BitVec 64):Int:=(b.toNat:Int)
def B (x:Int):BitVec 64:=C9 64 x
theorem C6 (b:BitVec 64):B (U b)=b:=by simp[B,U]
theorem aaY {a b:BitVec 64}:U a=U b<->a=b:=by grind[C6]
theorem wrap_u64 (x:Int):Pl.wrap x=x % 18446744073709551616:=rfl
theorem U_B (x:Int):U (B x)=x % 18446744073709551616:=by
 unfold U B;simp
 grind
theorem yz {x:Int} (h:0<=x) (h':x<18446744073709551616):U (B x)=x:=by
 rw[U_B,Int.emod_eq_of_lt h h']
theorem XY (x:Int):Pl.wrap x=U (B x):=by rw[wrap_u64,U_B]
theorem NO (a b:BitVec 64):iF .u64 (U a) (U b)=U (a &&& b):=by
 show U (B (U (B _ &&& B _)))= _;rw[C6,C6,C6]
theorem aaZ (a b:BitVec 64):Zk .u64 (U a) (U b)=U (a ||| b):=by
 show U (B (U (B _ ||| B _)))= _;rw[C6,C6,C6]
theorem Jv (a b:BitVec 64):mV .u64 (U a) (U b)=U (a &&& ~~~ b):=by
 show U (B (U (B _ &&& ~~~ B _)))= _;rw[C6,C6,C6]
theorem XZ (a b:BitVec 64):ay .u64 (U a) (U b)=U (a+b):=rfl
theorem X3 (a b:BitVec 64):dk .u64 (U a) (U b)=U (a*b):=rfl
theorem NP (a:BitVec 64) (n:Int):Di .u64 (U a) n=U (a <<< n.toNat):=by
 unfold Di;rw[wrap_u64];unfold U;rw[M5,P4];show(a.toNat:Int)*2 ^ min _ 64 % _= _;by_cases n.toNat<=64
 grind
 .have b:a.toNat*2 ^ n.toNat % 2 ^ 64=0:=by
   apply Nat.mod_eq_zero_of_dvd;exact Nat.dvd_trans (Nat.pow_dvd_pow 2 (by omega)) (Nat.dvd_mul_left ..)
  grind
theorem NQ (a:BitVec 64) (n:Int):Jg .u64 (U a) n=U (a >>> n.toNat):=by
 unfold U;rw[M6,PP];have e: ∀k,(a.toNat:Int).fdiv (2 ^ k)=(a.toNat / 2 ^ k: ):=λk=>by
  grind
 show(a.toNat:Int).fdiv (2 ^ min _ 64)= _;rw[e];by_cases n.toNat<=64
 grind
 .rw[Nat.min_eq_right (by omega)];have h0:=a.isLt;rw[PS h0,PS (P3 h0 (Nat.pow_le_pow_right (by simp) (by omega)))]
theorem gg {x:Int} (h: -9223372036854775808<=x) (h':x<9223372036854775808):Fz.wrap x=x:=by
 simp only[IntKind.wrap,IntKind.bits,IntKind.signed]
 grind
theorem ao {x y:Int} (h: -9223372036854775808<=x+y) (h':x+y<9223372036854775808):ay .i64 x y=x+y:=gg h h'
theorem aX {x y:Int} (h: -9223372036854775808<=x - y) (h':x - y<9223372036854775808):aR .i64 x y=x - y:=gg h h'
theorem da {x y:Int} (h: -9223372036854775808<=x*y) (h':x*y<9223372036854775808):dk .i64 x y=x*y:=gg h h'
theorem a7 {P:AT} {f:B3} {sh:Sh} {args:List AC} {w:A2} {x:sh.T} (h:aC P f sh args w (λy w'=>y=x/\Ext w w')):
 Calls P f ⟨args⟩ w (λe w'=>e= .returned (sh.g9 x)/\Ext w w'):=
 E4 h (by grind)
abbrev ae (b:Nat):Option AG:=some ⟨b,0,none⟩
abbrev bF:El:= .one .ptr
abbrev aq:El:= .one (.int .i64)
abbrev gZ:El:= .one (.int .u64)
abbrev bX:El:= .one .slice
abbrev cr:El:= .one .bool
abbrev Dq:El:= .one .map
abbrev eJ (w:A2) (a:Option AG) (K:Option AG->Prop):Prop:=ag w none a (.one .ptr) K
abbrev bh (p:Option AG) (n:Nat) (w:A2) (K:Option AG->Prop):Prop:=p.isSome=true/\p.isSome=true/\ag w none (ad p n) (.one .ptr) K
abbrev aN (w:A2) (a:Option AG) (K:Int->Prop):Prop:=ag w none a (.one (.int .i64)) K
abbrev dw (p:Option AG) (n:Nat) (w:A2) (K:Int->Prop):Prop:=p.isSome=true/\p.isSome=true/\ag w none (ad p n) (.one (.int .i64)) K
abbrev bH (w:A2) (a:Option AG) (K:Int->Prop):Prop:=ag w none a (.one (.int .u64)) K
abbrev acR (p:Option AG) (n:Nat) (w:A2) (K:Int->Prop):Prop:=p.isSome=true/\p.isSome=true/\ag w none (ad p n) (.one (.int .u64)) K
abbrev pJ (w:A2) (a:Option AG) (K:Option AG×Nat×Nat->Prop):Prop:=ag w none a (.one .slice) K
abbrev bD (p:Option AG) (n:Nat) (w:A2) (K:Option AG×Nat×Nat->Prop):Prop:=p.isSome=true/\p.isSome=true/\ag w none (ad p n) (.one .slice) K
abbrev jc (w:A2) (a:Option AG) (K:Bool->Prop):Prop:=ag w none a (.one .bool) K
abbrev tA (p:Option AG) (n:Nat) (w:A2) (K:Bool->Prop):Prop:=p.isSome=true/\p.isSome=true/\ag w none (ad p n) (.one .bool) K
abbrev acS (w:A2) (a:Option AG) (K:Option Nat->Prop):Prop:=ag w none a (.one .map) K
abbrev Fv (p:Option AG) (n:Nat) (w:A2) (K:Option Nat->Prop):Prop:=p.isSome=true/\p.isSome=true/\ag w none (ad p n) (.one .map) K
abbrev cT:El:= .agg [.int .u64,.int .i64]
abbrev dh:El:= .agg [.int .i64,.int .i64,.int .i64,.int .i64]
abbrev vB:El:= .agg [.int .i64,.int .u64,.int .u64,.int .u64]
abbrev AM:El:= .agg [.int .i64,.int .i64,.int .i64]
abbrev acT:El:= .agg [.int .i64,.int .i64,.int .i64,.int .i64,.int .u64,.int .u64,.int .u64,.int .u64,.int .i64]
abbrev fp:El:= .agg [.bool,.int .i64,.bool,.int .i64]
theorem ar {c:Prop} {h:Decidable c} (a: ¬c) {α:Sort _} {t e:α}:ite c t e=e:=if_neg a
theorem az {c:Prop} {h:Decidable c} (hc:c) {α:Sort _} {t e:α}:ite c t e=t:=if_pos hc
abbrev aa (x:Int):AC:= .int .i64 x
abbrev aG:Sc:= .int .i64
abbrev eh:Sc:= .int .u64
abbrev aT:Sh:= .el (.one (.int .i64))
abbrev gD:Sh:= .el (.one .bool)
abbrev oq:Sh:= .el (.one .ptr)
abbrev jJ:Sh:= .el (.agg [.int .u64,.int .i64])
abbrev di:Sh:= .el (.one .slice)
abbrev av (x:Int):AC:= .int .u64 x
abbrev ah (x:Option AG):AC:= .pointer x
end Go.RX
namespace Go.Proofs.YteeflilbnoknnaaGreat
set_option maxRecDepth 100000
open Go.RX
def c8 (lo sz:Int):Bool:=decide (lo>=0)&&decide (lo<64)&&decide (sz>=1)&&decide (sz<=64 - lo)
theorem iM {lo sz:Int}:c8 lo sz=true<->0<=lo/\lo<64/\1<=sz/\sz<=64 - lo:=by grind[c8]
def Mk (lo n:Nat):BitVec 64:=(M9 64 >>> (64 - n)) <<< lo
theorem ze {lo n j:Nat} (a:n<=64):(Mk lo n).getLsbD j=(decide (lo<=j)&&decide (j<lo+n)&&decide (j<64)):=by
 unfold Mk;rw[MD,MF,BitVec.getLsbD_allOnes]
 grind
def gT (lo sz:Int):BitVec 64:=if c8 lo sz=true then Mk lo.toNat sz.toNat else 0#64
def ew (w:BitVec 64) (lo sz:Int):BitVec 64:=(w &&& gT lo sz) >>> (Dj 0 (lL lo 63)).toNat
def tB (w:BitVec 64) (lo sz:Int) (v:BitVec 64):BitVec 64:=if gT lo sz=0#64 then w else w &&& ~~~ gT lo sz ||| v <<< lo.toNat &&& gT lo sz
theorem Gf {lo sz:Int} (h:c8 lo sz=true):Di .u64 (Jg .u64 18446744073709551615 (aR .i64 64 sz)) lo=U (gT lo sz):=by
 have h':=iM.1 h;rw[show 18446744073709551615=U (M9 _) from rfl,NQ,NP,aX (by omega) (by omega)];unfold gT Mk
 grind
theorem OL {lo sz:Int} (h:c8 lo sz=true):gT lo sz≠0#64:=by
 intro h0;have h':=iM.1 h;have:=congrArg (λb=>b.getLsbD lo.toNat) h0;simp[gT,if_pos h] at this;rw[ze (by omega)] at this
 grind
theorem s6 {lo sz:Int} (h:c8 lo sz=false):gT lo sz=0#64:=by grind[gT]
def yA (i:Nat):BitVec 64:=1#64 <<< i
theorem DR (i j:Nat):(yA i).getLsbD j=(decide (i=j)&&decide (j<64)):=by
 unfold yA;rw[MD,BitVec.getLsbD_one];by_cases a:j<64<;>by_cases h2:i=j<;>simp[a,h2]<;>omega
theorem Jw (i:Nat):2#64*yA i=yA (i+1):=by
 unfold yA;rw[BitVec.shiftLeft_add];apply BitVec.eq_of_toNat_eq;simp[M5,P4];omega
theorem half (w:BitVec 64):pT .u64 (U w) 2=U (w >>> 1):=by
 unfold pT;rw[wrap_u64];unfold U;rw[M6,PP,Int.tdiv_eq_ediv_of_nonneg (by omega)];have:=w.isLt;omega
theorem odd (w:BitVec 64):(gj (U w) 2==1)=w.getLsbD 0:=by
 unfold gj U;rw[Int.tmod_eq_emod_of_nonneg (by omega),BitVec.getLsbD,Nat.testBit_zero];have:((w.toNat:Int) % 2==1)=decide (w.toNat % 2=1):=by
  by_cases h:w.toNat % 2=1<;>simp[h]<;>omega
 rw[this]
theorem Tm (lo:Nat):Mk lo 0=0#64:=by
 apply Fe;intro j a;rw[ze (by omega)];simp;omega
def Gk (w:BitVec 64) (lo k:Nat):BitVec 64:=(w >>> lo) &&& Mk 0 k
theorem Tn (w:BitVec 64) (lo:Nat):Gk w lo 0=0#64:=by simp[Gk,Tm]
theorem sO {w:BitVec 64} {lo k j:Nat} (a:k<=64):(Gk w lo k).getLsbD j=(w.getLsbD (lo+j)&&decide (j<k)):=by
 unfold Gk;rw[Ff,ze a]
 grind
theorem X4 {w:BitVec 64} {lo k:Nat} (h:lo+k<64) (hb:w.getLsbD (lo+k)=true):Gk w lo k+yA k=Gk w lo (k+1):=by
 rw[BitVec.add_eq_or_of_and_eq_zero]
 .apply Fe;intro j b;rw[MG,sO (by omega),sO (by omega),DR];simp only[b,decide_true,Bool.and_true];by_cases a:k=j
  .subst a;simp[hb]
  .have:(j<k+1)=(j<k):=by apply propext;omega
   simp[a,this]
 .apply Fe;intro j b;rw[Ff,sO (by omega),DR];by_cases a:k=j<;>simp[a]
theorem To {w:BitVec 64} {lo k:Nat} (h:lo+k<64) (hb:w.getLsbD (lo+k)=false):Gk w lo k=Gk w lo (k+1):=by
 apply Fe;intro j b;rw[sO (by omega),sO (by omega)];by_cases a:k=j
 .subst a;simp[hb]
 .have:(j<k+1)=(j<k):=by apply propext;omega
  simp[this]
def Pk (w v:BitVec 64) (lo k:Nat):BitVec 64:=w &&& ~~~ Mk lo k ||| v <<< lo &&& Mk lo k
theorem X5 {w v:BitVec 64} {lo k j:Nat} (a:k<=64) (b:j<64):(Pk w v lo k).getLsbD j=if lo<=j/\j<lo+k then v.getLsbD (j - lo) else w.getLsbD j:=by
 unfold Pk;rw[MG,Ff,Ff,BitVec.getLsbD_not,ze a]
 grind
theorem Ik {w:BitVec 64} {lo sz:Int} (h:c8 lo sz=true):ew w lo sz=Gk w lo.toNat sz.toNat:=by
 have h':=iM.1 h;unfold ew gT;rw[if_pos h];have e:(Dj 0 (lL lo 63)).toNat=lo.toNat:=by unfold Dj lL;omega
 apply Fe;intro;rw[sO (by omega),MF,Ff,ze (by omega)]
 grind
theorem Jx {w:BitVec 64} {lo sz:Int} (h:c8 lo sz=false):ew w lo sz=0#64:=by
 unfold ew;rw[s6 h];simp
theorem Tp {w v:BitVec 64} {lo sz:Int} (h:c8 lo sz=true):tB w lo sz v=Pk w v lo.toNat sz.toNat:=by
 unfold tB Pk;rw[if_neg (OL h)];simp[gT,if_pos h]
end Go.Proofs.YteeflilbnoknnaaGreat
