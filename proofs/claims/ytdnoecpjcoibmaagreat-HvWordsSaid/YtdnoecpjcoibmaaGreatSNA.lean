import Derived.CallsIn
import Derived.OrdersIn
import Derived.Below
import Derived.Laws.Sem
import Derived.KernelRfl
import Derived.Laws.StructEq
import Derived.Laws.Small
import Derived.WalkSpells
import Derived.ChangeKeysEq
import Derived.RangeFuncLeaves
import Derived.Laws.World
import Derived.Laws.NewFold
import Derived.OwnWalkIn
import Derived.ChangeMaps4
import Derived.Maps.RangeRun
import Derived.RangeFuncRecord
import Derived.Laws.Append
import Derived.Test.YtdnoecpjcoibmaaGreatProg
import Derived.Deep.Slices
import Derived.ProofKit
import Derived.OpenShut
/-! What the statement leans on: texts joined and shortened by a program of mine. -/
set_option linter.unusedVariables false
set_option linter.unusedSimpArgs false
namespace Go.RX
open Go.RowKit
def Ext (w w':World):Prop:=Below w.heap.size w w'
theorem Ext.refl (w:World):Ext w w:=Below.refl _ w
theorem Ext.trans {a b c:World} (h:Ext a b) (k:Ext b c):Ext a c:=Below.trans h (Below.mono k h.size)
theorem Ext.drew (w:World):Ext w {w with drawn:=w.drawn+1}:=⟨rfl,rfl,rfl,Nat.le_refl _,fun _ _=>rfl⟩
theorem Ext.alloc (w:World) (o:Obj):Ext w (w.alloc o):=Below.alloc (Below.refl _ w) (Nat.le_refl _) o
theorem Ext.size {w w':World} (h:Ext w w'):w.heap.size<=w'.heap.size:=Below.size h
theorem Ext.block {w w':World} (h:Ext w w') {k:Nat} (hk:k<w.heap.size):w'.heap[k]? =w.heap[k]? :=Below.block h k hk
theorem Ext.obj {w w':World} (h:Ext w w') {k:Nat} {o:Obj} (hk:w.heap[k]? =some o):w'.heap[k]? =some o:=by
 rw[h.block (Array.getElem?_eq_some_iff.1 hk).1];exact hk
theorem Cx {w:World} {a:Addr} {v:Value} (h:w.cell? a=some v):a.block<w.heap.size:=by
 unfold World.cell? at h
 cases ho:w.heap[a.block]? with
 |none=>simp[ho] at h
 |some o=>exact(Array.getElem?_eq_some_iff.1 ho).1
theorem Ext.cell {w w':World} (h:Ext w w') {a:Addr} {v:Value} (ha:w.cell? a=some v):w'.cell? a=some v:=by
 rw[Below.cell h (Cx ha)];exact ha
inductive Sc where
 |int (k:IntKind)|bool|str|ptr|slice|map|func|rN (f:FuncId) (n:Nat)|PL
 deriving DecidableEq
@[reducible] def As:Nat->Type
 |0=>Unit
 |n+1=>Option Addr×As n
def uq:(n:Nat)->As n->List Value
 |0, _=>[]
 |n+1,x=> .pointer x.1::uq n x.2
def kX:(n:Nat)->List Value->Option (As n)
 |0,[]=>some ()
 |n+1,.pointer a::r=>match kX n r with
  |some y=>some (a,y)
  |none=>none
 | _, _=>none
theorem qZ: ∀{n:Nat} {l:List Value} {x:As n},kX n l=some x->uq n x=l
 |0,[], _, _=>rfl
 |0, _:: _, _,h=>by simp[kX] at h
 |n+1,[], _,h=>by simp[kX] at h
 |n+1,v::r,x,h=>by
  cases v<;>simp only[kX] at h<;>(try (cases h;done))
  split at h
  ·rename_i y hy;cases h;simp only[uq,qZ hy]
  ·cases h
@[reducible] def Sc.T:Sc->Type
 | .int _=>Int
 | .bool=>Bool
 | .str=>ByteArray
 | .ptr=>Option Addr
 | .slice=>Option Addr×Nat×Nat
 | .map=>Option Nat
 | .func=>Value
 | .rN _ n=>As n
 | .PL=>Nat
def Sc.gi:(s:Sc)->s.T->Value
 | .int k,n=> .int k n
 | .bool,b=> .bool b
 | .str,s=> .string s
 | .ptr,a=> .pointer a
 | .slice,x=> .slice x.1 x.2.1 x.2.2
 | .map,r=> .map r
 | .func,v=>v
 | .rN f n,x=> .func (.func f) #[] ⟨uq n x⟩
 | .PL,y=> .func (.yield y) #[] #[]
def Sc.proj:(s:Sc)->Value->Option s.T
 | .int k,.int k' n=>if k=k' then some n else none
 | .bool,.bool b=>some b
 | .str,.string s=>some s
 | .ptr,.pointer a=>some a
 | .slice,.slice a n c=>some (a,n,c)
 | .map,.map r=>some r
 | .func,v=>some v
 | .rN f n,.func (.func f') ⟨[]⟩ ⟨l⟩=>if f=f' then kX n l else none
 | .PL,.func (.yield y) ⟨[]⟩ ⟨[]⟩=>some y
 | _, _=>none
theorem Sc.gu {s:Sc} {v:Value} {x:s.T} (h:s.proj v=some x):s.gi x=v:=by
 cases s with
 |rN f n=>
  cases v with
  |func fn first captured=>
   obtain⟨l1⟩:=first
   obtain⟨l2⟩:=captured
   cases fn<;>cases l1<;>simp only[Sc.proj] at h<;>(try (cases h;done))
   split at h
   ·subst_vars
    simp only[Sc.gi,qZ h]
   ·cases h
  | _=>simp[Sc.proj] at h
 |PL=>
  cases v with
  |func fn first captured=>
   obtain⟨l1⟩:=first
   obtain⟨l2⟩:=captured
   cases fn<;>cases l1<;>cases l2<;>simp only[Sc.proj] at h<;>first|(cases h;done)|(cases h;rfl)
  | _=>simp[Sc.proj] at h
 | _=>
   cases v<;>simp only[Sc.proj] at h<;>
    first
     |(cases h;rfl)
     |(split at h<;>cases h;subst_vars;rfl)
     |(cases h)
@[reducible] def d_:List Sc->Type
 |[]=>Unit
 |s::r=>s.T×d_ r
def aP:(l:List Sc)->d_ l->List Value
 |[], _=>[]
 |s::r,x=>s.gi x.1::aP r x.2
def jX:(l:List Sc)->List Value->Option (d_ l)
 |[],[]=>some ()
 |s::r,v::vs=>match s.proj v,jX r vs with
  |some x,some y=>some (x,y)
  | _, _=>none
 | _, _=>none
theorem nE: ∀{l:List Sc} {vs:List Value} {x:d_ l},jX l vs=some x->aP l x=vs
 |[],[], _, _=>rfl
 |[], _:: _, _,h=>by simp[jX] at h
 | _:: _,[], _,h=>by simp[jX] at h
 |s::r,v::vs,x,h=>by
  simp only[jX] at h
  cases h1:s.proj v with
  |none=>simp[h1] at h
  |some a=>
   cases h2:jX r vs with
   |none=>simp[h1,h2] at h
   |some b=>
    simp only[h1,h2] at h
    cases h
    simp only[aP,Sc.gu h1,nE h2]
inductive El where
 |one (s:Sc)|agg (l:List Sc)
@[reducible] def El.T:El->Type
 | .one s=>s.T
 | .agg l=>d_ l
def El.gi:(e:El)->e.T->Value
 | .one s,x=>s.gi x
 | .agg l,x=> .agg ⟨aP l x⟩
def El.proj:(e:El)->Value->Option e.T
 | .one s,v=>s.proj v
 | .agg l,.agg ⟨vs⟩=>jX l vs
 | .agg _, _=>none
theorem El.gu {e:El} {v:Value} {x:e.T} (h:e.proj v=some x):e.gi x=v:=by
 cases e with
 |one s=>exact Sc.gu h
 |agg l=>
  cases v with
  |agg cs=>obtain⟨vs⟩:=cs;exact congrArg (fun l=>Value.agg ⟨l⟩) (nE h)
  | _=>simp[El.proj] at h
@[reducible] def mI:List El->Type
 |[]=>Unit
 |e::r=>e.T×mI r
def rX:(l:List El)->mI l->List Value
 |[], _=>[]
 |e::r,x=>e.gi x.1::rX r x.2
def lT:(l:List El)->List Value->Option (mI l)
 |[],[]=>some ()
 |s::r,v::vs=>match s.proj v,lT r vs with
  |some x,some y=>some (x,y)
  | _, _=>none
 | _, _=>none
theorem tq: ∀{l:List El} {vs:List Value} {x:mI l},lT l vs=some x->rX l x=vs
 |[],[], _, _=>rfl
 |[], _:: _, _,h=>by simp[lT] at h
 | _:: _,[], _,h=>by simp[lT] at h
 |s::r,v::vs,x,h=>by
  simp only[lT] at h
  cases h1:s.proj v with
  |none=>simp[h1] at h
  |some a=>
   cases h2:lT r vs with
   |none=>simp[h1,h2] at h
   |some b=>
    simp only[h1,h2] at h
    cases h
    simp only[rX,El.gu h1,tq h2]
inductive Sh where
 |el (e:El)|bq (l:List El)
@[reducible] def Sh.T:Sh->Type
 | .el e=>e.T
 | .bq l=>mI l
def Sh.gi:(s:Sh)->s.T->Value
 | .el e,x=>e.gi x
 | .bq l,x=> .tuple ⟨rX l x⟩
def Sh.proj:(s:Sh)->Value->Option s.T
 | .el e,v=>e.proj v
 | .bq l,.tuple ⟨vs⟩=>lT l vs
 | .bq _, _=>none
theorem Sh.gu {e:Sh} {v:Value} {x:e.T} (h:e.proj v=some x):e.gi x=v:=by
 cases e with
 |el s=>exact El.gu h
 |bq l=>
  cases v with
  |tuple cs=>obtain⟨vs⟩:=cs;exact congrArg (fun l=>Value.tuple ⟨l⟩) (tq h)
  | _=>simp[Sh.proj] at h
def xq (P:Program):Nat->TypeId->Option (List Sc)
 |0, _=>none
 |d+1,t=>match P.underlying t with
  |some (.int k)=>some [.int k]
  |some .bool=>some [.bool]
  |some .string=>some [.str]
  |some (.pointer _)=>some [.ptr]
  |some (.slice _)=>some [.slice]
  |some (.map _ _)=>some [.map]
  |some (.func _ _ _)=>some [.func]
  |some (.struct fs)=>fs.toList.foldr (fun f acc=>match xq P d f.type,acc with|some a,some b=>some (a++b)| _, _=>none) (some [])
  |some (.array n e)=>match xq P d e with
   |some a=>if n<=64 then some (List.replicate n a).flatten else none
   |none=>none
  | _=>none
def tZ (P:Program) (t:TypeId):Option El:=
 match P.underlying t with
 |some (.struct _)|some (.array _ _)=>(xq P 20 t).map .agg
 | _=>match xq P 20 t with
   |some [s]=>some (.one s)
   | _=>none
def Pr (P:Program):List TypeId->Option (List El)
 |[]=>some []
 |t::r=>match tZ P t,Pr P r with
  |some e,some l=>some (e::l)
  | _, _=>none
def TW (P:Program) (f:FuncId):Sh:=
 match P.funcs[f]? with
 |some fn=>match fn.resultTypes.toList with
  |[t]=>match tZ P t with
   |some e=> .el e
   |none=> .bq []
  |ts=>match Pr P ts with
   |some l=> .bq l
   |none=> .bq []
 |none=> .bq []
end Go.RX
namespace Go.RX
def au (k:IntKind) (x y:Int):Int:=k.wrap (x+y)
def bL (k:IntKind) (x y:Int):Int:=k.wrap (x - y)
def b_ (k:IntKind) (x y:Int):Int:=k.wrap (x*y)
def py (k:IntKind) (x y:Int):Int:=k.wrap (x.tdiv y)
def dM (x y:Int):Int:=x.tmod y
def mR (k:IntKind) (x y:Int):Int:=k.wrap (BitVec.ofInt k.bits x &&& BitVec.ofInt k.bits y).toNat
def PM (k:IntKind) (x y:Int):Int:=k.wrap (BitVec.ofInt k.bits x ||| BitVec.ofInt k.bits y).toNat
def Tr (k:IntKind) (x y:Int):Int:=k.wrap (BitVec.ofInt k.bits x ^^^ BitVec.ofInt k.bits y).toNat
def ji (k:IntKind) (x y:Int):Int:=k.wrap (BitVec.ofInt k.bits x &&& ~~~ (BitVec.ofInt k.bits y)).toNat
def Ah (k:IntKind) (x y:Int):Int:=k.wrap (x*2 ^ (min y.toNat k.bits))
def BP (k:IntKind) (x y:Int):Int:=x.fdiv (2 ^ (min y.toNat k.bits))
def ax (k:IntKind) (x:Int):Int:=k.wrap x
def Ts (k:IntKind) (x:Int):Int:=k.wrap (BitVec.ofInt k.bits (if k.signed then -1 else k.max) ^^^ BitVec.ofInt k.bits x).toNat
def jb (x y:Int):Int:=if y<x then y else x
def Ai (x y:Int):Int:=if y>x then y else x
structure PR where
 ob:Option Prop
 v:Value
def nq:Operand->Bool
 | .const (.int _ n)=>decide (n≠0)
 | _=>false
def nS:Operand->Bool
 | .const (.int _ n)=>decide (0<=n)
 | _=>false
def jc:Operand->Bool
 | .const (.pointer none)| .const (.slice none _ _)| .const (.map none)| .const .nilFunc=>true
 | _=>false
def Ja (op:BinOp) (k:IntKind) (x y:Int) (yo:Operand):Option PR:=
 match op with
 | .add=>some ⟨none,.int k (au k x y)⟩
 | .sub=>some ⟨none,.int k (bL k x y)⟩
 | .mul=>some ⟨none,.int k (b_ k x y)⟩
 | .quo=>some ⟨if nq yo then none else some (y≠0),.int k (py k x y)⟩
 | .rem=>some ⟨if nq yo then none else some (y≠0),.int k (dM x y)⟩
 | .and=>some ⟨none,.int k (mR k x y)⟩
 | .or=>some ⟨none,.int k (PM k x y)⟩
 | .xor=>some ⟨none,.int k (Tr k x y)⟩
 | .andNot=>some ⟨none,.int k (ji k x y)⟩
 | .eql=>some ⟨none,.bool (x==y)⟩
 | .neq=>some ⟨none,.bool (x != y)⟩
 | .lss=>some ⟨none,.bool (decide (x<y))⟩
 | .leq=>some ⟨none,.bool (decide (x<=y))⟩
 | .gtr=>some ⟨none,.bool (decide (x>y))⟩
 | .geq=>some ⟨none,.bool (decide (x>=y))⟩
 | _=>none
def kj (P:Program) (t:TypeId):Option Bool:=
 match P.underlying t with
 |some (.struct _)|some (.array _ _)=>some true
 |some _=>some false
 |none=>none
def sW (P:Program) (t:TypeId) (cs:List Value) (off:Nat):Option Value:=
 match kj P t,P.info? t with
 |some true,some i=>some (.agg ⟨(cs.drop off).take i.size⟩)
 |some false, _=>cs[off]?
 | _, _=>none
def Io (P:Program) (g:TypeId->Value->Value->Option Bool) (xs ys:List Value):List Field->Option Bool
 |[]=>some true
 |f::fs=>if f.name≠ "_" then
   match sW P f.type xs f.offset,sW P f.type ys f.offset with
   |some a,some b=>match g f.type a b,Io P g xs ys fs with
    |some r,some s=>some (r&&s)
    | _, _=>none
   | _, _=>none
  else Io P g xs ys fs
def SJ (P:Program):Nat->TypeId->Value->Value->Option Bool
 |0, _, _, _=>none
 |d+1,t,x,y=>
  match P.underlying t with
  |some .bool=>match x,y with
   | .bool a,.bool b=>some (a==b)
   | _, _=>none
  |some (.int _)=>match x,y with
   | .int k a,.int k' b=>if k=k' then some (a==b) else none
   | _, _=>none
  |some .string=>match x,y with
   | .string a,.string b=>some (a==b)
   | _, _=>none
  |some (.struct fs)=>match x,y with
   | .agg ⟨xs⟩,.agg ⟨ys⟩=>if P.stoodInHeld t then none else Io P (SJ P d) xs ys fs.toList
   | _, _=>none
  | _=>none
def Qv (P:Program) (op:BinOp) (t:TypeId) (xo yo:Operand) (x y:Value):Option PR:=
 match x,y with
 | .int k a,.int k' b=>
   match op with
   | .shl=>some ⟨if nS yo then none else some (0<=b),.int k (Ah k a b)⟩
   | .shr=>some ⟨if nS yo then none else some (0<=b),.int k (BP k a b)⟩
   |op=>if k=k' then Ja op k a b yo else none
 | .bool a,.bool b=>
   match op,P.underlying t with
   | .eql,some .bool=>some ⟨none,.bool (a==b)⟩
   | .neq,some .bool=>some ⟨none,.bool (!(a==b))⟩
   | _, _=>none
 | .pointer p,.pointer q=>
   match op,P.underlying t with
   | .eql,some (.pointer _)=>if jc yo then some ⟨none,.bool p.isNone⟩ else if jc xo then some ⟨none,.bool q.isNone⟩ else none
   | .neq,some (.pointer _)=>if jc yo then some ⟨none,.bool (!p.isNone)⟩ else if jc xo then some ⟨none,.bool (!q.isNone)⟩ else none
   | _, _=>none
 | .slice p _ _,.slice q _ _=>
   match op,P.underlying t with
   | .eql,some (.slice _)=>if jc yo then some ⟨none,.bool p.isNone⟩ else if jc xo then some ⟨none,.bool q.isNone⟩ else none
   | .neq,some (.slice _)=>if jc yo then some ⟨none,.bool (!p.isNone)⟩ else if jc xo then some ⟨none,.bool (!q.isNone)⟩ else none
   | _, _=>none
 | .map p,.map q=>
   match op,P.underlying t with
   | .eql,some (.map _ _)=>if jc yo then some ⟨none,.bool p.isNone⟩ else if jc xo then some ⟨none,.bool q.isNone⟩ else none
   | .neq,some (.map _ _)=>if jc yo then some ⟨none,.bool (!p.isNone)⟩ else if jc xo then some ⟨none,.bool (!q.isNone)⟩ else none
   | _, _=>none
 | .string a,.string b=>
   match op with
   | .eql=>some ⟨none,.bool (a==b)⟩
   | .neq=>some ⟨none,.bool (!(a==b))⟩
   | _=>none
 | .agg xs,.agg ys=>
   if P.eqGuardType P.depth t then none else
   match op,SJ P Op.maxDepth t (.agg xs) (.agg ys) with
   | .eql,some r=>some ⟨none,.bool r⟩
   | .neq,some r=>some ⟨none,.bool (!r)⟩
   | _, _=>none
 | _, _=>none
def Xz (op:UnOp) (x:Value):Option PR:=
 match op,x with
 | .not,.bool b=>some ⟨none,.bool (!b)⟩
 | .neg,.int k n=>some ⟨none,.int k (bL k 0 n)⟩
 | .xor,.int k n=>some ⟨none,.int k (Ts k n)⟩
 | _, _=>none
def Pt (P:Program) (src dst:TypeId) (x:Value):Option PR:=
 match P.underlying src,P.underlying dst,x with
 |some _,some (.int k),.int _ n=>some ⟨none,.int k (ax k n)⟩
 |some .string,some .string,.string s=>some ⟨none,.string s⟩
 | _, _, _=>none
def ur (P:Program) (t:TypeId) (i:Nat):Option Field:=
 match P.underlying t with
 |some (.struct fs)=>fs[i]?
 | _=>none
def maps (ρ:Operand->Option Value):List Operand->Option (List Value)
 |[]=>some []
 |x::r=>match ρ x,maps ρ r with
  |some v,some l=>some (v::l)
  | _, _=>none
def pairs (ρ:Operand->Option Value):List (Nat×Operand)->Option (List (Nat×Value))
 |[]=>some []
 |(i,x)::r=>match ρ x,pairs ρ r with
  |some v,some l=>some ((i,v)::l)
  | _, _=>none
def af (p:Option Addr) (n:Nat):Option Addr:=p.map (·.add n)
def y8:List Value->IntKind->Option (List Int)
 |[], _=>some []
 | .int k' n::r,k=>if k=k' then(match y8 r k with|some l=>some (n::l)|none=>none) else none
 | _, _=>none
def BQ (l:List Int) (i:Int):Int:=l.getD i.toNat 0
def ew (place:Nat->Option (Nat×Nat)) (cells:List Value):List (Nat×Value)->Option (List Value)
 |[]=>some cells
 |(i,v)::rest=>match place i with
  |none=>none
  |some (off,size)=>
   if(Nat.beq v.cells.toList.length size&&Nat.ble (off+size) cells.length)=true then ew place (cells.take off++(v.cells.toList++cells.drop (off+size))) rest else none
def xx (place:Nat->Option (Nat×Nat)) (cells:Array Value) (ps:List (Nat×Value)):Option (Array Value):=
 match ew place cells.toList ps with
 |some l=>some ⟨l⟩
 |none=>none
theorem AD: ∀(vs:List Value) (k off:Nat) (cs:List Value),off+k+vs.length<=cs.length->
 (vs.zipIdx k).foldl (fun(cs:Array Value) (x:Value×Nat)=>cs.setIfInBounds (off+x.2) x.1) ⟨cs⟩=⟨cs.take (off+k)++(vs++cs.drop (off+k+vs.length))⟩
 |[],k,off,cs,h=>by simp
 |v::vs,k,off,cs,h=>by
  simp only[List.length_cons] at h
  have e:(Array.mk cs).setIfInBounds (off+k) v=⟨cs.set (off+k) v⟩:=by simp
  simp only[List.zipIdx_cons,List.foldl_cons,e]
  rw[AD vs (k+1) off (cs.set (off+k) v) (by simp;omega)]
  congr 1
  have h1:(cs.set (off+k) v).take (off+(k+1))=cs.take (off+k)++[v]:=by
   rw[show off+(k+1)=(off+k)+1 by omega,List.take_add_one,List.take_set_of_le (by omega)]
   congr 1
   rw[List.getElem?_set_self (by omega)];rfl
  have h2:(cs.set (off+k) v).drop (off+(k+1)+vs.length)=cs.drop (off+k+(vs.length+1)):=by
   rw[List.drop_set_of_lt (by omega)]
   congr 1;omega
  rw[h1,h2]
  simp
theorem AE (place:Nat->Option (Nat×Nat)): ∀(ps:List (Nat×Value)) (cells r:List Value),ew place cells ps=some r->Instr.fill place ⟨cells⟩ ps=some ⟨r⟩
 |[],cells,r,h=>by cases h;rfl
 |(i,v)::rest,cells,r,h=>by
  unfold ew at h
  unfold Instr.fill
  split at h
  ·cases h
  ·rename_i off size hp
   split at h
   ·rename_i hc
    simp only[Bool.and_eq_true,Nat.beq_eq,Nat.ble_eq] at hc
    obtain⟨h1,h2⟩:=hc
    have e1:v.cells.size=size:=by simpa using h1
    have hn: ¬ ((decide (v.cells.size≠size)||decide (off+v.cells.size>(Array.mk cells).size))=true):=by
     simp[e1];omega
    simp only[hp,hn]
    have:=AD v.cells.toList 0 off cells (by simp only[h1];omega)
    have ez:v.cells.zipIdx=⟨v.cells.toList.zipIdx 0⟩:=by
     apply Array.ext'
     simp
    have e2:v.cells.zipIdx.foldl (fun(cs:Array Value) (x:Value×Nat)=>cs.setIfInBounds (off+x.2) x.1) ⟨cells⟩=⟨cells.take off++(v.cells.toList++cells.drop (off+size))⟩:=by
     rw[ez, <-Array.foldl_toList]
     simp only[h1,Nat.add_zero] at this
     exact this
    refine Eq.trans ?_ (AE place rest _ r h)
    exact congrArg (fun x=>Instr.fill place x rest) e2
   ·cases h
theorem vg {place:Nat->Option (Nat×Nat)} {cells:Array Value} {ps:List (Nat×Value)} {cs:Array Value} (h:xx place cells ps=some cs):Instr.fill place cells ps=some cs:=by
 unfold xx at h
 split at h
 ·rename_i l hl;cases h;exact AE place ps _ l hl
 ·cases h
def Cf (P:Program) (t:TypeId) (parts:List (Nat×Value)):Option (Array Value):=
 match P.info? t with
 |some i=>match i.zero with
  |some z=>match P.underlying t with
   |some (.struct fs)=>if fs.toList.all (fun f=>(P.info? f.type).isSome) then xx ((fs.toList.map fun f=>(f.offset,P.cellsOf f.type))[·]?) z.cells parts else none
   |some (.array _ e)=>match P.info? e with
    |some ie=>xx (fun i=>some (i*ie.size,ie.size)) z.cells parts
    |none=>none
   | _=>none
  |none=>none
 |none=>none
end Go.RX
namespace Go.RX
def Pu (s:ByteArray) (i:Int):Int:=(((s.data.toList)[i.toNat]?.getD 0).toNat:Int)
def gA (ρ:Operand->Option Value) (d:Nat):Option Operand->Option (Int)
 |none=>some d
 |some x=>match ρ x with
  |some (.int _ n)=>some n
  | _=>none
def pop (P:Program) (ρ:Operand->Option Value) (o:Oper):Option PR:=
 match o.op with
 | .move x=>match ρ x with
   |some v=>some ⟨none,v⟩
   |none=>none
 | .assign x=>match ρ x with
   |some v=>some ⟨none,v⟩
   |none=>none
 | .nilCheck x=>match ρ x with
   |some (.pointer p)=>some ⟨some (p.isSome=true),.pointer p⟩
   |some (.func (.func f) fs cs)=>some ⟨none,.func (.func f) fs cs⟩
   | _=>none
 | .binOp op t x y _=>match ρ x,ρ y with
   |some a,some b=>Qv P op t x y a b
   | _, _=>none
 | .unOp op _ x=>match ρ x with
   |some a=>Xz op a
   |none=>none
 | .convert s d x=>match ρ x with
   |some a=>Pt P s d a
   |none=>none
 | .fieldAddr s x f=>match ρ x,ur P s f with
   |some (.pointer p),some fd=>match P.info? fd.type with
    |some i=>if i.size=0 then none else some ⟨some (p.isSome=true),.pointer (af p fd.offset)⟩
    |none=>none
   | _, _=>none
 | .field t x f=>match ρ x,ur P t f with
   |some (.agg ⟨cs⟩),some fd=>match sW P fd.type cs fd.offset with
    |some v=>some ⟨none,v⟩
    |none=>none
   | _, _=>none
 | .indexAddr t x ix=>match P.underlying t,ρ x,ρ ix with
   |some (.array len e),some (.pointer p),some (.int _ i)=>match P.info? e with
    |some ie=>if len<=1 then none else some ⟨some (p.isSome=true/\0<=i/\i<len),.pointer (af p (i.toNat*ie.size))⟩
    |none=>none
   |some (.slice e),some (.slice p len _),some (.int _ i)=>match P.info? e with
    |some ie=>some ⟨some (p.isSome=true/\0<=i/\i<len),.pointer (af p (i.toNat*ie.size))⟩
    |none=>none
   | _, _, _=>none
 | .index t x ix=>match P.underlying t,ρ x,ρ ix with
   |some (.array len e),some (.agg ⟨cs⟩),some (.int _ i)=>match P.info? e with
    |some ie=>match ix with
     | .const (.int _ n)=>if 0<=n/\n<len then(match sW P e cs (n.toNat*ie.size) with
      |some v=>some ⟨none,v⟩
      |none=>none) else none
     | _=>match P.underlying e with
       |some (.int k)=>match y8 cs k with
        |some ns=>if cs.length=len/\ie.size=1 then some ⟨some (0<=i/\i<len),.int k (BQ ns i)⟩ else none
        |none=>none
       | _=>none
    |none=>none
   |some .string,some (.string s),some (.int _ i)=>some ⟨some (0<=i/\i<s.size),.int .u8 (Pu s i)⟩
   | _, _, _=>none
 | .makeFunc fn first captured=>match maps ρ first.toList,maps ρ captured.toList with
   |some a,some b=>some ⟨none,.func fn ⟨a⟩ ⟨b⟩⟩
   | _, _=>none
 | .extract x i=>match ρ x with
   |some (.tuple ⟨vs⟩)=>match vs[i]? with
    |some v=>some ⟨none,v⟩
    |none=>none
   | _=>none
 | .build t parts=>match pairs ρ parts.toList with
   |some ps=>match Cf P t ps with
    |some cs=>some ⟨none,.agg cs⟩
    |none=>none
   |none=>none
 | .slice t x lo hi mx=>match P.underlying t,ρ x with
   |some (.slice e),some (.slice p len cap)=>match P.info? e,gA ρ 0 lo,gA ρ len hi,gA ρ cap mx with
    |some ie,some l,some h,some m=>if hi.isNone&&mx.isSome then none else
     some ⟨some (0<=l/\l<=h/\h<=m/\m<=cap),.slice (if m.toNat=l.toNat then p else af p (l.toNat*ie.size)) (h.toNat - l.toNat) (m.toNat - l.toNat)⟩
    | _, _, _, _=>none
   |some .string,some (.string s)=>match gA ρ 0 lo,gA ρ s.size hi with
    |some l,some h=>if mx.isSome then none else some ⟨some (0<=l/\l<=h/\h<=s.size),.string (s.extract l.toNat h.toNat)⟩
    | _, _=>none
   | _, _=>none
 | .call c=>match c.callee with
   | .builtin .len=>match c.args.toList,c.argTypes.toList with
     |[x],[t]=>match ρ x,P.underlying t with
      |some (.slice _ n _),some (.slice _)=>some ⟨none,.int .i64 n⟩
      |some (.string s),some .string=>some ⟨none,.int .i64 s.size⟩
      |some (.agg _),some (.array n _)=>some ⟨none,.int .i64 n⟩
      | _, _=>none
     | _, _=>none
   | .builtin .min=>match c.args.toList with
     |[x,y]=>match ρ x,ρ y with
      |some (.int k a),some (.int _ b)=>some ⟨none,.int k (jb a b)⟩
      | _, _=>none
     | _=>none
   | .builtin .max=>match c.args.toList with
     |[x,y]=>match ρ x,ρ y with
      |some (.int k a),some (.int _ b)=>some ⟨none,.int k (Ai a b)⟩
      | _, _=>none
     | _=>none
   | _=>none
 | _=>none
section
variable {P:Program}
theorem aW {t:TypeId} {d:TypeDesc} (h:P.underlying t=some d) (w:World):(underlying t).run P w= .ok d w:=run_underlying h w
theorem gv {t:TypeId} {i:TypeInfo} (h:P.info? t=some i) (w:World):(typeInfo t).run P w= .ok i w:=by
 unfold typeInfo;simp[h]
theorem de {t:TypeId} {i:TypeInfo} (h:P.info? t=some i) (w:World):(sizeOf t).run P w= .ok i.size w:=by
 unfold sizeOf;simp[gv h]
theorem se {t:TypeId} {b:Bool} (h:kj P t=some b) (w:World):(isAgg t).run P w= .ok b w:=by
 unfold kj at h
 unfold isAgg
 cases hu:P.underlying t with
 |none=>simp[hu] at h
 |some d=>cases d<;>simp_all [aW hu]
theorem lf {t:TypeId} {cs:List Value} {off:Nat} {v:Value} (h:sW P t cs off=some v) (w:World):(part t ⟨cs⟩ off).run P w= .ok v w:=by
 unfold sW at h
 unfold part
 cases hb:kj P t with
 |none=>simp[hb] at h
 |some b=>
  simp only[Sem.run_bind,se hb,Result.andThen_ok]
  cases b with
  |true=>
   cases hi:P.info? t with
   |none=>simp[hb,hi] at h
   |some i=>
    simp only[hb,hi] at h
    cases h
    simp[de hi,List.extract_eq_take_drop,Nat.add_sub_cancel_left]
  |false=>
   simp only[hb] at h
   simp[h]
theorem D5: ∀(d:Nat) (t:TypeId) (x y:Value) (r:Bool),SJ P d t x y=some r-> ∀w,(Op.equalIn d t x y).run P w= .ok r w:=by
 intro d
 induction d with
 |zero=>intro t x y r h;simp[SJ] at h
 |succ d ih=>
  intro t x y r h w
  unfold SJ at h
  split at h
  ·rename_i hu
   split at h
   ·cases h;simp[Op.equalIn,aW hu]
   ·cases h
  ·rename_i k0 hu
   split at h
   ·split at h
    ·cases h;subst_vars;simp[Op.equalIn,aW hu]
    ·cases h
   ·cases h
  ·rename_i hu
   split at h
   ·cases h;simp[Op.equalIn,aW hu]
   ·cases h
  ·rename_i fs hu
   split at h
   ·rename_i xs ys
    split at h
    ·cases h
    ·rename_i hs
     have hf:P.fieldsOf t=fs:=by simp[Program.fieldsOf,hu]
     rw[run_equalIn_struct w d t ⟨xs⟩ ⟨ys⟩ (by rw[hf];exact hu) (by simpa using hs),hf]
     clear hu hf
     generalize fs.toList=l at h
     induction l generalizing r with
     |nil=>simp only[Io,Option.some.injEq] at h;subst h;simp[Op.eqFields]
     |cons f l ihl=>
      simp only[Io] at h
      unfold Op.eqFields
      split
      ·rename_i hn
       rw[if_pos hn] at h
       split at h
       ·rename_i a b ha hb
        split at h
        ·rename_i r1 r2 h1 h2
         cases h
         simp only[Sem.run_bind,lf ha,lf hb,Result.andThen_ok,ih _ _ _ _ h1]
         cases r1
         ·simp
         ·simp[ihl _ h2]
        ·cases h
       ·cases h
      ·rename_i hn
       rw[if_neg hn] at h
       exact ihl _ h
   ·cases h
  ·cases h
end
end Go.RX
namespace Go.RX
section
variable {P:Program} {ρ:Operand->Option Value} {ev:Operand->Value}
theorem jY (hρ: ∀x v,ρ x=some v->ev x=v): ∀{l:List Operand} {vs:List Value},maps ρ l=some vs->l.map ev=vs
 |[],vs,h=>by simp[maps] at h;simp[h]
 |x::r,vs,h=>by
  simp only[maps] at h
  split at h
  ·rename_i v l h1 h2
   cases h
   simp[hρ _ _ h1,jY hρ h2]
  ·cases h
theorem vh (hρ: ∀x v,ρ x=some v->ev x=v): ∀{l:List (Nat×Operand)} {vs:List (Nat×Value)},pairs ρ l=some vs->(l.map fun(i,x)=>(i,ev x))=vs
 |[],vs,h=>by simp[pairs] at h;simp[h]
 |(i,x)::r,vs,h=>by
  simp only[pairs] at h
  split at h
  ·rename_i v l h1 h2
   cases h
   have:=vh hρ h2
   simp[hρ _ _ h1] at*
   exact this
  ·cases h
theorem ug (op:BinOp) (t:TypeId) (x y:Operand) (k k':IntKind) (a b:Int) (w:World):(eqGuard op t x y (.int k a) (.int k' b)).run P w= .ok () w:=by
 unfold eqGuard;cases op<;>simp
theorem xH {t:TypeId} (hu:P.underlying t=some .bool) (d:Nat) (a b:Bool) (w:World):(Op.equalIn (d+1) t (.bool a) (.bool b)).run P w= .ok (a==b) w:=by
 simp[Op.equalIn,aW hu]
theorem vJ {t e:TypeId} (hu:P.underlying t=some (.pointer e)) (d:Nat) (p:Option Addr) (w:World):(Op.equalIn (d+1) t (.pointer p) (.pointer none)).run P w= .ok p.isNone w:=by
 cases p<;>simp[Op.equalIn,aW hu]
theorem vK {t e:TypeId} (hu:P.underlying t=some (.pointer e)) (d:Nat) (p:Option Addr) (w:World):(Op.equalIn (d+1) t (.pointer none) (.pointer p)).run P w= .ok p.isNone w:=by
 cases p<;>simp[Op.equalIn,aW hu]
theorem q_ {t e:TypeId} (hu:P.underlying t=some (.slice e)) (d:Nat) (p:Option Addr) (n c n' c':Nat) (w:World):(Op.equalIn (d+1) t (.slice p n c) (.slice none n' c')).run P w= .ok p.isNone w:=by
 cases p<;>simp[Op.equalIn,aW hu]
theorem ri {t e:TypeId} (hu:P.underlying t=some (.slice e)) (d:Nat) (p:Option Addr) (n c n' c':Nat) (w:World):(Op.equalIn (d+1) t (.slice none n' c') (.slice p n c)).run P w= .ok p.isNone w:=by
 cases p<;>simp[Op.equalIn,aW hu]
theorem vL {t k e:TypeId} (hu:P.underlying t=some (.map k e)) (d:Nat) (p:Option Nat) (w:World):(Op.equalIn (d+1) t (.map p) (.map none)).run P w= .ok p.isNone w:=by
 cases p<;>simp[Op.equalIn,aW hu]
theorem vM {t k e:TypeId} (hu:P.underlying t=some (.map k e)) (d:Nat) (p:Option Nat) (w:World):(Op.equalIn (d+1) t (.map none) (.map p)).run P w= .ok p.isNone w:=by
 cases p<;>simp[Op.equalIn,aW hu]
theorem fG {t:TypeId} {x y:Value} {r:Bool} {w:World} (h: ∀d,(Op.equalIn (d+1) t x y).run P w= .ok r w):(Op.equal t x y).run P w= .ok r w:=h 9999
theorem Nf {op:BinOp} {t:TypeId} {xo yo:Operand} {x y:Value} {pr:PR} (hy: ∀v,yo= .const v->y=v) (hx: ∀v,xo= .const v->x=v)
 (h:Qv P op t xo yo x y=some pr) (tU: ∀p,pr.ob=some p->p) (w:World):
 (do eqGuard op t xo yo x y;binOp op t x y).run P w= .ok pr.v w:=by
 unfold Qv at h
 split at h
 ·
  rename_i k a k' b
  simp only[Sem.run_bind,ug,Result.andThen_ok]
  have hnz:nq yo=true->b≠0:=by
   intro hc
   unfold nq at hc
   split at hc
   ·rename_i k2 n
    have:=hy _ rfl
    cases this
    simpa using hc
   ·cases hc
  have SK:nS yo=true->0<=b:=by
   intro hc
   unfold nS at hc
   split at hc
   ·rename_i k2 n
    have:=hy _ rfl
    cases this
    simpa using hc
   ·cases hc
  split at h
  ·cases h
   have h0:0<=b:=by
    by_cases hc:nS yo=true
    ·exact SK hc
    ·exact tU (0<=b) (by simp[hc])
   simp[binOp,Op.shift,Ah,Int.not_lt.2 h0]
  ·cases h
   have h0:0<=b:=by
    by_cases hc:nS yo=true
    ·exact SK hc
    ·exact tU (0<=b) (by simp[hc])
   simp[binOp,Op.shift,BP,Int.not_lt.2 h0]
  ·rename_i aaa aab
   split at h
   ·subst_vars
    cases op<;>simp only[Ja] at h<;>(try cases h)<;>
     first
      |(simp[binOp,Op.intArith,au,bL,b_];done)
      |(simp[binOp,Op.intBits,mR,PM,Tr,ji];done)
      |(simp[binOp,Op.intCmp];done)
      |(have h0:b≠0:=by
         by_cases hc:nq yo=true
         ·exact hnz hc
         ·exact tU (b≠0) (by simp[hc])
        simp[binOp,Op.intDiv,h0,py,dM])
   ·cases h
 ·
  rename_i a b
  split at h
  ·rename_i hu;cases h;simp[eqGuard,binOp,fG fun d=>xH hu d a b w]
  ·rename_i hu;cases h;simp[eqGuard,binOp,fG fun d=>xH hu d a b w]
  ·cases h
 ·
  rename_i p q
  have e1:jc yo=true->q=none:=by
   intro hc;unfold jc at hc;split at hc<;>first|(have:=hy _ rfl;cases this<;>rfl)|(cases hc)
  have e2:jc xo=true->p=none:=by
   intro hc;unfold jc at hc;split at hc<;>first|(have:=hx _ rfl;cases this<;>rfl)|(cases hc)
  split at h
  ·rename_i hu
   split at h
   ·rename_i hc;cases h;rw[e1 hc];simp[eqGuard,binOp,fG fun d=>vJ hu d p w]
   ·split at h
    ·rename_i hc;cases h;rw[e2 hc];simp[eqGuard,binOp,fG fun d=>vK hu d q w]
    ·cases h
  ·rename_i hu
   split at h
   ·rename_i hc;cases h;rw[e1 hc];simp[eqGuard,binOp,fG fun d=>vJ hu d p w]
   ·split at h
    ·rename_i hc;cases h;rw[e2 hc];simp[eqGuard,binOp,fG fun d=>vK hu d q w]
    ·cases h
  ·cases h
 ·
  rename_i p _ _ q _ _
  have e1:jc yo=true->q=none:=by
   intro hc;unfold jc at hc;split at hc<;>first|(have:=hy _ rfl;cases this<;>rfl)|(cases hc)
  have e2:jc xo=true->p=none:=by
   intro hc;unfold jc at hc;split at hc<;>first|(have:=hx _ rfl;cases this<;>rfl)|(cases hc)
  split at h
  ·rename_i hu
   split at h
   ·rename_i hc;cases h;rw[e1 hc];simp[eqGuard,binOp,fG fun d=>q_ hu d p _ _ _ _ w]
   ·split at h
    ·rename_i hc;cases h;rw[e2 hc];simp[eqGuard,binOp,fG fun d=>ri hu d q _ _ _ _ w]
    ·cases h
  ·rename_i hu
   split at h
   ·rename_i hc;cases h;rw[e1 hc];simp[eqGuard,binOp,fG fun d=>q_ hu d p _ _ _ _ w]
   ·split at h
    ·rename_i hc;cases h;rw[e2 hc];simp[eqGuard,binOp,fG fun d=>ri hu d q _ _ _ _ w]
    ·cases h
  ·cases h
 ·
  rename_i p q
  have e1:jc yo=true->q=none:=by
   intro hc;unfold jc at hc;split at hc<;>first|(have:=hy _ rfl;cases this<;>rfl)|(cases hc)
  have e2:jc xo=true->p=none:=by
   intro hc;unfold jc at hc;split at hc<;>first|(have:=hx _ rfl;cases this<;>rfl)|(cases hc)
  split at h
  ·rename_i hu
   split at h
   ·rename_i hc;cases h;rw[e1 hc];simp[eqGuard,binOp,fG fun d=>vL hu d p w]
   ·split at h
    ·rename_i hc;cases h;rw[e2 hc];simp[eqGuard,binOp,fG fun d=>vM hu d q w]
    ·cases h
  ·rename_i hu
   split at h
   ·rename_i hc;cases h;rw[e1 hc];simp[eqGuard,binOp,fG fun d=>vL hu d p w]
   ·split at h
    ·rename_i hc;cases h;rw[e2 hc];simp[eqGuard,binOp,fG fun d=>vM hu d q w]
    ·cases h
  ·cases h
 ·
  rename_i a b
  split at h
  ·cases h;simp[eqGuard,binOp,Op.stringOp,beq_toListBytes]
  ·cases h;simp[eqGuard,binOp,Op.stringOp,beq_toListBytes]
  ·cases h
 ·
  rename_i xs ys
  split at h
  ·cases h
  ·rename_i hg
   have hg':P.eqGuardType P.depth t=false:=by simpa using hg
   have EY: ∀op:BinOp,(eqGuard op t xo yo (.agg xs) (.agg ys)).run P w= .ok () w:=by
    intro op;unfold eqGuard;cases op<;>simp[hg']
   split at h
   ·rename_i r hr
    cases h
    simp only[Sem.run_bind,EY,Result.andThen_ok]
    have hm:(Op.equal t (.agg xs) (.agg ys)).run P w= .ok r w:=D5 (P:=P) _ _ _ _ _ hr w
    simp[binOp,hm]
   ·rename_i r hr
    cases h
    simp only[Sem.run_bind,EY,Result.andThen_ok]
    have hm:(Op.equal t (.agg xs) (.agg ys)).run P w= .ok r w:=D5 (P:=P) _ _ _ _ _ hr w
    simp[binOp,hm]
   ·cases h
 ·cases h
end
end Go.RX
namespace Go.RX
section
variable {P:Program} {ρ:Operand->Option Value} {ev:Operand->Value}
theorem vN: ∀{cs:List Value} {k:IntKind} {ns:List Int},y8 cs k=some ns-> ∀i,i<cs.length->cs[i]? =some (.int k (ns.getD i 0))
 |[],k,ns,h,i,hi=>by simp at hi
 |c::cs,k,ns,h,i,hi=>by
  unfold y8 at h
  split at h
  ·cases ‹c::cs=[]›
  ·rename_i k' n r k2 heq
   cases heq
   split at h
   ·subst_vars
    split at h
    ·rename_i l hl
     cases h
     cases i with
     |zero=>simp
     |succ i=>simpa using vN hl i (by simpa using hi)
    ·cases h
   ·cases h
  ·cases h
theorem tr {t:TypeId} {f:Nat} {fd:Field} (hf:ur P t f=some fd): ∃fs,P.underlying t=some (.struct fs)/\fs[f]? =some fd:=by
 unfold ur at hf
 split at hf
 ·rename_i fs h;exact⟨fs,h,hf⟩
 ·cases hf
theorem Bl {t e:TypeId} {ie:TypeInfo} (p:Addr) (k:IntKind) (i:Int) (len:Nat) (hl: ¬ len<=1) (hu:P.underlying t=some (.array len e)) (hi:P.info? e=some ie) (h0:0<=i) (h1:i<len) (w:World):
 (Instr.indexAt t (.pointer (some p)) (.int k i)).run P w= .ok (.pointer (some (p.add (i.toNat*ie.size)))) w:=by
 have h2: ¬ len<=1:=hl
 simp[Instr.indexAt,asIntOf,Instr.sureAddr,aW hu,de hi,h0,h1]
theorem run_indexAt_slice {t e:TypeId} {ie:TypeInfo} (p:Addr) (k:IntKind) (i:Int) (len cap:Nat) (hu:P.underlying t=some (.slice e)) (hi:P.info? e=some ie) (h0:0<=i) (h1:i<len) (w:World):
 (Instr.indexAt t (.slice (some p) len cap) (.int k i)).run P w= .ok (.pointer (some (p.add (i.toNat*ie.size)))) w:=by
 simp[Instr.indexAt,asIntOf,Instr.sureAddr,aW hu,de hi,h0,h1]
theorem dB {α:Type} {p:Option α} (h:p.isSome=true): ∃a,p=some a:=Option.isSome_iff_exists.1 h
theorem jm (hρ: ∀x v,ρ x=some v->ev x=v) {d:Nat} {x:Operand} {n:Int} (h:gA ρ d (some x)=some n): ∃k,ev x= .int k n:=by
 simp only[gA] at h
 split at h
 ·rename_i k m hx
  cases h;exact⟨k,hρ _ _ hx⟩
 ·cases h
theorem run_sliceBound (k:IntKind) (n:Int) (y:Nat) (c:BoundsCode) (h0:0<=n) (h1:n<=y) (w:World):(Instr.sliceBound (.int k n) y c).run P w= .ok n.toNat w:=by
 simp[Instr.sliceBound,asIntOf,h0,h1]
theorem mD (hρ: ∀x v,ρ x=some v->ev x=v) {PN:Bool} {len cap:Nat} {lo hi mx:Option Operand} {l h m:Int}
 (hl:gA ρ 0 lo=some l) (hh:gA ρ len hi=some h) (hm:gA ρ cap mx=some m) (hx: ¬ (hi.isNone=true/\mx.isSome=true))
 (h0:0<=l) (h1:l<=h) (h2:h<=m) (h3:m<=cap) (w:World):
 (Instr.sliceBounds PN len cap (lo.map ev) (hi.map ev) (mx.map ev)).run P w= .ok (l.toNat,h.toNat,m.toNat) w:=by
 unfold Instr.sliceBounds
 have a1:h<=((m.toNat:Nat):Int):=by omega
 have a2:l<=((h.toNat:Nat):Int):=by omega
 have a3:0<=h:=by omega
 have a4:0<=m:=by omega
 cases mx with
 |none=>
  simp only[gA,Option.some.injEq] at hm
  subst hm
  have a5:h<=(cap:Int):=h2
  cases hi with
  |none=>
   simp only[gA,Option.some.injEq] at hh
   subst hh
   cases lo with
   |none=>simp only[gA,Option.some.injEq] at hl;subst hl;simp
   |some x=>obtain⟨k,hk⟩:=jm hρ hl;simp[hk,run_sliceBound k l len _ h0 h1]
  |some y=>
   obtain⟨k2,hk2⟩:=jm hρ hh
   cases lo with
   |none=>simp only[gA,Option.some.injEq] at hl;subst hl;cases PN<;>simp[hk2,run_sliceBound k2 h cap _ a3 a5]
   |some x=>obtain⟨k,hk⟩:=jm hρ hl;cases PN<;>simp[hk,hk2,run_sliceBound k2 h cap _ a3 a5,run_sliceBound k l h.toNat _ h0 a2]
 |some z=>
  obtain⟨k3,PO⟩:=jm hρ hm
  cases hi with
  |none=>simp at hx
  |some y=>
   obtain⟨k2,hk2⟩:=jm hρ hh
   cases lo with
   |none=>simp only[gA,Option.some.injEq] at hl;subst hl;cases PN<;>simp[hk2,PO,run_sliceBound k3 m cap _ a4 h3,run_sliceBound k2 h m.toNat _ a3 a1]
   |some x=>obtain⟨k,hk⟩:=jm hρ hl;cases PN<;>simp[hk,hk2,PO,run_sliceBound k3 m cap _ a4 h3,run_sliceBound k2 h m.toNat _ a3 a1,run_sliceBound k l h.toNat _ h0 a2]
theorem JT {s:ByteArray} {i:Int} (h0:0<=i) (h1:i<s.size):s[i.toNat]? =some (s.data[i.toNat]?.getD 0):=by
 have hlt:i.toNat<s.size:=by omega
 have:s[i.toNat]? =some s[i.toNat]:=by simp[getElem?_pos,hlt]
 rw[this]
 have hlt':i.toNat<s.data.size:=hlt
 rw[Array.getElem?_eq_getElem hlt']
 rfl
theorem run_places: ∀(l:List Field),(l.all fun f=>(P.info? f.type).isSome)=true-> ∀w:World,
 (l.mapM (m:=Sem) fun f=>do pure (f.offset, <-sizeOf f.type)).run P w= .ok (l.map fun f=>(f.offset,P.cellsOf f.type)) w
 |[], _,w=>by simp
 |f::l,h,w=>by
  simp only[List.all_cons,Bool.and_eq_true] at h
  obtain⟨i,hi⟩:=dB h.1
  have hs:P.cellsOf f.type=i.size:=by simp[Program.cellsOf,hi]
  have ih:=run_places l h.2 w
  simp only[List.mapM_cons,Sem.run_bind,de hi,Result.andThen_ok,Sem.run_pure,ih,List.map_cons,hs]
theorem JU {t:TypeId} {parts:Array (Nat×Value)} {ps:List (Nat×Value)} {cs:Array Value} (e:parts.toList=ps) (h:Cf P t ps=some cs) (w:World):
 (Instr.build t parts).run P w= .ok (.agg cs) w:=by
 unfold Cf at h
 split at h
 ·rename_i i hi
  split at h
  ·rename_i z hz
   unfold Instr.build zeroValue
   simp only[Sem.run_bind,gv hi,Result.andThen_ok,hz,Sem.run_pure]
   split at h
   ·rename_i fs hu
    split at h
    ·rename_i hall
     have ql:=run_places (P:=P) fs.toList (by simpa using hall) w
     have WE:(fs.mapM (m:=Sem) fun f=>do pure (f.offset, <-sizeOf f.type)).run P w= .ok (fs.map fun f=>(f.offset,P.cellsOf f.type)) w:=by
      rw[Array.mapM_eq_mapM_toList,Sem.run_map,ql]
      obtain⟨fl⟩:=fs
      simp
     have h':Instr.fill ((fs.map fun f=>(f.offset,P.cellsOf f.type))[·]?) z.cells ps=some cs:=by
      rw[<-vg h];congr 1;funext k;simp
     simp only[aW hu,Result.andThen_ok,Sem.run_bind,WE,e,h']
     rfl
    ·cases h
   ·rename_i n el hu
    split at h
    ·rename_i ie YE
     simp only[aW hu,Result.andThen_ok,Sem.run_bind,de YE,e,vg h]
     rfl
    ·cases h
   ·cases h
  ·cases h
 ·cases h
theorem Jb {o:Oper} {pr:PR} (hρ: ∀x v,ρ x=some v->ev x=v) (hc: ∀v,ev (.const v)=v) (h:pop P ρ o=some pr) (tU: ∀p,pr.ob=some p->p) (w:World):
 (execOp ev o).run P w= .ok (.value pr.v) w:=by
 obtain⟨dst,op,type,pos,after,guard⟩:=o
 unfold pop at h
 cases op<;>simp only at h<;>(try (cases h;done))<;>unfold execOp<;>simp only
 case move x=>
  split at h
  ·rename_i v hv;cases h;simp[hρ _ _ hv]
  ·cases h
 case assign x=>
  split at h
  ·rename_i v hv;cases h;simp[hρ _ _ hv]
  ·cases h
 case build t parts=>
  split at h
  ·rename_i ps hps
   split at h
   ·rename_i cs hcs
    cases h
    have e:=vh hρ hps
    have e':(parts.map fun(i,x)=>(i,ev x)).toList=ps:=by rw[<-e];simp
    simp[JU e' hcs]
   ·cases h
  ·cases h
 case nilCheck x=>
  split at h
  ·rename_i p hv
   cases h
   obtain⟨a,rfl⟩:=dB (tU _ rfl)
   simp[hρ _ _ hv]
  ·rename_i f fs cs hv
   cases h
   simp[hρ _ _ hv]
  ·cases h
 case binOp op t x y yt=>
  split at h
  ·rename_i a b ha hb
   have hb':=Nf (P:=P) (fun v hv=>by rw[<-hρ _ _ hb,hv,hc]) (fun v hv=>by rw[<-hρ _ _ ha,hv,hc]) h tU w
   simp only[hρ _ _ ha,hρ _ _ hb]
   rw[Sem.run_bind,hb']
   rfl
  ·cases h
 case unOp op t x=>
  split at h
  ·rename_i a ha
   simp only[hρ _ _ ha]
   unfold Xz at h
   split at h<;>(try cases h)<;>simp[Op.unary,Op.intArith,Op.intBits,bL,Ts]
  ·cases h
 case convert s d x=>
  split at h
  ·rename_i a ha
   simp only[hρ _ _ ha]
   unfold Pt at h
   split at h
   ·rename_i ds k k' n h1 h2
    cases h
    cases ds<;>simp[convert,aW h1,aW h2,Conv.intToInt,ax]
   ·rename_i h2 h3
    cases h
    simp[convert,aW h2,aW h3]
   ·cases h
  ·cases h
 case makeFunc fn first captured=>
  split at h
  ·rename_i a b ha hb
   cases h
   have e1:=jY hρ ha
   have e2:=jY hρ hb
   have Vq:first.map ev=⟨a⟩:=by rw[<-e1];cases first;simp
   have UQ:captured.map ev=⟨b⟩:=by rw[<-e2];cases captured;simp
   simp[Instr.makeFunc,Vq,UQ]
  ·cases h
 case slice t x lo hi mx=>
  split at h
  ·rename_i e p len cap hu hx
   split at h
   ·rename_i ie l hh m hi' hl Vr hm
    split at h
    ·cases h
    ·rename_i hno
     cases h
     obtain⟨h0,h1,h2,h3⟩:=tU _ rfl
     have WG: ¬ (hi.isNone=true/\mx.isSome=true):=by simpa using hno
     have hb:=mD (P:=P) (PN:=true) hρ hl Vr hm WG h0 h1 h2 h3 w
     simp only[hρ _ _ hx]
     simp[Instr.sliceAt,aW hu,Instr.slice,hb,de hi',af]
   ·cases h
  ·rename_i s hu hx
   split at h
   ·rename_i l hh hl Vr
    split at h
    ·cases h
    ·rename_i hno
     cases h
     obtain⟨h0,h1,h2⟩:=tU _ rfl
     have Si:mx=none:=by cases mx<;>simp_all
     subst Si
     have hb:=mD (P:=P) (PN:=false) (cap:=s.size) (mx:=none) hρ hl Vr rfl (by simp) h0 h1 h2 (by simp) w
     simp only[Option.map_none] at hb
     simp only[hρ _ _ hx]
     simp[Instr.sliceAt,aW hu,Instr.slice,hb]
   ·cases h
  ·cases h
 case fieldAddr s x f=>
  split at h
  ·rename_i p fd hx hf
   split at h
   ·rename_i i hi
    split at h
    ·cases h
    ·rename_i hz
     cases h
     obtain⟨a,rfl⟩:=dB (tU _ rfl)
     obtain⟨fs,hu,Vs⟩:=tr hf
     simp[Instr.fieldAt,aW hu,Vs,hρ _ _ hx,Instr.sureAddr,fieldPlace,de hi,hz,af]
   ·cases h
  ·cases h
 case field t x f=>
  split at h
  ·rename_i cs fd hx hf
   split at h
   ·rename_i v hv
    cases h
    obtain⟨fs,hu,Vs⟩:=tr hf
    simp[Instr.field,aW hu,Vs,hρ _ _ hx,asAgg,lf hv]
   ·cases h
  ·cases h
 case indexAddr t x ix=>
  split at h
  ·rename_i len e p k i hu hx wH
   split at h
   ·rename_i ie hi
    split at h
    ·cases h
    ·rename_i hl
     cases h
     obtain⟨hp,h0,h1⟩:=tU _ rfl
     obtain⟨a,rfl⟩:=dB hp
     simp[hρ _ _ hx,hρ _ _ wH,Bl a k i len hl hu hi h0 h1,af]
   ·cases h
  ·rename_i e p len cap k i hu hx wH
   split at h
   ·rename_i ie hi
    cases h
    obtain⟨hp,h0,h1⟩:=tU _ rfl
    obtain⟨a,rfl⟩:=dB hp
    simp[hρ _ _ hx,hρ _ _ wH,run_indexAt_slice a k i len cap hu hi h0 h1,af]
   ·cases h
  ·cases h
 case index t x ix=>
  split at h
  ·rename_i len e cs k i hu hx wH
   split at h
   ·rename_i ie hi
    split at h
    ·rename_i k2 n
     have hn:(Value.int k2 n)= .int k i:=by rw[<-hρ _ _ wH,hc]
     cases hn
     split at h
     ·rename_i hb
      split at h
      ·rename_i v hv
       cases h
       simp[Instr.index,asIntOf,aW hu,hρ _ _ hx,hc,hb.1,hb.2,de hi,lf hv]
      ·cases h
     ·cases h
    ·split at h
     ·rename_i k3 YF
      split at h
      ·rename_i ns YG
       split at h
       ·rename_i hlen
        cases h
        obtain⟨h0,h1⟩:=tU _ rfl
        have hlt:i.toNat<cs.length:=by omega
        have dn:=vN YG i.toNat hlt
        have hp:sW P e cs (i.toNat*ie.size)=some (.int k3 (BQ ns i)):=by
         rw[hlen.2,Nat.mul_one]
         unfold sW
         have:kj P e=some false:=by unfold kj;simp[YF]
         simp[this,dn,BQ]
        simp[Instr.index,asIntOf,aW hu,hρ _ _ hx,hρ _ _ wH,h0,h1,de hi,lf hp]
       ·cases h
      ·cases h
     ·cases h
   ·cases h
  ·rename_i s k i hu hx wH
   cases h
   obtain⟨h0,h1⟩:=tU _ rfl
   have hg:=JT h0 h1
   simp[Instr.index,asIntOf,aW hu,hρ _ _ hx,hρ _ _ wH,h0,hg,Pu]
  ·cases h
 case extract x i=>
  split at h
  ·rename_i vs hx
   split at h
   ·rename_i v hv
    cases h
    simp[hρ _ _ hx,Instr.extract,hv]
   ·cases h
  ·cases h
 case call c=>
  obtain⟨callee,args,argTypes⟩:=c
  simp only at h
  split at h
  ·
   split at h
   ·rename_i x t ha ht
    have ea:args= #[x]:=by cases args;simp_all
    have et:argTypes= #[t]:=by cases argTypes;simp_all
    subst ea et
    split at h<;>(try cases h)
    ·rename_i hx hu
     simp[resolve,invoke,builtin,Builtin.len_,hρ _ _ hx,aW hu,goInt]
    ·rename_i hx hu
     simp[resolve,invoke,builtin,Builtin.len_,hρ _ _ hx,aW hu,goInt]
    ·rename_i hx hu
     simp[resolve,invoke,builtin,Builtin.len_,hρ _ _ hx,aW hu,goInt]
   ·cases h
  ·
   split at h
   ·rename_i x y ha
    have ea:args= #[x,y]:=by cases args;simp_all
    subst ea
    split at h<;>(try cases h)
    rename_i hx hy
    simp[resolve,invoke,builtin,Builtin.min_,Builtin.min2,hρ _ _ hx,hρ _ _ hy,jb]
   ·cases h
  ·split at h
   ·rename_i x y ha
    have ea:args= #[x,y]:=by cases args;simp_all
    subst ea
    split at h<;>(try cases h)
    rename_i hx hy
    simp[resolve,invoke,builtin,Builtin.max_,Builtin.max2,hρ _ _ hx,hρ _ _ hy,Ai]
   ·cases h
  ·cases h
end
end Go.RX
namespace Go.RX
structure bD where
 t:Nat
 ch:List (Nat×Bool)
 g:Option Bool
 v:Value
 k:Option Bool
def a8:List bD->Nat->Option bD
 |[], _=>none
 |e::r,t=>if e.t=t then some e else a8 r t
structure Entry (P:Program) where
 f:FuncId
 fn:List Value->Option (Prop×Value)
 ok: ∀args pre v,fn args=some (pre,v)->pre-> ∀w,Calls P f ⟨args⟩ w (fun e w'=>e= .returned v/\Ext w w')
structure dD (P:Program) where
 qc:List (Entry P)
 quiet:List FuncId
 sh:List (FuncId×Sh)
 mixed:P.follows .mixedOrders=true
 sX:Bool:=false
 cl:List (TypeId×Sc):=[]
 dyn:Option Sh:=none
def Jc:List (FuncId×Sh)->FuncId->Option Sh
 |[], _=>none
 |(g,s)::r,f=>if g=f then some s else Jc r f
def rR {P:Program} (C:dD P) (f:FuncId):Sh:=
 match Jc C.sh f with
 |some s=>s
 |none=>TW P f
def Jd:List (TypeId×Sc)->TypeId->Option Sc
 |[], _=>none
 |(g,s)::r,t=>if g=t then some s else Jd r t
def UR {P:Program} (C:dD P) (t:TypeId):Option El:=
 match tZ P t with
 |some (.one .func)=>match Jd C.cl t with
  |some s=>some (.one s)
  |none=>some (.one .func)
 |e=>e
def qz {P:Program}:List (Entry P)->FuncId->Option (Entry P)
 |[], _=>none
 |e::r,f=>if e.f=f then some e else qz r f
def dg (first:Array Value) (aag:List Value) (cap:Array Value):List Value:=first.toList++(aag++cap.toList)
def a_ (P:Program) (fid:FuncId):Bool:=
 match P.funcs[fid]? with
 |some fn=>fn.body.isSome&& !(fn.name== "runtime.NumGoroutine")
 |none=>false
def ah (P:Program) (f:FuncId) (args:List Value) (w:World) (v:Value):Prop:=
 ∀w',Ext w w'->Calls P f ⟨args⟩ w' (fun e w''=>e= .returned v/\Ext w' w'')
def an (P:Program) (f:FuncId) (s:Sh) (args:List Value) (w:World) (R:s.T->World->Prop):Prop:=
 Calls P f ⟨args⟩ w (fun e w'=> ∃x:s.T,e= .returned (s.gi x)/\R x w')
theorem an.mono {P:Program} {f:FuncId} {s:Sh} {args:List Value} {w:World} {R R':s.T->World->Prop} (h:an P f s args w R) (k: ∀x w',R x w'->R' x w'):an P f s args w R':=
 Calls.mono h fun _ w' ⟨x,he,hr⟩=>⟨x,he,k x w' hr⟩
def dI (_:Nat) (_:Op):Prop:=False
def cg (w:World) (p:Option Addr):(e:El)->e.T->Prop
 | .one s,x=> ∃a,p=some a/\w.cell? a=some (s.gi x)
 | .agg l,x=> ∃a,p=some a/\ ∀i,i<l.length->w.cell? (a.add i)=(aP l x)[i]?
def lU:El->Nat->Bool
 | .one _, _=>false
 | .agg l,n=>l.length != n
def yG (w:World) (p:Option Addr) (n:Nat) (vs:List Value):Prop:=
 match p with
 |none=>vs=[]
 |some a=>vs.length=n/\ ∀i,i<n->w.cell? (a.add i)=vs[i]?
def MU (w:World) (p:Option Addr) (n:Nat):Prop:=
 ∃a,p=some a/\ ∀i,i<n->(w.cell? (a.add i)).isSome=true/\w.frozen? (a.add i)=false
def putAt (w:World) (a:Addr):List Value->Nat->World
 |[], _=>w
 |v::r,i=>putAt (w.setCell (a.add i) v) a r (i+1)
def fM (w:World) (p:Option Addr) (vs:List Value):World:=
 match p with
 |some a=>putAt w a vs 0
 |none=>w
def tV (w:World) (e:TypeId) (size bytes:Nat) (z:Array Value) (s x:Option Addr×Nat×Nat) (R:Option Addr×Nat×Nat->World->Prop):Prop:=
 ∃old new,yG w s.1 (s.2.1*size) old/\yG w x.1 (x.2.1*size) new/\
  (s.2.1+x.2.1<=s.2.2->(new=[]\/(MU w (s.1.map (·.add (s.2.1*size))) new.length/\new.all (·.oneCell')=true))/\
   R (s.1,s.2.1+x.2.1,s.2.2) (fM w (s.1.map (·.add (s.2.1*size))) new))/\
  (s.2.2<s.2.1+x.2.1->Builtin.nextslicecap (s.2.1+x.2.1) s.2.2*bytes<=2 ^ 48/\
   ∀c,s.2.1+x.2.1<=c->R (some ⟨w.heap.size,0,none⟩,s.2.1+x.2.1,c) (w.drew.alloc (.cells (⟨old⟩++⟨new⟩++Builtin.zeroCells z (c - (s.2.1+x.2.1))) e)))
def Vt (w:World) (size:Nat) (d x:Option Addr×Nat) (R:Int->World->Prop):Prop:=
 ∃new,yG w x.1 (Nat.min x.2 d.2*size) new/\(d.1=none\/new=[]\/(MU w d.1 new.length/\new.all (·.oneCell')=true))/\R (Nat.min x.2 d.2:Nat) (fM w d.1 new)
def ko (P:Program) (l:Nat) (args:List Value) (w:World) (R:Bool->World->Prop):Prop:=
 ∃rec,w.heap[l]? =some (.loop rec)/\args.length=rec.params.size/\
  RoundIn Fence.wide 0 P l rec.fn ((rec.params.zip ⟨args⟩).foldl (fun tmps (t,a)=>tmps.setIfInBounds t a) rec.tmps) rec.assign rec.body w
   (fun e w'=> ∃b,e= .returned (.bool b)/\R b w')
def iN (g:Option Bool) (p:Prop):Prop:=
 match g with
 |none=>p
 |some b=>b=true->p
@[reducible] def ag (w:World) (g:Option Bool) (p:Option Addr) (el:El) (K:el.T->Prop):Prop:= ∃x:el.T,iN g (cg w p el x)/\K x
@[reducible] def av (w:World) (p:Option Addr) (vs:List Value) (K:World->Prop):Prop:= ∀w1,Ext w w1->(vs.all (·.oneCell')=true/\MU w1 p vs.length)/\K (fM w1 p vs)
@[reducible] def aA (w:World) (cs:Array Value) (e:TypeId) (K:Nat->World->Prop):Prop:= ∀w1,Ext w w1->K w1.heap.size (w1.alloc (.cells cs e))
def az (P:Program) (f:FuncId) (s:Sh) (args:List Value) (w:World) (K:s.T->World->Prop):Prop:= ∀w1,Ext w w1->an P f s args w1 K
def Tt (bytes:Nat) (n m:Int):Prop:=0<=n/\n<=m/\m<2 ^ 63/\bytes*m<=2 ^ 48
def lV (z:Array Value) (n:Nat):Array Value:=(Array.range n).map ((if n=0 then #[] else z)[· % (if n=0 then #[] else z).size]!)
def BE (P:Program) (v:Value) (s:Sh) (aag:List Value) (w:World) (K:s.T->World->Prop):Prop:=
 ∀w1,Ext w w1-> ∃fid first cap,v= .func (.func fid) first cap/\a_ P fid=true/\an P fid s (dg first aag cap) w1 K
def BF (w:World) (bytes size:Nat) (n m:Int) (z:Array Value) (e:TypeId) (K:Nat->World->Prop):Prop:= ∀w1,Ext w w1->Tt bytes n m/\K w1.heap.size (w1.alloc (.cells (lV z (m.toNat*size)) e))
@[reducible] def aj (w:World) (K:World->Prop):Prop:= ∀w1,Ext w w1->K w1
def Qw (a b:List (Nat×Bool)):Bool:=a.all fun x=>b.contains x
def uE (env:List bD) (ch:List (Nat×Bool)):Operand->Option Value
 | .tmp t=>match a8 env t with
   |some ⟨_,c, _,v, _⟩=>if Qw c ch then some v else none
   |none=>none
 | .const v=>some v
 | .global g=>some (.pointer (some ⟨g,0,none⟩))
 | .func f=>some (.func (.func f) #[] #[])
def kP (ops:Array Oper) (j:Nat):Option Nat:=(ops[j]?).bind (·.dst)
def lit:Bool->Bool->Bool
 |true,x=>x
 |false,x=> !x
def WH (b:Bool):Option Bool->Option Bool
 |none=>some b
 |some g=>some (g&&b)
def gd (ops:Array Oper) (env:List bD) (o:Oper):Option (Option (List (Nat×Bool)×Option Bool)):=
 match o.guard with
 |none=>some (some ([],none))
 |some (j,b)=>match kP ops j with
  |some d=>match a8 env d with
   |some e=>match e.k with
    |some b'=>if b'=b then some (some ([],none)) else some none
    |none=>match e.v with
     | .bool x=>some (some ((j,b)::e.ch,WH (lit b x) e.g))
     | _=>none
   |none=>none
  |none=>none
def settle (j:Nat) (b:Bool) (e:bD):bD:=
 if e.ch.contains (j, !b) then⟨e.t,[],none,undef,none⟩
 else if e.ch.contains (j,b) then
  match e.ch.filter (fun x=>x != (j,b)) with
  |[]=>⟨e.t,[],none,e.v,none⟩
  |c::r=>⟨e.t,c::r,e.g,e.v,none⟩
 else e
def qA (ops:Array Oper) (N:Nat) (env:List bD) (ch:List (Nat×Bool)):Option Nat->Bool
 |none=>true
 |some d=>decide (d<N)&&ch.all (fun x=>kP ops x.1 != some d)&&env.all fun e=>e.ch.all fun x=>kP ops x.1 != some d
def ke (env:List bD) (d:Option Nat) (ch:List (Nat×Bool)) (g:Option Bool) (v:Value):List bD:=
 match d with
 |some d=>⟨d,ch,g,v,none⟩::env
 |none=>env
def Aj (env:List bD) (d:Option Nat) (ch:List (Nat×Bool)) (g:Option Bool) (v:Value) (K:List bD->Prop):Prop:=
 match d with
 |some d=>K (⟨d,ch,g,v,none⟩::env)
 |none=>K env
theorem zg {env:List bD} {d:Option Nat} {ch:List (Nat×Bool)} {g:Option Bool} {v:Value} {K:List bD->Prop}:Aj env d ch g v K=K (ke env d ch g v):=by cases d<;>rfl
def jG:List bD->(List bD->Prop)->Prop
 |[],K=>K []
 |⟨t,ch,g,v,k⟩::r,K=>jG r (fun r=>K (⟨t,ch,g,v,k⟩::r))
theorem iC: ∀{l:List bD} {K:List bD->Prop},jG l K=K l
 |[], _=>rfl
 |⟨_, _, _, _, _⟩::r,K=>by simp only[jG];exact iC
def Ng (ops:Array Oper) (t:Nat):Option Nat:=(List.range ops.size).find? fun j=>kP ops j==some t
def bA (w:World) (r:Nat) (es:Array MapEntry) (clock:Nat):Prop:=w.heap[r]? =some (.map es clock)
def mm (w:World) (p:Option Nat) (k:IntKind) (n:Int) (z v:Value):Prop:=
 ∃r es clock,p=some r/\bA w r es clock/\match Instr.findNow (.int k) (.int k n) es.toList 0 with
  |some none=>v=z
  |some (some (_,u))=>v=u
  |none=>False
def lO (w:World) (p:Option Nat) (k:IntKind) (n:Int) (z v:Value) (b:Bool):Prop:=
 ∃r es clock,p=some r/\bA w r es clock/\match Instr.findNow (.int k) (.int k n) es.toList 0 with
  |some none=>v=z/\b=false
  |some (some (_,u))=>v=u/\b=true
  |none=>False
def gL (w:World) (r:Nat) (k:IntKind) (n:Int) (val:Value) (es:Array MapEntry) (clock:Nat) (K:World->Prop):Prop:=
 match Instr.findNow (.int k) (.int k n) es.toList 0 with
 |some none=>K (w.putObj r (.map (es.push {key:= .int k n,val,born:=clock}) (clock+1)))
 |some (some (i, _))=>K (w.putObj r (.map (es.modify i fun e=>{e with key:= .int k n,val}) clock))
 |none=>False
def Ip (w:World) (r:Nat) (k:IntKind) (n:Int) (es:Array MapEntry) (clock:Nat) (K:World->Prop):Prop:=
 match Instr.findNow (.int k) (.int k n) es.toList 0 with
 |some none=>K (w.putObj r (.map es clock))
 |some (some (i, _))=>K (w.putObj r (.map (es.eraseIdxIfInBounds i) clock))
 |none=>False
def XA (w:World) (p:Option Nat) (K:Nat->World->Prop):Prop:= ∀w1,Ext w w1-> ∃r es clock,p=some r/\bA w1 r es clock/\K w1.heap.size (w1.alloc (.mapIter (some r) clock #[] clock))
def XB (w:World) (p:Option Addr) (K0:World->Prop) (K1:Value->Value->World->Prop):Prop:= ∀w1,Ext w w1-> ∃(r m since:Nat) (seen:Array Nat) (last:Nat) (es:Array MapEntry) (clock:Nat),p=some ⟨r,0,none⟩/\w1.heap[r]? =some (.mapIter (some m) since seen last)/\bA w1 m es clock/\since<=last/\(∀e∈es.toList,e.born<since)/\
 ((∀e∈es.toList,seen.contains e.born=true)-> ∀w2,Ext w1 w2->K0 w2)/\
 ∀e∈es.toList,seen.contains e.born=false-> ∀w2,Ext w1 w2->K1 e.key e.val (w2.putObj r (.mapIter (some m) since (seen.push e.born) clock))
def BR (w:World) (p:Option Addr) (k v:Value):Prop:= ∃(r m since:Nat) (seen:Array Nat) (es:Array MapEntry) (clock:Nat) (e:MapEntry),p=some ⟨r,0,none⟩/\w.heap[r]? =some (.mapIter (some m) since (seen.push e.born) clock)/\bA w m es clock/\e∈es.toList/\(es.toList.map (·.born)).Nodup/\k=e.key/\v=e.val
def MV (w:World) (p:Option Nat) (n:Nat):Prop:= ∃r es clock,p=some r/\bA w r es clock/\n=es.size
def Pv (P:Program) (ops:Array Oper) (d i:Nat):Option El:=match ops.toList.find? fun o=>match o.op with
 | .extract (.tmp t) j=>t==d&&j==i
 | _=>false with
 |some o=>tZ P o.type
 |none=>none
def y9 (P:Program) (ρ:Operand->Option Value) (c:Call):Option (Option Nat):=match c.args.toList,c.argTypes.toList with
 |[x],[t]=>match P.underlying t,ρ x with
  |some (.map _ _),some (.map p)=>some p
  | _, _=>none
 | _, _=>none
def qd {P:Program} (C:dD P) (ops:Array Oper) (env:List bD) (ch:List (Nat×Bool)) (g:Option Bool) (o:Oper) (w:World) (K:Value->Prop):Prop:=
 let ρ:=uE env ch
 match o.op with
 | .load t x=>match ρ x,UR C t,P.info? t with
   |some (.pointer p),some el,some i=>if lU el i.size=true then dI 1 o.op else ag w g p el (fun x=>K (el.gi x))
   | _, _, _=>dI 2 o.op
 | .lookup xt m ix ok=>match ok,P.underlying xt,ρ m,ρ ix with
   |false,some (.map kt et),some (.map p),some (.int k n)=>match P.underlying kt,tZ P et,P.info? et with
    |some (.int k'),some el,some i=>match i.zero with
     |some z=>if k=k' then∃x:el.T,iN g (mm w p k n z (el.gi x))/\K (el.gi x) else dI 51 o.op
     |none=>dI 52 o.op
    | _, _, _=>dI 53 o.op
   |true,some (.map kt et),some (.map p),some (.int k n)=>match P.underlying kt,tZ P et,P.info? et with
    |some (.int k'),some el,some i=>match i.zero with
     |some z=>if k=k' then∃x:el.T, ∃b:Bool,iN g (lO w p k n z (el.gi x) b)/\K (.tuple ⟨[el.gi x,.bool b]⟩) else dI 51 o.op
     |none=>dI 52 o.op
    | _, _, _=>dI 53 o.op
   | _, _, _, _=>dI 54 o.op
 | .pick c x y=>match c with
   | .tmp t=>match a8 env t with
     |some ec=>match ec.k with
      |some true=>match ρ x with
       |some v=>K v
       |none=>dI 31 o.op
      |some false=>match ρ y with
       |some v=>K v
       |none=>dI 32 o.op
      |none=>match Ng ops t with
       |some j=>match ρ c,uE env ((j,true)::ch) x,uE env ((j,false)::ch) y with
        |some (.bool b),some (.bool u),some (.bool v)=>match x,y with
         | _,.const (.bool false)=>K (.bool (b&&u))
         | .const (.bool true), _=>K (.bool (b||v))
         | _, _=>K (.bool (bif b then u else v))
        | _, _, _=>dI 3 o.op
       |none=>dI 4 o.op
     |none=>dI 33 o.op
   | _=>dI 5 o.op
 | .entry it=>match ρ it,o.dst with
   |some (.pointer p),some d=>match Pv P ops d 0,Pv P ops d 1 with
    |some e0,none=> ∃x:e0.T, ∃v:Value,iN g (BR w p (e0.gi x) v)/\K (.tuple ⟨[e0.gi x,v]⟩)
    |some e0,some e1=> ∃x:e0.T, ∃y:e1.T,iN g (BR w p (e0.gi x) (e1.gi y))/\K (.tuple ⟨[e0.gi x,e1.gi y]⟩)
    |none,some e1=> ∃v:Value, ∃y:e1.T,iN g (BR w p v (e1.gi y))/\K (.tuple ⟨[v,e1.gi y]⟩)
    |none,none=>dI 71 o.op
   | _, _=>dI 72 o.op
 | .call c=>match c.callee with
   | .builtin .len=>match y9 P ρ c with
     |some p=> ∃n:Nat,iN g (MV w p n)/\K (.int .i64 n)
     |none=>match pop P ρ o with
      |some ⟨none,v⟩=>K v
      |some ⟨some p,v⟩=>iN g p/\K v
      |none=>dI 9 o.op
   | .value f=>match ρ f,maps ρ c.args.toList with
     |some (.func (.func fid) first cap),some aag=>
      if a_ P fid=true then
       match qz C.qc fid with
       |some e=>match e.fn (dg first aag cap) with
        |some (pre,v)=>iN g pre/\K v
        |none=>dI 6 o.op
       |none=> ∃x:(rR C fid).T,iN g (ah P fid (dg first aag cap) w ((rR C fid).gi x))/\K ((rR C fid).gi x)
      else dI 7 o.op
     | _, _=>dI 8 o.op
   | _=>match pop P ρ o with
     |some ⟨none,v⟩=>K v
     |some ⟨some p,v⟩=>iN g p/\K v
     |none=>dI 9 o.op
 | _=>match pop P ρ o with
   |some ⟨none,v⟩=>K v
   |some ⟨some p,v⟩=>iN g p/\K v
   |none=>dI 10 o.op
def Qx (P:Program) (e:TypeId):Array Value:=match P.info? e with
 |some i=>match i.zero with
  |some z=>z.cells
  |none=> #[]
 |none=> #[]
def rY (v:Value):List Value:=v.cells.toList
def AF (vs:List Value):Bool:=vs.all (·.oneCell')
def Vu {P:Program} (C:dD P) (ρ:Operand->Option Value) (o:Oper) (w:World) (K:Value->World->Prop):Prop:=
 match o.op with
 | .store t x y=>match ρ x,ρ y,P.info? t with
   |some (.pointer p),some v,some i=>if(rY v).length=i.size then
     av w p (rY v) (fun w2=>K undef w2)
    else dI 11 o.op
   | _, _, _=>dI 12 o.op
 | .alloc e=>match P.info? e with
   |some i=>match i.zero with
    |some z=>match Nat.blt 64 i.size with
     |true=>aA w (Qx P e) e (fun b w2=>K (.pointer (some ⟨b,0,none⟩)) w2)
     |false=>aA w z.cells e (fun b w2=>K (.pointer (some ⟨b,0,none⟩)) w2)
    |none=>dI 13 o.op
   |none=>dI 14 o.op
 | .box e x=>match ρ x with
   |some v=>aA w v.cells e (fun b w2=>K (.pointer (some ⟨b,0,none⟩)) w2)
   |none=>dI 15 o.op
 | .buildSlice t len parts=>match P.underlying t,pairs ρ parts.toList with
   |some (.slice e),some ps=>match P.info? e with
    |some i=>match i.zero with
     |some z=>match xx (fun k=>some (k*i.size,i.size)) ⟨(List.range (len*i.size)).map (z.cells.toList[· % z.cells.toList.length]!)⟩ ps with
      |some cs=>if len*i.size<=2 ^ 24 then aA w cs e (fun b w2=>K (.slice (some ⟨b,0,none⟩) len len) w2) else dI 101 o.op
      |none=>dI 102 o.op
     |none=>dI 103 o.op
    |none=>dI 104 o.op
   | _, _=>dI 105 o.op
 | .makeSlice t l c=>match P.underlying t,ρ l,ρ c with
   |some (.slice e),some (.int _ n),some (.int _ m)=>match P.info? e with
    |some i=>match i.zero with
     |some z=>BF w i.bytes i.size n m z.cells e (fun b w2=>K (.slice (some ⟨b,0,none⟩) n.toNat m.toNat) w2)
     |none=>dI 106 o.op
    |none=>dI 107 o.op
   | _, _, _=>dI 108 o.op
 | .mapUpdate t m x v=>match P.underlying t,ρ m,ρ x,ρ v with
   |some (.map kt _),some (.map p),some (.int k n),some val=>match P.underlying kt with
    |some (.int k')=>if k=k' then∀w1,Ext w w1-> ∃r es clock,p=some r/\bA w1 r es clock/\gL w1 r k n val es clock (fun w2=>K undef w2) else dI 55 o.op
    | _=>dI 56 o.op
   | _, _, _, _=>dI 57 o.op
 | .insert t m x v=>match P.underlying t,ρ m,ρ x,ρ v with
   |some (.map kt _),some (.map p),some (.int k n),some val=>match P.underlying kt with
    |some (.int k')=>if k=k' then∀w1,Ext w w1-> ∃r es clock,p=some r/\bA w1 r es clock/\gL w1 r k n val es clock (fun w2=>K undef w2) else dI 55 o.op
    | _=>dI 56 o.op
   | _, _, _, _=>dI 57 o.op
 | .makeMap _ r=>match r with
   |none=> ∀w1,Ext w w1->K (.map (some w1.heap.size)) (w1.alloc (.map #[] 0))
   |some _=>dI 109 o.op
 | .range xt x=>match P.underlying xt,ρ x with
   |some (.map _ _),some (.map p)=>XA w p (fun b w2=>K (.pointer (some ⟨b,0,none⟩)) w2)
   | _, _=>dI 73 o.op
 | .next it b=>match b,ρ it with
   |false,some (.pointer p)=>XB w p (fun w2=>K (.tuple ⟨[.bool false]⟩) w2) (fun k v w2=>K (.tuple ⟨[.bool true,k,v]⟩) w2)
   | _, _=>dI 74 o.op
 | .call c=>match c.callee with
   | .builtin .delete=>match c.args.toList,c.argTypes.toList with
     |[m,x],[t, _]=>match P.underlying t,ρ m,ρ x with
      |some (.map kt _),some (.map p),some (.int k n)=>match P.underlying kt with
       |some (.int k')=>if k=k' then∀w1,Ext w w1-> ∃r es clock,p=some r/\bA w1 r es clock/\Ip w1 r k n es clock (fun w2=>K (.tuple ⟨[]⟩) w2) else dI 75 o.op
       | _=>dI 76 o.op
      | _, _, _=>dI 77 o.op
     | _, _=>dI 78 o.op
   | .builtin .append=>match c.args.toList,c.argTypes.toList with
     |[s,x],[t,u]=>match P.underlying t,P.underlying u,ρ s,ρ x with
      |some (.slice e),some (.slice _),some (.slice p n m),some (.slice q k l)=>match P.info? e with
       |some i=>match i.zero with
        |some z=>if i.bytes=0 then dI 110 o.op else∀w1,Ext w w1->tV w1 e i.size i.bytes z.cells (p,n,m) (q,k,l) (fun r w2=>K (.slice r.1 r.2.1 r.2.2) w2)
        |none=>dI 111 o.op
       |none=>dI 112 o.op
      | _, _, _, _=>dI 113 o.op
     | _, _=>dI 114 o.op
   | .builtin .copy=>match c.args.toList,c.argTypes.toList with
     |[s,x],[t, _]=>match P.underlying t,ρ s,ρ x with
      |some (.slice e),some (.slice p n _),some (.slice q k _)=>match P.info? e with
       |some i=> ∀w1,Ext w w1->Vt w1 i.size (p,n) (q,k) (fun r w2=>K (.int .i64 r) w2)
       |none=>dI 115 o.op
      | _, _, _=>dI 116 o.op
     | _, _=>dI 117 o.op
   | .value f=>match C.dyn,f with
    |some s,.tmp t=>match ρ (.tmp t),maps ρ c.args.toList with
     |some v,some aag=>BE P v s aag w (fun x w2=>K (s.gi x) w2)
     | _, _=>dI 70 o.op
    | _, _=>match ρ f,maps ρ c.args.toList with
     |some (.func (.yield l) first _),some aag=> ∀w1,Ext w w1->ko P l (first.toList++aag) w1 (fun b w2=>K (.bool b) w2)
     |some (.func (.func fid) first cap),some aag=>
      if a_ P fid=true then
       az P fid (rR C fid) (dg first aag cap) w (fun x w2=>K ((rR C fid).gi x) w2)
      else dI 16 o.op
     | _, _=>dI 17 o.op
   | _=>dI 18 o.op
 | _=>dI 19 o.op
def aB (b:Bool) (x y:Prop):Prop:=match b with
 |true=>x
 |false=>y
theorem aa {b:Bool} {x y:Prop} (hx:b=true->x) (hy:b=false->y):aB b x y:=by
 cases b
 ·exact hy rfl
 ·exact hx rfl
theorem AG {b:Bool} {x y:Prop} (h:aB b x y) (e:b=true):x:=by subst e;exact h
theorem xI {b:Bool} {x y:Prop} (h:aB b x y) (e:b=false):y:=by subst e;exact h
def IL {P:Program} (C:dD P) (ρ:Operand->Option Value) (o:Oper):Bool:=
 match o.op with
 | .store .. | .alloc _| .box .. | .buildSlice .. | .makeSlice .. | .makeMap .. | .mapUpdate .. | .insert .. | .range .. | .next .. =>true
 | .call c=>match c.callee with
   | .value f=>match C.dyn,f with
    |some _,.tmp _=>true
    | _, _=>match ρ f with
     |some (.func (.func fid) _ _)=> !((qz C.qc fid).isSome||C.quiet.contains fid)
     | _=>true
   | .builtin .append=>true
   | .builtin .copy=>true
   | .builtin .delete=>true
   | _=>false
 | _=>false
def shared:Op->Bool
 | .binOp .. =>true
 | .convert .. =>true
 | .call _=>true
 | _=>false
def u9 {P:Program} (C:dD P) (o:Oper) (v:Value) (K:Value->Prop):Prop:=
 match C.sX&&shared o.op,v with
 |true,.int k e=> ∀x,x=e->K (.int k x)
 | _, _=>K v
theorem pU {P:Program} {C:dD P} {o:Oper} {v:Value} {K:Value->Prop} (h:u9 C o v K):K v:=by
 unfold u9 at h
 split at h
 ·exact h _ rfl
 ·exact h
def Iq {P:Program} (C:dD P) (ops:Array Oper) (N:Nat) (o:Oper):Nat->List bD->World->(List bD->World->Prop)->Prop
 |0, _, _, _=>dI 20 o.op
 |n+1,env,w,K=>match gd ops env o with
  |none=>dI 21 o.op
  |some none=>if qA ops N env [] o.dst then Aj env o.dst [] none undef (fun env=>K env w) else dI 25 o.op
  |some (some (ch,g))=>
   if qA ops N env ch o.dst then
    if IL C (uE env ch) o then
     match ch.getLast? with
     |none=>Vu C (uE env []) o w (fun v w2=>Aj env o.dst [] none v (fun env=>K env w2))
     |some (j, _)=>match kP ops j with
      |some d=>match a8 env d with
       |some e=>match e.v with
        | .bool x=>if e.ch.isEmpty then
           aB x (jG (env.map (settle j true)) fun env=>Iq C ops N o n (⟨d,[],none,.bool true,some true⟩::env) w K)
            (jG (env.map (settle j false)) fun env=>Iq C ops N o n (⟨d,[],none,.bool false,some false⟩::env) w K)
          else dI 22 o.op
        | _=>dI 26 o.op
       |none=>dI 27 o.op
      |none=>dI 28 o.op
    else qd C ops env ch g o w (fun v=>u9 C o v (fun v=>Aj env o.dst ch g v (fun env=>K env w)))
   else dI 24 o.op
def Ak {P:Program} (C:dD P) (ops:Array Oper) (N:Nat) (i:Nat) (env:List bD) (w:World) (K:List bD->World->Prop):Prop:=
 match ops[i]? with
 |none=>False
 |some ⟨dst,op,type,pos,after,guard⟩=>Iq C ops N ⟨dst,op,type,pos,after,guard⟩ 40 env w K
def Vv {P:Program} (C:dD P) (ops:Array Oper) (N:Nat):List Nat->List bD->World->(List bD->World->Prop)->Prop
 |[],env,w,K=>K env w
 |i::r,env,w,K=>Ak C ops N i env w (fun env w=>Vv C ops N r env w K)
end Go.RX
namespace Go.RX
def iJ (ops:Array Oper) (tmps:Array Value) (ch:List (Nat×Bool)):Prop:= ∀x∈ch,yielded ops tmps x.1=some x.2
def ME (ops:Array Oper) (tmps:Array Value) (ch:List (Nat×Bool)):Option Bool->Prop
 |none=>ch=[]
 |some γ=>ch≠[]/\(γ=true<->iJ ops tmps ch)
structure Fit (S:Nat->Option (Option Value)) (ops:Array Oper) (N:Nat) (D:List Deferred) (env:List bD) (a:Act):Prop where
 off: ∀t x,S t=some x->a.tmps[t]? =x
 size:a.tmps.size=N
 oB:a.defers=D
 yes: ∀t e,a8 env t=some e->iJ ops a.tmps e.ch->a.tmps[t]? =some e.v
 no: ∀t e,a8 env t=some e-> ¬ iJ ops a.tmps e.ch->a.tmps[t]? =some undef
 BG: ∀e∈env,ME ops a.tmps e.ch e.g
 yH: ∀e∈env, ∀b,e.k=some b->e.v= .bool b/\e.ch=[]
theorem bF: ∀{env:List bD} {t:Nat} {e:bD},a8 env t=some e->e∈env
 |[], _, _,h=>by simp[a8] at h
 |x::r,t,e,h=>by
  simp only[a8] at h
  split at h
  ·cases h;exact List.mem_cons_self
  ·exact List.mem_cons_of_mem _ (bF h)
theorem Nh {a b:List (Nat×Bool)} (h:Qw a b=true) {ops:Array Oper} {tmps:Array Value} (hb:iJ ops tmps b):iJ ops tmps a:=fun x hx=>by
 simp only[Qw,List.all_eq_true] at h
 exact hb x (by simpa using h x hx)
variable {S:Nat->Option (Option Value)} {ops:Array Oper} {N:Nat} {D:List Deferred} {env:List bD} {a:Act}
theorem Fit.ev (h:Fit S ops N D env a) {ch:List (Nat×Bool)} (hc:iJ ops a.tmps ch) {x:Operand} {v:Value} (hx:uE env ch x=some v):a.eval x=v:=by
 cases x with
 |tmp t=>
  simp only[uE] at hx
  split at hx
  ·rename_i t1 c1 g1 v1 k1 he
   split at hx
   ·rename_i hs
    cases hx
    have:=h.yes t _ he (Nh hs hc)
    simp[Act.eval,this]
   ·cases hx
  ·cases hx
 |const v=>simp only[uE,Option.some.injEq] at hx;simp[Act.eval,hx]
 |global g=>simp only[uE,Option.some.injEq] at hx;simp[Act.eval,hx]
 |func f=>simp only[uE,Option.some.injEq] at hx;simp[Act.eval,hx]
theorem Bm {j:Nat} {d:Option Nat} {u:Value} (h: ∀k,d=some k->kP ops j≠some k):yielded ops (a.put d u).tmps j=yielded ops a.tmps j:=by
 cases d with
 |none=>rfl
 |some k=>
  have hk:=h k rfl
  unfold yielded
  unfold kP at hk
  cases ht:(ops[j]?).bind (·.dst) with
  |none=>rfl
  |some t=>
   have hne:k≠t:=fun e=>hk (by rw[ht,e])
   simp[Act.put,Array.getElem?_setIfInBounds_ne hne]
theorem D6 {ch:List (Nat×Bool)} {d:Option Nat} {u:Value} (h: ∀k,d=some k->ch.all (fun x=>kP ops x.1 != some k)=true):iJ ops (a.put d u).tmps ch<->iJ ops a.tmps ch:=by
 have: ∀x∈ch,yielded ops (a.put d u).tmps x.1=yielded ops a.tmps x.1:=fun x hx=>Bm fun k hk=>by
  have:=List.all_eq_true.1 (h k hk) x hx
  simpa using this
 constructor
 ·intro hh x hx;rw[<-this x hx];exact hh x hx
 ·intro hh x hx;rw[this x hx];exact hh x hx
theorem Fit.put (h:Fit S ops N D env a) {ch:List (Nat×Bool)} {g:Option Bool} {d:Option Nat} {v u:Value} (hp:qA ops N env ch d=true) (hS: ∀k,d=some k->S k=none)
 (hg:ME ops a.tmps ch g) (h1:iJ ops a.tmps ch->u=v) (h0: ¬ iJ ops a.tmps ch->u=undef):Fit S ops N D (ke env d ch g v) (a.put d u):=by
 cases d with
 |none=>exact h
 |some k=>
  simp only[qA,Bool.and_eq_true,decide_eq_true_eq] at hp
  obtain⟨⟨hk,hc⟩,he⟩:=hp
  have c0:iJ ops (a.put (some k) u).tmps ch<->iJ ops a.tmps ch:=D6 fun k' hk'=>by cases hk';exact hc
  have c1: ∀e∈env,(iJ ops (a.put (some k) u).tmps e.ch<->iJ ops a.tmps e.ch):=fun e hm=>D6 fun k' hk'=>by
   cases hk';exact List.all_eq_true.1 he e hm
  have hlt:k<a.tmps.size:=by rw[h.size];exact hk
  refine⟨fun t x hx=>?_,by simp[Act.put,h.size],h.oB,?_,?_,?_,?_⟩
  ·have hne:k≠t:=fun e=>by subst e;rw[hS k rfl] at hx;cases hx
   simp[Act.put,Array.getElem?_setIfInBounds_ne hne,h.off t x hx]
  ·intro t e hf nP
   simp only[ke,a8] at hf
   split at hf
   ·rename_i iK
    cases hf
    subst iK
    simp[Act.put,hlt,h1 (c0.1 nP)]
   ·rename_i iK
    have:=h.yes t e hf ((c1 e (bF hf)).1 nP)
    simp[Act.put,Array.getElem?_setIfInBounds_ne iK,this]
  ·intro t e hf nP
   simp only[ke,a8] at hf
   split at hf
   ·rename_i iK
    cases hf
    subst iK
    simp[Act.put,hlt,h0 (fun hh=>nP (c0.2 hh))]
   ·rename_i iK
    have:=h.no t e hf (fun hh=>nP ((c1 e (bF hf)).2 hh))
    simp[Act.put,Array.getElem?_setIfInBounds_ne iK,this]
  ·intro e hm
   have key: ∀(ch:List (Nat×Bool)) (g:Option Bool),(iJ ops (a.put (some k) u).tmps ch<->iJ ops a.tmps ch)->ME ops a.tmps ch g->ME ops (a.put (some k) u).tmps ch g:=by
    intro ch g Vw Ie
    cases g with
    |none=>exact Ie
    |some γ=>exact⟨Ie.1,Ie.2.trans Vw.symm⟩
   simp only[ke,List.mem_cons] at hm
   rcases hm with rfl|hm
   ·exact key _ _ c0 hg
   ·exact key _ _ (c1 e hm) (h.BG e hm)
  ·intro e hm b hb
   simp only[ke,List.mem_cons] at hm
   rcases hm with rfl|hm
   ·cases hb
   ·exact h.yH e hm b hb
def rZ:Value->Option Bool
 | .bool b=>some b
 | _=>none
theorem jL {j d:Nat} (hd:kP ops j=some d) {v:Value} (hv:a.tmps[d]? =some v):yielded ops a.tmps j=rZ v:=by
 unfold yielded
 unfold kP at hd
 simp only[hd,Option.bind_some,hv]
 cases v<;>rfl
theorem fH:iJ ops a.tmps []:=fun x hx=>by cases hx
theorem IM (h:Fit S ops N D env a) {o:Oper} {ch:List (Nat×Bool)} {g:Option Bool} (hg:gd ops env o=some (some (ch,g))):
 ME ops a.tmps ch g/\(Region.wanted o (yielded ops a.tmps)=true<->iJ ops a.tmps ch):=by
 unfold gd at hg
 unfold Region.wanted
 split at hg
 ·rename_i ho
  cases hg
  exact⟨rfl,by simp[iJ,ho]⟩
 ·rename_i j b ho
  split at hg
  ·rename_i d hd
   split at hg
   ·rename_i e he
    split at hg
    ·rename_i b' hk
     obtain⟨hv,nP⟩:=h.yH e (bF he) b' hk
     have hy:=jL (a:=a) hd (h.yes d e he (by rw[nP];exact fH))
     rw[hv] at hy
     split at hg
     ·rename_i hb
      cases hg
      refine⟨rfl,?_⟩
      simp[ho,hy,rZ,hb,iJ]
     ·cases hg
    ·split at hg
     ·rename_i x hx
      cases hg
      have hw:(yielded ops a.tmps j=some b)<->iJ ops a.tmps e.ch/\x=b:=by
       by_cases hc:iJ ops a.tmps e.ch
       ·have h1:=h.yes d e he hc
        rw[jL (a:=a) hd h1,hx]
        simp[rZ,hc]
       ·have h1:=h.no d e he hc
        rw[jL (a:=a) hd h1]
        simp[undef,rZ,hc]
      have nP:iJ ops a.tmps ((j,b)::e.ch)<->yielded ops a.tmps j=some b:=by
       constructor
       ·intro hh;exact hh (j,b) List.mem_cons_self
       ·intro hh y hy'
        rcases List.mem_cons.1 hy' with rfl|hy'
        ·exact hh
        ·exact(hw.1 hh).1 y hy'
      refine⟨?_,?_⟩
      ·have hge:=h.BG e (bF he)
       cases Ie:e.g with
       |none=>
        rw[Ie] at hge
        have Qy:iJ ops a.tmps e.ch:=by rw[show e.ch=[] from hge];intro y hy';cases hy'
        refine⟨by simp,?_⟩
        show(_=true<-> _)
        rw[nP,hw]
        cases b<;>simp[Qy,lit]
       |some γ=>
        rw[Ie] at hge
        refine⟨by simp,?_⟩
        show(_=true<-> _)
        rw[nP,hw, <-hge.2]
        cases b<;>simp[lit]
      ·rw[nP]
       simp[ho]
     ·cases hg
   ·cases hg
  ·cases hg
theorem zh (h:Fit S ops N D env a) {o:Oper} (hg:gd ops env o=some none):Region.wanted o (yielded ops a.tmps)=false:=by
 unfold gd at hg
 unfold Region.wanted
 split at hg
 ·cases hg
 ·rename_i j b ho
  split at hg
  ·rename_i d hd
   split at hg
   ·rename_i e he
    split at hg
    ·rename_i b' hk
     obtain⟨hv,nP⟩:=h.yH e (bF he) b' hk
     have hy:=jL (a:=a) hd (h.yes d e he (by rw[nP];exact fH))
     rw[hv] at hy
     split at hg
     ·cases hg
     ·rename_i hb
      simp[ho,hy,rZ,hb]
    ·split at hg<;>cases hg
   ·cases hg
  ·cases hg
theorem sg {f:bD->bD} (hf: ∀e,(f e).t=e.t): ∀{l:List bD} {t:Nat} {e:bD},a8 (l.map f) t=some e-> ∃e0,a8 l t=some e0/\e=f e0
 |[], _, _,h=>by simp[a8] at h
 |x::r,t,e,h=>by
  simp only[List.map_cons,a8,hf] at h ⊢
  split at h
  ·rename_i ht;cases h;exact⟨x,by rw[if_pos ht],rfl⟩
  ·rename_i ht;rw[if_neg ht];exact sg hf h
theorem AH (j:Nat) (b:Bool) (e:bD):(settle j b e).t=e.t:=by
 unfold settle
 split
 ·rfl
 ·split
  ·split<;>rfl
  ·rfl
theorem si {j:Nat} {b:Bool} (hy:yielded ops a.tmps j=some b) (e:bD) (hg:ME ops a.tmps e.ch e.g):
 ME ops a.tmps (settle j b e).ch (settle j b e).g/\(iJ ops a.tmps e.ch->iJ ops a.tmps (settle j b e).ch/\(settle j b e).v=e.v)/\(¬ iJ ops a.tmps e.ch->(¬ iJ ops a.tmps (settle j b e).ch\/(settle j b e).v=undef))/\
 (¬ iJ ops a.tmps (settle j b e).ch-> ¬ iJ ops a.tmps e.ch):=by
 unfold settle
 split
 ·rename_i hc
  have hn: ¬ iJ ops a.tmps e.ch:=fun hh=>by
   have:=hh (j, !b) (by simpa using hc)
   rw[hy] at this
   cases b<;>simp at this
  exact⟨rfl,fun hh=>absurd hh hn,fun _=> .inr rfl,fun hh=>absurd fH hh⟩
 ·split
  ·rename_i hnc hc
   have hiff:iJ ops a.tmps e.ch<->iJ ops a.tmps (e.ch.filter (fun x=>x != (j,b))):=by
    constructor
    ·intro hh x hx;exact hh x (List.mem_filter.1 hx).1
    ·intro hh x hx
     by_cases sK:x=(j,b)
     ·rw[sK];exact hy
     ·exact hh x (List.mem_filter.2 ⟨hx,by simpa using sK⟩)
   split
   ·rename_i hf
    rw[hf] at hiff
    exact⟨rfl,fun _=>⟨fH,rfl⟩,fun hh=>absurd (hiff.2 fH) hh,fun hh=>absurd fH hh⟩
   ·rename_i c r hf
    rw[hf] at hiff
    refine⟨?_,fun hh=>⟨hiff.1 hh,rfl⟩,fun hh=> .inl (fun h2=>hh (hiff.2 h2)),fun hh h2=>hh (hiff.1 h2)⟩
    cases Ie:e.g with
    |none=>rw[Ie] at hg;have:e.ch=[]:=hg;rw[this] at hc;simp at hc
    |some γ=>rw[Ie] at hg;exact⟨by simp,hg.2.trans hiff⟩
  ·exact⟨hg,fun hh=>⟨hh,rfl⟩,fun hh=> .inl hh,fun hh=>hh⟩
theorem Fit.settle (h:Fit S ops N D env a) {j d:Nat} {b:Bool} {e:bD} (hd:kP ops j=some d) (he:a8 env d=some e) (nP:e.ch=[]) (hv:e.v= .bool b):
 Fit S ops N D (⟨d,[],none,.bool b,some b⟩::env.map (settle j b)) a:=by
 have h1:=h.yes d e he (by rw[nP];exact fH)
 have hy:=jL (a:=a) hd h1
 rw[hv] at hy
 simp only[rZ] at hy
 refine⟨h.off,h.size,h.oB,?_,?_,?_,?_⟩
 ·intro t e1 hf hc
  simp only[a8] at hf
  split at hf
  ·rename_i ht
   cases hf
   subst ht
   rw[h1,hv]
  ·obtain⟨e0,HQ,rfl⟩:=sg (AH j b) hf
   obtain⟨_,s1,s2, _⟩:=si (a:=a) hy e0 (h.BG e0 (bF HQ))
   by_cases hc0:iJ ops a.tmps e0.ch
   ·rw[h.yes t e0 HQ hc0,(s1 hc0).2]
   ·rw[h.no t e0 HQ hc0]
    rcases s2 hc0 with hx|hx
    ·exact absurd hc hx
    ·rw[hx]
 ·intro t e1 hf hc
  simp only[a8] at hf
  split at hf
  ·cases hf;exact absurd fH hc
  ·obtain⟨e0,HQ,rfl⟩:=sg (AH j b) hf
   obtain⟨_, _, _,s3⟩:=si (a:=a) hy e0 (h.BG e0 (bF HQ))
   exact h.no t e0 HQ (s3 hc)
 ·intro e1 hm
  rcases List.mem_cons.1 hm with rfl|hm
  ·exact rfl
  ·obtain⟨e0,HQ,rfl⟩:=List.mem_map.1 hm
   exact(si (a:=a) hy e0 (h.BG e0 HQ)).1
 ·intro e1 hm b1 wT
  rcases List.mem_cons.1 hm with rfl|hm
  ·cases wT;exact⟨rfl,rfl⟩
  ·obtain⟨e0,HQ,rfl⟩:=List.mem_map.1 hm
   unfold RX.settle at wT ⊢
   split at wT
   ·cases wT
   ·rename_i wU
    rw[if_neg wU]
    split at wT
    ·split at wT<;>cases wT
    ·rename_i hn2
     rw[if_neg hn2]
     exact h.yH e0 HQ b1 wT
end Go.RX
namespace Go.RX
variable {P:Program}
def cN (P:Program) (o:Oper) (a:Act) (w:World) (v:Value):Prop:=
 match (execOp a.eval o).run P w with
 | .ok (.value u) w'=>w'=w/\u=v
 | .ok (.enter f args) w'=>w'=w/\Calls P f args w (fun e w''=>e= .returned v/\Ext w w'')
 | _=>False
theorem bK {o:Oper} {a:Act} {w:World} {v:Value} (h:(execOp a.eval o).run P w= .ok (.value v) w):cN P o a w v:=by
 unfold cN;rw[h];exact⟨rfl,rfl⟩
theorem bT: ∀(l:List Sc) (x:d_ l),(aP l x).length=l.length
 |[], _=>rfl
 | _::r,x=>by simp[aP,bT r x.2]
theorem tu {w:World} {a:Addr} {v:Value} (h:w.cell? a=some v):(load a).run P w= .ok v w:=by simp[h]
theorem run_loadCellsFrom {w:World} {a:Addr}: ∀(vs:List Value) (k:Nat) (acc:Array Value),(∀i,i<vs.length->w.cell? (a.add (k+i))=vs[i]?)->
 (loadCellsFrom a k vs.length acc).run P w= .ok (acc++vs.toArray) w
 |[],k,acc, _=>by simp[loadCellsFrom]
 |v::vs,k,acc,h=>by
  have h0:w.cell? (a.add k)=some v:=by simpa using h 0 (by simp)
  have ih:=run_loadCellsFrom vs (k+1) (acc.push v) (fun i hi=>by
   have:=h (i+1) (by simpa using hi)
   rw[show k+1+i=k+(i+1) by omega,this];rfl)
  simp only[List.length_cons,loadCellsFrom,Sem.run_bind,tu h0,Result.andThen_ok,ih]
  simp
theorem vi {w w':World} (h:Ext w w') {p:Option Addr} {el:El} {x:el.T} (hr:cg w p el x):cg w' p el x:=by
 cases el with
 |one s=>obtain⟨a,hp,hc⟩:=hr;exact⟨a,hp,h.cell hc⟩
 |agg l=>
  obtain⟨a,hp,hc⟩:=hr
  refine⟨a,hp,fun i hi=>?_⟩
  have h1:=hc i hi
  have hlt:i<(aP l x).length:=by have:=bT l x;omega
  rw[List.getElem?_eq_getElem hlt] at h1 ⊢
  exact h.cell h1
theorem qO {w:World} {a:Addr} {t:TypeId} {el:El} {ti:TypeInfo} {x:el.T} (he:tZ P t=some el) (hi:P.info? t=some ti)
 (hs: ¬ lU el ti.size=true) (hr:cg w (some a) el x):(loadVar t a).run P w= .ok (el.gi x) w:=by
 unfold loadVar
 cases el with
 |one s=>
  have Vx:kj P t=some false:=by
   unfold tZ at he
   unfold kj
   cases hu:P.underlying t with
   |none=>simp[hu,xq] at he
   |some d=>cases d<;>first|rfl|(simp only[hu] at he;simp[Option.map_eq_some_iff] at he)
  obtain⟨a',ha,hc⟩:=hr
  cases ha
  simp only[Sem.run_bind,se Vx,Result.andThen_ok,Bool.false_eq_true,if_false,tu hc]
  rfl
 |agg l=>
  have Vx:kj P t=some true:=by
   unfold tZ at he
   unfold kj
   cases hu:P.underlying t with
   |none=>simp[hu,xq] at he
   |some d=>cases d<;>first|rfl|(simp only[hu] at he;split at he<;>cases he)
  obtain⟨a',ha,hc⟩:=hr
  cases ha
  have hl:l.length=ti.size:=by simpa[lU] using hs
  have:=run_loadCellsFrom (P:=P) (w:=w) (a:=a) (aP l x) 0 #[] (by simpa[bT] using hc)
  rw[bT,hl] at this
  simp only[Sem.run_bind,se Vx,Result.andThen_ok,if_true,de hi,loadCells,this]
  simp[El.gi]
theorem Ni {C:dD P} {w:World} {a:Addr} {t:TypeId} {el:El} {ti:TypeInfo} {x:el.T} (he:UR C t=some el) (hi:P.info? t=some ti)
 (hs: ¬ lU el ti.size=true) (hr:cg w (some a) el x):(loadVar t a).run P w= .ok (el.gi x) w:=by
 unfold UR at he
 split at he
 ·rename_i h0
  split at he
  ·rename_i s hs'
   cases he
   have hr':cg w (some a) (.one .func) (s.gi x):=hr
   exact qO (el:= .one .func) h0 hi (by simp[lU]) hr'
  ·cases he
   exact qO h0 hi hs hr
 ·exact qO he hi hs hr
theorem D7: ∀{l:List (Entry P)} {f:FuncId} {e:Entry P},qz l f=some e->e.f=f
 |[], _, _,h=>by simp[qz] at h
 |x::r,f,e,h=>by
  simp only[qz] at h
  split at h
  ·cases h;assumption
  ·exact D7 h
theorem iH {g:Option Bool} {p:Prop} {ops:Array Oper} {tmps:Array Value} {ch:List (Nat×Bool)} (h:iN g p) (hg:ME ops tmps ch g) (hc:iJ ops tmps ch):p:=by
 cases g with
 |none=>exact h
 |some b=>exact h (hg.2.2 hc)
theorem rj {f:FuncId} {args:Array Value} {w:World}
 (h:a_ P f=true):
 (callFunc f args).run P w= .ok (.enter f args) w:=by
 unfold callFunc
 unfold a_ at h
 cases hf:P.funcs[f]? with
 |none=>simp[hf] at h
 |some fn=>
  simp only[hf,Bool.and_eq_true,Bool.not_eq_true'] at h
  have h2: ¬ (fn.name= "runtime.NumGoroutine"):=by simpa using h.2
  obtain⟨b,hb⟩:=dB h.1
  simp[hf,h2,hb]
theorem qP {ev:Operand->Value} {dst:Option Nat} {type:TypeId} {pos:String} {after:Array Edge} {guard:Option (Nat×Bool)} {f:Operand} {args:Array Operand} {ts:Array TypeId}
 {fid:FuncId} {first cap:Array Value} {aag:List Value} (hf:ev f= .func (.func fid) first cap) (ha:args.toList.map ev=aag) {w:World}
 (h:a_ P fid=true):
 (execOp ev ⟨dst,.call ⟨.value f,args,ts⟩,type,pos,after,guard⟩).run P w= .ok (.enter fid ⟨dg first aag cap⟩) w:=by
 have e:(first++args.map ev++cap:Array Value)=⟨dg first aag cap⟩:=by
  unfold dg
  rw[<-ha]
  obtain⟨l1⟩:=first;obtain⟨l2⟩:=args;obtain⟨l3⟩:=cap
  simp
 simp only[execOp,resolve,Deferred.ofValue,hf,Sem.run_bind,Sem.run_pure,Result.andThen_ok,invoke]
 rw[e]
 exact rj h
variable {S:Nat->Option (Option Value)} {ops:Array Oper} {N:Nat} {D:List Deferred} {env:List bD} {a:Act}
theorem vO {kd:IntKind} {n:Int}: ∀(l:List MapEntry) (i0 i:Nat) (v:Value),Instr.findNow (.int kd) (.int kd n) l i0=some (some (i,v))->i0<=i/\ ∃e,l[i - i0]? =some e/\e.key= .int kd n/\e.val=v
 |[], _, _, _,h=>by simp[Instr.findNow] at h
 |e::es,i0,i,v,h=>by
  unfold Instr.findNow at h
  split at h
  ·rename_i hs
   simp only[Option.some.injEq,Prod.mk.injEq] at h
   obtain⟨rfl,rfl⟩:=h
   refine⟨Nat.le_refl _,e,by simp,?_,rfl⟩
   cases hk:e.key<;>rw[hk] at hs<;>simp[Instr.sameNow] at hs
   obtain⟨rfl,rfl⟩:=hs
   rfl
  ·obtain⟨h1,e',h2,h3,h4⟩:=vO es (i0+1) i v h
   refine⟨by omega,e',?_,h3,h4⟩
   rw[show i - i0=(i - (i0+1))+1 by omega]
   simpa using h2
  ·cases h
theorem xJ {t kt et:TypeId} {kd:IntKind} {n:Int} {val:Value} {w:World} {r:Nat} {es:Array MapEntry} {clock:Nat} {K:World->Prop} (ht:P.underlying t=some (.map kt et)) (hk:P.underlying kt=some (.int kd)) (hb:bA w r es clock)
 (h:gL w r kd n val es clock K): ∃w2,(Instr.mapUpdate t (.map (some r)) (.int kd n) val).run P w= .ok () w2/\K w2:=by
 have hb':w.heap[r]? =some (.map es clock):=hb
 have hkey:MapKept.IsKey (.int kd) (.int kd n):=by simp[MapKept.IsKey]
 unfold gL at h
 split at h
 ·rename_i hf
  refine⟨_,?_,h⟩
  simp[Instr.mapUpdate,run_underlying ht,MapKept.run_getObj_map hb',MapKept.run_checkKey hk hkey,MapKept.run_findKey hk hf,MapKept.run_setObj_map _ hb',Result.andThen,World.putObj]
 ·rename_i i v hf
  obtain⟨_,e,he,YH, _⟩:=vO _ _ _ _ hf
  refine⟨_,?_,h⟩
  have he':es[i]? =some e:=by simpa using he
  simp[Instr.mapUpdate,run_underlying ht,MapKept.run_getObj_map hb',MapKept.run_checkKey hk hkey,MapKept.run_findKey hk hf,he',YH,Instr.keyThatStays,Instr.sameBits,MapKept.run_setObj_map _ hb',Result.andThen,World.putObj]
 ·exact h.elim
theorem JV {t kt et:TypeId} {kd:IntKind} {n:Int} {w:World} {p:Option Nat} {i:TypeInfo} {z v:Value} (ht:P.underlying t=some (.map kt et)) (hk:P.underlying kt=some (.int kd)) (hi:P.info? et=some i) (hz:i.zero=some z)
 (h:mm w p kd n z v):(Instr.lookup t (.map p) (.int kd n) false).run P w= .ok v w:=by
 obtain⟨r,es,clock,rfl,hb,hm⟩:=h
 have hb':w.heap[r]? =some (.map es clock):=hb
 have hkey:MapKept.IsKey (.int kd) (.int kd n):=by simp[MapKept.IsKey]
 split at hm
 ·rename_i hf
  subst hm
  simp[Instr.lookup,run_underlying ht,MapKept.run_getObj_map hb',MapKept.run_checkKey hk hkey,MapKept.run_findKey hk hf,zeroValue,gv hi,hz,Result.andThen]
 ·rename_i j u hf
  subst hm
  simp[Instr.lookup,run_underlying ht,MapKept.run_getObj_map hb',MapKept.run_checkKey hk hkey,MapKept.run_findKey hk hf,Result.andThen]
 ·exact hm.elim
theorem Fm {t kt et:TypeId} {kd:IntKind} {n:Int} {w:World} {p:Option Nat} {i:TypeInfo} {z v:Value} {b:Bool} (ht:P.underlying t=some (.map kt et)) (hk:P.underlying kt=some (.int kd)) (hi:P.info? et=some i) (hz:i.zero=some z)
 (h:lO w p kd n z v b):(Instr.lookup t (.map p) (.int kd n) true).run P w= .ok (.tuple ⟨[v,.bool b]⟩) w:=by
 obtain⟨r,es,clock,rfl,hb,hm⟩:=h
 have hb':w.heap[r]? =some (.map es clock):=hb
 have hkey:MapKept.IsKey (.int kd) (.int kd n):=by simp[MapKept.IsKey]
 split at hm
 ·rename_i hf
  obtain⟨rfl,rfl⟩:=hm
  simp[Instr.lookup,run_underlying ht,MapKept.run_getObj_map hb',MapKept.run_checkKey hk hkey,MapKept.run_findKey hk hf,zeroValue,gv hi,hz,Result.andThen]
 ·rename_i j u hf
  obtain⟨rfl,rfl⟩:=hm
  simp[Instr.lookup,run_underlying ht,MapKept.run_getObj_map hb',MapKept.run_checkKey hk hkey,MapKept.run_findKey hk hf,Result.andThen]
 ·exact hm.elim
theorem mg {w:World} {p:Option Addr} {k v:Value} (h:BR w p k v):(Instr.entry (.pointer p)).run P w= .ok (.tuple ⟨[k,v]⟩) w:=by
 obtain⟨r,m,since,seen,es,clock,e,rfl,hr,hb,he,hn,rfl,rfl⟩:=h
 exact run_entry_at w r m since seen es clock e hr hb he hn
theorem vj {w w':World} {p:Option Addr} {k v:Value} (hw:Ext w w') (h:BR w p k v):BR w' p k v:=by
 obtain⟨r,m,since,seen,es,clock,e,h1,hr,hb,h2⟩:=h
 exact⟨r,m,since,seen,es,clock,e,h1,hw.obj hr,hw.obj hb,h2⟩
theorem Bn {ρ:Operand->Option Value} {c:Call} {p:Option Nat} (h:y9 P ρ c=some p): ∃x t kt et,c.args= #[x]/\c.argTypes= #[t]/\P.underlying t=some (.map kt et)/\ρ x=some (.map p):=by
 unfold y9 at h
 split at h
 ·rename_i x t ha ht
  split at h
  ·rename_i kt et p' hu hx
   cases h
   refine⟨x,t,kt,et,?_,?_,hu,hx⟩
   ·obtain⟨_,args,ts⟩:=c
    cases args;simp_all
   ·obtain⟨_,args,ts⟩:=c
    cases ts;simp_all
  ·cases h
 ·cases h
theorem Cg {C:dD P} {ch:List (Nat×Bool)} {g:Option Bool} {o:Oper} {w:World} {K:Value->Prop} (hF:Fit S ops N D env a) (hg:ME ops a.tmps ch g)
 (h:qd C ops env ch g o w K): ∃v,K v/\(iJ ops a.tmps ch-> ∀w',Ext w w'->cN P o a w' v):=by
 have hc0: ∀v,a.eval (.const v)=v:=fun _=>rfl
 have pure: ∀(pr:PR),pop P (uE env ch) o=some pr->(match pr.ob with|none=>K pr.v|some p=>iN g p/\K pr.v)->
  ∃v,K v/\(iJ ops a.tmps ch-> ∀w',Ext w w'->cN P o a w' v):=by
  intro pr hp hk
  cases tU:pr.ob with
  |none=>
   rw[tU] at hk
   exact⟨pr.v,hk,fun hc w' _=>bK (Jb (fun x v hx=>hF.ev hc hx) hc0 hp (fun p oy=>by rw[tU] at oy;cases oy) w')⟩
  |some p=>
   rw[tU] at hk
   exact⟨pr.v,hk.2,fun hc w' _=>bK (Jb (fun x v hx=>hF.ev hc hx) hc0 hp (fun p' oy=>by rw[tU] at oy;cases oy;exact iH hk.1 hg hc) w')⟩
 have DJ:(match pop P (uE env ch) o with|some ⟨none,v⟩=>K v|some ⟨some p,v⟩=>iN g p/\K v|none=>False)->
  ∃v,K v/\(iJ ops a.tmps ch-> ∀w',Ext w w'->cN P o a w' v):=by
  intro hh
  split at hh
  ·rename_i v hp;exact pure ⟨none,v⟩ hp hh
  ·rename_i p v hp;exact pure ⟨some p,v⟩ hp hh
  ·exact hh.elim
 obtain⟨dst,op,type,pos,after,guard⟩:=o
 unfold qd at h
 cases op with
 |load t x=>
  simp only at h
  split at h
  ·rename_i p el ti hx he hi
   split at h
   ·exact False.elim h
   ·rename_i hs
    obtain⟨x',hr,hk⟩:=h
    refine⟨_,hk,fun hc w' hw=>bK ?_⟩
    have hr':=vi hw (iH hr hg hc)
    have hp: ∃a0,p=some a0:=by cases el<;>(obtain⟨a0,h0, _⟩:=hr';exact⟨a0,h0⟩)
    obtain⟨a0,rfl⟩:=hp
    simp[execOp,Instr.loadAt,hF.ev hc hx,Instr.sureAddr,Ni he hi hs hr']
  ·exact False.elim h
 |lookup xt m ix ok=>
  simp only at h
  split at h
  ·rename_i kt et p kd n hu hm wH
   split at h
   ·rename_i Sj el ti MF he hi
    split at h
    ·rename_i z hz
     split at h
     ·rename_i hkk
      subst hkk
      obtain⟨x',hr,hk⟩:=h
      refine⟨_,hk,fun hc w' hw=>bK ?_⟩
      have hl:=iH hr hg hc
      have hl':mm w' p kd n z (el.gi x'):=by
       obtain⟨r,es,clock,h1,h2,h3⟩:=hl
       exact⟨r,es,clock,h1,hw.obj h2,h3⟩
      simp only[execOp,Sem.run_bind,hF.ev hc hm,hF.ev hc wH,JV hu MF hi hz hl',Result.andThen_ok,Sem.run_pure]
     ·exact False.elim h
    ·exact False.elim h
   ·exact False.elim h
  ·rename_i kt et p kd n hu hm wH
   split at h
   ·rename_i Sj el ti MF he hi
    split at h
    ·rename_i z hz
     split at h
     ·rename_i hkk
      subst hkk
      obtain⟨x',b',hr,hk⟩:=h
      refine⟨_,hk,fun hc w' hw=>bK ?_⟩
      have hl:=iH hr hg hc
      have hl':lO w' p kd n z (el.gi x') b':=by
       obtain⟨r,es,clock,h1,h2,h3⟩:=hl
       exact⟨r,es,clock,h1,hw.obj h2,h3⟩
      simp only[execOp,Sem.run_bind,hF.ev hc hm,hF.ev hc wH,Fm hu MF hi hz hl',Result.andThen_ok,Sem.run_pure]
     ·exact False.elim h
    ·exact False.elim h
   ·exact False.elim h
  ·exact False.elim h
 |pick c x y=>
  simp only at h
  split at h
  ·rename_i t
   split at h
   ·rename_i ec XC
    have known: ∀(b:Bool),ec.k=some b->iJ ops a.tmps ch->a.eval (.tmp t)= .bool b:=by
     intro b hb _
     obtain⟨hv,nP⟩:=hF.yH ec (bF XC) b hb
     have:=hF.yes t ec XC (by rw[nP];exact fH)
     simp[Act.eval,this,hv]
    split at h
    ·rename_i hk
     split at h
     ·rename_i v hv
      refine⟨v,h,fun hc w' _=>bK ?_⟩
      have eb:=known true hk hc
      simp[execOp,eb,hF.ev hc hv,asBool]
     ·exact False.elim h
    ·rename_i hk
     split at h
     ·rename_i v hv
      refine⟨v,h,fun hc w' _=>bK ?_⟩
      have eb:=known false hk hc
      simp[execOp,eb,hF.ev hc hv,asBool]
     ·exact False.elim h
    ·split at h
     ·rename_i j hj
      have hj':kP ops j=some t:=by
       have:=List.find?_some hj
       simpa using this
      have key: ∀(b u v:Bool),uE env ch (.tmp t)=some (.bool b)->uE env ((j,true)::ch) x=some (.bool u)->uE env ((j,false)::ch) y=some (.bool v)->
       ∀w',iJ ops a.tmps ch->cN P ⟨dst,.pick (.tmp t) x y,type,pos,after,guard⟩ a w' (.bool (bif b then u else v)):=by
       intro b u v hb hu hv w' hc
       refine bK ?_
       have eb:=hF.ev hc hb
       have XD:yielded ops a.tmps j=some b:=by
        unfold yielded
        unfold kP at hj'
        simp only[hj',Option.bind_some]
        have:a.tmps[t]? =some (.bool b):=by
         unfold Act.eval at eb
         simp only[Array.getD_eq_getD_getElem?] at eb
         cases ht:a.tmps[t]? with
         |none=>rw[ht] at eb;simp[undef] at eb
         |some z=>rw[ht] at eb;simp at eb;rw[eb]
        rw[this]
       cases b with
       |true=>
        have eu:=hF.ev (ch:=(j,true)::ch) (fun z hz=>by
         rcases List.mem_cons.1 hz with rfl|hz
         ·exact XD
         ·exact hc z hz) hu
        simp[execOp,eb,eu,asBool]
       |false=>
        have eu:=hF.ev (ch:=(j,false)::ch) (fun z hz=>by
         rcases List.mem_cons.1 hz with rfl|hz
         ·exact XD
         ·exact hc z hz) hv
        simp[execOp,eb,eu,asBool]
      split at h
      ·rename_i b u v hb hu hv
       split at h
       ·cases (show v=false by simp only[uE,Option.some.injEq,Value.bool.injEq] at hv;exact hv.symm)
        refine⟨_,h,fun hc w' _=>?_⟩
        have:=key b u false hb hu hv w' hc
        cases b<;>exact this
       ·cases (show u=true by simp only[uE,Option.some.injEq,Value.bool.injEq] at hu;exact hu.symm)
        refine⟨_,h,fun hc w' _=>?_⟩
        have:=key b true v hb hu hv w' hc
        cases b<;>exact this
       ·exact⟨_,h,fun hc w' _=>key b u v hb hu hv w' hc⟩
      ·exact False.elim h
     ·exact False.elim h
   ·exact False.elim h
  ·exact False.elim h
 |call c=>
  obtain⟨callee,args,ts⟩:=c
  cases callee with
  |value f=>
   simp only at h
   split at h
   ·rename_i fid first cap aag hf has
    split at h
    ·rename_i hfn
     split at h
     ·rename_i e he
      split at h
      ·rename_i pre v WI
       refine⟨v,h.2,fun hc w' _=>?_⟩
       have hrun:=qP (P:=P) (dst:=dst) (type:=type) (pos:=pos) (after:=after) (guard:=guard) (ts:=ts) (hF.ev hc hf) (jY (fun x v hx=>hF.ev hc hx) has) (w:=w') hfn
       unfold cN
       rw[hrun]
       refine⟨rfl,?_⟩
       have:=e.ok _ _ _ WI (iH h.1 hg hc) w'
       rw[D7 he] at this
       exact this
      ·exact False.elim h
     ·obtain⟨x,hq,hk⟩:=h
      refine⟨_,hk,fun hc w' hw=>?_⟩
      have hrun:=qP (P:=P) (dst:=dst) (type:=type) (pos:=pos) (after:=after) (guard:=guard) (ts:=ts) (hF.ev hc hf) (jY (fun x v hx=>hF.ev hc hx) has) (w:=w') hfn
      unfold cN
      rw[hrun]
      exact⟨rfl,iH hq hg hc w' hw⟩
    ·exact False.elim h
   ·exact False.elim h
  |invoke r m=>exact DJ h
  |builtin b=>
   cases b with
   |len=>
    simp only at h
    split at h
    ·rename_i p hp
     obtain⟨n,hn,hk⟩:=h
     refine⟨_,hk,fun hc w' hw=>bK ?_⟩
     obtain⟨x,t,kt,et,rfl,rfl,hu,hx⟩:=Bn hp
     obtain⟨r,es,clock,rfl,hb,rfl⟩:=iH hn hg hc
     have hb':w'.heap[r]? =some (.map es clock):=hw.obj hb
     simp[execOp,resolve,invoke,builtin,Builtin.len_,hF.ev hc hx,run_underlying hu,MapKept.run_getObj_map hb',goInt,Result.andThen]
    ·exact DJ h
   | _=>exact DJ h
 |entry it=>
  simp only at h
  split at h
  ·rename_i p d hx
   split at h
   ·obtain⟨x,v,he,hk⟩:=h
    refine⟨_,hk,fun hc w' hw=>bK ?_⟩
    simp only[execOp,Sem.run_bind,hF.ev hc hx,mg (vj hw (iH he hg hc)),Result.andThen_ok,Sem.run_pure]
   ·obtain⟨x,v,he,hk⟩:=h
    refine⟨_,hk,fun hc w' hw=>bK ?_⟩
    simp only[execOp,Sem.run_bind,hF.ev hc hx,mg (vj hw (iH he hg hc)),Result.andThen_ok,Sem.run_pure]
   ·obtain⟨x,v,he,hk⟩:=h
    refine⟨_,hk,fun hc w' hw=>bK ?_⟩
    simp only[execOp,Sem.run_bind,hF.ev hc hx,mg (vj hw (iH he hg hc)),Result.andThen_ok,Sem.run_pure]
   ·exact False.elim h
  ·exact False.elim h
 | _=>exact DJ h
end Go.RX
namespace Go.RX
variable {P:Program}
def WF (r:Option Nat):Fence:={Fence.wide with round:=r}
theorem iG {r:Option Nat} {n:Nat} {f:FuncId} {args:Array Value} {w:World} {R:Ending->World->Prop}:CallsIn (WF r) n P f args w R<->Calls P f args w R:=
 callsIn_wide (n:=n)
theorem ww {w:World} {p q:Addr} {v:Value} (h:(w.cell? q).isSome=true):((w.setCell p v).cell? q).isSome=true:=by
 unfold World.cell? at h ⊢
 simp only[World.setCell,Array.getElem?_modify]
 cases ho:w.heap[q.block]? with
 |none=>simp[ho] at h
 |some o=>
  simp only[ho] at h
  by_cases hb:p.block=q.block
  ·simp only[hb,if_true,Option.map_some]
   cases o with
   |cells c e f=>
    simp only at h ⊢
    by_cases hq:q.spot.isSome=true
    ·simp[hq] at h
    ·simp only[hq,Bool.false_eq_true,if_false] at h ⊢
     split
     ·exact h
     ·simpa using h
   | _=>simp at h
  ·simp only[hb,if_false]
   cases o<;>simp_all
theorem wy {w:World} {p q:Addr} {v:Value}:(w.setCell p v).frozen? q=w.frozen? q:=by
 unfold World.frozen?
 simp only[World.setCell,Array.getElem?_modify]
 by_cases hb:p.block=q.block
 ·simp only[hb,if_true]
  cases ho:w.heap[q.block]? with
  |none=>simp
  |some o=>cases o<;>simp
 ·simp only[hb,if_false]
theorem zK {w:World} {a:Addr} {v:Value} (hv:v.oneCell'=true) (h:(w.cell? a).isSome=true) (hf:w.frozen? a=false):(store a v).run P w= .ok () (w.setCell a v):=by
 rw[run_store P w a v .plain hv]
 obtain⟨u,hu⟩:=dB h
 simp[hu,hf]
theorem g9: ∀(vs:List Value) (a:Addr) (i:Nat) (w:World),AF vs=true->(∀j,j<vs.length->(w.cell? (a.add (i+j))).isSome=true/\w.frozen? (a.add (i+j))=false)->
 (storeCells a vs i).run P w= .ok () (putAt w a vs i)
 |[],a,i,w, _, _=>by simp[storeCells,putAt]
 |v::r,a,i,w,ho,h=>by
  simp only[AF,List.all_cons,Bool.and_eq_true] at ho
  have h0:=h 0 (by simp)
  simp only[Nat.add_zero] at h0
  have ih:=g9 r a (i+1) (w.setCell (a.add i) v) ho.2 (fun j hj=>by
   have:=h (j+1) (by simpa using hj)
   rw[show i+1+j=i+(j+1) by omega]
   exact⟨ww this.1,by rw[wy];exact this.2⟩)
  simp only[storeCells,Sem.run_bind,zK ho.1 h0.1 h0.2,Result.andThen_ok,ih,putAt]
theorem wrap_i64 {n:Int} (h0: -(2 ^ 63)<=n) (h1:n<2 ^ 63):IntKind.i64.wrap n=n:=by
 show(if(true&&decide (n % (2 ^ 64:Int)>=(2 ^ 63:Int)))=true then n % (2 ^ 64:Int) - (2 ^ 64:Int) else n % (2 ^ 64:Int))=n
 simp only[Bool.true_and,decide_eq_true_eq]
 split<;>omega
theorem run_makeSlice {t e:TypeId} {i:TypeInfo} {z:Value} (hu:P.underlying t=some (.slice e)) (hi:P.info? e=some i) (hz:i.zero=some z) (k k':IntKind) {n m:Int} (h:Tt i.bytes n m) (w:World):
 (Instr.makeSlice t (.int k n) (.int k' m)).run P w= .ok (.slice (some ⟨w.heap.size,0,none⟩) n.toNat m.toNat) (w.alloc (.cells (lV z.cells (m.toNat*i.size)) e)):=by
 obtain⟨h0,h1,h2,h3⟩:=h
 have wn:IntKind.i64.wrap n=n:=wrap_i64 (by omega) (by omega)
 have wm:IntKind.i64.wrap m=m:=wrap_i64 (by omega) (by omega)
 have e1: ¬ m<0:=by omega
 have e2: ¬ n<0:=by omega
 have e3: ¬ n>m:=by omega
 have e4: ¬ ((i.bytes:Int)*m>2 ^ 48):=by omega
 unfold Instr.makeSlice
 simp only[Sem.run_bind,aW hu,Result.andThen_ok,asInt,asIntOf,Sem.run_pure,gv hi,wn,wm,e1,e2,e3,e4,decide_false,Bool.or_false,Bool.false_eq_true,if_false,run_askRoom,de hi,newRow]
 by_cases hn:m.toNat*i.size=0
 ·simp[hn,lV]
 ·simp[hn,lV,zeroValue,gv hi,hz]
theorem uu {w:World} {p:Option Addr} {n size len cap:Nat} {vs:List Value} (h:yG w p (n*size) vs):(Builtin.firstCells size n (.slice p len cap)).run P w= .ok ⟨vs⟩ w:=by
 cases p with
 |none=>simp only[yG] at h;subst h;simp[Builtin.firstCells]
 |some a=>
  obtain⟨hl,hc⟩:=h
  have:=run_loadCellsFrom (P:=P) (w:=w) (a:=a) vs 0 #[] (fun i hi=>by simpa using hc i (by omega))
  rw[hl] at this
  simp only[Builtin.firstCells,loadCells,this]
  simp
theorem AI {w:World} {p:Option Addr} {n:Nat} {vs:List Value} (h:yG w p n vs):yG w.drew p n vs:=h
theorem JW {ts:Array TypeId} {t u e:TypeId} {i:TypeInfo} {ty:TypeId} {p q:Option Addr} {n m k l:Nat} (hts:ts= #[t,u]) (hu:P.underlying t=some (.slice e))
 (hi:P.info? e=some i) {w:World} {R:Int->World->Prop} (h:Vt w i.size (p,n) (q,k) R):
 ∃r w2,(Builtin.copy_ ts ty #[.slice p n m,.slice q k l]).run P w= .ok (.int .i64 r) w2/\R r w2:=by
 subst hts
 obtain⟨new,hn,hst,hR⟩:=h
 have Qz:(Builtin.firstCells i.size (Nat.min k n) (.slice q k l)).run P w= .ok ⟨new⟩ w:=uu hn
 refine⟨_, _,?_,hR⟩
 unfold Builtin.copy_
 have h0:(#[t,u]:Array TypeId)[0]? =some t:=rfl
 simp only[h0,List.getElem?_toArray,List.getElem?_cons_zero,List.getElem?_cons_succ,Sem.run_bind,aW hu,Result.andThen_ok,de hi,Builtin.lenOf,Sem.run_pure,Qz]
 cases p with
 |none=>
  simp only[Sem.run_pure,fM,goInt]
 |some a=>
  rcases hst with h|rfl|⟨⟨a',ha,hc⟩,hone⟩
  ·cases h
  ·simp[storeCells,fM,putAt,goInt]
  ·cases ha
   have hs:=g9 (P:=P) new a 0 w hone (fun j hj=>by simpa using hc j hj)
   simp only[Sem.run_bind,hs,Result.andThen_ok,Sem.run_pure,goInt]
   rfl
theorem Cy {ts:Array TypeId} {t u e ue:TypeId} {i:TypeInfo} {z:Value} {ty:TypeId} {p q:Option Addr} {n m k l:Nat} (hts:ts= #[t,u]) (hu:P.underlying t=some (.slice e)) (US:P.underlying u=some (.slice ue))
 (hi:P.info? e=some i) (hz:i.zero=some z) (hb:i.bytes≠0) {w:World} {R:Option Addr×Nat×Nat->World->Prop} (h:tV w e i.size i.bytes z.cells (p,n,m) (q,k,l) R):
 ∃r w2,(Builtin.append_ ts ty #[.slice p n m,.slice q k l]).run P w= .ok (.slice r.1 r.2.1 r.2.2) w2/\R r w2:=by
 subst hts
 obtain⟨old,new,ho,hn,hin,hout⟩:=h
 have Qz:(Builtin.firstCells i.size k (.slice q k l)).run P w= .ok ⟨new⟩ w:=uu hn
 by_cases hroom:n+k<=m
 ·obtain⟨hst,hR⟩:=hin hroom
  refine⟨_, _,?_,hR⟩
  unfold Builtin.append_
  have h0:(#[t,u]:Array TypeId)[0]? =some t:=rfl
  have h1:(#[t,u]:Array TypeId)[1]? =some u:=rfl
  simp only[h0,h1,List.getElem?_toArray,List.getElem?_cons_zero,List.getElem?_cons_succ,Sem.run_bind,aW hu,aW US,Result.andThen_ok,de hi,Builtin.lenOf,Sem.run_pure,Bool.false_eq_true,if_false,hroom,if_true,Bool.not_false,Qz]
  cases p with
  |none=>
   simp only[Sem.run_pure,fM,Option.map_none]
  |some a=>
   rcases hst with rfl|⟨⟨a',ha,hc⟩,hone⟩
   ·simp[storeCells,fM,putAt]
   ·simp only[Option.map_some,Option.some.injEq] at ha
    subst ha
    have hs:=g9 (P:=P) new (a.add (n*i.size)) 0 w hone (fun j hj=>by simpa using hc j hj)
    rw[Sem.run_bind,hs]
    rfl
 ·obtain⟨hbytes,hR⟩:=hout (by show m<n+k;omega)
  have YI:=fun c hc=>hR c hc
  have QA: ∀(tp:Nat),n+k<=(Question.appendCap (n+k) m e).cut tp:=fun tp=>by simp[Question.cut]
  refine⟨_, _,?_,YI ((Question.appendCap (n+k) m e).cut (w.tape w.drawn (.appendCap (n+k) m e))) (QA _)⟩
  unfold Builtin.append_
  have h0:(#[t,u]:Array TypeId)[0]? =some t:=rfl
  have h1:(#[t,u]:Array TypeId)[1]? =some u:=rfl
  have Mv: ¬ (((n+k:Nat):Int)>IntKind.i64.max/\(False\/i.bytes=0)):=by simp[hb]
  have hnb: ¬ (Builtin.nextslicecap (n+k) m*i.bytes>2 ^ 48):=by simp only at hbytes;omega
  have TX:(Builtin.firstCells i.size n (.slice p n m)).run P w.drew= .ok ⟨old⟩ w.drew:=uu (AI ho)
  have TY:(Builtin.firstCells i.size k (.slice q k l)).run P w.drew= .ok ⟨new⟩ w.drew:=uu (AI hn)
  simp only[h0,h1,List.getElem?_toArray,List.getElem?_cons_zero,List.getElem?_cons_succ,Sem.run_bind,aW hu,aW US,Result.andThen_ok,de hi,Builtin.lenOf,Sem.run_pure,Bool.false_eq_true,if_false,hroom,Bool.not_false,if_true,
   gv hi]
  rw[if_neg Mv]
  simp only[Sem.run_bind,gv hi,Result.andThen_ok,hnb,if_false,run_choose_drew,Question.forced,Bool.false_eq_true,run_askRoom,TX,TY,zeroValue,hz,newRow,Sem.run_pure,run_newObj_alloc]
  rfl
theorem wz {t e:TypeId} {i:TypeInfo} {z:Value} {len:Nat} {parts:Array (Nat×Value)} {ps:List (Nat×Value)} {cs:Array Value} (hu:P.underlying t=some (.slice e)) (hi:P.info? e=some i) (hz:i.zero=some z)
 (hp:parts.toList=ps) (hf':xx (fun k=>some (k*i.size,i.size)) ⟨(List.range (len*i.size)).map (z.cells.toList[· % z.cells.toList.length]!)⟩ ps=some cs) (hl:len*i.size<=2 ^ 24) (w:World):
 (Instr.buildSlice t len parts).run P w= .ok (.slice (some ⟨w.heap.size,0,none⟩) len len) (w.alloc (.cells cs e)):=by
 have hl': ¬ len*i.size>2 ^ 24:=by omega
 have hf:Instr.fill (fun k=>some (k*i.size,i.size)) ((Array.range (len*i.size)).map ((if len*i.size=0 then #[] else z.cells)[· % (if len*i.size=0 then #[] else z.cells).size]!)) ps=some cs:=by
  rw[<-vg hf']
  congr 1
  by_cases h0:len*i.size=0
  ·simp[h0]
  ·apply Array.ext'
   simp[h0,Array.toList_map,Array.toList_range]
   intro a _
   rw[Array.getElem!_eq_getD,Array.getD_eq_getD_getElem?]
 unfold Instr.buildSlice
 simp only[Sem.run_bind,aW hu,Result.andThen_ok,de hi,hl',if_false,newRow]
 by_cases hn:len*i.size=0
 ·rw[hn] at hf
  simp only[hn,if_true,hp]
  have e0:Array.range 0= #[]:=rfl
  rw[e0] at hf ⊢
  simp only[Array.map_empty] at hf ⊢
  simp[hf]
 ·simp only[hn,if_false] at hf
  simp only[hn,if_false,zeroValue,Sem.run_bind,gv hi,Result.andThen_ok,hz,Sem.run_pure,hp,hf]
  simp
theorem cF {r:Option Nat} {ev:Operand->Value} {o:Oper} (h: ∀c,o.op≠ .defer c):o.semAt (WF r).round ev=execOp ev o:=Oper.semAt_eq _ _ _ h
variable {S:Nat->Option (Option Value)} {ops:Array Oper} {N:Nat} {D:List Deferred} {env:List bD} {a:Act}
def dY (o:Oper):Bool:=
 match o.op with
 | .alloc _| .box .. | .buildSlice .. | .makeSlice .. | .makeMap .. =>true
 | _=>false
def yO (C:dD P) (o:Oper):Bool:=
 match o.op with
 | .move _| .assign _| .pick .. | .alloc _| .box .. | .buildSlice .. | .makeSlice .. | .makeMap .. | .build .. | .load .. | .nilCheck _| .binOp .. | .unOp .. | .convert .. | .makeFunc .. | .slice .. | .fieldAddr .. | .field .. | .indexAddr .. | .index .. | .extract .. | .lookup .. =>false
 | .call c=>match c.callee with
   | .value (.func f)=> !((qz C.qc f).isSome||C.quiet.contains f)
   | .builtin .len| .builtin .min| .builtin .max=>false
   | _=>true
 | _=>true
theorem JX {C:dD P} {ρ:Operand->Option Value} {o:Oper} (hρ: ∀f,ρ (.func f)=some (.func (.func f) #[] #[])) (h:yO C o=false) (he:IL C ρ o=true):dY o=true:=by
 obtain⟨dst,op,type,pos,after,guard⟩:=o
 cases op<;>simp only[yO,IL,dY] at h he ⊢ <;>(try (simp at h he;done))
 case call c=>
  obtain⟨callee,args,ts⟩:=c
  cases callee with
  |value f=>
   cases f with
   |func f=>
    simp only[hρ] at he
    have he':(!((qz C.qc f).isSome||C.quiet.contains f))=true:=by
     cases hd:C.dyn<;>rw[hd] at he<;>exact he
    exact absurd (h.symm.trans he') Bool.false_ne_true
   | _=>simp at h
  |builtin b=>cases b<;>simp at h he
  | _=>simp at he
theorem Cz {P:Program} {ts:Array TypeId} {ty t u kt et:TypeId} {kd:IntKind} {n:Int} {w:World} {r:Nat} {es:Array MapEntry} {clock:Nat} {K:World->Prop} (hts:ts= #[t,u]) (ht:P.underlying t=some (.map kt et)) (hk:P.underlying kt=some (.int kd)) (hb:bA w r es clock)
 (h:Ip w r kd n es clock K): ∃w2,(Builtin.delete_ ts ty #[.map (some r),.int kd n]).run P w= .ok (.tuple #[]) w2/\K w2:=by
 subst hts
 have hb':w.heap[r]? =some (.map es clock):=hb
 have hkey:MapKept.IsKey (.int kd) (.int kd n):=by simp[MapKept.IsKey]
 unfold Ip at h
 split at h
 ·rename_i hf
  refine⟨_,?_,h⟩
  simp[Builtin.delete_,run_underlying ht,MapKept.run_getObj_map hb',MapKept.run_checkKey hk hkey,MapKept.run_findKey hk hf,MapKept.run_setObj_map _ hb',Result.andThen,World.putObj]
 ·rename_i i v hf
  refine⟨_,?_,h⟩
  simp[Builtin.delete_,run_underlying ht,MapKept.run_getObj_map hb',MapKept.run_checkKey hk hkey,MapKept.run_findKey hk hf,MapKept.run_setObj_map _ hb',Result.andThen,World.putObj]
 ·exact h.elim
theorem Q0 {r:Option Nat} {o:Oper} {w w':World} {K:Value->World->Prop} {next:Act->World->Prop} {Q:Exit->Act->World->Prop} (hF:Fit S ops N D env a)
 {C:dD P} (h:Vu C (uE env []) o w K) (hw:Ext w w') (hK: ∀v w2,K v w2->(dY o=true->Ext w' w2)->next (a.put o.dst v) w2):o.wpIn (WF r) 0 P a w' next Q:=by
 have hc:iJ ops a.tmps []:=fun x hx=>by cases hx
 refine⟨fun _ _=>trivial,?_⟩
 obtain⟨dst,op,type,pos,after,guard⟩:=o
 unfold Vu at h
 cases op<;>simp only at h<;>(try exact False.elim h)
 case store t x y=>
  rw[cF (by simp)]
  split at h
  ·rename_i p v i hx hy hi
   split at h
   ·rename_i hs
    obtain⟨⟨ho,a0,hp,Q1⟩,hk⟩:=h w' hw
    subst hp
    have hsz:v.cells.size=i.size:=by simpa[rY] using hs
    have hst:=g9 (P:=P) (rY v) a0 0 w' ho (fun j hj=>by simpa using Q1 j hj)
    have:(execOp a.eval ⟨dst,.store t x y,type,pos,after,guard⟩).run P w'= .ok .skip (fM w' (some a0) (rY v)):=by
     simp only[execOp,Instr.storeAt,hF.ev hc hx,hF.ev hc hy,Instr.sureAddr,storeVar,Sem.run_bind,Sem.run_pure,Result.andThen_ok,de hi,hsz,ne_eq,not_true,if_false]
     rw[show v.cells.toList=rY v from rfl,hst]
     rfl
    rw[this]
    exact hK _ _ hk (fun hh=>by simp[dY] at hh)
   ·exact False.elim h
  ·exact False.elim h
 case mapUpdate t m x v=>
  rw[cF (by simp)]
  split at h
  ·rename_i kt et p kd n val hu hm hx hv
   split at h
   ·rename_i Sj MF
    split at h
    ·rename_i hkk
     subst hkk
     obtain⟨r,es,clock,rfl,hb,PU⟩:=h w' hw
     obtain⟨w2,hrun,hk⟩:=xJ hu MF hb PU
     have:(execOp a.eval ⟨dst,.mapUpdate t m x v,type,pos,after,guard⟩).run P w'= .ok .skip w2:=by
      simp only[execOp,Sem.run_bind,hF.ev hc hm,hF.ev hc hx,hF.ev hc hv,hrun,Result.andThen_ok,Sem.run_pure]
     rw[this]
     exact hK _ _ hk (fun hh=>by simp[dY] at hh)
    ·exact False.elim h
   ·exact False.elim h
  ·exact False.elim h
 case insert t m x v=>
  rw[cF (by simp)]
  split at h
  ·rename_i kt et p kd n val hu hm hx hv
   split at h
   ·rename_i Sj MF
    split at h
    ·rename_i hkk
     subst hkk
     obtain⟨r,es,clock,rfl,hb,PU⟩:=h w' hw
     obtain⟨w2,hrun,hk⟩:=xJ hu MF hb PU
     have:(execOp a.eval ⟨dst,.insert t m x v,type,pos,after,guard⟩).run P w'= .ok .skip w2:=by
      simp only[execOp,Sem.run_bind,hF.ev hc hm,hF.ev hc hx,hF.ev hc hv,hrun,Result.andThen_ok,Sem.run_pure]
     rw[this]
     exact hK _ _ hk (fun hh=>by simp[dY] at hh)
    ·exact False.elim h
   ·exact False.elim h
  ·exact False.elim h
 case alloc e=>
  rw[cF (by simp)]
  split at h
  ·rename_i i hi
   split at h
   ·rename_i z hz
    have h:aA w z.cells e (fun b w2=>K (.pointer (some ⟨b,0,none⟩)) w2):=by
     have e1:Qx P e=z.cells:=by unfold Qx;simp only[hi,hz]
     split at h
     ·rw[e1] at h;exact h
     ·exact h
    have hk:=h w' hw
    have:(execOp a.eval ⟨dst,.alloc e,type,pos,after,guard⟩).run P w'= .ok (.value (.pointer (some ⟨w'.heap.size,0,none⟩))) (w'.alloc (.cells z.cells e)):=by
     simp[execOp,Instr.alloc,zeroValue,gv hi,hz,newVar,newRow]
    rw[this]
    exact hK _ _ hk (fun _=>Ext.alloc _ _)
   ·exact False.elim h
  ·exact False.elim h
 case box e x=>
  rw[cF (by simp)]
  split at h
  ·rename_i v hv
   have hk:=h w' hw
   have:(execOp a.eval ⟨dst,.box e x,type,pos,after,guard⟩).run P w'= .ok (.value (.pointer (some ⟨w'.heap.size,0,none⟩))) (w'.alloc (.cells v.cells e)):=by
    simp[execOp,Instr.box,hF.ev hc hv,newVar,newRow]
   rw[this]
   exact hK _ _ hk (fun _=>Ext.alloc _ _)
  ·exact False.elim h
 case buildSlice t len parts=>
  rw[cF (by simp)]
  split at h
  ·rename_i el ps hu hps
   split at h
   ·rename_i i hi
    split at h
    ·rename_i z hz
     split at h
     ·rename_i cs hcs
      split at h
      ·rename_i hlen
       have hk:=h w' hw
       have e:=vh (fun x v hx=>hF.ev hc hx) hps
       have e':(parts.map fun(i,x)=>(i,a.eval x)).toList=ps:=by rw[<-e];simp
       have hrun:=wz (P:=P) hu hi hz e' hcs hlen w'
       have:(execOp a.eval ⟨dst,.buildSlice t len parts,type,pos,after,guard⟩).run P w'= .ok (.value (.slice (some ⟨w'.heap.size,0,none⟩) len len)) (w'.alloc (.cells cs el)):=by
        simp only[execOp,Sem.run_bind,hrun,Result.andThen_ok,Sem.run_pure]
       rw[this]
       exact hK _ _ hk (fun _=>Ext.alloc _ _)
      ·exact False.elim h
     ·exact False.elim h
    ·exact False.elim h
   ·exact False.elim h
  ·exact False.elim h
 case makeSlice t l c=>
  rw[cF (by simp)]
  split at h
  ·rename_i el k n k' m hu hl Vw
   split at h
   ·rename_i i hi
    split at h
    ·rename_i z hz
     obtain⟨hok,hk⟩:=h w' hw
     have hrun:=run_makeSlice (P:=P) hu hi hz k k' hok w'
     have:(execOp a.eval ⟨dst,.makeSlice t l c,type,pos,after,guard⟩).run P w'= .ok (.value (.slice (some ⟨w'.heap.size,0,none⟩) n.toNat m.toNat)) (w'.alloc (.cells (lV z.cells (m.toNat*i.size)) el)):=by
      simp only[execOp,hF.ev hc hl,hF.ev hc Vw,Sem.run_bind,hrun,Result.andThen_ok,Sem.run_pure]
     rw[this]
     exact hK _ _ hk (fun _=>Ext.alloc _ _)
    ·exact False.elim h
   ·exact False.elim h
  ·exact False.elim h
 case makeMap t rs=>
  rw[cF (by simp)]
  split at h
  ·have hk:=h w' hw
   have:(execOp a.eval ⟨dst,.makeMap t none,type,pos,after,guard⟩).run P w'= .ok (.value (.map (some w'.heap.size))) (w'.alloc (.map #[] 0)):=by
    simp[execOp,Instr.makeMap]
   rw[this]
   exact hK _ _ hk (fun _=>Ext.alloc _ _)
  ·exact False.elim h
 case range xt x=>
  rw[cF (by simp)]
  split at h
  ·rename_i kt et p hu hx
   obtain⟨r,es,clock,rfl,hb,hk⟩:=h w' hw
   have hb':w'.heap[r]? =some (.map es clock):=hb
   have:(execOp a.eval ⟨dst,.range xt x,type,pos,after,guard⟩).run P w'= .ok (.value (.pointer (some ⟨w'.heap.size,0,none⟩))) (w'.alloc (.mapIter (some r) clock #[] clock)):=by
    simp[execOp,Instr.range,hF.ev hc hx,run_underlying hu,MapKept.run_getObj_map hb',Result.andThen]
   rw[this]
   exact hK _ _ hk (fun hh=>by simp[dY] at hh)
  ·exact False.elim h
 case next it b=>
  rw[cF (by simp)]
  split at h
  ·rename_i p hx
   obtain⟨r,m,since,seen,last,es,clock,rfl,hr,hb,qf,hold,k0,k1⟩:=h w' hw
   rcases run_next_at (P:=P) w' type r m since last seen es clock hr hb hold qf with ⟨h0,hrun⟩|⟨e,he,w1,hw1,hrun⟩
   ·have:(execOp a.eval ⟨dst,.next it false,type,pos,after,guard⟩).run P w'= .ok (.value (.tuple ⟨[.bool false]⟩)) w':=by
     simp only[execOp,Sem.run_bind,hF.ev hc hx,hrun,Result.andThen_ok,Sem.run_pure]
    rw[this]
    refine hK _ _ (k0 (fun e he=>?_) w' (Ext.refl _)) (fun hh=>by simp[dY] at hh)
    unfold leftOf at h0
    have h1:=Array.eq_empty_of_size_eq_zero h0
    rw[Array.filter_eq_empty_iff] at h1
    simpa using h1 e (by simpa using he)
   ·have:(execOp a.eval ⟨dst,.next it false,type,pos,after,guard⟩).run P w'= .ok (.value (.tuple ⟨[.bool true,e.key,e.val]⟩)) (w1.putObj r (.mapIter (some m) since (seen.push e.born) clock)):=by
     simp only[execOp,Sem.run_bind,hF.ev hc hx,hrun,Result.andThen_ok,Sem.run_pure]
     rfl
    rw[this]
    unfold leftOf at he
    have he':e∈es.toList/\seen.contains e.born=false:=by simpa using he
    refine hK _ _ (k1 e he'.1 he'.2 w1 ?_) (fun hh=>by simp[dY] at hh)
    rcases hw1 with rfl|rfl
    ·exact Ext.refl _
    ·exact⟨rfl,rfl,rfl,Nat.le_refl _,fun k hk=>rfl⟩
  ·exact False.elim h
 case call c=>
  obtain⟨callee,args,ts⟩:=c
  rw[cF (by simp)]
  simp only at h
  split at h
  ·
   split at h
   ·rename_i m x t u hargs Tu
    split at h
    ·rename_i kt et p kd n hu hm hx
     split at h
     ·rename_i Sj MF
      split at h
      ·rename_i hkk
       subst hkk
       obtain⟨r,es,clock,rfl,hb,PU⟩:=h w' hw
       have ea:args= #[m,x]:=by cases args;simp_all
       have et':ts= #[t,u]:=by cases ts;simp_all
       obtain⟨w2,hrun,hk⟩:=Cz (P:=P) (ty:=type) et' hu MF hb PU
       have:(execOp a.eval ⟨dst,.call ⟨.builtin .delete,args,ts⟩,type,pos,after,guard⟩).run P w'= .ok (.value (.tuple ⟨[]⟩)) w2:=by
        subst ea
        simp only[execOp,resolve,Sem.run_bind,Sem.run_pure,Result.andThen_ok,invoke,builtin,List.map_toArray,List.map_cons,List.map_nil,hF.ev hc hm,hF.ev hc hx,hrun]
       rw[this]
       exact hK _ _ hk (fun hh=>by simp[dY] at hh)
      ·exact False.elim h
     ·exact False.elim h
    ·exact False.elim h
   ·exact False.elim h
  ·
   split at h
   ·rename_i s x t u hargs Tu
    split at h
    ·rename_i e ue p n m q k l hu US hs hx
     split at h
     ·rename_i i hi
      split at h
      ·rename_i z hz
       split at h
       ·exact False.elim h
       ·rename_i hb
        have hap:=h w' hw
        have ea:args= #[s,x]:=by cases args;simp_all
        have et:ts= #[t,u]:=by cases ts;simp_all
        obtain⟨res,w2,hrun,hR⟩:=Cy (P:=P) (ty:=type) et hu US hi hz hb hap
        have:(execOp a.eval ⟨dst,.call ⟨.builtin .append,args,ts⟩,type,pos,after,guard⟩).run P w'= .ok (.value (.slice res.1 res.2.1 res.2.2)) w2:=by
         subst ea
         simp only[execOp,resolve,Sem.run_bind,Sem.run_pure,Result.andThen_ok,invoke,builtin,List.map_toArray,List.map_cons,List.map_nil,hF.ev hc hs,hF.ev hc hx,hrun]
        rw[this]
        exact hK _ _ hR (fun hh=>by simp[dY] at hh)
      ·exact False.elim h
     ·exact False.elim h
    ·exact False.elim h
   ·exact False.elim h
  ·
   split at h
   ·rename_i s x t u hargs Tu
    split at h
    ·rename_i e p n m q k l hu hs hx
     split at h
     ·rename_i i hi
      have hap:=h w' hw
      have ea:args= #[s,x]:=by cases args;simp_all
      have et:ts= #[t,u]:=by cases ts;simp_all
      obtain⟨res,w2,hrun,hR⟩:=JW (P:=P) (ty:=type) (m:=m) (l:=l) et hu hi hap
      have:(execOp a.eval ⟨dst,.call ⟨.builtin .copy,args,ts⟩,type,pos,after,guard⟩).run P w'= .ok (.value (.int .i64 res)) w2:=by
       subst ea
       simp only[execOp,resolve,Sem.run_bind,Sem.run_pure,Result.andThen_ok,invoke,builtin,List.map_toArray,List.map_cons,List.map_nil,hF.ev hc hs,hF.ev hc hx,hrun]
      rw[this]
      exact hK _ _ hR (fun hh=>by simp[dY] at hh)
     ·exact False.elim h
    ·exact False.elim h
   ·exact False.elim h
  ·rename_i f
   split at h
   ·
    rename_i s t
    split at h
    ·rename_i v aag hf has
     obtain⟨fid,first,cap,rfl,hfn,hk⟩:=h w' hw
     have hrun:=qP (P:=P) (dst:=dst) (type:=type) (pos:=pos) (after:=after) (guard:=guard) (ts:=ts) (hF.ev hc hf) (jY (fun x v hx=>hF.ev hc hx) has) (w:=w') hfn
     rw[hrun]
     refine⟨by simp[WF,Fence.wide],?_⟩
     refine(iG (n:=0 - 1)).2 ?_
     refine Calls.mono hk fun e w2 ⟨x,he,hx⟩=>?_
     subst he
     exact hK _ _ hx (fun hh=>by simp[dY] at hh)
    ·exact False.elim h
   rename_i f _ _ _
   split at h
   ·
    rename_i l first cp aag hf has
    obtain⟨rec,uK,hlen,Q2⟩:=h w' hw
    have e:(first++args.map a.eval:Array Value)=⟨first.toList++aag⟩:=by
     have:=jY (fun x v hx=>hF.ev hc hx) has
     rw[<-this]
     obtain⟨l1⟩:=first;obtain⟨l2⟩:=args
     simp
    have hrun:=run_yield (P:=P) (args:=⟨first.toList++aag⟩) uK (by simpa using hlen)
    have:(execOp a.eval ⟨dst,.call ⟨.value f,args,ts⟩,type,pos,after,guard⟩).run P w'= .ok (.round l rec.fn ((rec.params.zip ⟨first.toList++aag⟩).foldl (fun tmps (t,a)=>tmps.setIfInBounds t a) rec.tmps) rec.assign rec.body) w':=by
     simp only[execOp,resolve,Deferred.ofValue,hF.ev hc hf,Sem.run_bind,Sem.run_pure,Result.andThen_ok,invoke]
     rw[e,hrun]
    rw[this]
    refine⟨by simp[WF,Fence.wide],?_⟩
    refine RoundIn.mono (F:=WF r) (n:=0 - 1) Q2 fun e w2 ⟨b,he,hR⟩=>?_
    subst he
    exact hK _ _ hR (fun hh=>by simp[dY] at hh)
   ·rename_i fid first cap aag hf has
    split at h
    ·rename_i hfn
     have hk:=h w' hw
     have hrun:=qP (P:=P) (dst:=dst) (type:=type) (pos:=pos) (after:=after) (guard:=guard) (ts:=ts) (hF.ev hc hf) (jY (fun x v hx=>hF.ev hc hx) has) (w:=w') hfn
     rw[hrun]
     refine⟨by simp[WF,Fence.wide],?_⟩
     refine(iG (n:=0 - 1)).2 ?_
     refine Calls.mono hk fun e w2 ⟨x,he,hx⟩=>?_
     subst he
     exact hK _ _ hx (fun hh=>by simp[dY] at hh)
    ·exact False.elim h
   ·exact False.elim h
  ·exact False.elim h
theorem xK {o:Oper} {c:Call} (hop:o.op= .defer c) {w:World} {v:Value} (h:cN P o a w v):False:=by
 obtain⟨dst,op,type,pos,after,guard⟩:=o
 simp only at hop
 subst hop
 unfold cN execOp at h
 simp only[Sem.run_bind] at h
 generalize (resolve a.eval c type).run P w=res at h
 cases res<;>simp at h
def Wr (S:Nat->Option (Option Value)) (ops:Array Oper):Prop:= ∀o∈ops, ∀k,o.dst=some k->S k=none
theorem zL {α:Type} {l:List α} (h:l.getLast?=none):l=[]:=List.getLast?_eq_none_iff.1 h
theorem vk {r:Option Nat} {C:dD P} {i:Nat} {o:Oper} {Q:Exit->Act->World->Prop} (ho:ops[i]? =some o) (BH: ∀k,o.dst=some k->S k=none):
 ∀(n:Nat) (env:List bD) (w w':World) (K:List bD->World->Prop),Fit S ops N D env a->Iq C ops N o n env w K->Ext w w'->
 wpOpIn (WF r) 0 P ops Q i (fun a1 w1=>(yO C o=false->Ext w' w1)/\ ∃dh wr,K dh wr/\Fit S ops N D dh a1/\Ext wr w1) a w'
 |0, _, _, _, _, _,h, _=>False.elim h
 |n+1,env,w,w',K,hF,h,hw=>by
  simp only[Iq,zg,iC] at h
  split at h
  ·exact False.elim h
  ·rename_i hgd
   have mX:=zh hF hgd
   split at h
   ·rename_i hput
    unfold wpOpIn
    simp only[ho]
    rw[if_neg (by rw[mX];simp)]
    exact⟨fun _ _=>trivial,fun _=>Ext.refl _, _,w,h,hF.put hput BH rfl (fun _=>rfl) (fun hn=>absurd fH hn),hw⟩
   ·exact False.elim h
  ·rename_i ch g hgd
   obtain⟨hg,mX⟩:=IM hF hgd
   split at h
   ·rename_i hput
    split at h
    ·rename_i pz
     split at h
     ·rename_i TZ
      have:ch=[]:=zL TZ
      subst this
      unfold wpOpIn
      simp only[ho]
      rw[if_pos (mX.2 fH)]
      refine Q0 hF h hw fun v w2 hk hx=>⟨fun hs=>hx (JX (C:=C) (ρ:=uE env []) (fun _=>rfl) hs pz), _,w2,hk,?_,Ext.refl _⟩
      exact hF.put hput BH rfl (fun _=>rfl) (fun hn=>absurd fH hn)
     ·split at h
      ·rename_i d hd
       split at h
       ·rename_i e he
        split at h
        ·rename_i x hx
         split at h
         ·rename_i WJ
          have nP:e.ch=[]:=by simpa using WJ
          cases x with
          |true=>exact vk ho BH n _ w w' K (hF.settle hd he nP hx) h hw
          |false=>exact vk ho BH n _ w w' K (hF.settle hd he nP hx) h hw
         ·exact False.elim h
        ·exact False.elim h
       ·exact False.elim h
      ·exact False.elim h
    ·obtain⟨v,hk,hq⟩:=Cg hF hg h
     replace hk:=pU hk
     unfold wpOpIn
     simp only[ho]
     by_cases hc:iJ ops a.tmps ch
     ·rw[if_pos (mX.2 hc)]
      have EZ:=hq hc w' hw
      have jQ: ∀c,o.op≠ .defer c:=by
       intro c hop
       exact xK hop EZ
      refine⟨fun _ _=>trivial,?_⟩
      rw[cF jQ]
      unfold cN at EZ
      split at EZ
      ·rename_i u w2 hrun
       obtain⟨rfl,rfl⟩:=EZ
       rw[hrun]
       exact⟨fun _=>Ext.refl _, _,w,hk,hF.put hput BH hg (fun _=>rfl) (fun hn=>absurd hc hn),hw⟩
      ·rename_i f args w2 hrun
       obtain⟨rfl,Au⟩:=EZ
       rw[hrun]
       refine⟨by simp[WF,Fence.wide],(iG (n:=0 - 1)).2 ?_⟩
       refine Calls.mono Au fun e w3 ⟨he,hx⟩=>?_
       subst he
       exact⟨fun _=>hx, _,w,hk,hF.put hput BH hg (fun _=>rfl) (fun hn=>absurd hc hn),hw.trans hx⟩
      ·exact EZ.elim
     ·rw[if_neg (fun hh=>hc (mX.1 hh))]
      exact⟨fun _ _=>trivial,fun _=>Ext.refl _, _,w,hk,hF.put hput BH hg (fun hh=>absurd hh hc) (fun _=>rfl),hw⟩
   ·exact False.elim h
theorem AJ {r:Option Nat} {C:dD P} {i:Nat} {w w':World} {K:List bD->World->Prop} {Q:Exit->Act->World->Prop} (hS:Wr S ops) (hF:Fit S ops N D env a)
 (h:Ak C ops N i env w K) (hw:Ext w w'):wpOpIn (WF r) 0 P ops Q i (fun a1 w1=>(((ops[i]?).map (yO C)).getD true=false->Ext w' w1)/\ ∃dh wr,K dh wr/\Fit S ops N D dh a1/\Ext wr w1) a w':=by
 unfold Ak at h
 cases ho:ops[i]? with
 |none=>simp[ho] at h
 |some o=>
  simp only[ho] at h ⊢
  have:=vk (r:=r) (Q:=Q) ho (hS o (Array.mem_of_getElem? ho)) 40 env w w' K hF h hw
  simpa using this
theorem Je {r:Option Nat} {C:dD P} {Q:Exit->Act->World->Prop} (hS:Wr S ops): ∀(l:List Nat) (env:List bD) (a:Act) (w w':World) (K:List bD->World->Prop),Fit S ops N D env a->
 Vv C ops N l env w K->Ext w w'->(∀env a w w',K env w->Fit S ops N D env a->Ext w w'->Q .normal a w')->wpOpsIn (WF r) 0 P ops Q l a w'
 |[],env,a,w,w',K,hF,h,hw,hK=>hK env a w w' h hF hw
 |i::l,env,a,w,w',K,hF,h,hw,hK=>by
  rw[wpOpsIn_cons]
  exact wpOpIn_mono (fun a1 w1 ⟨_,dh,wr,hk,rO,hw1⟩=>Je hS l dh a1 wr w1 K rO hk hw1 hK) (AJ hS hF h hw)
end Go.RX
namespace Go.RX
variable {P:Program}
def kr (r:Option Nat) (P:Program) (ops:Array Oper) (Q:Exit->Act->World->Prop) (DE:Nat->Bool) (T:Nat->World->Prop):Nat->Array Bool->Act->World->Prop
 |0,listed,a,w=> ∀w',Ext w w'->Region.ready .any ops listed=[]/\Q .normal a w'
 |fuel+1,listed,a,w=> ∀w',Ext w w'->(Region.ready .any ops listed=[]->Q .normal a w')/\
  ∀i∈Region.ready .any ops listed,wpOpIn (WF r) 0 P ops Q i (fun a1 w1=>(DE i=false->Ext w' w1)/\(DE i=true->T i w1)/\kr r P ops Q DE T fuel (listed.setIfInBounds i true) a1 w1) a w'
section
variable {r:Option Nat} {ops:Array Oper} {Q:Exit->Act->World->Prop} {DE:Nat->Bool} {T:Nat->World->Prop}
theorem l9 {fuel:Nat} {listed:Array Bool} {a:Act} {w w':World} (h:kr r P ops Q DE T fuel listed a w) (hw:Ext w w'):kr r P ops Q DE T fuel listed a w':=by
 cases fuel with
 |zero=>exact fun w2 h2=>h w2 (hw.trans h2)
 |succ n=>exact fun w2 h2=>h w2 (hw.trans h2)
theorem vP: ∀(fuel:Nat) (listed:Array Bool) (a:Act) (w:World),kr r P ops Q DE T fuel listed a w->wpAnyIn (WF r) 0 P .any ops Q fuel listed a w
 |0, _, _,w,h=>h w (Ext.refl w)
 |fuel+1, _, _,w,h=>⟨(h w (Ext.refl w)).1,fun i hi=>wpOpIn_mono (fun a1 w1 hh=>vP fuel _ a1 w1 hh.2.2) ((h w (Ext.refl w)).2 i hi)⟩
theorem nF {T T':Nat->World->Prop} (hT: ∀j w,T' j w->T j w): ∀(fuel:Nat) (listed:Array Bool) (a:Act) (w:World),kr r P ops Q DE T' fuel listed a w->kr r P ops Q DE T fuel listed a w
 |0, _, _, _,h=>h
 |fuel+1, _, _, _,h=>fun w' hw=>⟨(h w' hw).1,fun i hi=>wpOpIn_mono (fun a1 w1 hh=>⟨hh.1,fun he=>hT _ _ (hh.2.1 he),nF hT fuel _ a1 w1 hh.2.2⟩) ((h w' hw).2 i hi)⟩
def fI (P:Program) (ops:Array Oper) (o:Oper) (v:Value) (a:Act) (w:World):Prop:=
 (Region.wanted o (yielded ops a.tmps)=true/\ ∀w',Ext w w'->cN P o a w' v)\/
 (Region.wanted o (yielded ops a.tmps)=false/\v=undef)
theorem fI.of_same {o:Oper} {v:Value} {a a':Act} {w:World} (hy:fI P ops o v a w) (he:execOp a'.eval o=execOp a.eval o)
 (hw:Region.wanted o (yielded ops a'.tmps)=Region.wanted o (yielded ops a.tmps)):fI P ops o v a' w:=by
 unfold fI cN at*
 rw[he,hw]
 exact hy
theorem fI.op {i:Nat} {o:Oper} {v:Value} {a:Act} {w w':World} (hi:ops[i]? =some o) (hy:fI P ops o v a w) (hw:Ext w w') {K:Act->World->Prop}
 (h: ∀w1,Ext w' w1->K (a.put o.dst v) w1):wpOpIn (WF r) 0 P ops Q i K a w':=by
 unfold wpOpIn
 simp only[hi]
 rcases hy with ⟨Sk,hq⟩|⟨Sk,rfl⟩
 ·rw[if_pos Sk]
  have EZ:=hq w' hw
  refine⟨fun _ _=>trivial,?_⟩
  rw[cF (fun c hop=>xK hop EZ)]
  unfold cN at EZ
  split at EZ
  ·rename_i u w2 hrun
   obtain⟨rfl,rfl⟩:=EZ
   rw[hrun]
   exact h _ (Ext.refl _)
  ·rename_i f args w2 hrun
   obtain⟨rfl,Au⟩:=EZ
   rw[hrun]
   refine⟨by simp[WF,Fence.wide],(iG (n:=0 - 1)).2 ?_⟩
   refine Calls.mono Au fun e w3 ⟨he,hx⟩=>?_
   subst he
   exact h _ hx
  ·exact EZ.elim
 ·rw[if_neg (by rw[Sk];simp)]
  exact⟨fun _ _=>trivial,h _ (Ext.refl _)⟩
def u_ (ops:Array Oper) (o:Oper) (a a0:Act):Prop:=execOp a.eval o=execOp a0.eval o/\Region.wanted o (yielded ops a.tmps)=Region.wanted o (yielded ops a0.tmps)
theorem Fo {j:Nat} {oi oj:Oper} {v:Value} {a0:Act} (hj:ops[j]? =some oj) (hap:oi.apart ops oj=true)
 (hsi: ∀cs b,oi.op≠ .select cs b) (hsj: ∀cs b,oj.op≠ .select cs b) (XE: ∀c,oj.op≠ .defer c)
 (hQ: ∀c a w,¬ Q (.panic c) a w) {K:Act->World->Prop} {a:Act} {w':World}
 (hy:u_ ops oi a a0) (h:wpOpIn (WF r) 0 P ops Q j K (a.put oi.dst v) w'):
 wpOpIn (WF r) 0 P ops Q j (fun a1 w1=>u_ ops oi a1 a0/\K (a1.put oi.dst v) w1) a w':=by
 obtain⟨h1,h2,h3⟩:=Oper.apart_spec hap
 have keep: ∀(a:Act),u_ ops oi a a0-> ∀u,u_ ops oi (a.put oj.dst u) a0:=fun a hy u=>
  ⟨(execOp_put oi hsi a oj.dst u h3).trans hy.1,(wanted_put oi a oj.dst u h3).trans hy.2⟩
 unfold wpOpIn at*
 simp only[hj] at*
 rw[wanted_put oj a oi.dst v h1] at h
 split
 ·rename_i hw
  simp only[hw,if_true] at h
  unfold Oper.wpIn at*
  refine⟨fun _ _=>trivial,?_⟩
  have h:=h.2
  rw[cF XE,execOp_put oj hsj a oi.dst v h1] at h
  rw[cF XE]
  generalize (execOp a.eval oj).run P w'=res at*
  cases res with
  |ok x w2=>
   cases x<;>simp only[Oper.uponIn] at h ⊢
   case value u=>exact⟨keep a hy u,by rw[<-Act.put_comm a v u h2];exact h⟩
   case skip=>exact⟨keep a hy _,by rw[<-Act.put_comm a v undef h2];exact h⟩
   case defer d=>
    refine⟨keep ({a with defers:=d::a.defers}:Act) ⟨hy.1,hy.2⟩ undef,?_⟩
    rw[<-Act.put_comm _ v undef h2, <-Act.put_defers]
    exact h
   case enter f args=>
    refine⟨h.1,CallsIn.mono h.2 fun e w'' he=>?_⟩
    cases e with
    |returned u=>exact⟨keep a hy u,by rw[<-Act.put_comm a v u h2];exact he⟩
    |panicked c=>exact absurd he (hQ _ _ _)
    |outgrown=>exact he
   case row row args=>exact⟨h.1,RowsIn.mono h.2 fun u w'' he=>⟨keep a hy u,by rw[<-Act.put_comm a v u h2];exact he⟩⟩
   case round l f tmps assign body=>
    refine⟨h.1,RoundIn.mono h.2 fun e w'' he=>?_⟩
    cases e with
    |returned u=>exact⟨keep a hy u,by rw[<-Act.put_comm a v u h2];exact he⟩
    |panicked c=>exact absurd he (hQ _ _ _)
    |outgrown=>exact he
  |halt x w2=>
   cases x<;>simp only[Oper.uponIn] at h ⊢
   case panic u=>exact absurd h (hQ _ _ _)
 ·rename_i hw
  simp only[hw] at h
  exact⟨fun _ _=>trivial,keep a hy _,by rw[<-Act.put_comm a v undef h2];exact h.2⟩
def UT (o:Oper):Bool:=match o.op with
 | .move _=>true
 | .assign _=>true
 | .extract .. =>true
 | _=>false
theorem fI.mf {o:Oper} {v:Value} {a:Act} {w w1:World} (hm:UT o=true) (hy:fI P ops o v a w):fI P ops o v a w1:=by
 obtain⟨dst,op,type,pos,after,guard⟩:=o
 cases op with
 |move x=>
  rcases hy with ⟨hw,hq⟩|hn
  ·refine .inl ⟨hw,fun w2 _=>?_⟩
   have:=hq w (Ext.refl w)
   simp only[cN,execOp,Sem.run_pure] at this ⊢
   exact⟨trivial,this.2⟩
  ·exact .inr hn
 |assign x=>
  rcases hy with ⟨hw,hq⟩|hn
  ·refine .inl ⟨hw,fun w2 _=>?_⟩
   have:=hq w (Ext.refl w)
   simp only[cN,execOp,Sem.run_pure] at this ⊢
   exact⟨trivial,this.2⟩
  ·exact .inr hn
 |extract x k=>
  rcases hy with ⟨hw,hq⟩|hn
  ·refine .inl ⟨hw,fun w2 _=>?_⟩
   have:=hq w (Ext.refl w)
   cases hx:a.eval x with
   |tuple vs=>
    cases hv:vs[k]? with
    |none=>simp[cN,execOp,Instr.extract,hx,hv] at this
    |some u=>
     simp only[cN,execOp,Instr.extract,hx,hv,Sem.run_bind,Sem.run_pure,Result.andThen_ok] at this ⊢
     exact⟨trivial,this.2⟩
   | _=>simp[cN,execOp,Instr.extract,hx] at this
  ·exact .inr hn
 | _=>cases hm
theorem rm {i:Nat} {oi:Oper} {v:Value} {W:Nat->Bool} {T T':Nat->World->Prop} {a0:Act} (hi:ops[i]? =some oi) (SL:DE i=false) (hsel: ∀(j:Nat) (o:Oper),ops[j]? =some o->(∀cs b,o.op≠ .select cs b)/\ ∀c,o.op≠ .defer c)
 (hQ: ∀c a w,¬ Q (.panic c) a w) (hT: ∀j w,T' j w->T j w):
 ∀(fuel:Nat) (listed:Array Bool) (a:Act) (w:World),
  (∀j oj,ops[j]? =some oj->j≠i->listed.getD j true=false->W j=false->oi.apart ops oj=true/\(DE j=false\/UT oi=true\/ ∀w1,T' j w1->fI P ops oi v a0 w1))->
  (∀j,W j=true->listed.getD j true=false/\ ∃oj,ops[j]? =some oj/\ ∃e∈oj.after,Region.binds .any e=true/\(e.on=i\/W e.on=true))->
  i∈Region.ready .any ops listed->u_ ops oi a a0->fI P ops oi v a0 w->
  kr r P ops Q DE T' fuel (listed.setIfInBounds i true) (a.put oi.dst v) w->kr r P ops Q DE T (fuel+1) listed a w:=by
 have nil: ∀(listed:Array Bool),i∈Region.ready .any ops listed->Region.ready .any ops listed≠[]:=fun l hl h=>by rw[h] at hl;cases hl
 have XF: ∀(listed:Array Bool) (k:Nat),listed.getD k true=false->listed.getD k false=true->False:=fun l k h0 h1=>by
  rcases Nat.lt_or_ge k l.size with h'|h'
  ·simp[h'] at h0 h1;rw[h0] at h1;cases h1
  ·simp[Array.getElem?_eq_none h'] at h1
 intro fuel
 induction fuel with
 |zero=>
  intro listed a w _ _ hr hs hy H w' hw
  refine⟨fun h=>absurd h (nil listed hr),fun j hj=>?_⟩
  by_cases hji:j=i
  ·subst hji
   refine(hy.of_same hs.1 hs.2).op hi hw fun w1 h1=>⟨fun _=>h1,(fun he=>by rw[SL] at he;cases he),nF hT _ _ _ _ (l9 H (hw.trans h1))⟩
  ·have:=ready_mono hj hji
   rw[(H w' hw).1] at this
   cases this
 |succ fuel ih=>
  intro listed a w hfree IN hr hs hy H w' hw
  refine⟨fun h=>absurd h (nil listed hr),fun j hj=>?_⟩
  by_cases hji:j=i
  ·subst hji
   refine(hy.of_same hs.1 hs.2).op hi hw fun w1 h1=>⟨fun _=>h1,(fun he=>by rw[SL] at he;cases he),nF hT _ _ _ _ (l9 H (hw.trans h1))⟩
  ·have h1:=(H w' hw).2 j (ready_mono hj hji)
   obtain⟨Tv,oj,O8,hall⟩:=mem_ready.1 hj
   have WK:=(mem_ready.1 hr).1
   have Vy:W j=false:=by
    cases hW:W j with
    |false=>rfl
    |true=>
     obtain⟨_,oj',Tw,e,he,hb,SN⟩:=IN j hW
     rw[O8] at Tw
     cases Tw
     have hl:=hall e he hb
     rcases SN with SN|SN
     ·rw[SN] at hl
      exact(XF listed i WK hl).elim
     ·exact(XF listed _ (IN _ SN).1 hl).elim
   obtain⟨hap,pz⟩:=hfree j oj O8 hji Tv Vy
   have h2:=Fo O8 hap (hsel i oi hi).1 (hsel j oj O8).1 (hsel j oj O8).2 hQ hs h1
   refine wpOpIn_mono (fun a1 w1 h3=>?_) h2
   obtain⟨PV,hx,ht,hk⟩:=h3
   refine⟨hx,fun he=>hT _ _ (ht he),?_⟩
   refine ih (listed.setIfInBounds j true) a1 w1 ?_ ?_ (ready_mono hr (Ne.symm hji)) PV ?_ ?_
   ·intro k ok hk hki hun UU
    refine hfree k ok hk hki ?_ UU
    by_cases UW:j=k
    ·subst UW;exact Tv
    ·rw[getD_set_ne true UW] at hun;exact hun
   ·intro k UU
    obtain⟨hun,rest⟩:=IN k UU
    refine⟨?_,rest⟩
    have UW:j≠k:=fun e=>by rw[e,UU] at Vy;cases Vy
    rw[getD_set_ne true UW];exact hun
   ·have old:Ext w' w1->fI P ops oi v a0 w1:=fun hx1=>by
     have YJ:=hw.trans hx1
     rcases hy with ⟨hw1,UX⟩|hn
     ·exact .inl ⟨hw1,fun w2 h2=>UX w2 (YJ.trans h2)⟩
     ·exact .inr hn
    cases he:DE j with
    |false=>exact old (hx he)
    |true=>
     rcases pz with pz|pz|pz
     ·rw[pz] at he;cases he
     ·exact hy.mf pz
     ·exact pz w1 (ht he)
   ·rw[Array.setIfInBounds_comm _ _ hji]
    exact hk
end
def Tx (C:dD P) (ops:Array Oper) (N:Nat) (o:Oper) (env:List bD) (w:World) (K:List bD->Prop):Prop:=
 match gd ops env o with
 |none=>dI 41 o.op
 |some none=>if qA ops N env [] o.dst then Aj env o.dst [] none undef K else dI 42 o.op
 |some (some (ch,g))=>
  if qA ops N env ch o.dst then qd C ops env ch g o w (fun v=>u9 C o v (fun v=>Aj env o.dst ch g v K)) else dI 43 o.op
def Vz (C:dD P) (ops:Array Oper) (N:Nat) (i:Nat) (env:List bD) (w:World) (K:List bD->Prop):Prop:=
 match ops[i]? with
 |none=>False
 |some ⟨dst,op,type,pos,after,guard⟩=>Tx C ops N ⟨dst,op,type,pos,after,guard⟩ env w K
def QB {P:Program} (C:dD P) (ops:Array Oper) (env:List bD) (ch:List (Nat×Bool)) (g:Option Bool) (o:Oper) (w:World) (K:(World->Prop)->Value->Prop):Prop:=
 let ρ:=uE env ch
 match o.op with
 | .load t x=>match ρ x,UR C t,P.info? t with
   |some (.pointer p),some el,some i=>if lU el i.size=true then dI 61 o.op else ag w g p el (fun x=>K (fun w=>iN g (cg w p el x)) (el.gi x))
   | _, _, _=>dI 62 o.op
 | .entry _=>dI 63 o.op
 | .lookup xt m ix ok=>match ok,P.underlying xt,ρ m,ρ ix with
   |false,some (.map kt et),some (.map p),some (.int k n)=>match P.underlying kt,tZ P et,P.info? et with
    |some (.int k'),some el,some i=>match i.zero with
     |some z=>if k=k' then∃x:el.T,iN g (mm w p k n z (el.gi x))/\K (fun w=>iN g (mm w p k n z (el.gi x))) (el.gi x) else dI 61 o.op
     |none=>dI 62 o.op
    | _, _, _=>dI 63 o.op
   |true,some (.map kt et),some (.map p),some (.int k n)=>match P.underlying kt,tZ P et,P.info? et with
    |some (.int k'),some el,some i=>match i.zero with
     |some z=>if k=k' then∃x:el.T, ∃b:Bool,iN g (lO w p k n z (el.gi x) b)/\K (fun w=>iN g (lO w p k n z (el.gi x) b)) (.tuple ⟨[el.gi x,.bool b]⟩) else dI 61 o.op
     |none=>dI 62 o.op
    | _, _, _=>dI 63 o.op
   | _, _, _, _=>dI 64 o.op
 | .pick .. =>qd C ops env ch g o w (fun v=>K (fun _=>True) v)
 | .call c=>match c.callee with
   | .value f=>match ρ f,maps ρ c.args.toList with
     |some (.func (.func fid) first cap),some aag=>
      if a_ P fid=true then
       match qz C.qc fid with
       |some e=>match e.fn (dg first aag cap) with
        |some (pre,v)=>iN g pre/\K (fun _=>True) v
        |none=>dI 64 o.op
       |none=> ∃x:(rR C fid).T,iN g (ah P fid (dg first aag cap) w ((rR C fid).gi x))/\K (fun w=>iN g (ah P fid (dg first aag cap) w ((rR C fid).gi x))) ((rR C fid).gi x)
      else dI 65 o.op
     | _, _=>dI 66 o.op
   | .builtin .len=>match y9 P ρ c with
     |some p=> ∃n:Nat,iN g (MV w p n)/\K (fun w=>iN g (MV w p n)) (.int .i64 n)
     |none=>qd C ops env ch g o w (fun v=>K (fun _=>True) v)
   | _=>qd C ops env ch g o w (fun v=>K (fun _=>True) v)
 | _=>qd C ops env ch g o w (fun v=>K (fun _=>True) v)
def Sm (p:World->Prop):Prop:= ∀w w',p w->Ext w w'->p w'
theorem qI {g:Option Bool} {p:World->Prop} (h:Sm p):Sm (fun w=>iN g (p w)):=by
 intro w w' hp hw
 cases g with
 |none=>exact h w w' hp hw
 |some b=>exact fun hb=>h w w' (hp hb) hw
def Jf (op:Op):Bool:=match op with
 | .load .. =>false
 | .lookup .. =>false
 | .entry _=>false
 | .call c=>(match c.callee with| .value _=>false| .builtin .len=>false| _=>true)
 | _=>true
theorem Fp {C:dD P} {ops:Array Oper} {env:List bD} {ch:List (Nat×Bool)} {g:Option Bool} {o:Oper} {w:World} {K:Value->Prop} (hl:Jf o.op=true)
 (h:qd C ops env ch g o w K): ∃v,K v/\ ∀w2,qd C ops env ch g o w2 (fun u=>u=v):=by
 obtain⟨dst,op,type,pos,after,guard⟩:=o
 cases op with
 |load t x=>cases hl
 |lookup a b c d=>cases hl
 |entry a=>cases hl
 |pick c x y=>
  unfold qd at h
  simp only at h
  unfold qd
  simp only
  split at h
  ·split at h
   ·split at h
    ·split at h
     ·exact⟨_,h,fun _=>rfl⟩
     ·exact h.elim
    ·split at h
     ·exact⟨_,h,fun _=>rfl⟩
     ·exact h.elim
    ·split at h
     ·split at h
      ·split at h
       ·exact⟨_,h,fun _=>rfl⟩
       ·exact⟨_,h,fun _=>rfl⟩
       ·exact⟨_,h,fun _=>rfl⟩
      ·exact h.elim
     ·exact h.elim
   ·exact h.elim
  ·exact h.elim
 |call c=>
  obtain⟨callee,args,ts⟩:=c
  cases callee with
  |value f=>cases hl
  |builtin b=>
   cases b with
   |len=>cases hl
   | _=>
     unfold qd at h
     simp only at h
     unfold qd
     simp only
     split at h
     ·exact⟨_,h,fun _=>rfl⟩
     ·exact⟨_,h.2,fun _=>⟨h.1,rfl⟩⟩
     ·exact h.elim
  | _=>
    unfold qd at h
    simp only at h
    unfold qd
    simp only
    split at h
    ·exact⟨_,h,fun _=>rfl⟩
    ·exact⟨_,h.2,fun _=>⟨h.1,rfl⟩⟩
    ·exact h.elim
 | _=>
   unfold qd at h
   simp only at h
   unfold qd
   simp only
   split at h
   ·exact⟨_,h,fun _=>rfl⟩
   ·exact⟨_,h.2,fun _=>⟨h.1,rfl⟩⟩
   ·exact h.elim
theorem JY {C:dD P} {ops:Array Oper} {env:List bD} {ch:List (Nat×Bool)} {g:Option Bool} {o:Oper} {w:World} {K:(World->Prop)->Value->Prop} (h:QB C ops env ch g o w K):
 ∃p v,K p v/\p w/\Sm p/\ ∀w2,p w2->qd C ops env ch g o w2 (fun u=>u=v):=by
 obtain⟨dst,op,type,pos,after,guard⟩:=o
 have st:Jf op=true->qd C ops env ch g ⟨dst,op,type,pos,after,guard⟩ w (fun v=>K (fun _=>True) v)->
  ∃p v,K p v/\p w/\Sm p/\ ∀w2,p w2->qd C ops env ch g ⟨dst,op,type,pos,after,guard⟩ w2 (fun u=>u=v):=fun hl h=>by
  obtain⟨v,hk,hv⟩:=Fp (o:=⟨dst,op,type,pos,after,guard⟩) hl h
  exact⟨_,v,hk,trivial,fun _ _ _ _=>trivial,fun w2 _=>hv w2⟩
 unfold QB at h
 cases op with
 |load t x=>
  simp only at h
  split at h
  ·rename_i p el i h1 h2 h3
   split at h
   ·exact h.elim
   ·rename_i hb
    obtain⟨x',hr,hk⟩:=h
    refine⟨_, _,hk,hr,qI fun w w' hp hw=>vi hw hp,fun w2 hp=>?_⟩
    unfold qd
    simp only[h1,h2,h3,if_neg hb]
    exact⟨x',hp,rfl⟩
  ·exact h.elim
 |entry a=>exact h.elim
 |lookup xt m ix ok=>
  simp only at h
  split at h
  ·rename_i kt et p kd n h1 h2 h3
   split at h
   ·rename_i Sj el ti h4 h5 h6
    split at h
    ·rename_i z h7
     split at h
     ·rename_i h8
      obtain⟨x,hq,hk⟩:=h
      refine⟨_, _,hk,hq,qI fun w w' hp hw=>?_,fun w2 hp=>?_⟩
      ·obtain⟨r,es,clock,q1,q2,q3⟩:=hp
       exact⟨r,es,clock,q1,hw.obj q2,q3⟩
      ·unfold qd
       simp only[h1,h2,h3,h4,h5,h6,h7,if_pos h8]
       exact⟨x,hp,rfl⟩
     ·exact h.elim
    ·exact h.elim
   ·exact h.elim
  ·rename_i kt et p kd n h1 h2 h3
   split at h
   ·rename_i Sj el ti h4 h5 h6
    split at h
    ·rename_i z h7
     split at h
     ·rename_i h8
      obtain⟨x,b,hq,hk⟩:=h
      refine⟨_, _,hk,hq,qI fun w w' hp hw=>?_,fun w2 hp=>?_⟩
      ·obtain⟨r,es,clock,q1,q2,q3⟩:=hp
       exact⟨r,es,clock,q1,hw.obj q2,q3⟩
      ·unfold qd
       simp only[h1,h2,h3,h4,h5,h6,h7,if_pos h8]
       exact⟨x,b,hp,rfl⟩
     ·exact h.elim
    ·exact h.elim
   ·exact h.elim
  ·exact h.elim
 |call c=>
  obtain⟨callee,args,ts⟩:=c
  cases callee with
  |value f=>
   simp only at h
   split at h
   ·rename_i fid first cap aag h1 h2
    split at h
    ·rename_i hc
     split at h
     ·rename_i e he
      split at h
      ·rename_i pre v hfn
       refine⟨_,v,h.2,trivial,fun _ _ _ _=>trivial,fun w2 _=>?_⟩
       unfold qd
       simp only[h1,h2,if_pos hc,he,hfn]
       exact⟨h.1,trivial⟩
      ·exact h.elim
     ·rename_i he
      obtain⟨x,hq,hk⟩:=h
      refine⟨_, _,hk,hq,qI fun w w' hp hw=>fun w2 h2=>hp w2 (hw.trans h2),fun w2 hp=>?_⟩
      unfold qd
      simp only[h1,h2,if_pos hc,he]
      exact⟨x,hp,rfl⟩
    ·exact h.elim
   ·exact h.elim
  |builtin b=>
   cases b with
   |len=>
    simp only at h
    split at h
    ·rename_i p hp
     obtain⟨n,hq,hk⟩:=h
     refine⟨_, _,hk,hq,qI fun w w' hp hw=>?_,fun w2 wV=>?_⟩
     ·obtain⟨r,es,clock,q1,q2,q3⟩:=hp
      exact⟨r,es,clock,q1,hw.obj q2,q3⟩
     ·unfold qd
      simp only[hp]
      exact⟨n,wV,rfl⟩
    ·rename_i hp
     unfold qd at h
     simp only[hp] at h
     split at h
     ·rename_i v hv
      refine⟨_,v,h,trivial,fun _ _ _ _=>trivial,fun w2 _=>?_⟩
      unfold qd
      simp only[hp,hv]
     ·rename_i p v hv
      refine⟨_,v,h.2,trivial,fun _ _ _ _=>trivial,fun w2 _=>?_⟩
      unfold qd
      simp only[hp,hv]
      exact⟨h.1,trivial⟩
     ·exact h.elim
   | _=>exact st rfl h
  | _=>exact st rfl h
 | _=>exact st rfl h
def Pw (C:dD P) (ops:Array Oper) (N:Nat) (o:Oper) (env:List bD) (w:World) (K:(World->Prop)->List bD->Prop):Prop:=
 match gd ops env o with
 |none=>dI 44 o.op
 |some none=>if qA ops N env [] o.dst then Aj env o.dst [] none undef (K fun _=>True) else dI 45 o.op
 |some (some (ch,g))=>
  if qA ops N env ch o.dst then QB C ops env ch g o w (fun p v=>u9 C o v (fun v=>Aj env o.dst ch g v (K p))) else dI 46 o.op
def QC (C:dD P) (ops:Array Oper) (N:Nat) (i:Nat) (env:List bD) (w:World) (K:(World->Prop)->List bD->Prop):Prop:=
 match ops[i]? with
 |none=>False
 |some ⟨dst,op,type,pos,after,guard⟩=>Pw C ops N ⟨dst,op,type,pos,after,guard⟩ env w K
def xy (j:Nat) (w:World):List (Nat×(World->Prop))->Prop->Prop
 |[],K=>K
 |(W,p)::r,K=>match W.testBit j with
  |true=>xy j w r K
  |false=>p w/\xy j w r K
theorem lp {j:Nat} {w:World}: ∀{l:List (Nat×(World->Prop))} {K:Prop},xy j w l K<->(∀e∈l,e.1.testBit j=false->e.2 w)/\K
 |[],K=>by simp[xy]
 |(W,p)::r,K=>by
  unfold xy
  cases h:W.testBit j with
  |true=>simp only[lp (l:=r),List.forall_mem_cons,h];simp
  |false=>simp only[lp (l:=r),List.forall_mem_cons,h];simp[and_assoc]
def IP (ops:Array Oper):Bool:=ops.toList.all fun o=>match o.op with| .select .. | .defer _=>false| _=>true
def sb (i:Nat):Nat:=1 <<< i
theorem uQ (i j:Nat):(sb i).testBit j=decide (i=j):=by
 unfold sb
 rw[Nat.one_shiftLeft,Nat.testBit_two_pow]
def xz:List Nat->Nat
 |[]=>0
 |x::r=>sb x ||| xz r
theorem qQ: ∀(l:List Nat) (j:Nat),(xz l).testBit j=decide (j∈l)
 |[],j=>by simp[xz]
 |x::r,j=>by
  rw[xz,Nat.testBit_or,uQ,qQ r]
  by_cases h1:x=j
  ·subst h1;simp
  ·have: ¬ j=x:=fun e=>h1 e.symm
   simp[h1,this]
theorem and_zero {a b j:Nat} (h:((a &&& b)==0)=true) (ha:a.testBit j=true):b.testBit j=false:=by
 have:=congrArg (fun m=>m.testBit j) (by simpa using h:a &&& b=0)
 simp only[Nat.testBit_and,ha,Nat.zero_testBit,Bool.true_and] at this
 exact this
theorem JZ {a b:Nat} (h:((a &&& b) != 0)=true): ∃j,a.testBit j=true/\b.testBit j=true:=by
 have h':a &&& b≠0:=by simpa using h
 obtain⟨j,hj⟩:=Nat.exists_testBit_of_ne_zero h'
 rw[Nat.testBit_and,Bool.and_eq_true] at hj
 exact⟨j,hj⟩
theorem Nj {a b j:Nat} (h:((a &&& b)==a)=true) (ha:a.testBit j=true):b.testBit j=true:=by
 have:=congrArg (fun m=>m.testBit j) (by simpa using h:a &&& b=a)
 simp only[Nat.testBit_and,ha,Bool.true_and] at this
 exact this
theorem Nk {a b:Nat} (h:((a &&& b)==a)=false): ∃j,a.testBit j=true/\b.testBit j=false:=by
 apply Classical.byContradiction
 intro hn
 have:a &&& b=a:=by
  apply Nat.eq_of_testBit_eq
  intro j
  rw[Nat.testBit_and]
  cases ha:a.testBit j with
  |false=>rfl
  |true=>
   cases hb:b.testBit j with
   |true=>rfl
   |false=>exact absurd ⟨j,ha,hb⟩ hn
 simp[this] at h
def E6 (o:Oper):Nat:=xz ((o.after.toList.filter fun e=>Region.binds .any e).map (·.on))
def O9 (o:Oper):Nat:=match o.dst with
 |some d=>sb d
 |none=>0
def UY (ops:Array Oper) (o:Oper):Nat:=xz (o.looksAt ops)
def MG (L i e:Nat):Bool:= !L.testBit i&&(e &&& L)==e
def BI (L i:Nat):List (Oper×Nat)->Nat->Nat
 |[],W=>W
 |(o,j)::r,W=>BI L i r (if !L.testBit j&&(E6 o &&& (W ||| sb i)) != 0 then W ||| sb j else W)
def UZ (ops:Array Oper) (x y:Oper):Bool:=(O9 x &&& (UY ops y ||| O9 y))==0&&(O9 y &&& UY ops x)==0
def YK (C:dD P) (ops:Array Oper) (L i W:Nat) (x:Oper) (Z:List (Oper×Nat)):Bool:=
 Z.all fun z=>z.2==i||L.testBit z.2||W.testBit z.2||(UZ ops x z.1&&(!yO C z.1||UT x))
def XG (C:dD P) (Z:List (Oper×Nat)) (L:Nat):Option (Nat×Bool):=
 match Z.find? fun z=>MG L z.2 (E6 z.1)&& !yO C z.1&& !dY z.1 with
 |some z=>some (z.2,true)
 |none=>match Z.find? fun z=>MG L z.2 (E6 z.1) with
  |some z=>some (z.2,false)
  |none=>none
def YL (ops:Array Oper) (L i W:Nat) (x:Oper) (Z:List (Oper×Nat)):Bool:=
 Z.all fun z=>z.2==i||L.testBit z.2||W.testBit z.2||UZ ops x z.1
inductive Sd where
 |nil|q (i:Nat) (m:Option Nat) (r:Sd)|alt (i:Nat) (r t:Sd)|stop
def m_ (C:dD P) (ops:Array Oper) (Z:List (Oper×Nat)):Nat->Nat->Option Sd
 |0,L=>if Z.all fun z=> !MG L z.2 (E6 z.1) then some .nil else none
 |n+1,L=>match XG C Z L with
  |none=>none
  |some (i,true)=>match ops[i]? with
   |some x=>if MG L i (E6 x)&& !yO C x then
     if YK C ops L i (BI L i Z 0) x Z then match m_ C ops Z n (L ||| sb i) with
      |some l=>some (.q i none l)
      |none=>none
     else if YL ops L i (BI L i Z 0) x Z then match m_ C ops Z n (L ||| sb i) with
      |some l=>some (.q i (some (BI L i Z 0)) l)
      |none=>none
     else none
    else none
   |none=>none
  |some (_,false)=>(Z.filter fun z=>MG L z.2 (E6 z.1)).foldr (fun z acc=>match acc with
   |none=>none
   |some b=>match m_ C ops Z n (L ||| sb z.2) with
    |some a=>some (.alt z.2 a b)
    |none=>none) (some .stop)
def Q3 (C:dD P) (ops:Array Oper):Option Sd:=m_ C ops ops.toList.zipIdx ops.size 0
def mo (C:dD P) (ops:Array Oper) (i:Nat):Bool:=((ops[i]?).map (yO C)).getD true
def DK (C:dD P) (ops:Array Oper) (i:Nat) (w:World) (l:List (Nat×(World->Prop))) (K:Prop):Prop:=
 match mo C ops i with
 |true=>xy i w l K
 |false=>K
def QD (C:dD P) (ops:Array Oper) (N:Nat) (i:Nat) (pd:List (Nat×(World->Prop))) (env:List bD) (w:World) (F:List bD->World->Prop):Prop:=match pd with
 |[]=>Ak C ops N i env w F
 |e::pd=>Ak C ops N i env w (fun env w=>DK C ops i w (e::pd) (F env w))
def QE (t:Sd) (a b:Prop):Prop:=match t with
 | .stop=>a
 | _=>a/\b
def zX (C:dD P) (ops:Array Oper) (N:Nat):Sd->List (Nat×(World->Prop))->List bD->World->(List bD->World->Prop)->Prop
 | .nil, _,env,w,K=>K env w
 | .q i none r,pd,env,w,K=>Vz C ops N i env w (fun env=>zX C ops N r pd env w K)
 | .q i (some W) r,pd,env,w,K=>QC C ops N i env w (fun p env=>zX C ops N r ((W,p)::pd) env w K)
 | .alt i r t,pd,env,w,K=>QE t (QD C ops N i pd env w (fun env w=>zX C ops N r pd env w K)) (zX C ops N t pd env w K)
 | .stop, _, _, _, _=>True
def Ty (C:dD P) (ops:Array Oper) (N:Nat) (l:Sd) (env:List bD) (w:World) (K:List bD->World->Prop):Prop:=zX C ops N l [] env w K
def QF (C:dD P) (ops:Array Oper) (N:Nat) (env:List bD) (w:World) (K:List bD->World->Prop):Prop:=
 match Q3 C ops with
 |some l=>Ty C ops N l env w K
 |none=>False
def DL (j:Nat) (x:Sd):Sd->Prop
 | .alt i r t=>(j=i/\x=r)\/DL j x t
 | _=>False
def Valid (C:dD P) (ops:Array Oper):Nat->Sd->Array Bool->Prop
 |0,t,listed=>t= .nil/\Region.ready .any ops listed=[]
 |n+1,t,listed=>match t with
  | .q i m r=>i∈Region.ready .any ops listed/\mo C ops i=false/\
    (∃W:Nat->Bool,(∀oi,ops[i]? =some oi-> ∀j oj,ops[j]? =some oj->j≠i->listed.getD j true=false->W j=false->oi.apart ops oj=true/\(yO C oj=false\/UT oi=true\/ ∃w,m=some w/\w.testBit j=false))/\
     (∀j,W j=true->listed.getD j true=false/\ ∃oj,ops[j]? =some oj/\ ∃e∈oj.after,Region.binds .any e=true/\(e.on=i\/W e.on=true)))/\
    Valid C ops n r (listed.setIfInBounds i true)
  | .alt i r t'=>i∈Region.ready .any ops listed/\ ∀j∈Region.ready .any ops listed, ∃x,DL j x (.alt i r t')/\Valid C ops n x (listed.setIfInBounds j true)
  | _=>False
def wM (ops:Array Oper) (L:Nat) (listed:Array Bool):Prop:=listed.size=ops.size/\ ∀j,listed.getD j false=L.testBit j
theorem wM.un {ops:Array Oper} {L:Nat} {listed:Array Bool} (h:wM ops L listed) {j:Nat} (hj:j<ops.size):listed.getD j true=L.testBit j:=by
 rw[<-h.2 j]
 have:j<listed.size:=by rw[h.1];exact hj
 simp[Array.getD,this]
theorem wM.set {ops:Array Oper} {L:Nat} {listed:Array Bool} (h:wM ops L listed) {i:Nat} (hi:i<ops.size):wM ops (L ||| sb i) (listed.setIfInBounds i true):=by
 refine⟨by simp[h.1],fun j=>?_⟩
 rw[Nat.testBit_or,uQ, <-h.2 j]
 by_cases e:i=j
 ·subst e
  have:i<listed.size:=by rw[h.1];exact hi
  simp[Array.getD,this]
 ·rw[getD_set_ne false e];simp[e]
theorem wM.zero (ops:Array Oper):wM ops 0 (Array.replicate ops.size false):=by
 refine⟨by simp,fun j=>?_⟩
 rw[Nat.zero_testBit]
 by_cases h:j<ops.size<;>simp[Array.getD,h]
theorem nT {ops:Array Oper} {o:Oper} {j:Nat}:(o,j)∈ops.toList.zipIdx<->ops[j]? =some o:=by
 rw[List.mem_zipIdx_iff_getElem?];simp
theorem Ch {o:Oper} {j:Nat}:(E6 o).testBit j=true<-> ∃e∈o.after,Region.binds .any e=true/\e.on=j:=by
 unfold E6
 rw[qQ,decide_eq_true_eq,List.mem_map]
 constructor
 ·rintro⟨e,he,hj⟩
  rw[List.mem_filter] at he
  exact⟨e,by simpa using he.1,he.2,hj⟩
 ·rintro⟨e,he,hb,hj⟩
  exact⟨e,List.mem_filter.2 ⟨by simpa using he,hb⟩,hj⟩
theorem lq {ops:Array Oper} {L:Nat} {listed:Array Bool} (h:wM ops L listed) {i:Nat}:i∈Region.ready .any ops listed<-> ∃o,ops[i]? =some o/\MG L i (E6 o)=true:=by
 unfold Region.ready
 rw[List.mem_filter,List.mem_range]
 constructor
 ·rintro⟨hi,hc⟩
  rw[h.un hi] at hc
  simp only[Bool.and_eq_true] at hc
  have ho:ops[i]? =some ops[i]:=Array.getElem?_eq_getElem hi
  refine⟨ops[i],ho,?_⟩
  rw[ho] at hc
  simp only[Option.map_some,Option.getD_some,Array.all_eq_true_iff_forall_mem] at hc
  unfold MG
  rw[Bool.and_eq_true]
  refine⟨hc.1,?_⟩
  cases hq:(E6 ops[i] &&& L)==E6 ops[i] with
  |true=>rfl
  |false=>
   obtain⟨j,h1,h2⟩:=Nk hq
   obtain⟨e,he,hb,rfl⟩:=Ch.1 h1
   have:=hc.2 e he
   rw[hb,h.2,h2] at this
   cases this
 ·rintro⟨o,ho,hr⟩
  have hi:i<ops.size:=(Array.getElem?_eq_some_iff.1 ho).1
  unfold MG at hr
  rw[Bool.and_eq_true] at hr
  refine⟨hi,?_⟩
  rw[h.un hi,Bool.and_eq_true]
  refine⟨hr.1,?_⟩
  rw[ho]
  simp only[Option.map_some,Option.getD_some,Array.all_eq_true_iff_forall_mem]
  intro e he
  rw[h.2]
  cases hb:Region.binds .any e with
  |false=>rfl
  |true=>rw[Nj hr.2 (Ch.2 ⟨e,he,hb,rfl⟩)];rfl
theorem AK {L i:Nat}: ∀(Z:List (Oper×Nat)) (W j:Nat),W.testBit j=true->(BI L i Z W).testBit j=true
 |[], _, _,h=>h
 |(o,k)::r,W,j,h=>by
  unfold BI
  refine AK r _ j ?_
  split
  ·rw[Nat.testBit_or,h];rfl
  ·exact h
theorem Jg {L i:Nat}: ∀(Z:List (Oper×Nat)) (W:Nat),(∀x,(BI L i Z W).testBit x=true->W.testBit x=true\/(L.testBit x=false/\ ∃o,(o,x)∈Z/\ ∃k,(E6 o).testBit k=true/\(k=i\/(BI L i Z W).testBit k=true)))
 |[], _, _,h=> .inl h
 |(o,j)::r,W,x,h=>by
  unfold BI at h ⊢
  rcases Jg r _ x h with h1|⟨h1,o',h2,h3⟩
  ·split at h1
   ·rename_i hc
    rw[Nat.testBit_or,uQ,Bool.or_eq_true,decide_eq_true_eq] at h1
    rcases h1 with h1|rfl
    ·exact .inl h1
    ·rw[Bool.and_eq_true] at hc
     obtain⟨k,k1,k2⟩:=JZ hc.2
     rw[Nat.testBit_or,uQ,Bool.or_eq_true,decide_eq_true_eq] at k2
     refine .inr ⟨by simpa using hc.1,o,List.mem_cons_self,k,k1,?_⟩
     rcases k2 with k2|k2
     ·refine .inr (AK r _ k ?_)
      split
      ·rw[Nat.testBit_or,k2];rfl
      ·exact k2
     ·exact .inl k2.symm
   ·exact .inl h1
  ·exact .inr ⟨h1,o',List.mem_cons_of_mem _ h2,h3⟩
theorem Jh {ops:Array Oper} {x y:Oper} (h:UZ ops x y=true):x.apart ops y=true:=by
 unfold UZ at h
 rw[Bool.and_eq_true] at h
 obtain⟨h1,h2⟩:=h
 unfold Oper.apart
 rw[Bool.and_eq_true]
 constructor
 ·cases hd:x.dst with
  |none=>rfl
  |some d=>
   have hb:(O9 x).testBit d=true:=by simp[O9,hd,uQ]
   have:=and_zero h1 hb
   rw[Nat.testBit_or,Bool.or_eq_false_iff] at this
   obtain⟨a1,a2⟩:=this
   unfold UY at a1
   rw[qQ] at a1
   simp only[decide_eq_false_iff_not] at a1
   show(!(y.looksAt ops).contains d&&y.dst != some d)=true
   rw[Bool.and_eq_true]
   refine⟨by simpa using a1,?_⟩
   cases hy:y.dst with
   |none=>rfl
   |some d'=>
    have:d'≠d:=fun e=>by subst e;simp[O9,hy,uQ] at a2
    simp[this]
 ·cases hd:y.dst with
  |none=>rfl
  |some d=>
   have hb:(O9 y).testBit d=true:=by simp[O9,hd,uQ]
   have a1:=and_zero h2 hb
   unfold UY at a1
   rw[qQ] at a1
   simp only[decide_eq_false_iff_not] at a1
   show(!(x.looksAt ops).contains d)=true
   simpa using a1
theorem D8 {F:Nat->Option Sd}: ∀(l:List (Oper×Nat)) (t:Sd),l.foldr (fun z acc=>match acc with
 |none=>none
 |some b=>match F z.2 with
  |some a=>some (.alt z.2 a b)
  |none=>none) (some Sd.stop)=some t->(l=[]/\t= .stop)\/(∃i r t',t= .alt i r t'/\(∃o,(o,i)∈l)/\ ∀z∈l, ∃x,DL z.2 x t/\F z.2=some x)
 |[],t,h=>by
  simp only[List.foldr_nil,Option.some.injEq] at h
  exact .inl ⟨rfl,h.symm⟩
 |z::l,t,h=>by
  rw[List.foldr_cons] at h
  split at h
  ·cases h
  ·rename_i b hb
   split at h
   ·rename_i a ha
    cases h
    refine .inr ⟨z.2,a,b,rfl,⟨z.1,List.mem_cons_self⟩,fun y hy=>?_⟩
    rcases List.mem_cons.1 hy with rfl|hy
    ·exact⟨a,.inl ⟨rfl,rfl⟩,ha⟩
    ·rcases D8 l b hb with ⟨rfl, _⟩|⟨i,r,t', _, _,hall⟩
     ·cases hy
     ·obtain⟨x,h1,h2⟩:=hall y hy
      exact⟨x,.inr h1,h2⟩
   ·cases h
theorem n6 {C:dD P} {ops:Array Oper}: ∀(n L:Nat) (listed:Array Bool) (l:Sd),wM ops L listed->m_ C ops ops.toList.zipIdx n L=some l->Valid C ops n l listed
 |0,L,listed,l,hS,h=>by
  simp only[m_] at h
  split at h
  ·rename_i hc
   cases h
   refine⟨rfl,?_⟩
   rw[List.eq_nil_iff_forall_not_mem]
   intro j hj
   obtain⟨o,ho,hr⟩:=(lq hS).1 hj
   have:=List.all_eq_true.1 hc (o,j) (nT.2 ho)
   rw[hr] at this;cases this
  ·cases h
 |n+1,L,listed,l,hS,h=>by
  have wait: ∀i j,(BI L i ops.toList.zipIdx 0).testBit j=true->listed.getD j true=false/\ ∃oj,ops[j]? =some oj/\ ∃e∈oj.after,Region.binds .any e=true/\(e.on=i\/(BI L i ops.toList.zipIdx 0).testBit e.on=true):=by
   intro i j hW
   rcases Jg ops.toList.zipIdx 0 j hW with h1|⟨h1,o,h2,k,h3,h4⟩
   ·simp at h1
   ·have ho:=nT.1 h2
    obtain⟨e,he,hb,rfl⟩:=Ch.1 h3
    exact⟨by rw[hS.un (Array.getElem?_eq_some_iff.1 ho).1];exact h1,o,ho,e,he,hb,h4⟩
  simp only[m_] at h
  split at h
  ·cases h
  ·rename_i i _
   split at h
   ·rename_i x hx
    have hi:i<ops.size:=(Array.getElem?_eq_some_iff.1 hx).1
    split at h
    ·rename_i hc
     rw[Bool.and_eq_true,Bool.not_eq_true'] at hc
     have PW:mo C ops i=false:=by unfold mo;rw[hx];exact hc.2
     split at h
     ·rename_i hfr
      split at h
      ·rename_i l' hl
       cases h
       have ih:=n6 n _ _ l' (hS.set hi) hl
       refine⟨(lq hS).2 ⟨x,hx,hc.1⟩,PW,⟨fun j=>(BI L i ops.toList.zipIdx 0).testBit j,?_,fun j=>wait i j⟩,ih⟩
       intro oi SO j oj hj hji hun hW
       rw[hx] at SO;cases SO
       have:=List.all_eq_true.1 hfr (oj,j) (nT.2 hj)
       rw[hS.un (Array.getElem?_eq_some_iff.1 hj).1] at hun
       have zY:(BI L i ops.toList.zipIdx 0).testBit j=false:=hW
       simp only[hun,zY,Bool.or_false,Bool.or_eq_true,beq_iff_eq,Bool.and_eq_true,Bool.not_eq_true'] at this
       rcases this with h1|h1
       ·exact absurd h1 hji
       ·exact⟨Jh h1.1,h1.2.imp id .inl⟩
      ·cases h
     ·split at h
      ·rename_i hfr
       split at h
       ·rename_i l' hl
        cases h
        have ih:=n6 n _ _ l' (hS.set hi) hl
        refine⟨(lq hS).2 ⟨x,hx,hc.1⟩,PW,⟨fun j=>(BI L i ops.toList.zipIdx 0).testBit j,?_,fun j=>wait i j⟩,ih⟩
        intro oi SO j oj hj hji hun hW
        rw[hx] at SO;cases SO
        have:=List.all_eq_true.1 hfr (oj,j) (nT.2 hj)
        rw[hS.un (Array.getElem?_eq_some_iff.1 hj).1] at hun
        have zY:(BI L i ops.toList.zipIdx 0).testBit j=false:=hW
        simp only[hun,zY,Bool.or_false,Bool.or_eq_true,beq_iff_eq] at this
        rcases this with h1|h1
        ·exact absurd h1 hji
        ·exact⟨Jh h1,.inr (.inr ⟨_,rfl,hW⟩)⟩
       ·cases h
      ·cases h
    ·cases h
   ·cases h
  ·rename_i SP
   rcases D8 (F:=fun j=>m_ C ops ops.toList.zipIdx n (L ||| sb j)) _ l h with ⟨he, _⟩|⟨i,r,t',rfl,⟨o,ho⟩,hall⟩
   ·
    exfalso
    unfold XG at SP
    split at SP
    ·cases SP
    ·split at SP
     ·rename_i z hz
      have h1:=List.find?_some hz
      have h2:=List.mem_of_find?_eq_some hz
      have:z∈(ops.toList.zipIdx).filter fun z=>MG L z.2 (E6 z.1):=List.mem_filter.2 ⟨h2,h1⟩
      rw[he] at this
      cases this
     ·cases SP
   ·rw[List.mem_filter] at ho
    refine⟨(lq hS).2 ⟨o,nT.1 ho.1,ho.2⟩,fun j hj=>?_⟩
    obtain⟨oj,O8,hr⟩:=(lq hS).1 hj
    obtain⟨x,h1,h2⟩:=hall (oj,j) (List.mem_filter.2 ⟨nT.2 O8,hr⟩)
    exact⟨x,h1,n6 n _ _ x (hS.set (Array.getElem?_eq_some_iff.1 O8).1) h2⟩
section
variable {r:Option Nat} {S:Nat->Option (Option Value)} {ops:Array Oper} {N:Nat} {D:List Deferred} {Q:Exit->Act->World->Prop}
theorem Q4 {C:dD P} {i:Nat} {env:List bD} {a:Act} {w:World} {K:List bD->Prop} (hS:Wr S ops) (hF:Fit S ops N D env a) (h:Vz C ops N i env w K):
 ∃o u dh,ops[i]? =some o/\K dh/\Fit S ops N D dh (a.put o.dst u)/\fI P ops o u a w:=by
 unfold Vz at h
 cases ho:ops[i]? with
 |none=>simp[ho] at h
 |some o=>
  simp only[ho,Tx,zg] at h
  have BH:=hS o (Array.mem_of_getElem? ho)
  split at h
  ·exact False.elim h
  ·rename_i hgd
   split at h
   ·rename_i hput
    exact⟨o,undef, _,rfl,h,hF.put hput BH rfl (fun _=>rfl) (fun hn=>absurd fH hn),.inr ⟨zh hF hgd,rfl⟩⟩
   ·exact False.elim h
  ·rename_i ch g hgd
   obtain⟨hg,mX⟩:=IM hF hgd
   split at h
   ·rename_i hput
    obtain⟨v,hk,hq⟩:=Cg hF hg h
    replace hk:=pU hk
    by_cases hc:iJ ops a.tmps ch
    ·exact⟨o,v, _,rfl,hk,hF.put hput BH hg (fun _=>rfl) (fun hn=>absurd hc hn),.inl ⟨mX.2 hc,hq hc⟩⟩
    ·refine⟨o,undef, _,rfl,hk,hF.put hput BH hg (fun hh=>absurd hh hc) (fun _=>rfl),.inr ⟨?_,rfl⟩⟩
     cases hw:Region.wanted o (yielded ops a.tmps) with
     |false=>rfl
     |true=>exact absurd (mX.1 hw) hc
   ·exact False.elim h
theorem Nl {C:dD P} {i:Nat} {env:List bD} {a:Act} {w:World} {K:(World->Prop)->List bD->Prop} (hS:Wr S ops) (hF:Fit S ops N D env a) (h:QC C ops N i env w K):
 ∃o u dh p,ops[i]? =some o/\K p dh/\Fit S ops N D dh (a.put o.dst u)/\p w/\Sm p/\ ∀w2,p w2->fI P ops o u a w2:=by
 unfold QC at h
 cases ho:ops[i]? with
 |none=>simp[ho] at h
 |some o=>
  simp only[ho,Pw,zg] at h
  have BH:=hS o (Array.mem_of_getElem? ho)
  split at h
  ·exact False.elim h
  ·rename_i hgd
   split at h
   ·rename_i hput
    exact⟨o,undef, _, _,rfl,h,hF.put hput BH rfl (fun _=>rfl) (fun hn=>absurd fH hn),trivial,fun _ _ _ _=>trivial,fun _ _=> .inr ⟨zh hF hgd,rfl⟩⟩
   ·exact False.elim h
  ·rename_i ch g hgd
   obtain⟨hg,mX⟩:=IM hF hgd
   split at h
   ·rename_i hput
    obtain⟨p,v,hk,hp,hu,hq⟩:=JY h
    replace hk:=pU hk
    have PX: ∀w2,p w2->iJ ops a.tmps ch-> ∀w',Ext w2 w'->cN P o a w' v:=fun w2 h2 hc=>by
     obtain⟨v',e,hh⟩:=Cg hF hg (hq w2 h2)
     subst e
     exact hh hc
    by_cases hc:iJ ops a.tmps ch
    ·exact⟨o,v, _,p,rfl,hk,hF.put hput BH hg (fun _=>rfl) (fun hn=>absurd hc hn),hp,hu,fun w2 h2=> .inl ⟨mX.2 hc,PX w2 h2 hc⟩⟩
    ·refine⟨o,undef, _,p,rfl,hk,hF.put hput BH hg (fun hh=>absurd hh hc) (fun _=>rfl),hp,hu,fun w2 _=> .inr ⟨?_,rfl⟩⟩
     cases hw:Region.wanted o (yielded ops a.tmps) with
     |false=>rfl
     |true=>exact absurd (mX.1 hw) hc
   ·exact False.elim h
def xA (pd:List (Nat×(World->Prop))) (j:Nat) (w:World):Prop:= ∀e∈pd,e.1.testBit j=false->e.2 w
theorem D9 {C:dD P} {pd:List (Nat×(World->Prop))} {env:List bD} {w:World} {K:List bD->World->Prop} {j:Nat} {x:Sd}: ∀{t:Sd},zX C ops N t pd env w K->DL j x t->QD C ops N j pd env w (fun env w=>zX C ops N x pd env w K)
 | .nil, _,hi=>hi.elim
 | .q .., _,hi=>hi.elim
 | .stop, _,hi=>hi.elim
 | .alt i r t,h,hi=>by
   rw[zX] at h
   have h1:QD C ops N i pd env w (fun env w=>zX C ops N r pd env w K):=by
    unfold QE at h
    split at h
    ·exact h
    ·exact h.1
   rcases hi with ⟨rfl,rfl⟩|hi
   ·exact h1
   ·refine D9 (t:=t) ?_ hi
    unfold QE at h
    split at h
    ·cases hi
    ·exact h.2
theorem Q5 {C:dD P} (hS:Wr S ops) (hsel:IP ops=true) (hQ: ∀c a w,¬ Q (.panic c) a w): ∀(n:Nat) (l:Sd) (listed:Array Bool) (pd:List (Nat×(World->Prop))) (env:List bD) (a:Act) (w:World) (K:List bD->World->Prop),(∀e∈pd,Sm e.2)->Fit S ops N D env a->
 Valid C ops n l listed->zX C ops N l pd env w K->(∀env a w w',K env w->Fit S ops N D env a->Ext w w'->Q .normal a w')->
 kr r P ops Q (mo C ops) (xA pd) n listed a w:=by
 have Px: ∀(j:Nat) (o:Oper),ops[j]? =some o->(∀cs b,o.op≠ .select cs b)/\ ∀c,o.op≠ .defer c:=fun j o ho=>by
  have:=List.all_eq_true.1 hsel o (Array.mem_toList_iff.2 (Array.mem_of_getElem? ho))
  constructor
  ·intro cs b he;simp[he] at this
  ·intro c he;simp[he] at this
 intro n
 induction n with
 |zero=>
  intro l listed pd env a w K _ hF hv h hK w' hw
  obtain⟨rfl,hv⟩:=hv
  exact⟨hv,hK env a w w' h hF hw⟩
 |succ n ih=>
  intro l listed pd env a w K hU hF hv h hK
  cases l with
  |nil=>exact hv.elim
  |stop=>exact hv.elim
  |q i m l=>
   obtain⟨hrd,SL,⟨W,hfr,Sk⟩,SQ⟩:=hv
   cases m with
   |none=>
    obtain⟨o,u,dh,ho,hk,rO,hy⟩:=Q4 hS hF h
    have uK:=ih l (listed.setIfInBounds i true) pd dh (a.put o.dst u) w K hU rO SQ hk hK
    exact rm (W:=W) (a0:=a) ho SL Px hQ (fun _ _ h=>h) n listed a w (fun j oj hj hji hun hW=>by
     have:=hfr o ho j oj hj hji hun hW
     refine⟨this.1,?_⟩
     rcases this.2 with h|h|⟨w,h, _⟩
     ·exact .inl (by unfold mo;rw[hj];exact h)
     ·exact .inr (.inl h)
     ·cases h) Sk hrd ⟨rfl,rfl⟩ hy uK
   |some Wm=>
    obtain⟨o,u,dh,p,ho,hk,rO,hp,hu,hy⟩:=Nl hS hF h
    have uK:=ih l (listed.setIfInBounds i true) ((Wm,p)::pd) dh (a.put o.dst u) w K (fun e he=>by
     rcases List.mem_cons.1 he with rfl|he
     ·exact hu
     ·exact hU e he) rO SQ hk hK
    exact rm (W:=W) (a0:=a) (T':=xA ((Wm,p)::pd)) ho SL Px hQ (fun _ _ h e he=>h e (List.mem_cons_of_mem _ he)) n listed a w (fun j oj hj hji hun hW=>by
     have:=hfr o ho j oj hj hji hun hW
     refine⟨this.1,?_⟩
     rcases this.2 with h|h|⟨w,h,hb⟩
     ·exact .inl (by unfold mo;rw[hj];exact h)
     ·exact .inr (.inl h)
     ·cases h
      exact .inr (.inr fun w1 hT=>hy w1 (hT (Wm,p) List.mem_cons_self hb))) Sk hrd ⟨rfl,rfl⟩ (hy w hp) uK
  |alt i l0 t=>
   obtain⟨YM,hall⟩:=hv
   intro w' hw
   refine⟨fun he=>absurd YM (by rw[he];simp),fun j hj=>?_⟩
   obtain⟨l,hin,SQ⟩:=hall j hj
   have h:=D9 h hin
   have h':Ak C ops N j env w (fun env w=>(mo C ops j=true->xA pd j w)/\zX C ops N l pd env w K):=by
    cases pd with
    |nil=>
     have h:Ak C ops N j env w (fun env w=>zX C ops N l [] env w K):=h
     have e:(fun(env:List bD) (w:World)=>(mo C ops j=true->xA [] j w)/\zX C ops N l [] env w K)=fun env w=>zX C ops N l [] env w K:=by
      funext env w
      exact propext ⟨fun h=>h.2,fun h=>⟨fun _ e he=>(by cases he),h⟩⟩
     rw[e];exact h
    |cons e0 Sn=>
     have h:Ak C ops N j env w (fun env w=>DK C ops j w (e0::Sn) (zX C ops N l (e0::Sn) env w K)):=h
     have e:(fun(env:List bD) (w:World)=>(mo C ops j=true->xA (e0::Sn) j w)/\zX C ops N l (e0::Sn) env w K)=fun env w=>DK C ops j w (e0::Sn) (zX C ops N l (e0::Sn) env w K):=by
      funext env w
      unfold DK
      cases mo C ops j with
      |true=>exact propext ⟨fun h=>lp.2 ⟨h.1 rfl,h.2⟩,fun h=>⟨fun _=>(lp.1 h).1,(lp.1 h).2⟩⟩
      |false=>exact propext ⟨fun h=>h.2,fun h=>⟨(fun hc=>nomatch hc),h⟩⟩
     rw[e];exact h
   refine wpOpIn_mono (fun a1 w1 hh=>?_) (AJ hS hF h' hw)
   obtain⟨hx,dh,wr,⟨PY,hk⟩,rO,hw1⟩:=hh
   exact⟨hx,fun he e hm hb=>hU e hm wr w1 ((PY he) e hm hb) hw1,l9 (ih l _ pd dh a1 wr K hU rO SQ hk hK) hw1⟩
theorem Nm {C:dD P} (hS:Wr S ops) (hsel:IP ops=true) (hQ: ∀c a w,¬ Q (.panic c) a w) (env:List bD) (a:Act) (w:World) (K:List bD->World->Prop) (hF:Fit S ops N D env a)
 (h:QF C ops N env w K) (hK: ∀env a w w',K env w->Fit S ops N D env a->Ext w w'->Q .normal a w'):
 kr r P ops Q (mo C ops) (xA []) ops.size (Array.replicate ops.size false) a w:=by
 unfold QF Ty at h
 split at h
 ·rename_i l hl
  have hv:=n6 ops.size 0 _ l (wM.zero ops) hl
  exact Q5 (r:=r) hS hsel hQ ops.size l (Array.replicate ops.size false) [] env a w K (fun e he=>by cases he) hF hv h hK
 ·exact h.elim
end
end Go.RX
namespace Go.RX
variable {P:Program}
def ku (l:List bD):List bD:=
 match l.filter fun e=> !e.ch.isEmpty with
 |[]=>l
 |bad=>l.filter fun e=>e.ch.isEmpty&& !(bad.any fun b=>b.t==e.t)
def plain (l:List bD):Prop:= ∀e∈l,e.ch=[]/\e.g=none
theorem gK {p:bD->Bool}: ∀{l:List bD} {t:Nat} {e:bD},a8 (l.filter p) t=some e->(∀x∈l,x.t=t->p x=true)->a8 l t=some e
 |[], _, _,h, _=>by simp[a8] at h
 |x::r,t,e,h,hp=>by
  by_cases hx:p x=true
  ·simp only[List.filter_cons,hx,if_true,a8] at h
   simp only[a8]
   split
   ·rename_i ht;simp only[ht,if_true] at h;exact h
   ·rename_i ht
    simp only[ht,if_false] at h
    exact gK h (fun y hy=>hp y (List.mem_cons_of_mem _ hy))
  ·simp only[List.filter_cons,hx] at h
   have hne:x.t≠t:=fun ht=>hx (hp x List.mem_cons_self ht)
   simp only[a8,hne,if_false]
   exact gK h (fun y hy=>hp y (List.mem_cons_of_mem _ hy))
theorem va: ∀{l:List bD} {t:Nat} {e:bD},a8 l t=some e->e.t=t
 |[], _, _,h=>by simp[a8] at h
 |x::r,t,e,h=>by
  simp only[a8] at h
  split at h
  ·cases h;assumption
  ·exact va h
variable {S:Nat->Option (Option Value)} {N:Nat} {D:List Deferred} {env:List bD} {a:Act}
theorem Fit.J0 {ops ops':Array Oper} (h:Fit S ops N D env a) (hp:plain env):Fit S ops' N D env a:=by
 have nil: ∀(o:Array Oper),iJ o a.tmps []:=fun o x hx=>by cases hx
 refine⟨h.off,h.size,h.oB,fun t e hf _=>h.yes t e hf (by rw[(hp e (bF hf)).1];exact nil _),fun t e hf hn=>absurd (by rw[(hp e (bF hf)).1];exact nil _) hn,fun e hm=>?_,h.yH⟩
 rw[(hp e hm).2]
 exact(hp e hm).1
theorem xL {ops ops':Array Oper} (h:Fit S ops N D env a):Fit S ops' N D (ku env) a/\plain (ku env):=by
 have hg: ∀e∈env,e.ch=[]->e.g=none:=fun e he hc=>by
  have:=h.BG e he
  cases Ie:e.g with
  |none=>rfl
  |some γ=>rw[Ie] at this;exact absurd hc this.1
 have nil: ∀(o:Array Oper),iJ o a.tmps []:=fun o x hx=>by cases hx
 have nP: ∀e∈ku env,e.ch=[]/\e∈env:=by
  intro e he
  unfold ku at he
  split at he
  ·rename_i Qy
   refine⟨?_,he⟩
   have:e∉env.filter fun e=> !e.ch.isEmpty:=by rw[Qy];simp
   simp[he] at this
   exact this
  ·simp only[List.mem_filter,Bool.and_eq_true,List.isEmpty_iff] at he
   exact⟨he.2.1,he.1⟩
 have hfind: ∀t e,a8 (ku env) t=some e->a8 env t=some e:=by
  intro t e he
  unfold ku at he
  split at he
  ·exact he
  ·rename_i bad t_
   refine gK he fun x hx ht=>?_
   have hmem:=bF he
   simp only[List.mem_filter,Bool.and_eq_true] at hmem
   have U0:=va he
   have hnb:=hmem.2.2
   have WL:x.ch.isEmpty=true:=by
    cases sK:x.ch.isEmpty with
    |true=>rfl
    |false=>
     have YN:x∈env.filter fun e=> !e.ch.isEmpty:=by simp[hx,sK]
     have:(env.filter fun e=> !e.ch.isEmpty).any (fun b=>b.t==e.t)=true:=List.any_eq_true.2 ⟨x,YN,by simp[ht,U0]⟩
     rw[this] at hnb
     simp at hnb
   have WM:(env.filter fun e=> !e.ch.isEmpty).any (fun b=>b.t==x.t)=false:=by
    rw[ht, <-U0];simpa using hnb
   rw[WL,WM]
   rfl
 have hp:plain (ku env):=fun e he=>⟨(nP e he).1,hg e (nP e he).2 (nP e he).1⟩
 refine⟨⟨h.off,h.size,h.oB,fun t e hf _=>h.yes t e (hfind t e hf) (by rw[(hp e (bF hf)).1];exact nil _),fun t e hf hn=>absurd (by rw[(hp e (bF hf)).1];exact nil _) hn,fun e hm=>?_,fun e hm=>h.yH e (nP e hm).2⟩,hp⟩
 rw[(hp e hm).2]
 exact(hp e hm).1
def iz:Code->Option Nat
 | .region id _ _=>some id
 | .seq a b=>match iz a with
   |some i=>some i
   |none=>iz b
 | .cond _ a b=>match iz a with
   |some i=>some i
   |none=>iz b
 | .block _ b=>iz b
 | .loop b=>iz b
 | _=>none
def MW (ops:Array Oper):List Nat:=ops.toList.filterMap (·.dst)
def writes:Code->List Nat
 | .region _ ops _=>MW ops
 | .seq a b=>writes a++writes b
 | .cond _ a b=>writes a++writes b
 | .block _ b=>writes b
 | .loop b=>writes b
 | _=>[]
abbrev aQ:=List (Nat×El)
def iO:(l:aQ)->mI (l.map (·.2))->List bD
 |[], _=>[]
 |(t,s)::r,x=>⟨t,[],none,s.gi x.1,none⟩::iO r x.2
def mY:(l:aQ)->List bD->Option (mI (l.map (·.2)))
 |[], _=>some ()
 |(t,s)::r,env=>match a8 env t with
  |some e=>match s.proj e.v,mY r env with
   |some x,some y=>some (x,y)
   | _, _=>none
  |none=>none
def IQ (C:dD P) (N:Nat) (ops:Array Oper) (draw:Bool) (env:List bD) (w:World) (K:List bD->World->Prop):Prop:=
 if draw then
  if IP ops then QF C ops N env w (fun env w=>jG (ku env) fun env=>K env w) else False
 else Vv C ops N (List.range ops.size) env w (fun env w=>jG (ku env) fun env=>K env w)
inductive Md where
 |run|to (b:Nat) (K:List bD->World->Prop)|O_ (b:Nat)
def atR (b:Nat) (y:Code):Bool:=match iz y with
 |some i=>Nat.beq i b
 |none=>false
def BS (b:Nat):Code->Option Code
 | .seq _ y=>match atR b y with
   |true=>some y
   |false=>BS b y
 | _=>none
def mS (b:Nat):Code->List Nat
 | .seq x y=>writes x++(match atR b y with
   |true=>[]
   |false=>mS b y)
 | _=>[]
def Tz (b:Nat):Code->Bool
 | .seq x y=>match atR b x with
   |true=>true
   |false=>Tz b y
 |c=>atR b c
def T1 (aJ:Nat->aQ) (c y:Code):Option (Nat×aQ):=match iz c with
 |none=>none
 |some a=>match aJ (1000000+a) with
  |[]=>none
  |(b, _)::sl=>match Tz b y with
   |true=>some (b,sl)
   |false=>none
def Ir (sl:aQ) (J:mI (sl.map (·.2))->World->Prop) (env:List bD) (w:World):Prop:=match mY sl env with
 |some s=>J s w
 |none=>False
def bQ (C:dD P) (aJ:Nat->aQ) (N:Nat):Code->Md->List bD->World->(List bD->World->Prop)->(Nat->List bD->World->Prop)->(List bD->World->Prop)->Prop
 | .skip,.run,env,w,Kn, _, _=>Kn env w
 | .region _ ops draw,.run,env,w,Kn, _, _=>IQ C N ops draw env w Kn
 | .seq x y,m,env,w,Kn,Kx,Kr=>match m with
   | .run=>match T1 aJ x y with
     |none=>bQ C aJ N x .run env w (fun env w=>bQ C aJ N y .run env w Kn Kx Kr) Kx Kr
     |some (b,sl)=> ∃J:mI (sl.map (·.2))->World->Prop,
      bQ C aJ N x .run env w (fun env w=>match atR b y with
       |true=>Ir sl J env w
       |false=>bQ C aJ N y (.to b (Ir sl J)) env w Kn Kx Kr) Kx Kr/\
      ∀s w1,J s w1->jG (iO sl s++env.filter fun e=> !(mS b (.seq x y)).contains e.t) fun dh=>match atR b y with
       |true=>bQ C aJ N y .run dh w1 Kn Kx Kr
       |false=>bQ C aJ N y (.O_ b) dh w1 Kn Kx Kr
   | .to b K=>bQ C aJ N x .run env w (fun env w=>match atR b y with
    |true=>K env w
    |false=>bQ C aJ N y (.to b K) env w Kn Kx Kr) Kx Kr
   | .O_ b=>match atR b y with
    |true=>bQ C aJ N y .run env w Kn Kx Kr
    |false=>bQ C aJ N y (.O_ b) env w Kn Kx Kr
 | .cond c x y,.run,env,w,Kn,Kx,Kr=>match uE env [] c with
   |some (.bool b)=>aB b (bQ C aJ N x .run env w Kn Kx Kr) (bQ C aJ N y .run env w Kn Kx Kr)
   | _=>False
 | .block id x,.run,env,w,Kn,Kx,Kr=>bQ C aJ N x .run env w Kn (fun id' env w=>if id'=id then Kn env w else Kx id' env w) Kr
 | .loop x,.run,env,w, _,Kx,Kr=>
   let sl:=aJ ((iz x).getD 0)
   match mY sl env with
   |none=>False
   |some s0=> ∃I:Nat->mI (sl.map (·.2))->World->Prop,(∃n, ∀w1,Ext w w1->I n s0 w1)/\
    ∀n s w1,I n s w1->jG (iO sl s++env.filter fun e=> !(writes x).contains e.t) fun dh=>bQ C aJ N x .run dh w1
     (fun fR w2=>match mY sl fR with
      |some s2=> ∀w3,Ext w2 w3-> ∃n',n'<n/\I n' s2 w3
      |none=>False) Kx Kr
 | .exit id,.run,env,w, _,Kx, _=>Kx id env w
 | .ret,.run,env,w, _, _,Kr=>Kr env w
 | _, _, _, _, _, _, _=>False
@[reducible] def pN (C:dD P) (aJ:Nat->aQ) (N:Nat) (c:Code) (env:List bD) (w:World) (Kn:List bD->World->Prop) (Kx:Nat->List bD->World->Prop) (Kr:List bD->World->Prop):Prop:=
 bQ C aJ N c .run env w Kn Kx Kr
def Qp (S:Nat->Option (Option Value)) (N:Nat) (D:List Deferred) (Kn:List bD->World->Prop) (Kx:Nat->List bD->World->Prop) (Kr:List bD->World->Prop):Exit->Act->World->Prop
 | .normal,a,w=> ∃env wr,Kn env wr/\plain env/\Fit S #[] N D env a/\Ext wr w
 | .exit id,a,w=> ∃env wr,Kx id env wr/\plain env/\Fit S #[] N D env a/\Ext wr w
 | .ret,a,w=> ∃env wr,Kr env wr/\plain env/\Fit S #[] N D env a/\Ext wr w
 | _, _, _=>False
theorem Nn {ops:Array Oper} (h: ∀k∈MW ops,S k=none):Wr S ops:=fun o ho k hk=>h k (by
 simp only[MW,List.mem_filterMap]
 exact⟨o,by simpa using ho,hk⟩)
theorem J1 {r:Option Nat} {C:dD P} {id:Nat} {ops:Array Oper} {draw:Bool} {w w':World} {Kn:List bD->World->Prop} {Kx:Nat->List bD->World->Prop} {Kr:List bD->World->Prop}
 (hS: ∀k∈MW ops,S k=none) (hp:plain env) (hF:Fit S #[] N D env a) (h:IQ C N ops draw env w Kn) (hw:Ext w w'):
 (Code.region id ops draw).wpIn (WF r) 0 P (Qp S N D Kn Kx Kr) a w':=by
 have rO:Fit S ops N D env a:=hF.J0 hp
 have XH:=Nn hS
 have hend: ∀env a w w',Kn (ku env) w->Fit S ops N D env a->Ext w w'->Qp S N D Kn Kx Kr .normal a w':=fun env a w w' hk hf hx=>
  ⟨_,w,hk,(xL (ops':= #[]) hf).2,(xL hf).1,hx⟩
 have hQ: ∀c a w,¬ Qp S N D Kn Kx Kr (.panic c) a w:=fun _ _ _ h=>h
 simp only[IQ,iC] at h
 cases draw with
 |false=>exact wpIn_region (Je XH _ env a w w' _ rO (by simpa using h) hw hend)
 |true=>
  simp only[if_true] at h
  split at h
  ·rename_i hsel
   exact wpIn_region_any C.mixed (vP _ _ _ _ (l9 (Nm (C:=C) XH hsel hQ env a w _ rO h hend) (hw.trans (Ext.drew _))))
  ·exact False.elim h
theorem qR: ∀{l:aQ} {s:mI (l.map (·.2))} {e:bD},e∈iO l s->e.ch=[]/\e.g=none
 |[], _, _,h=>by simp[iO] at h
 |(t,sc)::r,s,e,h=>by
  simp only[iO,List.mem_cons] at h
  rcases h with rfl|h
  ·exact⟨rfl,rfl⟩
  ·exact qR h
theorem y_: ∀{l:aQ} {s:mI (l.map (·.2))} {e:bD},e∈iO l s->e.k=none
 |[], _, _,h=>by simp[iO] at h
 |(t,sc)::r,s,e,h=>by
  simp only[iO,List.mem_cons] at h
  rcases h with rfl|h
  ·rfl
  ·exact y_ h
theorem j8: ∀{l m:List bD} {t:Nat} {e:bD},a8 (l++m) t=some e->(a8 l t=some e)\/(a8 l t=none/\a8 m t=some e)
 |[],m,t,e,h=> .inr ⟨rfl,h⟩
 |x::r,m,t,e,h=>by
  simp only[List.cons_append,a8] at h ⊢
  split at h
  ·rename_i ht;exact .inl (by rw[if_pos ht];exact h)
  ·rename_i ht;rw[if_neg ht];exact j8 h
theorem n9: ∀{l:aQ} {env:List bD} {s:mI (l.map (·.2))} {t:Nat} {e:bD},mY l env=some s->a8 (iO l s) t=some e-> ∃e',a8 env t=some e'/\e'.v=e.v
 |[], _, _, _, _, _,h=>by simp[iO,a8] at h
 |(t0,sc)::r,env,s,t,e,hp,h=>by
  simp only[mY] at hp
  split at hp
  ·rename_i e0 HQ
   split at hp
   ·rename_i x y hx hy
    cases hp
    simp only[iO,a8] at h
    split at h
    ·rename_i ht
     cases h
     subst ht
     exact⟨e0,HQ,(El.gu hx).symm⟩
    ·exact n9 hy h
   ·cases hp
  ·cases hp
theorem vl {l:List bD} {p:bD->Bool} {t:Nat} {e:bD} (h:a8 (l.filter p) t=some e):e∈l/\p e=true:=by
 have:=bF h
 simpa using this
theorem vQ {F:Fence} {m:Nat} {Q:Exit->Act->World->Prop} {c:Code} (R:Nat->Act->World->Prop) {n0:Nat} {a:Act} {w:World} (h0:R n0 a w)
 (round: ∀n a w,R n a w->c.wpIn F m P (Exit.then (fun a' w'=> ∃n',n'<n/\R n' a' w') Q) a w):(Code.loop c).wpIn F m P Q a w:=by
 intro b k cs hro hb hr
 have key: ∀j a w,R j a w->
  ∃e a' w',Q e a' w'/\ArrivesIn (Machine.fenced P F) P (lone (b.atR a (.code c:: .inLoop c::k)) cs w) b k cs e a' w':=by
  intro j
  induction j using Nat.strongRecOn with
  | _ j ih=>
    intro a w hI
    obtain⟨e,a₁,w₁,hq,Al⟩:=round j a w hI b (.inLoop c::k) cs hro hb hr
    cases e with
    |normal=>
     obtain⟨n',hlt,T2⟩:=hq
     obtain⟨e₂,a₂,w₂,T3,No⟩:=ih n' hlt a₁ w₁ T2
     exact⟨e₂,a₂,w₂,T3,.of_steps (StepsIn.trans Al (.one (fenced_calm hb hr rfl) stepR_inLoop)) No⟩
    |exit id=>exact⟨_,a₁,w₁,hq,.pass (x:= .inLoop c) rfl (fun _ _=> .inl (by simp)) Al⟩
    |goto l=>exact⟨_,a₁,w₁,hq,.pass (x:= .inLoop c) rfl (fun _ _=> .inl (by simp)) Al⟩
    |ret=>exact⟨_,a₁,w₁,hq,.pass (x:= .inLoop c) rfl (fun _ _=> .inl (by simp)) Al⟩
    |panic ch=>exact⟨_,a₁,w₁,hq,.pass (x:= .inLoop c) rfl (fun _ _=> .inl (by simp)) Al⟩
    |outgrown=>exact⟨_,a₁,w₁,hq,.pass (x:= .inLoop c) rfl (fun _ _=> .inl (by simp)) Al⟩
 obtain⟨e,a',w',hq,Al⟩:=key _ a w h0
 exact⟨e,a',w',hq,.of_steps (.one (fenced_calm hb hr rfl) stepR_loop) Al⟩
theorem Q6 (b:Nat) (c:Code): ∀t:Nat,t∈mS b c->t∈writes c:=by
 induction c with
 |seq x y _ BJ=>
  intro t h
  simp only[mS,List.mem_append] at h
  simp only[writes,List.mem_append]
  rcases h with h|h
  ·exact .inl h
  ·cases e:atR b y with
   |true=>rw[e] at h;cases h
   |false=>rw[e] at h;exact .inr (BJ t h)
 | _=>intro t h;cases h
structure QG (P:Program) (r:Option Nat) (C:dD P) (aJ:Nat->aQ) (N:Nat) (D:List Deferred) (c:Code):Prop where
 run: ∀(S:Nat->Option (Option Value)) (env:List bD) (a:Act) (w w':World) (Kn:List bD->World->Prop) (Kx:Nat->List bD->World->Prop) (Kr:List bD->World->Prop),
  (∀k∈writes c,S k=none)->plain env->Fit S #[] N D env a->bQ C aJ N c .run env w Kn Kx Kr->Ext w w'->c.wpIn (WF r) 0 P (Qp S N D Kn Kx Kr) a w'
 to: ∀(b:Nat) (K:List bD->World->Prop) (S:Nat->Option (Option Value)) (env:List bD) (a:Act) (w w':World) (Kn:List bD->World->Prop) (Kx:Nat->List bD->World->Prop) (Kr:List bD->World->Prop) (Q:Exit->Act->World->Prop),
  (∀k∈mS b c,S k=none)->plain env->Fit S #[] N D env a->bQ C aJ N c (.to b K) env w Kn Kx Kr->Ext w w'->(∀id a w,Qp S N D Kn Kx Kr (.exit id) a w->Q (.exit id) a w)->(∀a w,Qp S N D Kn Kx Kr .ret a w->Q .ret a w)->
  (∀y dh a1 w1 XI,BS b c=some y->K dh w1->plain dh->Fit S #[] N D dh a1->Ext w1 XI->y.wpIn (WF r) 0 P Q a1 XI)->c.wpIn (WF r) 0 P Q a w'
 O_: ∀(b:Nat) (S:Nat->Option (Option Value)) (env:List bD) (a:Act) (w w':World) (Kn:List bD->World->Prop) (Kx:Nat->List bD->World->Prop) (Kr:List bD->World->Prop) (y:Code),
  BS b c=some y->(∀k∈writes c,S k=none)->plain env->Fit S #[] N D env a->bQ C aJ N c (.O_ b) env w Kn Kx Kr->Ext w w'->y.wpIn (WF r) 0 P (Qp S N D Kn Kx Kr) a w'
theorem QG.of {r:Option Nat} {C:dD P} {aJ:Nat->aQ} {c:Code} (h: ∀(S:Nat->Option (Option Value)) (env:List bD) (a:Act) (w w':World) (Kn:List bD->World->Prop) (Kx:Nat->List bD->World->Prop) (Kr:List bD->World->Prop),
 (∀k∈writes c,S k=none)->plain env->Fit S #[] N D env a->bQ C aJ N c .run env w Kn Kx Kr->Ext w w'->c.wpIn (WF r) 0 P (Qp S N D Kn Kx Kr) a w')
 (h1: ∀b K env w Kn Kx Kr,¬ bQ C aJ N c (.to b K) env w Kn Kx Kr) (h2: ∀b env w Kn Kx Kr,¬ bQ C aJ N c (.O_ b) env w Kn Kx Kr):QG P r C aJ N D c:=
 ⟨h,fun b K _ env _ w _ Kn Kx Kr _ _ _ _ hk=>absurd hk (h1 b K env w Kn Kx Kr),fun b _ env _ w _ Kn Kx Kr _ _ _ _ _ hk=>absurd hk (h2 b env w Kn Kx Kr)⟩
theorem CA {r:Option Nat} {C:dD P} {aJ:Nat->aQ}: ∀c:Code,QG P r C aJ N D c:=by
 intro c
 induction c with
 |skip=>exact .of (fun S env a w w' Kn Kx Kr _ hp hF h hw=>wpIn_skip ⟨env,w,h,hp,hF,hw⟩) (fun _ _ _ _ _ _ _ h=>h) (fun _ _ _ _ _ _ h=>h)
 |region id ops draw=>exact .of (fun S env a w w' Kn Kx Kr hS hp hF h hw=>J1 hS hp hF h hw) (fun _ _ _ _ _ _ _ h=>h) (fun _ _ _ _ _ _ h=>h)
 |seq x y MH BJ=>
  refine⟨?_,?_,?_⟩
  ·intro S env a w w' Kn Kx Kr hS hp hF h hw
   simp only[bQ] at h
   split at h
   ·refine wpIn_seq (wpIn_mono (MH.run S env a w w' _ Kx Kr (fun k hk=>hS k (by simp[writes,hk])) hp hF h hw) ?_)
    intro e a1 w1 hq
    cases e with
    |normal=>
     obtain⟨dh,wr,hk,zZ,rO,hw1⟩:=hq
     exact BJ.run S dh a1 wr w1 Kn Kx Kr (fun k hk=>hS k (by simp[writes,hk])) zZ rO hk hw1
    | _=>exact hq
   ·rename_i b sl _
    obtain⟨J,hx,hJ⟩:=h
    simp only[iC] at hJ
    let S1:Nat->Option (Option Value):=fun t=>if(mS b (.seq x y)).contains t then none else some (a.tmps[t]?)
    let keep:=env.filter fun e=> !(mS b (.seq x y)).contains e.t
    have nil: ∀(tm:Array Value),iJ #[] tm []:=fun tm x hx=>by cases hx
    have hkeep: ∀t e,a8 keep t=some e->a.tmps[t]? =some e.v/\(mS b (.seq x y)).contains t=false/\e.ch=[]:=by
     intro t e he
     have ht:=va he
     have hs:=vl he
     have wW:(mS b (.seq x y)).contains t=false:=by rw[<-ht];simpa using hs.2
     have hf:a8 env t=some e:=gK he (fun y _ SR=>by rw[SR,wW];rfl)
     exact⟨hF.yes t e hf (by rw[(hp e hs.1).1];exact nil _),wW,(hp e hs.1).1⟩
    have head: ∀(fR:List bD) (a2:Act) (s:mI (sl.map (·.2))),plain fR->Fit S1 #[] N D fR a2->mY sl fR=some s->Fit S1 #[] N D (iO sl s++keep) a2/\plain (iO sl s++keep):=by
     intro fR a2 s wV oz wI
     have ql:plain (iO sl s++keep):=fun e he=>by
      rcases List.mem_append.1 he with he|he
      ·exact qR he
      ·exact hp e (by simpa[keep] using(List.mem_filter.1 he).1)
     refine⟨⟨oz.off,oz.size,oz.oB,fun t e he _=>?_,fun t e he hn=>absurd (by rw[(ql e (bF he)).1];exact nil _) hn,(fun e he=>by rw[(ql e he).2];exact(ql e he).1),fun e he b hb=>by
      rcases List.mem_append.1 he with he|he
      ·rw[y_ he] at hb;cases hb
      ·exact hF.yH e (List.mem_filter.1 he).1 b hb⟩,ql⟩
     rcases j8 he with he|⟨_,he⟩
     ·obtain⟨e',he',hv⟩:=n9 wI he
      rw[<-hv]
      exact oz.yes t e' he' (by rw[(wV e' (bF he')).1];exact nil _)
     ·obtain⟨hv,wW, _⟩:=hkeep t e he
      have:=oz.off t (a.tmps[t]?) (by simp only[S1,wW];rfl)
      rw[this,hv]
    have Is:Fit S1 #[] N D env a:=⟨fun t x hx=>by
     simp only[S1] at hx
     split at hx
     ·cases hx
     ·cases hx;rfl,hF.size,hF.oB,hF.yes,hF.no,hF.BG,hF.yH⟩
    have back: ∀{fR:List bD} {a2:Act},Fit S1 #[] N D fR a2->Fit S #[] N D fR a2:=fun{fR a2} hf=>⟨fun t z hy=>by
     have wW:(mS b (.seq x y)).contains t=false:=by
      cases hc:(mS b (.seq x y)).contains t with
      |false=>rfl
      |true=>have:=hS t (Q6 b _ t (by simpa using hc));rw[this] at hy;cases hy
     have h1:=hf.off t (a.tmps[t]?) (by simp only[S1,wW];rfl)
     rw[h1];exact hF.off t z hy,hf.size,hf.oB,hf.yes,hf.no,hf.BG,hf.yH⟩
    have So: ∀k∈mS b (.seq x y),S1 k=none:=fun k hk=>by simp[S1,hk]
    have WN: ∀k∈writes x,S1 k=none:=fun k hk=>So k (by simp[mS,hk])
    have bx: ∀(id:Nat) (a:Act) (w:World),Qp S1 N D Kn Kx Kr (.exit id) a w->Qp S N D Kn Kx Kr (.exit id) a w:=fun id a w ⟨pE,wr,hk,z9,z_,qm⟩=>⟨pE,wr,hk,z9,back z_,qm⟩
    have br: ∀(a:Act) (w:World),Qp S1 N D Kn Kx Kr .ret a w->Qp S N D Kn Kx Kr .ret a w:=fun a w ⟨pE,wr,hk,z9,z_,qm⟩=>⟨pE,wr,hk,z9,back z_,qm⟩
    have hy: ∀k∈writes y,S k=none:=fun k hk=>hS k (by simp[writes,hk])
    refine wpIn_seq (wpIn_mono (MH.run S1 env a w w' _ Kx Kr WN hp Is hx hw) ?_)
    intro e a1 w1 hq
    cases e with
    |normal=>
     obtain⟨dh,wr,hk,zZ,rO,hw1⟩:=hq
     cases sL:atR b y with
     |true=>
      simp only[sL] at hk hJ
      unfold Ir at hk
      split at hk
      ·rename_i s hs
       obtain⟨PZ,P0⟩:=head dh a1 s zZ rO hs
       exact BJ.run S _ a1 wr w1 Kn Kx Kr hy P0 (back PZ) (hJ s wr hk) hw1
      ·exact hk.elim
     |false=>
      simp only[sL] at hk hJ
      have WO: ∀k∈mS b y,S1 k=none:=fun k hk=>So k (by simp[mS,sL,hk])
      refine BJ.to b (Ir sl J) S1 dh a1 wr w1 Kn Kx Kr _ WO zZ rO hk hw1 bx br ?_
      intro y' fR a2 w2 VA Am hK wV oz sM
      unfold Ir at hK
      split at hK
      ·rename_i s hs
       obtain⟨PZ,P0⟩:=head fR a2 s wV oz hs
       exact BJ.O_ b S _ a2 w2 VA Kn Kx Kr y' Am hy P0 (back PZ) (hJ s w2 hK) sM
      ·exact hK.elim
    |exit id=>exact bx id a1 w1 hq
    |ret=>exact br a1 w1 hq
    | _=>exact hq
  ·intro b K S env a w w' Kn Kx Kr Q hS hp hF h hw hx hr hend
   simp only[bQ] at h
   refine wpIn_seq (wpIn_mono (MH.run S env a w w' _ Kx Kr (fun k hk=>hS k (by simp[mS,hk])) hp hF h hw) ?_)
   intro e a1 w1 hq
   cases e with
   |normal=>
    obtain⟨dh,wr,hk,zZ,rO,hw1⟩:=hq
    cases sL:atR b y with
    |true=>
     simp only[sL] at hk
     exact hend y dh a1 wr w1 (by simp[BS,sL]) hk zZ rO hw1
    |false=>
     simp only[sL] at hk
     exact BJ.to b K S dh a1 wr w1 Kn Kx Kr Q (fun k hk=>hS k (by simp[mS,sL,hk])) zZ rO hk hw1 hx hr (fun y' fR a2 w2 VA Am=>hend y' fR a2 w2 VA (by simp[BS,sL,Am]))
   |exit id=>exact hx id a1 w1 hq
   |ret=>exact hr a1 w1 hq
   | _=>exact hq.elim
  ·intro b S env a w w' Kn Kx Kr y' Am hS hp hF h hw
   simp only[bQ] at h
   have hy: ∀k∈writes y,S k=none:=fun k hk=>hS k (by simp[writes,hk])
   cases sL:atR b y with
   |true=>
    simp only[sL] at h
    simp only[BS,sL,Option.some.injEq] at Am
    subst Am
    exact BJ.run S env a w w' Kn Kx Kr hy hp hF h hw
   |false=>
    simp only[sL] at h
    simp only[BS,sL] at Am
    exact BJ.O_ b S env a w w' Kn Kx Kr y' Am hy hp hF h hw
 |cond c x y MH BJ=>
  refine .of ?_ (fun _ _ _ _ _ _ _ h=>h) (fun _ _ _ _ _ _ h=>h)
  intro S env a w w' Kn Kx Kr hS hp hF h hw
  simp only[bQ] at h
  split at h
  ·rename_i b hb
   have P1:=hF.ev (ch:=[]) (fun _ hx=>by cases hx) hb
   refine wpIn_cond_split P1 (fun ht=>MH.run S env a w w' Kn Kx Kr (fun k hk=>hS k (by simp[writes,hk])) hp hF (AG h ht) hw) (fun ht=>BJ.run S env a w w' Kn Kx Kr (fun k hk=>hS k (by simp[writes,hk])) hp hF (xI h ht) hw)
  ·exact False.elim h
 |block id x ih=>
  refine .of ?_ (fun _ _ _ _ _ _ _ h=>h) (fun _ _ _ _ _ _ h=>h)
  intro S env a w w' Kn Kx Kr hS hp hF h hw
  refine wpIn_block (wpIn_mono (ih.run S env a w w' Kn _ Kr hS hp hF h hw) ?_)
  intro e a1 w1 hq
  cases e with
  |exit id'=>
   obtain⟨dh,wr,hk,rest⟩:=hq
   simp only[Exit.inBlock]
   split
   ·rename_i he
    simp only[he,if_true] at hk
    exact⟨dh,wr,hk,rest⟩
   ·rename_i he
    simp only[he,if_false] at hk
    exact⟨dh,wr,hk,rest⟩
  | _=>exact hq
 |exit id=>exact .of (fun S env a w w' Kn Kx Kr _ hp hF h hw=>wpIn_exit ⟨env,w,h,hp,hF,hw⟩) (fun _ _ _ _ _ _ _ h=>h) (fun _ _ _ _ _ _ h=>h)
 |ret=>exact .of (fun S env a w w' Kn Kx Kr _ hp hF h hw=>wpIn_ret ⟨env,w,h,hp,hF,hw⟩) (fun _ _ _ _ _ _ _ h=>h) (fun _ _ _ _ _ _ h=>h)
 |loop x ih=>
  refine .of ?_ (fun _ _ _ _ _ _ _ h=>h) (fun _ _ _ _ _ _ h=>h)
  intro S env a w w' Kn Kx Kr hS hp hF h hw
  simp only[bQ,iC] at h
  split at h
  ·exact False.elim h
  ·rename_i s0 hs0
   obtain⟨I,⟨n0,h0⟩,hstep⟩:=h
   let sl:=aJ ((iz x).getD 0)
   let S1:Nat->Option (Option Value):=fun t=>if(writes x).contains t then none else some (a.tmps[t]?)
   let keep:=env.filter fun e=> !(writes x).contains e.t
   have nil: ∀(tm:Array Value),iJ #[] tm []:=fun tm x hx=>by cases hx
   have hkeep: ∀t e,a8 keep t=some e->a.tmps[t]? =some e.v/\(writes x).contains t=false/\e.ch=[]:=by
    intro t e he
    have ht:=va he
    have hs:=vl he
    have wW:(writes x).contains t=false:=by rw[<-ht];simpa using hs.2
    have hf:a8 env t=some e:=gK he (fun y _ SR=>by rw[SR,wW];rfl)
    exact⟨hF.yes t e hf (by rw[(hp e hs.1).1];exact nil _),wW,(hp e hs.1).1⟩
   have head: ∀(fR:List bD) (a2:Act) (s:mI (sl.map (·.2))),plain fR->Fit S1 #[] N D fR a2->mY sl fR=some s->Fit S1 #[] N D (iO sl s++keep) a2/\plain (iO sl s++keep):=by
    intro fR a2 s wV oz wI
    have ql:plain (iO sl s++keep):=fun e he=>by
     rcases List.mem_append.1 he with he|he
     ·exact qR he
     ·exact hp e (by simpa[keep] using(List.mem_filter.1 he).1)
    refine⟨⟨oz.off,oz.size,oz.oB,fun t e he _=>?_,fun t e he hn=>absurd (by rw[(ql e (bF he)).1];exact nil _) hn,(fun e he=>by rw[(ql e he).2];exact(ql e he).1),fun e he b hb=>by
     rcases List.mem_append.1 he with he|he
     ·rw[y_ he] at hb;cases hb
     ·exact hF.yH e (List.mem_filter.1 he).1 b hb⟩,ql⟩
    rcases j8 he with he|⟨_,he⟩
    ·obtain⟨e',he',hv⟩:=n9 wI he
     rw[<-hv]
     exact oz.yes t e' he' (by rw[(wV e' (bF he')).1];exact nil _)
    ·obtain⟨hv,wW, _⟩:=hkeep t e he
     have:=oz.off t (a.tmps[t]?) (by simp only[S1,wW];rfl)
     rw[this,hv]
   have Is:Fit S1 #[] N D env a:=⟨fun t x hx=>by
    simp only[S1] at hx
    split at hx
    ·cases hx
    ·cases hx;rfl,hF.size,hF.oB,hF.yes,hF.no,hF.BG,hF.yH⟩
   have back: ∀{fR:List bD} {a2:Act},Fit S1 #[] N D fR a2->Fit S #[] N D fR a2:=fun{fR a2} hf=>⟨fun t y hy=>by
    have wW:(writes x).contains t=false:=by
     cases hc:(writes x).contains t with
     |false=>rfl
     |true=>have:=hS t (by simpa[writes] using hc);rw[this] at hy;cases hy
    have h1:=hf.off t (a.tmps[t]?) (by simp only[S1,wW];rfl)
    rw[h1];exact hF.off t y hy,hf.size,hf.oB,hf.yes,hf.no,hf.BG,hf.yH⟩
   have So: ∀k∈writes x,S1 k=none:=fun k hk=>by simp[S1,hk]
   obtain⟨VB,VC⟩:=head env a s0 hp Is hs0
   refine vQ (fun n a2 w2=> ∃s,I n s w2/\Fit S1 #[] N D (iO sl s++keep) a2/\plain (iO sl s++keep)) (n0:=n0) ⟨s0,h0 w' hw,VB,VC⟩ ?_
   intro n a2 w2 ⟨s,hI,oz,wV⟩
   have hb:=ih.run S1 _ a2 w2 w2 _ Kx Kr So wV oz (hstep n s w2 hI) (Ext.refl _)
   refine wpIn_mono hb ?_
   intro e a3 w3 hq
   cases e with
   |normal=>
    obtain⟨pE,wr,hk,z9,z_,qm⟩:=hq
    simp only[Exit.then]
    split at hk
    ·rename_i s3 VD
     obtain⟨n',hlt,SS⟩:=hk w3 qm
     obtain⟨PZ,P0⟩:=head pE a3 s3 z9 z_ VD
     exact⟨n',hlt,s3,SS,PZ,P0⟩
    ·exact hk.elim
   |exit id=>obtain⟨pE,wr,hk,z9,z_,qm⟩:=hq;exact⟨pE,wr,hk,z9,back z_,qm⟩
   |ret=>obtain⟨pE,wr,hk,z9,z_,qm⟩:=hq;exact⟨pE,wr,hk,z9,back z_,qm⟩
   | _=>exact hq
 | _=>exact .of (fun S env a w w' Kn Kx Kr hS hp hF h hw=>False.elim h) (fun _ _ _ _ _ _ _ h=>h) (fun _ _ _ _ _ _ h=>h)
theorem n_ {r:Option Nat} {C:dD P} {aJ:Nat->aQ}: ∀(c:Code) (S:Nat->Option (Option Value)) (env:List bD) (a:Act) (w w':World) (Kn:List bD->World->Prop) (Kx:Nat->List bD->World->Prop) (Kr:List bD->World->Prop),
 (∀k∈writes c,S k=none)->plain env->Fit S #[] N D env a->pN C aJ N c env w Kn Kx Kr->Ext w w'->c.wpIn (WF r) 0 P (Qp S N D Kn Kx Kr) a w':=fun c=>(CA c).run
def f_:List Value->Nat->List bD
 |[], _=>[]
 |v::r,i=>⟨i,[],none,v,none⟩::f_ r (i+1)
def jZ:List ResultVar->List bD->Option (List Value)
 |[], _=>some []
 | .tmp t::r,env=>match a8 env t,jZ r env with
   |some e,some l=>some (e.v::l)
   | _, _=>none
 | .cell .. :: _, _=>none
def BT (l:List Value):Value:=
 match l with
 |[v]=>v
 |l=> .tuple ⟨l⟩
def aH (C:dD P) (aJ:Nat->aQ) (f:FuncId) (args:List Value) (w:World) (Post:(rR C f).T->World->Prop):Prop:=
 match P.funcs[f]? with
 |none=>False
 |some fn=>match fn.body with
  |none=>False
  |some c=>
   let fin:List bD->World->Prop:=fun env w=>match jZ fn.results.toList env with
    |some l=>match (rR C f).proj (BT l) with
     |some x=>aj w (fun w1=>Post x w1)
     |none=>False
    |none=>False
   if args.length<=fn.ntmps then pN C aJ fn.ntmps c (f_ args 0) w fin (fun _ _ _=>False) fin else False
theorem nG: ∀{l:List Value} {i t:Nat} {e:bD},a8 (f_ l i) t=some e->i<=t/\l[t - i]? =some e.v/\e.ch=[]/\e.g=none
 |[], _, _, _,h=>by simp[f_,a8] at h
 |v::r,i,t,e,h=>by
  simp only[f_,a8] at h
  split at h
  ·rename_i ht
   cases h
   subst ht
   simp
  ·rename_i ht
   obtain⟨h1,h2,h3⟩:=nG h
   refine⟨by omega,?_,h3⟩
   rw[show t - i=(t - (i+1))+1 by omega]
   simpa using h2
theorem vm: ∀{l:List Value} {i:Nat} {e:bD},e∈f_ l i->e.k=none
 |[], _, _,h=>by simp[f_] at h
 |v::r,i,e,h=>by
  simp only[f_,List.mem_cons] at h
  rcases h with rfl|h
  ·rfl
  ·exact vm h
theorem pV: ∀{l:List Value} {i:Nat} {e:bD},e∈f_ l i->e.ch=[]/\e.g=none
 |[], _, _,h=>by simp[f_] at h
 |v::r,i,e,h=>by
  simp only[f_,List.mem_cons] at h
  rcases h with rfl|h
  ·exact⟨rfl,rfl⟩
  ·exact pV h
def lP (tmps:Array Value):ResultVar->Sem Value
 | .tmp t=>pure (tmps.getD t undef)
 | .cell a t=>do loadVar t (<-asAddr (tmps.getD a undef))
theorem tw {tmps:Array Value} {w:World}: ∀{l:List ResultVar} {env:List bD} {vs:List Value},jZ l env=some vs->(∀t e,a8 env t=some e->tmps[t]? =some e.v)->
 (l.mapM (lP tmps)).run P w= .ok vs w
 |[], _, _,h, _=>by simp only[jZ,Option.some.injEq] at h;subst h;simp
 | .tmp t::r,env,vs,h,hv=>by
   simp only[jZ] at h
   split at h
   ·rename_i e l he hl
    cases h
    have ih:=tw (w:=w) hl hv
    simp only[List.mapM_cons,Sem.run_bind,lP,Sem.run_pure,Result.andThen_ok,ih]
    simp[hv t e he]
   ·cases h
 | .cell .. :: _, _, _,h, _=>by simp[jZ] at h
theorem Bo {fn:Func} {tmps:Array Value} {w:World} {env:List bD} {vs:List Value} (h:jZ fn.results.toList env=some vs) (hv: ∀t e,a8 env t=some e->tmps[t]? =some e.v):
 (results fn tmps).run P w= .ok (BT vs) w:=by
 have h1:=tw (P:=P) (w:=w) h hv
 have h2:(fn.results.mapM (lP tmps)).run P w= .ok ⟨vs⟩ w:=by
  rw[Array.mapM_eq_mapM_toList,Sem.run_map,h1]
  rfl
 have e:results fn tmps=(do
  let vs<-fn.results.mapM (lP tmps)
  pure (if h:vs.size=1 then vs[0] else .tuple vs)):=rfl
 rw[e,Sem.run_bind,h2]
 simp only[Result.andThen_ok,Sem.run_pure]
 match vs with
 |[]=>rfl
 |[v]=>rfl
 |v::u::r=>simp[BT]
theorem ai {C:dD P} {aJ:Nat->aQ} {f:FuncId} {args:List Value} {w:World} {Post:(rR C f).T->World->Prop} (h:aH C aJ f args w Post):an P f (rR C f) args w Post:=by
 unfold aH at h
 split at h
 ·exact False.elim h
 ·rename_i fn hf
  split at h
  ·exact False.elim h
  ·rename_i c hb
   simp only at h
   split at h
   ·rename_i hle
    have ql:plain (f_ args 0):=fun e he=>pV he
    have nil: ∀(o:Array Oper) (tm:Array Value),iJ o tm []:=fun o tm x hx=>by cases hx
    have QH:Fit (fun _=>none) #[] fn.ntmps [] (f_ args 0) {tmps:=(⟨args⟩:Array Value)++Array.replicate (fn.ntmps - args.length) undef,defers:=[]}:=by
     refine⟨(fun _ _ hx=>by cases hx),(by simp;omega),rfl,fun t e he _=>?_,fun t e he hn=>absurd (by rw[(ql e (bF he)).1];exact nil _ _) hn,(fun e he=>by rw[(ql e he).2];exact(ql e he).1),fun e he b hb=>by rw[vm he] at hb;cases hb⟩
     obtain⟨_,hv, _⟩:=nG he
     simp only[Nat.sub_zero] at hv
     have hlt:t<args.length:=(List.getElem?_eq_some_iff.1 hv).1
     rw[Array.getElem?_append_left (by simpa using hlt)]
     simpa using hv
    have hwp:=n_ (r:=none) (C:=C) (aJ:=aJ) c (fun _=>none) _ _ w w _ _ _ (fun _ _=>rfl) ql QH h (Ext.refl w)
    refine calls_of_wp hf hb ((wpIn_wide (n:=0)).1 (wpIn_mono hwp ?_))
    have fin: ∀a1 w1,(∃env wr,(match jZ fn.results.toList env with
     |some l=>match (rR C f).proj (BT l) with
      |some x=> ∀w1,Ext wr w1->Post x w1
      |none=>False
     |none=>False)/\plain env/\Fit (fun _=>none) #[] fn.ntmps [] env a1/\Ext wr w1)->a1.defers=[]/\ ∃v,(results fn a1.tmps).run P w1= .ok v w1/\ ∃x:(rR C f).T,Ending.returned v= .returned ((rR C f).gi x)/\Post x w1:=by
     intro a1 w1 ⟨env,wr,hk,zZ,rO,hw1⟩
     split at hk
     ·rename_i l hl
      split at hk
      ·rename_i x hx
       refine⟨rO.oB, _,Bo hl (fun t e he=>rO.yes t e he (by rw[(zZ e (bF he)).1];exact nil _ _)),x,by rw[Sh.gu hx],hk w1 hw1⟩
      ·exact hk.elim
     ·exact hk.elim
    intro e a1 w1 hq
    cases e with
    |normal=>exact fin a1 w1 hq
    |ret=>exact fin a1 w1 hq
    |exit id=>obtain⟨_, _,hk, _⟩:=hq;exact hk.elim
    | _=>exact(show False from hq).elim
   ·exact False.elim h
end Go.RX
namespace Go.RX
variable {P:Program}
abbrev oC:=List bD->List Nat->World->Prop
def marks (D:List Nat):List Deferred:=D.map fun r=>{target:= .collected r,args:= #[]}
def uR:Code->Bool
 | .rangeFunc .. =>true
 | .seq a b=>uR a||uR b
 | .cond _ a b=>uR a||uR b
 | .block _ b=>uR b
 | .loop b=>uR b
 | _=>false
def qs (w:World) (l:Nat) (rec:Loop) (st:LoopState) (pd:Option Code):World:=w.putObj l (.loop {rec with state:=st,pending:=pd})
def bW (w:World) (l:Nat) (rec:Loop) (st:LoopState) (pd:Option Code):Prop:=w.heap[l]? =some (.loop {rec with state:=st,pending:=pd})
def Av:List Nat->World->Prop
 |[], _=>True
 |r::D,w=>w.heap[r]? =some (.deferred (some []))/\Av D (w.putObj r (.deferred none))
def kv:List Nat->World->World
 |[],w=>w
 |r::D,w=>kv D (w.putObj r (.deferred none))
def yI (l:Nat) (rec:Loop) (w:World) (K:World->Prop):Prop:= ∀w5,Ext w w5-> ∃pd,bW w5 l rec .ready pd/\K (qs w5 l rec .busy pd)
def qg (l:Nat) (rec:Loop) (jump:Option Code) (w:World) (R:Bool->World->Prop):Prop:= ∀w6,Ext w w6-> ∃st pd,bW w6 l rec st pd/\R jump.isNone (qs w6 l rec (if jump.isNone then .ready else .done) jump)
def Aa (l:Nat) (rec:Loop) (n m:Nat) (w:World) (K:Prop):Prop:=(∃pd,bW w l rec .ready pd)/\n=m/\K
def qh (D:List Nat) (w:World) (K:World->Prop):Prop:= ∀w1,Ext w w1->Av D w1/\K (kv D w1)
def wD (P:Program) (fid:FuncId) (args:Nat->List Value) (ps:Array Nat) (w:World) {T:Type} (em:T->List Value) (Rd:Nat->Loop->T->World->(Bool->World->Prop)->Prop) (Af:Nat->Loop->World->Prop):Prop:=
 ∀w1,Ext w w1-> ∀rec:Loop,rec.params=ps->rec.defers=w1.heap.size->rec.state= .ready->rec.pending=none->
  (∀(x:T) w3 R,Rd (w1.heap.size+1) rec x w3 R->ko P (w1.heap.size+1) (em x) w3 R)->
  Calls P fid ⟨args (w1.heap.size+1)⟩ ((w1.alloc (.deferred (some []))).alloc (.loop rec)) (fun e w4=> ∃v,e= .returned v/\Af w1.heap.size rec w4)
def D_ (C:dD P) (aJ:Nat->aQ) (N:Nat) (l:Nat) (rec:Loop) (ps:List Nat) (assign body:Code) (env:List bD) (args:List Value) (w:World) (R:Bool->World->Prop):Prop:=
 Aa l rec args.length ps.length w
 (jG ((ps.zip args).reverse.map (fun x=>⟨x.1,[],none,x.2,none⟩)++env) fun WQ=>pN C aJ N assign WQ w
  (fun dh wr=>yI l rec wr fun w5=>
   pN C aJ N body dh w5
    (fun _ wr=>qg l rec none wr R)
    (fun id _ wr=>qg l rec (some (.exit id)) wr R)
    (fun _ wr=>qg l rec (some .ret) wr R))
  (fun _ _ _=>False) (fun _ _=>False))
def cO (l:Nat) (rec:Loop) (w4:World) (Kn:World->Prop) (Kx:Nat->World->Prop) (Kr:World->Prop):Prop:=
 ∃st pd,bW w4 l rec st pd/\st≠ .busy/\
  match pd with
  |none=>Kn (qs w4 l rec .exhausted (none))
  |some (.exit id)=>Kx id (qs w4 l rec .exhausted (some (.exit id)))
  |some .ret=>Kr (qs w4 l rec .exhausted (some .ret))
  | _=>False
def If (C:dD P) (aJ:Nat->aQ) (N:Nat):Code->List bD->List Nat->World->oC->(Nat->oC)->oC->Prop
 | .seq x y,env,D,w,Kn,Kx,Kr=>If C aJ N x env D w (fun env D w=>If C aJ N y env D w Kn Kx Kr) Kx Kr
 | .cond c x y,env,D,w,Kn,Kx,Kr=>match uE env [] c with
   |some (.bool b)=>aB b (If C aJ N x env D w Kn Kx Kr) (If C aJ N y env D w Kn Kx Kr)
   | _=>False
 | .block id x,env,D,w,Kn,Kx,Kr=>If C aJ N x env D w Kn (fun id' env D w=>if id'=id then Kn env D w else Kx id' env D w) Kr
 | .loop x,env,D,w,Kn,Kx,Kr=>
   if uR x then
    let sl:=aJ ((iz x).getD 0)
    match mY sl env with
    |none=>False
    |some s0=> ∃I:Nat->mI (sl.map (·.2))->List Nat->World->Prop,(∃n, ∀w1,Ext w w1->I n s0 D w1)/\
     ∀n s D1 w1,I n s D1 w1->jG (iO sl s++env.filter fun e=> !(writes x).contains e.t) fun dh=>If C aJ N x dh D1 w1
      (fun fR D2 w2=>match mY sl fR with
       |some s2=> ∀w3,Ext w2 w3-> ∃n',n'<n/\I n' s2 D2 w3
       |none=>False) Kx Kr
   else pN C aJ N (.loop x) env w (fun env w=>Kn env D w) (fun id env w=>Kx id env D w) (fun env w=>Kr env D w)
 | .rangeFunc g ps assign body,env,D,w,Kn,Kx,Kr=>
   match uE env [] g with
   |some (.func (.func fid) first cap)=>
    if a_ P fid&&ps.toList.all (fun p=>decide (p<N)) then
     wD P fid (fun y=>dg first [.func (.yield y) #[] #[]] cap) ps w (fun(x:mI ((aJ ((iz body).getD 0)).map (·.2)))=>rX _ x)
      (fun l rec x w3 R=>D_ C aJ N l rec ps.toList assign body env (rX _ x) w3 R)
      (fun r rec w4=>cO (r+1) rec w4 (fun w5=>Kn env (r::D) w5) (fun id w5=>Kx id env (r::D) w5) (fun w5=>Kr env (r::D) w5))
    else False
   | _=>False
 |c,env,D,w,Kn,Kx,Kr=>pN C aJ N c env w (fun env w=>Kn env D w) (fun id env w=>Kx id env D w) (fun env w=>Kr env D w)
def VE (S:Nat->Option (Option Value)) (N:Nat) (Kn:oC) (Kx:Nat->oC) (Kr:oC):Exit->Act->World->Prop
 | .normal,a,w=> ∃env D wr,Kn env D wr/\plain env/\Fit S #[] N (marks D) env a/\Ext wr w
 | .exit id,a,w=> ∃env D wr,Kx id env D wr/\plain env/\Fit S #[] N (marks D) env a/\Ext wr w
 | .ret,a,w=> ∃env D wr,Kr env D wr/\plain env/\Fit S #[] N (marks D) env a/\Ext wr w
 | _, _, _=>False
theorem Q7 {S:Nat->Option (Option Value)} {N:Nat} {Kn:oC} {Kx:Nat->oC} {Kr:oC} {D:List Nat}: ∀(e:Exit) (a:Act) (w:World),
 Qp S N (marks D) (fun env w=>Kn env D w) (fun id env w=>Kx id env D w) (fun env w=>Kr env D w) e a w->VE S N Kn Kx Kr e a w
 | .normal, _, _,⟨env,wr,h⟩=>⟨env,D,wr,h⟩
 | .exit _, _, _,⟨env,wr,h⟩=>⟨env,D,wr,h⟩
 | .ret, _, _,⟨env,wr,h⟩=>⟨env,D,wr,h⟩
 | .goto _, _, _,h=>False.elim h
 | .panic _, _, _,h=>False.elim h
 | .outgrown, _, _,h=>False.elim h
theorem vR {N:Nat} {D:List Deferred}: ∀(l:List (Nat×Value)) (env:List bD) (tmps:Array Value),(∀x∈l,x.1<N)->plain env->Fit (fun _=>none) #[] N D env {tmps,defers:=D}->
 Fit (fun _=>none) #[] N D (l.reverse.map (fun x=>⟨x.1,[],none,x.2,none⟩)++env) {tmps:=l.foldl (fun tmps (t,a)=>tmps.setIfInBounds t a) tmps,defers:=D}/\plain (l.reverse.map (fun x=>(⟨x.1,[],none,x.2,none⟩:bD))++env)
 |[],env,tmps, _,hp,h=>⟨h,hp⟩
 |(t,v)::r,env,tmps,hl,hp,h=>by
  have zZ:plain (⟨t,[],none,v,none⟩::env):=fun e he=>by
   rcases List.mem_cons.1 he with rfl|he
   ·exact⟨rfl,rfl⟩
   ·exact hp e he
  have h1:Fit (fun _=>none) #[] N D (⟨t,[],none,v,none⟩::env) {tmps:=tmps.setIfInBounds t v,defers:=D}:=by
   have:=h.put (ch:=[]) (g:=none) (d:=some t) (v:=v) (u:=v) (by
    have:t<N:=hl (t,v) List.mem_cons_self
    simp only[qA,this,decide_true,List.all_nil,Bool.true_and,List.all_eq_true]
    intro e he
    rw[(hp e he).1]
    simp) (fun _ _=>rfl) rfl (fun _=>rfl) (fun hn=>absurd (fun x hx=>by cases hx) hn)
   exact this
  have:=vR r (⟨t,[],none,v,none⟩::env) _ (fun x hx=>hl x (List.mem_cons_of_mem _ hx)) zZ h1
  simpa[List.append_assoc] using this
theorem CB {w:World} {l:Nat} {rec:Loop} {pd:Option Code} (h:bW w l rec .ready pd):(Instr.beginRound l).run P w= .ok () (w.putObj l (.loop {rec with state:= .busy,pending:=pd})):=
 run_beginRound (r:={rec with state:= .ready,pending:=pd}) h rfl
theorem vn {w:World} {l:Nat} {rec:Loop} {st:LoopState} {pd:Option Code} (jump:Option Code) (h:bW w l rec st pd):
 (Instr.endRound l jump).run P w= .ok (.bool jump.isNone) (w.putObj l (.loop {rec with state:=if jump.isNone then .ready else .done,pending:=jump})):=
 run_endRound (r:={rec with state:=st,pending:=pd}) jump h
theorem CC {C:dD P} {aJ:Nat->aQ} {N l:Nat} {rec:Loop} {assign body:Code} {env:List bD} {args:List Value} {w:World} {R:Bool->World->Prop} {tmps:Array Value} {D0:List Deferred}
 (ht:rec.tmps=tmps) (ha:rec.assign=assign) (hb:rec.body=body) (hN: ∀p∈rec.params.toList,p<N) (hp:plain env) (hF:Fit (fun _=>none) #[] N D0 env {tmps,defers:=D0})
 (h:D_ C aJ N l rec rec.params.toList assign body env args w R):ko P l args w R:=by
 obtain⟨⟨pd,sL⟩,hlen,XJ⟩:=h
 rw[iC] at XJ
 refine⟨{rec with state:= .ready,pending:=pd},sL,by simpa using hlen,?_⟩
 have nil: ∀(tm:Array Value),iJ #[] tm []:=fun tm x hx=>by cases hx
 have YO:Fit (fun _=>none) #[] N [] env {tmps,defers:=[]}:=⟨hF.off,hF.size,rfl,hF.yes,hF.no,hF.BG,hF.yH⟩
 obtain⟨rO,zZ⟩:=vR (D:=[]) (rec.params.toList.zip args) env tmps (fun x hx=>hN x.1 (List.of_mem_zip hx).1) hp YO
 have e:(rec.params.zip (⟨args⟩:Array Value)).foldl (fun tmps (t,a)=>tmps.setIfInBounds t a) rec.tmps=(rec.params.toList.zip args).foldl (fun tmps (t,a)=>tmps.setIfInBounds t a) tmps:=by
  rw[ht, <-Array.foldl_toList]
  simp
 show RoundIn (WF none) 0 P l rec.fn ((rec.params.zip (⟨args⟩:Array Value)).foldl (fun tmps (t,a)=>tmps.setIfInBounds t a) rec.tmps) rec.assign rec.body w _
 rw[e,ha,hb]
 refine roundIn_of_wpIn (F:=WF none) trivial ?_
 have h1:=n_ (r:=some l) (C:=C) (aJ:=aJ) assign (fun _=>none) _ _ w w _ _ _ (fun _ _=>rfl) zZ rO XJ (Ext.refl w)
 refine wpIn_mono (F:=WF (some l)) h1 ?_
 intro ex a1 w1 hq
 cases ex with
 |normal=>
  obtain⟨dh,wr,hk,wV,oz,hw1⟩:=hq
  obtain⟨pd1,WR,hbody⟩:=hk w1 hw1
  refine⟨_,CB WR,?_⟩
  have h2:=n_ (r:=some l) (C:=C) (aJ:=aJ) body (fun _=>none) _ _ _ _ _ _ _ (fun _ _=>rfl) wV oz hbody (Ext.refl _)
  refine wpIn_mono (F:=WF (some l)) h2 ?_
  intro YP a2 w2 Mw
  cases YP with
  |normal=>
   obtain⟨_,XK,hk2, _, _,sM⟩:=Mw
   obtain⟨st,XL,Iu,hR⟩:=hk2 w2 sM
   exact⟨_, _,vn none Iu,true,rfl,hR⟩
  |exit id=>
   obtain⟨_,XK,hk2, _, _,sM⟩:=Mw
   obtain⟨st,XL,Iu,hR⟩:=hk2 w2 sM
   exact⟨_, _,vn (some (.exit id)) Iu,false,rfl,hR⟩
  |ret=>
   obtain⟨_,XK,hk2, _, _,sM⟩:=Mw
   obtain⟨st,XL,Iu,hR⟩:=hk2 w2 sM
   exact⟨_, _,vn (some .ret) Iu,false,rfl,hR⟩
  |goto t=>exact False.elim Mw
  |panic c=>exact False.elim Mw
  |outgrown=>exact False.elim Mw
 |exit id=>obtain⟨_, _,hk, _⟩:=hq;exact False.elim hk
 |ret=>obtain⟨_, _,hk, _⟩:=hq;exact False.elim hk
 |goto t=>exact False.elim hq
 |panic c=>exact False.elim hq
 |outgrown=>exact False.elim hq
end Go.RX
namespace Go.RX
variable {P:Program} {N:Nat}
theorem xM {C:dD P} {aJ:Nat->aQ} {c:Code} {S:Nat->Option (Option Value)} {env:List bD} {D:List Nat} {a:Act} {w w':World} {Kn:oC} {Kx:Nat->oC} {Kr:oC}
 (hS: ∀k∈writes c,S k=none) (hp:plain env) (hF:Fit S #[] N (marks D) env a) (h:pN C aJ N c env w (fun env w=>Kn env D w) (fun id env w=>Kx id env D w) (fun env w=>Kr env D w)) (hw:Ext w w'):
 c.wpIn (WF none) 0 P (VE S N Kn Kx Kr) a w':=
 wpIn_mono (n_ (r:=none) c S env a w w' _ _ _ hS hp hF h hw) Q7
theorem CD {w:World} {l:Nat} {rec:Loop} {st:LoopState} {pd:Option Code} (h:bW w l rec st pd) (hb:st≠ .busy):
 (Instr.endLoop l).run P w= .ok pd (w.putObj l (.loop {rec with state:= .exhausted,pending:=pd})):=
 run_endLoop (r:={rec with state:=st,pending:=pd}) h hb
theorem Q8 {C:dD P} {aJ:Nat->aQ}: ∀(c:Code) (S:Nat->Option (Option Value)) (env:List bD) (D:List Nat) (a:Act) (w w':World) (Kn:oC) (Kx:Nat->oC) (Kr:oC),
 (∀k∈writes c,S k=none)->plain env->Fit S #[] N (marks D) env a->If C aJ N c env D w Kn Kx Kr->Ext w w'->c.wpIn (WF none) 0 P (VE S N Kn Kx Kr) a w':=by
 intro c
 induction c with
 |seq x y MH BJ=>
  intro S env D a w w' Kn Kx Kr hS hp hF h hw
  refine wpIn_seq (wpIn_mono (MH S env D a w w' _ Kx Kr (fun k hk=>hS k (by simp[writes,hk])) hp hF h hw) ?_)
  intro e a1 w1 hq
  cases e with
  |normal=>
   obtain⟨dh,D1,wr,hk,zZ,rO,hw1⟩:=hq
   exact BJ S dh D1 a1 wr w1 Kn Kx Kr (fun k hk=>hS k (by simp[writes,hk])) zZ rO hk hw1
  | _=>exact hq
 |cond c x y MH BJ=>
  intro S env D a w w' Kn Kx Kr hS hp hF h hw
  simp only[If] at h
  split at h
  ·rename_i b hb
   have P1:=hF.ev (ch:=[]) (fun _ hx=>by cases hx) hb
   exact wpIn_cond_split P1 (fun ht=>MH S env D a w w' Kn Kx Kr (fun k hk=>hS k (by simp[writes,hk])) hp hF (AG h ht) hw) (fun ht=>BJ S env D a w w' Kn Kx Kr (fun k hk=>hS k (by simp[writes,hk])) hp hF (xI h ht) hw)
  ·exact False.elim h
 |block id x ih=>
  intro S env D a w w' Kn Kx Kr hS hp hF h hw
  refine wpIn_block (wpIn_mono (ih S env D a w w' Kn _ Kr hS hp hF h hw) ?_)
  intro e a1 w1 hq
  cases e with
  |exit id'=>
   obtain⟨dh,D1,wr,hk,rest⟩:=hq
   simp only[Exit.inBlock]
   split
   ·rename_i he
    simp only[he,if_true] at hk
    exact⟨dh,D1,wr,hk,rest⟩
   ·rename_i he
    simp only[he,if_false] at hk
    exact⟨dh,D1,wr,hk,rest⟩
  | _=>exact hq
 |loop x ih=>
  intro S env D a w w' Kn Kx Kr hS hp hF h hw
  simp only[If,iC] at h
  split at h
  ·split at h
   ·exact False.elim h
   ·rename_i s0 hs0
    obtain⟨I,⟨n0,h0⟩,hstep⟩:=h
    let sl:=aJ ((iz x).getD 0)
    let S1:Nat->Option (Option Value):=fun t=>if(writes x).contains t then none else some (a.tmps[t]?)
    let keep:=env.filter fun e=> !(writes x).contains e.t
    have nil: ∀(tm:Array Value),iJ #[] tm []:=fun tm x hx=>by cases hx
    have hkeep: ∀t e,a8 keep t=some e->a.tmps[t]? =some e.v/\(writes x).contains t=false/\e.ch=[]:=by
     intro t e he
     have ht:=va he
     have hs:=vl he
     have wW:(writes x).contains t=false:=by rw[<-ht];simpa using hs.2
     have hf:a8 env t=some e:=gK he (fun y _ SR=>by rw[SR,wW];rfl)
     exact⟨hF.yes t e hf (by rw[(hp e hs.1).1];exact nil _),wW,(hp e hs.1).1⟩
    have head: ∀(fR:List bD) (D2:List Nat) (a2:Act) (s:mI (sl.map (·.2))),plain fR->Fit S1 #[] N (marks D2) fR a2->mY sl fR=some s->Fit S1 #[] N (marks D2) (iO sl s++keep) a2/\plain (iO sl s++keep):=by
     intro fR D2 a2 s wV oz wI
     have ql:plain (iO sl s++keep):=fun e he=>by
      rcases List.mem_append.1 he with he|he
      ·exact qR he
      ·exact hp e (by simpa[keep] using(List.mem_filter.1 he).1)
     refine⟨⟨oz.off,oz.size,oz.oB,fun t e he _=>?_,fun t e he hn=>absurd (by rw[(ql e (bF he)).1];exact nil _) hn,(fun e he=>by rw[(ql e he).2];exact(ql e he).1),fun e he b hb=>by
     rcases List.mem_append.1 he with he|he
     ·rw[y_ he] at hb;cases hb
     ·exact hF.yH e (List.mem_filter.1 he).1 b hb⟩,ql⟩
     rcases j8 he with he|⟨_,he⟩
     ·obtain⟨e',he',hv⟩:=n9 wI he
      rw[<-hv]
      exact oz.yes t e' he' (by rw[(wV e' (bF he')).1];exact nil _)
     ·obtain⟨hv,wW, _⟩:=hkeep t e he
      have:=oz.off t (a.tmps[t]?) (by simp only[S1,wW];rfl)
      rw[this,hv]
    have Is:Fit S1 #[] N (marks D) env a:=⟨fun t x hx=>by
     simp only[S1] at hx
     split at hx
     ·cases hx
     ·cases hx;rfl,hF.size,hF.oB,hF.yes,hF.no,hF.BG,hF.yH⟩
    have back: ∀{fR:List bD} {D2:List Nat} {a2:Act},Fit S1 #[] N (marks D2) fR a2->Fit S #[] N (marks D2) fR a2:=fun{fR D2 a2} hf=>⟨fun t y hy=>by
     have wW:(writes x).contains t=false:=by
      cases hc:(writes x).contains t with
      |false=>rfl
      |true=>have:=hS t (by simpa[writes] using hc);rw[this] at hy;cases hy
     have h1:=hf.off t (a.tmps[t]?) (by simp only[S1,wW];rfl)
     rw[h1];exact hF.off t y hy,hf.size,hf.oB,hf.yes,hf.no,hf.BG,hf.yH⟩
    have So: ∀k∈writes x,S1 k=none:=fun k hk=>by simp[S1,hk]
    obtain⟨VB,VC⟩:=head env D a s0 hp Is hs0
    refine vQ (fun n a2 w2=> ∃s D2,I n s D2 w2/\Fit S1 #[] N (marks D2) (iO sl s++keep) a2/\plain (iO sl s++keep)) (n0:=n0) ⟨s0,D,h0 w' hw,VB,VC⟩ ?_
    intro n a2 w2 ⟨s,D2,hI,oz,wV⟩
    have hb:=ih S1 _ D2 a2 w2 w2 _ Kx Kr So wV oz (hstep n s D2 w2 hI) (Ext.refl _)
    refine wpIn_mono hb ?_
    intro e a3 w3 hq
    cases e with
    |normal=>
     obtain⟨pE,D3,wr,hk,z9,z_,qm⟩:=hq
     simp only[Exit.then]
     split at hk
     ·rename_i s3 VD
      obtain⟨n',hlt,SS⟩:=hk w3 qm
      obtain⟨PZ,P0⟩:=head pE D3 a3 s3 z9 z_ VD
      exact⟨n',hlt,s3,D3,SS,PZ,P0⟩
     ·exact False.elim hk
    |exit id=>obtain⟨pE,D3,wr,hk,z9,z_,qm⟩:=hq;exact⟨pE,D3,wr,hk,z9,back z_,qm⟩
    |ret=>obtain⟨pE,D3,wr,hk,z9,z_,qm⟩:=hq;exact⟨pE,D3,wr,hk,z9,back z_,qm⟩
    | _=>exact hq
  ·exact xM (C:=C) (aJ:=aJ) hS hp hF h hw
 |rangeFunc g ps assign body _ _=>
  intro S env D a w w' Kn Kx Kr hS hp hF h hw
  simp only[If] at h
  split at h
  ·rename_i fid first cap hg
   split at h
   ·rename_i hok
    simp only[Bool.and_eq_true,List.all_eq_true,decide_eq_true_eq] at hok
    obtain⟨Au,hps⟩:=hok
    have P1:=hF.ev (ch:=[]) (fun _ hx=>by cases hx) hg
    refine wpIn_rangeFunc fun fn _=>?_
    let Iv:Loop:={state:= .ready,pending:=none,fn,tmps:=a.tmps,params:=ps,assign,body,defers:=w'.heap.size}
    have Sp:Fit (fun _=>none) #[] N (marks D) env {tmps:=a.tmps,defers:=marks D}:=⟨(fun _ _ hx=>by cases hx),hF.size,rfl,hF.yes,hF.no,hF.BG,hF.yH⟩
    have hk:=h w' hw Iv rfl rfl rfl rfl (fun _ w3 R hr=>CC (C:=C) (aJ:=aJ) (rec:=Iv) rfl rfl rfl hps hp Sp hr)
    have T4:(first++ #[Value.func (.yield (w'.heap.size+1)) #[] #[]]++cap:Array Value)=⟨dg first [.func (.yield (w'.heap.size+1)) #[] #[]] cap⟩:=by
     unfold dg
     obtain⟨l1⟩:=first;obtain⟨l3⟩:=cap
     simp
    refine⟨w'.heap.size+1,[{target:= .collected w'.heap.size,args:= #[]}],(w'.alloc (.deferred (some []))).alloc (.loop Iv),{target:= .fn (.func fid) cap,args:=first++ #[.func (.yield (w'.heap.size+1)) #[] #[]]},(w'.alloc (.deferred (some []))).alloc (.loop Iv),fid,
     ⟨dg first [.func (.yield (w'.heap.size+1)) #[] #[]] cap⟩,(w'.alloc (.deferred (some []))).alloc (.loop Iv),run_enterLoop_outer _ _ _ _ _,?_,fun _ _=>trivial,?_,by simp[WF,Fence.wide],?_⟩
    ·simp only[resolve,P1,Deferred.ofValue,Sem.run_pure,List.map_toArray,List.map_cons,List.map_nil]
     rfl
    ·simp only[invoke]
     rw[T4]
     exact rj Au
    ·refine(iG (n:=0 - 1)).2 (hk.mono fun e w4 ⟨v,he,st,pd,sL,hst,hkk⟩=>?_)
     subst he
     have hend:=CD (P:=P) sL hst
     have oz:Fit S #[] N (marks (w'.heap.size::D)) env {a with defers:=[{target:= .collected w'.heap.size,args:= #[]}]++a.defers}:=
      ⟨hF.off,hF.size,by simp[marks,hF.oB],hF.yes,hF.no,hF.BG,hF.yH⟩
     refine⟨pd, _,hend,?_⟩
     match pd,hkk with
     |none,hkk=>exact⟨env, _, _,hkk,hp,oz,Ext.refl _⟩
     |some (.exit id),hkk=>exact wpIn_exit ⟨env, _, _,hkk,hp,oz,Ext.refl _⟩
     |some .ret,hkk=>exact wpIn_ret ⟨env, _, _,hkk,hp,oz,Ext.refl _⟩
   ·exact False.elim h
  ·exact False.elim h
 | _=>intro S env D a w w' Kn Kx Kr hS hp hF h hw;exact xM (C:=C) (aJ:=aJ) hS hp hF h hw
def An (P:Program) (w:World):List ResultVar->List bD->(List Value->Prop)->Prop
 |[], _,K=>K []
 | .tmp t::r,env,K=>match a8 env t with
   |some e=>An P w r env (fun l=>K (e.v::l))
   |none=>False
 | .cell t ty::r,env,K=>match a8 env t with
   |some e=>match e.v,tZ P ty,P.info? ty with
    | .pointer p,some el,some i=>if lU el i.size=true then False else ag w none p el (fun x=>An P w r env (fun l=>K (el.gi x::l)))
    | _, _, _=>False
   |none=>False
def MX (s:Sh) (Post:s.T->World->Prop) (w:World) (l:List Value):Prop:=
 match s.proj (BT l) with
 |some x=>Post x w
 |none=>False
def XM (D:List Nat) (x:Prop) (y:Nat->List Nat->Prop):Prop:=match D with
 |[]=>x
 |r::D=>y r D
def IS (s:Sh) (rs:List ResultVar) (Post:s.T->World->Prop):oC:=fun env D w=>XM D (aj w (fun w1=>An P w1 rs env (MX s Post w1)))
 (fun r D=>qh (r::D) w (fun w1=>An P w1 rs env (MX s Post w1)))
def bM (C:dD P) (aJ:Nat->aQ) (f:FuncId) (args:List Value) (w:World) (Post:(rR C f).T->World->Prop):Prop:=
 match P.funcs[f]? with
 |none=>False
 |some fn=>match fn.body with
  |none=>False
  |some c=>
   if args.length<=fn.ntmps then If C aJ fn.ntmps c (f_ args 0) [] w (IS (P:=P) (rR C f) fn.results.toList Post) (fun _ _ _ _=>False) (IS (P:=P) (rR C f) fn.results.toList Post) else False
theorem vo {tmps:Array Value} {w:World}: ∀{l:List ResultVar} {env:List bD} {K:List Value->Prop},An P w l env K->(∀t e,a8 env t=some e->tmps[t]? =some e.v)->
 ∃vs,(l.mapM (lP tmps)).run P w= .ok vs w/\K vs
 |[], _, _,h, _=>⟨[],by simp,h⟩
 | .tmp t::r,env,K,h,hv=>by
   simp only[An] at h
   split at h
   ·rename_i e he
    obtain⟨vs,hrun,hk⟩:=vo h hv
    refine⟨e.v::vs,?_,hk⟩
    simp only[List.mapM_cons,Sem.run_bind,lP,Sem.run_pure,Result.andThen_ok,hrun]
    simp[hv t e he]
   ·exact False.elim h
 | .cell t ty::r,env,K,h,hv=>by
   simp only[An] at h
   split at h
   ·rename_i e he
    split at h
    ·rename_i p el i P1 hel hi
     split at h
     ·exact False.elim h
     ·rename_i hs
      obtain⟨x,hr,T5⟩:=h
      obtain⟨vs,hrun,hk⟩:=vo T5 hv
      refine⟨el.gi x::vs,?_,hk⟩
      have hp: ∃a0,p=some a0:=by cases el<;>(obtain⟨a0,h0, _⟩:=hr;exact⟨a0,h0⟩)
      obtain⟨a0,rfl⟩:=hp
      have Mx:=qO (P:=P) hel hi hs hr
      have hg:tmps.getD t undef= .pointer (some a0):=by simp[hv t e he,P1]
      simp only[List.mapM_cons,Sem.run_bind,lP,hg,asAddr,Sem.run_pure,Result.andThen_ok,Mx,hrun]
    ·exact False.elim h
   ·exact False.elim h
theorem rp {fn:Func} {tmps:Array Value} {R:Ending->World->Prop}: ∀(D:List Nat) (w:World),Av D w->(∃v,(results fn tmps).run P (kv D w)= .ok v (kv D w)/\R (.returned v) (kv D w))->
 LeavesInM (WF none) 0 P fn tmps R (marks D) .returning w
 |[],w, _,h=>h
 |r::D,w,ho,h=>⟨by simp,.inl ⟨r, _,rfl,run_takeDeferred ho.1,rp D _ ho.2 h⟩⟩
theorem aL {C:dD P} {aJ:Nat->aQ} {f:FuncId} {args:List Value} {w:World} {Post:(rR C f).T->World->Prop} (h:bM C aJ f args w Post):an P f (rR C f) args w Post:=by
 unfold bM at h
 split at h
 ·exact False.elim h
 ·rename_i fn hf
  split at h
  ·exact False.elim h
  ·rename_i c hb
   split at h
   ·rename_i hle
    have ql:plain (f_ args 0):=fun e he=>pV he
    have nil: ∀(o:Array Oper) (tm:Array Value),iJ o tm []:=fun o tm x hx=>by cases hx
    have QH:Fit (fun _=>none) #[] fn.ntmps (marks []) (f_ args 0) {tmps:=(⟨args⟩:Array Value)++Array.replicate (fn.ntmps - args.length) undef,defers:=[]}:=by
     refine⟨(fun _ _ hx=>by cases hx),(by simp;omega),rfl,fun t e he _=>?_,fun t e he hn=>absurd (by rw[(ql e (bF he)).1];exact nil _ _) hn,(fun e he=>by rw[(ql e he).2];exact(ql e he).1),fun e he b hb=>by rw[vm he] at hb;cases hb⟩
     obtain⟨_,hv, _⟩:=nG he
     simp only[Nat.sub_zero] at hv
     have hlt:t<args.length:=(List.getElem?_eq_some_iff.1 hv).1
     rw[Array.getElem?_append_left (by simpa using hlt)]
     simpa using hv
    have hwp:=Q8 (C:=C) (aJ:=aJ) c (fun _=>none) _ _ _ w w _ _ _ (fun _ _=>rfl) ql QH h (Ext.refl w)
    refine(iG (r:=none) (n:=0)).1 (callsIn_of_wp_marks hf hb trivial (wpIn_mono hwp ?_))
    have fin: ∀a1 w1,(∃env D wr,IS (P:=P) (rR C f) fn.results.toList Post env D wr/\plain env/\Fit (fun _=>none) #[] fn.ntmps (marks D) env a1/\Ext wr w1)->
     LeavesInM (WF none) 0 P fn a1.tmps (fun e w'=> ∃x:(rR C f).T,e= .returned ((rR C f).gi x)/\Post x w') a1.defers .returning w1:=by
     intro a1 w1 ⟨env,D,wr,hk,zZ,rO,hw1⟩
     obtain⟨ho,hres⟩:Av D w1/\An P (kv D w1) fn.results.toList env (MX (rR C f) Post (kv D w1)):=by
      cases D with
      |nil=>exact⟨trivial,hk w1 hw1⟩
      |cons r D=>exact hk w1 hw1
     rw[rO.oB]
     refine rp D w1 ho ?_
     obtain⟨vs,hrun,hkv⟩:=vo hres (fun t e he=>rO.yes t e he (by rw[(zZ e (bF he)).1];exact nil _ _))
     unfold MX at hkv
     split at hkv
     ·rename_i x hx
      refine⟨BT vs,?_,x,by rw[Sh.gu hx],hkv⟩
      have h2:(fn.results.mapM (lP a1.tmps)).run P (kv D w1)= .ok ⟨vs⟩ (kv D w1):=by
       rw[Array.mapM_eq_mapM_toList,Sem.run_map,hrun]
       rfl
      have e:results fn a1.tmps=(do
       let vs<-fn.results.mapM (lP a1.tmps)
       pure (if h:vs.size=1 then vs[0] else .tuple vs)):=rfl
      rw[e,Sem.run_bind,h2]
      simp only[Result.andThen_ok,Sem.run_pure]
      match vs with
      |[]=>rfl
      |[v]=>rfl
      |v::u::r=>simp[BT]
     ·exact False.elim hkv
    intro e a1 w1 hq
    cases e with
    |normal=>exact fin a1 w1 hq
    |ret=>exact fin a1 w1 hq
    |exit id=>obtain⟨_, _, _,hk, _⟩:=hq;exact False.elim hk
    | _=>exact False.elim hq
   ·exact False.elim h
end Go.RX
namespace Go.RX
open Go.RowKit
theorem putObj_size (w:World) (b:Nat) (o:Obj):(w.putObj b o).heap.size=w.heap.size:=by simp[World.putObj]
theorem fo {w:World} {b k:Nat} {o:Obj} (h:k≠b):(w.putObj b o).heap[k]? =w.heap[k]? :=by
 simp[World.putObj,Ne.symm h]
theorem iS {w:World} {b:Nat} {o:Obj} (h:b<w.heap.size):(w.putObj b o).heap[b]? =some o:=by
 simp[World.putObj,h]
theorem zM (w:World) (a:Addr) (v:Value):(w.setCell a v).heap.size=w.heap.size:=by simp[World.setCell]
theorem CE {w:World} {a:Addr} {k:Nat} {v:Value} (h:k≠a.block):(w.setCell a v).heap[k]? =w.heap[k]? :=by
 simp[World.setCell,Array.getElem?_modify,Ne.symm h]
theorem Addr.sj (a:Addr) (n:Nat):(a.add n).block=a.block:=by
 unfold Addr.add;split<;>rfl
theorem pW: ∀(vs:List Value) (w:World) (a:Addr) (i:Nat),(putAt w a vs i).heap.size=w.heap.size
 |[], _, _, _=>rfl
 |v::r,w,a,i=>by simp only[putAt,pW r,zM]
theorem kY: ∀(vs:List Value) (w:World) (a:Addr) (i k:Nat),k≠a.block->(putAt w a vs i).heap[k]? =w.heap[k]?
 |[], _, _, _, _, _=>rfl
 |v::r,w,a,i,k,h=>by
  simp only[putAt]
  rw[kY r _ a (i+1) k h,CE (by rw[Addr.sj];exact h)]
theorem Below.putAt {n:Nat} {w w':World} (h:Below n w w') (a:Addr) (ha:n<=a.block): ∀(vs:List Value) (i:Nat),Below n w (putAt w' a vs i):=by
 intro vs i
 induction vs generalizing w' i with
 |nil=>exact h
 |cons v r ih=>
  simp only[RX.putAt]
  exact ih (h.setCell (by rw[Addr.sj];exact ha) v) (i+1)
theorem Bp {n:Nat} {w w':World} (h:Below n w w') {b:Nat} (hb:n<=b) (o:Obj):Below n w (w'.putObj b o):=
 ⟨h.os,h.tape,h.output,by rw[putObj_size];exact h.size,fun k hk=>by rw[fo (Nat.ne_of_lt (Nat.lt_of_lt_of_le hk hb))];exact h.block k hk⟩
theorem Ext.fM {w w':World} (h:Ext w w') {a:Addr} (ha:w.heap.size<=a.block) (vs:List Value):Ext w (fM w' (some a) vs):=Below.putAt h a ha vs 0
theorem Ext.putObj {w w':World} (h:Ext w w') {b:Nat} (hb:w.heap.size<=b) (o:Obj):Ext w (w'.putObj b o):=Bp h hb o
theorem Ext.cR {w w':World} (h:Ext w w') (o:Obj):Ext w (w'.alloc o):=h.trans (Ext.alloc w' o)
def aY (w:World) (b:Nat) (l:List Value):Prop:= ∃t,w.heap[b]? =some (.cells ⟨l⟩ t (0,0))
theorem aY.lt {w:World} {b:Nat} {l:List Value} (h:aY w b l):b<w.heap.size:=by
 obtain⟨t,h⟩:=h;exact(Array.getElem?_eq_some_iff.1 h).1
theorem aY.ext {w w':World} {b:Nat} {l:List Value} (h:aY w b l) (k:Ext w w'):aY w' b l:=by
 obtain⟨t,h⟩:=h;exact⟨t,k.obj h⟩
theorem jM (w:World) (o:Obj):(w.alloc o).heap.size=w.heap.size+1:=by simp
theorem fO (w:World) (o:Obj):(w.alloc o).heap[w.heap.size]? =some o:=by
 show(w.heap.push o)[w.heap.size]? =some o
 simp
theorem aY.new (w:World) (l:List Value) (t:TypeId):aY (w.alloc (.cells ⟨l⟩ t)) w.heap.size l:=⟨t,fO _ _⟩
theorem aY.same {w w':World} {b:Nat} {l:List Value} (h:aY w b l) (k:w'.heap[b]? =w.heap[b]?):aY w' b l:=by
 obtain⟨t,h⟩:=h;exact⟨t,by rw[k];exact h⟩
theorem aY.IT {w:World} {b:Nat} {l:List Value} (h:aY w b l) {a:Addr} (ha:b≠a.block) (vs:List Value):aY (fM w (some a) vs) b l:=
 h.same (kY vs w a 0 b ha)
theorem aY.putObj {w:World} {b:Nat} {l:List Value} (h:aY w b l) {k:Nat} (hk:b≠k) (o:Obj):aY (w.putObj k o) b l:=h.same (fo hk)
theorem MY (b o n:Nat):Addr.add ⟨b,o,none⟩ n=⟨b,o+n,none⟩:=by
 unfold Addr.add;split
 ·rename_i h;subst h;rfl
 ·rfl
theorem aK (b o n:Nat):af (some ⟨b,o,none⟩) n=some ⟨b,o+n,none⟩:=by simp[af,MY]
theorem aY.cell {w:World} {b:Nat} {l:List Value} (h:aY w b l) (o:Nat):w.cell? ⟨b,o,none⟩=l[o]? :=by
 obtain⟨t,h⟩:=h;simp[World.cell?,h]
theorem aY.cellAt {w:World} {b:Nat} {l:List Value} (h:aY w b l) (o n:Nat):w.cell? (Addr.add ⟨b,o,none⟩ n)=l[o+n]? :=by rw[MY,h.cell]
theorem aY.Fq {w:World} {b:Nat} {l:List Value} (h:aY w b l) (a:Addr) (ha:a.block=b):w.frozen? a=false:=by
 obtain⟨t,h⟩:=h;simp[World.frozen?,ha,h]
theorem aY.lG {w:World} {b o:Nat} {l:List Value} (h:aY w b l) {s:Sc} {x:s.T} (hx:l[o]? =some (s.gi x)):cg w (some ⟨b,o,none⟩) (.one s) x:=
 ⟨_,rfl,by rw[h.cell];exact hx⟩
theorem aY.MI {w:World} {b o:Nat} {l:List Value} (h:aY w b l) {ss:List Sc} {x:d_ ss} (hx: ∀i,i<ss.length->l[o+i]? =(aP ss x)[i]?):cg w (some ⟨b,o,none⟩) (.agg ss) x:=
 ⟨_,rfl,fun i hi=>by rw[h.cellAt];exact hx i hi⟩
theorem aY.yG {w:World} {b o n:Nat} {l vs:List Value} (h:aY w b l) (hn:vs.length=n) (hx: ∀i,i<n->l[o+i]? =vs[i]?):yG w (some ⟨b,o,none⟩) n vs:=
 ⟨hn,fun i hi=>by rw[h.cellAt];exact hx i hi⟩
theorem aY.st {w:World} {b o n:Nat} {l:List Value} (h:aY w b l) (hn:o+n<=l.length):MU w (some ⟨b,o,none⟩) n:=
 ⟨_,rfl,fun i hi=>⟨by rw[h.cellAt,List.getElem?_eq_getElem (by omega)];rfl,h.Fq _ (Addr.sj _ _)⟩⟩
theorem zN {w:World} {b o:Nat} {l:List Value} {t:TypeId} (h:w.heap[b]? =some (.cells ⟨l⟩ t (0,0))) (v:Value):(w.setCell ⟨b,o,none⟩ v).heap[b]? =some (.cells ⟨l.set o v⟩ t (0,0)):=by
 simp only[World.setCell,Array.getElem?_modify,if_true,h,Option.map_some]
 simp
theorem vS: ∀(vs:List Value) (w:World) (b o i:Nat) (l:List Value) (t:TypeId),w.heap[b]? =some (.cells ⟨l⟩ t (0,0))->o+i+vs.length<=l.length->
 (putAt w ⟨b,o,none⟩ vs i).heap[b]? =some (.cells ⟨l.take (o+i)++(vs++l.drop (o+i+vs.length))⟩ t (0,0))
 |[],w,b,o,i,l,t,h, _=>by simp[putAt,h]
 |v::r,w,b,o,i,l,t,h,hl=>by
  simp only[List.length_cons] at hl
  simp only[putAt,MY]
  rw[vS r _ b o (i+1) (l.set (o+i) v) t (zN h v) (by simp;omega)]
  congr 3
  have h1:(l.set (o+i) v).take (o+(i+1))=l.take (o+i)++[v]:=by
   rw[show o+(i+1)=(o+i)+1 by omega,List.take_add_one,List.take_set_of_le (by omega)]
   congr 1
   rw[List.getElem?_set_self (by omega)];rfl
  have h2:(l.set (o+i) v).drop (o+(i+1)+r.length)=l.drop (o+i+(r.length+1)):=by
   rw[List.drop_set_of_lt (by omega)]
   congr 1;omega
  rw[h1,h2]
  simp
theorem aY.put {w:World} {b o:Nat} {l:List Value} (h:aY w b l) (vs:List Value) (hn:o+vs.length<=l.length):aY (fM w (some ⟨b,o,none⟩) vs) b (l.take o++(vs++l.drop (o+vs.length))):=by
 obtain⟨t,h⟩:=h
 exact⟨t,vS vs w b o 0 l t h hn⟩
theorem bW.lt {w:World} {l:Nat} {rec:Loop} {st:LoopState} {pd:Option Code} (h:bW w l rec st pd):l<w.heap.size:=(Array.getElem?_eq_some_iff.1 h).1
theorem bW.ext {w w':World} {l:Nat} {rec:Loop} {st:LoopState} {pd:Option Code} (h:bW w l rec st pd) (k:Ext w w'):bW w' l rec st pd:=k.obj h
theorem bW.same {w w':World} {l:Nat} {rec:Loop} {st:LoopState} {pd:Option Code} (h:bW w l rec st pd) (k:w'.heap[l]? =w.heap[l]?):bW w' l rec st pd:=by
 unfold bW;rw[k];exact h
theorem bW.put {w:World} {l:Nat} {rec:Loop} {st:LoopState} {pd:Option Code} (h:bW w l rec st pd) (U3:LoopState) (U4:Option Code):bW (qs w l rec U3 U4) l rec U3 U4:=
 iS h.lt
theorem nr {w:World} {p:Option Addr} {ss:List Sc} {x:d_ ss} {j:Nat} {s:Sc} {y:s.T} (h:cg w p (.agg ss) x) (hj:j<ss.length) (hy:(aP ss x)[j]? =some (s.gi y)):cg w (af p j) (.one s) y:=by
 obtain⟨a,rfl,h⟩:=h
 exact⟨a.add j,rfl,by rw[h j hj,hy]⟩
theorem oa {p:Option Addr} (h:p.isSome=true) (n:Nat):(af p n).isSome=true:=by
 cases p
 ·cases h
 ·rfl
def cellsOf:(e:El)->e.T->List Value
 | .one s,x=>[s.gi x]
 | .agg l,x=>aP l x
def aI:El->Nat
 | .one _=>1
 | .agg l=>l.length
theorem cK (e:El) (x:e.T):(cellsOf e x).length=aI e:=by
 cases e with
 |one s=>rfl
 |agg l=>exact bT l x
def Sl (w:World) (e:El) (p:Option Addr) (xs:List e.T):Prop:= ∀i x,xs[i]? =some x->p.isSome=true/\cg w (af p (i*aI e)) e x
theorem Sl.ext {w w':World} {e:El} {p:Option Addr} {xs:List e.T} (h:Sl w e p xs) (k:Ext w w'):Sl w' e p xs:=
 fun i x hx=>⟨(h i x hx).1,vi k (h i x hx).2⟩
def flat (e:El) (xs:List e.T):List Value:=xs.flatMap (cellsOf e)
theorem aG (e:El) (xs:List e.T):(flat e xs).length=xs.length*aI e:=by
 induction xs with
 |nil=>simp[flat]
 |cons x r ih=>simp only[flat,List.flatMap_cons,List.length_append,cK] at*;rw[ih];simp[Nat.add_mul,Nat.add_comm]
theorem tC (e:El) (xs ys:List e.T):flat e (xs++ys)=flat e xs++flat e ys:=by simp[flat]
theorem vp (e:El): ∀(xs:List e.T) (i:Nat) (x:e.T),xs[i]? =some x-> ∀j,j<aI e->(flat e xs)[i*aI e+j]? =(cellsOf e x)[j]?
 |[], _, _,h, _, _=>by simp at h
 |y::r,0,x,h,j,hj=>by
  simp at h;subst h
  simp only[flat,List.flatMap_cons,Nat.zero_mul,Nat.zero_add]
  rw[List.getElem?_append_left (by rw[cK];exact hj)]
 |y::r,i+1,x,h,j,hj=>by
  have ih:=vp e r i x (by simpa using h) j hj
  simp only[flat,List.flatMap_cons]
  rw[List.getElem?_append_right (by rw[cK,Nat.add_mul];omega),cK]
  rw[show(i+1)*aI e+j - aI e=i*aI e+j by rw[Nat.add_mul];omega]
  exact ih
theorem Sl.iA {w:World} {e:El} {b:Nat} {l:List Value} {xs:List e.T} (h:aY w b l) (hl:l.take (xs.length*aI e)=flat e xs):Sl w e (some ⟨b,0,none⟩) xs:=by
 intro i x hx
 have hi:i<xs.length:=(List.getElem?_eq_some_iff.1 hx).1
 have hij: ∀j,j<aI e->i*aI e+j<xs.length*aI e:=fun j hj=>by
  have:(i+1)*aI e<=xs.length*aI e:=Nat.mul_le_mul_right _ hi
  rw[Nat.add_mul] at this;omega
 have hc: ∀j,j<aI e->l[i*aI e+j]? =(cellsOf e x)[j]? :=fun j hj=>by
  rw[<-vp e xs i x hx j hj, <-hl,List.getElem?_take_of_lt (hij j hj)]
 refine⟨rfl,?_⟩
 rw[aK,Nat.zero_add]
 cases e with
 |one s=>exact h.lG (by have:=hc 0 (by simp[aI]);simpa[cellsOf] using this)
 |agg ss=>exact h.MI (fun j hj=>hc j hj)
def iM (w0 w:World) (e:El) (s:Option Addr×Nat×Nat) (xs:List e.T):Prop:=
 s.2.1=xs.length/\xs.length<=s.2.2/\
 ((s.1=none/\xs=[]/\s.2.2=0)\/ ∃b l,s.1=some ⟨b,0,none⟩/\w0.heap.size<=b/\aY w b l/\l.length=s.2.2*aI e/\l.take (xs.length*aI e)=flat e xs)
theorem iM.nil (w0 w:World) (e:El):iM w0 w e (none,0,0) []:=⟨rfl,Nat.le_refl _,.inl ⟨rfl,rfl,rfl⟩⟩
theorem iM.ext {w0 w w':World} {e:El} {s:Option Addr×Nat×Nat} {xs:List e.T} (h:iM w0 w e s xs) (k:Ext w w'):iM w0 w' e s xs:=by
 obtain⟨h1,h2,h3⟩:=h
 refine⟨h1,h2,?_⟩
 rcases h3 with h3|⟨b,l,a1,a2,a3,a4⟩
 ·exact .inl h3
 ·exact .inr ⟨b,l,a1,a2,a3.ext k,a4⟩
theorem iM.same {w0 w w':World} {e:El} {s:Option Addr×Nat×Nat} {xs:List e.T} (h:iM w0 w e s xs) (k: ∀a,s.1=some a->w'.heap[a.block]? =w.heap[a.block]?):iM w0 w' e s xs:=by
 obtain⟨h1,h2,h3⟩:=h
 refine⟨h1,h2,?_⟩
 rcases h3 with h3|⟨b,l,a1,a2,a3,a4⟩
 ·exact .inl h3
 ·exact .inr ⟨b,l,a1,a2,a3.same (k _ a1),a4⟩
theorem iM.sl {w0 w:World} {e:El} {s:Option Addr×Nat×Nat} {xs:List e.T} (h:iM w0 w e s xs):Sl w e s.1 xs:=by
 obtain⟨h1,h2,h3⟩:=h
 rcases h3 with ⟨_,hx, _⟩|⟨b,l,a1,a2,a3,a4,a5⟩
 ·subst hx;intro i x hx;simp at hx
 ·rw[a1];exact Sl.iA a3 a5
theorem iM.len {w0 w:World} {e:El} {s:Option Addr×Nat×Nat} {xs:List e.T} (h:iM w0 w e s xs):s.2.1=xs.length:=h.1
def kz:El->Bool
 | .one s=>s != .func
 | .agg l=>l.all (· != .func)
theorem vT (s:Sc) (x:s.T) (h:(s != .func)=true):(s.gi x).oneCell'=true:=by
 cases s<;>first|rfl|(exact absurd h (by decide))
theorem rq: ∀(ss:List Sc) (x:d_ ss),ss.all (· != .func)=true->(aP ss x).all (·.oneCell')=true
 |[], _, _=>rfl
 |s::r,x,h=>by
  simp only[List.all_cons,Bool.and_eq_true] at h
  simp only[aP,List.all_cons,rq r x.2 h.2,Bool.and_true,vT s x.1 h.1]
theorem Bq (e:El) (x:e.T) (h:kz e=true):(cellsOf e x).all (·.oneCell')=true:=by
 cases e with
 |one s=>simp[cellsOf,vT s x h]
 |agg l=>exact rq l x h
theorem kH (e:El) (xs:List e.T) (h:kz e=true):(flat e xs).all (·.oneCell')=true:=by
 induction xs with
 |nil=>rfl
 |cons x r ih=>simp only[flat,List.flatMap_cons,List.all_append,Bool.and_eq_true];exact⟨Bq e x h,ih⟩
theorem jN {w0 w:World} {e:El} {s x:Option Addr×Nat×Nat} {xs ys:List e.T} {t:TypeId} {bytes:Nat} {z:Array Value} {R:Option Addr×Nat×Nat->World->Prop}
 (h:iM w0 w e s xs) (h0:Ext w0 w) (hp:kz e=true) (hx:x.2.1=ys.length) (hr:yG w x.1 (x.2.1*aI e) (flat e ys)) (hz:z.size=aI e) (hb:(xs.length+ys.length)*bytes<=140737488355328)
 (k: ∀s' w',iM w0 w' e s' (xs++ys)->Ext w0 w'->(∀b,b<w.heap.size->(∀a,s.1=some a->b≠a.block)->w'.heap[b]? =w.heap[b]?)->w.heap.size<=w'.heap.size->
  ((∃a,s'.1=some a/\s.1=some a)\/(∃a,s'.1=some a/\w.heap.size<=a.block)\/s'=(s.1,s.2.1,s.2.2))->R s' w'):
 tV w t (aI e) bytes z s x R:=by
 obtain⟨h1,h2,h3⟩:=h
 have hfl:=aG e xs
 have Sq:=aG e ys
 have hrd:yG w s.1 (s.2.1*aI e) (flat e xs):=by
  rcases h3 with ⟨a1,a2,a3⟩|⟨b,l,a1,a2,a3,a4,a5⟩
  ·rw[a1,a2];rfl
  ·rw[a1]
   refine a3.yG (by rw[hfl,h1]) fun i hi=>?_
   rw[<-a5,Nat.zero_add,List.getElem?_take_of_lt (by rw[<-h1];exact hi)]
 refine⟨flat e xs,flat e ys,hrd,hr,fun hroom=>?_,fun hroom=>⟨growslice_fits hroom (by rw[h1,hx];exact hb),fun c hc=>?_⟩⟩
 ·rcases h3 with ⟨a1,a2,a3⟩|⟨b,l,a1,a2,a3,a4,a5⟩
  ·rw[a3] at hroom
   have hy:ys=[]:=List.eq_nil_of_length_eq_zero (by omega)
   subst hy;subst a2
   refine⟨.inl rfl,?_⟩
   have PV:s.2.1=0:=h1
   have hx1:x.2.1=0:=hx
   rw[a1]
   refine k _ _ ⟨by simp[PV,hx1],Nat.zero_le _,.inl ⟨rfl,rfl,a3⟩⟩ ?_ (fun _ _ _=>rfl) (Nat.le_refl _) (.inr (.inr ?_))
   ·exact h0
   ·rw[a1,hx1];rfl
  ·have hle:xs.length*aI e+ys.length*aI e<=l.length:=by
    rw[a4, <-Nat.add_mul];exact Nat.mul_le_mul_right _ (by rw[<-h1, <-hx];exact hroom)
   have ea:s.1.map (·.add (s.2.1*aI e))=some ⟨b,xs.length*aI e,none⟩:=by
    rw[a1,h1];simp[MY]
   rw[ea]
   refine⟨.inr ⟨a3.st (by rw[Sq];exact hle),kH e ys hp⟩,?_⟩
   have hput:=a3.put (o:=xs.length*aI e) (flat e ys) (by rw[Sq];exact hle)
   refine k _ _ ⟨by simp[h1,hx],by simp only[List.length_append];rw[<-h1, <-hx];exact hroom,.inr ⟨b, _,a1,a2,hput,?_,?_⟩⟩ (h0.fM (a:=⟨b, _,none⟩) a2 _) (fun k' hk hne=>kY (flat e ys) w ⟨b, _,none⟩ 0 k' (hne ⟨b,0,none⟩ a1)) (Nat.le_of_eq (pW _ _ _ _).symm) (.inl ⟨_,a1,a1⟩)
   ·simp only[List.length_append,List.length_take,List.length_drop,Sq];rw[<-a4];omega
   ·rw[a5]
    have:(xs++ys).length*aI e=(flat e xs++flat e ys).length:=by simp only[List.length_append,hfl,Sq,Nat.add_mul]
    rw[this, <-List.append_assoc,tC]
    exact List.take_left' rfl
 ·have hsz:w.drew.heap.size=w.heap.size:=rfl
  refine k _ _ ⟨by simp[h1,hx],by simp only[List.length_append];rw[<-h1, <-hx];exact hc,.inr ⟨w.heap.size,flat e xs++flat e ys++(Builtin.zeroCells z (c - (s.2.1+x.2.1))).toList,rfl,h0.size,?_,?_,?_⟩⟩ ((h0.trans (Ext.drew w)).trans (Ext.alloc _ _)) (fun b hb _=>?_) ?_ (.inr (.inl ⟨_,rfl,Nat.le_refl _⟩))
  ·have e1:(Array.mk (flat e xs)++Array.mk (flat e ys)++Builtin.zeroCells z (c - (s.2.1+x.2.1)))=⟨flat e xs++flat e ys++(Builtin.zeroCells z (c - (s.2.1+x.2.1))).toList⟩:=by
    apply Array.ext';simp
   rw[e1]
   exact aY.new w.drew _ _
  ·simp only[List.length_append,hfl,Sq,Builtin.zeroCells,Array.length_toList,Array.size_map,Array.size_range,hz]
   rw[<-Nat.add_mul, <-h1, <-hx, <-Nat.add_mul]
   congr 1;omega
  ·have:(xs++ys).length*aI e=(flat e xs++flat e ys).length:=by simp only[List.length_append,hfl,Sq,Nat.add_mul]
   rw[this,tC]
   exact List.take_left' rfl
  ·have:w.drew.heap=w.heap:=rfl
   rw[Ext.block (Ext.alloc w.drew _) (by rw[this];exact hb),this]
  ·rw[jM];exact Nat.le_succ _
theorem J4 {w0 w wA w1:World} {e:El} {s:Option Addr×Nat×Nat} {xs:List e.T} {x:e.T} {t:TypeId} {bytes:Nat} {z:Array Value} {R:Option Addr×Nat×Nat->World->Prop}
 (h:iM w0 w e s xs) (h0:Ext w0 w) (hp:kz e=true) (k1:Ext w wA) (k2:Ext (wA.alloc (.cells ⟨cellsOf e x⟩ t)) w1) (hz:z.size=aI e) (hb:(xs.length+1)*bytes<=140737488355328)
 (k: ∀s' w',iM w0 w' e s' (xs++[x])->Ext w0 w'->(∀b,b<w.heap.size->(∀a,s.1=some a->b≠a.block)->w'.heap[b]? =w.heap[b]?)->w.heap.size<=w'.heap.size->R s' w'):
 tV w1 t (aI e) bytes z s (some ⟨wA.heap.size,0,none⟩,1,1) R:=by
 have kk:Ext w w1:=(k1.trans (Ext.alloc wA _)).trans k2
 have Iw:aY w1 wA.heap.size (cellsOf e x):=(aY.new wA _ _).ext k2
 refine jN (ys:=[x]) (h.ext kk) (h0.trans kk) hp rfl ?_ hz hb fun s' w' ho he hf hsz _=>k s' w' ho he (fun b hb' hne=>?_) (Nat.le_trans kk.size hsz)
 ·refine Iw.yG (aG e [x]) fun i hi=>?_
  simp[flat]
 ·rw[hf b (Nat.lt_of_lt_of_le hb' kk.size) hne,kk.block hb']
end Go.RX
namespace Go.RX
def U (b:BitVec 64):Int:=(b.toNat:Int)
def B (x:Int):BitVec 64:=BitVec.ofInt 64 x
theorem uF (b:BitVec 64):B (U b)=b:=by
 unfold B U;simp
theorem T6 {a b:BitVec 64}:U a=U b<->a=b:=⟨fun h=>by rw[<-uF a,h,uF],fun h=>by rw[h]⟩
theorem wrap_u64 (x:Int):IntKind.u64.wrap x=x % 18446744073709551616:=by
 simp[IntKind.wrap,IntKind.bits,IntKind.signed]
theorem XN (x:Int):U (B x)=x % 18446744073709551616:=by
 unfold U B;rw[BitVec.toNat_ofInt]
 rw[Int.toNat_of_nonneg (Int.emod_nonneg _ (by decide))];rfl
theorem wN {x:Int} (h:0<=x) (h':x<18446744073709551616):U (B x)=x:=by
 rw[XN,Int.emod_eq_of_lt h h']
theorem r7 (x:Int):IntKind.u64.wrap x=U (B x):=by rw[wrap_u64,XN]
theorem Ji (a b:BitVec 64):mR .u64 (U a) (U b)=U (a &&& b):=by
 unfold mR;rw[r7]
 show U (B (U (B (U a) &&& B (U b))))= _
 rw[uF,uF,uF]
theorem T7 (a b:BitVec 64):PM .u64 (U a) (U b)=U (a ||| b):=by
 unfold PM;rw[r7]
 show U (B (U (B (U a) ||| B (U b))))= _
 rw[uF,uF,uF]
theorem Ft (a b:BitVec 64):ji .u64 (U a) (U b)=U (a &&& ~~~ b):=by
 unfold ji;rw[r7]
 show U (B (U (B (U a) &&& ~~~ B (U b))))= _
 rw[uF,uF,uF]
theorem T8 (x y:Int):B (x+y)=B x+B y:=by unfold B;exact BitVec.ofInt_add ..
theorem T9 (x y:Int):B (x*y)=B x*B y:=by unfold B;exact BitVec.ofInt_mul ..
theorem Q9 (a b:BitVec 64):au .u64 (U a) (U b)=U (a+b):=by unfold au;rw[r7,T8,uF,uF]
theorem Q_ (a b:BitVec 64):b_ .u64 (U a) (U b)=U (a*b):=by unfold b_;rw[r7,T9,uF,uF]
theorem Jj (a:BitVec 64) (n:Int):Ah .u64 (U a) n=U (a <<< n.toNat):=by
 unfold Ah;rw[wrap_u64];unfold U
 rw[BitVec.toNat_shiftLeft,Nat.shiftLeft_eq]
 show(a.toNat:Int)*2 ^ (min n.toNat 64) % _= _
 by_cases h:n.toNat<=64
 ·rw[Nat.min_eq_left h]
  rw[Int.natCast_emod,Int.natCast_mul,Int.natCast_pow];rfl
 ·rw[Nat.min_eq_right (by omega)]
  have h1:(a.toNat*2 ^ n.toNat) % 2 ^ 64=0:=by
   apply Nat.mod_eq_zero_of_dvd
   exact Nat.dvd_trans (Nat.pow_dvd_pow 2 (by omega)) (Nat.dvd_mul_left ..)
  rw[h1]
  have:(a.toNat:Int)*2 ^ 64 % 18446744073709551616=0:=by omega
  rw[this];rfl
theorem Jk (a:BitVec 64) (n:Int):BP .u64 (U a) n=U (a >>> n.toNat):=by
 unfold BP U
 rw[BitVec.toNat_ushiftRight,Nat.shiftRight_eq_div_pow]
 have e: ∀k:Nat,((a.toNat:Int).fdiv (2 ^ k))=((a.toNat / 2 ^ k:Nat):Int):=fun k=>by
  rw[Int.fdiv_eq_ediv_of_nonneg _ (Int.pow_nonneg (by decide))];push_cast;rfl
 show(a.toNat:Int).fdiv (2 ^ (min n.toNat 64))= _
 rw[e]
 by_cases h:n.toNat<=64
 ·rw[Nat.min_eq_left h]
 ·rw[Nat.min_eq_right (by omega)]
  have h0:=a.isLt
  rw[Nat.div_eq_of_lt h0,Nat.div_eq_of_lt (Nat.lt_of_lt_of_le h0 (Nat.pow_le_pow_right (by decide) (by omega)))]
theorem Fu {x:Int} (h:(Lit.int .u64 x).wf=true): ∃b,x=U b:=by
 refine⟨B x,?_⟩
 simp[Lit.wf,IntKind.min,IntKind.max,IntKind.bits,IntKind.signed] at h
 rw[wN (by omega) (by omega)]
theorem eT {x:Int} (h: -9223372036854775808<=x) (h':x<9223372036854775808):IntKind.i64.wrap x=x:=by
 simp only[IntKind.wrap,IntKind.bits,IntKind.signed]
 simp
 omega
theorem ar {x y:Int} (h: -9223372036854775808<=x+y) (h':x+y<9223372036854775808):au .i64 x y=x+y:=eT h h'
theorem bS {x y:Int} (h: -9223372036854775808<=x - y) (h':x - y<9223372036854775808):bL .i64 x y=x - y:=eT h h'
theorem eA {x y:Int} (h: -9223372036854775808<=x*y) (h':x*y<9223372036854775808):b_ .i64 x y=x*y:=eT h h'
theorem aO {P:Program} {f:FuncId} {sh:Sh} {args:List Value} {w:World} {x:sh.T} (h:an P f sh args w (fun y w'=>y=x/\Ext w w')):
 Calls P f ⟨args⟩ w (fun e w'=>e= .returned (sh.gi x)/\Ext w w'):=
 Calls.mono h fun _ w' ⟨y,he,hy,hw⟩=>⟨by rw[he,hy],hw⟩
end Go.RX
