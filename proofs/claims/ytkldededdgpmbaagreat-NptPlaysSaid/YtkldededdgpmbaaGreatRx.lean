import Derived.CallsIn
import Derived.OrdersIn
import Derived.Below
import Derived.Laws.Sem
import Derived.KernelRfl
import Derived.Laws.StructEq
import Derived.Laws.Small
import Derived.WalkSpells
import Derived.ChangeKeysEq
import Derived.RangeFuncLeaves
import Derived.Laws.World
import Derived.Laws.NewFold
import Derived.OwnWalkIn
import Derived.ChangeMaps4
import Derived.RangeFuncRecord
import Derived.Laws.Append
/-! An evaluator of code in the model, and its soundness: what a function of the loaded program does is shown by a formula that the kernel computes. -/
/-! Shapes of values, extension of worlds, pure operations: an evaluator of a region's operations on values whose heads are known. -/
namespace Go.RX
open Go.RowKit

/-- 'w'' is 'w' with more: every block of w lies as it lay. -/
def Ext (w w' : World) : Prop := Below w.heap.size w w'
theorem Ext.refl (w : World) : Ext w w := Below.refl _ w
theorem Ext.trans {a b c : World} (h : Ext a b) (k : Ext b c) : Ext a c := Below.trans h (Below.mono k h.size)
theorem Ext.drew (w : World) : Ext w { w with drawn := w.drawn + 1 } := ⟨rfl, rfl, rfl, Nat.le_refl _, fun _ _ => rfl⟩
theorem Ext.alloc (w : World) (o : Obj) : Ext w (w.alloc o) := Below.alloc (Below.refl _ w) (Nat.le_refl _) o
theorem Ext.size {w w' : World} (h : Ext w w') : w.heap.size ≤ w'.heap.size := Below.size h
theorem Ext.block {w w' : World} (h : Ext w w') {k : Nat} (hk : k < w.heap.size) : w'.heap[k]? = w.heap[k]? := Below.block h k hk
theorem Ext.obj {w w' : World} (h : Ext w w') {k : Nat} {o : Obj} (hk : w.heap[k]? = some o) : w'.heap[k]? = some o := by
  rw [h.block (Array.getElem?_eq_some_iff.1 hk).1]; exact hk
theorem cell_block {w : World} {a : Addr} {v : Value} (h : w.cell? a = some v) : a.block < w.heap.size := by
  unfold World.cell? at h
  cases ho : w.heap[a.block]? with
  | none => simp [ho] at h
  | some o => exact (Array.getElem?_eq_some_iff.1 ho).1
theorem Ext.cell {w w' : World} (h : Ext w w') {a : Addr} {v : Value} (ha : w.cell? a = some v) : w'.cell? a = some v := by
  rw [Below.cell h (cell_block ha)]; exact ha

/-! ### Shapes -/
inductive Sc where
  | int (k : IntKind) | bool | str | ptr | slice | map | func | clo (f : FuncId) (n : Nat) | yld
  deriving DecidableEq

/-- So many places. -/
@[reducible] def PtrsT : Nat → Type
  | 0 => Unit
  | n + 1 => Option Addr × PtrsT n
def ptrsEmb : (n : Nat) → PtrsT n → List Value
  | 0, _ => []
  | n + 1, x => .pointer x.1 :: ptrsEmb n x.2
def ptrsProj : (n : Nat) → List Value → Option (PtrsT n)
  | 0, [] => some ()
  | n + 1, .pointer a :: r => match ptrsProj n r with
    | some y => some (a, y)
    | none => none
  | _, _ => none
theorem ptrsProj_emb : ∀ {n : Nat} {l : List Value} {x : PtrsT n}, ptrsProj n l = some x → ptrsEmb n x = l
  | 0, [], _, _ => rfl
  | 0, _ :: _, _, h => by simp [ptrsProj] at h
  | n + 1, [], _, h => by simp [ptrsProj] at h
  | n + 1, v :: r, x, h => by
    cases v <;> simp only [ptrsProj] at h <;> (try (cases h; done))
    split at h
    · rename_i y hy; cases h; simp only [ptrsEmb, ptrsProj_emb hy]
    · cases h

@[reducible] def Sc.T : Sc → Type
  | .int _ => Int
  | .bool => Bool
  | .str => ByteArray
  | .ptr => Option Addr
  | .slice => Option Addr × Nat × Nat
  | .map => Option Nat
  | .func => Value
  | .clo _ n => PtrsT n
  | .yld => Nat

def Sc.emb : (s : Sc) → s.T → Value
  | .int k, n => .int k n
  | .bool, b => .bool b
  | .str, s => .string s
  | .ptr, a => .pointer a
  | .slice, x => .slice x.1 x.2.1 x.2.2
  | .map, r => .map r
  | .func, v => v
  | .clo f n, x => .func (.func f) #[] ⟨ptrsEmb n x⟩
  | .yld, y => .func (.yield y) #[] #[]

def Sc.proj : (s : Sc) → Value → Option s.T
  | .int k, .int k' n => if k = k' then some n else none
  | .bool, .bool b => some b
  | .str, .string s => some s
  | .ptr, .pointer a => some a
  | .slice, .slice a n c => some (a, n, c)
  | .map, .map r => some r
  | .func, v => some v
  | .clo f n, .func (.func f') ⟨[]⟩ ⟨l⟩ => if f = f' then ptrsProj n l else none
  | .yld, .func (.yield y) ⟨[]⟩ ⟨[]⟩ => some y
  | _, _ => none

theorem Sc.proj_emb {s : Sc} {v : Value} {x : s.T} (h : s.proj v = some x) : s.emb x = v := by
  cases s with
  | clo f n =>
    cases v with
    | func fn first captured =>
      obtain ⟨l1⟩ := first
      obtain ⟨l2⟩ := captured
      cases fn <;> cases l1 <;> simp only [Sc.proj] at h <;> (try (cases h; done))
      split at h
      · subst_vars
        simp only [Sc.emb, ptrsProj_emb h]
      · cases h
    | _ => simp [Sc.proj] at h
  | yld =>
    cases v with
    | func fn first captured =>
      obtain ⟨l1⟩ := first
      obtain ⟨l2⟩ := captured
      cases fn <;> cases l1 <;> cases l2 <;> simp only [Sc.proj] at h <;> first | (cases h; done) | (cases h; rfl)
    | _ => simp [Sc.proj] at h
  | _ =>
    cases v <;> simp only [Sc.proj] at h <;>
      first
        | (cases h; rfl)
        | (split at h <;> cases h; subst_vars; rfl)
        | (cases h)

@[reducible] def ScsT : List Sc → Type
  | [] => Unit
  | s :: r => s.T × ScsT r
def scsEmb : (l : List Sc) → ScsT l → List Value
  | [], _ => []
  | s :: r, x => s.emb x.1 :: scsEmb r x.2
def scsProj : (l : List Sc) → List Value → Option (ScsT l)
  | [], [] => some ()
  | s :: r, v :: vs => match s.proj v, scsProj r vs with
    | some x, some y => some (x, y)
    | _, _ => none
  | _, _ => none
theorem scsProj_emb : ∀ {l : List Sc} {vs : List Value} {x : ScsT l}, scsProj l vs = some x → scsEmb l x = vs
  | [], [], _, _ => rfl
  | [], _ :: _, _, h => by simp [scsProj] at h
  | _ :: _, [], _, h => by simp [scsProj] at h
  | s :: r, v :: vs, x, h => by
    simp only [scsProj] at h
    cases h1 : s.proj v with
    | none => simp [h1] at h
    | some a =>
      cases h2 : scsProj r vs with
      | none => simp [h1, h2] at h
      | some b =>
        simp only [h1, h2] at h
        cases h
        simp only [scsEmb, Sc.proj_emb h1, scsProj_emb h2]

inductive El where
  | one (s : Sc) | agg (l : List Sc)
@[reducible] def El.T : El → Type
  | .one s => s.T
  | .agg l => ScsT l
def El.emb : (e : El) → e.T → Value
  | .one s, x => s.emb x
  | .agg l, x => .agg ⟨scsEmb l x⟩
def El.proj : (e : El) → Value → Option e.T
  | .one s, v => s.proj v
  | .agg l, .agg ⟨vs⟩ => scsProj l vs
  | .agg _, _ => none
theorem El.proj_emb {e : El} {v : Value} {x : e.T} (h : e.proj v = some x) : e.emb x = v := by
  cases e with
  | one s => exact Sc.proj_emb h
  | agg l =>
    cases v with
    | agg cs => obtain ⟨vs⟩ := cs; exact congrArg (fun l => Value.agg ⟨l⟩) (scsProj_emb h)
    | _ => simp [El.proj] at h

@[reducible] def ElsT : List El → Type
  | [] => Unit
  | e :: r => e.T × ElsT r
def elsEmb : (l : List El) → ElsT l → List Value
  | [], _ => []
  | e :: r, x => e.emb x.1 :: elsEmb r x.2
def elsProj : (l : List El) → List Value → Option (ElsT l)
  | [], [] => some ()
  | s :: r, v :: vs => match s.proj v, elsProj r vs with
    | some x, some y => some (x, y)
    | _, _ => none
  | _, _ => none
theorem elsProj_emb : ∀ {l : List El} {vs : List Value} {x : ElsT l}, elsProj l vs = some x → elsEmb l x = vs
  | [], [], _, _ => rfl
  | [], _ :: _, _, h => by simp [elsProj] at h
  | _ :: _, [], _, h => by simp [elsProj] at h
  | s :: r, v :: vs, x, h => by
    simp only [elsProj] at h
    cases h1 : s.proj v with
    | none => simp [h1] at h
    | some a =>
      cases h2 : elsProj r vs with
      | none => simp [h1, h2] at h
      | some b =>
        simp only [h1, h2] at h
        cases h
        simp only [elsEmb, El.proj_emb h1, elsProj_emb h2]

/-- A result's shape. -/
inductive Sh where
  | el (e : El) | tup (l : List El)
@[reducible] def Sh.T : Sh → Type
  | .el e => e.T
  | .tup l => ElsT l
def Sh.emb : (s : Sh) → s.T → Value
  | .el e, x => e.emb x
  | .tup l, x => .tuple ⟨elsEmb l x⟩
def Sh.proj : (s : Sh) → Value → Option s.T
  | .el e, v => e.proj v
  | .tup l, .tuple ⟨vs⟩ => elsProj l vs
  | .tup _, _ => none
theorem Sh.proj_emb {e : Sh} {v : Value} {x : e.T} (h : e.proj v = some x) : e.emb x = v := by
  cases e with
  | el s => exact El.proj_emb h
  | tup l =>
    cases v with
    | tuple cs => obtain ⟨vs⟩ := cs; exact congrArg (fun l => Value.tuple ⟨l⟩) (elsProj_emb h)
    | _ => simp [Sh.proj] at h

/-- A type's shape, out of the program's tables. -/
def scsOf (P : Program) : Nat → TypeId → Option (List Sc)
  | 0, _ => none
  | d + 1, t => match P.underlying t with
    | some (.int k) => some [.int k]
    | some .bool => some [.bool]
    | some .string => some [.str]
    | some (.pointer _) => some [.ptr]
    | some (.slice _) => some [.slice]
    | some (.map _ _) => some [.map]
    | some (.func _ _ _) => some [.func]
    | some (.struct fs) => fs.toList.foldr (fun f acc => match scsOf P d f.type, acc with | some a, some b => some (a ++ b) | _, _ => none) (some [])
    | some (.array n e) => match scsOf P d e with
      | some a => if n ≤ 64 then some (List.replicate n a).flatten else none
      | none => none
    | _ => none
def elOf (P : Program) (t : TypeId) : Option El :=
  match P.underlying t with
  | some (.struct _) | some (.array _ _) => (scsOf P 20 t).map .agg
  | _ => match scsOf P 20 t with
    | some [s] => some (.one s)
    | _ => none
def elsOf (P : Program) : List TypeId → Option (List El)
  | [] => some []
  | t :: r => match elOf P t, elsOf P r with
    | some e, some l => some (e :: l)
    | _, _ => none
/-- What a function hands back. -/
def resSh (P : Program) (f : FuncId) : Sh :=
  match P.funcs[f]? with
  | some fn => match fn.resultTypes.toList with
    | [t] => match elOf P t with
      | some e => .el e
      | none => .tup []
    | ts => match elsOf P ts with
      | some l => .tup l
      | none => .tup []
  | none => .tup []

end Go.RX

/-! Pure operations, on values whose heads are known. -/
namespace Go.RX

def addI (k : IntKind) (x y : Int) : Int := k.wrap (x + y)
def subI (k : IntKind) (x y : Int) : Int := k.wrap (x - y)
def mulI (k : IntKind) (x y : Int) : Int := k.wrap (x * y)
def quoI (k : IntKind) (x y : Int) : Int := k.wrap (x.tdiv y)
def remI (x y : Int) : Int := x.tmod y
def andI (k : IntKind) (x y : Int) : Int := k.wrap (BitVec.ofInt k.bits x &&& BitVec.ofInt k.bits y).toNat
def orI (k : IntKind) (x y : Int) : Int := k.wrap (BitVec.ofInt k.bits x ||| BitVec.ofInt k.bits y).toNat
def xorI (k : IntKind) (x y : Int) : Int := k.wrap (BitVec.ofInt k.bits x ^^^ BitVec.ofInt k.bits y).toNat
def andNotI (k : IntKind) (x y : Int) : Int := k.wrap (BitVec.ofInt k.bits x &&& ~~~ (BitVec.ofInt k.bits y)).toNat
def shlI (k : IntKind) (x y : Int) : Int := k.wrap (x * 2 ^ (min y.toNat k.bits))
def shrI (k : IntKind) (x y : Int) : Int := x.fdiv (2 ^ (min y.toNat k.bits))
def convI (k : IntKind) (x : Int) : Int := k.wrap x
def notI (k : IntKind) (x : Int) : Int := k.wrap (BitVec.ofInt k.bits (if k.signed then -1 else k.max) ^^^ BitVec.ofInt k.bits x).toNat
def minI (x y : Int) : Int := if y < x then y else x
def maxI (x y : Int) : Int := if y > x then y else x

/-- A value, and what must hold for it. -/
structure PR where
  ob : Option Prop
  v : Value

def cNonzero : Operand → Bool
  | .const (.int _ n) => decide (n ≠ 0)
  | _ => false
def cNonneg : Operand → Bool
  | .const (.int _ n) => decide (0 ≤ n)
  | _ => false
def cNil : Operand → Bool
  | .const (.pointer none) | .const (.slice none _ _) | .const (.map none) | .const .nilFunc => true
  | _ => false

def binInt (op : BinOp) (k : IntKind) (x y : Int) (yo : Operand) : Option PR :=
  match op with
  | .add => some ⟨none, .int k (addI k x y)⟩
  | .sub => some ⟨none, .int k (subI k x y)⟩
  | .mul => some ⟨none, .int k (mulI k x y)⟩
  | .quo => some ⟨if cNonzero yo then none else some (y ≠ 0), .int k (quoI k x y)⟩
  | .rem => some ⟨if cNonzero yo then none else some (y ≠ 0), .int k (remI x y)⟩
  | .and => some ⟨none, .int k (andI k x y)⟩
  | .or => some ⟨none, .int k (orI k x y)⟩
  | .xor => some ⟨none, .int k (xorI k x y)⟩
  | .andNot => some ⟨none, .int k (andNotI k x y)⟩
  | .eql => some ⟨none, .bool (x == y)⟩
  | .neq => some ⟨none, .bool (x != y)⟩
  | .lss => some ⟨none, .bool (decide (x < y))⟩
  | .leq => some ⟨none, .bool (decide (x ≤ y))⟩
  | .gtr => some ⟨none, .bool (decide (x > y))⟩
  | .geq => some ⟨none, .bool (decide (x ≥ y))⟩
  | _ => none

def isAggV (P : Program) (t : TypeId) : Option Bool :=
  match P.underlying t with
  | some (.struct _) | some (.array _ _) => some true
  | some _ => some false
  | none => none
def partV (P : Program) (t : TypeId) (cs : List Value) (off : Nat) : Option Value :=
  match isAggV P t, P.info? t with
  | some true, some i => some (.agg ⟨(cs.drop off).take i.size⟩)
  | some false, _ => cs[off]?
  | _, _ => none

def eqFs (P : Program) (g : TypeId → Value → Value → Option Bool) (xs ys : List Value) : List Field → Option Bool
  | [] => some true
  | f :: fs => if f.name ≠ "_" then
      match partV P f.type xs f.offset, partV P f.type ys f.offset with
      | some a, some b => match g f.type a b, eqFs P g xs ys fs with
        | some r, some s => some (r && s)
        | _, _ => none
      | _, _ => none
    else eqFs P g xs ys fs
def eqV (P : Program) : Nat → TypeId → Value → Value → Option Bool
  | 0, _, _, _ => none
  | d + 1, t, x, y =>
    match P.underlying t with
    | some .bool => match x, y with
      | .bool a, .bool b => some (a == b)
      | _, _ => none
    | some (.int _) => match x, y with
      | .int k a, .int k' b => if k = k' then some (a == b) else none
      | _, _ => none
    | some .string => match x, y with
      | .string a, .string b => some (a == b)
      | _, _ => none
    | some (.struct fs) => match x, y with
      | .agg ⟨xs⟩, .agg ⟨ys⟩ => if P.stoodInHeld t then none else eqFs P (eqV P d) xs ys fs.toList
      | _, _ => none
    | _ => none

def binV (P : Program) (op : BinOp) (t : TypeId) (xo yo : Operand) (x y : Value) : Option PR :=
  match x, y with
  | .int k a, .int k' b =>
    match op with
    | .shl => some ⟨if cNonneg yo then none else some (0 ≤ b), .int k (shlI k a b)⟩
    | .shr => some ⟨if cNonneg yo then none else some (0 ≤ b), .int k (shrI k a b)⟩
    | op => if k = k' then binInt op k a b yo else none
  | .bool a, .bool b =>
    match op, P.underlying t with
    | .eql, some .bool => some ⟨none, .bool (a == b)⟩
    | .neq, some .bool => some ⟨none, .bool (!(a == b))⟩
    | _, _ => none
  | .pointer p, .pointer q =>
    match op, P.underlying t with
    | .eql, some (.pointer _) => if cNil yo then some ⟨none, .bool p.isNone⟩ else if cNil xo then some ⟨none, .bool q.isNone⟩ else none
    | .neq, some (.pointer _) => if cNil yo then some ⟨none, .bool (!p.isNone)⟩ else if cNil xo then some ⟨none, .bool (!q.isNone)⟩ else none
    | _, _ => none
  | .slice p _ _, .slice q _ _ =>
    match op, P.underlying t with
    | .eql, some (.slice _) => if cNil yo then some ⟨none, .bool p.isNone⟩ else if cNil xo then some ⟨none, .bool q.isNone⟩ else none
    | .neq, some (.slice _) => if cNil yo then some ⟨none, .bool (!p.isNone)⟩ else if cNil xo then some ⟨none, .bool (!q.isNone)⟩ else none
    | _, _ => none
  | .map p, .map q =>
    match op, P.underlying t with
    | .eql, some (.map _ _) => if cNil yo then some ⟨none, .bool p.isNone⟩ else if cNil xo then some ⟨none, .bool q.isNone⟩ else none
    | .neq, some (.map _ _) => if cNil yo then some ⟨none, .bool (!p.isNone)⟩ else if cNil xo then some ⟨none, .bool (!q.isNone)⟩ else none
    | _, _ => none
  | .string a, .string b =>
    match op with
    | .eql => some ⟨none, .bool (a == b)⟩
    | .neq => some ⟨none, .bool (!(a == b))⟩
    | _ => none
  | .agg xs, .agg ys =>
    if P.eqGuardType P.depth t then none else
    match op, eqV P Op.maxDepth t (.agg xs) (.agg ys) with
    | .eql, some r => some ⟨none, .bool r⟩
    | .neq, some r => some ⟨none, .bool (!r)⟩
    | _, _ => none
  | _, _ => none

def unV (op : UnOp) (x : Value) : Option PR :=
  match op, x with
  | .not, .bool b => some ⟨none, .bool (!b)⟩
  | .neg, .int k n => some ⟨none, .int k (subI k 0 n)⟩
  | .xor, .int k n => some ⟨none, .int k (notI k n)⟩
  | _, _ => none

def convV (P : Program) (src dst : TypeId) (x : Value) : Option PR :=
  match P.underlying src, P.underlying dst, x with
  | some _, some (.int k), .int _ n => some ⟨none, .int k (convI k n)⟩
  | some .string, some .string, .string s => some ⟨none, .string s⟩
  | _, _, _ => none

def fieldOf (P : Program) (t : TypeId) (i : Nat) : Option Field :=
  match P.underlying t with
  | some (.struct fs) => fs[i]?
  | _ => none

def maps (ρ : Operand → Option Value) : List Operand → Option (List Value)
  | [] => some []
  | x :: r => match ρ x, maps ρ r with
    | some v, some l => some (v :: l)
    | _, _ => none
def pairs (ρ : Operand → Option Value) : List (Nat × Operand) → Option (List (Nat × Value))
  | [] => some []
  | (i, x) :: r => match ρ x, pairs ρ r with
    | some v, some l => some ((i, v) :: l)
    | _, _ => none

def addP (p : Option Addr) (n : Nat) : Option Addr := p.map (·.add n)

def intsOf : List Value → IntKind → Option (List Int)
  | [], _ => some []
  | .int k' n :: r, k => if k = k' then (match intsOf r k with | some l => some (n :: l) | none => none) else none
  | _, _ => none
def selI (l : List Int) (i : Int) : Int := l.getD i.toNat 0

def fillL (place : Nat → Option (Nat × Nat)) (cells : List Value) : List (Nat × Value) → Option (List Value)
  | [] => some cells
  | (i, v) :: rest => match place i with
    | none => none
    | some (off, size) =>
      if (Nat.beq v.cells.toList.length size && Nat.ble (off + size) cells.length) = true then fillL place (cells.take off ++ (v.cells.toList ++ cells.drop (off + size))) rest else none
def fillA (place : Nat → Option (Nat × Nat)) (cells : Array Value) (ps : List (Nat × Value)) : Option (Array Value) :=
  match fillL place cells.toList ps with
  | some l => some ⟨l⟩
  | none => none

theorem setRange : ∀ (vs : List Value) (k off : Nat) (cs : List Value), off + k + vs.length ≤ cs.length →
    (vs.zipIdx k).foldl (fun (cs : Array Value) (x : Value × Nat) => cs.setIfInBounds (off + x.2) x.1) ⟨cs⟩ = ⟨cs.take (off + k) ++ (vs ++ cs.drop (off + k + vs.length))⟩
  | [], k, off, cs, h => by simp
  | v :: vs, k, off, cs, h => by
    simp only [List.length_cons] at h
    have e : (Array.mk cs).setIfInBounds (off + k) v = ⟨cs.set (off + k) v⟩ := by simp
    simp only [List.zipIdx_cons, List.foldl_cons, e]
    rw [setRange vs (k + 1) off (cs.set (off + k) v) (by simp; omega)]
    congr 1
    have h1 : (cs.set (off + k) v).take (off + (k + 1)) = cs.take (off + k) ++ [v] := by
      rw [show off + (k + 1) = (off + k) + 1 by omega, List.take_add_one, List.take_set_of_le (by omega)]
      congr 1
      rw [List.getElem?_set_self (by omega)]; rfl
    have h2 : (cs.set (off + k) v).drop (off + (k + 1) + vs.length) = cs.drop (off + k + (vs.length + 1)) := by
      rw [List.drop_set_of_lt (by omega)]
      congr 1; omega
    rw [h1, h2]
    simp

theorem fillL_ok (place : Nat → Option (Nat × Nat)) : ∀ (ps : List (Nat × Value)) (cells r : List Value), fillL place cells ps = some r → Instr.fill place ⟨cells⟩ ps = some ⟨r⟩
  | [], cells, r, h => by cases h; rfl
  | (i, v) :: rest, cells, r, h => by
    unfold fillL at h
    unfold Instr.fill
    split at h
    · cases h
    · rename_i off size hp
      split at h
      · rename_i hc
        simp only [Bool.and_eq_true, Nat.beq_eq, Nat.ble_eq] at hc
        obtain ⟨h1, h2⟩ := hc
        have e1 : v.cells.size = size := by simpa using h1
        have hn : ¬ ((decide (v.cells.size ≠ size) || decide (off + v.cells.size > (Array.mk cells).size)) = true) := by
          simp [e1]; omega
        simp only [hp, hn]
        have := setRange v.cells.toList 0 off cells (by simp only [h1]; omega)
        have ez : v.cells.zipIdx = ⟨v.cells.toList.zipIdx 0⟩ := by
          apply Array.ext'
          simp
        have e2 : v.cells.zipIdx.foldl (fun (cs : Array Value) (x : Value × Nat) => cs.setIfInBounds (off + x.2) x.1) ⟨cells⟩ = ⟨cells.take off ++ (v.cells.toList ++ cells.drop (off + size))⟩ := by
          rw [ez, ← Array.foldl_toList]
          simp only [h1, Nat.add_zero] at this
          exact this
        refine Eq.trans ?_ (fillL_ok place rest _ r h)
        exact congrArg (fun x => Instr.fill place x rest) e2
      · cases h

theorem fillA_ok {place : Nat → Option (Nat × Nat)} {cells : Array Value} {ps : List (Nat × Value)} {cs : Array Value} (h : fillA place cells ps = some cs) : Instr.fill place cells ps = some cs := by
  unfold fillA at h
  split at h
  · rename_i l hl; cases h; exact fillL_ok place ps _ l hl
  · cases h

def fillsV (P : Program) (t : TypeId) (parts : List (Nat × Value)) : Option (Array Value) :=
  match P.info? t with
  | some i => match i.zero with
    | some z => match P.underlying t with
      | some (.struct fs) => if fs.toList.all (fun f => (P.info? f.type).isSome) then fillA ((fs.toList.map fun f => (f.offset, P.cellsOf f.type))[·]?) z.cells parts else none
      | some (.array _ e) => match P.info? e with
        | some ie => fillA (fun i => some (i * ie.size, ie.size)) z.cells parts
        | none => none
      | _ => none
    | none => none
  | none => none

end Go.RX

/-! Pure operations: what they yield, and that the model yields it. -/
namespace Go.RX

def byteI (s : ByteArray) (i : Int) : Int := (((s.data.toList)[i.toNat]?.getD 0).toNat : Int)

/-- The bounds of a slice expression. -/
def sbound (ρ : Operand → Option Value) (d : Nat) : Option Operand → Option (Int)
  | none => some d
  | some x => match ρ x with
    | some (.int _ n) => some n
    | _ => none

def pop (P : Program) (ρ : Operand → Option Value) (o : Oper) : Option PR :=
  match o.op with
  | .move x => match ρ x with
    | some v => some ⟨none, v⟩
    | none => none
  | .assign x => match ρ x with
    | some v => some ⟨none, v⟩
    | none => none
  | .nilCheck x => match ρ x with
    | some (.pointer p) => some ⟨some (p.isSome = true), .pointer p⟩
    | some (.func (.func f) fs cs) => some ⟨none, .func (.func f) fs cs⟩
    | _ => none
  | .binOp op t x y _ => match ρ x, ρ y with
    | some a, some b => binV P op t x y a b
    | _, _ => none
  | .unOp op _ x => match ρ x with
    | some a => unV op a
    | none => none
  | .convert s d x => match ρ x with
    | some a => convV P s d a
    | none => none
  | .fieldAddr s x f => match ρ x, fieldOf P s f with
    | some (.pointer p), some fd => match P.info? fd.type with
      | some i => if i.size = 0 then none else some ⟨some (p.isSome = true), .pointer (addP p fd.offset)⟩
      | none => none
    | _, _ => none
  | .field t x f => match ρ x, fieldOf P t f with
    | some (.agg ⟨cs⟩), some fd => match partV P fd.type cs fd.offset with
      | some v => some ⟨none, v⟩
      | none => none
    | _, _ => none
  | .indexAddr t x ix => match P.underlying t, ρ x, ρ ix with
    | some (.array len e), some (.pointer p), some (.int _ i) => match P.info? e with
      | some ie => if len ≤ 1 then none else some ⟨some (p.isSome = true ∧ 0 ≤ i ∧ i < len), .pointer (addP p (i.toNat * ie.size))⟩
      | none => none
    | some (.slice e), some (.slice p len _), some (.int _ i) => match P.info? e with
      | some ie => some ⟨some (p.isSome = true ∧ 0 ≤ i ∧ i < len), .pointer (addP p (i.toNat * ie.size))⟩
      | none => none
    | _, _, _ => none
  | .index t x ix => match P.underlying t, ρ x, ρ ix with
    | some (.array len e), some (.agg ⟨cs⟩), some (.int _ i) => match P.info? e with
      | some ie => match ix with
        | .const (.int _ n) => if 0 ≤ n ∧ n < len then (match partV P e cs (n.toNat * ie.size) with
            | some v => some ⟨none, v⟩
            | none => none) else none
        | _ => match P.underlying e with
          | some (.int k) => match intsOf cs k with
            | some ns => if cs.length = len ∧ ie.size = 1 then some ⟨some (0 ≤ i ∧ i < len), .int k (selI ns i)⟩ else none
            | none => none
          | _ => none
      | none => none
    | some .string, some (.string s), some (.int _ i) => some ⟨some (0 ≤ i ∧ i < s.size), .int .u8 (byteI s i)⟩
    | _, _, _ => none
  | .makeFunc fn first captured => match maps ρ first.toList, maps ρ captured.toList with
    | some a, some b => some ⟨none, .func fn ⟨a⟩ ⟨b⟩⟩
    | _, _ => none
  | .extract x i => match ρ x with
    | some (.tuple ⟨vs⟩) => match vs[i]? with
      | some v => some ⟨none, v⟩
      | none => none
    | _ => none
  | .build t parts => match pairs ρ parts.toList with
    | some ps => match fillsV P t ps with
      | some cs => some ⟨none, .agg cs⟩
      | none => none
    | none => none
  | .slice t x lo hi mx => match P.underlying t, ρ x with
    | some (.slice e), some (.slice p len cap) => match P.info? e, sbound ρ 0 lo, sbound ρ len hi, sbound ρ cap mx with
      | some ie, some l, some h, some m => if hi.isNone && mx.isSome then none else
        some ⟨some (0 ≤ l ∧ l ≤ h ∧ h ≤ m ∧ m ≤ cap), .slice (if m.toNat = l.toNat then p else addP p (l.toNat * ie.size)) (h.toNat - l.toNat) (m.toNat - l.toNat)⟩
      | _, _, _, _ => none
    | some .string, some (.string s) => match sbound ρ 0 lo, sbound ρ s.size hi with
      | some l, some h => if mx.isSome then none else some ⟨some (0 ≤ l ∧ l ≤ h ∧ h ≤ s.size), .string (s.extract l.toNat h.toNat)⟩
      | _, _ => none
    | _, _ => none
  | .call c => match c.callee with
    | .builtin .len => match c.args.toList, c.argTypes.toList with
      | [x], [t] => match ρ x, P.underlying t with
        | some (.slice _ n _), some (.slice _) => some ⟨none, .int .i64 n⟩
        | some (.string s), some .string => some ⟨none, .int .i64 s.size⟩
        | some (.agg _), some (.array n _) => some ⟨none, .int .i64 n⟩
        | _, _ => none
      | _, _ => none
    | .builtin .min => match c.args.toList with
      | [x, y] => match ρ x, ρ y with
        | some (.int k a), some (.int _ b) => some ⟨none, .int k (minI a b)⟩
        | _, _ => none
      | _ => none
    | .builtin .max => match c.args.toList with
      | [x, y] => match ρ x, ρ y with
        | some (.int k a), some (.int _ b) => some ⟨none, .int k (maxI a b)⟩
        | _, _ => none
      | _ => none
    | _ => none
  | _ => none

/-! ### The model yields it -/
section
variable {P : Program}

theorem run_und {t : TypeId} {d : TypeDesc} (h : P.underlying t = some d) (w : World) : (underlying t).run P w = .ok d w := run_underlying h w
theorem run_info {t : TypeId} {i : TypeInfo} (h : P.info? t = some i) (w : World) : (typeInfo t).run P w = .ok i w := by
  unfold typeInfo; simp [h]
theorem run_size {t : TypeId} {i : TypeInfo} (h : P.info? t = some i) (w : World) : (sizeOf t).run P w = .ok i.size w := by
  unfold sizeOf; simp [run_info h]
theorem run_isAgg {t : TypeId} {b : Bool} (h : isAggV P t = some b) (w : World) : (isAgg t).run P w = .ok b w := by
  unfold isAggV at h
  unfold isAgg
  cases hu : P.underlying t with
  | none => simp [hu] at h
  | some d => cases d <;> simp_all [run_und hu]

theorem run_partV {t : TypeId} {cs : List Value} {off : Nat} {v : Value} (h : partV P t cs off = some v) (w : World) : (part t ⟨cs⟩ off).run P w = .ok v w := by
  unfold partV at h
  unfold part
  cases hb : isAggV P t with
  | none => simp [hb] at h
  | some b =>
    simp only [Sem.run_bind, run_isAgg hb, Result.andThen_ok]
    cases b with
    | true =>
      cases hi : P.info? t with
      | none => simp [hb, hi] at h
      | some i =>
        simp only [hb, hi] at h
        cases h
        simp [run_size hi, List.extract_eq_take_drop, Nat.add_sub_cancel_left]
    | false =>
      simp only [hb] at h
      simp [h]

theorem run_eqV : ∀ (d : Nat) (t : TypeId) (x y : Value) (r : Bool), eqV P d t x y = some r → ∀ w, (Op.equalIn d t x y).run P w = .ok r w := by
  intro d
  induction d with
  | zero => intro t x y r h; simp [eqV] at h
  | succ d ih =>
    intro t x y r h w
    unfold eqV at h
    split at h
    · rename_i hu
      split at h
      · cases h; simp [Op.equalIn, run_und hu]
      · cases h
    · rename_i k0 hu
      split at h
      · split at h
        · cases h; subst_vars; simp [Op.equalIn, run_und hu]
        · cases h
      · cases h
    · rename_i hu
      split at h
      · cases h; simp [Op.equalIn, run_und hu]
      · cases h
    · rename_i fs hu
      split at h
      · rename_i xs ys
        split at h
        · cases h
        · rename_i hs
          have hf : P.fieldsOf t = fs := by simp [Program.fieldsOf, hu]
          rw [run_equalIn_struct w d t ⟨xs⟩ ⟨ys⟩ (by rw [hf]; exact hu) (by simpa using hs), hf]
          clear hu hf
          generalize fs.toList = l at h
          induction l generalizing r with
          | nil => simp only [eqFs, Option.some.injEq] at h; subst h; simp [Op.eqFields]
          | cons f l ihl =>
            simp only [eqFs] at h
            unfold Op.eqFields
            split
            · rename_i hn
              rw [if_pos hn] at h
              split at h
              · rename_i a b ha hb
                split at h
                · rename_i r1 r2 h1 h2
                  cases h
                  simp only [Sem.run_bind, run_partV ha, run_partV hb, Result.andThen_ok, ih _ _ _ _ h1]
                  cases r1
                  · simp
                  · simp [ihl _ h2]
                · cases h
              · cases h
            · rename_i hn
              rw [if_neg hn] at h
              exact ihl _ h
      · cases h
    · cases h
end
end Go.RX

namespace Go.RX
section
variable {P : Program} {ρ : Operand → Option Value} {ev : Operand → Value}

theorem maps_ok (hρ : ∀ x v, ρ x = some v → ev x = v) : ∀ {l : List Operand} {vs : List Value}, maps ρ l = some vs → l.map ev = vs
  | [], vs, h => by simp [maps] at h; simp [h]
  | x :: r, vs, h => by
    simp only [maps] at h
    split at h
    · rename_i v l h1 h2
      cases h
      simp [hρ _ _ h1, maps_ok hρ h2]
    · cases h
theorem pairs_ok (hρ : ∀ x v, ρ x = some v → ev x = v) : ∀ {l : List (Nat × Operand)} {vs : List (Nat × Value)}, pairs ρ l = some vs → (l.map fun (i, x) => (i, ev x)) = vs
  | [], vs, h => by simp [pairs] at h; simp [h]
  | (i, x) :: r, vs, h => by
    simp only [pairs] at h
    split at h
    · rename_i v l h1 h2
      cases h
      have := pairs_ok hρ h2
      simp [hρ _ _ h1] at *
      exact this
    · cases h

theorem run_eqGuard_int (op : BinOp) (t : TypeId) (x y : Operand) (k k' : IntKind) (a b : Int) (w : World) : (eqGuard op t x y (.int k a) (.int k' b)).run P w = .ok () w := by
  unfold eqGuard; cases op <;> simp


theorem eqIn_bool {t : TypeId} (hu : P.underlying t = some .bool) (d : Nat) (a b : Bool) (w : World) : (Op.equalIn (d + 1) t (.bool a) (.bool b)).run P w = .ok (a == b) w := by
  simp [Op.equalIn, run_und hu]
theorem eqIn_ptr_r {t e : TypeId} (hu : P.underlying t = some (.pointer e)) (d : Nat) (p : Option Addr) (w : World) : (Op.equalIn (d + 1) t (.pointer p) (.pointer none)).run P w = .ok p.isNone w := by
  cases p <;> simp [Op.equalIn, run_und hu]
theorem eqIn_ptr_l {t e : TypeId} (hu : P.underlying t = some (.pointer e)) (d : Nat) (p : Option Addr) (w : World) : (Op.equalIn (d + 1) t (.pointer none) (.pointer p)).run P w = .ok p.isNone w := by
  cases p <;> simp [Op.equalIn, run_und hu]
theorem eqIn_slice_r {t e : TypeId} (hu : P.underlying t = some (.slice e)) (d : Nat) (p : Option Addr) (n c n' c' : Nat) (w : World) : (Op.equalIn (d + 1) t (.slice p n c) (.slice none n' c')).run P w = .ok p.isNone w := by
  cases p <;> simp [Op.equalIn, run_und hu]
theorem eqIn_slice_l {t e : TypeId} (hu : P.underlying t = some (.slice e)) (d : Nat) (p : Option Addr) (n c n' c' : Nat) (w : World) : (Op.equalIn (d + 1) t (.slice none n' c') (.slice p n c)).run P w = .ok p.isNone w := by
  cases p <;> simp [Op.equalIn, run_und hu]
theorem eqIn_map_r {t k e : TypeId} (hu : P.underlying t = some (.map k e)) (d : Nat) (p : Option Nat) (w : World) : (Op.equalIn (d + 1) t (.map p) (.map none)).run P w = .ok p.isNone w := by
  cases p <;> simp [Op.equalIn, run_und hu]
theorem eqIn_map_l {t k e : TypeId} (hu : P.underlying t = some (.map k e)) (d : Nat) (p : Option Nat) (w : World) : (Op.equalIn (d + 1) t (.map none) (.map p)).run P w = .ok p.isNone w := by
  cases p <;> simp [Op.equalIn, run_und hu]
theorem eqIn_at {t : TypeId} {x y : Value} {r : Bool} {w : World} (h : ∀ d, (Op.equalIn (d + 1) t x y).run P w = .ok r w) : (Op.equal t x y).run P w = .ok r w := h 9999

theorem binV_ok {op : BinOp} {t : TypeId} {xo yo : Operand} {x y : Value} {pr : PR} (hy : ∀ v, yo = .const v → y = v) (hx : ∀ v, xo = .const v → x = v)
    (h : binV P op t xo yo x y = some pr) (hob : ∀ p, pr.ob = some p → p) (w : World) :
    (do eqGuard op t xo yo x y; binOp op t x y).run P w = .ok pr.v w := by
  unfold binV at h
  split at h
  · -- ints
    rename_i k a k' b
    simp only [Sem.run_bind, run_eqGuard_int, Result.andThen_ok]
    have hnz : cNonzero yo = true → b ≠ 0 := by
      intro hc
      unfold cNonzero at hc
      split at hc
      · rename_i k2 n
        have := hy _ rfl
        cases this
        simpa using hc
      · cases hc
    have hnn : cNonneg yo = true → 0 ≤ b := by
      intro hc
      unfold cNonneg at hc
      split at hc
      · rename_i k2 n
        have := hy _ rfl
        cases this
        simpa using hc
      · cases hc
    split at h
    · cases h
      have h0 : 0 ≤ b := by
        by_cases hc : cNonneg yo = true
        · exact hnn hc
        · exact hob (0 ≤ b) (by simp [hc])
      simp [binOp, Op.shift, shlI, Int.not_lt.2 h0]
    · cases h
      have h0 : 0 ≤ b := by
        by_cases hc : cNonneg yo = true
        · exact hnn hc
        · exact hob (0 ≤ b) (by simp [hc])
      simp [binOp, Op.shift, shrI, Int.not_lt.2 h0]
    · rename_i hop1 hop2
      split at h
      · subst_vars
        cases op <;> simp only [binInt] at h <;> (try cases h) <;>
          first
            | (simp [binOp, Op.intArith, addI, subI, mulI]; done)
            | (simp [binOp, Op.intBits, andI, orI, xorI, andNotI]; done)
            | (simp [binOp, Op.intCmp]; done)
            | (have h0 : b ≠ 0 := by
                 by_cases hc : cNonzero yo = true
                 · exact hnz hc
                 · exact hob (b ≠ 0) (by simp [hc])
               simp [binOp, Op.intDiv, h0, quoI, remI])
      · cases h
  · -- bools
    rename_i a b
    split at h
    · rename_i hu; cases h; simp [eqGuard, binOp, eqIn_at fun d => eqIn_bool hu d a b w]
    · rename_i hu; cases h; simp [eqGuard, binOp, eqIn_at fun d => eqIn_bool hu d a b w]
    · cases h
  · -- pointers
    rename_i p q
    have e1 : cNil yo = true → q = none := by
      intro hc; unfold cNil at hc; split at hc <;> first | (have := hy _ rfl; cases this <;> rfl) | (cases hc)
    have e2 : cNil xo = true → p = none := by
      intro hc; unfold cNil at hc; split at hc <;> first | (have := hx _ rfl; cases this <;> rfl) | (cases hc)
    split at h
    · rename_i hu
      split at h
      · rename_i hc; cases h; rw [e1 hc]; simp [eqGuard, binOp, eqIn_at fun d => eqIn_ptr_r hu d p w]
      · split at h
        · rename_i hc; cases h; rw [e2 hc]; simp [eqGuard, binOp, eqIn_at fun d => eqIn_ptr_l hu d q w]
        · cases h
    · rename_i hu
      split at h
      · rename_i hc; cases h; rw [e1 hc]; simp [eqGuard, binOp, eqIn_at fun d => eqIn_ptr_r hu d p w]
      · split at h
        · rename_i hc; cases h; rw [e2 hc]; simp [eqGuard, binOp, eqIn_at fun d => eqIn_ptr_l hu d q w]
        · cases h
    · cases h
  · -- slices
    rename_i p _ _ q _ _
    have e1 : cNil yo = true → q = none := by
      intro hc; unfold cNil at hc; split at hc <;> first | (have := hy _ rfl; cases this <;> rfl) | (cases hc)
    have e2 : cNil xo = true → p = none := by
      intro hc; unfold cNil at hc; split at hc <;> first | (have := hx _ rfl; cases this <;> rfl) | (cases hc)
    split at h
    · rename_i hu
      split at h
      · rename_i hc; cases h; rw [e1 hc]; simp [eqGuard, binOp, eqIn_at fun d => eqIn_slice_r hu d p _ _ _ _ w]
      · split at h
        · rename_i hc; cases h; rw [e2 hc]; simp [eqGuard, binOp, eqIn_at fun d => eqIn_slice_l hu d q _ _ _ _ w]
        · cases h
    · rename_i hu
      split at h
      · rename_i hc; cases h; rw [e1 hc]; simp [eqGuard, binOp, eqIn_at fun d => eqIn_slice_r hu d p _ _ _ _ w]
      · split at h
        · rename_i hc; cases h; rw [e2 hc]; simp [eqGuard, binOp, eqIn_at fun d => eqIn_slice_l hu d q _ _ _ _ w]
        · cases h
    · cases h
  · -- maps
    rename_i p q
    have e1 : cNil yo = true → q = none := by
      intro hc; unfold cNil at hc; split at hc <;> first | (have := hy _ rfl; cases this <;> rfl) | (cases hc)
    have e2 : cNil xo = true → p = none := by
      intro hc; unfold cNil at hc; split at hc <;> first | (have := hx _ rfl; cases this <;> rfl) | (cases hc)
    split at h
    · rename_i hu
      split at h
      · rename_i hc; cases h; rw [e1 hc]; simp [eqGuard, binOp, eqIn_at fun d => eqIn_map_r hu d p w]
      · split at h
        · rename_i hc; cases h; rw [e2 hc]; simp [eqGuard, binOp, eqIn_at fun d => eqIn_map_l hu d q w]
        · cases h
    · rename_i hu
      split at h
      · rename_i hc; cases h; rw [e1 hc]; simp [eqGuard, binOp, eqIn_at fun d => eqIn_map_r hu d p w]
      · split at h
        · rename_i hc; cases h; rw [e2 hc]; simp [eqGuard, binOp, eqIn_at fun d => eqIn_map_l hu d q w]
        · cases h
    · cases h
  · -- strings
    rename_i a b
    split at h
    · cases h; simp [eqGuard, binOp, Op.stringOp, beq_toListBytes]
    · cases h; simp [eqGuard, binOp, Op.stringOp, beq_toListBytes]
    · cases h
  · -- structs
    rename_i xs ys
    split at h
    · cases h
    · rename_i hg
      have hg' : P.eqGuardType P.depth t = false := by simpa using hg
      have hgr : ∀ op : BinOp, (eqGuard op t xo yo (.agg xs) (.agg ys)).run P w = .ok () w := by
        intro op; unfold eqGuard; cases op <;> simp [hg']
      split at h
      · rename_i r hr
        cases h
        simp only [Sem.run_bind, hgr, Result.andThen_ok]
        have hm : (Op.equal t (.agg xs) (.agg ys)).run P w = .ok r w := run_eqV (P := P) _ _ _ _ _ hr w
        simp [binOp, hm]
      · rename_i r hr
        cases h
        simp only [Sem.run_bind, hgr, Result.andThen_ok]
        have hm : (Op.equal t (.agg xs) (.agg ys)).run P w = .ok r w := run_eqV (P := P) _ _ _ _ _ hr w
        simp [binOp, hm]
      · cases h
  · cases h
end
end Go.RX

namespace Go.RX
section
variable {P : Program} {ρ : Operand → Option Value} {ev : Operand → Value}

theorem cells_getD (ρ : Operand → Option Value) (x : Operand) (v : Value) (h : ρ x = some v) : ρ x = some v := h

theorem intsOf_get : ∀ {cs : List Value} {k : IntKind} {ns : List Int}, intsOf cs k = some ns → ∀ i, i < cs.length → cs[i]? = some (.int k (ns.getD i 0))
  | [], k, ns, h, i, hi => by simp at hi
  | c :: cs, k, ns, h, i, hi => by
    unfold intsOf at h
    split at h
    · cases ‹c :: cs = []›
    · rename_i k' n r k2 heq
      cases heq
      split at h
      · subst_vars
        split at h
        · rename_i l hl
          cases h
          cases i with
          | zero => simp
          | succ i => simpa using intsOf_get hl i (by simpa using hi)
        · cases h
      · cases h
    · cases h

theorem und_name {t : TypeId} {fs : Array Field} (h : P.underlying t = some (.struct fs)) (f : Nat) (fd : Field) (hf : fieldOf P t f = some fd) : fs[f]? = some fd := by
  unfold fieldOf at hf; simpa [h] using hf
theorem fieldOf_und {t : TypeId} {f : Nat} {fd : Field} (hf : fieldOf P t f = some fd) : ∃ fs, P.underlying t = some (.struct fs) ∧ fs[f]? = some fd := by
  unfold fieldOf at hf
  split at hf
  · rename_i fs h; exact ⟨fs, h, hf⟩
  · cases hf

theorem run_indexAt {t e : TypeId} {ie : TypeInfo} (p : Addr) (k : IntKind) (i : Int) (len : Nat) (hl : ¬ len ≤ 1) (hu : P.underlying t = some (.array len e)) (hi : P.info? e = some ie) (h0 : 0 ≤ i) (h1 : i < len) (w : World) :
    (Instr.indexAt t (.pointer (some p)) (.int k i)).run P w = .ok (.pointer (some (p.add (i.toNat * ie.size)))) w := by
  have h2 : ¬ len ≤ 1 := hl
  simp [Instr.indexAt, asIntOf, Instr.sureAddr, run_und hu, run_size hi, h0, h1]
theorem run_indexAt_slice {t e : TypeId} {ie : TypeInfo} (p : Addr) (k : IntKind) (i : Int) (len cap : Nat) (hu : P.underlying t = some (.slice e)) (hi : P.info? e = some ie) (h0 : 0 ≤ i) (h1 : i < len) (w : World) :
    (Instr.indexAt t (.slice (some p) len cap) (.int k i)).run P w = .ok (.pointer (some (p.add (i.toNat * ie.size)))) w := by
  simp [Instr.indexAt, asIntOf, Instr.sureAddr, run_und hu, run_size hi, h0, h1]

theorem some_of_isSome {α : Type} {p : Option α} (h : p.isSome = true) : ∃ a, p = some a := Option.isSome_iff_exists.1 h

theorem sbound_ok (hρ : ∀ x v, ρ x = some v → ev x = v) {d : Nat} {x : Operand} {n : Int} (h : sbound ρ d (some x) = some n) : ∃ k, ev x = .int k n := by
  simp only [sbound] at h
  split at h
  · rename_i k m hx
    cases h; exact ⟨k, hρ _ _ hx⟩
  · cases h

theorem run_sliceBound (k : IntKind) (n : Int) (y : Nat) (c : BoundsCode) (h0 : 0 ≤ n) (h1 : n ≤ y) (w : World) : (Instr.sliceBound (.int k n) y c).run P w = .ok n.toNat w := by
  simp [Instr.sliceBound, asIntOf, h0, h1]

theorem run_sliceBounds (hρ : ∀ x v, ρ x = some v → ev x = v) {isS : Bool} {len cap : Nat} {lo hi mx : Option Operand} {l h m : Int}
    (hl : sbound ρ 0 lo = some l) (hh : sbound ρ len hi = some h) (hm : sbound ρ cap mx = some m) (hx : ¬ (hi.isNone = true ∧ mx.isSome = true))
    (h0 : 0 ≤ l) (h1 : l ≤ h) (h2 : h ≤ m) (h3 : m ≤ cap) (w : World) :
    (Instr.sliceBounds isS len cap (lo.map ev) (hi.map ev) (mx.map ev)).run P w = .ok (l.toNat, h.toNat, m.toNat) w := by
  unfold Instr.sliceBounds
  have a1 : h ≤ ((m.toNat : Nat) : Int) := by omega
  have a2 : l ≤ ((h.toNat : Nat) : Int) := by omega
  have a3 : 0 ≤ h := by omega
  have a4 : 0 ≤ m := by omega
  cases mx with
  | none =>
    simp only [sbound, Option.some.injEq] at hm
    subst hm
    have a5 : h ≤ (cap : Int) := h2
    cases hi with
    | none =>
      simp only [sbound, Option.some.injEq] at hh
      subst hh
      cases lo with
      | none => simp only [sbound, Option.some.injEq] at hl; subst hl; simp
      | some x => obtain ⟨k, hk⟩ := sbound_ok hρ hl; simp [hk, run_sliceBound k l len _ h0 h1]
    | some y =>
      obtain ⟨k2, hk2⟩ := sbound_ok hρ hh
      cases lo with
      | none => simp only [sbound, Option.some.injEq] at hl; subst hl; cases isS <;> simp [hk2, run_sliceBound k2 h cap _ a3 a5]
      | some x => obtain ⟨k, hk⟩ := sbound_ok hρ hl; cases isS <;> simp [hk, hk2, run_sliceBound k2 h cap _ a3 a5, run_sliceBound k l h.toNat _ h0 a2]
  | some z =>
    obtain ⟨k3, hk3⟩ := sbound_ok hρ hm
    cases hi with
    | none => simp at hx
    | some y =>
      obtain ⟨k2, hk2⟩ := sbound_ok hρ hh
      cases lo with
      | none => simp only [sbound, Option.some.injEq] at hl; subst hl; cases isS <;> simp [hk2, hk3, run_sliceBound k3 m cap _ a4 h3, run_sliceBound k2 h m.toNat _ a3 a1]
      | some x => obtain ⟨k, hk⟩ := sbound_ok hρ hl; cases isS <;> simp [hk, hk2, hk3, run_sliceBound k3 m cap _ a4 h3, run_sliceBound k2 h m.toNat _ a3 a1, run_sliceBound k l h.toNat _ h0 a2]

theorem byte_get {s : ByteArray} {i : Int} (h0 : 0 ≤ i) (h1 : i < s.size) : s[i.toNat]? = some (s.data[i.toNat]?.getD 0) := by
  have hlt : i.toNat < s.size := by omega
  have : s[i.toNat]? = some s[i.toNat] := by simp [getElem?_pos, hlt]
  rw [this]
  have hlt' : i.toNat < s.data.size := hlt
  rw [Array.getElem?_eq_getElem hlt']
  rfl

theorem run_places : ∀ (l : List Field), (l.all fun f => (P.info? f.type).isSome) = true → ∀ w : World,
    (l.mapM (m := Sem) fun f => do pure (f.offset, ← sizeOf f.type)).run P w = .ok (l.map fun f => (f.offset, P.cellsOf f.type)) w
  | [], _, w => by simp
  | f :: l, h, w => by
    simp only [List.all_cons, Bool.and_eq_true] at h
    obtain ⟨i, hi⟩ := some_of_isSome h.1
    have hs : P.cellsOf f.type = i.size := by simp [Program.cellsOf, hi]
    have ih := run_places l h.2 w
    simp only [List.mapM_cons, Sem.run_bind, run_size hi, Result.andThen_ok, Sem.run_pure, ih, List.map_cons, hs]

theorem build_ok {t : TypeId} {parts : Array (Nat × Value)} {ps : List (Nat × Value)} {cs : Array Value} (e : parts.toList = ps) (h : fillsV P t ps = some cs) (w : World) :
    (Instr.build t parts).run P w = .ok (.agg cs) w := by
  unfold fillsV at h
  split at h
  · rename_i i hi
    split at h
    · rename_i z hz
      unfold Instr.build zeroValue
      simp only [Sem.run_bind, run_info hi, Result.andThen_ok, hz, Sem.run_pure]
      split at h
      · rename_i fs hu
        split at h
        · rename_i hall
          have hpl := run_places (P := P) fs.toList (by simpa using hall) w
          have hpl' : (fs.mapM (m := Sem) fun f => do pure (f.offset, ← sizeOf f.type)).run P w = .ok (fs.map fun f => (f.offset, P.cellsOf f.type)) w := by
            rw [Array.mapM_eq_mapM_toList, Sem.run_map, hpl]
            obtain ⟨fl⟩ := fs
            simp
          have h' : Instr.fill ((fs.map fun f => (f.offset, P.cellsOf f.type))[·]?) z.cells ps = some cs := by
            rw [← fillA_ok h]; congr 1; funext k; simp
          simp only [run_und hu, Result.andThen_ok, Sem.run_bind, hpl', e, h']
          rfl
        · cases h
      · rename_i n el hu
        split at h
        · rename_i ie hie
          simp only [run_und hu, Result.andThen_ok, Sem.run_bind, run_size hie, e, fillA_ok h]
          rfl
        · cases h
      · cases h
    · cases h
  · cases h

theorem pop_ok {o : Oper} {pr : PR} (hρ : ∀ x v, ρ x = some v → ev x = v) (hc : ∀ v, ev (.const v) = v) (h : pop P ρ o = some pr) (hob : ∀ p, pr.ob = some p → p) (w : World) :
    (execOp ev o).run P w = .ok (.value pr.v) w := by
  obtain ⟨dst, op, type, pos, after, guard⟩ := o
  unfold pop at h
  cases op <;> simp only at h <;> (try (cases h; done)) <;> unfold execOp <;> simp only
  case move x =>
    split at h
    · rename_i v hv; cases h; simp [hρ _ _ hv]
    · cases h
  case assign x =>
    split at h
    · rename_i v hv; cases h; simp [hρ _ _ hv]
    · cases h
  case build t parts =>
    split at h
    · rename_i ps hps
      split at h
      · rename_i cs hcs
        cases h
        have e := pairs_ok hρ hps
        have e' : (parts.map fun (i, x) => (i, ev x)).toList = ps := by rw [← e]; simp
        simp [build_ok e' hcs]
      · cases h
    · cases h
  case nilCheck x =>
    split at h
    · rename_i p hv
      cases h
      obtain ⟨a, rfl⟩ := some_of_isSome (hob _ rfl)
      simp [hρ _ _ hv]
    · rename_i f fs cs hv
      cases h
      simp [hρ _ _ hv]
    · cases h
  case binOp op t x y yt =>
    split at h
    · rename_i a b ha hb
      have hb' := binV_ok (P := P) (fun v hv => by rw [← hρ _ _ hb, hv, hc]) (fun v hv => by rw [← hρ _ _ ha, hv, hc]) h hob w
      simp only [hρ _ _ ha, hρ _ _ hb]
      rw [Sem.run_bind, hb']
      rfl
    · cases h
  case unOp op t x =>
    split at h
    · rename_i a ha
      simp only [hρ _ _ ha]
      unfold unV at h
      split at h <;> (try cases h) <;> simp [Op.unary, Op.intArith, Op.intBits, subI, notI]
    · cases h
  case convert s d x =>
    split at h
    · rename_i a ha
      simp only [hρ _ _ ha]
      unfold convV at h
      split at h
      · rename_i ds k k' n h1 h2
        cases h
        cases ds <;> simp [convert, run_und h1, run_und h2, Conv.intToInt, convI]
      · rename_i h2 h3
        cases h
        simp [convert, run_und h2, run_und h3]
      · cases h
    · cases h
  case makeFunc fn first captured =>
    split at h
    · rename_i a b ha hb
      cases h
      have e1 := maps_ok hρ ha
      have e2 := maps_ok hρ hb
      have e1' : first.map ev = ⟨a⟩ := by rw [← e1]; cases first; simp
      have e2' : captured.map ev = ⟨b⟩ := by rw [← e2]; cases captured; simp
      simp [Instr.makeFunc, e1', e2']
    · cases h
  case slice t x lo hi mx =>
    split at h
    · rename_i e p len cap hu hx
      split at h
      · rename_i ie l hh m hi' hl hhh hm
        split at h
        · cases h
        · rename_i hno
          cases h
          obtain ⟨h0, h1, h2, h3⟩ := hob _ rfl
          have hno' : ¬ (hi.isNone = true ∧ mx.isSome = true) := by simpa using hno
          have hb := run_sliceBounds (P := P) (isS := true) hρ hl hhh hm hno' h0 h1 h2 h3 w
          simp only [hρ _ _ hx]
          simp [Instr.sliceAt, run_und hu, Instr.slice, hb, run_size hi', addP]
      · cases h
    · rename_i s hu hx
      split at h
      · rename_i l hh hl hhh
        split at h
        · cases h
        · rename_i hno
          cases h
          obtain ⟨h0, h1, h2⟩ := hob _ rfl
          have hmx : mx = none := by cases mx <;> simp_all
          subst hmx
          have hb := run_sliceBounds (P := P) (isS := false) (cap := s.size) (mx := none) hρ hl hhh rfl (by simp) h0 h1 h2 (by simp) w
          simp only [Option.map_none] at hb
          simp only [hρ _ _ hx]
          simp [Instr.sliceAt, run_und hu, Instr.slice, hb]
      · cases h
    · cases h
  case fieldAddr s x f =>
    split at h
    · rename_i p fd hx hf
      split at h
      · rename_i i hi
        split at h
        · cases h
        · rename_i hz
          cases h
          obtain ⟨a, rfl⟩ := some_of_isSome (hob _ rfl)
          obtain ⟨fs, hu, hfd⟩ := fieldOf_und hf
          simp [Instr.fieldAt, run_und hu, hfd, hρ _ _ hx, Instr.sureAddr, fieldPlace, run_size hi, hz, addP]
      · cases h
    · cases h
  case field t x f =>
    split at h
    · rename_i cs fd hx hf
      split at h
      · rename_i v hv
        cases h
        obtain ⟨fs, hu, hfd⟩ := fieldOf_und hf
        simp [Instr.field, run_und hu, hfd, hρ _ _ hx, asAgg, run_partV hv]
      · cases h
    · cases h
  case indexAddr t x ix =>
    split at h
    · rename_i len e p k i hu hx hix
      split at h
      · rename_i ie hi
        split at h
        · cases h
        · rename_i hl
          cases h
          obtain ⟨hp, h0, h1⟩ := hob _ rfl
          obtain ⟨a, rfl⟩ := some_of_isSome hp
          simp [hρ _ _ hx, hρ _ _ hix, run_indexAt a k i len hl hu hi h0 h1, addP]
      · cases h
    · rename_i e p len cap k i hu hx hix
      split at h
      · rename_i ie hi
        cases h
        obtain ⟨hp, h0, h1⟩ := hob _ rfl
        obtain ⟨a, rfl⟩ := some_of_isSome hp
        simp [hρ _ _ hx, hρ _ _ hix, run_indexAt_slice a k i len cap hu hi h0 h1, addP]
      · cases h
    · cases h
  case index t x ix =>
    split at h
    · rename_i len e cs k i hu hx hix
      split at h
      · rename_i ie hi
        split at h
        · rename_i k2 n
          have hn : (Value.int k2 n) = .int k i := by rw [← hρ _ _ hix, hc]
          cases hn
          split at h
          · rename_i hb
            split at h
            · rename_i v hv
              cases h
              simp [Instr.index, asIntOf, run_und hu, hρ _ _ hx, hc, hb.1, hb.2, run_size hi, run_partV hv]
            · cases h
          · cases h
        · split at h
          · rename_i k3 hu3
            split at h
            · rename_i ns hns
              split at h
              · rename_i hlen
                cases h
                obtain ⟨h0, h1⟩ := hob _ rfl
                have hlt : i.toNat < cs.length := by omega
                have hget := intsOf_get hns i.toNat hlt
                have hp : partV P e cs (i.toNat * ie.size) = some (.int k3 (selI ns i)) := by
                  rw [hlen.2, Nat.mul_one]
                  unfold partV
                  have : isAggV P e = some false := by unfold isAggV; simp [hu3]
                  simp [this, hget, selI]
                simp [Instr.index, asIntOf, run_und hu, hρ _ _ hx, hρ _ _ hix, h0, h1, run_size hi, run_partV hp]
              · cases h
            · cases h
          · cases h
      · cases h
    · rename_i s k i hu hx hix
      cases h
      obtain ⟨h0, h1⟩ := hob _ rfl
      have hg := byte_get h0 h1
      simp [Instr.index, asIntOf, run_und hu, hρ _ _ hx, hρ _ _ hix, h0, hg, byteI]
    · cases h
  case extract x i =>
    split at h
    · rename_i vs hx
      split at h
      · rename_i v hv
        cases h
        simp [hρ _ _ hx, Instr.extract, hv]
      · cases h
    · cases h
  case call c =>
    obtain ⟨callee, args, argTypes⟩ := c
    simp only at h
    split at h
    · -- len
      split at h
      · rename_i x t ha ht
        have ea : args = #[x] := by cases args; simp_all
        have et : argTypes = #[t] := by cases argTypes; simp_all
        subst ea et
        split at h <;> (try cases h)
        · rename_i hx hu
          simp [resolve, invoke, builtin, Builtin.len_, hρ _ _ hx, run_und hu, goInt]
        · rename_i hx hu
          simp [resolve, invoke, builtin, Builtin.len_, hρ _ _ hx, run_und hu, goInt]
        · rename_i hx hu
          simp [resolve, invoke, builtin, Builtin.len_, hρ _ _ hx, run_und hu, goInt]
      · cases h
    · -- min
      split at h
      · rename_i x y ha
        have ea : args = #[x, y] := by cases args; simp_all
        subst ea
        split at h <;> (try cases h)
        rename_i hx hy
        simp [resolve, invoke, builtin, Builtin.min_, Builtin.min2, hρ _ _ hx, hρ _ _ hy, minI]
      · cases h
    · split at h
      · rename_i x y ha
        have ea : args = #[x, y] := by cases args; simp_all
        subst ea
        split at h <;> (try cases h)
        rename_i hx hy
        simp [resolve, invoke, builtin, Builtin.max_, Builtin.max2, hρ _ _ hx, hρ _ _ hy, maxI]
      · cases h
    · cases h
end
end Go.RX

/-! A region's operations, evaluated: 'rxL' in the order of the text. -/
namespace Go.RX

/-- A temporary: its guards (operations of the region and what they must have yielded), the guards as one Bool, its value under them; the Bool that it is known to hold. -/
structure Ent where
  t : Nat
  ch : List (Nat × Bool)
  g : Option Bool
  v : Value
  k : Option Bool

def findT : List Ent → Nat → Option Ent
  | [], _ => none
  | e :: r, t => if e.t = t then some e else findT r t

/-- Contracts of functions that hand back a value that hangs on the arguments alone. -/
structure Entry (P : Program) where
  f : FuncId
  fn : List Value → Option (Prop × Value)
  ok : ∀ args pre v, fn args = some (pre, v) → pre → ∀ w, Calls P f ⟨args⟩ w (fun e w' => e = .returned v ∧ Ext w w')

structure Cfg (P : Program) where
  tab : List (Entry P)
  quiet : List FuncId
  sh : List (FuncId × Sh)
  mixed : P.follows .mixedOrders = true
  share : Bool := false
  cl : List (TypeId × Sc) := []
  dyn : Option Sh := none

/-- What a function hands back, as it is told or by its types. -/
def lookSh : List (FuncId × Sh) → FuncId → Option Sh
  | [], _ => none
  | (g, s) :: r, f => if g = f then some s else lookSh r f
def shF {P : Program} (C : Cfg P) (f : FuncId) : Sh :=
  match lookSh C.sh f with
  | some s => s
  | none => resSh P f

/-- What lies in a variable of a type: functions as closures of a known function, if that is told. -/
def lookCl : List (TypeId × Sc) → TypeId → Option Sc
  | [], _ => none
  | (g, s) :: r, t => if g = t then some s else lookCl r t
def elC {P : Program} (C : Cfg P) (t : TypeId) : Option El :=
  match elOf P t with
  | some (.one .func) => match lookCl C.cl t with
    | some s => some (.one s)
    | none => some (.one .func)
  | e => e
def findE {P : Program} : List (Entry P) → FuncId → Option (Entry P)
  | [], _ => none
  | e :: r, f => if e.f = f then some e else findE r f

def fullArgs (first : Array Value) (as : List Value) (cap : Array Value) : List Value := first.toList ++ (as ++ cap.toList)
def callable (P : Program) (fid : FuncId) : Bool :=
  match P.funcs[fid]? with
  | some fn => fn.body.isSome && !(fn.name == "runtime.NumGoroutine")
  | none => false

def QCalls (P : Program) (f : FuncId) (args : List Value) (w : World) (v : Value) : Prop :=
  ∀ w', Ext w w' → Calls P f ⟨args⟩ w' (fun e w'' => e = .returned v ∧ Ext w' w'')
def CallsR (P : Program) (f : FuncId) (s : Sh) (args : List Value) (w : World) (R : s.T → World → Prop) : Prop :=
  Calls P f ⟨args⟩ w (fun e w' => ∃ x : s.T, e = .returned (s.emb x) ∧ R x w')
theorem CallsR.mono {P : Program} {f : FuncId} {s : Sh} {args : List Value} {w : World} {R R' : s.T → World → Prop} (h : CallsR P f s args w R) (k : ∀ x w', R x w' → R' x w') : CallsR P f s args w R' :=
  Calls.mono h fun _ w' ⟨x, he, hr⟩ => ⟨x, he, k x w' hr⟩

/-- The evaluator stops here. -/
def Bad (_ : Nat) (_ : Op) : Prop := False

/-- What lies at a place: one cell, or a row of them. -/
def rdAt (w : World) (p : Option Addr) : (e : El) → e.T → Prop
  | .one s, x => ∃ a, p = some a ∧ w.cell? a = some (s.emb x)
  | .agg l, x => ∃ a, p = some a ∧ ∀ i, i < l.length → w.cell? (a.add i) = (scsEmb l x)[i]?

def badSize : El → Nat → Bool
  | .one _, _ => false
  | .agg l, n => l.length != n

/-- So many cells from a place on. -/
def rdN (w : World) (p : Option Addr) (n : Nat) (vs : List Value) : Prop :=
  match p with
  | none => vs = []
  | some a => vs.length = n ∧ ∀ i, i < n → w.cell? (a.add i) = vs[i]?

/-- A row of cells may be written. -/
def stAt (w : World) (p : Option Addr) (n : Nat) : Prop :=
  ∃ a, p = some a ∧ ∀ i, i < n → (w.cell? (a.add i)).isSome = true ∧ w.frozen? (a.add i) = false
def putAt (w : World) (a : Addr) : List Value → Nat → World
  | [], _ => w
  | v :: r, i => putAt (w.setCell (a.add i) v) a r (i + 1)
def putP (w : World) (p : Option Addr) (vs : List Value) : World :=
  match p with
  | some a => putAt w a vs 0
  | none => w

/-- An append: within the room, or into a new row of whatever room. -/
def apR (w : World) (e : TypeId) (size bytes : Nat) (z : Array Value) (s x : Option Addr × Nat × Nat) (R : Option Addr × Nat × Nat → World → Prop) : Prop :=
  ∃ old new, rdN w s.1 (s.2.1 * size) old ∧ rdN w x.1 (x.2.1 * size) new ∧
    (s.2.1 + x.2.1 ≤ s.2.2 → (new = [] ∨ (stAt w (s.1.map (·.add (s.2.1 * size))) new.length ∧ new.all (·.oneCell') = true)) ∧
      R (s.1, s.2.1 + x.2.1, s.2.2) (putP w (s.1.map (·.add (s.2.1 * size))) new)) ∧
    (s.2.2 < s.2.1 + x.2.1 → Builtin.nextslicecap (s.2.1 + x.2.1) s.2.2 * bytes ≤ 2 ^ 48 ∧
      ∀ c, s.2.1 + x.2.1 ≤ c → R (some ⟨w.heap.size, 0, none⟩, s.2.1 + x.2.1, c) (w.drew.alloc (.cells (⟨old⟩ ++ ⟨new⟩ ++ Builtin.zeroCells z (c - (s.2.1 + x.2.1))) e)))

/-- A copy: as many as both have. -/
def cpR (w : World) (size : Nat) (d x : Option Addr × Nat) (R : Int → World → Prop) : Prop :=
  ∃ new, rdN w x.1 (Nat.min x.2 d.2 * size) new ∧ (d.1 = none ∨ new = [] ∨ (stAt w d.1 new.length ∧ new.all (·.oneCell') = true)) ∧ R (Nat.min x.2 d.2 : Nat) (putP w d.1 new)

/-- A call of yield, of the loop that block l is the record of. -/
def YieldC (P : Program) (l : Nat) (args : List Value) (w : World) (R : Bool → World → Prop) : Prop :=
  ∃ rec, w.heap[l]? = some (.loop rec) ∧ args.length = rec.params.size ∧
    RoundIn Fence.wide 0 P l rec.fn ((rec.params.zip ⟨args⟩).foldl (fun tmps (t, a) => tmps.setIfInBounds t a) rec.tmps) rec.assign rec.body w
      (fun e w' => ∃ b, e = .returned (.bool b) ∧ R b w')

def impG (g : Option Bool) (p : Prop) : Prop :=
  match g with
  | none => p
  | some b => b = true → p

/-! What is asked of the world, by its names. -/
@[reducible] def LdP (w : World) (g : Option Bool) (p : Option Addr) (el : El) (K : el.T → Prop) : Prop := ∃ x : el.T, impG g (rdAt w p el x) ∧ K x
@[reducible] def StP (w : World) (p : Option Addr) (vs : List Value) (K : World → Prop) : Prop := ∀ w1, Ext w w1 → (vs.all (·.oneCell') = true ∧ stAt w1 p vs.length) ∧ K (putP w1 p vs)
@[reducible] def AlP (w : World) (cs : Array Value) (e : TypeId) (K : Nat → World → Prop) : Prop := ∀ w1, Ext w w1 → K w1.heap.size (w1.alloc (.cells cs e))
def CaP (P : Program) (f : FuncId) (s : Sh) (args : List Value) (w : World) (K : s.T → World → Prop) : Prop := ∀ w1, Ext w w1 → CallsR P f s args w1 K
/-- What 'make' asks of its sizes. -/
def mkOk (bytes : Nat) (n m : Int) : Prop := 0 ≤ n ∧ n ≤ m ∧ m < 2 ^ 63 ∧ bytes * m ≤ 2 ^ 48
def mkCells (z : Array Value) (n : Nat) : Array Value := (Array.range n).map ((if n = 0 then #[] else z)[· % (if n = 0 then #[] else z).size]!)
/-- A call of a function that a value leads to. -/
def CaV (P : Program) (v : Value) (s : Sh) (as : List Value) (w : World) (K : s.T → World → Prop) : Prop :=
  ∀ w1, Ext w w1 → ∃ fid first cap, v = .func (.func fid) first cap ∧ callable P fid = true ∧ CallsR P fid s (fullArgs first as cap) w1 K
def MkP (w : World) (bytes size : Nat) (n m : Int) (z : Array Value) (e : TypeId) (K : Nat → World → Prop) : Prop := ∀ w1, Ext w w1 → mkOk bytes n m ∧ K w1.heap.size (w1.alloc (.cells (mkCells z (m.toNat * size)) e))
@[reducible] def EnP (w : World) (K : World → Prop) : Prop := ∀ w1, Ext w w1 → K w1

def subG (a b : List (Nat × Bool)) : Bool := a.all fun x => b.contains x

def evE (env : List Ent) (ch : List (Nat × Bool)) : Operand → Option Value
  | .tmp t => match findT env t with
    | some ⟨_, c, _, v, _⟩ => if subG c ch then some v else none
    | none => none
  | .const v => some v
  | .global g => some (.pointer (some ⟨g, 0, none⟩))
  | .func f => some (.func (.func f) #[] #[])

def dstOf (ops : Array Oper) (j : Nat) : Option Nat := (ops[j]?).bind (·.dst)

def lit : Bool → Bool → Bool
  | true, x => x
  | false, x => !x
def andG (b : Bool) : Option Bool → Option Bool
  | none => some b
  | some g => some (g && b)

/-- An operation's guards; 'some none': it is known not to be carried out. -/
def gd (ops : Array Oper) (env : List Ent) (o : Oper) : Option (Option (List (Nat × Bool) × Option Bool)) :=
  match o.guard with
  | none => some (some ([], none))
  | some (j, b) => match dstOf ops j with
    | some d => match findT env d with
      | some e => match e.k with
        | some b' => if b' = b then some (some ([], none)) else some none
        | none => match e.v with
          | .bool x => some (some ((j, b) :: e.ch, andG (lit b x) e.g))
          | _ => none
      | none => none
    | none => none

/-- It becomes known what operation j has yielded. -/
def settle (j : Nat) (b : Bool) (e : Ent) : Ent :=
  if e.ch.contains (j, !b) then ⟨e.t, [], none, undef, none⟩
  else if e.ch.contains (j, b) then
    match e.ch.filter (fun x => x != (j, b)) with
    | [] => ⟨e.t, [], none, e.v, none⟩
    | c :: r => ⟨e.t, c :: r, e.g, e.v, none⟩
  else e

/-- May 'd' be written: no guard hangs on it. -/
def okPut (ops : Array Oper) (N : Nat) (env : List Ent) (ch : List (Nat × Bool)) : Option Nat → Bool
  | none => true
  | some d => decide (d < N) && ch.all (fun x => dstOf ops x.1 != some d) && env.all fun e => e.ch.all fun x => dstOf ops x.1 != some d

def putE (env : List Ent) (d : Option Nat) (ch : List (Nat × Bool)) (g : Option Bool) (v : Value) : List Ent :=
  match d with
  | some d => ⟨d, ch, g, v, none⟩ :: env
  | none => env

/-- The same, in front of what comes. -/
def putK (env : List Ent) (d : Option Nat) (ch : List (Nat × Bool)) (g : Option Bool) (v : Value) (K : List Ent → Prop) : Prop :=
  match d with
  | some d => K (⟨d, ch, g, v, none⟩ :: env)
  | none => K env
theorem putK_eq {env : List Ent} {d : Option Nat} {ch : List (Nat × Bool)} {g : Option Bool} {v : Value} {K : List Ent → Prop} : putK env d ch g v K = K (putE env d ch g v) := by cases d <;> rfl

/-- The list, laid out. -/
def forceL : List Ent → (List Ent → Prop) → Prop
  | [], K => K []
  | ⟨t, ch, g, v, k⟩ :: r, K => forceL r (fun r => K (⟨t, ch, g, v, k⟩ :: r))
theorem forceL_eq : ∀ {l : List Ent} {K : List Ent → Prop}, forceL l K = K l
  | [], _ => rfl
  | ⟨_, _, _, _, _⟩ :: r, K => by simp only [forceL]; exact forceL_eq


def findDst (ops : Array Oper) (t : Nat) : Option Nat := (List.range ops.size).find? fun j => dstOf ops j == some t

/-- A map lies there. -/
def MapO (w : World) (r : Nat) (es : Array MapEntry) (clock : Nat) : Prop := w.heap[r]? = some (.map es clock)
/-- What a key leads to. -/
def lookO (w : World) (p : Option Nat) (k : IntKind) (n : Int) (z v : Value) : Prop :=
  ∃ r es clock, p = some r ∧ MapO w r es clock ∧ match Instr.findNow (.int k) (.int k n) es.toList 0 with
    | some none => v = z
    | some (some (_, u)) => v = u
    | none => False
/-- The same, and whether there is one. -/
def lookO2 (w : World) (p : Option Nat) (k : IntKind) (n : Int) (z v : Value) (b : Bool) : Prop :=
  ∃ r es clock, p = some r ∧ MapO w r es clock ∧ match Instr.findNow (.int k) (.int k n) es.toList 0 with
    | some none => v = z ∧ b = false
    | some (some (_, u)) => v = u ∧ b = true
    | none => False
/-- A key's value is laid. -/
def mUp (w : World) (r : Nat) (k : IntKind) (n : Int) (val : Value) (es : Array MapEntry) (clock : Nat) (K : World → Prop) : Prop :=
  match Instr.findNow (.int k) (.int k n) es.toList 0 with
  | some none => K (w.putObj r (.map (es.push { key := .int k n, val, born := clock }) (clock + 1)))
  | some (some (i, _)) => K (w.putObj r (.map (es.modify i fun e => { e with key := .int k n, val }) clock))
  | none => False

/-- A quiet operation. -/
def qop {P : Program} (C : Cfg P) (ops : Array Oper) (env : List Ent) (ch : List (Nat × Bool)) (g : Option Bool) (o : Oper) (w : World) (K : Value → Prop) : Prop :=
  let ρ := evE env ch
  match o.op with
  | .load t x => match ρ x, elC C t, P.info? t with
    | some (.pointer p), some el, some i => if badSize el i.size = true then Bad 1 o.op else LdP w g p el (fun x => K (el.emb x))
    | _, _, _ => Bad 2 o.op
  | .lookup xt m ix ok => match ok, P.underlying xt, ρ m, ρ ix with
    | false, some (.map kt et), some (.map p), some (.int k n) => match P.underlying kt, elOf P et, P.info? et with
      | some (.int k'), some el, some i => match i.zero with
        | some z => if k = k' then ∃ x : el.T, impG g (lookO w p k n z (el.emb x)) ∧ K (el.emb x) else Bad 51 o.op
        | none => Bad 52 o.op
      | _, _, _ => Bad 53 o.op
    | true, some (.map kt et), some (.map p), some (.int k n) => match P.underlying kt, elOf P et, P.info? et with
      | some (.int k'), some el, some i => match i.zero with
        | some z => if k = k' then ∃ x : el.T, ∃ b : Bool, impG g (lookO2 w p k n z (el.emb x) b) ∧ K (.tuple ⟨[el.emb x, .bool b]⟩) else Bad 51 o.op
        | none => Bad 52 o.op
      | _, _, _ => Bad 53 o.op
    | _, _, _, _ => Bad 54 o.op
  | .pick c x y => match c with
    | .tmp t => match findT env t with
      | some ec => match ec.k with
        | some true => match ρ x with
          | some v => K v
          | none => Bad 31 o.op
        | some false => match ρ y with
          | some v => K v
          | none => Bad 32 o.op
        | none => match findDst ops t with
          | some j => match ρ c, evE env ((j, true) :: ch) x, evE env ((j, false) :: ch) y with
            | some (.bool b), some (.bool u), some (.bool v) => match x, y with
              | _, .const (.bool false) => K (.bool (b && u))
              | .const (.bool true), _ => K (.bool (b || v))
              | _, _ => K (.bool (bif b then u else v))
            | _, _, _ => Bad 3 o.op
          | none => Bad 4 o.op
      | none => Bad 33 o.op
    | _ => Bad 5 o.op
  | .call c => match c.callee with
    | .value f => match ρ f, maps ρ c.args.toList with
      | some (.func (.func fid) first cap), some as =>
        if callable P fid = true then
          match findE C.tab fid with
          | some e => match e.fn (fullArgs first as cap) with
            | some (pre, v) => impG g pre ∧ K v
            | none => Bad 6 o.op
          | none => ∃ x : (shF C fid).T, impG g (QCalls P fid (fullArgs first as cap) w ((shF C fid).emb x)) ∧ K ((shF C fid).emb x)
        else Bad 7 o.op
      | _, _ => Bad 8 o.op
    | _ => match pop P ρ o with
      | some ⟨none, v⟩ => K v
      | some ⟨some p, v⟩ => impG g p ∧ K v
      | none => Bad 9 o.op
  | _ => match pop P ρ o with
    | some ⟨none, v⟩ => K v
    | some ⟨some p, v⟩ => impG g p ∧ K v
    | none => Bad 10 o.op

/-- A type's zero cells, by their name. -/
def zcOf (P : Program) (e : TypeId) : Array Value := match P.info? e with
  | some i => match i.zero with
    | some z => z.cells
    | none => #[]
  | none => #[]
def cellsL (v : Value) : List Value := v.cells.toList
def oneCells (vs : List Value) : Bool := vs.all (·.oneCell')

/-- An operation that changes the world. -/
def eop {P : Program} (C : Cfg P) (ρ : Operand → Option Value) (o : Oper) (w : World) (K : Value → World → Prop) : Prop :=
  match o.op with
  | .store t x y => match ρ x, ρ y, P.info? t with
    | some (.pointer p), some v, some i => if (cellsL v).length = i.size then
        StP w p (cellsL v) (fun w2 => K undef w2)
      else Bad 11 o.op
    | _, _, _ => Bad 12 o.op
  | .alloc e => match P.info? e with
    | some i => match i.zero with
      | some z => match Nat.blt 64 i.size with
        | true => AlP w (zcOf P e) e (fun b w2 => K (.pointer (some ⟨b, 0, none⟩)) w2)
        | false => AlP w z.cells e (fun b w2 => K (.pointer (some ⟨b, 0, none⟩)) w2)
      | none => Bad 13 o.op
    | none => Bad 14 o.op
  | .box e x => match ρ x with
    | some v => AlP w v.cells e (fun b w2 => K (.pointer (some ⟨b, 0, none⟩)) w2)
    | none => Bad 15 o.op
  | .buildSlice t len parts => match P.underlying t, pairs ρ parts.toList with
    | some (.slice e), some ps => match P.info? e with
      | some i => match i.zero with
        | some z => match fillA (fun k => some (k * i.size, i.size)) ⟨(List.range (len * i.size)).map (z.cells.toList[· % z.cells.toList.length]!)⟩ ps with
          | some cs => if len * i.size ≤ 2 ^ 24 then AlP w cs e (fun b w2 => K (.slice (some ⟨b, 0, none⟩) len len) w2) else Bad 101 o.op
          | none => Bad 102 o.op
        | none => Bad 103 o.op
      | none => Bad 104 o.op
    | _, _ => Bad 105 o.op
  | .makeSlice t l c => match P.underlying t, ρ l, ρ c with
    | some (.slice e), some (.int _ n), some (.int _ m) => match P.info? e with
      | some i => match i.zero with
        | some z => MkP w i.bytes i.size n m z.cells e (fun b w2 => K (.slice (some ⟨b, 0, none⟩) n.toNat m.toNat) w2)
        | none => Bad 106 o.op
      | none => Bad 107 o.op
    | _, _, _ => Bad 108 o.op
  | .mapUpdate t m x v => match P.underlying t, ρ m, ρ x, ρ v with
    | some (.map kt _), some (.map p), some (.int k n), some val => match P.underlying kt with
      | some (.int k') => if k = k' then ∀ w1, Ext w w1 → ∃ r es clock, p = some r ∧ MapO w1 r es clock ∧ mUp w1 r k n val es clock (fun w2 => K undef w2) else Bad 55 o.op
      | _ => Bad 56 o.op
    | _, _, _, _ => Bad 57 o.op
  | .insert t m x v => match P.underlying t, ρ m, ρ x, ρ v with
    | some (.map kt _), some (.map p), some (.int k n), some val => match P.underlying kt with
      | some (.int k') => if k = k' then ∀ w1, Ext w w1 → ∃ r es clock, p = some r ∧ MapO w1 r es clock ∧ mUp w1 r k n val es clock (fun w2 => K undef w2) else Bad 55 o.op
      | _ => Bad 56 o.op
    | _, _, _, _ => Bad 57 o.op
  | .makeMap _ r => match r with
    | none => ∀ w1, Ext w w1 → K (.map (some w1.heap.size)) (w1.alloc (.map #[] 0))
    | some _ => Bad 109 o.op
  | .call c => match c.callee with
    | .builtin .append => match c.args.toList, c.argTypes.toList with
      | [s, x], [t, u] => match P.underlying t, P.underlying u, ρ s, ρ x with
        | some (.slice e), some (.slice _), some (.slice p n m), some (.slice q k l) => match P.info? e with
          | some i => match i.zero with
            | some z => if i.bytes = 0 then Bad 110 o.op else ∀ w1, Ext w w1 → apR w1 e i.size i.bytes z.cells (p, n, m) (q, k, l) (fun r w2 => K (.slice r.1 r.2.1 r.2.2) w2)
            | none => Bad 111 o.op
          | none => Bad 112 o.op
        | _, _, _, _ => Bad 113 o.op
      | _, _ => Bad 114 o.op
    | .builtin .copy => match c.args.toList, c.argTypes.toList with
      | [s, x], [t, _] => match P.underlying t, ρ s, ρ x with
        | some (.slice e), some (.slice p n _), some (.slice q k _) => match P.info? e with
          | some i => ∀ w1, Ext w w1 → cpR w1 i.size (p, n) (q, k) (fun r w2 => K (.int .i64 r) w2)
          | none => Bad 115 o.op
        | _, _, _ => Bad 116 o.op
      | _, _ => Bad 117 o.op
    | .value f => match C.dyn, f with
     | some s, .tmp t => match ρ (.tmp t), maps ρ c.args.toList with
      | some v, some as => CaV P v s as w (fun x w2 => K (s.emb x) w2)
      | _, _ => Bad 70 o.op
     | _, _ => match ρ f, maps ρ c.args.toList with
      | some (.func (.yield l) first _), some as => ∀ w1, Ext w w1 → YieldC P l (first.toList ++ as) w1 (fun b w2 => K (.bool b) w2)
      | some (.func (.func fid) first cap), some as =>
        if callable P fid = true then
          CaP P fid (shF C fid) (fullArgs first as cap) w (fun x w2 => K ((shF C fid).emb x) w2)
        else Bad 16 o.op
      | _, _ => Bad 17 o.op
    | _ => Bad 18 o.op
  | _ => Bad 19 o.op

/-- Two ways. -/
def brP (b : Bool) (x y : Prop) : Prop := match b with
  | true => x
  | false => y
theorem brP_intro {b : Bool} {x y : Prop} (hx : b = true → x) (hy : b = false → y) : brP b x y := by
  cases b
  · exact hy rfl
  · exact hx rfl
theorem brP_true {b : Bool} {x y : Prop} (h : brP b x y) (e : b = true) : x := by subst e; exact h
theorem brP_false {b : Bool} {x y : Prop} (h : brP b x y) (e : b = false) : y := by subst e; exact h

/-- Does it change the world? -/
def isEff {P : Program} (C : Cfg P) (ρ : Operand → Option Value) (o : Oper) : Bool :=
  match o.op with
  | .store .. | .alloc _ | .box .. | .buildSlice .. | .makeSlice .. | .makeMap .. | .mapUpdate .. | .insert .. => true
  | .call c => match c.callee with
    | .value f => match C.dyn, f with
     | some _, .tmp _ => true
     | _, _ => match ρ f with
      | some (.func (.func fid) _ _) => !((findE C.tab fid).isSome || C.quiet.contains fid)
      | _ => true
    | .builtin .append => true
    | .builtin .copy => true
    | _ => false
  | _ => false

/-- What is reckoned gets a name, if that is asked for. -/
def shared : Op → Bool
  | .binOp .. => true
  | .convert .. => true
  | .call _ => true
  | _ => false
def shareK {P : Program} (C : Cfg P) (o : Oper) (v : Value) (K : Value → Prop) : Prop :=
  match C.share && shared o.op, v with
  | true, .int k e => ∀ x, x = e → K (.int k x)
  | _, _ => K v
theorem shareK_imp {P : Program} {C : Cfg P} {o : Oper} {v : Value} {K : Value → Prop} (h : shareK C o v K) : K v := by
  unfold shareK at h
  split at h
  · exact h _ rfl
  · exact h

/-- One operation, under what is known of its guards; an effect under an open guard parts the ways. -/
def rxGo {P : Program} (C : Cfg P) (ops : Array Oper) (N : Nat) (o : Oper) : Nat → List Ent → World → (List Ent → World → Prop) → Prop
  | 0, _, _, _ => Bad 20 o.op
  | n + 1, env, w, K => match gd ops env o with
    | none => Bad 21 o.op
    | some none => if okPut ops N env [] o.dst then putK env o.dst [] none undef (fun env => K env w) else Bad 25 o.op
    | some (some (ch, g)) =>
      if okPut ops N env ch o.dst then
        if isEff C (evE env ch) o then
          match ch.getLast? with
          | none => eop C (evE env []) o w (fun v w2 => putK env o.dst [] none v (fun env => K env w2))
          | some (j, _) => match dstOf ops j with
            | some d => match findT env d with
              | some e => match e.v with
                | .bool x => if e.ch.isEmpty then
                    brP x (forceL (env.map (settle j true)) fun env => rxGo C ops N o n (⟨d, [], none, .bool true, some true⟩ :: env) w K)
                      (forceL (env.map (settle j false)) fun env => rxGo C ops N o n (⟨d, [], none, .bool false, some false⟩ :: env) w K)
                  else Bad 22 o.op
                | _ => Bad 26 o.op
              | none => Bad 27 o.op
            | none => Bad 28 o.op
        else qop C ops env ch g o w (fun v => shareK C o v (fun v => putK env o.dst ch g v (fun env => K env w)))
      else Bad 24 o.op

def rxOp {P : Program} (C : Cfg P) (ops : Array Oper) (N : Nat) (i : Nat) (env : List Ent) (w : World) (K : List Ent → World → Prop) : Prop :=
  match ops[i]? with
  | none => False
  | some ⟨dst, op, type, pos, after, guard⟩ => rxGo C ops N ⟨dst, op, type, pos, after, guard⟩ 40 env w K

def rxL {P : Program} (C : Cfg P) (ops : Array Oper) (N : Nat) : List Nat → List Ent → World → (List Ent → World → Prop) → Prop
  | [], env, w, K => K env w
  | i :: r, env, w, K => rxOp C ops N i env w (fun env w => rxL C ops N r env w K)

end Go.RX

namespace Go.RX

def chT (ops : Array Oper) (tmps : Array Value) (ch : List (Nat × Bool)) : Prop := ∀ x ∈ ch, yielded ops tmps x.1 = some x.2

def gOk (ops : Array Oper) (tmps : Array Value) (ch : List (Nat × Bool)) : Option Bool → Prop
  | none => ch = []
  | some γ => ch ≠ [] ∧ (γ = true ↔ chT ops tmps ch)

/-- The temporaries are as the list says; those that 'S' names are as it says. -/
structure Fit (S : Nat → Option (Option Value)) (ops : Array Oper) (N : Nat) (D : List Deferred) (env : List Ent) (a : Act) : Prop where
  off : ∀ t x, S t = some x → a.tmps[t]? = x
  size : a.tmps.size = N
  defs : a.defers = D
  yes : ∀ t e, findT env t = some e → chT ops a.tmps e.ch → a.tmps[t]? = some e.v
  no : ∀ t e, findT env t = some e → ¬ chT ops a.tmps e.ch → a.tmps[t]? = some undef
  gua : ∀ e ∈ env, gOk ops a.tmps e.ch e.g
  kno : ∀ e ∈ env, ∀ b, e.k = some b → e.v = .bool b ∧ e.ch = []

theorem find_mem : ∀ {env : List Ent} {t : Nat} {e : Ent}, findT env t = some e → e ∈ env
  | [], _, _, h => by simp [findT] at h
  | x :: r, t, e, h => by
    simp only [findT] at h
    split at h
    · cases h; exact List.mem_cons_self
    · exact List.mem_cons_of_mem _ (find_mem h)

theorem subG_ok {a b : List (Nat × Bool)} (h : subG a b = true) {ops : Array Oper} {tmps : Array Value} (hb : chT ops tmps b) : chT ops tmps a := fun x hx => by
  simp only [subG, List.all_eq_true] at h
  exact hb x (by simpa using h x hx)

variable {S : Nat → Option (Option Value)} {ops : Array Oper} {N : Nat} {D : List Deferred} {env : List Ent} {a : Act}

theorem Fit.ev (h : Fit S ops N D env a) {ch : List (Nat × Bool)} (hc : chT ops a.tmps ch) {x : Operand} {v : Value} (hx : evE env ch x = some v) : a.eval x = v := by
  cases x with
  | tmp t =>
    simp only [evE] at hx
    split at hx
    · rename_i t1 c1 g1 v1 k1 he
      split at hx
      · rename_i hs
        cases hx
        have := h.yes t _ he (subG_ok hs hc)
        simp [Act.eval, this]
      · cases hx
    · cases hx
  | const v => simp only [evE, Option.some.injEq] at hx; simp [Act.eval, hx]
  | global g => simp only [evE, Option.some.injEq] at hx; simp [Act.eval, hx]
  | func f => simp only [evE, Option.some.injEq] at hx; simp [Act.eval, hx]

theorem yielded_put {j : Nat} {d : Option Nat} {u : Value} (h : ∀ k, d = some k → dstOf ops j ≠ some k) : yielded ops (a.put d u).tmps j = yielded ops a.tmps j := by
  cases d with
  | none => rfl
  | some k =>
    have hk := h k rfl
    unfold yielded
    unfold dstOf at hk
    cases ht : (ops[j]?).bind (·.dst) with
    | none => rfl
    | some t =>
      have hne : k ≠ t := fun e => hk (by rw [ht, e])
      simp [Act.put, Array.getElem?_setIfInBounds_ne hne]

theorem chT_put {ch : List (Nat × Bool)} {d : Option Nat} {u : Value} (h : ∀ k, d = some k → ch.all (fun x => dstOf ops x.1 != some k) = true) : chT ops (a.put d u).tmps ch ↔ chT ops a.tmps ch := by
  have : ∀ x ∈ ch, yielded ops (a.put d u).tmps x.1 = yielded ops a.tmps x.1 := fun x hx => yielded_put fun k hk => by
    have := List.all_eq_true.1 (h k hk) x hx
    simpa using this
  constructor
  · intro hh x hx; rw [← this x hx]; exact hh x hx
  · intro hh x hx; rw [this x hx]; exact hh x hx

theorem Fit.put (h : Fit S ops N D env a) {ch : List (Nat × Bool)} {g : Option Bool} {d : Option Nat} {v u : Value} (hp : okPut ops N env ch d = true) (hS : ∀ k, d = some k → S k = none)
    (hg : gOk ops a.tmps ch g) (h1 : chT ops a.tmps ch → u = v) (h0 : ¬ chT ops a.tmps ch → u = undef) : Fit S ops N D (putE env d ch g v) (a.put d u) := by
  cases d with
  | none => exact h
  | some k =>
    simp only [okPut, Bool.and_eq_true, decide_eq_true_eq] at hp
    obtain ⟨⟨hk, hc⟩, he⟩ := hp
    have c0 : chT ops (a.put (some k) u).tmps ch ↔ chT ops a.tmps ch := chT_put fun k' hk' => by cases hk'; exact hc
    have c1 : ∀ e ∈ env, (chT ops (a.put (some k) u).tmps e.ch ↔ chT ops a.tmps e.ch) := fun e hm => chT_put fun k' hk' => by
      cases hk'; exact List.all_eq_true.1 he e hm
    have hlt : k < a.tmps.size := by rw [h.size]; exact hk
    refine ⟨fun t x hx => ?_, by simp [Act.put, h.size], h.defs, ?_, ?_, ?_, ?_⟩
    · have hne : k ≠ t := fun e => by subst e; rw [hS k rfl] at hx; cases hx
      simp [Act.put, Array.getElem?_setIfInBounds_ne hne, h.off t x hx]
    · intro t e hf hch
      simp only [putE, findT] at hf
      split at hf
      · rename_i htk
        cases hf
        subst htk
        simp [Act.put, hlt, h1 (c0.1 hch)]
      · rename_i htk
        have := h.yes t e hf ((c1 e (find_mem hf)).1 hch)
        simp [Act.put, Array.getElem?_setIfInBounds_ne htk, this]
    · intro t e hf hch
      simp only [putE, findT] at hf
      split at hf
      · rename_i htk
        cases hf
        subst htk
        simp [Act.put, hlt, h0 (fun hh => hch (c0.2 hh))]
      · rename_i htk
        have := h.no t e hf (fun hh => hch ((c1 e (find_mem hf)).2 hh))
        simp [Act.put, Array.getElem?_setIfInBounds_ne htk, this]
    · intro e hm
      have key : ∀ (ch : List (Nat × Bool)) (g : Option Bool), (chT ops (a.put (some k) u).tmps ch ↔ chT ops a.tmps ch) → gOk ops a.tmps ch g → gOk ops (a.put (some k) u).tmps ch g := by
        intro ch g hcc hgg
        cases g with
        | none => exact hgg
        | some γ => exact ⟨hgg.1, hgg.2.trans hcc.symm⟩
      simp only [putE, List.mem_cons] at hm
      rcases hm with rfl | hm
      · exact key _ _ c0 hg
      · exact key _ _ (c1 e hm) (h.gua e hm)
    · intro e hm b hb
      simp only [putE, List.mem_cons] at hm
      rcases hm with rfl | hm
      · cases hb
      · exact h.kno e hm b hb

def boolOf : Value → Option Bool
  | .bool b => some b
  | _ => none
theorem yielded_at {j d : Nat} (hd : dstOf ops j = some d) {v : Value} (hv : a.tmps[d]? = some v) : yielded ops a.tmps j = boolOf v := by
  unfold yielded
  unfold dstOf at hd
  simp only [hd, Option.bind_some, hv]
  cases v <;> rfl

theorem chT_nil : chT ops a.tmps [] := fun x hx => by cases hx

/-- The guards' truth. -/
theorem gd_ok (h : Fit S ops N D env a) {o : Oper} {ch : List (Nat × Bool)} {g : Option Bool} (hg : gd ops env o = some (some (ch, g))) :
    gOk ops a.tmps ch g ∧ (Region.wanted o (yielded ops a.tmps) = true ↔ chT ops a.tmps ch) := by
  unfold gd at hg
  unfold Region.wanted
  split at hg
  · rename_i ho
    cases hg
    exact ⟨rfl, by simp [chT, ho]⟩
  · rename_i j b ho
    split at hg
    · rename_i d hd
      split at hg
      · rename_i e he
        split at hg
        · rename_i b' hk
          obtain ⟨hv, hch⟩ := h.kno e (find_mem he) b' hk
          have hy := yielded_at (a := a) hd (h.yes d e he (by rw [hch]; exact chT_nil))
          rw [hv] at hy
          split at hg
          · rename_i hb
            cases hg
            refine ⟨rfl, ?_⟩
            simp [ho, hy, boolOf, hb, chT]
          · cases hg
        · split at hg
          · rename_i x hx
            cases hg
            have hw : (yielded ops a.tmps j = some b) ↔ chT ops a.tmps e.ch ∧ x = b := by
              by_cases hc : chT ops a.tmps e.ch
              · have h1 := h.yes d e he hc
                rw [yielded_at (a := a) hd h1, hx]
                simp [boolOf, hc]
              · have h1 := h.no d e he hc
                rw [yielded_at (a := a) hd h1]
                simp [undef, boolOf, hc]
            have hch : chT ops a.tmps ((j, b) :: e.ch) ↔ yielded ops a.tmps j = some b := by
              constructor
              · intro hh; exact hh (j, b) List.mem_cons_self
              · intro hh y hy'
                rcases List.mem_cons.1 hy' with rfl | hy'
                · exact hh
                · exact (hw.1 hh).1 y hy'
            refine ⟨?_, ?_⟩
            · have hge := h.gua e (find_mem he)
              cases hgg : e.g with
              | none =>
                rw [hgg] at hge
                have hnil : chT ops a.tmps e.ch := by rw [show e.ch = [] from hge]; intro y hy'; cases hy'
                refine ⟨by simp, ?_⟩
                show (_ = true ↔ _)
                rw [hch, hw]
                cases b <;> simp [hnil, lit]
              | some γ =>
                rw [hgg] at hge
                refine ⟨by simp, ?_⟩
                show (_ = true ↔ _)
                rw [hch, hw, ← hge.2]
                cases b <;> simp [lit]
            · rw [hch]
              simp [ho]
          · cases hg
      · cases hg
    · cases hg

/-- It is known not to be carried out. -/
theorem gd_dead (h : Fit S ops N D env a) {o : Oper} (hg : gd ops env o = some none) : Region.wanted o (yielded ops a.tmps) = false := by
  unfold gd at hg
  unfold Region.wanted
  split at hg
  · cases hg
  · rename_i j b ho
    split at hg
    · rename_i d hd
      split at hg
      · rename_i e he
        split at hg
        · rename_i b' hk
          obtain ⟨hv, hch⟩ := h.kno e (find_mem he) b' hk
          have hy := yielded_at (a := a) hd (h.yes d e he (by rw [hch]; exact chT_nil))
          rw [hv] at hy
          split at hg
          · cases hg
          · rename_i hb
            simp [ho, hy, boolOf, hb]
        · split at hg <;> cases hg
      · cases hg
    · cases hg

theorem findT_map {f : Ent → Ent} (hf : ∀ e, (f e).t = e.t) : ∀ {l : List Ent} {t : Nat} {e : Ent}, findT (l.map f) t = some e → ∃ e0, findT l t = some e0 ∧ e = f e0
  | [], _, _, h => by simp [findT] at h
  | x :: r, t, e, h => by
    simp only [List.map_cons, findT, hf] at h ⊢
    split at h
    · rename_i ht; cases h; exact ⟨x, by rw [if_pos ht], rfl⟩
    · rename_i ht; rw [if_neg ht]; exact findT_map hf h

theorem settle_t (j : Nat) (b : Bool) (e : Ent) : (settle j b e).t = e.t := by
  unfold settle
  split
  · rfl
  · split
    · split <;> rfl
    · rfl

theorem settle_ok {j : Nat} {b : Bool} (hy : yielded ops a.tmps j = some b) (e : Ent) (hg : gOk ops a.tmps e.ch e.g) :
    gOk ops a.tmps (settle j b e).ch (settle j b e).g ∧ (chT ops a.tmps e.ch → chT ops a.tmps (settle j b e).ch ∧ (settle j b e).v = e.v) ∧ (¬ chT ops a.tmps e.ch → (¬ chT ops a.tmps (settle j b e).ch ∨ (settle j b e).v = undef)) ∧
    (¬ chT ops a.tmps (settle j b e).ch → ¬ chT ops a.tmps e.ch) := by
  unfold settle
  split
  · rename_i hc
    have hn : ¬ chT ops a.tmps e.ch := fun hh => by
      have := hh (j, !b) (by simpa using hc)
      rw [hy] at this
      cases b <;> simp at this
    exact ⟨rfl, fun hh => absurd hh hn, fun _ => .inr rfl, fun hh => absurd chT_nil hh⟩
  · split
    · rename_i hnc hc
      have hiff : chT ops a.tmps e.ch ↔ chT ops a.tmps (e.ch.filter (fun x => x != (j, b))) := by
        constructor
        · intro hh x hx; exact hh x (List.mem_filter.1 hx).1
        · intro hh x hx
          by_cases hxe : x = (j, b)
          · rw [hxe]; exact hy
          · exact hh x (List.mem_filter.2 ⟨hx, by simpa using hxe⟩)
      split
      · rename_i hf
        rw [hf] at hiff
        exact ⟨rfl, fun _ => ⟨chT_nil, rfl⟩, fun hh => absurd (hiff.2 chT_nil) hh, fun hh => absurd chT_nil hh⟩
      · rename_i c r hf
        rw [hf] at hiff
        refine ⟨?_, fun hh => ⟨hiff.1 hh, rfl⟩, fun hh => .inl (fun h2 => hh (hiff.2 h2)), fun hh h2 => hh (hiff.1 h2)⟩
        cases hgg : e.g with
        | none => rw [hgg] at hg; have : e.ch = [] := hg; rw [this] at hc; simp at hc
        | some γ => rw [hgg] at hg; exact ⟨by simp, hg.2.trans hiff⟩
    · exact ⟨hg, fun hh => ⟨hh, rfl⟩, fun hh => .inl hh, fun hh => hh⟩

/-- What operation j has yielded becomes known. -/
theorem Fit.settle (h : Fit S ops N D env a) {j d : Nat} {b : Bool} {e : Ent} (hd : dstOf ops j = some d) (he : findT env d = some e) (hch : e.ch = []) (hv : e.v = .bool b) :
    Fit S ops N D (⟨d, [], none, .bool b, some b⟩ :: env.map (settle j b)) a := by
  have h1 := h.yes d e he (by rw [hch]; exact chT_nil)
  have hy := yielded_at (a := a) hd h1
  rw [hv] at hy
  simp only [boolOf] at hy
  refine ⟨h.off, h.size, h.defs, ?_, ?_, ?_, ?_⟩
  · intro t e1 hf hc
    simp only [findT] at hf
    split at hf
    · rename_i ht
      cases hf
      subst ht
      rw [h1, hv]
    · obtain ⟨e0, he0, rfl⟩ := findT_map (settle_t j b) hf
      obtain ⟨_, s1, s2, _⟩ := settle_ok (a := a) hy e0 (h.gua e0 (find_mem he0))
      by_cases hc0 : chT ops a.tmps e0.ch
      · rw [h.yes t e0 he0 hc0, (s1 hc0).2]
      · rw [h.no t e0 he0 hc0]
        rcases s2 hc0 with hx | hx
        · exact absurd hc hx
        · rw [hx]
  · intro t e1 hf hc
    simp only [findT] at hf
    split at hf
    · cases hf; exact absurd chT_nil hc
    · obtain ⟨e0, he0, rfl⟩ := findT_map (settle_t j b) hf
      obtain ⟨_, _, _, s3⟩ := settle_ok (a := a) hy e0 (h.gua e0 (find_mem he0))
      exact h.no t e0 he0 (s3 hc)
  · intro e1 hm
    rcases List.mem_cons.1 hm with rfl | hm
    · exact rfl
    · obtain ⟨e0, he0, rfl⟩ := List.mem_map.1 hm
      exact (settle_ok (a := a) hy e0 (h.gua e0 he0)).1
  · intro e1 hm b1 hb1
    rcases List.mem_cons.1 hm with rfl | hm
    · cases hb1; exact ⟨rfl, rfl⟩
    · obtain ⟨e0, he0, rfl⟩ := List.mem_map.1 hm
      unfold RX.settle at hb1 ⊢
      split at hb1
      · cases hb1
      · rename_i hn1
        rw [if_neg hn1]
        split at hb1
        · split at hb1 <;> cases hb1
        · rename_i hn2
          rw [if_neg hn2]
          exact h.kno e0 he0 b1 hb1

end Go.RX

namespace Go.RX
variable {P : Program}

/-- In this world the operation yields v, and leaves more of the same world. -/
def quietAt (P : Program) (o : Oper) (a : Act) (w : World) (v : Value) : Prop :=
  match (execOp a.eval o).run P w with
  | .ok (.value u) w' => w' = w ∧ u = v
  | .ok (.enter f args) w' => w' = w ∧ Calls P f args w (fun e w'' => e = .returned v ∧ Ext w w'')
  | _ => False

theorem quietAt_value {o : Oper} {a : Act} {w : World} {v : Value} (h : (execOp a.eval o).run P w = .ok (.value v) w) : quietAt P o a w v := by
  unfold quietAt; rw [h]; exact ⟨rfl, rfl⟩

theorem scsEmb_length : ∀ (l : List Sc) (x : ScsT l), (scsEmb l x).length = l.length
  | [], _ => rfl
  | _ :: r, x => by simp [scsEmb, scsEmb_length r x.2]

theorem run_loadOne {w : World} {a : Addr} {v : Value} (h : w.cell? a = some v) : (load a).run P w = .ok v w := by simp [h]

theorem run_loadCellsFrom {w : World} {a : Addr} : ∀ (vs : List Value) (k : Nat) (acc : Array Value), (∀ i, i < vs.length → w.cell? (a.add (k + i)) = vs[i]?) →
    (loadCellsFrom a k vs.length acc).run P w = .ok (acc ++ vs.toArray) w
  | [], k, acc, _ => by simp [loadCellsFrom]
  | v :: vs, k, acc, h => by
    have h0 : w.cell? (a.add k) = some v := by simpa using h 0 (by simp)
    have ih := run_loadCellsFrom vs (k + 1) (acc.push v) (fun i hi => by
      have := h (i + 1) (by simpa using hi)
      rw [show k + 1 + i = k + (i + 1) by omega, this]; rfl)
    simp only [List.length_cons, loadCellsFrom, Sem.run_bind, run_loadOne h0, Result.andThen_ok, ih]
    simp

theorem rdAt_ext {w w' : World} (h : Ext w w') {p : Option Addr} {el : El} {x : el.T} (hr : rdAt w p el x) : rdAt w' p el x := by
  cases el with
  | one s => obtain ⟨a, hp, hc⟩ := hr; exact ⟨a, hp, h.cell hc⟩
  | agg l =>
    obtain ⟨a, hp, hc⟩ := hr
    refine ⟨a, hp, fun i hi => ?_⟩
    have h1 := hc i hi
    have hlt : i < (scsEmb l x).length := by have := scsEmb_length l x; omega
    rw [List.getElem?_eq_getElem hlt] at h1 ⊢
    exact h.cell h1

theorem run_rdAt {w : World} {a : Addr} {t : TypeId} {el : El} {ti : TypeInfo} {x : el.T} (he : elOf P t = some el) (hi : P.info? t = some ti)
    (hs : ¬ badSize el ti.size = true) (hr : rdAt w (some a) el x) : (loadVar t a).run P w = .ok (el.emb x) w := by
  unfold loadVar
  cases el with
  | one s =>
    have hag : isAggV P t = some false := by
      unfold elOf at he
      unfold isAggV
      cases hu : P.underlying t with
      | none => simp [hu, scsOf] at he
      | some d => cases d <;> first | rfl | (simp only [hu] at he; simp [Option.map_eq_some_iff] at he)
    obtain ⟨a', ha, hc⟩ := hr
    cases ha
    simp only [Sem.run_bind, run_isAgg hag, Result.andThen_ok, Bool.false_eq_true, if_false, run_loadOne hc]
    rfl
  | agg l =>
    have hag : isAggV P t = some true := by
      unfold elOf at he
      unfold isAggV
      cases hu : P.underlying t with
      | none => simp [hu, scsOf] at he
      | some d => cases d <;> first | rfl | (simp only [hu] at he; split at he <;> cases he)
    obtain ⟨a', ha, hc⟩ := hr
    cases ha
    have hl : l.length = ti.size := by simpa [badSize] using hs
    have := run_loadCellsFrom (P := P) (w := w) (a := a) (scsEmb l x) 0 #[] (by simpa [scsEmb_length] using hc)
    rw [scsEmb_length, hl] at this
    simp only [Sem.run_bind, run_isAgg hag, Result.andThen_ok, if_true, run_size hi, loadCells, this]
    simp [El.emb]

theorem run_rdC {C : Cfg P} {w : World} {a : Addr} {t : TypeId} {el : El} {ti : TypeInfo} {x : el.T} (he : elC C t = some el) (hi : P.info? t = some ti)
    (hs : ¬ badSize el ti.size = true) (hr : rdAt w (some a) el x) : (loadVar t a).run P w = .ok (el.emb x) w := by
  unfold elC at he
  split at he
  · rename_i h0
    split at he
    · rename_i s hs'
      cases he
      have hr' : rdAt w (some a) (.one .func) (s.emb x) := hr
      exact run_rdAt (el := .one .func) h0 hi (by simp [badSize]) hr'
    · cases he
      exact run_rdAt h0 hi hs hr
  · exact run_rdAt he hi hs hr

theorem findE_f : ∀ {l : List (Entry P)} {f : FuncId} {e : Entry P}, findE l f = some e → e.f = f
  | [], _, _, h => by simp [findE] at h
  | x :: r, f, e, h => by
    simp only [findE] at h
    split at h
    · cases h; assumption
    · exact findE_f h

theorem impG_of {g : Option Bool} {p : Prop} {ops : Array Oper} {tmps : Array Value} {ch : List (Nat × Bool)} (h : impG g p) (hg : gOk ops tmps ch g) (hc : chT ops tmps ch) : p := by
  cases g with
  | none => exact h
  | some b => exact h (hg.2.2 hc)

theorem run_callFunc {f : FuncId} {args : Array Value} {w : World}
    (h : callable P f = true) :
    (callFunc f args).run P w = .ok (.enter f args) w := by
  unfold callFunc
  unfold callable at h
  cases hf : P.funcs[f]? with
  | none => simp [hf] at h
  | some fn =>
    simp only [hf, Bool.and_eq_true, Bool.not_eq_true'] at h
    have h2 : ¬ (fn.name = "runtime.NumGoroutine") := by simpa using h.2
    obtain ⟨b, hb⟩ := some_of_isSome h.1
    simp [hf, h2, hb]

theorem run_call {ev : Operand → Value} {dst : Option Nat} {type : TypeId} {pos : String} {after : Array Edge} {guard : Option (Nat × Bool)} {f : Operand} {args : Array Operand} {ts : Array TypeId}
    {fid : FuncId} {first cap : Array Value} {as : List Value} (hf : ev f = .func (.func fid) first cap) (ha : args.toList.map ev = as) {w : World}
    (h : callable P fid = true) :
    (execOp ev ⟨dst, .call ⟨.value f, args, ts⟩, type, pos, after, guard⟩).run P w = .ok (.enter fid ⟨fullArgs first as cap⟩) w := by
  have e : (first ++ args.map ev ++ cap : Array Value) = ⟨fullArgs first as cap⟩ := by
    unfold fullArgs
    rw [← ha]
    obtain ⟨l1⟩ := first; obtain ⟨l2⟩ := args; obtain ⟨l3⟩ := cap
    simp
  simp only [execOp, resolve, Deferred.ofValue, hf, Sem.run_bind, Sem.run_pure, Result.andThen_ok, invoke]
  rw [e]
  exact run_callFunc h

variable {S : Nat → Option (Option Value)} {ops : Array Oper} {N : Nat} {D : List Deferred} {env : List Ent} {a : Act}

theorem findNow_at {kd : IntKind} {n : Int} : ∀ (l : List MapEntry) (i0 i : Nat) (v : Value), Instr.findNow (.int kd) (.int kd n) l i0 = some (some (i, v)) → i0 ≤ i ∧ ∃ e, l[i - i0]? = some e ∧ e.key = .int kd n ∧ e.val = v
  | [], _, _, _, h => by simp [Instr.findNow] at h
  | e :: es, i0, i, v, h => by
    unfold Instr.findNow at h
    split at h
    · rename_i hs
      simp only [Option.some.injEq, Prod.mk.injEq] at h
      obtain ⟨rfl, rfl⟩ := h
      refine ⟨Nat.le_refl _, e, by simp, ?_, rfl⟩
      cases hk : e.key <;> rw [hk] at hs <;> simp [Instr.sameNow] at hs
      obtain ⟨rfl, rfl⟩ := hs
      rfl
    · obtain ⟨h1, e', h2, h3, h4⟩ := findNow_at es (i0 + 1) i v h
      refine ⟨by omega, e', ?_, h3, h4⟩
      rw [show i - i0 = (i - (i0 + 1)) + 1 by omega]
      simpa using h2
    · cases h
theorem run_mapUp {t kt et : TypeId} {kd : IntKind} {n : Int} {val : Value} {w : World} {r : Nat} {es : Array MapEntry} {clock : Nat} {K : World → Prop} (ht : P.underlying t = some (.map kt et)) (hk : P.underlying kt = some (.int kd)) (hb : MapO w r es clock)
    (h : mUp w r kd n val es clock K) : ∃ w2, (Instr.mapUpdate t (.map (some r)) (.int kd n) val).run P w = .ok () w2 ∧ K w2 := by
  have hb' : w.heap[r]? = some (.map es clock) := hb
  have hkey : MapKept.IsKey (.int kd) (.int kd n) := by simp [MapKept.IsKey]
  unfold mUp at h
  split at h
  · rename_i hf
    refine ⟨_, ?_, h⟩
    simp [Instr.mapUpdate, run_underlying ht, MapKept.run_getObj_map hb', MapKept.run_checkKey hk hkey, MapKept.run_findKey hk hf, MapKept.run_setObj_map _ hb', Result.andThen, World.putObj]
  · rename_i i v hf
    obtain ⟨_, e, he, hek, _⟩ := findNow_at _ _ _ _ hf
    refine ⟨_, ?_, h⟩
    have he' : es[i]? = some e := by simpa using he
    simp [Instr.mapUpdate, run_underlying ht, MapKept.run_getObj_map hb', MapKept.run_checkKey hk hkey, MapKept.run_findKey hk hf, he', hek, Instr.keyThatStays, Instr.sameBits, MapKept.run_setObj_map _ hb', Result.andThen, World.putObj]
  · exact h.elim
theorem run_look {t kt et : TypeId} {kd : IntKind} {n : Int} {w : World} {p : Option Nat} {i : TypeInfo} {z v : Value} (ht : P.underlying t = some (.map kt et)) (hk : P.underlying kt = some (.int kd)) (hi : P.info? et = some i) (hz : i.zero = some z)
    (h : lookO w p kd n z v) : (Instr.lookup t (.map p) (.int kd n) false).run P w = .ok v w := by
  obtain ⟨r, es, clock, rfl, hb, hm⟩ := h
  have hb' : w.heap[r]? = some (.map es clock) := hb
  have hkey : MapKept.IsKey (.int kd) (.int kd n) := by simp [MapKept.IsKey]
  split at hm
  · rename_i hf
    subst hm
    simp [Instr.lookup, run_underlying ht, MapKept.run_getObj_map hb', MapKept.run_checkKey hk hkey, MapKept.run_findKey hk hf, zeroValue, run_info hi, hz, Result.andThen]
  · rename_i j u hf
    subst hm
    simp [Instr.lookup, run_underlying ht, MapKept.run_getObj_map hb', MapKept.run_checkKey hk hkey, MapKept.run_findKey hk hf, Result.andThen]
  · exact hm.elim

theorem run_look2 {t kt et : TypeId} {kd : IntKind} {n : Int} {w : World} {p : Option Nat} {i : TypeInfo} {z v : Value} {b : Bool} (ht : P.underlying t = some (.map kt et)) (hk : P.underlying kt = some (.int kd)) (hi : P.info? et = some i) (hz : i.zero = some z)
    (h : lookO2 w p kd n z v b) : (Instr.lookup t (.map p) (.int kd n) true).run P w = .ok (.tuple ⟨[v, .bool b]⟩) w := by
  obtain ⟨r, es, clock, rfl, hb, hm⟩ := h
  have hb' : w.heap[r]? = some (.map es clock) := hb
  have hkey : MapKept.IsKey (.int kd) (.int kd n) := by simp [MapKept.IsKey]
  split at hm
  · rename_i hf
    obtain ⟨rfl, rfl⟩ := hm
    simp [Instr.lookup, run_underlying ht, MapKept.run_getObj_map hb', MapKept.run_checkKey hk hkey, MapKept.run_findKey hk hf, zeroValue, run_info hi, hz, Result.andThen]
  · rename_i j u hf
    obtain ⟨rfl, rfl⟩ := hm
    simp [Instr.lookup, run_underlying ht, MapKept.run_getObj_map hb', MapKept.run_checkKey hk hkey, MapKept.run_findKey hk hf, Result.andThen]
  · exact hm.elim

theorem qop_ok {C : Cfg P} {ch : List (Nat × Bool)} {g : Option Bool} {o : Oper} {w : World} {K : Value → Prop} (hF : Fit S ops N D env a) (hg : gOk ops a.tmps ch g)
    (h : qop C ops env ch g o w K) : ∃ v, K v ∧ (chT ops a.tmps ch → ∀ w', Ext w w' → quietAt P o a w' v) := by
  have hc0 : ∀ v, a.eval (.const v) = v := fun _ => rfl
  have pure : ∀ (pr : PR), pop P (evE env ch) o = some pr → (match pr.ob with | none => K pr.v | some p => impG g p ∧ K pr.v) →
      ∃ v, K v ∧ (chT ops a.tmps ch → ∀ w', Ext w w' → quietAt P o a w' v) := by
    intro pr hp hk
    cases hob : pr.ob with
    | none =>
      rw [hob] at hk
      exact ⟨pr.v, hk, fun hc w' _ => quietAt_value (pop_ok (fun x v hx => hF.ev hc hx) hc0 hp (fun p hp' => by rw [hob] at hp'; cases hp') w')⟩
    | some p =>
      rw [hob] at hk
      exact ⟨pr.v, hk.2, fun hc w' _ => quietAt_value (pop_ok (fun x v hx => hF.ev hc hx) hc0 hp (fun p' hp' => by rw [hob] at hp'; cases hp'; exact impG_of hk.1 hg hc) w')⟩
  have pureM : (match pop P (evE env ch) o with | some ⟨none, v⟩ => K v | some ⟨some p, v⟩ => impG g p ∧ K v | none => False) →
      ∃ v, K v ∧ (chT ops a.tmps ch → ∀ w', Ext w w' → quietAt P o a w' v) := by
    intro hh
    split at hh
    · rename_i v hp; exact pure ⟨none, v⟩ hp hh
    · rename_i p v hp; exact pure ⟨some p, v⟩ hp hh
    · exact hh.elim
  obtain ⟨dst, op, type, pos, after, guard⟩ := o
  unfold qop at h
  cases op with
  | load t x =>
    simp only at h
    split at h
    · rename_i p el ti hx he hi
      split at h
      · exact False.elim h
      · rename_i hs
        obtain ⟨x', hr, hk⟩ := h
        refine ⟨_, hk, fun hc w' hw => quietAt_value ?_⟩
        have hr' := rdAt_ext hw (impG_of hr hg hc)
        have hp : ∃ a0, p = some a0 := by cases el <;> (obtain ⟨a0, h0, _⟩ := hr'; exact ⟨a0, h0⟩)
        obtain ⟨a0, rfl⟩ := hp
        simp [execOp, Instr.loadAt, hF.ev hc hx, Instr.sureAddr, run_rdC he hi hs hr']
    · exact False.elim h
  | lookup xt m ix ok =>
    simp only at h
    split at h
    · rename_i kt et p kd n hu hm hix
      split at h
      · rename_i kd' el ti hku he hi
        split at h
        · rename_i z hz
          split at h
          · rename_i hkk
            subst hkk
            obtain ⟨x', hr, hk⟩ := h
            refine ⟨_, hk, fun hc w' hw => quietAt_value ?_⟩
            have hl := impG_of hr hg hc
            have hl' : lookO w' p kd n z (el.emb x') := by
              obtain ⟨r, es, clock, h1, h2, h3⟩ := hl
              exact ⟨r, es, clock, h1, hw.obj h2, h3⟩
            simp only [execOp, Sem.run_bind, hF.ev hc hm, hF.ev hc hix, run_look hu hku hi hz hl', Result.andThen_ok, Sem.run_pure]
          · exact False.elim h
        · exact False.elim h
      · exact False.elim h
    · rename_i kt et p kd n hu hm hix
      split at h
      · rename_i kd' el ti hku he hi
        split at h
        · rename_i z hz
          split at h
          · rename_i hkk
            subst hkk
            obtain ⟨x', b', hr, hk⟩ := h
            refine ⟨_, hk, fun hc w' hw => quietAt_value ?_⟩
            have hl := impG_of hr hg hc
            have hl' : lookO2 w' p kd n z (el.emb x') b' := by
              obtain ⟨r, es, clock, h1, h2, h3⟩ := hl
              exact ⟨r, es, clock, h1, hw.obj h2, h3⟩
            simp only [execOp, Sem.run_bind, hF.ev hc hm, hF.ev hc hix, run_look2 hu hku hi hz hl', Result.andThen_ok, Sem.run_pure]
          · exact False.elim h
        · exact False.elim h
      · exact False.elim h
    · exact False.elim h
  | pick c x y =>
    simp only at h
    split at h
    · rename_i t
      split at h
      · rename_i ec hec
        have known : ∀ (b : Bool), ec.k = some b → chT ops a.tmps ch → a.eval (.tmp t) = .bool b := by
          intro b hb _
          obtain ⟨hv, hch⟩ := hF.kno ec (find_mem hec) b hb
          have := hF.yes t ec hec (by rw [hch]; exact chT_nil)
          simp [Act.eval, this, hv]
        split at h
        · rename_i hk
          split at h
          · rename_i v hv
            refine ⟨v, h, fun hc w' _ => quietAt_value ?_⟩
            have eb := known true hk hc
            simp [execOp, eb, hF.ev hc hv, asBool]
          · exact False.elim h
        · rename_i hk
          split at h
          · rename_i v hv
            refine ⟨v, h, fun hc w' _ => quietAt_value ?_⟩
            have eb := known false hk hc
            simp [execOp, eb, hF.ev hc hv, asBool]
          · exact False.elim h
        · split at h
          · rename_i j hj
            have hj' : dstOf ops j = some t := by
              have := List.find?_some hj
              simpa using this
            have key : ∀ (b u v : Bool), evE env ch (.tmp t) = some (.bool b) → evE env ((j, true) :: ch) x = some (.bool u) → evE env ((j, false) :: ch) y = some (.bool v) →
                ∀ w', chT ops a.tmps ch → quietAt P ⟨dst, .pick (.tmp t) x y, type, pos, after, guard⟩ a w' (.bool (bif b then u else v)) := by
              intro b u v hb hu hv w' hc
              refine quietAt_value ?_
              have eb := hF.ev hc hb
              have hyj : yielded ops a.tmps j = some b := by
                unfold yielded
                unfold dstOf at hj'
                simp only [hj', Option.bind_some]
                have : a.tmps[t]? = some (.bool b) := by
                  unfold Act.eval at eb
                  simp only [Array.getD_eq_getD_getElem?] at eb
                  cases ht : a.tmps[t]? with
                  | none => rw [ht] at eb; simp [undef] at eb
                  | some z => rw [ht] at eb; simp at eb; rw [eb]
                rw [this]
              cases b with
              | true =>
                have eu := hF.ev (ch := (j, true) :: ch) (fun z hz => by
                  rcases List.mem_cons.1 hz with rfl | hz
                  · exact hyj
                  · exact hc z hz) hu
                simp [execOp, eb, eu, asBool]
              | false =>
                have eu := hF.ev (ch := (j, false) :: ch) (fun z hz => by
                  rcases List.mem_cons.1 hz with rfl | hz
                  · exact hyj
                  · exact hc z hz) hv
                simp [execOp, eb, eu, asBool]
            split at h
            · rename_i b u v hb hu hv
              split at h
              · cases (show v = false by simp only [evE, Option.some.injEq, Value.bool.injEq] at hv; exact hv.symm)
                refine ⟨_, h, fun hc w' _ => ?_⟩
                have := key b u false hb hu hv w' hc
                cases b <;> exact this
              · cases (show u = true by simp only [evE, Option.some.injEq, Value.bool.injEq] at hu; exact hu.symm)
                refine ⟨_, h, fun hc w' _ => ?_⟩
                have := key b true v hb hu hv w' hc
                cases b <;> exact this
              · exact ⟨_, h, fun hc w' _ => key b u v hb hu hv w' hc⟩
            · exact False.elim h
          · exact False.elim h
      · exact False.elim h
    · exact False.elim h
  | call c =>
    obtain ⟨callee, args, ts⟩ := c
    cases callee with
    | value f =>
      simp only at h
      split at h
      · rename_i fid first cap as hf has
        split at h
        · rename_i hfn
          split at h
          · rename_i e he
            split at h
            · rename_i pre v hfnv
              refine ⟨v, h.2, fun hc w' _ => ?_⟩
              have hrun := run_call (P := P) (dst := dst) (type := type) (pos := pos) (after := after) (guard := guard) (ts := ts) (hF.ev hc hf) (maps_ok (fun x v hx => hF.ev hc hx) has) (w := w') hfn
              unfold quietAt
              rw [hrun]
              refine ⟨rfl, ?_⟩
              have := e.ok _ _ _ hfnv (impG_of h.1 hg hc) w'
              rw [findE_f he] at this
              exact this
            · exact False.elim h
          · obtain ⟨x, hq, hk⟩ := h
            refine ⟨_, hk, fun hc w' hw => ?_⟩
            have hrun := run_call (P := P) (dst := dst) (type := type) (pos := pos) (after := after) (guard := guard) (ts := ts) (hF.ev hc hf) (maps_ok (fun x v hx => hF.ev hc hx) has) (w := w') hfn
            unfold quietAt
            rw [hrun]
            exact ⟨rfl, impG_of hq hg hc w' hw⟩
        · exact False.elim h
      · exact False.elim h
    | invoke r m => exact pureM h
    | builtin b => exact pureM h
  | _ => exact pureM h

end Go.RX

namespace Go.RX
variable {P : Program}

/-- The fence without a fence: of a call's frame, or of a round's. -/
def WF (r : Option Nat) : Fence := { Fence.wide with round := r }
theorem callsIn_wf {r : Option Nat} {n : Nat} {f : FuncId} {args : Array Value} {w : World} {R : Ending → World → Prop} : CallsIn (WF r) n P f args w R ↔ Calls P f args w R :=
  callsIn_wide (n := n)
theorem wf_fn (r : Option Nat) (f : FuncId) : (WF r).fn f := trivial
theorem wf_room (r : Option Nat) (n : Nat) : (WF r).room n := room_wide n

theorem add_ne {a : Addr} {i j : Nat} (hs : a.spot = none) (h : i ≠ j) : a.add i ≠ a.add j := by
  obtain ⟨b, o, s⟩ := a
  simp only at hs
  subst hs
  unfold Addr.add
  by_cases hi : i = 0 <;> by_cases hj : j = 0 <;> simp_all <;> omega

theorem isSome_setCell {w : World} {p q : Addr} {v : Value} (h : (w.cell? q).isSome = true) : ((w.setCell p v).cell? q).isSome = true := by
  unfold World.cell? at h ⊢
  simp only [World.setCell, Array.getElem?_modify]
  cases ho : w.heap[q.block]? with
  | none => simp [ho] at h
  | some o =>
    simp only [ho] at h
    by_cases hb : p.block = q.block
    · simp only [hb, if_true, Option.map_some]
      cases o with
      | cells c e f =>
        simp only at h ⊢
        by_cases hq : q.spot.isSome = true
        · simp [hq] at h
        · simp only [hq, Bool.false_eq_true, if_false] at h ⊢
          split
          · exact h
          · simpa using h
      | _ => simp at h
    · simp only [hb, if_false]
      cases o <;> simp_all

theorem frozen_setCell {w : World} {p q : Addr} {v : Value} : (w.setCell p v).frozen? q = w.frozen? q := by
  unfold World.frozen?
  simp only [World.setCell, Array.getElem?_modify]
  by_cases hb : p.block = q.block
  · simp only [hb, if_true]
    cases ho : w.heap[q.block]? with
    | none => simp
    | some o => cases o <;> simp
  · simp only [hb, if_false]

theorem run_storeOne {w : World} {a : Addr} {v : Value} (hv : v.oneCell' = true) (h : (w.cell? a).isSome = true) (hf : w.frozen? a = false) : (store a v).run P w = .ok () (w.setCell a v) := by
  rw [run_store P w a v .plain hv]
  obtain ⟨u, hu⟩ := some_of_isSome h
  simp [hu, hf]

theorem run_storeCells : ∀ (vs : List Value) (a : Addr) (i : Nat) (w : World), oneCells vs = true → (∀ j, j < vs.length → (w.cell? (a.add (i + j))).isSome = true ∧ w.frozen? (a.add (i + j)) = false) →
    (storeCells a vs i).run P w = .ok () (putAt w a vs i)
  | [], a, i, w, _, _ => by simp [storeCells, putAt]
  | v :: r, a, i, w, ho, h => by
    simp only [oneCells, List.all_cons, Bool.and_eq_true] at ho
    have h0 := h 0 (by simp)
    simp only [Nat.add_zero] at h0
    have ih := run_storeCells r a (i + 1) (w.setCell (a.add i) v) ho.2 (fun j hj => by
      have := h (j + 1) (by simpa using hj)
      rw [show i + 1 + j = i + (j + 1) by omega]
      exact ⟨isSome_setCell this.1, by rw [frozen_setCell]; exact this.2⟩)
    simp only [storeCells, Sem.run_bind, run_storeOne ho.1 h0.1 h0.2, Result.andThen_ok, ih, putAt]

theorem wrap_i64 {n : Int} (h0 : -(2 ^ 63) ≤ n) (h1 : n < 2 ^ 63) : IntKind.i64.wrap n = n := by
  show (if (true && decide (n % (2 ^ 64 : Int) ≥ (2 ^ 63 : Int))) = true then n % (2 ^ 64 : Int) - (2 ^ 64 : Int) else n % (2 ^ 64 : Int)) = n
  simp only [Bool.true_and, decide_eq_true_eq]
  split <;> omega

theorem run_makeSlice {t e : TypeId} {i : TypeInfo} {z : Value} (hu : P.underlying t = some (.slice e)) (hi : P.info? e = some i) (hz : i.zero = some z) (k k' : IntKind) {n m : Int} (h : mkOk i.bytes n m) (w : World) :
    (Instr.makeSlice t (.int k n) (.int k' m)).run P w = .ok (.slice (some ⟨w.heap.size, 0, none⟩) n.toNat m.toNat) (w.alloc (.cells (mkCells z.cells (m.toNat * i.size)) e)) := by
  obtain ⟨h0, h1, h2, h3⟩ := h
  have wn : IntKind.i64.wrap n = n := wrap_i64 (by omega) (by omega)
  have wm : IntKind.i64.wrap m = m := wrap_i64 (by omega) (by omega)
  have e1 : ¬ m < 0 := by omega
  have e2 : ¬ n < 0 := by omega
  have e3 : ¬ n > m := by omega
  have e4 : ¬ ((i.bytes : Int) * m > 2 ^ 48) := by omega
  unfold Instr.makeSlice
  simp only [Sem.run_bind, run_und hu, Result.andThen_ok, asInt, asIntOf, Sem.run_pure, run_info hi, wn, wm, e1, e2, e3, e4, decide_false, Bool.or_false, Bool.false_eq_true, if_false, run_askRoom, run_size hi, newRow]
  by_cases hn : m.toNat * i.size = 0
  · simp [hn, mkCells]
  · simp [hn, mkCells, zeroValue, run_info hi, hz]

theorem run_rdN {w : World} {p : Option Addr} {n size len cap : Nat} {vs : List Value} (h : rdN w p (n * size) vs) : (Builtin.firstCells size n (.slice p len cap)).run P w = .ok ⟨vs⟩ w := by
  cases p with
  | none => simp only [rdN] at h; subst h; simp [Builtin.firstCells]
  | some a =>
    obtain ⟨hl, hc⟩ := h
    have := run_loadCellsFrom (P := P) (w := w) (a := a) vs 0 #[] (fun i hi => by simpa using hc i (by omega))
    rw [hl] at this
    simp only [Builtin.firstCells, loadCells, this]
    simp

theorem rdN_drew {w : World} {p : Option Addr} {n : Nat} {vs : List Value} (h : rdN w p n vs) : rdN w.drew p n vs := h

theorem run_copy {ts : Array TypeId} {t u e : TypeId} {i : TypeInfo} {ty : TypeId} {p q : Option Addr} {n m k l : Nat} (hts : ts = #[t, u]) (hu : P.underlying t = some (.slice e))
    (hi : P.info? e = some i) {w : World} {R : Int → World → Prop} (h : cpR w i.size (p, n) (q, k) R) :
    ∃ r w2, (Builtin.copy_ ts ty #[.slice p n m, .slice q k l]).run P w = .ok (.int .i64 r) w2 ∧ R r w2 := by
  subst hts
  obtain ⟨new, hn, hst, hR⟩ := h
  have rnew : (Builtin.firstCells i.size (Nat.min k n) (.slice q k l)).run P w = .ok ⟨new⟩ w := run_rdN hn
  refine ⟨_, _, ?_, hR⟩
  unfold Builtin.copy_
  have h0 : (#[t, u] : Array TypeId)[0]? = some t := rfl
  simp only [h0, List.getElem?_toArray, List.getElem?_cons_zero, List.getElem?_cons_succ, Sem.run_bind, run_und hu, Result.andThen_ok, run_size hi, Builtin.lenOf, Sem.run_pure, rnew]
  cases p with
  | none =>
    simp only [Sem.run_pure, putP, goInt]
  | some a =>
    rcases hst with h | rfl | ⟨⟨a', ha, hc⟩, hone⟩
    · cases h
    · simp [storeCells, putP, putAt, goInt]
    · cases ha
      have hs := run_storeCells (P := P) new a 0 w hone (fun j hj => by simpa using hc j hj)
      simp only [Sem.run_bind, hs, Result.andThen_ok, Sem.run_pure, goInt]
      rfl

theorem run_append {ts : Array TypeId} {t u e ue : TypeId} {i : TypeInfo} {z : Value} {ty : TypeId} {p q : Option Addr} {n m k l : Nat} (hts : ts = #[t, u]) (hu : P.underlying t = some (.slice e)) (hu' : P.underlying u = some (.slice ue))
    (hi : P.info? e = some i) (hz : i.zero = some z) (hb : i.bytes ≠ 0) {w : World} {R : Option Addr × Nat × Nat → World → Prop} (h : apR w e i.size i.bytes z.cells (p, n, m) (q, k, l) R) :
    ∃ r w2, (Builtin.append_ ts ty #[.slice p n m, .slice q k l]).run P w = .ok (.slice r.1 r.2.1 r.2.2) w2 ∧ R r w2 := by
  subst hts
  obtain ⟨old, new, ho, hn, hin, hout⟩ := h
  have rnew : (Builtin.firstCells i.size k (.slice q k l)).run P w = .ok ⟨new⟩ w := run_rdN hn
  by_cases hroom : n + k ≤ m
  · obtain ⟨hst, hR⟩ := hin hroom
    refine ⟨_, _, ?_, hR⟩
    unfold Builtin.append_
    have h0 : (#[t, u] : Array TypeId)[0]? = some t := rfl
    have h1 : (#[t, u] : Array TypeId)[1]? = some u := rfl
    simp only [h0, h1, List.getElem?_toArray, List.getElem?_cons_zero, List.getElem?_cons_succ, Sem.run_bind, run_und hu, run_und hu', Result.andThen_ok, run_size hi, Builtin.lenOf, Sem.run_pure, Bool.false_eq_true, if_false, hroom, if_true, Bool.not_false, rnew]
    cases p with
    | none =>
      simp only [Sem.run_pure, putP, Option.map_none]
    | some a =>
      rcases hst with rfl | ⟨⟨a', ha, hc⟩, hone⟩
      · simp [storeCells, putP, putAt]
      · simp only [Option.map_some, Option.some.injEq] at ha
        subst ha
        have hs := run_storeCells (P := P) new (a.add (n * i.size)) 0 w hone (fun j hj => by simpa using hc j hj)
        rw [Sem.run_bind, hs]
        rfl
  · obtain ⟨hbytes, hR⟩ := hout (by show m < n + k; omega)
    have hR' := fun c hc => hR c hc
    have hcut : ∀ (tp : Nat), n + k ≤ (Question.appendCap (n + k) m e).cut tp := fun tp => by simp [Question.cut]
    refine ⟨_, _, ?_, hR' ((Question.appendCap (n + k) m e).cut (w.tape w.drawn (.appendCap (n + k) m e))) (hcut _)⟩
    unfold Builtin.append_
    have h0 : (#[t, u] : Array TypeId)[0]? = some t := rfl
    have h1 : (#[t, u] : Array TypeId)[1]? = some u := rfl
    have hov : ¬ (((n + k : Nat) : Int) > IntKind.i64.max ∧ (False ∨ i.bytes = 0)) := by simp [hb]
    have hnb : ¬ (Builtin.nextslicecap (n + k) m * i.bytes > 2 ^ 48) := by simp only at hbytes; omega
    have rold' : (Builtin.firstCells i.size n (.slice p n m)).run P w.drew = .ok ⟨old⟩ w.drew := run_rdN (rdN_drew ho)
    have rnew' : (Builtin.firstCells i.size k (.slice q k l)).run P w.drew = .ok ⟨new⟩ w.drew := run_rdN (rdN_drew hn)
    simp only [h0, h1, List.getElem?_toArray, List.getElem?_cons_zero, List.getElem?_cons_succ, Sem.run_bind, run_und hu, run_und hu', Result.andThen_ok, run_size hi, Builtin.lenOf, Sem.run_pure, Bool.false_eq_true, if_false, hroom, Bool.not_false, if_true,
      run_info hi]
    rw [if_neg hov]
    simp only [Sem.run_bind, run_info hi, Result.andThen_ok, hnb, if_false, run_choose_drew, Question.forced, Bool.false_eq_true, run_askRoom, rold', rnew', zeroValue, hz, newRow, Sem.run_pure, run_newObj_alloc]
    rfl

theorem run_buildSlice {t e : TypeId} {i : TypeInfo} {z : Value} {len : Nat} {parts : Array (Nat × Value)} {ps : List (Nat × Value)} {cs : Array Value} (hu : P.underlying t = some (.slice e)) (hi : P.info? e = some i) (hz : i.zero = some z)
    (hp : parts.toList = ps) (hf' : fillA (fun k => some (k * i.size, i.size)) ⟨(List.range (len * i.size)).map (z.cells.toList[· % z.cells.toList.length]!)⟩ ps = some cs) (hl : len * i.size ≤ 2 ^ 24) (w : World) :
    (Instr.buildSlice t len parts).run P w = .ok (.slice (some ⟨w.heap.size, 0, none⟩) len len) (w.alloc (.cells cs e)) := by
  have hl' : ¬ len * i.size > 2 ^ 24 := by omega
  have hf : Instr.fill (fun k => some (k * i.size, i.size)) ((Array.range (len * i.size)).map ((if len * i.size = 0 then #[] else z.cells)[· % (if len * i.size = 0 then #[] else z.cells).size]!)) ps = some cs := by
    rw [← fillA_ok hf']
    congr 1
    by_cases h0 : len * i.size = 0
    · simp [h0]
    · apply Array.ext'
      simp [h0, Array.toList_map, Array.toList_range]
      intro a _
      rw [Array.getElem!_eq_getD, Array.getD_eq_getD_getElem?]
  unfold Instr.buildSlice
  simp only [Sem.run_bind, run_und hu, Result.andThen_ok, run_size hi, hl', if_false, newRow]
  by_cases hn : len * i.size = 0
  · rw [hn] at hf
    simp only [hn, if_true, hp]
    have e0 : Array.range 0 = #[] := rfl
    rw [e0] at hf ⊢
    simp only [Array.map_empty] at hf ⊢
    simp [hf]
  · simp only [hn, if_false] at hf
    simp only [hn, if_false, zeroValue, Sem.run_bind, run_info hi, Result.andThen_ok, hz, Sem.run_pure, hp, hf]
    simp

theorem semAt_eff {r : Option Nat} {ev : Operand → Value} {o : Oper} (h : ∀ c, o.op ≠ .defer c) : o.semAt (WF r).round ev = execOp ev o := Oper.semAt_eq _ _ _ h

variable {S : Nat → Option (Option Value)} {ops : Array Oper} {N : Nat} {D : List Deferred} {env : List Ent} {a : Act}

def isAlloc (o : Oper) : Bool :=
  match o.op with
  | .alloc _ | .box .. | .buildSlice .. | .makeSlice .. | .makeMap .. => true
  | _ => false
/-- Does it change cells that lay there? By its form. -/
def effS (C : Cfg P) (o : Oper) : Bool :=
  match o.op with
  | .move _ | .assign _ | .pick .. | .alloc _ | .box .. | .buildSlice .. | .makeSlice .. | .makeMap .. | .build .. | .load .. | .nilCheck _ | .binOp .. | .unOp .. | .convert .. | .makeFunc .. | .slice .. | .fieldAddr .. | .field .. | .indexAddr .. | .index .. | .extract .. | .lookup .. => false
  | .call c => match c.callee with
    | .value (.func f) => !((findE C.tab f).isSome || C.quiet.contains f)
    | .builtin .len | .builtin .min | .builtin .max => false
    | _ => true
  | _ => true

theorem alloc_of {C : Cfg P} {ρ : Operand → Option Value} {o : Oper} (hρ : ∀ f, ρ (.func f) = some (.func (.func f) #[] #[])) (h : effS C o = false) (he : isEff C ρ o = true) : isAlloc o = true := by
  obtain ⟨dst, op, type, pos, after, guard⟩ := o
  cases op <;> simp only [effS, isEff, isAlloc] at h he ⊢ <;> (try (simp at h he; done))
  case call c =>
    obtain ⟨callee, args, ts⟩ := c
    cases callee with
    | value f =>
      cases f with
      | func f =>
        simp only [hρ] at he
        have he' : (!((findE C.tab f).isSome || C.quiet.contains f)) = true := by
          cases hd : C.dyn <;> rw [hd] at he <;> exact he
        exact absurd (h.symm.trans he') Bool.false_ne_true
      | _ => simp at h
    | builtin b => cases b <;> simp at h he
    | _ => simp at he

theorem eop_ok {r : Option Nat} {o : Oper} {w w' : World} {K : Value → World → Prop} {next : Act → World → Prop} {Q : Exit → Act → World → Prop} (hF : Fit S ops N D env a)
    {C : Cfg P} (h : eop C (evE env []) o w K) (hw : Ext w w') (hK : ∀ v w2, K v w2 → (isAlloc o = true → Ext w' w2) → next (a.put o.dst v) w2) : o.wpIn (WF r) 0 P a w' next Q := by
  have hc : chT ops a.tmps [] := fun x hx => by cases hx
  refine ⟨fun _ _ => trivial, ?_⟩
  obtain ⟨dst, op, type, pos, after, guard⟩ := o
  unfold eop at h
  cases op <;> simp only at h <;> (try exact False.elim h)
  case store t x y =>
    rw [semAt_eff (by simp)]
    split at h
    · rename_i p v i hx hy hi
      split at h
      · rename_i hs
        obtain ⟨⟨ho, a0, hp, hcells⟩, hk⟩ := h w' hw
        subst hp
        have hsz : v.cells.size = i.size := by simpa [cellsL] using hs
        have hst := run_storeCells (P := P) (cellsL v) a0 0 w' ho (fun j hj => by simpa using hcells j hj)
        have : (execOp a.eval ⟨dst, .store t x y, type, pos, after, guard⟩).run P w' = .ok .skip (putP w' (some a0) (cellsL v)) := by
          simp only [execOp, Instr.storeAt, hF.ev hc hx, hF.ev hc hy, Instr.sureAddr, storeVar, Sem.run_bind, Sem.run_pure, Result.andThen_ok, run_size hi, hsz, ne_eq, not_true, if_false]
          rw [show v.cells.toList = cellsL v from rfl, hst]
          rfl
        rw [this]
        exact hK _ _ hk (fun hh => by simp [isAlloc] at hh)
      · exact False.elim h
    · exact False.elim h
  case mapUpdate t m x v =>
    rw [semAt_eff (by simp)]
    split at h
    · rename_i kt et p kd n val hu hm hx hv
      split at h
      · rename_i kd' hku
        split at h
        · rename_i hkk
          subst hkk
          obtain ⟨r, es, clock, rfl, hb, hup⟩ := h w' hw
          obtain ⟨w2, hrun, hk⟩ := run_mapUp hu hku hb hup
          have : (execOp a.eval ⟨dst, .mapUpdate t m x v, type, pos, after, guard⟩).run P w' = .ok .skip w2 := by
            simp only [execOp, Sem.run_bind, hF.ev hc hm, hF.ev hc hx, hF.ev hc hv, hrun, Result.andThen_ok, Sem.run_pure]
          rw [this]
          exact hK _ _ hk (fun hh => by simp [isAlloc] at hh)
        · exact False.elim h
      · exact False.elim h
    · exact False.elim h
  case insert t m x v =>
    rw [semAt_eff (by simp)]
    split at h
    · rename_i kt et p kd n val hu hm hx hv
      split at h
      · rename_i kd' hku
        split at h
        · rename_i hkk
          subst hkk
          obtain ⟨r, es, clock, rfl, hb, hup⟩ := h w' hw
          obtain ⟨w2, hrun, hk⟩ := run_mapUp hu hku hb hup
          have : (execOp a.eval ⟨dst, .insert t m x v, type, pos, after, guard⟩).run P w' = .ok .skip w2 := by
            simp only [execOp, Sem.run_bind, hF.ev hc hm, hF.ev hc hx, hF.ev hc hv, hrun, Result.andThen_ok, Sem.run_pure]
          rw [this]
          exact hK _ _ hk (fun hh => by simp [isAlloc] at hh)
        · exact False.elim h
      · exact False.elim h
    · exact False.elim h
  case alloc e =>
    rw [semAt_eff (by simp)]
    split at h
    · rename_i i hi
      split at h
      · rename_i z hz
        have h : AlP w z.cells e (fun b w2 => K (.pointer (some ⟨b, 0, none⟩)) w2) := by
          have e1 : zcOf P e = z.cells := by unfold zcOf; simp only [hi, hz]
          split at h
          · rw [e1] at h; exact h
          · exact h
        have hk := h w' hw
        have : (execOp a.eval ⟨dst, .alloc e, type, pos, after, guard⟩).run P w' = .ok (.value (.pointer (some ⟨w'.heap.size, 0, none⟩))) (w'.alloc (.cells z.cells e)) := by
          simp [execOp, Instr.alloc, zeroValue, run_info hi, hz, newVar, newRow]
        rw [this]
        exact hK _ _ hk (fun _ => Ext.alloc _ _)
      · exact False.elim h
    · exact False.elim h
  case box e x =>
    rw [semAt_eff (by simp)]
    split at h
    · rename_i v hv
      have hk := h w' hw
      have : (execOp a.eval ⟨dst, .box e x, type, pos, after, guard⟩).run P w' = .ok (.value (.pointer (some ⟨w'.heap.size, 0, none⟩))) (w'.alloc (.cells v.cells e)) := by
        simp [execOp, Instr.box, hF.ev hc hv, newVar, newRow]
      rw [this]
      exact hK _ _ hk (fun _ => Ext.alloc _ _)
    · exact False.elim h
  case buildSlice t len parts =>
    rw [semAt_eff (by simp)]
    split at h
    · rename_i el ps hu hps
      split at h
      · rename_i i hi
        split at h
        · rename_i z hz
          split at h
          · rename_i cs hcs
            split at h
            · rename_i hlen
              have hk := h w' hw
              have e := pairs_ok (fun x v hx => hF.ev hc hx) hps
              have e' : (parts.map fun (i, x) => (i, a.eval x)).toList = ps := by rw [← e]; simp
              have hrun := run_buildSlice (P := P) hu hi hz e' hcs hlen w'
              have : (execOp a.eval ⟨dst, .buildSlice t len parts, type, pos, after, guard⟩).run P w' = .ok (.value (.slice (some ⟨w'.heap.size, 0, none⟩) len len)) (w'.alloc (.cells cs el)) := by
                simp only [execOp, Sem.run_bind, hrun, Result.andThen_ok, Sem.run_pure]
              rw [this]
              exact hK _ _ hk (fun _ => Ext.alloc _ _)
            · exact False.elim h
          · exact False.elim h
        · exact False.elim h
      · exact False.elim h
    · exact False.elim h
  case makeSlice t l c =>
    rw [semAt_eff (by simp)]
    split at h
    · rename_i el k n k' m hu hl hcc
      split at h
      · rename_i i hi
        split at h
        · rename_i z hz
          obtain ⟨hok, hk⟩ := h w' hw
          have hrun := run_makeSlice (P := P) hu hi hz k k' hok w'
          have : (execOp a.eval ⟨dst, .makeSlice t l c, type, pos, after, guard⟩).run P w' = .ok (.value (.slice (some ⟨w'.heap.size, 0, none⟩) n.toNat m.toNat)) (w'.alloc (.cells (mkCells z.cells (m.toNat * i.size)) el)) := by
            simp only [execOp, hF.ev hc hl, hF.ev hc hcc, Sem.run_bind, hrun, Result.andThen_ok, Sem.run_pure]
          rw [this]
          exact hK _ _ hk (fun _ => Ext.alloc _ _)
        · exact False.elim h
      · exact False.elim h
    · exact False.elim h
  case makeMap t rs =>
    rw [semAt_eff (by simp)]
    split at h
    · have hk := h w' hw
      have : (execOp a.eval ⟨dst, .makeMap t none, type, pos, after, guard⟩).run P w' = .ok (.value (.map (some w'.heap.size))) (w'.alloc (.map #[] 0)) := by
        simp [execOp, Instr.makeMap]
      rw [this]
      exact hK _ _ hk (fun _ => Ext.alloc _ _)
    · exact False.elim h
  case call c =>
    obtain ⟨callee, args, ts⟩ := c
    rw [semAt_eff (by simp)]
    simp only at h
    split at h
    · -- append
      split at h
      · rename_i s x t u hargs htys
        split at h
        · rename_i e ue p n m q k l hu hu' hs hx
          split at h
          · rename_i i hi
            split at h
            · rename_i z hz
              split at h
              · exact False.elim h
              · rename_i hb
                have hap := h w' hw
                have ea : args = #[s, x] := by cases args; simp_all
                have et : ts = #[t, u] := by cases ts; simp_all
                obtain ⟨res, w2, hrun, hR⟩ := run_append (P := P) (ty := type) et hu hu' hi hz hb hap
                have : (execOp a.eval ⟨dst, .call ⟨.builtin .append, args, ts⟩, type, pos, after, guard⟩).run P w' = .ok (.value (.slice res.1 res.2.1 res.2.2)) w2 := by
                  subst ea
                  simp only [execOp, resolve, Sem.run_bind, Sem.run_pure, Result.andThen_ok, invoke, builtin, List.map_toArray, List.map_cons, List.map_nil, hF.ev hc hs, hF.ev hc hx, hrun]
                rw [this]
                exact hK _ _ hR (fun hh => by simp [isAlloc] at hh)
            · exact False.elim h
          · exact False.elim h
        · exact False.elim h
      · exact False.elim h
    · -- copy
      split at h
      · rename_i s x t u hargs htys
        split at h
        · rename_i e p n m q k l hu hs hx
          split at h
          · rename_i i hi
            have hap := h w' hw
            have ea : args = #[s, x] := by cases args; simp_all
            have et : ts = #[t, u] := by cases ts; simp_all
            obtain ⟨res, w2, hrun, hR⟩ := run_copy (P := P) (ty := type) (m := m) (l := l) et hu hi hap
            have : (execOp a.eval ⟨dst, .call ⟨.builtin .copy, args, ts⟩, type, pos, after, guard⟩).run P w' = .ok (.value (.int .i64 res)) w2 := by
              subst ea
              simp only [execOp, resolve, Sem.run_bind, Sem.run_pure, Result.andThen_ok, invoke, builtin, List.map_toArray, List.map_cons, List.map_nil, hF.ev hc hs, hF.ev hc hx, hrun]
            rw [this]
            exact hK _ _ hR (fun hh => by simp [isAlloc] at hh)
          · exact False.elim h
        · exact False.elim h
      · exact False.elim h
    · rename_i f
      split at h
      · -- a value leads to it
        rename_i s t
        split at h
        · rename_i v as hf has
          obtain ⟨fid, first, cap, rfl, hfn, hk⟩ := h w' hw
          have hrun := run_call (P := P) (dst := dst) (type := type) (pos := pos) (after := after) (guard := guard) (ts := ts) (hF.ev hc hf) (maps_ok (fun x v hx => hF.ev hc hx) has) (w := w') hfn
          rw [hrun]
          refine ⟨by simp [WF, Fence.wide], ?_⟩
          refine (callsIn_wf (n := 0 - 1)).2 ?_
          refine Calls.mono hk fun e w2 ⟨x, he, hx⟩ => ?_
          subst he
          exact hK _ _ hx (fun hh => by simp [isAlloc] at hh)
        · exact False.elim h
      rename_i f _ _ _
      split at h
      · -- yield
        rename_i l first cp as hf has
        obtain ⟨rec, hrec, hlen, hround⟩ := h w' hw
        have e : (first ++ args.map a.eval : Array Value) = ⟨first.toList ++ as⟩ := by
          have := maps_ok (fun x v hx => hF.ev hc hx) has
          rw [← this]
          obtain ⟨l1⟩ := first; obtain ⟨l2⟩ := args
          simp
        have hrun := run_yield (P := P) (args := ⟨first.toList ++ as⟩) hrec (by simpa using hlen)
        have : (execOp a.eval ⟨dst, .call ⟨.value f, args, ts⟩, type, pos, after, guard⟩).run P w' = .ok (.round l rec.fn ((rec.params.zip ⟨first.toList ++ as⟩).foldl (fun tmps (t, a) => tmps.setIfInBounds t a) rec.tmps) rec.assign rec.body) w' := by
          simp only [execOp, resolve, Deferred.ofValue, hF.ev hc hf, Sem.run_bind, Sem.run_pure, Result.andThen_ok, invoke]
          rw [e, hrun]
        rw [this]
        refine ⟨by simp [WF, Fence.wide], ?_⟩
        refine RoundIn.mono (F := WF r) (n := 0 - 1) hround fun e w2 ⟨b, he, hR⟩ => ?_
        subst he
        exact hK _ _ hR (fun hh => by simp [isAlloc] at hh)
      · rename_i fid first cap as hf has
        split at h
        · rename_i hfn
          have hk := h w' hw
          have hrun := run_call (P := P) (dst := dst) (type := type) (pos := pos) (after := after) (guard := guard) (ts := ts) (hF.ev hc hf) (maps_ok (fun x v hx => hF.ev hc hx) has) (w := w') hfn
          rw [hrun]
          refine ⟨by simp [WF, Fence.wide], ?_⟩
          refine (callsIn_wf (n := 0 - 1)).2 ?_
          refine Calls.mono hk fun e w2 ⟨x, he, hx⟩ => ?_
          subst he
          exact hK _ _ hx (fun hh => by simp [isAlloc] at hh)
        · exact False.elim h
      · exact False.elim h
    · exact False.elim h

theorem not_defer {o : Oper} {c : Call} (hop : o.op = .defer c) {w : World} {v : Value} (h : quietAt P o a w v) : False := by
  obtain ⟨dst, op, type, pos, after, guard⟩ := o
  simp only at hop
  subst hop
  unfold quietAt execOp at h
  simp only [Sem.run_bind] at h
  generalize (resolve a.eval c type).run P w = res at h
  cases res <;> simp at h

/-- What the operations write may be written. -/
def Wr (S : Nat → Option (Option Value)) (ops : Array Oper) : Prop := ∀ o ∈ ops, ∀ k, o.dst = some k → S k = none

theorem getLast_none {α : Type} {l : List α} (h : l.getLast? = none) : l = [] := List.getLast?_eq_none_iff.1 h

/-- One operation, under what is known of its guards. -/
theorem rxGo_ext {r : Option Nat} {C : Cfg P} {i : Nat} {o : Oper} {Q : Exit → Act → World → Prop} (ho : ops[i]? = some o) (hSo : ∀ k, o.dst = some k → S k = none) :
    ∀ (n : Nat) (env : List Ent) (w w' : World) (K : List Ent → World → Prop), Fit S ops N D env a → rxGo C ops N o n env w K → Ext w w' →
    wpOpIn (WF r) 0 P ops Q i (fun a1 w1 => (effS C o = false → Ext w' w1) ∧ ∃ env1 wr, K env1 wr ∧ Fit S ops N D env1 a1 ∧ Ext wr w1) a w'
  | 0, _, _, _, _, _, h, _ => False.elim h
  | n + 1, env, w, w', K, hF, h, hw => by
    simp only [rxGo, putK_eq, forceL_eq] at h
    split at h
    · exact False.elim h
    · rename_i hgd
      have hwant := gd_dead hF hgd
      split at h
      · rename_i hput
        unfold wpOpIn
        simp only [ho]
        rw [if_neg (by rw [hwant]; simp)]
        exact ⟨fun _ _ => trivial, fun _ => Ext.refl _, _, w, h, hF.put hput hSo rfl (fun _ => rfl) (fun hn => absurd chT_nil hn), hw⟩
      · exact False.elim h
    · rename_i ch g hgd
      obtain ⟨hg, hwant⟩ := gd_ok hF hgd
      split at h
      · rename_i hput
        split at h
        · rename_i heff
          split at h
          · rename_i hlast
            have : ch = [] := getLast_none hlast
            subst this
            unfold wpOpIn
            simp only [ho]
            rw [if_pos (hwant.2 chT_nil)]
            refine eop_ok hF h hw fun v w2 hk hx => ⟨fun hs => hx (alloc_of (C := C) (ρ := evE env []) (fun _ => rfl) hs heff), _, w2, hk, ?_, Ext.refl _⟩
            exact hF.put hput hSo rfl (fun _ => rfl) (fun hn => absurd chT_nil hn)
          · split at h
            · rename_i d hd
              split at h
              · rename_i e he
                split at h
                · rename_i x hx
                  split at h
                  · rename_i hemp
                    have hch : e.ch = [] := by simpa using hemp
                    cases x with
                    | true => exact rxGo_ext ho hSo n _ w w' K (hF.settle hd he hch hx) h hw
                    | false => exact rxGo_ext ho hSo n _ w w' K (hF.settle hd he hch hx) h hw
                  · exact False.elim h
                · exact False.elim h
              · exact False.elim h
            · exact False.elim h
        · obtain ⟨v, hk, hq⟩ := qop_ok hF hg h
          replace hk := shareK_imp hk
          unfold wpOpIn
          simp only [ho]
          by_cases hc : chT ops a.tmps ch
          · rw [if_pos (hwant.2 hc)]
            have hqa := hq hc w' hw
            have hnd : ∀ c, o.op ≠ .defer c := by
              intro c hop
              exact not_defer hop hqa
            refine ⟨fun _ _ => trivial, ?_⟩
            rw [semAt_eff hnd]
            unfold quietAt at hqa
            split at hqa
            · rename_i u w2 hrun
              obtain ⟨rfl, rfl⟩ := hqa
              rw [hrun]
              exact ⟨fun _ => Ext.refl _, _, w, hk, hF.put hput hSo hg (fun _ => rfl) (fun hn => absurd hc hn), hw⟩
            · rename_i f args w2 hrun
              obtain ⟨rfl, hcall⟩ := hqa
              rw [hrun]
              refine ⟨by simp [WF, Fence.wide], (callsIn_wf (n := 0 - 1)).2 ?_⟩
              refine Calls.mono hcall fun e w3 ⟨he, hx⟩ => ?_
              subst he
              exact ⟨fun _ => hx, _, w, hk, hF.put hput hSo hg (fun _ => rfl) (fun hn => absurd hc hn), hw.trans hx⟩
            · exact hqa.elim
          · rw [if_neg (fun hh => hc (hwant.1 hh))]
            exact ⟨fun _ _ => trivial, fun _ => Ext.refl _, _, w, hk, hF.put hput hSo hg (fun hh => absurd hh hc) (fun _ => rfl), hw⟩
      · exact False.elim h

/-- One operation. -/
theorem rxOp_ext {r : Option Nat} {C : Cfg P} {i : Nat} {w w' : World} {K : List Ent → World → Prop} {Q : Exit → Act → World → Prop} (hS : Wr S ops) (hF : Fit S ops N D env a)
    (h : rxOp C ops N i env w K) (hw : Ext w w') : wpOpIn (WF r) 0 P ops Q i (fun a1 w1 => (((ops[i]?).map (effS C)).getD true = false → Ext w' w1) ∧ ∃ env1 wr, K env1 wr ∧ Fit S ops N D env1 a1 ∧ Ext wr w1) a w' := by
  unfold rxOp at h
  cases ho : ops[i]? with
  | none => simp [ho] at h
  | some o =>
    simp only [ho] at h ⊢
    have := rxGo_ext (r := r) (Q := Q) ho (hS o (Array.mem_of_getElem? ho)) 40 env w w' K hF h hw
    simpa using this

theorem rxL_ok {r : Option Nat} {C : Cfg P} {Q : Exit → Act → World → Prop} (hS : Wr S ops) : ∀ (l : List Nat) (env : List Ent) (a : Act) (w w' : World) (K : List Ent → World → Prop), Fit S ops N D env a →
    rxL C ops N l env w K → Ext w w' → (∀ env a w w', K env w → Fit S ops N D env a → Ext w w' → Q .normal a w') → wpOpsIn (WF r) 0 P ops Q l a w'
  | [], env, a, w, w', K, hF, h, hw, hK => hK env a w w' h hF hw
  | i :: l, env, a, w, w', K, hF, h, hw, hK => by
    rw [wpOpsIn_cons]
    exact wpOpIn_mono (fun a1 w1 ⟨_, env1, wr, hk, hF1, hw1⟩ => rxL_ok hS l env1 a1 wr w1 K hF1 hk hw1 hK) (rxOp_ext hS hF h hw)

end Go.RX

/-! A region that draws its order: quiet operations first, one of the others alone. -/
namespace Go.RX
variable {P : Program}

/-- 'T j w': what is to hold behind operation j, if that changes cells that lay there. -/
def wpAnyC (r : Option Nat) (P : Program) (ops : Array Oper) (Q : Exit → Act → World → Prop) (eff : Nat → Bool) (T : Nat → World → Prop) : Nat → Array Bool → Act → World → Prop
  | 0, listed, a, w => ∀ w', Ext w w' → Region.ready .any ops listed = [] ∧ Q .normal a w'
  | fuel + 1, listed, a, w => ∀ w', Ext w w' → (Region.ready .any ops listed = [] → Q .normal a w') ∧
      ∀ i ∈ Region.ready .any ops listed, wpOpIn (WF r) 0 P ops Q i (fun a1 w1 => (eff i = false → Ext w' w1) ∧ (eff i = true → T i w1) ∧ wpAnyC r P ops Q eff T fuel (listed.setIfInBounds i true) a1 w1) a w'

section
variable {r : Option Nat} {ops : Array Oper} {Q : Exit → Act → World → Prop} {eff : Nat → Bool} {T : Nat → World → Prop}

theorem wpAnyC_ext {fuel : Nat} {listed : Array Bool} {a : Act} {w w' : World} (h : wpAnyC r P ops Q eff T fuel listed a w) (hw : Ext w w') : wpAnyC r P ops Q eff T fuel listed a w' := by
  cases fuel with
  | zero => exact fun w2 h2 => h w2 (hw.trans h2)
  | succ n => exact fun w2 h2 => h w2 (hw.trans h2)

theorem wpAnyC_any : ∀ (fuel : Nat) (listed : Array Bool) (a : Act) (w : World), wpAnyC r P ops Q eff T fuel listed a w → wpAnyIn (WF r) 0 P .any ops Q fuel listed a w
  | 0, _, _, w, h => h w (Ext.refl w)
  | fuel + 1, _, _, w, h => ⟨(h w (Ext.refl w)).1, fun i hi => wpOpIn_mono (fun a1 w1 hh => wpAnyC_any fuel _ a1 w1 hh.2.2) ((h w (Ext.refl w)).2 i hi)⟩
theorem wpAnyC_mono {T T' : Nat → World → Prop} (hT : ∀ j w, T' j w → T j w) : ∀ (fuel : Nat) (listed : Array Bool) (a : Act) (w : World), wpAnyC r P ops Q eff T' fuel listed a w → wpAnyC r P ops Q eff T fuel listed a w
  | 0, _, _, _, h => h
  | fuel + 1, _, _, _, h => fun w' hw => ⟨(h w' hw).1, fun i hi => wpOpIn_mono (fun a1 w1 hh => ⟨hh.1, fun he => hT _ _ (hh.2.1 he), wpAnyC_mono hT fuel _ a1 w1 hh.2.2⟩) ((h w' hw).2 i hi)⟩

/-- It yields v in this world, and in every one that has more. -/
def yieldsE (P : Program) (ops : Array Oper) (o : Oper) (v : Value) (a : Act) (w : World) : Prop :=
  (Region.wanted o (yielded ops a.tmps) = true ∧ ∀ w', Ext w w' → quietAt P o a w' v) ∨
  (Region.wanted o (yielded ops a.tmps) = false ∧ v = undef)

theorem yieldsE.of_same {o : Oper} {v : Value} {a a' : Act} {w : World} (hy : yieldsE P ops o v a w) (he : execOp a'.eval o = execOp a.eval o)
    (hw : Region.wanted o (yielded ops a'.tmps) = Region.wanted o (yielded ops a.tmps)) : yieldsE P ops o v a' w := by
  unfold yieldsE quietAt at *
  rw [he, hw]
  exact hy

theorem yieldsE.op {i : Nat} {o : Oper} {v : Value} {a : Act} {w w' : World} (hi : ops[i]? = some o) (hy : yieldsE P ops o v a w) (hw : Ext w w') {K : Act → World → Prop}
    (h : ∀ w1, Ext w' w1 → K (a.put o.dst v) w1) : wpOpIn (WF r) 0 P ops Q i K a w' := by
  unfold wpOpIn
  simp only [hi]
  rcases hy with ⟨hwt, hq⟩ | ⟨hwt, rfl⟩
  · rw [if_pos hwt]
    have hqa := hq w' hw
    refine ⟨fun _ _ => trivial, ?_⟩
    rw [semAt_eff (fun c hop => not_defer hop hqa)]
    unfold quietAt at hqa
    split at hqa
    · rename_i u w2 hrun
      obtain ⟨rfl, rfl⟩ := hqa
      rw [hrun]
      exact h _ (Ext.refl _)
    · rename_i f args w2 hrun
      obtain ⟨rfl, hcall⟩ := hqa
      rw [hrun]
      refine ⟨by simp [WF, Fence.wide], (callsIn_wf (n := 0 - 1)).2 ?_⟩
      refine Calls.mono hcall fun e w3 ⟨he, hx⟩ => ?_
      subst he
      exact h _ hx
    · exact hqa.elim
  · rw [if_neg (by rw [hwt]; simp)]
    exact ⟨fun _ _ => trivial, h _ (Ext.refl _)⟩

/-- The operation does the same as there. -/
def SameOp (ops : Array Oper) (o : Oper) (a a0 : Act) : Prop := execOp a.eval o = execOp a0.eval o ∧ Region.wanted o (yielded ops a.tmps) = Region.wanted o (yielded ops a0.tmps)
theorem wpOp_putE {j : Nat} {oi oj : Oper} {v : Value} {a0 : Act} (hj : ops[j]? = some oj) (hap : oi.apart ops oj = true)
    (hsi : ∀ cs b, oi.op ≠ .select cs b) (hsj : ∀ cs b, oj.op ≠ .select cs b) (hdj : ∀ c, oj.op ≠ .defer c)
    (hQ : ∀ c a w, ¬ Q (.panic c) a w) {K : Act → World → Prop} {a : Act} {w' : World}
    (hy : SameOp ops oi a a0) (h : wpOpIn (WF r) 0 P ops Q j K (a.put oi.dst v) w') :
    wpOpIn (WF r) 0 P ops Q j (fun a1 w1 => SameOp ops oi a1 a0 ∧ K (a1.put oi.dst v) w1) a w' := by
  obtain ⟨h1, h2, h3⟩ := Oper.apart_spec hap
  have keep : ∀ (a : Act), SameOp ops oi a a0 → ∀ u, SameOp ops oi (a.put oj.dst u) a0 := fun a hy u =>
    ⟨(execOp_put oi hsi a oj.dst u h3).trans hy.1, (wanted_put oi a oj.dst u h3).trans hy.2⟩
  unfold wpOpIn at *
  simp only [hj] at *
  rw [wanted_put oj a oi.dst v h1] at h
  split
  · rename_i hw
    simp only [hw, if_true] at h
    unfold Oper.wpIn at *
    refine ⟨fun _ _ => trivial, ?_⟩
    have h := h.2
    rw [semAt_eff hdj, execOp_put oj hsj a oi.dst v h1] at h
    rw [semAt_eff hdj]
    generalize (execOp a.eval oj).run P w' = res at *
    cases res with
    | ok x w2 =>
      cases x <;> simp only [Oper.uponIn] at h ⊢
      case value u => exact ⟨keep a hy u, by rw [← Act.put_comm a v u h2]; exact h⟩
      case skip => exact ⟨keep a hy _, by rw [← Act.put_comm a v undef h2]; exact h⟩
      case defer d =>
        refine ⟨keep ({ a with defers := d :: a.defers } : Act) ⟨hy.1, hy.2⟩ undef, ?_⟩
        rw [← Act.put_comm _ v undef h2, ← Act.put_defers]
        exact h
      case enter f args =>
        refine ⟨h.1, CallsIn.mono h.2 fun e w'' he => ?_⟩
        cases e with
        | returned u => exact ⟨keep a hy u, by rw [← Act.put_comm a v u h2]; exact he⟩
        | panicked c => exact absurd he (hQ _ _ _)
        | outgrown => exact he
      case row row args => exact ⟨h.1, RowsIn.mono h.2 fun u w'' he => ⟨keep a hy u, by rw [← Act.put_comm a v u h2]; exact he⟩⟩
      case round l f tmps assign body =>
        refine ⟨h.1, RoundIn.mono h.2 fun e w'' he => ?_⟩
        cases e with
        | returned u => exact ⟨keep a hy u, by rw [← Act.put_comm a v u h2]; exact he⟩
        | panicked c => exact absurd he (hQ _ _ _)
        | outgrown => exact he
    | halt x w2 =>
      cases x <;> simp only [Oper.uponIn] at h ⊢
      case panic u => exact absurd h (hQ _ _ _)
  · rename_i hw
    simp only [hw] at h
    exact ⟨fun _ _ => trivial, keep a hy _, by rw [← Act.put_comm a v undef h2]; exact h.2⟩

/-- It looks at no memory. -/
def mfO (o : Oper) : Bool := match o.op with
  | .move _ => true
  | .assign _ => true
  | .extract .. => true
  | _ => false
theorem yieldsE.mf {o : Oper} {v : Value} {a : Act} {w w1 : World} (hm : mfO o = true) (hy : yieldsE P ops o v a w) : yieldsE P ops o v a w1 := by
  obtain ⟨dst, op, type, pos, after, guard⟩ := o
  cases op with
  | move x =>
    rcases hy with ⟨hw, hq⟩ | hn
    · refine .inl ⟨hw, fun w2 _ => ?_⟩
      have := hq w (Ext.refl w)
      simp only [quietAt, execOp, Sem.run_pure] at this ⊢
      exact ⟨trivial, this.2⟩
    · exact .inr hn
  | assign x =>
    rcases hy with ⟨hw, hq⟩ | hn
    · refine .inl ⟨hw, fun w2 _ => ?_⟩
      have := hq w (Ext.refl w)
      simp only [quietAt, execOp, Sem.run_pure] at this ⊢
      exact ⟨trivial, this.2⟩
    · exact .inr hn
  | extract x k =>
    rcases hy with ⟨hw, hq⟩ | hn
    · refine .inl ⟨hw, fun w2 _ => ?_⟩
      have := hq w (Ext.refl w)
      cases hx : a.eval x with
      | tuple vs =>
        cases hv : vs[k]? with
        | none => simp [quietAt, execOp, Instr.extract, hx, hv] at this
        | some u =>
          simp only [quietAt, execOp, Instr.extract, hx, hv, Sem.run_bind, Sem.run_pure, Result.andThen_ok] at this ⊢
          exact ⟨trivial, this.2⟩
      | _ => simp [quietAt, execOp, Instr.extract, hx] at this
    · exact .inr hn
  | _ => cases hm

theorem wpAnyC_first {i : Nat} {oi : Oper} {v : Value} {W : Nat → Bool} {T T' : Nat → World → Prop} {a0 : Act} (hi : ops[i]? = some oi) (hei : eff i = false) (hsel : ∀ (j : Nat) (o : Oper), ops[j]? = some o → (∀ cs b, o.op ≠ .select cs b) ∧ ∀ c, o.op ≠ .defer c)
    (hQ : ∀ c a w, ¬ Q (.panic c) a w) (hT : ∀ j w, T' j w → T j w) :
    ∀ (fuel : Nat) (listed : Array Bool) (a : Act) (w : World),
      (∀ j oj, ops[j]? = some oj → j ≠ i → listed.getD j true = false → W j = false → oi.apart ops oj = true ∧ (eff j = false ∨ mfO oi = true ∨ ∀ w1, T' j w1 → yieldsE P ops oi v a0 w1)) →
      (∀ j, W j = true → listed.getD j true = false ∧ ∃ oj, ops[j]? = some oj ∧ ∃ e ∈ oj.after, Region.binds .any e = true ∧ (e.on = i ∨ W e.on = true)) →
      i ∈ Region.ready .any ops listed → SameOp ops oi a a0 → yieldsE P ops oi v a0 w →
      wpAnyC r P ops Q eff T' fuel (listed.setIfInBounds i true) (a.put oi.dst v) w → wpAnyC r P ops Q eff T (fuel + 1) listed a w := by
  have nil : ∀ (listed : Array Bool), i ∈ Region.ready .any ops listed → Region.ready .any ops listed ≠ [] := fun l hl h => by rw [h] at hl; cases hl
  have uns : ∀ (listed : Array Bool) (k : Nat), listed.getD k true = false → listed.getD k false = true → False := fun l k h0 h1 => by
    rcases Nat.lt_or_ge k l.size with h' | h'
    · simp [h'] at h0 h1; rw [h0] at h1; cases h1
    · simp [Array.getElem?_eq_none h'] at h1
  intro fuel
  induction fuel with
  | zero =>
    intro listed a w _ _ hr hs hy H w' hw
    refine ⟨fun h => absurd h (nil listed hr), fun j hj => ?_⟩
    by_cases hji : j = i
    · subst hji
      refine (hy.of_same hs.1 hs.2).op hi hw fun w1 h1 => ⟨fun _ => h1, (fun he => by rw [hei] at he; cases he), wpAnyC_mono hT _ _ _ _ (wpAnyC_ext H (hw.trans h1))⟩
    · have := ready_mono hj hji
      rw [(H w' hw).1] at this
      cases this
  | succ fuel ih =>
    intro listed a w hfree hwait hr hs hy H w' hw
    refine ⟨fun h => absurd h (nil listed hr), fun j hj => ?_⟩
    by_cases hji : j = i
    · subst hji
      refine (hy.of_same hs.1 hs.2).op hi hw fun w1 h1 => ⟨fun _ => h1, (fun he => by rw [hei] at he; cases he), wpAnyC_mono hT _ _ _ _ (wpAnyC_ext H (hw.trans h1))⟩
    · have h1 := (H w' hw).2 j (ready_mono hj hji)
      obtain ⟨hjun, oj, hoj, hall⟩ := mem_ready.1 hj
      have hiun := (mem_ready.1 hr).1
      have hWj : W j = false := by
        cases hW : W j with
        | false => rfl
        | true =>
          obtain ⟨_, oj', hoj', e, he, hb, hon⟩ := hwait j hW
          rw [hoj] at hoj'
          cases hoj'
          have hl := hall e he hb
          rcases hon with hon | hon
          · rw [hon] at hl
            exact (uns listed i hiun hl).elim
          · exact (uns listed _ (hwait _ hon).1 hl).elim
      obtain ⟨hap, heff⟩ := hfree j oj hoj hji hjun hWj
      have h2 := wpOp_putE hoj hap (hsel i oi hi).1 (hsel j oj hoj).1 (hsel j oj hoj).2 hQ hs h1
      refine wpOpIn_mono (fun a1 w1 h3 => ?_) h2
      obtain ⟨hs1, hx, ht, hk⟩ := h3
      refine ⟨hx, fun he => hT _ _ (ht he), ?_⟩
      refine ih (listed.setIfInBounds j true) a1 w1 ?_ ?_ (ready_mono hr (Ne.symm hji)) hs1 ?_ ?_
      · intro k ok hk hki hun hWk
        refine hfree k ok hk hki ?_ hWk
        by_cases hjk : j = k
        · subst hjk; exact hjun
        · rw [getD_set_ne true hjk] at hun; exact hun
      · intro k hWk
        obtain ⟨hun, rest⟩ := hwait k hWk
        refine ⟨?_, rest⟩
        have hjk : j ≠ k := fun e => by rw [e, hWk] at hWj; cases hWj
        rw [getD_set_ne true hjk]; exact hun
      · have old : Ext w' w1 → yieldsE P ops oi v a0 w1 := fun hx1 => by
          have hww := hw.trans hx1
          rcases hy with ⟨hw1, hq1⟩ | hn
          · exact .inl ⟨hw1, fun w2 h2 => hq1 w2 (hww.trans h2)⟩
          · exact .inr hn
        cases he : eff j with
        | false => exact old (hx he)
        | true =>
          rcases heff with heff | heff | heff
          · rw [heff] at he; cases he
          · exact hy.mf heff
          · exact heff w1 (ht he)
      · rw [Array.setIfInBounds_comm _ _ hji]
        exact hk
end

/-! ### The evaluator -/


def rxQo (C : Cfg P) (ops : Array Oper) (N : Nat) (o : Oper) (env : List Ent) (w : World) (K : List Ent → Prop) : Prop :=
  match gd ops env o with
  | none => Bad 41 o.op
  | some none => if okPut ops N env [] o.dst then putK env o.dst [] none undef K else Bad 42 o.op
  | some (some (ch, g)) =>
    if okPut ops N env ch o.dst then qop C ops env ch g o w (fun v => shareK C o v (fun v => putK env o.dst ch g v K)) else Bad 43 o.op
def rxQ (C : Cfg P) (ops : Array Oper) (N : Nat) (i : Nat) (env : List Ent) (w : World) (K : List Ent → Prop) : Prop :=
  match ops[i]? with
  | none => False
  | some ⟨dst, op, type, pos, after, guard⟩ => rxQo C ops N ⟨dst, op, type, pos, after, guard⟩ env w K

/-- A quiet operation, and what must hold in a world for it to yield the same there. -/
def qopS {P : Program} (C : Cfg P) (ops : Array Oper) (env : List Ent) (ch : List (Nat × Bool)) (g : Option Bool) (o : Oper) (w : World) (K : (World → Prop) → Value → Prop) : Prop :=
  let ρ := evE env ch
  match o.op with
  | .load t x => match ρ x, elC C t, P.info? t with
    | some (.pointer p), some el, some i => if badSize el i.size = true then Bad 61 o.op else LdP w g p el (fun x => K (fun w => impG g (rdAt w p el x)) (el.emb x))
    | _, _, _ => Bad 62 o.op
  | .lookup .. => Bad 63 o.op
  | .pick .. => qop C ops env ch g o w (fun v => K (fun _ => True) v)
  | .call c => match c.callee with
    | .value f => match ρ f, maps ρ c.args.toList with
      | some (.func (.func fid) first cap), some as =>
        if callable P fid = true then
          match findE C.tab fid with
          | some e => match e.fn (fullArgs first as cap) with
            | some (pre, v) => impG g pre ∧ K (fun _ => True) v
            | none => Bad 64 o.op
          | none => ∃ x : (shF C fid).T, impG g (QCalls P fid (fullArgs first as cap) w ((shF C fid).emb x)) ∧ K (fun w => impG g (QCalls P fid (fullArgs first as cap) w ((shF C fid).emb x))) ((shF C fid).emb x)
        else Bad 65 o.op
      | _, _ => Bad 66 o.op
    | _ => qop C ops env ch g o w (fun v => K (fun _ => True) v)
  | _ => qop C ops env ch g o w (fun v => K (fun _ => True) v)
def UpC (p : World → Prop) : Prop := ∀ w w', p w → Ext w w' → p w'
theorem upC_imp {g : Option Bool} {p : World → Prop} (h : UpC p) : UpC (fun w => impG g (p w)) := by
  intro w w' hp hw
  cases g with
  | none => exact h w w' hp hw
  | some b => exact fun hb => h w w' (hp hb) hw
def stillO (op : Op) : Bool := match op with
  | .load .. => false
  | .lookup .. => false
  | .call c => (match c.callee with | .value _ => false | _ => true)
  | _ => true
theorem qop_still {C : Cfg P} {ops : Array Oper} {env : List Ent} {ch : List (Nat × Bool)} {g : Option Bool} {o : Oper} {w : World} {K : Value → Prop} (hl : stillO o.op = true)
    (h : qop C ops env ch g o w K) : ∃ v, K v ∧ ∀ w2, qop C ops env ch g o w2 (fun u => u = v) := by
  obtain ⟨dst, op, type, pos, after, guard⟩ := o
  cases op with
  | load t x => cases hl
  | lookup a b c d => cases hl
  | pick c x y =>
    unfold qop at h
    simp only at h
    unfold qop
    simp only
    split at h
    · split at h
      · split at h
        · split at h
          · exact ⟨_, h, fun _ => rfl⟩
          · exact h.elim
        · split at h
          · exact ⟨_, h, fun _ => rfl⟩
          · exact h.elim
        · split at h
          · split at h
            · split at h
              · exact ⟨_, h, fun _ => rfl⟩
              · exact ⟨_, h, fun _ => rfl⟩
              · exact ⟨_, h, fun _ => rfl⟩
            · exact h.elim
          · exact h.elim
      · exact h.elim
    · exact h.elim
  | call c =>
    obtain ⟨callee, args, ts⟩ := c
    cases callee with
    | value f => cases hl
    | _ =>
      unfold qop at h
      simp only at h
      unfold qop
      simp only
      split at h
      · exact ⟨_, h, fun _ => rfl⟩
      · exact ⟨_, h.2, fun _ => ⟨h.1, rfl⟩⟩
      · exact h.elim
  | _ =>
    unfold qop at h
    simp only at h
    unfold qop
    simp only
    split at h
    · exact ⟨_, h, fun _ => rfl⟩
    · exact ⟨_, h.2, fun _ => ⟨h.1, rfl⟩⟩
    · exact h.elim
theorem qopS_qop {C : Cfg P} {ops : Array Oper} {env : List Ent} {ch : List (Nat × Bool)} {g : Option Bool} {o : Oper} {w : World} {K : (World → Prop) → Value → Prop} (h : qopS C ops env ch g o w K) :
    ∃ p v, K p v ∧ p w ∧ UpC p ∧ ∀ w2, p w2 → qop C ops env ch g o w2 (fun u => u = v) := by
  obtain ⟨dst, op, type, pos, after, guard⟩ := o
  have st : stillO op = true → qop C ops env ch g ⟨dst, op, type, pos, after, guard⟩ w (fun v => K (fun _ => True) v) →
      ∃ p v, K p v ∧ p w ∧ UpC p ∧ ∀ w2, p w2 → qop C ops env ch g ⟨dst, op, type, pos, after, guard⟩ w2 (fun u => u = v) := fun hl h => by
    obtain ⟨v, hk, hv⟩ := qop_still (o := ⟨dst, op, type, pos, after, guard⟩) hl h
    exact ⟨_, v, hk, trivial, fun _ _ _ _ => trivial, fun w2 _ => hv w2⟩
  unfold qopS at h
  cases op with
  | load t x =>
    simp only at h
    split at h
    · rename_i p el i h1 h2 h3
      split at h
      · exact h.elim
      · rename_i hb
        obtain ⟨x', hr, hk⟩ := h
        refine ⟨_, _, hk, hr, upC_imp fun w w' hp hw => rdAt_ext hw hp, fun w2 hp => ?_⟩
        unfold qop
        simp only [h1, h2, h3, if_neg hb]
        exact ⟨x', hp, rfl⟩
    · exact h.elim
  | lookup a b c d => exact h.elim
  | call c =>
    obtain ⟨callee, args, ts⟩ := c
    cases callee with
    | value f =>
      simp only at h
      split at h
      · rename_i fid first cap as h1 h2
        split at h
        · rename_i hc
          split at h
          · rename_i e he
            split at h
            · rename_i pre v hfn
              refine ⟨_, v, h.2, trivial, fun _ _ _ _ => trivial, fun w2 _ => ?_⟩
              unfold qop
              simp only [h1, h2, if_pos hc, he, hfn]
              exact ⟨h.1, trivial⟩
            · exact h.elim
          · rename_i he
            obtain ⟨x, hq, hk⟩ := h
            refine ⟨_, _, hk, hq, upC_imp fun w w' hp hw => fun w2 h2 => hp w2 (hw.trans h2), fun w2 hp => ?_⟩
            unfold qop
            simp only [h1, h2, if_pos hc, he]
            exact ⟨x, hp, rfl⟩
        · exact h.elim
      · exact h.elim
    | _ => exact st rfl h
  | _ => exact st rfl h
def rxQSo (C : Cfg P) (ops : Array Oper) (N : Nat) (o : Oper) (env : List Ent) (w : World) (K : (World → Prop) → List Ent → Prop) : Prop :=
  match gd ops env o with
  | none => Bad 44 o.op
  | some none => if okPut ops N env [] o.dst then putK env o.dst [] none undef (K fun _ => True) else Bad 45 o.op
  | some (some (ch, g)) =>
    if okPut ops N env ch o.dst then qopS C ops env ch g o w (fun p v => shareK C o v (fun v => putK env o.dst ch g v (K p))) else Bad 46 o.op
def rxQS (C : Cfg P) (ops : Array Oper) (N : Nat) (i : Nat) (env : List Ent) (w : World) (K : (World → Prop) → List Ent → Prop) : Prop :=
  match ops[i]? with
  | none => False
  | some ⟨dst, op, type, pos, after, guard⟩ => rxQSo C ops N ⟨dst, op, type, pos, after, guard⟩ env w K
/-- What was loaded ahead of operation j, and does not wait for it, still lies there. -/
def pendK (j : Nat) (w : World) : List (Nat × (World → Prop)) → Prop → Prop
  | [], K => K
  | (W, p) :: r, K => match W.testBit j with
    | true => pendK j w r K
    | false => p w ∧ pendK j w r K
theorem pendK_iff {j : Nat} {w : World} : ∀ {l : List (Nat × (World → Prop))} {K : Prop}, pendK j w l K ↔ (∀ e ∈ l, e.1.testBit j = false → e.2 w) ∧ K
  | [], K => by simp [pendK]
  | (W, p) :: r, K => by
    unfold pendK
    cases h : W.testBit j with
    | true => simp only [pendK_iff (l := r), List.forall_mem_cons, h]; simp
    | false => simp only [pendK_iff (l := r), List.forall_mem_cons, h]; simp [and_assoc]

def noSel (ops : Array Oper) : Bool := ops.toList.all fun o => match o.op with | .select .. | .defer _ => false | _ => true

/-! Sets of numbers as bits of a number. -/
def sb (i : Nat) : Nat := 1 <<< i
theorem tb_sb (i j : Nat) : (sb i).testBit j = decide (i = j) := by
  unfold sb
  rw [Nat.one_shiftLeft, Nat.testBit_two_pow]
def maskL : List Nat → Nat
  | [] => 0
  | x :: r => sb x ||| maskL r
theorem tb_maskL : ∀ (l : List Nat) (j : Nat), (maskL l).testBit j = decide (j ∈ l)
  | [], j => by simp [maskL]
  | x :: r, j => by
    rw [maskL, Nat.testBit_or, tb_sb, tb_maskL r]
    by_cases h1 : x = j
    · subst h1; simp
    · have : ¬ j = x := fun e => h1 e.symm
      simp [h1, this]
theorem and_zero {a b j : Nat} (h : ((a &&& b) == 0) = true) (ha : a.testBit j = true) : b.testBit j = false := by
  have := congrArg (fun m => m.testBit j) (by simpa using h : a &&& b = 0)
  simp only [Nat.testBit_and, ha, Nat.zero_testBit, Bool.true_and] at this
  exact this
theorem and_some {a b : Nat} (h : ((a &&& b) != 0) = true) : ∃ j, a.testBit j = true ∧ b.testBit j = true := by
  have h' : a &&& b ≠ 0 := by simpa using h
  obtain ⟨j, hj⟩ := Nat.exists_testBit_of_ne_zero h'
  rw [Nat.testBit_and, Bool.and_eq_true] at hj
  exact ⟨j, hj⟩
theorem and_all {a b j : Nat} (h : ((a &&& b) == a) = true) (ha : a.testBit j = true) : b.testBit j = true := by
  have := congrArg (fun m => m.testBit j) (by simpa using h : a &&& b = a)
  simp only [Nat.testBit_and, ha, Bool.true_and] at this
  exact this
theorem and_not {a b : Nat} (h : ((a &&& b) == a) = false) : ∃ j, a.testBit j = true ∧ b.testBit j = false := by
  apply Classical.byContradiction
  intro hn
  have : a &&& b = a := by
    apply Nat.eq_of_testBit_eq
    intro j
    rw [Nat.testBit_and]
    cases ha : a.testBit j with
    | false => rfl
    | true =>
      cases hb : b.testBit j with
      | true => rfl
      | false => exact absurd ⟨j, ha, hb⟩ hn
  simp [this] at h

/-! The order of a region that draws it, found by bits. -/
def edM (o : Oper) : Nat := maskL ((o.after.toList.filter fun e => Region.binds .any e).map (·.on))
def dsM (o : Oper) : Nat := match o.dst with
  | some d => sb d
  | none => 0
def lkM (ops : Array Oper) (o : Oper) : Nat := maskL (o.looksAt ops)
def rdM (L i e : Nat) : Bool := !L.testBit i && (e &&& L) == e
def wtM (L i : Nat) : List (Oper × Nat) → Nat → Nat
  | [], W => W
  | (o, j) :: r, W => wtM L i r (if !L.testBit j && (edM o &&& (W ||| sb i)) != 0 then W ||| sb j else W)
def apM (ops : Array Oper) (x y : Oper) : Bool := (dsM x &&& (lkM ops y ||| dsM y)) == 0 && (dsM y &&& lkM ops x) == 0
def frM (C : Cfg P) (ops : Array Oper) (L i W : Nat) (x : Oper) (Z : List (Oper × Nat)) : Bool :=
  Z.all fun z => z.2 == i || L.testBit z.2 || W.testBit z.2 || (apM ops x z.1 && (!effS C z.1 || mfO x))
def nxM (C : Cfg P) (Z : List (Oper × Nat)) (L : Nat) : Option (Nat × Bool) :=
  match Z.find? fun z => rdM L z.2 (edM z.1) && !effS C z.1 && !isAlloc z.1 with
  | some z => some (z.2, true)
  | none => match Z.find? fun z => rdM L z.2 (edM z.1) with
    | some z => some (z.2, false)
    | none => none
def frS (ops : Array Oper) (L i W : Nat) (x : Oper) (Z : List (Oper × Nat)) : Bool :=
  Z.all fun z => z.2 == i || L.testBit z.2 || W.testBit z.2 || apM ops x z.1
/-- An order: an operation that is quiet; one of those that are ready (with what comes behind each). -/
inductive Sd where
  | nil | q (i : Nat) (m : Option Nat) (r : Sd) | alt (i : Nat) (r t : Sd) | stop
def schedM (C : Cfg P) (ops : Array Oper) (Z : List (Oper × Nat)) : Nat → Nat → Option Sd
  | 0, L => if Z.all fun z => !rdM L z.2 (edM z.1) then some .nil else none
  | n + 1, L => match nxM C Z L with
    | none => none
    | some (i, true) => match ops[i]? with
      | some x => if rdM L i (edM x) && !effS C x then
          if frM C ops L i (wtM L i Z 0) x Z then match schedM C ops Z n (L ||| sb i) with
            | some l => some (.q i none l)
            | none => none
          else if frS ops L i (wtM L i Z 0) x Z then match schedM C ops Z n (L ||| sb i) with
            | some l => some (.q i (some (wtM L i Z 0)) l)
            | none => none
          else none
        else none
      | none => none
    | some (_, false) => (Z.filter fun z => rdM L z.2 (edM z.1)).foldr (fun z acc => match acc with
        | none => none
        | some b => match schedM C ops Z n (L ||| sb z.2) with
          | some a => some (.alt z.2 a b)
          | none => none) (some .stop)
/-- The order that is taken. It hangs on no value. -/
def schedO (C : Cfg P) (ops : Array Oper) : Option Sd := schedM C ops ops.toList.zipIdx ops.size 0
def effAt (C : Cfg P) (ops : Array Oper) (i : Nat) : Bool := ((ops[i]?).map (effS C)).getD true
def pendE (C : Cfg P) (ops : Array Oper) (i : Nat) (w : World) (l : List (Nat × (World → Prop))) (K : Prop) : Prop :=
  match effAt C ops i with
  | true => pendK i w l K
  | false => K
def rxSt (C : Cfg P) (ops : Array Oper) (N : Nat) (i : Nat) (pd : List (Nat × (World → Prop))) (env : List Ent) (w : World) (F : List Ent → World → Prop) : Prop := match pd with
  | [] => rxOp C ops N i env w F
  | e :: pd => rxOp C ops N i env w (fun env w => pendE C ops i w (e :: pd) (F env w))
def andS (t : Sd) (a b : Prop) : Prop := match t with
  | .stop => a
  | _ => a ∧ b
def rxS (C : Cfg P) (ops : Array Oper) (N : Nat) : Sd → List (Nat × (World → Prop)) → List Ent → World → (List Ent → World → Prop) → Prop
  | .nil, _, env, w, K => K env w
  | .q i none r, pd, env, w, K => rxQ C ops N i env w (fun env => rxS C ops N r pd env w K)
  | .q i (some W) r, pd, env, w, K => rxQS C ops N i env w (fun p env => rxS C ops N r ((W, p) :: pd) env w K)
  | .alt i r t, pd, env, w, K => andS t (rxSt C ops N i pd env w (fun env w => rxS C ops N r pd env w K)) (rxS C ops N t pd env w K)
  | .stop, _, _, _, _ => True
def rxS0 (C : Cfg P) (ops : Array Oper) (N : Nat) (l : Sd) (env : List Ent) (w : World) (K : List Ent → World → Prop) : Prop := rxS C ops N l [] env w K
def rxDS (C : Cfg P) (ops : Array Oper) (N : Nat) (env : List Ent) (w : World) (K : List Ent → World → Prop) : Prop :=
  match schedO C ops with
  | some l => rxS0 C ops N l env w K
  | none => False

/-- One of the ways at a parting. -/
def inAlt (j : Nat) (x : Sd) : Sd → Prop
  | .alt i r t => (j = i ∧ x = r) ∨ inAlt j x t
  | _ => False
/-- An order that may be taken. -/
def Valid (C : Cfg P) (ops : Array Oper) : Nat → Sd → Array Bool → Prop
  | 0, t, listed => t = .nil ∧ Region.ready .any ops listed = []
  | n + 1, t, listed => match t with
    | .q i m r => i ∈ Region.ready .any ops listed ∧ effAt C ops i = false ∧
      (∃ W : Nat → Bool, (∀ oi, ops[i]? = some oi → ∀ j oj, ops[j]? = some oj → j ≠ i → listed.getD j true = false → W j = false → oi.apart ops oj = true ∧ (effS C oj = false ∨ mfO oi = true ∨ ∃ w, m = some w ∧ w.testBit j = false)) ∧
        (∀ j, W j = true → listed.getD j true = false ∧ ∃ oj, ops[j]? = some oj ∧ ∃ e ∈ oj.after, Region.binds .any e = true ∧ (e.on = i ∨ W e.on = true))) ∧
      Valid C ops n r (listed.setIfInBounds i true)
    | .alt i r t' => i ∈ Region.ready .any ops listed ∧ ∀ j ∈ Region.ready .any ops listed, ∃ x, inAlt j x (.alt i r t') ∧ Valid C ops n x (listed.setIfInBounds j true)
    | _ => False
/-- The bits and the row of what is listed say the same. -/
def Same (ops : Array Oper) (L : Nat) (listed : Array Bool) : Prop := listed.size = ops.size ∧ ∀ j, listed.getD j false = L.testBit j
theorem Same.un {ops : Array Oper} {L : Nat} {listed : Array Bool} (h : Same ops L listed) {j : Nat} (hj : j < ops.size) : listed.getD j true = L.testBit j := by
  rw [← h.2 j]
  have : j < listed.size := by rw [h.1]; exact hj
  simp [Array.getD, this]
theorem Same.set {ops : Array Oper} {L : Nat} {listed : Array Bool} (h : Same ops L listed) {i : Nat} (hi : i < ops.size) : Same ops (L ||| sb i) (listed.setIfInBounds i true) := by
  refine ⟨by simp [h.1], fun j => ?_⟩
  rw [Nat.testBit_or, tb_sb, ← h.2 j]
  by_cases e : i = j
  · subst e
    have : i < listed.size := by rw [h.1]; exact hi
    simp [Array.getD, this]
  · rw [getD_set_ne false e]; simp [e]
theorem Same.zero (ops : Array Oper) : Same ops 0 (Array.replicate ops.size false) := by
  refine ⟨by simp, fun j => ?_⟩
  rw [Nat.zero_testBit]
  by_cases h : j < ops.size <;> simp [Array.getD, h]
theorem mem_zip {ops : Array Oper} {o : Oper} {j : Nat} : (o, j) ∈ ops.toList.zipIdx ↔ ops[j]? = some o := by
  rw [List.mem_zipIdx_iff_getElem?]; simp
theorem tb_edM {o : Oper} {j : Nat} : (edM o).testBit j = true ↔ ∃ e ∈ o.after, Region.binds .any e = true ∧ e.on = j := by
  unfold edM
  rw [tb_maskL, decide_eq_true_eq, List.mem_map]
  constructor
  · rintro ⟨e, he, hj⟩
    rw [List.mem_filter] at he
    exact ⟨e, by simpa using he.1, he.2, hj⟩
  · rintro ⟨e, he, hb, hj⟩
    exact ⟨e, List.mem_filter.2 ⟨by simpa using he, hb⟩, hj⟩
theorem ready_iff {ops : Array Oper} {L : Nat} {listed : Array Bool} (h : Same ops L listed) {i : Nat} : i ∈ Region.ready .any ops listed ↔ ∃ o, ops[i]? = some o ∧ rdM L i (edM o) = true := by
  unfold Region.ready
  rw [List.mem_filter, List.mem_range]
  constructor
  · rintro ⟨hi, hc⟩
    rw [h.un hi] at hc
    simp only [Bool.and_eq_true] at hc
    have ho : ops[i]? = some ops[i] := Array.getElem?_eq_getElem hi
    refine ⟨ops[i], ho, ?_⟩
    rw [ho] at hc
    simp only [Option.map_some, Option.getD_some, Array.all_eq_true_iff_forall_mem] at hc
    unfold rdM
    rw [Bool.and_eq_true]
    refine ⟨hc.1, ?_⟩
    cases hq : (edM ops[i] &&& L) == edM ops[i] with
    | true => rfl
    | false =>
      obtain ⟨j, h1, h2⟩ := and_not hq
      obtain ⟨e, he, hb, rfl⟩ := tb_edM.1 h1
      have := hc.2 e he
      rw [hb, h.2, h2] at this
      cases this
  · rintro ⟨o, ho, hr⟩
    have hi : i < ops.size := (Array.getElem?_eq_some_iff.1 ho).1
    unfold rdM at hr
    rw [Bool.and_eq_true] at hr
    refine ⟨hi, ?_⟩
    rw [h.un hi, Bool.and_eq_true]
    refine ⟨hr.1, ?_⟩
    rw [ho]
    simp only [Option.map_some, Option.getD_some, Array.all_eq_true_iff_forall_mem]
    intro e he
    rw [h.2]
    cases hb : Region.binds .any e with
    | false => rfl
    | true => rw [and_all hr.2 (tb_edM.2 ⟨e, he, hb, rfl⟩)]; rfl
theorem wtM_mono {L i : Nat} : ∀ (Z : List (Oper × Nat)) (W j : Nat), W.testBit j = true → (wtM L i Z W).testBit j = true
  | [], _, _, h => h
  | (o, k) :: r, W, j, h => by
    unfold wtM
    refine wtM_mono r _ j ?_
    split
    · rw [Nat.testBit_or, h]; rfl
    · exact h
theorem wtM_ok {L i : Nat} : ∀ (Z : List (Oper × Nat)) (W : Nat), (∀ x, (wtM L i Z W).testBit x = true → W.testBit x = true ∨ (L.testBit x = false ∧ ∃ o, (o, x) ∈ Z ∧ ∃ k, (edM o).testBit k = true ∧ (k = i ∨ (wtM L i Z W).testBit k = true)))
  | [], _, _, h => .inl h
  | (o, j) :: r, W, x, h => by
    unfold wtM at h ⊢
    rcases wtM_ok r _ x h with h1 | ⟨h1, o', h2, h3⟩
    · split at h1
      · rename_i hc
        rw [Nat.testBit_or, tb_sb, Bool.or_eq_true, decide_eq_true_eq] at h1
        rcases h1 with h1 | rfl
        · exact .inl h1
        · rw [Bool.and_eq_true] at hc
          obtain ⟨k, k1, k2⟩ := and_some hc.2
          rw [Nat.testBit_or, tb_sb, Bool.or_eq_true, decide_eq_true_eq] at k2
          refine .inr ⟨by simpa using hc.1, o, List.mem_cons_self, k, k1, ?_⟩
          rcases k2 with k2 | k2
          · refine .inr (wtM_mono r _ k ?_)
            split
            · rw [Nat.testBit_or, k2]; rfl
            · exact k2
          · exact .inl k2.symm
      · exact .inl h1
    · exact .inr ⟨h1, o', List.mem_cons_of_mem _ h2, h3⟩
theorem apM_ok {ops : Array Oper} {x y : Oper} (h : apM ops x y = true) : x.apart ops y = true := by
  unfold apM at h
  rw [Bool.and_eq_true] at h
  obtain ⟨h1, h2⟩ := h
  unfold Oper.apart
  rw [Bool.and_eq_true]
  constructor
  · cases hd : x.dst with
    | none => rfl
    | some d =>
      have hb : (dsM x).testBit d = true := by simp [dsM, hd, tb_sb]
      have := and_zero h1 hb
      rw [Nat.testBit_or, Bool.or_eq_false_iff] at this
      obtain ⟨a1, a2⟩ := this
      unfold lkM at a1
      rw [tb_maskL] at a1
      simp only [decide_eq_false_iff_not] at a1
      show (!(y.looksAt ops).contains d && y.dst != some d) = true
      rw [Bool.and_eq_true]
      refine ⟨by simpa using a1, ?_⟩
      cases hy : y.dst with
      | none => rfl
      | some d' =>
        have : d' ≠ d := fun e => by subst e; simp [dsM, hy, tb_sb] at a2
        simp [this]
  · cases hd : y.dst with
    | none => rfl
    | some d =>
      have hb : (dsM y).testBit d = true := by simp [dsM, hd, tb_sb]
      have a1 := and_zero h2 hb
      unfold lkM at a1
      rw [tb_maskL] at a1
      simp only [decide_eq_false_iff_not] at a1
      show (!(x.looksAt ops).contains d) = true
      simpa using a1
theorem filter_one {f : Nat → Bool} {i : Nat} : ∀ (l : List Nat), l.Nodup → i ∈ l → (∀ j ∈ l, f j = true ↔ j = i) → l.filter f = [i]
  | [], _, h, _ => by cases h
  | x :: r, hn, h, hf => by
    rw [List.nodup_cons] at hn
    rw [List.filter_cons]
    by_cases e : x = i
    · subst e
      rw [if_pos ((hf x List.mem_cons_self).2 rfl)]
      congr 1
      rw [List.filter_eq_nil_iff]
      intro j hj hfj
      have := (hf j (List.mem_cons_of_mem _ hj)).1 hfj
      subst this
      exact hn.1 hj
    · have : f x = false := by
        cases hx : f x with
        | false => rfl
        | true => exact absurd ((hf x List.mem_cons_self).1 hx) e
      rw [this]
      have hi : i ∈ r := by
        rcases List.mem_cons.1 h with h | h
        · exact absurd h.symm e
        · exact h
      simpa using filter_one r hn.2 hi fun j hj => hf j (List.mem_cons_of_mem _ hj)
theorem ready_one {ops : Array Oper} {listed : Array Bool} {i : Nat} (h1 : i ∈ Region.ready .any ops listed) (h2 : ∀ j, j ∈ Region.ready .any ops listed → j = i) : Region.ready .any ops listed = [i] := by
  unfold Region.ready at h1 h2 ⊢
  rw [List.mem_filter] at h1
  refine filter_one _ List.nodup_range h1.1 fun j hj => ⟨fun hf => h2 j (List.mem_filter.2 ⟨hj, hf⟩), fun e => by subst e; exact h1.2⟩
theorem alts_ok {F : Nat → Option Sd} : ∀ (l : List (Oper × Nat)) (t : Sd), l.foldr (fun z acc => match acc with
        | none => none
        | some b => match F z.2 with
          | some a => some (.alt z.2 a b)
          | none => none) (some Sd.stop) = some t → (l = [] ∧ t = .stop) ∨ (∃ i r t', t = .alt i r t' ∧ (∃ o, (o, i) ∈ l) ∧ ∀ z ∈ l, ∃ x, inAlt z.2 x t ∧ F z.2 = some x)
  | [], t, h => by
    simp only [List.foldr_nil, Option.some.injEq] at h
    exact .inl ⟨rfl, h.symm⟩
  | z :: l, t, h => by
    rw [List.foldr_cons] at h
    split at h
    · cases h
    · rename_i b hb
      split at h
      · rename_i a ha
        cases h
        refine .inr ⟨z.2, a, b, rfl, ⟨z.1, List.mem_cons_self⟩, fun y hy => ?_⟩
        rcases List.mem_cons.1 hy with rfl | hy
        · exact ⟨a, .inl ⟨rfl, rfl⟩, ha⟩
        · rcases alts_ok l b hb with ⟨rfl, _⟩ | ⟨i, r, t', _, _, hall⟩
          · cases hy
          · obtain ⟨x, h1, h2⟩ := hall y hy
            exact ⟨x, .inr h1, h2⟩
      · cases h
theorem schedM_ok {C : Cfg P} {ops : Array Oper} : ∀ (n L : Nat) (listed : Array Bool) (l : Sd), Same ops L listed → schedM C ops ops.toList.zipIdx n L = some l → Valid C ops n l listed
  | 0, L, listed, l, hS, h => by
    simp only [schedM] at h
    split at h
    · rename_i hc
      cases h
      refine ⟨rfl, ?_⟩
      rw [List.eq_nil_iff_forall_not_mem]
      intro j hj
      obtain ⟨o, ho, hr⟩ := (ready_iff hS).1 hj
      have := List.all_eq_true.1 hc (o, j) (mem_zip.2 ho)
      rw [hr] at this; cases this
    · cases h
  | n + 1, L, listed, l, hS, h => by
    have wait : ∀ i j, (wtM L i ops.toList.zipIdx 0).testBit j = true → listed.getD j true = false ∧ ∃ oj, ops[j]? = some oj ∧ ∃ e ∈ oj.after, Region.binds .any e = true ∧ (e.on = i ∨ (wtM L i ops.toList.zipIdx 0).testBit e.on = true) := by
      intro i j hW
      rcases wtM_ok ops.toList.zipIdx 0 j hW with h1 | ⟨h1, o, h2, k, h3, h4⟩
      · simp at h1
      · have ho := mem_zip.1 h2
        obtain ⟨e, he, hb, rfl⟩ := tb_edM.1 h3
        exact ⟨by rw [hS.un (Array.getElem?_eq_some_iff.1 ho).1]; exact h1, o, ho, e, he, hb, h4⟩
    simp only [schedM] at h
    split at h
    · cases h
    · rename_i i _
      split at h
      · rename_i x hx
        have hi : i < ops.size := (Array.getElem?_eq_some_iff.1 hx).1
        split at h
        · rename_i hc
          rw [Bool.and_eq_true, Bool.not_eq_true'] at hc
          have hef : effAt C ops i = false := by unfold effAt; rw [hx]; exact hc.2
          split at h
          · rename_i hfr
            split at h
            · rename_i l' hl
              cases h
              have ih := schedM_ok n _ _ l' (hS.set hi) hl
              refine ⟨(ready_iff hS).2 ⟨x, hx, hc.1⟩, hef, ⟨fun j => (wtM L i ops.toList.zipIdx 0).testBit j, ?_, fun j => wait i j⟩, ih⟩
              intro oi hoi j oj hj hji hun hW
              rw [hx] at hoi; cases hoi
              have := List.all_eq_true.1 hfr (oj, j) (mem_zip.2 hj)
              rw [hS.un (Array.getElem?_eq_some_iff.1 hj).1] at hun
              have hW' : (wtM L i ops.toList.zipIdx 0).testBit j = false := hW
              simp only [hun, hW', Bool.or_false, Bool.or_eq_true, beq_iff_eq, Bool.and_eq_true, Bool.not_eq_true'] at this
              rcases this with h1 | h1
              · exact absurd h1 hji
              · exact ⟨apM_ok h1.1, h1.2.imp id .inl⟩
            · cases h
          · split at h
            · rename_i hfr
              split at h
              · rename_i l' hl
                cases h
                have ih := schedM_ok n _ _ l' (hS.set hi) hl
                refine ⟨(ready_iff hS).2 ⟨x, hx, hc.1⟩, hef, ⟨fun j => (wtM L i ops.toList.zipIdx 0).testBit j, ?_, fun j => wait i j⟩, ih⟩
                intro oi hoi j oj hj hji hun hW
                rw [hx] at hoi; cases hoi
                have := List.all_eq_true.1 hfr (oj, j) (mem_zip.2 hj)
                rw [hS.un (Array.getElem?_eq_some_iff.1 hj).1] at hun
                have hW' : (wtM L i ops.toList.zipIdx 0).testBit j = false := hW
                simp only [hun, hW', Bool.or_false, Bool.or_eq_true, beq_iff_eq] at this
                rcases this with h1 | h1
                · exact absurd h1 hji
                · exact ⟨apM_ok h1, .inr (.inr ⟨_, rfl, hW⟩)⟩
              · cases h
            · cases h
        · cases h
      · cases h
    · rename_i hnx
      rcases alts_ok (F := fun j => schedM C ops ops.toList.zipIdx n (L ||| sb j)) _ l h with ⟨he, _⟩ | ⟨i, r, t', rfl, ⟨o, ho⟩, hall⟩
      · -- something is ready
        exfalso
        unfold nxM at hnx
        split at hnx
        · cases hnx
        · split at hnx
          · rename_i z hz
            have h1 := List.find?_some hz
            have h2 := List.mem_of_find?_eq_some hz
            have : z ∈ (ops.toList.zipIdx).filter fun z => rdM L z.2 (edM z.1) := List.mem_filter.2 ⟨h2, h1⟩
            rw [he] at this
            cases this
          · cases hnx
      · rw [List.mem_filter] at ho
        refine ⟨(ready_iff hS).2 ⟨o, mem_zip.1 ho.1, ho.2⟩, fun j hj => ?_⟩
        obtain ⟨oj, hoj, hr⟩ := (ready_iff hS).1 hj
        obtain ⟨x, h1, h2⟩ := hall (oj, j) (List.mem_filter.2 ⟨mem_zip.2 hoj, hr⟩)
        exact ⟨x, h1, schedM_ok n _ _ x (hS.set (Array.getElem?_eq_some_iff.1 hoj).1) h2⟩
section
variable {r : Option Nat} {S : Nat → Option (Option Value)} {ops : Array Oper} {N : Nat} {D : List Deferred} {Q : Exit → Act → World → Prop}

theorem rxQ_ok {C : Cfg P} {i : Nat} {env : List Ent} {a : Act} {w : World} {K : List Ent → Prop} (hS : Wr S ops) (hF : Fit S ops N D env a) (h : rxQ C ops N i env w K) :
    ∃ o u env1, ops[i]? = some o ∧ K env1 ∧ Fit S ops N D env1 (a.put o.dst u) ∧ yieldsE P ops o u a w := by
  unfold rxQ at h
  cases ho : ops[i]? with
  | none => simp [ho] at h
  | some o =>
    simp only [ho, rxQo, putK_eq] at h
    have hSo := hS o (Array.mem_of_getElem? ho)
    split at h
    · exact False.elim h
    · rename_i hgd
      split at h
      · rename_i hput
        exact ⟨o, undef, _, rfl, h, hF.put hput hSo rfl (fun _ => rfl) (fun hn => absurd chT_nil hn), .inr ⟨gd_dead hF hgd, rfl⟩⟩
      · exact False.elim h
    · rename_i ch g hgd
      obtain ⟨hg, hwant⟩ := gd_ok hF hgd
      split at h
      · rename_i hput
        obtain ⟨v, hk, hq⟩ := qop_ok hF hg h
        replace hk := shareK_imp hk
        by_cases hc : chT ops a.tmps ch
        · exact ⟨o, v, _, rfl, hk, hF.put hput hSo hg (fun _ => rfl) (fun hn => absurd hc hn), .inl ⟨hwant.2 hc, hq hc⟩⟩
        · refine ⟨o, undef, _, rfl, hk, hF.put hput hSo hg (fun hh => absurd hh hc) (fun _ => rfl), .inr ⟨?_, rfl⟩⟩
          cases hw : Region.wanted o (yielded ops a.tmps) with
          | false => rfl
          | true => exact absurd (hwant.1 hw) hc
      · exact False.elim h

theorem rxQS_ok {C : Cfg P} {i : Nat} {env : List Ent} {a : Act} {w : World} {K : (World → Prop) → List Ent → Prop} (hS : Wr S ops) (hF : Fit S ops N D env a) (h : rxQS C ops N i env w K) :
    ∃ o u env1 p, ops[i]? = some o ∧ K p env1 ∧ Fit S ops N D env1 (a.put o.dst u) ∧ p w ∧ UpC p ∧ ∀ w2, p w2 → yieldsE P ops o u a w2 := by
  unfold rxQS at h
  cases ho : ops[i]? with
  | none => simp [ho] at h
  | some o =>
    simp only [ho, rxQSo, putK_eq] at h
    have hSo := hS o (Array.mem_of_getElem? ho)
    split at h
    · exact False.elim h
    · rename_i hgd
      split at h
      · rename_i hput
        exact ⟨o, undef, _, _, rfl, h, hF.put hput hSo rfl (fun _ => rfl) (fun hn => absurd chT_nil hn), trivial, fun _ _ _ _ => trivial, fun _ _ => .inr ⟨gd_dead hF hgd, rfl⟩⟩
      · exact False.elim h
    · rename_i ch g hgd
      obtain ⟨hg, hwant⟩ := gd_ok hF hgd
      split at h
      · rename_i hput
        obtain ⟨p, v, hk, hp, hu, hq⟩ := qopS_qop h
        replace hk := shareK_imp hk
        have hq' : ∀ w2, p w2 → chT ops a.tmps ch → ∀ w', Ext w2 w' → quietAt P o a w' v := fun w2 h2 hc => by
          obtain ⟨v', e, hh⟩ := qop_ok hF hg (hq w2 h2)
          subst e
          exact hh hc
        by_cases hc : chT ops a.tmps ch
        · exact ⟨o, v, _, p, rfl, hk, hF.put hput hSo hg (fun _ => rfl) (fun hn => absurd hc hn), hp, hu, fun w2 h2 => .inl ⟨hwant.2 hc, hq' w2 h2 hc⟩⟩
        · refine ⟨o, undef, _, p, rfl, hk, hF.put hput hSo hg (fun hh => absurd hh hc) (fun _ => rfl), hp, hu, fun w2 _ => .inr ⟨?_, rfl⟩⟩
          cases hw : Region.wanted o (yielded ops a.tmps) with
          | false => rfl
          | true => exact absurd (hwant.1 hw) hc
      · exact False.elim h

def pendT (pd : List (Nat × (World → Prop))) (j : Nat) (w : World) : Prop := ∀ e ∈ pd, e.1.testBit j = false → e.2 w
theorem rxS_alt {C : Cfg P} {pd : List (Nat × (World → Prop))} {env : List Ent} {w : World} {K : List Ent → World → Prop} {j : Nat} {x : Sd} : ∀ {t : Sd}, rxS C ops N t pd env w K → inAlt j x t → rxSt C ops N j pd env w (fun env w => rxS C ops N x pd env w K)
  | .nil, _, hi => hi.elim
  | .q .., _, hi => hi.elim
  | .stop, _, hi => hi.elim
  | .alt i r t, h, hi => by
    rw [rxS] at h
    have h1 : rxSt C ops N i pd env w (fun env w => rxS C ops N r pd env w K) := by
      unfold andS at h
      split at h
      · exact h
      · exact h.1
    rcases hi with ⟨rfl, rfl⟩ | hi
    · exact h1
    · refine rxS_alt (t := t) ?_ hi
      unfold andS at h
      split at h
      · cases hi
      · exact h.2
theorem rxV_ok {C : Cfg P} (hS : Wr S ops) (hsel : noSel ops = true) (hQ : ∀ c a w, ¬ Q (.panic c) a w) : ∀ (n : Nat) (l : Sd) (listed : Array Bool) (pd : List (Nat × (World → Prop))) (env : List Ent) (a : Act) (w : World) (K : List Ent → World → Prop), (∀ e ∈ pd, UpC e.2) → Fit S ops N D env a →
    Valid C ops n l listed → rxS C ops N l pd env w K → (∀ env a w w', K env w → Fit S ops N D env a → Ext w w' → Q .normal a w') →
    wpAnyC r P ops Q (effAt C ops) (pendT pd) n listed a w := by
  have hsel' : ∀ (j : Nat) (o : Oper), ops[j]? = some o → (∀ cs b, o.op ≠ .select cs b) ∧ ∀ c, o.op ≠ .defer c := fun j o ho => by
    have := List.all_eq_true.1 hsel o (Array.mem_toList_iff.2 (Array.mem_of_getElem? ho))
    constructor
    · intro cs b he; simp [he] at this
    · intro c he; simp [he] at this
  intro n
  induction n with
  | zero =>
    intro l listed pd env a w K _ hF hv h hK w' hw
    obtain ⟨rfl, hv⟩ := hv
    exact ⟨hv, hK env a w w' h hF hw⟩
  | succ n ih =>
    intro l listed pd env a w K hU hF hv h hK
    cases l with
    | nil => exact hv.elim
    | stop => exact hv.elim
    | q i m l =>
      obtain ⟨hrd, hei, ⟨W, hfr, hwt⟩, hv'⟩ := hv
      cases m with
      | none =>
        obtain ⟨o, u, env1, ho, hk, hF1, hy⟩ := rxQ_ok hS hF h
        have hrec := ih l (listed.setIfInBounds i true) pd env1 (a.put o.dst u) w K hU hF1 hv' hk hK
        exact wpAnyC_first (W := W) (a0 := a) ho hei hsel' hQ (fun _ _ h => h) n listed a w (fun j oj hj hji hun hW => by
          have := hfr o ho j oj hj hji hun hW
          refine ⟨this.1, ?_⟩
          rcases this.2 with h | h | ⟨w, h, _⟩
          · exact .inl (by unfold effAt; rw [hj]; exact h)
          · exact .inr (.inl h)
          · cases h) hwt hrd ⟨rfl, rfl⟩ hy hrec
      | some Wm =>
        obtain ⟨o, u, env1, p, ho, hk, hF1, hp, hu, hy⟩ := rxQS_ok hS hF h
        have hrec := ih l (listed.setIfInBounds i true) ((Wm, p) :: pd) env1 (a.put o.dst u) w K (fun e he => by
          rcases List.mem_cons.1 he with rfl | he
          · exact hu
          · exact hU e he) hF1 hv' hk hK
        exact wpAnyC_first (W := W) (a0 := a) (T' := pendT ((Wm, p) :: pd)) ho hei hsel' hQ (fun _ _ h e he => h e (List.mem_cons_of_mem _ he)) n listed a w (fun j oj hj hji hun hW => by
          have := hfr o ho j oj hj hji hun hW
          refine ⟨this.1, ?_⟩
          rcases this.2 with h | h | ⟨w, h, hb⟩
          · exact .inl (by unfold effAt; rw [hj]; exact h)
          · exact .inr (.inl h)
          · cases h
            exact .inr (.inr fun w1 hT => hy w1 (hT (Wm, p) List.mem_cons_self hb))) hwt hrd ⟨rfl, rfl⟩ (hy w hp) hrec
    | alt i l0 t =>
      obtain ⟨hri, hall⟩ := hv
      intro w' hw
      refine ⟨fun he => absurd hri (by rw [he]; simp), fun j hj => ?_⟩
      obtain ⟨l, hin, hv'⟩ := hall j hj
      have h := rxS_alt h hin
      have h' : rxOp C ops N j env w (fun env w => (effAt C ops j = true → pendT pd j w) ∧ rxS C ops N l pd env w K) := by
        cases pd with
        | nil =>
          have h : rxOp C ops N j env w (fun env w => rxS C ops N l [] env w K) := h
          have e : (fun (env : List Ent) (w : World) => (effAt C ops j = true → pendT [] j w) ∧ rxS C ops N l [] env w K) = fun env w => rxS C ops N l [] env w K := by
            funext env w
            exact propext ⟨fun h => h.2, fun h => ⟨fun _ e he => (by cases he), h⟩⟩
          rw [e]; exact h
        | cons e0 pd0 =>
          have h : rxOp C ops N j env w (fun env w => pendE C ops j w (e0 :: pd0) (rxS C ops N l (e0 :: pd0) env w K)) := h
          have e : (fun (env : List Ent) (w : World) => (effAt C ops j = true → pendT (e0 :: pd0) j w) ∧ rxS C ops N l (e0 :: pd0) env w K) = fun env w => pendE C ops j w (e0 :: pd0) (rxS C ops N l (e0 :: pd0) env w K) := by
            funext env w
            unfold pendE
            cases effAt C ops j with
            | true => exact propext ⟨fun h => pendK_iff.2 ⟨h.1 rfl, h.2⟩, fun h => ⟨fun _ => (pendK_iff.1 h).1, (pendK_iff.1 h).2⟩⟩
            | false => exact propext ⟨fun h => h.2, fun h => ⟨(fun hc => nomatch hc), h⟩⟩
          rw [e]; exact h
      refine wpOpIn_mono (fun a1 w1 hh => ?_) (rxOp_ext hS hF h' hw)
      obtain ⟨hx, env1, wr, ⟨hpd, hk⟩, hF1, hw1⟩ := hh
      exact ⟨hx, fun he e hm hb => hU e hm wr w1 ((hpd he) e hm hb) hw1, wpAnyC_ext (ih l _ pd env1 a1 wr K hU hF1 hv' hk hK) hw1⟩
theorem rxDS_ok {C : Cfg P} (hS : Wr S ops) (hsel : noSel ops = true) (hQ : ∀ c a w, ¬ Q (.panic c) a w) (env : List Ent) (a : Act) (w : World) (K : List Ent → World → Prop) (hF : Fit S ops N D env a)
    (h : rxDS C ops N env w K) (hK : ∀ env a w w', K env w → Fit S ops N D env a → Ext w w' → Q .normal a w') :
    wpAnyC r P ops Q (effAt C ops) (pendT []) ops.size (Array.replicate ops.size false) a w := by
  unfold rxDS rxS0 at h
  split at h
  · rename_i l hl
    have hv := schedM_ok ops.size 0 _ l (Same.zero ops) hl
    exact rxV_ok (r := r) hS hsel hQ ops.size l (Array.replicate ops.size false) [] env a w K (fun e he => by cases he) hF hv h hK
  · exact h.elim
end
end Go.RX

/-! Code, evaluated. -/
namespace Go.RX
variable {P : Program}

/-- Behind a region: what hangs on no guard. -/
def endEnv (l : List Ent) : List Ent :=
  match l.filter fun e => !e.ch.isEmpty with
  | [] => l
  | bad => l.filter fun e => e.ch.isEmpty && !(bad.any fun b => b.t == e.t)

def plain (l : List Ent) : Prop := ∀ e ∈ l, e.ch = [] ∧ e.g = none

theorem find_filter {p : Ent → Bool} : ∀ {l : List Ent} {t : Nat} {e : Ent}, findT (l.filter p) t = some e → (∀ x ∈ l, x.t = t → p x = true) → findT l t = some e
  | [], _, _, h, _ => by simp [findT] at h
  | x :: r, t, e, h, hp => by
    by_cases hx : p x = true
    · simp only [List.filter_cons, hx, if_true, findT] at h
      simp only [findT]
      split
      · rename_i ht; simp only [ht, if_true] at h; exact h
      · rename_i ht
        simp only [ht, if_false] at h
        exact find_filter h (fun y hy => hp y (List.mem_cons_of_mem _ hy))
    · simp only [List.filter_cons, hx] at h
      have hne : x.t ≠ t := fun ht => hx (hp x List.mem_cons_self ht)
      simp only [findT, hne, if_false]
      exact find_filter h (fun y hy => hp y (List.mem_cons_of_mem _ hy))

theorem find_t : ∀ {l : List Ent} {t : Nat} {e : Ent}, findT l t = some e → e.t = t
  | [], _, _, h => by simp [findT] at h
  | x :: r, t, e, h => by
    simp only [findT] at h
    split at h
    · cases h; assumption
    · exact find_t h

variable {S : Nat → Option (Option Value)} {N : Nat} {D : List Deferred} {env : List Ent} {a : Act}

theorem Fit.of_plain {ops ops' : Array Oper} (h : Fit S ops N D env a) (hp : plain env) : Fit S ops' N D env a := by
  have nil : ∀ (o : Array Oper), chT o a.tmps [] := fun o x hx => by cases hx
  refine ⟨h.off, h.size, h.defs, fun t e hf _ => h.yes t e hf (by rw [(hp e (find_mem hf)).1]; exact nil _), fun t e hf hn => absurd (by rw [(hp e (find_mem hf)).1]; exact nil _) hn, fun e hm => ?_, h.kno⟩
  rw [(hp e hm).2]
  exact (hp e hm).1

theorem endEnv_ok {ops ops' : Array Oper} (h : Fit S ops N D env a) : Fit S ops' N D (endEnv env) a ∧ plain (endEnv env) := by
  have hg : ∀ e ∈ env, e.ch = [] → e.g = none := fun e he hc => by
    have := h.gua e he
    cases hgg : e.g with
    | none => rfl
    | some γ => rw [hgg] at this; exact absurd hc this.1
  have nil : ∀ (o : Array Oper), chT o a.tmps [] := fun o x hx => by cases hx
  have hch : ∀ e ∈ endEnv env, e.ch = [] ∧ e ∈ env := by
    intro e he
    unfold endEnv at he
    split at he
    · rename_i hnil
      refine ⟨?_, he⟩
      have : e ∉ env.filter fun e => !e.ch.isEmpty := by rw [hnil]; simp
      simp [he] at this
      exact this
    · simp only [List.mem_filter, Bool.and_eq_true, List.isEmpty_iff] at he
      exact ⟨he.2.1, he.1⟩
  have hfind : ∀ t e, findT (endEnv env) t = some e → findT env t = some e := by
    intro t e he
    unfold endEnv at he
    split at he
    · exact he
    · rename_i bad hbad
      refine find_filter he fun x hx ht => ?_
      have hmem := find_mem he
      simp only [List.mem_filter, Bool.and_eq_true] at hmem
      have het := find_t he
      have hnb := hmem.2.2
      have hxch : x.ch.isEmpty = true := by
        cases hxe : x.ch.isEmpty with
        | true => rfl
        | false =>
          have hxb : x ∈ env.filter fun e => !e.ch.isEmpty := by simp [hx, hxe]
          have : (env.filter fun e => !e.ch.isEmpty).any (fun b => b.t == e.t) = true := List.any_eq_true.2 ⟨x, hxb, by simp [ht, het]⟩
          rw [this] at hnb
          simp at hnb
      have hany : (env.filter fun e => !e.ch.isEmpty).any (fun b => b.t == x.t) = false := by
        rw [ht, ← het]; simpa using hnb
      rw [hxch, hany]
      rfl
  have hp : plain (endEnv env) := fun e he => ⟨(hch e he).1, hg e (hch e he).2 (hch e he).1⟩
  refine ⟨⟨h.off, h.size, h.defs, fun t e hf _ => h.yes t e (hfind t e hf) (by rw [(hp e (find_mem hf)).1]; exact nil _), fun t e hf hn => absurd (by rw [(hp e (find_mem hf)).1]; exact nil _) hn, fun e hm => ?_, fun e hm => h.kno e (hch e hm).2⟩, hp⟩
  rw [(hp e hm).2]
  exact (hp e hm).1

def firstR : Code → Option Nat
  | .region id _ _ => some id
  | .seq a b => match firstR a with
    | some i => some i
    | none => firstR b
  | .cond _ a b => match firstR a with
    | some i => some i
    | none => firstR b
  | .block _ b => firstR b
  | .loop b => firstR b
  | _ => none

def dsts (ops : Array Oper) : List Nat := ops.toList.filterMap (·.dst)
def writes : Code → List Nat
  | .region _ ops _ => dsts ops
  | .seq a b => writes a ++ writes b
  | .cond _ a b => writes a ++ writes b
  | .block _ b => writes b
  | .loop b => writes b
  | _ => []

/-- What a loop carries. -/
abbrev Slots := List (Nat × El)
def embE : (l : Slots) → ElsT (l.map (·.2)) → List Ent
  | [], _ => []
  | (t, s) :: r, x => ⟨t, [], none, s.emb x.1, none⟩ :: embE r x.2
def projE : (l : Slots) → List Ent → Option (ElsT (l.map (·.2)))
  | [], _ => some ()
  | (t, s) :: r, env => match findT env t with
    | some e => match s.proj e.v, projE r env with
      | some x, some y => some (x, y)
      | _, _ => none
    | none => none

def rxReg (C : Cfg P) (N : Nat) (ops : Array Oper) (draw : Bool) (env : List Ent) (w : World) (K : List Ent → World → Prop) : Prop :=
  if draw then
    if noSel ops then rxDS C ops N env w (fun env w => forceL (endEnv env) fun env => K env w) else False
  else rxL C ops N (List.range ops.size) env w (fun env w => forceL (endEnv env) fun env => K env w)

/-- How a code is read: as it stands; up to a region, and there handed on; from a region on. -/
inductive Md where
  | run | to (b : Nat) (K : List Ent → World → Prop) | frm (b : Nat)
def atR (b : Nat) (y : Code) : Bool := match firstR y with
  | some i => Nat.beq i b
  | none => false
def sufC (b : Nat) : Code → Option Code
  | .seq _ y => match atR b y with
    | true => some y
    | false => sufC b y
  | _ => none
def preW (b : Nat) : Code → List Nat
  | .seq x y => writes x ++ (match atR b y with
    | true => []
    | false => preW b y)
  | _ => []
/-- A cut: ahead of a region; what is carried over it. -/
def hasR (b : Nat) : Code → Bool
  | .seq x y => match atR b x with
    | true => true
    | false => hasR b y
  | c => atR b c
def cutOf (ann : Nat → Slots) (c y : Code) : Option (Nat × Slots) := match firstR c with
  | none => none
  | some a => match ann (1000000 + a) with
    | [] => none
    | (b, _) :: sl => match hasR b y with
      | true => some (b, sl)
      | false => none
def cutK (sl : Slots) (J : ElsT (sl.map (·.2)) → World → Prop) (env : List Ent) (w : World) : Prop := match projE sl env with
  | some s => J s w
  | none => False

def rxCodeM (C : Cfg P) (ann : Nat → Slots) (N : Nat) : Code → Md → List Ent → World → (List Ent → World → Prop) → (Nat → List Ent → World → Prop) → (List Ent → World → Prop) → Prop
  | .skip, .run, env, w, Kn, _, _ => Kn env w
  | .region _ ops draw, .run, env, w, Kn, _, _ => rxReg C N ops draw env w Kn
  | .seq x y, m, env, w, Kn, Kx, Kr => match m with
    | .run => match cutOf ann x y with
      | none => rxCodeM C ann N x .run env w (fun env w => rxCodeM C ann N y .run env w Kn Kx Kr) Kx Kr
      | some (b, sl) => ∃ J : ElsT (sl.map (·.2)) → World → Prop,
          rxCodeM C ann N x .run env w (fun env w => match atR b y with
            | true => cutK sl J env w
            | false => rxCodeM C ann N y (.to b (cutK sl J)) env w Kn Kx Kr) Kx Kr ∧
          ∀ s w1, J s w1 → forceL (embE sl s ++ env.filter fun e => !(preW b (.seq x y)).contains e.t) fun env1 => match atR b y with
            | true => rxCodeM C ann N y .run env1 w1 Kn Kx Kr
            | false => rxCodeM C ann N y (.frm b) env1 w1 Kn Kx Kr
    | .to b K => rxCodeM C ann N x .run env w (fun env w => match atR b y with
            | true => K env w
            | false => rxCodeM C ann N y (.to b K) env w Kn Kx Kr) Kx Kr
    | .frm b => match atR b y with
            | true => rxCodeM C ann N y .run env w Kn Kx Kr
            | false => rxCodeM C ann N y (.frm b) env w Kn Kx Kr
  | .cond c x y, .run, env, w, Kn, Kx, Kr => match evE env [] c with
    | some (.bool b) => brP b (rxCodeM C ann N x .run env w Kn Kx Kr) (rxCodeM C ann N y .run env w Kn Kx Kr)
    | _ => False
  | .block id x, .run, env, w, Kn, Kx, Kr => rxCodeM C ann N x .run env w Kn (fun id' env w => if id' = id then Kn env w else Kx id' env w) Kr
  | .loop x, .run, env, w, _, Kx, Kr =>
    let sl := ann ((firstR x).getD 0)
    match projE sl env with
    | none => False
    | some s0 => ∃ I : Nat → ElsT (sl.map (·.2)) → World → Prop, (∃ n, ∀ w1, Ext w w1 → I n s0 w1) ∧
        ∀ n s w1, I n s w1 → forceL (embE sl s ++ env.filter fun e => !(writes x).contains e.t) fun env1 => rxCodeM C ann N x .run env1 w1
          (fun env2 w2 => match projE sl env2 with
            | some s2 => ∀ w3, Ext w2 w3 → ∃ n', n' < n ∧ I n' s2 w3
            | none => False) Kx Kr
  | .exit id, .run, env, w, _, Kx, _ => Kx id env w
  | .ret, .run, env, w, _, _, Kr => Kr env w
  | _, _, _, _, _, _, _ => False
@[reducible] def rxCode (C : Cfg P) (ann : Nat → Slots) (N : Nat) (c : Code) (env : List Ent) (w : World) (Kn : List Ent → World → Prop) (Kx : Nat → List Ent → World → Prop) (Kr : List Ent → World → Prop) : Prop :=
  rxCodeM C ann N c .run env w Kn Kx Kr

/-- What is asked at a code's end. -/
def Qp (S : Nat → Option (Option Value)) (N : Nat) (D : List Deferred) (Kn : List Ent → World → Prop) (Kx : Nat → List Ent → World → Prop) (Kr : List Ent → World → Prop) : Exit → Act → World → Prop
  | .normal, a, w => ∃ env wr, Kn env wr ∧ plain env ∧ Fit S #[] N D env a ∧ Ext wr w
  | .exit id, a, w => ∃ env wr, Kx id env wr ∧ plain env ∧ Fit S #[] N D env a ∧ Ext wr w
  | .ret, a, w => ∃ env wr, Kr env wr ∧ plain env ∧ Fit S #[] N D env a ∧ Ext wr w
  | _, _, _ => False


theorem wr_dsts {ops : Array Oper} (h : ∀ k ∈ dsts ops, S k = none) : Wr S ops := fun o ho k hk => h k (by
  simp only [dsts, List.mem_filterMap]
  exact ⟨o, by simpa using ho, hk⟩)

theorem rxReg_ok {r : Option Nat} {C : Cfg P} {id : Nat} {ops : Array Oper} {draw : Bool} {w w' : World} {Kn : List Ent → World → Prop} {Kx : Nat → List Ent → World → Prop} {Kr : List Ent → World → Prop}
    (hS : ∀ k ∈ dsts ops, S k = none) (hp : plain env) (hF : Fit S #[] N D env a) (h : rxReg C N ops draw env w Kn) (hw : Ext w w') :
    (Code.region id ops draw).wpIn (WF r) 0 P (Qp S N D Kn Kx Kr) a w' := by
  have hF1 : Fit S ops N D env a := hF.of_plain hp
  have hWr := wr_dsts hS
  have hend : ∀ env a w w', Kn (endEnv env) w → Fit S ops N D env a → Ext w w' → Qp S N D Kn Kx Kr .normal a w' := fun env a w w' hk hf hx =>
    ⟨_, w, hk, (endEnv_ok (ops' := #[]) hf).2, (endEnv_ok hf).1, hx⟩
  have hQ : ∀ c a w, ¬ Qp S N D Kn Kx Kr (.panic c) a w := fun _ _ _ h => h
  simp only [rxReg, forceL_eq] at h
  cases draw with
  | false => exact wpIn_region (rxL_ok hWr _ env a w w' _ hF1 (by simpa using h) hw hend)
  | true =>
    simp only [if_true] at h
    split at h
    · rename_i hsel
      exact wpIn_region_any C.mixed (wpAnyC_any _ _ _ _ (wpAnyC_ext (rxDS_ok (C := C) hWr hsel hQ env a w _ hF1 h hend) (hw.trans (Ext.drew _))))
    · exact False.elim h

theorem mem_embE : ∀ {l : Slots} {s : ElsT (l.map (·.2))} {e : Ent}, e ∈ embE l s → e.ch = [] ∧ e.g = none
  | [], _, _, h => by simp [embE] at h
  | (t, sc) :: r, s, e, h => by
    simp only [embE, List.mem_cons] at h
    rcases h with rfl | h
    · exact ⟨rfl, rfl⟩
    · exact mem_embE h

theorem embE_k : ∀ {l : Slots} {s : ElsT (l.map (·.2))} {e : Ent}, e ∈ embE l s → e.k = none
  | [], _, _, h => by simp [embE] at h
  | (t, sc) :: r, s, e, h => by
    simp only [embE, List.mem_cons] at h
    rcases h with rfl | h
    · rfl
    · exact embE_k h

theorem find_append : ∀ {l m : List Ent} {t : Nat} {e : Ent}, findT (l ++ m) t = some e → (findT l t = some e) ∨ (findT l t = none ∧ findT m t = some e)
  | [], m, t, e, h => .inr ⟨rfl, h⟩
  | x :: r, m, t, e, h => by
    simp only [List.cons_append, findT] at h ⊢
    split at h
    · rename_i ht; exact .inl (by rw [if_pos ht]; exact h)
    · rename_i ht; rw [if_neg ht]; exact find_append h

theorem find_embE : ∀ {l : Slots} {env : List Ent} {s : ElsT (l.map (·.2))} {t : Nat} {e : Ent}, projE l env = some s → findT (embE l s) t = some e → ∃ e', findT env t = some e' ∧ e'.v = e.v
  | [], _, _, _, _, _, h => by simp [embE, findT] at h
  | (t0, sc) :: r, env, s, t, e, hp, h => by
    simp only [projE] at hp
    split at hp
    · rename_i e0 he0
      split at hp
      · rename_i x y hx hy
        cases hp
        simp only [embE, findT] at h
        split at h
        · rename_i ht
          cases h
          subst ht
          exact ⟨e0, he0, (El.proj_emb hx).symm⟩
        · exact find_embE hy h
      · cases hp
    · cases hp

theorem find_sub {l : List Ent} {p : Ent → Bool} {t : Nat} {e : Ent} (h : findT (l.filter p) t = some e) : e ∈ l ∧ p e = true := by
  have := find_mem h
  simpa using this


theorem wpIn_loopR {F : Fence} {m : Nat} {Q : Exit → Act → World → Prop} {c : Code} (R : Nat → Act → World → Prop) {n0 : Nat} {a : Act} {w : World} (h0 : R n0 a w)
    (round : ∀ n a w, R n a w → c.wpIn F m P (Exit.then (fun a' w' => ∃ n', n' < n ∧ R n' a' w') Q) a w) : (Code.loop c).wpIn F m P Q a w := by
  intro b k cs hro hb hr
  have key : ∀ j a w, R j a w →
      ∃ e a' w', Q e a' w' ∧ ArrivesIn (Machine.fenced P F) P (lone (b.atR a (.code c :: .inLoop c :: k)) cs w) b k cs e a' w' := by
    intro j
    induction j using Nat.strongRecOn with
    | _ j ih =>
      intro a w hI
      obtain ⟨e, a₁, w₁, hq, harr⟩ := round j a w hI b (.inLoop c :: k) cs hro hb hr
      cases e with
      | normal =>
        obtain ⟨n', hlt, hI₁⟩ := hq
        obtain ⟨e₂, a₂, w₂, hq₂, harr₂⟩ := ih n' hlt a₁ w₁ hI₁
        exact ⟨e₂, a₂, w₂, hq₂, .of_steps (StepsIn.trans harr (.one (fenced_calm hb hr rfl) stepR_inLoop)) harr₂⟩
      | exit id => exact ⟨_, a₁, w₁, hq, .pass (x := .inLoop c) rfl (fun _ _ => .inl (by simp)) harr⟩
      | goto l => exact ⟨_, a₁, w₁, hq, .pass (x := .inLoop c) rfl (fun _ _ => .inl (by simp)) harr⟩
      | ret => exact ⟨_, a₁, w₁, hq, .pass (x := .inLoop c) rfl (fun _ _ => .inl (by simp)) harr⟩
      | panic ch => exact ⟨_, a₁, w₁, hq, .pass (x := .inLoop c) rfl (fun _ _ => .inl (by simp)) harr⟩
      | outgrown => exact ⟨_, a₁, w₁, hq, .pass (x := .inLoop c) rfl (fun _ _ => .inl (by simp)) harr⟩
  obtain ⟨e, a', w', hq, harr⟩ := key _ a w h0
  exact ⟨e, a', w', hq, .of_steps (.one (fenced_calm hb hr rfl) stepR_loop) harr⟩

theorem pre_wr (b : Nat) (c : Code) : ∀ t : Nat, t ∈ preW b c → t ∈ writes c := by
  induction c with
  | seq x y _ ihy =>
    intro t h
    simp only [preW, List.mem_append] at h
    simp only [writes, List.mem_append]
    rcases h with h | h
    · exact .inl h
    · cases e : atR b y with
      | true => rw [e] at h; cases h
      | false => rw [e] at h; exact .inr (ihy t h)
  | _ => intro t h; cases h
/-- What is shown of a code, in each way to read it. -/
structure MdOk (P : Program) (r : Option Nat) (C : Cfg P) (ann : Nat → Slots) (N : Nat) (D : List Deferred) (c : Code) : Prop where
  run : ∀ (S : Nat → Option (Option Value)) (env : List Ent) (a : Act) (w w' : World) (Kn : List Ent → World → Prop) (Kx : Nat → List Ent → World → Prop) (Kr : List Ent → World → Prop),
    (∀ k ∈ writes c, S k = none) → plain env → Fit S #[] N D env a → rxCodeM C ann N c .run env w Kn Kx Kr → Ext w w' → c.wpIn (WF r) 0 P (Qp S N D Kn Kx Kr) a w'
  to : ∀ (b : Nat) (K : List Ent → World → Prop) (S : Nat → Option (Option Value)) (env : List Ent) (a : Act) (w w' : World) (Kn : List Ent → World → Prop) (Kx : Nat → List Ent → World → Prop) (Kr : List Ent → World → Prop) (Q : Exit → Act → World → Prop),
    (∀ k ∈ preW b c, S k = none) → plain env → Fit S #[] N D env a → rxCodeM C ann N c (.to b K) env w Kn Kx Kr → Ext w w' → (∀ id a w, Qp S N D Kn Kx Kr (.exit id) a w → Q (.exit id) a w) → (∀ a w, Qp S N D Kn Kx Kr .ret a w → Q .ret a w) →
    (∀ y env1 a1 w1 w1', sufC b c = some y → K env1 w1 → plain env1 → Fit S #[] N D env1 a1 → Ext w1 w1' → y.wpIn (WF r) 0 P Q a1 w1') → c.wpIn (WF r) 0 P Q a w'
  frm : ∀ (b : Nat) (S : Nat → Option (Option Value)) (env : List Ent) (a : Act) (w w' : World) (Kn : List Ent → World → Prop) (Kx : Nat → List Ent → World → Prop) (Kr : List Ent → World → Prop) (y : Code),
    sufC b c = some y → (∀ k ∈ writes c, S k = none) → plain env → Fit S #[] N D env a → rxCodeM C ann N c (.frm b) env w Kn Kx Kr → Ext w w' → y.wpIn (WF r) 0 P (Qp S N D Kn Kx Kr) a w'
theorem MdOk.of {r : Option Nat} {C : Cfg P} {ann : Nat → Slots} {c : Code} (h : ∀ (S : Nat → Option (Option Value)) (env : List Ent) (a : Act) (w w' : World) (Kn : List Ent → World → Prop) (Kx : Nat → List Ent → World → Prop) (Kr : List Ent → World → Prop),
    (∀ k ∈ writes c, S k = none) → plain env → Fit S #[] N D env a → rxCodeM C ann N c .run env w Kn Kx Kr → Ext w w' → c.wpIn (WF r) 0 P (Qp S N D Kn Kx Kr) a w')
    (h1 : ∀ b K env w Kn Kx Kr, ¬ rxCodeM C ann N c (.to b K) env w Kn Kx Kr) (h2 : ∀ b env w Kn Kx Kr, ¬ rxCodeM C ann N c (.frm b) env w Kn Kx Kr) : MdOk P r C ann N D c :=
  ⟨h, fun b K _ env _ w _ Kn Kx Kr _ _ _ _ hk => absurd hk (h1 b K env w Kn Kx Kr), fun b _ env _ w _ Kn Kx Kr _ _ _ _ _ hk => absurd hk (h2 b env w Kn Kx Kr)⟩
theorem rxCodeM_ok {r : Option Nat} {C : Cfg P} {ann : Nat → Slots} : ∀ c : Code, MdOk P r C ann N D c := by
  intro c
  induction c with
  | skip => exact .of (fun S env a w w' Kn Kx Kr _ hp hF h hw => wpIn_skip ⟨env, w, h, hp, hF, hw⟩) (fun _ _ _ _ _ _ _ h => h) (fun _ _ _ _ _ _ h => h)
  | region id ops draw => exact .of (fun S env a w w' Kn Kx Kr hS hp hF h hw => rxReg_ok hS hp hF h hw) (fun _ _ _ _ _ _ _ h => h) (fun _ _ _ _ _ _ h => h)
  | seq x y ihx ihy =>
    refine ⟨?_, ?_, ?_⟩
    · intro S env a w w' Kn Kx Kr hS hp hF h hw
      simp only [rxCodeM] at h
      split at h
      · refine wpIn_seq (wpIn_mono (ihx.run S env a w w' _ Kx Kr (fun k hk => hS k (by simp [writes, hk])) hp hF h hw) ?_)
        intro e a1 w1 hq
        cases e with
        | normal =>
          obtain ⟨env1, wr, hk, hp1, hF1, hw1⟩ := hq
          exact ihy.run S env1 a1 wr w1 Kn Kx Kr (fun k hk => hS k (by simp [writes, hk])) hp1 hF1 hk hw1
        | _ => exact hq
      · rename_i b sl _
        obtain ⟨J, hx, hJ⟩ := h
        simp only [forceL_eq] at hJ
        let S1 : Nat → Option (Option Value) := fun t => if (preW b (.seq x y)).contains t then none else some (a.tmps[t]?)
        let keep := env.filter fun e => !(preW b (.seq x y)).contains e.t
        have nil : ∀ (tm : Array Value), chT #[] tm [] := fun tm x hx => by cases hx
        have hkeep : ∀ t e, findT keep t = some e → a.tmps[t]? = some e.v ∧ (preW b (.seq x y)).contains t = false ∧ e.ch = [] := by
          intro t e he
          have ht := find_t he
          have hs := find_sub he
          have hnw : (preW b (.seq x y)).contains t = false := by rw [← ht]; simpa using hs.2
          have hf : findT env t = some e := find_filter he (fun y _ hyt => by rw [hyt, hnw]; rfl)
          exact ⟨hF.yes t e hf (by rw [(hp e hs.1).1]; exact nil _), hnw, (hp e hs.1).1⟩
        -- the head of a round
        have head : ∀ (env2 : List Ent) (a2 : Act) (s : ElsT (sl.map (·.2))), plain env2 → Fit S1 #[] N D env2 a2 → projE sl env2 = some s → Fit S1 #[] N D (embE sl s ++ keep) a2 ∧ plain (embE sl s ++ keep) := by
          intro env2 a2 s hp2 hF2 hpr
          have hpl : plain (embE sl s ++ keep) := fun e he => by
            rcases List.mem_append.1 he with he | he
            · exact mem_embE he
            · exact hp e (by simpa [keep] using (List.mem_filter.1 he).1)
          refine ⟨⟨hF2.off, hF2.size, hF2.defs, fun t e he _ => ?_, fun t e he hn => absurd (by rw [(hpl e (find_mem he)).1]; exact nil _) hn, (fun e he => by rw [(hpl e he).2]; exact (hpl e he).1), fun e he b hb => by
            rcases List.mem_append.1 he with he | he
            · rw [embE_k he] at hb; cases hb
            · exact hF.kno e (List.mem_filter.1 he).1 b hb⟩, hpl⟩
          rcases find_append he with he | ⟨_, he⟩
          · obtain ⟨e', he', hv⟩ := find_embE hpr he
            rw [← hv]
            exact hF2.yes t e' he' (by rw [(hp2 e' (find_mem he')).1]; exact nil _)
          · obtain ⟨hv, hnw, _⟩ := hkeep t e he
            have := hF2.off t (a.tmps[t]?) (by simp only [S1, hnw]; rfl)
            rw [this, hv]
        have hFS1 : Fit S1 #[] N D env a := ⟨fun t x hx => by
          simp only [S1] at hx
          split at hx
          · cases hx
          · cases hx; rfl, hF.size, hF.defs, hF.yes, hF.no, hF.gua, hF.kno⟩
        have back : ∀ {env2 : List Ent} {a2 : Act}, Fit S1 #[] N D env2 a2 → Fit S #[] N D env2 a2 := fun {env2 a2} hf => ⟨fun t z hy => by
          have hnw : (preW b (.seq x y)).contains t = false := by
            cases hc : (preW b (.seq x y)).contains t with
            | false => rfl
            | true => have := hS t (pre_wr b _ t (by simpa using hc)); rw [this] at hy; cases hy
          have h1 := hf.off t (a.tmps[t]?) (by simp only [S1, hnw]; rfl)
          rw [h1]; exact hF.off t z hy, hf.size, hf.defs, hf.yes, hf.no, hf.gua, hf.kno⟩
        have hS1 : ∀ k ∈ preW b (.seq x y), S1 k = none := fun k hk => by simp [S1, hk]
        have hS1x : ∀ k ∈ writes x, S1 k = none := fun k hk => hS1 k (by simp [preW, hk])
        have bx : ∀ (id : Nat) (a : Act) (w : World), Qp S1 N D Kn Kx Kr (.exit id) a w → Qp S N D Kn Kx Kr (.exit id) a w := fun id a w ⟨env3, wr, hk, hp3, hF3, hw3⟩ => ⟨env3, wr, hk, hp3, back hF3, hw3⟩
        have br : ∀ (a : Act) (w : World), Qp S1 N D Kn Kx Kr .ret a w → Qp S N D Kn Kx Kr .ret a w := fun a w ⟨env3, wr, hk, hp3, hF3, hw3⟩ => ⟨env3, wr, hk, hp3, back hF3, hw3⟩
        have hy : ∀ k ∈ writes y, S k = none := fun k hk => hS k (by simp [writes, hk])
        refine wpIn_seq (wpIn_mono (ihx.run S1 env a w w' _ Kx Kr hS1x hp hFS1 hx hw) ?_)
        intro e a1 w1 hq
        cases e with
        | normal =>
          obtain ⟨env1, wr, hk, hp1, hF1, hw1⟩ := hq
          cases hat : atR b y with
          | true =>
            simp only [hat] at hk hJ
            unfold cutK at hk
            split at hk
            · rename_i s hs
              obtain ⟨hF5, hp5⟩ := head env1 a1 s hp1 hF1 hs
              exact ihy.run S _ a1 wr w1 Kn Kx Kr hy hp5 (back hF5) (hJ s wr hk) hw1
            · exact hk.elim
          | false =>
            simp only [hat] at hk hJ
            have hS1y : ∀ k ∈ preW b y, S1 k = none := fun k hk => hS1 k (by simp [preW, hat, hk])
            refine ihy.to b (cutK sl J) S1 env1 a1 wr w1 Kn Kx Kr _ hS1y hp1 hF1 hk hw1 bx br ?_
            intro y' env2 a2 w2 w2' hsuf hK hp2 hF2 hw2
            unfold cutK at hK
            split at hK
            · rename_i s hs
              obtain ⟨hF5, hp5⟩ := head env2 a2 s hp2 hF2 hs
              exact ihy.frm b S _ a2 w2 w2' Kn Kx Kr y' hsuf hy hp5 (back hF5) (hJ s w2 hK) hw2
            · exact hK.elim
        | exit id => exact bx id a1 w1 hq
        | ret => exact br a1 w1 hq
        | _ => exact hq
    · intro b K S env a w w' Kn Kx Kr Q hS hp hF h hw hx hr hend
      simp only [rxCodeM] at h
      refine wpIn_seq (wpIn_mono (ihx.run S env a w w' _ Kx Kr (fun k hk => hS k (by simp [preW, hk])) hp hF h hw) ?_)
      intro e a1 w1 hq
      cases e with
      | normal =>
        obtain ⟨env1, wr, hk, hp1, hF1, hw1⟩ := hq
        cases hat : atR b y with
        | true =>
          simp only [hat] at hk
          exact hend y env1 a1 wr w1 (by simp [sufC, hat]) hk hp1 hF1 hw1
        | false =>
          simp only [hat] at hk
          exact ihy.to b K S env1 a1 wr w1 Kn Kx Kr Q (fun k hk => hS k (by simp [preW, hat, hk])) hp1 hF1 hk hw1 hx hr (fun y' env2 a2 w2 w2' hsuf => hend y' env2 a2 w2 w2' (by simp [sufC, hat, hsuf]))
      | exit id => exact hx id a1 w1 hq
      | ret => exact hr a1 w1 hq
      | _ => exact hq.elim
    · intro b S env a w w' Kn Kx Kr y' hsuf hS hp hF h hw
      simp only [rxCodeM] at h
      have hy : ∀ k ∈ writes y, S k = none := fun k hk => hS k (by simp [writes, hk])
      cases hat : atR b y with
      | true =>
        simp only [hat] at h
        simp only [sufC, hat, Option.some.injEq] at hsuf
        subst hsuf
        exact ihy.run S env a w w' Kn Kx Kr hy hp hF h hw
      | false =>
        simp only [hat] at h
        simp only [sufC, hat] at hsuf
        exact ihy.frm b S env a w w' Kn Kx Kr y' hsuf hy hp hF h hw
  | cond c x y ihx ihy =>
    refine .of ?_ (fun _ _ _ _ _ _ _ h => h) (fun _ _ _ _ _ _ h => h)
    intro S env a w w' Kn Kx Kr hS hp hF h hw
    simp only [rxCodeM] at h
    split at h
    · rename_i b hb
      have hev := hF.ev (ch := []) (fun _ hx => by cases hx) hb
      refine wpIn_cond_split hev (fun ht => ihx.run S env a w w' Kn Kx Kr (fun k hk => hS k (by simp [writes, hk])) hp hF (brP_true h ht) hw) (fun ht => ihy.run S env a w w' Kn Kx Kr (fun k hk => hS k (by simp [writes, hk])) hp hF (brP_false h ht) hw)
    · exact False.elim h
  | block id x ih =>
    refine .of ?_ (fun _ _ _ _ _ _ _ h => h) (fun _ _ _ _ _ _ h => h)
    intro S env a w w' Kn Kx Kr hS hp hF h hw
    refine wpIn_block (wpIn_mono (ih.run S env a w w' Kn _ Kr hS hp hF h hw) ?_)
    intro e a1 w1 hq
    cases e with
    | exit id' =>
      obtain ⟨env1, wr, hk, rest⟩ := hq
      simp only [Exit.inBlock]
      split
      · rename_i he
        simp only [he, if_true] at hk
        exact ⟨env1, wr, hk, rest⟩
      · rename_i he
        simp only [he, if_false] at hk
        exact ⟨env1, wr, hk, rest⟩
    | _ => exact hq
  | exit id => exact .of (fun S env a w w' Kn Kx Kr _ hp hF h hw => wpIn_exit ⟨env, w, h, hp, hF, hw⟩) (fun _ _ _ _ _ _ _ h => h) (fun _ _ _ _ _ _ h => h)
  | ret => exact .of (fun S env a w w' Kn Kx Kr _ hp hF h hw => wpIn_ret ⟨env, w, h, hp, hF, hw⟩) (fun _ _ _ _ _ _ _ h => h) (fun _ _ _ _ _ _ h => h)
  | loop x ih =>
    refine .of ?_ (fun _ _ _ _ _ _ _ h => h) (fun _ _ _ _ _ _ h => h)
    intro S env a w w' Kn Kx Kr hS hp hF h hw
    simp only [rxCodeM, forceL_eq] at h
    split at h
    · exact False.elim h
    · rename_i s0 hs0
      obtain ⟨I, ⟨n0, h0⟩, hstep⟩ := h
      let sl := ann ((firstR x).getD 0)
      -- what no round writes
      let S1 : Nat → Option (Option Value) := fun t => if (writes x).contains t then none else some (a.tmps[t]?)
      let keep := env.filter fun e => !(writes x).contains e.t
      have nil : ∀ (tm : Array Value), chT #[] tm [] := fun tm x hx => by cases hx
      have hkeep : ∀ t e, findT keep t = some e → a.tmps[t]? = some e.v ∧ (writes x).contains t = false ∧ e.ch = [] := by
        intro t e he
        have ht := find_t he
        have hs := find_sub he
        have hnw : (writes x).contains t = false := by rw [← ht]; simpa using hs.2
        have hf : findT env t = some e := find_filter he (fun y _ hyt => by rw [hyt, hnw]; rfl)
        exact ⟨hF.yes t e hf (by rw [(hp e hs.1).1]; exact nil _), hnw, (hp e hs.1).1⟩
      -- the head of a round
      have head : ∀ (env2 : List Ent) (a2 : Act) (s : ElsT (sl.map (·.2))), plain env2 → Fit S1 #[] N D env2 a2 → projE sl env2 = some s → Fit S1 #[] N D (embE sl s ++ keep) a2 ∧ plain (embE sl s ++ keep) := by
        intro env2 a2 s hp2 hF2 hpr
        have hpl : plain (embE sl s ++ keep) := fun e he => by
          rcases List.mem_append.1 he with he | he
          · exact mem_embE he
          · exact hp e (by simpa [keep] using (List.mem_filter.1 he).1)
        refine ⟨⟨hF2.off, hF2.size, hF2.defs, fun t e he _ => ?_, fun t e he hn => absurd (by rw [(hpl e (find_mem he)).1]; exact nil _) hn, (fun e he => by rw [(hpl e he).2]; exact (hpl e he).1), fun e he b hb => by
          rcases List.mem_append.1 he with he | he
          · rw [embE_k he] at hb; cases hb
          · exact hF.kno e (List.mem_filter.1 he).1 b hb⟩, hpl⟩
        rcases find_append he with he | ⟨_, he⟩
        · obtain ⟨e', he', hv⟩ := find_embE hpr he
          rw [← hv]
          exact hF2.yes t e' he' (by rw [(hp2 e' (find_mem he')).1]; exact nil _)
        · obtain ⟨hv, hnw, _⟩ := hkeep t e he
          have := hF2.off t (a.tmps[t]?) (by simp only [S1, hnw]; rfl)
          rw [this, hv]
      have hFS1 : Fit S1 #[] N D env a := ⟨fun t x hx => by
        simp only [S1] at hx
        split at hx
        · cases hx
        · cases hx; rfl, hF.size, hF.defs, hF.yes, hF.no, hF.gua, hF.kno⟩
      have back : ∀ {env2 : List Ent} {a2 : Act}, Fit S1 #[] N D env2 a2 → Fit S #[] N D env2 a2 := fun {env2 a2} hf => ⟨fun t y hy => by
        have hnw : (writes x).contains t = false := by
          cases hc : (writes x).contains t with
          | false => rfl
          | true => have := hS t (by simpa [writes] using hc); rw [this] at hy; cases hy
        have h1 := hf.off t (a.tmps[t]?) (by simp only [S1, hnw]; rfl)
        rw [h1]; exact hF.off t y hy, hf.size, hf.defs, hf.yes, hf.no, hf.gua, hf.kno⟩
      have hS1 : ∀ k ∈ writes x, S1 k = none := fun k hk => by simp [S1, hk]
      obtain ⟨hF4, hp4⟩ := head env a s0 hp hFS1 hs0
      refine wpIn_loopR (fun n a2 w2 => ∃ s, I n s w2 ∧ Fit S1 #[] N D (embE sl s ++ keep) a2 ∧ plain (embE sl s ++ keep)) (n0 := n0) ⟨s0, h0 w' hw, hF4, hp4⟩ ?_
      intro n a2 w2 ⟨s, hI, hF2, hp2⟩
      have hb := ih.run S1 _ a2 w2 w2 _ Kx Kr hS1 hp2 hF2 (hstep n s w2 hI) (Ext.refl _)
      refine wpIn_mono hb ?_
      intro e a3 w3 hq
      cases e with
      | normal =>
        obtain ⟨env3, wr, hk, hp3, hF3, hw3⟩ := hq
        simp only [Exit.then]
        split at hk
        · rename_i s3 hs3
          obtain ⟨n', hlt, hI'⟩ := hk w3 hw3
          obtain ⟨hF5, hp5⟩ := head env3 a3 s3 hp3 hF3 hs3
          exact ⟨n', hlt, s3, hI', hF5, hp5⟩
        · exact hk.elim
      | exit id => obtain ⟨env3, wr, hk, hp3, hF3, hw3⟩ := hq; exact ⟨env3, wr, hk, hp3, back hF3, hw3⟩
      | ret => obtain ⟨env3, wr, hk, hp3, hF3, hw3⟩ := hq; exact ⟨env3, wr, hk, hp3, back hF3, hw3⟩
      | _ => exact hq
  | _ => exact .of (fun S env a w w' Kn Kx Kr hS hp hF h hw => False.elim h) (fun _ _ _ _ _ _ _ h => h) (fun _ _ _ _ _ _ h => h)
/-- **Code, evaluated.** -/
theorem rxCode_ok {r : Option Nat} {C : Cfg P} {ann : Nat → Slots} : ∀ (c : Code) (S : Nat → Option (Option Value)) (env : List Ent) (a : Act) (w w' : World) (Kn : List Ent → World → Prop) (Kx : Nat → List Ent → World → Prop) (Kr : List Ent → World → Prop),
    (∀ k ∈ writes c, S k = none) → plain env → Fit S #[] N D env a → rxCode C ann N c env w Kn Kx Kr → Ext w w' → c.wpIn (WF r) 0 P (Qp S N D Kn Kx Kr) a w' := fun c => (rxCodeM_ok c).run

/-! ### A function -/
def argEnv : List Value → Nat → List Ent
  | [], _ => []
  | v :: r, i => ⟨i, [], none, v, none⟩ :: argEnv r (i + 1)

/-- The results, out of their slots. -/
def resVals : List ResultVar → List Ent → Option (List Value)
  | [], _ => some []
  | .tmp t :: r, env => match findT env t, resVals r env with
    | some e, some l => some (e.v :: l)
    | _, _ => none
  | .cell .. :: _, _ => none
def resV (l : List Value) : Value :=
  match l with
  | [v] => v
  | l => .tuple ⟨l⟩

def rxFn (C : Cfg P) (ann : Nat → Slots) (f : FuncId) (args : List Value) (w : World) (Post : (shF C f).T → World → Prop) : Prop :=
  match P.funcs[f]? with
  | none => False
  | some fn => match fn.body with
    | none => False
    | some c =>
      let fin : List Ent → World → Prop := fun env w => match resVals fn.results.toList env with
        | some l => match (shF C f).proj (resV l) with
          | some x => EnP w (fun w1 => Post x w1)
          | none => False
        | none => False
      if args.length ≤ fn.ntmps then rxCode C ann fn.ntmps c (argEnv args 0) w fin (fun _ _ _ => False) fin else False

theorem find_argEnv : ∀ {l : List Value} {i t : Nat} {e : Ent}, findT (argEnv l i) t = some e → i ≤ t ∧ l[t - i]? = some e.v ∧ e.ch = [] ∧ e.g = none
  | [], _, _, _, h => by simp [argEnv, findT] at h
  | v :: r, i, t, e, h => by
    simp only [argEnv, findT] at h
    split at h
    · rename_i ht
      cases h
      subst ht
      simp
    · rename_i ht
      obtain ⟨h1, h2, h3⟩ := find_argEnv h
      refine ⟨by omega, ?_, h3⟩
      rw [show t - i = (t - (i + 1)) + 1 by omega]
      simpa using h2
theorem argEnv_k : ∀ {l : List Value} {i : Nat} {e : Ent}, e ∈ argEnv l i → e.k = none
  | [], _, _, h => by simp [argEnv] at h
  | v :: r, i, e, h => by
    simp only [argEnv, List.mem_cons] at h
    rcases h with rfl | h
    · rfl
    · exact argEnv_k h
theorem mem_argEnv : ∀ {l : List Value} {i : Nat} {e : Ent}, e ∈ argEnv l i → e.ch = [] ∧ e.g = none
  | [], _, _, h => by simp [argEnv] at h
  | v :: r, i, e, h => by
    simp only [argEnv, List.mem_cons] at h
    rcases h with rfl | h
    · exact ⟨rfl, rfl⟩
    · exact mem_argEnv h

def resOne (tmps : Array Value) : ResultVar → Sem Value
  | .tmp t => pure (tmps.getD t undef)
  | .cell a t => do loadVar t (← asAddr (tmps.getD a undef))

theorem run_resVals {tmps : Array Value} {w : World} : ∀ {l : List ResultVar} {env : List Ent} {vs : List Value}, resVals l env = some vs → (∀ t e, findT env t = some e → tmps[t]? = some e.v) →
    (l.mapM (resOne tmps)).run P w = .ok vs w
  | [], _, _, h, _ => by simp only [resVals, Option.some.injEq] at h; subst h; simp
  | .tmp t :: r, env, vs, h, hv => by
    simp only [resVals] at h
    split at h
    · rename_i e l he hl
      cases h
      have ih := run_resVals (w := w) hl hv
      simp only [List.mapM_cons, Sem.run_bind, resOne, Sem.run_pure, Result.andThen_ok, ih]
      simp [hv t e he]
    · cases h
  | .cell .. :: _, _, _, h, _ => by simp [resVals] at h

theorem run_results {fn : Func} {tmps : Array Value} {w : World} {env : List Ent} {vs : List Value} (h : resVals fn.results.toList env = some vs) (hv : ∀ t e, findT env t = some e → tmps[t]? = some e.v) :
    (results fn tmps).run P w = .ok (resV vs) w := by
  have h1 := run_resVals (P := P) (w := w) h hv
  have h2 : (fn.results.mapM (resOne tmps)).run P w = .ok ⟨vs⟩ w := by
    rw [Array.mapM_eq_mapM_toList, Sem.run_map, h1]
    rfl
  have e : results fn tmps = (do
      let vs ← fn.results.mapM (resOne tmps)
      pure (if h : vs.size = 1 then vs[0] else .tuple vs)) := rfl
  rw [e, Sem.run_bind, h2]
  simp only [Result.andThen_ok, Sem.run_pure]
  match vs with
  | [] => rfl
  | [v] => rfl
  | v :: u :: r => simp [resV]

/-- **A function, evaluated: a contract.** -/
theorem rxFn_ok {C : Cfg P} {ann : Nat → Slots} {f : FuncId} {args : List Value} {w : World} {Post : (shF C f).T → World → Prop} (h : rxFn C ann f args w Post) : CallsR P f (shF C f) args w Post := by
  unfold rxFn at h
  split at h
  · exact False.elim h
  · rename_i fn hf
    split at h
    · exact False.elim h
    · rename_i c hb
      simp only at h
      split at h
      · rename_i hle
        have hpl : plain (argEnv args 0) := fun e he => mem_argEnv he
        have nil : ∀ (o : Array Oper) (tm : Array Value), chT o tm [] := fun o tm x hx => by cases hx
        have hFit : Fit (fun _ => none) #[] fn.ntmps [] (argEnv args 0) { tmps := (⟨args⟩ : Array Value) ++ Array.replicate (fn.ntmps - args.length) undef, defers := [] } := by
          refine ⟨(fun _ _ hx => by cases hx), (by simp; omega), rfl, fun t e he _ => ?_, fun t e he hn => absurd (by rw [(hpl e (find_mem he)).1]; exact nil _ _) hn, (fun e he => by rw [(hpl e he).2]; exact (hpl e he).1), fun e he b hb => by rw [argEnv_k he] at hb; cases hb⟩
          obtain ⟨_, hv, _⟩ := find_argEnv he
          simp only [Nat.sub_zero] at hv
          have hlt : t < args.length := (List.getElem?_eq_some_iff.1 hv).1
          rw [Array.getElem?_append_left (by simpa using hlt)]
          simpa using hv
        have hwp := rxCode_ok (r := none) (C := C) (ann := ann) c (fun _ => none) _ _ w w _ _ _ (fun _ _ => rfl) hpl hFit h (Ext.refl w)
        refine calls_of_wp hf hb ((wpIn_wide (n := 0)).1 (wpIn_mono hwp ?_))
        have fin : ∀ a1 w1, (∃ env wr, (match resVals fn.results.toList env with
              | some l => match (shF C f).proj (resV l) with
                | some x => ∀ w1, Ext wr w1 → Post x w1
                | none => False
              | none => False) ∧ plain env ∧ Fit (fun _ => none) #[] fn.ntmps [] env a1 ∧ Ext wr w1) → a1.defers = [] ∧ ∃ v, (results fn a1.tmps).run P w1 = .ok v w1 ∧ ∃ x : (shF C f).T, Ending.returned v = .returned ((shF C f).emb x) ∧ Post x w1 := by
          intro a1 w1 ⟨env, wr, hk, hp1, hF1, hw1⟩
          split at hk
          · rename_i l hl
            split at hk
            · rename_i x hx
              refine ⟨hF1.defs, _, run_results hl (fun t e he => hF1.yes t e he (by rw [(hp1 e (find_mem he)).1]; exact nil _ _)), x, by rw [Sh.proj_emb hx], hk w1 hw1⟩
            · exact hk.elim
          · exact hk.elim
        intro e a1 w1 hq
        cases e with
        | normal => exact fin a1 w1 hq
        | ret => exact fin a1 w1 hq
        | exit id => obtain ⟨_, _, hk, _⟩ := hq; exact hk.elim
        | _ => exact (show False from hq).elim
      · exact False.elim h

end Go.RX

/-! Ranges over functions: the marks that they leave among the deferred calls, results in cells. -/
namespace Go.RX
variable {P : Program}

abbrev Kont := List Ent → List Nat → World → Prop
def marks (D : List Nat) : List Deferred := D.map fun r => { target := .collected r, args := #[] }

def hasRF : Code → Bool
  | .rangeFunc .. => true
  | .seq a b => hasRF a || hasRF b
  | .cond _ a b => hasRF a || hasRF b
  | .block _ b => hasRF b
  | .loop b => hasRF b
  | _ => false

/-- The record of a loop lies there. -/
def putL (w : World) (l : Nat) (rec : Loop) (st : LoopState) (pd : Option Code) : World := w.putObj l (.loop { rec with state := st, pending := pd })
def LoopAt (w : World) (l : Nat) (rec : Loop) (st : LoopState) (pd : Option Code) : Prop := w.heap[l]? = some (.loop { rec with state := st, pending := pd })

def openD : List Nat → World → Prop
  | [], _ => True
  | r :: D, w => w.heap[r]? = some (.deferred (some [])) ∧ openD D (w.putObj r (.deferred none))
def closeD : List Nat → World → World
  | [], w => w
  | r :: D, w => closeD D (w.putObj r (.deferred none))
/-! Rounds, by their names. -/
def BeP (l : Nat) (rec : Loop) (w : World) (K : World → Prop) : Prop := ∀ w5, Ext w w5 → ∃ pd, LoopAt w5 l rec .ready pd ∧ K (putL w5 l rec .busy pd)
def FiP (l : Nat) (rec : Loop) (jump : Option Code) (w : World) (R : Bool → World → Prop) : Prop := ∀ w6, Ext w w6 → ∃ st pd, LoopAt w6 l rec st pd ∧ R jump.isNone (putL w6 l rec (if jump.isNone then .ready else .done) jump)
def RoP (l : Nat) (rec : Loop) (n m : Nat) (w : World) (K : Prop) : Prop := (∃ pd, LoopAt w l rec .ready pd) ∧ n = m ∧ K
def ClP (D : List Nat) (w : World) (K : World → Prop) : Prop := ∀ w1, Ext w w1 → openD D w1 ∧ K (closeD D w1)
/-- A range over a function. -/
def RnP (P : Program) (fid : FuncId) (args : Nat → List Value) (ps : Array Nat) (w : World) {T : Type} (em : T → List Value) (Rd : Nat → Loop → T → World → (Bool → World → Prop) → Prop) (Af : Nat → Loop → World → Prop) : Prop :=
  ∀ w1, Ext w w1 → ∀ rec : Loop, rec.params = ps → rec.defers = w1.heap.size → rec.state = .ready → rec.pending = none →
    (∀ (x : T) w3 R, Rd (w1.heap.size + 1) rec x w3 R → YieldC P (w1.heap.size + 1) (em x) w3 R) →
    Calls P fid ⟨args (w1.heap.size + 1)⟩ ((w1.alloc (.deferred (some []))).alloc (.loop rec)) (fun e w4 => ∃ v, e = .returned v ∧ Af w1.heap.size rec w4)
/-- A round: the loop's variables are given, its body is walked; how it is left is noted in the record. -/
def rxRound (C : Cfg P) (ann : Nat → Slots) (N : Nat) (l : Nat) (rec : Loop) (ps : List Nat) (assign body : Code) (env : List Ent) (args : List Value) (w : World) (R : Bool → World → Prop) : Prop :=
  RoP l rec args.length ps.length w
  (forceL ((ps.zip args).reverse.map (fun x => ⟨x.1, [], none, x.2, none⟩) ++ env) fun env0 => rxCode C ann N assign env0 w
    (fun env1 wr => BeP l rec wr fun w5 =>
      rxCode C ann N body env1 w5
        (fun _ wr => FiP l rec none wr R)
        (fun id _ wr => FiP l rec (some (.exit id)) wr R)
        (fun _ wr => FiP l rec (some .ret) wr R))
    (fun _ _ _ => False) (fun _ _ => False))

/-- What is asked behind the call of the function that is ranged over. -/
def rxAfter (l : Nat) (rec : Loop) (w4 : World) (Kn : World → Prop) (Kx : Nat → World → Prop) (Kr : World → Prop) : Prop :=
  ∃ st pd, LoopAt w4 l rec st pd ∧ st ≠ .busy ∧
    match pd with
    | none => Kn (putL w4 l rec .exhausted (none))
    | some (.exit id) => Kx id (putL w4 l rec .exhausted (some (.exit id)))
    | some .ret => Kr (putL w4 l rec .exhausted (some .ret))
    | _ => False

def rxF (C : Cfg P) (ann : Nat → Slots) (N : Nat) : Code → List Ent → List Nat → World → Kont → (Nat → Kont) → Kont → Prop
  | .seq x y, env, D, w, Kn, Kx, Kr => rxF C ann N x env D w (fun env D w => rxF C ann N y env D w Kn Kx Kr) Kx Kr
  | .cond c x y, env, D, w, Kn, Kx, Kr => match evE env [] c with
    | some (.bool b) => brP b (rxF C ann N x env D w Kn Kx Kr) (rxF C ann N y env D w Kn Kx Kr)
    | _ => False
  | .block id x, env, D, w, Kn, Kx, Kr => rxF C ann N x env D w Kn (fun id' env D w => if id' = id then Kn env D w else Kx id' env D w) Kr
  | .loop x, env, D, w, Kn, Kx, Kr =>
    if hasRF x then
      let sl := ann ((firstR x).getD 0)
      match projE sl env with
      | none => False
      | some s0 => ∃ I : Nat → ElsT (sl.map (·.2)) → List Nat → World → Prop, (∃ n, ∀ w1, Ext w w1 → I n s0 D w1) ∧
          ∀ n s D1 w1, I n s D1 w1 → forceL (embE sl s ++ env.filter fun e => !(writes x).contains e.t) fun env1 => rxF C ann N x env1 D1 w1
            (fun env2 D2 w2 => match projE sl env2 with
              | some s2 => ∀ w3, Ext w2 w3 → ∃ n', n' < n ∧ I n' s2 D2 w3
              | none => False) Kx Kr
    else rxCode C ann N (.loop x) env w (fun env w => Kn env D w) (fun id env w => Kx id env D w) (fun env w => Kr env D w)
  | .rangeFunc g ps assign body, env, D, w, Kn, Kx, Kr =>
    match evE env [] g with
    | some (.func (.func fid) first cap) =>
      if callable P fid && ps.toList.all (fun p => decide (p < N)) then
        RnP P fid (fun y => fullArgs first [.func (.yield y) #[] #[]] cap) ps w (fun (x : ElsT ((ann ((firstR body).getD 0)).map (·.2))) => elsEmb _ x)
          (fun l rec x w3 R => rxRound C ann N l rec ps.toList assign body env (elsEmb _ x) w3 R)
          (fun r rec w4 => rxAfter (r + 1) rec w4 (fun w5 => Kn env (r :: D) w5) (fun id w5 => Kx id env (r :: D) w5) (fun w5 => Kr env (r :: D) w5))
      else False
    | _ => False
  | c, env, D, w, Kn, Kx, Kr => rxCode C ann N c env w (fun env w => Kn env D w) (fun id env w => Kx id env D w) (fun env w => Kr env D w)

/-- What is asked at a code's end. -/
def QpF (S : Nat → Option (Option Value)) (N : Nat) (Kn : Kont) (Kx : Nat → Kont) (Kr : Kont) : Exit → Act → World → Prop
  | .normal, a, w => ∃ env D wr, Kn env D wr ∧ plain env ∧ Fit S #[] N (marks D) env a ∧ Ext wr w
  | .exit id, a, w => ∃ env D wr, Kx id env D wr ∧ plain env ∧ Fit S #[] N (marks D) env a ∧ Ext wr w
  | .ret, a, w => ∃ env D wr, Kr env D wr ∧ plain env ∧ Fit S #[] N (marks D) env a ∧ Ext wr w
  | _, _, _ => False

theorem QpF_of {S : Nat → Option (Option Value)} {N : Nat} {Kn : Kont} {Kx : Nat → Kont} {Kr : Kont} {D : List Nat} : ∀ (e : Exit) (a : Act) (w : World),
    Qp S N (marks D) (fun env w => Kn env D w) (fun id env w => Kx id env D w) (fun env w => Kr env D w) e a w → QpF S N Kn Kx Kr e a w
  | .normal, _, _, ⟨env, wr, h⟩ => ⟨env, D, wr, h⟩
  | .exit _, _, _, ⟨env, wr, h⟩ => ⟨env, D, wr, h⟩
  | .ret, _, _, ⟨env, wr, h⟩ => ⟨env, D, wr, h⟩
  | .goto _, _, _, h => False.elim h
  | .panic _, _, _, h => False.elim h
  | .outgrown, _, _, h => False.elim h

theorem size_foldl {N : Nat} : ∀ (l : List (Nat × Value)) (tmps : Array Value), tmps.size = N → (l.foldl (fun tmps (t, a) => tmps.setIfInBounds t a) tmps).size = N
  | [], _, h => h
  | (t, v) :: r, tmps, h => size_foldl r _ (by simpa using h)

/-- The loop's variables, given. -/
theorem fit_params {N : Nat} {D : List Deferred} : ∀ (l : List (Nat × Value)) (env : List Ent) (tmps : Array Value), (∀ x ∈ l, x.1 < N) → plain env → Fit (fun _ => none) #[] N D env { tmps, defers := D } →
    Fit (fun _ => none) #[] N D (l.reverse.map (fun x => ⟨x.1, [], none, x.2, none⟩) ++ env) { tmps := l.foldl (fun tmps (t, a) => tmps.setIfInBounds t a) tmps, defers := D } ∧ plain (l.reverse.map (fun x => (⟨x.1, [], none, x.2, none⟩ : Ent)) ++ env)
  | [], env, tmps, _, hp, h => ⟨h, hp⟩
  | (t, v) :: r, env, tmps, hl, hp, h => by
    have hp1 : plain (⟨t, [], none, v, none⟩ :: env) := fun e he => by
      rcases List.mem_cons.1 he with rfl | he
      · exact ⟨rfl, rfl⟩
      · exact hp e he
    have h1 : Fit (fun _ => none) #[] N D (⟨t, [], none, v, none⟩ :: env) { tmps := tmps.setIfInBounds t v, defers := D } := by
      have := h.put (ch := []) (g := none) (d := some t) (v := v) (u := v) (by
        have : t < N := hl (t, v) List.mem_cons_self
        simp only [okPut, this, decide_true, List.all_nil, Bool.true_and, List.all_eq_true]
        intro e he
        rw [(hp e he).1]
        simp) (fun _ _ => rfl) rfl (fun _ => rfl) (fun hn => absurd (fun x hx => by cases hx) hn)
      exact this
    have := fit_params r (⟨t, [], none, v, none⟩ :: env) _ (fun x hx => hl x (List.mem_cons_of_mem _ hx)) hp1 h1
    simpa [List.append_assoc] using this

theorem run_beginR {w : World} {l : Nat} {rec : Loop} {pd : Option Code} (h : LoopAt w l rec .ready pd) : (Instr.beginRound l).run P w = .ok () (w.putObj l (.loop { rec with state := .busy, pending := pd })) :=
  run_beginRound (r := { rec with state := .ready, pending := pd }) h rfl
theorem run_endR {w : World} {l : Nat} {rec : Loop} {st : LoopState} {pd : Option Code} (jump : Option Code) (h : LoopAt w l rec st pd) :
    (Instr.endRound l jump).run P w = .ok (.bool jump.isNone) (w.putObj l (.loop { rec with state := if jump.isNone then .ready else .done, pending := jump })) :=
  run_endRound (r := { rec with state := st, pending := pd }) jump h

theorem rxRound_ok {C : Cfg P} {ann : Nat → Slots} {N l : Nat} {rec : Loop} {assign body : Code} {env : List Ent} {args : List Value} {w : World} {R : Bool → World → Prop} {tmps : Array Value} {D0 : List Deferred}
    (ht : rec.tmps = tmps) (ha : rec.assign = assign) (hb : rec.body = body) (hN : ∀ p ∈ rec.params.toList, p < N) (hp : plain env) (hF : Fit (fun _ => none) #[] N D0 env { tmps, defers := D0 })
    (h : rxRound C ann N l rec rec.params.toList assign body env args w R) : YieldC P l args w R := by
  obtain ⟨⟨pd, hat⟩, hlen, hrx⟩ := h
  rw [forceL_eq] at hrx
  refine ⟨{ rec with state := .ready, pending := pd }, hat, by simpa using hlen, ?_⟩
  have nil : ∀ (tm : Array Value), chT #[] tm [] := fun tm x hx => by cases hx
  have hF0 : Fit (fun _ => none) #[] N [] env { tmps, defers := [] } := ⟨hF.off, hF.size, rfl, hF.yes, hF.no, hF.gua, hF.kno⟩
  obtain ⟨hF1, hp1⟩ := fit_params (D := []) (rec.params.toList.zip args) env tmps (fun x hx => hN x.1 (List.of_mem_zip hx).1) hp hF0
  have e : (rec.params.zip (⟨args⟩ : Array Value)).foldl (fun tmps (t, a) => tmps.setIfInBounds t a) rec.tmps = (rec.params.toList.zip args).foldl (fun tmps (t, a) => tmps.setIfInBounds t a) tmps := by
    rw [ht, ← Array.foldl_toList]
    simp
  show RoundIn (WF none) 0 P l rec.fn ((rec.params.zip (⟨args⟩ : Array Value)).foldl (fun tmps (t, a) => tmps.setIfInBounds t a) rec.tmps) rec.assign rec.body w _
  rw [e, ha, hb]
  refine roundIn_of_wpIn (F := WF none) trivial ?_
  have h1 := rxCode_ok (r := some l) (C := C) (ann := ann) assign (fun _ => none) _ _ w w _ _ _ (fun _ _ => rfl) hp1 hF1 hrx (Ext.refl w)
  refine wpIn_mono (F := WF (some l)) h1 ?_
  intro ex a1 w1 hq
  cases ex with
  | normal =>
    obtain ⟨env1, wr, hk, hp2, hF2, hw1⟩ := hq
    obtain ⟨pd1, hat1, hbody⟩ := hk w1 hw1
    refine ⟨_, run_beginR hat1, ?_⟩
    have h2 := rxCode_ok (r := some l) (C := C) (ann := ann) body (fun _ => none) _ _ _ _ _ _ _ (fun _ _ => rfl) hp2 hF2 hbody (Ext.refl _)
    refine wpIn_mono (F := WF (some l)) h2 ?_
    intro ex2 a2 w2 hq2
    cases ex2 with
    | normal =>
      obtain ⟨_, wr2, hk2, _, _, hw2⟩ := hq2
      obtain ⟨st, pd2, hat2, hR⟩ := hk2 w2 hw2
      exact ⟨_, _, run_endR none hat2, true, rfl, hR⟩
    | exit id =>
      obtain ⟨_, wr2, hk2, _, _, hw2⟩ := hq2
      obtain ⟨st, pd2, hat2, hR⟩ := hk2 w2 hw2
      exact ⟨_, _, run_endR (some (.exit id)) hat2, false, rfl, hR⟩
    | ret =>
      obtain ⟨_, wr2, hk2, _, _, hw2⟩ := hq2
      obtain ⟨st, pd2, hat2, hR⟩ := hk2 w2 hw2
      exact ⟨_, _, run_endR (some .ret) hat2, false, rfl, hR⟩
    | goto t => exact False.elim hq2
    | panic c => exact False.elim hq2
    | outgrown => exact False.elim hq2
  | exit id => obtain ⟨_, _, hk, _⟩ := hq; exact False.elim hk
  | ret => obtain ⟨_, _, hk, _⟩ := hq; exact False.elim hk
  | goto t => exact False.elim hq
  | panic c => exact False.elim hq
  | outgrown => exact False.elim hq
end Go.RX

/-! Code with ranges over functions: sound; a function's contract. -/
namespace Go.RX
variable {P : Program} {N : Nat}

theorem rxF_plain {C : Cfg P} {ann : Nat → Slots} {c : Code} {S : Nat → Option (Option Value)} {env : List Ent} {D : List Nat} {a : Act} {w w' : World} {Kn : Kont} {Kx : Nat → Kont} {Kr : Kont}
    (hS : ∀ k ∈ writes c, S k = none) (hp : plain env) (hF : Fit S #[] N (marks D) env a) (h : rxCode C ann N c env w (fun env w => Kn env D w) (fun id env w => Kx id env D w) (fun env w => Kr env D w)) (hw : Ext w w') :
    c.wpIn (WF none) 0 P (QpF S N Kn Kx Kr) a w' :=
  wpIn_mono (rxCode_ok (r := none) c S env a w w' _ _ _ hS hp hF h hw) QpF_of

theorem endLoop_ok {w : World} {l : Nat} {rec : Loop} {st : LoopState} {pd : Option Code} (h : LoopAt w l rec st pd) (hb : st ≠ .busy) :
    (Instr.endLoop l).run P w = .ok pd (w.putObj l (.loop { rec with state := .exhausted, pending := pd })) :=
  run_endLoop (r := { rec with state := st, pending := pd }) h hb

theorem rxF_ok {C : Cfg P} {ann : Nat → Slots} : ∀ (c : Code) (S : Nat → Option (Option Value)) (env : List Ent) (D : List Nat) (a : Act) (w w' : World) (Kn : Kont) (Kx : Nat → Kont) (Kr : Kont),
    (∀ k ∈ writes c, S k = none) → plain env → Fit S #[] N (marks D) env a → rxF C ann N c env D w Kn Kx Kr → Ext w w' → c.wpIn (WF none) 0 P (QpF S N Kn Kx Kr) a w' := by
  intro c
  induction c with
  | seq x y ihx ihy =>
    intro S env D a w w' Kn Kx Kr hS hp hF h hw
    refine wpIn_seq (wpIn_mono (ihx S env D a w w' _ Kx Kr (fun k hk => hS k (by simp [writes, hk])) hp hF h hw) ?_)
    intro e a1 w1 hq
    cases e with
    | normal =>
      obtain ⟨env1, D1, wr, hk, hp1, hF1, hw1⟩ := hq
      exact ihy S env1 D1 a1 wr w1 Kn Kx Kr (fun k hk => hS k (by simp [writes, hk])) hp1 hF1 hk hw1
    | _ => exact hq
  | cond c x y ihx ihy =>
    intro S env D a w w' Kn Kx Kr hS hp hF h hw
    simp only [rxF] at h
    split at h
    · rename_i b hb
      have hev := hF.ev (ch := []) (fun _ hx => by cases hx) hb
      exact wpIn_cond_split hev (fun ht => ihx S env D a w w' Kn Kx Kr (fun k hk => hS k (by simp [writes, hk])) hp hF (brP_true h ht) hw) (fun ht => ihy S env D a w w' Kn Kx Kr (fun k hk => hS k (by simp [writes, hk])) hp hF (brP_false h ht) hw)
    · exact False.elim h
  | block id x ih =>
    intro S env D a w w' Kn Kx Kr hS hp hF h hw
    refine wpIn_block (wpIn_mono (ih S env D a w w' Kn _ Kr hS hp hF h hw) ?_)
    intro e a1 w1 hq
    cases e with
    | exit id' =>
      obtain ⟨env1, D1, wr, hk, rest⟩ := hq
      simp only [Exit.inBlock]
      split
      · rename_i he
        simp only [he, if_true] at hk
        exact ⟨env1, D1, wr, hk, rest⟩
      · rename_i he
        simp only [he, if_false] at hk
        exact ⟨env1, D1, wr, hk, rest⟩
    | _ => exact hq
  | loop x ih =>
    intro S env D a w w' Kn Kx Kr hS hp hF h hw
    simp only [rxF, forceL_eq] at h
    split at h
    · split at h
      · exact False.elim h
      · rename_i s0 hs0
        obtain ⟨I, ⟨n0, h0⟩, hstep⟩ := h
        let sl := ann ((firstR x).getD 0)
        let S1 : Nat → Option (Option Value) := fun t => if (writes x).contains t then none else some (a.tmps[t]?)
        let keep := env.filter fun e => !(writes x).contains e.t
        have nil : ∀ (tm : Array Value), chT #[] tm [] := fun tm x hx => by cases hx
        have hkeep : ∀ t e, findT keep t = some e → a.tmps[t]? = some e.v ∧ (writes x).contains t = false ∧ e.ch = [] := by
          intro t e he
          have ht := find_t he
          have hs := find_sub he
          have hnw : (writes x).contains t = false := by rw [← ht]; simpa using hs.2
          have hf : findT env t = some e := find_filter he (fun y _ hyt => by rw [hyt, hnw]; rfl)
          exact ⟨hF.yes t e hf (by rw [(hp e hs.1).1]; exact nil _), hnw, (hp e hs.1).1⟩
        have head : ∀ (env2 : List Ent) (D2 : List Nat) (a2 : Act) (s : ElsT (sl.map (·.2))), plain env2 → Fit S1 #[] N (marks D2) env2 a2 → projE sl env2 = some s → Fit S1 #[] N (marks D2) (embE sl s ++ keep) a2 ∧ plain (embE sl s ++ keep) := by
          intro env2 D2 a2 s hp2 hF2 hpr
          have hpl : plain (embE sl s ++ keep) := fun e he => by
            rcases List.mem_append.1 he with he | he
            · exact mem_embE he
            · exact hp e (by simpa [keep] using (List.mem_filter.1 he).1)
          refine ⟨⟨hF2.off, hF2.size, hF2.defs, fun t e he _ => ?_, fun t e he hn => absurd (by rw [(hpl e (find_mem he)).1]; exact nil _) hn, (fun e he => by rw [(hpl e he).2]; exact (hpl e he).1), fun e he b hb => by
          rcases List.mem_append.1 he with he | he
          · rw [embE_k he] at hb; cases hb
          · exact hF.kno e (List.mem_filter.1 he).1 b hb⟩, hpl⟩
          rcases find_append he with he | ⟨_, he⟩
          · obtain ⟨e', he', hv⟩ := find_embE hpr he
            rw [← hv]
            exact hF2.yes t e' he' (by rw [(hp2 e' (find_mem he')).1]; exact nil _)
          · obtain ⟨hv, hnw, _⟩ := hkeep t e he
            have := hF2.off t (a.tmps[t]?) (by simp only [S1, hnw]; rfl)
            rw [this, hv]
        have hFS1 : Fit S1 #[] N (marks D) env a := ⟨fun t x hx => by
          simp only [S1] at hx
          split at hx
          · cases hx
          · cases hx; rfl, hF.size, hF.defs, hF.yes, hF.no, hF.gua, hF.kno⟩
        have back : ∀ {env2 : List Ent} {D2 : List Nat} {a2 : Act}, Fit S1 #[] N (marks D2) env2 a2 → Fit S #[] N (marks D2) env2 a2 := fun {env2 D2 a2} hf => ⟨fun t y hy => by
          have hnw : (writes x).contains t = false := by
            cases hc : (writes x).contains t with
            | false => rfl
            | true => have := hS t (by simpa [writes] using hc); rw [this] at hy; cases hy
          have h1 := hf.off t (a.tmps[t]?) (by simp only [S1, hnw]; rfl)
          rw [h1]; exact hF.off t y hy, hf.size, hf.defs, hf.yes, hf.no, hf.gua, hf.kno⟩
        have hS1 : ∀ k ∈ writes x, S1 k = none := fun k hk => by simp [S1, hk]
        obtain ⟨hF4, hp4⟩ := head env D a s0 hp hFS1 hs0
        refine wpIn_loopR (fun n a2 w2 => ∃ s D2, I n s D2 w2 ∧ Fit S1 #[] N (marks D2) (embE sl s ++ keep) a2 ∧ plain (embE sl s ++ keep)) (n0 := n0) ⟨s0, D, h0 w' hw, hF4, hp4⟩ ?_
        intro n a2 w2 ⟨s, D2, hI, hF2, hp2⟩
        have hb := ih S1 _ D2 a2 w2 w2 _ Kx Kr hS1 hp2 hF2 (hstep n s D2 w2 hI) (Ext.refl _)
        refine wpIn_mono hb ?_
        intro e a3 w3 hq
        cases e with
        | normal =>
          obtain ⟨env3, D3, wr, hk, hp3, hF3, hw3⟩ := hq
          simp only [Exit.then]
          split at hk
          · rename_i s3 hs3
            obtain ⟨n', hlt, hI'⟩ := hk w3 hw3
            obtain ⟨hF5, hp5⟩ := head env3 D3 a3 s3 hp3 hF3 hs3
            exact ⟨n', hlt, s3, D3, hI', hF5, hp5⟩
          · exact False.elim hk
        | exit id => obtain ⟨env3, D3, wr, hk, hp3, hF3, hw3⟩ := hq; exact ⟨env3, D3, wr, hk, hp3, back hF3, hw3⟩
        | ret => obtain ⟨env3, D3, wr, hk, hp3, hF3, hw3⟩ := hq; exact ⟨env3, D3, wr, hk, hp3, back hF3, hw3⟩
        | _ => exact hq
    · exact rxF_plain (C := C) (ann := ann) hS hp hF h hw
  | rangeFunc g ps assign body _ _ =>
    intro S env D a w w' Kn Kx Kr hS hp hF h hw
    simp only [rxF] at h
    split at h
    · rename_i fid first cap hg
      split at h
      · rename_i hok
        simp only [Bool.and_eq_true, List.all_eq_true, decide_eq_true_eq] at hok
        obtain ⟨hcall, hps⟩ := hok
        have hev := hF.ev (ch := []) (fun _ hx => by cases hx) hg
        refine wpIn_rangeFunc fun fn _ => ?_
        let rec0 : Loop := { state := .ready, pending := none, fn, tmps := a.tmps, params := ps, assign, body, defers := w'.heap.size }
        have hF' : Fit (fun _ => none) #[] N (marks D) env { tmps := a.tmps, defers := marks D } := ⟨(fun _ _ hx => by cases hx), hF.size, rfl, hF.yes, hF.no, hF.gua, hF.kno⟩
        have hk := h w' hw rec0 rfl rfl rfl rfl (fun _ w3 R hr => rxRound_ok (C := C) (ann := ann) (rec := rec0) rfl rfl rfl hps hp hF' hr)
        have eargs : (first ++ #[Value.func (.yield (w'.heap.size + 1)) #[] #[]] ++ cap : Array Value) = ⟨fullArgs first [.func (.yield (w'.heap.size + 1)) #[] #[]] cap⟩ := by
          unfold fullArgs
          obtain ⟨l1⟩ := first; obtain ⟨l3⟩ := cap
          simp
        refine ⟨w'.heap.size + 1, [{ target := .collected w'.heap.size, args := #[] }], (w'.alloc (.deferred (some []))).alloc (.loop rec0), { target := .fn (.func fid) cap, args := first ++ #[.func (.yield (w'.heap.size + 1)) #[] #[]] }, (w'.alloc (.deferred (some []))).alloc (.loop rec0), fid,
          ⟨fullArgs first [.func (.yield (w'.heap.size + 1)) #[] #[]] cap⟩, (w'.alloc (.deferred (some []))).alloc (.loop rec0), run_enterLoop_outer _ _ _ _ _, ?_, fun _ _ => trivial, ?_, by simp [WF, Fence.wide], ?_⟩
        · simp only [resolve, hev, Deferred.ofValue, Sem.run_pure, List.map_toArray, List.map_cons, List.map_nil]
          rfl
        · simp only [invoke]
          rw [eargs]
          exact run_callFunc hcall
        · refine (callsIn_wf (n := 0 - 1)).2 (hk.mono fun e w4 ⟨v, he, st, pd, hat, hst, hkk⟩ => ?_)
          subst he
          have hend := endLoop_ok (P := P) hat hst
          have hF2 : Fit S #[] N (marks (w'.heap.size :: D)) env { a with defers := [{ target := .collected w'.heap.size, args := #[] }] ++ a.defers } :=
            ⟨hF.off, hF.size, by simp [marks, hF.defs], hF.yes, hF.no, hF.gua, hF.kno⟩
          refine ⟨pd, _, hend, ?_⟩
          match pd, hkk with
          | none, hkk => exact ⟨env, _, _, hkk, hp, hF2, Ext.refl _⟩
          | some (.exit id), hkk => exact wpIn_exit ⟨env, _, _, hkk, hp, hF2, Ext.refl _⟩
          | some .ret, hkk => exact wpIn_ret ⟨env, _, _, hkk, hp, hF2, Ext.refl _⟩
      · exact False.elim h
    · exact False.elim h
  | _ => intro S env D a w w' Kn Kx Kr hS hp hF h hw; exact rxF_plain (C := C) (ann := ann) hS hp hF h hw

/-! ### A function -/
/-- The results, out of their slots and cells. -/
def resC (P : Program) (w : World) : List ResultVar → List Ent → (List Value → Prop) → Prop
  | [], _, K => K []
  | .tmp t :: r, env, K => match findT env t with
    | some e => resC P w r env (fun l => K (e.v :: l))
    | none => False
  | .cell t ty :: r, env, K => match findT env t with
    | some e => match e.v, elOf P ty, P.info? ty with
      | .pointer p, some el, some i => if badSize el i.size = true then False else LdP w none p el (fun x => resC P w r env (fun l => K (el.emb x :: l)))
      | _, _, _ => False
    | none => False

def finK (s : Sh) (Post : s.T → World → Prop) (w : World) (l : List Value) : Prop :=
  match s.proj (resV l) with
  | some x => Post x w
  | none => False
/-- None, or some. -/
def byD (D : List Nat) (x : Prop) (y : Nat → List Nat → Prop) : Prop := match D with
  | [] => x
  | r :: D => y r D
def rxFin (s : Sh) (rs : List ResultVar) (Post : s.T → World → Prop) : Kont := fun env D w => byD D (EnP w (fun w1 => resC P w1 rs env (finK s Post w1)))
  (fun r D => ClP (r :: D) w (fun w1 => resC P w1 rs env (finK s Post w1)))

def rxFnR (C : Cfg P) (ann : Nat → Slots) (f : FuncId) (args : List Value) (w : World) (Post : (shF C f).T → World → Prop) : Prop :=
  match P.funcs[f]? with
  | none => False
  | some fn => match fn.body with
    | none => False
    | some c =>
      if args.length ≤ fn.ntmps then rxF C ann fn.ntmps c (argEnv args 0) [] w (rxFin (P := P) (shF C f) fn.results.toList Post) (fun _ _ _ _ => False) (rxFin (P := P) (shF C f) fn.results.toList Post) else False

theorem run_resC {tmps : Array Value} {w : World} : ∀ {l : List ResultVar} {env : List Ent} {K : List Value → Prop}, resC P w l env K → (∀ t e, findT env t = some e → tmps[t]? = some e.v) →
    ∃ vs, (l.mapM (resOne tmps)).run P w = .ok vs w ∧ K vs
  | [], _, _, h, _ => ⟨[], by simp, h⟩
  | .tmp t :: r, env, K, h, hv => by
    simp only [resC] at h
    split at h
    · rename_i e he
      obtain ⟨vs, hrun, hk⟩ := run_resC h hv
      refine ⟨e.v :: vs, ?_, hk⟩
      simp only [List.mapM_cons, Sem.run_bind, resOne, Sem.run_pure, Result.andThen_ok, hrun]
      simp [hv t e he]
    · exact False.elim h
  | .cell t ty :: r, env, K, h, hv => by
    simp only [resC] at h
    split at h
    · rename_i e he
      split at h
      · rename_i p el i hev hel hi
        split at h
        · exact False.elim h
        · rename_i hs
          obtain ⟨x, hr, hrest⟩ := h
          obtain ⟨vs, hrun, hk⟩ := run_resC hrest hv
          refine ⟨el.emb x :: vs, ?_, hk⟩
          have hp : ∃ a0, p = some a0 := by cases el <;> (obtain ⟨a0, h0, _⟩ := hr; exact ⟨a0, h0⟩)
          obtain ⟨a0, rfl⟩ := hp
          have hld := run_rdAt (P := P) hel hi hs hr
          have hg : tmps.getD t undef = .pointer (some a0) := by simp [hv t e he, hev]
          simp only [List.mapM_cons, Sem.run_bind, resOne, hg, asAddr, Sem.run_pure, Result.andThen_ok, hld, hrun]
      · exact False.elim h
    · exact False.elim h

theorem leaves_marks {fn : Func} {tmps : Array Value} {R : Ending → World → Prop} : ∀ (D : List Nat) (w : World), openD D w → (∃ v, (results fn tmps).run P (closeD D w) = .ok v (closeD D w) ∧ R (.returned v) (closeD D w)) →
    LeavesInM (WF none) 0 P fn tmps R (marks D) .returning w
  | [], w, _, h => h
  | r :: D, w, ho, h => ⟨by simp, .inl ⟨r, _, rfl, run_takeDeferred ho.1, leaves_marks D _ ho.2 h⟩⟩

/-- **A function, evaluated: a contract.** -/
theorem rxFnR_ok {C : Cfg P} {ann : Nat → Slots} {f : FuncId} {args : List Value} {w : World} {Post : (shF C f).T → World → Prop} (h : rxFnR C ann f args w Post) : CallsR P f (shF C f) args w Post := by
  unfold rxFnR at h
  split at h
  · exact False.elim h
  · rename_i fn hf
    split at h
    · exact False.elim h
    · rename_i c hb
      split at h
      · rename_i hle
        have hpl : plain (argEnv args 0) := fun e he => mem_argEnv he
        have nil : ∀ (o : Array Oper) (tm : Array Value), chT o tm [] := fun o tm x hx => by cases hx
        have hFit : Fit (fun _ => none) #[] fn.ntmps (marks []) (argEnv args 0) { tmps := (⟨args⟩ : Array Value) ++ Array.replicate (fn.ntmps - args.length) undef, defers := [] } := by
          refine ⟨(fun _ _ hx => by cases hx), (by simp; omega), rfl, fun t e he _ => ?_, fun t e he hn => absurd (by rw [(hpl e (find_mem he)).1]; exact nil _ _) hn, (fun e he => by rw [(hpl e he).2]; exact (hpl e he).1), fun e he b hb => by rw [argEnv_k he] at hb; cases hb⟩
          obtain ⟨_, hv, _⟩ := find_argEnv he
          simp only [Nat.sub_zero] at hv
          have hlt : t < args.length := (List.getElem?_eq_some_iff.1 hv).1
          rw [Array.getElem?_append_left (by simpa using hlt)]
          simpa using hv
        have hwp := rxF_ok (C := C) (ann := ann) c (fun _ => none) _ _ _ w w _ _ _ (fun _ _ => rfl) hpl hFit h (Ext.refl w)
        refine (callsIn_wf (r := none) (n := 0)).1 (callsIn_of_wp_marks hf hb trivial (wpIn_mono hwp ?_))
        have fin : ∀ a1 w1, (∃ env D wr, rxFin (P := P) (shF C f) fn.results.toList Post env D wr ∧ plain env ∧ Fit (fun _ => none) #[] fn.ntmps (marks D) env a1 ∧ Ext wr w1) →
            LeavesInM (WF none) 0 P fn a1.tmps (fun e w' => ∃ x : (shF C f).T, e = .returned ((shF C f).emb x) ∧ Post x w') a1.defers .returning w1 := by
          intro a1 w1 ⟨env, D, wr, hk, hp1, hF1, hw1⟩
          obtain ⟨ho, hres⟩ : openD D w1 ∧ resC P (closeD D w1) fn.results.toList env (finK (shF C f) Post (closeD D w1)) := by
            cases D with
            | nil => exact ⟨trivial, hk w1 hw1⟩
            | cons r D => exact hk w1 hw1
          rw [hF1.defs]
          refine leaves_marks D w1 ho ?_
          obtain ⟨vs, hrun, hkv⟩ := run_resC hres (fun t e he => hF1.yes t e he (by rw [(hp1 e (find_mem he)).1]; exact nil _ _))
          unfold finK at hkv
          split at hkv
          · rename_i x hx
            refine ⟨resV vs, ?_, x, by rw [Sh.proj_emb hx], hkv⟩
            have h2 : (fn.results.mapM (resOne a1.tmps)).run P (closeD D w1) = .ok ⟨vs⟩ (closeD D w1) := by
              rw [Array.mapM_eq_mapM_toList, Sem.run_map, hrun]
              rfl
            have e : results fn a1.tmps = (do
                let vs ← fn.results.mapM (resOne a1.tmps)
                pure (if h : vs.size = 1 then vs[0] else .tuple vs)) := rfl
            rw [e, Sem.run_bind, h2]
            simp only [Result.andThen_ok, Sem.run_pure]
            match vs with
            | [] => rfl
            | [v] => rfl
            | v :: u :: r => simp [resV]
          · exact False.elim hkv
        intro e a1 w1 hq
        cases e with
        | normal => exact fin a1 w1 hq
        | ret => exact fin a1 w1 hq
        | exit id => obtain ⟨_, _, _, hk, _⟩ := hq; exact False.elim hk
        | _ => exact False.elim hq
      · exact False.elim h
end Go.RX

/-! Worlds: what lies in a block, what a store leaves alone, slices that are read, slices that grow. -/
namespace Go.RX
open Go.RowKit

/-- Blocks before n lie as they lay; the rest of the world too. The 'Ext' of a world whose first n blocks alone count. -/
theorem Ext.of {w w' : World} (h : Below w.heap.size w w') : Ext w w' := h

theorem putObj_size (w : World) (b : Nat) (o : Obj) : (w.putObj b o).heap.size = w.heap.size := by simp [World.putObj]
theorem putObj_ne {w : World} {b k : Nat} {o : Obj} (h : k ≠ b) : (w.putObj b o).heap[k]? = w.heap[k]? := by
  simp [World.putObj, Ne.symm h]
theorem putObj_self {w : World} {b : Nat} {o : Obj} (h : b < w.heap.size) : (w.putObj b o).heap[b]? = some o := by
  simp [World.putObj, h]
theorem setCell_size (w : World) (a : Addr) (v : Value) : (w.setCell a v).heap.size = w.heap.size := by simp [World.setCell]
theorem setCell_ne {w : World} {a : Addr} {k : Nat} {v : Value} (h : k ≠ a.block) : (w.setCell a v).heap[k]? = w.heap[k]? := by
  simp [World.setCell, Array.getElem?_modify, Ne.symm h]
theorem Addr.add_block (a : Addr) (n : Nat) : (a.add n).block = a.block := by
  unfold Addr.add; split <;> rfl
theorem putAt_size : ∀ (vs : List Value) (w : World) (a : Addr) (i : Nat), (putAt w a vs i).heap.size = w.heap.size
  | [], _, _, _ => rfl
  | v :: r, w, a, i => by simp only [putAt, putAt_size r, setCell_size]
theorem putAt_ne : ∀ (vs : List Value) (w : World) (a : Addr) (i k : Nat), k ≠ a.block → (putAt w a vs i).heap[k]? = w.heap[k]?
  | [], _, _, _, _, _ => rfl
  | v :: r, w, a, i, k, h => by
    simp only [putAt]
    rw [putAt_ne r _ a (i + 1) k h, setCell_ne (by rw [Addr.add_block]; exact h)]
theorem setCell_env (w : World) (a : Addr) (v : Value) : (w.setCell a v).tape = w.tape ∧ (w.setCell a v).os = w.os ∧ (w.setCell a v).output = w.output ∧ (w.setCell a v).drawn = w.drawn := ⟨rfl, rfl, rfl, rfl⟩

/-- Two worlds that differ in blocks behind n alone. -/
theorem Below.putAt {n : Nat} {w w' : World} (h : Below n w w') (a : Addr) (ha : n ≤ a.block) : ∀ (vs : List Value) (i : Nat), Below n w (putAt w' a vs i) := by
  intro vs i
  induction vs generalizing w' i with
  | nil => exact h
  | cons v r ih =>
    simp only [RX.putAt]
    exact ih (h.setCell (by rw [Addr.add_block]; exact ha) v) (i + 1)
theorem belowPutObj {n : Nat} {w w' : World} (h : Below n w w') {b : Nat} (hb : n ≤ b) (o : Obj) : Below n w (w'.putObj b o) :=
  ⟨h.os, h.tape, h.output, by rw [putObj_size]; exact h.size, fun k hk => by rw [putObj_ne (Nat.ne_of_lt (Nat.lt_of_lt_of_le hk hb))]; exact h.block k hk⟩
theorem Ext.putP {w w' : World} (h : Ext w w') {a : Addr} (ha : w.heap.size ≤ a.block) (vs : List Value) : Ext w (putP w' (some a) vs) := Below.putAt h a ha vs 0
theorem Ext.putObj {w w' : World} (h : Ext w w') {b : Nat} (hb : w.heap.size ≤ b) (o : Obj) : Ext w (w'.putObj b o) := belowPutObj h hb o
theorem Ext.putL {w w' : World} (h : Ext w w') {b : Nat} (hb : w.heap.size ≤ b) (rec : Loop) (st : LoopState) (pd : Option Code) : Ext w (putL w' b rec st pd) := belowPutObj h hb _
theorem Ext.allocd {w w' : World} (h : Ext w w') (o : Obj) : Ext w (w'.alloc o) := h.trans (Ext.alloc w' o)
theorem Ext.drewd {w w' : World} (h : Ext w w') : Ext w w'.drew := h.trans (Ext.drew w')

/-- What lies in a block. -/
def Blk (w : World) (b : Nat) (l : List Value) : Prop := ∃ t, w.heap[b]? = some (.cells ⟨l⟩ t (0, 0))
theorem Blk.lt {w : World} {b : Nat} {l : List Value} (h : Blk w b l) : b < w.heap.size := by
  obtain ⟨t, h⟩ := h; exact (Array.getElem?_eq_some_iff.1 h).1
theorem Blk.ext {w w' : World} {b : Nat} {l : List Value} (h : Blk w b l) (k : Ext w w') : Blk w' b l := by
  obtain ⟨t, h⟩ := h; exact ⟨t, k.obj h⟩
theorem alloc_size (w : World) (o : Obj) : (w.alloc o).heap.size = w.heap.size + 1 := by simp
theorem alloc_self (w : World) (o : Obj) : (w.alloc o).heap[w.heap.size]? = some o := by
  show (w.heap.push o)[w.heap.size]? = some o
  simp
theorem Blk.new (w : World) (l : List Value) (t : TypeId) : Blk (w.alloc (.cells ⟨l⟩ t)) w.heap.size l := ⟨t, alloc_self _ _⟩
theorem Blk.same {w w' : World} {b : Nat} {l : List Value} (h : Blk w b l) (k : w'.heap[b]? = w.heap[b]?) : Blk w' b l := by
  obtain ⟨t, h⟩ := h; exact ⟨t, by rw [k]; exact h⟩
theorem Blk.putNe {w : World} {b : Nat} {l : List Value} (h : Blk w b l) {a : Addr} (ha : b ≠ a.block) (vs : List Value) : Blk (putP w (some a) vs) b l :=
  h.same (putAt_ne vs w a 0 b ha)
theorem Blk.putObj {w : World} {b : Nat} {l : List Value} (h : Blk w b l) {k : Nat} (hk : b ≠ k) (o : Obj) : Blk (w.putObj k o) b l := h.same (putObj_ne hk)
theorem Blk.putL {w : World} {b : Nat} {l : List Value} (h : Blk w b l) {k : Nat} (hk : b ≠ k) (rec : Loop) (st : LoopState) (pd : Option Code) : Blk (RX.putL w k rec st pd) b l := h.same (putObj_ne hk)
theorem addB (b o n : Nat) : Addr.add ⟨b, o, none⟩ n = ⟨b, o + n, none⟩ := by
  unfold Addr.add; split
  · rename_i h; subst h; rfl
  · rfl
theorem addP_B (b o n : Nat) : addP (some ⟨b, o, none⟩) n = some ⟨b, o + n, none⟩ := by simp [addP, addB]
theorem Blk.cell {w : World} {b : Nat} {l : List Value} (h : Blk w b l) (o : Nat) : w.cell? ⟨b, o, none⟩ = l[o]? := by
  obtain ⟨t, h⟩ := h; simp [World.cell?, h]
theorem Blk.cellAt {w : World} {b : Nat} {l : List Value} (h : Blk w b l) (o n : Nat) : w.cell? (Addr.add ⟨b, o, none⟩ n) = l[o + n]? := by rw [addB, h.cell]
theorem Blk.notFrozen {w : World} {b : Nat} {l : List Value} (h : Blk w b l) (a : Addr) (ha : a.block = b) : w.frozen? a = false := by
  obtain ⟨t, h⟩ := h; simp [World.frozen?, ha, h]
theorem Blk.rd1 {w : World} {b o : Nat} {l : List Value} (h : Blk w b l) {s : Sc} {x : s.T} (hx : l[o]? = some (s.emb x)) : rdAt w (some ⟨b, o, none⟩) (.one s) x :=
  ⟨_, rfl, by rw [h.cell]; exact hx⟩
theorem Blk.rdA {w : World} {b o : Nat} {l : List Value} (h : Blk w b l) {ss : List Sc} {x : ScsT ss} (hx : ∀ i, i < ss.length → l[o + i]? = (scsEmb ss x)[i]?) : rdAt w (some ⟨b, o, none⟩) (.agg ss) x :=
  ⟨_, rfl, fun i hi => by rw [h.cellAt]; exact hx i hi⟩
theorem Blk.rdN {w : World} {b o n : Nat} {l vs : List Value} (h : Blk w b l) (hn : vs.length = n) (hx : ∀ i, i < n → l[o + i]? = vs[i]?) : rdN w (some ⟨b, o, none⟩) n vs :=
  ⟨hn, fun i hi => by rw [h.cellAt]; exact hx i hi⟩
theorem Blk.st {w : World} {b o n : Nat} {l : List Value} (h : Blk w b l) (hn : o + n ≤ l.length) : stAt w (some ⟨b, o, none⟩) n :=
  ⟨_, rfl, fun i hi => ⟨by rw [h.cellAt, List.getElem?_eq_getElem (by omega)]; rfl, h.notFrozen _ (Addr.add_block _ _)⟩⟩
theorem setCell_self {w : World} {b o : Nat} {l : List Value} {t : TypeId} (h : w.heap[b]? = some (.cells ⟨l⟩ t (0, 0))) (v : Value) : (w.setCell ⟨b, o, none⟩ v).heap[b]? = some (.cells ⟨l.set o v⟩ t (0, 0)) := by
  simp only [World.setCell, Array.getElem?_modify, if_true, h, Option.map_some]
  simp
theorem putAt_self : ∀ (vs : List Value) (w : World) (b o i : Nat) (l : List Value) (t : TypeId), w.heap[b]? = some (.cells ⟨l⟩ t (0, 0)) → o + i + vs.length ≤ l.length →
    (putAt w ⟨b, o, none⟩ vs i).heap[b]? = some (.cells ⟨l.take (o + i) ++ (vs ++ l.drop (o + i + vs.length))⟩ t (0, 0))
  | [], w, b, o, i, l, t, h, _ => by simp [putAt, h]
  | v :: r, w, b, o, i, l, t, h, hl => by
    simp only [List.length_cons] at hl
    simp only [putAt, addB]
    rw [putAt_self r _ b o (i + 1) (l.set (o + i) v) t (setCell_self h v) (by simp; omega)]
    congr 3
    have h1 : (l.set (o + i) v).take (o + (i + 1)) = l.take (o + i) ++ [v] := by
      rw [show o + (i + 1) = (o + i) + 1 by omega, List.take_add_one, List.take_set_of_le (by omega)]
      congr 1
      rw [List.getElem?_set_self (by omega)]; rfl
    have h2 : (l.set (o + i) v).drop (o + (i + 1) + r.length) = l.drop (o + i + (r.length + 1)) := by
      rw [List.drop_set_of_lt (by omega)]
      congr 1; omega
    rw [h1, h2]
    simp
theorem Blk.put {w : World} {b o : Nat} {l : List Value} (h : Blk w b l) (vs : List Value) (hn : o + vs.length ≤ l.length) : Blk (putP w (some ⟨b, o, none⟩) vs) b (l.take o ++ (vs ++ l.drop (o + vs.length))) := by
  obtain ⟨t, h⟩ := h
  exact ⟨t, putAt_self vs w b o 0 l t h hn⟩
theorem Blk.put1 {w : World} {b : Nat} {x : Value} (h : Blk w b [x]) (v : Value) : Blk (putP w (some ⟨b, 0, none⟩) [v]) b [v] := by
  have := h.put (o := 0) [v] (by simp); simpa using this

theorem LoopAt.lt {w : World} {l : Nat} {rec : Loop} {st : LoopState} {pd : Option Code} (h : LoopAt w l rec st pd) : l < w.heap.size := (Array.getElem?_eq_some_iff.1 h).1
theorem LoopAt.ext {w w' : World} {l : Nat} {rec : Loop} {st : LoopState} {pd : Option Code} (h : LoopAt w l rec st pd) (k : Ext w w') : LoopAt w' l rec st pd := k.obj h
theorem LoopAt.same {w w' : World} {l : Nat} {rec : Loop} {st : LoopState} {pd : Option Code} (h : LoopAt w l rec st pd) (k : w'.heap[l]? = w.heap[l]?) : LoopAt w' l rec st pd := by
  unfold LoopAt; rw [k]; exact h
theorem LoopAt.put {w : World} {l : Nat} {rec : Loop} {st : LoopState} {pd : Option Code} (h : LoopAt w l rec st pd) (st' : LoopState) (pd' : Option Code) : LoopAt (putL w l rec st' pd') l rec st' pd' :=
  putObj_self h.lt
theorem LoopAt.putP {w : World} {l : Nat} {rec : Loop} {st : LoopState} {pd : Option Code} (h : LoopAt w l rec st pd) {a : Addr} (ha : l ≠ a.block) (vs : List Value) : LoopAt (putP w (some a) vs) l rec st pd :=
  h.same (putAt_ne vs w a 0 l ha)

/-- A field of what lies at a place. -/
theorem rdAt_fld {w : World} {p : Option Addr} {ss : List Sc} {x : ScsT ss} {j : Nat} {s : Sc} {y : s.T} (h : rdAt w p (.agg ss) x) (hj : j < ss.length) (hy : (scsEmb ss x)[j]? = some (s.emb y)) : rdAt w (addP p j) (.one s) y := by
  obtain ⟨a, rfl, h⟩ := h
  exact ⟨a.add j, rfl, by rw [h j hj, hy]⟩
theorem rdAt_some {w : World} {p : Option Addr} {e : El} {x : e.T} (h : rdAt w p e x) : p.isSome = true := by
  cases e <;> (obtain ⟨a, rfl, _⟩ := h; rfl)
theorem addP_some {p : Option Addr} (h : p.isSome = true) (n : Nat) : (addP p n).isSome = true := by
  cases p
  · cases h
  · rfl

/-! ### Slices that are read -/
def cellsOf : (e : El) → e.T → List Value
  | .one s, x => [s.emb x]
  | .agg l, x => scsEmb l x
def stride : El → Nat
  | .one _ => 1
  | .agg l => l.length
theorem cellsOf_length (e : El) (x : e.T) : (cellsOf e x).length = stride e := by
  cases e with
  | one s => rfl
  | agg l => exact scsEmb_length l x
/-- The elements of a slice that is but read. -/
def Sl (w : World) (e : El) (p : Option Addr) (xs : List e.T) : Prop := ∀ i x, xs[i]? = some x → p.isSome = true ∧ rdAt w (addP p (i * stride e)) e x
theorem Sl.ext {w w' : World} {e : El} {p : Option Addr} {xs : List e.T} (h : Sl w e p xs) (k : Ext w w') : Sl w' e p xs :=
  fun i x hx => ⟨(h i x hx).1, rdAt_ext k (h i x hx).2⟩

def flat (e : El) (xs : List e.T) : List Value := xs.flatMap (cellsOf e)
theorem flat_length (e : El) (xs : List e.T) : (flat e xs).length = xs.length * stride e := by
  induction xs with
  | nil => simp [flat]
  | cons x r ih => simp only [flat, List.flatMap_cons, List.length_append, cellsOf_length] at *; rw [ih]; simp [Nat.add_mul, Nat.add_comm]
theorem flat_append (e : El) (xs ys : List e.T) : flat e (xs ++ ys) = flat e xs ++ flat e ys := by simp [flat]
theorem flat_get (e : El) : ∀ (xs : List e.T) (i : Nat) (x : e.T), xs[i]? = some x → ∀ j, j < stride e → (flat e xs)[i * stride e + j]? = (cellsOf e x)[j]?
  | [], _, _, h, _, _ => by simp at h
  | y :: r, 0, x, h, j, hj => by
    simp at h; subst h
    simp only [flat, List.flatMap_cons, Nat.zero_mul, Nat.zero_add]
    rw [List.getElem?_append_left (by rw [cellsOf_length]; exact hj)]
  | y :: r, i + 1, x, h, j, hj => by
    have ih := flat_get e r i x (by simpa using h) j hj
    simp only [flat, List.flatMap_cons]
    rw [List.getElem?_append_right (by rw [cellsOf_length, Nat.add_mul]; omega), cellsOf_length]
    rw [show (i + 1) * stride e + j - stride e = i * stride e + j by rw [Nat.add_mul]; omega]
    exact ih

/-- A row of elements at the front of a block is a slice. -/
theorem Sl.of_blk {w : World} {e : El} {b : Nat} {l : List Value} {xs : List e.T} (h : Blk w b l) (hl : l.take (xs.length * stride e) = flat e xs) : Sl w e (some ⟨b, 0, none⟩) xs := by
  intro i x hx
  have hi : i < xs.length := (List.getElem?_eq_some_iff.1 hx).1
  have hij : ∀ j, j < stride e → i * stride e + j < xs.length * stride e := fun j hj => by
    have : (i + 1) * stride e ≤ xs.length * stride e := Nat.mul_le_mul_right _ hi
    rw [Nat.add_mul] at this; omega
  have hc : ∀ j, j < stride e → l[i * stride e + j]? = (cellsOf e x)[j]? := fun j hj => by
    rw [← flat_get e xs i x hx j hj, ← hl, List.getElem?_take_of_lt (hij j hj)]
  refine ⟨rfl, ?_⟩
  rw [addP_B, Nat.zero_add]
  cases e with
  | one s => exact h.rd1 (by have := hc 0 (by simp [stride]); simpa [cellsOf] using this)
  | agg ss => exact h.rdA (fun j hj => hc j hj)

/-! ### Slices that grow -/
/-- A slice whose row was laid behind w0 (or the nil slice). -/
def Own (w0 w : World) (e : El) (s : Option Addr × Nat × Nat) (xs : List e.T) : Prop :=
  s.2.1 = xs.length ∧ xs.length ≤ s.2.2 ∧
  ((s.1 = none ∧ xs = [] ∧ s.2.2 = 0) ∨ ∃ b l, s.1 = some ⟨b, 0, none⟩ ∧ w0.heap.size ≤ b ∧ Blk w b l ∧ l.length = s.2.2 * stride e ∧ l.take (xs.length * stride e) = flat e xs)
theorem Own.nil (w0 w : World) (e : El) : Own w0 w e (none, 0, 0) [] := ⟨rfl, Nat.le_refl _, .inl ⟨rfl, rfl, rfl⟩⟩
theorem Own.ext {w0 w w' : World} {e : El} {s : Option Addr × Nat × Nat} {xs : List e.T} (h : Own w0 w e s xs) (k : Ext w w') : Own w0 w' e s xs := by
  obtain ⟨h1, h2, h3⟩ := h
  refine ⟨h1, h2, ?_⟩
  rcases h3 with h3 | ⟨b, l, a1, a2, a3, a4⟩
  · exact .inl h3
  · exact .inr ⟨b, l, a1, a2, a3.ext k, a4⟩
theorem Own.same {w0 w w' : World} {e : El} {s : Option Addr × Nat × Nat} {xs : List e.T} (h : Own w0 w e s xs) (k : ∀ a, s.1 = some a → w'.heap[a.block]? = w.heap[a.block]?) : Own w0 w' e s xs := by
  obtain ⟨h1, h2, h3⟩ := h
  refine ⟨h1, h2, ?_⟩
  rcases h3 with h3 | ⟨b, l, a1, a2, a3, a4⟩
  · exact .inl h3
  · exact .inr ⟨b, l, a1, a2, a3.same (k _ a1), a4⟩
theorem Own.sl {w0 w : World} {e : El} {s : Option Addr × Nat × Nat} {xs : List e.T} (h : Own w0 w e s xs) : Sl w e s.1 xs := by
  obtain ⟨h1, h2, h3⟩ := h
  rcases h3 with ⟨_, hx, _⟩ | ⟨b, l, a1, a2, a3, a4, a5⟩
  · subst hx; intro i x hx; simp at hx
  · rw [a1]; exact Sl.of_blk a3 a5
theorem Own.len {w0 w : World} {e : El} {s : Option Addr × Nat × Nat} {xs : List e.T} (h : Own w0 w e s xs) : s.2.1 = xs.length := h.1

def plainE : El → Bool
  | .one s => s != .func
  | .agg l => l.all (· != .func)
theorem oneCell_sc (s : Sc) (x : s.T) (h : (s != .func) = true) : (s.emb x).oneCell' = true := by
  cases s <;> first | rfl | (exact absurd h (by decide))
theorem oneCells_scs : ∀ (ss : List Sc) (x : ScsT ss), ss.all (· != .func) = true → (scsEmb ss x).all (·.oneCell') = true
  | [], _, _ => rfl
  | s :: r, x, h => by
    simp only [List.all_cons, Bool.and_eq_true] at h
    simp only [scsEmb, List.all_cons, oneCells_scs r x.2 h.2, Bool.and_true, oneCell_sc s x.1 h.1]
theorem oneCells_of (e : El) (x : e.T) (h : plainE e = true) : (cellsOf e x).all (·.oneCell') = true := by
  cases e with
  | one s => simp [cellsOf, oneCell_sc s x h]
  | agg l => exact oneCells_scs l x h
theorem oneCells_flat (e : El) (xs : List e.T) (h : plainE e = true) : (flat e xs).all (·.oneCell') = true := by
  induction xs with
  | nil => rfl
  | cons x r ih => simp only [flat, List.flatMap_cons, List.all_append, Bool.and_eq_true]; exact ⟨oneCells_of e x h, ih⟩

/-- What is appended: a slice of elements that lies elsewhere. -/
theorem own_append {w0 w : World} {e : El} {s x : Option Addr × Nat × Nat} {xs ys : List e.T} {t : TypeId} {bytes : Nat} {z : Array Value} {R : Option Addr × Nat × Nat → World → Prop}
    (h : Own w0 w e s xs) (h0 : Ext w0 w) (hp : plainE e = true) (hx : x.2.1 = ys.length) (hr : rdN w x.1 (x.2.1 * stride e) (flat e ys)) (hz : z.size = stride e) (hb : (xs.length + ys.length) * bytes ≤ 140737488355328)
    (k : ∀ s' w', Own w0 w' e s' (xs ++ ys) → Ext w0 w' → (∀ b, b < w.heap.size → (∀ a, s.1 = some a → b ≠ a.block) → w'.heap[b]? = w.heap[b]?) → w.heap.size ≤ w'.heap.size →
      ((∃ a, s'.1 = some a ∧ s.1 = some a) ∨ (∃ a, s'.1 = some a ∧ w.heap.size ≤ a.block) ∨ s' = (s.1, s.2.1, s.2.2)) → R s' w') :
    apR w t (stride e) bytes z s x R := by
  obtain ⟨h1, h2, h3⟩ := h
  have hfl := flat_length e xs
  have hfy := flat_length e ys
  have hrd : rdN w s.1 (s.2.1 * stride e) (flat e xs) := by
    rcases h3 with ⟨a1, a2, a3⟩ | ⟨b, l, a1, a2, a3, a4, a5⟩
    · rw [a1, a2]; rfl
    · rw [a1]
      refine a3.rdN (by rw [hfl, h1]) fun i hi => ?_
      rw [← a5, Nat.zero_add, List.getElem?_take_of_lt (by rw [← h1]; exact hi)]
  refine ⟨flat e xs, flat e ys, hrd, hr, fun hroom => ?_, fun hroom => ⟨growslice_fits hroom (by rw [h1, hx]; exact hb), fun c hc => ?_⟩⟩
  · rcases h3 with ⟨a1, a2, a3⟩ | ⟨b, l, a1, a2, a3, a4, a5⟩
    · rw [a3] at hroom
      have hy : ys = [] := List.eq_nil_of_length_eq_zero (by omega)
      subst hy; subst a2
      refine ⟨.inl rfl, ?_⟩
      have hs1 : s.2.1 = 0 := h1
      have hx1 : x.2.1 = 0 := hx
      rw [a1]
      refine k _ _ ⟨by simp [hs1, hx1], Nat.zero_le _, .inl ⟨rfl, rfl, a3⟩⟩ ?_ (fun _ _ _ => rfl) (Nat.le_refl _) (.inr (.inr ?_))
      · exact h0
      · rw [a1, hx1]; rfl
    · have hle : xs.length * stride e + ys.length * stride e ≤ l.length := by
        rw [a4, ← Nat.add_mul]; exact Nat.mul_le_mul_right _ (by rw [← h1, ← hx]; exact hroom)
      have ea : s.1.map (·.add (s.2.1 * stride e)) = some ⟨b, xs.length * stride e, none⟩ := by
        rw [a1, h1]; simp [addB]
      rw [ea]
      refine ⟨.inr ⟨a3.st (by rw [hfy]; exact hle), oneCells_flat e ys hp⟩, ?_⟩
      have hput := a3.put (o := xs.length * stride e) (flat e ys) (by rw [hfy]; exact hle)
      refine k _ _ ⟨by simp [h1, hx], by simp only [List.length_append]; rw [← h1, ← hx]; exact hroom, .inr ⟨b, _, a1, a2, hput, ?_, ?_⟩⟩ (h0.putP (a := ⟨b, _, none⟩) a2 _) (fun k' hk hne => putAt_ne (flat e ys) w ⟨b, _, none⟩ 0 k' (hne ⟨b, 0, none⟩ a1)) (Nat.le_of_eq (putAt_size _ _ _ _).symm) (.inl ⟨_, a1, a1⟩)
      · simp only [List.length_append, List.length_take, List.length_drop, hfy]; rw [← a4]; omega
      · rw [a5]
        have : (xs ++ ys).length * stride e = (flat e xs ++ flat e ys).length := by simp only [List.length_append, hfl, hfy, Nat.add_mul]
        rw [this, ← List.append_assoc, flat_append]
        exact List.take_left' rfl
  · have hsz : w.drew.heap.size = w.heap.size := rfl
    refine k _ _ ⟨by simp [h1, hx], by simp only [List.length_append]; rw [← h1, ← hx]; exact hc, .inr ⟨w.heap.size, flat e xs ++ flat e ys ++ (Builtin.zeroCells z (c - (s.2.1 + x.2.1))).toList, rfl, h0.size, ?_, ?_, ?_⟩⟩ ((h0.trans (Ext.drew w)).trans (Ext.alloc _ _)) (fun b hb _ => ?_) ?_ (.inr (.inl ⟨_, rfl, Nat.le_refl _⟩))
    · have e1 : (Array.mk (flat e xs) ++ Array.mk (flat e ys) ++ Builtin.zeroCells z (c - (s.2.1 + x.2.1))) = ⟨flat e xs ++ flat e ys ++ (Builtin.zeroCells z (c - (s.2.1 + x.2.1))).toList⟩ := by
        apply Array.ext'; simp
      rw [e1]
      exact Blk.new w.drew _ _
    · simp only [List.length_append, hfl, hfy, Builtin.zeroCells, Array.length_toList, Array.size_map, Array.size_range, hz]
      rw [← Nat.add_mul, ← h1, ← hx, ← Nat.add_mul]
      congr 1; omega
    · have : (xs ++ ys).length * stride e = (flat e xs ++ flat e ys).length := by simp only [List.length_append, hfl, hfy, Nat.add_mul]
      rw [this, flat_append]
      exact List.take_left' rfl
    · have : w.drew.heap = w.heap := rfl
      rw [Ext.block (Ext.alloc w.drew _) (by rw [this]; exact hb), this]
    · rw [alloc_size]; exact Nat.le_succ _

/-- One more element. -/
theorem own_push {w0 w wA w1 : World} {e : El} {s : Option Addr × Nat × Nat} {xs : List e.T} {x : e.T} {t : TypeId} {bytes : Nat} {z : Array Value} {R : Option Addr × Nat × Nat → World → Prop}
    (h : Own w0 w e s xs) (h0 : Ext w0 w) (hp : plainE e = true) (k1 : Ext w wA) (k2 : Ext (wA.alloc (.cells ⟨cellsOf e x⟩ t)) w1) (hz : z.size = stride e) (hb : (xs.length + 1) * bytes ≤ 140737488355328)
    (k : ∀ s' w', Own w0 w' e s' (xs ++ [x]) → Ext w0 w' → (∀ b, b < w.heap.size → (∀ a, s.1 = some a → b ≠ a.block) → w'.heap[b]? = w.heap[b]?) → w.heap.size ≤ w'.heap.size → R s' w') :
    apR w1 t (stride e) bytes z s (some ⟨wA.heap.size, 0, none⟩, 1, 1) R := by
  have kk : Ext w w1 := (k1.trans (Ext.alloc wA _)).trans k2
  have hblk : Blk w1 wA.heap.size (cellsOf e x) := (Blk.new wA _ _).ext k2
  refine own_append (ys := [x]) (h.ext kk) (h0.trans kk) hp rfl ?_ hz hb fun s' w' ho he hf hsz _ => k s' w' ho he (fun b hb' hne => ?_) (Nat.le_trans kk.size hsz)
  · refine hblk.rdN (flat_length e [x]) fun i hi => ?_
    simp [flat]
  · rw [hf b (Nat.lt_of_lt_of_le hb' kk.size) hne, kk.block hb']

end Go.RX

/-! Words as bit vectors. -/
namespace Go.RX

def U (b : BitVec 64) : Int := (b.toNat : Int)
def B (x : Int) : BitVec 64 := BitVec.ofInt 64 x
theorem B_U (b : BitVec 64) : B (U b) = b := by
  unfold B U; simp
theorem U_lt (b : BitVec 64) : U b < 18446744073709551616 := by unfold U; have := b.isLt; omega
theorem U_nn (b : BitVec 64) : 0 ≤ U b := by unfold U; omega
theorem U_inj {a b : BitVec 64} : U a = U b ↔ a = b := ⟨fun h => by rw [← B_U a, h, B_U], fun h => by rw [h]⟩
theorem wrap_u64 (x : Int) : IntKind.u64.wrap x = x % 18446744073709551616 := by
  simp [IntKind.wrap, IntKind.bits, IntKind.signed]
theorem U_B (x : Int) : U (B x) = x % 18446744073709551616 := by
  unfold U B; rw [BitVec.toNat_ofInt]
  rw [Int.toNat_of_nonneg (Int.emod_nonneg _ (by decide))]; rfl
theorem U_B' {x : Int} (h : 0 ≤ x) (h' : x < 18446744073709551616) : U (B x) = x := by
  rw [U_B, Int.emod_eq_of_lt h h']
theorem wrap_B (x : Int) : IntKind.u64.wrap x = U (B x) := by rw [wrap_u64, U_B]
theorem U_ofNat (n : Nat) : U (BitVec.ofNat 64 n) = (n : Int) % 18446744073709551616 := by
  unfold U; rw [BitVec.toNat_ofNat]; omega
theorem andI_U (a b : BitVec 64) : andI .u64 (U a) (U b) = U (a &&& b) := by
  unfold andI; rw [wrap_B]
  show U (B (U (B (U a) &&& B (U b)))) = _
  rw [B_U, B_U, B_U]
theorem orI_U (a b : BitVec 64) : orI .u64 (U a) (U b) = U (a ||| b) := by
  unfold orI; rw [wrap_B]
  show U (B (U (B (U a) ||| B (U b)))) = _
  rw [B_U, B_U, B_U]
theorem xorI_U (a b : BitVec 64) : xorI .u64 (U a) (U b) = U (a ^^^ b) := by
  unfold xorI; rw [wrap_B]
  show U (B (U (B (U a) ^^^ B (U b)))) = _
  rw [B_U, B_U, B_U]
theorem andNotI_U (a b : BitVec 64) : andNotI .u64 (U a) (U b) = U (a &&& ~~~ b) := by
  unfold andNotI; rw [wrap_B]
  show U (B (U (B (U a) &&& ~~~ B (U b)))) = _
  rw [B_U, B_U, B_U]
theorem B_add (x y : Int) : B (x + y) = B x + B y := by unfold B; exact BitVec.ofInt_add ..
theorem B_mul (x y : Int) : B (x * y) = B x * B y := by unfold B; exact BitVec.ofInt_mul ..
theorem B_neg (x : Int) : B (-x) = - B x := by unfold B; exact BitVec.ofInt_neg ..
theorem B_sub (x y : Int) : B (x - y) = B x - B y := by rw [Int.sub_eq_add_neg, B_add, B_neg, BitVec.sub_eq_add_neg]
theorem addI_U (a b : BitVec 64) : addI .u64 (U a) (U b) = U (a + b) := by unfold addI; rw [wrap_B, B_add, B_U, B_U]
theorem subI_U (a b : BitVec 64) : subI .u64 (U a) (U b) = U (a - b) := by unfold subI; rw [wrap_B, B_sub, B_U, B_U]
theorem mulI_U (a b : BitVec 64) : mulI .u64 (U a) (U b) = U (a * b) := by unfold mulI; rw [wrap_B, B_mul, B_U, B_U]
theorem shlI_U (a : BitVec 64) (n : Int) : shlI .u64 (U a) n = U (a <<< n.toNat) := by
  unfold shlI; rw [wrap_u64]; unfold U
  rw [BitVec.toNat_shiftLeft, Nat.shiftLeft_eq]
  show (a.toNat : Int) * 2 ^ (min n.toNat 64) % _ = _
  by_cases h : n.toNat ≤ 64
  · rw [Nat.min_eq_left h]
    rw [Int.natCast_emod, Int.natCast_mul, Int.natCast_pow]; rfl
  · rw [Nat.min_eq_right (by omega)]
    have h1 : (a.toNat * 2 ^ n.toNat) % 2 ^ 64 = 0 := by
      apply Nat.mod_eq_zero_of_dvd
      exact Nat.dvd_trans (Nat.pow_dvd_pow 2 (by omega)) (Nat.dvd_mul_left ..)
    rw [h1]
    have : (a.toNat : Int) * 2 ^ 64 % 18446744073709551616 = 0 := by omega
    rw [this]; rfl
theorem shrI_U (a : BitVec 64) (n : Int) : shrI .u64 (U a) n = U (a >>> n.toNat) := by
  unfold shrI U
  rw [BitVec.toNat_ushiftRight, Nat.shiftRight_eq_div_pow]
  have e : ∀ k : Nat, ((a.toNat : Int).fdiv (2 ^ k)) = ((a.toNat / 2 ^ k : Nat) : Int) := fun k => by
    rw [Int.fdiv_eq_ediv_of_nonneg _ (Int.pow_nonneg (by decide))]; push_cast; rfl
  show (a.toNat : Int).fdiv (2 ^ (min n.toNat 64)) = _
  rw [e]
  by_cases h : n.toNat ≤ 64
  · rw [Nat.min_eq_left h]
  · rw [Nat.min_eq_right (by omega)]
    have h0 := a.isLt
    rw [Nat.div_eq_of_lt h0, Nat.div_eq_of_lt (Nat.lt_of_lt_of_le h0 (Nat.pow_le_pow_right (by decide) (by omega)))]
theorem of_wf_u64 {x : Int} (h : (Lit.int .u64 x).wf = true) : ∃ b, x = U b := by
  refine ⟨B x, ?_⟩
  simp [Lit.wf, IntKind.min, IntKind.max, IntKind.bits, IntKind.signed] at h
  rw [U_B' (by omega) (by omega)]
theorem i64_wf {x : Int} (h : (Lit.int .i64 x).wf = true) : -9223372036854775808 ≤ x ∧ x < 9223372036854775808 := by
  simp [Lit.wf, IntKind.min, IntKind.max, IntKind.bits, IntKind.signed] at h
  omega
theorem wrap_i64_id {x : Int} (h : -9223372036854775808 ≤ x) (h' : x < 9223372036854775808) : IntKind.i64.wrap x = x := by
  simp only [IntKind.wrap, IntKind.bits, IntKind.signed]
  simp
  omega
theorem addI_i64 {x y : Int} (h : -9223372036854775808 ≤ x + y) (h' : x + y < 9223372036854775808) : addI .i64 x y = x + y := wrap_i64_id h h'
theorem subI_i64 {x y : Int} (h : -9223372036854775808 ≤ x - y) (h' : x - y < 9223372036854775808) : subI .i64 x y = x - y := wrap_i64_id h h'
theorem mulI_i64 {x y : Int} (h : -9223372036854775808 ≤ x * y) (h' : x * y < 9223372036854775808) : mulI .i64 x y = x * y := wrap_i64_id h h'

/-- A contract's end, as an entry of the table. -/
theorem entry_of {P : Program} {f : FuncId} {sh : Sh} {args : List Value} {w : World} {x : sh.T} (h : CallsR P f sh args w (fun y w' => y = x ∧ Ext w w')) :
    Calls P f ⟨args⟩ w (fun e w' => e = .returned (sh.emb x) ∧ Ext w w') :=
  Calls.mono h fun _ w' ⟨y, he, hy, hw⟩ => ⟨by rw [he, hy], hw⟩

end Go.RX

/-! Slices that grow behind the block of a given number; what a world is below a number. -/
namespace Go.RX
open Go.RowKit

/-- A slice whose row was laid from block n on (or the nil slice). -/
def OwnN (n : Nat) (w : World) (e : El) (s : Option Addr × Nat × Nat) (xs : List e.T) : Prop :=
  s.2.1 = xs.length ∧ xs.length ≤ s.2.2 ∧
  ((s.1 = none ∧ xs = [] ∧ s.2.2 = 0) ∨ ∃ b l, s.1 = some ⟨b, 0, none⟩ ∧ n ≤ b ∧ Blk w b l ∧ l.length = s.2.2 * stride e ∧ l.take (xs.length * stride e) = flat e xs)
theorem Own.toN {w0 w : World} {e : El} {s : Option Addr × Nat × Nat} {xs : List e.T} (h : Own w0 w e s xs) : OwnN w0.heap.size w e s xs := h
theorem OwnN.of {w0 w : World} {e : El} {s : Option Addr × Nat × Nat} {xs : List e.T} {n : Nat} (h : OwnN n w e s xs) (hn : w0.heap.size ≤ n) : Own w0 w e s xs := by
  obtain ⟨h1, h2, h3⟩ := h
  refine ⟨h1, h2, ?_⟩
  rcases h3 with h3 | ⟨b, l, a1, a2, a3, a4⟩
  · exact .inl h3
  · exact .inr ⟨b, l, a1, by omega, a3, a4⟩
theorem OwnN.nil (n : Nat) (w : World) (e : El) : OwnN n w e (none, 0, 0) [] := ⟨rfl, Nat.le_refl _, .inl ⟨rfl, rfl, rfl⟩⟩
theorem OwnN.same {n : Nat} {w w' : World} {e : El} {s : Option Addr × Nat × Nat} {xs : List e.T} (h : OwnN n w e s xs) (k : ∀ b, n ≤ b → b < w.heap.size → w'.heap[b]? = w.heap[b]?) : OwnN n w' e s xs := by
  obtain ⟨h1, h2, h3⟩ := h
  refine ⟨h1, h2, ?_⟩
  rcases h3 with h3 | ⟨b, l, a1, a2, a3, a4⟩
  · exact .inl h3
  · exact .inr ⟨b, l, a1, a2, a3.same (k b a2 a3.lt), a4⟩
theorem OwnN.ext {n : Nat} {w w' : World} {e : El} {s : Option Addr × Nat × Nat} {xs : List e.T} (h : OwnN n w e s xs) (k : Ext w w') : OwnN n w' e s xs :=
  h.same fun _ _ hb => k.block hb
theorem OwnN.putP {n : Nat} {w : World} {e : El} {s : Option Addr × Nat × Nat} {xs : List e.T} (h : OwnN n w e s xs) {a : Addr} (ha : a.block < n) (vs : List Value) : OwnN n (putP w (some a) vs) e s xs :=
  h.same fun b hb _ => putAt_ne vs w a 0 b (by omega)
theorem OwnN.putL {n : Nat} {w : World} {e : El} {s : Option Addr × Nat × Nat} {xs : List e.T} (h : OwnN n w e s xs) {k : Nat} (hk : k < n) (rec : Loop) (st : LoopState) (pd : Option Code) : OwnN n (RX.putL w k rec st pd) e s xs :=
  h.same fun b hb _ => putObj_ne (by omega)
/-- A world's first n blocks. -/
def trunc (n : Nat) (w : World) : World := { w with heap := w.heap.extract 0 n }
theorem trunc_size {n : Nat} {w : World} (h : n ≤ w.heap.size) : (trunc n w).heap.size = n := by
  simp [trunc]; omega
theorem trunc_ext {n : Nat} {w : World} (h : n ≤ w.heap.size) : Ext (trunc n w) w := by
  refine ⟨rfl, rfl, rfl, ?_, fun k hk => ?_⟩
  · rw [trunc_size h]; exact h
  · rw [trunc_size h] at hk
    show w.heap[k]? = (w.heap.extract 0 n)[k]?
    rw [Array.getElem?_extract, if_pos (by omega), Nat.zero_add]
theorem below_of_trunc {n : Nat} {w w' : World} (h : n ≤ w.heap.size) (k : Ext (trunc n w) w') (hs : w.heap.size ≤ w'.heap.size) : Below n w w' :=
  ⟨k.os, k.tape, k.output, hs, fun j hj => by
    have h1 := k.block (k := j) (by rw [trunc_size h]; exact hj)
    have h2 := (trunc_ext h).block (k := j) (by rw [trunc_size h]; exact hj)
    rw [h1, h2]⟩
/-- One more element. -/
theorem own_pushN {n : Nat} {w wA w1 : World} {e : El} {s : Option Addr × Nat × Nat} {xs : List e.T} {x : e.T} {t : TypeId} {bytes : Nat} {z : Array Value} {R : Option Addr × Nat × Nat → World → Prop}
    (h : OwnN n w e s xs) (h0 : n ≤ w.heap.size) (hp : plainE e = true) (k1 : Ext w wA) (k2 : Ext (wA.alloc (.cells ⟨cellsOf e x⟩ t)) w1) (hz : z.size = stride e) (hb : (xs.length + 1) * bytes ≤ 140737488355328)
    (k : ∀ s' w', OwnN n w' e s' (xs ++ [x]) → Below n w w' → R s' w') :
    apR w1 t (stride e) bytes z s (some ⟨wA.heap.size, 0, none⟩, 1, 1) R := by
  have ho : Own (trunc n w) w e s xs := h.of (Nat.le_of_eq (trunc_size h0))
  refine own_push ho (trunc_ext h0) hp k1 k2 hz hb fun s' w' ho' he' _ hs => k s' w' ?_ (below_of_trunc h0 he' hs)
  have := ho'.toN
  rw [trunc_size h0] at this
  exact this
end Go.RX
namespace Go.RowKit
open Go.RX
theorem Below.blk {n : Nat} {w w' : World} (h : Below n w w') {b : Nat} {l : List Value} (hb : b < n) (k : Blk w b l) : Blk w' b l := k.same (h.block b hb)
theorem Below.loopAt {n : Nat} {w w' : World} (h : Below n w w') {l : Nat} {rec : Loop} {st : LoopState} {pd : Option Code} (hl : l < n) (k : LoopAt w l rec st pd) : LoopAt w' l rec st pd := k.same (h.block l hl)
theorem Below.ext0 {n : Nat} {w0 w w' : World} (h : Below n w w') (h0 : Ext w0 w) (hn : w0.heap.size ≤ n) : Ext w0 w' := Below.trans h0 (h.mono hn)
end Go.RowKit
