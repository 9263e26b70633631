import Derived.Test.YtffnfcokgemgjaaP5
import Derived.Test.YtffnfcokgemgjaaLst
import Derived.Test.YtffnfcokgemgjaaAt
namespace Go.Proofs.Ytffnfcokgemgjaa
set_option linter.unusedSimpArgs false
set_option linter.unusedVariables false
set_option maxRecDepth 100000
open Go.RX
noncomputable def M0 : Cfg Try.prog := { D3 with share := false, quiet := [57, 58, 19, 35] }
theorem mlen_vc (p : Option Addr) (w : World) (Post : Int → World → Prop) : (rxFn M0 (fun _ => []) 57 [.pointer p] w Post) = (
 brP p.isNone (EnP w fun (w1 : World) => Post 0 w1)
  (p.isSome = true ∧ p.isSome = true ∧ (addP p 0).isSome = true ∧ LdP w none (addP (addP p 0) 0) (El.one Sc.slice) fun (x : Option Addr × Nat × Nat) => EnP w fun (w1 : World) => Post (↑x.snd.fst : Int) w1)) := by kernel_rfl
theorem mat_vc (p : Option Addr) (n c : Nat) (i : Int) (w : World) (Post : Option Addr → World → Prop) : (rxFn M0 (fun _ => []) 58 [.agg ⟨[.slice p n c]⟩, .int .i64 i] w Post) = (
 AlP w { toList := [Value.slice p n c] } 83 fun (b : Nat) (w2 : World) =>
  ((!decide (i < 0)) = true → true = true) ∧
   LdP w2 (some !decide (i < 0)) (addP (some { block := b, off := 0 }) 0) (El.one Sc.slice) fun (x : Option Addr × Nat × Nat) =>
    brP (decide (i < 0) || decide (i ≥ (↑x.snd.fst : Int))) (EnP w2 fun (w1 : World) => Post none w1)
     (true = true ∧ LdP w2 none (addP (some { block := b, off := 0 }) 0) (El.one Sc.slice) fun (x : Option Addr × Nat × Nat) => (x.fst.isSome = true ∧ 0 ≤ i ∧ i < (↑x.snd.fst : Int)) ∧ EnP w2 fun (w1 : World) => Post (addP x.fst (i.toNat * 1)) w1)) := by kernel_rfl
theorem mword_vc (p : Option Addr) (i : Int) (w : World) (Post : Option Addr × Int × Unit → World → Prop) : (rxFn M0 (fun _ => []) 34 [.pointer p, .int .i64 i] w Post) = (
 ∃ (x : Int),
  QCalls Try.prog 57 [Value.pointer p] w (Value.int IntKind.i64 x) ∧
   brP (x == 0) (EnP w fun (w1 : World) => Post (none, 10, Unit.unit) w1)
    (p.isSome = true ∧
     p.isSome = true ∧
      LdP w none (addP p 0) (El.agg [Sc.slice]) fun (x : (Option Addr × Nat × Nat) × Unit) =>
       ∃ (x_1 : Option Addr),
        QCalls Try.prog 58 [Value.agg { toList := [Value.slice x.fst.fst x.fst.snd.fst x.fst.snd.snd] }, Value.int IntKind.i64 i] w (Value.pointer x_1) ∧
         brP x_1.isNone (EnP w fun (w1 : World) => Post (none, 2, Unit.unit) w1)
          (p.isSome = true ∧
           p.isSome = true ∧
            LdP w none (addP p 1) (El.one (Sc.int IntKind.i64)) fun (x : Int) =>
             p.isSome = true ∧ p.isSome = true ∧ StP w (addP p 1) [Value.int IntKind.i64 (addI IntKind.i64 x 1)] fun (w2 : World) => EnP w2 fun (w1 : World) => Post (x_1, 0, Unit.unit) w1))) := by kernel_rfl
theorem mload_vc (p : Option Addr) (i : Int) (w : World) (Post : Int × Int × Unit → World → Prop) : (rxFn M0 (fun _ => []) 63 [.pointer p, .int .i64 i] w Post) = (
 CaP Try.prog 34 (Sh.tup [El.one Sc.ptr, El.one (Sc.int IntKind.i64)]) [Value.pointer p, Value.int IntKind.i64 i] w fun (x : Option Addr × Int × Unit) (w2 : World) =>
  brP (x.snd.fst != 0) (EnP w2 fun (w1 : World) => Post (0, x.snd.fst, Unit.unit) w1) (x.fst.isSome = true ∧ LdP w2 none x.fst (El.one (Sc.int IntKind.u64)) fun (x : Int) => EnP w2 fun (w1 : World) => Post (x, 0, Unit.unit) w1)) := by kernel_rfl
theorem mstore_vc (p : Option Addr) (i v : Int) (w : World) (Post : Int → World → Prop) : (rxFn M0 (fun _ => []) 21 [.pointer p, .int .i64 i, .int .u64 v] w Post) = (
 CaP Try.prog 34 (Sh.tup [El.one Sc.ptr, El.one (Sc.int IntKind.i64)]) [Value.pointer p, Value.int IntKind.i64 i] w fun (x : Option Addr × Int × Unit) (w2 : World) =>
  brP (x.snd.fst == 0)
   (x.fst.isSome = true ∧
    StP w2 x.fst [Value.int IntKind.u64 v] fun (w2 : World) =>
     p.isSome = true ∧
      p.isSome = true ∧
       LdP w2 none (addP p 2) (El.one (Sc.int IntKind.i64)) fun (x_1 : Int) => p.isSome = true ∧ p.isSome = true ∧ StP w2 (addP p 2) [Value.int IntKind.i64 (addI IntKind.i64 x_1 1)] fun (w2 : World) => EnP w2 fun (w1 : World) => Post x.snd.fst w1)
   (EnP w2 fun (w1 : World) => Post x.snd.fst w1)) := by kernel_rfl
theorem mcount_vc (p : Option Addr) (w : World) (Post : Int × Int × Unit → World → Prop) : (rxFn M0 (fun _ => []) 19 [.pointer p] w Post) = (
 brP p.isNone (EnP w fun (w1 : World) => Post (0, 0, Unit.unit) w1)
  (p.isSome = true ∧
   p.isSome = true ∧
    LdP w none (addP p 1) (El.one (Sc.int IntKind.i64)) fun (x : Int) => p.isSome = true ∧ p.isSome = true ∧ LdP w none (addP p 2) (El.one (Sc.int IntKind.i64)) fun (x_1 : Int) => EnP w fun (w1 : World) => Post (x, x_1, Unit.unit) w1)) := by kernel_rfl
theorem mnew_vc (n : Int) (w : World) (Post : Option Addr × Int × Unit → World → Prop) : (rxFn M0 (fun _ => []) 22 [.int .i64 n] w Post) = (
 brP (decide (n < 1) || decide (n > 65536)) (EnP w fun (w1 : World) => Post (none, 1, Unit.unit) w1)
  (MkP w 8 1 n n { toList := [Value.int IntKind.u64 0] } 43 fun (b : Nat) (w2 : World) =>
   AlP w2 { toList := [Value.slice (some { block := b, off := 0 }) n.toNat n.toNat, Value.int IntKind.i64 0, Value.int IntKind.i64 0] } 85 fun (b : Nat) (w2 : World) => EnP w2 fun (w1 : World) => Post (some { block := b, off := 0 }, 0, Unit.unit) w1)) := by kernel_rfl
theorem nthere_vc (p : Option Addr) (i : Int) (w : World) (Post : Bool → World → Prop) : (rxFn M0 (fun _ => []) 35 [.pointer p, .int .i64 i] w Post) = (
 (decide (i ≥ 0) = true → p.isSome = true) ∧
  (decide (i ≥ 0) = true → p.isSome = true) ∧ LdP w (some (decide (i ≥ 0))) (addP p 0) (El.one Sc.slice) fun (x : Option Addr × Nat × Nat) => EnP w fun (w1 : World) => Post (decide (i ≥ 0) && decide (i < (↑x.snd.fst : Int))) w1) := by kernel_rfl
theorem nload_vc (p : Option Addr) (i : Int) (w : World) (Post : Int × Int × Unit → World → Prop) : (rxFn M0 (fun _ => []) 36 [.pointer p, .int .i64 i] w Post) = (
 ∃ (x : Bool),
  QCalls Try.prog 35 [Value.pointer p, Value.int IntKind.i64 i] w (Value.bool x) ∧
   brP (!x) (EnP w fun (w1 : World) => Post (0, 2, Unit.unit) w1)
    (p.isSome = true ∧
     p.isSome = true ∧
      LdP w none (addP p 1) (El.one (Sc.int IntKind.i64)) fun (x : Int) =>
       p.isSome = true ∧
        p.isSome = true ∧
         StP w (addP p 1) [Value.int IntKind.i64 (addI IntKind.i64 x 1)] fun (w2 : World) =>
          p.isSome = true ∧
           p.isSome = true ∧
            LdP w2 none (addP p 0) (El.one Sc.slice) fun (x : Option Addr × Nat × Nat) =>
             (x.fst.isSome = true ∧ 0 ≤ i ∧ i < (↑x.snd.fst : Int)) ∧ LdP w2 none (addP x.fst (i.toNat * 1)) (El.one (Sc.int IntKind.u64)) fun (x : Int) => EnP w2 fun (w1 : World) => Post (x, 0, Unit.unit) w1)) := by kernel_rfl
theorem nstore_vc (p : Option Addr) (i v : Int) (w : World) (Post : Int → World → Prop) : (rxFn M0 (fun _ => []) 24 [.pointer p, .int .i64 i, .int .u64 v] w Post) = (
 ∃ (x : Bool),
  QCalls Try.prog 35 [Value.pointer p, Value.int IntKind.i64 i] w (Value.bool x) ∧
   brP (!x) (EnP w fun (w1 : World) => Post 2 w1)
    (p.isSome = true ∧
     p.isSome = true ∧
      LdP w none (addP p 1) (El.one (Sc.int IntKind.i64)) fun (x : Int) =>
       p.isSome = true ∧
        p.isSome = true ∧
         StP w (addP p 1) [Value.int IntKind.i64 (addI IntKind.i64 x 1)] fun (w2 : World) =>
          p.isSome = true ∧
           p.isSome = true ∧
            LdP w2 none (addP p 2) (El.one (Sc.int IntKind.i64)) fun (x : Int) =>
             p.isSome = true ∧
              p.isSome = true ∧
               StP w2 (addP p 2) [Value.int IntKind.i64 (addI IntKind.i64 x 1)] fun (w2 : World) =>
                p.isSome = true ∧
                 p.isSome = true ∧
                  LdP w2 none (addP p 0) (El.one Sc.slice) fun (x : Option Addr × Nat × Nat) =>
                   (x.fst.isSome = true ∧ 0 ≤ i ∧ i < (↑x.snd.fst : Int)) ∧ StP w2 (addP x.fst (i.toNat * 1)) [Value.int IntKind.u64 v] fun (w2 : World) => EnP w2 fun (w1 : World) => Post 0 w1)) := by kernel_rfl
theorem nnew_vc (n : Int) (w : World) (Post : Option Addr × Int × Unit → World → Prop) : (rxFn M0 (fun _ => []) 23 [.int .i64 n] w Post) = (
 brP (decide (n < 1) || decide (n > 65536))
  (AlP w { toList := [Value.slice none 0 0, Value.int IntKind.i64 0, Value.int IntKind.i64 0] } 91 fun (b : Nat) (w2 : World) => EnP w2 fun (w1 : World) => Post (some { block := b, off := 0 }, 1, Unit.unit) w1)
  (MkP w 8 1 n n { toList := [Value.int IntKind.u64 0] } 43 fun (b : Nat) (w2 : World) =>
   AlP w2 { toList := [Value.slice (some { block := b, off := 0 }) n.toNat n.toNat, Value.int IntKind.i64 0, Value.int IntKind.i64 0] } 91 fun (b : Nat) (w2 : World) => EnP w2 fun (w1 : World) => Post (some { block := b, off := 0 }, 0, Unit.unit) w1)) := by kernel_rfl
def both_vc_ann : Nat → Slots := (fun | 4 => [(8, Go.RX.El.one (Go.RX.Sc.int Go.IntKind.i64))] | _ => [])
theorem both_vc (p : Option Addr) (n c : Nat) (w : World) (Post : Option Addr × Option Addr × Unit → World → Prop) : (rxFn M0 both_vc_ann 8 [.slice p n c] w Post) = (
 CaP Try.prog 22 (Sh.tup [El.one Sc.ptr, El.one (Sc.int IntKind.i64)]) [Value.int IntKind.i64 160] w fun (x : Option Addr × Int × Unit) (w2 : World) =>
  CaP Try.prog 23 (Sh.tup [El.one Sc.ptr, El.one (Sc.int IntKind.i64)]) [Value.int IntKind.i64 160] w2 fun (x_1 : Option Addr × Int × Unit) (w2 : World) =>
   ∃ (I : Nat → Int × Unit → World → Prop),
    (∃ (n : Nat), ∀ (w1 : World), Ext w2 w1 → I n (0, Unit.unit) w1) ∧
     ∀ (n_1 : Nat) (s : Int × Unit) (w1 : World),
      I n_1 s w1 →
       brP (decide (s.fst < (↑n : Int)) && decide (s.fst < 200))
        ((p.isSome = true ∧ 0 ≤ s.fst ∧ s.fst < (↑n : Int)) ∧
         (addP p (Int.toNat s.fst * 2)).isSome = true ∧
          LdP w1 none (addP (addP p (Int.toNat s.fst * 2)) 0) (El.one (Sc.int IntKind.i64)) fun (x_2 : Int) =>
           (p.isSome = true ∧ 0 ≤ s.fst ∧ s.fst < (↑n : Int)) ∧
            (addP p (Int.toNat s.fst * 2)).isSome = true ∧
             LdP w1 none (addP (addP p (Int.toNat s.fst * 2)) 1) (El.one (Sc.int IntKind.u64)) fun (x_3 : Int) =>
              CaP Try.prog 21 (Sh.el (El.one (Sc.int IntKind.i64))) [Value.pointer x.fst, Value.int IntKind.i64 x_2, Value.int IntKind.u64 x_3] w1 fun (x : Int) (w2 : World) =>
               (p.isSome = true ∧ 0 ≤ s.fst ∧ s.fst < (↑n : Int)) ∧
                (addP p (Int.toNat s.fst * 2)).isSome = true ∧
                 LdP w2 none (addP (addP p (Int.toNat s.fst * 2)) 0) (El.one (Sc.int IntKind.i64)) fun (x : Int) =>
                  (p.isSome = true ∧ 0 ≤ s.fst ∧ s.fst < (↑n : Int)) ∧
                   (addP p (Int.toNat s.fst * 2)).isSome = true ∧
                    LdP w2 none (addP (addP p (Int.toNat s.fst * 2)) 1) (El.one (Sc.int IntKind.u64)) fun (x_4 : Int) =>
                     CaP Try.prog 24 (Sh.el (El.one (Sc.int IntKind.i64))) [Value.pointer x_1.fst, Value.int IntKind.i64 x, Value.int IntKind.u64 x_4] w2 fun (x : Int) (w2 : World) =>
                      ∀ (w3 : World), Ext w2 w3 → ∃ (n' : Nat), n' < n_1 ∧ I n' (addI IntKind.i64 s.fst 1, Unit.unit) w3)
        (EnP w1 fun (w1 : World) => Post (x.fst, x_1.fst, Unit.unit) w1)) := by kernel_rfl
end Go.Proofs.Ytffnfcokgemgjaa
