import Derived.Test.YtogndkmclingeaaO7
import Derived.Test.YtogndkmclingeaaLift
namespace Go.Proofs.Ytogndkmclingeaa
set_option linter.unusedSimpArgs false
set_option linter.unusedVariables false
open Go.RX
noncomputable def E3 : Cfg Try.prog := { E0 with quiet := [18, 10, 26, 12, 25] }
theorem pknown_vc (w : World) (Post : Bool → World → Prop) : (rxFn E3 (fun _ => []) 17 [] w Post) = (
 CaP Try.prog 9 (Sh.tup [El.one Sc.ptr, El.one (Sc.int IntKind.i64)]) [Value.int IntKind.i64 2] w fun (x : Option Addr × Int × Unit) (w2 : World) =>
  CaP Try.prog 9 (Sh.tup [El.one Sc.ptr, El.one (Sc.int IntKind.i64)]) [Value.int IntKind.i64 0] w2 fun (x_1 : Option Addr × Int × Unit) (w2 : World) =>
   brP (x.snd.fst != 0 || x.fst.isNone) (EnP w2 fun (w1 : World) => Post false w1)
    (CaP Try.prog 11 (Sh.tup [El.one (Sc.int IntKind.i64), El.one (Sc.int IntKind.i64)]) [Value.pointer x.fst, Value.int IntKind.i64 4, Value.int IntKind.i64 1] w2 fun (x_2 : Int × Int × Unit) (w2 : World) =>
     CaP Try.prog 11 (Sh.tup [El.one (Sc.int IntKind.i64), El.one (Sc.int IntKind.i64)]) [Value.pointer x.fst, Value.int IntKind.i64 3, Value.int IntKind.i64 1] w2 fun (x_3 : Int × Int × Unit) (w2 : World) =>
      CaP Try.prog 11 (Sh.tup [El.one (Sc.int IntKind.i64), El.one (Sc.int IntKind.i64)]) [Value.pointer x.fst, Value.int IntKind.i64 4, Value.int IntKind.i64 1] w2 fun (x_4 : Int × Int × Unit) (w2 : World) =>
       CaP Try.prog 15 (Sh.el (El.one (Sc.int IntKind.i64))) [Value.pointer x.fst, Value.int IntKind.i64 0, Value.int IntKind.i64 1] w2 fun (x_5 : Int) (w2 : World) =>
        CaP Try.prog 13 (Sh.el (El.one (Sc.int IntKind.i64))) [Value.pointer x.fst, Value.int IntKind.i64 0] w2 fun (x_6 : Int) (w2 : World) =>
         CaP Try.prog 15 (Sh.el (El.one (Sc.int IntKind.i64))) [Value.pointer x.fst, Value.int IntKind.i64 0, Value.int IntKind.i64 (-1)] w2 fun (x_7 : Int) (w2 : World) =>
          CaP Try.prog 13 (Sh.el (El.one (Sc.int IntKind.i64))) [Value.pointer x.fst, Value.int IntKind.i64 0] w2 fun (x_8 : Int) (w2 : World) =>
           ∃ (x_9 : (Int × Int × Int × Int × Unit) × Bool × Unit),
            QCalls Try.prog 12 [Value.pointer x.fst, Value.int IntKind.i64 1] w2
              (Value.tuple
               { toList := [Value.agg { toList := [Value.int IntKind.i64 x_9.fst.fst, Value.int IntKind.i64 x_9.fst.snd.fst, Value.int IntKind.i64 x_9.fst.snd.snd.fst, Value.int IntKind.i64 x_9.fst.snd.snd.snd.fst] }, Value.bool x_9.snd.fst] }) ∧
             AlP w2 { toList := [Value.int IntKind.i64 0, Value.int IntKind.i64 0, Value.int IntKind.i64 0, Value.int IntKind.i64 0] } 33 fun (b : Nat) (w2 : World) =>
              StP w2 (some { block := b, off := 0 }) [Value.int IntKind.i64 x_9.fst.fst, Value.int IntKind.i64 x_9.fst.snd.fst, Value.int IntKind.i64 x_9.fst.snd.snd.fst, Value.int IntKind.i64 x_9.fst.snd.snd.snd.fst] fun (w2 : World) =>
               LdP w2 (some (x_1.snd.fst == 1 && x_2.fst == 0 && x_2.snd.fst == 0 && x_3.fst == 1 && x_3.snd.fst == 0 && x_4.snd.fst == 12 && x_5 == 0 && x_6 == 9 && x_7 == 0 && x_8 == 0)) (some { block := b, off := 0 })
                (El.agg [Sc.int IntKind.i64, Sc.int IntKind.i64, Sc.int IntKind.i64, Sc.int IntKind.i64]) fun (x_10 : Int × Int × Int × Int × Unit) =>
                ∃ (x_11 : Int),
                 ((x_1.snd.fst == 1 && x_2.fst == 0 && x_2.snd.fst == 0 && x_3.fst == 1 && x_3.snd.fst == 0 && x_4.snd.fst == 12 && x_5 == 0 && x_6 == 9 && x_7 == 0 && x_8 == 0 &&
                      (x_10.fst == 3 && (x_10.snd.fst == 1 && (x_10.snd.snd.fst == 0 && (x_10.snd.snd.snd.fst == 0 && true)))) &&
                     x_9.snd.fst) =
                    true →
                   QCalls Try.prog 10 [Value.pointer x.fst, Value.int IntKind.i64 0] w2 (Value.int IntKind.i64 x_11)) ∧
                  brP
                   (x_1.snd.fst == 1 && x_2.fst == 0 && x_2.snd.fst == 0 && x_3.fst == 1 && x_3.snd.fst == 0 && x_4.snd.fst == 12 && x_5 == 0 && x_6 == 9 && x_7 == 0 && x_8 == 0 &&
                      (x_10.fst == 3 && (x_10.snd.fst == 1 && (x_10.snd.snd.fst == 0 && (x_10.snd.snd.snd.fst == 0 && true)))) &&
                     x_9.snd.fst &&
                    x_11 == 1)
                   (CaP Try.prog 16 (Sh.el (El.one Sc.slice)) [Value.pointer x.fst, Value.int IntKind.i64 1] w2 fun (x_12 : Option Addr × Nat × Nat) (w2 : World) =>
                    AlP w2 { toList := [Value.int IntKind.i64 1] } 3 fun (b : Nat) (w2 : World) =>
                     CaP Try.prog 27 (Sh.el (El.one Sc.bool)) [Value.slice x_12.fst x_12.snd.fst x_12.snd.snd, Value.slice (some { block := b, off := 0 }) 1 1] w2 fun (x_13 : Bool) (w2 : World) =>
                      ∃ (x_14 : Int),
                       (x_13 = true → QCalls Try.prog 18 [Value.pointer x.fst] w2 (Value.int IntKind.i64 x_14)) ∧
                        brP (x_13 && x_14 == 2)
                         (CaP Try.prog 14 (Sh.el (El.one (Sc.int IntKind.i64))) [Value.pointer x.fst, Value.int IntKind.i64 2, Value.int IntKind.i64 0, Value.int IntKind.i64 0] w2 fun (x : Int) (w2 : World) =>
                          EnP w2 fun (w1 : World) => Post (x == 2) w1)
                         (EnP w2 fun (w1 : World) => Post false w1))
                   (∃ (x_12 : Int), (false = true → QCalls Try.prog 18 [Value.pointer x.fst] w2 (Value.int IntKind.i64 x_12)) ∧ EnP w2 fun (w1 : World) => Post false w1))) := by kernel_rfl
theorem pnil_vc (f : Int) (w : World) (Post : Bool → World → Prop) : (rxFn E3 (fun _ => []) 8 [.int .i64 f] w Post) = (
 AlP w { toList := [Value.slice none 0 0] } 61 fun (b : Nat) (w2 : World) =>
  CaP Try.prog 11 (Sh.tup [El.one (Sc.int IntKind.i64), El.one (Sc.int IntKind.i64)]) [Value.pointer none, Value.int IntKind.i64 4, Value.int IntKind.i64 1] w2 fun (x : Int × Int × Unit) (w2 : World) =>
   CaP Try.prog 11 (Sh.tup [El.one (Sc.int IntKind.i64), El.one (Sc.int IntKind.i64)]) [Value.pointer (some { block := b, off := 0 }), Value.int IntKind.i64 4, Value.int IntKind.i64 1] w2 fun (x_1 : Int × Int × Unit) (w2 : World) =>
    ∃ (x_2 : (Int × Int × Int × Int × Unit) × Bool × Unit),
     QCalls Try.prog 12 [Value.pointer none, Value.int IntKind.i64 f] w2
       (Value.tuple { toList := [Value.agg { toList := [Value.int IntKind.i64 x_2.fst.fst, Value.int IntKind.i64 x_2.fst.snd.fst, Value.int IntKind.i64 x_2.fst.snd.snd.fst, Value.int IntKind.i64 x_2.fst.snd.snd.snd.fst] }, Value.bool x_2.snd.fst] }) ∧
      AlP w2 { toList := [Value.int IntKind.i64 0, Value.int IntKind.i64 0, Value.int IntKind.i64 0, Value.int IntKind.i64 0] } 33 fun (b_1 : Nat) (w2 : World) =>
       StP w2 (some { block := b_1, off := 0 }) [Value.int IntKind.i64 x_2.fst.fst, Value.int IntKind.i64 x_2.fst.snd.fst, Value.int IntKind.i64 x_2.fst.snd.snd.fst, Value.int IntKind.i64 x_2.fst.snd.snd.snd.fst] fun (w2 : World) =>
        brP (x.snd.fst == 10 && x_1.snd.fst == 10 && !x_2.snd.fst)
         (CaP Try.prog 13 (Sh.el (El.one (Sc.int IntKind.i64))) [Value.pointer none, Value.int IntKind.i64 f] w2 fun (x : Int) (w2 : World) =>
          brP (x == 10)
           (CaP Try.prog 14 (Sh.el (El.one (Sc.int IntKind.i64))) [Value.pointer (some { block := b, off := 0 }), Value.int IntKind.i64 f, Value.int IntKind.i64 0, Value.int IntKind.i64 0] w2 fun (x : Int) (w2 : World) =>
            brP (x == 10)
             (CaP Try.prog 15 (Sh.el (El.one (Sc.int IntKind.i64))) [Value.pointer none, Value.int IntKind.i64 f, Value.int IntKind.i64 1] w2 fun (x : Int) (w2 : World) =>
              ∃ (x_3 : Int),
               ((x == 10) = true → QCalls Try.prog 10 [Value.pointer none, Value.int IntKind.i64 0] w2 (Value.int IntKind.i64 x_3)) ∧
                brP (x == 10 && x_3 == 0)
                 (CaP Try.prog 16 (Sh.el (El.one Sc.slice)) [Value.pointer (some { block := b, off := 0 }), Value.int IntKind.i64 0] w2 fun (x : Option Addr × Nat × Nat) (w2 : World) =>
                  ∃ (x_4 : Int),
                   (((↑x.snd.fst : Int) == 0) = true → QCalls Try.prog 18 [Value.pointer none] w2 (Value.int IntKind.i64 x_4)) ∧
                    brP ((↑x.snd.fst : Int) == 0 && x_4 == 0)
                     (CaP Try.prog 24 (Sh.el (El.one Sc.ptr)) [Value.pointer none] w2 fun (x : Option Addr) (w2 : World) =>
                      brP x.isNone
                       (CaP Try.prog 24 (Sh.el (El.one Sc.ptr)) [Value.pointer (some { block := b, off := 0 })] w2 fun (x : Option Addr) (w2 : World) =>
                        brP x.isNone (CaP Try.prog 17 (Sh.el (El.one Sc.bool)) [] w2 fun (x : Bool) (w2 : World) => EnP w2 fun (w1 : World) => Post x w1) (EnP w2 fun (w1 : World) => Post false w1))
                       (EnP w2 fun (w1 : World) => Post false w1))
                     (EnP w2 fun (w1 : World) => Post false w1))
                 (∃ (x : Int), (false = true → QCalls Try.prog 18 [Value.pointer none] w2 (Value.int IntKind.i64 x)) ∧ EnP w2 fun (w1 : World) => Post false w1))
             (∃ (x : Int),
              (false = true → QCalls Try.prog 10 [Value.pointer none, Value.int IntKind.i64 0] w2 (Value.int IntKind.i64 x)) ∧
               ∃ (x : Int), (false = true → QCalls Try.prog 18 [Value.pointer none] w2 (Value.int IntKind.i64 x)) ∧ EnP w2 fun (w1 : World) => Post false w1))
           (∃ (x : Int),
            (false = true → QCalls Try.prog 10 [Value.pointer none, Value.int IntKind.i64 0] w2 (Value.int IntKind.i64 x)) ∧
             ∃ (x : Int), (false = true → QCalls Try.prog 18 [Value.pointer none] w2 (Value.int IntKind.i64 x)) ∧ EnP w2 fun (w1 : World) => Post false w1))
         (∃ (x : Int),
          (false = true → QCalls Try.prog 10 [Value.pointer none, Value.int IntKind.i64 0] w2 (Value.int IntKind.i64 x)) ∧
           ∃ (x : Int), (false = true → QCalls Try.prog 18 [Value.pointer none] w2 (Value.int IntKind.i64 x)) ∧ EnP w2 fun (w1 : World) => Post false w1)) := by kernel_rfl
def prefs_vc_ann : Nat → Slots := (fun | 8 => [(9, Go.RX.El.one (Go.RX.Sc.int Go.IntKind.i64))] | _ => [])
theorem prefs_vc (n r : Int) (w : World) (Post : Bool → World → Prop) : (rxFn E3 prefs_vc_ann 5 [.int .u8 n, .int .u8 r] w Post) = (
 CaP Try.prog 9 (Sh.tup [El.one Sc.ptr, El.one (Sc.int IntKind.i64)]) [Value.int IntKind.i64 (addI IntKind.i64 1 (convI IntKind.i64 n))] w fun (x : Option Addr × Int × Unit) (w2 : World) =>
  brP (x.snd.fst != 0 || x.fst.isNone) (EnP w2 fun (w1 : World) => Post false w1)
   (CaP Try.prog 11 (Sh.tup [El.one (Sc.int IntKind.i64), El.one (Sc.int IntKind.i64)]) [Value.pointer x.fst, Value.int IntKind.i64 4, Value.int IntKind.i64 3] w2 fun (x_1 : Int × Int × Unit) (w2 : World) =>
    brP (x_1.snd.fst != 0) (EnP w2 fun (w1 : World) => Post false w1)
     (∃ (I : Nat → Int × Unit → World → Prop),
      (∃ (n : Nat), ∀ (w1 : World), Ext w2 w1 → I n (0, Unit.unit) w1) ∧
       ∀ (n : Nat) (s : Int × Unit) (w1 : World),
        I n s w1 →
         brP (decide (s.fst < convI IntKind.i64 r))
          (CaP Try.prog 15 (Sh.el (El.one (Sc.int IntKind.i64))) [Value.pointer x.fst, Value.int IntKind.i64 x_1.fst, Value.int IntKind.i64 1] w1 fun (x_2 : Int) (w2 : World) =>
           brP (x_2 != 0) (EnP w2 fun (w1 : World) => Post false w1)
            (CaP Try.prog 13 (Sh.el (El.one (Sc.int IntKind.i64))) [Value.pointer x.fst, Value.int IntKind.i64 x_1.fst] w2 fun (x_3 : Int) (w2 : World) =>
             brP (x_3 != 9) (EnP w2 fun (w1 : World) => Post false w1)
              (CaP Try.prog 14 (Sh.el (El.one (Sc.int IntKind.i64))) [Value.pointer x.fst, Value.int IntKind.i64 x_1.fst, Value.int IntKind.i64 5, Value.int IntKind.i64 0] w2 fun (x : Int) (w2 : World) =>
               brP (x != 9) (EnP w2 fun (w1 : World) => Post false w1) (∀ (w3 : World), Ext w2 w3 → ∃ (n' : Nat), n' < n ∧ I n' (addI IntKind.i64 s.fst 1, Unit.unit) w3))))
          (CaP Try.prog 15 (Sh.el (El.one (Sc.int IntKind.i64))) [Value.pointer x.fst, Value.int IntKind.i64 x_1.fst, Value.int IntKind.i64 (subI IntKind.i64 (subI IntKind.i64 0 (convI IntKind.i64 r)) 1)] w1 fun (x_2 : Int) (w2 : World) =>
           CaP Try.prog 15 (Sh.el (El.one (Sc.int IntKind.i64))) [Value.pointer x.fst, Value.int IntKind.i64 x_1.fst, Value.int IntKind.i64 (subI IntKind.i64 0 (convI IntKind.i64 r))] w2 fun (x_3 : Int) (w2 : World) =>
            brP (x_2 == 2 && x_3 == 0)
             (CaP Try.prog 14 (Sh.el (El.one (Sc.int IntKind.i64))) [Value.pointer x.fst, Value.int IntKind.i64 x_1.fst, Value.int IntKind.i64 5, Value.int IntKind.i64 0] w2 fun (x_4 : Int) (w2 : World) =>
              brP (x_4 == 0)
               (CaP Try.prog 13 (Sh.el (El.one (Sc.int IntKind.i64))) [Value.pointer x.fst, Value.int IntKind.i64 x_1.fst] w2 fun (x_5 : Int) (w2 : World) =>
                ∃ (x_6 : Int),
                 ((x_5 == 0) = true → QCalls Try.prog 10 [Value.pointer x.fst, Value.int IntKind.i64 0] w2 (Value.int IntKind.i64 x_6)) ∧
                  ∃ (x_7 : Int),
                   ((x_5 == 0) = true → QCalls Try.prog 18 [Value.pointer x.fst] w2 (Value.int IntKind.i64 x_7)) ∧
                    brP (x_5 == 0 && x_6 == x_7) (CaP Try.prog 17 (Sh.el (El.one Sc.bool)) [] w2 fun (x : Bool) (w2 : World) => EnP w2 fun (w1 : World) => Post x w1) (EnP w2 fun (w1 : World) => Post false w1))
               (∃ (x_5 : Int),
                (false = true → QCalls Try.prog 10 [Value.pointer x.fst, Value.int IntKind.i64 0] w2 (Value.int IntKind.i64 x_5)) ∧
                 ∃ (x_6 : Int), (false = true → QCalls Try.prog 18 [Value.pointer x.fst] w2 (Value.int IntKind.i64 x_6)) ∧ EnP w2 fun (w1 : World) => Post false w1))
             (∃ (x_4 : Int),
              (false = true → QCalls Try.prog 10 [Value.pointer x.fst, Value.int IntKind.i64 0] w2 (Value.int IntKind.i64 x_4)) ∧
               ∃ (x_5 : Int), (false = true → QCalls Try.prog 18 [Value.pointer x.fst] w2 (Value.int IntKind.i64 x_5)) ∧ EnP w2 fun (w1 : World) => Post false w1))))) := by kernel_rfl
def pleast_vc_ann : Nat → Slots := (fun | 6 => [(8, Go.RX.El.one (Go.RX.Sc.int Go.IntKind.i64))] | 12 => [(11, Go.RX.El.one (Go.RX.Sc.int Go.IntKind.i64))] | _ => [])
theorem pleast_vc (n : Int) (p : Option Addr) (m c : Nat) (w : World) (Post : Bool → World → Prop) : (rxFn E3 pleast_vc_ann 4 [.int .u8 n, .slice p m c] w Post) = (
 CaP Try.prog 9 (Sh.tup [El.one Sc.ptr, El.one (Sc.int IntKind.i64)]) [Value.int IntKind.i64 (addI IntKind.i64 1 (convI IntKind.i64 n))] w fun (x : Option Addr × Int × Unit) (w2 : World) =>
  brP (x.snd.fst != 0 || x.fst.isNone || decide ((↑m : Int) > 40))
   (brP (x.snd.fst == 0 && !x.fst.isNone) (CaP Try.prog 17 (Sh.el (El.one Sc.bool)) [] w2 fun (x : Bool) (w2 : World) => EnP w2 fun (w1 : World) => Post x w1) (EnP w2 fun (w1 : World) => Post false w1))
   (∃ (I : Nat → Int × Unit → World → Prop),
    (∃ (n : Nat), ∀ (w1 : World), Ext w2 w1 → I n (0, Unit.unit) w1) ∧
     ∀ (n_1 : Nat) (s : Int × Unit) (w1 : World),
      I n_1 s w1 →
       brP (decide (s.fst < addI IntKind.i64 1 (convI IntKind.i64 n)))
        (CaP Try.prog 11 (Sh.tup [El.one (Sc.int IntKind.i64), El.one (Sc.int IntKind.i64)]) [Value.pointer x.fst, Value.int IntKind.i64 2, Value.int IntKind.i64 0] w1 fun (x : Int × Int × Unit) (w2 : World) =>
         brP (x.fst != s.fst || x.snd.fst != 0) (EnP w2 fun (w1 : World) => Post false w1) (∀ (w3 : World), Ext w2 w3 → ∃ (n' : Nat), n' < n_1 ∧ I n' (addI IntKind.i64 s.fst 1, Unit.unit) w3))
        (∃ (I : Nat → Int × Unit → World → Prop),
         (∃ (n : Nat), ∀ (w1_1 : World), Ext w1 w1_1 → I n (0, Unit.unit) w1_1) ∧
          ∀ (n_2 : Nat) (s : Int × Unit) (w1 : World),
           I n_2 s w1 →
            brP (decide (s.fst < (↑m : Int)))
             ((p.isSome = true ∧ 0 ≤ s.fst ∧ s.fst < (↑m : Int)) ∧
              LdP w1 none (addP p (Int.toNat s.fst * 1)) (El.one (Sc.int IntKind.u8)) fun (x_1 : Int) =>
               addI IntKind.i64 1 (convI IntKind.i64 n) ≠ 0 ∧
                CaP Try.prog 13 (Sh.el (El.one (Sc.int IntKind.i64))) [Value.pointer x.fst, Value.int IntKind.i64 (remI (convI IntKind.i64 x_1) (addI IntKind.i64 1 (convI IntKind.i64 n)))] w1 fun (x_2 : Int) (w2 : World) =>
                 brP (x_2 != 0) (EnP w2 fun (w1 : World) => Post false w1)
                  (CaP Try.prog 11 (Sh.tup [El.one (Sc.int IntKind.i64), El.one (Sc.int IntKind.i64)]) [Value.pointer x.fst, Value.int IntKind.i64 4, Value.int IntKind.i64 (addI IntKind.i64 1 (remI s.fst 16))] w2
                   fun (x : Int × Int × Unit) (w2 : World) =>
                   brP (x.fst != remI (convI IntKind.i64 x_1) (addI IntKind.i64 1 (convI IntKind.i64 n)) || x.snd.fst != 0) (EnP w2 fun (w1 : World) => Post false w1)
                    (∀ (w3 : World), Ext w2 w3 → ∃ (n' : Nat), n' < n_2 ∧ I n' (addI IntKind.i64 s.fst 1, Unit.unit) w3)))
             (CaP Try.prog 11 (Sh.tup [El.one (Sc.int IntKind.i64), El.one (Sc.int IntKind.i64)]) [Value.pointer x.fst, Value.int IntKind.i64 4, Value.int IntKind.i64 1] w1 fun (x_1 : Int × Int × Unit) (w2 : World) =>
              ∃ (x_2 : Int),
               ((x_1.snd.fst == 12) = true → QCalls Try.prog 10 [Value.pointer x.fst, Value.int IntKind.i64 0] w2 (Value.int IntKind.i64 x_2)) ∧
                brP (x_1.snd.fst == 12 && x_2 == 0) (CaP Try.prog 17 (Sh.el (El.one Sc.bool)) [] w2 fun (x : Bool) (w2 : World) => EnP w2 fun (w1 : World) => Post x w1) (EnP w2 fun (w1 : World) => Post false w1))))) := by kernel_rfl
def pparts_vc_ann : Nat → Slots := (fun | 5 => [(5, Go.RX.El.one (Go.RX.Sc.int Go.IntKind.i64))] | 22 => [(12, Go.RX.El.one (Go.RX.Sc.int Go.IntKind.i64)), (13, Go.RX.El.one (Go.RX.Sc.int Go.IntKind.i64))] | 27 => [(14, Go.RX.El.one (Go.RX.Sc.int Go.IntKind.i64)), (15, Go.RX.El.one (Go.RX.Sc.int Go.IntKind.i64))] | _ => [])
theorem pparts_vc (p : Option Addr) (m c : Nat) (w : World) (Post : Bool → World → Prop) : (rxFn E3 pparts_vc_ann 3 [.slice p m c] w Post) = (
 CaP Try.prog 9 (Sh.tup [El.one Sc.ptr, El.one (Sc.int IntKind.i64)]) [Value.int IntKind.i64 9] w fun (x : Option Addr × Int × Unit) (w2 : World) =>
  brP (x.snd.fst != 0 || x.fst.isNone) (EnP w2 fun (w1 : World) => Post false w1)
   (∃ (I : Nat → Int × Unit → World → Prop),
    (∃ (n : Nat), ∀ (w1 : World), Ext w2 w1 → I n (0, Unit.unit) w1) ∧
     ∀ (n : Nat) (s : Int × Unit) (w1 : World),
      I n s w1 →
       brP (decide (s.fst < (↑m : Int)) && decide (s.fst < 60))
        ((p.isSome = true ∧ 0 ≤ s.fst ∧ s.fst < (↑m : Int)) ∧
         LdP w1 none (addP p (Int.toNat s.fst * 5)) (El.agg [Sc.int IntKind.i64, Sc.int IntKind.i64, Sc.int IntKind.i64, Sc.int IntKind.i64, Sc.int IntKind.i64]) fun (x_1 : Int × Int × Int × Int × Int × Unit) =>
          AlP w1 { toList := [Value.int IntKind.i64 0, Value.int IntKind.i64 0, Value.int IntKind.i64 0, Value.int IntKind.i64 0, Value.int IntKind.i64 0] } 28 fun (b : Nat) (w2 : World) =>
           StP w2 (some { block := b, off := 0 }) [Value.int IntKind.i64 x_1.fst, Value.int IntKind.i64 x_1.snd.fst, Value.int IntKind.i64 x_1.snd.snd.fst, Value.int IntKind.i64 x_1.snd.snd.snd.fst, Value.int IntKind.i64 x_1.snd.snd.snd.snd.fst]
            fun (w2 : World) =>
            ∃ (x_2 : Int),
             QCalls Try.prog 10 [Value.pointer x.fst, Value.int IntKind.i64 0] w2 (Value.int IntKind.i64 x_2) ∧
              true = true ∧
               LdP w2 none (addP (some { block := b, off := 0 }) 0) (El.one (Sc.int IntKind.i64)) fun (x_3 : Int) =>
                brP (x_3 == 0)
                 (true = true ∧
                  LdP w2 none (addP (some { block := b, off := 0 }) 2) (El.one (Sc.int IntKind.i64)) fun (x_4 : Int) =>
                   true = true ∧
                    LdP w2 none (addP (some { block := b, off := 0 }) 3) (El.one (Sc.int IntKind.i64)) fun (x_5 : Int) =>
                     CaP Try.prog 11 (Sh.tup [El.one (Sc.int IntKind.i64), El.one (Sc.int IntKind.i64)]) [Value.pointer x.fst, Value.int IntKind.i64 x_4, Value.int IntKind.i64 x_5] w2 fun (x_6 : Int × Int × Unit) (w2 : World) =>
                      ∃ (x_7 : (Int × Int × Int × Int × Unit) × Bool × Unit),
                       QCalls Try.prog 12 [Value.pointer x.fst, Value.int IntKind.i64 x_6.fst] w2
                         (Value.tuple
                          {
                           toList :=
                            [Value.agg { toList := [Value.int IntKind.i64 x_7.fst.fst, Value.int IntKind.i64 x_7.fst.snd.fst, Value.int IntKind.i64 x_7.fst.snd.snd.fst, Value.int IntKind.i64 x_7.fst.snd.snd.snd.fst] }, Value.bool x_7.snd.fst] }) ∧
                        AlP w2 { toList := [Value.int IntKind.i64 0, Value.int IntKind.i64 0, Value.int IntKind.i64 0, Value.int IntKind.i64 0] } 33 fun (b_1 : Nat) (w2 : World) =>
                         StP w2 (some { block := b_1, off := 0 }) [Value.int IntKind.i64 x_7.fst.fst, Value.int IntKind.i64 x_7.fst.snd.fst, Value.int IntKind.i64 x_7.fst.snd.snd.fst, Value.int IntKind.i64 x_7.fst.snd.snd.snd.fst] fun (w2 : World) =>
                          ((x_6.snd.fst == 0) = true → true = true) ∧
                           LdP w2 (some (x_6.snd.fst == 0)) (addP (some { block := b_1, off := 0 }) 0) (El.one (Sc.int IntKind.i64)) fun (x_8 : Int) =>
                            ((x_6.snd.fst == 0) = true → true = true) ∧
                             LdP w2 (some (x_6.snd.fst == 0)) (addP (some { block := b, off := 0 }) 2) (El.one (Sc.int IntKind.i64)) fun (x_9 : Int) =>
                              ((x_6.snd.fst == 0 && !x_8 != x_9) = true → true = true) ∧
                               LdP w2 (some (x_6.snd.fst == 0 && !x_8 != x_9)) (addP (some { block := b_1, off := 0 }) 1) (El.one (Sc.int IntKind.i64)) fun (x_10 : Int) =>
                                ((x_6.snd.fst == 0 && !x_8 != x_9) = true → true = true) ∧
                                 LdP w2 (some (x_6.snd.fst == 0 && !x_8 != x_9)) (addP (some { block := b, off := 0 }) 3) (El.one (Sc.int IntKind.i64)) fun (x_11 : Int) =>
                                  ((x_6.snd.fst == 0 && !(x_8 != x_9 || x_10 != x_11)) = true → true = true) ∧
                                   LdP w2 (some (x_6.snd.fst == 0 && !(x_8 != x_9 || x_10 != x_11))) (addP (some { block := b_1, off := 0 }) 2) (El.one (Sc.int IntKind.i64)) fun (x_12 : Int) =>
                                    ∃ (x_13 : Int),
                                     ((x_6.snd.fst == 0 && !(x_8 != x_9 || x_10 != x_11 || x_12 != 0)) = true → QCalls Try.prog 10 [Value.pointer x.fst, Value.int IntKind.i64 0] w2 (Value.int IntKind.i64 x_13)) ∧
                                      brP (x_6.snd.fst == 0 && (x_8 != x_9 || x_10 != x_11 || x_12 != 0 || x_13 != subI IntKind.i64 x_2 1) || x_6.snd.fst == 12 && x_2 != 0) (EnP w2 fun (w1 : World) => Post false w1)
                                       (true = true ∧
                                        LdP w2 none (addP (some { block := b, off := 0 }) 0) (El.one (Sc.int IntKind.i64)) fun (x_14 : Int) =>
                                         brP (x_14 == 1)
                                          (true = true ∧
                                           LdP w2 none (addP (some { block := b, off := 0 }) 1) (El.one (Sc.int IntKind.i64)) fun (x_15 : Int) =>
                                            CaP Try.prog 13 (Sh.el (El.one (Sc.int IntKind.i64))) [Value.pointer x.fst, Value.int IntKind.i64 x_15] w2 fun (x_16 : Int) (w2 : World) =>
                                             true = true ∧
                                              LdP w2 none (addP (some { block := b, off := 0 }) 0) (El.one (Sc.int IntKind.i64)) fun (x_17 : Int) =>
                                               brP (x_17 == 2)
                                                (true = true ∧
                                                 LdP w2 none (addP (some { block := b, off := 0 }) 1) (El.one (Sc.int IntKind.i64)) fun (x_18 : Int) =>
                                                  true = true ∧
                                                   LdP w2 none (addP (some { block := b, off := 0 }) 2) (El.one (Sc.int IntKind.i64)) fun (x_19 : Int) =>
                                                    true = true ∧
                                                     LdP w2 none (addP (some { block := b, off := 0 }) 3) (El.one (Sc.int IntKind.i64)) fun (x_20 : Int) =>
                                                      CaP Try.prog 14 (Sh.el (El.one (Sc.int IntKind.i64))) [Value.pointer x.fst, Value.int IntKind.i64 x_18, Value.int IntKind.i64 x_19, Value.int IntKind.i64 x_20] w2 fun (x_21 : Int) (w2 : World) =>
                                                       true = true ∧
                                                        LdP w2 none (addP (some { block := b, off := 0 }) 0) (El.one (Sc.int IntKind.i64)) fun (x_22 : Int) =>
                                                         brP (x_22 == 3)
                                                          (true = true ∧
                                                           LdP w2 none (addP (some { block := b, off := 0 }) 1) (El.one (Sc.int IntKind.i64)) fun (x_23 : Int) =>
                                                            true = true ∧
                                                             LdP w2 none (addP (some { block := b, off := 0 }) 4) (El.one (Sc.int IntKind.i64)) fun (x_24 : Int) =>
                                                              CaP Try.prog 15 (Sh.el (El.one (Sc.int IntKind.i64))) [Value.pointer x.fst, Value.int IntKind.i64 x_23, Value.int IntKind.i64 x_24] w2 fun (x_25 : Int) (w2 : World) =>
                                                               ∃ (I_1 : Nat → Int × Int × Unit → World → Prop),
                                                                (∃ (n : Nat), ∀ (w1 : World), Ext w2 w1 → I_1 n (0, 0, Unit.unit) w1) ∧
                                                                 ∀ (n_1 : Nat) (s_1 : Int × Int × Unit) (w1 : World),
                                                                  I_1 n_1 s_1 w1 →
                                                                   brP (decide (s_1.snd.fst < 6))
                                                                    (∃ (x_26 : Int),
                                                                     QCalls Try.prog 10 [Value.pointer x.fst, Value.int IntKind.i64 s_1.snd.fst] w1 (Value.int IntKind.i64 x_26) ∧
                                                                      ∀ (w3 : World), Ext w1 w3 → ∃ (n' : Nat), n' < n_1 ∧ I_1 n' (addI IntKind.i64 s_1.fst x_26, addI IntKind.i64 s_1.snd.fst 1, Unit.unit) w3)
                                                                    (∃ (I_2 : Nat → Int × Int × Unit → World → Prop),
                                                                     (∃ (n : Nat), ∀ (w1_1 : World), Ext w1 w1_1 → I_2 n (0, 0, Unit.unit) w1_1) ∧
                                                                      ∀ (n_2 : Nat) (s_2 : Int × Int × Unit) (w1 : World),
                                                                       I_2 n_2 s_2 w1 →
                                                                        brP (decide (s_2.snd.fst < 17))
                                                                         (CaP Try.prog 16 (Sh.el (El.one Sc.slice)) [Value.pointer x.fst, Value.int IntKind.i64 s_2.snd.fst] w1 fun (x : Option Addr × Nat × Nat) (w2 : World) =>
                                                                          ∀ (w3 : World), Ext w2 w3 → ∃ (n' : Nat), n' < n_2 ∧ I_2 n' (addI IntKind.i64 s_2.fst (↑x.snd.fst : Int), addI IntKind.i64 s_2.snd.fst 1, Unit.unit) w3)
                                                                         (brP (s_1.fst != 9 || s_2.fst != 9) (EnP w1 fun (w1 : World) => Post false w1)
                                                                          (∀ (w3 : World), Ext w1 w3 → ∃ (n' : Nat), n' < n ∧ I n' (addI IntKind.i64 s.fst 1, Unit.unit) w3))))
                                                          (∃ (I_1 : Nat → Int × Int × Unit → World → Prop),
                                                           (∃ (n : Nat), ∀ (w1 : World), Ext w2 w1 → I_1 n (0, 0, Unit.unit) w1) ∧
                                                            ∀ (n_1 : Nat) (s_1 : Int × Int × Unit) (w1 : World),
                                                             I_1 n_1 s_1 w1 →
                                                              brP (decide (s_1.snd.fst < 6))
                                                               (∃ (x_23 : Int),
                                                                QCalls Try.prog 10 [Value.pointer x.fst, Value.int IntKind.i64 s_1.snd.fst] w1 (Value.int IntKind.i64 x_23) ∧
                                                                 ∀ (w3 : World), Ext w1 w3 → ∃ (n' : Nat), n' < n_1 ∧ I_1 n' (addI IntKind.i64 s_1.fst x_23, addI IntKind.i64 s_1.snd.fst 1, Unit.unit) w3)
                                                               (∃ (I_2 : Nat → Int × Int × Unit → World → Prop),
                                                                (∃ (n : Nat), ∀ (w1_1 : World), Ext w1 w1_1 → I_2 n (0, 0, Unit.unit) w1_1) ∧
                                                                 ∀ (n_2 : Nat) (s_2 : Int × Int × Unit) (w1 : World),
                                                                  I_2 n_2 s_2 w1 →
                                                                   brP (decide (s_2.snd.fst < 17))
                                                                    (CaP Try.prog 16 (Sh.el (El.one Sc.slice)) [Value.pointer x.fst, Value.int IntKind.i64 s_2.snd.fst] w1 fun (x : Option Addr × Nat × Nat) (w2 : World) =>
                                                                     ∀ (w3 : World), Ext w2 w3 → ∃ (n' : Nat), n' < n_2 ∧ I_2 n' (addI IntKind.i64 s_2.fst (↑x.snd.fst : Int), addI IntKind.i64 s_2.snd.fst 1, Unit.unit) w3)
                                                                    (brP (s_1.fst != 9 || s_2.fst != 9) (EnP w1 fun (w1 : World) => Post false w1) (∀ (w3 : World), Ext w1 w3 → ∃ (n' : Nat), n' < n ∧ I n' (addI IntKind.i64 s.fst 1, Unit.unit) w3)))))
                                                (true = true ∧
                                                 LdP w2 none (addP (some { block := b, off := 0 }) 0) (El.one (Sc.int IntKind.i64)) fun (x_18 : Int) =>
                                                  brP (x_18 == 3)
                                                   (true = true ∧
                                                    LdP w2 none (addP (some { block := b, off := 0 }) 1) (El.one (Sc.int IntKind.i64)) fun (x_19 : Int) =>
                                                     true = true ∧
                                                      LdP w2 none (addP (some { block := b, off := 0 }) 4) (El.one (Sc.int IntKind.i64)) fun (x_20 : Int) =>
                                                       CaP Try.prog 15 (Sh.el (El.one (Sc.int IntKind.i64))) [Value.pointer x.fst, Value.int IntKind.i64 x_19, Value.int IntKind.i64 x_20] w2 fun (x_21 : Int) (w2 : World) =>
                                                        ∃ (I_1 : Nat → Int × Int × Unit → World → Prop),
                                                         (∃ (n : Nat), ∀ (w1 : World), Ext w2 w1 → I_1 n (0, 0, Unit.unit) w1) ∧
                                                          ∀ (n_1 : Nat) (s_1 : Int × Int × Unit) (w1 : World),
                                                           I_1 n_1 s_1 w1 →
                                                            brP (decide (s_1.snd.fst < 6))
                                                             (∃ (x_22 : Int),
                                                              QCalls Try.prog 10 [Value.pointer x.fst, Value.int IntKind.i64 s_1.snd.fst] w1 (Value.int IntKind.i64 x_22) ∧
                                                               ∀ (w3 : World), Ext w1 w3 → ∃ (n' : Nat), n' < n_1 ∧ I_1 n' (addI IntKind.i64 s_1.fst x_22, addI IntKind.i64 s_1.snd.fst 1, Unit.unit) w3)
                                                             (∃ (I_2 : Nat → Int × Int × Unit → World → Prop),
                                                              (∃ (n : Nat), ∀ (w1_1 : World), Ext w1 w1_1 → I_2 n (0, 0, Unit.unit) w1_1) ∧
                                                               ∀ (n_2 : Nat) (s_2 : Int × Int × Unit) (w1 : World),
                                                                I_2 n_2 s_2 w1 →
                                                                 brP (decide (s_2.snd.fst < 17))
                                                                  (CaP Try.prog 16 (Sh.el (El.one Sc.slice)) [Value.pointer x.fst, Value.int IntKind.i64 s_2.snd.fst] w1 fun (x : Option Addr × Nat × Nat) (w2 : World) =>
                                                                   ∀ (w3 : World), Ext w2 w3 → ∃ (n' : Nat), n' < n_2 ∧ I_2 n' (addI IntKind.i64 s_2.fst (↑x.snd.fst : Int), addI IntKind.i64 s_2.snd.fst 1, Unit.unit) w3)
                                                                  (brP (s_1.fst != 9 || s_2.fst != 9) (EnP w1 fun (w1 : World) => Post false w1) (∀ (w3 : World), Ext w1 w3 → ∃ (n' : Nat), n' < n ∧ I n' (addI IntKind.i64 s.fst 1, Unit.unit) w3))))
                                                   (∃ (I_1 : Nat → Int × Int × Unit → World → Prop),
                                                    (∃ (n : Nat), ∀ (w1 : World), Ext w2 w1 → I_1 n (0, 0, Unit.unit) w1) ∧
                                                     ∀ (n_1 : Nat) (s_1 : Int × Int × Unit) (w1 : World),
                                                      I_1 n_1 s_1 w1 →
                                                       brP (decide (s_1.snd.fst < 6))
                                                        (∃ (x_19 : Int),
                                                         QCalls Try.prog 10 [Value.pointer x.fst, Value.int IntKind.i64 s_1.snd.fst] w1 (Value.int IntKind.i64 x_19) ∧
                                                          ∀ (w3 : World), Ext w1 w3 → ∃ (n' : Nat), n' < n_1 ∧ I_1 n' (addI IntKind.i64 s_1.fst x_19, addI IntKind.i64 s_1.snd.fst 1, Unit.unit) w3)
                                                        (∃ (I_2 : Nat → Int × Int × Unit → World → Prop),
                                                         (∃ (n : Nat), ∀ (w1_1 : World), Ext w1 w1_1 → I_2 n (0, 0, Unit.unit) w1_1) ∧
                                                          ∀ (n_2 : Nat) (s_2 : Int × Int × Unit) (w1 : World),
                                                           I_2 n_2 s_2 w1 →
                                                            brP (decide (s_2.snd.fst < 17))
                                                             (CaP Try.prog 16 (Sh.el (El.one Sc.slice)) [Value.pointer x.fst, Value.int IntKind.i64 s_2.snd.fst] w1 fun (x : Option Addr × Nat × Nat) (w2 : World) =>
                                                              ∀ (w3 : World), Ext w2 w3 → ∃ (n' : Nat), n' < n_2 ∧ I_2 n' (addI IntKind.i64 s_2.fst (↑x.snd.fst : Int), addI IntKind.i64 s_2.snd.fst 1, Unit.unit) w3)
                                                             (brP (s_1.fst != 9 || s_2.fst != 9) (EnP w1 fun (w1 : World) => Post false w1) (∀ (w3 : World), Ext w1 w3 → ∃ (n' : Nat), n' < n ∧ I n' (addI IntKind.i64 s.fst 1, Unit.unit) w3))))))
                                          (true = true ∧
                                           LdP w2 none (addP (some { block := b, off := 0 }) 0) (El.one (Sc.int IntKind.i64)) fun (x_15 : Int) =>
                                            brP (x_15 == 2)
                                             (true = true ∧
                                              LdP w2 none (addP (some { block := b, off := 0 }) 1) (El.one (Sc.int IntKind.i64)) fun (x_16 : Int) =>
                                               true = true ∧
                                                LdP w2 none (addP (some { block := b, off := 0 }) 2) (El.one (Sc.int IntKind.i64)) fun (x_17 : Int) =>
                                                 true = true ∧
                                                  LdP w2 none (addP (some { block := b, off := 0 }) 3) (El.one (Sc.int IntKind.i64)) fun (x_18 : Int) =>
                                                   CaP Try.prog 14 (Sh.el (El.one (Sc.int IntKind.i64))) [Value.pointer x.fst, Value.int IntKind.i64 x_16, Value.int IntKind.i64 x_17, Value.int IntKind.i64 x_18] w2 fun (x_19 : Int) (w2 : World) =>
                                                    true = true ∧
                                                     LdP w2 none (addP (some { block := b, off := 0 }) 0) (El.one (Sc.int IntKind.i64)) fun (x_20 : Int) =>
                                                      brP (x_20 == 3)
                                                       (true = true ∧
                                                        LdP w2 none (addP (some { block := b, off := 0 }) 1) (El.one (Sc.int IntKind.i64)) fun (x_21 : Int) =>
                                                         true = true ∧
                                                          LdP w2 none (addP (some { block := b, off := 0 }) 4) (El.one (Sc.int IntKind.i64)) fun (x_22 : Int) =>
                                                           CaP Try.prog 15 (Sh.el (El.one (Sc.int IntKind.i64))) [Value.pointer x.fst, Value.int IntKind.i64 x_21, Value.int IntKind.i64 x_22] w2 fun (x_23 : Int) (w2 : World) =>
                                                            ∃ (I_1 : Nat → Int × Int × Unit → World → Prop),
                                                             (∃ (n : Nat), ∀ (w1 : World), Ext w2 w1 → I_1 n (0, 0, Unit.unit) w1) ∧
                                                              ∀ (n_1 : Nat) (s_1 : Int × Int × Unit) (w1 : World),
                                                               I_1 n_1 s_1 w1 →
                                                                brP (decide (s_1.snd.fst < 6))
                                                                 (∃ (x_24 : Int),
                                                                  QCalls Try.prog 10 [Value.pointer x.fst, Value.int IntKind.i64 s_1.snd.fst] w1 (Value.int IntKind.i64 x_24) ∧
                                                                   ∀ (w3 : World), Ext w1 w3 → ∃ (n' : Nat), n' < n_1 ∧ I_1 n' (addI IntKind.i64 s_1.fst x_24, addI IntKind.i64 s_1.snd.fst 1, Unit.unit) w3)
                                                                 (∃ (I_2 : Nat → Int × Int × Unit → World → Prop),
                                                                  (∃ (n : Nat), ∀ (w1_1 : World), Ext w1 w1_1 → I_2 n (0, 0, Unit.unit) w1_1) ∧
                                                                   ∀ (n_2 : Nat) (s_2 : Int × Int × Unit) (w1 : World),
                                                                    I_2 n_2 s_2 w1 →
                                                                     brP (decide (s_2.snd.fst < 17))
                                                                      (CaP Try.prog 16 (Sh.el (El.one Sc.slice)) [Value.pointer x.fst, Value.int IntKind.i64 s_2.snd.fst] w1 fun (x : Option Addr × Nat × Nat) (w2 : World) =>
                                                                       ∀ (w3 : World), Ext w2 w3 → ∃ (n' : Nat), n' < n_2 ∧ I_2 n' (addI IntKind.i64 s_2.fst (↑x.snd.fst : Int), addI IntKind.i64 s_2.snd.fst 1, Unit.unit) w3)
                                                                      (brP (s_1.fst != 9 || s_2.fst != 9) (EnP w1 fun (w1 : World) => Post false w1) (∀ (w3 : World), Ext w1 w3 → ∃ (n' : Nat), n' < n ∧ I n' (addI IntKind.i64 s.fst 1, Unit.unit) w3))))
                                                       (∃ (I_1 : Nat → Int × Int × Unit → World → Prop),
                                                        (∃ (n : Nat), ∀ (w1 : World), Ext w2 w1 → I_1 n (0, 0, Unit.unit) w1) ∧
                                                         ∀ (n_1 : Nat) (s_1 : Int × Int × Unit) (w1 : World),
                                                          I_1 n_1 s_1 w1 →
                                                           brP (decide (s_1.snd.fst < 6))
                                                            (∃ (x_21 : Int),
                                                             QCalls Try.prog 10 [Value.pointer x.fst, Value.int IntKind.i64 s_1.snd.fst] w1 (Value.int IntKind.i64 x_21) ∧
                                                              ∀ (w3 : World), Ext w1 w3 → ∃ (n' : Nat), n' < n_1 ∧ I_1 n' (addI IntKind.i64 s_1.fst x_21, addI IntKind.i64 s_1.snd.fst 1, Unit.unit) w3)
                                                            (∃ (I_2 : Nat → Int × Int × Unit → World → Prop),
                                                             (∃ (n : Nat), ∀ (w1_1 : World), Ext w1 w1_1 → I_2 n (0, 0, Unit.unit) w1_1) ∧
                                                              ∀ (n_2 : Nat) (s_2 : Int × Int × Unit) (w1 : World),
                                                               I_2 n_2 s_2 w1 →
                                                                brP (decide (s_2.snd.fst < 17))
                                                                 (CaP Try.prog 16 (Sh.el (El.one Sc.slice)) [Value.pointer x.fst, Value.int IntKind.i64 s_2.snd.fst] w1 fun (x : Option Addr × Nat × Nat) (w2 : World) =>
                                                                  ∀ (w3 : World), Ext w2 w3 → ∃ (n' : Nat), n' < n_2 ∧ I_2 n' (addI IntKind.i64 s_2.fst (↑x.snd.fst : Int), addI IntKind.i64 s_2.snd.fst 1, Unit.unit) w3)
                                                                 (brP (s_1.fst != 9 || s_2.fst != 9) (EnP w1 fun (w1 : World) => Post false w1) (∀ (w3 : World), Ext w1 w3 → ∃ (n' : Nat), n' < n ∧ I n' (addI IntKind.i64 s.fst 1, Unit.unit) w3)))))
                                             (true = true ∧
                                              LdP w2 none (addP (some { block := b, off := 0 }) 0) (El.one (Sc.int IntKind.i64)) fun (x_16 : Int) =>
                                               brP (x_16 == 3)
                                                (true = true ∧
                                                 LdP w2 none (addP (some { block := b, off := 0 }) 1) (El.one (Sc.int IntKind.i64)) fun (x_17 : Int) =>
                                                  true = true ∧
                                                   LdP w2 none (addP (some { block := b, off := 0 }) 4) (El.one (Sc.int IntKind.i64)) fun (x_18 : Int) =>
                                                    CaP Try.prog 15 (Sh.el (El.one (Sc.int IntKind.i64))) [Value.pointer x.fst, Value.int IntKind.i64 x_17, Value.int IntKind.i64 x_18] w2 fun (x_19 : Int) (w2 : World) =>
                                                     ∃ (I_1 : Nat → Int × Int × Unit → World → Prop),
                                                      (∃ (n : Nat), ∀ (w1 : World), Ext w2 w1 → I_1 n (0, 0, Unit.unit) w1) ∧
                                                       ∀ (n_1 : Nat) (s_1 : Int × Int × Unit) (w1 : World),
                                                        I_1 n_1 s_1 w1 →
                                                         brP (decide (s_1.snd.fst < 6))
                                                          (∃ (x_20 : Int),
                                                           QCalls Try.prog 10 [Value.pointer x.fst, Value.int IntKind.i64 s_1.snd.fst] w1 (Value.int IntKind.i64 x_20) ∧
                                                            ∀ (w3 : World), Ext w1 w3 → ∃ (n' : Nat), n' < n_1 ∧ I_1 n' (addI IntKind.i64 s_1.fst x_20, addI IntKind.i64 s_1.snd.fst 1, Unit.unit) w3)
                                                          (∃ (I_2 : Nat → Int × Int × Unit → World → Prop),
                                                           (∃ (n : Nat), ∀ (w1_1 : World), Ext w1 w1_1 → I_2 n (0, 0, Unit.unit) w1_1) ∧
                                                            ∀ (n_2 : Nat) (s_2 : Int × Int × Unit) (w1 : World),
                                                             I_2 n_2 s_2 w1 →
                                                              brP (decide (s_2.snd.fst < 17))
                                                               (CaP Try.prog 16 (Sh.el (El.one Sc.slice)) [Value.pointer x.fst, Value.int IntKind.i64 s_2.snd.fst] w1 fun (x : Option Addr × Nat × Nat) (w2 : World) =>
                                                                ∀ (w3 : World), Ext w2 w3 → ∃ (n' : Nat), n' < n_2 ∧ I_2 n' (addI IntKind.i64 s_2.fst (↑x.snd.fst : Int), addI IntKind.i64 s_2.snd.fst 1, Unit.unit) w3)
                                                               (brP (s_1.fst != 9 || s_2.fst != 9) (EnP w1 fun (w1 : World) => Post false w1) (∀ (w3 : World), Ext w1 w3 → ∃ (n' : Nat), n' < n ∧ I n' (addI IntKind.i64 s.fst 1, Unit.unit) w3))))
                                                (∃ (I_1 : Nat → Int × Int × Unit → World → Prop),
                                                 (∃ (n : Nat), ∀ (w1 : World), Ext w2 w1 → I_1 n (0, 0, Unit.unit) w1) ∧
                                                  ∀ (n_1 : Nat) (s_1 : Int × Int × Unit) (w1 : World),
                                                   I_1 n_1 s_1 w1 →
                                                    brP (decide (s_1.snd.fst < 6))
                                                     (∃ (x_17 : Int),
                                                      QCalls Try.prog 10 [Value.pointer x.fst, Value.int IntKind.i64 s_1.snd.fst] w1 (Value.int IntKind.i64 x_17) ∧
                                                       ∀ (w3 : World), Ext w1 w3 → ∃ (n' : Nat), n' < n_1 ∧ I_1 n' (addI IntKind.i64 s_1.fst x_17, addI IntKind.i64 s_1.snd.fst 1, Unit.unit) w3)
                                                     (∃ (I_2 : Nat → Int × Int × Unit → World → Prop),
                                                      (∃ (n : Nat), ∀ (w1_1 : World), Ext w1 w1_1 → I_2 n (0, 0, Unit.unit) w1_1) ∧
                                                       ∀ (n_2 : Nat) (s_2 : Int × Int × Unit) (w1 : World),
                                                        I_2 n_2 s_2 w1 →
                                                         brP (decide (s_2.snd.fst < 17))
                                                          (CaP Try.prog 16 (Sh.el (El.one Sc.slice)) [Value.pointer x.fst, Value.int IntKind.i64 s_2.snd.fst] w1 fun (x : Option Addr × Nat × Nat) (w2 : World) =>
                                                           ∀ (w3 : World), Ext w2 w3 → ∃ (n' : Nat), n' < n_2 ∧ I_2 n' (addI IntKind.i64 s_2.fst (↑x.snd.fst : Int), addI IntKind.i64 s_2.snd.fst 1, Unit.unit) w3)
                                                          (brP (s_1.fst != 9 || s_2.fst != 9) (EnP w1 fun (w1 : World) => Post false w1) (∀ (w3 : World), Ext w1 w3 → ∃ (n' : Nat), n' < n ∧ I n' (addI IntKind.i64 s.fst 1, Unit.unit) w3))))))))
                 (true = true ∧
                  LdP w2 none (addP (some { block := b, off := 0 }) 0) (El.one (Sc.int IntKind.i64)) fun (x_4 : Int) =>
                   brP (x_4 == 1)
                    (true = true ∧
                     LdP w2 none (addP (some { block := b, off := 0 }) 1) (El.one (Sc.int IntKind.i64)) fun (x_5 : Int) =>
                      CaP Try.prog 13 (Sh.el (El.one (Sc.int IntKind.i64))) [Value.pointer x.fst, Value.int IntKind.i64 x_5] w2 fun (x_6 : Int) (w2 : World) =>
                       true = true ∧
                        LdP w2 none (addP (some { block := b, off := 0 }) 0) (El.one (Sc.int IntKind.i64)) fun (x_7 : Int) =>
                         brP (x_7 == 2)
                          (true = true ∧
                           LdP w2 none (addP (some { block := b, off := 0 }) 1) (El.one (Sc.int IntKind.i64)) fun (x_8 : Int) =>
                            true = true ∧
                             LdP w2 none (addP (some { block := b, off := 0 }) 2) (El.one (Sc.int IntKind.i64)) fun (x_9 : Int) =>
                              true = true ∧
                               LdP w2 none (addP (some { block := b, off := 0 }) 3) (El.one (Sc.int IntKind.i64)) fun (x_10 : Int) =>
                                CaP Try.prog 14 (Sh.el (El.one (Sc.int IntKind.i64))) [Value.pointer x.fst, Value.int IntKind.i64 x_8, Value.int IntKind.i64 x_9, Value.int IntKind.i64 x_10] w2 fun (x_11 : Int) (w2 : World) =>
                                 true = true ∧
                                  LdP w2 none (addP (some { block := b, off := 0 }) 0) (El.one (Sc.int IntKind.i64)) fun (x_12 : Int) =>
                                   brP (x_12 == 3)
                                    (true = true ∧
                                     LdP w2 none (addP (some { block := b, off := 0 }) 1) (El.one (Sc.int IntKind.i64)) fun (x_13 : Int) =>
                                      true = true ∧
                                       LdP w2 none (addP (some { block := b, off := 0 }) 4) (El.one (Sc.int IntKind.i64)) fun (x_14 : Int) =>
                                        CaP Try.prog 15 (Sh.el (El.one (Sc.int IntKind.i64))) [Value.pointer x.fst, Value.int IntKind.i64 x_13, Value.int IntKind.i64 x_14] w2 fun (x_15 : Int) (w2 : World) =>
                                         ∃ (I_1 : Nat → Int × Int × Unit → World → Prop),
                                          (∃ (n : Nat), ∀ (w1 : World), Ext w2 w1 → I_1 n (0, 0, Unit.unit) w1) ∧
                                           ∀ (n_1 : Nat) (s_1 : Int × Int × Unit) (w1 : World),
                                            I_1 n_1 s_1 w1 →
                                             brP (decide (s_1.snd.fst < 6))
                                              (∃ (x_16 : Int),
                                               QCalls Try.prog 10 [Value.pointer x.fst, Value.int IntKind.i64 s_1.snd.fst] w1 (Value.int IntKind.i64 x_16) ∧
                                                ∀ (w3 : World), Ext w1 w3 → ∃ (n' : Nat), n' < n_1 ∧ I_1 n' (addI IntKind.i64 s_1.fst x_16, addI IntKind.i64 s_1.snd.fst 1, Unit.unit) w3)
                                              (∃ (I_2 : Nat → Int × Int × Unit → World → Prop),
                                               (∃ (n : Nat), ∀ (w1_1 : World), Ext w1 w1_1 → I_2 n (0, 0, Unit.unit) w1_1) ∧
                                                ∀ (n_2 : Nat) (s_2 : Int × Int × Unit) (w1 : World),
                                                 I_2 n_2 s_2 w1 →
                                                  brP (decide (s_2.snd.fst < 17))
                                                   (CaP Try.prog 16 (Sh.el (El.one Sc.slice)) [Value.pointer x.fst, Value.int IntKind.i64 s_2.snd.fst] w1 fun (x : Option Addr × Nat × Nat) (w2 : World) =>
                                                    ∀ (w3 : World), Ext w2 w3 → ∃ (n' : Nat), n' < n_2 ∧ I_2 n' (addI IntKind.i64 s_2.fst (↑x.snd.fst : Int), addI IntKind.i64 s_2.snd.fst 1, Unit.unit) w3)
                                                   (brP (s_1.fst != 9 || s_2.fst != 9) (EnP w1 fun (w1 : World) => Post false w1) (∀ (w3 : World), Ext w1 w3 → ∃ (n' : Nat), n' < n ∧ I n' (addI IntKind.i64 s.fst 1, Unit.unit) w3))))
                                    (∃ (I_1 : Nat → Int × Int × Unit → World → Prop),
                                     (∃ (n : Nat), ∀ (w1 : World), Ext w2 w1 → I_1 n (0, 0, Unit.unit) w1) ∧
                                      ∀ (n_1 : Nat) (s_1 : Int × Int × Unit) (w1 : World),
                                       I_1 n_1 s_1 w1 →
                                        brP (decide (s_1.snd.fst < 6))
                                         (∃ (x_13 : Int),
                                          QCalls Try.prog 10 [Value.pointer x.fst, Value.int IntKind.i64 s_1.snd.fst] w1 (Value.int IntKind.i64 x_13) ∧
                                           ∀ (w3 : World), Ext w1 w3 → ∃ (n' : Nat), n' < n_1 ∧ I_1 n' (addI IntKind.i64 s_1.fst x_13, addI IntKind.i64 s_1.snd.fst 1, Unit.unit) w3)
                                         (∃ (I_2 : Nat → Int × Int × Unit → World → Prop),
                                          (∃ (n : Nat), ∀ (w1_1 : World), Ext w1 w1_1 → I_2 n (0, 0, Unit.unit) w1_1) ∧
                                           ∀ (n_2 : Nat) (s_2 : Int × Int × Unit) (w1 : World),
                                            I_2 n_2 s_2 w1 →
                                             brP (decide (s_2.snd.fst < 17))
                                              (CaP Try.prog 16 (Sh.el (El.one Sc.slice)) [Value.pointer x.fst, Value.int IntKind.i64 s_2.snd.fst] w1 fun (x : Option Addr × Nat × Nat) (w2 : World) =>
                                               ∀ (w3 : World), Ext w2 w3 → ∃ (n' : Nat), n' < n_2 ∧ I_2 n' (addI IntKind.i64 s_2.fst (↑x.snd.fst : Int), addI IntKind.i64 s_2.snd.fst 1, Unit.unit) w3)
                                              (brP (s_1.fst != 9 || s_2.fst != 9) (EnP w1 fun (w1 : World) => Post false w1) (∀ (w3 : World), Ext w1 w3 → ∃ (n' : Nat), n' < n ∧ I n' (addI IntKind.i64 s.fst 1, Unit.unit) w3)))))
                          (true = true ∧
                           LdP w2 none (addP (some { block := b, off := 0 }) 0) (El.one (Sc.int IntKind.i64)) fun (x_8 : Int) =>
                            brP (x_8 == 3)
                             (true = true ∧
                              LdP w2 none (addP (some { block := b, off := 0 }) 1) (El.one (Sc.int IntKind.i64)) fun (x_9 : Int) =>
                               true = true ∧
                                LdP w2 none (addP (some { block := b, off := 0 }) 4) (El.one (Sc.int IntKind.i64)) fun (x_10 : Int) =>
                                 CaP Try.prog 15 (Sh.el (El.one (Sc.int IntKind.i64))) [Value.pointer x.fst, Value.int IntKind.i64 x_9, Value.int IntKind.i64 x_10] w2 fun (x_11 : Int) (w2 : World) =>
                                  ∃ (I_1 : Nat → Int × Int × Unit → World → Prop),
                                   (∃ (n : Nat), ∀ (w1 : World), Ext w2 w1 → I_1 n (0, 0, Unit.unit) w1) ∧
                                    ∀ (n_1 : Nat) (s_1 : Int × Int × Unit) (w1 : World),
                                     I_1 n_1 s_1 w1 →
                                      brP (decide (s_1.snd.fst < 6))
                                       (∃ (x_12 : Int),
                                        QCalls Try.prog 10 [Value.pointer x.fst, Value.int IntKind.i64 s_1.snd.fst] w1 (Value.int IntKind.i64 x_12) ∧
                                         ∀ (w3 : World), Ext w1 w3 → ∃ (n' : Nat), n' < n_1 ∧ I_1 n' (addI IntKind.i64 s_1.fst x_12, addI IntKind.i64 s_1.snd.fst 1, Unit.unit) w3)
                                       (∃ (I_2 : Nat → Int × Int × Unit → World → Prop),
                                        (∃ (n : Nat), ∀ (w1_1 : World), Ext w1 w1_1 → I_2 n (0, 0, Unit.unit) w1_1) ∧
                                         ∀ (n_2 : Nat) (s_2 : Int × Int × Unit) (w1 : World),
                                          I_2 n_2 s_2 w1 →
                                           brP (decide (s_2.snd.fst < 17))
                                            (CaP Try.prog 16 (Sh.el (El.one Sc.slice)) [Value.pointer x.fst, Value.int IntKind.i64 s_2.snd.fst] w1 fun (x : Option Addr × Nat × Nat) (w2 : World) =>
                                             ∀ (w3 : World), Ext w2 w3 → ∃ (n' : Nat), n' < n_2 ∧ I_2 n' (addI IntKind.i64 s_2.fst (↑x.snd.fst : Int), addI IntKind.i64 s_2.snd.fst 1, Unit.unit) w3)
                                            (brP (s_1.fst != 9 || s_2.fst != 9) (EnP w1 fun (w1 : World) => Post false w1) (∀ (w3 : World), Ext w1 w3 → ∃ (n' : Nat), n' < n ∧ I n' (addI IntKind.i64 s.fst 1, Unit.unit) w3))))
                             (∃ (I_1 : Nat → Int × Int × Unit → World → Prop),
                              (∃ (n : Nat), ∀ (w1 : World), Ext w2 w1 → I_1 n (0, 0, Unit.unit) w1) ∧
                               ∀ (n_1 : Nat) (s_1 : Int × Int × Unit) (w1 : World),
                                I_1 n_1 s_1 w1 →
                                 brP (decide (s_1.snd.fst < 6))
                                  (∃ (x_9 : Int),
                                   QCalls Try.prog 10 [Value.pointer x.fst, Value.int IntKind.i64 s_1.snd.fst] w1 (Value.int IntKind.i64 x_9) ∧
                                    ∀ (w3 : World), Ext w1 w3 → ∃ (n' : Nat), n' < n_1 ∧ I_1 n' (addI IntKind.i64 s_1.fst x_9, addI IntKind.i64 s_1.snd.fst 1, Unit.unit) w3)
                                  (∃ (I_2 : Nat → Int × Int × Unit → World → Prop),
                                   (∃ (n : Nat), ∀ (w1_1 : World), Ext w1 w1_1 → I_2 n (0, 0, Unit.unit) w1_1) ∧
                                    ∀ (n_2 : Nat) (s_2 : Int × Int × Unit) (w1 : World),
                                     I_2 n_2 s_2 w1 →
                                      brP (decide (s_2.snd.fst < 17))
                                       (CaP Try.prog 16 (Sh.el (El.one Sc.slice)) [Value.pointer x.fst, Value.int IntKind.i64 s_2.snd.fst] w1 fun (x : Option Addr × Nat × Nat) (w2 : World) =>
                                        ∀ (w3 : World), Ext w2 w3 → ∃ (n' : Nat), n' < n_2 ∧ I_2 n' (addI IntKind.i64 s_2.fst (↑x.snd.fst : Int), addI IntKind.i64 s_2.snd.fst 1, Unit.unit) w3)
                                       (brP (s_1.fst != 9 || s_2.fst != 9) (EnP w1 fun (w1 : World) => Post false w1) (∀ (w3 : World), Ext w1 w3 → ∃ (n' : Nat), n' < n ∧ I n' (addI IntKind.i64 s.fst 1, Unit.unit) w3))))))
                    (true = true ∧
                     LdP w2 none (addP (some { block := b, off := 0 }) 0) (El.one (Sc.int IntKind.i64)) fun (x_5 : Int) =>
                      brP (x_5 == 2)
                       (true = true ∧
                        LdP w2 none (addP (some { block := b, off := 0 }) 1) (El.one (Sc.int IntKind.i64)) fun (x_6 : Int) =>
                         true = true ∧
                          LdP w2 none (addP (some { block := b, off := 0 }) 2) (El.one (Sc.int IntKind.i64)) fun (x_7 : Int) =>
                           true = true ∧
                            LdP w2 none (addP (some { block := b, off := 0 }) 3) (El.one (Sc.int IntKind.i64)) fun (x_8 : Int) =>
                             CaP Try.prog 14 (Sh.el (El.one (Sc.int IntKind.i64))) [Value.pointer x.fst, Value.int IntKind.i64 x_6, Value.int IntKind.i64 x_7, Value.int IntKind.i64 x_8] w2 fun (x_9 : Int) (w2 : World) =>
                              true = true ∧
                               LdP w2 none (addP (some { block := b, off := 0 }) 0) (El.one (Sc.int IntKind.i64)) fun (x_10 : Int) =>
                                brP (x_10 == 3)
                                 (true = true ∧
                                  LdP w2 none (addP (some { block := b, off := 0 }) 1) (El.one (Sc.int IntKind.i64)) fun (x_11 : Int) =>
                                   true = true ∧
                                    LdP w2 none (addP (some { block := b, off := 0 }) 4) (El.one (Sc.int IntKind.i64)) fun (x_12 : Int) =>
                                     CaP Try.prog 15 (Sh.el (El.one (Sc.int IntKind.i64))) [Value.pointer x.fst, Value.int IntKind.i64 x_11, Value.int IntKind.i64 x_12] w2 fun (x_13 : Int) (w2 : World) =>
                                      ∃ (I_1 : Nat → Int × Int × Unit → World → Prop),
                                       (∃ (n : Nat), ∀ (w1 : World), Ext w2 w1 → I_1 n (0, 0, Unit.unit) w1) ∧
                                        ∀ (n_1 : Nat) (s_1 : Int × Int × Unit) (w1 : World),
                                         I_1 n_1 s_1 w1 →
                                          brP (decide (s_1.snd.fst < 6))
                                           (∃ (x_14 : Int),
                                            QCalls Try.prog 10 [Value.pointer x.fst, Value.int IntKind.i64 s_1.snd.fst] w1 (Value.int IntKind.i64 x_14) ∧
                                             ∀ (w3 : World), Ext w1 w3 → ∃ (n' : Nat), n' < n_1 ∧ I_1 n' (addI IntKind.i64 s_1.fst x_14, addI IntKind.i64 s_1.snd.fst 1, Unit.unit) w3)
                                           (∃ (I_2 : Nat → Int × Int × Unit → World → Prop),
                                            (∃ (n : Nat), ∀ (w1_1 : World), Ext w1 w1_1 → I_2 n (0, 0, Unit.unit) w1_1) ∧
                                             ∀ (n_2 : Nat) (s_2 : Int × Int × Unit) (w1 : World),
                                              I_2 n_2 s_2 w1 →
                                               brP (decide (s_2.snd.fst < 17))
                                                (CaP Try.prog 16 (Sh.el (El.one Sc.slice)) [Value.pointer x.fst, Value.int IntKind.i64 s_2.snd.fst] w1 fun (x : Option Addr × Nat × Nat) (w2 : World) =>
                                                 ∀ (w3 : World), Ext w2 w3 → ∃ (n' : Nat), n' < n_2 ∧ I_2 n' (addI IntKind.i64 s_2.fst (↑x.snd.fst : Int), addI IntKind.i64 s_2.snd.fst 1, Unit.unit) w3)
                                                (brP (s_1.fst != 9 || s_2.fst != 9) (EnP w1 fun (w1 : World) => Post false w1) (∀ (w3 : World), Ext w1 w3 → ∃ (n' : Nat), n' < n ∧ I n' (addI IntKind.i64 s.fst 1, Unit.unit) w3))))
                                 (∃ (I_1 : Nat → Int × Int × Unit → World → Prop),
                                  (∃ (n : Nat), ∀ (w1 : World), Ext w2 w1 → I_1 n (0, 0, Unit.unit) w1) ∧
                                   ∀ (n_1 : Nat) (s_1 : Int × Int × Unit) (w1 : World),
                                    I_1 n_1 s_1 w1 →
                                     brP (decide (s_1.snd.fst < 6))
                                      (∃ (x_11 : Int),
                                       QCalls Try.prog 10 [Value.pointer x.fst, Value.int IntKind.i64 s_1.snd.fst] w1 (Value.int IntKind.i64 x_11) ∧
                                        ∀ (w3 : World), Ext w1 w3 → ∃ (n' : Nat), n' < n_1 ∧ I_1 n' (addI IntKind.i64 s_1.fst x_11, addI IntKind.i64 s_1.snd.fst 1, Unit.unit) w3)
                                      (∃ (I_2 : Nat → Int × Int × Unit → World → Prop),
                                       (∃ (n : Nat), ∀ (w1_1 : World), Ext w1 w1_1 → I_2 n (0, 0, Unit.unit) w1_1) ∧
                                        ∀ (n_2 : Nat) (s_2 : Int × Int × Unit) (w1 : World),
                                         I_2 n_2 s_2 w1 →
                                          brP (decide (s_2.snd.fst < 17))
                                           (CaP Try.prog 16 (Sh.el (El.one Sc.slice)) [Value.pointer x.fst, Value.int IntKind.i64 s_2.snd.fst] w1 fun (x : Option Addr × Nat × Nat) (w2 : World) =>
                                            ∀ (w3 : World), Ext w2 w3 → ∃ (n' : Nat), n' < n_2 ∧ I_2 n' (addI IntKind.i64 s_2.fst (↑x.snd.fst : Int), addI IntKind.i64 s_2.snd.fst 1, Unit.unit) w3)
                                           (brP (s_1.fst != 9 || s_2.fst != 9) (EnP w1 fun (w1 : World) => Post false w1) (∀ (w3 : World), Ext w1 w3 → ∃ (n' : Nat), n' < n ∧ I n' (addI IntKind.i64 s.fst 1, Unit.unit) w3)))))
                       (true = true ∧
                        LdP w2 none (addP (some { block := b, off := 0 }) 0) (El.one (Sc.int IntKind.i64)) fun (x_6 : Int) =>
                         brP (x_6 == 3)
                          (true = true ∧
                           LdP w2 none (addP (some { block := b, off := 0 }) 1) (El.one (Sc.int IntKind.i64)) fun (x_7 : Int) =>
                            true = true ∧
                             LdP w2 none (addP (some { block := b, off := 0 }) 4) (El.one (Sc.int IntKind.i64)) fun (x_8 : Int) =>
                              CaP Try.prog 15 (Sh.el (El.one (Sc.int IntKind.i64))) [Value.pointer x.fst, Value.int IntKind.i64 x_7, Value.int IntKind.i64 x_8] w2 fun (x_9 : Int) (w2 : World) =>
                               ∃ (I_1 : Nat → Int × Int × Unit → World → Prop),
                                (∃ (n : Nat), ∀ (w1 : World), Ext w2 w1 → I_1 n (0, 0, Unit.unit) w1) ∧
                                 ∀ (n_1 : Nat) (s_1 : Int × Int × Unit) (w1 : World),
                                  I_1 n_1 s_1 w1 →
                                   brP (decide (s_1.snd.fst < 6))
                                    (∃ (x_10 : Int),
                                     QCalls Try.prog 10 [Value.pointer x.fst, Value.int IntKind.i64 s_1.snd.fst] w1 (Value.int IntKind.i64 x_10) ∧
                                      ∀ (w3 : World), Ext w1 w3 → ∃ (n' : Nat), n' < n_1 ∧ I_1 n' (addI IntKind.i64 s_1.fst x_10, addI IntKind.i64 s_1.snd.fst 1, Unit.unit) w3)
                                    (∃ (I_2 : Nat → Int × Int × Unit → World → Prop),
                                     (∃ (n : Nat), ∀ (w1_1 : World), Ext w1 w1_1 → I_2 n (0, 0, Unit.unit) w1_1) ∧
                                      ∀ (n_2 : Nat) (s_2 : Int × Int × Unit) (w1 : World),
                                       I_2 n_2 s_2 w1 →
                                        brP (decide (s_2.snd.fst < 17))
                                         (CaP Try.prog 16 (Sh.el (El.one Sc.slice)) [Value.pointer x.fst, Value.int IntKind.i64 s_2.snd.fst] w1 fun (x : Option Addr × Nat × Nat) (w2 : World) =>
                                          ∀ (w3 : World), Ext w2 w3 → ∃ (n' : Nat), n' < n_2 ∧ I_2 n' (addI IntKind.i64 s_2.fst (↑x.snd.fst : Int), addI IntKind.i64 s_2.snd.fst 1, Unit.unit) w3)
                                         (brP (s_1.fst != 9 || s_2.fst != 9) (EnP w1 fun (w1 : World) => Post false w1) (∀ (w3 : World), Ext w1 w3 → ∃ (n' : Nat), n' < n ∧ I n' (addI IntKind.i64 s.fst 1, Unit.unit) w3))))
                          (∃ (I_1 : Nat → Int × Int × Unit → World → Prop),
                           (∃ (n : Nat), ∀ (w1 : World), Ext w2 w1 → I_1 n (0, 0, Unit.unit) w1) ∧
                            ∀ (n_1 : Nat) (s_1 : Int × Int × Unit) (w1 : World),
                             I_1 n_1 s_1 w1 →
                              brP (decide (s_1.snd.fst < 6))
                               (∃ (x_7 : Int),
                                QCalls Try.prog 10 [Value.pointer x.fst, Value.int IntKind.i64 s_1.snd.fst] w1 (Value.int IntKind.i64 x_7) ∧
                                 ∀ (w3 : World), Ext w1 w3 → ∃ (n' : Nat), n' < n_1 ∧ I_1 n' (addI IntKind.i64 s_1.fst x_7, addI IntKind.i64 s_1.snd.fst 1, Unit.unit) w3)
                               (∃ (I_2 : Nat → Int × Int × Unit → World → Prop),
                                (∃ (n : Nat), ∀ (w1_1 : World), Ext w1 w1_1 → I_2 n (0, 0, Unit.unit) w1_1) ∧
                                 ∀ (n_2 : Nat) (s_2 : Int × Int × Unit) (w1 : World),
                                  I_2 n_2 s_2 w1 →
                                   brP (decide (s_2.snd.fst < 17))
                                    (CaP Try.prog 16 (Sh.el (El.one Sc.slice)) [Value.pointer x.fst, Value.int IntKind.i64 s_2.snd.fst] w1 fun (x : Option Addr × Nat × Nat) (w2 : World) =>
                                     ∀ (w3 : World), Ext w2 w3 → ∃ (n' : Nat), n' < n_2 ∧ I_2 n' (addI IntKind.i64 s_2.fst (↑x.snd.fst : Int), addI IntKind.i64 s_2.snd.fst 1, Unit.unit) w3)
                                    (brP (s_1.fst != 9 || s_2.fst != 9) (EnP w1 fun (w1 : World) => Post false w1) (∀ (w3 : World), Ext w1 w3 → ∃ (n' : Nat), n' < n ∧ I n' (addI IntKind.i64 s.fst 1, Unit.unit) w3))))))))
        (CaP Try.prog 17 (Sh.el (El.one Sc.bool)) [] w1 fun (x : Bool) (w2 : World) => EnP w2 fun (w1 : World) => Post x w1))) := by kernel_rfl
def powned_vc_ann : Nat → Slots := (fun | 6 => [(8, Go.RX.El.one (Go.RX.Sc.int Go.IntKind.i64))] | 13 => [(10, Go.RX.El.one (Go.RX.Sc.int Go.IntKind.i64))] | _ => [])
theorem powned_vc (p : Option Addr) (m c : Nat) (o : Int) (w : World) (Post : Bool → World → Prop) : (rxFn E3 powned_vc_ann 6 [.slice p m c, .int .u8 o] w Post) = (
 CaP Try.prog 9 (Sh.tup [El.one Sc.ptr, El.one (Sc.int IntKind.i64)]) [Value.int IntKind.i64 9] w fun (x : Option Addr × Int × Unit) (w2 : World) =>
  brP (x.snd.fst != 0 || x.fst.isNone) (EnP w2 fun (w1 : World) => Post false w1)
   (∃ (I : Nat → Int × Unit → World → Prop),
    (∃ (n : Nat), ∀ (w1 : World), Ext w2 w1 → I n (0, Unit.unit) w1) ∧
     ∀ (n : Nat) (s : Int × Unit) (w1 : World),
      I n s w1 →
       brP (decide (s.fst < (↑m : Int)) && decide (s.fst < 60))
        ((p.isSome = true ∧ 0 ≤ s.fst ∧ s.fst < (↑m : Int)) ∧
         (addP p (Int.toNat s.fst * 5)).isSome = true ∧
          LdP w1 none (addP (addP p (Int.toNat s.fst * 5)) 0) (El.one (Sc.int IntKind.i64)) fun (x_1 : Int) =>
           brP (x_1 == 0)
            ((p.isSome = true ∧ 0 ≤ s.fst ∧ s.fst < (↑m : Int)) ∧
             (addP p (Int.toNat s.fst * 5)).isSome = true ∧
              LdP w1 none (addP (addP p (Int.toNat s.fst * 5)) 2) (El.one (Sc.int IntKind.i64)) fun (x_2 : Int) =>
               (p.isSome = true ∧ 0 ≤ s.fst ∧ s.fst < (↑m : Int)) ∧
                (addP p (Int.toNat s.fst * 5)).isSome = true ∧
                 LdP w1 none (addP (addP p (Int.toNat s.fst * 5)) 3) (El.one (Sc.int IntKind.i64)) fun (x_3 : Int) =>
                  CaP Try.prog 11 (Sh.tup [El.one (Sc.int IntKind.i64), El.one (Sc.int IntKind.i64)]) [Value.pointer x.fst, Value.int IntKind.i64 x_2, Value.int IntKind.i64 x_3] w1 fun (x_4 : Int × Int × Unit) (w2 : World) =>
                   CaP Try.prog 16 (Sh.el (El.one Sc.slice)) [Value.pointer x.fst, Value.int IntKind.i64 (addI IntKind.i64 1 (remI (convI IntKind.i64 o) 16))] w2 fun (x_5 : Option Addr × Nat × Nat) (w2 : World) =>
                    ∃ (I_1 : Nat → Int × Unit → World → Prop),
                     (∃ (n : Nat), ∀ (w1 : World), Ext w2 w1 → I_1 n (0, Unit.unit) w1) ∧
                      ∀ (n_1 : Nat) (s_1 : Int × Unit) (w1 : World),
                       I_1 n_1 s_1 w1 →
                        brP (decide (s_1.fst < (↑x_5.snd.fst : Int)))
                         ((x_5.fst.isSome = true ∧ 0 ≤ s_1.fst ∧ s_1.fst < (↑x_5.snd.fst : Int)) ∧
                          LdP w1 none (addP x_5.fst (Int.toNat s_1.fst * 1)) (El.one (Sc.int IntKind.i64)) fun (x_6 : Int) =>
                           ∃ (x_7 : (Int × Int × Int × Int × Unit) × Bool × Unit),
                            QCalls Try.prog 12 [Value.pointer x.fst, Value.int IntKind.i64 x_6] w1
                              (Value.tuple
                               {
                                toList :=
                                 [Value.agg { toList := [Value.int IntKind.i64 x_7.fst.fst, Value.int IntKind.i64 x_7.fst.snd.fst, Value.int IntKind.i64 x_7.fst.snd.snd.fst, Value.int IntKind.i64 x_7.fst.snd.snd.snd.fst] },
                                  Value.bool x_7.snd.fst] }) ∧
                             AlP w1 { toList := [Value.int IntKind.i64 0, Value.int IntKind.i64 0, Value.int IntKind.i64 0, Value.int IntKind.i64 0] } 33 fun (b : Nat) (w2 : World) =>
                              StP w2 (some { block := b, off := 0 }) [Value.int IntKind.i64 x_7.fst.fst, Value.int IntKind.i64 x_7.fst.snd.fst, Value.int IntKind.i64 x_7.fst.snd.snd.fst, Value.int IntKind.i64 x_7.fst.snd.snd.snd.fst]
                               fun (w2 : World) =>
                               ((!!x_7.snd.fst) = true → true = true) ∧
                                LdP w2 (some !!x_7.snd.fst) (addP (some { block := b, off := 0 }) 1) (El.one (Sc.int IntKind.i64)) fun (x : Int) =>
                                 ((!(!x_7.snd.fst || x != addI IntKind.i64 1 (remI (convI IntKind.i64 o) 16))) = true → true = true) ∧
                                  LdP w2 (some !(!x_7.snd.fst || x != addI IntKind.i64 1 (remI (convI IntKind.i64 o) 16))) (addP (some { block := b, off := 0 }) 0) (El.one (Sc.int IntKind.i64)) fun (x_8 : Int) =>
                                   ((!(!x_7.snd.fst || x != addI IntKind.i64 1 (remI (convI IntKind.i64 o) 16) || decide (x_8 < 3)) && decide (s_1.fst > 0)) = true →
                                     x_5.fst.isSome = true ∧ 0 ≤ subI IntKind.i64 s_1.fst 1 ∧ subI IntKind.i64 s_1.fst 1 < (↑x_5.snd.fst : Int)) ∧
                                    LdP w2 (some (!(!x_7.snd.fst || x != addI IntKind.i64 1 (remI (convI IntKind.i64 o) 16) || decide (x_8 < 3)) && decide (s_1.fst > 0))) (addP x_5.fst ((subI IntKind.i64 s_1.fst 1).toNat * 1))
                                     (El.one (Sc.int IntKind.i64)) fun (x_9 : Int) =>
                                     ((!(!x_7.snd.fst || x != addI IntKind.i64 1 (remI (convI IntKind.i64 o) 16) || decide (x_8 < 3)) && decide (s_1.fst > 0)) = true → x_5.fst.isSome = true ∧ 0 ≤ s_1.fst ∧ s_1.fst < (↑x_5.snd.fst : Int)) ∧
                                      LdP w2 (some (!(!x_7.snd.fst || x != addI IntKind.i64 1 (remI (convI IntKind.i64 o) 16) || decide (x_8 < 3)) && decide (s_1.fst > 0))) (addP x_5.fst (Int.toNat s_1.fst * 1)) (El.one (Sc.int IntKind.i64))
                                       fun (x_10 : Int) =>
                                       brP (!x_7.snd.fst || x != addI IntKind.i64 1 (remI (convI IntKind.i64 o) 16) || decide (x_8 < 3) || decide (s_1.fst > 0) && decide (x_9 ≥ x_10)) (EnP w2 fun (w1 : World) => Post false w1)
                                        (∀ (w3 : World), Ext w2 w3 → ∃ (n' : Nat), n' < n_1 ∧ I_1 n' (addI IntKind.i64 s_1.fst 1, Unit.unit) w3))
                         (∀ (w3 : World), Ext w1 w3 → ∃ (n' : Nat), n' < n ∧ I n' (addI IntKind.i64 s.fst 1, Unit.unit) w3))
            ((p.isSome = true ∧ 0 ≤ s.fst ∧ s.fst < (↑m : Int)) ∧
             (addP p (Int.toNat s.fst * 5)).isSome = true ∧
              LdP w1 none (addP (addP p (Int.toNat s.fst * 5)) 1) (El.one (Sc.int IntKind.i64)) fun (x_2 : Int) =>
               (p.isSome = true ∧ 0 ≤ s.fst ∧ s.fst < (↑m : Int)) ∧
                (addP p (Int.toNat s.fst * 5)).isSome = true ∧
                 LdP w1 none (addP (addP p (Int.toNat s.fst * 5)) 2) (El.one (Sc.int IntKind.i64)) fun (x_3 : Int) =>
                  (p.isSome = true ∧ 0 ≤ s.fst ∧ s.fst < (↑m : Int)) ∧
                   (addP p (Int.toNat s.fst * 5)).isSome = true ∧
                    LdP w1 none (addP (addP p (Int.toNat s.fst * 5)) 3) (El.one (Sc.int IntKind.i64)) fun (x_4 : Int) =>
                     CaP Try.prog 14 (Sh.el (El.one (Sc.int IntKind.i64))) [Value.pointer x.fst, Value.int IntKind.i64 x_2, Value.int IntKind.i64 x_3, Value.int IntKind.i64 x_4] w1 fun (x_5 : Int) (w2 : World) =>
                      CaP Try.prog 16 (Sh.el (El.one Sc.slice)) [Value.pointer x.fst, Value.int IntKind.i64 (addI IntKind.i64 1 (remI (convI IntKind.i64 o) 16))] w2 fun (x_6 : Option Addr × Nat × Nat) (w2 : World) =>
                       ∃ (I_1 : Nat → Int × Unit → World → Prop),
                        (∃ (n : Nat), ∀ (w1 : World), Ext w2 w1 → I_1 n (0, Unit.unit) w1) ∧
                         ∀ (n_1 : Nat) (s_1 : Int × Unit) (w1 : World),
                          I_1 n_1 s_1 w1 →
                           brP (decide (s_1.fst < (↑x_6.snd.fst : Int)))
                            ((x_6.fst.isSome = true ∧ 0 ≤ s_1.fst ∧ s_1.fst < (↑x_6.snd.fst : Int)) ∧
                             LdP w1 none (addP x_6.fst (Int.toNat s_1.fst * 1)) (El.one (Sc.int IntKind.i64)) fun (x_7 : Int) =>
                              ∃ (x_8 : (Int × Int × Int × Int × Unit) × Bool × Unit),
                               QCalls Try.prog 12 [Value.pointer x.fst, Value.int IntKind.i64 x_7] w1
                                 (Value.tuple
                                  {
                                   toList :=
                                    [Value.agg { toList := [Value.int IntKind.i64 x_8.fst.fst, Value.int IntKind.i64 x_8.fst.snd.fst, Value.int IntKind.i64 x_8.fst.snd.snd.fst, Value.int IntKind.i64 x_8.fst.snd.snd.snd.fst] },
                                     Value.bool x_8.snd.fst] }) ∧
                                AlP w1 { toList := [Value.int IntKind.i64 0, Value.int IntKind.i64 0, Value.int IntKind.i64 0, Value.int IntKind.i64 0] } 33 fun (b : Nat) (w2 : World) =>
                                 StP w2 (some { block := b, off := 0 }) [Value.int IntKind.i64 x_8.fst.fst, Value.int IntKind.i64 x_8.fst.snd.fst, Value.int IntKind.i64 x_8.fst.snd.snd.fst, Value.int IntKind.i64 x_8.fst.snd.snd.snd.fst]
                                  fun (w2 : World) =>
                                  ((!!x_8.snd.fst) = true → true = true) ∧
                                   LdP w2 (some !!x_8.snd.fst) (addP (some { block := b, off := 0 }) 1) (El.one (Sc.int IntKind.i64)) fun (x : Int) =>
                                    ((!(!x_8.snd.fst || x != addI IntKind.i64 1 (remI (convI IntKind.i64 o) 16))) = true → true = true) ∧
                                     LdP w2 (some !(!x_8.snd.fst || x != addI IntKind.i64 1 (remI (convI IntKind.i64 o) 16))) (addP (some { block := b, off := 0 }) 0) (El.one (Sc.int IntKind.i64)) fun (x_9 : Int) =>
                                      ((!(!x_8.snd.fst || x != addI IntKind.i64 1 (remI (convI IntKind.i64 o) 16) || decide (x_9 < 3)) && decide (s_1.fst > 0)) = true →
                                        x_6.fst.isSome = true ∧ 0 ≤ subI IntKind.i64 s_1.fst 1 ∧ subI IntKind.i64 s_1.fst 1 < (↑x_6.snd.fst : Int)) ∧
                                       LdP w2 (some (!(!x_8.snd.fst || x != addI IntKind.i64 1 (remI (convI IntKind.i64 o) 16) || decide (x_9 < 3)) && decide (s_1.fst > 0))) (addP x_6.fst ((subI IntKind.i64 s_1.fst 1).toNat * 1))
                                        (El.one (Sc.int IntKind.i64)) fun (x_10 : Int) =>
                                        ((!(!x_8.snd.fst || x != addI IntKind.i64 1 (remI (convI IntKind.i64 o) 16) || decide (x_9 < 3)) && decide (s_1.fst > 0)) = true → x_6.fst.isSome = true ∧ 0 ≤ s_1.fst ∧ s_1.fst < (↑x_6.snd.fst : Int)) ∧
                                         LdP w2 (some (!(!x_8.snd.fst || x != addI IntKind.i64 1 (remI (convI IntKind.i64 o) 16) || decide (x_9 < 3)) && decide (s_1.fst > 0))) (addP x_6.fst (Int.toNat s_1.fst * 1)) (El.one (Sc.int IntKind.i64))
                                          fun (x_11 : Int) =>
                                          brP (!x_8.snd.fst || x != addI IntKind.i64 1 (remI (convI IntKind.i64 o) 16) || decide (x_9 < 3) || decide (s_1.fst > 0) && decide (x_10 ≥ x_11)) (EnP w2 fun (w1 : World) => Post false w1)
                                           (∀ (w3 : World), Ext w2 w3 → ∃ (n' : Nat), n' < n_1 ∧ I_1 n' (addI IntKind.i64 s_1.fst 1, Unit.unit) w3))
                            (∀ (w3 : World), Ext w1 w3 → ∃ (n' : Nat), n' < n ∧ I n' (addI IntKind.i64 s.fst 1, Unit.unit) w3)))
        (CaP Try.prog 17 (Sh.el (El.one Sc.bool)) [] w1 fun (x : Bool) (w2 : World) => EnP w2 fun (w1 : World) => Post x w1))) := by kernel_rfl
def pplays_vc_ann : Nat → Slots := (fun | 8 => [(5, Go.RX.El.one Go.RX.Sc.ptr), (9, Go.RX.El.one (Go.RX.Sc.int Go.IntKind.i64))] | 33 => [(16, Go.RX.El.one (Go.RX.Sc.int Go.IntKind.i64))] | _ => [])
theorem pplays_vc (n : Int) (p : Option Addr) (m c : Nat) (w : World) (Post : Bool → World → Prop) : (rxFn E3 pplays_vc_ann 7 [.int .i64 n, .slice p m c] w Post) = (
 brP (decide (n > 300) && decide (n ≤ 4096)) (CaP Try.prog 17 (Sh.el (El.one Sc.bool)) [] w fun (x : Bool) (w2 : World) => EnP w2 fun (w1 : World) => Post x w1)
  (CaP Try.prog 9 (Sh.tup [El.one Sc.ptr, El.one (Sc.int IntKind.i64)]) [Value.int IntKind.i64 n] w fun (x : Option Addr × Int × Unit) (w2 : World) =>
   CaP Try.prog 19 (Sh.tup [El.one Sc.ptr, El.one (Sc.int IntKind.i64)]) [Value.int IntKind.i64 n] w2 fun (x_1 : Option Addr × Int × Unit) (w2 : World) =>
    brP (x.snd.fst != x_1.snd.fst || !(!x.fst.isNone) == (x_1.snd.fst == 0)) (EnP w2 fun (w1 : World) => Post false w1)
     (∃ (I : Nat → Option Addr × Int × Unit → World → Prop),
      (∃ (n : Nat), ∀ (w1 : World), Ext w2 w1 → I n (x.fst, 0, Unit.unit) w1) ∧
       ∀ (n_1 : Nat) (s : Option Addr × Int × Unit) (w1 : World),
        I n_1 s w1 →
         brP (decide (s.snd.fst < (↑m : Int)) && decide (s.snd.fst < 60) && !s.fst.isNone)
          ((p.isSome = true ∧ 0 ≤ s.snd.fst ∧ s.snd.fst < (↑m : Int)) ∧
           LdP w1 none (addP p (Int.toNat s.snd.fst * 5)) (El.agg [Sc.int IntKind.i64, Sc.int IntKind.i64, Sc.int IntKind.i64, Sc.int IntKind.i64, Sc.int IntKind.i64]) fun (x : Int × Int × Int × Int × Int × Unit) =>
            AlP w1 { toList := [Value.int IntKind.i64 0, Value.int IntKind.i64 0, Value.int IntKind.i64 0, Value.int IntKind.i64 0, Value.int IntKind.i64 0] } 28 fun (b : Nat) (w2 : World) =>
             StP w2 (some { block := b, off := 0 }) [Value.int IntKind.i64 x.fst, Value.int IntKind.i64 x.snd.fst, Value.int IntKind.i64 x.snd.snd.fst, Value.int IntKind.i64 x.snd.snd.snd.fst, Value.int IntKind.i64 x.snd.snd.snd.snd.fst]
              fun (w2 : World) =>
              true = true ∧
               LdP w2 none (addP (some { block := b, off := 0 }) 0) (El.one (Sc.int IntKind.i64)) fun (x : Int) =>
                brP (x == 0)
                 (true = true ∧
                  LdP w2 none (addP (some { block := b, off := 0 }) 2) (El.one (Sc.int IntKind.i64)) fun (x : Int) =>
                   true = true ∧
                    LdP w2 none (addP (some { block := b, off := 0 }) 3) (El.one (Sc.int IntKind.i64)) fun (x_2 : Int) =>
                     CaP Try.prog 11 (Sh.tup [El.one (Sc.int IntKind.i64), El.one (Sc.int IntKind.i64)]) [Value.pointer s.fst, Value.int IntKind.i64 x, Value.int IntKind.i64 x_2] w2 fun (x : Int × Int × Unit) (w2 : World) =>
                      true = true ∧
                       LdP w2 none (addP (some { block := b, off := 0 }) 2) (El.one (Sc.int IntKind.i64)) fun (x_3 : Int) =>
                        true = true ∧
                         LdP w2 none (addP (some { block := b, off := 0 }) 3) (El.one (Sc.int IntKind.i64)) fun (x_4 : Int) =>
                          CaP Try.prog 20 (Sh.tup [El.one (Sc.int IntKind.i64), El.one (Sc.int IntKind.i64)]) [Value.pointer x_1.fst, Value.int IntKind.i64 x_3, Value.int IntKind.i64 x_4] w2 fun (x_5 : Int × Int × Unit) (w2 : World) =>
                           brP (x.fst != x_5.fst || x.snd.fst != x_5.snd.fst) (EnP w2 fun (w1 : World) => Post false w1)
                            (∃ (I_1 : Nat → Int × Unit → World → Prop),
                             (∃ (n : Nat), ∀ (w1 : World), Ext w2 w1 → I_1 n (-1, Unit.unit) w1) ∧
                              ∀ (n_2 : Nat) (s_1 : Int × Unit) (w1 : World),
                               I_1 n_2 s_1 w1 →
                                brP (decide (s_1.fst ≤ n))
                                 (∃ (x : (Int × Int × Int × Int × Unit) × Bool × Unit),
                                  QCalls Try.prog 12 [Value.pointer s.fst, Value.int IntKind.i64 s_1.fst] w1
                                    (Value.tuple
                                     {
                                      toList :=
                                       [Value.agg { toList := [Value.int IntKind.i64 x.fst.fst, Value.int IntKind.i64 x.fst.snd.fst, Value.int IntKind.i64 x.fst.snd.snd.fst, Value.int IntKind.i64 x.fst.snd.snd.snd.fst] }, Value.bool x.snd.fst] }) ∧
                                   AlP w1 { toList := [Value.int IntKind.i64 0, Value.int IntKind.i64 0, Value.int IntKind.i64 0, Value.int IntKind.i64 0] } 33 fun (b : Nat) (w2 : World) =>
                                    StP w2 (some { block := b, off := 0 }) [Value.int IntKind.i64 x.fst.fst, Value.int IntKind.i64 x.fst.snd.fst, Value.int IntKind.i64 x.fst.snd.snd.fst, Value.int IntKind.i64 x.fst.snd.snd.snd.fst] fun (w2 : World) =>
                                     LdP w2 (some (!!x.snd.fst == (decide (s_1.fst ≥ 0) && decide (s_1.fst < n)) && x.snd.fst)) (some { block := b, off := 0 }) (El.agg [Sc.int IntKind.i64, Sc.int IntKind.i64, Sc.int IntKind.i64, Sc.int IntKind.i64])
                                      fun (x_6 : Int × Int × Int × Int × Unit) =>
                                      ∃ (x_7 : Int × Int × Int × Int × Unit),
                                       ((!!x.snd.fst == (decide (s_1.fst ≥ 0) && decide (s_1.fst < n)) && x.snd.fst) = true →
                                         QCalls Try.prog 25 [Value.agg { toList := [Value.int IntKind.i64 x_6.fst, Value.int IntKind.i64 x_6.snd.fst, Value.int IntKind.i64 x_6.snd.snd.fst, Value.int IntKind.i64 x_6.snd.snd.snd.fst] }] w2
                                          (Value.agg { toList := [Value.int IntKind.i64 x_7.fst, Value.int IntKind.i64 x_7.snd.fst, Value.int IntKind.i64 x_7.snd.snd.fst, Value.int IntKind.i64 x_7.snd.snd.snd.fst] })) ∧
                                        ((!!x.snd.fst == (decide (s_1.fst ≥ 0) && decide (s_1.fst < n)) && x.snd.fst) = true → x_1.fst.isSome = true) ∧
                                         ((!!x.snd.fst == (decide (s_1.fst ≥ 0) && decide (s_1.fst < n)) && x.snd.fst) = true → x_1.fst.isSome = true) ∧
                                          LdP w2 (some (!!x.snd.fst == (decide (s_1.fst ≥ 0) && decide (s_1.fst < n)) && x.snd.fst)) (addP x_1.fst 0) (El.one Sc.slice) fun (x_8 : Option Addr × Nat × Nat) =>
                                           ((!!x.snd.fst == (decide (s_1.fst ≥ 0) && decide (s_1.fst < n)) && x.snd.fst) = true → x_8.fst.isSome = true ∧ 0 ≤ s_1.fst ∧ s_1.fst < (↑x_8.snd.fst : Int)) ∧
                                            LdP w2 (some (!!x.snd.fst == (decide (s_1.fst ≥ 0) && decide (s_1.fst < n)) && x.snd.fst)) (addP x_8.fst (Int.toNat s_1.fst * 4))
                                             (El.agg [Sc.int IntKind.i64, Sc.int IntKind.i64, Sc.int IntKind.i64, Sc.int IntKind.i64]) fun (x_9 : Int × Int × Int × Int × Unit) =>
                                             LdP w2
                                              (some
                                               (!(!x.snd.fst == (decide (s_1.fst ≥ 0) && decide (s_1.fst < n)) ||
                                                  x.snd.fst && !(x_7.fst == x_9.fst && (x_7.snd.fst == x_9.snd.fst && (x_7.snd.snd.fst == x_9.snd.snd.fst && (x_7.snd.snd.snd.fst == x_9.snd.snd.snd.fst && true))))) &&
                                                !x.snd.fst))
                                              (some { block := b, off := 0 }) (El.agg [Sc.int IntKind.i64, Sc.int IntKind.i64, Sc.int IntKind.i64, Sc.int IntKind.i64]) fun (x_10 : Int × Int × Int × Int × Unit) =>
                                              brP
                                               (!x.snd.fst == (decide (s_1.fst ≥ 0) && decide (s_1.fst < n)) ||
                                                 x.snd.fst && !(x_7.fst == x_9.fst && (x_7.snd.fst == x_9.snd.fst && (x_7.snd.snd.fst == x_9.snd.snd.fst && (x_7.snd.snd.snd.fst == x_9.snd.snd.snd.fst && true)))) ||
                                                !x.snd.fst && !(x_10.fst == 0 && (x_10.snd.fst == 0 && (x_10.snd.snd.fst == 0 && (x_10.snd.snd.snd.fst == 0 && true)))))
                                               (EnP w2 fun (w1 : World) => Post false w1) (∀ (w3 : World), Ext w2 w3 → ∃ (n' : Nat), n' < n_2 ∧ I_1 n' (addI IntKind.i64 s_1.fst 1, Unit.unit) w3))
                                 (true = true ∧
                                  LdP w1 none (addP (some { block := b, off := 0 }) 2) (El.one (Sc.int IntKind.i64)) fun (x : Int) =>
                                   ∃ (x_6 : Int),
                                    QCalls Try.prog 10 [Value.pointer s.fst, Value.int IntKind.i64 x] w1 (Value.int IntKind.i64 x_6) ∧
                                     true = true ∧
                                      LdP w1 none (addP (some { block := b, off := 0 }) 2) (El.one (Sc.int IntKind.i64)) fun (x : Int) =>
                                       ∃ (x_7 : Int),
                                        QCalls Try.prog 26 [Value.pointer x_1.fst, Value.int IntKind.i64 x] w1 (Value.int IntKind.i64 x_7) ∧
                                         ((!x_6 != x_7) = true → true = true) ∧
                                          LdP w1 (some !x_6 != x_7) (addP (some { block := b, off := 0 }) 3) (El.one (Sc.int IntKind.i64)) fun (x : Int) =>
                                           ((!x_6 != x_7) = true → true = true) ∧
                                            LdP w1 (some !x_6 != x_7) (addP (some { block := b, off := 0 }) 3) (El.one (Sc.int IntKind.i64)) fun (x_8 : Int) =>
                                             brP (x_6 != x_7)
                                              (((!x_6 != x_7) = true → rdAt w1 (addP (some { block := b, off := 0 }) 3) (El.one (Sc.int IntKind.i64)) x_8) ∧
                                               True ∧
                                                ∃ (x : Int),
                                                 (false = true → QCalls Try.prog 18 [Value.pointer s.fst] w1 (Value.int IntKind.i64 x)) ∧
                                                  (false = true → x_1.fst.isSome = true) ∧
                                                   (false = true → x_1.fst.isSome = true) ∧ LdP w1 (some false) (addP x_1.fst 0) (El.one Sc.slice) fun (x : Option Addr × Nat × Nat) => EnP w1 fun (w1 : World) => Post false w1)
                                              (CaP Try.prog 16 (Sh.el (El.one Sc.slice)) [Value.pointer s.fst, Value.int IntKind.i64 x] w1 fun (x : Option Addr × Nat × Nat) (w2 : World) =>
                                               ((!x_6 != x_7) = true → rdAt w2 (addP (some { block := b, off := 0 }) 3) (El.one (Sc.int IntKind.i64)) x_8) ∧
                                                True ∧
                                                 CaP Try.prog 28 (Sh.el (El.one Sc.slice)) [Value.pointer x_1.fst, Value.int IntKind.i64 x_8] w2 fun (x_9 : Option Addr × Nat × Nat) (w2 : World) =>
                                                  CaP Try.prog 27 (Sh.el (El.one Sc.bool)) [Value.slice x.fst x.snd.fst x.snd.snd, Value.slice x_9.fst x_9.snd.fst x_9.snd.snd] w2 fun (x : Bool) (w2 : World) =>
                                                   ∃ (x_10 : Int),
                                                    ((!!x) = true → QCalls Try.prog 18 [Value.pointer s.fst] w2 (Value.int IntKind.i64 x_10)) ∧
                                                     ((!!x) = true → x_1.fst.isSome = true) ∧
                                                      ((!!x) = true → x_1.fst.isSome = true) ∧
                                                       LdP w2 (some !!x) (addP x_1.fst 0) (El.one Sc.slice) fun (x_11 : Option Addr × Nat × Nat) =>
                                                        brP (!x || x_10 != (↑x_11.snd.fst : Int)) (EnP w2 fun (w1 : World) => Post false w1)
                                                         (∀ (w3 : World), Ext w2 w3 → ∃ (n' : Nat), n' < n_1 ∧ I n' (s.fst, addI IntKind.i64 s.snd.fst 1, Unit.unit) w3)))))
                 (brP (x == 1)
                  (true = true ∧
                   LdP w2 none (addP (some { block := b, off := 0 }) 1) (El.one (Sc.int IntKind.i64)) fun (x : Int) =>
                    true = true ∧
                     LdP w2 none (addP (some { block := b, off := 0 }) 1) (El.one (Sc.int IntKind.i64)) fun (x_2 : Int) =>
                      CaP Try.prog 13 (Sh.el (El.one (Sc.int IntKind.i64))) [Value.pointer s.fst, Value.int IntKind.i64 x] w2 fun (x : Int) (w2 : World) =>
                       rdAt w2 (addP (some { block := b, off := 0 }) 1) (El.one (Sc.int IntKind.i64)) x_2 ∧
                        True ∧
                         CaP Try.prog 21 (Sh.el (El.one (Sc.int IntKind.i64))) [Value.pointer x_1.fst, Value.int IntKind.i64 x_2] w2 fun (x_3 : Int) (w2 : World) =>
                          brP (x != x_3) (EnP w2 fun (w1 : World) => Post false w1)
                           (∃ (I_1 : Nat → Int × Unit → World → Prop),
                            (∃ (n : Nat), ∀ (w1 : World), Ext w2 w1 → I_1 n (-1, Unit.unit) w1) ∧
                             ∀ (n_2 : Nat) (s_1 : Int × Unit) (w1 : World),
                              I_1 n_2 s_1 w1 →
                               brP (decide (s_1.fst ≤ n))
                                (∃ (x : (Int × Int × Int × Int × Unit) × Bool × Unit),
                                 QCalls Try.prog 12 [Value.pointer s.fst, Value.int IntKind.i64 s_1.fst] w1
                                   (Value.tuple
                                    {
                                     toList :=
                                      [Value.agg { toList := [Value.int IntKind.i64 x.fst.fst, Value.int IntKind.i64 x.fst.snd.fst, Value.int IntKind.i64 x.fst.snd.snd.fst, Value.int IntKind.i64 x.fst.snd.snd.snd.fst] }, Value.bool x.snd.fst] }) ∧
                                  AlP w1 { toList := [Value.int IntKind.i64 0, Value.int IntKind.i64 0, Value.int IntKind.i64 0, Value.int IntKind.i64 0] } 33 fun (b : Nat) (w2 : World) =>
                                   StP w2 (some { block := b, off := 0 }) [Value.int IntKind.i64 x.fst.fst, Value.int IntKind.i64 x.fst.snd.fst, Value.int IntKind.i64 x.fst.snd.snd.fst, Value.int IntKind.i64 x.fst.snd.snd.snd.fst] fun (w2 : World) =>
                                    LdP w2 (some (!!x.snd.fst == (decide (s_1.fst ≥ 0) && decide (s_1.fst < n)) && x.snd.fst)) (some { block := b, off := 0 }) (El.agg [Sc.int IntKind.i64, Sc.int IntKind.i64, Sc.int IntKind.i64, Sc.int IntKind.i64])
                                     fun (x_4 : Int × Int × Int × Int × Unit) =>
                                     ∃ (x_5 : Int × Int × Int × Int × Unit),
                                      ((!!x.snd.fst == (decide (s_1.fst ≥ 0) && decide (s_1.fst < n)) && x.snd.fst) = true →
                                        QCalls Try.prog 25 [Value.agg { toList := [Value.int IntKind.i64 x_4.fst, Value.int IntKind.i64 x_4.snd.fst, Value.int IntKind.i64 x_4.snd.snd.fst, Value.int IntKind.i64 x_4.snd.snd.snd.fst] }] w2
                                         (Value.agg { toList := [Value.int IntKind.i64 x_5.fst, Value.int IntKind.i64 x_5.snd.fst, Value.int IntKind.i64 x_5.snd.snd.fst, Value.int IntKind.i64 x_5.snd.snd.snd.fst] })) ∧
                                       ((!!x.snd.fst == (decide (s_1.fst ≥ 0) && decide (s_1.fst < n)) && x.snd.fst) = true → x_1.fst.isSome = true) ∧
                                        ((!!x.snd.fst == (decide (s_1.fst ≥ 0) && decide (s_1.fst < n)) && x.snd.fst) = true → x_1.fst.isSome = true) ∧
                                         LdP w2 (some (!!x.snd.fst == (decide (s_1.fst ≥ 0) && decide (s_1.fst < n)) && x.snd.fst)) (addP x_1.fst 0) (El.one Sc.slice) fun (x_6 : Option Addr × Nat × Nat) =>
                                          ((!!x.snd.fst == (decide (s_1.fst ≥ 0) && decide (s_1.fst < n)) && x.snd.fst) = true → x_6.fst.isSome = true ∧ 0 ≤ s_1.fst ∧ s_1.fst < (↑x_6.snd.fst : Int)) ∧
                                           LdP w2 (some (!!x.snd.fst == (decide (s_1.fst ≥ 0) && decide (s_1.fst < n)) && x.snd.fst)) (addP x_6.fst (Int.toNat s_1.fst * 4))
                                            (El.agg [Sc.int IntKind.i64, Sc.int IntKind.i64, Sc.int IntKind.i64, Sc.int IntKind.i64]) fun (x_7 : Int × Int × Int × Int × Unit) =>
                                            LdP w2
                                             (some
                                              (!(!x.snd.fst == (decide (s_1.fst ≥ 0) && decide (s_1.fst < n)) ||
                                                 x.snd.fst && !(x_5.fst == x_7.fst && (x_5.snd.fst == x_7.snd.fst && (x_5.snd.snd.fst == x_7.snd.snd.fst && (x_5.snd.snd.snd.fst == x_7.snd.snd.snd.fst && true))))) &&
                                               !x.snd.fst))
                                             (some { block := b, off := 0 }) (El.agg [Sc.int IntKind.i64, Sc.int IntKind.i64, Sc.int IntKind.i64, Sc.int IntKind.i64]) fun (x_8 : Int × Int × Int × Int × Unit) =>
                                             brP
                                              (!x.snd.fst == (decide (s_1.fst ≥ 0) && decide (s_1.fst < n)) ||
                                                x.snd.fst && !(x_5.fst == x_7.fst && (x_5.snd.fst == x_7.snd.fst && (x_5.snd.snd.fst == x_7.snd.snd.fst && (x_5.snd.snd.snd.fst == x_7.snd.snd.snd.fst && true)))) ||
                                               !x.snd.fst && !(x_8.fst == 0 && (x_8.snd.fst == 0 && (x_8.snd.snd.fst == 0 && (x_8.snd.snd.snd.fst == 0 && true)))))
                                              (EnP w2 fun (w1 : World) => Post false w1) (∀ (w3 : World), Ext w2 w3 → ∃ (n' : Nat), n' < n_2 ∧ I_1 n' (addI IntKind.i64 s_1.fst 1, Unit.unit) w3))
                                (true = true ∧
                                 LdP w1 none (addP (some { block := b, off := 0 }) 2) (El.one (Sc.int IntKind.i64)) fun (x : Int) =>
                                  ∃ (x_4 : Int),
                                   QCalls Try.prog 10 [Value.pointer s.fst, Value.int IntKind.i64 x] w1 (Value.int IntKind.i64 x_4) ∧
                                    true = true ∧
                                     LdP w1 none (addP (some { block := b, off := 0 }) 2) (El.one (Sc.int IntKind.i64)) fun (x : Int) =>
                                      ∃ (x_5 : Int),
                                       QCalls Try.prog 26 [Value.pointer x_1.fst, Value.int IntKind.i64 x] w1 (Value.int IntKind.i64 x_5) ∧
                                        ((!x_4 != x_5) = true → true = true) ∧
                                         LdP w1 (some !x_4 != x_5) (addP (some { block := b, off := 0 }) 3) (El.one (Sc.int IntKind.i64)) fun (x : Int) =>
                                          ((!x_4 != x_5) = true → true = true) ∧
                                           LdP w1 (some !x_4 != x_5) (addP (some { block := b, off := 0 }) 3) (El.one (Sc.int IntKind.i64)) fun (x_6 : Int) =>
                                            brP (x_4 != x_5)
                                             (((!x_4 != x_5) = true → rdAt w1 (addP (some { block := b, off := 0 }) 3) (El.one (Sc.int IntKind.i64)) x_6) ∧
                                              True ∧
                                               ∃ (x : Int),
                                                (false = true → QCalls Try.prog 18 [Value.pointer s.fst] w1 (Value.int IntKind.i64 x)) ∧
                                                 (false = true → x_1.fst.isSome = true) ∧
                                                  (false = true → x_1.fst.isSome = true) ∧ LdP w1 (some false) (addP x_1.fst 0) (El.one Sc.slice) fun (x : Option Addr × Nat × Nat) => EnP w1 fun (w1 : World) => Post false w1)
                                             (CaP Try.prog 16 (Sh.el (El.one Sc.slice)) [Value.pointer s.fst, Value.int IntKind.i64 x] w1 fun (x : Option Addr × Nat × Nat) (w2 : World) =>
                                              ((!x_4 != x_5) = true → rdAt w2 (addP (some { block := b, off := 0 }) 3) (El.one (Sc.int IntKind.i64)) x_6) ∧
                                               True ∧
                                                CaP Try.prog 28 (Sh.el (El.one Sc.slice)) [Value.pointer x_1.fst, Value.int IntKind.i64 x_6] w2 fun (x_7 : Option Addr × Nat × Nat) (w2 : World) =>
                                                 CaP Try.prog 27 (Sh.el (El.one Sc.bool)) [Value.slice x.fst x.snd.fst x.snd.snd, Value.slice x_7.fst x_7.snd.fst x_7.snd.snd] w2 fun (x : Bool) (w2 : World) =>
                                                  ∃ (x_8 : Int),
                                                   ((!!x) = true → QCalls Try.prog 18 [Value.pointer s.fst] w2 (Value.int IntKind.i64 x_8)) ∧
                                                    ((!!x) = true → x_1.fst.isSome = true) ∧
                                                     ((!!x) = true → x_1.fst.isSome = true) ∧
                                                      LdP w2 (some !!x) (addP x_1.fst 0) (El.one Sc.slice) fun (x_9 : Option Addr × Nat × Nat) =>
                                                       brP (!x || x_8 != (↑x_9.snd.fst : Int)) (EnP w2 fun (w1 : World) => Post false w1)
                                                        (∀ (w3 : World), Ext w2 w3 → ∃ (n' : Nat), n' < n_1 ∧ I n' (s.fst, addI IntKind.i64 s.snd.fst 1, Unit.unit) w3)))))
                  (brP (x == 2)
                   (true = true ∧
                    LdP w2 none (addP (some { block := b, off := 0 }) 1) (El.one (Sc.int IntKind.i64)) fun (x : Int) =>
                     true = true ∧
                      LdP w2 none (addP (some { block := b, off := 0 }) 2) (El.one (Sc.int IntKind.i64)) fun (x_2 : Int) =>
                       true = true ∧
                        LdP w2 none (addP (some { block := b, off := 0 }) 3) (El.one (Sc.int IntKind.i64)) fun (x_3 : Int) =>
                         true = true ∧
                          LdP w2 none (addP (some { block := b, off := 0 }) 1) (El.one (Sc.int IntKind.i64)) fun (x_4 : Int) =>
                           true = true ∧
                            LdP w2 none (addP (some { block := b, off := 0 }) 2) (El.one (Sc.int IntKind.i64)) fun (x_5 : Int) =>
                             true = true ∧
                              LdP w2 none (addP (some { block := b, off := 0 }) 3) (El.one (Sc.int IntKind.i64)) fun (x_6 : Int) =>
                               CaP Try.prog 14 (Sh.el (El.one (Sc.int IntKind.i64))) [Value.pointer s.fst, Value.int IntKind.i64 x, Value.int IntKind.i64 x_2, Value.int IntKind.i64 x_3] w2 fun (x : Int) (w2 : World) =>
                                rdAt w2 (addP (some { block := b, off := 0 }) 3) (El.one (Sc.int IntKind.i64)) x_6 ∧
                                 True ∧
                                  rdAt w2 (addP (some { block := b, off := 0 }) 2) (El.one (Sc.int IntKind.i64)) x_5 ∧
                                   True ∧
                                    rdAt w2 (addP (some { block := b, off := 0 }) 1) (El.one (Sc.int IntKind.i64)) x_4 ∧
                                     True ∧
                                      CaP Try.prog 22 (Sh.el (El.one (Sc.int IntKind.i64))) [Value.pointer x_1.fst, Value.int IntKind.i64 x_4, Value.int IntKind.i64 x_5, Value.int IntKind.i64 x_6] w2 fun (x_7 : Int) (w2 : World) =>
                                       brP (x != x_7) (EnP w2 fun (w1 : World) => Post false w1)
                                        (∃ (I_1 : Nat → Int × Unit → World → Prop),
                                         (∃ (n : Nat), ∀ (w1 : World), Ext w2 w1 → I_1 n (-1, Unit.unit) w1) ∧
                                          ∀ (n_2 : Nat) (s_1 : Int × Unit) (w1 : World),
                                           I_1 n_2 s_1 w1 →
                                            brP (decide (s_1.fst ≤ n))
                                             (∃ (x : (Int × Int × Int × Int × Unit) × Bool × Unit),
                                              QCalls Try.prog 12 [Value.pointer s.fst, Value.int IntKind.i64 s_1.fst] w1
                                                (Value.tuple
                                                 {
                                                  toList :=
                                                   [Value.agg { toList := [Value.int IntKind.i64 x.fst.fst, Value.int IntKind.i64 x.fst.snd.fst, Value.int IntKind.i64 x.fst.snd.snd.fst, Value.int IntKind.i64 x.fst.snd.snd.snd.fst] },
                                                    Value.bool x.snd.fst] }) ∧
                                               AlP w1 { toList := [Value.int IntKind.i64 0, Value.int IntKind.i64 0, Value.int IntKind.i64 0, Value.int IntKind.i64 0] } 33 fun (b : Nat) (w2 : World) =>
                                                StP w2 (some { block := b, off := 0 }) [Value.int IntKind.i64 x.fst.fst, Value.int IntKind.i64 x.fst.snd.fst, Value.int IntKind.i64 x.fst.snd.snd.fst, Value.int IntKind.i64 x.fst.snd.snd.snd.fst]
                                                 fun (w2 : World) =>
                                                 LdP w2 (some (!!x.snd.fst == (decide (s_1.fst ≥ 0) && decide (s_1.fst < n)) && x.snd.fst)) (some { block := b, off := 0 })
                                                  (El.agg [Sc.int IntKind.i64, Sc.int IntKind.i64, Sc.int IntKind.i64, Sc.int IntKind.i64]) fun (x_8 : Int × Int × Int × Int × Unit) =>
                                                  ∃ (x_9 : Int × Int × Int × Int × Unit),
                                                   ((!!x.snd.fst == (decide (s_1.fst ≥ 0) && decide (s_1.fst < n)) && x.snd.fst) = true →
                                                     QCalls Try.prog 25 [Value.agg { toList := [Value.int IntKind.i64 x_8.fst, Value.int IntKind.i64 x_8.snd.fst, Value.int IntKind.i64 x_8.snd.snd.fst, Value.int IntKind.i64 x_8.snd.snd.snd.fst] }] w2
                                                      (Value.agg { toList := [Value.int IntKind.i64 x_9.fst, Value.int IntKind.i64 x_9.snd.fst, Value.int IntKind.i64 x_9.snd.snd.fst, Value.int IntKind.i64 x_9.snd.snd.snd.fst] })) ∧
                                                    ((!!x.snd.fst == (decide (s_1.fst ≥ 0) && decide (s_1.fst < n)) && x.snd.fst) = true → x_1.fst.isSome = true) ∧
                                                     ((!!x.snd.fst == (decide (s_1.fst ≥ 0) && decide (s_1.fst < n)) && x.snd.fst) = true → x_1.fst.isSome = true) ∧
                                                      LdP w2 (some (!!x.snd.fst == (decide (s_1.fst ≥ 0) && decide (s_1.fst < n)) && x.snd.fst)) (addP x_1.fst 0) (El.one Sc.slice) fun (x_10 : Option Addr × Nat × Nat) =>
                                                       ((!!x.snd.fst == (decide (s_1.fst ≥ 0) && decide (s_1.fst < n)) && x.snd.fst) = true → x_10.fst.isSome = true ∧ 0 ≤ s_1.fst ∧ s_1.fst < (↑x_10.snd.fst : Int)) ∧
                                                        LdP w2 (some (!!x.snd.fst == (decide (s_1.fst ≥ 0) && decide (s_1.fst < n)) && x.snd.fst)) (addP x_10.fst (Int.toNat s_1.fst * 4))
                                                         (El.agg [Sc.int IntKind.i64, Sc.int IntKind.i64, Sc.int IntKind.i64, Sc.int IntKind.i64]) fun (x_11 : Int × Int × Int × Int × Unit) =>
                                                         LdP w2
                                                          (some
                                                           (!(!x.snd.fst == (decide (s_1.fst ≥ 0) && decide (s_1.fst < n)) ||
                                                              x.snd.fst && !(x_9.fst == x_11.fst && (x_9.snd.fst == x_11.snd.fst && (x_9.snd.snd.fst == x_11.snd.snd.fst && (x_9.snd.snd.snd.fst == x_11.snd.snd.snd.fst && true))))) &&
                                                            !x.snd.fst))
                                                          (some { block := b, off := 0 }) (El.agg [Sc.int IntKind.i64, Sc.int IntKind.i64, Sc.int IntKind.i64, Sc.int IntKind.i64]) fun (x_12 : Int × Int × Int × Int × Unit) =>
                                                          brP
                                                           (!x.snd.fst == (decide (s_1.fst ≥ 0) && decide (s_1.fst < n)) ||
                                                             x.snd.fst && !(x_9.fst == x_11.fst && (x_9.snd.fst == x_11.snd.fst && (x_9.snd.snd.fst == x_11.snd.snd.fst && (x_9.snd.snd.snd.fst == x_11.snd.snd.snd.fst && true)))) ||
                                                            !x.snd.fst && !(x_12.fst == 0 && (x_12.snd.fst == 0 && (x_12.snd.snd.fst == 0 && (x_12.snd.snd.snd.fst == 0 && true)))))
                                                           (EnP w2 fun (w1 : World) => Post false w1) (∀ (w3 : World), Ext w2 w3 → ∃ (n' : Nat), n' < n_2 ∧ I_1 n' (addI IntKind.i64 s_1.fst 1, Unit.unit) w3))
                                             (true = true ∧
                                              LdP w1 none (addP (some { block := b, off := 0 }) 2) (El.one (Sc.int IntKind.i64)) fun (x : Int) =>
                                               ∃ (x_8 : Int),
                                                QCalls Try.prog 10 [Value.pointer s.fst, Value.int IntKind.i64 x] w1 (Value.int IntKind.i64 x_8) ∧
                                                 true = true ∧
                                                  LdP w1 none (addP (some { block := b, off := 0 }) 2) (El.one (Sc.int IntKind.i64)) fun (x : Int) =>
                                                   ∃ (x_9 : Int),
                                                    QCalls Try.prog 26 [Value.pointer x_1.fst, Value.int IntKind.i64 x] w1 (Value.int IntKind.i64 x_9) ∧
                                                     ((!x_8 != x_9) = true → true = true) ∧
                                                      LdP w1 (some !x_8 != x_9) (addP (some { block := b, off := 0 }) 3) (El.one (Sc.int IntKind.i64)) fun (x : Int) =>
                                                       ((!x_8 != x_9) = true → true = true) ∧
                                                        LdP w1 (some !x_8 != x_9) (addP (some { block := b, off := 0 }) 3) (El.one (Sc.int IntKind.i64)) fun (x_10 : Int) =>
                                                         brP (x_8 != x_9)
                                                          (((!x_8 != x_9) = true → rdAt w1 (addP (some { block := b, off := 0 }) 3) (El.one (Sc.int IntKind.i64)) x_10) ∧
                                                           True ∧
                                                            ∃ (x : Int),
                                                             (false = true → QCalls Try.prog 18 [Value.pointer s.fst] w1 (Value.int IntKind.i64 x)) ∧
                                                              (false = true → x_1.fst.isSome = true) ∧
                                                               (false = true → x_1.fst.isSome = true) ∧ LdP w1 (some false) (addP x_1.fst 0) (El.one Sc.slice) fun (x : Option Addr × Nat × Nat) => EnP w1 fun (w1 : World) => Post false w1)
                                                          (CaP Try.prog 16 (Sh.el (El.one Sc.slice)) [Value.pointer s.fst, Value.int IntKind.i64 x] w1 fun (x : Option Addr × Nat × Nat) (w2 : World) =>
                                                           ((!x_8 != x_9) = true → rdAt w2 (addP (some { block := b, off := 0 }) 3) (El.one (Sc.int IntKind.i64)) x_10) ∧
                                                            True ∧
                                                             CaP Try.prog 28 (Sh.el (El.one Sc.slice)) [Value.pointer x_1.fst, Value.int IntKind.i64 x_10] w2 fun (x_11 : Option Addr × Nat × Nat) (w2 : World) =>
                                                              CaP Try.prog 27 (Sh.el (El.one Sc.bool)) [Value.slice x.fst x.snd.fst x.snd.snd, Value.slice x_11.fst x_11.snd.fst x_11.snd.snd] w2 fun (x : Bool) (w2 : World) =>
                                                               ∃ (x_12 : Int),
                                                                ((!!x) = true → QCalls Try.prog 18 [Value.pointer s.fst] w2 (Value.int IntKind.i64 x_12)) ∧
                                                                 ((!!x) = true → x_1.fst.isSome = true) ∧
                                                                  ((!!x) = true → x_1.fst.isSome = true) ∧
                                                                   LdP w2 (some !!x) (addP x_1.fst 0) (El.one Sc.slice) fun (x_13 : Option Addr × Nat × Nat) =>
                                                                    brP (!x || x_12 != (↑x_13.snd.fst : Int)) (EnP w2 fun (w1 : World) => Post false w1)
                                                                     (∀ (w3 : World), Ext w2 w3 → ∃ (n' : Nat), n' < n_1 ∧ I n' (s.fst, addI IntKind.i64 s.snd.fst 1, Unit.unit) w3)))))
                   (brP (x == 3)
                    (true = true ∧
                     LdP w2 none (addP (some { block := b, off := 0 }) 1) (El.one (Sc.int IntKind.i64)) fun (x : Int) =>
                      true = true ∧
                       LdP w2 none (addP (some { block := b, off := 0 }) 4) (El.one (Sc.int IntKind.i64)) fun (x_2 : Int) =>
                        true = true ∧
                         LdP w2 none (addP (some { block := b, off := 0 }) 1) (El.one (Sc.int IntKind.i64)) fun (x_3 : Int) =>
                          true = true ∧
                           LdP w2 none (addP (some { block := b, off := 0 }) 4) (El.one (Sc.int IntKind.i64)) fun (x_4 : Int) =>
                            CaP Try.prog 15 (Sh.el (El.one (Sc.int IntKind.i64))) [Value.pointer s.fst, Value.int IntKind.i64 x, Value.int IntKind.i64 x_2] w2 fun (x : Int) (w2 : World) =>
                             rdAt w2 (addP (some { block := b, off := 0 }) 4) (El.one (Sc.int IntKind.i64)) x_4 ∧
                              True ∧
                               rdAt w2 (addP (some { block := b, off := 0 }) 1) (El.one (Sc.int IntKind.i64)) x_3 ∧
                                True ∧
                                 CaP Try.prog 23 (Sh.el (El.one (Sc.int IntKind.i64))) [Value.pointer x_1.fst, Value.int IntKind.i64 x_3, Value.int IntKind.i64 x_4] w2 fun (x_5 : Int) (w2 : World) =>
                                  brP (x != x_5) (EnP w2 fun (w1 : World) => Post false w1)
                                   (∃ (I_1 : Nat → Int × Unit → World → Prop),
                                    (∃ (n : Nat), ∀ (w1 : World), Ext w2 w1 → I_1 n (-1, Unit.unit) w1) ∧
                                     ∀ (n_2 : Nat) (s_1 : Int × Unit) (w1 : World),
                                      I_1 n_2 s_1 w1 →
                                       brP (decide (s_1.fst ≤ n))
                                        (∃ (x : (Int × Int × Int × Int × Unit) × Bool × Unit),
                                         QCalls Try.prog 12 [Value.pointer s.fst, Value.int IntKind.i64 s_1.fst] w1
                                           (Value.tuple
                                            {
                                             toList :=
                                              [Value.agg { toList := [Value.int IntKind.i64 x.fst.fst, Value.int IntKind.i64 x.fst.snd.fst, Value.int IntKind.i64 x.fst.snd.snd.fst, Value.int IntKind.i64 x.fst.snd.snd.snd.fst] },
                                               Value.bool x.snd.fst] }) ∧
                                          AlP w1 { toList := [Value.int IntKind.i64 0, Value.int IntKind.i64 0, Value.int IntKind.i64 0, Value.int IntKind.i64 0] } 33 fun (b : Nat) (w2 : World) =>
                                           StP w2 (some { block := b, off := 0 }) [Value.int IntKind.i64 x.fst.fst, Value.int IntKind.i64 x.fst.snd.fst, Value.int IntKind.i64 x.fst.snd.snd.fst, Value.int IntKind.i64 x.fst.snd.snd.snd.fst]
                                            fun (w2 : World) =>
                                            LdP w2 (some (!!x.snd.fst == (decide (s_1.fst ≥ 0) && decide (s_1.fst < n)) && x.snd.fst)) (some { block := b, off := 0 })
                                             (El.agg [Sc.int IntKind.i64, Sc.int IntKind.i64, Sc.int IntKind.i64, Sc.int IntKind.i64]) fun (x_6 : Int × Int × Int × Int × Unit) =>
                                             ∃ (x_7 : Int × Int × Int × Int × Unit),
                                              ((!!x.snd.fst == (decide (s_1.fst ≥ 0) && decide (s_1.fst < n)) && x.snd.fst) = true →
                                                QCalls Try.prog 25 [Value.agg { toList := [Value.int IntKind.i64 x_6.fst, Value.int IntKind.i64 x_6.snd.fst, Value.int IntKind.i64 x_6.snd.snd.fst, Value.int IntKind.i64 x_6.snd.snd.snd.fst] }] w2
                                                 (Value.agg { toList := [Value.int IntKind.i64 x_7.fst, Value.int IntKind.i64 x_7.snd.fst, Value.int IntKind.i64 x_7.snd.snd.fst, Value.int IntKind.i64 x_7.snd.snd.snd.fst] })) ∧
                                               ((!!x.snd.fst == (decide (s_1.fst ≥ 0) && decide (s_1.fst < n)) && x.snd.fst) = true → x_1.fst.isSome = true) ∧
                                                ((!!x.snd.fst == (decide (s_1.fst ≥ 0) && decide (s_1.fst < n)) && x.snd.fst) = true → x_1.fst.isSome = true) ∧
                                                 LdP w2 (some (!!x.snd.fst == (decide (s_1.fst ≥ 0) && decide (s_1.fst < n)) && x.snd.fst)) (addP x_1.fst 0) (El.one Sc.slice) fun (x_8 : Option Addr × Nat × Nat) =>
                                                  ((!!x.snd.fst == (decide (s_1.fst ≥ 0) && decide (s_1.fst < n)) && x.snd.fst) = true → x_8.fst.isSome = true ∧ 0 ≤ s_1.fst ∧ s_1.fst < (↑x_8.snd.fst : Int)) ∧
                                                   LdP w2 (some (!!x.snd.fst == (decide (s_1.fst ≥ 0) && decide (s_1.fst < n)) && x.snd.fst)) (addP x_8.fst (Int.toNat s_1.fst * 4))
                                                    (El.agg [Sc.int IntKind.i64, Sc.int IntKind.i64, Sc.int IntKind.i64, Sc.int IntKind.i64]) fun (x_9 : Int × Int × Int × Int × Unit) =>
                                                    LdP w2
                                                     (some
                                                      (!(!x.snd.fst == (decide (s_1.fst ≥ 0) && decide (s_1.fst < n)) ||
                                                         x.snd.fst && !(x_7.fst == x_9.fst && (x_7.snd.fst == x_9.snd.fst && (x_7.snd.snd.fst == x_9.snd.snd.fst && (x_7.snd.snd.snd.fst == x_9.snd.snd.snd.fst && true))))) &&
                                                       !x.snd.fst))
                                                     (some { block := b, off := 0 }) (El.agg [Sc.int IntKind.i64, Sc.int IntKind.i64, Sc.int IntKind.i64, Sc.int IntKind.i64]) fun (x_10 : Int × Int × Int × Int × Unit) =>
                                                     brP
                                                      (!x.snd.fst == (decide (s_1.fst ≥ 0) && decide (s_1.fst < n)) ||
                                                        x.snd.fst && !(x_7.fst == x_9.fst && (x_7.snd.fst == x_9.snd.fst && (x_7.snd.snd.fst == x_9.snd.snd.fst && (x_7.snd.snd.snd.fst == x_9.snd.snd.snd.fst && true)))) ||
                                                       !x.snd.fst && !(x_10.fst == 0 && (x_10.snd.fst == 0 && (x_10.snd.snd.fst == 0 && (x_10.snd.snd.snd.fst == 0 && true)))))
                                                      (EnP w2 fun (w1 : World) => Post false w1) (∀ (w3 : World), Ext w2 w3 → ∃ (n' : Nat), n' < n_2 ∧ I_1 n' (addI IntKind.i64 s_1.fst 1, Unit.unit) w3))
                                        (true = true ∧
                                         LdP w1 none (addP (some { block := b, off := 0 }) 2) (El.one (Sc.int IntKind.i64)) fun (x : Int) =>
                                          ∃ (x_6 : Int),
                                           QCalls Try.prog 10 [Value.pointer s.fst, Value.int IntKind.i64 x] w1 (Value.int IntKind.i64 x_6) ∧
                                            true = true ∧
                                             LdP w1 none (addP (some { block := b, off := 0 }) 2) (El.one (Sc.int IntKind.i64)) fun (x : Int) =>
                                              ∃ (x_7 : Int),
                                               QCalls Try.prog 26 [Value.pointer x_1.fst, Value.int IntKind.i64 x] w1 (Value.int IntKind.i64 x_7) ∧
                                                ((!x_6 != x_7) = true → true = true) ∧
                                                 LdP w1 (some !x_6 != x_7) (addP (some { block := b, off := 0 }) 3) (El.one (Sc.int IntKind.i64)) fun (x : Int) =>
                                                  ((!x_6 != x_7) = true → true = true) ∧
                                                   LdP w1 (some !x_6 != x_7) (addP (some { block := b, off := 0 }) 3) (El.one (Sc.int IntKind.i64)) fun (x_8 : Int) =>
                                                    brP (x_6 != x_7)
                                                     (((!x_6 != x_7) = true → rdAt w1 (addP (some { block := b, off := 0 }) 3) (El.one (Sc.int IntKind.i64)) x_8) ∧
                                                      True ∧
                                                       ∃ (x : Int),
                                                        (false = true → QCalls Try.prog 18 [Value.pointer s.fst] w1 (Value.int IntKind.i64 x)) ∧
                                                         (false = true → x_1.fst.isSome = true) ∧
                                                          (false = true → x_1.fst.isSome = true) ∧ LdP w1 (some false) (addP x_1.fst 0) (El.one Sc.slice) fun (x : Option Addr × Nat × Nat) => EnP w1 fun (w1 : World) => Post false w1)
                                                     (CaP Try.prog 16 (Sh.el (El.one Sc.slice)) [Value.pointer s.fst, Value.int IntKind.i64 x] w1 fun (x : Option Addr × Nat × Nat) (w2 : World) =>
                                                      ((!x_6 != x_7) = true → rdAt w2 (addP (some { block := b, off := 0 }) 3) (El.one (Sc.int IntKind.i64)) x_8) ∧
                                                       True ∧
                                                        CaP Try.prog 28 (Sh.el (El.one Sc.slice)) [Value.pointer x_1.fst, Value.int IntKind.i64 x_8] w2 fun (x_9 : Option Addr × Nat × Nat) (w2 : World) =>
                                                         CaP Try.prog 27 (Sh.el (El.one Sc.bool)) [Value.slice x.fst x.snd.fst x.snd.snd, Value.slice x_9.fst x_9.snd.fst x_9.snd.snd] w2 fun (x : Bool) (w2 : World) =>
                                                          ∃ (x_10 : Int),
                                                           ((!!x) = true → QCalls Try.prog 18 [Value.pointer s.fst] w2 (Value.int IntKind.i64 x_10)) ∧
                                                            ((!!x) = true → x_1.fst.isSome = true) ∧
                                                             ((!!x) = true → x_1.fst.isSome = true) ∧
                                                              LdP w2 (some !!x) (addP x_1.fst 0) (El.one Sc.slice) fun (x_11 : Option Addr × Nat × Nat) =>
                                                               brP (!x || x_10 != (↑x_11.snd.fst : Int)) (EnP w2 fun (w1 : World) => Post false w1)
                                                                (∀ (w3 : World), Ext w2 w3 → ∃ (n' : Nat), n' < n_1 ∧ I n' (s.fst, addI IntKind.i64 s.snd.fst 1, Unit.unit) w3)))))
                    (CaP Try.prog 24 (Sh.el (El.one Sc.ptr)) [Value.pointer s.fst] w2 fun (x : Option Addr) (w2 : World) =>
                     CaP Try.prog 11 (Sh.tup [El.one (Sc.int IntKind.i64), El.one (Sc.int IntKind.i64)]) [Value.pointer s.fst, Value.int IntKind.i64 4, Value.int IntKind.i64 2] w2 fun (x_2 : Int × Int × Unit) (w2 : World) =>
                      true = true ∧
                       LdP w2 none (addP (some { block := b, off := 0 }) 1) (El.one (Sc.int IntKind.i64)) fun (x_3 : Int) =>
                        CaP Try.prog 13 (Sh.el (El.one (Sc.int IntKind.i64))) [Value.pointer s.fst, Value.int IntKind.i64 x_3] w2 fun (x_4 : Int) (w2 : World) =>
                         brP x.isNone (EnP w2 fun (w1 : World) => Post false w1)
                          (∃ (I_1 : Nat → Int × Unit → World → Prop),
                           (∃ (n : Nat), ∀ (w1 : World), Ext w2 w1 → I_1 n (-1, Unit.unit) w1) ∧
                            ∀ (n_2 : Nat) (s_1 : Int × Unit) (w1 : World),
                             I_1 n_2 s_1 w1 →
                              brP (decide (s_1.fst ≤ n))
                               (∃ (x_5 : (Int × Int × Int × Int × Unit) × Bool × Unit),
                                QCalls Try.prog 12 [Value.pointer x, Value.int IntKind.i64 s_1.fst] w1
                                  (Value.tuple
                                   {
                                    toList :=
                                     [Value.agg { toList := [Value.int IntKind.i64 x_5.fst.fst, Value.int IntKind.i64 x_5.fst.snd.fst, Value.int IntKind.i64 x_5.fst.snd.snd.fst, Value.int IntKind.i64 x_5.fst.snd.snd.snd.fst] },
                                      Value.bool x_5.snd.fst] }) ∧
                                 AlP w1 { toList := [Value.int IntKind.i64 0, Value.int IntKind.i64 0, Value.int IntKind.i64 0, Value.int IntKind.i64 0] } 33 fun (b : Nat) (w2 : World) =>
                                  StP w2 (some { block := b, off := 0 }) [Value.int IntKind.i64 x_5.fst.fst, Value.int IntKind.i64 x_5.fst.snd.fst, Value.int IntKind.i64 x_5.fst.snd.snd.fst, Value.int IntKind.i64 x_5.fst.snd.snd.snd.fst]
                                   fun (w2 : World) =>
                                   LdP w2 (some (!!x_5.snd.fst == (decide (s_1.fst ≥ 0) && decide (s_1.fst < n)) && x_5.snd.fst)) (some { block := b, off := 0 }) (El.agg [Sc.int IntKind.i64, Sc.int IntKind.i64, Sc.int IntKind.i64, Sc.int IntKind.i64])
                                    fun (x : Int × Int × Int × Int × Unit) =>
                                    ∃ (x_6 : Int × Int × Int × Int × Unit),
                                     ((!!x_5.snd.fst == (decide (s_1.fst ≥ 0) && decide (s_1.fst < n)) && x_5.snd.fst) = true →
                                       QCalls Try.prog 25 [Value.agg { toList := [Value.int IntKind.i64 x.fst, Value.int IntKind.i64 x.snd.fst, Value.int IntKind.i64 x.snd.snd.fst, Value.int IntKind.i64 x.snd.snd.snd.fst] }] w2
                                        (Value.agg { toList := [Value.int IntKind.i64 x_6.fst, Value.int IntKind.i64 x_6.snd.fst, Value.int IntKind.i64 x_6.snd.snd.fst, Value.int IntKind.i64 x_6.snd.snd.snd.fst] })) ∧
                                      ((!!x_5.snd.fst == (decide (s_1.fst ≥ 0) && decide (s_1.fst < n)) && x_5.snd.fst) = true → x_1.fst.isSome = true) ∧
                                       ((!!x_5.snd.fst == (decide (s_1.fst ≥ 0) && decide (s_1.fst < n)) && x_5.snd.fst) = true → x_1.fst.isSome = true) ∧
                                        LdP w2 (some (!!x_5.snd.fst == (decide (s_1.fst ≥ 0) && decide (s_1.fst < n)) && x_5.snd.fst)) (addP x_1.fst 0) (El.one Sc.slice) fun (x : Option Addr × Nat × Nat) =>
                                         ((!!x_5.snd.fst == (decide (s_1.fst ≥ 0) && decide (s_1.fst < n)) && x_5.snd.fst) = true → x.fst.isSome = true ∧ 0 ≤ s_1.fst ∧ s_1.fst < (↑x.snd.fst : Int)) ∧
                                          LdP w2 (some (!!x_5.snd.fst == (decide (s_1.fst ≥ 0) && decide (s_1.fst < n)) && x_5.snd.fst)) (addP x.fst (Int.toNat s_1.fst * 4))
                                           (El.agg [Sc.int IntKind.i64, Sc.int IntKind.i64, Sc.int IntKind.i64, Sc.int IntKind.i64]) fun (x : Int × Int × Int × Int × Unit) =>
                                           LdP w2
                                            (some
                                             (!(!x_5.snd.fst == (decide (s_1.fst ≥ 0) && decide (s_1.fst < n)) ||
                                                x_5.snd.fst && !(x_6.fst == x.fst && (x_6.snd.fst == x.snd.fst && (x_6.snd.snd.fst == x.snd.snd.fst && (x_6.snd.snd.snd.fst == x.snd.snd.snd.fst && true))))) &&
                                              !x_5.snd.fst))
                                            (some { block := b, off := 0 }) (El.agg [Sc.int IntKind.i64, Sc.int IntKind.i64, Sc.int IntKind.i64, Sc.int IntKind.i64]) fun (x_7 : Int × Int × Int × Int × Unit) =>
                                            brP
                                             (!x_5.snd.fst == (decide (s_1.fst ≥ 0) && decide (s_1.fst < n)) ||
                                               x_5.snd.fst && !(x_6.fst == x.fst && (x_6.snd.fst == x.snd.fst && (x_6.snd.snd.fst == x.snd.snd.fst && (x_6.snd.snd.snd.fst == x.snd.snd.snd.fst && true)))) ||
                                              !x_5.snd.fst && !(x_7.fst == 0 && (x_7.snd.fst == 0 && (x_7.snd.snd.fst == 0 && (x_7.snd.snd.snd.fst == 0 && true)))))
                                             (EnP w2 fun (w1 : World) => Post false w1) (∀ (w3 : World), Ext w2 w3 → ∃ (n' : Nat), n' < n_2 ∧ I_1 n' (addI IntKind.i64 s_1.fst 1, Unit.unit) w3))
                               (true = true ∧
                                LdP w1 none (addP (some { block := b, off := 0 }) 2) (El.one (Sc.int IntKind.i64)) fun (x_5 : Int) =>
                                 ∃ (x_6 : Int),
                                  QCalls Try.prog 10 [Value.pointer x, Value.int IntKind.i64 x_5] w1 (Value.int IntKind.i64 x_6) ∧
                                   true = true ∧
                                    LdP w1 none (addP (some { block := b, off := 0 }) 2) (El.one (Sc.int IntKind.i64)) fun (x_7 : Int) =>
                                     ∃ (x_8 : Int),
                                      QCalls Try.prog 26 [Value.pointer x_1.fst, Value.int IntKind.i64 x_7] w1 (Value.int IntKind.i64 x_8) ∧
                                       ((!x_6 != x_8) = true → true = true) ∧
                                        LdP w1 (some !x_6 != x_8) (addP (some { block := b, off := 0 }) 3) (El.one (Sc.int IntKind.i64)) fun (x_9 : Int) =>
                                         ((!x_6 != x_8) = true → true = true) ∧
                                          LdP w1 (some !x_6 != x_8) (addP (some { block := b, off := 0 }) 3) (El.one (Sc.int IntKind.i64)) fun (x_10 : Int) =>
                                           brP (x_6 != x_8)
                                            (((!x_6 != x_8) = true → rdAt w1 (addP (some { block := b, off := 0 }) 3) (El.one (Sc.int IntKind.i64)) x_10) ∧
                                             True ∧
                                              ∃ (x_11 : Int),
                                               (false = true → QCalls Try.prog 18 [Value.pointer x] w1 (Value.int IntKind.i64 x_11)) ∧
                                                (false = true → x_1.fst.isSome = true) ∧
                                                 (false = true → x_1.fst.isSome = true) ∧ LdP w1 (some false) (addP x_1.fst 0) (El.one Sc.slice) fun (x : Option Addr × Nat × Nat) => EnP w1 fun (w1 : World) => Post false w1)
                                            (CaP Try.prog 16 (Sh.el (El.one Sc.slice)) [Value.pointer x, Value.int IntKind.i64 x_9] w1 fun (x_11 : Option Addr × Nat × Nat) (w2 : World) =>
                                             ((!x_6 != x_8) = true → rdAt w2 (addP (some { block := b, off := 0 }) 3) (El.one (Sc.int IntKind.i64)) x_10) ∧
                                              True ∧
                                               CaP Try.prog 28 (Sh.el (El.one Sc.slice)) [Value.pointer x_1.fst, Value.int IntKind.i64 x_10] w2 fun (x_12 : Option Addr × Nat × Nat) (w2 : World) =>
                                                CaP Try.prog 27 (Sh.el (El.one Sc.bool)) [Value.slice x_11.fst x_11.snd.fst x_11.snd.snd, Value.slice x_12.fst x_12.snd.fst x_12.snd.snd] w2 fun (x_13 : Bool) (w2 : World) =>
                                                 ∃ (x_14 : Int),
                                                  ((!!x_13) = true → QCalls Try.prog 18 [Value.pointer x] w2 (Value.int IntKind.i64 x_14)) ∧
                                                   ((!!x_13) = true → x_1.fst.isSome = true) ∧
                                                    ((!!x_13) = true → x_1.fst.isSome = true) ∧
                                                     LdP w2 (some !!x_13) (addP x_1.fst 0) (El.one Sc.slice) fun (x_15 : Option Addr × Nat × Nat) =>
                                                      brP (!x_13 || x_14 != (↑x_15.snd.fst : Int)) (EnP w2 fun (w1 : World) => Post false w1)
                                                       (∀ (w3 : World), Ext w2 w3 → ∃ (n' : Nat), n' < n_1 ∧ I n' (x, addI IntKind.i64 s.snd.fst 1, Unit.unit) w3)))))))))
          (CaP Try.prog 17 (Sh.el (El.one Sc.bool)) [] w1 fun (x : Bool) (w2 : World) => EnP w2 fun (w1 : World) => Post x w1)))) := by kernel_rfl
end Go.Proofs.Ytogndkmclingeaa
