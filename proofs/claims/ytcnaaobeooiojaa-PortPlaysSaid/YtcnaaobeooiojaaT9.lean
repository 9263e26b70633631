import Derived.Test.YtcnaaobeooiojaaT8
namespace Go.Proofs.Ytcnaaobeooiojaa
set_option linter.unusedSimpArgs false
set_option linter.unusedVariables false
open Go.RX
noncomputable def R2 : Cfg Try.prog := { R1 with quiet := [40, 38, 34, 42, 39, 30, 28, 31, 37, 29, 32] }
theorem tknown_vc (w : World) (Post : Bool → World → Prop) : (rxFn R2 (fun _ => []) 33 [] w Post) = (
 CaP Try.prog 9 (Sh.tup [El.one Sc.ptr, El.one (Sc.int IntKind.i64)]) [Value.int IntKind.i64 2] w fun (x : Option Addr × Int × Unit) (w2 : World) =>
  CaP Try.prog 9 (Sh.tup [El.one Sc.ptr, El.one (Sc.int IntKind.i64)]) [Value.int IntKind.i64 33] w2 fun (x_1 : Option Addr × Int × Unit) (w2 : World) =>
   brP (x.snd.fst != 0 || x.fst.isNone) (EnP w2 fun (w1 : World) => Post false w1)
    (CaP Try.prog 11 (Sh.tup [El.one (Sc.int IntKind.i64), El.one (Sc.int IntKind.i64)]) [Value.pointer x.fst, Value.int IntKind.i64 1, Value.int IntKind.i64 2] w2 fun (x_2 : Int × Int × Unit) (w2 : World) =>
     CaP Try.prog 11 (Sh.tup [El.one (Sc.int IntKind.i64), El.one (Sc.int IntKind.i64)]) [Value.pointer x.fst, Value.int IntKind.i64 1, Value.int IntKind.i64 3] w2 fun (x_3 : Int × Int × Unit) (w2 : World) =>
      CaP Try.prog 11 (Sh.tup [El.one (Sc.int IntKind.i64), El.one (Sc.int IntKind.i64)]) [Value.pointer x.fst, Value.int IntKind.i64 1, Value.int IntKind.i64 2] w2 fun (x_4 : Int × Int × Unit) (w2 : World) =>
       CaP Try.prog 13 (Sh.tup [El.one (Sc.int IntKind.i64), El.one (Sc.int IntKind.i64)]) [Value.pointer x.fst, Value.int IntKind.i64 2, Value.int IntKind.i64 1, Value.int IntKind.i64 1] w2 fun (x_5 : Int × Int × Unit) (w2 : World) =>
        CaP Try.prog 13 (Sh.tup [El.one (Sc.int IntKind.i64), El.one (Sc.int IntKind.i64)]) [Value.pointer x.fst, Value.int IntKind.i64 2, Value.int IntKind.i64 1, Value.int IntKind.i64 0] w2 fun (x_6 : Int × Int × Unit) (w2 : World) =>
         CaP Try.prog 13 (Sh.tup [El.one (Sc.int IntKind.i64), El.one (Sc.int IntKind.i64)]) [Value.pointer x.fst, Value.int IntKind.i64 2, Value.int IntKind.i64 1, Value.int IntKind.i64 0] w2 fun (x_7 : Int × Int × Unit) (w2 : World) =>
          CaP Try.prog 15 (Sh.el (El.one (Sc.int IntKind.i64))) [Value.pointer x.fst, Value.int IntKind.i64 2, Value.int IntKind.i64 0] w2 fun (x_8 : Int) (w2 : World) =>
           CaP Try.prog 15 (Sh.el (El.one (Sc.int IntKind.i64))) [Value.pointer x.fst, Value.int IntKind.i64 1, Value.int IntKind.i64 1] w2 fun (x_9 : Int) (w2 : World) =>
            CaP Try.prog 17 (Sh.el (El.one (Sc.int IntKind.i64))) [Value.pointer x.fst, Value.int IntKind.i64 1, Value.int IntKind.i64 0, Value.bool true] w2 fun (x_10 : Int) (w2 : World) =>
             CaP Try.prog 19 (Sh.tup [El.one (Sc.int IntKind.i64), El.one Sc.bool]) [Value.pointer x.fst, Value.int IntKind.i64 1] w2 fun (x_11 : Int × Bool × Unit) (w2 : World) =>
              CaP Try.prog 17 (Sh.el (El.one (Sc.int IntKind.i64))) [Value.pointer x.fst, Value.int IntKind.i64 1, Value.int IntKind.i64 0, Value.bool false] w2 fun (x_12 : Int) (w2 : World) =>
               CaP Try.prog 19 (Sh.tup [El.one (Sc.int IntKind.i64), El.one Sc.bool]) [Value.pointer x.fst, Value.int IntKind.i64 1] w2 fun (x_13 : Int × Bool × Unit) (w2 : World) =>
                CaP Try.prog 21 (Sh.el (El.one (Sc.int IntKind.i64))) [Value.pointer x.fst, Value.int IntKind.i64 2, Value.int IntKind.i64 0] w2 fun (x_14 : Int) (w2 : World) =>
                 ∃ (x_15 : (Int × Int × Int × Bool × Bool × Unit) × Bool × Unit),
                  QCalls Try.prog 30 [Value.pointer x.fst, Value.int IntKind.i64 1, Value.int IntKind.i64 0] w2
                    (Value.tuple
                     {
                      toList :=
                       [Value.agg { toList := [Value.int IntKind.i64 x_15.fst.fst, Value.int IntKind.i64 x_15.fst.snd.fst, Value.int IntKind.i64 x_15.fst.snd.snd.fst, Value.bool x_15.fst.snd.snd.snd.fst, Value.bool x_15.fst.snd.snd.snd.snd.fst] },
                        Value.bool x_15.snd.fst] }) ∧
                   AlP w2 { toList := [Value.int IntKind.i64 0, Value.int IntKind.i64 0, Value.int IntKind.i64 0, Value.bool false, Value.bool false] } 45 fun (b : Nat) (w2 : World) =>
                    StP w2 (some { block := b, off := 0 })
                     [Value.int IntKind.i64 x_15.fst.fst, Value.int IntKind.i64 x_15.fst.snd.fst, Value.int IntKind.i64 x_15.fst.snd.snd.fst, Value.bool x_15.fst.snd.snd.snd.fst, Value.bool x_15.fst.snd.snd.snd.snd.fst] fun (w2 : World) =>
                     LdP w2
                      (some
                       (x_1.snd.fst == 1 && x_2.fst == 0 && x_2.snd.fst == 0 && x_3.fst == 1 && x_3.snd.fst == 0 && x_4.snd.fst == 3 && x_5.snd.fst == 7 && x_6.fst == 0 && x_6.snd.fst == 0 && x_7.snd.fst == 6 && x_8 == 0 && x_9 == 6 && x_10 == 0 &&
                            !x_11.snd.fst &&
                           x_12 == 0 &&
                          x_13.fst == 0 &&
                         x_13.snd.fst &&
                        x_14 == 0))
                      (some { block := b, off := 0 }) (El.agg [Sc.int IntKind.i64, Sc.int IntKind.i64, Sc.int IntKind.i64, Sc.bool, Sc.bool]) fun (x_16 : Int × Int × Int × Bool × Bool × Unit) =>
                      ∃ (x_17 : Bool),
                       ((x_1.snd.fst == 1 && x_2.fst == 0 && x_2.snd.fst == 0 && x_3.fst == 1 && x_3.snd.fst == 0 && x_4.snd.fst == 3 && x_5.snd.fst == 7 && x_6.fst == 0 && x_6.snd.fst == 0 && x_7.snd.fst == 6 && x_8 == 0 && x_9 == 6 && x_10 == 0 &&
                                 !x_11.snd.fst &&
                                x_12 == 0 &&
                               x_13.fst == 0 &&
                              x_13.snd.fst &&
                             x_14 == 0 &&
                            (x_16.fst == 1 && (x_16.snd.fst == 2 && (x_16.snd.snd.fst == 0 && (x_16.snd.snd.snd.fst == false && (x_16.snd.snd.snd.snd.fst == false && true))))) &&
                           x_15.snd.fst) =
                          true →
                         QCalls Try.prog 28 [Value.pointer x.fst, Value.int IntKind.i64 2, Value.int IntKind.i64 3] w2 (Value.bool x_17)) ∧
                        ∃ (x_18 : Bool),
                         ((x_1.snd.fst == 1 && x_2.fst == 0 && x_2.snd.fst == 0 && x_3.fst == 1 && x_3.snd.fst == 0 && x_4.snd.fst == 3 && x_5.snd.fst == 7 && x_6.fst == 0 && x_6.snd.fst == 0 && x_7.snd.fst == 6 && x_8 == 0 && x_9 == 6 && x_10 == 0 &&
                                    !x_11.snd.fst &&
                                   x_12 == 0 &&
                                  x_13.fst == 0 &&
                                 x_13.snd.fst &&
                                x_14 == 0 &&
                               (x_16.fst == 1 && (x_16.snd.fst == 2 && (x_16.snd.snd.fst == 0 && (x_16.snd.snd.snd.fst == false && (x_16.snd.snd.snd.snd.fst == false && true))))) &&
                              x_15.snd.fst &&
                             x_17) =
                            true →
                           QCalls Try.prog 28 [Value.pointer x.fst, Value.int IntKind.i64 2, Value.int IntKind.i64 4] w2 (Value.bool x_18)) ∧
                          brP
                           (x_1.snd.fst == 1 && x_2.fst == 0 && x_2.snd.fst == 0 && x_3.fst == 1 && x_3.snd.fst == 0 && x_4.snd.fst == 3 && x_5.snd.fst == 7 && x_6.fst == 0 && x_6.snd.fst == 0 && x_7.snd.fst == 6 && x_8 == 0 && x_9 == 6 &&
                                     x_10 == 0 &&
                                    !x_11.snd.fst &&
                                   x_12 == 0 &&
                                  x_13.fst == 0 &&
                                 x_13.snd.fst &&
                                x_14 == 0 &&
                               (x_16.fst == 1 && (x_16.snd.fst == 2 && (x_16.snd.snd.fst == 0 && (x_16.snd.snd.snd.fst == false && (x_16.snd.snd.snd.snd.fst == false && true))))) &&
                              x_15.snd.fst &&
                             x_17 &&
                            !x_18)
                           (CaP Try.prog 23 (Sh.el (El.one (Sc.int IntKind.i64))) [Value.pointer x.fst, Value.int IntKind.i64 2] w2 fun (x_19 : Int) (w2 : World) =>
                            ∃ (x_20 : Bool),
                             ((x_19 == 1) = true → QCalls Try.prog 28 [Value.pointer x.fst, Value.int IntKind.i64 1, Value.int IntKind.i64 2] w2 (Value.bool x_20)) ∧
                              brP (x_19 == 1 && !x_20)
                               (CaP Try.prog 26 (Sh.el (El.one Sc.slice)) [Value.pointer x.fst, Value.int IntKind.i64 1] w2 fun (x : Option Addr × Nat × Nat) (w2 : World) => EnP w2 fun (w1 : World) => Post ((↑x.snd.fst : Int) == 0) w1)
                               (EnP w2 fun (w1 : World) => Post false w1))
                           (∃ (x_19 : Bool), (false = true → QCalls Try.prog 28 [Value.pointer x.fst, Value.int IntKind.i64 1, Value.int IntKind.i64 2] w2 (Value.bool x_19)) ∧ EnP w2 fun (w1 : World) => Post false w1))) := by kernel_rfl
theorem tnil_vc (n : Int) (w : World) (Post : Bool → World → Prop) : (rxFn R2 (fun _ => []) 7 [.int .i64 n] w Post) = (
 AlP w
  {
   toList :=
    [Value.int IntKind.i64 0, Value.int IntKind.i64 0, Value.int IntKind.i64 0, Value.bool false, Value.bool false, Value.int IntKind.i64 0, Value.int IntKind.i64 0, Value.int IntKind.i64 0, Value.bool false, Value.bool false, Value.int IntKind.i64 0,
     Value.int IntKind.i64 0, Value.int IntKind.i64 0, Value.bool false, Value.bool false, Value.int IntKind.i64 0, Value.int IntKind.i64 0, Value.int IntKind.i64 0, Value.bool false, Value.bool false, Value.int IntKind.i64 0, Value.int IntKind.i64 0,
     Value.int IntKind.i64 0, Value.bool false, Value.bool false, Value.int IntKind.i64 0, Value.int IntKind.i64 0, Value.int IntKind.i64 0, Value.bool false, Value.bool false, Value.int IntKind.i64 0, Value.int IntKind.i64 0, Value.int IntKind.i64 0,
     Value.bool false, Value.bool false, Value.int IntKind.i64 0, Value.int IntKind.i64 0, Value.int IntKind.i64 0, Value.bool false, Value.bool false, Value.int IntKind.i64 0, Value.int IntKind.i64 0, Value.int IntKind.i64 0, Value.bool false,
     Value.bool false, Value.int IntKind.i64 0, Value.int IntKind.i64 0, Value.int IntKind.i64 0, Value.bool false, Value.bool false, Value.int IntKind.i64 0, Value.int IntKind.i64 0, Value.int IntKind.i64 0, Value.bool false, Value.bool false,
     Value.int IntKind.i64 0, Value.int IntKind.i64 0, Value.int IntKind.i64 0, Value.bool false, Value.bool false, Value.int IntKind.i64 0, Value.int IntKind.i64 0, Value.int IntKind.i64 0, Value.bool false, Value.bool false, Value.int IntKind.i64 0,
     Value.int IntKind.i64 0, Value.int IntKind.i64 0, Value.bool false, Value.bool false, Value.int IntKind.i64 0, Value.int IntKind.i64 0, Value.int IntKind.i64 0, Value.bool false, Value.bool false, Value.int IntKind.i64 0, Value.int IntKind.i64 0,
     Value.int IntKind.i64 0, Value.bool false, Value.bool false, Value.int IntKind.i64 0, Value.int IntKind.i64 0, Value.int IntKind.i64 0, Value.bool false, Value.bool false, Value.int IntKind.i64 0, Value.int IntKind.i64 0, Value.int IntKind.i64 0,
     Value.bool false, Value.bool false, Value.int IntKind.i64 0, Value.int IntKind.i64 0, Value.int IntKind.i64 0, Value.bool false, Value.bool false, Value.int IntKind.i64 0, Value.int IntKind.i64 0, Value.int IntKind.i64 0, Value.bool false,
     Value.bool false, Value.int IntKind.i64 0, Value.int IntKind.i64 0, Value.int IntKind.i64 0, Value.bool false, Value.bool false, Value.int IntKind.i64 0, Value.int IntKind.i64 0, Value.int IntKind.i64 0, Value.bool false, Value.bool false,
     Value.int IntKind.i64 0, Value.int IntKind.i64 0, Value.int IntKind.i64 0, Value.bool false, Value.bool false, Value.int IntKind.i64 0, Value.int IntKind.i64 0, Value.int IntKind.i64 0, Value.bool false, Value.bool false, Value.int IntKind.i64 0,
     Value.int IntKind.i64 0, Value.int IntKind.i64 0, Value.bool false, Value.bool false, Value.int IntKind.i64 0, Value.int IntKind.i64 0, Value.int IntKind.i64 0, Value.bool false, Value.bool false, Value.int IntKind.i64 0, Value.int IntKind.i64 0,
     Value.int IntKind.i64 0, Value.bool false, Value.bool false, Value.int IntKind.i64 0, Value.int IntKind.i64 0, Value.int IntKind.i64 0, Value.bool false, Value.bool false, Value.int IntKind.i64 0, Value.int IntKind.i64 0, Value.int IntKind.i64 0,
     Value.bool false, Value.bool false, Value.int IntKind.i64 0, Value.int IntKind.i64 0, Value.int IntKind.i64 0, Value.bool false, Value.bool false, Value.int IntKind.i64 0, Value.int IntKind.i64 0, Value.int IntKind.i64 0, Value.bool false,
     Value.bool false, Value.int IntKind.i64 0, Value.int IntKind.i64 0, Value.int IntKind.i64 0, Value.bool false, Value.bool false, Value.int IntKind.i64 0, Value.int IntKind.i64 0, Value.int IntKind.i64 0, Value.bool false, Value.bool false,
     Value.int IntKind.i64 0, Value.int IntKind.i64 0, Value.int IntKind.i64 0, Value.bool false, Value.bool false, Value.int IntKind.i64 0, Value.int IntKind.i64 0, Value.int IntKind.i64 0, Value.bool false, Value.bool false, Value.int IntKind.i64 0,
     Value.int IntKind.i64 0, Value.int IntKind.i64 0, Value.bool false, Value.bool false, Value.int IntKind.i64 0, Value.int IntKind.i64 0, Value.int IntKind.i64 0, Value.bool false, Value.bool false, Value.int IntKind.i64 0, Value.int IntKind.i64 0,
     Value.int IntKind.i64 0, Value.bool false, Value.bool false, Value.int IntKind.i64 0, Value.int IntKind.i64 0, Value.int IntKind.i64 0, Value.bool false, Value.bool false, Value.int IntKind.i64 0, Value.int IntKind.i64 0, Value.int IntKind.i64 0,
     Value.bool false, Value.bool false, Value.int IntKind.i64 0, Value.int IntKind.i64 0, Value.int IntKind.i64 0, Value.bool false, Value.bool false, Value.int IntKind.i64 0, Value.int IntKind.i64 0, Value.int IntKind.i64 0, Value.bool false,
     Value.bool false, Value.int IntKind.i64 0, Value.int IntKind.i64 0, Value.int IntKind.i64 0, Value.bool false, Value.bool false, Value.int IntKind.i64 0, Value.int IntKind.i64 0, Value.int IntKind.i64 0, Value.bool false, Value.bool false,
     Value.int IntKind.i64 0, Value.int IntKind.i64 0, Value.int IntKind.i64 0, Value.bool false, Value.bool false, Value.int IntKind.i64 0, Value.int IntKind.i64 0, Value.int IntKind.i64 0, Value.bool false, Value.bool false, Value.int IntKind.i64 0,
     Value.int IntKind.i64 0, Value.int IntKind.i64 0, Value.bool false, Value.bool false, Value.int IntKind.i64 0, Value.int IntKind.i64 0, Value.int IntKind.i64 0, Value.bool false, Value.bool false, Value.int IntKind.i64 0, Value.int IntKind.i64 0,
     Value.int IntKind.i64 0, Value.bool false, Value.bool false, Value.int IntKind.i64 0, Value.int IntKind.i64 0, Value.int IntKind.i64 0, Value.bool false, Value.bool false, Value.int IntKind.i64 0, Value.int IntKind.i64 0, Value.int IntKind.i64 0,
     Value.bool false, Value.bool false, Value.int IntKind.i64 0, Value.int IntKind.i64 0, Value.int IntKind.i64 0, Value.bool false, Value.bool false, Value.int IntKind.i64 0, Value.int IntKind.i64 0, Value.int IntKind.i64 0, Value.bool false,
     Value.bool false, Value.int IntKind.i64 0, Value.int IntKind.i64 0, Value.int IntKind.i64 0, Value.bool false, Value.bool false, Value.int IntKind.i64 0, Value.int IntKind.i64 0, Value.int IntKind.i64 0, Value.bool false, Value.bool false,
     Value.int IntKind.i64 0, Value.int IntKind.i64 0, Value.int IntKind.i64 0, Value.bool false, Value.bool false, Value.int IntKind.i64 0, Value.int IntKind.i64 0, Value.int IntKind.i64 0, Value.bool false, Value.bool false, Value.int IntKind.i64 0,
     Value.int IntKind.i64 0, Value.int IntKind.i64 0, Value.bool false, Value.bool false, Value.int IntKind.i64 0, Value.int IntKind.i64 0, Value.int IntKind.i64 0, Value.bool false, Value.bool false, Value.int IntKind.i64 0, Value.int IntKind.i64 0,
     Value.int IntKind.i64 0, Value.bool false, Value.bool false, Value.int IntKind.i64 0, Value.int IntKind.i64 0, Value.int IntKind.i64 0, Value.bool false, Value.bool false, Value.int IntKind.i64 0, Value.int IntKind.i64 0, Value.int IntKind.i64 0,
     Value.bool false, Value.bool false, Value.int IntKind.i64 0, Value.int IntKind.i64 0, Value.int IntKind.i64 0, Value.bool false, Value.bool false, Value.int IntKind.i64 0, Value.int IntKind.i64 0, Value.int IntKind.i64 0, Value.bool false,
     Value.bool false, Value.int IntKind.i64 0, Value.int IntKind.i64 0, Value.int IntKind.i64 0, Value.bool false, Value.bool false, Value.int IntKind.i64 0, Value.int IntKind.i64 0, Value.int IntKind.i64 0, Value.bool false, Value.bool false,
     Value.int IntKind.i64 0, Value.int IntKind.i64 0, Value.int IntKind.i64 0, Value.bool false, Value.bool false, Value.int IntKind.i64 0, Value.int IntKind.i64 0, Value.int IntKind.i64 0, Value.bool false, Value.bool false, Value.int IntKind.i64 0,
     Value.int IntKind.i64 0, Value.int IntKind.i64 0, Value.bool false, Value.bool false, Value.int IntKind.i64 0, Value.int IntKind.i64 0, Value.int IntKind.i64 0, Value.bool false, Value.bool false, Value.int IntKind.i64 0, Value.int IntKind.i64 0,
     Value.int IntKind.i64 0, Value.bool false, Value.bool false, Value.int IntKind.i64 0, Value.int IntKind.i64 0, Value.int IntKind.i64 0, Value.bool false, Value.bool false, Value.int IntKind.i64 0, Value.int IntKind.i64 0, Value.int IntKind.i64 0,
     Value.bool false, Value.bool false, Value.int IntKind.i64 0, Value.int IntKind.i64 0, Value.int IntKind.i64 0, Value.bool false, Value.bool false, Value.int IntKind.i64 0, Value.int IntKind.i64 0, Value.int IntKind.i64 0, Value.bool false,
     Value.bool false, Value.int IntKind.i64 0, Value.int IntKind.i64 0, Value.int IntKind.i64 0, Value.bool false, Value.bool false, Value.int IntKind.i64 0, Value.int IntKind.i64 0, Value.int IntKind.i64 0, Value.bool false, Value.bool false,
     Value.int IntKind.i64 0, Value.int IntKind.i64 0, Value.int IntKind.i64 0, Value.bool false, Value.bool false, Value.int IntKind.i64 0, Value.int IntKind.i64 0, Value.int IntKind.i64 0, Value.bool false, Value.bool false, Value.int IntKind.i64 0,
     Value.int IntKind.i64 0, Value.int IntKind.i64 0, Value.bool false, Value.bool false, Value.int IntKind.i64 0, Value.int IntKind.i64 0, Value.int IntKind.i64 0, Value.bool false, Value.bool false, Value.int IntKind.i64 0, Value.int IntKind.i64 0,
     Value.int IntKind.i64 0, Value.bool false, Value.bool false, Value.int IntKind.i64 0, Value.int IntKind.i64 0, Value.int IntKind.i64 0, Value.bool false, Value.bool false, Value.int IntKind.i64 0, Value.int IntKind.i64 0, Value.int IntKind.i64 0,
     Value.bool false, Value.bool false, Value.int IntKind.i64 0, Value.int IntKind.i64 0, Value.int IntKind.i64 0, Value.bool false, Value.bool false, Value.int IntKind.i64 0, Value.int IntKind.i64 0, Value.int IntKind.i64 0, Value.bool false,
     Value.bool false, Value.int IntKind.i64 0, Value.int IntKind.i64 0, Value.int IntKind.i64 0, Value.bool false, Value.bool false, Value.int IntKind.i64 0, Value.int IntKind.i64 0, Value.int IntKind.i64 0, Value.bool false, Value.bool false,
     Value.int IntKind.i64 0, Value.int IntKind.i64 0, Value.int IntKind.i64 0, Value.bool false, Value.bool false, Value.int IntKind.i64 0, Value.int IntKind.i64 0, Value.int IntKind.i64 0, Value.bool false, Value.bool false, Value.int IntKind.i64 0,
     Value.int IntKind.i64 0, Value.int IntKind.i64 0, Value.bool false, Value.bool false, Value.int IntKind.i64 0, Value.int IntKind.i64 0, Value.int IntKind.i64 0, Value.bool false, Value.bool false, Value.int IntKind.i64 0, Value.int IntKind.i64 0,
     Value.int IntKind.i64 0, Value.bool false, Value.bool false, Value.int IntKind.i64 0, Value.int IntKind.i64 0, Value.int IntKind.i64 0, Value.bool false, Value.bool false, Value.int IntKind.i64 0, Value.int IntKind.i64 0, Value.int IntKind.i64 0,
     Value.bool false, Value.bool false, Value.int IntKind.i64 0, Value.int IntKind.i64 0, Value.int IntKind.i64 0, Value.bool false, Value.bool false, Value.int IntKind.i64 0, Value.int IntKind.i64 0, Value.int IntKind.i64 0, Value.bool false,
     Value.bool false, Value.int IntKind.i64 0, Value.int IntKind.i64 0, Value.int IntKind.i64 0, Value.bool false, Value.bool false, Value.int IntKind.i64 0, Value.int IntKind.i64 0, Value.int IntKind.i64 0, Value.bool false, Value.bool false,
     Value.int IntKind.i64 0, Value.int IntKind.i64 0, Value.int IntKind.i64 0, Value.bool false, Value.bool false, Value.int IntKind.i64 0, Value.int IntKind.i64 0, Value.int IntKind.i64 0, Value.bool false, Value.bool false, Value.int IntKind.i64 0,
     Value.int IntKind.i64 0, Value.int IntKind.i64 0, Value.bool false, Value.bool false, Value.int IntKind.i64 0, Value.int IntKind.i64 0, Value.int IntKind.i64 0, Value.bool false, Value.bool false, Value.int IntKind.i64 0, Value.int IntKind.i64 0,
     Value.int IntKind.i64 0, Value.bool false, Value.bool false, Value.int IntKind.i64 0, Value.int IntKind.i64 0, Value.int IntKind.i64 0, Value.bool false, Value.bool false, Value.int IntKind.i64 0, Value.int IntKind.i64 0, Value.int IntKind.i64 0,
     Value.bool false, Value.bool false, Value.int IntKind.i64 0, Value.int IntKind.i64 0, Value.int IntKind.i64 0, Value.bool false, Value.bool false, Value.int IntKind.i64 0, Value.int IntKind.i64 0, Value.int IntKind.i64 0, Value.bool false,
     Value.bool false, Value.int IntKind.i64 0, Value.int IntKind.i64 0, Value.int IntKind.i64 0, Value.bool false, Value.bool false, Value.int IntKind.i64 0, Value.int IntKind.i64 0, Value.int IntKind.i64 0, Value.bool false, Value.bool false,
     Value.int IntKind.i64 0, Value.int IntKind.i64 0, Value.int IntKind.i64 0, Value.bool false, Value.bool false, Value.int IntKind.i64 0, Value.int IntKind.i64 0, Value.int IntKind.i64 0, Value.bool false, Value.bool false, Value.int IntKind.i64 0,
     Value.int IntKind.i64 0, Value.int IntKind.i64 0, Value.bool false, Value.bool false, Value.int IntKind.i64 0, Value.int IntKind.i64 0, Value.int IntKind.i64 0, Value.bool false, Value.bool false, Value.int IntKind.i64 0, Value.int IntKind.i64 0,
     Value.int IntKind.i64 0, Value.bool false, Value.bool false, Value.int IntKind.i64 0, Value.int IntKind.i64 0, Value.int IntKind.i64 0, Value.bool false, Value.bool false, Value.int IntKind.i64 0, Value.int IntKind.i64 0, Value.int IntKind.i64 0,
     Value.bool false, Value.bool false, Value.int IntKind.i64 0, Value.int IntKind.i64 0, Value.int IntKind.i64 0, Value.bool false, Value.bool false, Value.int IntKind.i64 0, Value.int IntKind.i64 0, Value.int IntKind.i64 0, Value.bool false,
     Value.bool false, Value.int IntKind.i64 0, Value.int IntKind.i64 0, Value.int IntKind.i64 0, Value.bool false, Value.bool false, Value.int IntKind.i64 0, Value.int IntKind.i64 0, Value.int IntKind.i64 0, Value.bool false, Value.bool false,
     Value.int IntKind.i64 0, Value.int IntKind.i64 0, Value.int IntKind.i64 0, Value.bool false, Value.bool false, Value.int IntKind.i64 0, Value.int IntKind.i64 0, Value.int IntKind.i64 0, Value.bool false, Value.bool false, Value.int IntKind.i64 0,
     Value.int IntKind.i64 0, Value.int IntKind.i64 0, Value.bool false, Value.bool false, Value.int IntKind.i64 0, Value.int IntKind.i64 0, Value.int IntKind.i64 0, Value.bool false, Value.bool false, Value.int IntKind.i64 0, Value.int IntKind.i64 0,
     Value.int IntKind.i64 0, Value.bool false, Value.bool false, Value.int IntKind.i64 0, Value.int IntKind.i64 0, Value.int IntKind.i64 0, Value.bool false, Value.bool false, Value.int IntKind.i64 0, Value.int IntKind.i64 0, Value.int IntKind.i64 0,
     Value.bool false, Value.bool false, Value.int IntKind.i64 0, Value.int IntKind.i64 0, Value.int IntKind.i64 0, Value.bool false, Value.bool false, Value.int IntKind.i64 0, Value.int IntKind.i64 0, Value.int IntKind.i64 0, Value.bool false,
     Value.bool false, Value.int IntKind.i64 0, Value.int IntKind.i64 0, Value.int IntKind.i64 0, Value.bool false, Value.bool false, Value.int IntKind.i64 0, Value.int IntKind.i64 0, Value.int IntKind.i64 0, Value.bool false, Value.bool false,
     Value.int IntKind.i64 0, Value.int IntKind.i64 0, Value.int IntKind.i64 0, Value.bool false, Value.bool false, Value.int IntKind.i64 0, Value.int IntKind.i64 0, Value.int IntKind.i64 0, Value.bool false, Value.bool false, Value.int IntKind.i64 0,
     Value.int IntKind.i64 0, Value.int IntKind.i64 0, Value.bool false, Value.bool false, Value.int IntKind.i64 0, Value.int IntKind.i64 0, Value.int IntKind.i64 0, Value.bool false, Value.bool false, Value.int IntKind.i64 0, Value.int IntKind.i64 0,
     Value.int IntKind.i64 0, Value.bool false, Value.bool false, Value.int IntKind.i64 0, Value.int IntKind.i64 0, Value.int IntKind.i64 0, Value.bool false, Value.bool false, Value.int IntKind.i64 0, Value.int IntKind.i64 0, Value.int IntKind.i64 0,
     Value.bool false, Value.bool false, Value.int IntKind.i64 0, Value.int IntKind.i64 0, Value.int IntKind.i64 0, Value.bool false, Value.bool false, Value.int IntKind.i64 0, Value.int IntKind.i64 0, Value.int IntKind.i64 0, Value.bool false,
     Value.bool false, Value.int IntKind.i64 0, Value.int IntKind.i64 0, Value.int IntKind.i64 0, Value.bool false, Value.bool false, Value.int IntKind.i64 0, Value.int IntKind.i64 0, Value.int IntKind.i64 0, Value.bool false, Value.bool false,
     Value.int IntKind.i64 0, Value.int IntKind.i64 0, Value.int IntKind.i64 0, Value.bool false, Value.bool false, Value.int IntKind.i64 0, Value.int IntKind.i64 0, Value.int IntKind.i64 0, Value.bool false, Value.bool false, Value.int IntKind.i64 0,
     Value.int IntKind.i64 0, Value.int IntKind.i64 0, Value.bool false, Value.bool false, Value.int IntKind.i64 0, Value.int IntKind.i64 0, Value.int IntKind.i64 0, Value.bool false, Value.bool false, Value.int IntKind.i64 0, Value.int IntKind.i64 0,
     Value.int IntKind.i64 0, Value.bool false, Value.bool false, Value.int IntKind.i64 0, Value.int IntKind.i64 0, Value.int IntKind.i64 0, Value.bool false, Value.bool false, Value.int IntKind.i64 0, Value.int IntKind.i64 0, Value.int IntKind.i64 0,
     Value.bool false, Value.bool false, Value.int IntKind.i64 0, Value.int IntKind.i64 0, Value.int IntKind.i64 0, Value.bool false, Value.bool false, Value.int IntKind.i64 0, Value.int IntKind.i64 0, Value.int IntKind.i64 0, Value.bool false,
     Value.bool false, Value.int IntKind.i64 0, Value.int IntKind.i64 0, Value.int IntKind.i64 0, Value.bool false, Value.bool false, Value.int IntKind.i64 0, Value.int IntKind.i64 0, Value.int IntKind.i64 0, Value.bool false, Value.bool false,
     Value.int IntKind.i64 0, Value.int IntKind.i64 0, Value.int IntKind.i64 0, Value.bool false, Value.bool false, Value.int IntKind.i64 0, Value.int IntKind.i64 0, Value.int IntKind.i64 0, Value.bool false, Value.bool false, Value.int IntKind.i64 0,
     Value.int IntKind.i64 0, Value.int IntKind.i64 0, Value.bool false, Value.bool false, Value.int IntKind.i64 0, Value.int IntKind.i64 0, Value.int IntKind.i64 0, Value.bool false, Value.bool false, Value.int IntKind.i64 0, Value.int IntKind.i64 0,
     Value.int IntKind.i64 0, Value.bool false, Value.bool false, Value.int IntKind.i64 0, Value.int IntKind.i64 0, Value.int IntKind.i64 0, Value.bool false, Value.bool false, Value.int IntKind.i64 0, Value.int IntKind.i64 0, Value.int IntKind.i64 0,
     Value.bool false, Value.bool false, Value.int IntKind.i64 0, Value.int IntKind.i64 0, Value.int IntKind.i64 0, Value.bool false, Value.bool false, Value.int IntKind.i64 0, Value.int IntKind.i64 0, Value.int IntKind.i64 0, Value.bool false,
     Value.bool false, Value.int IntKind.i64 0, Value.int IntKind.i64 0, Value.int IntKind.i64 0, Value.bool false, Value.bool false, Value.int IntKind.i64 0, Value.int IntKind.i64 0, Value.int IntKind.i64 0, Value.bool false, Value.bool false,
     Value.int IntKind.i64 0, Value.int IntKind.i64 0, Value.int IntKind.i64 0, Value.bool false, Value.bool false, Value.int IntKind.i64 0, Value.int IntKind.i64 0, Value.int IntKind.i64 0, Value.bool false, Value.bool false, Value.int IntKind.i64 0,
     Value.int IntKind.i64 0, Value.int IntKind.i64 0, Value.bool false, Value.bool false, Value.int IntKind.i64 0, Value.int IntKind.i64 0, Value.int IntKind.i64 0, Value.bool false, Value.bool false, Value.int IntKind.i64 0, Value.int IntKind.i64 0,
     Value.int IntKind.i64 0, Value.bool false, Value.bool false, Value.int IntKind.i64 0, Value.int IntKind.i64 0, Value.int IntKind.i64 0, Value.bool false, Value.bool false, Value.int IntKind.i64 0, Value.int IntKind.i64 0, Value.int IntKind.i64 0,
     Value.bool false, Value.bool false, Value.int IntKind.i64 0, Value.int IntKind.i64 0, Value.int IntKind.i64 0, Value.bool false, Value.bool false, Value.int IntKind.i64 0, Value.int IntKind.i64 0, Value.int IntKind.i64 0, Value.bool false,
     Value.bool false, Value.int IntKind.i64 0, Value.int IntKind.i64 0, Value.int IntKind.i64 0, Value.bool false, Value.bool false, Value.int IntKind.i64 0, Value.int IntKind.i64 0, Value.int IntKind.i64 0, Value.bool false, Value.bool false,
     Value.int IntKind.i64 0, Value.int IntKind.i64 0, Value.int IntKind.i64 0, Value.bool false, Value.bool false, Value.int IntKind.i64 0, Value.int IntKind.i64 0, Value.int IntKind.i64 0, Value.bool false, Value.bool false, Value.int IntKind.i64 0,
     Value.int IntKind.i64 0, Value.int IntKind.i64 0, Value.bool false, Value.bool false, Value.int IntKind.i64 0, Value.int IntKind.i64 0, Value.int IntKind.i64 0, Value.bool false, Value.bool false, Value.int IntKind.i64 0, Value.int IntKind.i64 0,
     Value.int IntKind.i64 0, Value.bool false, Value.bool false, Value.int IntKind.i64 0, Value.int IntKind.i64 0, Value.int IntKind.i64 0, Value.bool false, Value.bool false, Value.int IntKind.i64 0, Value.int IntKind.i64 0, Value.int IntKind.i64 0,
     Value.bool false, Value.bool false, Value.int IntKind.i64 0, Value.int IntKind.i64 0, Value.int IntKind.i64 0, Value.bool false, Value.bool false, Value.int IntKind.i64 0, Value.int IntKind.i64 0, Value.int IntKind.i64 0, Value.bool false,
     Value.bool false, Value.int IntKind.i64 0, Value.int IntKind.i64 0, Value.int IntKind.i64 0, Value.bool false, Value.bool false, Value.int IntKind.i64 0, Value.int IntKind.i64 0, Value.int IntKind.i64 0, Value.bool false, Value.bool false,
     Value.int IntKind.i64 0, Value.int IntKind.i64 0, Value.int IntKind.i64 0, Value.bool false, Value.bool false, Value.int IntKind.i64 0, Value.int IntKind.i64 0, Value.int IntKind.i64 0, Value.bool false, Value.bool false, Value.int IntKind.i64 0,
     Value.int IntKind.i64 0, Value.int IntKind.i64 0, Value.bool false, Value.bool false, Value.int IntKind.i64 0, Value.int IntKind.i64 0, Value.int IntKind.i64 0, Value.bool false, Value.bool false, Value.int IntKind.i64 0, Value.int IntKind.i64 0,
     Value.int IntKind.i64 0, Value.bool false, Value.bool false, Value.int IntKind.i64 0, Value.int IntKind.i64 0, Value.int IntKind.i64 0, Value.bool false, Value.bool false, Value.int IntKind.i64 0, Value.int IntKind.i64 0, Value.int IntKind.i64 0,
     Value.bool false, Value.bool false, Value.int IntKind.i64 0, Value.int IntKind.i64 0, Value.int IntKind.i64 0, Value.bool false, Value.bool false, Value.int IntKind.i64 0, Value.int IntKind.i64 0, Value.int IntKind.i64 0, Value.bool false,
     Value.bool false, Value.int IntKind.i64 0, Value.int IntKind.i64 0, Value.int IntKind.i64 0, Value.bool false, Value.bool false, Value.int IntKind.i64 0, Value.int IntKind.i64 0, Value.int IntKind.i64 0, Value.bool false, Value.bool false,
     Value.int IntKind.i64 0, Value.int IntKind.i64 0, Value.int IntKind.i64 0, Value.bool false, Value.bool false, Value.int IntKind.i64 0, Value.int IntKind.i64 0, Value.int IntKind.i64 0, Value.bool false, Value.bool false, Value.int IntKind.i64 0,
     Value.int IntKind.i64 0, Value.int IntKind.i64 0, Value.bool false, Value.bool false, Value.int IntKind.i64 0, Value.int IntKind.i64 0, Value.int IntKind.i64 0, Value.bool false, Value.bool false, Value.int IntKind.i64 0, Value.int IntKind.i64 0,
     Value.int IntKind.i64 0, Value.bool false, Value.bool false, Value.int IntKind.i64 0, Value.int IntKind.i64 0, Value.int IntKind.i64 0, Value.bool false, Value.bool false, Value.int IntKind.i64 0, Value.int IntKind.i64 0, Value.int IntKind.i64 0,
     Value.bool false, Value.bool false, Value.int IntKind.i64 0, Value.int IntKind.i64 0, Value.int IntKind.i64 0, Value.bool false, Value.bool false, Value.int IntKind.i64 0, Value.int IntKind.i64 0, Value.int IntKind.i64 0, Value.bool false,
     Value.bool false, Value.int IntKind.i64 0, Value.int IntKind.i64 0, Value.int IntKind.i64 0, Value.bool false, Value.bool false, Value.int IntKind.i64 0, Value.int IntKind.i64 0, Value.int IntKind.i64 0, Value.bool false, Value.bool false,
     Value.int IntKind.i64 0, Value.int IntKind.i64 0, Value.int IntKind.i64 0, Value.bool false, Value.bool false, Value.int IntKind.i64 0, Value.int IntKind.i64 0, Value.int IntKind.i64 0, Value.bool false, Value.bool false, Value.int IntKind.i64 0,
     Value.int IntKind.i64 0, Value.int IntKind.i64 0, Value.bool false, Value.bool false, Value.int IntKind.i64 0, Value.int IntKind.i64 0, Value.int IntKind.i64 0, Value.bool false, Value.bool false, Value.int IntKind.i64 0, Value.int IntKind.i64 0,
     Value.int IntKind.i64 0, Value.bool false, Value.bool false, Value.int IntKind.i64 0, Value.int IntKind.i64 0, Value.int IntKind.i64 0, Value.bool false, Value.bool false, Value.int IntKind.i64 0, Value.int IntKind.i64 0, Value.int IntKind.i64 0,
     Value.bool false, Value.bool false, Value.int IntKind.i64 0, Value.int IntKind.i64 0, Value.int IntKind.i64 0, Value.bool false, Value.bool false, Value.int IntKind.i64 0, Value.int IntKind.i64 0, Value.int IntKind.i64 0, Value.bool false,
     Value.bool false, Value.int IntKind.i64 0, Value.int IntKind.i64 0, Value.int IntKind.i64 0, Value.bool false, Value.bool false, Value.int IntKind.i64 0, Value.int IntKind.i64 0, Value.int IntKind.i64 0, Value.bool false, Value.bool false,
     Value.int IntKind.i64 0, Value.int IntKind.i64 0, Value.int IntKind.i64 0, Value.bool false, Value.bool false, Value.int IntKind.i64 0, Value.int IntKind.i64 0, Value.int IntKind.i64 0, Value.bool false, Value.bool false, Value.int IntKind.i64 0,
     Value.int IntKind.i64 0, Value.int IntKind.i64 0, Value.bool false, Value.bool false, Value.int IntKind.i64 0, Value.int IntKind.i64 0, Value.int IntKind.i64 0, Value.bool false, Value.bool false, Value.int IntKind.i64 0, Value.int IntKind.i64 0,
     Value.int IntKind.i64 0, Value.bool false, Value.bool false, Value.int IntKind.i64 0, Value.int IntKind.i64 0, Value.int IntKind.i64 0, Value.bool false, Value.bool false, Value.int IntKind.i64 0, Value.int IntKind.i64 0, Value.int IntKind.i64 0,
     Value.bool false, Value.bool false, Value.int IntKind.i64 0, Value.int IntKind.i64 0, Value.int IntKind.i64 0, Value.bool false, Value.bool false, Value.int IntKind.i64 0, Value.int IntKind.i64 0, Value.int IntKind.i64 0, Value.bool false,
     Value.bool false, Value.int IntKind.i64 0, Value.int IntKind.i64 0, Value.int IntKind.i64 0, Value.bool false, Value.bool false, Value.int IntKind.i64 0, Value.int IntKind.i64 0, Value.int IntKind.i64 0, Value.bool false, Value.bool false,
     Value.int IntKind.i64 0, Value.int IntKind.i64 0, Value.int IntKind.i64 0, Value.bool false, Value.bool false, Value.int IntKind.i64 0, Value.int IntKind.i64 0, Value.int IntKind.i64 0, Value.bool false, Value.bool false, Value.int IntKind.i64 0,
     Value.int IntKind.i64 0, Value.int IntKind.i64 0, Value.bool false, Value.bool false, Value.int IntKind.i64 0, Value.int IntKind.i64 0, Value.int IntKind.i64 0, Value.bool false, Value.bool false, Value.int IntKind.i64 0, Value.int IntKind.i64 0,
     Value.int IntKind.i64 0, Value.bool false, Value.bool false, Value.int IntKind.i64 0, Value.int IntKind.i64 0, Value.int IntKind.i64 0, Value.bool false, Value.bool false, Value.int IntKind.i64 0, Value.int IntKind.i64 0, Value.int IntKind.i64 0,
     Value.bool false, Value.bool false, Value.int IntKind.i64 0, Value.int IntKind.i64 0, Value.int IntKind.i64 0, Value.bool false, Value.bool false, Value.int IntKind.i64 0, Value.int IntKind.i64 0, Value.int IntKind.i64 0, Value.bool false,
     Value.bool false, Value.int IntKind.i64 0, Value.int IntKind.i64 0, Value.int IntKind.i64 0, Value.bool false, Value.bool false, Value.int IntKind.i64 0, Value.int IntKind.i64 0, Value.int IntKind.i64 0, Value.bool false, Value.bool false,
     Value.int IntKind.i64 0, Value.int IntKind.i64 0, Value.int IntKind.i64 0, Value.bool false, Value.bool false, Value.int IntKind.i64 0, Value.int IntKind.i64 0, Value.int IntKind.i64 0, Value.bool false, Value.bool false, Value.int IntKind.i64 0,
     Value.int IntKind.i64 0, Value.int IntKind.i64 0, Value.bool false, Value.bool false, Value.int IntKind.i64 0, Value.int IntKind.i64 0, Value.int IntKind.i64 0, Value.bool false, Value.bool false, Value.int IntKind.i64 0, Value.int IntKind.i64 0,
     Value.int IntKind.i64 0, Value.bool false, Value.bool false, Value.int IntKind.i64 0, Value.int IntKind.i64 0, Value.int IntKind.i64 0, Value.bool false, Value.bool false, Value.int IntKind.i64 0, Value.int IntKind.i64 0, Value.int IntKind.i64 0,
     Value.bool false, Value.bool false, Value.int IntKind.i64 0, Value.int IntKind.i64 0, Value.int IntKind.i64 0, Value.bool false, Value.bool false, Value.int IntKind.i64 0, Value.int IntKind.i64 0, Value.int IntKind.i64 0, Value.bool false,
     Value.bool false, Value.int IntKind.i64 0, Value.int IntKind.i64 0, Value.int IntKind.i64 0, Value.bool false, Value.bool false, Value.int IntKind.i64 0, Value.int IntKind.i64 0, Value.int IntKind.i64 0, Value.bool false, Value.bool false,
     Value.int IntKind.i64 0, Value.int IntKind.i64 0, Value.int IntKind.i64 0, Value.bool false, Value.bool false, Value.int IntKind.i64 0, Value.int IntKind.i64 0, Value.int IntKind.i64 0, Value.bool false, Value.bool false, Value.int IntKind.i64 0,
     Value.int IntKind.i64 0, Value.int IntKind.i64 0, Value.bool false, Value.bool false, Value.int IntKind.i64 0, Value.int IntKind.i64 0, Value.int IntKind.i64 0, Value.bool false, Value.bool false, Value.int IntKind.i64 0, Value.int IntKind.i64 0,
     Value.int IntKind.i64 0, Value.bool false, Value.bool false, Value.int IntKind.i64 0, Value.int IntKind.i64 0, Value.int IntKind.i64 0, Value.bool false, Value.bool false, Value.int IntKind.i64 0, Value.int IntKind.i64 0, Value.int IntKind.i64 0,
     Value.bool false, Value.bool false, Value.int IntKind.i64 0, Value.int IntKind.i64 0, Value.int IntKind.i64 0, Value.bool false, Value.bool false, Value.int IntKind.i64 0, Value.int IntKind.i64 0, Value.int IntKind.i64 0, Value.bool false,
     Value.bool false, Value.int IntKind.i64 0, Value.int IntKind.i64 0, Value.int IntKind.i64 0, Value.bool false, Value.bool false, Value.int IntKind.i64 0, Value.int IntKind.i64 0, Value.int IntKind.i64 0, Value.bool false, Value.bool false,
     Value.int IntKind.i64 0, Value.int IntKind.i64 0, Value.int IntKind.i64 0, Value.bool false, Value.bool false, Value.int IntKind.i64 0, Value.int IntKind.i64 0, Value.int IntKind.i64 0, Value.bool false, Value.bool false, Value.int IntKind.i64 0,
     Value.int IntKind.i64 0, Value.int IntKind.i64 0, Value.bool false, Value.bool false, Value.int IntKind.i64 0, Value.int IntKind.i64 0, Value.int IntKind.i64 0, Value.bool false, Value.bool false, Value.int IntKind.i64 0, Value.int IntKind.i64 0,
     Value.int IntKind.i64 0, Value.bool false, Value.bool false, Value.int IntKind.i64 0, Value.int IntKind.i64 0, Value.int IntKind.i64 0, Value.bool false, Value.bool false, Value.int IntKind.i64 0, Value.int IntKind.i64 0, Value.int IntKind.i64 0,
     Value.bool false, Value.bool false, Value.int IntKind.i64 0, Value.int IntKind.i64 0, Value.int IntKind.i64 0, Value.bool false, Value.bool false, Value.int IntKind.i64 0, Value.int IntKind.i64 0, Value.int IntKind.i64 0, Value.bool false,
     Value.bool false, Value.int IntKind.i64 0, Value.int IntKind.i64 0, Value.int IntKind.i64 0, Value.bool false, Value.bool false, Value.int IntKind.i64 0, Value.int IntKind.i64 0, Value.int IntKind.i64 0, Value.bool false, Value.bool false,
     Value.int IntKind.i64 0, Value.int IntKind.i64 0, Value.int IntKind.i64 0, Value.bool false, Value.bool false, Value.int IntKind.i64 0, Value.int IntKind.i64 0, Value.int IntKind.i64 0, Value.bool false, Value.bool false, Value.int IntKind.i64 0,
     Value.int IntKind.i64 0, Value.int IntKind.i64 0, Value.bool false, Value.bool false, Value.int IntKind.i64 0, Value.int IntKind.i64 0, Value.int IntKind.i64 0, Value.bool false, Value.bool false, Value.int IntKind.i64 0, Value.int IntKind.i64 0,
     Value.int IntKind.i64 0, Value.bool false, Value.bool false, Value.int IntKind.i64 0, Value.int IntKind.i64 0, Value.int IntKind.i64 0, Value.bool false, Value.bool false, Value.int IntKind.i64 0, Value.int IntKind.i64 0, Value.int IntKind.i64 0,
     Value.bool false, Value.bool false, Value.int IntKind.i64 0, Value.int IntKind.i64 0, Value.int IntKind.i64 0, Value.bool false, Value.bool false, Value.int IntKind.i64 0, Value.int IntKind.i64 0, Value.int IntKind.i64 0, Value.bool false,
     Value.bool false, Value.int IntKind.i64 0, Value.int IntKind.i64 0, Value.int IntKind.i64 0, Value.bool false, Value.bool false, Value.int IntKind.i64 0, Value.int IntKind.i64 0, Value.int IntKind.i64 0, Value.bool false, Value.bool false,
     Value.int IntKind.i64 0, Value.int IntKind.i64 0, Value.int IntKind.i64 0, Value.bool false, Value.bool false, Value.int IntKind.i64 0, Value.int IntKind.i64 0, Value.int IntKind.i64 0, Value.bool false, Value.bool false, Value.int IntKind.i64 0,
     Value.int IntKind.i64 0, Value.int IntKind.i64 0, Value.bool false, Value.bool false, Value.int IntKind.i64 0, Value.int IntKind.i64 0, Value.int IntKind.i64 0, Value.bool false, Value.bool false, Value.int IntKind.i64 0, Value.int IntKind.i64 0,
     Value.int IntKind.i64 0, Value.bool false, Value.bool false, Value.int IntKind.i64 0, Value.int IntKind.i64 0, Value.int IntKind.i64 0, Value.bool false, Value.bool false, Value.int IntKind.i64 0, Value.int IntKind.i64 0, Value.int IntKind.i64 0,
     Value.bool false, Value.bool false, Value.int IntKind.i64 0, Value.int IntKind.i64 0, Value.int IntKind.i64 0, Value.bool false, Value.bool false, Value.int IntKind.i64 0, Value.int IntKind.i64 0, Value.int IntKind.i64 0, Value.bool false,
     Value.bool false, Value.int IntKind.i64 0, Value.int IntKind.i64 0, Value.int IntKind.i64 0, Value.bool false, Value.bool false, Value.int IntKind.i64 0, Value.int IntKind.i64 0, Value.int IntKind.i64 0, Value.bool false, Value.bool false,
     Value.int IntKind.i64 0, Value.int IntKind.i64 0, Value.int IntKind.i64 0, Value.bool false, Value.bool false, Value.int IntKind.i64 0, Value.int IntKind.i64 0, Value.int IntKind.i64 0, Value.bool false, Value.bool false, Value.int IntKind.i64 0,
     Value.int IntKind.i64 0, Value.int IntKind.i64 0, Value.bool false, Value.bool false, Value.int IntKind.i64 0, Value.int IntKind.i64 0, Value.int IntKind.i64 0, Value.bool false, Value.bool false, Value.int IntKind.i64 0, Value.int IntKind.i64 0,
     Value.int IntKind.i64 0, Value.bool false, Value.bool false, Value.int IntKind.i64 0, Value.int IntKind.i64 0, Value.int IntKind.i64 0, Value.bool false, Value.bool false, Value.int IntKind.i64 0, Value.int IntKind.i64 0, Value.int IntKind.i64 0,
     Value.bool false, Value.bool false, Value.int IntKind.i64 0, Value.int IntKind.i64 0, Value.int IntKind.i64 0, Value.bool false, Value.bool false, Value.int IntKind.i64 0, Value.int IntKind.i64 0, Value.int IntKind.i64 0, Value.bool false,
     Value.bool false, Value.int IntKind.i64 0, Value.int IntKind.i64 0, Value.int IntKind.i64 0, Value.bool false, Value.bool false, Value.int IntKind.i64 0, Value.int IntKind.i64 0, Value.int IntKind.i64 0, Value.bool false, Value.bool false,
     Value.int IntKind.i64 0, Value.int IntKind.i64 0, Value.int IntKind.i64 0, Value.bool false, Value.bool false, Value.int IntKind.i64 0, Value.int IntKind.i64 0, Value.int IntKind.i64 0, Value.bool false, Value.bool false, Value.int IntKind.i64 0,
     Value.int IntKind.i64 0, Value.int IntKind.i64 0, Value.bool false, Value.bool false, Value.int IntKind.i64 0, Value.int IntKind.i64 0, Value.int IntKind.i64 0, Value.bool false, Value.bool false, Value.int IntKind.i64 0, Value.int IntKind.i64 0,
     Value.int IntKind.i64 0, Value.bool false, Value.bool false, Value.int IntKind.i64 0, Value.int IntKind.i64 0, Value.int IntKind.i64 0, Value.bool false, Value.bool false, Value.int IntKind.i64 0, Value.int IntKind.i64 0, Value.int IntKind.i64 0,
     Value.bool false, Value.bool false, Value.int IntKind.i64 0, Value.int IntKind.i64 0, Value.int IntKind.i64 0, Value.bool false, Value.bool false, Value.int IntKind.i64 0, Value.int IntKind.i64 0, Value.int IntKind.i64 0, Value.bool false,
     Value.bool false, Value.int IntKind.i64 0, Value.int IntKind.i64 0, Value.int IntKind.i64 0, Value.bool false, Value.bool false, Value.int IntKind.i64 0, Value.int IntKind.i64 0, Value.int IntKind.i64 0, Value.bool false, Value.bool false,
     Value.int IntKind.i64 0, Value.int IntKind.i64 0, Value.int IntKind.i64 0, Value.bool false, Value.bool false, Value.int IntKind.i64 0, Value.int IntKind.i64 0, Value.int IntKind.i64 0, Value.bool false, Value.bool false, Value.int IntKind.i64 0,
     Value.int IntKind.i64 0, Value.int IntKind.i64 0, Value.bool false, Value.bool false, Value.int IntKind.i64 0, Value.int IntKind.i64 0, Value.int IntKind.i64 0, Value.bool false, Value.bool false, Value.int IntKind.i64 0, Value.int IntKind.i64 0,
     Value.int IntKind.i64 0, Value.bool false, Value.bool false, Value.int IntKind.i64 0, Value.int IntKind.i64 0, Value.int IntKind.i64 0, Value.bool false, Value.bool false, Value.int IntKind.i64 0, Value.int IntKind.i64 0, Value.int IntKind.i64 0,
     Value.bool false, Value.bool false, Value.int IntKind.i64 0, Value.int IntKind.i64 0, Value.int IntKind.i64 0, Value.bool false, Value.bool false, Value.int IntKind.i64 0, Value.int IntKind.i64 0, Value.int IntKind.i64 0, Value.bool false,
     Value.bool false, Value.int IntKind.i64 0, Value.int IntKind.i64 0, Value.int IntKind.i64 0, Value.bool false, Value.bool false, Value.int IntKind.i64 0, Value.int IntKind.i64 0, Value.int IntKind.i64 0, Value.bool false, Value.bool false,
     Value.int IntKind.i64 0, Value.int IntKind.i64 0, Value.int IntKind.i64 0, Value.bool false, Value.bool false, Value.int IntKind.i64 0, Value.int IntKind.i64 0, Value.int IntKind.i64 0, Value.bool false, Value.bool false, Value.int IntKind.i64 0,
     Value.int IntKind.i64 0, Value.int IntKind.i64 0, Value.bool false, Value.bool false, Value.int IntKind.i64 0, Value.int IntKind.i64 0, Value.int IntKind.i64 0, Value.bool false, Value.bool false, Value.int IntKind.i64 0, Value.int IntKind.i64 0,
     Value.int IntKind.i64 0, Value.bool false, Value.bool false, Value.int IntKind.i64 0, Value.int IntKind.i64 0, Value.int IntKind.i64 0, Value.bool false, Value.bool false, Value.int IntKind.i64 0, Value.int IntKind.i64 0, Value.int IntKind.i64 0,
     Value.bool false, Value.bool false, Value.int IntKind.i64 0, Value.int IntKind.i64 0, Value.int IntKind.i64 0, Value.bool false, Value.bool false, Value.int IntKind.i64 0, Value.int IntKind.i64 0, Value.int IntKind.i64 0, Value.bool false,
     Value.bool false, Value.int IntKind.i64 0, Value.int IntKind.i64 0, Value.int IntKind.i64 0, Value.bool false, Value.bool false, Value.int IntKind.i64 0, Value.int IntKind.i64 0, Value.int IntKind.i64 0, Value.bool false, Value.bool false,
     Value.int IntKind.i64 0, Value.int IntKind.i64 0, Value.int IntKind.i64 0, Value.bool false, Value.bool false, Value.int IntKind.i64 0, Value.int IntKind.i64 0, Value.int IntKind.i64 0, Value.bool false, Value.bool false, Value.int IntKind.i64 0,
     Value.int IntKind.i64 0, Value.int IntKind.i64 0, Value.bool false, Value.bool false, Value.int IntKind.i64 0, Value.int IntKind.i64 0, Value.int IntKind.i64 0, Value.bool false, Value.bool false, Value.int IntKind.i64 0, Value.int IntKind.i64 0,
     Value.int IntKind.i64 0, Value.bool false, Value.bool false, Value.int IntKind.i64 0, Value.int IntKind.i64 0, Value.int IntKind.i64 0, Value.bool false, Value.bool false, Value.int IntKind.i64 0, Value.int IntKind.i64 0, Value.int IntKind.i64 0,
     Value.bool false, Value.bool false, Value.int IntKind.i64 0, Value.int IntKind.i64 0, Value.int IntKind.i64 0, Value.bool false, Value.bool false, Value.int IntKind.i64 0, Value.int IntKind.i64 0, Value.int IntKind.i64 0, Value.bool false,
     Value.bool false, Value.int IntKind.i64 0, Value.int IntKind.i64 0, Value.int IntKind.i64 0, Value.bool false, Value.bool false, Value.int IntKind.i64 0, Value.int IntKind.i64 0, Value.int IntKind.i64 0, Value.bool false, Value.bool false,
     Value.int IntKind.i64 0, Value.int IntKind.i64 0, Value.int IntKind.i64 0, Value.bool false, Value.bool false, Value.int IntKind.i64 0, Value.int IntKind.i64 0, Value.int IntKind.i64 0, Value.bool false, Value.bool false, Value.int IntKind.i64 0,
     Value.int IntKind.i64 0, Value.int IntKind.i64 0, Value.bool false, Value.bool false, Value.int IntKind.i64 0, Value.int IntKind.i64 0, Value.int IntKind.i64 0, Value.bool false, Value.bool false, Value.int IntKind.i64 0, Value.int IntKind.i64 0,
     Value.int IntKind.i64 0, Value.bool false, Value.bool false, Value.int IntKind.i64 0, Value.int IntKind.i64 0, Value.int IntKind.i64 0, Value.bool false, Value.bool false, Value.int IntKind.i64 0, Value.int IntKind.i64 0, Value.int IntKind.i64 0,
     Value.bool false, Value.bool false, Value.int IntKind.i64 0, Value.int IntKind.i64 0, Value.int IntKind.i64 0, Value.bool false, Value.bool false, Value.int IntKind.i64 0, Value.int IntKind.i64 0, Value.int IntKind.i64 0, Value.bool false,
     Value.bool false, Value.int IntKind.i64 0, Value.int IntKind.i64 0, Value.int IntKind.i64 0, Value.bool false, Value.bool false, Value.int IntKind.i64 0, Value.int IntKind.i64 0, Value.int IntKind.i64 0, Value.bool false, Value.bool false,
     Value.int IntKind.i64 0, Value.int IntKind.i64 0, Value.int IntKind.i64 0, Value.bool false, Value.bool false, Value.int IntKind.i64 0, Value.int IntKind.i64 0, Value.int IntKind.i64 0, Value.bool false, Value.bool false, Value.int IntKind.i64 0,
     Value.int IntKind.i64 0, Value.int IntKind.i64 0, Value.bool false, Value.bool false, Value.int IntKind.i64 0, Value.int IntKind.i64 0, Value.int IntKind.i64 0, Value.bool false, Value.bool false, Value.int IntKind.i64 0, Value.int IntKind.i64 0,
     Value.int IntKind.i64 0, Value.bool false, Value.bool false, Value.int IntKind.i64 0, Value.int IntKind.i64 0, Value.int IntKind.i64 0, Value.bool false, Value.bool false, Value.int IntKind.i64 0, Value.int IntKind.i64 0, Value.int IntKind.i64 0,
     Value.bool false, Value.bool false, Value.int IntKind.i64 0, Value.int IntKind.i64 0, Value.int IntKind.i64 0, Value.bool false, Value.bool false, Value.int IntKind.i64 0, Value.int IntKind.i64 0, Value.int IntKind.i64 0, Value.bool false,
     Value.bool false, Value.int IntKind.i64 0, Value.int IntKind.i64 0, Value.int IntKind.i64 0, Value.bool false, Value.bool false, Value.int IntKind.i64 0, Value.int IntKind.i64 0, Value.int IntKind.i64 0, Value.bool false, Value.bool false,
     Value.int IntKind.i64 0, Value.int IntKind.i64 0, Value.int IntKind.i64 0, Value.bool false, Value.bool false, Value.int IntKind.i64 0, Value.int IntKind.i64 0, Value.int IntKind.i64 0, Value.bool false, Value.bool false, Value.int IntKind.i64 0,
     Value.int IntKind.i64 0, Value.int IntKind.i64 0, Value.bool false, Value.bool false, Value.int IntKind.i64 0, Value.int IntKind.i64 0, Value.int IntKind.i64 0, Value.bool false, Value.bool false, Value.int IntKind.i64 0, Value.int IntKind.i64 0,
     Value.int IntKind.i64 0, Value.bool false, Value.bool false, Value.int IntKind.i64 0, Value.int IntKind.i64 0, Value.int IntKind.i64 0, Value.bool false, Value.bool false, Value.int IntKind.i64 0, Value.int IntKind.i64 0, Value.int IntKind.i64 0,
     Value.bool false, Value.bool false, Value.int IntKind.i64 0, Value.int IntKind.i64 0, Value.int IntKind.i64 0, Value.bool false, Value.bool false, Value.int IntKind.i64 0, Value.int IntKind.i64 0, Value.int IntKind.i64 0, Value.bool false,
     Value.bool false, Value.int IntKind.i64 0, Value.int IntKind.i64 0, Value.int IntKind.i64 0, Value.bool false, Value.bool false, Value.int IntKind.i64 0, Value.int IntKind.i64 0, Value.int IntKind.i64 0, Value.bool false, Value.bool false,
     Value.int IntKind.i64 0, Value.int IntKind.i64 0, Value.int IntKind.i64 0, Value.bool false, Value.bool false, Value.int IntKind.i64 0, Value.int IntKind.i64 0, Value.int IntKind.i64 0, Value.bool false, Value.bool false, Value.int IntKind.i64 0,
     Value.int IntKind.i64 0, Value.int IntKind.i64 0, Value.bool false, Value.bool false, Value.int IntKind.i64 0, Value.int IntKind.i64 0, Value.int IntKind.i64 0, Value.bool false, Value.bool false, Value.int IntKind.i64 0, Value.int IntKind.i64 0,
     Value.int IntKind.i64 0, Value.bool false, Value.bool false, Value.int IntKind.i64 0, Value.int IntKind.i64 0, Value.int IntKind.i64 0, Value.bool false, Value.bool false, Value.int IntKind.i64 0, Value.int IntKind.i64 0, Value.int IntKind.i64 0,
     Value.bool false, Value.bool false, Value.int IntKind.i64 0, Value.int IntKind.i64 0, Value.int IntKind.i64 0, Value.bool false, Value.bool false, Value.int IntKind.i64 0, Value.int IntKind.i64 0, Value.int IntKind.i64 0, Value.bool false,
     Value.bool false, Value.int IntKind.i64 0, Value.int IntKind.i64 0, Value.int IntKind.i64 0, Value.bool false, Value.bool false, Value.int IntKind.i64 0, Value.int IntKind.i64 0, Value.int IntKind.i64 0, Value.bool false, Value.bool false,
     Value.int IntKind.i64 0, Value.int IntKind.i64 0, Value.int IntKind.i64 0, Value.bool false, Value.bool false, Value.int IntKind.i64 0, Value.int IntKind.i64 0, Value.int IntKind.i64 0, Value.bool false, Value.bool false, Value.int IntKind.i64 0,
     Value.int IntKind.i64 0, Value.int IntKind.i64 0, Value.bool false, Value.bool false, Value.int IntKind.i64 0, Value.int IntKind.i64 0, Value.int IntKind.i64 0, Value.bool false, Value.bool false, Value.int IntKind.i64 0, Value.int IntKind.i64 0,
     Value.int IntKind.i64 0, Value.bool false, Value.bool false, Value.int IntKind.i64 0, Value.int IntKind.i64 0, Value.int IntKind.i64 0, Value.bool false, Value.bool false, Value.int IntKind.i64 0, Value.int IntKind.i64 0, Value.int IntKind.i64 0,
     Value.bool false, Value.bool false, Value.int IntKind.i64 0, Value.int IntKind.i64 0, Value.int IntKind.i64 0, Value.bool false, Value.bool false, Value.int IntKind.i64 0, Value.int IntKind.i64 0, Value.int IntKind.i64 0, Value.bool false,
     Value.bool false, Value.int IntKind.i64 0, Value.int IntKind.i64 0, Value.int IntKind.i64 0, Value.bool false, Value.bool false, Value.int IntKind.i64 0, Value.int IntKind.i64 0, Value.int IntKind.i64 0, Value.bool false, Value.bool false,
     Value.int IntKind.i64 0, Value.int IntKind.i64 0, Value.int IntKind.i64 0, Value.bool false, Value.bool false, Value.int IntKind.i64 0, Value.int IntKind.i64 0, Value.int IntKind.i64 0, Value.bool false, Value.bool false, Value.int IntKind.i64 0,
     Value.int IntKind.i64 0, Value.int IntKind.i64 0, Value.bool false, Value.bool false, Value.int IntKind.i64 0, Value.int IntKind.i64 0, Value.int IntKind.i64 0, Value.bool false, Value.bool false, Value.int IntKind.i64 0, Value.int IntKind.i64 0,
     Value.int IntKind.i64 0, Value.bool false, Value.bool false, Value.int IntKind.i64 0, Value.int IntKind.i64 0, Value.int IntKind.i64 0, Value.bool false, Value.bool false, Value.int IntKind.i64 0, Value.int IntKind.i64 0, Value.int IntKind.i64 0,
     Value.bool false, Value.bool false, Value.int IntKind.i64 0, Value.int IntKind.i64 0, Value.int IntKind.i64 0, Value.bool false, Value.bool false, Value.int IntKind.i64 0, Value.int IntKind.i64 0, Value.int IntKind.i64 0, Value.bool false,
     Value.bool false, Value.int IntKind.i64 0, Value.int IntKind.i64 0, Value.int IntKind.i64 0, Value.bool false, Value.bool false, Value.int IntKind.i64 0, Value.int IntKind.i64 0, Value.int IntKind.i64 0, Value.bool false, Value.bool false,
     Value.int IntKind.i64 0, Value.int IntKind.i64 0, Value.int IntKind.i64 0, Value.bool false, Value.bool false, Value.int IntKind.i64 0, Value.int IntKind.i64 0, Value.int IntKind.i64 0, Value.bool false, Value.bool false, Value.int IntKind.i64 0,
     Value.int IntKind.i64 0, Value.int IntKind.i64 0, Value.bool false, Value.bool false, Value.int IntKind.i64 0, Value.int IntKind.i64 0, Value.int IntKind.i64 0, Value.bool false, Value.bool false, Value.int IntKind.i64 0, Value.int IntKind.i64 0,
     Value.int IntKind.i64 0, Value.bool false, Value.bool false, Value.int IntKind.i64 0, Value.int IntKind.i64 0, Value.int IntKind.i64 0, Value.bool false, Value.bool false, Value.int IntKind.i64 0, Value.int IntKind.i64 0, Value.int IntKind.i64 0,
     Value.bool false, Value.bool false, Value.int IntKind.i64 0, Value.int IntKind.i64 0, Value.int IntKind.i64 0, Value.bool false, Value.bool false, Value.int IntKind.i64 0, Value.int IntKind.i64 0, Value.int IntKind.i64 0, Value.bool false,
     Value.bool false, Value.int IntKind.i64 0, Value.int IntKind.i64 0, Value.int IntKind.i64 0, Value.bool false, Value.bool false, Value.int IntKind.i64 0, Value.int IntKind.i64 0, Value.int IntKind.i64 0, Value.bool false, Value.bool false,
     Value.int IntKind.i64 0, Value.int IntKind.i64 0, Value.int IntKind.i64 0, Value.bool false, Value.bool false, Value.int IntKind.i64 0, Value.int IntKind.i64 0, Value.int IntKind.i64 0, Value.bool false, Value.bool false, Value.int IntKind.i64 0,
     Value.int IntKind.i64 0, Value.int IntKind.i64 0, Value.bool false, Value.bool false, Value.int IntKind.i64 0, Value.int IntKind.i64 0, Value.int IntKind.i64 0, Value.bool false, Value.bool false, Value.int IntKind.i64 0, Value.int IntKind.i64 0,
     Value.int IntKind.i64 0, Value.bool false, Value.bool false, Value.int IntKind.i64 0, Value.int IntKind.i64 0, Value.int IntKind.i64 0, Value.bool false, Value.bool false, Value.int IntKind.i64 0, Value.int IntKind.i64 0, Value.int IntKind.i64 0,
     Value.bool false, Value.bool false, Value.int IntKind.i64 0, Value.int IntKind.i64 0, Value.int IntKind.i64 0, Value.bool false, Value.bool false, Value.int IntKind.i64 0, Value.int IntKind.i64 0, Value.int IntKind.i64 0, Value.bool false,
     Value.bool false, Value.int IntKind.i64 0, Value.int IntKind.i64 0, Value.int IntKind.i64 0, Value.bool false, Value.bool false, Value.int IntKind.i64 0, Value.int IntKind.i64 0, Value.int IntKind.i64 0, Value.bool false, Value.bool false,
     Value.int IntKind.i64 0, Value.int IntKind.i64 0, Value.int IntKind.i64 0, Value.bool false, Value.bool false, Value.int IntKind.i64 0, Value.int IntKind.i64 0, Value.int IntKind.i64 0, Value.bool false, Value.bool false, Value.int IntKind.i64 0,
     Value.int IntKind.i64 0, Value.int IntKind.i64 0, Value.bool false, Value.bool false, Value.int IntKind.i64 0, Value.int IntKind.i64 0, Value.int IntKind.i64 0, Value.bool false, Value.bool false, Value.int IntKind.i64 0, Value.int IntKind.i64 0,
     Value.int IntKind.i64 0, Value.bool false, Value.bool false, Value.int IntKind.i64 0, Value.int IntKind.i64 0, Value.int IntKind.i64 0, Value.bool false, Value.bool false, Value.int IntKind.i64 0, Value.int IntKind.i64 0, Value.int IntKind.i64 0,
     Value.bool false, Value.bool false, Value.int IntKind.i64 0, Value.int IntKind.i64 0, Value.int IntKind.i64 0, Value.bool false, Value.bool false, Value.int IntKind.i64 0, Value.int IntKind.i64 0, Value.int IntKind.i64 0, Value.bool false,
     Value.bool false, Value.int IntKind.i64 0, Value.int IntKind.i64 0, Value.int IntKind.i64 0, Value.bool false, Value.bool false, Value.int IntKind.i64 0, Value.int IntKind.i64 0, Value.int IntKind.i64 0, Value.bool false, Value.bool false,
     Value.int IntKind.i64 0, Value.int IntKind.i64 0, Value.int IntKind.i64 0, Value.bool false, Value.bool false, Value.int IntKind.i64 0, Value.int IntKind.i64 0, Value.int IntKind.i64 0, Value.bool false, Value.bool false, Value.int IntKind.i64 0,
     Value.int IntKind.i64 0, Value.int IntKind.i64 0, Value.bool false, Value.bool false, Value.int IntKind.i64 0, Value.int IntKind.i64 0, Value.int IntKind.i64 0, Value.bool false, Value.bool false, Value.int IntKind.i64 0, Value.int IntKind.i64 0,
     Value.int IntKind.i64 0, Value.bool false, Value.bool false, Value.int IntKind.i64 0, Value.int IntKind.i64 0, Value.int IntKind.i64 0, Value.bool false, Value.bool false, Value.int IntKind.i64 0, Value.int IntKind.i64 0, Value.int IntKind.i64 0,
     Value.bool false, Value.bool false, Value.int IntKind.i64 0, Value.int IntKind.i64 0, Value.int IntKind.i64 0, Value.bool false, Value.bool false, Value.int IntKind.i64 0, Value.int IntKind.i64 0, Value.int IntKind.i64 0, Value.bool false,
     Value.bool false, Value.int IntKind.i64 0, Value.int IntKind.i64 0, Value.int IntKind.i64 0, Value.bool false, Value.bool false, Value.int IntKind.i64 0, Value.int IntKind.i64 0, Value.int IntKind.i64 0, Value.bool false, Value.bool false,
     Value.int IntKind.i64 0, Value.int IntKind.i64 0, Value.int IntKind.i64 0, Value.bool false, Value.bool false, Value.int IntKind.i64 0, Value.int IntKind.i64 0, Value.int IntKind.i64 0, Value.bool false, Value.bool false, Value.int IntKind.i64 0,
     Value.int IntKind.i64 0, Value.int IntKind.i64 0, Value.bool false, Value.bool false, Value.int IntKind.i64 0, Value.int IntKind.i64 0, Value.int IntKind.i64 0, Value.bool false, Value.bool false, Value.int IntKind.i64 0, Value.int IntKind.i64 0,
     Value.int IntKind.i64 0, Value.bool false, Value.bool false, Value.int IntKind.i64 0, Value.int IntKind.i64 0, Value.int IntKind.i64 0, Value.bool false, Value.bool false, Value.int IntKind.i64 0, Value.int IntKind.i64 0, Value.int IntKind.i64 0,
     Value.bool false, Value.bool false, Value.int IntKind.i64 0, Value.int IntKind.i64 0, Value.int IntKind.i64 0, Value.bool false, Value.bool false, Value.int IntKind.i64 0, Value.int IntKind.i64 0, Value.int IntKind.i64 0, Value.bool false,
     Value.bool false, Value.int IntKind.i64 0, Value.int IntKind.i64 0, Value.int IntKind.i64 0, Value.bool false, Value.bool false, Value.int IntKind.i64 0, Value.int IntKind.i64 0, Value.int IntKind.i64 0, Value.bool false, Value.bool false,
     Value.int IntKind.i64 0, Value.int IntKind.i64 0, Value.int IntKind.i64 0, Value.bool false, Value.bool false, Value.int IntKind.i64 0, Value.int IntKind.i64 0, Value.int IntKind.i64 0, Value.bool false, Value.bool false, Value.int IntKind.i64 0,
     Value.int IntKind.i64 0, Value.int IntKind.i64 0, Value.bool false, Value.bool false, Value.int IntKind.i64 0, Value.int IntKind.i64 0, Value.int IntKind.i64 0, Value.bool false, Value.bool false, Value.int IntKind.i64 0, Value.int IntKind.i64 0,
     Value.int IntKind.i64 0, Value.bool false, Value.bool false, Value.int IntKind.i64 0, Value.int IntKind.i64 0, Value.int IntKind.i64 0, Value.bool false, Value.bool false, Value.int IntKind.i64 0, Value.int IntKind.i64 0, Value.int IntKind.i64 0,
     Value.bool false, Value.bool false, Value.int IntKind.i64 0, Value.int IntKind.i64 0, Value.int IntKind.i64 0, Value.bool false, Value.bool false, Value.int IntKind.i64 0, Value.int IntKind.i64 0, Value.int IntKind.i64 0, Value.bool false,
     Value.bool false, Value.int IntKind.i64 0, Value.int IntKind.i64 0, Value.int IntKind.i64 0, Value.bool false, Value.bool false, Value.int IntKind.i64 0, Value.int IntKind.i64 0, Value.int IntKind.i64 0, Value.bool false, Value.bool false,
     Value.int IntKind.i64 0, Value.int IntKind.i64 0, Value.int IntKind.i64 0, Value.bool false, Value.bool false, Value.int IntKind.i64 0, Value.int IntKind.i64 0, Value.int IntKind.i64 0, Value.bool false, Value.bool false, Value.int IntKind.i64 0,
     Value.int IntKind.i64 0, Value.int IntKind.i64 0, Value.bool false, Value.bool false, Value.int IntKind.i64 0, Value.int IntKind.i64 0, Value.int IntKind.i64 0, Value.bool false, Value.bool false, Value.int IntKind.i64 0, Value.int IntKind.i64 0,
     Value.int IntKind.i64 0, Value.bool false, Value.bool false, Value.int IntKind.i64 0, Value.int IntKind.i64 0, Value.int IntKind.i64 0, Value.bool false, Value.bool false, Value.int IntKind.i64 0, Value.int IntKind.i64 0, Value.int IntKind.i64 0,
     Value.bool false, Value.bool false, Value.int IntKind.i64 0, Value.int IntKind.i64 0, Value.int IntKind.i64 0, Value.bool false, Value.bool false, Value.int IntKind.i64 0, Value.int IntKind.i64 0, Value.int IntKind.i64 0, Value.bool false,
     Value.bool false, Value.int IntKind.i64 0, Value.int IntKind.i64 0, Value.int IntKind.i64 0, Value.bool false, Value.bool false, Value.int IntKind.i64 0, Value.int IntKind.i64 0, Value.int IntKind.i64 0, Value.bool false, Value.bool false,
     Value.int IntKind.i64 0, Value.int IntKind.i64 0, Value.int IntKind.i64 0, Value.bool false, Value.bool false, Value.int IntKind.i64 0, Value.int IntKind.i64 0, Value.int IntKind.i64 0, Value.bool false, Value.bool false, Value.int IntKind.i64 0,
     Value.int IntKind.i64 0, Value.int IntKind.i64 0, Value.bool false, Value.bool false, Value.int IntKind.i64 0, Value.int IntKind.i64 0, Value.int IntKind.i64 0, Value.bool false, Value.bool false, Value.int IntKind.i64 0, Value.int IntKind.i64 0,
     Value.int IntKind.i64 0, Value.bool false, Value.bool false, Value.int IntKind.i64 0, Value.int IntKind.i64 0, Value.int IntKind.i64 0, Value.bool false, Value.bool false, Value.int IntKind.i64 0, Value.int IntKind.i64 0, Value.int IntKind.i64 0,
     Value.bool false, Value.bool false, Value.int IntKind.i64 0, Value.int IntKind.i64 0, Value.int IntKind.i64 0, Value.bool false, Value.bool false, Value.int IntKind.i64 0, Value.int IntKind.i64 0, Value.int IntKind.i64 0, Value.bool false,
     Value.bool false, Value.int IntKind.i64 0, Value.int IntKind.i64 0, Value.int IntKind.i64 0, Value.bool false, Value.bool false, Value.int IntKind.i64 0, Value.int IntKind.i64 0, Value.int IntKind.i64 0, Value.bool false, Value.bool false,
     Value.int IntKind.i64 0, Value.int IntKind.i64 0, Value.int IntKind.i64 0, Value.bool false, Value.bool false, Value.int IntKind.i64 0, Value.int IntKind.i64 0, Value.int IntKind.i64 0, Value.bool false, Value.bool false, Value.int IntKind.i64 0,
     Value.int IntKind.i64 0, Value.int IntKind.i64 0, Value.bool false, Value.bool false, Value.int IntKind.i64 0, Value.int IntKind.i64 0, Value.int IntKind.i64 0, Value.bool false, Value.bool false, Value.int IntKind.i64 0, Value.int IntKind.i64 0,
     Value.int IntKind.i64 0, Value.bool false, Value.bool false, Value.int IntKind.i64 0, Value.int IntKind.i64 0, Value.int IntKind.i64 0, Value.bool false, Value.bool false, Value.int IntKind.i64 0] }
  63 fun (b : Nat) (w2 : World) =>
  CaP Try.prog 11 (Sh.tup [El.one (Sc.int IntKind.i64), El.one (Sc.int IntKind.i64)]) [Value.pointer none, Value.int IntKind.i64 1, Value.int IntKind.i64 2] w2 fun (x : Int × Int × Unit) (w2 : World) =>
   CaP Try.prog 11 (Sh.tup [El.one (Sc.int IntKind.i64), El.one (Sc.int IntKind.i64)]) [Value.pointer (some { block := b, off := 0 }), Value.int IntKind.i64 1, Value.int IntKind.i64 2] w2 fun (x_1 : Int × Int × Unit) (w2 : World) =>
    CaP Try.prog 13 (Sh.tup [El.one (Sc.int IntKind.i64), El.one (Sc.int IntKind.i64)]) [Value.pointer none, Value.int IntKind.i64 1, Value.int IntKind.i64 2, Value.int IntKind.i64 0] w2 fun (x_2 : Int × Int × Unit) (w2 : World) =>
     CaP Try.prog 19 (Sh.tup [El.one (Sc.int IntKind.i64), El.one Sc.bool]) [Value.pointer (some { block := b, off := 0 }), Value.int IntKind.i64 1] w2 fun (x_3 : Int × Bool × Unit) (w2 : World) =>
      ∃ (x_4 : (Int × Int × Int × Bool × Bool × Unit) × Bool × Unit),
       QCalls Try.prog 30 [Value.pointer none, Value.int IntKind.i64 1, Value.int IntKind.i64 n] w2
         (Value.tuple
          {
           toList :=
            [Value.agg { toList := [Value.int IntKind.i64 x_4.fst.fst, Value.int IntKind.i64 x_4.fst.snd.fst, Value.int IntKind.i64 x_4.fst.snd.snd.fst, Value.bool x_4.fst.snd.snd.snd.fst, Value.bool x_4.fst.snd.snd.snd.snd.fst] },
             Value.bool x_4.snd.fst] }) ∧
        AlP w2 { toList := [Value.int IntKind.i64 0, Value.int IntKind.i64 0, Value.int IntKind.i64 0, Value.bool false, Value.bool false] } 45 fun (b_1 : Nat) (w2 : World) =>
         StP w2 (some { block := b_1, off := 0 }) [Value.int IntKind.i64 x_4.fst.fst, Value.int IntKind.i64 x_4.fst.snd.fst, Value.int IntKind.i64 x_4.fst.snd.snd.fst, Value.bool x_4.fst.snd.snd.snd.fst, Value.bool x_4.fst.snd.snd.snd.snd.fst]
          fun (w2 : World) =>
          brP (x.snd.fst == 10 && x_1.snd.fst == 10 && x_2.snd.fst == 10 && !x_3.snd.fst && !x_4.snd.fst)
           (CaP Try.prog 15 (Sh.el (El.one (Sc.int IntKind.i64))) [Value.pointer none, Value.int IntKind.i64 1, Value.int IntKind.i64 n] w2 fun (x : Int) (w2 : World) =>
            brP (x == 10)
             (CaP Try.prog 17 (Sh.el (El.one (Sc.int IntKind.i64))) [Value.pointer (some { block := b, off := 0 }), Value.int IntKind.i64 1, Value.int IntKind.i64 n, Value.bool true] w2 fun (x : Int) (w2 : World) =>
              brP (x == 10)
               (CaP Try.prog 21 (Sh.el (El.one (Sc.int IntKind.i64))) [Value.pointer none, Value.int IntKind.i64 1, Value.int IntKind.i64 n] w2 fun (x : Int) (w2 : World) =>
                brP (x == 10)
                 (CaP Try.prog 23 (Sh.el (El.one (Sc.int IntKind.i64))) [Value.pointer none, Value.int IntKind.i64 n] w2 fun (x : Int) (w2 : World) =>
                  brP (x == 0)
                   (CaP Try.prog 26 (Sh.el (El.one Sc.slice)) [Value.pointer (some { block := b, off := 0 }), Value.int IntKind.i64 1] w2 fun (x : Option Addr × Nat × Nat) (w2 : World) =>
                    ∃ (x_5 : Bool),
                     (((↑x.snd.fst : Int) == 0) = true → QCalls Try.prog 28 [Value.pointer none, Value.int IntKind.i64 1, Value.int IntKind.i64 1] w2 (Value.bool x_5)) ∧
                      ∃ (x_6 : Bool),
                       (((↑x.snd.fst : Int) == 0 && !x_5) = true → QCalls Try.prog 28 [Value.pointer (some { block := b, off := 0 }), Value.int IntKind.i64 1, Value.int IntKind.i64 1] w2 (Value.bool x_6)) ∧
                        brP ((↑x.snd.fst : Int) == 0 && !x_5 && !x_6) (CaP Try.prog 33 (Sh.el (El.one Sc.bool)) [] w2 fun (x : Bool) (w2 : World) => EnP w2 fun (w1 : World) => Post x w1) (EnP w2 fun (w1 : World) => Post false w1))
                   (∃ (x : Bool),
                    (false = true → QCalls Try.prog 28 [Value.pointer none, Value.int IntKind.i64 1, Value.int IntKind.i64 1] w2 (Value.bool x)) ∧
                     ∃ (x : Bool), (false = true → QCalls Try.prog 28 [Value.pointer (some { block := b, off := 0 }), Value.int IntKind.i64 1, Value.int IntKind.i64 1] w2 (Value.bool x)) ∧ EnP w2 fun (w1 : World) => Post false w1))
                 (∃ (x : Bool),
                  (false = true → QCalls Try.prog 28 [Value.pointer none, Value.int IntKind.i64 1, Value.int IntKind.i64 1] w2 (Value.bool x)) ∧
                   ∃ (x : Bool), (false = true → QCalls Try.prog 28 [Value.pointer (some { block := b, off := 0 }), Value.int IntKind.i64 1, Value.int IntKind.i64 1] w2 (Value.bool x)) ∧ EnP w2 fun (w1 : World) => Post false w1))
               (∃ (x : Bool),
                (false = true → QCalls Try.prog 28 [Value.pointer none, Value.int IntKind.i64 1, Value.int IntKind.i64 1] w2 (Value.bool x)) ∧
                 ∃ (x : Bool), (false = true → QCalls Try.prog 28 [Value.pointer (some { block := b, off := 0 }), Value.int IntKind.i64 1, Value.int IntKind.i64 1] w2 (Value.bool x)) ∧ EnP w2 fun (w1 : World) => Post false w1))
             (∃ (x : Bool),
              (false = true → QCalls Try.prog 28 [Value.pointer none, Value.int IntKind.i64 1, Value.int IntKind.i64 1] w2 (Value.bool x)) ∧
               ∃ (x : Bool), (false = true → QCalls Try.prog 28 [Value.pointer (some { block := b, off := 0 }), Value.int IntKind.i64 1, Value.int IntKind.i64 1] w2 (Value.bool x)) ∧ EnP w2 fun (w1 : World) => Post false w1))
           (∃ (x : Bool),
            (false = true → QCalls Try.prog 28 [Value.pointer none, Value.int IntKind.i64 1, Value.int IntKind.i64 1] w2 (Value.bool x)) ∧
             ∃ (x : Bool), (false = true → QCalls Try.prog 28 [Value.pointer (some { block := b, off := 0 }), Value.int IntKind.i64 1, Value.int IntKind.i64 1] w2 (Value.bool x)) ∧ EnP w2 fun (w1 : World) => Post false w1)) := by kernel_rfl
def tfull_vc_ann : Nat → Slots := (fun | 11 => [(14, Go.RX.El.one (Go.RX.Sc.int Go.IntKind.i64))] | _ => [])
theorem tfull_vc (r x y c : Int) (w : World) (Post : Bool → World → Prop) : (rxFn R2 tfull_vc_ann 8 [.int .u8 r, .agg ⟨[.int .u8 x, .int .u8 y]⟩, .int .u8 c] w Post) = (
 AlP w { toList := [Value.int IntKind.u8 x, Value.int IntKind.u8 y] } 65 fun (b : Nat) (w2 : World) =>
  CaP Try.prog 9 (Sh.tup [El.one Sc.ptr, El.one (Sc.int IntKind.i64)]) [Value.int IntKind.i64 (addI IntKind.i64 1 (remI (convI IntKind.i64 r) 32))] w2 fun (x : Option Addr × Int × Unit) (w2 : World) =>
   (true = true ∧ (0 : Int) ≤ 0 ∧ 0 < (↑2 : Int)) ∧
    LdP w2 none (addP (some { block := b, off := 0 }) 0) (El.one (Sc.int IntKind.u8)) fun (x_1 : Int) =>
     (true = true ∧ (0 : Int) ≤ 1 ∧ 1 < (↑2 : Int)) ∧
      LdP w2 none (addP (some { block := b, off := 0 }) 1) (El.one (Sc.int IntKind.u8)) fun (x_2 : Int) =>
       brP (x.snd.fst != 0 || x.fst.isNone) (EnP w2 fun (w1 : World) => Post false w1)
        (brP (addI IntKind.i64 1 (remI (convI IntKind.i64 x_1) 16) == addI IntKind.i64 1 (remI (convI IntKind.i64 x_2) 16))
         (CaP Try.prog 11 (Sh.tup [El.one (Sc.int IntKind.i64), El.one (Sc.int IntKind.i64)])
          [Value.pointer x.fst, Value.int IntKind.i64 (addI IntKind.i64 1 (remI (convI IntKind.i64 x_1) 16)), Value.int IntKind.i64 (addI IntKind.i64 1 (remI (convI IntKind.i64 x_2) 16))] w2 fun (x : Int × Int × Unit) (w2 : World) =>
          brP (x.snd.fst == 1) (CaP Try.prog 33 (Sh.el (El.one Sc.bool)) [] w2 fun (x : Bool) (w2 : World) => EnP w2 fun (w1 : World) => Post x w1) (EnP w2 fun (w1 : World) => Post false w1))
         (∃ (I : Nat → Int × Unit → World → Prop),
          (∃ (n : Nat), ∀ (w1 : World), Ext w2 w1 → I n (0, Unit.unit) w1) ∧
           ∀ (n : Nat) (s : Int × Unit) (w1 : World),
            I n s w1 →
             brP (decide (s.fst < addI IntKind.i64 1 (remI (convI IntKind.i64 r) 32)))
              (CaP Try.prog 11 (Sh.tup [El.one (Sc.int IntKind.i64), El.one (Sc.int IntKind.i64)])
               [Value.pointer x.fst, Value.int IntKind.i64 (addI IntKind.i64 1 (remI (convI IntKind.i64 x_1) 16)), Value.int IntKind.i64 (addI IntKind.i64 1 (remI (convI IntKind.i64 x_2) 16))] w1 fun (x : Int × Int × Unit) (w2 : World) =>
               brP (x.fst != s.fst || x.snd.fst != 0) (EnP w2 fun (w1 : World) => Post false w1) (∀ (w3 : World), Ext w2 w3 → ∃ (n' : Nat), n' < n ∧ I n' (addI IntKind.i64 s.fst 1, Unit.unit) w3))
              (addI IntKind.i64 1 (remI (convI IntKind.i64 r) 32) ≠ 0 ∧
               CaP Try.prog 11 (Sh.tup [El.one (Sc.int IntKind.i64), El.one (Sc.int IntKind.i64)])
                [Value.pointer x.fst, Value.int IntKind.i64 (addI IntKind.i64 1 (remI (convI IntKind.i64 x_1) 16)), Value.int IntKind.i64 (addI IntKind.i64 1 (remI (convI IntKind.i64 x_2) 16))] w1 fun (x_3 : Int × Int × Unit) (w2 : World) =>
                CaP Try.prog 21 (Sh.el (El.one (Sc.int IntKind.i64)))
                 [Value.pointer x.fst, Value.int IntKind.i64 (addI IntKind.i64 1 (remI (convI IntKind.i64 x_1) 16)), Value.int IntKind.i64 (remI (convI IntKind.i64 c) (addI IntKind.i64 1 (remI (convI IntKind.i64 r) 32)))] w2
                 fun (x_4 : Int) (w2 : World) =>
                 CaP Try.prog 11 (Sh.tup [El.one (Sc.int IntKind.i64), El.one (Sc.int IntKind.i64)])
                  [Value.pointer x.fst, Value.int IntKind.i64 (addI IntKind.i64 1 (remI (convI IntKind.i64 x_1) 16)), Value.int IntKind.i64 (addI IntKind.i64 1 (remI (convI IntKind.i64 x_2) 16))] w2 fun (x_5 : Int × Int × Unit) (w2 : World) =>
                  brP (x_3.snd.fst == 3 && x_4 == 0 && x_5.fst == remI (convI IntKind.i64 c) (addI IntKind.i64 1 (remI (convI IntKind.i64 r) 32)) && x_5.snd.fst == 0)
                   (CaP Try.prog 23 (Sh.el (El.one (Sc.int IntKind.i64))) [Value.pointer x.fst, Value.int IntKind.i64 (addI IntKind.i64 1 (remI (convI IntKind.i64 x_2) 16))] w2 fun (x : Int) (w2 : World) =>
                    brP (x == addI IntKind.i64 1 (remI (convI IntKind.i64 r) 32)) (CaP Try.prog 33 (Sh.el (El.one Sc.bool)) [] w2 fun (x : Bool) (w2 : World) => EnP w2 fun (w1 : World) => Post x w1) (EnP w2 fun (w1 : World) => Post false w1))
                   (EnP w2 fun (w1 : World) => Post false w1))))) := by kernel_rfl
def tev_vc_ann : Nat → Slots := (fun | 5 => [(5, Go.RX.El.one (Go.RX.Sc.int Go.IntKind.i64))] | 14 => [(12, Go.RX.El.one (Go.RX.Sc.int Go.IntKind.i64))] | 20 => [(14, Go.RX.El.one (Go.RX.Sc.int Go.IntKind.i64)), (15, Go.RX.El.one (Go.RX.Sc.int Go.IntKind.i64))] | _ => [])
theorem tev_vc (p : Option Addr) (m c : Nat) (w : World) (Post : Bool → World → Prop) : (rxFn R2 tev_vc_ann 5 [.slice p m c] w Post) = (
 CaP Try.prog 9 (Sh.tup [El.one Sc.ptr, El.one (Sc.int IntKind.i64)]) [Value.int IntKind.i64 3] w fun (x : Option Addr × Int × Unit) (w2 : World) =>
  brP (x.snd.fst != 0 || x.fst.isNone) (EnP w2 fun (w1 : World) => Post false w1)
   (∃ (I : Nat → Int × Unit → World → Prop),
    (∃ (n : Nat), ∀ (w1 : World), Ext w2 w1 → I n (0, Unit.unit) w1) ∧
     ∀ (n : Nat) (s : Int × Unit) (w1 : World),
      I n s w1 →
       brP (decide (s.fst < 3))
        (CaP Try.prog 11 (Sh.tup [El.one (Sc.int IntKind.i64), El.one (Sc.int IntKind.i64)]) [Value.pointer x.fst, Value.int IntKind.i64 1, Value.int IntKind.i64 2] w1 fun (x_1 : Int × Int × Unit) (w2 : World) =>
         CaP Try.prog 13 (Sh.tup [El.one (Sc.int IntKind.i64), El.one (Sc.int IntKind.i64)]) [Value.pointer x.fst, Value.int IntKind.i64 2, Value.int IntKind.i64 1, Value.int IntKind.i64 s.fst] w2 fun (x : Int × Int × Unit) (w2 : World) =>
          brP (x_1.fst != s.fst || x_1.snd.fst != 0 || x.fst != s.fst || x.snd.fst != 0) (EnP w2 fun (w1 : World) => Post false w1) (∀ (w3 : World), Ext w2 w3 → ∃ (n' : Nat), n' < n ∧ I n' (addI IntKind.i64 s.fst 1, Unit.unit) w3))
        (AlP w1 { toList := [Value.bool false, Value.bool false, Value.bool false] } 56 fun (b : Nat) (w2 : World) =>
         StP w2 (some { block := b, off := 0 }) [Value.bool false, Value.bool false, Value.bool false] fun (w2 : World) =>
          AlP w2 { toList := [Value.bool false, Value.bool false, Value.bool false] } 56 fun (b_1 : Nat) (w2 : World) =>
           StP w2 (some { block := b_1, off := 0 }) [Value.bool false, Value.bool false, Value.bool false] fun (w2 : World) =>
            ∃ (I : Nat → Int × Unit → World → Prop),
             (∃ (n : Nat), ∀ (w1 : World), Ext w2 w1 → I n (0, Unit.unit) w1) ∧
              ∀ (n : Nat) (s : Int × Unit) (w1 : World),
               I n s w1 →
                brP (decide (s.fst < (↑m : Int)) && decide (s.fst < 100))
                 ((p.isSome = true ∧ 0 ≤ s.fst ∧ s.fst < (↑m : Int)) ∧
                  LdP w1 none (addP p (Int.toNat s.fst * 1)) (El.one (Sc.int IntKind.u8)) fun (x_1 : Int) =>
                   (p.isSome = true ∧ 0 ≤ s.fst ∧ s.fst < (↑m : Int)) ∧
                    LdP w1 none (addP p (Int.toNat s.fst * 1)) (El.one (Sc.int IntKind.u8)) fun (x_2 : Int) =>
                     brP (remI x_2 4 == 0)
                      (CaP Try.prog 15 (Sh.el (El.one (Sc.int IntKind.i64))) [Value.pointer x.fst, Value.int IntKind.i64 2, Value.int IntKind.i64 (remI (convI IntKind.i64 (quoI IntKind.u8 x_1 4)) 3)] w1 fun (x_3 : Int) (w2 : World) =>
                       (true = true ∧ 0 ≤ remI (convI IntKind.i64 (quoI IntKind.u8 x_1 4)) 3 ∧ remI (convI IntKind.i64 (quoI IntKind.u8 x_1 4)) 3 < (↑3 : Int)) ∧
                        StP w2 (addP (some { block := b, off := 0 }) ((remI (convI IntKind.i64 (quoI IntKind.u8 x_1 4)) 3).toNat * 1)) [Value.bool true] fun (w2 : World) =>
                         CaP Try.prog 26 (Sh.el (El.one Sc.slice)) [Value.pointer x.fst, Value.int IntKind.i64 2] w2 fun (x : Option Addr × Nat × Nat) (w2 : World) =>
                          brP ((↑x.snd.fst : Int) != 0) (EnP w2 fun (w1 : World) => Post false w1) (∀ (w3 : World), Ext w2 w3 → ∃ (n' : Nat), n' < n ∧ I n' (addI IntKind.i64 s.fst 1, Unit.unit) w3))
                      (brP (remI x_2 4 == 1)
                       ((true = true ∧ 0 ≤ remI (convI IntKind.i64 (quoI IntKind.u8 x_1 4)) 3 ∧ remI (convI IntKind.i64 (quoI IntKind.u8 x_1 4)) 3 < (↑3 : Int)) ∧
                        LdP w1 none (addP (some { block := b_1, off := 0 }) ((remI (convI IntKind.i64 (quoI IntKind.u8 x_1 4)) 3).toNat * 1)) (El.one Sc.bool) fun (x_3 : Bool) =>
                         (true = true ∧ 0 ≤ remI (convI IntKind.i64 (quoI IntKind.u8 x_1 4)) 3 ∧ remI (convI IntKind.i64 (quoI IntKind.u8 x_1 4)) 3 < (↑3 : Int)) ∧
                          StP w1 (addP (some { block := b_1, off := 0 }) ((remI (convI IntKind.i64 (quoI IntKind.u8 x_1 4)) 3).toNat * 1)) [Value.bool !x_3] fun (w2 : World) =>
                           (true = true ∧ 0 ≤ remI (convI IntKind.i64 (quoI IntKind.u8 x_1 4)) 3 ∧ remI (convI IntKind.i64 (quoI IntKind.u8 x_1 4)) 3 < (↑3 : Int)) ∧
                            LdP w2 none (addP (some { block := b_1, off := 0 }) ((remI (convI IntKind.i64 (quoI IntKind.u8 x_1 4)) 3).toNat * 1)) (El.one Sc.bool) fun (x_4 : Bool) =>
                             CaP Try.prog 17 (Sh.el (El.one (Sc.int IntKind.i64))) [Value.pointer x.fst, Value.int IntKind.i64 1, Value.int IntKind.i64 (remI (convI IntKind.i64 (quoI IntKind.u8 x_1 4)) 3), Value.bool x_4] w2
                              fun (x_5 : Int) (w2 : World) =>
                              CaP Try.prog 26 (Sh.el (El.one Sc.slice)) [Value.pointer x.fst, Value.int IntKind.i64 2] w2 fun (x : Option Addr × Nat × Nat) (w2 : World) =>
                               brP ((↑x.snd.fst : Int) != 0) (EnP w2 fun (w1 : World) => Post false w1) (∀ (w3 : World), Ext w2 w3 → ∃ (n' : Nat), n' < n ∧ I n' (addI IntKind.i64 s.fst 1, Unit.unit) w3))
                       (∃ (I_1 : Nat → Int × Int × Unit → World → Prop),
                        (∃ (n : Nat), ∀ (w1_1 : World), Ext w1 w1_1 → I_1 n (-1, 2, Unit.unit) w1_1) ∧
                         ∀ (n_1 : Nat) (s_1 : Int × Int × Unit) (w1 : World),
                          I_1 n_1 s_1 w1 →
                           brP (decide (s_1.snd.fst ≥ 0))
                            ((true = true ∧ 0 ≤ s_1.snd.fst ∧ s_1.snd.fst < (↑3 : Int)) ∧
                             LdP w1 none (addP (some { block := b, off := 0 }) (Int.toNat s_1.snd.fst * 1)) (El.one Sc.bool) fun (x : Bool) =>
                              (x = true → true = true ∧ 0 ≤ s_1.snd.fst ∧ s_1.snd.fst < (↑3 : Int)) ∧
                               LdP w1 (some x) (addP (some { block := b_1, off := 0 }) (Int.toNat s_1.snd.fst * 1)) (El.one Sc.bool) fun (x_3 : Bool) =>
                                brP (x && !x_3) (∀ (w3 : World), Ext w1 w3 → ∃ (n' : Nat), n' < n_1 ∧ I_1 n' (s_1.snd.fst, subI IntKind.i64 s_1.snd.fst 1, Unit.unit) w3)
                                 (∀ (w3 : World), Ext w1 w3 → ∃ (n' : Nat), n' < n_1 ∧ I_1 n' (s_1.fst, subI IntKind.i64 s_1.snd.fst 1, Unit.unit) w3))
                            (CaP Try.prog 19 (Sh.tup [El.one (Sc.int IntKind.i64), El.one Sc.bool]) [Value.pointer x.fst, Value.int IntKind.i64 1] w1 fun (x_3 : Int × Bool × Unit) (w2 : World) =>
                             brP (!x_3.snd.fst == decide (s_1.fst ≥ 0) || x_3.snd.fst && x_3.fst != s_1.fst) (EnP w2 fun (w1 : World) => Post false w1)
                              (brP x_3.snd.fst
                               ((true = true ∧ 0 ≤ x_3.fst ∧ x_3.fst < (↑3 : Int)) ∧
                                StP w2 (addP (some { block := b, off := 0 }) (Int.toNat x_3.fst * 1)) [Value.bool false] fun (w2 : World) =>
                                 CaP Try.prog 26 (Sh.el (El.one Sc.slice)) [Value.pointer x.fst, Value.int IntKind.i64 2] w2 fun (x : Option Addr × Nat × Nat) (w2 : World) =>
                                  brP ((↑x.snd.fst : Int) != 0) (EnP w2 fun (w1 : World) => Post false w1) (∀ (w3 : World), Ext w2 w3 → ∃ (n' : Nat), n' < n ∧ I n' (addI IntKind.i64 s.fst 1, Unit.unit) w3))
                               (CaP Try.prog 26 (Sh.el (El.one Sc.slice)) [Value.pointer x.fst, Value.int IntKind.i64 2] w2 fun (x : Option Addr × Nat × Nat) (w2 : World) =>
                                brP ((↑x.snd.fst : Int) != 0) (EnP w2 fun (w1 : World) => Post false w1) (∀ (w3 : World), Ext w2 w3 → ∃ (n' : Nat), n' < n ∧ I n' (addI IntKind.i64 s.fst 1, Unit.unit) w3)))))))
                 (CaP Try.prog 33 (Sh.el (El.one Sc.bool)) [] w1 fun (x : Bool) (w2 : World) => EnP w2 fun (w1 : World) => Post x w1)))) := by kernel_rfl
def tpeer_vc_ann : Nat → Slots := (fun | 5 => [(5, Go.RX.El.one (Go.RX.Sc.int Go.IntKind.i64))] | 20 => [(7, Go.RX.El.one (Go.RX.Sc.int Go.IntKind.i64))] | 23 => [(8, Go.RX.El.one (Go.RX.Sc.int Go.IntKind.i64))] | _ => [])
theorem tpeer_vc (p : Option Addr) (m c : Nat) (w : World) (Post : Bool → World → Prop) : (rxFn R2 tpeer_vc_ann 4 [.slice p m c] w Post) = (
 CaP Try.prog 9 (Sh.tup [El.one Sc.ptr, El.one (Sc.int IntKind.i64)]) [Value.int IntKind.i64 4] w fun (x : Option Addr × Int × Unit) (w2 : World) =>
  brP (x.snd.fst != 0 || x.fst.isNone) (EnP w2 fun (w1 : World) => Post false w1)
   (∃ (I : Nat → Int × Unit → World → Prop),
    (∃ (n : Nat), ∀ (w1 : World), Ext w2 w1 → I n (0, Unit.unit) w1) ∧
     ∀ (n : Nat) (s : Int × Unit) (w1 : World),
      I n s w1 →
       brP (decide (s.fst < (↑m : Int)) && decide (s.fst < 80))
        ((p.isSome = true ∧ 0 ≤ s.fst ∧ s.fst < (↑m : Int)) ∧
         LdP w1 none (addP p (Int.toNat s.fst * 5)) (El.agg [Sc.int IntKind.i64, Sc.int IntKind.i64, Sc.int IntKind.i64, Sc.int IntKind.i64, Sc.bool]) fun (x_1 : Int × Int × Int × Int × Bool × Unit) =>
          AlP w1 { toList := [Value.int IntKind.i64 0, Value.int IntKind.i64 0, Value.int IntKind.i64 0, Value.int IntKind.i64 0, Value.bool false] } 31 fun (b : Nat) (w2 : World) =>
           StP w2 (some { block := b, off := 0 }) [Value.int IntKind.i64 x_1.fst, Value.int IntKind.i64 x_1.snd.fst, Value.int IntKind.i64 x_1.snd.snd.fst, Value.int IntKind.i64 x_1.snd.snd.snd.fst, Value.bool x_1.snd.snd.snd.snd.fst]
            fun (w2 : World) =>
            true = true ∧
             LdP w2 none (addP (some { block := b, off := 0 }) 0) (El.one (Sc.int IntKind.i64)) fun (x_2 : Int) =>
              brP (x_2 == 0)
               (true = true ∧
                LdP w2 none (addP (some { block := b, off := 0 }) 1) (El.one (Sc.int IntKind.i64)) fun (x_3 : Int) =>
                 true = true ∧
                  LdP w2 none (addP (some { block := b, off := 0 }) 2) (El.one (Sc.int IntKind.i64)) fun (x_4 : Int) =>
                   CaP Try.prog 11 (Sh.tup [El.one (Sc.int IntKind.i64), El.one (Sc.int IntKind.i64)]) [Value.pointer x.fst, Value.int IntKind.i64 x_3, Value.int IntKind.i64 x_4] w2 fun (x_5 : Int × Int × Unit) (w2 : World) =>
                    ∃ (I_1 : Nat → Int × Unit → World → Prop),
                     (∃ (n : Nat), ∀ (w1 : World), Ext w2 w1 → I_1 n (1, Unit.unit) w1) ∧
                      ∀ (n_1 : Nat) (s_1 : Int × Unit) (w1 : World),
                       I_1 n_1 s_1 w1 →
                        brP (decide (s_1.fst < 17))
                         (∃ (I : Nat → Int × Unit → World → Prop),
                          (∃ (n : Nat), ∀ (w1_1 : World), Ext w1 w1_1 → I n (0, Unit.unit) w1_1) ∧
                           ∀ (n : Nat) (s : Int × Unit) (w1 : World),
                            I n s w1 →
                             brP (decide (s.fst < 4))
                              (∃ (x_6 : (Int × Int × Int × Bool × Bool × Unit) × Bool × Unit),
                               QCalls Try.prog 30 [Value.pointer x.fst, Value.int IntKind.i64 s_1.fst, Value.int IntKind.i64 s.fst] w1
                                 (Value.tuple
                                  {
                                   toList :=
                                    [Value.agg
                                      { toList := [Value.int IntKind.i64 x_6.fst.fst, Value.int IntKind.i64 x_6.fst.snd.fst, Value.int IntKind.i64 x_6.fst.snd.snd.fst, Value.bool x_6.fst.snd.snd.snd.fst, Value.bool x_6.fst.snd.snd.snd.snd.fst] },
                                     Value.bool x_6.snd.fst] }) ∧
                                AlP w1 { toList := [Value.int IntKind.i64 0, Value.int IntKind.i64 0, Value.int IntKind.i64 0, Value.bool false, Value.bool false] } 45 fun (b : Nat) (w2 : World) =>
                                 StP w2 (some { block := b, off := 0 })
                                  [Value.int IntKind.i64 x_6.fst.fst, Value.int IntKind.i64 x_6.fst.snd.fst, Value.int IntKind.i64 x_6.fst.snd.snd.fst, Value.bool x_6.fst.snd.snd.snd.fst, Value.bool x_6.fst.snd.snd.snd.snd.fst] fun (w2 : World) =>
                                  ((!!x_6.snd.fst) = true → true = true) ∧
                                   LdP w2 (some !!x_6.snd.fst) (addP (some { block := b, off := 0 }) 0) (El.one (Sc.int IntKind.i64)) fun (x_7 : Int) =>
                                    brP (!x_6.snd.fst || x_7 == 1)
                                     (true = true ∧
                                      LdP w2 none (addP (some { block := b, off := 0 }) 2) (El.one (Sc.int IntKind.i64)) fun (x : Int) =>
                                       ((!x != 0 && x_6.snd.fst) = true → true = true) ∧
                                        LdP w2 (some (!x != 0 && x_6.snd.fst)) (addP (some { block := b, off := 0 }) 1) (El.one (Sc.int IntKind.i64)) fun (x_8 : Int) =>
                                         brP (x != 0 || x_6.snd.fst && x_8 == s_1.fst) (EnP w2 fun (w1 : World) => Post false w1) (∀ (w3 : World), Ext w2 w3 → ∃ (n' : Nat), n' < n ∧ I n' (addI IntKind.i64 s.fst 1, Unit.unit) w3))
                                     (true = true ∧
                                      LdP w2 none (addP (some { block := b, off := 0 }) 1) (El.one (Sc.int IntKind.i64)) fun (x_8 : Int) =>
                                       true = true ∧
                                        LdP w2 none (addP (some { block := b, off := 0 }) 2) (El.one (Sc.int IntKind.i64)) fun (x_9 : Int) =>
                                         ∃ (x_10 : (Int × Int × Int × Bool × Bool × Unit) × Bool × Unit),
                                          QCalls Try.prog 30 [Value.pointer x.fst, Value.int IntKind.i64 x_8, Value.int IntKind.i64 x_9] w2
                                            (Value.tuple
                                             {
                                              toList :=
                                               [Value.agg
                                                 {
                                                  toList :=
                                                   [Value.int IntKind.i64 x_10.fst.fst, Value.int IntKind.i64 x_10.fst.snd.fst, Value.int IntKind.i64 x_10.fst.snd.snd.fst, Value.bool x_10.fst.snd.snd.snd.fst,
                                                    Value.bool x_10.fst.snd.snd.snd.snd.fst] },
                                                Value.bool x_10.snd.fst] }) ∧
                                           AlP w2 { toList := [Value.int IntKind.i64 0, Value.int IntKind.i64 0, Value.int IntKind.i64 0, Value.bool false, Value.bool false] } 45 fun (b_1 : Nat) (w2 : World) =>
                                            StP w2 (some { block := b_1, off := 0 })
                                             [Value.int IntKind.i64 x_10.fst.fst, Value.int IntKind.i64 x_10.fst.snd.fst, Value.int IntKind.i64 x_10.fst.snd.snd.fst, Value.bool x_10.fst.snd.snd.snd.fst, Value.bool x_10.fst.snd.snd.snd.snd.fst]
                                             fun (w2 : World) =>
                                             ((!!x_10.snd.fst) = true → true = true) ∧
                                              LdP w2 (some !!x_10.snd.fst) (addP (some { block := b_1, off := 0 }) 0) (El.one (Sc.int IntKind.i64)) fun (x_11 : Int) =>
                                               ((!(!x_10.snd.fst || x_11 != 2)) = true → true = true) ∧
                                                LdP w2 (some !(!x_10.snd.fst || x_11 != 2)) (addP (some { block := b_1, off := 0 }) 1) (El.one (Sc.int IntKind.i64)) fun (x_12 : Int) =>
                                                 ((!(!x_10.snd.fst || x_11 != 2 || x_12 != s_1.fst)) = true → true = true) ∧
                                                  LdP w2 (some !(!x_10.snd.fst || x_11 != 2 || x_12 != s_1.fst)) (addP (some { block := b_1, off := 0 }) 2) (El.one (Sc.int IntKind.i64)) fun (x_13 : Int) =>
                                                   ((!(!x_10.snd.fst || x_11 != 2 || x_12 != s_1.fst || x_13 != s.fst)) = true → true = true) ∧
                                                    LdP w2 (some !(!x_10.snd.fst || x_11 != 2 || x_12 != s_1.fst || x_13 != s.fst)) (addP (some { block := b, off := 0 }) 1) (El.one (Sc.int IntKind.i64)) fun (x_14 : Int) =>
                                                     ∃ (x_15 : Bool),
                                                      ((!(!x_10.snd.fst || x_11 != 2 || x_12 != s_1.fst || x_13 != s.fst)) = true →
                                                        QCalls Try.prog 28 [Value.pointer x.fst, Value.int IntKind.i64 s_1.fst, Value.int IntKind.i64 x_14] w2 (Value.bool x_15)) ∧
                                                       brP (!x_10.snd.fst || x_11 != 2 || x_12 != s_1.fst || x_13 != s.fst || !x_15) (EnP w2 fun (w1 : World) => Post false w1)
                                                        (∀ (w3 : World), Ext w2 w3 → ∃ (n' : Nat), n' < n ∧ I n' (addI IntKind.i64 s.fst 1, Unit.unit) w3)))
                              (∀ (w3 : World), Ext w1 w3 → ∃ (n' : Nat), n' < n_1 ∧ I_1 n' (addI IntKind.i64 s_1.fst 1, Unit.unit) w3))
                         (∀ (w3 : World), Ext w1 w3 → ∃ (n' : Nat), n' < n ∧ I n' (addI IntKind.i64 s.fst 1, Unit.unit) w3))
               (brP (x_2 == 1)
                (true = true ∧
                 LdP w2 none (addP (some { block := b, off := 0 }) 1) (El.one (Sc.int IntKind.i64)) fun (x_3 : Int) =>
                  true = true ∧
                   LdP w2 none (addP (some { block := b, off := 0 }) 2) (El.one (Sc.int IntKind.i64)) fun (x_4 : Int) =>
                    true = true ∧
                     LdP w2 none (addP (some { block := b, off := 0 }) 3) (El.one (Sc.int IntKind.i64)) fun (x_5 : Int) =>
                      CaP Try.prog 13 (Sh.tup [El.one (Sc.int IntKind.i64), El.one (Sc.int IntKind.i64)]) [Value.pointer x.fst, Value.int IntKind.i64 x_3, Value.int IntKind.i64 x_4, Value.int IntKind.i64 x_5] w2
                       fun (x_6 : Int × Int × Unit) (w2 : World) =>
                       ∃ (I_1 : Nat → Int × Unit → World → Prop),
                        (∃ (n : Nat), ∀ (w1 : World), Ext w2 w1 → I_1 n (1, Unit.unit) w1) ∧
                         ∀ (n_1 : Nat) (s_1 : Int × Unit) (w1 : World),
                          I_1 n_1 s_1 w1 →
                           brP (decide (s_1.fst < 17))
                            (∃ (I : Nat → Int × Unit → World → Prop),
                             (∃ (n : Nat), ∀ (w1_1 : World), Ext w1 w1_1 → I n (0, Unit.unit) w1_1) ∧
                              ∀ (n : Nat) (s : Int × Unit) (w1 : World),
                               I n s w1 →
                                brP (decide (s.fst < 4))
                                 (∃ (x_7 : (Int × Int × Int × Bool × Bool × Unit) × Bool × Unit),
                                  QCalls Try.prog 30 [Value.pointer x.fst, Value.int IntKind.i64 s_1.fst, Value.int IntKind.i64 s.fst] w1
                                    (Value.tuple
                                     {
                                      toList :=
                                       [Value.agg
                                         { toList := [Value.int IntKind.i64 x_7.fst.fst, Value.int IntKind.i64 x_7.fst.snd.fst, Value.int IntKind.i64 x_7.fst.snd.snd.fst, Value.bool x_7.fst.snd.snd.snd.fst, Value.bool x_7.fst.snd.snd.snd.snd.fst] },
                                        Value.bool x_7.snd.fst] }) ∧
                                   AlP w1 { toList := [Value.int IntKind.i64 0, Value.int IntKind.i64 0, Value.int IntKind.i64 0, Value.bool false, Value.bool false] } 45 fun (b : Nat) (w2 : World) =>
                                    StP w2 (some { block := b, off := 0 })
                                     [Value.int IntKind.i64 x_7.fst.fst, Value.int IntKind.i64 x_7.fst.snd.fst, Value.int IntKind.i64 x_7.fst.snd.snd.fst, Value.bool x_7.fst.snd.snd.snd.fst, Value.bool x_7.fst.snd.snd.snd.snd.fst] fun (w2 : World) =>
                                     ((!!x_7.snd.fst) = true → true = true) ∧
                                      LdP w2 (some !!x_7.snd.fst) (addP (some { block := b, off := 0 }) 0) (El.one (Sc.int IntKind.i64)) fun (x_8 : Int) =>
                                       brP (!x_7.snd.fst || x_8 == 1)
                                        (true = true ∧
                                         LdP w2 none (addP (some { block := b, off := 0 }) 2) (El.one (Sc.int IntKind.i64)) fun (x : Int) =>
                                          ((!x != 0 && x_7.snd.fst) = true → true = true) ∧
                                           LdP w2 (some (!x != 0 && x_7.snd.fst)) (addP (some { block := b, off := 0 }) 1) (El.one (Sc.int IntKind.i64)) fun (x_9 : Int) =>
                                            brP (x != 0 || x_7.snd.fst && x_9 == s_1.fst) (EnP w2 fun (w1 : World) => Post false w1) (∀ (w3 : World), Ext w2 w3 → ∃ (n' : Nat), n' < n ∧ I n' (addI IntKind.i64 s.fst 1, Unit.unit) w3))
                                        (true = true ∧
                                         LdP w2 none (addP (some { block := b, off := 0 }) 1) (El.one (Sc.int IntKind.i64)) fun (x_9 : Int) =>
                                          true = true ∧
                                           LdP w2 none (addP (some { block := b, off := 0 }) 2) (El.one (Sc.int IntKind.i64)) fun (x_10 : Int) =>
                                            ∃ (x_11 : (Int × Int × Int × Bool × Bool × Unit) × Bool × Unit),
                                             QCalls Try.prog 30 [Value.pointer x.fst, Value.int IntKind.i64 x_9, Value.int IntKind.i64 x_10] w2
                                               (Value.tuple
                                                {
                                                 toList :=
                                                  [Value.agg
                                                    {
                                                     toList :=
                                                      [Value.int IntKind.i64 x_11.fst.fst, Value.int IntKind.i64 x_11.fst.snd.fst, Value.int IntKind.i64 x_11.fst.snd.snd.fst, Value.bool x_11.fst.snd.snd.snd.fst,
                                                       Value.bool x_11.fst.snd.snd.snd.snd.fst] },
                                                   Value.bool x_11.snd.fst] }) ∧
                                              AlP w2 { toList := [Value.int IntKind.i64 0, Value.int IntKind.i64 0, Value.int IntKind.i64 0, Value.bool false, Value.bool false] } 45 fun (b_1 : Nat) (w2 : World) =>
                                               StP w2 (some { block := b_1, off := 0 })
                                                [Value.int IntKind.i64 x_11.fst.fst, Value.int IntKind.i64 x_11.fst.snd.fst, Value.int IntKind.i64 x_11.fst.snd.snd.fst, Value.bool x_11.fst.snd.snd.snd.fst, Value.bool x_11.fst.snd.snd.snd.snd.fst]
                                                fun (w2 : World) =>
                                                ((!!x_11.snd.fst) = true → true = true) ∧
                                                 LdP w2 (some !!x_11.snd.fst) (addP (some { block := b_1, off := 0 }) 0) (El.one (Sc.int IntKind.i64)) fun (x_12 : Int) =>
                                                  ((!(!x_11.snd.fst || x_12 != 2)) = true → true = true) ∧
                                                   LdP w2 (some !(!x_11.snd.fst || x_12 != 2)) (addP (some { block := b_1, off := 0 }) 1) (El.one (Sc.int IntKind.i64)) fun (x_13 : Int) =>
                                                    ((!(!x_11.snd.fst || x_12 != 2 || x_13 != s_1.fst)) = true → true = true) ∧
                                                     LdP w2 (some !(!x_11.snd.fst || x_12 != 2 || x_13 != s_1.fst)) (addP (some { block := b_1, off := 0 }) 2) (El.one (Sc.int IntKind.i64)) fun (x_14 : Int) =>
                                                      ((!(!x_11.snd.fst || x_12 != 2 || x_13 != s_1.fst || x_14 != s.fst)) = true → true = true) ∧
                                                       LdP w2 (some !(!x_11.snd.fst || x_12 != 2 || x_13 != s_1.fst || x_14 != s.fst)) (addP (some { block := b, off := 0 }) 1) (El.one (Sc.int IntKind.i64)) fun (x_15 : Int) =>
                                                        ∃ (x_16 : Bool),
                                                         ((!(!x_11.snd.fst || x_12 != 2 || x_13 != s_1.fst || x_14 != s.fst)) = true →
                                                           QCalls Try.prog 28 [Value.pointer x.fst, Value.int IntKind.i64 s_1.fst, Value.int IntKind.i64 x_15] w2 (Value.bool x_16)) ∧
                                                          brP (!x_11.snd.fst || x_12 != 2 || x_13 != s_1.fst || x_14 != s.fst || !x_16) (EnP w2 fun (w1 : World) => Post false w1)
                                                           (∀ (w3 : World), Ext w2 w3 → ∃ (n' : Nat), n' < n ∧ I n' (addI IntKind.i64 s.fst 1, Unit.unit) w3)))
                                 (∀ (w3 : World), Ext w1 w3 → ∃ (n' : Nat), n' < n_1 ∧ I_1 n' (addI IntKind.i64 s_1.fst 1, Unit.unit) w3))
                            (∀ (w3 : World), Ext w1 w3 → ∃ (n' : Nat), n' < n ∧ I n' (addI IntKind.i64 s.fst 1, Unit.unit) w3))
                (brP (x_2 == 2)
                 (true = true ∧
                  LdP w2 none (addP (some { block := b, off := 0 }) 1) (El.one (Sc.int IntKind.i64)) fun (x_3 : Int) =>
                   true = true ∧
                    LdP w2 none (addP (some { block := b, off := 0 }) 3) (El.one (Sc.int IntKind.i64)) fun (x_4 : Int) =>
                     CaP Try.prog 15 (Sh.el (El.one (Sc.int IntKind.i64))) [Value.pointer x.fst, Value.int IntKind.i64 x_3, Value.int IntKind.i64 x_4] w2 fun (x_5 : Int) (w2 : World) =>
                      ∃ (I_1 : Nat → Int × Unit → World → Prop),
                       (∃ (n : Nat), ∀ (w1 : World), Ext w2 w1 → I_1 n (1, Unit.unit) w1) ∧
                        ∀ (n_1 : Nat) (s_1 : Int × Unit) (w1 : World),
                         I_1 n_1 s_1 w1 →
                          brP (decide (s_1.fst < 17))
                           (∃ (I : Nat → Int × Unit → World → Prop),
                            (∃ (n : Nat), ∀ (w1_1 : World), Ext w1 w1_1 → I n (0, Unit.unit) w1_1) ∧
                             ∀ (n : Nat) (s : Int × Unit) (w1 : World),
                              I n s w1 →
                               brP (decide (s.fst < 4))
                                (∃ (x_6 : (Int × Int × Int × Bool × Bool × Unit) × Bool × Unit),
                                 QCalls Try.prog 30 [Value.pointer x.fst, Value.int IntKind.i64 s_1.fst, Value.int IntKind.i64 s.fst] w1
                                   (Value.tuple
                                    {
                                     toList :=
                                      [Value.agg
                                        { toList := [Value.int IntKind.i64 x_6.fst.fst, Value.int IntKind.i64 x_6.fst.snd.fst, Value.int IntKind.i64 x_6.fst.snd.snd.fst, Value.bool x_6.fst.snd.snd.snd.fst, Value.bool x_6.fst.snd.snd.snd.snd.fst] },
                                       Value.bool x_6.snd.fst] }) ∧
                                  AlP w1 { toList := [Value.int IntKind.i64 0, Value.int IntKind.i64 0, Value.int IntKind.i64 0, Value.bool false, Value.bool false] } 45 fun (b : Nat) (w2 : World) =>
                                   StP w2 (some { block := b, off := 0 })
                                    [Value.int IntKind.i64 x_6.fst.fst, Value.int IntKind.i64 x_6.fst.snd.fst, Value.int IntKind.i64 x_6.fst.snd.snd.fst, Value.bool x_6.fst.snd.snd.snd.fst, Value.bool x_6.fst.snd.snd.snd.snd.fst] fun (w2 : World) =>
                                    ((!!x_6.snd.fst) = true → true = true) ∧
                                     LdP w2 (some !!x_6.snd.fst) (addP (some { block := b, off := 0 }) 0) (El.one (Sc.int IntKind.i64)) fun (x_7 : Int) =>
                                      brP (!x_6.snd.fst || x_7 == 1)
                                       (true = true ∧
                                        LdP w2 none (addP (some { block := b, off := 0 }) 2) (El.one (Sc.int IntKind.i64)) fun (x : Int) =>
                                         ((!x != 0 && x_6.snd.fst) = true → true = true) ∧
                                          LdP w2 (some (!x != 0 && x_6.snd.fst)) (addP (some { block := b, off := 0 }) 1) (El.one (Sc.int IntKind.i64)) fun (x_8 : Int) =>
                                           brP (x != 0 || x_6.snd.fst && x_8 == s_1.fst) (EnP w2 fun (w1 : World) => Post false w1) (∀ (w3 : World), Ext w2 w3 → ∃ (n' : Nat), n' < n ∧ I n' (addI IntKind.i64 s.fst 1, Unit.unit) w3))
                                       (true = true ∧
                                        LdP w2 none (addP (some { block := b, off := 0 }) 1) (El.one (Sc.int IntKind.i64)) fun (x_8 : Int) =>
                                         true = true ∧
                                          LdP w2 none (addP (some { block := b, off := 0 }) 2) (El.one (Sc.int IntKind.i64)) fun (x_9 : Int) =>
                                           ∃ (x_10 : (Int × Int × Int × Bool × Bool × Unit) × Bool × Unit),
                                            QCalls Try.prog 30 [Value.pointer x.fst, Value.int IntKind.i64 x_8, Value.int IntKind.i64 x_9] w2
                                              (Value.tuple
                                               {
                                                toList :=
                                                 [Value.agg
                                                   {
                                                    toList :=
                                                     [Value.int IntKind.i64 x_10.fst.fst, Value.int IntKind.i64 x_10.fst.snd.fst, Value.int IntKind.i64 x_10.fst.snd.snd.fst, Value.bool x_10.fst.snd.snd.snd.fst,
                                                      Value.bool x_10.fst.snd.snd.snd.snd.fst] },
                                                  Value.bool x_10.snd.fst] }) ∧
                                             AlP w2 { toList := [Value.int IntKind.i64 0, Value.int IntKind.i64 0, Value.int IntKind.i64 0, Value.bool false, Value.bool false] } 45 fun (b_1 : Nat) (w2 : World) =>
                                              StP w2 (some { block := b_1, off := 0 })
                                               [Value.int IntKind.i64 x_10.fst.fst, Value.int IntKind.i64 x_10.fst.snd.fst, Value.int IntKind.i64 x_10.fst.snd.snd.fst, Value.bool x_10.fst.snd.snd.snd.fst, Value.bool x_10.fst.snd.snd.snd.snd.fst]
                                               fun (w2 : World) =>
                                               ((!!x_10.snd.fst) = true → true = true) ∧
                                                LdP w2 (some !!x_10.snd.fst) (addP (some { block := b_1, off := 0 }) 0) (El.one (Sc.int IntKind.i64)) fun (x_11 : Int) =>
                                                 ((!(!x_10.snd.fst || x_11 != 2)) = true → true = true) ∧
                                                  LdP w2 (some !(!x_10.snd.fst || x_11 != 2)) (addP (some { block := b_1, off := 0 }) 1) (El.one (Sc.int IntKind.i64)) fun (x_12 : Int) =>
                                                   ((!(!x_10.snd.fst || x_11 != 2 || x_12 != s_1.fst)) = true → true = true) ∧
                                                    LdP w2 (some !(!x_10.snd.fst || x_11 != 2 || x_12 != s_1.fst)) (addP (some { block := b_1, off := 0 }) 2) (El.one (Sc.int IntKind.i64)) fun (x_13 : Int) =>
                                                     ((!(!x_10.snd.fst || x_11 != 2 || x_12 != s_1.fst || x_13 != s.fst)) = true → true = true) ∧
                                                      LdP w2 (some !(!x_10.snd.fst || x_11 != 2 || x_12 != s_1.fst || x_13 != s.fst)) (addP (some { block := b, off := 0 }) 1) (El.one (Sc.int IntKind.i64)) fun (x_14 : Int) =>
                                                       ∃ (x_15 : Bool),
                                                        ((!(!x_10.snd.fst || x_11 != 2 || x_12 != s_1.fst || x_13 != s.fst)) = true →
                                                          QCalls Try.prog 28 [Value.pointer x.fst, Value.int IntKind.i64 s_1.fst, Value.int IntKind.i64 x_14] w2 (Value.bool x_15)) ∧
                                                         brP (!x_10.snd.fst || x_11 != 2 || x_12 != s_1.fst || x_13 != s.fst || !x_15) (EnP w2 fun (w1 : World) => Post false w1)
                                                          (∀ (w3 : World), Ext w2 w3 → ∃ (n' : Nat), n' < n ∧ I n' (addI IntKind.i64 s.fst 1, Unit.unit) w3)))
                                (∀ (w3 : World), Ext w1 w3 → ∃ (n' : Nat), n' < n_1 ∧ I_1 n' (addI IntKind.i64 s_1.fst 1, Unit.unit) w3))
                           (∀ (w3 : World), Ext w1 w3 → ∃ (n' : Nat), n' < n ∧ I n' (addI IntKind.i64 s.fst 1, Unit.unit) w3))
                 (brP (x_2 == 5)
                  (true = true ∧
                   LdP w2 none (addP (some { block := b, off := 0 }) 1) (El.one (Sc.int IntKind.i64)) fun (x_3 : Int) =>
                    true = true ∧
                     LdP w2 none (addP (some { block := b, off := 0 }) 3) (El.one (Sc.int IntKind.i64)) fun (x_4 : Int) =>
                      CaP Try.prog 21 (Sh.el (El.one (Sc.int IntKind.i64))) [Value.pointer x.fst, Value.int IntKind.i64 x_3, Value.int IntKind.i64 x_4] w2 fun (x_5 : Int) (w2 : World) =>
                       ∃ (I_1 : Nat → Int × Unit → World → Prop),
                        (∃ (n : Nat), ∀ (w1 : World), Ext w2 w1 → I_1 n (1, Unit.unit) w1) ∧
                         ∀ (n_1 : Nat) (s_1 : Int × Unit) (w1 : World),
                          I_1 n_1 s_1 w1 →
                           brP (decide (s_1.fst < 17))
                            (∃ (I : Nat → Int × Unit → World → Prop),
                             (∃ (n : Nat), ∀ (w1_1 : World), Ext w1 w1_1 → I n (0, Unit.unit) w1_1) ∧
                              ∀ (n : Nat) (s : Int × Unit) (w1 : World),
                               I n s w1 →
                                brP (decide (s.fst < 4))
                                 (∃ (x_6 : (Int × Int × Int × Bool × Bool × Unit) × Bool × Unit),
                                  QCalls Try.prog 30 [Value.pointer x.fst, Value.int IntKind.i64 s_1.fst, Value.int IntKind.i64 s.fst] w1
                                    (Value.tuple
                                     {
                                      toList :=
                                       [Value.agg
                                         { toList := [Value.int IntKind.i64 x_6.fst.fst, Value.int IntKind.i64 x_6.fst.snd.fst, Value.int IntKind.i64 x_6.fst.snd.snd.fst, Value.bool x_6.fst.snd.snd.snd.fst, Value.bool x_6.fst.snd.snd.snd.snd.fst] },
                                        Value.bool x_6.snd.fst] }) ∧
                                   AlP w1 { toList := [Value.int IntKind.i64 0, Value.int IntKind.i64 0, Value.int IntKind.i64 0, Value.bool false, Value.bool false] } 45 fun (b : Nat) (w2 : World) =>
                                    StP w2 (some { block := b, off := 0 })
                                     [Value.int IntKind.i64 x_6.fst.fst, Value.int IntKind.i64 x_6.fst.snd.fst, Value.int IntKind.i64 x_6.fst.snd.snd.fst, Value.bool x_6.fst.snd.snd.snd.fst, Value.bool x_6.fst.snd.snd.snd.snd.fst] fun (w2 : World) =>
                                     ((!!x_6.snd.fst) = true → true = true) ∧
                                      LdP w2 (some !!x_6.snd.fst) (addP (some { block := b, off := 0 }) 0) (El.one (Sc.int IntKind.i64)) fun (x_7 : Int) =>
                                       brP (!x_6.snd.fst || x_7 == 1)
                                        (true = true ∧
                                         LdP w2 none (addP (some { block := b, off := 0 }) 2) (El.one (Sc.int IntKind.i64)) fun (x : Int) =>
                                          ((!x != 0 && x_6.snd.fst) = true → true = true) ∧
                                           LdP w2 (some (!x != 0 && x_6.snd.fst)) (addP (some { block := b, off := 0 }) 1) (El.one (Sc.int IntKind.i64)) fun (x_8 : Int) =>
                                            brP (x != 0 || x_6.snd.fst && x_8 == s_1.fst) (EnP w2 fun (w1 : World) => Post false w1) (∀ (w3 : World), Ext w2 w3 → ∃ (n' : Nat), n' < n ∧ I n' (addI IntKind.i64 s.fst 1, Unit.unit) w3))
                                        (true = true ∧
                                         LdP w2 none (addP (some { block := b, off := 0 }) 1) (El.one (Sc.int IntKind.i64)) fun (x_8 : Int) =>
                                          true = true ∧
                                           LdP w2 none (addP (some { block := b, off := 0 }) 2) (El.one (Sc.int IntKind.i64)) fun (x_9 : Int) =>
                                            ∃ (x_10 : (Int × Int × Int × Bool × Bool × Unit) × Bool × Unit),
                                             QCalls Try.prog 30 [Value.pointer x.fst, Value.int IntKind.i64 x_8, Value.int IntKind.i64 x_9] w2
                                               (Value.tuple
                                                {
                                                 toList :=
                                                  [Value.agg
                                                    {
                                                     toList :=
                                                      [Value.int IntKind.i64 x_10.fst.fst, Value.int IntKind.i64 x_10.fst.snd.fst, Value.int IntKind.i64 x_10.fst.snd.snd.fst, Value.bool x_10.fst.snd.snd.snd.fst,
                                                       Value.bool x_10.fst.snd.snd.snd.snd.fst] },
                                                   Value.bool x_10.snd.fst] }) ∧
                                              AlP w2 { toList := [Value.int IntKind.i64 0, Value.int IntKind.i64 0, Value.int IntKind.i64 0, Value.bool false, Value.bool false] } 45 fun (b_1 : Nat) (w2 : World) =>
                                               StP w2 (some { block := b_1, off := 0 })
                                                [Value.int IntKind.i64 x_10.fst.fst, Value.int IntKind.i64 x_10.fst.snd.fst, Value.int IntKind.i64 x_10.fst.snd.snd.fst, Value.bool x_10.fst.snd.snd.snd.fst, Value.bool x_10.fst.snd.snd.snd.snd.fst]
                                                fun (w2 : World) =>
                                                ((!!x_10.snd.fst) = true → true = true) ∧
                                                 LdP w2 (some !!x_10.snd.fst) (addP (some { block := b_1, off := 0 }) 0) (El.one (Sc.int IntKind.i64)) fun (x_11 : Int) =>
                                                  ((!(!x_10.snd.fst || x_11 != 2)) = true → true = true) ∧
                                                   LdP w2 (some !(!x_10.snd.fst || x_11 != 2)) (addP (some { block := b_1, off := 0 }) 1) (El.one (Sc.int IntKind.i64)) fun (x_12 : Int) =>
                                                    ((!(!x_10.snd.fst || x_11 != 2 || x_12 != s_1.fst)) = true → true = true) ∧
                                                     LdP w2 (some !(!x_10.snd.fst || x_11 != 2 || x_12 != s_1.fst)) (addP (some { block := b_1, off := 0 }) 2) (El.one (Sc.int IntKind.i64)) fun (x_13 : Int) =>
                                                      ((!(!x_10.snd.fst || x_11 != 2 || x_12 != s_1.fst || x_13 != s.fst)) = true → true = true) ∧
                                                       LdP w2 (some !(!x_10.snd.fst || x_11 != 2 || x_12 != s_1.fst || x_13 != s.fst)) (addP (some { block := b, off := 0 }) 1) (El.one (Sc.int IntKind.i64)) fun (x_14 : Int) =>
                                                        ∃ (x_15 : Bool),
                                                         ((!(!x_10.snd.fst || x_11 != 2 || x_12 != s_1.fst || x_13 != s.fst)) = true →
                                                           QCalls Try.prog 28 [Value.pointer x.fst, Value.int IntKind.i64 s_1.fst, Value.int IntKind.i64 x_14] w2 (Value.bool x_15)) ∧
                                                          brP (!x_10.snd.fst || x_11 != 2 || x_12 != s_1.fst || x_13 != s.fst || !x_15) (EnP w2 fun (w1 : World) => Post false w1)
                                                           (∀ (w3 : World), Ext w2 w3 → ∃ (n' : Nat), n' < n ∧ I n' (addI IntKind.i64 s.fst 1, Unit.unit) w3)))
                                 (∀ (w3 : World), Ext w1 w3 → ∃ (n' : Nat), n' < n_1 ∧ I_1 n' (addI IntKind.i64 s_1.fst 1, Unit.unit) w3))
                            (∀ (w3 : World), Ext w1 w3 → ∃ (n' : Nat), n' < n ∧ I n' (addI IntKind.i64 s.fst 1, Unit.unit) w3))
                  (brP (x_2 == 6)
                   (true = true ∧
                    LdP w2 none (addP (some { block := b, off := 0 }) 1) (El.one (Sc.int IntKind.i64)) fun (x_3 : Int) =>
                     CaP Try.prog 23 (Sh.el (El.one (Sc.int IntKind.i64))) [Value.pointer x.fst, Value.int IntKind.i64 x_3] w2 fun (x_4 : Int) (w2 : World) =>
                      ∃ (I_1 : Nat → Int × Unit → World → Prop),
                       (∃ (n : Nat), ∀ (w1 : World), Ext w2 w1 → I_1 n (1, Unit.unit) w1) ∧
                        ∀ (n_1 : Nat) (s_1 : Int × Unit) (w1 : World),
                         I_1 n_1 s_1 w1 →
                          brP (decide (s_1.fst < 17))
                           (∃ (I : Nat → Int × Unit → World → Prop),
                            (∃ (n : Nat), ∀ (w1_1 : World), Ext w1 w1_1 → I n (0, Unit.unit) w1_1) ∧
                             ∀ (n : Nat) (s : Int × Unit) (w1 : World),
                              I n s w1 →
                               brP (decide (s.fst < 4))
                                (∃ (x_5 : (Int × Int × Int × Bool × Bool × Unit) × Bool × Unit),
                                 QCalls Try.prog 30 [Value.pointer x.fst, Value.int IntKind.i64 s_1.fst, Value.int IntKind.i64 s.fst] w1
                                   (Value.tuple
                                    {
                                     toList :=
                                      [Value.agg
                                        { toList := [Value.int IntKind.i64 x_5.fst.fst, Value.int IntKind.i64 x_5.fst.snd.fst, Value.int IntKind.i64 x_5.fst.snd.snd.fst, Value.bool x_5.fst.snd.snd.snd.fst, Value.bool x_5.fst.snd.snd.snd.snd.fst] },
                                       Value.bool x_5.snd.fst] }) ∧
                                  AlP w1 { toList := [Value.int IntKind.i64 0, Value.int IntKind.i64 0, Value.int IntKind.i64 0, Value.bool false, Value.bool false] } 45 fun (b : Nat) (w2 : World) =>
                                   StP w2 (some { block := b, off := 0 })
                                    [Value.int IntKind.i64 x_5.fst.fst, Value.int IntKind.i64 x_5.fst.snd.fst, Value.int IntKind.i64 x_5.fst.snd.snd.fst, Value.bool x_5.fst.snd.snd.snd.fst, Value.bool x_5.fst.snd.snd.snd.snd.fst] fun (w2 : World) =>
                                    ((!!x_5.snd.fst) = true → true = true) ∧
                                     LdP w2 (some !!x_5.snd.fst) (addP (some { block := b, off := 0 }) 0) (El.one (Sc.int IntKind.i64)) fun (x_6 : Int) =>
                                      brP (!x_5.snd.fst || x_6 == 1)
                                       (true = true ∧
                                        LdP w2 none (addP (some { block := b, off := 0 }) 2) (El.one (Sc.int IntKind.i64)) fun (x : Int) =>
                                         ((!x != 0 && x_5.snd.fst) = true → true = true) ∧
                                          LdP w2 (some (!x != 0 && x_5.snd.fst)) (addP (some { block := b, off := 0 }) 1) (El.one (Sc.int IntKind.i64)) fun (x_7 : Int) =>
                                           brP (x != 0 || x_5.snd.fst && x_7 == s_1.fst) (EnP w2 fun (w1 : World) => Post false w1) (∀ (w3 : World), Ext w2 w3 → ∃ (n' : Nat), n' < n ∧ I n' (addI IntKind.i64 s.fst 1, Unit.unit) w3))
                                       (true = true ∧
                                        LdP w2 none (addP (some { block := b, off := 0 }) 1) (El.one (Sc.int IntKind.i64)) fun (x_7 : Int) =>
                                         true = true ∧
                                          LdP w2 none (addP (some { block := b, off := 0 }) 2) (El.one (Sc.int IntKind.i64)) fun (x_8 : Int) =>
                                           ∃ (x_9 : (Int × Int × Int × Bool × Bool × Unit) × Bool × Unit),
                                            QCalls Try.prog 30 [Value.pointer x.fst, Value.int IntKind.i64 x_7, Value.int IntKind.i64 x_8] w2
                                              (Value.tuple
                                               {
                                                toList :=
                                                 [Value.agg
                                                   {
                                                    toList :=
                                                     [Value.int IntKind.i64 x_9.fst.fst, Value.int IntKind.i64 x_9.fst.snd.fst, Value.int IntKind.i64 x_9.fst.snd.snd.fst, Value.bool x_9.fst.snd.snd.snd.fst, Value.bool x_9.fst.snd.snd.snd.snd.fst] },
                                                  Value.bool x_9.snd.fst] }) ∧
                                             AlP w2 { toList := [Value.int IntKind.i64 0, Value.int IntKind.i64 0, Value.int IntKind.i64 0, Value.bool false, Value.bool false] } 45 fun (b_1 : Nat) (w2 : World) =>
                                              StP w2 (some { block := b_1, off := 0 })
                                               [Value.int IntKind.i64 x_9.fst.fst, Value.int IntKind.i64 x_9.fst.snd.fst, Value.int IntKind.i64 x_9.fst.snd.snd.fst, Value.bool x_9.fst.snd.snd.snd.fst, Value.bool x_9.fst.snd.snd.snd.snd.fst]
                                               fun (w2 : World) =>
                                               ((!!x_9.snd.fst) = true → true = true) ∧
                                                LdP w2 (some !!x_9.snd.fst) (addP (some { block := b_1, off := 0 }) 0) (El.one (Sc.int IntKind.i64)) fun (x_10 : Int) =>
                                                 ((!(!x_9.snd.fst || x_10 != 2)) = true → true = true) ∧
                                                  LdP w2 (some !(!x_9.snd.fst || x_10 != 2)) (addP (some { block := b_1, off := 0 }) 1) (El.one (Sc.int IntKind.i64)) fun (x_11 : Int) =>
                                                   ((!(!x_9.snd.fst || x_10 != 2 || x_11 != s_1.fst)) = true → true = true) ∧
                                                    LdP w2 (some !(!x_9.snd.fst || x_10 != 2 || x_11 != s_1.fst)) (addP (some { block := b_1, off := 0 }) 2) (El.one (Sc.int IntKind.i64)) fun (x_12 : Int) =>
                                                     ((!(!x_9.snd.fst || x_10 != 2 || x_11 != s_1.fst || x_12 != s.fst)) = true → true = true) ∧
                                                      LdP w2 (some !(!x_9.snd.fst || x_10 != 2 || x_11 != s_1.fst || x_12 != s.fst)) (addP (some { block := b, off := 0 }) 1) (El.one (Sc.int IntKind.i64)) fun (x_13 : Int) =>
                                                       ∃ (x_14 : Bool),
                                                        ((!(!x_9.snd.fst || x_10 != 2 || x_11 != s_1.fst || x_12 != s.fst)) = true →
                                                          QCalls Try.prog 28 [Value.pointer x.fst, Value.int IntKind.i64 s_1.fst, Value.int IntKind.i64 x_13] w2 (Value.bool x_14)) ∧
                                                         brP (!x_9.snd.fst || x_10 != 2 || x_11 != s_1.fst || x_12 != s.fst || !x_14) (EnP w2 fun (w1 : World) => Post false w1)
                                                          (∀ (w3 : World), Ext w2 w3 → ∃ (n' : Nat), n' < n ∧ I n' (addI IntKind.i64 s.fst 1, Unit.unit) w3)))
                                (∀ (w3 : World), Ext w1 w3 → ∃ (n' : Nat), n' < n_1 ∧ I_1 n' (addI IntKind.i64 s_1.fst 1, Unit.unit) w3))
                           (∀ (w3 : World), Ext w1 w3 → ∃ (n' : Nat), n' < n ∧ I n' (addI IntKind.i64 s.fst 1, Unit.unit) w3))
                   (∃ (I_1 : Nat → Int × Unit → World → Prop),
                    (∃ (n : Nat), ∀ (w1 : World), Ext w2 w1 → I_1 n (1, Unit.unit) w1) ∧
                     ∀ (n_1 : Nat) (s_1 : Int × Unit) (w1 : World),
                      I_1 n_1 s_1 w1 →
                       brP (decide (s_1.fst < 17))
                        (∃ (I : Nat → Int × Unit → World → Prop),
                         (∃ (n : Nat), ∀ (w1_1 : World), Ext w1 w1_1 → I n (0, Unit.unit) w1_1) ∧
                          ∀ (n : Nat) (s : Int × Unit) (w1 : World),
                           I n s w1 →
                            brP (decide (s.fst < 4))
                             (∃ (x_3 : (Int × Int × Int × Bool × Bool × Unit) × Bool × Unit),
                              QCalls Try.prog 30 [Value.pointer x.fst, Value.int IntKind.i64 s_1.fst, Value.int IntKind.i64 s.fst] w1
                                (Value.tuple
                                 {
                                  toList :=
                                   [Value.agg
                                     { toList := [Value.int IntKind.i64 x_3.fst.fst, Value.int IntKind.i64 x_3.fst.snd.fst, Value.int IntKind.i64 x_3.fst.snd.snd.fst, Value.bool x_3.fst.snd.snd.snd.fst, Value.bool x_3.fst.snd.snd.snd.snd.fst] },
                                    Value.bool x_3.snd.fst] }) ∧
                               AlP w1 { toList := [Value.int IntKind.i64 0, Value.int IntKind.i64 0, Value.int IntKind.i64 0, Value.bool false, Value.bool false] } 45 fun (b : Nat) (w2 : World) =>
                                StP w2 (some { block := b, off := 0 })
                                 [Value.int IntKind.i64 x_3.fst.fst, Value.int IntKind.i64 x_3.fst.snd.fst, Value.int IntKind.i64 x_3.fst.snd.snd.fst, Value.bool x_3.fst.snd.snd.snd.fst, Value.bool x_3.fst.snd.snd.snd.snd.fst] fun (w2 : World) =>
                                 ((!!x_3.snd.fst) = true → true = true) ∧
                                  LdP w2 (some !!x_3.snd.fst) (addP (some { block := b, off := 0 }) 0) (El.one (Sc.int IntKind.i64)) fun (x_4 : Int) =>
                                   brP (!x_3.snd.fst || x_4 == 1)
                                    (true = true ∧
                                     LdP w2 none (addP (some { block := b, off := 0 }) 2) (El.one (Sc.int IntKind.i64)) fun (x : Int) =>
                                      ((!x != 0 && x_3.snd.fst) = true → true = true) ∧
                                       LdP w2 (some (!x != 0 && x_3.snd.fst)) (addP (some { block := b, off := 0 }) 1) (El.one (Sc.int IntKind.i64)) fun (x_5 : Int) =>
                                        brP (x != 0 || x_3.snd.fst && x_5 == s_1.fst) (EnP w2 fun (w1 : World) => Post false w1) (∀ (w3 : World), Ext w2 w3 → ∃ (n' : Nat), n' < n ∧ I n' (addI IntKind.i64 s.fst 1, Unit.unit) w3))
                                    (true = true ∧
                                     LdP w2 none (addP (some { block := b, off := 0 }) 1) (El.one (Sc.int IntKind.i64)) fun (x_5 : Int) =>
                                      true = true ∧
                                       LdP w2 none (addP (some { block := b, off := 0 }) 2) (El.one (Sc.int IntKind.i64)) fun (x_6 : Int) =>
                                        ∃ (x_7 : (Int × Int × Int × Bool × Bool × Unit) × Bool × Unit),
                                         QCalls Try.prog 30 [Value.pointer x.fst, Value.int IntKind.i64 x_5, Value.int IntKind.i64 x_6] w2
                                           (Value.tuple
                                            {
                                             toList :=
                                              [Value.agg
                                                {
                                                 toList :=
                                                  [Value.int IntKind.i64 x_7.fst.fst, Value.int IntKind.i64 x_7.fst.snd.fst, Value.int IntKind.i64 x_7.fst.snd.snd.fst, Value.bool x_7.fst.snd.snd.snd.fst, Value.bool x_7.fst.snd.snd.snd.snd.fst] },
                                               Value.bool x_7.snd.fst] }) ∧
                                          AlP w2 { toList := [Value.int IntKind.i64 0, Value.int IntKind.i64 0, Value.int IntKind.i64 0, Value.bool false, Value.bool false] } 45 fun (b_1 : Nat) (w2 : World) =>
                                           StP w2 (some { block := b_1, off := 0 })
                                            [Value.int IntKind.i64 x_7.fst.fst, Value.int IntKind.i64 x_7.fst.snd.fst, Value.int IntKind.i64 x_7.fst.snd.snd.fst, Value.bool x_7.fst.snd.snd.snd.fst, Value.bool x_7.fst.snd.snd.snd.snd.fst]
                                            fun (w2 : World) =>
                                            ((!!x_7.snd.fst) = true → true = true) ∧
                                             LdP w2 (some !!x_7.snd.fst) (addP (some { block := b_1, off := 0 }) 0) (El.one (Sc.int IntKind.i64)) fun (x_8 : Int) =>
                                              ((!(!x_7.snd.fst || x_8 != 2)) = true → true = true) ∧
                                               LdP w2 (some !(!x_7.snd.fst || x_8 != 2)) (addP (some { block := b_1, off := 0 }) 1) (El.one (Sc.int IntKind.i64)) fun (x_9 : Int) =>
                                                ((!(!x_7.snd.fst || x_8 != 2 || x_9 != s_1.fst)) = true → true = true) ∧
                                                 LdP w2 (some !(!x_7.snd.fst || x_8 != 2 || x_9 != s_1.fst)) (addP (some { block := b_1, off := 0 }) 2) (El.one (Sc.int IntKind.i64)) fun (x_10 : Int) =>
                                                  ((!(!x_7.snd.fst || x_8 != 2 || x_9 != s_1.fst || x_10 != s.fst)) = true → true = true) ∧
                                                   LdP w2 (some !(!x_7.snd.fst || x_8 != 2 || x_9 != s_1.fst || x_10 != s.fst)) (addP (some { block := b, off := 0 }) 1) (El.one (Sc.int IntKind.i64)) fun (x_11 : Int) =>
                                                    ∃ (x_12 : Bool),
                                                     ((!(!x_7.snd.fst || x_8 != 2 || x_9 != s_1.fst || x_10 != s.fst)) = true → QCalls Try.prog 28 [Value.pointer x.fst, Value.int IntKind.i64 s_1.fst, Value.int IntKind.i64 x_11] w2 (Value.bool x_12)) ∧
                                                      brP (!x_7.snd.fst || x_8 != 2 || x_9 != s_1.fst || x_10 != s.fst || !x_12) (EnP w2 fun (w1 : World) => Post false w1)
                                                       (∀ (w3 : World), Ext w2 w3 → ∃ (n' : Nat), n' < n ∧ I n' (addI IntKind.i64 s.fst 1, Unit.unit) w3)))
                             (∀ (w3 : World), Ext w1 w3 → ∃ (n' : Nat), n' < n_1 ∧ I_1 n' (addI IntKind.i64 s_1.fst 1, Unit.unit) w3))
                        (∀ (w3 : World), Ext w1 w3 → ∃ (n' : Nat), n' < n ∧ I n' (addI IntKind.i64 s.fst 1, Unit.unit) w3)))))))
        (CaP Try.prog 33 (Sh.el (El.one Sc.bool)) [] w1 fun (x : Bool) (w2 : World) => EnP w2 fun (w1 : World) => Post x w1))) := by kernel_rfl
def tdrop_vc_ann : Nat → Slots := (fun | 5 => [(7, Go.RX.El.one (Go.RX.Sc.int Go.IntKind.i64))] | 18 => [(13, Go.RX.El.one (Go.RX.Sc.int Go.IntKind.i64))] | 21 => [(14, Go.RX.El.one (Go.RX.Sc.int Go.IntKind.i64))] | _ => [])
theorem tdrop_vc (p : Option Addr) (m c : Nat) (x y z : Int) (w : World) (Post : Bool → World → Prop) : (rxFn R2 tdrop_vc_ann 6 [.slice p m c, .agg ⟨[.int .u8 x, .int .u8 y, .int .u8 z]⟩] w Post) = (
 AlP w { toList := [Value.int IntKind.u8 x, Value.int IntKind.u8 y, Value.int IntKind.u8 z] } 58 fun (b : Nat) (w2 : World) =>
  CaP Try.prog 9 (Sh.tup [El.one Sc.ptr, El.one (Sc.int IntKind.i64)]) [Value.int IntKind.i64 4] w2 fun (x : Option Addr × Int × Unit) (w2 : World) =>
   brP (x.snd.fst != 0 || x.fst.isNone) (EnP w2 fun (w1 : World) => Post false w1)
    (∃ (I : Nat → Int × Unit → World → Prop),
     (∃ (n : Nat), ∀ (w1 : World), Ext w2 w1 → I n (0, Unit.unit) w1) ∧
      ∀ (n : Nat) (s : Int × Unit) (w1 : World),
       I n s w1 →
        brP (decide (s.fst < (↑m : Int)) && decide (s.fst < 60))
         ((p.isSome = true ∧ 0 ≤ s.fst ∧ s.fst < (↑m : Int)) ∧
          LdP w1 none (addP p (Int.toNat s.fst * 5)) (El.agg [Sc.int IntKind.i64, Sc.int IntKind.i64, Sc.int IntKind.i64, Sc.int IntKind.i64, Sc.bool]) fun (x_1 : Int × Int × Int × Int × Bool × Unit) =>
           AlP w1 { toList := [Value.int IntKind.i64 0, Value.int IntKind.i64 0, Value.int IntKind.i64 0, Value.int IntKind.i64 0, Value.bool false] } 31 fun (b : Nat) (w2 : World) =>
            StP w2 (some { block := b, off := 0 }) [Value.int IntKind.i64 x_1.fst, Value.int IntKind.i64 x_1.snd.fst, Value.int IntKind.i64 x_1.snd.snd.fst, Value.int IntKind.i64 x_1.snd.snd.snd.fst, Value.bool x_1.snd.snd.snd.snd.fst]
             fun (w2 : World) =>
             true = true ∧
              LdP w2 none (addP (some { block := b, off := 0 }) 0) (El.one (Sc.int IntKind.i64)) fun (x_2 : Int) =>
               brP (x_2 == 0)
                (true = true ∧
                 LdP w2 none (addP (some { block := b, off := 0 }) 1) (El.one (Sc.int IntKind.i64)) fun (x_3 : Int) =>
                  true = true ∧
                   LdP w2 none (addP (some { block := b, off := 0 }) 2) (El.one (Sc.int IntKind.i64)) fun (x_4 : Int) =>
                    CaP Try.prog 11 (Sh.tup [El.one (Sc.int IntKind.i64), El.one (Sc.int IntKind.i64)]) [Value.pointer x.fst, Value.int IntKind.i64 x_3, Value.int IntKind.i64 x_4] w2 fun (x_5 : Int × Int × Unit) (w2 : World) =>
                     true = true ∧
                      LdP w2 none (addP (some { block := b, off := 0 }) 0) (El.one (Sc.int IntKind.i64)) fun (x_6 : Int) =>
                       brP (x_6 == 1)
                        (true = true ∧
                         LdP w2 none (addP (some { block := b, off := 0 }) 1) (El.one (Sc.int IntKind.i64)) fun (x_7 : Int) =>
                          true = true ∧
                           LdP w2 none (addP (some { block := b, off := 0 }) 2) (El.one (Sc.int IntKind.i64)) fun (x_8 : Int) =>
                            true = true ∧
                             LdP w2 none (addP (some { block := b, off := 0 }) 3) (El.one (Sc.int IntKind.i64)) fun (x_9 : Int) =>
                              CaP Try.prog 13 (Sh.tup [El.one (Sc.int IntKind.i64), El.one (Sc.int IntKind.i64)]) [Value.pointer x.fst, Value.int IntKind.i64 x_7, Value.int IntKind.i64 x_8, Value.int IntKind.i64 x_9] w2
                               fun (x : Int × Int × Unit) (w2 : World) => ∀ (w3 : World), Ext w2 w3 → ∃ (n' : Nat), n' < n ∧ I n' (addI IntKind.i64 s.fst 1, Unit.unit) w3)
                        (∀ (w3 : World), Ext w2 w3 → ∃ (n' : Nat), n' < n ∧ I n' (addI IntKind.i64 s.fst 1, Unit.unit) w3))
                (true = true ∧
                 LdP w2 none (addP (some { block := b, off := 0 }) 0) (El.one (Sc.int IntKind.i64)) fun (x_3 : Int) =>
                  brP (x_3 == 1)
                   (true = true ∧
                    LdP w2 none (addP (some { block := b, off := 0 }) 1) (El.one (Sc.int IntKind.i64)) fun (x_4 : Int) =>
                     true = true ∧
                      LdP w2 none (addP (some { block := b, off := 0 }) 2) (El.one (Sc.int IntKind.i64)) fun (x_5 : Int) =>
                       true = true ∧
                        LdP w2 none (addP (some { block := b, off := 0 }) 3) (El.one (Sc.int IntKind.i64)) fun (x_6 : Int) =>
                         CaP Try.prog 13 (Sh.tup [El.one (Sc.int IntKind.i64), El.one (Sc.int IntKind.i64)]) [Value.pointer x.fst, Value.int IntKind.i64 x_4, Value.int IntKind.i64 x_5, Value.int IntKind.i64 x_6] w2
                          fun (x : Int × Int × Unit) (w2 : World) => ∀ (w3 : World), Ext w2 w3 → ∃ (n' : Nat), n' < n ∧ I n' (addI IntKind.i64 s.fst 1, Unit.unit) w3)
                   (∀ (w3 : World), Ext w2 w3 → ∃ (n' : Nat), n' < n ∧ I n' (addI IntKind.i64 s.fst 1, Unit.unit) w3)))
         ((true = true ∧ (0 : Int) ≤ 0 ∧ 0 < (↑3 : Int)) ∧
          LdP w1 none (addP (some { block := b, off := 0 }) 0) (El.one (Sc.int IntKind.u8)) fun (x_1 : Int) =>
           (true = true ∧ (0 : Int) ≤ 1 ∧ 1 < (↑3 : Int)) ∧
            LdP w1 none (addP (some { block := b, off := 0 }) 1) (El.one (Sc.int IntKind.u8)) fun (x_2 : Int) =>
             (true = true ∧ (0 : Int) ≤ 2 ∧ 2 < (↑3 : Int)) ∧
              LdP w1 none (addP (some { block := b, off := 0 }) 2) (El.one (Sc.int IntKind.u8)) fun (x_3 : Int) =>
               ∃ (x_4 : Bool),
                QCalls Try.prog 28 [Value.pointer x.fst, Value.int IntKind.i64 (addI IntKind.i64 1 (remI (convI IntKind.i64 x_2) 16)), Value.int IntKind.i64 (addI IntKind.i64 1 (remI (convI IntKind.i64 x_3) 16))] w1 (Value.bool x_4) ∧
                 CaP Try.prog 23 (Sh.el (El.one (Sc.int IntKind.i64))) [Value.pointer x.fst, Value.int IntKind.i64 (addI IntKind.i64 1 (remI (convI IntKind.i64 x_1) 16))] w1 fun (x_5 : Int) (w2 : World) =>
                  ∃ (I : Nat → Int × Unit → World → Prop),
                   (∃ (n : Nat), ∀ (w1 : World), Ext w2 w1 → I n (1, Unit.unit) w1) ∧
                    ∀ (n : Nat) (s : Int × Unit) (w1 : World),
                     I n s w1 →
                      brP (decide (s.fst < 17))
                       (∃ (I_1 : Nat → Int × Unit → World → Prop),
                        (∃ (n : Nat), ∀ (w1_1 : World), Ext w1 w1_1 → I_1 n (0, Unit.unit) w1_1) ∧
                         ∀ (n_1 : Nat) (s_1 : Int × Unit) (w1 : World),
                          I_1 n_1 s_1 w1 →
                           brP (decide (s_1.fst < 4))
                            (∃ (x_6 : (Int × Int × Int × Bool × Bool × Unit) × Bool × Unit),
                             QCalls Try.prog 30 [Value.pointer x.fst, Value.int IntKind.i64 s.fst, Value.int IntKind.i64 s_1.fst] w1
                               (Value.tuple
                                {
                                 toList :=
                                  [Value.agg
                                    { toList := [Value.int IntKind.i64 x_6.fst.fst, Value.int IntKind.i64 x_6.fst.snd.fst, Value.int IntKind.i64 x_6.fst.snd.snd.fst, Value.bool x_6.fst.snd.snd.snd.fst, Value.bool x_6.fst.snd.snd.snd.snd.fst] },
                                   Value.bool x_6.snd.fst] }) ∧
                              AlP w1 { toList := [Value.int IntKind.i64 0, Value.int IntKind.i64 0, Value.int IntKind.i64 0, Value.bool false, Value.bool false] } 45 fun (b : Nat) (w2 : World) =>
                               StP w2 (some { block := b, off := 0 })
                                [Value.int IntKind.i64 x_6.fst.fst, Value.int IntKind.i64 x_6.fst.snd.fst, Value.int IntKind.i64 x_6.fst.snd.snd.fst, Value.bool x_6.fst.snd.snd.snd.fst, Value.bool x_6.fst.snd.snd.snd.snd.fst] fun (w2 : World) =>
                                ((x_6.snd.fst && !s.fst == addI IntKind.i64 1 (remI (convI IntKind.i64 x_1) 16)) = true → true = true) ∧
                                 LdP w2 (some (x_6.snd.fst && !s.fst == addI IntKind.i64 1 (remI (convI IntKind.i64 x_1) 16))) (addP (some { block := b, off := 0 }) 1) (El.one (Sc.int IntKind.i64)) fun (x : Int) =>
                                  brP (x_6.snd.fst && (s.fst == addI IntKind.i64 1 (remI (convI IntKind.i64 x_1) 16) || x == addI IntKind.i64 1 (remI (convI IntKind.i64 x_1) 16))) (EnP w2 fun (w1 : World) => Post false w1)
                                   (∀ (w3 : World), Ext w2 w3 → ∃ (n' : Nat), n' < n_1 ∧ I_1 n' (addI IntKind.i64 s_1.fst 1, Unit.unit) w3))
                            (∃ (x_6 : Bool),
                             ((s.fst != addI IntKind.i64 1 (remI (convI IntKind.i64 x_1) 16)) = true →
                               QCalls Try.prog 28 [Value.pointer x.fst, Value.int IntKind.i64 s.fst, Value.int IntKind.i64 (addI IntKind.i64 1 (remI (convI IntKind.i64 x_1) 16))] w1 (Value.bool x_6)) ∧
                              brP (s.fst != addI IntKind.i64 1 (remI (convI IntKind.i64 x_1) 16) && x_6) (EnP w1 fun (w1 : World) => Post false w1) (∀ (w3 : World), Ext w1 w3 → ∃ (n' : Nat), n' < n ∧ I n' (addI IntKind.i64 s.fst 1, Unit.unit) w3)))
                       (∃ (x_6 : Bool),
                        QCalls Try.prog 28 [Value.pointer x.fst, Value.int IntKind.i64 (addI IntKind.i64 1 (remI (convI IntKind.i64 x_2) 16)), Value.int IntKind.i64 (addI IntKind.i64 1 (remI (convI IntKind.i64 x_3) 16))] w1 (Value.bool x_6) ∧
                         ∃ (x_7 : Bool),
                          ((!x_6 || x_4) = true →
                            QCalls Try.prog 28 [Value.pointer x.fst, Value.int IntKind.i64 (addI IntKind.i64 1 (remI (convI IntKind.i64 x_1) 16)), Value.int IntKind.i64 (addI IntKind.i64 1 (remI (convI IntKind.i64 x_1) 16))] w1 (Value.bool x_7)) ∧
                           brP ((!x_6 || x_4) && x_7)
                            (CaP Try.prog 23 (Sh.el (El.one (Sc.int IntKind.i64))) [Value.pointer x.fst, Value.int IntKind.i64 (addI IntKind.i64 1 (remI (convI IntKind.i64 x_1) 16))] w1 fun (x : Int) (w2 : World) =>
                             brP (x == 0) (CaP Try.prog 33 (Sh.el (El.one Sc.bool)) [] w2 fun (x : Bool) (w2 : World) => EnP w2 fun (w1 : World) => Post x w1) (EnP w2 fun (w1 : World) => Post false w1))
                            (EnP w1 fun (w1 : World) => Post false w1))))) := by kernel_rfl
end Go.Proofs.Ytcnaaobeooiojaa
