import Derived.Test.YtcnaaobeooiojaaU5
namespace Go.Proofs.Ytcnaaobeooiojaa
set_option linter.unusedSimpArgs false
set_option linter.unusedVariables false
open Go.RX
def tplay_vc_ann : Nat → Slots := (fun | 6 => [(9, Go.RX.El.one (Go.RX.Sc.int Go.IntKind.i64))] | 39 => [(23, Go.RX.El.one (Go.RX.Sc.int Go.IntKind.i64))] | 42 => [(24, Go.RX.El.one (Go.RX.Sc.int Go.IntKind.i64))] | _ => [])
theorem tplay_vc (n : Int) (p : Option Addr) (m c : Nat) (w : World) (Post : Bool → World → Prop) : (rxFn R2 tplay_vc_ann 3 [.int .i64 n, .slice p m c] w Post) = (
 CaP Try.prog 9 (Sh.tup [El.one Sc.ptr, El.one (Sc.int IntKind.i64)]) [Value.int IntKind.i64 n] w fun (x : Option Addr × Int × Unit) (w2 : World) =>
  CaP Try.prog 10 (Sh.tup [El.one Sc.ptr, El.one (Sc.int IntKind.i64)]) [Value.int IntKind.i64 n] w2 fun (x_1 : Option Addr × Int × Unit) (w2 : World) =>
   brP (x.snd.fst != x_1.snd.fst || !(!x.fst.isNone) == (x_1.snd.fst == 0)) (EnP w2 fun (w1 : World) => Post false w1)
    (∃ (I : Nat → Int × Unit → World → Prop),
     (∃ (n : Nat), ∀ (w1 : World), Ext w2 w1 → I n (0, Unit.unit) w1) ∧
      ∀ (n_1 : Nat) (s : Int × Unit) (w1 : World),
       I n_1 s w1 →
        brP (decide (s.fst < (↑m : Int)) && decide (s.fst < 80) && !x.fst.isNone)
         ((p.isSome = true ∧ 0 ≤ s.fst ∧ s.fst < (↑m : Int)) ∧
          LdP w1 none (addP p (Int.toNat s.fst * 5)) (El.agg [Sc.int IntKind.i64, Sc.int IntKind.i64, Sc.int IntKind.i64, Sc.int IntKind.i64, Sc.bool]) fun (x_2 : Int × Int × Int × Int × Bool × Unit) =>
           AlP w1 { toList := [Value.int IntKind.i64 0, Value.int IntKind.i64 0, Value.int IntKind.i64 0, Value.int IntKind.i64 0, Value.bool false] } 31 fun (b : Nat) (w2 : World) =>
            StP w2 (some { block := b, off := 0 }) [Value.int IntKind.i64 x_2.fst, Value.int IntKind.i64 x_2.snd.fst, Value.int IntKind.i64 x_2.snd.snd.fst, Value.int IntKind.i64 x_2.snd.snd.snd.fst, Value.bool x_2.snd.snd.snd.snd.fst]
             fun (w2 : World) =>
             true = true ∧
              LdP w2 none (addP (some { block := b, off := 0 }) 0) (El.one (Sc.int IntKind.i64)) fun (x_3 : Int) =>
               brP (x_3 == 0)
                (true = true ∧
                 LdP w2 none (addP (some { block := b, off := 0 }) 1) (El.one (Sc.int IntKind.i64)) fun (x_4 : Int) =>
                  true = true ∧
                   LdP w2 none (addP (some { block := b, off := 0 }) 2) (El.one (Sc.int IntKind.i64)) fun (x_5 : Int) =>
                    CaP Try.prog 11 (Sh.tup [El.one (Sc.int IntKind.i64), El.one (Sc.int IntKind.i64)]) [Value.pointer x.fst, Value.int IntKind.i64 x_4, Value.int IntKind.i64 x_5] w2 fun (x_6 : Int × Int × Unit) (w2 : World) =>
                     true = true ∧
                      LdP w2 none (addP (some { block := b, off := 0 }) 1) (El.one (Sc.int IntKind.i64)) fun (x_7 : Int) =>
                       true = true ∧
                        LdP w2 none (addP (some { block := b, off := 0 }) 2) (El.one (Sc.int IntKind.i64)) fun (x_8 : Int) =>
                         CaP Try.prog 12 (Sh.tup [El.one (Sc.int IntKind.i64), El.one (Sc.int IntKind.i64)]) [Value.pointer x_1.fst, Value.int IntKind.i64 x_7, Value.int IntKind.i64 x_8] w2 fun (x_9 : Int × Int × Unit) (w2 : World) =>
                          brP (x_6.fst != x_9.fst || x_6.snd.fst != x_9.snd.fst) (EnP w2 fun (w1 : World) => Post false w1)
                           (true = true ∧
                            LdP w2 none (addP (some { block := b, off := 0 }) 1) (El.one (Sc.int IntKind.i64)) fun (x_10 : Int) =>
                             true = true ∧
                              LdP w2 none (addP (some { block := b, off := 0 }) 1) (El.one (Sc.int IntKind.i64)) fun (x_11 : Int) =>
                               CaP Try.prog 26 (Sh.el (El.one Sc.slice)) [Value.pointer x.fst, Value.int IntKind.i64 x_10] w2 fun (x_12 : Option Addr × Nat × Nat) (w2 : World) =>
                                rdAt w2 (addP (some { block := b, off := 0 }) 1) (El.one (Sc.int IntKind.i64)) x_11 ∧
                                 True ∧
                                  CaP Try.prog 27 (Sh.el (El.one Sc.slice)) [Value.pointer x_1.fst, Value.int IntKind.i64 x_11] w2 fun (x_13 : Option Addr × Nat × Nat) (w2 : World) =>
                                   CaP Try.prog 25 (Sh.el (El.one Sc.bool)) [Value.slice x_12.fst x_12.snd.fst x_12.snd.snd, Value.slice x_13.fst x_13.snd.fst x_13.snd.snd] w2 fun (x_14 : Bool) (w2 : World) =>
                                    ((!!x_14) = true → true = true) ∧
                                     LdP w2 (some !!x_14) (addP (some { block := b, off := 0 }) 1) (El.one (Sc.int IntKind.i64)) fun (x_15 : Int) =>
                                      ((!!x_14) = true → true = true) ∧
                                       LdP w2 (some !!x_14) (addP (some { block := b, off := 0 }) 2) (El.one (Sc.int IntKind.i64)) fun (x_16 : Int) =>
                                        ∃ (x_17 : Bool),
                                         ((!!x_14) = true → QCalls Try.prog 28 [Value.pointer x.fst, Value.int IntKind.i64 x_15, Value.int IntKind.i64 x_16] w2 (Value.bool x_17)) ∧
                                          ((!!x_14) = true → true = true) ∧
                                           LdP w2 (some !!x_14) (addP (some { block := b, off := 0 }) 1) (El.one (Sc.int IntKind.i64)) fun (x_18 : Int) =>
                                            ((!!x_14) = true → true = true) ∧
                                             LdP w2 (some !!x_14) (addP (some { block := b, off := 0 }) 2) (El.one (Sc.int IntKind.i64)) fun (x_19 : Int) =>
                                              ∃ (x_20 : Bool),
                                               ((!!x_14) = true → QCalls Try.prog 29 [Value.pointer x_1.fst, Value.int IntKind.i64 x_18, Value.int IntKind.i64 x_19] w2 (Value.bool x_20)) ∧
                                                brP (!x_14 || !x_17 == x_20) (EnP w2 fun (w1 : World) => Post false w1)
                                                 (∃ (I_1 : Nat → Int × Unit → World → Prop),
                                                  (∃ (n : Nat), ∀ (w1 : World), Ext w2 w1 → I_1 n (0, Unit.unit) w1) ∧
                                                   ∀ (n_2 : Nat) (s_1 : Int × Unit) (w1 : World),
                                                    I_1 n_2 s_1 w1 →
                                                     brP (decide (s_1.fst < 18))
                                                      (∃ (I : Nat → Int × Unit → World → Prop),
                                                       (∃ (n : Nat), ∀ (w1_1 : World), Ext w1 w1_1 → I n (-1, Unit.unit) w1_1) ∧
                                                        ∀ (n_3 : Nat) (s : Int × Unit) (w1 : World),
                                                         I n_3 s w1 →
                                                          brP (decide (s.fst ≤ n))
                                                           (∃ (x_21 : (Int × Int × Int × Bool × Bool × Unit) × Bool × Unit),
                                                            QCalls Try.prog 30 [Value.pointer x.fst, Value.int IntKind.i64 s_1.fst, Value.int IntKind.i64 s.fst] w1
                                                              (Value.tuple
                                                               {
                                                                toList :=
                                                                 [Value.agg
                                                                   {
                                                                    toList :=
                                                                     [Value.int IntKind.i64 x_21.fst.fst, Value.int IntKind.i64 x_21.fst.snd.fst, Value.int IntKind.i64 x_21.fst.snd.snd.fst, Value.bool x_21.fst.snd.snd.snd.fst,
                                                                      Value.bool x_21.fst.snd.snd.snd.snd.fst] },
                                                                  Value.bool x_21.snd.fst] }) ∧
                                                             AlP w1 { toList := [Value.int IntKind.i64 0, Value.int IntKind.i64 0, Value.int IntKind.i64 0, Value.bool false, Value.bool false] } 45 fun (b : Nat) (w2 : World) =>
                                                              StP w2 (some { block := b, off := 0 })
                                                               [Value.int IntKind.i64 x_21.fst.fst, Value.int IntKind.i64 x_21.fst.snd.fst, Value.int IntKind.i64 x_21.fst.snd.snd.fst, Value.bool x_21.fst.snd.snd.snd.fst,
                                                                Value.bool x_21.fst.snd.snd.snd.snd.fst]
                                                               fun (w2 : World) =>
                                                               ∃ (x : (Int × Int × Int × Bool × Bool × Unit) × Bool × Unit),
                                                                QCalls Try.prog 31 [Value.pointer x_1.fst, Value.int IntKind.i64 s_1.fst, Value.int IntKind.i64 s.fst] w2
                                                                  (Value.tuple
                                                                   {
                                                                    toList :=
                                                                     [Value.agg
                                                                       {
                                                                        toList :=
                                                                         [Value.int IntKind.i64 x.fst.fst, Value.int IntKind.i64 x.fst.snd.fst, Value.int IntKind.i64 x.fst.snd.snd.fst, Value.bool x.fst.snd.snd.snd.fst,
                                                                          Value.bool x.fst.snd.snd.snd.snd.fst] },
                                                                      Value.bool x.snd.fst] }) ∧
                                                                 AlP w2 { toList := [Value.int IntKind.i64 0, Value.int IntKind.i64 0, Value.int IntKind.i64 0, Value.bool false, Value.bool false] } 48 fun (b_1 : Nat) (w2 : World) =>
                                                                  StP w2 (some { block := b_1, off := 0 })
                                                                   [Value.int IntKind.i64 x.fst.fst, Value.int IntKind.i64 x.fst.snd.fst, Value.int IntKind.i64 x.fst.snd.snd.fst, Value.bool x.fst.snd.snd.snd.fst, Value.bool x.fst.snd.snd.snd.snd.fst]
                                                                   fun (w2 : World) =>
                                                                   LdP w2 none (some { block := b, off := 0 }) (El.agg [Sc.int IntKind.i64, Sc.int IntKind.i64, Sc.int IntKind.i64, Sc.bool, Sc.bool])
                                                                    fun (x_22 : Int × Int × Int × Bool × Bool × Unit) =>
                                                                    ∃ (x_23 : Int × Int × Int × Bool × Bool × Unit),
                                                                     QCalls Try.prog 32
                                                                       [Value.agg
                                                                         {
                                                                          toList :=
                                                                           [Value.int IntKind.i64 x_22.fst, Value.int IntKind.i64 x_22.snd.fst, Value.int IntKind.i64 x_22.snd.snd.fst, Value.bool x_22.snd.snd.snd.fst,
                                                                            Value.bool x_22.snd.snd.snd.snd.fst] }]
                                                                       w2
                                                                       (Value.agg
                                                                        {
                                                                         toList :=
                                                                          [Value.int IntKind.i64 x_23.fst, Value.int IntKind.i64 x_23.snd.fst, Value.int IntKind.i64 x_23.snd.snd.fst, Value.bool x_23.snd.snd.snd.fst,
                                                                           Value.bool x_23.snd.snd.snd.snd.fst] }) ∧
                                                                      LdP w2 none (some { block := b_1, off := 0 }) (El.agg [Sc.int IntKind.i64, Sc.int IntKind.i64, Sc.int IntKind.i64, Sc.bool, Sc.bool])
                                                                       fun (x_24 : Int × Int × Int × Bool × Bool × Unit) =>
                                                                       brP
                                                                        (!(x_23.fst == x_24.fst &&
                                                                           (x_23.snd.fst == x_24.snd.fst &&
                                                                            (x_23.snd.snd.fst == x_24.snd.snd.fst && (x_23.snd.snd.snd.fst == x_24.snd.snd.snd.fst && (x_23.snd.snd.snd.snd.fst == x_24.snd.snd.snd.snd.fst && true))))) ||
                                                                         !x_21.snd.fst == x.snd.fst)
                                                                        (EnP w2 fun (w1 : World) => Post false w1) (∀ (w3 : World), Ext w2 w3 → ∃ (n' : Nat), n' < n_3 ∧ I n' (addI IntKind.i64 s.fst 1, Unit.unit) w3))
                                                           (∀ (w3 : World), Ext w1 w3 → ∃ (n' : Nat), n' < n_2 ∧ I_1 n' (addI IntKind.i64 s_1.fst 1, Unit.unit) w3))
                                                      (∀ (w3 : World), Ext w1 w3 → ∃ (n' : Nat), n' < n_1 ∧ I n' (addI IntKind.i64 s.fst 1, Unit.unit) w3))))
                (brP (x_3 == 1)
                 (true = true ∧
                  LdP w2 none (addP (some { block := b, off := 0 }) 1) (El.one (Sc.int IntKind.i64)) fun (x_4 : Int) =>
                   true = true ∧
                    LdP w2 none (addP (some { block := b, off := 0 }) 2) (El.one (Sc.int IntKind.i64)) fun (x_5 : Int) =>
                     true = true ∧
                      LdP w2 none (addP (some { block := b, off := 0 }) 3) (El.one (Sc.int IntKind.i64)) fun (x_6 : Int) =>
                       CaP Try.prog 13 (Sh.tup [El.one (Sc.int IntKind.i64), El.one (Sc.int IntKind.i64)]) [Value.pointer x.fst, Value.int IntKind.i64 x_4, Value.int IntKind.i64 x_5, Value.int IntKind.i64 x_6] w2
                        fun (x_7 : Int × Int × Unit) (w2 : World) =>
                        true = true ∧
                         LdP w2 none (addP (some { block := b, off := 0 }) 1) (El.one (Sc.int IntKind.i64)) fun (x_8 : Int) =>
                          true = true ∧
                           LdP w2 none (addP (some { block := b, off := 0 }) 2) (El.one (Sc.int IntKind.i64)) fun (x_9 : Int) =>
                            true = true ∧
                             LdP w2 none (addP (some { block := b, off := 0 }) 3) (El.one (Sc.int IntKind.i64)) fun (x_10 : Int) =>
                              CaP Try.prog 14 (Sh.tup [El.one (Sc.int IntKind.i64), El.one (Sc.int IntKind.i64)]) [Value.pointer x_1.fst, Value.int IntKind.i64 x_8, Value.int IntKind.i64 x_9, Value.int IntKind.i64 x_10] w2
                               fun (x_11 : Int × Int × Unit) (w2 : World) =>
                               brP (x_7.fst != x_11.fst || x_7.snd.fst != x_11.snd.fst) (EnP w2 fun (w1 : World) => Post false w1)
                                (true = true ∧
                                 LdP w2 none (addP (some { block := b, off := 0 }) 1) (El.one (Sc.int IntKind.i64)) fun (x_12 : Int) =>
                                  true = true ∧
                                   LdP w2 none (addP (some { block := b, off := 0 }) 1) (El.one (Sc.int IntKind.i64)) fun (x_13 : Int) =>
                                    CaP Try.prog 26 (Sh.el (El.one Sc.slice)) [Value.pointer x.fst, Value.int IntKind.i64 x_12] w2 fun (x_14 : Option Addr × Nat × Nat) (w2 : World) =>
                                     rdAt w2 (addP (some { block := b, off := 0 }) 1) (El.one (Sc.int IntKind.i64)) x_13 ∧
                                      True ∧
                                       CaP Try.prog 27 (Sh.el (El.one Sc.slice)) [Value.pointer x_1.fst, Value.int IntKind.i64 x_13] w2 fun (x_15 : Option Addr × Nat × Nat) (w2 : World) =>
                                        CaP Try.prog 25 (Sh.el (El.one Sc.bool)) [Value.slice x_14.fst x_14.snd.fst x_14.snd.snd, Value.slice x_15.fst x_15.snd.fst x_15.snd.snd] w2 fun (x_16 : Bool) (w2 : World) =>
                                         ((!!x_16) = true → true = true) ∧
                                          LdP w2 (some !!x_16) (addP (some { block := b, off := 0 }) 1) (El.one (Sc.int IntKind.i64)) fun (x_17 : Int) =>
                                           ((!!x_16) = true → true = true) ∧
                                            LdP w2 (some !!x_16) (addP (some { block := b, off := 0 }) 2) (El.one (Sc.int IntKind.i64)) fun (x_18 : Int) =>
                                             ∃ (x_19 : Bool),
                                              ((!!x_16) = true → QCalls Try.prog 28 [Value.pointer x.fst, Value.int IntKind.i64 x_17, Value.int IntKind.i64 x_18] w2 (Value.bool x_19)) ∧
                                               ((!!x_16) = true → true = true) ∧
                                                LdP w2 (some !!x_16) (addP (some { block := b, off := 0 }) 1) (El.one (Sc.int IntKind.i64)) fun (x_20 : Int) =>
                                                 ((!!x_16) = true → true = true) ∧
                                                  LdP w2 (some !!x_16) (addP (some { block := b, off := 0 }) 2) (El.one (Sc.int IntKind.i64)) fun (x_21 : Int) =>
                                                   ∃ (x_22 : Bool),
                                                    ((!!x_16) = true → QCalls Try.prog 29 [Value.pointer x_1.fst, Value.int IntKind.i64 x_20, Value.int IntKind.i64 x_21] w2 (Value.bool x_22)) ∧
                                                     brP (!x_16 || !x_19 == x_22) (EnP w2 fun (w1 : World) => Post false w1)
                                                      (∃ (I_1 : Nat → Int × Unit → World → Prop),
                                                       (∃ (n : Nat), ∀ (w1 : World), Ext w2 w1 → I_1 n (0, Unit.unit) w1) ∧
                                                        ∀ (n_2 : Nat) (s_1 : Int × Unit) (w1 : World),
                                                         I_1 n_2 s_1 w1 →
                                                          brP (decide (s_1.fst < 18))
                                                           (∃ (I : Nat → Int × Unit → World → Prop),
                                                            (∃ (n : Nat), ∀ (w1_1 : World), Ext w1 w1_1 → I n (-1, Unit.unit) w1_1) ∧
                                                             ∀ (n_3 : Nat) (s : Int × Unit) (w1 : World),
                                                              I n_3 s w1 →
                                                               brP (decide (s.fst ≤ n))
                                                                (∃ (x_23 : (Int × Int × Int × Bool × Bool × Unit) × Bool × Unit),
                                                                 QCalls Try.prog 30 [Value.pointer x.fst, Value.int IntKind.i64 s_1.fst, Value.int IntKind.i64 s.fst] w1
                                                                   (Value.tuple
                                                                    {
                                                                     toList :=
                                                                      [Value.agg
                                                                        {
                                                                         toList :=
                                                                          [Value.int IntKind.i64 x_23.fst.fst, Value.int IntKind.i64 x_23.fst.snd.fst, Value.int IntKind.i64 x_23.fst.snd.snd.fst, Value.bool x_23.fst.snd.snd.snd.fst,
                                                                           Value.bool x_23.fst.snd.snd.snd.snd.fst] },
                                                                       Value.bool x_23.snd.fst] }) ∧
                                                                  AlP w1 { toList := [Value.int IntKind.i64 0, Value.int IntKind.i64 0, Value.int IntKind.i64 0, Value.bool false, Value.bool false] } 45 fun (b : Nat) (w2 : World) =>
                                                                   StP w2 (some { block := b, off := 0 })
                                                                    [Value.int IntKind.i64 x_23.fst.fst, Value.int IntKind.i64 x_23.fst.snd.fst, Value.int IntKind.i64 x_23.fst.snd.snd.fst, Value.bool x_23.fst.snd.snd.snd.fst,
                                                                     Value.bool x_23.fst.snd.snd.snd.snd.fst]
                                                                    fun (w2 : World) =>
                                                                    ∃ (x : (Int × Int × Int × Bool × Bool × Unit) × Bool × Unit),
                                                                     QCalls Try.prog 31 [Value.pointer x_1.fst, Value.int IntKind.i64 s_1.fst, Value.int IntKind.i64 s.fst] w2
                                                                       (Value.tuple
                                                                        {
                                                                         toList :=
                                                                          [Value.agg
                                                                            {
                                                                             toList :=
                                                                              [Value.int IntKind.i64 x.fst.fst, Value.int IntKind.i64 x.fst.snd.fst, Value.int IntKind.i64 x.fst.snd.snd.fst, Value.bool x.fst.snd.snd.snd.fst,
                                                                               Value.bool x.fst.snd.snd.snd.snd.fst] },
                                                                           Value.bool x.snd.fst] }) ∧
                                                                      AlP w2 { toList := [Value.int IntKind.i64 0, Value.int IntKind.i64 0, Value.int IntKind.i64 0, Value.bool false, Value.bool false] } 48 fun (b_1 : Nat) (w2 : World) =>
                                                                       StP w2 (some { block := b_1, off := 0 })
                                                                        [Value.int IntKind.i64 x.fst.fst, Value.int IntKind.i64 x.fst.snd.fst, Value.int IntKind.i64 x.fst.snd.snd.fst, Value.bool x.fst.snd.snd.snd.fst,
                                                                         Value.bool x.fst.snd.snd.snd.snd.fst]
                                                                        fun (w2 : World) =>
                                                                        LdP w2 none (some { block := b, off := 0 }) (El.agg [Sc.int IntKind.i64, Sc.int IntKind.i64, Sc.int IntKind.i64, Sc.bool, Sc.bool])
                                                                         fun (x_24 : Int × Int × Int × Bool × Bool × Unit) =>
                                                                         ∃ (x_25 : Int × Int × Int × Bool × Bool × Unit),
                                                                          QCalls Try.prog 32
                                                                            [Value.agg
                                                                              {
                                                                               toList :=
                                                                                [Value.int IntKind.i64 x_24.fst, Value.int IntKind.i64 x_24.snd.fst, Value.int IntKind.i64 x_24.snd.snd.fst, Value.bool x_24.snd.snd.snd.fst,
                                                                                 Value.bool x_24.snd.snd.snd.snd.fst] }]
                                                                            w2
                                                                            (Value.agg
                                                                             {
                                                                              toList :=
                                                                               [Value.int IntKind.i64 x_25.fst, Value.int IntKind.i64 x_25.snd.fst, Value.int IntKind.i64 x_25.snd.snd.fst, Value.bool x_25.snd.snd.snd.fst,
                                                                                Value.bool x_25.snd.snd.snd.snd.fst] }) ∧
                                                                           LdP w2 none (some { block := b_1, off := 0 }) (El.agg [Sc.int IntKind.i64, Sc.int IntKind.i64, Sc.int IntKind.i64, Sc.bool, Sc.bool])
                                                                            fun (x_26 : Int × Int × Int × Bool × Bool × Unit) =>
                                                                            brP
                                                                             (!(x_25.fst == x_26.fst &&
                                                                                (x_25.snd.fst == x_26.snd.fst &&
                                                                                 (x_25.snd.snd.fst == x_26.snd.snd.fst && (x_25.snd.snd.snd.fst == x_26.snd.snd.snd.fst && (x_25.snd.snd.snd.snd.fst == x_26.snd.snd.snd.snd.fst && true))))) ||
                                                                              !x_23.snd.fst == x.snd.fst)
                                                                             (EnP w2 fun (w1 : World) => Post false w1) (∀ (w3 : World), Ext w2 w3 → ∃ (n' : Nat), n' < n_3 ∧ I n' (addI IntKind.i64 s.fst 1, Unit.unit) w3))
                                                                (∀ (w3 : World), Ext w1 w3 → ∃ (n' : Nat), n' < n_2 ∧ I_1 n' (addI IntKind.i64 s_1.fst 1, Unit.unit) w3))
                                                           (∀ (w3 : World), Ext w1 w3 → ∃ (n' : Nat), n' < n_1 ∧ I n' (addI IntKind.i64 s.fst 1, Unit.unit) w3))))
                 (brP (x_3 == 2)
                  (true = true ∧
                   LdP w2 none (addP (some { block := b, off := 0 }) 1) (El.one (Sc.int IntKind.i64)) fun (x_4 : Int) =>
                    true = true ∧
                     LdP w2 none (addP (some { block := b, off := 0 }) 3) (El.one (Sc.int IntKind.i64)) fun (x_5 : Int) =>
                      true = true ∧
                       LdP w2 none (addP (some { block := b, off := 0 }) 1) (El.one (Sc.int IntKind.i64)) fun (x_6 : Int) =>
                        true = true ∧
                         LdP w2 none (addP (some { block := b, off := 0 }) 3) (El.one (Sc.int IntKind.i64)) fun (x_7 : Int) =>
                          CaP Try.prog 15 (Sh.el (El.one (Sc.int IntKind.i64))) [Value.pointer x.fst, Value.int IntKind.i64 x_4, Value.int IntKind.i64 x_5] w2 fun (x_8 : Int) (w2 : World) =>
                           rdAt w2 (addP (some { block := b, off := 0 }) 3) (El.one (Sc.int IntKind.i64)) x_7 ∧
                            True ∧
                             rdAt w2 (addP (some { block := b, off := 0 }) 1) (El.one (Sc.int IntKind.i64)) x_6 ∧
                              True ∧
                               CaP Try.prog 16 (Sh.el (El.one (Sc.int IntKind.i64))) [Value.pointer x_1.fst, Value.int IntKind.i64 x_6, Value.int IntKind.i64 x_7] w2 fun (x_9 : Int) (w2 : World) =>
                                brP (x_8 != x_9) (EnP w2 fun (w1 : World) => Post false w1)
                                 (true = true ∧
                                  LdP w2 none (addP (some { block := b, off := 0 }) 1) (El.one (Sc.int IntKind.i64)) fun (x_10 : Int) =>
                                   true = true ∧
                                    LdP w2 none (addP (some { block := b, off := 0 }) 1) (El.one (Sc.int IntKind.i64)) fun (x_11 : Int) =>
                                     CaP Try.prog 26 (Sh.el (El.one Sc.slice)) [Value.pointer x.fst, Value.int IntKind.i64 x_10] w2 fun (x_12 : Option Addr × Nat × Nat) (w2 : World) =>
                                      rdAt w2 (addP (some { block := b, off := 0 }) 1) (El.one (Sc.int IntKind.i64)) x_11 ∧
                                       True ∧
                                        CaP Try.prog 27 (Sh.el (El.one Sc.slice)) [Value.pointer x_1.fst, Value.int IntKind.i64 x_11] w2 fun (x_13 : Option Addr × Nat × Nat) (w2 : World) =>
                                         CaP Try.prog 25 (Sh.el (El.one Sc.bool)) [Value.slice x_12.fst x_12.snd.fst x_12.snd.snd, Value.slice x_13.fst x_13.snd.fst x_13.snd.snd] w2 fun (x_14 : Bool) (w2 : World) =>
                                          ((!!x_14) = true → true = true) ∧
                                           LdP w2 (some !!x_14) (addP (some { block := b, off := 0 }) 1) (El.one (Sc.int IntKind.i64)) fun (x_15 : Int) =>
                                            ((!!x_14) = true → true = true) ∧
                                             LdP w2 (some !!x_14) (addP (some { block := b, off := 0 }) 2) (El.one (Sc.int IntKind.i64)) fun (x_16 : Int) =>
                                              ∃ (x_17 : Bool),
                                               ((!!x_14) = true → QCalls Try.prog 28 [Value.pointer x.fst, Value.int IntKind.i64 x_15, Value.int IntKind.i64 x_16] w2 (Value.bool x_17)) ∧
                                                ((!!x_14) = true → true = true) ∧
                                                 LdP w2 (some !!x_14) (addP (some { block := b, off := 0 }) 1) (El.one (Sc.int IntKind.i64)) fun (x_18 : Int) =>
                                                  ((!!x_14) = true → true = true) ∧
                                                   LdP w2 (some !!x_14) (addP (some { block := b, off := 0 }) 2) (El.one (Sc.int IntKind.i64)) fun (x_19 : Int) =>
                                                    ∃ (x_20 : Bool),
                                                     ((!!x_14) = true → QCalls Try.prog 29 [Value.pointer x_1.fst, Value.int IntKind.i64 x_18, Value.int IntKind.i64 x_19] w2 (Value.bool x_20)) ∧
                                                      brP (!x_14 || !x_17 == x_20) (EnP w2 fun (w1 : World) => Post false w1)
                                                       (∃ (I_1 : Nat → Int × Unit → World → Prop),
                                                        (∃ (n : Nat), ∀ (w1 : World), Ext w2 w1 → I_1 n (0, Unit.unit) w1) ∧
                                                         ∀ (n_2 : Nat) (s_1 : Int × Unit) (w1 : World),
                                                          I_1 n_2 s_1 w1 →
                                                           brP (decide (s_1.fst < 18))
                                                            (∃ (I : Nat → Int × Unit → World → Prop),
                                                             (∃ (n : Nat), ∀ (w1_1 : World), Ext w1 w1_1 → I n (-1, Unit.unit) w1_1) ∧
                                                              ∀ (n_3 : Nat) (s : Int × Unit) (w1 : World),
                                                               I n_3 s w1 →
                                                                brP (decide (s.fst ≤ n))
                                                                 (∃ (x_21 : (Int × Int × Int × Bool × Bool × Unit) × Bool × Unit),
                                                                  QCalls Try.prog 30 [Value.pointer x.fst, Value.int IntKind.i64 s_1.fst, Value.int IntKind.i64 s.fst] w1
                                                                    (Value.tuple
                                                                     {
                                                                      toList :=
                                                                       [Value.agg
                                                                         {
                                                                          toList :=
                                                                           [Value.int IntKind.i64 x_21.fst.fst, Value.int IntKind.i64 x_21.fst.snd.fst, Value.int IntKind.i64 x_21.fst.snd.snd.fst, Value.bool x_21.fst.snd.snd.snd.fst,
                                                                            Value.bool x_21.fst.snd.snd.snd.snd.fst] },
                                                                        Value.bool x_21.snd.fst] }) ∧
                                                                   AlP w1 { toList := [Value.int IntKind.i64 0, Value.int IntKind.i64 0, Value.int IntKind.i64 0, Value.bool false, Value.bool false] } 45 fun (b : Nat) (w2 : World) =>
                                                                    StP w2 (some { block := b, off := 0 })
                                                                     [Value.int IntKind.i64 x_21.fst.fst, Value.int IntKind.i64 x_21.fst.snd.fst, Value.int IntKind.i64 x_21.fst.snd.snd.fst, Value.bool x_21.fst.snd.snd.snd.fst,
                                                                      Value.bool x_21.fst.snd.snd.snd.snd.fst]
                                                                     fun (w2 : World) =>
                                                                     ∃ (x : (Int × Int × Int × Bool × Bool × Unit) × Bool × Unit),
                                                                      QCalls Try.prog 31 [Value.pointer x_1.fst, Value.int IntKind.i64 s_1.fst, Value.int IntKind.i64 s.fst] w2
                                                                        (Value.tuple
                                                                         {
                                                                          toList :=
                                                                           [Value.agg
                                                                             {
                                                                              toList :=
                                                                               [Value.int IntKind.i64 x.fst.fst, Value.int IntKind.i64 x.fst.snd.fst, Value.int IntKind.i64 x.fst.snd.snd.fst, Value.bool x.fst.snd.snd.snd.fst,
                                                                                Value.bool x.fst.snd.snd.snd.snd.fst] },
                                                                            Value.bool x.snd.fst] }) ∧
                                                                       AlP w2 { toList := [Value.int IntKind.i64 0, Value.int IntKind.i64 0, Value.int IntKind.i64 0, Value.bool false, Value.bool false] } 48 fun (b_1 : Nat) (w2 : World) =>
                                                                        StP w2 (some { block := b_1, off := 0 })
                                                                         [Value.int IntKind.i64 x.fst.fst, Value.int IntKind.i64 x.fst.snd.fst, Value.int IntKind.i64 x.fst.snd.snd.fst, Value.bool x.fst.snd.snd.snd.fst,
                                                                          Value.bool x.fst.snd.snd.snd.snd.fst]
                                                                         fun (w2 : World) =>
                                                                         LdP w2 none (some { block := b, off := 0 }) (El.agg [Sc.int IntKind.i64, Sc.int IntKind.i64, Sc.int IntKind.i64, Sc.bool, Sc.bool])
                                                                          fun (x_22 : Int × Int × Int × Bool × Bool × Unit) =>
                                                                          ∃ (x_23 : Int × Int × Int × Bool × Bool × Unit),
                                                                           QCalls Try.prog 32
                                                                             [Value.agg
                                                                               {
                                                                                toList :=
                                                                                 [Value.int IntKind.i64 x_22.fst, Value.int IntKind.i64 x_22.snd.fst, Value.int IntKind.i64 x_22.snd.snd.fst, Value.bool x_22.snd.snd.snd.fst,
                                                                                  Value.bool x_22.snd.snd.snd.snd.fst] }]
                                                                             w2
                                                                             (Value.agg
                                                                              {
                                                                               toList :=
                                                                                [Value.int IntKind.i64 x_23.fst, Value.int IntKind.i64 x_23.snd.fst, Value.int IntKind.i64 x_23.snd.snd.fst, Value.bool x_23.snd.snd.snd.fst,
                                                                                 Value.bool x_23.snd.snd.snd.snd.fst] }) ∧
                                                                            LdP w2 none (some { block := b_1, off := 0 }) (El.agg [Sc.int IntKind.i64, Sc.int IntKind.i64, Sc.int IntKind.i64, Sc.bool, Sc.bool])
                                                                             fun (x_24 : Int × Int × Int × Bool × Bool × Unit) =>
                                                                             brP
                                                                              (!(x_23.fst == x_24.fst &&
                                                                                 (x_23.snd.fst == x_24.snd.fst &&
                                                                                  (x_23.snd.snd.fst == x_24.snd.snd.fst && (x_23.snd.snd.snd.fst == x_24.snd.snd.snd.fst && (x_23.snd.snd.snd.snd.fst == x_24.snd.snd.snd.snd.fst && true))))) ||
                                                                               !x_21.snd.fst == x.snd.fst)
                                                                              (EnP w2 fun (w1 : World) => Post false w1) (∀ (w3 : World), Ext w2 w3 → ∃ (n' : Nat), n' < n_3 ∧ I n' (addI IntKind.i64 s.fst 1, Unit.unit) w3))
                                                                 (∀ (w3 : World), Ext w1 w3 → ∃ (n' : Nat), n' < n_2 ∧ I_1 n' (addI IntKind.i64 s_1.fst 1, Unit.unit) w3))
                                                            (∀ (w3 : World), Ext w1 w3 → ∃ (n' : Nat), n' < n_1 ∧ I n' (addI IntKind.i64 s.fst 1, Unit.unit) w3))))
                  (brP (x_3 == 3)
                   (true = true ∧
                    LdP w2 none (addP (some { block := b, off := 0 }) 1) (El.one (Sc.int IntKind.i64)) fun (x_4 : Int) =>
                     true = true ∧
                      LdP w2 none (addP (some { block := b, off := 0 }) 3) (El.one (Sc.int IntKind.i64)) fun (x_5 : Int) =>
                       true = true ∧
                        LdP w2 none (addP (some { block := b, off := 0 }) 4) (El.one Sc.bool) fun (x_6 : Bool) =>
                         true = true ∧
                          LdP w2 none (addP (some { block := b, off := 0 }) 1) (El.one (Sc.int IntKind.i64)) fun (x_7 : Int) =>
                           true = true ∧
                            LdP w2 none (addP (some { block := b, off := 0 }) 3) (El.one (Sc.int IntKind.i64)) fun (x_8 : Int) =>
                             true = true ∧
                              LdP w2 none (addP (some { block := b, off := 0 }) 4) (El.one Sc.bool) fun (x_9 : Bool) =>
                               CaP Try.prog 17 (Sh.el (El.one (Sc.int IntKind.i64))) [Value.pointer x.fst, Value.int IntKind.i64 x_4, Value.int IntKind.i64 x_5, Value.bool x_6] w2 fun (x_10 : Int) (w2 : World) =>
                                rdAt w2 (addP (some { block := b, off := 0 }) 4) (El.one Sc.bool) x_9 ∧
                                 True ∧
                                  rdAt w2 (addP (some { block := b, off := 0 }) 3) (El.one (Sc.int IntKind.i64)) x_8 ∧
                                   True ∧
                                    rdAt w2 (addP (some { block := b, off := 0 }) 1) (El.one (Sc.int IntKind.i64)) x_7 ∧
                                     True ∧
                                      CaP Try.prog 18 (Sh.el (El.one (Sc.int IntKind.i64))) [Value.pointer x_1.fst, Value.int IntKind.i64 x_7, Value.int IntKind.i64 x_8, Value.bool x_9] w2 fun (x_11 : Int) (w2 : World) =>
                                       brP (x_10 != x_11) (EnP w2 fun (w1 : World) => Post false w1)
                                        (true = true ∧
                                         LdP w2 none (addP (some { block := b, off := 0 }) 1) (El.one (Sc.int IntKind.i64)) fun (x_12 : Int) =>
                                          true = true ∧
                                           LdP w2 none (addP (some { block := b, off := 0 }) 1) (El.one (Sc.int IntKind.i64)) fun (x_13 : Int) =>
                                            CaP Try.prog 26 (Sh.el (El.one Sc.slice)) [Value.pointer x.fst, Value.int IntKind.i64 x_12] w2 fun (x_14 : Option Addr × Nat × Nat) (w2 : World) =>
                                             rdAt w2 (addP (some { block := b, off := 0 }) 1) (El.one (Sc.int IntKind.i64)) x_13 ∧
                                              True ∧
                                               CaP Try.prog 27 (Sh.el (El.one Sc.slice)) [Value.pointer x_1.fst, Value.int IntKind.i64 x_13] w2 fun (x_15 : Option Addr × Nat × Nat) (w2 : World) =>
                                                CaP Try.prog 25 (Sh.el (El.one Sc.bool)) [Value.slice x_14.fst x_14.snd.fst x_14.snd.snd, Value.slice x_15.fst x_15.snd.fst x_15.snd.snd] w2 fun (x_16 : Bool) (w2 : World) =>
                                                 ((!!x_16) = true → true = true) ∧
                                                  LdP w2 (some !!x_16) (addP (some { block := b, off := 0 }) 1) (El.one (Sc.int IntKind.i64)) fun (x_17 : Int) =>
                                                   ((!!x_16) = true → true = true) ∧
                                                    LdP w2 (some !!x_16) (addP (some { block := b, off := 0 }) 2) (El.one (Sc.int IntKind.i64)) fun (x_18 : Int) =>
                                                     ∃ (x_19 : Bool),
                                                      ((!!x_16) = true → QCalls Try.prog 28 [Value.pointer x.fst, Value.int IntKind.i64 x_17, Value.int IntKind.i64 x_18] w2 (Value.bool x_19)) ∧
                                                       ((!!x_16) = true → true = true) ∧
                                                        LdP w2 (some !!x_16) (addP (some { block := b, off := 0 }) 1) (El.one (Sc.int IntKind.i64)) fun (x_20 : Int) =>
                                                         ((!!x_16) = true → true = true) ∧
                                                          LdP w2 (some !!x_16) (addP (some { block := b, off := 0 }) 2) (El.one (Sc.int IntKind.i64)) fun (x_21 : Int) =>
                                                           ∃ (x_22 : Bool),
                                                            ((!!x_16) = true → QCalls Try.prog 29 [Value.pointer x_1.fst, Value.int IntKind.i64 x_20, Value.int IntKind.i64 x_21] w2 (Value.bool x_22)) ∧
                                                             brP (!x_16 || !x_19 == x_22) (EnP w2 fun (w1 : World) => Post false w1)
                                                              (∃ (I_1 : Nat → Int × Unit → World → Prop),
                                                               (∃ (n : Nat), ∀ (w1 : World), Ext w2 w1 → I_1 n (0, Unit.unit) w1) ∧
                                                                ∀ (n_2 : Nat) (s_1 : Int × Unit) (w1 : World),
                                                                 I_1 n_2 s_1 w1 →
                                                                  brP (decide (s_1.fst < 18))
                                                                   (∃ (I : Nat → Int × Unit → World → Prop),
                                                                    (∃ (n : Nat), ∀ (w1_1 : World), Ext w1 w1_1 → I n (-1, Unit.unit) w1_1) ∧
                                                                     ∀ (n_3 : Nat) (s : Int × Unit) (w1 : World),
                                                                      I n_3 s w1 →
                                                                       brP (decide (s.fst ≤ n))
                                                                        (∃ (x_23 : (Int × Int × Int × Bool × Bool × Unit) × Bool × Unit),
                                                                         QCalls Try.prog 30 [Value.pointer x.fst, Value.int IntKind.i64 s_1.fst, Value.int IntKind.i64 s.fst] w1
                                                                           (Value.tuple
                                                                            {
                                                                             toList :=
                                                                              [Value.agg
                                                                                {
                                                                                 toList :=
                                                                                  [Value.int IntKind.i64 x_23.fst.fst, Value.int IntKind.i64 x_23.fst.snd.fst, Value.int IntKind.i64 x_23.fst.snd.snd.fst, Value.bool x_23.fst.snd.snd.snd.fst,
                                                                                   Value.bool x_23.fst.snd.snd.snd.snd.fst] },
                                                                               Value.bool x_23.snd.fst] }) ∧
                                                                          AlP w1 { toList := [Value.int IntKind.i64 0, Value.int IntKind.i64 0, Value.int IntKind.i64 0, Value.bool false, Value.bool false] } 45 fun (b : Nat) (w2 : World) =>
                                                                           StP w2 (some { block := b, off := 0 })
                                                                            [Value.int IntKind.i64 x_23.fst.fst, Value.int IntKind.i64 x_23.fst.snd.fst, Value.int IntKind.i64 x_23.fst.snd.snd.fst, Value.bool x_23.fst.snd.snd.snd.fst,
                                                                             Value.bool x_23.fst.snd.snd.snd.snd.fst]
                                                                            fun (w2 : World) =>
                                                                            ∃ (x : (Int × Int × Int × Bool × Bool × Unit) × Bool × Unit),
                                                                             QCalls Try.prog 31 [Value.pointer x_1.fst, Value.int IntKind.i64 s_1.fst, Value.int IntKind.i64 s.fst] w2
                                                                               (Value.tuple
                                                                                {
                                                                                 toList :=
                                                                                  [Value.agg
                                                                                    {
                                                                                     toList :=
                                                                                      [Value.int IntKind.i64 x.fst.fst, Value.int IntKind.i64 x.fst.snd.fst, Value.int IntKind.i64 x.fst.snd.snd.fst, Value.bool x.fst.snd.snd.snd.fst,
                                                                                       Value.bool x.fst.snd.snd.snd.snd.fst] },
                                                                                   Value.bool x.snd.fst] }) ∧
                                                                              AlP w2 { toList := [Value.int IntKind.i64 0, Value.int IntKind.i64 0, Value.int IntKind.i64 0, Value.bool false, Value.bool false] } 48 fun (b_1 : Nat) (w2 : World) =>
                                                                               StP w2 (some { block := b_1, off := 0 })
                                                                                [Value.int IntKind.i64 x.fst.fst, Value.int IntKind.i64 x.fst.snd.fst, Value.int IntKind.i64 x.fst.snd.snd.fst, Value.bool x.fst.snd.snd.snd.fst,
                                                                                 Value.bool x.fst.snd.snd.snd.snd.fst]
                                                                                fun (w2 : World) =>
                                                                                LdP w2 none (some { block := b, off := 0 }) (El.agg [Sc.int IntKind.i64, Sc.int IntKind.i64, Sc.int IntKind.i64, Sc.bool, Sc.bool])
                                                                                 fun (x_24 : Int × Int × Int × Bool × Bool × Unit) =>
                                                                                 ∃ (x_25 : Int × Int × Int × Bool × Bool × Unit),
                                                                                  QCalls Try.prog 32
                                                                                    [Value.agg
                                                                                      {
                                                                                       toList :=
                                                                                        [Value.int IntKind.i64 x_24.fst, Value.int IntKind.i64 x_24.snd.fst, Value.int IntKind.i64 x_24.snd.snd.fst, Value.bool x_24.snd.snd.snd.fst,
                                                                                         Value.bool x_24.snd.snd.snd.snd.fst] }]
                                                                                    w2
                                                                                    (Value.agg
                                                                                     {
                                                                                      toList :=
                                                                                       [Value.int IntKind.i64 x_25.fst, Value.int IntKind.i64 x_25.snd.fst, Value.int IntKind.i64 x_25.snd.snd.fst, Value.bool x_25.snd.snd.snd.fst,
                                                                                        Value.bool x_25.snd.snd.snd.snd.fst] }) ∧
                                                                                   LdP w2 none (some { block := b_1, off := 0 }) (El.agg [Sc.int IntKind.i64, Sc.int IntKind.i64, Sc.int IntKind.i64, Sc.bool, Sc.bool])
                                                                                    fun (x_26 : Int × Int × Int × Bool × Bool × Unit) =>
                                                                                    brP
                                                                                     (!(x_25.fst == x_26.fst &&
                                                                                        (x_25.snd.fst == x_26.snd.fst &&
                                                                                         (x_25.snd.snd.fst == x_26.snd.snd.fst && (x_25.snd.snd.snd.fst == x_26.snd.snd.snd.fst && (x_25.snd.snd.snd.snd.fst == x_26.snd.snd.snd.snd.fst && true))))) ||
                                                                                      !x_23.snd.fst == x.snd.fst)
                                                                                     (EnP w2 fun (w1 : World) => Post false w1) (∀ (w3 : World), Ext w2 w3 → ∃ (n' : Nat), n' < n_3 ∧ I n' (addI IntKind.i64 s.fst 1, Unit.unit) w3))
                                                                        (∀ (w3 : World), Ext w1 w3 → ∃ (n' : Nat), n' < n_2 ∧ I_1 n' (addI IntKind.i64 s_1.fst 1, Unit.unit) w3))
                                                                   (∀ (w3 : World), Ext w1 w3 → ∃ (n' : Nat), n' < n_1 ∧ I n' (addI IntKind.i64 s.fst 1, Unit.unit) w3))))
                   (brP (x_3 == 4)
                    (true = true ∧
                     LdP w2 none (addP (some { block := b, off := 0 }) 1) (El.one (Sc.int IntKind.i64)) fun (x_4 : Int) =>
                      CaP Try.prog 19 (Sh.tup [El.one (Sc.int IntKind.i64), El.one Sc.bool]) [Value.pointer x.fst, Value.int IntKind.i64 x_4] w2 fun (x_5 : Int × Bool × Unit) (w2 : World) =>
                       true = true ∧
                        LdP w2 none (addP (some { block := b, off := 0 }) 1) (El.one (Sc.int IntKind.i64)) fun (x_6 : Int) =>
                         CaP Try.prog 20 (Sh.tup [El.one (Sc.int IntKind.i64), El.one Sc.bool]) [Value.pointer x_1.fst, Value.int IntKind.i64 x_6] w2 fun (x_7 : Int × Bool × Unit) (w2 : World) =>
                          brP (x_5.fst != x_7.fst || !x_5.snd.fst == x_7.snd.fst) (EnP w2 fun (w1 : World) => Post false w1)
                           (true = true ∧
                            LdP w2 none (addP (some { block := b, off := 0 }) 1) (El.one (Sc.int IntKind.i64)) fun (x_8 : Int) =>
                             true = true ∧
                              LdP w2 none (addP (some { block := b, off := 0 }) 1) (El.one (Sc.int IntKind.i64)) fun (x_9 : Int) =>
                               CaP Try.prog 26 (Sh.el (El.one Sc.slice)) [Value.pointer x.fst, Value.int IntKind.i64 x_8] w2 fun (x_10 : Option Addr × Nat × Nat) (w2 : World) =>
                                rdAt w2 (addP (some { block := b, off := 0 }) 1) (El.one (Sc.int IntKind.i64)) x_9 ∧
                                 True ∧
                                  CaP Try.prog 27 (Sh.el (El.one Sc.slice)) [Value.pointer x_1.fst, Value.int IntKind.i64 x_9] w2 fun (x_11 : Option Addr × Nat × Nat) (w2 : World) =>
                                   CaP Try.prog 25 (Sh.el (El.one Sc.bool)) [Value.slice x_10.fst x_10.snd.fst x_10.snd.snd, Value.slice x_11.fst x_11.snd.fst x_11.snd.snd] w2 fun (x_12 : Bool) (w2 : World) =>
                                    ((!!x_12) = true → true = true) ∧
                                     LdP w2 (some !!x_12) (addP (some { block := b, off := 0 }) 1) (El.one (Sc.int IntKind.i64)) fun (x_13 : Int) =>
                                      ((!!x_12) = true → true = true) ∧
                                       LdP w2 (some !!x_12) (addP (some { block := b, off := 0 }) 2) (El.one (Sc.int IntKind.i64)) fun (x_14 : Int) =>
                                        ∃ (x_15 : Bool),
                                         ((!!x_12) = true → QCalls Try.prog 28 [Value.pointer x.fst, Value.int IntKind.i64 x_13, Value.int IntKind.i64 x_14] w2 (Value.bool x_15)) ∧
                                          ((!!x_12) = true → true = true) ∧
                                           LdP w2 (some !!x_12) (addP (some { block := b, off := 0 }) 1) (El.one (Sc.int IntKind.i64)) fun (x_16 : Int) =>
                                            ((!!x_12) = true → true = true) ∧
                                             LdP w2 (some !!x_12) (addP (some { block := b, off := 0 }) 2) (El.one (Sc.int IntKind.i64)) fun (x_17 : Int) =>
                                              ∃ (x_18 : Bool),
                                               ((!!x_12) = true → QCalls Try.prog 29 [Value.pointer x_1.fst, Value.int IntKind.i64 x_16, Value.int IntKind.i64 x_17] w2 (Value.bool x_18)) ∧
                                                brP (!x_12 || !x_15 == x_18) (EnP w2 fun (w1 : World) => Post false w1)
                                                 (∃ (I_1 : Nat → Int × Unit → World → Prop),
                                                  (∃ (n : Nat), ∀ (w1 : World), Ext w2 w1 → I_1 n (0, Unit.unit) w1) ∧
                                                   ∀ (n_2 : Nat) (s_1 : Int × Unit) (w1 : World),
                                                    I_1 n_2 s_1 w1 →
                                                     brP (decide (s_1.fst < 18))
                                                      (∃ (I : Nat → Int × Unit → World → Prop),
                                                       (∃ (n : Nat), ∀ (w1_1 : World), Ext w1 w1_1 → I n (-1, Unit.unit) w1_1) ∧
                                                        ∀ (n_3 : Nat) (s : Int × Unit) (w1 : World),
                                                         I n_3 s w1 →
                                                          brP (decide (s.fst ≤ n))
                                                           (∃ (x_19 : (Int × Int × Int × Bool × Bool × Unit) × Bool × Unit),
                                                            QCalls Try.prog 30 [Value.pointer x.fst, Value.int IntKind.i64 s_1.fst, Value.int IntKind.i64 s.fst] w1
                                                              (Value.tuple
                                                               {
                                                                toList :=
                                                                 [Value.agg
                                                                   {
                                                                    toList :=
                                                                     [Value.int IntKind.i64 x_19.fst.fst, Value.int IntKind.i64 x_19.fst.snd.fst, Value.int IntKind.i64 x_19.fst.snd.snd.fst, Value.bool x_19.fst.snd.snd.snd.fst,
                                                                      Value.bool x_19.fst.snd.snd.snd.snd.fst] },
                                                                  Value.bool x_19.snd.fst] }) ∧
                                                             AlP w1 { toList := [Value.int IntKind.i64 0, Value.int IntKind.i64 0, Value.int IntKind.i64 0, Value.bool false, Value.bool false] } 45 fun (b : Nat) (w2 : World) =>
                                                              StP w2 (some { block := b, off := 0 })
                                                               [Value.int IntKind.i64 x_19.fst.fst, Value.int IntKind.i64 x_19.fst.snd.fst, Value.int IntKind.i64 x_19.fst.snd.snd.fst, Value.bool x_19.fst.snd.snd.snd.fst,
                                                                Value.bool x_19.fst.snd.snd.snd.snd.fst]
                                                               fun (w2 : World) =>
                                                               ∃ (x : (Int × Int × Int × Bool × Bool × Unit) × Bool × Unit),
                                                                QCalls Try.prog 31 [Value.pointer x_1.fst, Value.int IntKind.i64 s_1.fst, Value.int IntKind.i64 s.fst] w2
                                                                  (Value.tuple
                                                                   {
                                                                    toList :=
                                                                     [Value.agg
                                                                       {
                                                                        toList :=
                                                                         [Value.int IntKind.i64 x.fst.fst, Value.int IntKind.i64 x.fst.snd.fst, Value.int IntKind.i64 x.fst.snd.snd.fst, Value.bool x.fst.snd.snd.snd.fst,
                                                                          Value.bool x.fst.snd.snd.snd.snd.fst] },
                                                                      Value.bool x.snd.fst] }) ∧
                                                                 AlP w2 { toList := [Value.int IntKind.i64 0, Value.int IntKind.i64 0, Value.int IntKind.i64 0, Value.bool false, Value.bool false] } 48 fun (b_1 : Nat) (w2 : World) =>
                                                                  StP w2 (some { block := b_1, off := 0 })
                                                                   [Value.int IntKind.i64 x.fst.fst, Value.int IntKind.i64 x.fst.snd.fst, Value.int IntKind.i64 x.fst.snd.snd.fst, Value.bool x.fst.snd.snd.snd.fst, Value.bool x.fst.snd.snd.snd.snd.fst]
                                                                   fun (w2 : World) =>
                                                                   LdP w2 none (some { block := b, off := 0 }) (El.agg [Sc.int IntKind.i64, Sc.int IntKind.i64, Sc.int IntKind.i64, Sc.bool, Sc.bool])
                                                                    fun (x_20 : Int × Int × Int × Bool × Bool × Unit) =>
                                                                    ∃ (x_21 : Int × Int × Int × Bool × Bool × Unit),
                                                                     QCalls Try.prog 32
                                                                       [Value.agg
                                                                         {
                                                                          toList :=
                                                                           [Value.int IntKind.i64 x_20.fst, Value.int IntKind.i64 x_20.snd.fst, Value.int IntKind.i64 x_20.snd.snd.fst, Value.bool x_20.snd.snd.snd.fst,
                                                                            Value.bool x_20.snd.snd.snd.snd.fst] }]
                                                                       w2
                                                                       (Value.agg
                                                                        {
                                                                         toList :=
                                                                          [Value.int IntKind.i64 x_21.fst, Value.int IntKind.i64 x_21.snd.fst, Value.int IntKind.i64 x_21.snd.snd.fst, Value.bool x_21.snd.snd.snd.fst,
                                                                           Value.bool x_21.snd.snd.snd.snd.fst] }) ∧
                                                                      LdP w2 none (some { block := b_1, off := 0 }) (El.agg [Sc.int IntKind.i64, Sc.int IntKind.i64, Sc.int IntKind.i64, Sc.bool, Sc.bool])
                                                                       fun (x_22 : Int × Int × Int × Bool × Bool × Unit) =>
                                                                       brP
                                                                        (!(x_21.fst == x_22.fst &&
                                                                           (x_21.snd.fst == x_22.snd.fst &&
                                                                            (x_21.snd.snd.fst == x_22.snd.snd.fst && (x_21.snd.snd.snd.fst == x_22.snd.snd.snd.fst && (x_21.snd.snd.snd.snd.fst == x_22.snd.snd.snd.snd.fst && true))))) ||
                                                                         !x_19.snd.fst == x.snd.fst)
                                                                        (EnP w2 fun (w1 : World) => Post false w1) (∀ (w3 : World), Ext w2 w3 → ∃ (n' : Nat), n' < n_3 ∧ I n' (addI IntKind.i64 s.fst 1, Unit.unit) w3))
                                                           (∀ (w3 : World), Ext w1 w3 → ∃ (n' : Nat), n' < n_2 ∧ I_1 n' (addI IntKind.i64 s_1.fst 1, Unit.unit) w3))
                                                      (∀ (w3 : World), Ext w1 w3 → ∃ (n' : Nat), n' < n_1 ∧ I n' (addI IntKind.i64 s.fst 1, Unit.unit) w3))))
                    (brP (x_3 == 5)
                     (true = true ∧
                      LdP w2 none (addP (some { block := b, off := 0 }) 1) (El.one (Sc.int IntKind.i64)) fun (x_4 : Int) =>
                       true = true ∧
                        LdP w2 none (addP (some { block := b, off := 0 }) 3) (El.one (Sc.int IntKind.i64)) fun (x_5 : Int) =>
                         true = true ∧
                          LdP w2 none (addP (some { block := b, off := 0 }) 1) (El.one (Sc.int IntKind.i64)) fun (x_6 : Int) =>
                           true = true ∧
                            LdP w2 none (addP (some { block := b, off := 0 }) 3) (El.one (Sc.int IntKind.i64)) fun (x_7 : Int) =>
                             CaP Try.prog 21 (Sh.el (El.one (Sc.int IntKind.i64))) [Value.pointer x.fst, Value.int IntKind.i64 x_4, Value.int IntKind.i64 x_5] w2 fun (x_8 : Int) (w2 : World) =>
                              rdAt w2 (addP (some { block := b, off := 0 }) 3) (El.one (Sc.int IntKind.i64)) x_7 ∧
                               True ∧
                                rdAt w2 (addP (some { block := b, off := 0 }) 1) (El.one (Sc.int IntKind.i64)) x_6 ∧
                                 True ∧
                                  CaP Try.prog 22 (Sh.el (El.one (Sc.int IntKind.i64))) [Value.pointer x_1.fst, Value.int IntKind.i64 x_6, Value.int IntKind.i64 x_7] w2 fun (x_9 : Int) (w2 : World) =>
                                   brP (x_8 != x_9) (EnP w2 fun (w1 : World) => Post false w1)
                                    (true = true ∧
                                     LdP w2 none (addP (some { block := b, off := 0 }) 1) (El.one (Sc.int IntKind.i64)) fun (x_10 : Int) =>
                                      true = true ∧
                                       LdP w2 none (addP (some { block := b, off := 0 }) 1) (El.one (Sc.int IntKind.i64)) fun (x_11 : Int) =>
                                        CaP Try.prog 26 (Sh.el (El.one Sc.slice)) [Value.pointer x.fst, Value.int IntKind.i64 x_10] w2 fun (x_12 : Option Addr × Nat × Nat) (w2 : World) =>
                                         rdAt w2 (addP (some { block := b, off := 0 }) 1) (El.one (Sc.int IntKind.i64)) x_11 ∧
                                          True ∧
                                           CaP Try.prog 27 (Sh.el (El.one Sc.slice)) [Value.pointer x_1.fst, Value.int IntKind.i64 x_11] w2 fun (x_13 : Option Addr × Nat × Nat) (w2 : World) =>
                                            CaP Try.prog 25 (Sh.el (El.one Sc.bool)) [Value.slice x_12.fst x_12.snd.fst x_12.snd.snd, Value.slice x_13.fst x_13.snd.fst x_13.snd.snd] w2 fun (x_14 : Bool) (w2 : World) =>
                                             ((!!x_14) = true → true = true) ∧
                                              LdP w2 (some !!x_14) (addP (some { block := b, off := 0 }) 1) (El.one (Sc.int IntKind.i64)) fun (x_15 : Int) =>
                                               ((!!x_14) = true → true = true) ∧
                                                LdP w2 (some !!x_14) (addP (some { block := b, off := 0 }) 2) (El.one (Sc.int IntKind.i64)) fun (x_16 : Int) =>
                                                 ∃ (x_17 : Bool),
                                                  ((!!x_14) = true → QCalls Try.prog 28 [Value.pointer x.fst, Value.int IntKind.i64 x_15, Value.int IntKind.i64 x_16] w2 (Value.bool x_17)) ∧
                                                   ((!!x_14) = true → true = true) ∧
                                                    LdP w2 (some !!x_14) (addP (some { block := b, off := 0 }) 1) (El.one (Sc.int IntKind.i64)) fun (x_18 : Int) =>
                                                     ((!!x_14) = true → true = true) ∧
                                                      LdP w2 (some !!x_14) (addP (some { block := b, off := 0 }) 2) (El.one (Sc.int IntKind.i64)) fun (x_19 : Int) =>
                                                       ∃ (x_20 : Bool),
                                                        ((!!x_14) = true → QCalls Try.prog 29 [Value.pointer x_1.fst, Value.int IntKind.i64 x_18, Value.int IntKind.i64 x_19] w2 (Value.bool x_20)) ∧
                                                         brP (!x_14 || !x_17 == x_20) (EnP w2 fun (w1 : World) => Post false w1)
                                                          (∃ (I_1 : Nat → Int × Unit → World → Prop),
                                                           (∃ (n : Nat), ∀ (w1 : World), Ext w2 w1 → I_1 n (0, Unit.unit) w1) ∧
                                                            ∀ (n_2 : Nat) (s_1 : Int × Unit) (w1 : World),
                                                             I_1 n_2 s_1 w1 →
                                                              brP (decide (s_1.fst < 18))
                                                               (∃ (I : Nat → Int × Unit → World → Prop),
                                                                (∃ (n : Nat), ∀ (w1_1 : World), Ext w1 w1_1 → I n (-1, Unit.unit) w1_1) ∧
                                                                 ∀ (n_3 : Nat) (s : Int × Unit) (w1 : World),
                                                                  I n_3 s w1 →
                                                                   brP (decide (s.fst ≤ n))
                                                                    (∃ (x_21 : (Int × Int × Int × Bool × Bool × Unit) × Bool × Unit),
                                                                     QCalls Try.prog 30 [Value.pointer x.fst, Value.int IntKind.i64 s_1.fst, Value.int IntKind.i64 s.fst] w1
                                                                       (Value.tuple
                                                                        {
                                                                         toList :=
                                                                          [Value.agg
                                                                            {
                                                                             toList :=
                                                                              [Value.int IntKind.i64 x_21.fst.fst, Value.int IntKind.i64 x_21.fst.snd.fst, Value.int IntKind.i64 x_21.fst.snd.snd.fst, Value.bool x_21.fst.snd.snd.snd.fst,
                                                                               Value.bool x_21.fst.snd.snd.snd.snd.fst] },
                                                                           Value.bool x_21.snd.fst] }) ∧
                                                                      AlP w1 { toList := [Value.int IntKind.i64 0, Value.int IntKind.i64 0, Value.int IntKind.i64 0, Value.bool false, Value.bool false] } 45 fun (b : Nat) (w2 : World) =>
                                                                       StP w2 (some { block := b, off := 0 })
                                                                        [Value.int IntKind.i64 x_21.fst.fst, Value.int IntKind.i64 x_21.fst.snd.fst, Value.int IntKind.i64 x_21.fst.snd.snd.fst, Value.bool x_21.fst.snd.snd.snd.fst,
                                                                         Value.bool x_21.fst.snd.snd.snd.snd.fst]
                                                                        fun (w2 : World) =>
                                                                        ∃ (x : (Int × Int × Int × Bool × Bool × Unit) × Bool × Unit),
                                                                         QCalls Try.prog 31 [Value.pointer x_1.fst, Value.int IntKind.i64 s_1.fst, Value.int IntKind.i64 s.fst] w2
                                                                           (Value.tuple
                                                                            {
                                                                             toList :=
                                                                              [Value.agg
                                                                                {
                                                                                 toList :=
                                                                                  [Value.int IntKind.i64 x.fst.fst, Value.int IntKind.i64 x.fst.snd.fst, Value.int IntKind.i64 x.fst.snd.snd.fst, Value.bool x.fst.snd.snd.snd.fst,
                                                                                   Value.bool x.fst.snd.snd.snd.snd.fst] },
                                                                               Value.bool x.snd.fst] }) ∧
                                                                          AlP w2 { toList := [Value.int IntKind.i64 0, Value.int IntKind.i64 0, Value.int IntKind.i64 0, Value.bool false, Value.bool false] } 48 fun (b_1 : Nat) (w2 : World) =>
                                                                           StP w2 (some { block := b_1, off := 0 })
                                                                            [Value.int IntKind.i64 x.fst.fst, Value.int IntKind.i64 x.fst.snd.fst, Value.int IntKind.i64 x.fst.snd.snd.fst, Value.bool x.fst.snd.snd.snd.fst,
                                                                             Value.bool x.fst.snd.snd.snd.snd.fst]
                                                                            fun (w2 : World) =>
                                                                            LdP w2 none (some { block := b, off := 0 }) (El.agg [Sc.int IntKind.i64, Sc.int IntKind.i64, Sc.int IntKind.i64, Sc.bool, Sc.bool])
                                                                             fun (x_22 : Int × Int × Int × Bool × Bool × Unit) =>
                                                                             ∃ (x_23 : Int × Int × Int × Bool × Bool × Unit),
                                                                              QCalls Try.prog 32
                                                                                [Value.agg
                                                                                  {
                                                                                   toList :=
                                                                                    [Value.int IntKind.i64 x_22.fst, Value.int IntKind.i64 x_22.snd.fst, Value.int IntKind.i64 x_22.snd.snd.fst, Value.bool x_22.snd.snd.snd.fst,
                                                                                     Value.bool x_22.snd.snd.snd.snd.fst] }]
                                                                                w2
                                                                                (Value.agg
                                                                                 {
                                                                                  toList :=
                                                                                   [Value.int IntKind.i64 x_23.fst, Value.int IntKind.i64 x_23.snd.fst, Value.int IntKind.i64 x_23.snd.snd.fst, Value.bool x_23.snd.snd.snd.fst,
                                                                                    Value.bool x_23.snd.snd.snd.snd.fst] }) ∧
                                                                               LdP w2 none (some { block := b_1, off := 0 }) (El.agg [Sc.int IntKind.i64, Sc.int IntKind.i64, Sc.int IntKind.i64, Sc.bool, Sc.bool])
                                                                                fun (x_24 : Int × Int × Int × Bool × Bool × Unit) =>
                                                                                brP
                                                                                 (!(x_23.fst == x_24.fst &&
                                                                                    (x_23.snd.fst == x_24.snd.fst &&
                                                                                     (x_23.snd.snd.fst == x_24.snd.snd.fst && (x_23.snd.snd.snd.fst == x_24.snd.snd.snd.fst && (x_23.snd.snd.snd.snd.fst == x_24.snd.snd.snd.snd.fst && true))))) ||
                                                                                  !x_21.snd.fst == x.snd.fst)
                                                                                 (EnP w2 fun (w1 : World) => Post false w1) (∀ (w3 : World), Ext w2 w3 → ∃ (n' : Nat), n' < n_3 ∧ I n' (addI IntKind.i64 s.fst 1, Unit.unit) w3))
                                                                    (∀ (w3 : World), Ext w1 w3 → ∃ (n' : Nat), n' < n_2 ∧ I_1 n' (addI IntKind.i64 s_1.fst 1, Unit.unit) w3))
                                                               (∀ (w3 : World), Ext w1 w3 → ∃ (n' : Nat), n' < n_1 ∧ I n' (addI IntKind.i64 s.fst 1, Unit.unit) w3))))
                     (true = true ∧
                      LdP w2 none (addP (some { block := b, off := 0 }) 1) (El.one (Sc.int IntKind.i64)) fun (x_4 : Int) =>
                       true = true ∧
                        LdP w2 none (addP (some { block := b, off := 0 }) 1) (El.one (Sc.int IntKind.i64)) fun (x_5 : Int) =>
                         CaP Try.prog 23 (Sh.el (El.one (Sc.int IntKind.i64))) [Value.pointer x.fst, Value.int IntKind.i64 x_4] w2 fun (x_6 : Int) (w2 : World) =>
                          rdAt w2 (addP (some { block := b, off := 0 }) 1) (El.one (Sc.int IntKind.i64)) x_5 ∧
                           True ∧
                            CaP Try.prog 24 (Sh.el (El.one (Sc.int IntKind.i64))) [Value.pointer x_1.fst, Value.int IntKind.i64 x_5] w2 fun (x_7 : Int) (w2 : World) =>
                             brP (x_6 != x_7) (EnP w2 fun (w1 : World) => Post false w1)
                              (true = true ∧
                               LdP w2 none (addP (some { block := b, off := 0 }) 1) (El.one (Sc.int IntKind.i64)) fun (x_8 : Int) =>
                                true = true ∧
                                 LdP w2 none (addP (some { block := b, off := 0 }) 1) (El.one (Sc.int IntKind.i64)) fun (x_9 : Int) =>
                                  CaP Try.prog 26 (Sh.el (El.one Sc.slice)) [Value.pointer x.fst, Value.int IntKind.i64 x_8] w2 fun (x_10 : Option Addr × Nat × Nat) (w2 : World) =>
                                   rdAt w2 (addP (some { block := b, off := 0 }) 1) (El.one (Sc.int IntKind.i64)) x_9 ∧
                                    True ∧
                                     CaP Try.prog 27 (Sh.el (El.one Sc.slice)) [Value.pointer x_1.fst, Value.int IntKind.i64 x_9] w2 fun (x_11 : Option Addr × Nat × Nat) (w2 : World) =>
                                      CaP Try.prog 25 (Sh.el (El.one Sc.bool)) [Value.slice x_10.fst x_10.snd.fst x_10.snd.snd, Value.slice x_11.fst x_11.snd.fst x_11.snd.snd] w2 fun (x_12 : Bool) (w2 : World) =>
                                       ((!!x_12) = true → true = true) ∧
                                        LdP w2 (some !!x_12) (addP (some { block := b, off := 0 }) 1) (El.one (Sc.int IntKind.i64)) fun (x_13 : Int) =>
                                         ((!!x_12) = true → true = true) ∧
                                          LdP w2 (some !!x_12) (addP (some { block := b, off := 0 }) 2) (El.one (Sc.int IntKind.i64)) fun (x_14 : Int) =>
                                           ∃ (x_15 : Bool),
                                            ((!!x_12) = true → QCalls Try.prog 28 [Value.pointer x.fst, Value.int IntKind.i64 x_13, Value.int IntKind.i64 x_14] w2 (Value.bool x_15)) ∧
                                             ((!!x_12) = true → true = true) ∧
                                              LdP w2 (some !!x_12) (addP (some { block := b, off := 0 }) 1) (El.one (Sc.int IntKind.i64)) fun (x_16 : Int) =>
                                               ((!!x_12) = true → true = true) ∧
                                                LdP w2 (some !!x_12) (addP (some { block := b, off := 0 }) 2) (El.one (Sc.int IntKind.i64)) fun (x_17 : Int) =>
                                                 ∃ (x_18 : Bool),
                                                  ((!!x_12) = true → QCalls Try.prog 29 [Value.pointer x_1.fst, Value.int IntKind.i64 x_16, Value.int IntKind.i64 x_17] w2 (Value.bool x_18)) ∧
                                                   brP (!x_12 || !x_15 == x_18) (EnP w2 fun (w1 : World) => Post false w1)
                                                    (∃ (I_1 : Nat → Int × Unit → World → Prop),
                                                     (∃ (n : Nat), ∀ (w1 : World), Ext w2 w1 → I_1 n (0, Unit.unit) w1) ∧
                                                      ∀ (n_2 : Nat) (s_1 : Int × Unit) (w1 : World),
                                                       I_1 n_2 s_1 w1 →
                                                        brP (decide (s_1.fst < 18))
                                                         (∃ (I : Nat → Int × Unit → World → Prop),
                                                          (∃ (n : Nat), ∀ (w1_1 : World), Ext w1 w1_1 → I n (-1, Unit.unit) w1_1) ∧
                                                           ∀ (n_3 : Nat) (s : Int × Unit) (w1 : World),
                                                            I n_3 s w1 →
                                                             brP (decide (s.fst ≤ n))
                                                              (∃ (x_19 : (Int × Int × Int × Bool × Bool × Unit) × Bool × Unit),
                                                               QCalls Try.prog 30 [Value.pointer x.fst, Value.int IntKind.i64 s_1.fst, Value.int IntKind.i64 s.fst] w1
                                                                 (Value.tuple
                                                                  {
                                                                   toList :=
                                                                    [Value.agg
                                                                      {
                                                                       toList :=
                                                                        [Value.int IntKind.i64 x_19.fst.fst, Value.int IntKind.i64 x_19.fst.snd.fst, Value.int IntKind.i64 x_19.fst.snd.snd.fst, Value.bool x_19.fst.snd.snd.snd.fst,
                                                                         Value.bool x_19.fst.snd.snd.snd.snd.fst] },
                                                                     Value.bool x_19.snd.fst] }) ∧
                                                                AlP w1 { toList := [Value.int IntKind.i64 0, Value.int IntKind.i64 0, Value.int IntKind.i64 0, Value.bool false, Value.bool false] } 45 fun (b : Nat) (w2 : World) =>
                                                                 StP w2 (some { block := b, off := 0 })
                                                                  [Value.int IntKind.i64 x_19.fst.fst, Value.int IntKind.i64 x_19.fst.snd.fst, Value.int IntKind.i64 x_19.fst.snd.snd.fst, Value.bool x_19.fst.snd.snd.snd.fst,
                                                                   Value.bool x_19.fst.snd.snd.snd.snd.fst]
                                                                  fun (w2 : World) =>
                                                                  ∃ (x : (Int × Int × Int × Bool × Bool × Unit) × Bool × Unit),
                                                                   QCalls Try.prog 31 [Value.pointer x_1.fst, Value.int IntKind.i64 s_1.fst, Value.int IntKind.i64 s.fst] w2
                                                                     (Value.tuple
                                                                      {
                                                                       toList :=
                                                                        [Value.agg
                                                                          {
                                                                           toList :=
                                                                            [Value.int IntKind.i64 x.fst.fst, Value.int IntKind.i64 x.fst.snd.fst, Value.int IntKind.i64 x.fst.snd.snd.fst, Value.bool x.fst.snd.snd.snd.fst,
                                                                             Value.bool x.fst.snd.snd.snd.snd.fst] },
                                                                         Value.bool x.snd.fst] }) ∧
                                                                    AlP w2 { toList := [Value.int IntKind.i64 0, Value.int IntKind.i64 0, Value.int IntKind.i64 0, Value.bool false, Value.bool false] } 48 fun (b_1 : Nat) (w2 : World) =>
                                                                     StP w2 (some { block := b_1, off := 0 })
                                                                      [Value.int IntKind.i64 x.fst.fst, Value.int IntKind.i64 x.fst.snd.fst, Value.int IntKind.i64 x.fst.snd.snd.fst, Value.bool x.fst.snd.snd.snd.fst,
                                                                       Value.bool x.fst.snd.snd.snd.snd.fst]
                                                                      fun (w2 : World) =>
                                                                      LdP w2 none (some { block := b, off := 0 }) (El.agg [Sc.int IntKind.i64, Sc.int IntKind.i64, Sc.int IntKind.i64, Sc.bool, Sc.bool])
                                                                       fun (x_20 : Int × Int × Int × Bool × Bool × Unit) =>
                                                                       ∃ (x_21 : Int × Int × Int × Bool × Bool × Unit),
                                                                        QCalls Try.prog 32
                                                                          [Value.agg
                                                                            {
                                                                             toList :=
                                                                              [Value.int IntKind.i64 x_20.fst, Value.int IntKind.i64 x_20.snd.fst, Value.int IntKind.i64 x_20.snd.snd.fst, Value.bool x_20.snd.snd.snd.fst,
                                                                               Value.bool x_20.snd.snd.snd.snd.fst] }]
                                                                          w2
                                                                          (Value.agg
                                                                           {
                                                                            toList :=
                                                                             [Value.int IntKind.i64 x_21.fst, Value.int IntKind.i64 x_21.snd.fst, Value.int IntKind.i64 x_21.snd.snd.fst, Value.bool x_21.snd.snd.snd.fst,
                                                                              Value.bool x_21.snd.snd.snd.snd.fst] }) ∧
                                                                         LdP w2 none (some { block := b_1, off := 0 }) (El.agg [Sc.int IntKind.i64, Sc.int IntKind.i64, Sc.int IntKind.i64, Sc.bool, Sc.bool])
                                                                          fun (x_22 : Int × Int × Int × Bool × Bool × Unit) =>
                                                                          brP
                                                                           (!(x_21.fst == x_22.fst &&
                                                                              (x_21.snd.fst == x_22.snd.fst &&
                                                                               (x_21.snd.snd.fst == x_22.snd.snd.fst && (x_21.snd.snd.snd.fst == x_22.snd.snd.snd.fst && (x_21.snd.snd.snd.snd.fst == x_22.snd.snd.snd.snd.fst && true))))) ||
                                                                            !x_19.snd.fst == x.snd.fst)
                                                                           (EnP w2 fun (w1 : World) => Post false w1) (∀ (w3 : World), Ext w2 w3 → ∃ (n' : Nat), n' < n_3 ∧ I n' (addI IntKind.i64 s.fst 1, Unit.unit) w3))
                                                              (∀ (w3 : World), Ext w1 w3 → ∃ (n' : Nat), n' < n_2 ∧ I_1 n' (addI IntKind.i64 s_1.fst 1, Unit.unit) w3))
                                                         (∀ (w3 : World), Ext w1 w3 → ∃ (n' : Nat), n' < n_1 ∧ I n' (addI IntKind.i64 s.fst 1, Unit.unit) w3))))))))))
         (CaP Try.prog 33 (Sh.el (El.one Sc.bool)) [] w1 fun (x : Bool) (w2 : World) => EnP w2 fun (w1 : World) => Post x w1))) := by kernel_rfl
end Go.Proofs.Ytcnaaobeooiojaa
