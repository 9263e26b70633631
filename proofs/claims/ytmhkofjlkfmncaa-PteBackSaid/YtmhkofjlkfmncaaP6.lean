import Derived.Test.YtmhkofjlkfmncaaP5
namespace Go.Proofs.Ytmhkofjlkfmncaa
open Go.RX
theorem known_vc (w : World) (Post : Bool → World → Prop) : (rxFn D3 (fun _ => []) 20 [] w Post) = (
 ∀ (w1 : World),
  Ext w w1 →
   ∀ (w1_1 : World),
    Ext (w1.alloc (Obj.cells { toList := [Value.bool false, Value.int IntKind.i64 0, Value.bool false, Value.int IntKind.i64 0] } 23)) w1_1 →
     (true = true ∧ stAt w1_1 (some { block := w1.heap.size, off := 0 }) 4) ∧
      ∃ (x : Bool × Int × Bool × Int × Unit),
       rdAt (putP w1_1 (some { block := w1.heap.size, off := 0 }) [Value.bool true, Value.int IntKind.i64 3, Value.bool false, Value.int IntKind.i64 5]) (some { block := w1.heap.size, off := 0 })
         (El.agg [Sc.bool, Sc.int IntKind.i64, Sc.bool, Sc.int IntKind.i64]) x ∧
        True ∧
         U (B 20487) = 20487 ∧
          ∀ (w1_2 : World),
           Ext (putP w1_1 (some { block := w1.heap.size, off := 0 }) [Value.bool true, Value.int IntKind.i64 3, Value.bool false, Value.int IntKind.i64 5]) w1_2 →
            ∀ (w1_3 : World),
             Ext (w1_2.alloc (Obj.cells { toList := [Value.bool false, Value.int IntKind.i64 0, Value.bool false, Value.int IntKind.i64 0] } 23)) w1_3 →
              (true = true ∧ stAt w1_3 (some { block := w1_2.heap.size, off := 0 }) 4) ∧
               U (B 2) = 2 ∧
                ∀ (w1_4 : World),
                 Ext
                   (putP w1_3 (some { block := w1_2.heap.size, off := 0 })
                    [Value.bool (prP (↑(B 20487).toFin : Nat)), Value.int IntKind.i64 (prR (↑(B 20487).toFin : Nat)), Value.bool (prL (↑(B 20487).toFin : Nat)), Value.int IntKind.i64 (prF (↑(B 20487).toFin : Nat))])
                   w1_4 →
                  ∀ (w1_5 : World),
                   Ext (w1_4.alloc (Obj.cells { toList := [Value.bool false, Value.int IntKind.i64 0, Value.bool false, Value.int IntKind.i64 0] } 23)) w1_5 →
                    (true = true ∧ stAt w1_5 (some { block := w1_4.heap.size, off := 0 }) 4) ∧
                     ∃ (x_1 : Bool × Int × Bool × Int × Unit),
                      ((pkE x.fst x.snd.fst x.snd.snd.fst x.snd.snd.snd.fst == 0 && pkW x.fst x.snd.fst x.snd.snd.fst x.snd.snd.snd.fst == 20487) = true →
                        rdAt
                         (putP w1_5 (some { block := w1_4.heap.size, off := 0 })
                          [Value.bool (prP (↑(B 2).toFin : Nat)), Value.int IntKind.i64 (prR (↑(B 2).toFin : Nat)), Value.bool (prL (↑(B 2).toFin : Nat)), Value.int IntKind.i64 (prF (↑(B 2).toFin : Nat))])
                         (some { block := w1_2.heap.size, off := 0 }) (El.agg [Sc.bool, Sc.int IntKind.i64, Sc.bool, Sc.int IntKind.i64]) x_1) ∧
                       ∃ (x_2 : Bool × Int × Bool × Int × Unit),
                        ((pkE x.fst x.snd.fst x.snd.snd.fst x.snd.snd.snd.fst == 0 && pkW x.fst x.snd.fst x.snd.snd.fst x.snd.snd.snd.fst == 20487) = true →
                          rdAt
                           (putP w1_5 (some { block := w1_4.heap.size, off := 0 })
                            [Value.bool (prP (↑(B 2).toFin : Nat)), Value.int IntKind.i64 (prR (↑(B 2).toFin : Nat)), Value.bool (prL (↑(B 2).toFin : Nat)), Value.int IntKind.i64 (prF (↑(B 2).toFin : Nat))])
                           (some { block := w1.heap.size, off := 0 }) (El.agg [Sc.bool, Sc.int IntKind.i64, Sc.bool, Sc.int IntKind.i64]) x_2) ∧
                         ∃ (x_3 : Bool × Int × Bool × Int × Unit),
                          ((pkE x.fst x.snd.fst x.snd.snd.fst x.snd.snd.snd.fst == 0 && pkW x.fst x.snd.fst x.snd.snd.fst x.snd.snd.snd.fst == 20487 &&
                                (x_1.fst == x_2.fst && (x_1.snd.fst == x_2.snd.fst && (x_1.snd.snd.fst == x_2.snd.snd.fst && (x_1.snd.snd.snd.fst == x_2.snd.snd.snd.fst && true)))) &&
                               okV (↑(B 20487).toFin : Nat) &&
                              !okV (↑(B 2).toFin : Nat)) =
                             true →
                            rdAt
                             (putP w1_5 (some { block := w1_4.heap.size, off := 0 })
                              [Value.bool (prP (↑(B 2).toFin : Nat)), Value.int IntKind.i64 (prR (↑(B 2).toFin : Nat)), Value.bool (prL (↑(B 2).toFin : Nat)), Value.int IntKind.i64 (prF (↑(B 2).toFin : Nat))])
                             (some { block := w1.heap.size, off := 0 }) (El.agg [Sc.bool, Sc.int IntKind.i64, Sc.bool, Sc.int IntKind.i64]) x_3) ∧
                           ((pkE x.fst x.snd.fst x.snd.snd.fst x.snd.snd.snd.fst == 0 && pkW x.fst x.snd.fst x.snd.snd.fst x.snd.snd.snd.fst == 20487 &&
                                 (x_1.fst == x_2.fst && (x_1.snd.fst == x_2.snd.fst && (x_1.snd.snd.fst == x_2.snd.snd.fst && (x_1.snd.snd.snd.fst == x_2.snd.snd.snd.fst && true)))) &&
                                okV (↑(B 20487).toFin : Nat) &&
                               !okV (↑(B 2).toFin : Nat)) =
                              true →
                             True) ∧
                            ∃ (x_4 : Bool × Int × Bool × Int × Unit),
                             ((pkE x.fst x.snd.fst x.snd.snd.fst x.snd.snd.snd.fst == 0 && pkW x.fst x.snd.fst x.snd.snd.fst x.snd.snd.snd.fst == 20487 &&
                                    (x_1.fst == x_2.fst && (x_1.snd.fst == x_2.snd.fst && (x_1.snd.snd.fst == x_2.snd.snd.fst && (x_1.snd.snd.snd.fst == x_2.snd.snd.snd.fst && true)))) &&
                                   okV (↑(B 20487).toFin : Nat) &&
                                  !okV (↑(B 2).toFin : Nat) &&
                                 rightE x_3.fst x_3.snd.fst x_3.snd.snd.fst x_3.snd.snd.snd.fst) =
                                true →
                               rdAt
                                (putP w1_5 (some { block := w1_4.heap.size, off := 0 })
                                 [Value.bool (prP (↑(B 2).toFin : Nat)), Value.int IntKind.i64 (prR (↑(B 2).toFin : Nat)), Value.bool (prL (↑(B 2).toFin : Nat)), Value.int IntKind.i64 (prF (↑(B 2).toFin : Nat))])
                                (some { block := w1.heap.size, off := 0 }) (El.agg [Sc.bool, Sc.int IntKind.i64, Sc.bool, Sc.int IntKind.i64]) x_4) ∧
                              ((pkE x.fst x.snd.fst x.snd.snd.fst x.snd.snd.snd.fst == 0 && pkW x.fst x.snd.fst x.snd.snd.fst x.snd.snd.snd.fst == 20487 &&
                                     (x_1.fst == x_2.fst && (x_1.snd.fst == x_2.snd.fst && (x_1.snd.snd.fst == x_2.snd.snd.fst && (x_1.snd.snd.snd.fst == x_2.snd.snd.snd.fst && true)))) &&
                                    okV (↑(B 20487).toFin : Nat) &&
                                   !okV (↑(B 2).toFin : Nat) &&
                                  rightE x_3.fst x_3.snd.fst x_3.snd.snd.fst x_3.snd.snd.snd.fst) =
                                 true →
                                True) ∧
                               ((pkE x.fst x.snd.fst x.snd.snd.fst x.snd.snd.snd.fst == 0 && pkW x.fst x.snd.fst x.snd.snd.fst x.snd.snd.snd.fst == 20487 &&
                                       (x_1.fst == x_2.fst && (x_1.snd.fst == x_2.snd.fst && (x_1.snd.snd.fst == x_2.snd.snd.fst && (x_1.snd.snd.snd.fst == x_2.snd.snd.snd.fst && true)))) &&
                                      okV (↑(B 20487).toFin : Nat) &&
                                     !okV (↑(B 2).toFin : Nat) &&
                                    rightE x_3.fst x_3.snd.fst x_3.snd.snd.fst x_3.snd.snd.snd.fst &&
                                   !tableE x_4.fst x_4.snd.fst x_4.snd.snd.fst x_4.snd.snd.snd.fst) =
                                  true →
                                 True) ∧
                                ∃ (x_5 : Bool × Int × Bool × Int × Unit),
                                 ((pkE x.fst x.snd.fst x.snd.snd.fst x.snd.snd.snd.fst == 0 && pkW x.fst x.snd.fst x.snd.snd.fst x.snd.snd.snd.fst == 20487 &&
                                          (x_1.fst == x_2.fst && (x_1.snd.fst == x_2.snd.fst && (x_1.snd.snd.fst == x_2.snd.snd.fst && (x_1.snd.snd.snd.fst == x_2.snd.snd.snd.fst && true)))) &&
                                         okV (↑(B 20487).toFin : Nat) &&
                                        !okV (↑(B 2).toFin : Nat) &&
                                       rightE x_3.fst x_3.snd.fst x_3.snd.snd.fst x_3.snd.snd.snd.fst &&
                                      !tableE x_4.fst x_4.snd.fst x_4.snd.snd.fst x_4.snd.snd.snd.fst &&
                                     tableE true 0 false 9) =
                                    true →
                                   rdAt
                                    (putP w1_5 (some { block := w1_4.heap.size, off := 0 })
                                     [Value.bool (prP (↑(B 2).toFin : Nat)), Value.int IntKind.i64 (prR (↑(B 2).toFin : Nat)), Value.bool (prL (↑(B 2).toFin : Nat)), Value.int IntKind.i64 (prF (↑(B 2).toFin : Nat))])
                                    (some { block := w1.heap.size, off := 0 }) (El.agg [Sc.bool, Sc.int IntKind.i64, Sc.bool, Sc.int IntKind.i64]) x_5) ∧
                                  ((pkE x.fst x.snd.fst x.snd.snd.fst x.snd.snd.snd.fst == 0 && pkW x.fst x.snd.fst x.snd.snd.fst x.snd.snd.snd.fst == 20487 &&
                                           (x_1.fst == x_2.fst && (x_1.snd.fst == x_2.snd.fst && (x_1.snd.snd.fst == x_2.snd.snd.fst && (x_1.snd.snd.snd.fst == x_2.snd.snd.snd.fst && true)))) &&
                                          okV (↑(B 20487).toFin : Nat) &&
                                         !okV (↑(B 2).toFin : Nat) &&
                                        rightE x_3.fst x_3.snd.fst x_3.snd.snd.fst x_3.snd.snd.snd.fst &&
                                       !tableE x_4.fst x_4.snd.fst x_4.snd.snd.fst x_4.snd.snd.snd.fst &&
                                      tableE true 0 false 9) =
                                     true →
                                    True) ∧
                                   ∃ (x_6 : Bool × Int × Bool × Int × Unit),
                                    ((pkE x.fst x.snd.fst x.snd.snd.fst x.snd.snd.snd.fst == 0 && pkW x.fst x.snd.fst x.snd.snd.fst x.snd.snd.snd.fst == 20487 &&
                                              (x_1.fst == x_2.fst && (x_1.snd.fst == x_2.snd.fst && (x_1.snd.snd.fst == x_2.snd.snd.fst && (x_1.snd.snd.snd.fst == x_2.snd.snd.snd.fst && true)))) &&
                                             okV (↑(B 20487).toFin : Nat) &&
                                            !okV (↑(B 2).toFin : Nat) &&
                                           rightE x_3.fst x_3.snd.fst x_3.snd.snd.fst x_3.snd.snd.snd.fst &&
                                          !tableE x_4.fst x_4.snd.fst x_4.snd.snd.fst x_4.snd.snd.snd.fst &&
                                         tableE true 0 false 9 &&
                                        allowsE x_5.fst x_5.snd.fst x_5.snd.snd.fst x_5.snd.snd.snd.fst 2) =
                                       true →
                                      rdAt
                                       (putP w1_5 (some { block := w1_4.heap.size, off := 0 })
                                        [Value.bool (prP (↑(B 2).toFin : Nat)), Value.int IntKind.i64 (prR (↑(B 2).toFin : Nat)), Value.bool (prL (↑(B 2).toFin : Nat)), Value.int IntKind.i64 (prF (↑(B 2).toFin : Nat))])
                                       (some { block := w1.heap.size, off := 0 }) (El.agg [Sc.bool, Sc.int IntKind.i64, Sc.bool, Sc.int IntKind.i64]) x_6) ∧
                                     ((pkE x.fst x.snd.fst x.snd.snd.fst x.snd.snd.snd.fst == 0 && pkW x.fst x.snd.fst x.snd.snd.fst x.snd.snd.snd.fst == 20487 &&
                                               (x_1.fst == x_2.fst && (x_1.snd.fst == x_2.snd.fst && (x_1.snd.snd.fst == x_2.snd.snd.fst && (x_1.snd.snd.snd.fst == x_2.snd.snd.snd.fst && true)))) &&
                                              okV (↑(B 20487).toFin : Nat) &&
                                             !okV (↑(B 2).toFin : Nat) &&
                                            rightE x_3.fst x_3.snd.fst x_3.snd.snd.fst x_3.snd.snd.snd.fst &&
                                           !tableE x_4.fst x_4.snd.fst x_4.snd.snd.fst x_4.snd.snd.snd.fst &&
                                          tableE true 0 false 9 &&
                                         allowsE x_5.fst x_5.snd.fst x_5.snd.snd.fst x_5.snd.snd.snd.fst 2) =
                                        true →
                                       True) ∧
                                      ((pkE x.fst x.snd.fst x.snd.snd.fst x.snd.snd.snd.fst == 0 && pkW x.fst x.snd.fst x.snd.snd.fst x.snd.snd.snd.fst == 20487 &&
                                                 (x_1.fst == x_2.fst && (x_1.snd.fst == x_2.snd.fst && (x_1.snd.snd.fst == x_2.snd.snd.fst && (x_1.snd.snd.snd.fst == x_2.snd.snd.snd.fst && true)))) &&
                                                okV (↑(B 20487).toFin : Nat) &&
                                               !okV (↑(B 2).toFin : Nat) &&
                                              rightE x_3.fst x_3.snd.fst x_3.snd.snd.fst x_3.snd.snd.snd.fst &&
                                             !tableE x_4.fst x_4.snd.fst x_4.snd.snd.fst x_4.snd.snd.snd.fst &&
                                            tableE true 0 false 9 &&
                                           allowsE x_5.fst x_5.snd.fst x_5.snd.snd.fst x_5.snd.snd.snd.fst 2 &&
                                          !allowsE x_6.fst x_6.snd.fst x_6.snd.snd.fst x_6.snd.snd.snd.fst 4) =
                                         true →
                                        True) ∧
                                       ∀ (x_7 : Int),
                                        x_7 = indexI 4660 2 →
                                         ((pkE x.fst x.snd.fst x.snd.snd.fst x.snd.snd.snd.fst == 0 && pkW x.fst x.snd.fst x.snd.snd.fst x.snd.snd.snd.fst == 20487 &&
                                                     (x_1.fst == x_2.fst && (x_1.snd.fst == x_2.snd.fst && (x_1.snd.snd.fst == x_2.snd.snd.fst && (x_1.snd.snd.snd.fst == x_2.snd.snd.snd.fst && true)))) &&
                                                    okV (↑(B 20487).toFin : Nat) &&
                                                   !okV (↑(B 2).toFin : Nat) &&
                                                  rightE x_3.fst x_3.snd.fst x_3.snd.snd.fst x_3.snd.snd.snd.fst &&
                                                 !tableE x_4.fst x_4.snd.fst x_4.snd.snd.fst x_4.snd.snd.snd.fst &&
                                                tableE true 0 false 9 &&
                                               allowsE x_5.fst x_5.snd.fst x_5.snd.snd.fst x_5.snd.snd.snd.fst 2 &&
                                              !allowsE x_6.fst x_6.snd.fst x_6.snd.snd.fst x_6.snd.snd.snd.fst 4 &&
                                             x_7 == 2) =
                                            true →
                                           True) ∧
                                          ∀ (x_8 : Int),
                                           x_8 = atI 3 4660 0 →
                                            ((pkE x.fst x.snd.fst x.snd.snd.fst x.snd.snd.snd.fst == 0 && pkW x.fst x.snd.fst x.snd.snd.fst x.snd.snd.snd.fst == 20487 &&
                                                         (x_1.fst == x_2.fst && (x_1.snd.fst == x_2.snd.fst && (x_1.snd.snd.fst == x_2.snd.snd.fst && (x_1.snd.snd.snd.fst == x_2.snd.snd.snd.fst && true)))) &&
                                                        okV (↑(B 20487).toFin : Nat) &&
                                                       !okV (↑(B 2).toFin : Nat) &&
                                                      rightE x_3.fst x_3.snd.fst x_3.snd.snd.fst x_3.snd.snd.snd.fst &&
                                                     !tableE x_4.fst x_4.snd.fst x_4.snd.snd.fst x_4.snd.snd.snd.fst &&
                                                    tableE true 0 false 9 &&
                                                   allowsE x_5.fst x_5.snd.fst x_5.snd.snd.fst x_5.snd.snd.snd.fst 2 &&
                                                  !allowsE x_6.fst x_6.snd.fst x_6.snd.snd.fst x_6.snd.snd.snd.fst 4 &&
                                                 x_7 == 2 &&
                                                x_8 == 52) =
                                               true →
                                              True) ∧
                                             ∀ (x_9 : Int),
                                              x_9 = spanI 3 →
                                               ((pkE x.fst x.snd.fst x.snd.snd.fst x.snd.snd.snd.fst == 0 && pkW x.fst x.snd.fst x.snd.snd.fst x.snd.snd.snd.fst == 20487 &&
                                                             (x_1.fst == x_2.fst && (x_1.snd.fst == x_2.snd.fst && (x_1.snd.snd.fst == x_2.snd.snd.fst && (x_1.snd.snd.snd.fst == x_2.snd.snd.snd.fst && true)))) &&
                                                            okV (↑(B 20487).toFin : Nat) &&
                                                           !okV (↑(B 2).toFin : Nat) &&
                                                          rightE x_3.fst x_3.snd.fst x_3.snd.snd.fst x_3.snd.snd.snd.fst &&
                                                         !tableE x_4.fst x_4.snd.fst x_4.snd.snd.fst x_4.snd.snd.snd.fst &&
                                                        tableE true 0 false 9 &&
                                                       allowsE x_5.fst x_5.snd.fst x_5.snd.snd.fst x_5.snd.snd.snd.fst 2 &&
                                                      !allowsE x_6.fst x_6.snd.fst x_6.snd.snd.fst x_6.snd.snd.snd.fst 4 &&
                                                     x_7 == 2 &&
                                                    x_8 == 52 &&
                                                   x_9 == 4096) =
                                                  true →
                                                 True) ∧
                                                ∀ (x_10 : Int),
                                                 x_10 = indexI 65536 0 →
                                                  ((pkE x.fst x.snd.fst x.snd.snd.fst x.snd.snd.snd.fst == 0 && pkW x.fst x.snd.fst x.snd.snd.fst x.snd.snd.snd.fst == 20487 &&
                                                                 (x_1.fst == x_2.fst && (x_1.snd.fst == x_2.snd.fst && (x_1.snd.snd.fst == x_2.snd.snd.fst && (x_1.snd.snd.snd.fst == x_2.snd.snd.snd.fst && true)))) &&
                                                                okV (↑(B 20487).toFin : Nat) &&
                                                               !okV (↑(B 2).toFin : Nat) &&
                                                              rightE x_3.fst x_3.snd.fst x_3.snd.snd.fst x_3.snd.snd.snd.fst &&
                                                             !tableE x_4.fst x_4.snd.fst x_4.snd.snd.fst x_4.snd.snd.snd.fst &&
                                                            tableE true 0 false 9 &&
                                                           allowsE x_5.fst x_5.snd.fst x_5.snd.snd.fst x_5.snd.snd.snd.fst 2 &&
                                                          !allowsE x_6.fst x_6.snd.fst x_6.snd.snd.fst x_6.snd.snd.snd.fst 4 &&
                                                         x_7 == 2 &&
                                                        x_8 == 52 &&
                                                       x_9 == 4096 &&
                                                      x_10 == -1) =
                                                     true →
                                                    True) ∧
                                                   ∀ (x_11 : Int),
                                                    x_11 = atI 4096 0 0 →
                                                     ∀ (w1 : World),
                                                      Ext
                                                        (putP w1_5 (some { block := w1_4.heap.size, off := 0 })
                                                         [Value.bool (prP (↑(B 2).toFin : Nat)), Value.int IntKind.i64 (prR (↑(B 2).toFin : Nat)), Value.bool (prL (↑(B 2).toFin : Nat)), Value.int IntKind.i64 (prF (↑(B 2).toFin : Nat))])
                                                        w1 →
                                                       Post
                                                        (pkE x.fst x.snd.fst x.snd.snd.fst x.snd.snd.snd.fst == 0 && pkW x.fst x.snd.fst x.snd.snd.fst x.snd.snd.snd.fst == 20487 &&
                                                                     (x_1.fst == x_2.fst && (x_1.snd.fst == x_2.snd.fst && (x_1.snd.snd.fst == x_2.snd.snd.fst && (x_1.snd.snd.snd.fst == x_2.snd.snd.snd.fst && true)))) &&
                                                                    okV (↑(B 20487).toFin : Nat) &&
                                                                   !okV (↑(B 2).toFin : Nat) &&
                                                                  rightE x_3.fst x_3.snd.fst x_3.snd.snd.fst x_3.snd.snd.snd.fst &&
                                                                 !tableE x_4.fst x_4.snd.fst x_4.snd.snd.fst x_4.snd.snd.snd.fst &&
                                                                tableE true 0 false 9 &&
                                                               allowsE x_5.fst x_5.snd.fst x_5.snd.snd.fst x_5.snd.snd.snd.fst 2 &&
                                                              !allowsE x_6.fst x_6.snd.fst x_6.snd.snd.fst x_6.snd.snd.snd.fst 4 &&
                                                             x_7 == 2 &&
                                                            x_8 == 52 &&
                                                           x_9 == 4096 &&
                                                          x_10 == -1 &&
                                                         x_11 == -1)
                                                        w1) := by kernel_rfl
theorem known_ok (w : World) : CallsR Try.prog 20 (.el (.one .bool)) [] w (fun b w' => b = true ∧ Ext w w') := by
  refine rxFn_ok (C := D3) (ann := fun _ => []) (Eq.mpr (known_vc w _) ?_)
  intro w1 h1 w2 h2
  have b1 : Blk w2 w1.heap.size [Value.bool false, Value.int .i64 0, Value.bool false, Value.int .i64 0] := (Blk.new w1 _ _).ext h2
  have c1 := putAll b1 [Value.bool true, Value.int .i64 3, Value.bool false, Value.int .i64 5] rfl
  have E1 : Ext w (putP w2 (some ⟨w1.heap.size, 0, none⟩) [Value.bool true, Value.int .i64 3, Value.bool false, Value.int .i64 5]) := ((h1.allocd _).trans h2).putP (a := ⟨w1.heap.size, 0, none⟩) h1.size _
  refine ⟨⟨rfl, b1.st (by simp)⟩, (true, 3, false, 5, ()), c1.rdA fun i _ => by rw [Nat.zero_add]; rfl, trivial, by decide +kernel, fun w3 h3 w4 h4 => ?_⟩
  have d1 := c1.ext h3
  have E3 := E1.trans h3
  have l1 := d1.lt
  have b2 : Blk w4 w3.heap.size [Value.bool false, Value.int .i64 0, Value.bool false, Value.int .i64 0] := (Blk.new w3 _ _).ext h4
  have c2 := putAll b2 [Value.bool (prP (B 20487).toNat), Value.int .i64 (prR (B 20487).toNat), Value.bool (prL (B 20487).toNat), Value.int .i64 (prF (B 20487).toNat)] rfl
  have E4 : Ext w (putP w4 (some ⟨w3.heap.size, 0, none⟩) [Value.bool (prP (B 20487).toNat), Value.int .i64 (prR (B 20487).toNat), Value.bool (prL (B 20487).toNat), Value.int .i64 (prF (B 20487).toNat)]) := ((E3.allocd _).trans h4).putP (a := ⟨w3.heap.size, 0, none⟩) E3.size _
  have f1 : Blk (putP w4 (some ⟨w3.heap.size, 0, none⟩) [Value.bool (prP (B 20487).toNat), Value.int .i64 (prR (B 20487).toNat), Value.bool (prL (B 20487).toNat), Value.int .i64 (prF (B 20487).toNat)]) w1.heap.size [Value.bool true, Value.int .i64 3, Value.bool false, Value.int .i64 5] := ((d1.ext (Ext.alloc _ _)).ext h4).putNe (a := ⟨w3.heap.size, 0, none⟩) (by show w1.heap.size ≠ w3.heap.size; omega) _
  refine ⟨⟨rfl, b2.st (by simp)⟩, by decide +kernel, fun w5 h5 w6 h6 => ?_⟩
  have g1 := f1.ext h5
  have g2 := c2.ext h5
  have l2 := g2.lt
  have l3 := g1.lt
  have E5 := E4.trans h5
  have b3 : Blk w6 w5.heap.size [Value.bool false, Value.int .i64 0, Value.bool false, Value.int .i64 0] := (Blk.new w5 _ _).ext h6
  have E6 : Ext w (putP w6 (some ⟨w5.heap.size, 0, none⟩) [Value.bool (prP (B 2).toNat), Value.int .i64 (prR (B 2).toNat), Value.bool (prL (B 2).toNat), Value.int .i64 (prF (B 2).toNat)]) := ((E5.allocd _).trans h6).putP (a := ⟨w5.heap.size, 0, none⟩) E5.size _
  have k1 : Blk (putP w6 (some ⟨w5.heap.size, 0, none⟩) [Value.bool (prP (B 2).toNat), Value.int .i64 (prR (B 2).toNat), Value.bool (prL (B 2).toNat), Value.int .i64 (prF (B 2).toNat)]) w1.heap.size [Value.bool true, Value.int .i64 3, Value.bool false, Value.int .i64 5] := ((g1.ext (Ext.alloc _ _)).ext h6).putNe (a := ⟨w5.heap.size, 0, none⟩) (by show w1.heap.size ≠ w5.heap.size; omega) _
  have k2 : Blk (putP w6 (some ⟨w5.heap.size, 0, none⟩) [Value.bool (prP (B 2).toNat), Value.int .i64 (prR (B 2).toNat), Value.bool (prL (B 2).toNat), Value.int .i64 (prF (B 2).toNat)]) w3.heap.size [Value.bool (prP (B 20487).toNat), Value.int .i64 (prR (B 20487).toNat), Value.bool (prL (B 20487).toNat), Value.int .i64 (prF (B 20487).toNat)] := ((g2.ext (Ext.alloc _ _)).ext h6).putNe (a := ⟨w5.heap.size, 0, none⟩) (by show w3.heap.size ≠ w5.heap.size; omega) _
  have rE : rdAt (putP w6 (some ⟨w5.heap.size, 0, none⟩) [Value.bool (prP (B 2).toNat), Value.int .i64 (prR (B 2).toNat), Value.bool (prL (B 2).toNat), Value.int .i64 (prF (B 2).toNat)]) (some ⟨w1.heap.size, 0, none⟩) (.agg [.bool, .int .i64, .bool, .int .i64]) (true, 3, false, 5, ()) := k1.rdA fun i _ => by rw [Nat.zero_add]; rfl
  have rX : rdAt (putP w6 (some ⟨w5.heap.size, 0, none⟩) [Value.bool (prP (B 2).toNat), Value.int .i64 (prR (B 2).toNat), Value.bool (prL (B 2).toNat), Value.int .i64 (prF (B 2).toNat)]) (some ⟨w3.heap.size, 0, none⟩) (.agg [.bool, .int .i64, .bool, .int .i64]) (prP (B 20487).toNat, prR (B 20487).toNat, prL (B 20487).toNat, prF (B 20487).toNat, ()) := k2.rdA fun i _ => by rw [Nat.zero_add]; rfl
  refine ⟨⟨rfl, b3.st (by simp)⟩, _, fun _ => rX, _, fun _ => rE, _, fun _ => rE, fun _ => trivial, _, fun _ => rE, fun _ => trivial, fun _ => trivial, _, fun _ => rE, fun _ => trivial, _, fun _ => rE, fun _ => trivial, fun _ => trivial, fun x7 e7 => ⟨fun _ => trivial, fun x8 e8 => ⟨fun _ => trivial, fun x9 e9 => ⟨fun _ => trivial, fun x10 e10 => ⟨fun _ => trivial, fun x11 e11 w7 h7 => ⟨?_, E6.trans h7⟩⟩⟩⟩⟩⟩
  subst e7; subst e8; subst e9; subst e10; subst e11
  decide +kernel
noncomputable def eKnown : Entry Try.prog where
  f := 20
  fn l := match l with
    | [] => some (True, .bool true)
    | _ => none
  ok args pre v h hp w := by
    split at h
    · cases h
      exact entry_of (known_ok w)
    · cases h
noncomputable def D4 : Cfg Try.prog := { D0 with tab := [eFits, eIs, eBit, eOne, eMask, eRGet, eGet, ePut, ePBit, eRight, eRRight, eSpan, eRSpan, eTable, eRTable, eAllows, eRAllows, eIndex, eRIndex, ePack, eRPack, ePlain, eParse, eAt, eRAt, eRParse, eKnown] }
end Go.Proofs.Ytmhkofjlkfmncaa
