import Derived.Test.YtmhkofjlkfmncaaP6
import Derived.Test.YtmhkofjlkfmncaaLift
namespace Go.Proofs.Ytmhkofjlkfmncaa
open Go.RX
def tells_vc_ann : Nat → Slots := (fun _ => [])
theorem tells_vc (p : Bool) (r : Int) (l : Bool) (f v t : Int) (w : World) (Post : Bool → World → Prop) : (rxFn D4 tells_vc_ann 3 [.agg ⟨[.bool p, .int .i64 r, .bool l, .int .i64 f]⟩, .int .u64 v, .int .i64 t] w Post) = (
 ∀ (w1 : World),
  Ext w w1 →
   ∃ (x : Bool × Int × Bool × Int × Unit),
    rdAt (w1.alloc (Obj.cells { toList := [Value.bool p, Value.int IntKind.i64 r, Value.bool l, Value.int IntKind.i64 f] } 23)) (some { block := w1.heap.size, off := 0 }) (El.agg [Sc.bool, Sc.int IntKind.i64, Sc.bool, Sc.int IntKind.i64]) x ∧
     True ∧
      ∃ (x_1 : Bool × Int × Bool × Int × Unit),
       rdAt (w1.alloc (Obj.cells { toList := [Value.bool p, Value.int IntKind.i64 r, Value.bool l, Value.int IntKind.i64 f] } 23)) (some { block := w1.heap.size, off := 0 }) (El.agg [Sc.bool, Sc.int IntKind.i64, Sc.bool, Sc.int IntKind.i64]) x_1 ∧
        True ∧
         True ∧
          U (B v) = v ∧
           ∀ (w1_1 : World),
            Ext (w1.alloc (Obj.cells { toList := [Value.bool p, Value.int IntKind.i64 r, Value.bool l, Value.int IntKind.i64 f] } 23)) w1_1 →
             ∀ (w1_2 : World),
              Ext (w1_1.alloc (Obj.cells { toList := [Value.bool false, Value.int IntKind.i64 0, Value.bool false, Value.int IntKind.i64 0] } 23)) w1_2 →
               (true = true ∧ stAt w1_2 (some { block := w1_1.heap.size, off := 0 }) [Value.bool (prP (B v).toNat), Value.int IntKind.i64 (prR (B v).toNat), Value.bool (prL (B v).toNat), Value.int IntKind.i64 (prF (B v).toNat)].length) ∧
                U (B v) = v ∧
                 ∀ (w1_3 : World),
                  Ext (putP w1_2 (some { block := w1_1.heap.size, off := 0 }) [Value.bool (prP (B v).toNat), Value.int IntKind.i64 (prR (B v).toNat), Value.bool (prL (B v).toNat), Value.int IntKind.i64 (prF (B v).toNat)]) w1_3 →
                   ∀ (w1_4 : World),
                    Ext (w1_3.alloc (Obj.cells { toList := [Value.bool false, Value.int IntKind.i64 0, Value.bool false, Value.int IntKind.i64 0] } 29)) w1_4 →
                     (true = true ∧ stAt w1_4 (some { block := w1_3.heap.size, off := 0 }) [Value.bool (prP (B v).toNat), Value.int IntKind.i64 (prR (B v).toNat), Value.bool (prL (B v).toNat), Value.int IntKind.i64 (prF (B v).toNat)].length) ∧
                      ∃ (x_2 : Bool × Int × Bool × Int × Unit),
                       ((pkW x.fst x.snd.fst x.snd.snd.fst x.snd.snd.snd.fst == pkW x_1.fst x_1.snd.fst x_1.snd.snd.fst x_1.snd.snd.snd.fst &&
                           pkE x.fst x.snd.fst x.snd.snd.fst x.snd.snd.snd.fst == pkE x_1.fst x_1.snd.fst x_1.snd.snd.fst x_1.snd.snd.snd.fst) =
                          true →
                         rdAt (putP w1_4 (some { block := w1_3.heap.size, off := 0 }) [Value.bool (prP (B v).toNat), Value.int IntKind.i64 (prR (B v).toNat), Value.bool (prL (B v).toNat), Value.int IntKind.i64 (prF (B v).toNat)])
                          (some { block := w1_1.heap.size, off := 0 }) (El.agg [Sc.bool, Sc.int IntKind.i64, Sc.bool, Sc.int IntKind.i64]) x_2) ∧
                        ((pkW x.fst x.snd.fst x.snd.snd.fst x.snd.snd.snd.fst == pkW x_1.fst x_1.snd.fst x_1.snd.snd.fst x_1.snd.snd.snd.fst &&
                            pkE x.fst x.snd.fst x.snd.snd.fst x.snd.snd.snd.fst == pkE x_1.fst x_1.snd.fst x_1.snd.snd.fst x_1.snd.snd.snd.fst) =
                           true →
                          True) ∧
                         ∃ (x_3 : Bool × Int × Bool × Int × Unit),
                          ((pkW x.fst x.snd.fst x.snd.snd.fst x.snd.snd.snd.fst == pkW x_1.fst x_1.snd.fst x_1.snd.snd.fst x_1.snd.snd.snd.fst &&
                              pkE x.fst x.snd.fst x.snd.snd.fst x.snd.snd.snd.fst == pkE x_1.fst x_1.snd.fst x_1.snd.snd.fst x_1.snd.snd.snd.fst) =
                             true →
                            rdAt (putP w1_4 (some { block := w1_3.heap.size, off := 0 }) [Value.bool (prP (B v).toNat), Value.int IntKind.i64 (prR (B v).toNat), Value.bool (prL (B v).toNat), Value.int IntKind.i64 (prF (B v).toNat)])
                             (some { block := w1_3.heap.size, off := 0 }) (El.agg [Sc.bool, Sc.int IntKind.i64, Sc.bool, Sc.int IntKind.i64]) x_3) ∧
                           ∃ (x_4 : Bool × Int × Bool × Int × Unit),
                            ((pkW x.fst x.snd.fst x.snd.snd.fst x.snd.snd.snd.fst == pkW x_1.fst x_1.snd.fst x_1.snd.snd.fst x_1.snd.snd.snd.fst &&
                                  pkE x.fst x.snd.fst x.snd.snd.fst x.snd.snd.snd.fst == pkE x_1.fst x_1.snd.fst x_1.snd.snd.fst x_1.snd.snd.snd.fst &&
                                 (x_2.fst == x_3.fst && (x_2.snd.fst == x_3.snd.fst && (x_2.snd.snd.fst == x_3.snd.snd.fst && (x_2.snd.snd.snd.fst == x_3.snd.snd.snd.fst && true)))) &&
                                okV (B v).toNat == okV (B v).toNat) =
                               true →
                              rdAt (putP w1_4 (some { block := w1_3.heap.size, off := 0 }) [Value.bool (prP (B v).toNat), Value.int IntKind.i64 (prR (B v).toNat), Value.bool (prL (B v).toNat), Value.int IntKind.i64 (prF (B v).toNat)])
                               (some { block := w1.heap.size, off := 0 }) (El.agg [Sc.bool, Sc.int IntKind.i64, Sc.bool, Sc.int IntKind.i64]) x_4) ∧
                             ((pkW x.fst x.snd.fst x.snd.snd.fst x.snd.snd.snd.fst == pkW x_1.fst x_1.snd.fst x_1.snd.snd.fst x_1.snd.snd.snd.fst &&
                                   pkE x.fst x.snd.fst x.snd.snd.fst x.snd.snd.snd.fst == pkE x_1.fst x_1.snd.fst x_1.snd.snd.fst x_1.snd.snd.snd.fst &&
                                  (x_2.fst == x_3.fst && (x_2.snd.fst == x_3.snd.fst && (x_2.snd.snd.fst == x_3.snd.snd.fst && (x_2.snd.snd.snd.fst == x_3.snd.snd.snd.fst && true)))) &&
                                 okV (B v).toNat == okV (B v).toNat) =
                                true →
                               True) ∧
                              ∃ (x_5 : Bool × Int × Bool × Int × Unit),
                               ((pkW x.fst x.snd.fst x.snd.snd.fst x.snd.snd.snd.fst == pkW x_1.fst x_1.snd.fst x_1.snd.snd.fst x_1.snd.snd.snd.fst &&
                                     pkE x.fst x.snd.fst x.snd.snd.fst x.snd.snd.snd.fst == pkE x_1.fst x_1.snd.fst x_1.snd.snd.fst x_1.snd.snd.snd.fst &&
                                    (x_2.fst == x_3.fst && (x_2.snd.fst == x_3.snd.fst && (x_2.snd.snd.fst == x_3.snd.snd.fst && (x_2.snd.snd.snd.fst == x_3.snd.snd.snd.fst && true)))) &&
                                   okV (B v).toNat == okV (B v).toNat) =
                                  true →
                                 rdAt (putP w1_4 (some { block := w1_3.heap.size, off := 0 }) [Value.bool (prP (B v).toNat), Value.int IntKind.i64 (prR (B v).toNat), Value.bool (prL (B v).toNat), Value.int IntKind.i64 (prF (B v).toNat)])
                                  (some { block := w1.heap.size, off := 0 }) (El.agg [Sc.bool, Sc.int IntKind.i64, Sc.bool, Sc.int IntKind.i64]) x_5) ∧
                                ((pkW x.fst x.snd.fst x.snd.snd.fst x.snd.snd.snd.fst == pkW x_1.fst x_1.snd.fst x_1.snd.snd.fst x_1.snd.snd.snd.fst &&
                                      pkE x.fst x.snd.fst x.snd.snd.fst x.snd.snd.snd.fst == pkE x_1.fst x_1.snd.fst x_1.snd.snd.fst x_1.snd.snd.snd.fst &&
                                     (x_2.fst == x_3.fst && (x_2.snd.fst == x_3.snd.fst && (x_2.snd.snd.fst == x_3.snd.snd.fst && (x_2.snd.snd.snd.fst == x_3.snd.snd.snd.fst && true)))) &&
                                    okV (B v).toNat == okV (B v).toNat) =
                                   true →
                                  True) ∧
                                 ((pkW x.fst x.snd.fst x.snd.snd.fst x.snd.snd.snd.fst == pkW x_1.fst x_1.snd.fst x_1.snd.snd.fst x_1.snd.snd.snd.fst &&
                                       pkE x.fst x.snd.fst x.snd.snd.fst x.snd.snd.snd.fst == pkE x_1.fst x_1.snd.fst x_1.snd.snd.fst x_1.snd.snd.snd.fst &&
                                      (x_2.fst == x_3.fst && (x_2.snd.fst == x_3.snd.fst && (x_2.snd.snd.fst == x_3.snd.snd.fst && (x_2.snd.snd.snd.fst == x_3.snd.snd.snd.fst && true)))) &&
                                     okV (B v).toNat == okV (B v).toNat) =
                                    true →
                                   True) ∧
                                  ∃ (x_6 : Bool × Int × Bool × Int × Unit),
                                   ((pkW x.fst x.snd.fst x.snd.snd.fst x.snd.snd.snd.fst == pkW x_1.fst x_1.snd.fst x_1.snd.snd.fst x_1.snd.snd.snd.fst &&
                                          pkE x.fst x.snd.fst x.snd.snd.fst x.snd.snd.snd.fst == pkE x_1.fst x_1.snd.fst x_1.snd.snd.fst x_1.snd.snd.snd.fst &&
                                         (x_2.fst == x_3.fst && (x_2.snd.fst == x_3.snd.fst && (x_2.snd.snd.fst == x_3.snd.snd.fst && (x_2.snd.snd.snd.fst == x_3.snd.snd.snd.fst && true)))) &&
                                        okV (B v).toNat == okV (B v).toNat &&
                                       rightE x_4.fst x_4.snd.fst x_4.snd.snd.fst x_4.snd.snd.snd.fst == rightE x_5.fst x_5.snd.fst x_5.snd.snd.fst x_5.snd.snd.snd.fst) =
                                      true →
                                     rdAt (putP w1_4 (some { block := w1_3.heap.size, off := 0 }) [Value.bool (prP (B v).toNat), Value.int IntKind.i64 (prR (B v).toNat), Value.bool (prL (B v).toNat), Value.int IntKind.i64 (prF (B v).toNat)])
                                      (some { block := w1.heap.size, off := 0 }) (El.agg [Sc.bool, Sc.int IntKind.i64, Sc.bool, Sc.int IntKind.i64]) x_6) ∧
                                    ((pkW x.fst x.snd.fst x.snd.snd.fst x.snd.snd.snd.fst == pkW x_1.fst x_1.snd.fst x_1.snd.snd.fst x_1.snd.snd.snd.fst &&
                                           pkE x.fst x.snd.fst x.snd.snd.fst x.snd.snd.snd.fst == pkE x_1.fst x_1.snd.fst x_1.snd.snd.fst x_1.snd.snd.snd.fst &&
                                          (x_2.fst == x_3.fst && (x_2.snd.fst == x_3.snd.fst && (x_2.snd.snd.fst == x_3.snd.snd.fst && (x_2.snd.snd.snd.fst == x_3.snd.snd.snd.fst && true)))) &&
                                         okV (B v).toNat == okV (B v).toNat &&
                                        rightE x_4.fst x_4.snd.fst x_4.snd.snd.fst x_4.snd.snd.snd.fst == rightE x_5.fst x_5.snd.fst x_5.snd.snd.fst x_5.snd.snd.snd.fst) =
                                       true →
                                      True) ∧
                                     ∃ (x_7 : Bool × Int × Bool × Int × Unit),
                                      ((pkW x.fst x.snd.fst x.snd.snd.fst x.snd.snd.snd.fst == pkW x_1.fst x_1.snd.fst x_1.snd.snd.fst x_1.snd.snd.snd.fst &&
                                             pkE x.fst x.snd.fst x.snd.snd.fst x.snd.snd.snd.fst == pkE x_1.fst x_1.snd.fst x_1.snd.snd.fst x_1.snd.snd.snd.fst &&
                                            (x_2.fst == x_3.fst && (x_2.snd.fst == x_3.snd.fst && (x_2.snd.snd.fst == x_3.snd.snd.fst && (x_2.snd.snd.snd.fst == x_3.snd.snd.snd.fst && true)))) &&
                                           okV (B v).toNat == okV (B v).toNat &&
                                          rightE x_4.fst x_4.snd.fst x_4.snd.snd.fst x_4.snd.snd.snd.fst == rightE x_5.fst x_5.snd.fst x_5.snd.snd.fst x_5.snd.snd.snd.fst) =
                                         true →
                                        rdAt (putP w1_4 (some { block := w1_3.heap.size, off := 0 }) [Value.bool (prP (B v).toNat), Value.int IntKind.i64 (prR (B v).toNat), Value.bool (prL (B v).toNat), Value.int IntKind.i64 (prF (B v).toNat)])
                                         (some { block := w1.heap.size, off := 0 }) (El.agg [Sc.bool, Sc.int IntKind.i64, Sc.bool, Sc.int IntKind.i64]) x_7) ∧
                                       ((pkW x.fst x.snd.fst x.snd.snd.fst x.snd.snd.snd.fst == pkW x_1.fst x_1.snd.fst x_1.snd.snd.fst x_1.snd.snd.snd.fst &&
                                              pkE x.fst x.snd.fst x.snd.snd.fst x.snd.snd.snd.fst == pkE x_1.fst x_1.snd.fst x_1.snd.snd.fst x_1.snd.snd.snd.fst &&
                                             (x_2.fst == x_3.fst && (x_2.snd.fst == x_3.snd.fst && (x_2.snd.snd.fst == x_3.snd.snd.fst && (x_2.snd.snd.snd.fst == x_3.snd.snd.snd.fst && true)))) &&
                                            okV (B v).toNat == okV (B v).toNat &&
                                           rightE x_4.fst x_4.snd.fst x_4.snd.snd.fst x_4.snd.snd.snd.fst == rightE x_5.fst x_5.snd.fst x_5.snd.snd.fst x_5.snd.snd.snd.fst) =
                                          true →
                                         True) ∧
                                        ((pkW x.fst x.snd.fst x.snd.snd.fst x.snd.snd.snd.fst == pkW x_1.fst x_1.snd.fst x_1.snd.snd.fst x_1.snd.snd.snd.fst &&
                                               pkE x.fst x.snd.fst x.snd.snd.fst x.snd.snd.snd.fst == pkE x_1.fst x_1.snd.fst x_1.snd.snd.fst x_1.snd.snd.snd.fst &&
                                              (x_2.fst == x_3.fst && (x_2.snd.fst == x_3.snd.fst && (x_2.snd.snd.fst == x_3.snd.snd.fst && (x_2.snd.snd.snd.fst == x_3.snd.snd.snd.fst && true)))) &&
                                             okV (B v).toNat == okV (B v).toNat &&
                                            rightE x_4.fst x_4.snd.fst x_4.snd.snd.fst x_4.snd.snd.snd.fst == rightE x_5.fst x_5.snd.fst x_5.snd.snd.fst x_5.snd.snd.snd.fst) =
                                           true →
                                          True) ∧
                                         ∃ (x_8 : Bool × Int × Bool × Int × Unit),
                                          ((pkW x.fst x.snd.fst x.snd.snd.fst x.snd.snd.snd.fst == pkW x_1.fst x_1.snd.fst x_1.snd.snd.fst x_1.snd.snd.snd.fst &&
                                                  pkE x.fst x.snd.fst x.snd.snd.fst x.snd.snd.snd.fst == pkE x_1.fst x_1.snd.fst x_1.snd.snd.fst x_1.snd.snd.snd.fst &&
                                                 (x_2.fst == x_3.fst && (x_2.snd.fst == x_3.snd.fst && (x_2.snd.snd.fst == x_3.snd.snd.fst && (x_2.snd.snd.snd.fst == x_3.snd.snd.snd.fst && true)))) &&
                                                okV (B v).toNat == okV (B v).toNat &&
                                               rightE x_4.fst x_4.snd.fst x_4.snd.snd.fst x_4.snd.snd.snd.fst == rightE x_5.fst x_5.snd.fst x_5.snd.snd.fst x_5.snd.snd.snd.fst &&
                                              tableE x_6.fst x_6.snd.fst x_6.snd.snd.fst x_6.snd.snd.snd.fst == tableE x_7.fst x_7.snd.fst x_7.snd.snd.fst x_7.snd.snd.snd.fst) =
                                             true →
                                            rdAt (putP w1_4 (some { block := w1_3.heap.size, off := 0 }) [Value.bool (prP (B v).toNat), Value.int IntKind.i64 (prR (B v).toNat), Value.bool (prL (B v).toNat), Value.int IntKind.i64 (prF (B v).toNat)])
                                             (some { block := w1.heap.size, off := 0 }) (El.agg [Sc.bool, Sc.int IntKind.i64, Sc.bool, Sc.int IntKind.i64]) x_8) ∧
                                           ((pkW x.fst x.snd.fst x.snd.snd.fst x.snd.snd.snd.fst == pkW x_1.fst x_1.snd.fst x_1.snd.snd.fst x_1.snd.snd.snd.fst &&
                                                   pkE x.fst x.snd.fst x.snd.snd.fst x.snd.snd.snd.fst == pkE x_1.fst x_1.snd.fst x_1.snd.snd.fst x_1.snd.snd.snd.fst &&
                                                  (x_2.fst == x_3.fst && (x_2.snd.fst == x_3.snd.fst && (x_2.snd.snd.fst == x_3.snd.snd.fst && (x_2.snd.snd.snd.fst == x_3.snd.snd.snd.fst && true)))) &&
                                                 okV (B v).toNat == okV (B v).toNat &&
                                                rightE x_4.fst x_4.snd.fst x_4.snd.snd.fst x_4.snd.snd.snd.fst == rightE x_5.fst x_5.snd.fst x_5.snd.snd.fst x_5.snd.snd.snd.fst &&
                                               tableE x_6.fst x_6.snd.fst x_6.snd.snd.fst x_6.snd.snd.snd.fst == tableE x_7.fst x_7.snd.fst x_7.snd.snd.fst x_7.snd.snd.snd.fst) =
                                              true →
                                             True) ∧
                                            ∃ (x_9 : Bool × Int × Bool × Int × Unit),
                                             ((pkW x.fst x.snd.fst x.snd.snd.fst x.snd.snd.snd.fst == pkW x_1.fst x_1.snd.fst x_1.snd.snd.fst x_1.snd.snd.snd.fst &&
                                                     pkE x.fst x.snd.fst x.snd.snd.fst x.snd.snd.snd.fst == pkE x_1.fst x_1.snd.fst x_1.snd.snd.fst x_1.snd.snd.snd.fst &&
                                                    (x_2.fst == x_3.fst && (x_2.snd.fst == x_3.snd.fst && (x_2.snd.snd.fst == x_3.snd.snd.fst && (x_2.snd.snd.snd.fst == x_3.snd.snd.snd.fst && true)))) &&
                                                   okV (B v).toNat == okV (B v).toNat &&
                                                  rightE x_4.fst x_4.snd.fst x_4.snd.snd.fst x_4.snd.snd.snd.fst == rightE x_5.fst x_5.snd.fst x_5.snd.snd.fst x_5.snd.snd.snd.fst &&
                                                 tableE x_6.fst x_6.snd.fst x_6.snd.snd.fst x_6.snd.snd.snd.fst == tableE x_7.fst x_7.snd.fst x_7.snd.snd.fst x_7.snd.snd.snd.fst) =
                                                true →
                                               rdAt (putP w1_4 (some { block := w1_3.heap.size, off := 0 }) [Value.bool (prP (B v).toNat), Value.int IntKind.i64 (prR (B v).toNat), Value.bool (prL (B v).toNat), Value.int IntKind.i64 (prF (B v).toNat)])
                                                (some { block := w1.heap.size, off := 0 }) (El.agg [Sc.bool, Sc.int IntKind.i64, Sc.bool, Sc.int IntKind.i64]) x_9) ∧
                                              ((pkW x.fst x.snd.fst x.snd.snd.fst x.snd.snd.snd.fst == pkW x_1.fst x_1.snd.fst x_1.snd.snd.fst x_1.snd.snd.snd.fst &&
                                                      pkE x.fst x.snd.fst x.snd.snd.fst x.snd.snd.snd.fst == pkE x_1.fst x_1.snd.fst x_1.snd.snd.fst x_1.snd.snd.snd.fst &&
                                                     (x_2.fst == x_3.fst && (x_2.snd.fst == x_3.snd.fst && (x_2.snd.snd.fst == x_3.snd.snd.fst && (x_2.snd.snd.snd.fst == x_3.snd.snd.snd.fst && true)))) &&
                                                    okV (B v).toNat == okV (B v).toNat &&
                                                   rightE x_4.fst x_4.snd.fst x_4.snd.snd.fst x_4.snd.snd.snd.fst == rightE x_5.fst x_5.snd.fst x_5.snd.snd.fst x_5.snd.snd.snd.fst &&
                                                  tableE x_6.fst x_6.snd.fst x_6.snd.snd.fst x_6.snd.snd.snd.fst == tableE x_7.fst x_7.snd.fst x_7.snd.snd.fst x_7.snd.snd.snd.fst) =
                                                 true →
                                                True) ∧
                                               ((pkW x.fst x.snd.fst x.snd.snd.fst x.snd.snd.snd.fst == pkW x_1.fst x_1.snd.fst x_1.snd.snd.fst x_1.snd.snd.snd.fst &&
                                                       pkE x.fst x.snd.fst x.snd.snd.fst x.snd.snd.snd.fst == pkE x_1.fst x_1.snd.fst x_1.snd.snd.fst x_1.snd.snd.snd.fst &&
                                                      (x_2.fst == x_3.fst && (x_2.snd.fst == x_3.snd.fst && (x_2.snd.snd.fst == x_3.snd.snd.fst && (x_2.snd.snd.snd.fst == x_3.snd.snd.snd.fst && true)))) &&
                                                     okV (B v).toNat == okV (B v).toNat &&
                                                    rightE x_4.fst x_4.snd.fst x_4.snd.snd.fst x_4.snd.snd.snd.fst == rightE x_5.fst x_5.snd.fst x_5.snd.snd.fst x_5.snd.snd.snd.fst &&
                                                   tableE x_6.fst x_6.snd.fst x_6.snd.snd.fst x_6.snd.snd.snd.fst == tableE x_7.fst x_7.snd.fst x_7.snd.snd.fst x_7.snd.snd.snd.fst) =
                                                  true →
                                                 True) ∧
                                                ((pkW x.fst x.snd.fst x.snd.snd.fst x.snd.snd.snd.fst == pkW x_1.fst x_1.snd.fst x_1.snd.snd.fst x_1.snd.snd.snd.fst &&
                                                         pkE x.fst x.snd.fst x.snd.snd.fst x.snd.snd.snd.fst == pkE x_1.fst x_1.snd.fst x_1.snd.snd.fst x_1.snd.snd.snd.fst &&
                                                        (x_2.fst == x_3.fst && (x_2.snd.fst == x_3.snd.fst && (x_2.snd.snd.fst == x_3.snd.snd.fst && (x_2.snd.snd.snd.fst == x_3.snd.snd.snd.fst && true)))) &&
                                                       okV (B v).toNat == okV (B v).toNat &&
                                                      rightE x_4.fst x_4.snd.fst x_4.snd.snd.fst x_4.snd.snd.snd.fst == rightE x_5.fst x_5.snd.fst x_5.snd.snd.fst x_5.snd.snd.snd.fst &&
                                                     tableE x_6.fst x_6.snd.fst x_6.snd.snd.fst x_6.snd.snd.snd.fst == tableE x_7.fst x_7.snd.fst x_7.snd.snd.fst x_7.snd.snd.snd.fst &&
                                                    allowsE x_8.fst x_8.snd.fst x_8.snd.snd.fst x_8.snd.snd.snd.fst t == allowsE x_9.fst x_9.snd.fst x_9.snd.snd.fst x_9.snd.snd.snd.fst t) =
                                                   true →
                                                  True) ∧
                                                 ∀ (w1 : World),
                                                  Ext
                                                    (putP w1_4 (some { block := w1_3.heap.size, off := 0 }) [Value.bool (prP (B v).toNat), Value.int IntKind.i64 (prR (B v).toNat), Value.bool (prL (B v).toNat), Value.int IntKind.i64 (prF (B v).toNat)])
                                                    w1 →
                                                   Post
                                                    (pkW x.fst x.snd.fst x.snd.snd.fst x.snd.snd.snd.fst == pkW x_1.fst x_1.snd.fst x_1.snd.snd.fst x_1.snd.snd.snd.fst &&
                                                           pkE x.fst x.snd.fst x.snd.snd.fst x.snd.snd.snd.fst == pkE x_1.fst x_1.snd.fst x_1.snd.snd.fst x_1.snd.snd.snd.fst &&
                                                          (x_2.fst == x_3.fst && (x_2.snd.fst == x_3.snd.fst && (x_2.snd.snd.fst == x_3.snd.snd.fst && (x_2.snd.snd.snd.fst == x_3.snd.snd.snd.fst && true)))) &&
                                                         okV (B v).toNat == okV (B v).toNat &&
                                                        rightE x_4.fst x_4.snd.fst x_4.snd.snd.fst x_4.snd.snd.snd.fst == rightE x_5.fst x_5.snd.fst x_5.snd.snd.fst x_5.snd.snd.snd.fst &&
                                                       tableE x_6.fst x_6.snd.fst x_6.snd.snd.fst x_6.snd.snd.snd.fst == tableE x_7.fst x_7.snd.fst x_7.snd.snd.fst x_7.snd.snd.snd.fst &&
                                                      allowsE x_8.fst x_8.snd.fst x_8.snd.snd.fst x_8.snd.snd.snd.fst t == allowsE x_9.fst x_9.snd.fst x_9.snd.snd.fst x_9.snd.snd.snd.fst t &&
                                                     true)
                                                    w1) := by kernel_rfl
theorem tells_row (e : ScsT [.bool, .int .i64, .bool, .int .i64]) (_ : okScs [.bool, .int .i64, .bool, .int .i64] e) (v : BitVec 64) (t : Int) (_ : (Lit.int .i64 t).wf = true) (w : World) :
    CallsR Try.prog 3 (.el (.one .bool)) [.agg ⟨scsEmb _ e⟩, .int .u64 (U v), .int .i64 t] w (fun b w' => b = true ∧ Ext w w') := by
  obtain ⟨p, r, l, f, _⟩ := e
  refine rxFn_ok (C := D4) (ann := tells_vc_ann) (Eq.mpr (tells_vc p r l f (U v) t w _) ?_)
  intro w1 h1
  have blk : Blk (w1.alloc (.cells ⟨[Value.bool p, Value.int .i64 r, Value.bool l, Value.int .i64 f]⟩ 23)) w1.heap.size [.bool p, .int .i64 r, .bool l, .int .i64 f] := Blk.new w1 _ _
  have ga := (ent_rd blk).2.2.2.2
  refine ⟨_, ga, trivial, _, ga, trivial, trivial, by rw [B_U], fun w2 h2 w3 h3 => ?_⟩
  have E2 : Ext w w2 := (h1.allocd _).trans h2
  have k2 := blk.ext h2
  have l2 := k2.lt
  have b1 : Blk w3 w2.heap.size [Value.bool false, Value.int .i64 0, Value.bool false, Value.int .i64 0] := (Blk.new w2 _ _).ext h3
  have k3 : Blk (putP w3 (some ⟨w2.heap.size, 0, none⟩) [Value.bool (prP (B (U v)).toNat), Value.int .i64 (prR (B (U v)).toNat), Value.bool (prL (B (U v)).toNat), Value.int .i64 (prF (B (U v)).toNat)]) w1.heap.size [.bool p, .int .i64 r, .bool l, .int .i64 f] := ((k2.ext (Ext.alloc _ _)).ext h3).putNe (a := ⟨w2.heap.size, 0, none⟩) (by show w1.heap.size ≠ w2.heap.size; omega) _
  have E3 : Ext w (putP w3 (some ⟨w2.heap.size, 0, none⟩) [Value.bool (prP (B (U v)).toNat), Value.int .i64 (prR (B (U v)).toNat), Value.bool (prL (B (U v)).toNat), Value.int .i64 (prF (B (U v)).toNat)]) := ((E2.allocd _).trans h3).putP (a := ⟨w2.heap.size, 0, none⟩) E2.size _
  refine ⟨⟨rfl, b1.st (by simp)⟩, by rw [B_U], fun w4 h4 w5 h5 => ?_⟩
  have c1 := (putAll b1 [Value.bool (prP (B (U v)).toNat), Value.int .i64 (prR (B (U v)).toNat), Value.bool (prL (B (U v)).toNat), Value.int .i64 (prF (B (U v)).toNat)] rfl).ext h4
  have l4 := c1.lt
  have k4 := k3.ext h4
  have l5 := k4.lt
  have E4 := E3.trans h4
  have b2 : Blk w5 w4.heap.size [Value.bool false, Value.int .i64 0, Value.bool false, Value.int .i64 0] := (Blk.new w4 _ _).ext h5
  have c2 := putAll b2 [Value.bool (prP (B (U v)).toNat), Value.int .i64 (prR (B (U v)).toNat), Value.bool (prL (B (U v)).toNat), Value.int .i64 (prF (B (U v)).toNat)] rfl
  have E5 : Ext w (putP w5 (some ⟨w4.heap.size, 0, none⟩) [Value.bool (prP (B (U v)).toNat), Value.int .i64 (prR (B (U v)).toNat), Value.bool (prL (B (U v)).toNat), Value.int .i64 (prF (B (U v)).toNat)]) := ((E4.allocd _).trans h5).putP (a := ⟨w4.heap.size, 0, none⟩) E4.size _
  have k5 : Blk (putP w5 (some ⟨w4.heap.size, 0, none⟩) [Value.bool (prP (B (U v)).toNat), Value.int .i64 (prR (B (U v)).toNat), Value.bool (prL (B (U v)).toNat), Value.int .i64 (prF (B (U v)).toNat)]) w1.heap.size [.bool p, .int .i64 r, .bool l, .int .i64 f] := ((k4.ext (Ext.alloc _ _)).ext h5).putNe (a := ⟨w4.heap.size, 0, none⟩) (by show w1.heap.size ≠ w4.heap.size; omega) _
  have c3 : Blk (putP w5 (some ⟨w4.heap.size, 0, none⟩) [Value.bool (prP (B (U v)).toNat), Value.int .i64 (prR (B (U v)).toNat), Value.bool (prL (B (U v)).toNat), Value.int .i64 (prF (B (U v)).toNat)]) w2.heap.size [Value.bool (prP (B (U v)).toNat), Value.int .i64 (prR (B (U v)).toNat), Value.bool (prL (B (U v)).toNat), Value.int .i64 (prF (B (U v)).toNat)] := ((c1.ext (Ext.alloc _ _)).ext h5).putNe (a := ⟨w4.heap.size, 0, none⟩) (by show w2.heap.size ≠ w4.heap.size; omega) _
  have rE := (ent_rd k5).2.2.2.2
  have rX := (ent_rd c3).2.2.2.2
  have rY := (ent_rd c2).2.2.2.2
  refine ⟨⟨rfl, b2.st (by simp)⟩, _, fun _ => rX, fun _ => trivial, _, fun _ => rY, ?_⟩
  repeat (first | refine ⟨fun _ => trivial, ?_⟩ | refine ⟨_, fun _ => rE, ?_⟩)
  intro w6 h6
  exact ⟨by simp, E5.trans h6⟩
end Go.Proofs.Ytmhkofjlkfmncaa
