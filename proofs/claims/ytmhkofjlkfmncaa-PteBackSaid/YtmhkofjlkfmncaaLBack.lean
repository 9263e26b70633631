import Derived.Test.YtmhkofjlkfmncaaP6
import Derived.Test.YtmhkofjlkfmncaaLift
namespace Go.Proofs.Ytmhkofjlkfmncaa
open Go.RX
def back_vc_ann : Nat → Slots := (fun _ => [])
theorem back_vc (p : Bool) (r : Int) (l : Bool) (f v : Int) (w : World) (Post : Bool → World → Prop) : (rxFn D4 back_vc_ann 5 [.agg ⟨[.bool p, .int .i64 r, .bool l, .int .i64 f]⟩, .int .u64 v] w Post) = (
 ∀ (w1 : World),
  Ext w w1 →
   ∃ (x : Bool × Int × Bool × Int × Unit),
    rdAt (w1.alloc (Obj.cells { toList := [Value.bool p, Value.int IntKind.i64 r, Value.bool l, Value.int IntKind.i64 f] } 23)) (some { block := w1.heap.size, off := 0 }) (El.agg [Sc.bool, Sc.int IntKind.i64, Sc.bool, Sc.int IntKind.i64]) x ∧
     True ∧
      U (B (pkW x.fst x.snd.fst x.snd.snd.fst x.snd.snd.snd.fst)) = pkW x.fst x.snd.fst x.snd.snd.fst x.snd.snd.snd.fst ∧
       ∀ (w1_1 : World),
        Ext (w1.alloc (Obj.cells { toList := [Value.bool p, Value.int IntKind.i64 r, Value.bool l, Value.int IntKind.i64 f] } 23)) w1_1 →
         ∀ (w1_2 : World),
          Ext (w1_1.alloc (Obj.cells { toList := [Value.bool false, Value.int IntKind.i64 0, Value.bool false, Value.int IntKind.i64 0] } 23)) w1_2 →
           (true = true ∧
             stAt w1_2 (some { block := w1_1.heap.size, off := 0 })
              [Value.bool (prP (B (pkW x.fst x.snd.fst x.snd.snd.fst x.snd.snd.snd.fst)).toNat), Value.int IntKind.i64 (prR (B (pkW x.fst x.snd.fst x.snd.snd.fst x.snd.snd.snd.fst)).toNat),
                Value.bool (prL (B (pkW x.fst x.snd.fst x.snd.snd.fst x.snd.snd.snd.fst)).toNat), Value.int IntKind.i64 (prF (B (pkW x.fst x.snd.fst x.snd.snd.fst x.snd.snd.snd.fst)).toNat)].length) ∧
            U (B v) = v ∧
             ∀ (w1_3 : World),
              Ext
                (putP w1_2 (some { block := w1_1.heap.size, off := 0 })
                 [Value.bool (prP (B (pkW x.fst x.snd.fst x.snd.snd.fst x.snd.snd.snd.fst)).toNat), Value.int IntKind.i64 (prR (B (pkW x.fst x.snd.fst x.snd.snd.fst x.snd.snd.snd.fst)).toNat),
                  Value.bool (prL (B (pkW x.fst x.snd.fst x.snd.snd.fst x.snd.snd.snd.fst)).toNat), Value.int IntKind.i64 (prF (B (pkW x.fst x.snd.fst x.snd.snd.fst x.snd.snd.snd.fst)).toNat)])
                w1_3 →
               ∀ (w1_4 : World),
                Ext (w1_3.alloc (Obj.cells { toList := [Value.bool false, Value.int IntKind.i64 0, Value.bool false, Value.int IntKind.i64 0] } 23)) w1_4 →
                 (true = true ∧ stAt w1_4 (some { block := w1_3.heap.size, off := 0 }) [Value.bool (prP (B v).toNat), Value.int IntKind.i64 (prR (B v).toNat), Value.bool (prL (B v).toNat), Value.int IntKind.i64 (prF (B v).toNat)].length) ∧
                  ∃ (x_1 : Bool × Int × Bool × Int × Unit),
                   rdAt (putP w1_4 (some { block := w1_3.heap.size, off := 0 }) [Value.bool (prP (B v).toNat), Value.int IntKind.i64 (prR (B v).toNat), Value.bool (prL (B v).toNat), Value.int IntKind.i64 (prF (B v).toNat)])
                     (some { block := w1_3.heap.size, off := 0 }) (El.agg [Sc.bool, Sc.int IntKind.i64, Sc.bool, Sc.int IntKind.i64]) x_1 ∧
                    True ∧
                     U (B 0) = 0 ∧
                      ∀ (w1_5 : World),
                       Ext (putP w1_4 (some { block := w1_3.heap.size, off := 0 }) [Value.bool (prP (B v).toNat), Value.int IntKind.i64 (prR (B v).toNat), Value.bool (prL (B v).toNat), Value.int IntKind.i64 (prF (B v).toNat)]) w1_5 →
                        ∀ (w1_6 : World),
                         Ext (w1_5.alloc (Obj.cells { toList := [Value.bool false, Value.int IntKind.i64 0, Value.bool false, Value.int IntKind.i64 0] } 23)) w1_6 →
                          (true = true ∧ stAt w1_6 (some { block := w1_5.heap.size, off := 0 }) 4) ∧
                           ∃ (x_2 : Bool × Int × Bool × Int × Unit),
                            rdAt
                              (putP w1_6 (some { block := w1_5.heap.size, off := 0 })
                               [Value.bool (prP (↑(B 0).toFin : Nat)), Value.int IntKind.i64 (prR (↑(B 0).toFin : Nat)), Value.bool (prL (↑(B 0).toFin : Nat)), Value.int IntKind.i64 (prF (↑(B 0).toFin : Nat))])
                              (some { block := w1.heap.size, off := 0 }) (El.agg [Sc.bool, Sc.int IntKind.i64, Sc.bool, Sc.int IntKind.i64]) x_2 ∧
                             True ∧
                              ∃ (x_3 : Bool × Int × Bool × Int × Unit),
                               (((pkE x.fst x.snd.fst x.snd.snd.fst x.snd.snd.snd.fst == 0) == rightE x_2.fst x_2.snd.fst x_2.snd.snd.fst x_2.snd.snd.snd.fst && !pkE x.fst x.snd.fst x.snd.snd.fst x.snd.snd.snd.fst != 0 &&
                                   okV (B (pkW x.fst x.snd.fst x.snd.snd.fst x.snd.snd.snd.fst)).toNat) =
                                  true →
                                 rdAt
                                  (putP w1_6 (some { block := w1_5.heap.size, off := 0 })
                                   [Value.bool (prP (↑(B 0).toFin : Nat)), Value.int IntKind.i64 (prR (↑(B 0).toFin : Nat)), Value.bool (prL (↑(B 0).toFin : Nat)), Value.int IntKind.i64 (prF (↑(B 0).toFin : Nat))])
                                  (some { block := w1_1.heap.size, off := 0 }) (El.agg [Sc.bool, Sc.int IntKind.i64, Sc.bool, Sc.int IntKind.i64]) x_3) ∧
                                ∃ (x_4 : Bool × Int × Bool × Int × Unit),
                                 (((pkE x.fst x.snd.fst x.snd.snd.fst x.snd.snd.snd.fst == 0) == rightE x_2.fst x_2.snd.fst x_2.snd.snd.fst x_2.snd.snd.snd.fst && !pkE x.fst x.snd.fst x.snd.snd.fst x.snd.snd.snd.fst != 0 &&
                                     okV (B (pkW x.fst x.snd.fst x.snd.snd.fst x.snd.snd.snd.fst)).toNat) =
                                    true →
                                   rdAt
                                    (putP w1_6 (some { block := w1_5.heap.size, off := 0 })
                                     [Value.bool (prP (↑(B 0).toFin : Nat)), Value.int IntKind.i64 (prR (↑(B 0).toFin : Nat)), Value.bool (prL (↑(B 0).toFin : Nat)), Value.int IntKind.i64 (prF (↑(B 0).toFin : Nat))])
                                    (some { block := w1.heap.size, off := 0 }) (El.agg [Sc.bool, Sc.int IntKind.i64, Sc.bool, Sc.int IntKind.i64]) x_4) ∧
                                  ∃ (x_5 : Bool × Int × Bool × Int × Unit),
                                   (((pkE x.fst x.snd.fst x.snd.snd.fst x.snd.snd.snd.fst == 0) == rightE x_2.fst x_2.snd.fst x_2.snd.snd.fst x_2.snd.snd.snd.fst &&
                                         (pkE x.fst x.snd.fst x.snd.snd.fst x.snd.snd.snd.fst != 0 ||
                                          okV (B (pkW x.fst x.snd.fst x.snd.snd.fst x.snd.snd.snd.fst)).toNat &&
                                           (x_3.fst == x_4.fst && (x_3.snd.fst == x_4.snd.fst && (x_3.snd.snd.fst == x_4.snd.snd.fst && (x_3.snd.snd.snd.fst == x_4.snd.snd.snd.fst && true))))) &&
                                        (!okV (B v).toNat || pkW x_1.fst x_1.snd.fst x_1.snd.snd.fst x_1.snd.snd.snd.fst == v) &&
                                       okV (↑(B 0).toFin : Nat)) =
                                      true →
                                     rdAt
                                      (putP w1_6 (some { block := w1_5.heap.size, off := 0 })
                                       [Value.bool (prP (↑(B 0).toFin : Nat)), Value.int IntKind.i64 (prR (↑(B 0).toFin : Nat)), Value.bool (prL (↑(B 0).toFin : Nat)), Value.int IntKind.i64 (prF (↑(B 0).toFin : Nat))])
                                      (some { block := w1_5.heap.size, off := 0 }) (El.agg [Sc.bool, Sc.int IntKind.i64, Sc.bool, Sc.int IntKind.i64]) x_5) ∧
                                    ∃ (x_6 : Bool × Int × Bool × Int × Unit),
                                     (((pkE x.fst x.snd.fst x.snd.snd.fst x.snd.snd.snd.fst == 0) == rightE x_2.fst x_2.snd.fst x_2.snd.snd.fst x_2.snd.snd.snd.fst &&
                                            (pkE x.fst x.snd.fst x.snd.snd.fst x.snd.snd.snd.fst != 0 ||
                                             okV (B (pkW x.fst x.snd.fst x.snd.snd.fst x.snd.snd.snd.fst)).toNat &&
                                              (x_3.fst == x_4.fst && (x_3.snd.fst == x_4.snd.fst && (x_3.snd.snd.fst == x_4.snd.snd.fst && (x_3.snd.snd.snd.fst == x_4.snd.snd.snd.fst && true))))) &&
                                           (!okV (B v).toNat || pkW x_1.fst x_1.snd.fst x_1.snd.snd.fst x_1.snd.snd.snd.fst == v) &&
                                          okV (↑(B 0).toFin : Nat) &&
                                         (x_5.fst == false && (x_5.snd.fst == 0 && (x_5.snd.snd.fst == false && (x_5.snd.snd.snd.fst == 0 && true))))) =
                                        true →
                                       rdAt
                                        (putP w1_6 (some { block := w1_5.heap.size, off := 0 })
                                         [Value.bool (prP (↑(B 0).toFin : Nat)), Value.int IntKind.i64 (prR (↑(B 0).toFin : Nat)), Value.bool (prL (↑(B 0).toFin : Nat)), Value.int IntKind.i64 (prF (↑(B 0).toFin : Nat))])
                                        (some { block := w1_5.heap.size, off := 0 }) (El.agg [Sc.bool, Sc.int IntKind.i64, Sc.bool, Sc.int IntKind.i64]) x_6) ∧
                                      (((pkE x.fst x.snd.fst x.snd.snd.fst x.snd.snd.snd.fst == 0) == rightE x_2.fst x_2.snd.fst x_2.snd.snd.fst x_2.snd.snd.snd.fst &&
                                             (pkE x.fst x.snd.fst x.snd.snd.fst x.snd.snd.snd.fst != 0 ||
                                              okV (B (pkW x.fst x.snd.fst x.snd.snd.fst x.snd.snd.snd.fst)).toNat &&
                                               (x_3.fst == x_4.fst && (x_3.snd.fst == x_4.snd.fst && (x_3.snd.snd.fst == x_4.snd.snd.fst && (x_3.snd.snd.snd.fst == x_4.snd.snd.snd.fst && true))))) &&
                                            (!okV (B v).toNat || pkW x_1.fst x_1.snd.fst x_1.snd.snd.fst x_1.snd.snd.snd.fst == v) &&
                                           okV (↑(B 0).toFin : Nat) &&
                                          (x_5.fst == false && (x_5.snd.fst == 0 && (x_5.snd.snd.fst == false && (x_5.snd.snd.snd.fst == 0 && true))))) =
                                         true →
                                        True) ∧
                                       ∃ (x_7 : Bool × Int × Bool × Int × Unit),
                                        (((pkE x.fst x.snd.fst x.snd.snd.fst x.snd.snd.snd.fst == 0) == rightE x_2.fst x_2.snd.fst x_2.snd.snd.fst x_2.snd.snd.snd.fst &&
                                                (pkE x.fst x.snd.fst x.snd.snd.fst x.snd.snd.snd.fst != 0 ||
                                                 okV (B (pkW x.fst x.snd.fst x.snd.snd.fst x.snd.snd.snd.fst)).toNat &&
                                                  (x_3.fst == x_4.fst && (x_3.snd.fst == x_4.snd.fst && (x_3.snd.snd.fst == x_4.snd.snd.fst && (x_3.snd.snd.snd.fst == x_4.snd.snd.snd.fst && true))))) &&
                                               (!okV (B v).toNat || pkW x_1.fst x_1.snd.fst x_1.snd.snd.fst x_1.snd.snd.snd.fst == v) &&
                                              okV (↑(B 0).toFin : Nat) &&
                                             (x_5.fst == false && (x_5.snd.fst == 0 && (x_5.snd.snd.fst == false && (x_5.snd.snd.snd.fst == 0 && true)))) &&
                                            !allowsE x_6.fst x_6.snd.fst x_6.snd.snd.fst x_6.snd.snd.snd.fst 0) =
                                           true →
                                          rdAt
                                           (putP w1_6 (some { block := w1_5.heap.size, off := 0 })
                                            [Value.bool (prP (↑(B 0).toFin : Nat)), Value.int IntKind.i64 (prR (↑(B 0).toFin : Nat)), Value.bool (prL (↑(B 0).toFin : Nat)), Value.int IntKind.i64 (prF (↑(B 0).toFin : Nat))])
                                           (some { block := w1_5.heap.size, off := 0 }) (El.agg [Sc.bool, Sc.int IntKind.i64, Sc.bool, Sc.int IntKind.i64]) x_7) ∧
                                         (((pkE x.fst x.snd.fst x.snd.snd.fst x.snd.snd.snd.fst == 0) == rightE x_2.fst x_2.snd.fst x_2.snd.snd.fst x_2.snd.snd.snd.fst &&
                                                 (pkE x.fst x.snd.fst x.snd.snd.fst x.snd.snd.snd.fst != 0 ||
                                                  okV (B (pkW x.fst x.snd.fst x.snd.snd.fst x.snd.snd.snd.fst)).toNat &&
                                                   (x_3.fst == x_4.fst && (x_3.snd.fst == x_4.snd.fst && (x_3.snd.snd.fst == x_4.snd.snd.fst && (x_3.snd.snd.snd.fst == x_4.snd.snd.snd.fst && true))))) &&
                                                (!okV (B v).toNat || pkW x_1.fst x_1.snd.fst x_1.snd.snd.fst x_1.snd.snd.snd.fst == v) &&
                                               okV (↑(B 0).toFin : Nat) &&
                                              (x_5.fst == false && (x_5.snd.fst == 0 && (x_5.snd.snd.fst == false && (x_5.snd.snd.snd.fst == 0 && true)))) &&
                                             !allowsE x_6.fst x_6.snd.fst x_6.snd.snd.fst x_6.snd.snd.snd.fst 0) =
                                            true →
                                           True) ∧
                                          (((pkE x.fst x.snd.fst x.snd.snd.fst x.snd.snd.snd.fst == 0) == rightE x_2.fst x_2.snd.fst x_2.snd.snd.fst x_2.snd.snd.snd.fst &&
                                                   (pkE x.fst x.snd.fst x.snd.snd.fst x.snd.snd.snd.fst != 0 ||
                                                    okV (B (pkW x.fst x.snd.fst x.snd.snd.fst x.snd.snd.snd.fst)).toNat &&
                                                     (x_3.fst == x_4.fst && (x_3.snd.fst == x_4.snd.fst && (x_3.snd.snd.fst == x_4.snd.snd.fst && (x_3.snd.snd.snd.fst == x_4.snd.snd.snd.fst && true))))) &&
                                                  (!okV (B v).toNat || pkW x_1.fst x_1.snd.fst x_1.snd.snd.fst x_1.snd.snd.snd.fst == v) &&
                                                 okV (↑(B 0).toFin : Nat) &&
                                                (x_5.fst == false && (x_5.snd.fst == 0 && (x_5.snd.snd.fst == false && (x_5.snd.snd.snd.fst == 0 && true)))) &&
                                               !allowsE x_6.fst x_6.snd.fst x_6.snd.snd.fst x_6.snd.snd.snd.fst 0 &&
                                              !tableE x_7.fst x_7.snd.fst x_7.snd.snd.fst x_7.snd.snd.snd.fst) =
                                             true →
                                            True) ∧
                                           ∀ (w1 : World),
                                            Ext
                                              (putP w1_6 (some { block := w1_5.heap.size, off := 0 })
                                               [Value.bool (prP (↑(B 0).toFin : Nat)), Value.int IntKind.i64 (prR (↑(B 0).toFin : Nat)), Value.bool (prL (↑(B 0).toFin : Nat)), Value.int IntKind.i64 (prF (↑(B 0).toFin : Nat))])
                                              w1 →
                                             Post
                                              ((pkE x.fst x.snd.fst x.snd.snd.fst x.snd.snd.snd.fst == 0) == rightE x_2.fst x_2.snd.fst x_2.snd.snd.fst x_2.snd.snd.snd.fst &&
                                                     (pkE x.fst x.snd.fst x.snd.snd.fst x.snd.snd.snd.fst != 0 ||
                                                      okV (B (pkW x.fst x.snd.fst x.snd.snd.fst x.snd.snd.snd.fst)).toNat &&
                                                       (x_3.fst == x_4.fst && (x_3.snd.fst == x_4.snd.fst && (x_3.snd.snd.fst == x_4.snd.snd.fst && (x_3.snd.snd.snd.fst == x_4.snd.snd.snd.fst && true))))) &&
                                                    (!okV (B v).toNat || pkW x_1.fst x_1.snd.fst x_1.snd.snd.fst x_1.snd.snd.snd.fst == v) &&
                                                   okV (↑(B 0).toFin : Nat) &&
                                                  (x_5.fst == false && (x_5.snd.fst == 0 && (x_5.snd.snd.fst == false && (x_5.snd.snd.snd.fst == 0 && true)))) &&
                                                 !allowsE x_6.fst x_6.snd.fst x_6.snd.snd.fst x_6.snd.snd.snd.fst 0 &&
                                                !tableE x_7.fst x_7.snd.fst x_7.snd.snd.fst x_7.snd.snd.snd.fst &&
                                               true)
                                              w1) := by kernel_rfl
theorem nB_eq (b : Bool) : (nB b == 1) = b := by cases b <;> rfl
theorem entry_num {p : Bool} {r : Int} {l : Bool} {f : Int} (h : rightE p r l f = true) : ∃ n : Nat, pkW p r l f = (n : Int) ∧ n < 18446744073709551616 ∧ (n % 2 == 1) = p ∧ ((n / 2 % 8 : Nat) : Int) = r ∧ (n / 16 % 2 == 1) = l ∧ ((n / 4096 % 4096 : Nat) : Int) = f ∧ n / 32 % 128 = 0 ∧ n / 16777216 % 1099511627776 = 0 := by
  have b := right_bd h
  have b1 := nB_le p
  have b2 := nB_le l
  refine ⟨nB p + 2 * r.toNat + 16 * nB l + 4096 * f.toNat, ?_, by omega, ?_, by omega, ?_, by omega, by omega, by omega⟩
  · unfold pkW wordI
    rw [if_pos h]; omega
  · rw [show (nB p + 2 * r.toNat + 16 * nB l + 4096 * f.toNat) % 2 = nB p by omega, nB_eq]
  · rw [show (nB p + 2 * r.toNat + 16 * nB l + 4096 * f.toNat) / 16 % 2 = nB l by omega, nB_eq]
theorem pkW_bd (p : Bool) (r : Int) (l : Bool) (f : Int) : 0 ≤ pkW p r l f ∧ pkW p r l f < 18446744073709551616 := by
  by_cases h : rightE p r l f = true
  · obtain ⟨n, e, hn, _⟩ := entry_num h
    rw [e]; omega
  · unfold pkW
    rw [if_neg h]; decide
theorem pkE_zero (p : Bool) (r : Int) (l : Bool) (f : Int) : (pkE p r l f == 0) = rightE p r l f := by
  unfold pkE
  cases rightE p r l f <;> rfl
/-- A right entry's word is read as it. -/
theorem read_back {p : Bool} {r : Int} {l : Bool} {f : Int} (h : rightE p r l f = true) : okV (B (pkW p r l f)).toNat = true ∧ prP (B (pkW p r l f)).toNat = p ∧ prR (B (pkW p r l f)).toNat = r ∧ prL (B (pkW p r l f)).toNat = l ∧ prF (B (pkW p r l f)).toNat = f := by
  obtain ⟨n, e, hn, e1, e2, e3, e4, e5, e6⟩ := entry_num h
  have hb : (B (pkW p r l f)).toNat = n := by
    rw [e, B_nat (by omega) (by omega)]; omega
  rw [hb]
  have ho : okV n = true := by
    unfold okV
    rw [e1, e2, e3, e4, h, decide_eq_true e5, decide_eq_true e6]; rfl
  refine ⟨ho, ?_, ?_, ?_, ?_⟩
  · unfold prP; rw [ho, e1]; rfl
  · unfold prR; rw [if_pos ho, e2]
  · unfold prL; rw [ho, e3]; rfl
  · unfold prF; rw [if_pos ho, e4]
/-- A word that is read is its word. -/
theorem word_back {v : BitVec 64} (h : okV v.toNat = true) : pkW (prP v.toNat) (prR v.toNat) (prL v.toNat) (prF v.toNat) = U v := by
  have e : (prP v.toNat = (v.toNat % 2 == 1)) ∧ prR v.toNat = ((v.toNat / 2 % 8 : Nat) : Int) ∧ (prL v.toNat = (v.toNat / 16 % 2 == 1)) ∧ prF v.toNat = ((v.toNat / 4096 % 4096 : Nat) : Int) := by
    refine ⟨?_, ?_, ?_, ?_⟩
    · unfold prP; rw [h]; rfl
    · unfold prR; rw [if_pos h]
    · unfold prL; rw [h]; rfl
    · unfold prF; rw [if_pos h]
  rw [e.1, e.2.1, e.2.2.1, e.2.2.2]
  have ho := ok_word _ v.isLt
  rw [h] at ho
  have ho' := ho.symm
  rw [Bool.and_eq_true, decide_eq_true_eq] at ho'
  unfold pkW
  rw [if_pos ho'.1, ho'.2]
  rfl
theorem back_plain (p : Bool) (r : Int) (l : Bool) (f : Int) (v : BitVec 64) :
    ((pkE p r l f == 0) == rightE p r l f && (pkE p r l f != 0 || okV (B (pkW p r l f)).toNat && (prP (B (pkW p r l f)).toNat == p && (prR (B (pkW p r l f)).toNat == r && (prL (B (pkW p r l f)).toNat == l && (prF (B (pkW p r l f)).toNat == f && true))))) && (!okV v.toNat || pkW (prP v.toNat) (prR v.toNat) (prL v.toNat) (prF v.toNat) == U v)) = true := by
  rw [pkE_zero]
  have h1 : (pkE p r l f != 0) = !rightE p r l f := by rw [← pkE_zero]; rfl
  rw [h1]
  have h2 : (!okV v.toNat || pkW (prP v.toNat) (prR v.toNat) (prL v.toNat) (prF v.toNat) == U v) = true := by
    cases ho : okV v.toNat with
    | false => rfl
    | true => rw [word_back ho]; simp
  rw [h2]
  cases hr : rightE p r l f with
  | false => simp
  | true =>
    obtain ⟨a1, a2, a3, a4, a5⟩ := read_back hr
    rw [a1, a2, a3, a4, a5]; simp
theorem back_row (e : ScsT [.bool, .int .i64, .bool, .int .i64]) (_ : okScs [.bool, .int .i64, .bool, .int .i64] e) (v : BitVec 64) (w : World) :
    CallsR Try.prog 5 (.el (.one .bool)) [.agg ⟨scsEmb _ e⟩, .int .u64 (U v)] w (fun b w' => b = true ∧ Ext w w') := by
  obtain ⟨p, r, l, f, _⟩ := e
  refine rxFn_ok (C := D4) (ann := back_vc_ann) (Eq.mpr (back_vc p r l f (U v) w _) ?_)
  intro w1 h1
  have blk : Blk (w1.alloc (.cells ⟨[Value.bool p, Value.int .i64 r, Value.bool l, Value.int .i64 f]⟩ 23)) w1.heap.size [.bool p, .int .i64 r, .bool l, .int .i64 f] := Blk.new w1 _ _
  have ga := (ent_rd blk).2.2.2.2
  have hW := pkW_bd p r l f
  refine ⟨_, ga, trivial, U_B' hW.1 hW.2, fun w2 h2 w3 h3 => ?_⟩
  have E2 : Ext w w2 := (h1.allocd _).trans h2
  have k2 := blk.ext h2
  have l2 := k2.lt
  have b1 : Blk w3 w2.heap.size [Value.bool false, Value.int .i64 0, Value.bool false, Value.int .i64 0] := (Blk.new w2 _ _).ext h3
  have k3 : Blk (putP w3 (some ⟨w2.heap.size, 0, none⟩) [Value.bool (prP (B (pkW p r l f)).toNat), Value.int .i64 (prR (B (pkW p r l f)).toNat), Value.bool (prL (B (pkW p r l f)).toNat), Value.int .i64 (prF (B (pkW p r l f)).toNat)]) w1.heap.size [.bool p, .int .i64 r, .bool l, .int .i64 f] := ((k2.ext (Ext.alloc _ _)).ext h3).putNe (a := ⟨w2.heap.size, 0, none⟩) (by show w1.heap.size ≠ w2.heap.size; omega) _
  have E3 : Ext w (putP w3 (some ⟨w2.heap.size, 0, none⟩) [Value.bool (prP (B (pkW p r l f)).toNat), Value.int .i64 (prR (B (pkW p r l f)).toNat), Value.bool (prL (B (pkW p r l f)).toNat), Value.int .i64 (prF (B (pkW p r l f)).toNat)]) := ((E2.allocd _).trans h3).putP (a := ⟨w2.heap.size, 0, none⟩) E2.size _
  refine ⟨⟨rfl, b1.st (by simp)⟩, by rw [B_U], fun w4 h4 w5 h5 => ?_⟩
  have c1 := (putAll b1 [Value.bool (prP (B (pkW p r l f)).toNat), Value.int .i64 (prR (B (pkW p r l f)).toNat), Value.bool (prL (B (pkW p r l f)).toNat), Value.int .i64 (prF (B (pkW p r l f)).toNat)] rfl).ext h4
  have l4 := c1.lt
  have k4 := k3.ext h4
  have l5 := k4.lt
  have E4 := E3.trans h4
  have b2 : Blk w5 w4.heap.size [Value.bool false, Value.int .i64 0, Value.bool false, Value.int .i64 0] := (Blk.new w4 _ _).ext h5
  have c2 := putAll b2 [Value.bool (prP (B (U v)).toNat), Value.int .i64 (prR (B (U v)).toNat), Value.bool (prL (B (U v)).toNat), Value.int .i64 (prF (B (U v)).toNat)] rfl
  have E5 : Ext w (putP w5 (some ⟨w4.heap.size, 0, none⟩) [Value.bool (prP (B (U v)).toNat), Value.int .i64 (prR (B (U v)).toNat), Value.bool (prL (B (U v)).toNat), Value.int .i64 (prF (B (U v)).toNat)]) := ((E4.allocd _).trans h5).putP (a := ⟨w4.heap.size, 0, none⟩) E4.size _
  have k5 : Blk (putP w5 (some ⟨w4.heap.size, 0, none⟩) [Value.bool (prP (B (U v)).toNat), Value.int .i64 (prR (B (U v)).toNat), Value.bool (prL (B (U v)).toNat), Value.int .i64 (prF (B (U v)).toNat)]) w1.heap.size [.bool p, .int .i64 r, .bool l, .int .i64 f] := ((k4.ext (Ext.alloc _ _)).ext h5).putNe (a := ⟨w4.heap.size, 0, none⟩) (by show w1.heap.size ≠ w4.heap.size; omega) _
  have c3 : Blk (putP w5 (some ⟨w4.heap.size, 0, none⟩) [Value.bool (prP (B (U v)).toNat), Value.int .i64 (prR (B (U v)).toNat), Value.bool (prL (B (U v)).toNat), Value.int .i64 (prF (B (U v)).toNat)]) w2.heap.size [Value.bool (prP (B (pkW p r l f)).toNat), Value.int .i64 (prR (B (pkW p r l f)).toNat), Value.bool (prL (B (pkW p r l f)).toNat), Value.int .i64 (prF (B (pkW p r l f)).toNat)] := ((c1.ext (Ext.alloc _ _)).ext h5).putNe (a := ⟨w4.heap.size, 0, none⟩) (by show w2.heap.size ≠ w4.heap.size; omega) _
  have rY := (ent_rd c2).2.2.2.2
  refine ⟨⟨rfl, b2.st (by simp)⟩, _, rY, trivial, by decide +kernel, fun w6 h6 w7 h7 => ?_⟩
  have k6 := k5.ext h6
  have c6 := c3.ext h6
  have l6 := k6.lt
  have l7 := c6.lt
  have E6 := E5.trans h6
  have b3 : Blk w7 w6.heap.size [Value.bool false, Value.int .i64 0, Value.bool false, Value.int .i64 0] := (Blk.new w6 _ _).ext h7
  have c7 := putAll b3 [Value.bool (prP (B 0).toNat), Value.int .i64 (prR (B 0).toNat), Value.bool (prL (B 0).toNat), Value.int .i64 (prF (B 0).toNat)] rfl
  have E7 : Ext w (putP w7 (some ⟨w6.heap.size, 0, none⟩) [Value.bool (prP (B 0).toNat), Value.int .i64 (prR (B 0).toNat), Value.bool (prL (B 0).toNat), Value.int .i64 (prF (B 0).toNat)]) := ((E6.allocd _).trans h7).putP (a := ⟨w6.heap.size, 0, none⟩) E6.size _
  have k7 : Blk (putP w7 (some ⟨w6.heap.size, 0, none⟩) [Value.bool (prP (B 0).toNat), Value.int .i64 (prR (B 0).toNat), Value.bool (prL (B 0).toNat), Value.int .i64 (prF (B 0).toNat)]) w1.heap.size [.bool p, .int .i64 r, .bool l, .int .i64 f] := ((k6.ext (Ext.alloc _ _)).ext h7).putNe (a := ⟨w6.heap.size, 0, none⟩) (by show w1.heap.size ≠ w6.heap.size; omega) _
  have d7 : Blk (putP w7 (some ⟨w6.heap.size, 0, none⟩) [Value.bool (prP (B 0).toNat), Value.int .i64 (prR (B 0).toNat), Value.bool (prL (B 0).toNat), Value.int .i64 (prF (B 0).toNat)]) w2.heap.size [Value.bool (prP (B (pkW p r l f)).toNat), Value.int .i64 (prR (B (pkW p r l f)).toNat), Value.bool (prL (B (pkW p r l f)).toNat), Value.int .i64 (prF (B (pkW p r l f)).toNat)] := ((c6.ext (Ext.alloc _ _)).ext h7).putNe (a := ⟨w6.heap.size, 0, none⟩) (by show w2.heap.size ≠ w6.heap.size; omega) _
  have rE := (ent_rd k7).2.2.2.2
  have rX := (ent_rd d7).2.2.2.2
  have rZ := (ent_rd c7).2.2.2.2
  refine ⟨⟨rfl, b3.st (by simp)⟩, _, rE, trivial, _, fun _ => rX, _, fun _ => rE, _, fun _ => rZ, ?_⟩
  repeat (first | refine ⟨fun _ => trivial, ?_⟩ | refine ⟨_, fun _ => rZ, ?_⟩)
  intro w8 h8
  refine ⟨?_, E7.trans h8⟩
  have hp := back_plain p r l f v
  have z1 : okV (B 0).toNat = true := by decide +kernel
  have z2 : prP (B 0).toNat = false := by decide +kernel
  have z3 : prR (B 0).toNat = 0 := by decide +kernel
  have z4 : prL (B 0).toNat = false := by decide +kernel
  have z5 : prF (B 0).toNat = 0 := by decide +kernel
  have z6 : allowsE false 0 false 0 0 = false := by decide +kernel
  have z7 : tableE false 0 false 0 = false := by decide +kernel
  dsimp only
  simp only [B_U]
  change (_ && okV (B 0).toNat && (prP (B 0).toNat == false && (prR (B 0).toNat == 0 && (prL (B 0).toNat == false && (prF (B 0).toNat == 0 && true)))) && !allowsE (prP (B 0).toNat) (prR (B 0).toNat) (prL (B 0).toNat) (prF (B 0).toNat) 0 && !tableE (prP (B 0).toNat) (prR (B 0).toNat) (prL (B 0).toNat) (prF (B 0).toNat) && true) = true
  rw [z1, z2, z3, z4, z5, z6, z7, hp]
  rfl
end Go.Proofs.Ytmhkofjlkfmncaa
