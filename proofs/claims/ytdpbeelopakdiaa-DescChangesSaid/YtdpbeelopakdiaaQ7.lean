import Derived.Test.YtdpbeelopakdiaaQ6
import Derived.Test.YtdpbeelopakdiaaLift
namespace Go.Proofs.Ytdpbeelopakdiaa
set_option linter.unusedSimpArgs false
set_option linter.unusedVariables false
open Go.RX
noncomputable def eDKnown : Entry Try.prog where
  f := 17
  fn l := match l with
    | [] => some (True, .bool true)
    | _ => none
  ok args pre v h hp w := by
    split at h
    · cases h
      exact entry_of (dknown_ok w)
    · cases h
noncomputable def D4 : Cfg Try.prog := { D3 with tab := [eFits, eIs, eBit, eOne, eMask, eRGet, eGet, ePut, eCan, eRLeads, eWithin, eRight, eRRight, eDPack, eDRPack, eDParse, eDRParse, eNext, eRNext, eRef, eRRef, ePlain, eName, eRName, eDKnown] }
abbrev dS : List Sc := [.int .i64, .int .i64, .int .i64, .int .i64]
abbrev iS : List Sc := [.int .i64, .int .i64]
theorem dtells_vc (k o r e v : Int) (w : World) (Post : Bool → World → Prop) : (rxFn D4 (fun _ => []) 3 [.agg ⟨[.int .i64 k, .int .i64 o, .int .i64 r, .int .i64 e]⟩, .int .u64 v] w Post) = (
 AlP w { toList := [Value.int IntKind.i64 k, Value.int IntKind.i64 o, Value.int IntKind.i64 r, Value.int IntKind.i64 e] } 23 fun (b : Nat) (w2 : World) =>
  LdP w2 none (some { block := b, off := 0 }) (El.agg [Sc.int IntKind.i64, Sc.int IntKind.i64, Sc.int IntKind.i64, Sc.int IntKind.i64]) fun (x : Int × Int × Int × Int × Unit) =>
   True ∧
    LdP w2 none (some { block := b, off := 0 }) (El.agg [Sc.int IntKind.i64, Sc.int IntKind.i64, Sc.int IntKind.i64, Sc.int IntKind.i64]) fun (x_1 : Int × Int × Int × Int × Unit) =>
     True ∧
      True ∧
       U (B v) = v ∧
        AlP w2 { toList := [Value.int IntKind.i64 0, Value.int IntKind.i64 0, Value.int IntKind.i64 0, Value.int IntKind.i64 0] } 23 fun (b_1 : Nat) (w2 : World) =>
         StP w2 (some { block := b_1, off := 0 })
          [Value.int IntKind.i64 (parV (B v).toNat).fst, Value.int IntKind.i64 (parV (B v).toNat).snd.fst, Value.int IntKind.i64 (parV (B v).toNat).snd.snd.fst, Value.int IntKind.i64 (parV (B v).toNat).snd.snd.snd.fst] fun (w2 : World) =>
          U (B v) = v ∧
           AlP w2 { toList := [Value.int IntKind.i64 0, Value.int IntKind.i64 0, Value.int IntKind.i64 0, Value.int IntKind.i64 0] } 29 fun (b_2 : Nat) (w2 : World) =>
            StP w2 (some { block := b_2, off := 0 })
             [Value.int IntKind.i64 (parV (B v).toNat).fst, Value.int IntKind.i64 (parV (B v).toNat).snd.fst, Value.int IntKind.i64 (parV (B v).toNat).snd.snd.fst, Value.int IntKind.i64 (parV (B v).toNat).snd.snd.snd.fst] fun (w2 : World) =>
             LdP w2 none (some { block := b, off := 0 }) (El.agg [Sc.int IntKind.i64, Sc.int IntKind.i64, Sc.int IntKind.i64, Sc.int IntKind.i64]) fun (x_2 : Int × Int × Int × Int × Unit) =>
              True ∧
               LdP w2 none (some { block := b, off := 0 }) (El.agg [Sc.int IntKind.i64, Sc.int IntKind.i64, Sc.int IntKind.i64, Sc.int IntKind.i64]) fun (x_3 : Int × Int × Int × Int × Unit) =>
                True ∧
                 True ∧
                  LdP w2
                   (some
                    (rightD x_2.fst x_2.snd.fst x_2.snd.snd.fst x_2.snd.snd.snd.fst == rightD x_3.fst x_3.snd.fst x_3.snd.snd.fst x_3.snd.snd.snd.fst &&
                      packW x.fst x.snd.fst x.snd.snd.fst x.snd.snd.snd.fst == packW x_1.fst x_1.snd.fst x_1.snd.snd.fst x_1.snd.snd.snd.fst &&
                     packE x.fst x.snd.fst x.snd.snd.fst x.snd.snd.snd.fst == packE x_1.fst x_1.snd.fst x_1.snd.snd.fst x_1.snd.snd.snd.fst))
                   (some { block := b_1, off := 0 }) (El.agg [Sc.int IntKind.i64, Sc.int IntKind.i64, Sc.int IntKind.i64, Sc.int IntKind.i64]) fun (x_4 : Int × Int × Int × Int × Unit) =>
                   ((rightD x_2.fst x_2.snd.fst x_2.snd.snd.fst x_2.snd.snd.snd.fst == rightD x_3.fst x_3.snd.fst x_3.snd.snd.fst x_3.snd.snd.snd.fst &&
                        packW x.fst x.snd.fst x.snd.snd.fst x.snd.snd.snd.fst == packW x_1.fst x_1.snd.fst x_1.snd.snd.fst x_1.snd.snd.snd.fst &&
                       packE x.fst x.snd.fst x.snd.snd.fst x.snd.snd.snd.fst == packE x_1.fst x_1.snd.fst x_1.snd.snd.fst x_1.snd.snd.snd.fst) =
                      true →
                     True) ∧
                    LdP w2
                     (some
                      (rightD x_2.fst x_2.snd.fst x_2.snd.snd.fst x_2.snd.snd.snd.fst == rightD x_3.fst x_3.snd.fst x_3.snd.snd.fst x_3.snd.snd.snd.fst &&
                        packW x.fst x.snd.fst x.snd.snd.fst x.snd.snd.snd.fst == packW x_1.fst x_1.snd.fst x_1.snd.snd.fst x_1.snd.snd.snd.fst &&
                       packE x.fst x.snd.fst x.snd.snd.fst x.snd.snd.snd.fst == packE x_1.fst x_1.snd.fst x_1.snd.snd.fst x_1.snd.snd.snd.fst))
                     (some { block := b_2, off := 0 }) (El.agg [Sc.int IntKind.i64, Sc.int IntKind.i64, Sc.int IntKind.i64, Sc.int IntKind.i64]) fun (x_5 : Int × Int × Int × Int × Unit) =>
                     ((rightD x_2.fst x_2.snd.fst x_2.snd.snd.fst x_2.snd.snd.snd.fst == rightD x_3.fst x_3.snd.fst x_3.snd.snd.fst x_3.snd.snd.snd.fst &&
                            packW x.fst x.snd.fst x.snd.snd.fst x.snd.snd.snd.fst == packW x_1.fst x_1.snd.fst x_1.snd.snd.fst x_1.snd.snd.snd.fst &&
                           packE x.fst x.snd.fst x.snd.snd.fst x.snd.snd.snd.fst == packE x_1.fst x_1.snd.fst x_1.snd.snd.fst x_1.snd.snd.snd.fst &&
                          (x_4.fst == x_5.fst && (x_4.snd.fst == x_5.snd.fst && (x_4.snd.snd.fst == x_5.snd.snd.fst && (x_4.snd.snd.snd.fst == x_5.snd.snd.snd.fst && true)))) &&
                         parD (B v).toNat == parD (B v).toNat) =
                        true →
                       true = true) ∧
                      LdP w2
                       (some
                        (rightD x_2.fst x_2.snd.fst x_2.snd.snd.fst x_2.snd.snd.snd.fst == rightD x_3.fst x_3.snd.fst x_3.snd.snd.fst x_3.snd.snd.snd.fst &&
                            packW x.fst x.snd.fst x.snd.snd.fst x.snd.snd.snd.fst == packW x_1.fst x_1.snd.fst x_1.snd.snd.fst x_1.snd.snd.snd.fst &&
                           packE x.fst x.snd.fst x.snd.snd.fst x.snd.snd.snd.fst == packE x_1.fst x_1.snd.fst x_1.snd.snd.fst x_1.snd.snd.snd.fst &&
                          (x_4.fst == x_5.fst && (x_4.snd.fst == x_5.snd.fst && (x_4.snd.snd.fst == x_5.snd.snd.fst && (x_4.snd.snd.snd.fst == x_5.snd.snd.snd.fst && true)))) &&
                         parD (B v).toNat == parD (B v).toNat))
                       (addP (some { block := b, off := 0 }) 0) (El.one (Sc.int IntKind.i64)) fun (x_6 : Int) =>
                       ((rightD x_2.fst x_2.snd.fst x_2.snd.snd.fst x_2.snd.snd.snd.fst == rightD x_3.fst x_3.snd.fst x_3.snd.snd.fst x_3.snd.snd.snd.fst &&
                              packW x.fst x.snd.fst x.snd.snd.fst x.snd.snd.snd.fst == packW x_1.fst x_1.snd.fst x_1.snd.snd.fst x_1.snd.snd.snd.fst &&
                             packE x.fst x.snd.fst x.snd.snd.fst x.snd.snd.snd.fst == packE x_1.fst x_1.snd.fst x_1.snd.snd.fst x_1.snd.snd.snd.fst &&
                            (x_4.fst == x_5.fst && (x_4.snd.fst == x_5.snd.fst && (x_4.snd.snd.fst == x_5.snd.snd.fst && (x_4.snd.snd.snd.fst == x_5.snd.snd.snd.fst && true)))) &&
                           parD (B v).toNat == parD (B v).toNat) =
                          true →
                         True) ∧
                        ((rightD x_2.fst x_2.snd.fst x_2.snd.snd.fst x_2.snd.snd.snd.fst == rightD x_3.fst x_3.snd.fst x_3.snd.snd.fst x_3.snd.snd.snd.fst &&
                               packW x.fst x.snd.fst x.snd.snd.fst x.snd.snd.snd.fst == packW x_1.fst x_1.snd.fst x_1.snd.snd.fst x_1.snd.snd.snd.fst &&
                              packE x.fst x.snd.fst x.snd.snd.fst x.snd.snd.snd.fst == packE x_1.fst x_1.snd.fst x_1.snd.snd.fst x_1.snd.snd.snd.fst &&
                             (x_4.fst == x_5.fst && (x_4.snd.fst == x_5.snd.fst && (x_4.snd.snd.fst == x_5.snd.snd.fst && (x_4.snd.snd.snd.fst == x_5.snd.snd.snd.fst && true)))) &&
                            parD (B v).toNat == parD (B v).toNat) =
                           true →
                          true = true) ∧
                         LdP w2
                          (some
                           (rightD x_2.fst x_2.snd.fst x_2.snd.snd.fst x_2.snd.snd.snd.fst == rightD x_3.fst x_3.snd.fst x_3.snd.snd.fst x_3.snd.snd.snd.fst &&
                               packW x.fst x.snd.fst x.snd.snd.fst x.snd.snd.snd.fst == packW x_1.fst x_1.snd.fst x_1.snd.snd.fst x_1.snd.snd.snd.fst &&
                              packE x.fst x.snd.fst x.snd.snd.fst x.snd.snd.snd.fst == packE x_1.fst x_1.snd.fst x_1.snd.snd.fst x_1.snd.snd.snd.fst &&
                             (x_4.fst == x_5.fst && (x_4.snd.fst == x_5.snd.fst && (x_4.snd.snd.fst == x_5.snd.snd.fst && (x_4.snd.snd.snd.fst == x_5.snd.snd.snd.fst && true)))) &&
                            parD (B v).toNat == parD (B v).toNat))
                          (addP (some { block := b, off := 0 }) 0) (El.one (Sc.int IntKind.i64)) fun (x_7 : Int) =>
                          ((rightD x_2.fst x_2.snd.fst x_2.snd.snd.fst x_2.snd.snd.snd.fst == rightD x_3.fst x_3.snd.fst x_3.snd.snd.fst x_3.snd.snd.snd.fst &&
                                 packW x.fst x.snd.fst x.snd.snd.fst x.snd.snd.snd.fst == packW x_1.fst x_1.snd.fst x_1.snd.snd.fst x_1.snd.snd.snd.fst &&
                                packE x.fst x.snd.fst x.snd.snd.fst x.snd.snd.snd.fst == packE x_1.fst x_1.snd.fst x_1.snd.snd.fst x_1.snd.snd.snd.fst &&
                               (x_4.fst == x_5.fst && (x_4.snd.fst == x_5.snd.fst && (x_4.snd.snd.fst == x_5.snd.snd.fst && (x_4.snd.snd.snd.fst == x_5.snd.snd.snd.fst && true)))) &&
                              parD (B v).toNat == parD (B v).toNat) =
                             true →
                            True) ∧
                           ((rightD x_2.fst x_2.snd.fst x_2.snd.snd.fst x_2.snd.snd.snd.fst == rightD x_3.fst x_3.snd.fst x_3.snd.snd.fst x_3.snd.snd.snd.fst &&
                                   packW x.fst x.snd.fst x.snd.snd.fst x.snd.snd.snd.fst == packW x_1.fst x_1.snd.fst x_1.snd.snd.fst x_1.snd.snd.snd.fst &&
                                  packE x.fst x.snd.fst x.snd.snd.fst x.snd.snd.snd.fst == packE x_1.fst x_1.snd.fst x_1.snd.snd.fst x_1.snd.snd.snd.fst &&
                                 (x_4.fst == x_5.fst && (x_4.snd.fst == x_5.snd.fst && (x_4.snd.snd.fst == x_5.snd.snd.fst && (x_4.snd.snd.snd.fst == x_5.snd.snd.snd.fst && true)))) &&
                                parD (B v).toNat == parD (B v).toNat &&
                               nameS x_6 == nameS x_7) =
                              true →
                             True) ∧
                            EnP w2 fun (w1 : World) =>
                             Post
                              (rightD x_2.fst x_2.snd.fst x_2.snd.snd.fst x_2.snd.snd.snd.fst == rightD x_3.fst x_3.snd.fst x_3.snd.snd.fst x_3.snd.snd.snd.fst &&
                                    packW x.fst x.snd.fst x.snd.snd.fst x.snd.snd.snd.fst == packW x_1.fst x_1.snd.fst x_1.snd.snd.fst x_1.snd.snd.snd.fst &&
                                   packE x.fst x.snd.fst x.snd.snd.fst x.snd.snd.snd.fst == packE x_1.fst x_1.snd.fst x_1.snd.snd.fst x_1.snd.snd.snd.fst &&
                                  (x_4.fst == x_5.fst && (x_4.snd.fst == x_5.snd.fst && (x_4.snd.snd.fst == x_5.snd.snd.fst && (x_4.snd.snd.snd.fst == x_5.snd.snd.snd.fst && true)))) &&
                                 parD (B v).toNat == parD (B v).toNat &&
                                nameS x_6 == nameS x_7 &&
                               true)
                              w1) := by kernel_rfl
theorem dchanges_vc (k o r e x y z : Int) (w : World) (Post : Bool → World → Prop) : (rxFn D4 (fun _ => []) 4 [.agg ⟨[.int .i64 k, .int .i64 o, .int .i64 r, .int .i64 e]⟩, .agg ⟨[.int .i64 x, .int .i64 y]⟩, .int .i64 z] w Post) = (
 AlP w { toList := [Value.int IntKind.i64 k, Value.int IntKind.i64 o, Value.int IntKind.i64 r, Value.int IntKind.i64 e] } 23 fun (b : Nat) (w2 : World) =>
  AlP w2 { toList := [Value.int IntKind.i64 x, Value.int IntKind.i64 y] } 40 fun (b_1 : Nat) (w2 : World) =>
   LdP w2 none (some { block := b, off := 0 }) (El.agg [Sc.int IntKind.i64, Sc.int IntKind.i64, Sc.int IntKind.i64, Sc.int IntKind.i64]) fun (x : Int × Int × Int × Int × Unit) =>
    (true = true ∧ (0 : Int) ≤ 0 ∧ 0 < (↑2 : Int)) ∧
     LdP w2 none (addP (some { block := b_1, off := 0 }) 0) (El.one (Sc.int IntKind.i64)) fun (x_1 : Int) =>
      (true = true ∧ (0 : Int) ≤ 1 ∧ 1 < (↑2 : Int)) ∧
       LdP w2 none (addP (some { block := b_1, off := 0 }) 1) (El.one (Sc.int IntKind.i64)) fun (x_2 : Int) =>
        True ∧
         AlP w2 { toList := [Value.int IntKind.i64 0, Value.int IntKind.i64 0, Value.int IntKind.i64 0, Value.int IntKind.i64 0] } 23 fun (b_2 : Nat) (w2 : World) =>
          StP w2 (some { block := b_2, off := 0 })
           [Value.int IntKind.i64 (nextK x.fst x.snd.fst x.snd.snd.fst x.snd.snd.snd.fst x_1 x_2), Value.int IntKind.i64 (nextO x.fst x.snd.fst x.snd.snd.fst x.snd.snd.snd.fst x_1 x_2), Value.int IntKind.i64 0, Value.int IntKind.i64 0]
           fun (w2 : World) =>
           LdP w2 none (some { block := b, off := 0 }) (El.agg [Sc.int IntKind.i64, Sc.int IntKind.i64, Sc.int IntKind.i64, Sc.int IntKind.i64]) fun (x_3 : Int × Int × Int × Int × Unit) =>
            True ∧
             (true = true ∧ (0 : Int) ≤ 0 ∧ 0 < (↑2 : Int)) ∧
              LdP w2 none (addP (some { block := b_1, off := 0 }) 0) (El.one (Sc.int IntKind.i64)) fun (x_4 : Int) =>
               (true = true ∧ (0 : Int) ≤ 1 ∧ 1 < (↑2 : Int)) ∧
                LdP w2 none (addP (some { block := b_1, off := 0 }) 1) (El.one (Sc.int IntKind.i64)) fun (x_5 : Int) =>
                 True ∧
                  AlP w2 { toList := [Value.int IntKind.i64 0, Value.int IntKind.i64 0, Value.int IntKind.i64 0, Value.int IntKind.i64 0] } 29 fun (b_3 : Nat) (w2 : World) =>
                   StP w2 (some { block := b_3, off := 0 })
                    [Value.int IntKind.i64 (nextK x_3.fst x_3.snd.fst x_3.snd.snd.fst x_3.snd.snd.snd.fst x_4 x_5), Value.int IntKind.i64 (nextO x_3.fst x_3.snd.fst x_3.snd.snd.fst x_3.snd.snd.snd.fst x_4 x_5), Value.int IntKind.i64 0,
                     Value.int IntKind.i64 0]
                    fun (w2 : World) =>
                    LdP w2 none (some { block := b, off := 0 }) (El.agg [Sc.int IntKind.i64, Sc.int IntKind.i64, Sc.int IntKind.i64, Sc.int IntKind.i64]) fun (x_6 : Int × Int × Int × Int × Unit) =>
                     (-9223372036854775808 ≤ z ∧ z < 9223372036854775808) ∧
                      AlP w2 { toList := [Value.int IntKind.i64 0, Value.int IntKind.i64 0, Value.int IntKind.i64 0, Value.int IntKind.i64 0] } 23 fun (b_4 : Nat) (w2 : World) =>
                       StP w2 (some { block := b_4, off := 0 })
                        [Value.int IntKind.i64 (refV x_6.fst x_6.snd.fst x_6.snd.snd.fst x_6.snd.snd.snd.fst z).fst, Value.int IntKind.i64 (refV x_6.fst x_6.snd.fst x_6.snd.snd.fst x_6.snd.snd.snd.fst z).snd.fst,
                         Value.int IntKind.i64 (refV x_6.fst x_6.snd.fst x_6.snd.snd.fst x_6.snd.snd.snd.fst z).snd.snd.fst, Value.int IntKind.i64 (refV x_6.fst x_6.snd.fst x_6.snd.snd.fst x_6.snd.snd.snd.fst z).snd.snd.snd.fst]
                        fun (w2 : World) =>
                        LdP w2 none (some { block := b, off := 0 }) (El.agg [Sc.int IntKind.i64, Sc.int IntKind.i64, Sc.int IntKind.i64, Sc.int IntKind.i64]) fun (x_7 : Int × Int × Int × Int × Unit) =>
                         True ∧
                          (-9223372036854775808 ≤ z ∧ z < 9223372036854775808) ∧
                           AlP w2 { toList := [Value.int IntKind.i64 0, Value.int IntKind.i64 0, Value.int IntKind.i64 0, Value.int IntKind.i64 0] } 29 fun (b : Nat) (w2 : World) =>
                            StP w2 (some { block := b, off := 0 })
                             [Value.int IntKind.i64 (refV x_7.fst x_7.snd.fst x_7.snd.snd.fst x_7.snd.snd.snd.fst z).fst, Value.int IntKind.i64 (refV x_7.fst x_7.snd.fst x_7.snd.snd.fst x_7.snd.snd.snd.fst z).snd.fst,
                              Value.int IntKind.i64 (refV x_7.fst x_7.snd.fst x_7.snd.snd.fst x_7.snd.snd.snd.fst z).snd.snd.fst, Value.int IntKind.i64 (refV x_7.fst x_7.snd.fst x_7.snd.snd.fst x_7.snd.snd.snd.fst z).snd.snd.snd.fst]
                             fun (w2 : World) =>
                             LdP w2 none (some { block := b_2, off := 0 }) (El.agg [Sc.int IntKind.i64, Sc.int IntKind.i64, Sc.int IntKind.i64, Sc.int IntKind.i64]) fun (x_8 : Int × Int × Int × Int × Unit) =>
                              True ∧
                               LdP w2 none (some { block := b_3, off := 0 }) (El.agg [Sc.int IntKind.i64, Sc.int IntKind.i64, Sc.int IntKind.i64, Sc.int IntKind.i64]) fun (x_9 : Int × Int × Int × Int × Unit) =>
                                LdP w2
                                 (some
                                  (x_8.fst == x_9.fst && (x_8.snd.fst == x_9.snd.fst && (x_8.snd.snd.fst == x_9.snd.snd.fst && (x_8.snd.snd.snd.fst == x_9.snd.snd.snd.fst && true))) &&
                                   nextE x.fst x.snd.fst x.snd.snd.fst x.snd.snd.snd.fst x_1 x_2 == nextE x_3.fst x_3.snd.fst x_3.snd.snd.fst x_3.snd.snd.snd.fst x_4 x_5))
                                 (some { block := b_4, off := 0 }) (El.agg [Sc.int IntKind.i64, Sc.int IntKind.i64, Sc.int IntKind.i64, Sc.int IntKind.i64]) fun (x_10 : Int × Int × Int × Int × Unit) =>
                                 ((x_8.fst == x_9.fst && (x_8.snd.fst == x_9.snd.fst && (x_8.snd.snd.fst == x_9.snd.snd.fst && (x_8.snd.snd.snd.fst == x_9.snd.snd.snd.fst && true))) &&
                                     nextE x.fst x.snd.fst x.snd.snd.fst x.snd.snd.snd.fst x_1 x_2 == nextE x_3.fst x_3.snd.fst x_3.snd.snd.fst x_3.snd.snd.snd.fst x_4 x_5) =
                                    true →
                                   True) ∧
                                  LdP w2
                                   (some
                                    (x_8.fst == x_9.fst && (x_8.snd.fst == x_9.snd.fst && (x_8.snd.snd.fst == x_9.snd.snd.fst && (x_8.snd.snd.snd.fst == x_9.snd.snd.snd.fst && true))) &&
                                     nextE x.fst x.snd.fst x.snd.snd.fst x.snd.snd.snd.fst x_1 x_2 == nextE x_3.fst x_3.snd.fst x_3.snd.snd.fst x_3.snd.snd.snd.fst x_4 x_5))
                                   (some { block := b, off := 0 }) (El.agg [Sc.int IntKind.i64, Sc.int IntKind.i64, Sc.int IntKind.i64, Sc.int IntKind.i64]) fun (x_11 : Int × Int × Int × Int × Unit) =>
                                   ((x_8.fst == x_9.fst && (x_8.snd.fst == x_9.snd.fst && (x_8.snd.snd.fst == x_9.snd.snd.fst && (x_8.snd.snd.snd.fst == x_9.snd.snd.snd.fst && true))) &&
                                         nextE x.fst x.snd.fst x.snd.snd.fst x.snd.snd.snd.fst x_1 x_2 == nextE x_3.fst x_3.snd.fst x_3.snd.snd.fst x_3.snd.snd.snd.fst x_4 x_5 &&
                                        (x_10.fst == x_11.fst && (x_10.snd.fst == x_11.snd.fst && (x_10.snd.snd.fst == x_11.snd.snd.fst && (x_10.snd.snd.snd.fst == x_11.snd.snd.snd.fst && true)))) &&
                                       refE x_6.fst x_6.snd.fst x_6.snd.snd.fst x_6.snd.snd.snd.fst z == refE x_7.fst x_7.snd.fst x_7.snd.snd.fst x_7.snd.snd.snd.fst z) =
                                      true →
                                     True) ∧
                                    EnP w2 fun (w1 : World) =>
                                     Post
                                      (x_8.fst == x_9.fst && (x_8.snd.fst == x_9.snd.fst && (x_8.snd.snd.fst == x_9.snd.snd.fst && (x_8.snd.snd.snd.fst == x_9.snd.snd.snd.fst && true))) &&
                                          nextE x.fst x.snd.fst x.snd.snd.fst x.snd.snd.snd.fst x_1 x_2 == nextE x_3.fst x_3.snd.fst x_3.snd.snd.fst x_3.snd.snd.snd.fst x_4 x_5 &&
                                         (x_10.fst == x_11.fst && (x_10.snd.fst == x_11.snd.fst && (x_10.snd.snd.fst == x_11.snd.snd.fst && (x_10.snd.snd.snd.fst == x_11.snd.snd.snd.fst && true)))) &&
                                        refE x_6.fst x_6.snd.fst x_6.snd.snd.fst x_6.snd.snd.snd.fst z == refE x_7.fst x_7.snd.fst x_7.snd.snd.fst x_7.snd.snd.snd.fst z &&
                                       true)
                                      w1) := by kernel_rfl
theorem dback_vc (k o r e v : Int) (w : World) (Post : Bool → World → Prop) : (rxFn D4 (fun _ => []) 5 [.agg ⟨[.int .i64 k, .int .i64 o, .int .i64 r, .int .i64 e]⟩, .int .u64 v] w Post) = (
 AlP w { toList := [Value.int IntKind.i64 k, Value.int IntKind.i64 o, Value.int IntKind.i64 r, Value.int IntKind.i64 e] } 23 fun (b : Nat) (w2 : World) =>
  LdP w2 none (some { block := b, off := 0 }) (El.agg [Sc.int IntKind.i64, Sc.int IntKind.i64, Sc.int IntKind.i64, Sc.int IntKind.i64]) fun (x : Int × Int × Int × Int × Unit) =>
   True ∧
    U (B (packW x.fst x.snd.fst x.snd.snd.fst x.snd.snd.snd.fst)) = packW x.fst x.snd.fst x.snd.snd.fst x.snd.snd.snd.fst ∧
     AlP w2 { toList := [Value.int IntKind.i64 0, Value.int IntKind.i64 0, Value.int IntKind.i64 0, Value.int IntKind.i64 0] } 23 fun (b_1 : Nat) (w2 : World) =>
      StP w2 (some { block := b_1, off := 0 })
       [Value.int IntKind.i64 (parV (B (packW x.fst x.snd.fst x.snd.snd.fst x.snd.snd.snd.fst)).toNat).fst, Value.int IntKind.i64 (parV (B (packW x.fst x.snd.fst x.snd.snd.fst x.snd.snd.snd.fst)).toNat).snd.fst,
        Value.int IntKind.i64 (parV (B (packW x.fst x.snd.fst x.snd.snd.fst x.snd.snd.snd.fst)).toNat).snd.snd.fst, Value.int IntKind.i64 (parV (B (packW x.fst x.snd.fst x.snd.snd.fst x.snd.snd.snd.fst)).toNat).snd.snd.snd.fst]
       fun (w2 : World) =>
       U (B v) = v ∧
        AlP w2 { toList := [Value.int IntKind.i64 0, Value.int IntKind.i64 0, Value.int IntKind.i64 0, Value.int IntKind.i64 0] } 23 fun (b_2 : Nat) (w2 : World) =>
         StP w2 (some { block := b_2, off := 0 })
          [Value.int IntKind.i64 (parV (B v).toNat).fst, Value.int IntKind.i64 (parV (B v).toNat).snd.fst, Value.int IntKind.i64 (parV (B v).toNat).snd.snd.fst, Value.int IntKind.i64 (parV (B v).toNat).snd.snd.snd.fst] fun (w2 : World) =>
          LdP w2 none (some { block := b_2, off := 0 }) (El.agg [Sc.int IntKind.i64, Sc.int IntKind.i64, Sc.int IntKind.i64, Sc.int IntKind.i64]) fun (x_1 : Int × Int × Int × Int × Unit) =>
           True ∧
            LdP w2 none (some { block := b, off := 0 }) (El.agg [Sc.int IntKind.i64, Sc.int IntKind.i64, Sc.int IntKind.i64, Sc.int IntKind.i64]) fun (x_2 : Int × Int × Int × Int × Unit) =>
             True ∧
              LdP w2
               (some
                ((packE x.fst x.snd.fst x.snd.snd.fst x.snd.snd.snd.fst == 0) == rightD x_2.fst x_2.snd.fst x_2.snd.snd.fst x_2.snd.snd.snd.fst && !packE x.fst x.snd.fst x.snd.snd.fst x.snd.snd.snd.fst != 0 &&
                 parD (B (packW x.fst x.snd.fst x.snd.snd.fst x.snd.snd.snd.fst)).toNat))
               (some { block := b_1, off := 0 }) (El.agg [Sc.int IntKind.i64, Sc.int IntKind.i64, Sc.int IntKind.i64, Sc.int IntKind.i64]) fun (x_3 : Int × Int × Int × Int × Unit) =>
               LdP w2
                (some
                 ((packE x.fst x.snd.fst x.snd.snd.fst x.snd.snd.snd.fst == 0) == rightD x_2.fst x_2.snd.fst x_2.snd.snd.fst x_2.snd.snd.snd.fst && !packE x.fst x.snd.fst x.snd.snd.fst x.snd.snd.snd.fst != 0 &&
                  parD (B (packW x.fst x.snd.fst x.snd.snd.fst x.snd.snd.snd.fst)).toNat))
                (some { block := b, off := 0 }) (El.agg [Sc.int IntKind.i64, Sc.int IntKind.i64, Sc.int IntKind.i64, Sc.int IntKind.i64]) fun (x_4 : Int × Int × Int × Int × Unit) =>
                LdP w2
                 (some
                  ((packE x.fst x.snd.fst x.snd.snd.fst x.snd.snd.snd.fst == 0) == rightD x_2.fst x_2.snd.fst x_2.snd.snd.fst x_2.snd.snd.snd.fst &&
                     (packE x.fst x.snd.fst x.snd.snd.fst x.snd.snd.snd.fst != 0 ||
                      parD (B (packW x.fst x.snd.fst x.snd.snd.fst x.snd.snd.snd.fst)).toNat && (x_3.fst == x_4.fst && (x_3.snd.fst == x_4.snd.fst && (x_3.snd.snd.fst == x_4.snd.snd.fst && (x_3.snd.snd.snd.fst == x_4.snd.snd.snd.fst && true))))) &&
                    !!parD (B v).toNat &&
                   packW x_1.fst x_1.snd.fst x_1.snd.snd.fst x_1.snd.snd.snd.fst == v))
                 (some { block := b_2, off := 0 }) (El.agg [Sc.int IntKind.i64, Sc.int IntKind.i64, Sc.int IntKind.i64, Sc.int IntKind.i64]) fun (x_5 : Int × Int × Int × Int × Unit) =>
                 (((packE x.fst x.snd.fst x.snd.snd.fst x.snd.snd.snd.fst == 0) == rightD x_2.fst x_2.snd.fst x_2.snd.snd.fst x_2.snd.snd.snd.fst &&
                       (packE x.fst x.snd.fst x.snd.snd.fst x.snd.snd.snd.fst != 0 ||
                        parD (B (packW x.fst x.snd.fst x.snd.snd.fst x.snd.snd.snd.fst)).toNat && (x_3.fst == x_4.fst && (x_3.snd.fst == x_4.snd.fst && (x_3.snd.snd.fst == x_4.snd.snd.fst && (x_3.snd.snd.snd.fst == x_4.snd.snd.snd.fst && true))))) &&
                      !!parD (B v).toNat &&
                     packW x_1.fst x_1.snd.fst x_1.snd.snd.fst x_1.snd.snd.snd.fst == v) =
                    true →
                   True) ∧
                  (((packE x.fst x.snd.fst x.snd.snd.fst x.snd.snd.snd.fst == 0) == rightD x_2.fst x_2.snd.fst x_2.snd.snd.fst x_2.snd.snd.snd.fst &&
                       (packE x.fst x.snd.fst x.snd.snd.fst x.snd.snd.snd.fst != 0 ||
                        parD (B (packW x.fst x.snd.fst x.snd.snd.fst x.snd.snd.snd.fst)).toNat && (x_3.fst == x_4.fst && (x_3.snd.fst == x_4.snd.fst && (x_3.snd.snd.fst == x_4.snd.snd.fst && (x_3.snd.snd.snd.fst == x_4.snd.snd.snd.fst && true))))) &&
                      (!parD (B v).toNat || packW x_1.fst x_1.snd.fst x_1.snd.snd.fst x_1.snd.snd.snd.fst == v && rightD x_5.fst x_5.snd.fst x_5.snd.snd.fst x_5.snd.snd.snd.fst)) =
                     true →
                    True) ∧
                   EnP w2 fun (w1 : World) =>
                    Post
                     ((packE x.fst x.snd.fst x.snd.snd.fst x.snd.snd.snd.fst == 0) == rightD x_2.fst x_2.snd.fst x_2.snd.snd.fst x_2.snd.snd.snd.fst &&
                        (packE x.fst x.snd.fst x.snd.snd.fst x.snd.snd.snd.fst != 0 ||
                         parD (B (packW x.fst x.snd.fst x.snd.snd.fst x.snd.snd.snd.fst)).toNat && (x_3.fst == x_4.fst && (x_3.snd.fst == x_4.snd.fst && (x_3.snd.snd.fst == x_4.snd.snd.fst && (x_3.snd.snd.snd.fst == x_4.snd.snd.snd.fst && true))))) &&
                       (!parD (B v).toNat || packW x_1.fst x_1.snd.fst x_1.snd.snd.fst x_1.snd.snd.snd.fst == v && rightD x_5.fst x_5.snd.fst x_5.snd.snd.fst x_5.snd.snd.snd.fst) &&
                      true)
                     w1) := by kernel_rfl
theorem dkeeps_vc (k o r e x y z : Int) (w : World) (Post : Bool → World → Prop) : (rxFn D4 (fun _ => []) 6 [.agg ⟨[.int .i64 k, .int .i64 o, .int .i64 r, .int .i64 e]⟩, .agg ⟨[.int .i64 x, .int .i64 y]⟩, .int .u16 z] w Post) = (
 AlP w { toList := [Value.int IntKind.i64 k, Value.int IntKind.i64 o, Value.int IntKind.i64 r, Value.int IntKind.i64 e] } 23 fun (b : Nat) (w2 : World) =>
  AlP w2 { toList := [Value.int IntKind.i64 x, Value.int IntKind.i64 y] } 40 fun (b_1 : Nat) (w2 : World) =>
   LdP w2 none (some { block := b, off := 0 }) (El.agg [Sc.int IntKind.i64, Sc.int IntKind.i64, Sc.int IntKind.i64, Sc.int IntKind.i64]) fun (x : Int × Int × Int × Int × Unit) =>
    (true = true ∧ (0 : Int) ≤ 0 ∧ 0 < (↑2 : Int)) ∧
     LdP w2 none (addP (some { block := b_1, off := 0 }) 0) (El.one (Sc.int IntKind.i64)) fun (x_1 : Int) =>
      (true = true ∧ (0 : Int) ≤ 1 ∧ 1 < (↑2 : Int)) ∧
       LdP w2 none (addP (some { block := b_1, off := 0 }) 1) (El.one (Sc.int IntKind.i64)) fun (x_2 : Int) =>
        True ∧
         AlP w2 { toList := [Value.int IntKind.i64 0, Value.int IntKind.i64 0, Value.int IntKind.i64 0, Value.int IntKind.i64 0] } 23 fun (b_2 : Nat) (w2 : World) =>
          StP w2 (some { block := b_2, off := 0 })
           [Value.int IntKind.i64 (nextK x.fst x.snd.fst x.snd.snd.fst x.snd.snd.snd.fst x_1 x_2), Value.int IntKind.i64 (nextO x.fst x.snd.fst x.snd.snd.fst x.snd.snd.snd.fst x_1 x_2), Value.int IntKind.i64 0, Value.int IntKind.i64 0]
           fun (w2 : World) =>
           LdP w2 (some (nextE x.fst x.snd.fst x.snd.snd.fst x.snd.snd.snd.fst x_1 x_2 == 0)) (some { block := b_2, off := 0 }) (El.agg [Sc.int IntKind.i64, Sc.int IntKind.i64, Sc.int IntKind.i64, Sc.int IntKind.i64])
            fun (x_3 : Int × Int × Int × Int × Unit) =>
            ((nextE x.fst x.snd.fst x.snd.snd.fst x.snd.snd.snd.fst x_1 x_2 == 0) = true → True) ∧
             ((nextE x.fst x.snd.fst x.snd.snd.fst x.snd.snd.snd.fst x_1 x_2 == 0 && !!rightD x_3.fst x_3.snd.fst x_3.snd.snd.fst x_3.snd.snd.snd.fst) = true → true = true) ∧
              LdP w2 (some (nextE x.fst x.snd.fst x.snd.snd.fst x.snd.snd.snd.fst x_1 x_2 == 0 && !!rightD x_3.fst x_3.snd.fst x_3.snd.snd.fst x_3.snd.snd.snd.fst)) (addP (some { block := b, off := 0 }) 2) (El.one (Sc.int IntKind.i64))
               fun (x_4 : Int) =>
               ((nextE x.fst x.snd.fst x.snd.snd.fst x.snd.snd.snd.fst x_1 x_2 == 0 && !(!rightD x_3.fst x_3.snd.fst x_3.snd.snd.fst x_3.snd.snd.snd.fst || decide (x_4 > 0))) = true → true = true) ∧
                LdP w2 (some (nextE x.fst x.snd.fst x.snd.snd.fst x.snd.snd.snd.fst x_1 x_2 == 0 && !(!rightD x_3.fst x_3.snd.fst x_3.snd.snd.fst x_3.snd.snd.snd.fst || decide (x_4 > 0)))) (addP (some { block := b_2, off := 0 }) 2)
                 (El.one (Sc.int IntKind.i64)) fun (x_5 : Int) =>
                 ((nextE x.fst x.snd.fst x.snd.snd.fst x.snd.snd.snd.fst x_1 x_2 == 0 && !(!rightD x_3.fst x_3.snd.fst x_3.snd.snd.fst x_3.snd.snd.snd.fst || decide (x_4 > 0) || decide (x_5 > 0))) = true → true = true) ∧
                  LdP w2 (some (nextE x.fst x.snd.fst x.snd.snd.fst x.snd.snd.snd.fst x_1 x_2 == 0 && !(!rightD x_3.fst x_3.snd.fst x_3.snd.snd.fst x_3.snd.snd.snd.fst || decide (x_4 > 0) || decide (x_5 > 0))))
                   (addP (some { block := b_2, off := 0 }) 0) (El.one (Sc.int IntKind.i64)) fun (x_6 : Int) =>
                   ((nextE x.fst x.snd.fst x.snd.snd.fst x.snd.snd.snd.fst x_1 x_2 == 0 && !(!rightD x_3.fst x_3.snd.fst x_3.snd.snd.fst x_3.snd.snd.snd.fst || decide (x_4 > 0) || decide (x_5 > 0))) = true → true = true ∧ (0 : Int) ≤ 0 ∧ 0 < (↑2 : Int)) ∧
                    LdP w2 (some (nextE x.fst x.snd.fst x.snd.snd.fst x.snd.snd.snd.fst x_1 x_2 == 0 && !(!rightD x_3.fst x_3.snd.fst x_3.snd.snd.fst x_3.snd.snd.snd.fst || decide (x_4 > 0) || decide (x_5 > 0))))
                     (addP (some { block := b_1, off := 0 }) 0) (El.one (Sc.int IntKind.i64)) fun (x_7 : Int) =>
                     brP (nextE x.fst x.snd.fst x.snd.snd.fst x.snd.snd.snd.fst x_1 x_2 == 0 && (!rightD x_3.fst x_3.snd.fst x_3.snd.snd.fst x_3.snd.snd.snd.fst || decide (x_4 > 0) || decide (x_5 > 0) || x_6 != x_7))
                      (EnP w2 fun (w1 : World) => Post false w1)
                      (LdP w2 none (some { block := b, off := 0 }) (El.agg [Sc.int IntKind.i64, Sc.int IntKind.i64, Sc.int IntKind.i64, Sc.int IntKind.i64]) fun (x_8 : Int × Int × Int × Int × Unit) =>
                       (-9223372036854775808 ≤ convI IntKind.i64 z ∧ convI IntKind.i64 z < 9223372036854775808) ∧
                        AlP w2 { toList := [Value.int IntKind.i64 0, Value.int IntKind.i64 0, Value.int IntKind.i64 0, Value.int IntKind.i64 0] } 23 fun (b_3 : Nat) (w2 : World) =>
                         StP w2 (some { block := b_3, off := 0 })
                          [Value.int IntKind.i64 (refV x_8.fst x_8.snd.fst x_8.snd.snd.fst x_8.snd.snd.snd.fst (convI IntKind.i64 z)).fst,
                           Value.int IntKind.i64 (refV x_8.fst x_8.snd.fst x_8.snd.snd.fst x_8.snd.snd.snd.fst (convI IntKind.i64 z)).snd.fst,
                           Value.int IntKind.i64 (refV x_8.fst x_8.snd.fst x_8.snd.snd.fst x_8.snd.snd.snd.fst (convI IntKind.i64 z)).snd.snd.fst,
                           Value.int IntKind.i64 (refV x_8.fst x_8.snd.fst x_8.snd.snd.fst x_8.snd.snd.snd.fst (convI IntKind.i64 z)).snd.snd.snd.fst]
                          fun (w2 : World) =>
                          LdP w2 none (some { block := b_3, off := 0 }) (El.agg [Sc.int IntKind.i64, Sc.int IntKind.i64, Sc.int IntKind.i64, Sc.int IntKind.i64]) fun (x_9 : Int × Int × Int × Int × Unit) =>
                           (-9223372036854775808 ≤ subI IntKind.i64 0 (convI IntKind.i64 z) ∧ subI IntKind.i64 0 (convI IntKind.i64 z) < 9223372036854775808) ∧
                            AlP w2 { toList := [Value.int IntKind.i64 0, Value.int IntKind.i64 0, Value.int IntKind.i64 0, Value.int IntKind.i64 0] } 23 fun (b_4 : Nat) (w2 : World) =>
                             StP w2 (some { block := b_4, off := 0 })
                              [Value.int IntKind.i64 (refV x_9.fst x_9.snd.fst x_9.snd.snd.fst x_9.snd.snd.snd.fst (subI IntKind.i64 0 (convI IntKind.i64 z))).fst,
                               Value.int IntKind.i64 (refV x_9.fst x_9.snd.fst x_9.snd.snd.fst x_9.snd.snd.snd.fst (subI IntKind.i64 0 (convI IntKind.i64 z))).snd.fst,
                               Value.int IntKind.i64 (refV x_9.fst x_9.snd.fst x_9.snd.snd.fst x_9.snd.snd.snd.fst (subI IntKind.i64 0 (convI IntKind.i64 z))).snd.snd.fst,
                               Value.int IntKind.i64 (refV x_9.fst x_9.snd.fst x_9.snd.snd.fst x_9.snd.snd.snd.fst (subI IntKind.i64 0 (convI IntKind.i64 z))).snd.snd.snd.fst]
                              fun (w2 : World) =>
                              LdP w2 (some (refE x_8.fst x_8.snd.fst x_8.snd.snd.fst x_8.snd.snd.snd.fst (convI IntKind.i64 z) == 0 && !refE x_9.fst x_9.snd.fst x_9.snd.snd.fst x_9.snd.snd.snd.fst (subI IntKind.i64 0 (convI IntKind.i64 z)) != 0))
                               (some { block := b_4, off := 0 }) (El.agg [Sc.int IntKind.i64, Sc.int IntKind.i64, Sc.int IntKind.i64, Sc.int IntKind.i64]) fun (x_10 : Int × Int × Int × Int × Unit) =>
                               LdP w2 (some (refE x_8.fst x_8.snd.fst x_8.snd.snd.fst x_8.snd.snd.snd.fst (convI IntKind.i64 z) == 0 && !refE x_9.fst x_9.snd.fst x_9.snd.snd.fst x_9.snd.snd.snd.fst (subI IntKind.i64 0 (convI IntKind.i64 z)) != 0))
                                (some { block := b, off := 0 }) (El.agg [Sc.int IntKind.i64, Sc.int IntKind.i64, Sc.int IntKind.i64, Sc.int IntKind.i64]) fun (x_11 : Int × Int × Int × Int × Unit) =>
                                ((refE x_8.fst x_8.snd.fst x_8.snd.snd.fst x_8.snd.snd.snd.fst (convI IntKind.i64 z) == 0 &&
                                    !(refE x_9.fst x_9.snd.fst x_9.snd.snd.fst x_9.snd.snd.snd.fst (subI IntKind.i64 0 (convI IntKind.i64 z)) != 0 ||
                                      !(x_10.fst == x_11.fst && (x_10.snd.fst == x_11.snd.fst && (x_10.snd.snd.fst == x_11.snd.snd.fst && (x_10.snd.snd.snd.fst == x_11.snd.snd.snd.fst && true)))))) =
                                   true →
                                  true = true) ∧
                                 LdP w2
                                  (some
                                   (refE x_8.fst x_8.snd.fst x_8.snd.snd.fst x_8.snd.snd.snd.fst (convI IntKind.i64 z) == 0 &&
                                    !(refE x_9.fst x_9.snd.fst x_9.snd.snd.fst x_9.snd.snd.snd.fst (subI IntKind.i64 0 (convI IntKind.i64 z)) != 0 ||
                                      !(x_10.fst == x_11.fst && (x_10.snd.fst == x_11.snd.fst && (x_10.snd.snd.fst == x_11.snd.snd.fst && (x_10.snd.snd.snd.fst == x_11.snd.snd.snd.fst && true)))))))
                                  (addP (some { block := b_3, off := 0 }) 2) (El.one (Sc.int IntKind.i64)) fun (x_12 : Int) =>
                                  ((refE x_8.fst x_8.snd.fst x_8.snd.snd.fst x_8.snd.snd.snd.fst (convI IntKind.i64 z) == 0 &&
                                      !(refE x_9.fst x_9.snd.fst x_9.snd.snd.fst x_9.snd.snd.snd.fst (subI IntKind.i64 0 (convI IntKind.i64 z)) != 0 ||
                                        !(x_10.fst == x_11.fst && (x_10.snd.fst == x_11.snd.fst && (x_10.snd.snd.fst == x_11.snd.snd.fst && (x_10.snd.snd.snd.fst == x_11.snd.snd.snd.fst && true)))))) =
                                     true →
                                    true = true) ∧
                                   LdP w2
                                    (some
                                     (refE x_8.fst x_8.snd.fst x_8.snd.snd.fst x_8.snd.snd.snd.fst (convI IntKind.i64 z) == 0 &&
                                      !(refE x_9.fst x_9.snd.fst x_9.snd.snd.fst x_9.snd.snd.snd.fst (subI IntKind.i64 0 (convI IntKind.i64 z)) != 0 ||
                                        !(x_10.fst == x_11.fst && (x_10.snd.fst == x_11.snd.fst && (x_10.snd.snd.fst == x_11.snd.snd.fst && (x_10.snd.snd.snd.fst == x_11.snd.snd.snd.fst && true)))))))
                                    (addP (some { block := b, off := 0 }) 2) (El.one (Sc.int IntKind.i64)) fun (x_13 : Int) =>
                                    ((refE x_8.fst x_8.snd.fst x_8.snd.snd.fst x_8.snd.snd.snd.fst (convI IntKind.i64 z) == 0 &&
                                        !(refE x_9.fst x_9.snd.fst x_9.snd.snd.fst x_9.snd.snd.snd.fst (subI IntKind.i64 0 (convI IntKind.i64 z)) != 0 ||
                                           !(x_10.fst == x_11.fst && (x_10.snd.fst == x_11.snd.fst && (x_10.snd.snd.fst == x_11.snd.snd.fst && (x_10.snd.snd.snd.fst == x_11.snd.snd.snd.fst && true)))) ||
                                          x_12 != addI IntKind.i64 x_13 (convI IntKind.i64 z))) =
                                       true →
                                      true = true) ∧
                                     LdP w2
                                      (some
                                       (refE x_8.fst x_8.snd.fst x_8.snd.snd.fst x_8.snd.snd.snd.fst (convI IntKind.i64 z) == 0 &&
                                        !(refE x_9.fst x_9.snd.fst x_9.snd.snd.fst x_9.snd.snd.snd.fst (subI IntKind.i64 0 (convI IntKind.i64 z)) != 0 ||
                                           !(x_10.fst == x_11.fst && (x_10.snd.fst == x_11.snd.fst && (x_10.snd.snd.fst == x_11.snd.snd.fst && (x_10.snd.snd.snd.fst == x_11.snd.snd.snd.fst && true)))) ||
                                          x_12 != addI IntKind.i64 x_13 (convI IntKind.i64 z))))
                                      (addP (some { block := b_3, off := 0 }) 0) (El.one (Sc.int IntKind.i64)) fun (x_14 : Int) =>
                                      ((refE x_8.fst x_8.snd.fst x_8.snd.snd.fst x_8.snd.snd.snd.fst (convI IntKind.i64 z) == 0 &&
                                          !(refE x_9.fst x_9.snd.fst x_9.snd.snd.fst x_9.snd.snd.snd.fst (subI IntKind.i64 0 (convI IntKind.i64 z)) != 0 ||
                                             !(x_10.fst == x_11.fst && (x_10.snd.fst == x_11.snd.fst && (x_10.snd.snd.fst == x_11.snd.snd.fst && (x_10.snd.snd.snd.fst == x_11.snd.snd.snd.fst && true)))) ||
                                            x_12 != addI IntKind.i64 x_13 (convI IntKind.i64 z))) =
                                         true →
                                        true = true) ∧
                                       LdP w2
                                        (some
                                         (refE x_8.fst x_8.snd.fst x_8.snd.snd.fst x_8.snd.snd.snd.fst (convI IntKind.i64 z) == 0 &&
                                          !(refE x_9.fst x_9.snd.fst x_9.snd.snd.fst x_9.snd.snd.snd.fst (subI IntKind.i64 0 (convI IntKind.i64 z)) != 0 ||
                                             !(x_10.fst == x_11.fst && (x_10.snd.fst == x_11.snd.fst && (x_10.snd.snd.fst == x_11.snd.snd.fst && (x_10.snd.snd.snd.fst == x_11.snd.snd.snd.fst && true)))) ||
                                            x_12 != addI IntKind.i64 x_13 (convI IntKind.i64 z))))
                                        (addP (some { block := b, off := 0 }) 0) (El.one (Sc.int IntKind.i64)) fun (x_15 : Int) =>
                                        brP
                                         (refE x_8.fst x_8.snd.fst x_8.snd.snd.fst x_8.snd.snd.snd.fst (convI IntKind.i64 z) == 0 &&
                                          (refE x_9.fst x_9.snd.fst x_9.snd.snd.fst x_9.snd.snd.snd.fst (subI IntKind.i64 0 (convI IntKind.i64 z)) != 0 ||
                                             !(x_10.fst == x_11.fst && (x_10.snd.fst == x_11.snd.fst && (x_10.snd.snd.fst == x_11.snd.snd.fst && (x_10.snd.snd.snd.fst == x_11.snd.snd.snd.fst && true)))) ||
                                            x_12 != addI IntKind.i64 x_13 (convI IntKind.i64 z) ||
                                           x_14 != x_15))
                                         (EnP w2 fun (w1 : World) => Post false w1)
                                         (((nextE x.fst x.snd.fst x.snd.snd.fst x.snd.snd.snd.fst x_1 x_2 == 0) = true → true = true) ∧
                                          LdP w2 (some (nextE x.fst x.snd.fst x.snd.snd.fst x.snd.snd.snd.fst x_1 x_2 == 0)) (addP (some { block := b_2, off := 0 }) 0) (El.one (Sc.int IntKind.i64)) fun (x_16 : Int) =>
                                           brP (nextE x.fst x.snd.fst x.snd.snd.fst x.snd.snd.snd.fst x_1 x_2 == 0 && x_16 != 0)
                                            (LdP w2 none (some { block := b_2, off := 0 }) (El.agg [Sc.int IntKind.i64, Sc.int IntKind.i64, Sc.int IntKind.i64, Sc.int IntKind.i64]) fun (x : Int × Int × Int × Int × Unit) =>
                                             True ∧
                                              AlP w2 { toList := [Value.int IntKind.i64 0, Value.int IntKind.i64 0, Value.int IntKind.i64 0, Value.int IntKind.i64 0] } 23 fun (b : Nat) (w2 : World) =>
                                               StP w2 (some { block := b, off := 0 })
                                                [Value.int IntKind.i64 (nextK x.fst x.snd.fst x.snd.snd.fst x.snd.snd.snd.fst 0 0), Value.int IntKind.i64 (nextO x.fst x.snd.fst x.snd.snd.fst x.snd.snd.snd.fst 0 0), Value.int IntKind.i64 0,
                                                 Value.int IntKind.i64 0]
                                                fun (w2 : World) =>
                                                LdP w2 (some !nextE x.fst x.snd.fst x.snd.snd.fst x.snd.snd.snd.fst 0 0 != 0) (some { block := b, off := 0 }) (El.agg [Sc.int IntKind.i64, Sc.int IntKind.i64, Sc.int IntKind.i64, Sc.int IntKind.i64])
                                                 fun (x_17 : Int × Int × Int × Int × Unit) =>
                                                 brP (nextE x.fst x.snd.fst x.snd.snd.fst x.snd.snd.snd.fst 0 0 != 0 || !(x_17.fst == 0 && (x_17.snd.fst == 0 && (x_17.snd.snd.fst == 0 && (x_17.snd.snd.snd.fst == 0 && true)))))
                                                  (EnP w2 fun (w1 : World) => Post false w1) (True ∧ EnP w2 fun (w1 : World) => Post true w1))
                                            (True ∧ EnP w2 fun (w1 : World) => Post true w1)))) := by kernel_rfl
theorem drounds_vc (x y : Int) (g : Bool) (w : World) (Post : Bool → World → Prop) : (rxFn D4 (fun _ => []) 7 [.int .u8 x, .int .i64 y, .bool g] w Post) = (
 brP g
  (True ∧
   AlP w { toList := [Value.int IntKind.i64 0, Value.int IntKind.i64 0, Value.int IntKind.i64 0, Value.int IntKind.i64 0] } 23 fun (b : Nat) (w2 : World) =>
    StP w2 (some { block := b, off := 0 })
     [Value.int IntKind.i64 (nextK 0 0 0 0 4 (addI IntKind.i64 1 (remI (convI IntKind.i64 x) 16))), Value.int IntKind.i64 (nextO 0 0 0 0 4 (addI IntKind.i64 1 (remI (convI IntKind.i64 x) 16))), Value.int IntKind.i64 0, Value.int IntKind.i64 0]
     fun (w2 : World) =>
     LdP w2 none (some { block := b, off := 0 }) (El.agg [Sc.int IntKind.i64, Sc.int IntKind.i64, Sc.int IntKind.i64, Sc.int IntKind.i64]) fun (x_1 : Int × Int × Int × Int × Unit) =>
      True ∧
       AlP w2 { toList := [Value.int IntKind.i64 0, Value.int IntKind.i64 0, Value.int IntKind.i64 0, Value.int IntKind.i64 0] } 23 fun (b_1 : Nat) (w2 : World) =>
        StP w2 (some { block := b_1, off := 0 })
         [Value.int IntKind.i64 (nextK x_1.fst x_1.snd.fst x_1.snd.snd.fst x_1.snd.snd.snd.fst 5 y), Value.int IntKind.i64 (nextO x_1.fst x_1.snd.fst x_1.snd.snd.fst x_1.snd.snd.snd.fst 5 y), Value.int IntKind.i64 0, Value.int IntKind.i64 0]
         fun (w2 : World) =>
         LdP w2 none (some { block := b_1, off := 0 }) (El.agg [Sc.int IntKind.i64, Sc.int IntKind.i64, Sc.int IntKind.i64, Sc.int IntKind.i64]) fun (x_2 : Int × Int × Int × Int × Unit) =>
          True ∧
           AlP w2 { toList := [Value.int IntKind.i64 0, Value.int IntKind.i64 0, Value.int IntKind.i64 0, Value.int IntKind.i64 0] } 23 fun (b_2 : Nat) (w2 : World) =>
            StP w2 (some { block := b_2, off := 0 })
             [Value.int IntKind.i64 (nextK x_2.fst x_2.snd.fst x_2.snd.snd.fst x_2.snd.snd.snd.fst 0 0), Value.int IntKind.i64 (nextO x_2.fst x_2.snd.fst x_2.snd.snd.fst x_2.snd.snd.snd.fst 0 0), Value.int IntKind.i64 0, Value.int IntKind.i64 0]
             fun (w2 : World) =>
             LdP w2 none (some { block := b_1, off := 0 }) (El.agg [Sc.int IntKind.i64, Sc.int IntKind.i64, Sc.int IntKind.i64, Sc.int IntKind.i64]) fun (x_3 : Int × Int × Int × Int × Unit) =>
              True ∧
               AlP w2 { toList := [Value.int IntKind.i64 0, Value.int IntKind.i64 0, Value.int IntKind.i64 0, Value.int IntKind.i64 0] } 23 fun (b_3 : Nat) (w2 : World) =>
                StP w2 (some { block := b_3, off := 0 })
                 [Value.int IntKind.i64 (nextK x_3.fst x_3.snd.fst x_3.snd.snd.fst x_3.snd.snd.snd.fst 4 (addI IntKind.i64 1 (remI (convI IntKind.i64 x) 16))),
                  Value.int IntKind.i64 (nextO x_3.fst x_3.snd.fst x_3.snd.snd.fst x_3.snd.snd.snd.fst 4 (addI IntKind.i64 1 (remI (convI IntKind.i64 x) 16))), Value.int IntKind.i64 0, Value.int IntKind.i64 0]
                 fun (w2 : World) =>
                 LdP w2 (some (nextE 0 0 0 0 4 (addI IntKind.i64 1 (remI (convI IntKind.i64 x) 16)) == 0)) (some { block := b, off := 0 }) (El.agg [Sc.int IntKind.i64, Sc.int IntKind.i64, Sc.int IntKind.i64, Sc.int IntKind.i64])
                  fun (x_4 : Int × Int × Int × Int × Unit) =>
                  LdP w2
                   (some
                    (nextE 0 0 0 0 4 (addI IntKind.i64 1 (remI (convI IntKind.i64 x) 16)) == 0 && (x_4.fst == 4 && (x_4.snd.fst == addI IntKind.i64 1 (remI (convI IntKind.i64 x) 16) && (x_4.snd.snd.fst == 0 && (x_4.snd.snd.snd.fst == 0 && true)))) &&
                     nextE x_1.fst x_1.snd.fst x_1.snd.snd.fst x_1.snd.snd.snd.fst 5 y == 0))
                   (some { block := b_1, off := 0 }) (El.agg [Sc.int IntKind.i64, Sc.int IntKind.i64, Sc.int IntKind.i64, Sc.int IntKind.i64]) fun (x_5 : Int × Int × Int × Int × Unit) =>
                   LdP w2
                    (some
                     (nextE 0 0 0 0 4 (addI IntKind.i64 1 (remI (convI IntKind.i64 x) 16)) == 0 && (x_4.fst == 4 && (x_4.snd.fst == addI IntKind.i64 1 (remI (convI IntKind.i64 x) 16) && (x_4.snd.snd.fst == 0 && (x_4.snd.snd.snd.fst == 0 && true)))) &&
                        nextE x_1.fst x_1.snd.fst x_1.snd.snd.fst x_1.snd.snd.snd.fst 5 y == 0 &&
                       (x_5.fst == 5 && (x_5.snd.fst == addI IntKind.i64 1 (remI (convI IntKind.i64 x) 16) && (x_5.snd.snd.fst == 0 && (x_5.snd.snd.snd.fst == 0 && true)))) &&
                      nextE x_2.fst x_2.snd.fst x_2.snd.snd.fst x_2.snd.snd.snd.fst 0 0 == 0))
                    (some { block := b_2, off := 0 }) (El.agg [Sc.int IntKind.i64, Sc.int IntKind.i64, Sc.int IntKind.i64, Sc.int IntKind.i64]) fun (x_6 : Int × Int × Int × Int × Unit) =>
                    ((nextE 0 0 0 0 4 (addI IntKind.i64 1 (remI (convI IntKind.i64 x) 16)) == 0 && (x_4.fst == 4 && (x_4.snd.fst == addI IntKind.i64 1 (remI (convI IntKind.i64 x) 16) && (x_4.snd.snd.fst == 0 && (x_4.snd.snd.snd.fst == 0 && true)))) &&
                            nextE x_1.fst x_1.snd.fst x_1.snd.snd.fst x_1.snd.snd.snd.fst 5 y == 0 &&
                           (x_5.fst == 5 && (x_5.snd.fst == addI IntKind.i64 1 (remI (convI IntKind.i64 x) 16) && (x_5.snd.snd.fst == 0 && (x_5.snd.snd.snd.fst == 0 && true)))) &&
                          nextE x_2.fst x_2.snd.fst x_2.snd.snd.fst x_2.snd.snd.snd.fst 0 0 == 0 &&
                         (x_6.fst == 0 && (x_6.snd.fst == 0 && (x_6.snd.snd.fst == 0 && (x_6.snd.snd.snd.fst == 0 && true)))) &&
                        nextE x_3.fst x_3.snd.fst x_3.snd.snd.fst x_3.snd.snd.snd.fst 4 (addI IntKind.i64 1 (remI (convI IntKind.i64 x) 16)) == 6) =
                       true →
                      True) ∧
                     EnP w2 fun (w1 : World) =>
                      Post
                       (nextE 0 0 0 0 4 (addI IntKind.i64 1 (remI (convI IntKind.i64 x) 16)) == 0 &&
                              (x_4.fst == 4 && (x_4.snd.fst == addI IntKind.i64 1 (remI (convI IntKind.i64 x) 16) && (x_4.snd.snd.fst == 0 && (x_4.snd.snd.snd.fst == 0 && true)))) &&
                             nextE x_1.fst x_1.snd.fst x_1.snd.snd.fst x_1.snd.snd.snd.fst 5 y == 0 &&
                            (x_5.fst == 5 && (x_5.snd.fst == addI IntKind.i64 1 (remI (convI IntKind.i64 x) 16) && (x_5.snd.snd.fst == 0 && (x_5.snd.snd.snd.fst == 0 && true)))) &&
                           nextE x_2.fst x_2.snd.fst x_2.snd.snd.fst x_2.snd.snd.snd.fst 0 0 == 0 &&
                          (x_6.fst == 0 && (x_6.snd.fst == 0 && (x_6.snd.snd.fst == 0 && (x_6.snd.snd.snd.fst == 0 && true)))) &&
                         nextE x_3.fst x_3.snd.fst x_3.snd.snd.fst x_3.snd.snd.snd.fst 4 (addI IntKind.i64 1 (remI (convI IntKind.i64 x) 16)) == 6 &&
                        true)
                       w1)
  (True ∧
   AlP w { toList := [Value.int IntKind.i64 0, Value.int IntKind.i64 0, Value.int IntKind.i64 0, Value.int IntKind.i64 0] } 23 fun (b : Nat) (w2 : World) =>
    StP w2 (some { block := b, off := 0 })
     [Value.int IntKind.i64 (nextK 0 0 0 0 3 (addI IntKind.i64 1 (remI (convI IntKind.i64 x) 16))), Value.int IntKind.i64 (nextO 0 0 0 0 3 (addI IntKind.i64 1 (remI (convI IntKind.i64 x) 16))), Value.int IntKind.i64 0, Value.int IntKind.i64 0]
     fun (w2 : World) =>
     LdP w2 none (some { block := b, off := 0 }) (El.agg [Sc.int IntKind.i64, Sc.int IntKind.i64, Sc.int IntKind.i64, Sc.int IntKind.i64]) fun (x_1 : Int × Int × Int × Int × Unit) =>
      True ∧
       AlP w2 { toList := [Value.int IntKind.i64 0, Value.int IntKind.i64 0, Value.int IntKind.i64 0, Value.int IntKind.i64 0] } 23 fun (b_1 : Nat) (w2 : World) =>
        StP w2 (some { block := b_1, off := 0 })
         [Value.int IntKind.i64 (nextK x_1.fst x_1.snd.fst x_1.snd.snd.fst x_1.snd.snd.snd.fst 5 y), Value.int IntKind.i64 (nextO x_1.fst x_1.snd.fst x_1.snd.snd.fst x_1.snd.snd.snd.fst 5 y), Value.int IntKind.i64 0, Value.int IntKind.i64 0]
         fun (w2 : World) =>
         LdP w2 none (some { block := b_1, off := 0 }) (El.agg [Sc.int IntKind.i64, Sc.int IntKind.i64, Sc.int IntKind.i64, Sc.int IntKind.i64]) fun (x_2 : Int × Int × Int × Int × Unit) =>
          True ∧
           AlP w2 { toList := [Value.int IntKind.i64 0, Value.int IntKind.i64 0, Value.int IntKind.i64 0, Value.int IntKind.i64 0] } 23 fun (b_2 : Nat) (w2 : World) =>
            StP w2 (some { block := b_2, off := 0 })
             [Value.int IntKind.i64 (nextK x_2.fst x_2.snd.fst x_2.snd.snd.fst x_2.snd.snd.snd.fst 0 0), Value.int IntKind.i64 (nextO x_2.fst x_2.snd.fst x_2.snd.snd.fst x_2.snd.snd.snd.fst 0 0), Value.int IntKind.i64 0, Value.int IntKind.i64 0]
             fun (w2 : World) =>
             LdP w2 none (some { block := b_1, off := 0 }) (El.agg [Sc.int IntKind.i64, Sc.int IntKind.i64, Sc.int IntKind.i64, Sc.int IntKind.i64]) fun (x_3 : Int × Int × Int × Int × Unit) =>
              True ∧
               AlP w2 { toList := [Value.int IntKind.i64 0, Value.int IntKind.i64 0, Value.int IntKind.i64 0, Value.int IntKind.i64 0] } 23 fun (b_3 : Nat) (w2 : World) =>
                StP w2 (some { block := b_3, off := 0 })
                 [Value.int IntKind.i64 (nextK x_3.fst x_3.snd.fst x_3.snd.snd.fst x_3.snd.snd.snd.fst 3 (addI IntKind.i64 1 (remI (convI IntKind.i64 x) 16))),
                  Value.int IntKind.i64 (nextO x_3.fst x_3.snd.fst x_3.snd.snd.fst x_3.snd.snd.snd.fst 3 (addI IntKind.i64 1 (remI (convI IntKind.i64 x) 16))), Value.int IntKind.i64 0, Value.int IntKind.i64 0]
                 fun (w2 : World) =>
                 LdP w2 (some (nextE 0 0 0 0 3 (addI IntKind.i64 1 (remI (convI IntKind.i64 x) 16)) == 0)) (some { block := b, off := 0 }) (El.agg [Sc.int IntKind.i64, Sc.int IntKind.i64, Sc.int IntKind.i64, Sc.int IntKind.i64])
                  fun (x_4 : Int × Int × Int × Int × Unit) =>
                  LdP w2
                   (some
                    (nextE 0 0 0 0 3 (addI IntKind.i64 1 (remI (convI IntKind.i64 x) 16)) == 0 && (x_4.fst == 3 && (x_4.snd.fst == addI IntKind.i64 1 (remI (convI IntKind.i64 x) 16) && (x_4.snd.snd.fst == 0 && (x_4.snd.snd.snd.fst == 0 && true)))) &&
                     nextE x_1.fst x_1.snd.fst x_1.snd.snd.fst x_1.snd.snd.snd.fst 5 y == 0))
                   (some { block := b_1, off := 0 }) (El.agg [Sc.int IntKind.i64, Sc.int IntKind.i64, Sc.int IntKind.i64, Sc.int IntKind.i64]) fun (x_5 : Int × Int × Int × Int × Unit) =>
                   LdP w2
                    (some
                     (nextE 0 0 0 0 3 (addI IntKind.i64 1 (remI (convI IntKind.i64 x) 16)) == 0 && (x_4.fst == 3 && (x_4.snd.fst == addI IntKind.i64 1 (remI (convI IntKind.i64 x) 16) && (x_4.snd.snd.fst == 0 && (x_4.snd.snd.snd.fst == 0 && true)))) &&
                        nextE x_1.fst x_1.snd.fst x_1.snd.snd.fst x_1.snd.snd.snd.fst 5 y == 0 &&
                       (x_5.fst == 5 && (x_5.snd.fst == addI IntKind.i64 1 (remI (convI IntKind.i64 x) 16) && (x_5.snd.snd.fst == 0 && (x_5.snd.snd.snd.fst == 0 && true)))) &&
                      nextE x_2.fst x_2.snd.fst x_2.snd.snd.fst x_2.snd.snd.snd.fst 0 0 == 0))
                    (some { block := b_2, off := 0 }) (El.agg [Sc.int IntKind.i64, Sc.int IntKind.i64, Sc.int IntKind.i64, Sc.int IntKind.i64]) fun (x_6 : Int × Int × Int × Int × Unit) =>
                    ((nextE 0 0 0 0 3 (addI IntKind.i64 1 (remI (convI IntKind.i64 x) 16)) == 0 && (x_4.fst == 3 && (x_4.snd.fst == addI IntKind.i64 1 (remI (convI IntKind.i64 x) 16) && (x_4.snd.snd.fst == 0 && (x_4.snd.snd.snd.fst == 0 && true)))) &&
                            nextE x_1.fst x_1.snd.fst x_1.snd.snd.fst x_1.snd.snd.snd.fst 5 y == 0 &&
                           (x_5.fst == 5 && (x_5.snd.fst == addI IntKind.i64 1 (remI (convI IntKind.i64 x) 16) && (x_5.snd.snd.fst == 0 && (x_5.snd.snd.snd.fst == 0 && true)))) &&
                          nextE x_2.fst x_2.snd.fst x_2.snd.snd.fst x_2.snd.snd.snd.fst 0 0 == 0 &&
                         (x_6.fst == 0 && (x_6.snd.fst == 0 && (x_6.snd.snd.fst == 0 && (x_6.snd.snd.snd.fst == 0 && true)))) &&
                        nextE x_3.fst x_3.snd.fst x_3.snd.snd.fst x_3.snd.snd.snd.fst 3 (addI IntKind.i64 1 (remI (convI IntKind.i64 x) 16)) == 6) =
                       true →
                      True) ∧
                     EnP w2 fun (w1 : World) =>
                      Post
                       (nextE 0 0 0 0 3 (addI IntKind.i64 1 (remI (convI IntKind.i64 x) 16)) == 0 &&
                              (x_4.fst == 3 && (x_4.snd.fst == addI IntKind.i64 1 (remI (convI IntKind.i64 x) 16) && (x_4.snd.snd.fst == 0 && (x_4.snd.snd.snd.fst == 0 && true)))) &&
                             nextE x_1.fst x_1.snd.fst x_1.snd.snd.fst x_1.snd.snd.snd.fst 5 y == 0 &&
                            (x_5.fst == 5 && (x_5.snd.fst == addI IntKind.i64 1 (remI (convI IntKind.i64 x) 16) && (x_5.snd.snd.fst == 0 && (x_5.snd.snd.snd.fst == 0 && true)))) &&
                           nextE x_2.fst x_2.snd.fst x_2.snd.snd.fst x_2.snd.snd.snd.fst 0 0 == 0 &&
                          (x_6.fst == 0 && (x_6.snd.fst == 0 && (x_6.snd.snd.fst == 0 && (x_6.snd.snd.snd.fst == 0 && true)))) &&
                         nextE x_3.fst x_3.snd.fst x_3.snd.snd.fst x_3.snd.snd.snd.fst 3 (addI IntKind.i64 1 (remI (convI IntKind.i64 x) 16)) == 6 &&
                        true)
                       w1)) := by kernel_rfl
theorem beq_ba (a : ByteArray) : (a == a) = true := by
  obtain ⟨d⟩ := a
  show (d == d) = true
  simp
theorem dtells_row (d : ScsT dS) (_ : okScs dS d) (v : BitVec 64) (w : World) : CallsR Try.prog 3 (.el (.one .bool)) [.agg ⟨scsEmb dS d⟩, .int .u64 (U v)] w (fun b w' => b = true ∧ Ext w w') := by
  obtain ⟨k, o, r, e, u⟩ := d
  refine rxFn_ok (C := D4) (ann := fun _ => []) (Eq.mpr (dtells_vc k o r e (U v) w _) ?_)
  have H := At.start [] w
  have hu : U (B (U v)) = U v := by rw [B_U]
  repeat' (first
    | exact hu
    | refine And.intro hu ?_
    | exact Go.RX.At.all H
    | exact And.intro (by first | rfl | decide +kernel) (Go.RX.At.all H)
    | refine And.intro (by first | exact rfl | exact trivial | exact fun _ => rfl | exact fun _ => trivial | exact ⟨rfl, by decide, by decide⟩ | exact ⟨by decide, by decide⟩ | decide +kernel | exact fun _ => ⟨rfl, by decide, by decide⟩ | (dsimp only [List.length_cons, List.length_nil]; exact ⟨rfl, by decide, by decide⟩)) ?_
    | refine LdP.atA 0 H rfl rfl ?_
    | refine LdP.atA 1 H rfl rfl ?_
    | refine LdP.atA 2 H rfl rfl ?_
    | refine LdP.atA 3 H rfl rfl ?_
    | refine LdP.atA 4 H rfl rfl ?_
    | refine LdP.atA 5 H rfl rfl ?_
    | refine LdP.atA 6 H rfl rfl ?_
    | refine LdP.atA 7 H rfl rfl ?_
    | refine LdP.atA 8 H rfl rfl ?_
    | refine LdP.at 0 H rfl rfl ?_
    | refine LdP.at 1 H rfl rfl ?_
    | refine LdP.at 2 H rfl rfl ?_
    | refine LdP.at 3 H rfl rfl ?_
    | refine LdP.at 4 H rfl rfl ?_
    | refine LdP.at 5 H rfl rfl ?_
    | refine LdP.at 6 H rfl rfl ?_
    | refine LdP.at 7 H rfl rfl ?_
    | refine LdP.at 8 H rfl rfl ?_
    | refine AlP.go H fun b w1 H => ?_
    | refine StP.all 0 H rfl rfl rfl fun w1 H => ?_
    | refine StP.all 1 H rfl rfl rfl fun w1 H => ?_
    | refine StP.all 2 H rfl rfl rfl fun w1 H => ?_
    | refine StP.all 3 H rfl rfl rfl fun w1 H => ?_
    | refine StP.all 4 H rfl rfl rfl fun w1 H => ?_
    | refine StP.all 5 H rfl rfl rfl fun w1 H => ?_
    | refine StP.all 6 H rfl rfl rfl fun w1 H => ?_
    | refine StP.all 7 H rfl rfl rfl fun w1 H => ?_
    | refine StP.all 8 H rfl rfl rfl fun w1 H => ?_
    | refine StP.oneA 0 H rfl rfl rfl fun w1 H => ?_
    | refine StP.oneA 1 H rfl rfl rfl fun w1 H => ?_
    | refine StP.oneA 2 H rfl rfl rfl fun w1 H => ?_
    | refine StP.oneA 3 H rfl rfl rfl fun w1 H => ?_
    | refine StP.oneA 4 H rfl rfl rfl fun w1 H => ?_
    | refine StP.oneA 5 H rfl rfl rfl fun w1 H => ?_
    | refine StP.oneA 6 H rfl rfl rfl fun w1 H => ?_
    | refine StP.oneA 7 H rfl rfl rfl fun w1 H => ?_
    | refine StP.oneA 8 H rfl rfl rfl fun w1 H => ?_
    | refine StP.one 0 H rfl rfl rfl fun w1 H => ?_
    | refine StP.one 1 H rfl rfl rfl fun w1 H => ?_
    | refine StP.one 2 H rfl rfl rfl fun w1 H => ?_
    | refine StP.one 3 H rfl rfl rfl fun w1 H => ?_
    | refine StP.one 4 H rfl rfl rfl fun w1 H => ?_
    | refine StP.one 5 H rfl rfl rfl fun w1 H => ?_
    | refine StP.one 6 H rfl rfl rfl fun w1 H => ?_
    | refine StP.one 7 H rfl rfl rfl fun w1 H => ?_
    | refine StP.one 8 H rfl rfl rfl fun w1 H => ?_
    | with_reducible refine EnP.go H fun w1 H => ?_
    | refine shr_go ?_
    | refine brP_pos (by assumption) ?_
    | refine brP_neg (by assumption) ?_
    | refine brP_intro (fun c => ?_) (fun c => ?_))
  all_goals exact ⟨by simp [beq_ba], H.all⟩
theorem dchanges_row (d : ScsT dS) (_ : okScs dS d) (x : ScsT iS) (_ : okScs iS x) (z : Int) (hz : (Lit.int .i64 z).wf = true) (w : World) : CallsR Try.prog 4 (.el (.one .bool)) [.agg ⟨scsEmb dS d⟩, .agg ⟨scsEmb iS x⟩, .int .i64 z] w (fun b w' => b = true ∧ Ext w w') := by
  obtain ⟨k, o, r, e, u⟩ := d
  obtain ⟨x, y, u⟩ := x
  refine rxFn_ok (C := D4) (ann := fun _ => []) (Eq.mpr (dchanges_vc k o r e x y z w _) ?_)
  have H := At.start [] w
  have hu := i64_wf hz
  repeat' (first
    | exact hu
    | refine And.intro hu ?_
    | exact Go.RX.At.all H
    | exact And.intro (by first | rfl | decide +kernel) (Go.RX.At.all H)
    | refine And.intro (by first | exact rfl | exact trivial | exact fun _ => rfl | exact fun _ => trivial | exact ⟨rfl, by decide, by decide⟩ | exact ⟨by decide, by decide⟩ | decide +kernel | exact fun _ => ⟨rfl, by decide, by decide⟩ | (dsimp only [List.length_cons, List.length_nil]; exact ⟨rfl, by decide, by decide⟩)) ?_
    | refine LdP.atA 0 H rfl rfl ?_
    | refine LdP.atA 1 H rfl rfl ?_
    | refine LdP.atA 2 H rfl rfl ?_
    | refine LdP.atA 3 H rfl rfl ?_
    | refine LdP.atA 4 H rfl rfl ?_
    | refine LdP.atA 5 H rfl rfl ?_
    | refine LdP.atA 6 H rfl rfl ?_
    | refine LdP.atA 7 H rfl rfl ?_
    | refine LdP.atA 8 H rfl rfl ?_
    | refine LdP.at 0 H rfl rfl ?_
    | refine LdP.at 1 H rfl rfl ?_
    | refine LdP.at 2 H rfl rfl ?_
    | refine LdP.at 3 H rfl rfl ?_
    | refine LdP.at 4 H rfl rfl ?_
    | refine LdP.at 5 H rfl rfl ?_
    | refine LdP.at 6 H rfl rfl ?_
    | refine LdP.at 7 H rfl rfl ?_
    | refine LdP.at 8 H rfl rfl ?_
    | refine AlP.go H fun b w1 H => ?_
    | refine StP.all 0 H rfl rfl rfl fun w1 H => ?_
    | refine StP.all 1 H rfl rfl rfl fun w1 H => ?_
    | refine StP.all 2 H rfl rfl rfl fun w1 H => ?_
    | refine StP.all 3 H rfl rfl rfl fun w1 H => ?_
    | refine StP.all 4 H rfl rfl rfl fun w1 H => ?_
    | refine StP.all 5 H rfl rfl rfl fun w1 H => ?_
    | refine StP.all 6 H rfl rfl rfl fun w1 H => ?_
    | refine StP.all 7 H rfl rfl rfl fun w1 H => ?_
    | refine StP.all 8 H rfl rfl rfl fun w1 H => ?_
    | refine StP.oneA 0 H rfl rfl rfl fun w1 H => ?_
    | refine StP.oneA 1 H rfl rfl rfl fun w1 H => ?_
    | refine StP.oneA 2 H rfl rfl rfl fun w1 H => ?_
    | refine StP.oneA 3 H rfl rfl rfl fun w1 H => ?_
    | refine StP.oneA 4 H rfl rfl rfl fun w1 H => ?_
    | refine StP.oneA 5 H rfl rfl rfl fun w1 H => ?_
    | refine StP.oneA 6 H rfl rfl rfl fun w1 H => ?_
    | refine StP.oneA 7 H rfl rfl rfl fun w1 H => ?_
    | refine StP.oneA 8 H rfl rfl rfl fun w1 H => ?_
    | refine StP.one 0 H rfl rfl rfl fun w1 H => ?_
    | refine StP.one 1 H rfl rfl rfl fun w1 H => ?_
    | refine StP.one 2 H rfl rfl rfl fun w1 H => ?_
    | refine StP.one 3 H rfl rfl rfl fun w1 H => ?_
    | refine StP.one 4 H rfl rfl rfl fun w1 H => ?_
    | refine StP.one 5 H rfl rfl rfl fun w1 H => ?_
    | refine StP.one 6 H rfl rfl rfl fun w1 H => ?_
    | refine StP.one 7 H rfl rfl rfl fun w1 H => ?_
    | refine StP.one 8 H rfl rfl rfl fun w1 H => ?_
    | with_reducible refine EnP.go H fun w1 H => ?_
    | refine shr_go ?_
    | refine brP_pos (by assumption) ?_
    | refine brP_neg (by assumption) ?_
    | refine brP_intro (fun c => ?_) (fun c => ?_))
  all_goals exact ⟨by simp, H.all⟩
end Go.Proofs.Ytdpbeelopakdiaa
