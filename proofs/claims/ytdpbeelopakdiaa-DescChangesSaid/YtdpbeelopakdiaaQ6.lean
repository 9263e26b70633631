import Derived.Test.YtdpbeelopakdiaaQ5
namespace Go.Proofs.Ytdpbeelopakdiaa
set_option linter.unusedSimpArgs false
set_option linter.unusedVariables false
open Go.RX
noncomputable def eDPack : Entry Try.prog where
  f := 8
  fn l := match l with
    | [.agg ⟨[.int .i64 k, .int .i64 o, .int .i64 r, .int .i64 e]⟩] => some (True, .tuple ⟨[.int .u64 (packW k o r e), .int .i64 (packE k o r e)]⟩)
    | _ => none
  ok args pre v h hp w := by
    split at h
    · rename_i k o r e
      cases h
      exact entry_of (dpack_ok k o r e w)
    · cases h
noncomputable def eDRPack : Entry Try.prog where
  f := 9
  fn l := match l with
    | [.agg ⟨[.int .i64 k, .int .i64 o, .int .i64 r, .int .i64 e]⟩] => some (True, .tuple ⟨[.int .u64 (packW k o r e), .int .i64 (packE k o r e)]⟩)
    | _ => none
  ok args pre v h hp w := by
    split at h
    · rename_i k o r e
      cases h
      exact entry_of (drpack_ok k o r e w)
    · cases h
noncomputable def eDParse : Entry Try.prog where
  f := 11
  fn l := match l with
    | [.int .u64 v] => some (U (B v) = v, .tuple ⟨[.agg ⟨[.int .i64 (parV (B v).toNat).1, .int .i64 (parV (B v).toNat).2.1, .int .i64 (parV (B v).toNat).2.2.1, .int .i64 (parV (B v).toNat).2.2.2.1]⟩, .bool (parD (B v).toNat)]⟩)
    | _ => none
  ok args pre v h hp w := by
    split at h
    · rename_i v
      cases h
      have h := dparse_ok (B v) w
      rw [show U (B v) = v from hp] at h
      exact entry_of h
    · cases h
noncomputable def eDRParse : Entry Try.prog where
  f := 12
  fn l := match l with
    | [.int .u64 v] => some (U (B v) = v, .tuple ⟨[.agg ⟨[.int .i64 (parV (B v).toNat).1, .int .i64 (parV (B v).toNat).2.1, .int .i64 (parV (B v).toNat).2.2.1, .int .i64 (parV (B v).toNat).2.2.2.1]⟩, .bool (parD (B v).toNat)]⟩)
    | _ => none
  ok args pre v h hp w := by
    split at h
    · rename_i v
      cases h
      have h := drparse_ok (B v) w
      rw [show U (B v) = v from hp] at h
      exact entry_of h
    · cases h
noncomputable def eNext : Entry Try.prog where
  f := 18
  fn l := match l with
    | [.agg ⟨[.int .i64 k, .int .i64 o, .int .i64 r, .int .i64 e]⟩, .int .i64 x, .int .i64 y] => some (True, .tuple ⟨[.agg ⟨[.int .i64 (nextK k o r e x y), .int .i64 (nextO k o r e x y), .int .i64 0, .int .i64 0]⟩, .int .i64 (nextE k o r e x y)]⟩)
    | _ => none
  ok args pre v h hp w := by
    split at h
    · rename_i k o r e x y
      cases h
      exact entry_of (next_ok k o r e x y w)
    · cases h
noncomputable def eRNext : Entry Try.prog where
  f := 19
  fn l := match l with
    | [.agg ⟨[.int .i64 k, .int .i64 o, .int .i64 r, .int .i64 e]⟩, .int .i64 x, .int .i64 y] => some (True, .tuple ⟨[.agg ⟨[.int .i64 (nextK k o r e x y), .int .i64 (nextO k o r e x y), .int .i64 0, .int .i64 0]⟩, .int .i64 (nextE k o r e x y)]⟩)
    | _ => none
  ok args pre v h hp w := by
    split at h
    · rename_i k o r e x y
      cases h
      exact entry_of (rnext_ok k o r e x y w)
    · cases h
noncomputable def eRef : Entry Try.prog where
  f := 20
  fn l := match l with
    | [.agg ⟨[.int .i64 k, .int .i64 o, .int .i64 r, .int .i64 e]⟩, .int .i64 x] => some ((-9223372036854775808 ≤ x ∧ x < 9223372036854775808), .tuple ⟨[.agg ⟨[.int .i64 (refV k o r e x).1, .int .i64 (refV k o r e x).2.1, .int .i64 (refV k o r e x).2.2.1, .int .i64 (refV k o r e x).2.2.2.1]⟩, .int .i64 (refE k o r e x)]⟩)
    | _ => none
  ok args pre v h hp w := by
    split at h
    · rename_i k o r e x
      cases h
      exact entry_of (ref_ok k o r e x hp w)
    · cases h
noncomputable def eRRef : Entry Try.prog where
  f := 21
  fn l := match l with
    | [.agg ⟨[.int .i64 k, .int .i64 o, .int .i64 r, .int .i64 e]⟩, .int .i64 x] => some ((-9223372036854775808 ≤ x ∧ x < 9223372036854775808), .tuple ⟨[.agg ⟨[.int .i64 (refV k o r e x).1, .int .i64 (refV k o r e x).2.1, .int .i64 (refV k o r e x).2.2.1, .int .i64 (refV k o r e x).2.2.2.1]⟩, .int .i64 (refE k o r e x)]⟩)
    | _ => none
  ok args pre v h hp w := by
    split at h
    · rename_i k o r e x
      cases h
      exact entry_of (rref_ok k o r e x hp w)
    · cases h
noncomputable def ePlain : Entry Try.prog where
  f := 10
  fn l := match l with
    | [.agg ⟨[.int .i64 k, .int .i64 o, .int .i64 r, .int .i64 e]⟩] => some (True, .agg ⟨[.int .i64 k, .int .i64 o, .int .i64 r, .int .i64 e]⟩)
    | _ => none
  ok args pre v h hp w := by
    split at h
    · rename_i k o r e
      cases h
      exact entry_of (sh := .el (.agg [.int .i64, .int .i64, .int .i64, .int .i64])) (x := ((k, o, r, e, ()) : Int × Int × Int × Int × Unit)) (plain_ok k o r e w)
    · cases h
noncomputable def eName : Entry Try.prog where
  f := 15
  fn l := match l with
    | [.int .i64 a] => some (True, .string (nameS a))
    | _ => none
  ok args pre v h hp w := by
    split at h
    · rename_i a
      cases h
      exact entry_of (name_ok a w)
    · cases h
noncomputable def eRName : Entry Try.prog where
  f := 16
  fn l := match l with
    | [.int .i64 a] => some (True, .string (nameS a))
    | _ => none
  ok args pre v h hp w := by
    split at h
    · rename_i a
      cases h
      exact entry_of (rname_ok a w)
    · cases h
noncomputable def D3 : Cfg Try.prog := { D0 with share := false, tab := [eFits, eIs, eBit, eOne, eMask, eRGet, eGet, ePut, eCan, eRLeads, eWithin, eRight, eRRight, eDPack, eDRPack, eDParse, eDRParse, eNext, eRNext, eRef, eRRef, ePlain, eName, eRName] }
theorem dknown_vc (w : World) (Post : Bool → World → Prop) : (rxFn D3 (fun _ => []) 17 [] w Post) = (
 AlP w { toList := [Value.int IntKind.i64 0, Value.int IntKind.i64 0, Value.int IntKind.i64 0, Value.int IntKind.i64 0] } 23 fun (b : Nat) (w2 : World) =>
  StP w2 (some { block := b, off := 0 }) [Value.int IntKind.i64 4, Value.int IntKind.i64 3, Value.int IntKind.i64 2, Value.int IntKind.i64 0] fun (w2 : World) =>
   LdP w2 none (some { block := b, off := 0 }) (El.agg [Sc.int IntKind.i64, Sc.int IntKind.i64, Sc.int IntKind.i64, Sc.int IntKind.i64]) fun (x : Int × Int × Int × Int × Unit) =>
    True ∧
     U (B (packW x.fst x.snd.fst x.snd.snd.fst x.snd.snd.snd.fst)) = packW x.fst x.snd.fst x.snd.snd.fst x.snd.snd.snd.fst ∧
      AlP w2 { toList := [Value.int IntKind.i64 0, Value.int IntKind.i64 0, Value.int IntKind.i64 0, Value.int IntKind.i64 0] } 23 fun (b_1 : Nat) (w2 : World) =>
       StP w2 (some { block := b_1, off := 0 })
        [Value.int IntKind.i64 (parV (B (packW x.fst x.snd.fst x.snd.snd.fst x.snd.snd.snd.fst)).toNat).fst, Value.int IntKind.i64 (parV (B (packW x.fst x.snd.fst x.snd.snd.fst x.snd.snd.snd.fst)).toNat).snd.fst,
         Value.int IntKind.i64 (parV (B (packW x.fst x.snd.fst x.snd.snd.fst x.snd.snd.snd.fst)).toNat).snd.snd.fst, Value.int IntKind.i64 (parV (B (packW x.fst x.snd.fst x.snd.snd.fst x.snd.snd.snd.fst)).toNat).snd.snd.snd.fst]
        fun (w2 : World) =>
        U (B 268435456) = 268435456 ∧
         AlP w2 { toList := [Value.int IntKind.i64 0, Value.int IntKind.i64 0, Value.int IntKind.i64 0, Value.int IntKind.i64 0] } 23 fun (b_2 : Nat) (w2 : World) =>
          StP w2 (some { block := b_2, off := 0 })
           [Value.int IntKind.i64 (parV (↑(B 268435456).toFin : Nat)).fst, Value.int IntKind.i64 (parV (B 268435456).toNat).snd.fst, Value.int IntKind.i64 (parV (B 268435456).toNat).snd.snd.fst,
            Value.int IntKind.i64 (parV (B 268435456).toNat).snd.snd.snd.fst]
           fun (w2 : World) =>
           LdP w2 none (some { block := b, off := 0 }) (El.agg [Sc.int IntKind.i64, Sc.int IntKind.i64, Sc.int IntKind.i64, Sc.int IntKind.i64]) fun (x_1 : Int × Int × Int × Int × Unit) =>
            True ∧
             AlP w2 { toList := [Value.int IntKind.i64 0, Value.int IntKind.i64 0, Value.int IntKind.i64 0, Value.int IntKind.i64 0] } 23 fun (b_3 : Nat) (w2 : World) =>
              StP w2 (some { block := b_3, off := 0 })
               [Value.int IntKind.i64 (nextK x_1.fst x_1.snd.fst x_1.snd.snd.fst x_1.snd.snd.snd.fst 0 0), Value.int IntKind.i64 (nextO x_1.fst x_1.snd.fst x_1.snd.snd.fst x_1.snd.snd.snd.fst 0 0), Value.int IntKind.i64 0, Value.int IntKind.i64 0]
               fun (w2 : World) =>
               LdP w2 none (some { block := b, off := 0 }) (El.agg [Sc.int IntKind.i64, Sc.int IntKind.i64, Sc.int IntKind.i64, Sc.int IntKind.i64]) fun (x_2 : Int × Int × Int × Int × Unit) =>
                (-9223372036854775808 ≤ -2 ∧ -(2 : Int) < 9223372036854775808) ∧
                 AlP w2 { toList := [Value.int IntKind.i64 0, Value.int IntKind.i64 0, Value.int IntKind.i64 0, Value.int IntKind.i64 0] } 23 fun (b_4 : Nat) (w2 : World) =>
                  StP w2 (some { block := b_4, off := 0 })
                   [Value.int IntKind.i64 (refV x_2.fst x_2.snd.fst x_2.snd.snd.fst x_2.snd.snd.snd.fst (-2)).fst, Value.int IntKind.i64 (refV x_2.fst x_2.snd.fst x_2.snd.snd.fst x_2.snd.snd.snd.fst (-2)).snd.fst,
                    Value.int IntKind.i64 (refV x_2.fst x_2.snd.fst x_2.snd.snd.fst x_2.snd.snd.snd.fst (-2)).snd.snd.fst, Value.int IntKind.i64 (refV x_2.fst x_2.snd.fst x_2.snd.snd.fst x_2.snd.snd.snd.fst (-2)).snd.snd.snd.fst]
                   fun (w2 : World) =>
                   LdP w2 none (some { block := b_4, off := 0 }) (El.agg [Sc.int IntKind.i64, Sc.int IntKind.i64, Sc.int IntKind.i64, Sc.int IntKind.i64]) fun (x_3 : Int × Int × Int × Int × Unit) =>
                    True ∧
                     AlP w2 { toList := [Value.int IntKind.i64 0, Value.int IntKind.i64 0, Value.int IntKind.i64 0, Value.int IntKind.i64 0] } 23 fun (b_5 : Nat) (w2 : World) =>
                      StP w2 (some { block := b_5, off := 0 })
                       [Value.int IntKind.i64 (nextK x_3.fst x_3.snd.fst x_3.snd.snd.fst x_3.snd.snd.snd.fst 5 9), Value.int IntKind.i64 (nextO x_3.fst x_3.snd.fst x_3.snd.snd.fst x_3.snd.snd.snd.fst 5 9), Value.int IntKind.i64 0,
                        Value.int IntKind.i64 0]
                       fun (w2 : World) =>
                       LdP w2 none (some { block := b_5, off := 0 }) (El.agg [Sc.int IntKind.i64, Sc.int IntKind.i64, Sc.int IntKind.i64, Sc.int IntKind.i64]) fun (x_4 : Int × Int × Int × Int × Unit) =>
                        True ∧
                         AlP w2 { toList := [Value.int IntKind.i64 0, Value.int IntKind.i64 0, Value.int IntKind.i64 0, Value.int IntKind.i64 0] } 23 fun (b_6 : Nat) (w2 : World) =>
                          StP w2 (some { block := b_6, off := 0 })
                           [Value.int IntKind.i64 (nextK x_4.fst x_4.snd.fst x_4.snd.snd.fst x_4.snd.snd.snd.fst 4 1), Value.int IntKind.i64 (nextO x_4.fst x_4.snd.fst x_4.snd.snd.fst x_4.snd.snd.snd.fst 4 1), Value.int IntKind.i64 0,
                            Value.int IntKind.i64 0]
                           fun (w2 : World) =>
                           LdP w2 none (some { block := b_4, off := 0 }) (El.agg [Sc.int IntKind.i64, Sc.int IntKind.i64, Sc.int IntKind.i64, Sc.int IntKind.i64]) fun (x_5 : Int × Int × Int × Int × Unit) =>
                            (-9223372036854775808 ≤ -1 ∧ -(1 : Int) < 9223372036854775808) ∧
                             AlP w2 { toList := [Value.int IntKind.i64 0, Value.int IntKind.i64 0, Value.int IntKind.i64 0, Value.int IntKind.i64 0] } 23 fun (b_7 : Nat) (w2 : World) =>
                              StP w2 (some { block := b_7, off := 0 })
                               [Value.int IntKind.i64 (refV x_5.fst x_5.snd.fst x_5.snd.snd.fst x_5.snd.snd.snd.fst (-1)).fst, Value.int IntKind.i64 (refV x_5.fst x_5.snd.fst x_5.snd.snd.fst x_5.snd.snd.snd.fst (-1)).snd.fst,
                                Value.int IntKind.i64 (refV x_5.fst x_5.snd.fst x_5.snd.snd.fst x_5.snd.snd.snd.fst (-1)).snd.snd.fst, Value.int IntKind.i64 (refV x_5.fst x_5.snd.fst x_5.snd.snd.fst x_5.snd.snd.snd.fst (-1)).snd.snd.snd.fst]
                               fun (w2 : World) =>
                               LdP w2 (some (packE x.fst x.snd.fst x.snd.snd.fst x.snd.snd.snd.fst == 0 && packW x.fst x.snd.fst x.snd.snd.fst x.snd.snd.snd.fst == 8244)) (some { block := b_1, off := 0 })
                                (El.agg [Sc.int IntKind.i64, Sc.int IntKind.i64, Sc.int IntKind.i64, Sc.int IntKind.i64]) fun (x_6 : Int × Int × Int × Int × Unit) =>
                                LdP w2 (some (packE x.fst x.snd.fst x.snd.snd.fst x.snd.snd.snd.fst == 0 && packW x.fst x.snd.fst x.snd.snd.fst x.snd.snd.snd.fst == 8244)) (some { block := b, off := 0 })
                                 (El.agg [Sc.int IntKind.i64, Sc.int IntKind.i64, Sc.int IntKind.i64, Sc.int IntKind.i64]) fun (x_7 : Int × Int × Int × Int × Unit) =>
                                 LdP w2
                                  (some
                                   (packE x.fst x.snd.fst x.snd.snd.fst x.snd.snd.snd.fst == 0 && packW x.fst x.snd.fst x.snd.snd.fst x.snd.snd.snd.fst == 8244 &&
                                         (x_6.fst == x_7.fst && (x_6.snd.fst == x_7.snd.fst && (x_6.snd.snd.fst == x_7.snd.snd.fst && (x_6.snd.snd.snd.fst == x_7.snd.snd.snd.fst && true)))) &&
                                        parD (B (packW x.fst x.snd.fst x.snd.snd.fst x.snd.snd.snd.fst)).toNat &&
                                       !parD (↑(B 268435456).toFin : Nat) &&
                                      nextE x_1.fst x_1.snd.fst x_1.snd.snd.fst x_1.snd.snd.snd.fst 0 0 == 9 &&
                                     refE x_2.fst x_2.snd.fst x_2.snd.snd.fst x_2.snd.snd.snd.fst (-2) == 0 &&
                                    nextE x_3.fst x_3.snd.fst x_3.snd.snd.fst x_3.snd.snd.snd.fst 5 9 == 0))
                                  (some { block := b_5, off := 0 }) (El.agg [Sc.int IntKind.i64, Sc.int IntKind.i64, Sc.int IntKind.i64, Sc.int IntKind.i64]) fun (x_8 : Int × Int × Int × Int × Unit) =>
                                  LdP w2
                                   (some
                                    (packE x.fst x.snd.fst x.snd.snd.fst x.snd.snd.snd.fst == 0 && packW x.fst x.snd.fst x.snd.snd.fst x.snd.snd.snd.fst == 8244 &&
                                             (x_6.fst == x_7.fst && (x_6.snd.fst == x_7.snd.fst && (x_6.snd.snd.fst == x_7.snd.snd.fst && (x_6.snd.snd.snd.fst == x_7.snd.snd.snd.fst && true)))) &&
                                            parD (B (packW x.fst x.snd.fst x.snd.snd.fst x.snd.snd.snd.fst)).toNat &&
                                           !parD (↑(B 268435456).toFin : Nat) &&
                                          nextE x_1.fst x_1.snd.fst x_1.snd.snd.fst x_1.snd.snd.snd.fst 0 0 == 9 &&
                                         refE x_2.fst x_2.snd.fst x_2.snd.snd.fst x_2.snd.snd.snd.fst (-2) == 0 &&
                                        nextE x_3.fst x_3.snd.fst x_3.snd.snd.fst x_3.snd.snd.snd.fst 5 9 == 0 &&
                                       (x_8.fst == 5 && (x_8.snd.fst == 3 && (x_8.snd.snd.fst == 0 && (x_8.snd.snd.snd.fst == 0 && true)))) &&
                                      nextE x_4.fst x_4.snd.fst x_4.snd.snd.fst x_4.snd.snd.snd.fst 4 1 == 6 &&
                                     refE x_5.fst x_5.snd.fst x_5.snd.snd.fst x_5.snd.snd.snd.fst (-1) == 2))
                                   (some { block := b, off := 0 }) (El.agg [Sc.int IntKind.i64, Sc.int IntKind.i64, Sc.int IntKind.i64, Sc.int IntKind.i64]) fun (x_9 : Int × Int × Int × Int × Unit) =>
                                   ((packE x.fst x.snd.fst x.snd.snd.fst x.snd.snd.snd.fst == 0 && packW x.fst x.snd.fst x.snd.snd.fst x.snd.snd.snd.fst == 8244 &&
                                               (x_6.fst == x_7.fst && (x_6.snd.fst == x_7.snd.fst && (x_6.snd.snd.fst == x_7.snd.snd.fst && (x_6.snd.snd.snd.fst == x_7.snd.snd.snd.fst && true)))) &&
                                              parD (B (packW x.fst x.snd.fst x.snd.snd.fst x.snd.snd.snd.fst)).toNat &&
                                             !parD (↑(B 268435456).toFin : Nat) &&
                                            nextE x_1.fst x_1.snd.fst x_1.snd.snd.fst x_1.snd.snd.snd.fst 0 0 == 9 &&
                                           refE x_2.fst x_2.snd.fst x_2.snd.snd.fst x_2.snd.snd.snd.fst (-2) == 0 &&
                                          nextE x_3.fst x_3.snd.fst x_3.snd.snd.fst x_3.snd.snd.snd.fst 5 9 == 0 &&
                                         (x_8.fst == 5 && (x_8.snd.fst == 3 && (x_8.snd.snd.fst == 0 && (x_8.snd.snd.snd.fst == 0 && true)))) &&
                                        nextE x_4.fst x_4.snd.fst x_4.snd.snd.fst x_4.snd.snd.snd.fst 4 1 == 6 &&
                                       refE x_5.fst x_5.snd.fst x_5.snd.snd.fst x_5.snd.snd.snd.fst (-1) == 2) =
                                      true →
                                     True) ∧
                                    ((packE x.fst x.snd.fst x.snd.snd.fst x.snd.snd.snd.fst == 0 && packW x.fst x.snd.fst x.snd.snd.fst x.snd.snd.snd.fst == 8244 &&
                                                 (x_6.fst == x_7.fst && (x_6.snd.fst == x_7.snd.fst && (x_6.snd.snd.fst == x_7.snd.snd.fst && (x_6.snd.snd.snd.fst == x_7.snd.snd.snd.fst && true)))) &&
                                                parD (B (packW x.fst x.snd.fst x.snd.snd.fst x.snd.snd.snd.fst)).toNat &&
                                               !parD (↑(B 268435456).toFin : Nat) &&
                                              nextE x_1.fst x_1.snd.fst x_1.snd.snd.fst x_1.snd.snd.snd.fst 0 0 == 9 &&
                                             refE x_2.fst x_2.snd.fst x_2.snd.snd.fst x_2.snd.snd.snd.fst (-2) == 0 &&
                                            nextE x_3.fst x_3.snd.fst x_3.snd.snd.fst x_3.snd.snd.snd.fst 5 9 == 0 &&
                                           (x_8.fst == 5 && (x_8.snd.fst == 3 && (x_8.snd.snd.fst == 0 && (x_8.snd.snd.snd.fst == 0 && true)))) &&
                                          nextE x_4.fst x_4.snd.fst x_4.snd.snd.fst x_4.snd.snd.snd.fst 4 1 == 6 &&
                                         refE x_5.fst x_5.snd.fst x_5.snd.snd.fst x_5.snd.snd.snd.fst (-1) == 2 &&
                                        rightD x_9.fst x_9.snd.fst x_9.snd.snd.fst x_9.snd.snd.snd.fst) =
                                       true →
                                      True) ∧
                                     ((packE x.fst x.snd.fst x.snd.snd.fst x.snd.snd.snd.fst == 0 && packW x.fst x.snd.fst x.snd.snd.fst x.snd.snd.snd.fst == 8244 &&
                                                   (x_6.fst == x_7.fst && (x_6.snd.fst == x_7.snd.fst && (x_6.snd.snd.fst == x_7.snd.snd.fst && (x_6.snd.snd.snd.fst == x_7.snd.snd.snd.fst && true)))) &&
                                                  parD (B (packW x.fst x.snd.fst x.snd.snd.fst x.snd.snd.snd.fst)).toNat &&
                                                 !parD (↑(B 268435456).toFin : Nat) &&
                                                nextE x_1.fst x_1.snd.fst x_1.snd.snd.fst x_1.snd.snd.snd.fst 0 0 == 9 &&
                                               refE x_2.fst x_2.snd.fst x_2.snd.snd.fst x_2.snd.snd.snd.fst (-2) == 0 &&
                                              nextE x_3.fst x_3.snd.fst x_3.snd.snd.fst x_3.snd.snd.snd.fst 5 9 == 0 &&
                                             (x_8.fst == 5 && (x_8.snd.fst == 3 && (x_8.snd.snd.fst == 0 && (x_8.snd.snd.snd.fst == 0 && true)))) &&
                                            nextE x_4.fst x_4.snd.fst x_4.snd.snd.fst x_4.snd.snd.snd.fst 4 1 == 6 &&
                                           refE x_5.fst x_5.snd.fst x_5.snd.snd.fst x_5.snd.snd.snd.fst (-1) == 2 &&
                                          rightD x_9.fst x_9.snd.fst x_9.snd.snd.fst x_9.snd.snd.snd.fst &&
                                         !rightD 0 1 0 0) =
                                        true →
                                       True) ∧
                                      ((packE x.fst x.snd.fst x.snd.snd.fst x.snd.snd.snd.fst == 0 && packW x.fst x.snd.fst x.snd.snd.fst x.snd.snd.snd.fst == 8244 &&
                                                     (x_6.fst == x_7.fst && (x_6.snd.fst == x_7.snd.fst && (x_6.snd.snd.fst == x_7.snd.snd.fst && (x_6.snd.snd.snd.fst == x_7.snd.snd.snd.fst && true)))) &&
                                                    parD (B (packW x.fst x.snd.fst x.snd.snd.fst x.snd.snd.snd.fst)).toNat &&
                                                   !parD (↑(B 268435456).toFin : Nat) &&
                                                  nextE x_1.fst x_1.snd.fst x_1.snd.snd.fst x_1.snd.snd.snd.fst 0 0 == 9 &&
                                                 refE x_2.fst x_2.snd.fst x_2.snd.snd.fst x_2.snd.snd.snd.fst (-2) == 0 &&
                                                nextE x_3.fst x_3.snd.fst x_3.snd.snd.fst x_3.snd.snd.snd.fst 5 9 == 0 &&
                                               (x_8.fst == 5 && (x_8.snd.fst == 3 && (x_8.snd.snd.fst == 0 && (x_8.snd.snd.snd.fst == 0 && true)))) &&
                                              nextE x_4.fst x_4.snd.fst x_4.snd.snd.fst x_4.snd.snd.snd.fst 4 1 == 6 &&
                                             refE x_5.fst x_5.snd.fst x_5.snd.snd.fst x_5.snd.snd.snd.fst (-1) == 2 &&
                                            rightD x_9.fst x_9.snd.fst x_9.snd.snd.fst x_9.snd.snd.snd.fst &&
                                           !rightD 0 1 0 0 &&
                                          nameS 3 == { data := { toList := [116, 97, 98, 108, 101] } }) =
                                         true →
                                        True) ∧
                                       EnP w2 fun (w1 : World) =>
                                        Post
                                         (packE x.fst x.snd.fst x.snd.snd.fst x.snd.snd.snd.fst == 0 && packW x.fst x.snd.fst x.snd.snd.fst x.snd.snd.snd.fst == 8244 &&
                                                      (x_6.fst == x_7.fst && (x_6.snd.fst == x_7.snd.fst && (x_6.snd.snd.fst == x_7.snd.snd.fst && (x_6.snd.snd.snd.fst == x_7.snd.snd.snd.fst && true)))) &&
                                                     parD (B (packW x.fst x.snd.fst x.snd.snd.fst x.snd.snd.snd.fst)).toNat &&
                                                    !parD (↑(B 268435456).toFin : Nat) &&
                                                   nextE x_1.fst x_1.snd.fst x_1.snd.snd.fst x_1.snd.snd.snd.fst 0 0 == 9 &&
                                                  refE x_2.fst x_2.snd.fst x_2.snd.snd.fst x_2.snd.snd.snd.fst (-2) == 0 &&
                                                 nextE x_3.fst x_3.snd.fst x_3.snd.snd.fst x_3.snd.snd.snd.fst 5 9 == 0 &&
                                                (x_8.fst == 5 && (x_8.snd.fst == 3 && (x_8.snd.snd.fst == 0 && (x_8.snd.snd.snd.fst == 0 && true)))) &&
                                               nextE x_4.fst x_4.snd.fst x_4.snd.snd.fst x_4.snd.snd.snd.fst 4 1 == 6 &&
                                              refE x_5.fst x_5.snd.fst x_5.snd.snd.fst x_5.snd.snd.snd.fst (-1) == 2 &&
                                             rightD x_9.fst x_9.snd.fst x_9.snd.snd.fst x_9.snd.snd.snd.fst &&
                                            !rightD 0 1 0 0 &&
                                           nameS 3 == { data := { toList := [116, 97, 98, 108, 101] } } &&
                                          nameS 6 == { data := { toList := [] } })
                                         w1) := by kernel_rfl
theorem dknown_ok (w : World) : CallsR Try.prog 17 (.el (.one .bool)) [] w (fun b w' => b = true ∧ Ext w w') := by
  refine rxFn_ok (C := D3) (ann := fun _ => []) (Eq.mpr (dknown_vc w _) ?_)
  have H := At.start [] w
  repeat' (first
    | exact Go.RX.At.all H
    | exact And.intro (by first | rfl | decide +kernel) (Go.RX.At.all H)
    | refine And.intro (by first | exact rfl | exact trivial | exact fun _ => rfl | exact fun _ => trivial | exact ⟨rfl, by decide, by decide⟩ | exact ⟨by decide, by decide⟩ | decide +kernel | exact fun _ => ⟨rfl, by decide, by decide⟩ | (dsimp only [List.length_cons, List.length_nil]; exact ⟨rfl, by decide, by decide⟩)) ?_
    | refine LdP.atA 0 H rfl rfl ?_
    | refine LdP.atA 1 H rfl rfl ?_
    | refine LdP.atA 2 H rfl rfl ?_
    | refine LdP.atA 3 H rfl rfl ?_
    | refine LdP.atA 4 H rfl rfl ?_
    | refine LdP.atA 5 H rfl rfl ?_
    | refine LdP.atA 6 H rfl rfl ?_
    | refine LdP.atA 7 H rfl rfl ?_
    | refine LdP.atA 8 H rfl rfl ?_
    | refine LdP.at 0 H rfl rfl ?_
    | refine LdP.at 1 H rfl rfl ?_
    | refine LdP.at 2 H rfl rfl ?_
    | refine LdP.at 3 H rfl rfl ?_
    | refine LdP.at 4 H rfl rfl ?_
    | refine LdP.at 5 H rfl rfl ?_
    | refine LdP.at 6 H rfl rfl ?_
    | refine LdP.at 7 H rfl rfl ?_
    | refine LdP.at 8 H rfl rfl ?_
    | refine AlP.go H fun b w1 H => ?_
    | refine StP.all 0 H rfl rfl rfl fun w1 H => ?_
    | refine StP.all 1 H rfl rfl rfl fun w1 H => ?_
    | refine StP.all 2 H rfl rfl rfl fun w1 H => ?_
    | refine StP.all 3 H rfl rfl rfl fun w1 H => ?_
    | refine StP.all 4 H rfl rfl rfl fun w1 H => ?_
    | refine StP.all 5 H rfl rfl rfl fun w1 H => ?_
    | refine StP.all 6 H rfl rfl rfl fun w1 H => ?_
    | refine StP.all 7 H rfl rfl rfl fun w1 H => ?_
    | refine StP.all 8 H rfl rfl rfl fun w1 H => ?_
    | refine StP.oneA 0 H rfl rfl rfl fun w1 H => ?_
    | refine StP.oneA 1 H rfl rfl rfl fun w1 H => ?_
    | refine StP.oneA 2 H rfl rfl rfl fun w1 H => ?_
    | refine StP.oneA 3 H rfl rfl rfl fun w1 H => ?_
    | refine StP.oneA 4 H rfl rfl rfl fun w1 H => ?_
    | refine StP.oneA 5 H rfl rfl rfl fun w1 H => ?_
    | refine StP.oneA 6 H rfl rfl rfl fun w1 H => ?_
    | refine StP.oneA 7 H rfl rfl rfl fun w1 H => ?_
    | refine StP.oneA 8 H rfl rfl rfl fun w1 H => ?_
    | refine StP.one 0 H rfl rfl rfl fun w1 H => ?_
    | refine StP.one 1 H rfl rfl rfl fun w1 H => ?_
    | refine StP.one 2 H rfl rfl rfl fun w1 H => ?_
    | refine StP.one 3 H rfl rfl rfl fun w1 H => ?_
    | refine StP.one 4 H rfl rfl rfl fun w1 H => ?_
    | refine StP.one 5 H rfl rfl rfl fun w1 H => ?_
    | refine StP.one 6 H rfl rfl rfl fun w1 H => ?_
    | refine StP.one 7 H rfl rfl rfl fun w1 H => ?_
    | refine StP.one 8 H rfl rfl rfl fun w1 H => ?_
    | with_reducible refine EnP.go H fun w1 H => ?_
    | refine shr_go ?_
    | refine brP_pos (by assumption) ?_
    | refine brP_neg (by assumption) ?_
    | refine brP_intro (fun c => ?_) (fun c => ?_))
end Go.Proofs.Ytdpbeelopakdiaa
