import Derived.Test.YtmdcalknhbhlcaaLaw
import Derived.Test.YtmdcalknhbhlcaaPlain
import Derived.Test.YtmdcalknhbhlcaaLift
namespace Go.Proofs.Ytmdcalknhbhlcaa
open Go.RX
def masks_vc_ann : Nat → Slots := (fun _ => [])
theorem masks_vc (x y z : Int) (w : World) (Post : Bool → World → Prop) : (rxFn C5 masks_vc_ann 9 [.agg ⟨[.int .u8 x, .int .u8 y, .int .u8 z]⟩] w Post) = (
 ∀ (w1 : World),
  Ext w w1 →
   (true = true ∧ (0 : Int) ≤ 0 ∧ 0 < (↑3 : Int)) ∧
    ∃ (x_1 : Int),
     rdAt
       (w1.alloc (Obj.cells { toList := [Value.int IntKind.u8 x, Value.int IntKind.u8 y, Value.int IntKind.u8 z] } 51))
       (addP (some { block := w1.heap.size, off := 0 }) 0) (El.one (Sc.int IntKind.u8)) x_1 ∧
      ∀ (x_2 : Int),
       x_2 = convI IntKind.i64 x_1 →
        ∀ (x_3 : Int),
         x_3 = remI x_2 62 →
          (true = true ∧ (0 : Int) ≤ 1 ∧ 1 < (↑3 : Int)) ∧
           ∃ (x_4 : Int),
            rdAt
              (w1.alloc
               (Obj.cells { toList := [Value.int IntKind.u8 x, Value.int IntKind.u8 y, Value.int IntKind.u8 z] } 51))
              (addP (some { block := w1.heap.size, off := 0 }) 1) (El.one (Sc.int IntKind.u8)) x_4 ∧
             ∀ (x_5 : Int),
              x_5 = convI IntKind.i64 x_4 →
               ∀ (x_6 : Int),
                x_6 = subI IntKind.i64 63 x_3 →
                 x_6 ≠ 0 ∧
                  ∀ (x_7 : Int),
                   x_7 = remI x_5 x_6 →
                    ∀ (x_8 : Int),
                     x_8 = addI IntKind.i64 1 x_7 →
                      (true = true ∧ (0 : Int) ≤ 2 ∧ 2 < (↑3 : Int)) ∧
                       ∃ (x_9 : Int),
                        rdAt
                          (w1.alloc
                           (Obj.cells
                            { toList := [Value.int IntKind.u8 x, Value.int IntKind.u8 y, Value.int IntKind.u8 z] } 51))
                          (addP (some { block := w1.heap.size, off := 0 }) 2) (El.one (Sc.int IntKind.u8)) x_9 ∧
                         ∀ (x_10 : Int),
                          x_10 = convI IntKind.i64 x_9 →
                           ∀ (x_11 : Int),
                            x_11 = subI IntKind.i64 64 x_3 →
                             ∀ (x_12 : Int),
                              x_12 = subI IntKind.i64 x_11 x_8 →
                               x_12 ≠ 0 ∧
                                ∀ (x_13 : Int),
                                 x_13 = remI x_10 x_12 →
                                  ∀ (x_14 : Int),
                                   x_14 = addI IntKind.i64 1 x_13 →
                                    True ∧
                                     ∀ (x_15 : Int),
                                      x_15 = U (maskB x_3 x_8) →
                                       ∀ (x_16 : Int),
                                        x_16 = addI IntKind.i64 x_3 x_8 →
                                         True ∧
                                          ∀ (x_17 : Int),
                                           x_17 = U (maskB x_16 x_14) →
                                            ∀ (w1_1 : World),
                                             Ext
                                               (w1.alloc
                                                (Obj.cells
                                                 {
                                                  toList :=
                                                   [Value.int IntKind.u8 x, Value.int IntKind.u8 y,
                                                    Value.int IntKind.u8 z] }
                                                 51))
                                               w1_1 →
                                              CallsR Try.prog 18 (Sh.el (El.one Sc.slice)) [Value.int IntKind.u64 x_15]
                                               w1_1 fun (x : Option Addr × Nat × Nat) (w2 : World) =>
                                               ∀ (x_18 : Int),
                                                x_18 = andI IntKind.u64 x_15 x_17 →
                                                 ∀ (x_19 : Int),
                                                  x_19 = orI IntKind.u64 x_15 x_17 →
                                                   ∀ (x_20 : Int),
                                                    x_20 = addI IntKind.i64 x_8 x_14 →
                                                     ((if true = true then x_18 == 0 else !x_18 == 0) = true → True) ∧
                                                      ∀ (x_21 : Int),
                                                       x_21 = U (maskB x_3 x_20) →
                                                        ∀ (x_22 : Int),
                                                         x_22 = (↑x.snd.fst : Int) →
                                                          ((if true = true then x_18 == 0 && x_19 == x_21 && x_22 == x_8
                                                             else !(x_18 == 0 && x_19 == x_21 && x_22 == x_8)) =
                                                             true →
                                                            x.fst.isSome = true ∧ (0 : Int) ≤ 0 ∧ 0 < (↑x.snd.fst : Int)) ∧
                                                           ∃ (x_23 : Int),
                                                            ((if true = true then
                                                                x_18 == 0 && x_19 == x_21 && x_22 == x_8
                                                               else !(x_18 == 0 && x_19 == x_21 && x_22 == x_8)) =
                                                               true →
                                                              rdAt w2 (addP x.fst 0) (El.one (Sc.int IntKind.i64))
                                                               x_23) ∧
                                                             ∀ (x_24 : Int),
                                                              x_24 = (↑x.snd.fst : Int) →
                                                               ∀ (x_25 : Int),
                                                                x_25 = subI IntKind.i64 x_24 1 →
                                                                 ((if true = true then
                                                                     x_18 == 0 && x_19 == x_21 && x_22 == x_8 &&
                                                                      x_23 == x_3
                                                                    else
                                                                     !(x_18 == 0 && x_19 == x_21 && x_22 == x_8 &&
                                                                       x_23 == x_3)) =
                                                                    true →
                                                                   x.fst.isSome = true ∧
                                                                    0 ≤ x_25 ∧ x_25 < (↑x.snd.fst : Int)) ∧
                                                                  ∃ (x_26 : Int),
                                                                   ((if true = true then
                                                                       x_18 == 0 && x_19 == x_21 && x_22 == x_8 &&
                                                                        x_23 == x_3
                                                                      else
                                                                       !(x_18 == 0 && x_19 == x_21 && x_22 == x_8 &&
                                                                         x_23 == x_3)) =
                                                                      true →
                                                                     rdAt w2 (addP x.fst (x_25.toNat * 1))
                                                                      (El.one (Sc.int IntKind.i64)) x_26) ∧
                                                                    ∀ (x : Int),
                                                                     x = addI IntKind.i64 x_3 x_8 →
                                                                      ∀ (x_27 : Int),
                                                                       x_27 = subI IntKind.i64 x 1 →
                                                                        ((if true = true then
                                                                            x_18 == 0 && x_19 == x_21 && x_22 == x_8 &&
                                                                              x_23 == x_3 &&
                                                                             x_26 == x_27
                                                                           else
                                                                            !(x_18 == 0 && x_19 == x_21 && x_22 == x_8 &&
                                                                               x_23 == x_3 &&
                                                                              x_26 == x_27)) =
                                                                           true →
                                                                          True) ∧
                                                                         ∀ (w1 : World),
                                                                          Ext w2 w1 →
                                                                           Post
                                                                            (x_18 == 0 && x_19 == x_21 && x_22 == x_8 &&
                                                                               x_23 == x_3 &&
                                                                              x_26 == x_27 &&
                                                                             true)
                                                                            w1) := by kernel_rfl
theorem beq_of' {a b : Int} (h : a = b) : (a == b) = true := by simp [h]
theorem masks_ok (x y z : Int) (hx : (Lit.int .u8 x).wf = true) (hy : (Lit.int .u8 y).wf = true) (hz : (Lit.int .u8 z).wf = true) (w : World) :
    CallsR Try.prog 9 (.el (.one .bool)) [.agg ⟨[.int .u8 x, .int .u8 y, .int .u8 z]⟩] w (fun b w' => b = true ∧ Ext w w') := by
  refine rxFn_ok (C := C5) (ann := masks_vc_ann) (Eq.mpr (masks_vc x y z w _) ?_)
  have bx := u8_wf hx
  have bY := u8_wf hy
  have bz := u8_wf hz
  intro w1 h1
  have blk : Blk (w1.alloc (.cells ⟨[Value.int .u8 x, Value.int .u8 y, Value.int .u8 z]⟩ 51)) w1.heap.size [Value.int .u8 x, Value.int .u8 y, Value.int .u8 z] := Blk.new w1 _ _
  refine ⟨⟨rfl, by decide, by decide⟩, x, by rw [addP_B]; exact blk.rd1 rfl, fun x2 e2 x3 e3 => ⟨⟨rfl, by decide, by decide⟩, y, by rw [addP_B]; exact blk.rd1 rfl, fun x5 e5 x6 e6 => ?_⟩⟩
  rw [conv_i64 (by omega) (by omega)] at e2 e5
  rw [e2, remI_nn (by omega)] at e3
  have hlo : 0 ≤ x3 ∧ x3 < 62 := by omega
  rw [subI_i64 (by omega) (by omega)] at e6
  refine ⟨by omega, fun x7 e7 x8 e8 => ⟨⟨rfl, by decide, by decide⟩, z, by rw [addP_B]; exact blk.rd1 rfl, fun x10 e10 x11 e11 x12 e12 => ?_⟩⟩
  rw [e5, remI_nn (by omega)] at e7
  have h7 : 0 ≤ x7 ∧ x7 < x6 := by
    rw [e7]; exact ⟨Int.emod_nonneg _ (by omega), Int.emod_lt_of_pos _ (by omega)⟩
  rw [addI_i64 (by omega) (by omega)] at e8
  rw [conv_i64 (by omega) (by omega)] at e10
  rw [subI_i64 (by omega) (by omega)] at e11
  rw [subI_i64 (by omega) (by omega)] at e12
  refine ⟨by omega, fun x13 e13 x14 e14 => ?_⟩
  rw [e10, remI_nn (by omega)] at e13
  have h13 : 0 ≤ x13 ∧ x13 < x12 := by
    rw [e13]; exact ⟨Int.emod_nonneg _ (by omega), Int.emod_lt_of_pos _ (by omega)⟩
  rw [addI_i64 (by omega) (by omega)] at e14
  have f1 : fitsI x3 x8 = true := fitsI_iff.2 (by omega)
  refine ⟨trivial, fun x15 e15 x16 e16 => ⟨trivial, fun x17 e17 w2 h2 => ?_⟩⟩
  rw [addI_i64 (by omega) (by omega)] at e16
  have f2 : fitsI (x3 + x8) x14 = true := fitsI_iff.2 (by omega)
  have n1 := fits_nat f1
  subst e15; subst e16; subst e17
  refine (onesf_ok (maskB x3 x8) w2).mono ?_
  rintro ⟨p, n, c⟩ w3 ⟨ho, h3⟩
  have hl : n = (embN (onesL (maskB x3 x8))).length := ho.len
  rw [ones_mask f1] at ho hl
  have hln : n = x8.toNat := by rw [hl]; simp [embN]
  have rd : ∀ i, i < n → p.isSome = true ∧ rdAt w3 (addP p (i * 1)) (.one (.int .i64)) ((x3.toNat + i : Nat) : Int) := fun i hi => ho.sl i _ (by
    simp only [embN, List.getElem?_map]
    rw [List.getElem?_range' (by omega)]
    simp)
  have r0 := rd 0 (by omega)
  have rl := rd (n - 1) (by omega)
  dsimp only
  intro x18 e18 x19 e19 x20 e20
  rw [andI_U, masks_apart f1 f2] at e18
  rw [orI_U, masks_join f1 f2] at e19
  rw [addI_i64 (by omega) (by omega)] at e20
  refine ⟨fun _ => trivial, fun x21 e21 x22 e22 => ⟨fun _ => ⟨r0.1, by decide, by omega⟩, ((x3.toNat + 0 : Nat) : Int), fun _ => by have := r0.2; rwa [Nat.zero_mul] at this, fun x24 e24 x25 e25 => ?_⟩⟩
  rw [subI_i64 (by omega) (by omega)] at e25
  have e25' : x25.toNat = n - 1 := by omega
  refine ⟨fun _ => ⟨r0.1, by omega, by omega⟩, ((x3.toNat + (n - 1) : Nat) : Int), fun _ => by rw [e25']; exact rl.2, fun x26 e26 x27 e27 => ⟨fun _ => trivial, fun w4 h4 => ⟨?_, (((h1.allocd _).trans h2).trans h3).trans h4⟩⟩⟩
  rw [addI_i64 (by omega) (by omega)] at e26
  rw [subI_i64 (by omega) (by omega)] at e27
  rw [beq_of' (show x18 = 0 by rw [e18]; rfl), beq_of' (show x19 = x21 by rw [e19, e21, e20]), beq_of' (show x22 = x8 by omega), beq_of' (show ((x3.toNat + 0 : Nat) : Int) = x3 by omega), beq_of' (show ((x3.toNat + (n - 1) : Nat) : Int) = x27 by omega)]
  rfl
theorem masks_row (x : ScsT [.int .u8, .int .u8, .int .u8]) (hx : okScs [.int .u8, .int .u8, .int .u8] x) (w : World) :
    CallsR Try.prog 9 (.el (.one .bool)) [.agg ⟨scsEmb _ x⟩] w (fun b w' => b = true ∧ Ext w w') :=
  masks_ok x.1 x.2.1 x.2.2.1 hx.1 hx.2.1 hx.2.2.1 w
end Go.Proofs.Ytmdcalknhbhlcaa
