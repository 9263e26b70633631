import Derived.Test.YtmdcalknhbhlcaaLaw
import Derived.Test.YtmdcalknhbhlcaaPlain
import Derived.Test.YtmdcalknhbhlcaaLift
namespace Go.Proofs.Ytmdcalknhbhlcaa
open Go.RX
def back_vc_ann : Nat → Slots := (fun _ => [])
theorem back_vc (v x y z : Int) (w : World) (Post : Bool → World → Prop) : (rxFn C5 back_vc_ann 5 [.int .u64 v, .agg ⟨[.int .u8 x, .int .u8 y]⟩, .int .u64 z] w Post) = (
 ∀ (w1 : World),
  Ext w w1 →
   (true = true ∧ (0 : Int) ≤ 0 ∧ 0 < (↑2 : Int)) ∧
    ∃ (x_1 : Int),
     rdAt (w1.alloc (Obj.cells { toList := [Value.int IntKind.u8 x, Value.int IntKind.u8 y] } 42))
       (addP (some { block := w1.heap.size, off := 0 }) 0) (El.one (Sc.int IntKind.u8)) x_1 ∧
      ∀ (x_2 : Int),
       x_2 = convI IntKind.i64 x_1 →
        ∀ (x_3 : Int),
         x_3 = remI x_2 64 →
          (true = true ∧ (0 : Int) ≤ 1 ∧ 1 < (↑2 : Int)) ∧
           ∃ (x_4 : Int),
            rdAt (w1.alloc (Obj.cells { toList := [Value.int IntKind.u8 x, Value.int IntKind.u8 y] } 42))
              (addP (some { block := w1.heap.size, off := 0 }) 1) (El.one (Sc.int IntKind.u8)) x_4 ∧
             ∀ (x_5 : Int),
              x_5 = convI IntKind.i64 x_4 →
               ∀ (x_6 : Int),
                x_6 = subI IntKind.i64 64 x_3 →
                 x_6 ≠ 0 ∧
                  ∀ (x_7 : Int),
                   x_7 = remI x_5 x_6 →
                    ∀ (x_8 : Int),
                     x_8 = addI IntKind.i64 1 x_7 →
                      True ∧
                       ∀ (x_9 : Int),
                        x_9 = U (maskB x_3 x_8) →
                         (U (B v) = v ∧ U (B z) = z) ∧
                          ∀ (x_10 : Int),
                           x_10 = U (putB (B v) x_3 x_8 (B z)) →
                            U (B x_10) = x_10 ∧
                             ∀ (x_11 : Int),
                              x_11 = U (getB (B x_10) x_3 x_8) →
                               ∀ (x_12 : Int),
                                x_12 = subI IntKind.i64 64 x_8 →
                                 ∀ (x_13 : Int),
                                  x_13 = convI IntKind.u64 x_12 →
                                   0 ≤ x_13 ∧
                                    ∀ (x_14 : Int),
                                     x_14 = shlI IntKind.u64 z x_13 →
                                      ∀ (x_15 : Int),
                                       x_15 = subI IntKind.i64 64 x_8 →
                                        ∀ (x_16 : Int),
                                         x_16 = convI IntKind.u64 x_15 →
                                          0 ≤ x_16 ∧
                                           ∀ (x_17 : Int),
                                            x_17 = shrI IntKind.u64 x_14 x_16 →
                                             ∀ (x_18 : Int),
                                              x_18 = andNotI IntKind.u64 x_10 x_9 →
                                               ∀ (x_19 : Int),
                                                x_19 = andNotI IntKind.u64 v x_9 →
                                                 ((if true = true then x_11 == x_17 && x_18 == x_19
                                                    else !(x_11 == x_17 && x_18 == x_19)) =
                                                    true →
                                                   U (B x_9) = x_9) ∧
                                                  ∀ (x_20 : Int),
                                                   x_20 = (↑(onesL (B x_9)).length : Int) →
                                                    ((if true = true then x_11 == x_17 && x_18 == x_19 && x_20 == x_8
                                                       else !(x_11 == x_17 && x_18 == x_19 && x_20 == x_8)) =
                                                       true →
                                                      U (B v) = v) ∧
                                                     ∀ (x_21 : Int),
                                                      x_21 = U (getB (B v) x_3 x_8) →
                                                       ((if true = true then x_11 == x_17 && x_18 == x_19 && x_20 == x_8
                                                          else !(x_11 == x_17 && x_18 == x_19 && x_20 == x_8)) =
                                                          true →
                                                         U (B x_10) = x_10 ∧ U (B x_21) = x_21) ∧
                                                        ∀ (x_22 : Int),
                                                         x_22 = U (putB (B x_10) x_3 x_8 (B x_21)) →
                                                          ((if true = true then
                                                              x_11 == x_17 && x_18 == x_19 && x_20 == x_8 && x_22 == v
                                                             else
                                                              !(x_11 == x_17 && x_18 == x_19 && x_20 == x_8 &&
                                                                x_22 == v)) =
                                                             true →
                                                            True) ∧
                                                           ∀ (w1_1 : World),
                                                            Ext
                                                              (w1.alloc
                                                               (Obj.cells
                                                                {
                                                                 toList :=
                                                                  [Value.int IntKind.u8 x, Value.int IntKind.u8 y] }
                                                                42))
                                                              w1_1 →
                                                             Post
                                                              (x_11 == x_17 && x_18 == x_19 && x_20 == x_8 &&
                                                                x_22 == v &&
                                                               true)
                                                              w1_1) := by kernel_rfl
theorem beq_of {a b : Int} (h : a = b) : (a == b) = true := by simp [h]
theorem back_ok (v : BitVec 64) (x y : Int) (z : BitVec 64) (hx : (Lit.int .u8 x).wf = true) (hy : (Lit.int .u8 y).wf = true) (w : World) :
    CallsR Try.prog 5 (.el (.one .bool)) [.int .u64 (U v), .agg ⟨[.int .u8 x, .int .u8 y]⟩, .int .u64 (U z)] w (fun b w' => b = true ∧ Ext w w') := by
  refine rxFn_ok (C := C5) (ann := back_vc_ann) (Eq.mpr (back_vc (U v) x y (U z) w _) ?_)
  have bx := u8_wf hx
  have bY := u8_wf hy
  intro w1 h1
  have blk : Blk (w1.alloc (.cells ⟨[Value.int .u8 x, Value.int .u8 y]⟩ 42)) w1.heap.size [Value.int .u8 x, Value.int .u8 y] := Blk.new w1 _ _
  have r0 : rdAt (w1.alloc (.cells ⟨[Value.int .u8 x, Value.int .u8 y]⟩ 42)) (addP (some ⟨w1.heap.size, 0, none⟩) 0) (.one (.int .u8)) x := by rw [addP_B]; exact blk.rd1 rfl
  have r1 : rdAt (w1.alloc (.cells ⟨[Value.int .u8 x, Value.int .u8 y]⟩ 42)) (addP (some ⟨w1.heap.size, 0, none⟩) 1) (.one (.int .u8)) y := by rw [addP_B]; exact blk.rd1 rfl
  refine ⟨⟨rfl, by decide, by decide⟩, x, r0, fun x2 e2 x3 e3 => ⟨⟨rfl, by decide, by decide⟩, y, r1, fun x5 e5 x6 e6 => ?_⟩⟩
  rw [conv_i64 (by omega) (by omega)] at e2 e5
  rw [e2, remI_nn (by omega)] at e3
  have hlo : 0 ≤ x3 ∧ x3 < 64 := by omega
  rw [subI_i64 (by omega) (by omega)] at e6
  refine ⟨by omega, fun x7 e7 x8 e8 => ?_⟩
  rw [e5, remI_nn (by omega)] at e7
  have h7 : 0 ≤ x7 ∧ x7 < x6 := by
    rw [e7]; exact ⟨Int.emod_nonneg _ (by omega), Int.emod_lt_of_pos _ (by omega)⟩
  rw [addI_i64 (by omega) (by omega)] at e8
  have hf : fitsI x3 x8 = true := fitsI_iff.2 (by omega)
  refine ⟨trivial, fun x9 e9 => ⟨⟨by rw [B_U], by rw [B_U]⟩, fun x10 e10 => ?_⟩⟩
  rw [B_U, B_U] at e10
  subst e9; subst e10
  rw [B_U]
  refine ⟨rfl, fun x11 e11 x12 e12 x13 e13 => ?_⟩
  rw [subI_i64 (by omega) (by omega)] at e12
  rw [conv_u64 (by omega) (by omega)] at e13
  refine ⟨by omega, fun x14 e14 x15 e15 x16 e16 => ?_⟩
  rw [subI_i64 (by omega) (by omega)] at e15
  rw [conv_u64 (by omega) (by omega)] at e16
  refine ⟨by omega, fun x17 e17 x18 e18 x19 e19 => ⟨fun _ => by rw [B_U], fun x20 e20 => ⟨fun _ => by rw [B_U], fun x21 e21 => ⟨fun _ => ?_, fun x22 e22 => ⟨fun _ => trivial, fun w2 h2 => ⟨?_, (h1.allocd _).trans h2⟩⟩⟩⟩⟩⟩
  · rw [e21, B_U]; exact ⟨rfl, rfl⟩
  · have t1 : x11 = x17 := by
      rw [e11, e17, e14, shlI_U, shrI_U, get_put hf, e16, e15, e13, e12]
      congr 3 <;> omega
    have t2 : x18 = x19 := by rw [e18, e19, andNotI_U, andNotI_U, put_beside hf]
    have t3 : x20 = x8 := by rw [e20, B_U, count_mask hf]; omega
    have t4 : x22 = U v := by rw [e22, e21, B_U, B_U, put_get hf]
    rw [beq_of t1, beq_of t2, beq_of t3, beq_of t4]; rfl
theorem back_row (v : BitVec 64) (x : ScsT [.int .u8, .int .u8]) (hx : okScs [.int .u8, .int .u8] x) (z : BitVec 64) (w : World) :
    CallsR Try.prog 5 (.el (.one .bool)) [.int .u64 (U v), .agg ⟨scsEmb _ x⟩, .int .u64 (U z)] w (fun b w' => b = true ∧ Ext w w') :=
  back_ok v x.1 x.2.1 z hx.1 hx.2.1 w
end Go.Proofs.Ytmdcalknhbhlcaa
