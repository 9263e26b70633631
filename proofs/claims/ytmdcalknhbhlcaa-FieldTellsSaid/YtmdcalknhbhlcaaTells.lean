import Derived.Test.YtmdcalknhbhlcaaLaw
import Derived.Test.YtmdcalknhbhlcaaPlain
import Derived.Test.YtmdcalknhbhlcaaLift
namespace Go.Proofs.Ytmdcalknhbhlcaa
open Go.RX
def tells_vc_ann : Nat → Slots := (fun _ => [])
theorem tells_vc (v x y z : Int) (w : World) (Post : Bool → World → Prop) : (rxFn C5 tells_vc_ann 3 [.int .u64 v, .agg ⟨[.int .i64 x, .int .i64 y]⟩, .int .u64 z] w Post) = (
 ∀ (w1 : World),
  Ext w w1 →
   ∀ (w1_1 : World),
    Ext (w1.alloc (Obj.cells { toList := [Value.int IntKind.i64 x, Value.int IntKind.i64 y] } 23)) w1_1 →
     CallsR Try.prog 10 (Sh.el (El.one Sc.slice)) [Value.int IntKind.u64 v] w1_1
      fun (x : Option Addr × Nat × Nat) (w2 : World) =>
      (true = true ∧ (0 : Int) ≤ 0 ∧ 0 < (↑2 : Int)) ∧
       ∃ (x_1 : Int),
        rdAt w2 (addP (some { block := w1.heap.size, off := 0 }) 0) (El.one (Sc.int IntKind.i64)) x_1 ∧
         (true = true ∧ (0 : Int) ≤ 1 ∧ 1 < (↑2 : Int)) ∧
          ∃ (x_2 : Int),
           rdAt w2 (addP (some { block := w1.heap.size, off := 0 }) 1) (El.one (Sc.int IntKind.i64)) x_2 ∧
            U (B v) = v ∧
             ∀ (x_3 : Int),
              x_3 = U (getB (B v) x_1 x_2) →
               (true = true ∧ (0 : Int) ≤ 0 ∧ 0 < (↑2 : Int)) ∧
                ∃ (x_4 : Int),
                 rdAt w2 (addP (some { block := w1.heap.size, off := 0 }) 0) (El.one (Sc.int IntKind.i64)) x_4 ∧
                  (true = true ∧ (0 : Int) ≤ 1 ∧ 1 < (↑2 : Int)) ∧
                   ∃ (x_5 : Int),
                    rdAt w2 (addP (some { block := w1.heap.size, off := 0 }) 1) (El.one (Sc.int IntKind.i64)) x_5 ∧
                     U (B v) = v ∧
                      ∀ (x_6 : Int),
                       x_6 = U (getB (B v) x_4 x_5) →
                        ((x_3 == x_6) = true → true = true ∧ (0 : Int) ≤ 0 ∧ 0 < (↑2 : Int)) ∧
                         ∃ (x_7 : Int),
                          ((x_3 == x_6) = true →
                            rdAt w2 (addP (some { block := w1.heap.size, off := 0 }) 0) (El.one (Sc.int IntKind.i64))
                             x_7) ∧
                           ((x_3 == x_6) = true → true = true ∧ (0 : Int) ≤ 1 ∧ 1 < (↑2 : Int)) ∧
                            ∃ (x_8 : Int),
                             ((x_3 == x_6) = true →
                               rdAt w2 (addP (some { block := w1.heap.size, off := 0 }) 1) (El.one (Sc.int IntKind.i64))
                                x_8) ∧
                              ((x_3 == x_6) = true → U (B v) = v ∧ U (B z) = z) ∧
                               ∀ (x_9 : Int),
                                x_9 = U (putB (B v) x_7 x_8 (B z)) →
                                 ((x_3 == x_6) = true → true = true ∧ (0 : Int) ≤ 0 ∧ 0 < (↑2 : Int)) ∧
                                  ∃ (x_10 : Int),
                                   ((x_3 == x_6) = true →
                                     rdAt w2 (addP (some { block := w1.heap.size, off := 0 }) 0)
                                      (El.one (Sc.int IntKind.i64)) x_10) ∧
                                    ((x_3 == x_6) = true → true = true ∧ (0 : Int) ≤ 1 ∧ 1 < (↑2 : Int)) ∧
                                     ∃ (x_11 : Int),
                                      ((x_3 == x_6) = true →
                                        rdAt w2 (addP (some { block := w1.heap.size, off := 0 }) 1)
                                         (El.one (Sc.int IntKind.i64)) x_11) ∧
                                       ((x_3 == x_6) = true → U (B v) = v ∧ U (B z) = z) ∧
                                        ∀ (x_12 : Int),
                                         x_12 = U (putB (B v) x_10 x_11 (B z)) →
                                          ((x_3 == x_6 && x_9 == x_12) = true → true = true ∧ (0 : Int) ≤ 0 ∧ 0 < (↑2 : Int)) ∧
                                           ∃ (x_13 : Int),
                                            ((x_3 == x_6 && x_9 == x_12) = true →
                                              rdAt w2 (addP (some { block := w1.heap.size, off := 0 }) 0)
                                               (El.one (Sc.int IntKind.i64)) x_13) ∧
                                             ((x_3 == x_6 && x_9 == x_12) = true →
                                               true = true ∧ (0 : Int) ≤ 1 ∧ 1 < (↑2 : Int)) ∧
                                              ∃ (x_14 : Int),
                                               ((x_3 == x_6 && x_9 == x_12) = true →
                                                 rdAt w2 (addP (some { block := w1.heap.size, off := 0 }) 1)
                                                  (El.one (Sc.int IntKind.i64)) x_14) ∧
                                                ((x_3 == x_6 && x_9 == x_12) = true → True) ∧
                                                 ∀ (x_15 : Int),
                                                  x_15 = U (maskB x_13 x_14) →
                                                   ((x_3 == x_6 && x_9 == x_12) = true →
                                                     true = true ∧ (0 : Int) ≤ 0 ∧ 0 < (↑2 : Int)) ∧
                                                    ∃ (x_16 : Int),
                                                     ((x_3 == x_6 && x_9 == x_12) = true →
                                                       rdAt w2 (addP (some { block := w1.heap.size, off := 0 }) 0)
                                                        (El.one (Sc.int IntKind.i64)) x_16) ∧
                                                      ((x_3 == x_6 && x_9 == x_12) = true →
                                                        true = true ∧ (0 : Int) ≤ 1 ∧ 1 < (↑2 : Int)) ∧
                                                       ∃ (x_17 : Int),
                                                        ((x_3 == x_6 && x_9 == x_12) = true →
                                                          rdAt w2 (addP (some { block := w1.heap.size, off := 0 }) 1)
                                                           (El.one (Sc.int IntKind.i64)) x_17) ∧
                                                         ((x_3 == x_6 && x_9 == x_12) = true → True) ∧
                                                          ∀ (x_18 : Int),
                                                           x_18 = U (maskB x_16 x_17) →
                                                            brP (x_3 == x_6 && x_9 == x_12 && x_15 == x_18)
                                                             (∀ (w1 : World),
                                                              Ext w2 w1 →
                                                               CallsR Try.prog 18 (Sh.el (El.one Sc.slice))
                                                                [Value.int IntKind.u64 v] w1
                                                                fun (x_19 : Option Addr × Nat × Nat) (w2 : World) =>
                                                                ∀ (w1 : World),
                                                                 Ext w2 w1 →
                                                                  CallsR Try.prog 17 (Sh.el (El.one Sc.bool))
                                                                   [Value.slice x_19.fst x_19.snd.fst x_19.snd.snd,
                                                                    Value.slice x.fst x.snd.fst x.snd.snd]
                                                                   w1 fun (x_20 : Bool) (w2 : World) =>
                                                                   (x_20 = true → U (B v) = v) ∧
                                                                    ∀ (x_21 : Int),
                                                                     x_21 = (↑(onesL (B v)).length : Int) →
                                                                      ∀ (x_22 : Int),
                                                                       x_22 = (↑x.snd.fst : Int) →
                                                                        ((x_20 && x_21 == x_22) = true → True) ∧
                                                                         ∀ (w1 : World),
                                                                          Ext w2 w1 →
                                                                           Post (x_20 && x_21 == x_22 && true) w1)
                                                             ((false = true → U (B v) = v) ∧
                                                              ∀ (x_19 : Int),
                                                               x_19 = (↑(onesL (B v)).length : Int) →
                                                                ∀ (x_20 : Int),
                                                                 x_20 = (↑x.snd.fst : Int) →
                                                                  (false = true → True) ∧
                                                                   ∀ (w1 : World), Ext w2 w1 → Post false w1)) := by kernel_rfl
theorem tells_row (v : BitVec 64) (a : ScsT [.int .i64, .int .i64]) (_ : okScs [.int .i64, .int .i64] a) (z : BitVec 64) (w : World) :
    CallsR Try.prog 3 (.el (.one .bool)) [.int .u64 (U v), .agg ⟨scsEmb _ a⟩, .int .u64 (U z)] w (fun b w' => b = true ∧ Ext w w') := by
  obtain ⟨x, y, _⟩ := a
  refine rxFn_ok (C := C5) (ann := tells_vc_ann) (Eq.mpr (tells_vc (U v) x y (U z) w _) ?_)
  intro w1 h1 w2 h2
  have blk : Blk w2 w1.heap.size [Value.int .i64 x, Value.int .i64 y] := (Blk.new w1 _ _).ext h2
  refine (rones_ok v w2).mono ?_
  rintro ⟨p, n, c⟩ w3 ⟨ho, h3⟩
  have hl := onesL_len v
  have hn : n = (onesL v).length := by have := ho.len; simpa [embN] using this
  have r0 : rdAt w3 (addP (some ⟨w1.heap.size, 0, none⟩) 0) (.one (.int .i64)) x := by rw [addP_B]; exact (blk.ext h3).rd1 rfl
  have r1 : rdAt w3 (addP (some ⟨w1.heap.size, 0, none⟩) 1) (.one (.int .i64)) y := by rw [addP_B]; exact (blk.ext h3).rd1 rfl
  have i0 : true = true ∧ (0 : Int) ≤ 0 ∧ (0 : Int) < 2 := by decide
  have i1 : true = true ∧ (0 : Int) ≤ 1 ∧ (1 : Int) < 2 := by decide
  have bv : U (B (U v)) = U v := by rw [B_U]
  have bz : U (B (U z)) = U z := by rw [B_U]
  dsimp only
  refine ⟨i0, x, r0, i1, y, r1, bv, fun x3 e3 => ⟨i0, x, r0, i1, y, r1, bv, fun x6 e6 => ⟨fun _ => i0, x, fun _ => r0, fun _ => i1, y, fun _ => r1, fun _ => ⟨bv, bz⟩, fun x9 e9 => ⟨fun _ => i0, x, fun _ => r0, fun _ => i1, y, fun _ => r1, fun _ => ⟨bv, bz⟩, fun x12 e12 => ⟨fun _ => i0, x, fun _ => r0, fun _ => i1, y, fun _ => r1, fun _ => trivial, fun x15 e15 => ⟨fun _ => i0, x, fun _ => r0, fun _ => i1, y, fun _ => r1, fun _ => trivial, fun x18 e18 => ?_⟩⟩⟩⟩⟩⟩
  subst e3; subst e6; subst e9; subst e12; subst e15; subst e18
  refine tt_intro (by simp) fun w4 h4 => ?_
  refine (onesf_ok v w4).mono ?_
  rintro ⟨q, m, d⟩ w5 ⟨hq, h5⟩ w6 h6
  dsimp only
  have lm : m = (embN (onesL v)).length := hq.len
  have ln : n = (embN (onesL v)).length := ho.len
  have lb : (embN (onesL v)).length ≤ 64 := by simpa [embN] using hl
  refine (ints_ok (hq.sl.ext h6) lm ((ho.sl.ext (h4.trans h5)).ext h6) ln (by omega)).mono ?_
  rintro b w7 ⟨hb, h7⟩
  refine ⟨fun _ => bv, fun x21 e21 x22 e22 => ⟨fun _ => trivial, fun w8 h8 => ⟨?_, (((((h1.allocd _).trans h2).trans h3).trans h4).trans h5).trans ((h6.trans h7).trans h8)⟩⟩⟩
  rw [B_U] at e21
  have : x21 = x22 := by rw [e21, e22, hn]
  subst this
  simp [hb]
end Go.Proofs.Ytmdcalknhbhlcaa
