import Derived.Test.YtmdcalknhbhlcaaLaw
import Derived.Test.YtmdcalknhbhlcaaPlain
import Derived.Test.YtmdcalknhbhlcaaLift
namespace Go.Proofs.Ytmdcalknhbhlcaa
open Go.RX
def apart_vc_ann : Nat → Slots := (fun _ => [])
theorem apart_vc (v x y z a b : Int) (w : World) (Post : Bool → World → Prop) : (rxFn C5 apart_vc_ann 8 [.int .u64 v, .agg ⟨[.int .u8 x, .int .u8 y, .int .u8 z]⟩, .agg ⟨[.int .u64 a, .int .u64 b]⟩] w Post) = (
 ∀ (w1 : World),
  Ext w w1 →
   ∀ (w1_1 : World),
    Ext (w1.alloc (Obj.cells { toList := [Value.int IntKind.u8 x, Value.int IntKind.u8 y, Value.int IntKind.u8 z] } 51)) w1_1 →
     (true = true ∧ (0 : Int) ≤ 0 ∧ 0 < (↑3 : Int)) ∧
      ∃ (x : Int),
       rdAt (w1_1.alloc (Obj.cells { toList := [Value.int IntKind.u64 a, Value.int IntKind.u64 b] } 52)) (addP (some { block := w1.heap.size, off := 0 }) 0) (El.one (Sc.int IntKind.u8)) x ∧
        ∀ (x_1 : Int),
         x_1 = convI IntKind.i64 x →
          ∀ (x : Int),
           x = remI x_1 32 →
            ∀ (x_2 : Int),
             x_2 = addI IntKind.i64 1 x →
              (true = true ∧ (0 : Int) ≤ 1 ∧ 1 < (↑3 : Int)) ∧
               ∃ (x : Int),
                rdAt (w1_1.alloc (Obj.cells { toList := [Value.int IntKind.u64 a, Value.int IntKind.u64 b] } 52)) (addP (some { block := w1.heap.size, off := 0 }) 1) (El.one (Sc.int IntKind.u8)) x ∧
                 ∀ (x_3 : Int),
                  x_3 = convI IntKind.i64 x →
                   ∀ (x : Int),
                    x = remI x_3 31 →
                     ∀ (x_4 : Int),
                      x_4 = addI IntKind.i64 32 x →
                       (true = true ∧ (0 : Int) ≤ 2 ∧ 2 < (↑3 : Int)) ∧
                        ∃ (x : Int),
                         rdAt (w1_1.alloc (Obj.cells { toList := [Value.int IntKind.u64 a, Value.int IntKind.u64 b] } 52)) (addP (some { block := w1.heap.size, off := 0 }) 2) (El.one (Sc.int IntKind.u8)) x ∧
                          ∀ (x_5 : Int),
                           x_5 = convI IntKind.i64 x →
                            ∀ (x : Int),
                             x = subI IntKind.i64 64 x_4 →
                              x ≠ 0 ∧
                               ∀ (x_6 : Int),
                                x_6 = remI x_5 x →
                                 ∀ (x : Int),
                                  x = addI IntKind.i64 1 x_6 →
                                   ∀ (x_7 : Int),
                                    x_7 = minI x x_2 →
                                     ∀ (x_8 : Int),
                                      x_8 = subI IntKind.i64 x_2 x_7 →
                                       (true = true ∧ (0 : Int) ≤ 0 ∧ 0 < (↑2 : Int)) ∧
                                        ∃ (x_9 : Int),
                                         rdAt (w1_1.alloc (Obj.cells { toList := [Value.int IntKind.u64 a, Value.int IntKind.u64 b] } 52)) (addP (some { block := w1_1.heap.size, off := 0 }) 0) (El.one (Sc.int IntKind.u64)) x_9 ∧
                                          (U (B v) = v ∧ U (B x_9) = x_9) ∧
                                           ∀ (x_10 : Int),
                                            x_10 = U (putB (B v) x_8 x_7 (B x_9)) →
                                             (true = true ∧ (0 : Int) ≤ 1 ∧ 1 < (↑2 : Int)) ∧
                                              ∃ (x_11 : Int),
                                               rdAt (w1_1.alloc (Obj.cells { toList := [Value.int IntKind.u64 a, Value.int IntKind.u64 b] } 52)) (addP (some { block := w1_1.heap.size, off := 0 }) 1) (El.one (Sc.int IntKind.u64)) x_11 ∧
                                                (U (B x_10) = x_10 ∧ U (B x_11) = x_11) ∧
                                                 ∀ (x_12 : Int),
                                                  x_12 = U (putB (B x_10) x_4 x (B x_11)) →
                                                   (true = true ∧ (0 : Int) ≤ 1 ∧ 1 < (↑2 : Int)) ∧
                                                    ∃ (x_13 : Int),
                                                     rdAt (w1_1.alloc (Obj.cells { toList := [Value.int IntKind.u64 a, Value.int IntKind.u64 b] } 52)) (addP (some { block := w1_1.heap.size, off := 0 }) 1) (El.one (Sc.int IntKind.u64)) x_13 ∧
                                                      (U (B v) = v ∧ U (B x_13) = x_13) ∧
                                                       ∀ (x_14 : Int),
                                                        x_14 = U (putB (B v) x_4 x (B x_13)) →
                                                         ∀ (x_15 : Int),
                                                          x_15 = subI IntKind.i64 x_2 x_7 →
                                                           (true = true ∧ (0 : Int) ≤ 0 ∧ 0 < (↑2 : Int)) ∧
                                                            ∃ (x_16 : Int),
                                                             rdAt (w1_1.alloc (Obj.cells { toList := [Value.int IntKind.u64 a, Value.int IntKind.u64 b] } 52)) (addP (some { block := w1_1.heap.size, off := 0 }) 0) (El.one (Sc.int IntKind.u64)) x_16 ∧
                                                              (U (B x_14) = x_14 ∧ U (B x_16) = x_16) ∧
                                                               ∀ (x_17 : Int),
                                                                x_17 = U (putB (B x_14) x_15 x_7 (B x_16)) →
                                                                 ∀ (x_18 : Int),
                                                                  x_18 = subI IntKind.i64 x_2 x_7 →
                                                                   ((x_12 == x_17) = true → U (B x_12) = x_12) ∧
                                                                    ∀ (x_19 : Int),
                                                                     x_19 = U (getB (B x_12) x_18 x_7) →
                                                                      ((x_12 == x_17) = true → true = true ∧ (0 : Int) ≤ 0 ∧ 0 < (↑2 : Int)) ∧
                                                                       ∃ (x_20 : Int),
                                                                        ((x_12 == x_17) = true →
                                                                          rdAt (w1_1.alloc (Obj.cells { toList := [Value.int IntKind.u64 a, Value.int IntKind.u64 b] } 52)) (addP (some { block := w1_1.heap.size, off := 0 }) 0)
                                                                           (El.one (Sc.int IntKind.u64)) x_20) ∧
                                                                         ((x_12 == x_17) = true → U (B 0) = 0 ∧ U (B x_20) = x_20) ∧
                                                                          ∀ (x_21 : Int),
                                                                           x_21 = U (putB (B 0) 0 x_7 (B x_20)) →
                                                                            ((x_12 == x_17) = true → U (B x_21) = x_21) ∧
                                                                             ∀ (x_22 : Int),
                                                                              x_22 = U (getB (B x_21) 0 x_7) →
                                                                               ((x_12 == x_17 && x_19 == x_22) = true → U (B x_12) = x_12) ∧
                                                                                ∀ (x_23 : Int),
                                                                                 x_23 = U (getB (B x_12) x_4 x) →
                                                                                  ((x_12 == x_17 && x_19 == x_22) = true → true = true ∧ (0 : Int) ≤ 1 ∧ 1 < (↑2 : Int)) ∧
                                                                                   ∃ (x_24 : Int),
                                                                                    ((x_12 == x_17 && x_19 == x_22) = true →
                                                                                      rdAt (w1_1.alloc (Obj.cells { toList := [Value.int IntKind.u64 a, Value.int IntKind.u64 b] } 52)) (addP (some { block := w1_1.heap.size, off := 0 }) 1)
                                                                                       (El.one (Sc.int IntKind.u64)) x_24) ∧
                                                                                     ((x_12 == x_17 && x_19 == x_22) = true → U (B 0) = 0 ∧ U (B x_24) = x_24) ∧
                                                                                      ∀ (x_25 : Int),
                                                                                       x_25 = U (putB (B 0) 0 x (B x_24)) →
                                                                                        ((x_12 == x_17 && x_19 == x_22) = true → U (B x_25) = x_25) ∧
                                                                                         ∀ (x_26 : Int),
                                                                                          x_26 = U (getB (B x_25) 0 x) →
                                                                                           ((x_12 == x_17 && x_19 == x_22 && x_23 == x_26) = true → True) ∧
                                                                                            ∀ (w1 : World),
                                                                                             Ext (w1_1.alloc (Obj.cells { toList := [Value.int IntKind.u64 a, Value.int IntKind.u64 b] } 52)) w1 →
                                                                                              Post (x_12 == x_17 && x_19 == x_22 && x_23 == x_26 && true) w1) := by kernel_rfl
theorem apart_row (v : BitVec 64) (p : ScsT [.int .u8, .int .u8, .int .u8]) (hp : okScs [.int .u8, .int .u8, .int .u8] p) (q : ScsT [.int .u64, .int .u64]) (hq : okScs [.int .u64, .int .u64] q) (w : World) :
    CallsR Try.prog 8 (.el (.one .bool)) [.int .u64 (U v), .agg ⟨scsEmb _ p⟩, .agg ⟨scsEmb _ q⟩] w (fun b w' => b = true ∧ Ext w w') := by
  obtain ⟨x, y, z, _⟩ := p
  obtain ⟨a', b', _⟩ := q
  obtain ⟨a, rfl⟩ := of_wf_u64 hq.1
  obtain ⟨b, rfl⟩ := of_wf_u64 hq.2.1
  have bx := u8_wf hp.1
  have bY := u8_wf hp.2.1
  have bz := u8_wf hp.2.2.1
  simp only at bx bY bz
  refine rxFn_ok (C := C5) (ann := apart_vc_ann) (Eq.mpr (apart_vc (U v) x y z (U a) (U b) w _) ?_)
  intro w1 h1 w2 h2
  have blk : Blk (w2.alloc (.cells ⟨[Value.int .u64 (U a), Value.int .u64 (U b)]⟩ 52)) w1.heap.size [Value.int .u8 x, Value.int .u8 y, Value.int .u8 z] := ((Blk.new w1 _ _).ext h2).ext (Ext.alloc _ _)
  have blq : Blk (w2.alloc (.cells ⟨[Value.int .u64 (U a), Value.int .u64 (U b)]⟩ 52)) w2.heap.size [Value.int .u64 (U a), Value.int .u64 (U b)] := Blk.new w2 _ _
  have r0 : rdAt (w2.alloc (.cells ⟨[Value.int .u64 (U a), Value.int .u64 (U b)]⟩ 52)) (addP (some ⟨w2.heap.size, 0, none⟩) 0) (.one (.int .u64)) (U a) := by rw [addP_B]; exact blq.rd1 rfl
  have r1 : rdAt (w2.alloc (.cells ⟨[Value.int .u64 (U a), Value.int .u64 (U b)]⟩ 52)) (addP (some ⟨w2.heap.size, 0, none⟩) 1) (.one (.int .u64)) (U b) := by rw [addP_B]; exact blq.rd1 rfl
  have i0 : true = true ∧ (0 : Int) ≤ 0 ∧ (0 : Int) < 2 := by decide
  have i1 : true = true ∧ (0 : Int) ≤ 1 ∧ (1 : Int) < 2 := by decide
  have ub : ∀ c : BitVec 64, U (B (U c)) = U c := fun c => by rw [B_U]
  refine ⟨⟨rfl, by decide, by decide⟩, x, by rw [addP_B]; exact blk.rd1 rfl, fun x1 e1 y1 f1 x2 e2 => ⟨⟨rfl, by decide, by decide⟩, y, by rw [addP_B]; exact blk.rd1 rfl, fun x3 e3 y3 f3 x4 e4 => ⟨⟨rfl, by decide, by decide⟩, z, by rw [addP_B]; exact blk.rd1 rfl, fun x5 e5 y5 f5 => ?_⟩⟩⟩
  rw [conv_i64 (by omega) (by omega)] at e1 e3 e5
  rw [e1, remI_nn (by omega)] at f1
  rw [addI_i64 (by omega) (by omega)] at e2
  rw [e3, remI_nn (by omega)] at f3
  rw [addI_i64 (by omega) (by omega)] at e4
  rw [subI_i64 (by omega) (by omega)] at f5
  refine ⟨by omega, fun x6 e6 n f6 m e7 x8 e8 => ?_⟩
  rw [e5, remI_nn (by omega)] at e6
  have h6 : 0 ≤ x6 ∧ x6 < y5 := by
    rw [e6]; exact ⟨Int.emod_nonneg _ (by omega), Int.emod_lt_of_pos _ (by omega)⟩
  rw [addI_i64 (by omega) (by omega)] at f6
  have hm : 1 ≤ m ∧ m ≤ x2 ∧ m ≤ n := by
    rw [e7]; unfold minI; split <;> omega
  rw [subI_i64 (by omega) (by omega)] at e8
  have F1 : fitsI x8 m = true := fitsI_iff.2 (by omega)
  have F2 : fitsI x4 n = true := fitsI_iff.2 (by omega)
  have F3 : fitsI 0 m = true := fitsI_iff.2 (by omega)
  have F4 : fitsI 0 n = true := fitsI_iff.2 (by omega)
  have hap : x8 + m ≤ x4 := by omega
  have u0 : U (B 0) = 0 := by decide +kernel
  refine ⟨i0, _, r0, ⟨ub _, ub _⟩, fun x10 e10 => ⟨i1, _, r1, ?_⟩⟩
  rw [B_U, B_U] at e10
  subst e10
  refine ⟨⟨ub _, ub _⟩, fun x12 e12 => ⟨i1, _, r1, ⟨ub _, ub _⟩, fun x14 e14 x15 e15 => ⟨i0, _, r0, ?_⟩⟩⟩
  rw [B_U, B_U] at e12 e14
  rw [subI_i64 (by omega) (by omega), ← e8] at e15
  subst e12; subst e14; subst e15
  refine ⟨⟨ub _, ub _⟩, fun x17 e17 x18 e18 => ⟨fun _ => ub _, fun x19 e19 => ⟨fun _ => i0, _, fun _ => r0, fun _ => ⟨u0, ub _⟩, fun x21 e21 => ?_⟩⟩⟩
  rw [B_U, B_U] at e17
  rw [subI_i64 (by omega) (by omega), ← e8] at e18
  rw [B_U] at e21
  rw [B_U] at e19
  subst e17; subst e18; subst e19; subst e21
  refine ⟨fun _ => ub _, fun x22 e22 => ⟨fun _ => ub _, fun x23 e23 => ⟨fun _ => i1, _, fun _ => r1, fun _ => ⟨u0, ub _⟩, fun x25 e25 => ?_⟩⟩⟩
  simp only [B_U] at e22 e23 e25
  subst e25
  refine ⟨fun _ => ub _, fun x26 e26 => ⟨fun _ => trivial, fun w3 h3 => ⟨?_, ((((h1.allocd _).trans h2).allocd _)).trans h3⟩⟩⟩
  simp only [B_U] at e26
  rw [e22, e23, e26, put_comm F1 F2 hap, get_put_any (w' := B 0) F1 F3, ← put_comm F1 F2 hap, get_put_any (w' := B 0) F2 F4]
  simp
end Go.Proofs.Ytmdcalknhbhlcaa
