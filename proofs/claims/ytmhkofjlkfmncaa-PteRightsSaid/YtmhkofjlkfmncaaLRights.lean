import Derived.Test.YtmhkofjlkfmncaaP6
import Derived.Test.YtmhkofjlkfmncaaLift
namespace Go.Proofs.Ytmhkofjlkfmncaa
open Go.RX
def rights_vc_ann : Nat → Slots := (fun _ => [])
theorem rights_vc (p : Bool) (r : Int) (l : Bool) (f x y : Int) (w : World) (Post : Bool → World → Prop) : (rxFn D4 rights_vc_ann 7 [.agg ⟨[.bool p, .int .i64 r, .bool l, .int .i64 f]⟩, .agg ⟨[.int .u8 x, .int .u8 y]⟩] w Post) = (
 ∀ (w1 : World),
  Ext w w1 →
   ∀ (w1_1 : World),
    Ext (w1.alloc (Obj.cells { toList := [Value.bool p, Value.int IntKind.i64 r, Value.bool l, Value.int IntKind.i64 f] } 23)) w1_1 →
     (true = true ∧ (0 : Int) ≤ 0 ∧ 0 < (↑2 : Int)) ∧
      ∃ (x_1 : Int),
       rdAt (w1_1.alloc (Obj.cells { toList := [Value.int IntKind.u8 x, Value.int IntKind.u8 y] } 48)) (addP (some { block := w1_1.heap.size, off := 0 }) 0) (El.one (Sc.int IntKind.u8)) x_1 ∧
        ∀ (x_2 : Int),
         x_2 = convI IntKind.i64 x_1 →
          ∀ (x_3 : Int),
           x_3 = remI x_2 8 →
            (true = true ∧ (0 : Int) ≤ 1 ∧ 1 < (↑2 : Int)) ∧
             ∃ (x_4 : Int),
              rdAt (w1_1.alloc (Obj.cells { toList := [Value.int IntKind.u8 x, Value.int IntKind.u8 y] } 48)) (addP (some { block := w1_1.heap.size, off := 0 }) 1) (El.one (Sc.int IntKind.u8)) x_4 ∧
               ∀ (x_5 : Int),
                x_5 = convI IntKind.i64 x_4 →
                 ∀ (x_6 : Int),
                  x_6 = remI x_5 8 →
                   ∃ (x_7 : Bool × Int × Bool × Int × Unit),
                    rdAt (w1_1.alloc (Obj.cells { toList := [Value.int IntKind.u8 x, Value.int IntKind.u8 y] } 48)) (some { block := w1.heap.size, off := 0 }) (El.agg [Sc.bool, Sc.int IntKind.i64, Sc.bool, Sc.int IntKind.i64]) x_7 ∧
                     True ∧
                      ∃ (x_8 : Bool × Int × Bool × Int × Unit),
                       (allowsE x_7.fst x_7.snd.fst x_7.snd.snd.fst x_7.snd.snd.snd.fst x_3 = true →
                         rdAt (w1_1.alloc (Obj.cells { toList := [Value.int IntKind.u8 x, Value.int IntKind.u8 y] } 48)) (some { block := w1.heap.size, off := 0 }) (El.agg [Sc.bool, Sc.int IntKind.i64, Sc.bool, Sc.int IntKind.i64]) x_8) ∧
                        (allowsE x_7.fst x_7.snd.fst x_7.snd.snd.fst x_7.snd.snd.snd.fst x_3 = true → True) ∧
                         ∃ (x_9 : Bool × Int × Bool × Int × Unit),
                          rdAt (w1_1.alloc (Obj.cells { toList := [Value.int IntKind.u8 x, Value.int IntKind.u8 y] } 48)) (some { block := w1.heap.size, off := 0 }) (El.agg [Sc.bool, Sc.int IntKind.i64, Sc.bool, Sc.int IntKind.i64]) x_9 ∧
                           ∀ (x_10 : Int),
                            x_10 = orI IntKind.i64 x_3 x_6 →
                             True ∧
                              ∃ (x_11 : Bool × Int × Bool × Int × Unit),
                               (((allowsE x_7.fst x_7.snd.fst x_7.snd.snd.fst x_7.snd.snd.snd.fst x_3 && allowsE x_8.fst x_8.snd.fst x_8.snd.snd.fst x_8.snd.snd.snd.fst x_6) == allowsE x_9.fst x_9.snd.fst x_9.snd.snd.fst x_9.snd.snd.snd.fst x_10) =
                                  true →
                                 rdAt (w1_1.alloc (Obj.cells { toList := [Value.int IntKind.u8 x, Value.int IntKind.u8 y] } 48)) (some { block := w1.heap.size, off := 0 }) (El.agg [Sc.bool, Sc.int IntKind.i64, Sc.bool, Sc.int IntKind.i64]) x_11) ∧
                                (((allowsE x_7.fst x_7.snd.fst x_7.snd.snd.fst x_7.snd.snd.snd.fst x_3 && allowsE x_8.fst x_8.snd.fst x_8.snd.snd.fst x_8.snd.snd.snd.fst x_6) == allowsE x_9.fst x_9.snd.fst x_9.snd.snd.fst x_9.snd.snd.snd.fst x_10) =
                                   true →
                                  True) ∧
                                 ∃ (x_12 : Bool × Int × Bool × Int × Unit),
                                  (((allowsE x_7.fst x_7.snd.fst x_7.snd.snd.fst x_7.snd.snd.snd.fst x_3 && allowsE x_8.fst x_8.snd.fst x_8.snd.snd.fst x_8.snd.snd.snd.fst x_6) == allowsE x_9.fst x_9.snd.fst x_9.snd.snd.fst x_9.snd.snd.snd.fst x_10 &&
                                      !!allowsE x_11.fst x_11.snd.fst x_11.snd.snd.fst x_11.snd.snd.snd.fst x_3) =
                                     true →
                                    rdAt (w1_1.alloc (Obj.cells { toList := [Value.int IntKind.u8 x, Value.int IntKind.u8 y] } 48)) (some { block := w1.heap.size, off := 0 }) (El.agg [Sc.bool, Sc.int IntKind.i64, Sc.bool, Sc.int IntKind.i64]) x_12) ∧
                                   ∀ (x_13 : Int),
                                    x_13 = andI IntKind.i64 x_3 x_6 →
                                     (((allowsE x_7.fst x_7.snd.fst x_7.snd.snd.fst x_7.snd.snd.snd.fst x_3 && allowsE x_8.fst x_8.snd.fst x_8.snd.snd.fst x_8.snd.snd.snd.fst x_6) ==
                                          allowsE x_9.fst x_9.snd.fst x_9.snd.snd.fst x_9.snd.snd.snd.fst x_10 &&
                                         !!allowsE x_11.fst x_11.snd.fst x_11.snd.snd.fst x_11.snd.snd.snd.fst x_3) =
                                        true →
                                       True) ∧
                                      ∃ (x_14 : Bool × Int × Bool × Int × Unit),
                                       (((allowsE x_7.fst x_7.snd.fst x_7.snd.snd.fst x_7.snd.snd.snd.fst x_3 && allowsE x_8.fst x_8.snd.fst x_8.snd.snd.fst x_8.snd.snd.snd.fst x_6) ==
                                            allowsE x_9.fst x_9.snd.fst x_9.snd.snd.fst x_9.snd.snd.snd.fst x_10 &&
                                           (!allowsE x_11.fst x_11.snd.fst x_11.snd.snd.fst x_11.snd.snd.snd.fst x_3 || allowsE x_12.fst x_12.snd.fst x_12.snd.snd.fst x_12.snd.snd.snd.fst x_13)) =
                                          true →
                                         rdAt (w1_1.alloc (Obj.cells { toList := [Value.int IntKind.u8 x, Value.int IntKind.u8 y] } 48)) (some { block := w1.heap.size, off := 0 }) (El.agg [Sc.bool, Sc.int IntKind.i64, Sc.bool, Sc.int IntKind.i64])
                                          x_14) ∧
                                        (((allowsE x_7.fst x_7.snd.fst x_7.snd.snd.fst x_7.snd.snd.snd.fst x_3 && allowsE x_8.fst x_8.snd.fst x_8.snd.snd.fst x_8.snd.snd.snd.fst x_6) ==
                                             allowsE x_9.fst x_9.snd.fst x_9.snd.snd.fst x_9.snd.snd.snd.fst x_10 &&
                                            (!allowsE x_11.fst x_11.snd.fst x_11.snd.snd.fst x_11.snd.snd.snd.fst x_3 || allowsE x_12.fst x_12.snd.fst x_12.snd.snd.fst x_12.snd.snd.snd.fst x_13)) =
                                           true →
                                          True) ∧
                                         ∃ (x_15 : Bool × Int × Bool × Int × Unit),
                                          (((allowsE x_7.fst x_7.snd.fst x_7.snd.snd.fst x_7.snd.snd.snd.fst x_3 && allowsE x_8.fst x_8.snd.fst x_8.snd.snd.fst x_8.snd.snd.snd.fst x_6) ==
                                                allowsE x_9.fst x_9.snd.fst x_9.snd.snd.fst x_9.snd.snd.snd.fst x_10 &&
                                               (!allowsE x_11.fst x_11.snd.fst x_11.snd.snd.fst x_11.snd.snd.snd.fst x_3 || allowsE x_12.fst x_12.snd.fst x_12.snd.snd.fst x_12.snd.snd.snd.fst x_13) &&
                                              !!tableE x_14.fst x_14.snd.fst x_14.snd.snd.fst x_14.snd.snd.snd.fst) =
                                             true →
                                            rdAt (w1_1.alloc (Obj.cells { toList := [Value.int IntKind.u8 x, Value.int IntKind.u8 y] } 48)) (some { block := w1.heap.size, off := 0 }) (El.agg [Sc.bool, Sc.int IntKind.i64, Sc.bool, Sc.int IntKind.i64])
                                             x_15) ∧
                                           (((allowsE x_7.fst x_7.snd.fst x_7.snd.snd.fst x_7.snd.snd.snd.fst x_3 && allowsE x_8.fst x_8.snd.fst x_8.snd.snd.fst x_8.snd.snd.snd.fst x_6) ==
                                                 allowsE x_9.fst x_9.snd.fst x_9.snd.snd.fst x_9.snd.snd.snd.fst x_10 &&
                                                (!allowsE x_11.fst x_11.snd.fst x_11.snd.snd.fst x_11.snd.snd.snd.fst x_3 || allowsE x_12.fst x_12.snd.fst x_12.snd.snd.fst x_12.snd.snd.snd.fst x_13) &&
                                               !!tableE x_14.fst x_14.snd.fst x_14.snd.snd.fst x_14.snd.snd.snd.fst) =
                                              true →
                                             True) ∧
                                            (((allowsE x_7.fst x_7.snd.fst x_7.snd.snd.fst x_7.snd.snd.snd.fst x_3 && allowsE x_8.fst x_8.snd.fst x_8.snd.snd.fst x_8.snd.snd.snd.fst x_6) ==
                                                  allowsE x_9.fst x_9.snd.fst x_9.snd.snd.fst x_9.snd.snd.snd.fst x_10 &&
                                                 (!allowsE x_11.fst x_11.snd.fst x_11.snd.snd.fst x_11.snd.snd.snd.fst x_3 || allowsE x_12.fst x_12.snd.fst x_12.snd.snd.fst x_12.snd.snd.snd.fst x_13) &&
                                                (!tableE x_14.fst x_14.snd.fst x_14.snd.snd.fst x_14.snd.snd.snd.fst || !allowsE x_15.fst x_15.snd.fst x_15.snd.snd.fst x_15.snd.snd.snd.fst 0)) =
                                               true →
                                              True) ∧
                                             ∀ (w1 : World),
                                              Ext (w1_1.alloc (Obj.cells { toList := [Value.int IntKind.u8 x, Value.int IntKind.u8 y] } 48)) w1 →
                                               Post
                                                ((allowsE x_7.fst x_7.snd.fst x_7.snd.snd.fst x_7.snd.snd.snd.fst x_3 && allowsE x_8.fst x_8.snd.fst x_8.snd.snd.fst x_8.snd.snd.snd.fst x_6) ==
                                                    allowsE x_9.fst x_9.snd.fst x_9.snd.snd.fst x_9.snd.snd.snd.fst x_10 &&
                                                   (!allowsE x_11.fst x_11.snd.fst x_11.snd.snd.fst x_11.snd.snd.snd.fst x_3 || allowsE x_12.fst x_12.snd.fst x_12.snd.snd.fst x_12.snd.snd.snd.fst x_13) &&
                                                  (!tableE x_14.fst x_14.snd.fst x_14.snd.snd.fst x_14.snd.snd.snd.fst || !allowsE x_15.fst x_15.snd.fst x_15.snd.snd.fst x_15.snd.snd.snd.fst 0) &&
                                                 true)
                                                w1) := by kernel_rfl
theorem u8_wf' {x : Int} (h : (Lit.int .u8 x).wf = true) : 0 ≤ x ∧ x < 256 := by
  simp [Lit.wf, IntKind.min, IntKind.max, IntKind.bits, IntKind.signed] at h
  omega
def alw (r t : Int) : Bool := decide (r > 0) && decide (t ≥ 0) && decide (t ≤ 7) && andNotI .i64 t r == 0
theorem alw_fin : ∀ r a b : Fin 8, (((alw (r.val : Int) (a.val : Int) && alw (r.val : Int) (b.val : Int)) == alw (r.val : Int) (orI .i64 (a.val : Int) (b.val : Int))) && (!alw (r.val : Int) (a.val : Int) || alw (r.val : Int) (andI .i64 (a.val : Int) (b.val : Int))) && (!((r.val : Int) == 0) || !alw (r.val : Int) 0)) = true := by decide +kernel
theorem allows_alw (p : Bool) (r : Int) (l : Bool) (f t : Int) : allowsE p r l f t = (rightE p r l f && alw r t) := by
  unfold allowsE alw
  simp only [Bool.and_assoc]
theorem rights_plain (p : Bool) (r : Int) (l : Bool) (f : Int) {a b : Int} (ha : 0 ≤ a ∧ a ≤ 7) (hb : 0 ≤ b ∧ b ≤ 7) :
    ((allowsE p r l f a && allowsE p r l f b) == allowsE p r l f (orI .i64 a b) && (!allowsE p r l f a || allowsE p r l f (andI .i64 a b)) && (!tableE p r l f || !allowsE p r l f 0) && true) = true := by
  simp only [allows_alw]
  unfold tableE
  cases hr : rightE p r l f with
  | false => simp
  | true =>
    have br := right_bd hr
    obtain ⟨k, hk⟩ := of_fin br.1 br.2.1
    obtain ⟨i, hi⟩ := of_fin ha.1 ha.2
    obtain ⟨j, hj⟩ := of_fin hb.1 hb.2
    have := alw_fin k i j
    rw [← hk, ← hi, ← hj] at this
    simp only [Bool.and_eq_true] at this
    obtain ⟨⟨h1, h2⟩, h3⟩ := this
    simp only [Bool.true_and, Bool.and_true]
    rw [h1, h2]
    cases p with
    | false => rfl
    | true =>
      rw [Bool.true_and, Bool.true_and, Bool.true_and]
      exact h3
theorem rights_row (e : ScsT [.bool, .int .i64, .bool, .int .i64]) (_ : okScs [.bool, .int .i64, .bool, .int .i64] e) (q : ScsT [.int .u8, .int .u8]) (hq : okScs [.int .u8, .int .u8] q) (w : World) :
    CallsR Try.prog 7 (.el (.one .bool)) [.agg ⟨scsEmb _ e⟩, .agg ⟨scsEmb _ q⟩] w (fun b w' => b = true ∧ Ext w w') := by
  obtain ⟨p, r, l, f, _⟩ := e
  obtain ⟨x, y, _⟩ := q
  have bx := u8_wf' hq.1
  have bY := u8_wf' hq.2.1
  simp only at bx bY
  refine rxFn_ok (C := D4) (ann := rights_vc_ann) (Eq.mpr (rights_vc p r l f x y w _) ?_)
  intro w1 h1 w2 h2
  have blk : Blk (w2.alloc (.cells ⟨[Value.int .u8 x, Value.int .u8 y]⟩ 48)) w1.heap.size [.bool p, .int .i64 r, .bool l, .int .i64 f] := ((Blk.new w1 _ _).ext h2).ext (Ext.alloc _ _)
  obtain ⟨_, _, _, _, ga⟩ := ent_rd blk
  have blq : Blk (w2.alloc (.cells ⟨[Value.int .u8 x, Value.int .u8 y]⟩ 48)) w2.heap.size [Value.int .u8 x, Value.int .u8 y] := Blk.new w2 _ _
  refine ⟨⟨rfl, by decide, by decide⟩, x, by rw [addP_B]; exact blq.rd1 rfl, fun x2 e2 x3 e3 => ⟨⟨rfl, by decide, by decide⟩, y, by rw [addP_B]; exact blq.rd1 rfl, fun x5 e5 x6 e6 => ?_⟩⟩
  rw [conv_i64' (by omega) (by omega)] at e2 e5
  have r1 : remI x2 8 = x2 % 8 := Int.tmod_eq_emod_of_nonneg (by omega)
  have r2 : remI x5 8 = x5 % 8 := Int.tmod_eq_emod_of_nonneg (by omega)
  rw [r1] at e3
  rw [r2] at e6
  refine ⟨_, ga, trivial, _, fun _ => ga, fun _ => trivial, _, ga, fun x10 e10 => ⟨trivial, _, fun _ => ga, fun _ => trivial, _, fun _ => ga, fun x13 e13 => ⟨fun _ => trivial, _, fun _ => ga, fun _ => trivial, _, fun _ => ga, fun _ => trivial, fun _ => trivial, fun w3 h3 => ⟨?_, ((h1.allocd _).trans h2).allocd _ |>.trans h3⟩⟩⟩⟩
  subst e10; subst e13
  exact rights_plain p r l f (by omega) (by omega)
end Go.Proofs.Ytmhkofjlkfmncaa
