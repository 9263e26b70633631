import Derived.Test.YtffnfcokgemgjaaP1
namespace Go.Proofs.Ytffnfcokgemgjaa
set_option linter.unusedSimpArgs false
set_option linter.unusedVariables false
set_option maxRecDepth 100000
open Go.RX
theorem table_vc (p : Bool) (r : Int) (l : Bool) (f : Int) (w : World) (Post : Bool → World → Prop) : (rxFn D1 (fun _ => []) 48 [.agg ⟨[.bool p, .int .i64 r, .bool l, .int .i64 f]⟩] w Post) = (
 AlP w { toList := [Value.bool p, Value.int IntKind.i64 r, Value.bool l, Value.int IntKind.i64 f] } 76 fun (b : Nat) (w2 : World) =>
  true = true ∧
   LdP w2 none (addP (some { block := b, off := 0 }) 0) (El.one Sc.bool) fun (x : Bool) =>
    (x = true → true = true) ∧
     LdP w2 (some x) (addP (some { block := b, off := 0 }) 1) (El.one (Sc.int IntKind.i64)) fun (x_1 : Int) =>
      LdP w2 (some (x && x_1 == 0)) (some { block := b, off := 0 }) (El.agg [Sc.bool, Sc.int IntKind.i64, Sc.bool, Sc.int IntKind.i64]) fun (x_2 : Bool × Int × Bool × Int × Unit) =>
       ((x && x_1 == 0) = true → True) ∧ EnP w2 fun (w1 : World) => Post (x && x_1 == 0 && rightE x_2.fst x_2.snd.fst x_2.snd.snd.fst x_2.snd.snd.snd.fst) w1) := by kernel_rfl
theorem rtable_vc (p : Bool) (r : Int) (l : Bool) (f : Int) (w : World) (Post : Bool → World → Prop) : (rxFn D1 (fun _ => []) 39 [.agg ⟨[.bool p, .int .i64 r, .bool l, .int .i64 f]⟩] w Post) = (
 AlP w { toList := [Value.bool p, Value.int IntKind.i64 r, Value.bool l, Value.int IntKind.i64 f] } 95 fun (b : Nat) (w2 : World) =>
  LdP w2 none (some { block := b, off := 0 }) (El.agg [Sc.bool, Sc.int IntKind.i64, Sc.bool, Sc.int IntKind.i64]) fun (x : Bool × Int × Bool × Int × Unit) =>
   True ∧
    (rightE x.fst x.snd.fst x.snd.snd.fst x.snd.snd.snd.fst = true → true = true) ∧
     LdP w2 (some (rightE x.fst x.snd.fst x.snd.snd.fst x.snd.snd.snd.fst)) (addP (some { block := b, off := 0 }) 0) (El.one Sc.bool) fun (x_1 : Bool) =>
      ((rightE x.fst x.snd.fst x.snd.snd.fst x.snd.snd.snd.fst && x_1) = true → true = true) ∧
       LdP w2 (some (rightE x.fst x.snd.fst x.snd.snd.fst x.snd.snd.snd.fst && x_1)) (addP (some { block := b, off := 0 }) 1) (El.one (Sc.int IntKind.i64)) fun (x_2 : Int) =>
        EnP w2 fun (w1 : World) => Post (rightE x.fst x.snd.fst x.snd.snd.fst x.snd.snd.snd.fst && x_1 && x_2 == 0) w1) := by kernel_rfl
theorem allows_vc (p : Bool) (r : Int) (l : Bool) (f : Int) (t : Int) (w : World) (Post : Bool → World → Prop) : (rxFn D1 (fun _ => []) 68 [.agg ⟨[.bool p, .int .i64 r, .bool l, .int .i64 f]⟩, .int .i64 t] w Post) = (
 AlP w { toList := [Value.bool p, Value.int IntKind.i64 r, Value.bool l, Value.int IntKind.i64 f] } 76 fun (b : Nat) (w2 : World) =>
  LdP w2 none (some { block := b, off := 0 }) (El.agg [Sc.bool, Sc.int IntKind.i64, Sc.bool, Sc.int IntKind.i64]) fun (x : Bool × Int × Bool × Int × Unit) =>
   True ∧
    (rightE x.fst x.snd.fst x.snd.snd.fst x.snd.snd.snd.fst = true → true = true) ∧
     LdP w2 (some (rightE x.fst x.snd.fst x.snd.snd.fst x.snd.snd.snd.fst)) (addP (some { block := b, off := 0 }) 1) (El.one (Sc.int IntKind.i64)) fun (x_1 : Int) =>
      ((rightE x.fst x.snd.fst x.snd.snd.fst x.snd.snd.snd.fst && decide (x_1 > 0) && decide (t ≥ 0) && decide (t ≤ 7)) = true → true = true) ∧
       LdP w2 (some (rightE x.fst x.snd.fst x.snd.snd.fst x.snd.snd.snd.fst && decide (x_1 > 0) && decide (t ≥ 0) && decide (t ≤ 7))) (addP (some { block := b, off := 0 }) 1) (El.one (Sc.int IntKind.i64)) fun (x_2 : Int) =>
        ∀ (x_3 : Int), x_3 = andNotI IntKind.i64 t x_2 → EnP w2 fun (w1 : World) => Post (rightE x.fst x.snd.fst x.snd.snd.fst x.snd.snd.snd.fst && decide (x_1 > 0) && decide (t ≥ 0) && decide (t ≤ 7) && x_3 == 0) w1) := by kernel_rfl
theorem rallows_vc (p : Bool) (r : Int) (l : Bool) (f : Int) (t : Int) (w : World) (Post : Bool → World → Prop) : (rxFn D1 (fun _ => []) 62 [.agg ⟨[.bool p, .int .i64 r, .bool l, .int .i64 f]⟩, .int .i64 t] w Post) = (
 AlP w { toList := [Value.bool p, Value.int IntKind.i64 r, Value.bool l, Value.int IntKind.i64 f] } 95 fun (b : Nat) (w2 : World) =>
  LdP w2 none (some { block := b, off := 0 }) (El.agg [Sc.bool, Sc.int IntKind.i64, Sc.bool, Sc.int IntKind.i64]) fun (x : Bool × Int × Bool × Int × Unit) =>
   True ∧
    (rightE x.fst x.snd.fst x.snd.snd.fst x.snd.snd.snd.fst = true → true = true) ∧
     LdP w2 (some (rightE x.fst x.snd.fst x.snd.snd.fst x.snd.snd.snd.fst)) (addP (some { block := b, off := 0 }) 0) (El.one Sc.bool) fun (x_1 : Bool) =>
      ((rightE x.fst x.snd.fst x.snd.snd.fst x.snd.snd.snd.fst && x_1) = true → true = true) ∧
       LdP w2 (some (rightE x.fst x.snd.fst x.snd.snd.fst x.snd.snd.snd.fst && x_1)) (addP (some { block := b, off := 0 }) 1) (El.one (Sc.int IntKind.i64)) fun (x_2 : Int) =>
        ((rightE x.fst x.snd.fst x.snd.snd.fst x.snd.snd.snd.fst && x_1 && decide (x_2 > 0) && decide (t ≥ 0) && decide (t ≤ 7)) = true → true = true) ∧
         LdP w2 (some (rightE x.fst x.snd.fst x.snd.snd.fst x.snd.snd.snd.fst && x_1 && decide (x_2 > 0) && decide (t ≥ 0) && decide (t ≤ 7))) (addP (some { block := b, off := 0 }) 1) (El.one (Sc.int IntKind.i64)) fun (x_3 : Int) =>
          ∀ (x_4 : Int), x_4 = andI IntKind.i64 x_3 t → EnP w2 fun (w1 : World) => Post (rightE x.fst x.snd.fst x.snd.snd.fst x.snd.snd.snd.fst && x_1 && decide (x_2 > 0) && decide (t ≥ 0) && decide (t ≤ 7) && x_4 == t) w1) := by kernel_rfl
theorem index_vc (x y : Int) (w : World) (Post : Int → World → Prop) : (rxFn D1 (fun _ => []) 55 [.int .i64 x, .int .i64 y] w Post) = (
 ((!(decide (x < 0) || decide (x ≥ 65536))) = true → True) ∧
  ∀ (x_1 : Int),
   x_1 = spanI y →
    brP (decide (x < 0) || decide (x ≥ 65536) || x_1 == 0) (EnP w fun (w1 : World) => Post (-1) w1)
     (∀ (x_2 : Int), x_2 = convI IntKind.u64 x → ∀ (x : Int), x = mulI IntKind.i64 4 y → U (B x_2) = x_2 ∧ ∀ (x_3 : Int), x_3 = U (getB (B x_2) x 4) → ∀ (x : Int), x = convI IntKind.i64 x_3 → EnP w fun (w1 : World) => Post x w1)) := by kernel_rfl
theorem rindex_vc (x y : Int) (w : World) (Post : Int → World → Prop) : (rxFn D1 (fun _ => []) 33 [.int .i64 x, .int .i64 y] w Post) = (
 ((!(decide (x < 0) || decide (x > 65535))) = true → True) ∧
  ∀ (x_1 : Int),
   x_1 = spanI y →
    brP (decide (x < 0) || decide (x > 65535) || x_1 == 0) (EnP w fun (w1 : World) => Post (-1) w1)
     (True ∧ ∀ (x_2 : Int), x_2 = spanI y → x_2 ≠ 0 ∧ ∀ (x_3 : Int), x_3 = quoI IntKind.i64 x x_2 → ∀ (x : Int), x = remI x_3 16 → EnP w fun (w1 : World) => Post x w1)) := by kernel_rfl
theorem rpack_vc' (p : Bool) (r : Int) (l : Bool) (f : Int) (w : World) (Post : Int × Int × Unit → World → Prop) : (rxFn D1 (fun _ => []) 60 [.agg ⟨[.bool p, .int .i64 r, .bool l, .int .i64 f]⟩] w Post) = (
 AlP w { toList := [Value.bool p, Value.int IntKind.i64 r, Value.bool l, Value.int IntKind.i64 f] } 95 fun (b : Nat) (w2 : World) =>
  LdP w2 none (some { block := b, off := 0 }) (El.agg [Sc.bool, Sc.int IntKind.i64, Sc.bool, Sc.int IntKind.i64]) fun (x : Bool × Int × Bool × Int × Unit) =>
   True ∧
    brP (!rightE x.fst x.snd.fst x.snd.snd.fst x.snd.snd.snd.fst) (EnP w2 fun (w1 : World) => Post (0, 11, Unit.unit) w1)
     (true = true ∧
      LdP w2 none (addP (some { block := b, off := 0 }) 0) (El.one Sc.bool) fun (x : Bool) =>
       brP x
        (true = true ∧
         LdP w2 none (addP (some { block := b, off := 0 }) 2) (El.one Sc.bool) fun (x : Bool) =>
          brP x
           (∀ (x : Int),
            x = addI IntKind.u64 1 16 →
             true = true ∧
              LdP w2 none (addP (some { block := b, off := 0 }) 1) (El.one (Sc.int IntKind.i64)) fun (x_1 : Int) =>
               ∀ (x_2 : Int),
                x_2 = convI IntKind.u64 x_1 →
                 ∀ (x_3 : Int),
                  x_3 = mulI IntKind.u64 2 x_2 →
                   ∀ (x_4 : Int),
                    x_4 = addI IntKind.u64 x x_3 →
                     true = true ∧
                      LdP w2 none (addP (some { block := b, off := 0 }) 3) (El.one (Sc.int IntKind.i64)) fun (x : Int) =>
                       ∀ (x_5 : Int), x_5 = convI IntKind.u64 x → ∀ (x : Int), x = mulI IntKind.u64 4096 x_5 → ∀ (x_6 : Int), x_6 = addI IntKind.u64 x_4 x → EnP w2 fun (w1 : World) => Post (x_6, 0, Unit.unit) w1)
           (true = true ∧
            LdP w2 none (addP (some { block := b, off := 0 }) 1) (El.one (Sc.int IntKind.i64)) fun (x : Int) =>
             ∀ (x_1 : Int),
              x_1 = convI IntKind.u64 x →
               ∀ (x : Int),
                x = mulI IntKind.u64 2 x_1 →
                 ∀ (x_2 : Int),
                  x_2 = addI IntKind.u64 1 x →
                   true = true ∧
                    LdP w2 none (addP (some { block := b, off := 0 }) 3) (El.one (Sc.int IntKind.i64)) fun (x : Int) =>
                     ∀ (x_3 : Int), x_3 = convI IntKind.u64 x → ∀ (x : Int), x = mulI IntKind.u64 4096 x_3 → ∀ (x_4 : Int), x_4 = addI IntKind.u64 x_2 x → EnP w2 fun (w1 : World) => Post (x_4, 0, Unit.unit) w1))
        (true = true ∧
         LdP w2 none (addP (some { block := b, off := 0 }) 2) (El.one Sc.bool) fun (x : Bool) =>
          brP x
           (∀ (x : Int),
            x = addI IntKind.u64 0 16 →
             true = true ∧
              LdP w2 none (addP (some { block := b, off := 0 }) 1) (El.one (Sc.int IntKind.i64)) fun (x_1 : Int) =>
               ∀ (x_2 : Int),
                x_2 = convI IntKind.u64 x_1 →
                 ∀ (x_3 : Int),
                  x_3 = mulI IntKind.u64 2 x_2 →
                   ∀ (x_4 : Int),
                    x_4 = addI IntKind.u64 x x_3 →
                     true = true ∧
                      LdP w2 none (addP (some { block := b, off := 0 }) 3) (El.one (Sc.int IntKind.i64)) fun (x : Int) =>
                       ∀ (x_5 : Int), x_5 = convI IntKind.u64 x → ∀ (x : Int), x = mulI IntKind.u64 4096 x_5 → ∀ (x_6 : Int), x_6 = addI IntKind.u64 x_4 x → EnP w2 fun (w1 : World) => Post (x_6, 0, Unit.unit) w1)
           (true = true ∧
            LdP w2 none (addP (some { block := b, off := 0 }) 1) (El.one (Sc.int IntKind.i64)) fun (x : Int) =>
             ∀ (x_1 : Int),
              x_1 = convI IntKind.u64 x →
               ∀ (x : Int),
                x = mulI IntKind.u64 2 x_1 →
                 ∀ (x_2 : Int),
                  x_2 = addI IntKind.u64 0 x →
                   true = true ∧
                    LdP w2 none (addP (some { block := b, off := 0 }) 3) (El.one (Sc.int IntKind.i64)) fun (x : Int) =>
                     ∀ (x_3 : Int), x_3 = convI IntKind.u64 x → ∀ (x : Int), x = mulI IntKind.u64 4096 x_3 → ∀ (x_4 : Int), x_4 = addI IntKind.u64 x_2 x → EnP w2 fun (w1 : World) => Post (x_4, 0, Unit.unit) w1)))) := by kernel_rfl
theorem parse_vc (v : Int) (w : World) (Post : (Bool × Int × Bool × Int × Unit) × Bool × Unit → World → Prop) : (rxFnR D1 (fun _ => []) 29 [.int .u64 v] w Post) = (
 AlP w { toList := [Value.bool false, Value.int IntKind.i64 0, Value.bool false, Value.int IntKind.i64 0] } 76 fun (b : Nat) (w2 : World) =>
  AlP w2 { toList := [Value.int IntKind.i64 1, Value.int IntKind.i64 3, Value.int IntKind.i64 1, Value.int IntKind.i64 7, Value.int IntKind.i64 12, Value.int IntKind.i64 40] } 3 fun (b_1 : Nat) (w2 : World) =>
   CaP Try.prog 45 (Sh.el (El.one Sc.slice)) [Value.int IntKind.u64 v, Value.slice (some { block := b_1, off := 0 }) 6 6] w2 fun (x : Option Addr × Nat × Nat) (w2 : World) =>
    (x.fst.isSome = true ∧ (0 : Int) ≤ 0 ∧ 0 < (↑x.snd.fst : Int)) ∧
     LdP w2 none (addP x.fst 0) (El.one (Sc.int IntKind.u64)) fun (x_1 : Int) =>
      (x.fst.isSome = true ∧ (0 : Int) ≤ 1 ∧ 1 < (↑x.snd.fst : Int)) ∧
       LdP w2 none (addP x.fst 1) (El.one (Sc.int IntKind.u64)) fun (x_2 : Int) =>
        ∀ (x_3 : Int),
         x_3 = convI IntKind.i64 x_2 →
          (x.fst.isSome = true ∧ (0 : Int) ≤ 2 ∧ 2 < (↑x.snd.fst : Int)) ∧
           LdP w2 none (addP x.fst 2) (El.one (Sc.int IntKind.u64)) fun (x_4 : Int) =>
            (x.fst.isSome = true ∧ (0 : Int) ≤ 4 ∧ 4 < (↑x.snd.fst : Int)) ∧
             LdP w2 none (addP x.fst 4) (El.one (Sc.int IntKind.u64)) fun (x_5 : Int) =>
              ∀ (x_6 : Int),
               x_6 = convI IntKind.i64 x_5 →
                AlP w2 { toList := [Value.bool false, Value.int IntKind.i64 0, Value.bool false, Value.int IntKind.i64 0] } 76 fun (b_2 : Nat) (w2 : World) =>
                 StP w2 (some { block := b_2, off := 0 }) [Value.bool (x_1 == 1), Value.int IntKind.i64 x_3, Value.bool (x_4 == 1), Value.int IntKind.i64 x_6] fun (w2 : World) =>
                  (x.fst.isSome = true ∧ (0 : Int) ≤ 3 ∧ 3 < (↑x.snd.fst : Int)) ∧
                   LdP w2 none (addP x.fst 3) (El.one (Sc.int IntKind.u64)) fun (x_7 : Int) =>
                    ((!decide (x_7 > 0)) = true → x.fst.isSome = true ∧ (0 : Int) ≤ 5 ∧ 5 < (↑x.snd.fst : Int)) ∧
                     LdP w2 (some !decide (x_7 > 0)) (addP x.fst 5) (El.one (Sc.int IntKind.u64)) fun (x : Int) =>
                      LdP w2 (some !(decide (x_7 > 0) || decide (x > 0))) (some { block := b_2, off := 0 }) (El.agg [Sc.bool, Sc.int IntKind.i64, Sc.bool, Sc.int IntKind.i64]) fun (x_8 : Bool × Int × Bool × Int × Unit) =>
                       ((!(decide (x_7 > 0) || decide (x > 0))) = true → True) ∧
                        brP (decide (x_7 > 0) || decide (x > 0) || !rightE x_8.fst x_8.snd.fst x_8.snd.snd.fst x_8.snd.snd.snd.fst)
                         (StP w2 (some { block := b, off := 0 }) [Value.bool false, Value.int IntKind.i64 0, Value.bool false, Value.int IntKind.i64 0] fun (w2 : World) =>
                          EnP w2 fun (w1 : World) =>
                           LdP w1 none (some { block := b, off := 0 }) (El.agg [Sc.bool, Sc.int IntKind.i64, Sc.bool, Sc.int IntKind.i64]) fun (x : Bool × Int × Bool × Int × Unit) =>
                            Post ((x.fst, x.snd.fst, x.snd.snd.fst, x.snd.snd.snd.fst, Unit.unit), false, Unit.unit) w1)
                         (LdP w2 none (some { block := b_2, off := 0 }) (El.agg [Sc.bool, Sc.int IntKind.i64, Sc.bool, Sc.int IntKind.i64]) fun (x : Bool × Int × Bool × Int × Unit) =>
                          StP w2 (some { block := b, off := 0 }) [Value.bool x.fst, Value.int IntKind.i64 x.snd.fst, Value.bool x.snd.snd.fst, Value.int IntKind.i64 x.snd.snd.snd.fst] fun (w2 : World) =>
                           EnP w2 fun (w1 : World) =>
                            LdP w1 none (some { block := b, off := 0 }) (El.agg [Sc.bool, Sc.int IntKind.i64, Sc.bool, Sc.int IntKind.i64]) fun (x : Bool × Int × Bool × Int × Unit) =>
                             Post ((x.fst, x.snd.fst, x.snd.snd.fst, x.snd.snd.snd.fst, Unit.unit), true, Unit.unit) w1)) := by kernel_rfl
/-- Does it lead to a table? -/
def tableE (p : Bool) (r : Int) (l : Bool) (f : Int) : Bool := p && r == 0 && rightE p r l f
/-- Does it allow something? -/
def allowsE (p : Bool) (r : Int) (l : Bool) (f t : Int) : Bool := rightE p r l f && decide (r > 0) && decide (t ≥ 0) && decide (t ≤ 7) && andNotI .i64 t r == 0
theorem table_ok (p : Bool) (r : Int) (l : Bool) (f : Int) (w : World) : CallsR Try.prog 48 (.el (.one .bool)) [.agg ⟨[.bool p, .int .i64 r, .bool l, .int .i64 f]⟩] w (fun b w' => b = tableE p r l f ∧ Ext w w') := by
  refine rxFn_ok (C := D1) (ann := fun _ => []) (Eq.mpr (table_vc p r l f w _) ?_)
  intro w1 h1
  obtain ⟨g0, g1, g2, g3, ga⟩ := ent_rd (Blk.new w1 [.bool p, .int .i64 r, .bool l, .int .i64 f] 76)
  exact ⟨rfl, p, g0, fun _ => rfl, r, fun _ => g1, _, fun _ => ga, fun _ => trivial, fun w2 h2 => ⟨rfl, (h1.allocd _).trans h2⟩⟩
theorem rtable_ok (p : Bool) (r : Int) (l : Bool) (f : Int) (w : World) : CallsR Try.prog 39 (.el (.one .bool)) [.agg ⟨[.bool p, .int .i64 r, .bool l, .int .i64 f]⟩] w (fun b w' => b = tableE p r l f ∧ Ext w w') := by
  refine rxFn_ok (C := D1) (ann := fun _ => []) (Eq.mpr (rtable_vc p r l f w _) ?_)
  intro w1 h1
  obtain ⟨g0, g1, g2, g3, ga⟩ := ent_rd (Blk.new w1 [.bool p, .int .i64 r, .bool l, .int .i64 f] 95)
  refine ⟨_, ga, trivial, fun _ => rfl, p, fun _ => g0, fun _ => rfl, r, fun _ => g1, fun w2 h2 => ⟨?_, (h1.allocd _).trans h2⟩⟩
  show (rightE p r l f && p && r == 0) = (p && r == 0 && rightE p r l f)
  rw [Bool.and_assoc, Bool.and_comm]
theorem small_and : ∀ r t : Fin 8, (andNotI .i64 (t.val : Int) (r.val : Int) == 0) = (andI .i64 (r.val : Int) (t.val : Int) == (t.val : Int)) := by decide +kernel
theorem of_fin {x : Int} (h : 0 ≤ x) (h' : x ≤ 7) : ∃ k : Fin 8, x = (k.val : Int) := ⟨⟨x.toNat, by omega⟩, by show x = (x.toNat : Int); omega⟩
theorem right_bd {p : Bool} {r : Int} {l : Bool} {f : Int} (h : rightE p r l f = true) : 0 ≤ r ∧ r ≤ 7 ∧ 0 ≤ f ∧ f < 4096 ∧ (p = false → r = 0 ∧ l = false ∧ f = 0) := by
  cases p
  · simp [rightE] at h
    obtain ⟨⟨h1, h2⟩, h3⟩ := h
    subst h1; subst h3
    exact ⟨by decide, by decide, by decide, by decide, fun _ => ⟨rfl, h2, rfl⟩⟩
  · simp [rightE] at h
    exact ⟨h.1.1.1.1, h.1.1.1.2, h.1.1.2, h.1.2, fun e => by cases e⟩
theorem allows_fin {r t : Int} (h1 : 0 ≤ r) (h2 : r ≤ 7) (h3 : 0 ≤ t) (h4 : t ≤ 7) : (andI .i64 r t == t) = (andNotI .i64 t r == 0) := by
  obtain ⟨k, hk⟩ := of_fin h1 h2
  obtain ⟨j, hj⟩ := of_fin h3 h4
  rw [hk, hj]
  exact (small_and k j).symm
theorem allows_plain (p : Bool) (r : Int) (l : Bool) (f t : Int) : (rightE p r l f && p && decide (r > 0) && decide (t ≥ 0) && decide (t ≤ 7) && andI .i64 r t == t) = allowsE p r l f t := by
  unfold allowsE
  cases hr : rightE p r l f with
  | false => simp only [Bool.false_and]
  | true =>
    have b := right_bd hr
    by_cases c1 : r > 0
    · have hp : p = true := by
        cases hp : p with
        | true => rfl
        | false => have := (b.2.2.2.2 hp).1; omega
      by_cases c2 : t ≥ 0
      · by_cases c3 : t ≤ 7
        · rw [hp, allows_fin b.1 b.2.1 c2 c3, Bool.true_and]
        · rw [decide_eq_false c3]; simp
      · rw [decide_eq_false c2]; simp
    · rw [decide_eq_false c1]; simp
theorem allows_ok (p : Bool) (r : Int) (l : Bool) (f t : Int) (w : World) : CallsR Try.prog 68 (.el (.one .bool)) [.agg ⟨[.bool p, .int .i64 r, .bool l, .int .i64 f]⟩, .int .i64 t] w (fun b w' => b = allowsE p r l f t ∧ Ext w w') := by
  refine rxFn_ok (C := D1) (ann := fun _ => []) (Eq.mpr (allows_vc p r l f t w _) ?_)
  intro w1 h1
  obtain ⟨g0, g1, g2, g3, ga⟩ := ent_rd (Blk.new w1 [.bool p, .int .i64 r, .bool l, .int .i64 f] 76)
  exact ⟨_, ga, trivial, fun _ => rfl, r, fun _ => g1, fun _ => rfl, r, fun _ => g1, fun x ex w2 h2 => ⟨by rw [ex]; rfl, (h1.allocd _).trans h2⟩⟩
theorem rallows_ok (p : Bool) (r : Int) (l : Bool) (f t : Int) (w : World) : CallsR Try.prog 62 (.el (.one .bool)) [.agg ⟨[.bool p, .int .i64 r, .bool l, .int .i64 f]⟩, .int .i64 t] w (fun b w' => b = allowsE p r l f t ∧ Ext w w') := by
  refine rxFn_ok (C := D1) (ann := fun _ => []) (Eq.mpr (rallows_vc p r l f t w _) ?_)
  intro w1 h1
  obtain ⟨g0, g1, g2, g3, ga⟩ := ent_rd (Blk.new w1 [.bool p, .int .i64 r, .bool l, .int .i64 f] 95)
  refine ⟨_, ga, trivial, fun _ => rfl, p, fun _ => g0, fun _ => rfl, r, fun _ => g1, fun _ => rfl, r, fun _ => g1, fun x ex w2 h2 => ⟨?_, (h1.allocd _).trans h2⟩⟩
  rw [ex]
  exact allows_plain p r l f t
/-- Where it stands. -/
def indexI (x y : Int) : Int := if 0 ≤ x ∧ x < 65536 ∧ 0 ≤ y ∧ y ≤ 3 then x / spanI y % 16 else -1
theorem span_zero {y : Int} : (spanI y == 0) = !(decide (0 ≤ y) && decide (y ≤ 3)) := by
  by_cases h : 0 ≤ y ∧ y ≤ 3
  · have : y = 0 ∨ y = 1 ∨ y = 2 ∨ y = 3 := by omega
    rcases this with rfl | rfl | rfl | rfl <;> rfl
  · have e : spanI y = 0 := by
      unfold spanI
      rw [if_neg (by omega), if_neg (by omega), if_neg (by omega), if_neg (by omega)]
    rw [e]
    by_cases h1 : 0 ≤ y
    · have : ¬ y ≤ 3 := fun h2 => h ⟨h1, h2⟩
      simp [this]
    · simp [h1]
theorem index_bad {x y : Int} (h : ¬ (0 ≤ x ∧ x < 65536 ∧ 0 ≤ y ∧ y ≤ 3)) : indexI x y = -1 := if_neg h
theorem conv_i64' {x : Int} (h : -9223372036854775808 ≤ x) (h' : x < 9223372036854775808) : convI .i64 x = x := wrap_i64_id h h'
theorem conv_u64' {x : Int} (h : 0 ≤ x) (h' : x < 18446744073709551616) : convI .u64 x = x := by
  show IntKind.u64.wrap x = x
  rw [wrap_u64]; omega
theorem index_key {a b c : Int} (m : Nat) (ha : 0 ≤ a ∧ a < 65536) (hm : 2 ^ b.toNat = m) (hf : fitsI b 4 = true) (ec : c = U (getB (B a) b 4)) : c = a / (m : Int) % 16 := by
  have hN : ((B a).toNat : Int) = a := U_B' (by omega) (by omega)
  rw [ec, U_eq (get_num m 16 hf hm (by decide)), Int.natCast_emod, Int.natCast_ediv, hN]
  rfl
theorem index_plain {a y b c : Int} (ha : 0 ≤ a ∧ a < 65536) (hy : 0 ≤ y ∧ y ≤ 3) (eb : b = 4 * y) (ec : c = U (getB (B a) b 4)) : c = indexI a y ∧ 0 ≤ c ∧ c < 16 := by
  have e : c = indexI a y := by
    unfold indexI
    rw [if_pos (by omega)]
    have : y = 0 ∨ y = 1 ∨ y = 2 ∨ y = 3 := by omega
    rcases this with rfl | rfl | rfl | rfl
    · exact index_key 1 ha (by subst eb; decide) (by subst eb; decide) ec
    · exact index_key 16 ha (by subst eb; decide) (by subst eb; decide) ec
    · exact index_key 256 ha (by subst eb; decide) (by subst eb; decide) ec
    · rw [show spanI 3 = ((4096 : Nat) : Int) by decide]
      exact index_key 4096 ha (by subst eb; decide) (by subst eb; decide) ec
  refine ⟨e, ?_⟩
  rw [e]
  unfold indexI
  rw [if_pos (by omega)]
  exact ⟨Int.emod_nonneg _ (by decide), Int.emod_lt_of_pos _ (by decide)⟩
theorem index_ok (x y : Int) (w : World) : CallsR Try.prog 55 (.el (.one (.int .i64))) [.int .i64 x, .int .i64 y] w (fun b w' => b = indexI x y ∧ Ext w w') := by
  refine rxFn_ok (C := D1) (ann := fun _ => []) (Eq.mpr (index_vc x y w _) ?_)
  refine ⟨fun _ => trivial, fun s es => ?_⟩
  subst es
  rw [span_zero]
  refine brP_intro (fun h w1 h1 => ⟨?_, h1⟩) (fun h a ea b eb => ?_)
  · simp only [Bool.or_eq_true, decide_eq_true_eq, Bool.not_eq_true', Bool.and_eq_false_iff, decide_eq_false_iff_not] at h
    rw [index_bad (by omega)]
  · simp only [Bool.or_eq_false_iff, decide_eq_false_iff_not, Bool.not_eq_false', Bool.and_eq_true, decide_eq_true_eq] at h
    rw [conv_u64' (by omega) (by omega)] at ea
    rw [mulI_i64 (by omega) (by omega)] at eb
    subst ea
    refine ⟨U_B' (by omega) (by omega), fun c ec d ed w1 h1 => ⟨?_, h1⟩⟩
    obtain ⟨e1, e2, e3⟩ := index_plain (y := y) (by omega) (by omega) eb ec
    rw [ed, conv_i64' (by omega) (by omega), e1]
theorem rindex_ok (x y : Int) (w : World) : CallsR Try.prog 33 (.el (.one (.int .i64))) [.int .i64 x, .int .i64 y] w (fun b w' => b = indexI x y ∧ Ext w w') := by
  refine rxFn_ok (C := D1) (ann := fun _ => []) (Eq.mpr (rindex_vc x y w _) ?_)
  refine ⟨fun _ => trivial, fun s es => ?_⟩
  subst es
  rw [span_zero]
  refine brP_intro (fun h w1 h1 => ⟨?_, h1⟩) (fun h => ⟨trivial, fun s es => ?_⟩)
  · simp only [Bool.or_eq_true, decide_eq_true_eq, Bool.not_eq_true', Bool.and_eq_false_iff, decide_eq_false_iff_not] at h
    rw [index_bad (by omega)]
  · simp only [Bool.or_eq_false_iff, decide_eq_false_iff_not, Bool.not_eq_false', Bool.and_eq_true, decide_eq_true_eq] at h
    have hy : y = 0 ∨ y = 1 ∨ y = 2 ∨ y = 3 := by omega
    have hs : 1 ≤ s := by rcases hy with rfl | rfl | rfl | rfl <;> (rw [es]; decide)
    refine ⟨by omega, fun c ec d ed w1 h1 => ⟨?_, h1⟩⟩
    have hq : quoI .i64 x s = x / s := by
      unfold quoI
      rw [Int.tdiv_eq_ediv_of_nonneg (by omega)]
      have h1 : 0 ≤ x / s := Int.ediv_nonneg (by omega) (by omega)
      have h2 : x / s ≤ x := Int.ediv_le_self _ (by omega)
      exact wrap_i64_id (by omega) (by omega)
    have h1 : 0 ≤ x / s := Int.ediv_nonneg (by omega) (by omega)
    rw [hq] at ec
    have hr : remI c 16 = c % 16 := Int.tmod_eq_emod_of_nonneg (by omega)
    rw [ed, hr, ec, es]
    unfold indexI
    rw [if_pos (by omega)]
end Go.Proofs.Ytffnfcokgemgjaa
