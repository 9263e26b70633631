import Derived.Test.YtogndkmclingeaaQ2
namespace Go.Proofs.Ytogndkmclingeaa
set_option linter.unusedSimpArgs false
set_option linter.unusedVariables false
open Go.RX
theorem next_vc (k o r e x y : Int) (w : World) (Post : (Int × Int × Int × Int × Unit) × Int × Unit → World → Prop) : (rxFnR D2 (fun _ => []) 32 [.agg ⟨[.int .i64 k, .int .i64 o, .int .i64 r, .int .i64 e]⟩, .int .i64 x, .int .i64 y] w Post) = (
 AlP w { toList := [Value.int IntKind.i64 k, Value.int IntKind.i64 o, Value.int IntKind.i64 r, Value.int IntKind.i64 e] } 33 fun (b : Nat) (w2 : World) =>
  AlP w2 { toList := [Value.int IntKind.i64 0, Value.int IntKind.i64 0, Value.int IntKind.i64 0, Value.int IntKind.i64 0] } 33 fun (b_1 : Nat) (w2 : World) =>
   LdP w2 none (some { block := b, off := 0 }) (El.agg [Sc.int IntKind.i64, Sc.int IntKind.i64, Sc.int IntKind.i64, Sc.int IntKind.i64]) fun (x_1 : Int × Int × Int × Int × Unit) =>
    True ∧
     brP (!rightD x_1.fst x_1.snd.fst x_1.snd.snd.fst x_1.snd.snd.snd.fst)
      (StP w2 (some { block := b_1, off := 0 }) [Value.int IntKind.i64 0, Value.int IntKind.i64 0, Value.int IntKind.i64 0, Value.int IntKind.i64 0] fun (w2 : World) =>
       EnP w2 fun (w1 : World) =>
        LdP w1 none (some { block := b_1, off := 0 }) (El.agg [Sc.int IntKind.i64, Sc.int IntKind.i64, Sc.int IntKind.i64, Sc.int IntKind.i64]) fun (x : Int × Int × Int × Int × Unit) =>
         Post ((x.fst, x.snd.fst, x.snd.snd.fst, x.snd.snd.snd.fst, Unit.unit), 11, Unit.unit) w1)
      (true = true ∧
       LdP w2 none (addP (some { block := b, off := 0 }) 2) (El.one (Sc.int IntKind.i64)) fun (x_2 : Int) =>
        brP (decide (x_2 > 0))
         (StP w2 (some { block := b_1, off := 0 }) [Value.int IntKind.i64 0, Value.int IntKind.i64 0, Value.int IntKind.i64 0, Value.int IntKind.i64 0] fun (w2 : World) =>
          EnP w2 fun (w1 : World) =>
           LdP w1 none (some { block := b_1, off := 0 }) (El.agg [Sc.int IntKind.i64, Sc.int IntKind.i64, Sc.int IntKind.i64, Sc.int IntKind.i64]) fun (x : Int × Int × Int × Int × Unit) =>
            Post ((x.fst, x.snd.fst, x.snd.snd.fst, x.snd.snd.snd.fst, Unit.unit), 9, Unit.unit) w1)
         (true = true ∧
          LdP w2 none (addP (some { block := b, off := 0 }) 0) (El.one (Sc.int IntKind.i64)) fun (x_3 : Int) =>
           True ∧
            brP (!decide (x ∈ leadsL x_3))
             (StP w2 (some { block := b_1, off := 0 }) [Value.int IntKind.i64 0, Value.int IntKind.i64 0, Value.int IntKind.i64 0, Value.int IntKind.i64 0] fun (w2 : World) =>
              EnP w2 fun (w1 : World) =>
               LdP w1 none (some { block := b_1, off := 0 }) (El.agg [Sc.int IntKind.i64, Sc.int IntKind.i64, Sc.int IntKind.i64, Sc.int IntKind.i64]) fun (x : Int × Int × Int × Int × Unit) =>
                Post ((x.fst, x.snd.fst, x.snd.snd.fst, x.snd.snd.snd.fst, Unit.unit), 6, Unit.unit) w1)
             (brP (x == 5)
              (true = true ∧
               LdP w2 none (addP (some { block := b, off := 0 }) 1) (El.one (Sc.int IntKind.i64)) fun (x_4 : Int) =>
                AlP w2 { toList := [Value.int IntKind.i64 0, Value.int IntKind.i64 0, Value.int IntKind.i64 0, Value.int IntKind.i64 0] } 33 fun (b : Nat) (w2 : World) =>
                 StP w2 (some { block := b, off := 0 }) [Value.int IntKind.i64 x, Value.int IntKind.i64 x_4, Value.int IntKind.i64 0, Value.int IntKind.i64 0] fun (w2 : World) =>
                  LdP w2 none (some { block := b, off := 0 }) (El.agg [Sc.int IntKind.i64, Sc.int IntKind.i64, Sc.int IntKind.i64, Sc.int IntKind.i64]) fun (x : Int × Int × Int × Int × Unit) =>
                   True ∧
                    brP (!rightD x.fst x.snd.fst x.snd.snd.fst x.snd.snd.snd.fst)
                     (StP w2 (some { block := b_1, off := 0 }) [Value.int IntKind.i64 0, Value.int IntKind.i64 0, Value.int IntKind.i64 0, Value.int IntKind.i64 0] fun (w2 : World) =>
                      EnP w2 fun (w1 : World) =>
                       LdP w1 none (some { block := b_1, off := 0 }) (El.agg [Sc.int IntKind.i64, Sc.int IntKind.i64, Sc.int IntKind.i64, Sc.int IntKind.i64]) fun (x : Int × Int × Int × Int × Unit) =>
                        Post ((x.fst, x.snd.fst, x.snd.snd.fst, x.snd.snd.snd.fst, Unit.unit), 1, Unit.unit) w1)
                     (LdP w2 none (some { block := b, off := 0 }) (El.agg [Sc.int IntKind.i64, Sc.int IntKind.i64, Sc.int IntKind.i64, Sc.int IntKind.i64]) fun (x : Int × Int × Int × Int × Unit) =>
                      StP w2 (some { block := b_1, off := 0 }) [Value.int IntKind.i64 x.fst, Value.int IntKind.i64 x.snd.fst, Value.int IntKind.i64 x.snd.snd.fst, Value.int IntKind.i64 x.snd.snd.snd.fst] fun (w2 : World) =>
                       EnP w2 fun (w1 : World) =>
                        LdP w1 none (some { block := b_1, off := 0 }) (El.agg [Sc.int IntKind.i64, Sc.int IntKind.i64, Sc.int IntKind.i64, Sc.int IntKind.i64]) fun (x : Int × Int × Int × Int × Unit) =>
                         Post ((x.fst, x.snd.fst, x.snd.snd.fst, x.snd.snd.snd.fst, Unit.unit), 0, Unit.unit) w1))
              (AlP w2 { toList := [Value.int IntKind.i64 0, Value.int IntKind.i64 0, Value.int IntKind.i64 0, Value.int IntKind.i64 0] } 33 fun (b : Nat) (w2 : World) =>
               StP w2 (some { block := b, off := 0 }) [Value.int IntKind.i64 x, Value.int IntKind.i64 y, Value.int IntKind.i64 0, Value.int IntKind.i64 0] fun (w2 : World) =>
                LdP w2 none (some { block := b, off := 0 }) (El.agg [Sc.int IntKind.i64, Sc.int IntKind.i64, Sc.int IntKind.i64, Sc.int IntKind.i64]) fun (x : Int × Int × Int × Int × Unit) =>
                 True ∧
                  brP (!rightD x.fst x.snd.fst x.snd.snd.fst x.snd.snd.snd.fst)
                   (StP w2 (some { block := b_1, off := 0 }) [Value.int IntKind.i64 0, Value.int IntKind.i64 0, Value.int IntKind.i64 0, Value.int IntKind.i64 0] fun (w2 : World) =>
                    EnP w2 fun (w1 : World) =>
                     LdP w1 none (some { block := b_1, off := 0 }) (El.agg [Sc.int IntKind.i64, Sc.int IntKind.i64, Sc.int IntKind.i64, Sc.int IntKind.i64]) fun (x : Int × Int × Int × Int × Unit) =>
                      Post ((x.fst, x.snd.fst, x.snd.snd.fst, x.snd.snd.snd.fst, Unit.unit), 1, Unit.unit) w1)
                   (LdP w2 none (some { block := b, off := 0 }) (El.agg [Sc.int IntKind.i64, Sc.int IntKind.i64, Sc.int IntKind.i64, Sc.int IntKind.i64]) fun (x : Int × Int × Int × Int × Unit) =>
                    StP w2 (some { block := b_1, off := 0 }) [Value.int IntKind.i64 x.fst, Value.int IntKind.i64 x.snd.fst, Value.int IntKind.i64 x.snd.snd.fst, Value.int IntKind.i64 x.snd.snd.snd.fst] fun (w2 : World) =>
                     EnP w2 fun (w1 : World) =>
                      LdP w1 none (some { block := b_1, off := 0 }) (El.agg [Sc.int IntKind.i64, Sc.int IntKind.i64, Sc.int IntKind.i64, Sc.int IntKind.i64]) fun (x : Int × Int × Int × Int × Unit) =>
                       Post ((x.fst, x.snd.fst, x.snd.snd.fst, x.snd.snd.snd.fst, Unit.unit), 0, Unit.unit) w1)))))) := by kernel_rfl
theorem rnext_vc (k o r e x y : Int) (w : World) (Post : (Int × Int × Int × Int × Unit) × Int × Unit → World → Prop) : (rxFnR D2 (fun _ => []) 37 [.agg ⟨[.int .i64 k, .int .i64 o, .int .i64 r, .int .i64 e]⟩, .int .i64 x, .int .i64 y] w Post) = (
 AlP w { toList := [Value.int IntKind.i64 k, Value.int IntKind.i64 o, Value.int IntKind.i64 r, Value.int IntKind.i64 e] } 52 fun (b : Nat) (w2 : World) =>
  AlP w2 { toList := [Value.int IntKind.i64 0, Value.int IntKind.i64 0, Value.int IntKind.i64 0, Value.int IntKind.i64 0] } 52 fun (b_1 : Nat) (w2 : World) =>
   LdP w2 none (some { block := b, off := 0 }) (El.agg [Sc.int IntKind.i64, Sc.int IntKind.i64, Sc.int IntKind.i64, Sc.int IntKind.i64]) fun (x_1 : Int × Int × Int × Int × Unit) =>
    True ∧
     brP (!rightD x_1.fst x_1.snd.fst x_1.snd.snd.fst x_1.snd.snd.snd.fst)
      (StP w2 (some { block := b_1, off := 0 }) [Value.int IntKind.i64 0, Value.int IntKind.i64 0, Value.int IntKind.i64 0, Value.int IntKind.i64 0] fun (w2 : World) =>
       EnP w2 fun (w1 : World) =>
        LdP w1 none (some { block := b_1, off := 0 }) (El.agg [Sc.int IntKind.i64, Sc.int IntKind.i64, Sc.int IntKind.i64, Sc.int IntKind.i64]) fun (x : Int × Int × Int × Int × Unit) =>
         Post ((x.fst, x.snd.fst, x.snd.snd.fst, x.snd.snd.snd.fst, Unit.unit), 11, Unit.unit) w1)
      (true = true ∧
       LdP w2 none (addP (some { block := b, off := 0 }) 2) (El.one (Sc.int IntKind.i64)) fun (x_2 : Int) =>
        brP (decide (x_2 > 0))
         (StP w2 (some { block := b_1, off := 0 }) [Value.int IntKind.i64 0, Value.int IntKind.i64 0, Value.int IntKind.i64 0, Value.int IntKind.i64 0] fun (w2 : World) =>
          EnP w2 fun (w1 : World) =>
           LdP w1 none (some { block := b_1, off := 0 }) (El.agg [Sc.int IntKind.i64, Sc.int IntKind.i64, Sc.int IntKind.i64, Sc.int IntKind.i64]) fun (x : Int × Int × Int × Int × Unit) =>
            Post ((x.fst, x.snd.fst, x.snd.snd.fst, x.snd.snd.snd.fst, Unit.unit), 9, Unit.unit) w1)
         (true = true ∧
          LdP w2 none (addP (some { block := b, off := 0 }) 0) (El.one (Sc.int IntKind.i64)) fun (x_3 : Int) =>
           True ∧
            brP (!rlI x_3 x)
             (StP w2 (some { block := b_1, off := 0 }) [Value.int IntKind.i64 0, Value.int IntKind.i64 0, Value.int IntKind.i64 0, Value.int IntKind.i64 0] fun (w2 : World) =>
              EnP w2 fun (w1 : World) =>
               LdP w1 none (some { block := b_1, off := 0 }) (El.agg [Sc.int IntKind.i64, Sc.int IntKind.i64, Sc.int IntKind.i64, Sc.int IntKind.i64]) fun (x : Int × Int × Int × Int × Unit) =>
                Post ((x.fst, x.snd.fst, x.snd.snd.fst, x.snd.snd.snd.fst, Unit.unit), 6, Unit.unit) w1)
             (AlP w2 { toList := [Value.int IntKind.i64 0, Value.int IntKind.i64 0, Value.int IntKind.i64 0, Value.int IntKind.i64 0] } 52 fun (b_2 : Nat) (w2 : World) =>
              StP w2 (some { block := b_2, off := 0 }) [Value.int IntKind.i64 x, Value.int IntKind.i64 y, Value.int IntKind.i64 0, Value.int IntKind.i64 0] fun (w2 : World) =>
               brP (x == 5)
                (true = true ∧
                 LdP w2 none (addP (some { block := b, off := 0 }) 1) (El.one (Sc.int IntKind.i64)) fun (x : Int) =>
                  true = true ∧
                   StP w2 (addP (some { block := b_2, off := 0 }) 1) [Value.int IntKind.i64 x] fun (w2 : World) =>
                    LdP w2 none (some { block := b_2, off := 0 }) (El.agg [Sc.int IntKind.i64, Sc.int IntKind.i64, Sc.int IntKind.i64, Sc.int IntKind.i64]) fun (x : Int × Int × Int × Int × Unit) =>
                     True ∧
                      brP (!rightD x.fst x.snd.fst x.snd.snd.fst x.snd.snd.snd.fst)
                       (StP w2 (some { block := b_1, off := 0 }) [Value.int IntKind.i64 0, Value.int IntKind.i64 0, Value.int IntKind.i64 0, Value.int IntKind.i64 0] fun (w2 : World) =>
                        EnP w2 fun (w1 : World) =>
                         LdP w1 none (some { block := b_1, off := 0 }) (El.agg [Sc.int IntKind.i64, Sc.int IntKind.i64, Sc.int IntKind.i64, Sc.int IntKind.i64]) fun (x : Int × Int × Int × Int × Unit) =>
                          Post ((x.fst, x.snd.fst, x.snd.snd.fst, x.snd.snd.snd.fst, Unit.unit), 1, Unit.unit) w1)
                       (LdP w2 none (some { block := b_2, off := 0 }) (El.agg [Sc.int IntKind.i64, Sc.int IntKind.i64, Sc.int IntKind.i64, Sc.int IntKind.i64]) fun (x : Int × Int × Int × Int × Unit) =>
                        StP w2 (some { block := b_1, off := 0 }) [Value.int IntKind.i64 x.fst, Value.int IntKind.i64 x.snd.fst, Value.int IntKind.i64 x.snd.snd.fst, Value.int IntKind.i64 x.snd.snd.snd.fst] fun (w2 : World) =>
                         EnP w2 fun (w1 : World) =>
                          LdP w1 none (some { block := b_1, off := 0 }) (El.agg [Sc.int IntKind.i64, Sc.int IntKind.i64, Sc.int IntKind.i64, Sc.int IntKind.i64]) fun (x : Int × Int × Int × Int × Unit) =>
                           Post ((x.fst, x.snd.fst, x.snd.snd.fst, x.snd.snd.snd.fst, Unit.unit), 0, Unit.unit) w1))
                (LdP w2 none (some { block := b_2, off := 0 }) (El.agg [Sc.int IntKind.i64, Sc.int IntKind.i64, Sc.int IntKind.i64, Sc.int IntKind.i64]) fun (x : Int × Int × Int × Int × Unit) =>
                 True ∧
                  brP (!rightD x.fst x.snd.fst x.snd.snd.fst x.snd.snd.snd.fst)
                   (StP w2 (some { block := b_1, off := 0 }) [Value.int IntKind.i64 0, Value.int IntKind.i64 0, Value.int IntKind.i64 0, Value.int IntKind.i64 0] fun (w2 : World) =>
                    EnP w2 fun (w1 : World) =>
                     LdP w1 none (some { block := b_1, off := 0 }) (El.agg [Sc.int IntKind.i64, Sc.int IntKind.i64, Sc.int IntKind.i64, Sc.int IntKind.i64]) fun (x : Int × Int × Int × Int × Unit) =>
                      Post ((x.fst, x.snd.fst, x.snd.snd.fst, x.snd.snd.snd.fst, Unit.unit), 1, Unit.unit) w1)
                   (LdP w2 none (some { block := b_2, off := 0 }) (El.agg [Sc.int IntKind.i64, Sc.int IntKind.i64, Sc.int IntKind.i64, Sc.int IntKind.i64]) fun (x : Int × Int × Int × Int × Unit) =>
                    StP w2 (some { block := b_1, off := 0 }) [Value.int IntKind.i64 x.fst, Value.int IntKind.i64 x.snd.fst, Value.int IntKind.i64 x.snd.snd.fst, Value.int IntKind.i64 x.snd.snd.snd.fst] fun (w2 : World) =>
                     EnP w2 fun (w1 : World) =>
                      LdP w1 none (some { block := b_1, off := 0 }) (El.agg [Sc.int IntKind.i64, Sc.int IntKind.i64, Sc.int IntKind.i64, Sc.int IntKind.i64]) fun (x : Int × Int × Int × Int × Unit) =>
                       Post ((x.fst, x.snd.fst, x.snd.snd.fst, x.snd.snd.snd.fst, Unit.unit), 0, Unit.unit) w1)))))) := by kernel_rfl
theorem ref_vc (k o r e x : Int) (w : World) (Post : (Int × Int × Int × Int × Unit) × Int × Unit → World → Prop) : (rxFnR D2 (fun _ => []) 34 [.agg ⟨[.int .i64 k, .int .i64 o, .int .i64 r, .int .i64 e]⟩, .int .i64 x] w Post) = (
 AlP w { toList := [Value.int IntKind.i64 k, Value.int IntKind.i64 o, Value.int IntKind.i64 r, Value.int IntKind.i64 e] } 33 fun (b : Nat) (w2 : World) =>
  AlP w2 { toList := [Value.int IntKind.i64 0, Value.int IntKind.i64 0, Value.int IntKind.i64 0, Value.int IntKind.i64 0] } 33 fun (b_1 : Nat) (w2 : World) =>
   LdP w2 none (some { block := b, off := 0 }) (El.agg [Sc.int IntKind.i64, Sc.int IntKind.i64, Sc.int IntKind.i64, Sc.int IntKind.i64]) fun (x_1 : Int × Int × Int × Int × Unit) =>
    True ∧
     brP (!rightD x_1.fst x_1.snd.fst x_1.snd.snd.fst x_1.snd.snd.snd.fst)
      (StP w2 (some { block := b_1, off := 0 }) [Value.int IntKind.i64 0, Value.int IntKind.i64 0, Value.int IntKind.i64 0, Value.int IntKind.i64 0] fun (w2 : World) =>
       EnP w2 fun (w1 : World) =>
        LdP w1 none (some { block := b_1, off := 0 }) (El.agg [Sc.int IntKind.i64, Sc.int IntKind.i64, Sc.int IntKind.i64, Sc.int IntKind.i64]) fun (x : Int × Int × Int × Int × Unit) =>
         Post ((x.fst, x.snd.fst, x.snd.snd.fst, x.snd.snd.snd.fst, Unit.unit), 11, Unit.unit) w1)
      (true = true ∧
       LdP w2 none (addP (some { block := b, off := 0 }) 0) (El.one (Sc.int IntKind.i64)) fun (x_2 : Int) =>
        ((x_2 != 2) = true → true = true) ∧
         LdP w2 (some (x_2 != 2)) (addP (some { block := b, off := 0 }) 0) (El.one (Sc.int IntKind.i64)) fun (x_3 : Int) =>
          ((x_2 != 2 && x_3 != 3) = true → true = true) ∧
           LdP w2 (some (x_2 != 2 && x_3 != 3)) (addP (some { block := b, off := 0 }) 0) (El.one (Sc.int IntKind.i64)) fun (x_4 : Int) =>
            brP (x_2 != 2 && x_3 != 3 && x_4 != 4)
             (StP w2 (some { block := b_1, off := 0 }) [Value.int IntKind.i64 0, Value.int IntKind.i64 0, Value.int IntKind.i64 0, Value.int IntKind.i64 0] fun (w2 : World) =>
              EnP w2 fun (w1 : World) =>
               LdP w1 none (some { block := b_1, off := 0 }) (El.agg [Sc.int IntKind.i64, Sc.int IntKind.i64, Sc.int IntKind.i64, Sc.int IntKind.i64]) fun (x : Int × Int × Int × Int × Unit) =>
                Post ((x.fst, x.snd.fst, x.snd.snd.fst, x.snd.snd.snd.fst, Unit.unit), 6, Unit.unit) w1)
             (true = true ∧
              LdP w2 none (addP (some { block := b, off := 0 }) 2) (El.one (Sc.int IntKind.i64)) fun (x_5 : Int) =>
               ∀ (x_6 : Int),
                x_6 = subI IntKind.i64 65535 x_5 →
                 ((!decide (x > x_6)) = true → true = true) ∧
                  LdP w2 (some !decide (x > x_6)) (addP (some { block := b, off := 0 }) 2) (El.one (Sc.int IntKind.i64)) fun (x_7 : Int) =>
                   brP (decide (x > x_6) || decide (x < subI IntKind.i64 0 x_7))
                    (StP w2 (some { block := b_1, off := 0 }) [Value.int IntKind.i64 0, Value.int IntKind.i64 0, Value.int IntKind.i64 0, Value.int IntKind.i64 0] fun (w2 : World) =>
                     EnP w2 fun (w1 : World) =>
                      LdP w1 none (some { block := b_1, off := 0 }) (El.agg [Sc.int IntKind.i64, Sc.int IntKind.i64, Sc.int IntKind.i64, Sc.int IntKind.i64]) fun (x : Int × Int × Int × Int × Unit) =>
                       Post ((x.fst, x.snd.fst, x.snd.snd.fst, x.snd.snd.snd.fst, Unit.unit), 2, Unit.unit) w1)
                    (true = true ∧
                     LdP w2 none (addP (some { block := b, off := 0 }) 2) (El.one (Sc.int IntKind.i64)) fun (x_8 : Int) =>
                      ∀ (x_9 : Int),
                       x_9 = addI IntKind.i64 x_8 x →
                        true = true ∧
                         StP w2 (addP (some { block := b, off := 0 }) 2) [Value.int IntKind.i64 x_9] fun (w2 : World) =>
                          LdP w2 none (some { block := b, off := 0 }) (El.agg [Sc.int IntKind.i64, Sc.int IntKind.i64, Sc.int IntKind.i64, Sc.int IntKind.i64]) fun (x : Int × Int × Int × Int × Unit) =>
                           StP w2 (some { block := b_1, off := 0 }) [Value.int IntKind.i64 x.fst, Value.int IntKind.i64 x.snd.fst, Value.int IntKind.i64 x.snd.snd.fst, Value.int IntKind.i64 x.snd.snd.snd.fst] fun (w2 : World) =>
                            EnP w2 fun (w1 : World) =>
                             LdP w1 none (some { block := b_1, off := 0 }) (El.agg [Sc.int IntKind.i64, Sc.int IntKind.i64, Sc.int IntKind.i64, Sc.int IntKind.i64]) fun (x : Int × Int × Int × Int × Unit) =>
                              Post ((x.fst, x.snd.fst, x.snd.snd.fst, x.snd.snd.snd.fst, Unit.unit), 0, Unit.unit) w1)))) := by kernel_rfl
theorem rref_vc (k o r e x : Int) (w : World) (Post : (Int × Int × Int × Int × Unit) × Int × Unit → World → Prop) : (rxFnR D2 (fun _ => []) 38 [.agg ⟨[.int .i64 k, .int .i64 o, .int .i64 r, .int .i64 e]⟩, .int .i64 x] w Post) = (
 AlP w { toList := [Value.int IntKind.i64 k, Value.int IntKind.i64 o, Value.int IntKind.i64 r, Value.int IntKind.i64 e] } 52 fun (b : Nat) (w2 : World) =>
  AlP w2 { toList := [Value.int IntKind.i64 0, Value.int IntKind.i64 0, Value.int IntKind.i64 0, Value.int IntKind.i64 0] } 52 fun (b_1 : Nat) (w2 : World) =>
   LdP w2 none (some { block := b, off := 0 }) (El.agg [Sc.int IntKind.i64, Sc.int IntKind.i64, Sc.int IntKind.i64, Sc.int IntKind.i64]) fun (x_1 : Int × Int × Int × Int × Unit) =>
    True ∧
     brP (!rightD x_1.fst x_1.snd.fst x_1.snd.snd.fst x_1.snd.snd.snd.fst)
      (StP w2 (some { block := b_1, off := 0 }) [Value.int IntKind.i64 0, Value.int IntKind.i64 0, Value.int IntKind.i64 0, Value.int IntKind.i64 0] fun (w2 : World) =>
       EnP w2 fun (w1 : World) =>
        LdP w1 none (some { block := b_1, off := 0 }) (El.agg [Sc.int IntKind.i64, Sc.int IntKind.i64, Sc.int IntKind.i64, Sc.int IntKind.i64]) fun (x : Int × Int × Int × Int × Unit) =>
         Post ((x.fst, x.snd.fst, x.snd.snd.fst, x.snd.snd.snd.fst, Unit.unit), 11, Unit.unit) w1)
      (true = true ∧
       LdP w2 none (addP (some { block := b, off := 0 }) 0) (El.one (Sc.int IntKind.i64)) fun (x_2 : Int) =>
        ((!decide (x_2 < 2)) = true → true = true) ∧
         LdP w2 (some !decide (x_2 < 2)) (addP (some { block := b, off := 0 }) 0) (El.one (Sc.int IntKind.i64)) fun (x_3 : Int) =>
          brP (decide (x_2 < 2) || decide (x_3 > 4))
           (StP w2 (some { block := b_1, off := 0 }) [Value.int IntKind.i64 0, Value.int IntKind.i64 0, Value.int IntKind.i64 0, Value.int IntKind.i64 0] fun (w2 : World) =>
            EnP w2 fun (w1 : World) =>
             LdP w1 none (some { block := b_1, off := 0 }) (El.agg [Sc.int IntKind.i64, Sc.int IntKind.i64, Sc.int IntKind.i64, Sc.int IntKind.i64]) fun (x : Int × Int × Int × Int × Unit) =>
              Post ((x.fst, x.snd.fst, x.snd.snd.fst, x.snd.snd.snd.fst, Unit.unit), 6, Unit.unit) w1)
           (((!(decide (x > 65535) || decide (x < -65535))) = true → true = true) ∧
            LdP w2 (some !(decide (x > 65535) || decide (x < -65535))) (addP (some { block := b, off := 0 }) 2) (El.one (Sc.int IntKind.i64)) fun (x_4 : Int) =>
             ∀ (x_5 : Int),
              x_5 = addI IntKind.i64 x_4 x →
               ((!(decide (x > 65535) || decide (x < -65535))) = true → True) ∧
                brP (decide (x > 65535) || decide (x < -65535) || !(decide (x_5 ≥ 0) && decide (x_5 ≤ 65535)))
                 (StP w2 (some { block := b_1, off := 0 }) [Value.int IntKind.i64 0, Value.int IntKind.i64 0, Value.int IntKind.i64 0, Value.int IntKind.i64 0] fun (w2 : World) =>
                  EnP w2 fun (w1 : World) =>
                   LdP w1 none (some { block := b_1, off := 0 }) (El.agg [Sc.int IntKind.i64, Sc.int IntKind.i64, Sc.int IntKind.i64, Sc.int IntKind.i64]) fun (x : Int × Int × Int × Int × Unit) =>
                    Post ((x.fst, x.snd.fst, x.snd.snd.fst, x.snd.snd.snd.fst, Unit.unit), 2, Unit.unit) w1)
                 (true = true ∧
                  LdP w2 none (addP (some { block := b, off := 0 }) 2) (El.one (Sc.int IntKind.i64)) fun (x_6 : Int) =>
                   ∀ (x_7 : Int),
                    x_7 = addI IntKind.i64 x_6 x →
                     true = true ∧
                      StP w2 (addP (some { block := b, off := 0 }) 2) [Value.int IntKind.i64 x_7] fun (w2 : World) =>
                       LdP w2 none (some { block := b, off := 0 }) (El.agg [Sc.int IntKind.i64, Sc.int IntKind.i64, Sc.int IntKind.i64, Sc.int IntKind.i64]) fun (x : Int × Int × Int × Int × Unit) =>
                        StP w2 (some { block := b_1, off := 0 }) [Value.int IntKind.i64 x.fst, Value.int IntKind.i64 x.snd.fst, Value.int IntKind.i64 x.snd.snd.fst, Value.int IntKind.i64 x.snd.snd.snd.fst] fun (w2 : World) =>
                         EnP w2 fun (w1 : World) =>
                          LdP w1 none (some { block := b_1, off := 0 }) (El.agg [Sc.int IntKind.i64, Sc.int IntKind.i64, Sc.int IntKind.i64, Sc.int IntKind.i64]) fun (x : Int × Int × Int × Int × Unit) =>
                           Post ((x.fst, x.snd.fst, x.snd.snd.fst, x.snd.snd.snd.fst, Unit.unit), 0, Unit.unit) w1)))) := by kernel_rfl
/-- What comes of a change of the kind: the error. -/
def nextE (k o r e x y : Int) : Int := if rightD k o r e = false then 11 else if r > 0 then 9 else if x ∈ leadsL k then (if rightD x (if x = 5 then o else y) 0 0 = false then 1 else 0) else 6
def nextK (k o r e x y : Int) : Int := if nextE k o r e x y = 0 then x else 0
def nextO (k o r e x y : Int) : Int := if nextE k o r e x y = 0 then (if x = 5 then o else y) else 0

theorem next_ok (k o r e x y : Int) (w : World) : CallsR Try.prog 32 (.tup [(.agg [.int .i64, .int .i64, .int .i64, .int .i64]), .one (.int .i64)]) [.agg ⟨[.int .i64 k, .int .i64 o, .int .i64 r, .int .i64 e]⟩, .int .i64 x, .int .i64 y] w
    (fun v w' => v = ((nextK k o r e x y, nextO k o r e x y, (0 : Int), (0 : Int), ()), nextE k o r e x y, ()) ∧ Ext w w') := by
  refine rxFnR_ok (C := D2) (ann := fun _ => []) (Eq.mpr (next_vc k o r e x y w _) ?_)
  have H := At.start [] w
  repeat' (first
    | exact Go.RX.AtD.all H
    | exact And.intro (by first | rfl | decide +kernel) (Go.RX.AtD.all H)
    | refine And.intro (by first | exact rfl | exact trivial | exact fun _ => rfl | exact fun _ => trivial | exact ⟨rfl, by decide, by decide⟩ | exact ⟨by decide, by decide⟩ | decide +kernel | exact fun _ => by decide | exact fun _ => ⟨rfl, by decide, by decide⟩ | (dsimp only [List.length_cons, List.length_nil]; exact ⟨rfl, by decide, by decide⟩)) ?_
    | refine LdP.atA 0 H rfl rfl ?_
    | refine LdP.atA 1 H rfl rfl ?_
    | refine LdP.atA 2 H rfl rfl ?_
    | refine LdP.at 0 H rfl rfl ?_
    | refine LdP.at 1 H rfl rfl ?_
    | refine LdP.at 2 H rfl rfl ?_
    | refine AlP.go H fun b w1 H => ?_
    | refine StP.all 0 H rfl rfl rfl fun w1 H => ?_
    | refine StP.all 1 H rfl rfl rfl fun w1 H => ?_
    | refine StP.all 2 H rfl rfl rfl fun w1 H => ?_
    | refine StP.oneA 0 H rfl rfl rfl fun w1 H => ?_
    | refine StP.oneA 1 H rfl rfl rfl fun w1 H => ?_
    | refine StP.oneA 2 H rfl rfl rfl fun w1 H => ?_
    | refine StP.one 0 H rfl rfl rfl fun w1 H => ?_
    | refine StP.one 1 H rfl rfl rfl fun w1 H => ?_
    | refine StP.one 2 H rfl rfl rfl fun w1 H => ?_
    | with_reducible refine EnP.go H fun w1 H => ?_
    | refine shr_go ?_
    | refine brP_pos (by assumption) ?_
    | refine brP_neg (by assumption) ?_
    | refine brP_intro (fun c => ?_) (fun c => ?_))
  all_goals
    refine And.intro ?_ H.all
    simp only [Bool.or_eq_true, Bool.or_eq_false_iff, Bool.and_eq_true, Bool.and_eq_false_iff, beq_iff_eq, beq_eq_false_iff_ne, bne_iff_ne, bne_eq_false_iff_eq, decide_eq_true_eq, decide_eq_false_iff_not, Bool.false_eq_true, Bool.true_eq_false, Bool.not_eq_true', Bool.not_eq_false', and_true, true_and, and_false, false_and, or_true, true_or, or_false, false_or, ne_eq, not_true_eq_false, not_false_eq_true, false_iff, iff_false, true_iff, iff_true] at *
    first
      | (simp [nextK, nextO, nextE, *]; done)
      | (subst_vars; simp [nextK, nextO, nextE, *])
theorem rnext_ok (k o r e x y : Int) (w : World) : CallsR Try.prog 37 (.tup [(.agg [.int .i64, .int .i64, .int .i64, .int .i64]), .one (.int .i64)]) [.agg ⟨[.int .i64 k, .int .i64 o, .int .i64 r, .int .i64 e]⟩, .int .i64 x, .int .i64 y] w
    (fun v w' => v = ((nextK k o r e x y, nextO k o r e x y, (0 : Int), (0 : Int), ()), nextE k o r e x y, ()) ∧ Ext w w') := by
  refine rxFnR_ok (C := D2) (ann := fun _ => []) (Eq.mpr (rnext_vc k o r e x y w _) ?_)
  have H := At.start [] w
  repeat' (first
    | exact Go.RX.AtD.all H
    | exact And.intro (by first | rfl | decide +kernel) (Go.RX.AtD.all H)
    | refine And.intro (by first | exact rfl | exact trivial | exact fun _ => rfl | exact fun _ => trivial | exact ⟨rfl, by decide, by decide⟩ | exact ⟨by decide, by decide⟩ | decide +kernel | exact fun _ => by decide | exact fun _ => ⟨rfl, by decide, by decide⟩ | (dsimp only [List.length_cons, List.length_nil]; exact ⟨rfl, by decide, by decide⟩)) ?_
    | refine LdP.atA 0 H rfl rfl ?_
    | refine LdP.atA 1 H rfl rfl ?_
    | refine LdP.atA 2 H rfl rfl ?_
    | refine LdP.at 0 H rfl rfl ?_
    | refine LdP.at 1 H rfl rfl ?_
    | refine LdP.at 2 H rfl rfl ?_
    | refine AlP.go H fun b w1 H => ?_
    | refine StP.all 0 H rfl rfl rfl fun w1 H => ?_
    | refine StP.all 1 H rfl rfl rfl fun w1 H => ?_
    | refine StP.all 2 H rfl rfl rfl fun w1 H => ?_
    | refine StP.oneA 0 H rfl rfl rfl fun w1 H => ?_
    | refine StP.oneA 1 H rfl rfl rfl fun w1 H => ?_
    | refine StP.oneA 2 H rfl rfl rfl fun w1 H => ?_
    | refine StP.one 0 H rfl rfl rfl fun w1 H => ?_
    | refine StP.one 1 H rfl rfl rfl fun w1 H => ?_
    | refine StP.one 2 H rfl rfl rfl fun w1 H => ?_
    | with_reducible refine EnP.go H fun w1 H => ?_
    | refine shr_go ?_
    | refine brP_pos (by assumption) ?_
    | refine brP_neg (by assumption) ?_
    | refine brP_intro (fun c => ?_) (fun c => ?_))
  all_goals
    refine And.intro ?_ H.all
    simp only [Bool.or_eq_true, Bool.or_eq_false_iff, Bool.and_eq_true, Bool.and_eq_false_iff, beq_iff_eq, beq_eq_false_iff_ne, bne_iff_ne, bne_eq_false_iff_eq, decide_eq_true_eq, decide_eq_false_iff_not, Bool.false_eq_true, Bool.true_eq_false, Bool.not_eq_true', Bool.not_eq_false', and_true, true_and, and_false, false_and, or_true, true_or, or_false, false_or, ne_eq, not_true_eq_false, not_false_eq_true, false_iff, iff_false, true_iff, iff_true] at *
    have hk : ∀ c, rlI k x = c → rightD k o r e = true → decide (x ∈ leadsL k) = c := fun c h hr => by
      have hp : rightP k o r e := of_decide_eq_true hr
      rw [← h]; exact leads_rl x (by unfold rightP at hp; omega)
    first
      | (simp [nextK, nextO, nextE, *]; done)
      | (subst_vars; simp [nextK, nextO, nextE, *]; done)
      | (have hm := hk _ (by assumption) (by assumption)
         simp only [Bool.or_eq_true, Bool.or_eq_false_iff, Bool.and_eq_true, Bool.and_eq_false_iff, beq_iff_eq, beq_eq_false_iff_ne, bne_iff_ne, bne_eq_false_iff_eq, decide_eq_true_eq, decide_eq_false_iff_not, Bool.false_eq_true, Bool.true_eq_false, Bool.not_eq_true', Bool.not_eq_false', and_true, true_and, and_false, false_and, or_true, true_or, or_false, false_or, ne_eq, not_true_eq_false, not_false_eq_true, false_iff, iff_false, true_iff, iff_true] at hm
         first
          | (simp [nextK, nextO, nextE, *]; done)
          | (subst_vars; simp [nextK, nextO, nextE, *]))
end Go.Proofs.Ytogndkmclingeaa
