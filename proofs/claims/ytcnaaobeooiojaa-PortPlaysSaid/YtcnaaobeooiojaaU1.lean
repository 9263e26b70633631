import Derived.Test.YtcnaaobeooiojaaTF
namespace Go.Proofs.Ytcnaaobeooiojaa
set_option linter.unusedSimpArgs false
set_option linter.unusedVariables false
open Go.RX
def unew_vc_ann : Nat → Slots := (fun | 5 => [(5, Go.RX.El.one (Go.RX.Sc.int Go.IntKind.i64))] | _ => [])
theorem unew_vc (n : Int) (w : World) (Post : Option Addr × Int × Unit → World → Prop) : (rxFn R2 unew_vc_ann 10 [.int .i64 n] w Post) = (
 AlP w { toList := [Value.slice none 0 0] } 69 fun (b : Nat) (w2 : World) =>
  brP (decide (n < 1) || decide (n > 32)) (EnP w2 fun (w1 : World) => Post (some { block := b, off := 0 }, 1, Unit.unit) w1)
   (∃ (I : Nat → Int × Unit → World → Prop),
    (∃ (n : Nat), ∀ (w1 : World), Ext w2 w1 → I n (0, Unit.unit) w1) ∧
     ∀ (n_1 : Nat) (s : Int × Unit) (w1 : World),
      I n_1 s w1 →
       brP (decide (s.fst < 16))
        (true = true ∧
         true = true ∧
          LdP w1 none (addP (some { block := b, off := 0 }) 0) (El.one Sc.slice) fun (x : Option Addr × Nat × Nat) =>
           MkP w1 32 5 n n { toList := [Value.int IntKind.i64 0, Value.int IntKind.i64 0, Value.int IntKind.i64 0, Value.bool false, Value.bool false] } 48 fun (b_1 : Nat) (w2 : World) =>
            AlP w2 { toList := [Value.slice (some { block := b_1, off := 0 }) n.toNat n.toNat] } 70 fun (b_2 : Nat) (w2 : World) =>
             ∀ (w1 : World),
              Ext w2 w1 →
               apR w1 70 1 24 { toList := [Value.slice none 0 0] } (x.fst, x.snd.fst, x.snd.snd) (some { block := b_2, off := 0 }, 1, 1) fun (r : Option Addr × Nat × Nat) (w2 : World) =>
                true = true ∧
                 true = true ∧ StP w2 (addP (some { block := b, off := 0 }) 0) [Value.slice r.fst r.snd.fst r.snd.snd] fun (w2 : World) => ∀ (w3 : World), Ext w2 w3 → ∃ (n' : Nat), n' < n_1 ∧ I n' (addI IntKind.i64 s.fst 1, Unit.unit) w3)
        (EnP w1 fun (w1 : World) => Post (some { block := b, off := 0 }, 0, Unit.unit) w1))) := by kernel_rfl
theorem uof_vc (p : Option Addr) (g i : Int) (w : World) (Post : PT × Bool × Unit → World → Prop) : (rxFnR R2 (fun _ => []) 31 [.pointer p, .int .i64 g, .int .i64 i] w Post) = (
 AlP w { toList := [Value.int IntKind.i64 0, Value.int IntKind.i64 0, Value.int IntKind.i64 0, Value.bool false, Value.bool false] } 48 fun (b : Nat) (w2 : World) =>
  True ∧
   ((!(!gI g || decide (i < 0))) = true → p.isSome = true) ∧
    ((!(!gI g || decide (i < 0))) = true → p.isSome = true) ∧
     LdP w2 (some !(!gI g || decide (i < 0))) (addP p 0) (El.one Sc.slice) fun (x : Option Addr × Nat × Nat) =>
      ((!(!gI g || decide (i < 0))) = true → x.fst.isSome = true ∧ (0 : Int) ≤ 0 ∧ 0 < (↑x.snd.fst : Int)) ∧
       LdP w2 (some !(!gI g || decide (i < 0))) (addP x.fst 0) (El.one Sc.slice) fun (x : Option Addr × Nat × Nat) =>
        ((!(!gI g || decide (i < 0) || decide (i ≥ (↑x.snd.fst : Int)))) = true → p.isSome = true) ∧
         ((!(!gI g || decide (i < 0) || decide (i ≥ (↑x.snd.fst : Int)))) = true → p.isSome = true) ∧
          LdP w2 (some !(!gI g || decide (i < 0) || decide (i ≥ (↑x.snd.fst : Int)))) (addP p 0) (El.one Sc.slice) fun (x_1 : Option Addr × Nat × Nat) =>
           ((!(!gI g || decide (i < 0) || decide (i ≥ (↑x.snd.fst : Int)))) = true → x_1.fst.isSome = true ∧ 0 ≤ subI IntKind.i64 g 1 ∧ subI IntKind.i64 g 1 < (↑x_1.snd.fst : Int)) ∧
            LdP w2 (some !(!gI g || decide (i < 0) || decide (i ≥ (↑x.snd.fst : Int)))) (addP x_1.fst ((subI IntKind.i64 g 1).toNat * 1)) (El.one Sc.slice) fun (x_2 : Option Addr × Nat × Nat) =>
             ((!(!gI g || decide (i < 0) || decide (i ≥ (↑x.snd.fst : Int)))) = true → x_2.fst.isSome = true ∧ 0 ≤ i ∧ i < (↑x_2.snd.fst : Int)) ∧
              ((!(!gI g || decide (i < 0) || decide (i ≥ (↑x.snd.fst : Int)))) = true → (addP x_2.fst (i.toNat * 5)).isSome = true) ∧
               LdP w2 (some !(!gI g || decide (i < 0) || decide (i ≥ (↑x.snd.fst : Int)))) (addP (addP x_2.fst (i.toNat * 5)) 0) (El.one (Sc.int IntKind.i64)) fun (x_3 : Int) =>
                brP (!gI g || decide (i < 0) || decide (i ≥ (↑x.snd.fst : Int)) || x_3 == 0)
                 (StP w2 (some { block := b, off := 0 }) [Value.int IntKind.i64 0, Value.int IntKind.i64 0, Value.int IntKind.i64 0, Value.bool false, Value.bool false] fun (w2 : World) =>
                  EnP w2 fun (w1 : World) =>
                   LdP w1 none (some { block := b, off := 0 }) (El.agg [Sc.int IntKind.i64, Sc.int IntKind.i64, Sc.int IntKind.i64, Sc.bool, Sc.bool]) fun (x : Int × Int × Int × Bool × Bool × Unit) =>
                    Post ((x.fst, x.snd.fst, x.snd.snd.fst, x.snd.snd.snd.fst, x.snd.snd.snd.snd.fst, Unit.unit), false, Unit.unit) w1)
                 (p.isSome = true ∧
                  p.isSome = true ∧
                   LdP w2 none (addP p 0) (El.one Sc.slice) fun (x : Option Addr × Nat × Nat) =>
                    (x.fst.isSome = true ∧ 0 ≤ subI IntKind.i64 g 1 ∧ subI IntKind.i64 g 1 < (↑x.snd.fst : Int)) ∧
                     LdP w2 none (addP x.fst ((subI IntKind.i64 g 1).toNat * 1)) (El.one Sc.slice) fun (x : Option Addr × Nat × Nat) =>
                      (x.fst.isSome = true ∧ 0 ≤ i ∧ i < (↑x.snd.fst : Int)) ∧
                       LdP w2 none (addP x.fst (i.toNat * 5)) (El.agg [Sc.int IntKind.i64, Sc.int IntKind.i64, Sc.int IntKind.i64, Sc.bool, Sc.bool]) fun (x : Int × Int × Int × Bool × Bool × Unit) =>
                        StP w2 (some { block := b, off := 0 }) [Value.int IntKind.i64 x.fst, Value.int IntKind.i64 x.snd.fst, Value.int IntKind.i64 x.snd.snd.fst, Value.bool x.snd.snd.snd.fst, Value.bool x.snd.snd.snd.snd.fst] fun (w2 : World) =>
                         EnP w2 fun (w1 : World) =>
                          LdP w1 none (some { block := b, off := 0 }) (El.agg [Sc.int IntKind.i64, Sc.int IntKind.i64, Sc.int IntKind.i64, Sc.bool, Sc.bool]) fun (x : Int × Int × Int × Bool × Bool × Unit) =>
                           Post ((x.fst, x.snd.fst, x.snd.snd.fst, x.snd.snd.snd.fst, x.snd.snd.snd.snd.fst, Unit.unit), true, Unit.unit) w1)) := by kernel_rfl
def ufree_vc_ann : Nat → Slots := (fun | 2 => [(5, Go.RX.El.one (Go.RX.Sc.int Go.IntKind.i64))] | _ => [])
theorem ufree_vc (p : Option Addr) (g : Int) (w : World) (Post : Int → World → Prop) : (rxFn R2 ufree_vc_ann 37 [.pointer p, .int .i64 g] w Post) = (
 ∃ (I : Nat → Int × Unit → World → Prop),
  (∃ (n : Nat), ∀ (w1 : World), Ext w w1 → I n (0, Unit.unit) w1) ∧
   ∀ (n : Nat) (s : Int × Unit) (w1 : World),
    I n s w1 →
     p.isSome = true ∧
      p.isSome = true ∧
       LdP w1 none (addP p 0) (El.one Sc.slice) fun (x : Option Addr × Nat × Nat) =>
        (x.fst.isSome = true ∧ 0 ≤ subI IntKind.i64 g 1 ∧ subI IntKind.i64 g 1 < (↑x.snd.fst : Int)) ∧
         LdP w1 none (addP x.fst ((subI IntKind.i64 g 1).toNat * 1)) (El.one Sc.slice) fun (x : Option Addr × Nat × Nat) =>
          brP (decide (s.fst < (↑x.snd.fst : Int)))
           (p.isSome = true ∧
            p.isSome = true ∧
             LdP w1 none (addP p 0) (El.one Sc.slice) fun (x : Option Addr × Nat × Nat) =>
              (x.fst.isSome = true ∧ 0 ≤ subI IntKind.i64 g 1 ∧ subI IntKind.i64 g 1 < (↑x.snd.fst : Int)) ∧
               LdP w1 none (addP x.fst ((subI IntKind.i64 g 1).toNat * 1)) (El.one Sc.slice) fun (x : Option Addr × Nat × Nat) =>
                (x.fst.isSome = true ∧ 0 ≤ s.fst ∧ s.fst < (↑x.snd.fst : Int)) ∧
                 (addP x.fst (Int.toNat s.fst * 5)).isSome = true ∧
                  LdP w1 none (addP (addP x.fst (Int.toNat s.fst * 5)) 0) (El.one (Sc.int IntKind.i64)) fun (x : Int) =>
                   brP (x == 0) (EnP w1 fun (w1 : World) => Post s.fst w1) (∀ (w3 : World), Ext w1 w3 → ∃ (n' : Nat), n' < n ∧ I n' (addI IntKind.i64 s.fst 1, Unit.unit) w3))
           (EnP w1 fun (w1 : World) => Post (-1) w1)) := by kernel_rfl
theorem uopen_vc (p : Option Addr) (g r : Int) (w : World) (Post : Int × Int × Unit → World → Prop) : (rxFn R2 (fun _ => []) 12 [.pointer p, .int .i64 g, .int .i64 r] w Post) = (
 True ∧
  ((!!gI g) = true → True) ∧
   brP (!gI g || !gI r || g == r) (EnP w fun (w1 : World) => Post (0, 1, Unit.unit) w1)
    (∃ (x : Int),
     QCalls Try.prog 37 [Value.pointer p, Value.int IntKind.i64 g] w (Value.int IntKind.i64 x) ∧
      brP (decide (x < 0)) (EnP w fun (w1 : World) => Post (0, 3, Unit.unit) w1)
       (p.isSome = true ∧
        p.isSome = true ∧
         LdP w none (addP p 0) (El.one Sc.slice) fun (x_1 : Option Addr × Nat × Nat) =>
          (x_1.fst.isSome = true ∧ 0 ≤ subI IntKind.i64 g 1 ∧ subI IntKind.i64 g 1 < (↑x_1.snd.fst : Int)) ∧
           LdP w none (addP x_1.fst ((subI IntKind.i64 g 1).toNat * 1)) (El.one Sc.slice) fun (x_2 : Option Addr × Nat × Nat) =>
            (x_2.fst.isSome = true ∧ 0 ≤ x ∧ x < (↑x_2.snd.fst : Int)) ∧
             StP w (addP x_2.fst (x.toNat * 5)) [Value.int IntKind.i64 1, Value.int IntKind.i64 r, Value.int IntKind.i64 0, Value.bool false, Value.bool false] fun (w2 : World) => EnP w2 fun (w1 : World) => Post (x, 0, Unit.unit) w1))) := by kernel_rfl
theorem ubind_vc (p : Option Addr) (g r i : Int) (w : World) (Post : Int × Int × Unit → World → Prop) : (rxFn R2 (fun _ => []) 14 [.pointer p, .int .i64 g, .int .i64 r, .int .i64 i] w Post) = (
 True ∧
  ((!!gI g) = true → True) ∧
   brP (!gI g || !gI r || g == r) (EnP w fun (w1 : World) => Post (0, 1, Unit.unit) w1)
    (∃ (x : (Int × Int × Int × Bool × Bool × Unit) × Bool × Unit),
     QCalls Try.prog 31 [Value.pointer p, Value.int IntKind.i64 r, Value.int IntKind.i64 i] w
       (Value.tuple
        {
         toList :=
          [Value.agg { toList := [Value.int IntKind.i64 x.fst.fst, Value.int IntKind.i64 x.fst.snd.fst, Value.int IntKind.i64 x.fst.snd.snd.fst, Value.bool x.fst.snd.snd.snd.fst, Value.bool x.fst.snd.snd.snd.snd.fst] }, Value.bool x.snd.fst] }) ∧
      AlP w { toList := [Value.int IntKind.i64 0, Value.int IntKind.i64 0, Value.int IntKind.i64 0, Value.bool false, Value.bool false] } 48 fun (b : Nat) (w2 : World) =>
       StP w2 (some { block := b, off := 0 }) [Value.int IntKind.i64 x.fst.fst, Value.int IntKind.i64 x.fst.snd.fst, Value.int IntKind.i64 x.fst.snd.snd.fst, Value.bool x.fst.snd.snd.snd.fst, Value.bool x.fst.snd.snd.snd.snd.fst] fun (w2 : World) =>
        brP (!x.snd.fst) (EnP w2 fun (w1 : World) => Post (0, 4, Unit.unit) w1)
         (true = true ∧
          LdP w2 none (addP (some { block := b, off := 0 }) 0) (El.one (Sc.int IntKind.i64)) fun (x : Int) =>
           brP (x == 2) (EnP w2 fun (w1 : World) => Post (0, 6, Unit.unit) w1)
            (true = true ∧
             LdP w2 none (addP (some { block := b, off := 0 }) 1) (El.one (Sc.int IntKind.i64)) fun (x : Int) =>
              brP (x != g) (EnP w2 fun (w1 : World) => Post (0, 7, Unit.unit) w1)
               (∃ (x : Int),
                QCalls Try.prog 37 [Value.pointer p, Value.int IntKind.i64 g] w2 (Value.int IntKind.i64 x) ∧
                 brP (decide (x < 0)) (EnP w2 fun (w1 : World) => Post (0, 3, Unit.unit) w1)
                  (p.isSome = true ∧
                   p.isSome = true ∧
                    LdP w2 none (addP p 0) (El.one Sc.slice) fun (x_1 : Option Addr × Nat × Nat) =>
                     (x_1.fst.isSome = true ∧ 0 ≤ subI IntKind.i64 g 1 ∧ subI IntKind.i64 g 1 < (↑x_1.snd.fst : Int)) ∧
                      LdP w2 none (addP x_1.fst ((subI IntKind.i64 g 1).toNat * 1)) (El.one Sc.slice) fun (x_2 : Option Addr × Nat × Nat) =>
                       (x_2.fst.isSome = true ∧ 0 ≤ x ∧ x < (↑x_2.snd.fst : Int)) ∧
                        StP w2 (addP x_2.fst (x.toNat * 5)) [Value.int IntKind.i64 2, Value.int IntKind.i64 r, Value.int IntKind.i64 i, Value.bool false, Value.bool false] fun (w2 : World) =>
                         p.isSome = true ∧
                          p.isSome = true ∧
                           LdP w2 none (addP p 0) (El.one Sc.slice) fun (x_3 : Option Addr × Nat × Nat) =>
                            (x_3.fst.isSome = true ∧ 0 ≤ subI IntKind.i64 r 1 ∧ subI IntKind.i64 r 1 < (↑x_3.snd.fst : Int)) ∧
                             LdP w2 none (addP x_3.fst ((subI IntKind.i64 r 1).toNat * 1)) (El.one Sc.slice) fun (x_4 : Option Addr × Nat × Nat) =>
                              (x_4.fst.isSome = true ∧ 0 ≤ i ∧ i < (↑x_4.snd.fst : Int)) ∧
                               (addP x_4.fst (i.toNat * 5)).isSome = true ∧
                                StP w2 (addP (addP x_4.fst (i.toNat * 5)) 0) [Value.int IntKind.i64 2] fun (w2 : World) =>
                                 p.isSome = true ∧
                                  p.isSome = true ∧
                                   LdP w2 none (addP p 0) (El.one Sc.slice) fun (x_5 : Option Addr × Nat × Nat) =>
                                    (x_5.fst.isSome = true ∧ 0 ≤ subI IntKind.i64 r 1 ∧ subI IntKind.i64 r 1 < (↑x_5.snd.fst : Int)) ∧
                                     LdP w2 none (addP x_5.fst ((subI IntKind.i64 r 1).toNat * 1)) (El.one Sc.slice) fun (x_6 : Option Addr × Nat × Nat) =>
                                      (x_6.fst.isSome = true ∧ 0 ≤ i ∧ i < (↑x_6.snd.fst : Int)) ∧
                                       (addP x_6.fst (i.toNat * 5)).isSome = true ∧ StP w2 (addP (addP x_6.fst (i.toNat * 5)) 2) [Value.int IntKind.i64 x] fun (w2 : World) => EnP w2 fun (w1 : World) => Post (x, 0, Unit.unit) w1)))))) := by kernel_rfl
theorem usend_vc (p : Option Addr) (g i : Int) (w : World) (Post : Int → World → Prop) : (rxFn R2 (fun _ => []) 16 [.pointer p, .int .i64 g, .int .i64 i] w Post) = (
 ∃ (x : (Int × Int × Int × Bool × Bool × Unit) × Bool × Unit),
  QCalls Try.prog 31 [Value.pointer p, Value.int IntKind.i64 g, Value.int IntKind.i64 i] w
    (Value.tuple
     {
      toList :=
       [Value.agg { toList := [Value.int IntKind.i64 x.fst.fst, Value.int IntKind.i64 x.fst.snd.fst, Value.int IntKind.i64 x.fst.snd.snd.fst, Value.bool x.fst.snd.snd.snd.fst, Value.bool x.fst.snd.snd.snd.snd.fst] }, Value.bool x.snd.fst] }) ∧
   AlP w { toList := [Value.int IntKind.i64 0, Value.int IntKind.i64 0, Value.int IntKind.i64 0, Value.bool false, Value.bool false] } 48 fun (b : Nat) (w2 : World) =>
    StP w2 (some { block := b, off := 0 }) [Value.int IntKind.i64 x.fst.fst, Value.int IntKind.i64 x.fst.snd.fst, Value.int IntKind.i64 x.fst.snd.snd.fst, Value.bool x.fst.snd.snd.snd.fst, Value.bool x.fst.snd.snd.snd.snd.fst] fun (w2 : World) =>
     brP (!x.snd.fst) (EnP w2 fun (w1 : World) => Post 4 w1)
      (true = true ∧
       LdP w2 none (addP (some { block := b, off := 0 }) 0) (El.one (Sc.int IntKind.i64)) fun (x : Int) =>
        brP (x != 2) (EnP w2 fun (w1 : World) => Post 6 w1)
         (p.isSome = true ∧
          p.isSome = true ∧
           LdP w2 none (addP p 0) (El.one Sc.slice) fun (x : Option Addr × Nat × Nat) =>
            true = true ∧
             LdP w2 none (addP (some { block := b, off := 0 }) 1) (El.one (Sc.int IntKind.i64)) fun (x_1 : Int) =>
              (x.fst.isSome = true ∧ 0 ≤ subI IntKind.i64 x_1 1 ∧ subI IntKind.i64 x_1 1 < (↑x.snd.fst : Int)) ∧
               LdP w2 none (addP x.fst ((subI IntKind.i64 x_1 1).toNat * 1)) (El.one Sc.slice) fun (x : Option Addr × Nat × Nat) =>
                true = true ∧
                 LdP w2 none (addP (some { block := b, off := 0 }) 2) (El.one (Sc.int IntKind.i64)) fun (x_2 : Int) =>
                  (x.fst.isSome = true ∧ 0 ≤ x_2 ∧ x_2 < (↑x.snd.fst : Int)) ∧ (addP x.fst (x_2.toNat * 5)).isSome = true ∧ StP w2 (addP (addP x.fst (x_2.toNat * 5)) 3) [Value.bool true] fun (w2 : World) => EnP w2 fun (w1 : World) => Post 0 w1))) := by kernel_rfl
theorem umask_vc (p : Option Addr) (g i : Int) (b : Bool) (w : World) (Post : Int → World → Prop) : (rxFn R2 (fun _ => []) 18 [.pointer p, .int .i64 g, .int .i64 i, .bool b] w Post) = (
 ∃ (x : (Int × Int × Int × Bool × Bool × Unit) × Bool × Unit),
  QCalls Try.prog 31 [Value.pointer p, Value.int IntKind.i64 g, Value.int IntKind.i64 i] w
    (Value.tuple
     {
      toList :=
       [Value.agg { toList := [Value.int IntKind.i64 x.fst.fst, Value.int IntKind.i64 x.fst.snd.fst, Value.int IntKind.i64 x.fst.snd.snd.fst, Value.bool x.fst.snd.snd.snd.fst, Value.bool x.fst.snd.snd.snd.snd.fst] }, Value.bool x.snd.fst] }) ∧
   AlP w { toList := [Value.int IntKind.i64 0, Value.int IntKind.i64 0, Value.int IntKind.i64 0, Value.bool false, Value.bool false] } 48 fun (b_1 : Nat) (w2 : World) =>
    StP w2 (some { block := b_1, off := 0 }) [Value.int IntKind.i64 x.fst.fst, Value.int IntKind.i64 x.fst.snd.fst, Value.int IntKind.i64 x.fst.snd.snd.fst, Value.bool x.fst.snd.snd.snd.fst, Value.bool x.fst.snd.snd.snd.snd.fst] fun (w2 : World) =>
     brP (!x.snd.fst) (EnP w2 fun (w1 : World) => Post 4 w1)
      (p.isSome = true ∧
       p.isSome = true ∧
        LdP w2 none (addP p 0) (El.one Sc.slice) fun (x : Option Addr × Nat × Nat) =>
         (x.fst.isSome = true ∧ 0 ≤ subI IntKind.i64 g 1 ∧ subI IntKind.i64 g 1 < (↑x.snd.fst : Int)) ∧
          LdP w2 none (addP x.fst ((subI IntKind.i64 g 1).toNat * 1)) (El.one Sc.slice) fun (x : Option Addr × Nat × Nat) =>
           (x.fst.isSome = true ∧ 0 ≤ i ∧ i < (↑x.snd.fst : Int)) ∧ (addP x.fst (i.toNat * 5)).isSome = true ∧ StP w2 (addP (addP x.fst (i.toNat * 5)) 4) [Value.bool b] fun (w2 : World) => EnP w2 fun (w1 : World) => Post 0 w1)) := by kernel_rfl
def upend_vc_ann : Nat → Slots := (fun | 5 => [(5, Go.RX.El.one Go.RX.Sc.slice), (6, Go.RX.El.one (Go.RX.Sc.int Go.IntKind.i64))] | _ => [])
theorem upend_vc (p : Option Addr) (g : Int) (w : World) (Post : Option Addr × Nat × Nat → World → Prop) : (rxFn R2 upend_vc_ann 27 [.pointer p, .int .i64 g] w Post) = (
 True ∧
  brP (!gI g) (EnP w fun (w1 : World) => Post (none, 0, 0) w1)
   (∃ (I : Nat → (Option Addr × Nat × Nat) × Int × Unit → World → Prop),
    (∃ (n : Nat), ∀ (w1 : World), Ext w w1 → I n ((none, 0, 0), 0, Unit.unit) w1) ∧
     ∀ (n : Nat) (s : (Option Addr × Nat × Nat) × Int × Unit) (w1 : World),
      I n s w1 →
       p.isSome = true ∧
        p.isSome = true ∧
         LdP w1 none (addP p 0) (El.one Sc.slice) fun (x : Option Addr × Nat × Nat) =>
          (x.fst.isSome = true ∧ 0 ≤ subI IntKind.i64 g 1 ∧ subI IntKind.i64 g 1 < (↑x.snd.fst : Int)) ∧
           LdP w1 none (addP x.fst ((subI IntKind.i64 g 1).toNat * 1)) (El.one Sc.slice) fun (x : Option Addr × Nat × Nat) =>
            brP (decide (s.snd.fst < (↑x.snd.fst : Int)))
             (p.isSome = true ∧
              p.isSome = true ∧
               LdP w1 none (addP p 0) (El.one Sc.slice) fun (x : Option Addr × Nat × Nat) =>
                (x.fst.isSome = true ∧ 0 ≤ subI IntKind.i64 g 1 ∧ subI IntKind.i64 g 1 < (↑x.snd.fst : Int)) ∧
                 LdP w1 none (addP x.fst ((subI IntKind.i64 g 1).toNat * 1)) (El.one Sc.slice) fun (x : Option Addr × Nat × Nat) =>
                  (x.fst.isSome = true ∧ 0 ≤ s.snd.fst ∧ s.snd.fst < (↑x.snd.fst : Int)) ∧
                   (addP x.fst (Int.toNat s.snd.fst * 5)).isSome = true ∧
                    LdP w1 none (addP (addP x.fst (Int.toNat s.snd.fst * 5)) 3) (El.one Sc.bool) fun (x : Bool) =>
                     (x = true → p.isSome = true) ∧
                      (x = true → p.isSome = true) ∧
                       LdP w1 (some x) (addP p 0) (El.one Sc.slice) fun (x_1 : Option Addr × Nat × Nat) =>
                        (x = true → x_1.fst.isSome = true ∧ 0 ≤ subI IntKind.i64 g 1 ∧ subI IntKind.i64 g 1 < (↑x_1.snd.fst : Int)) ∧
                         LdP w1 (some x) (addP x_1.fst ((subI IntKind.i64 g 1).toNat * 1)) (El.one Sc.slice) fun (x_2 : Option Addr × Nat × Nat) =>
                          (x = true → x_2.fst.isSome = true ∧ 0 ≤ s.snd.fst ∧ s.snd.fst < (↑x_2.snd.fst : Int)) ∧
                           (x = true → (addP x_2.fst (Int.toNat s.snd.fst * 5)).isSome = true) ∧
                            LdP w1 (some x) (addP (addP x_2.fst (Int.toNat s.snd.fst * 5)) 4) (El.one Sc.bool) fun (x_3 : Bool) =>
                             brP (x && !x_3)
                              (AlP w1 { toList := [Value.int IntKind.i64 s.snd.fst] } 3 fun (b : Nat) (w2 : World) =>
                               ∀ (w1 : World),
                                Ext w2 w1 →
                                 apR w1 3 1 8 { toList := [Value.int IntKind.i64 0] } (s.fst.fst, s.fst.snd.fst, s.fst.snd.snd) (some { block := b, off := 0 }, 1, 1) fun (r : Option Addr × Nat × Nat) (w2 : World) =>
                                  ∀ (w3 : World), Ext w2 w3 → ∃ (n' : Nat), n' < n ∧ I n' ((r.fst, r.snd.fst, r.snd.snd), addI IntKind.i64 s.snd.fst 1, Unit.unit) w3)
                              (∀ (w3 : World), Ext w1 w3 → ∃ (n' : Nat), n' < n ∧ I n' ((s.fst.fst, s.fst.snd.fst, s.fst.snd.snd), addI IntKind.i64 s.snd.fst 1, Unit.unit) w3))
             (EnP w1 fun (w1 : World) => Post (s.fst.fst, s.fst.snd.fst, s.fst.snd.snd) w1))) := by kernel_rfl
theorem utake_vc (p : Option Addr) (g : Int) (w : World) (Post : Int × Bool × Unit → World → Prop) : (rxFn R2 (fun _ => []) 20 [.pointer p, .int .i64 g] w Post) = (
 CaP Try.prog 27 (Sh.el (El.one Sc.slice)) [Value.pointer p, Value.int IntKind.i64 g] w fun (x : Option Addr × Nat × Nat) (w2 : World) =>
  brP ((↑x.snd.fst : Int) == 0) (EnP w2 fun (w1 : World) => Post (0, false, Unit.unit) w1)
   (p.isSome = true ∧
    p.isSome = true ∧
     LdP w2 none (addP p 0) (El.one Sc.slice) fun (x_1 : Option Addr × Nat × Nat) =>
      (x_1.fst.isSome = true ∧ 0 ≤ subI IntKind.i64 g 1 ∧ subI IntKind.i64 g 1 < (↑x_1.snd.fst : Int)) ∧
       LdP w2 none (addP x_1.fst ((subI IntKind.i64 g 1).toNat * 1)) (El.one Sc.slice) fun (x_2 : Option Addr × Nat × Nat) =>
        (x.fst.isSome = true ∧ (0 : Int) ≤ 0 ∧ 0 < (↑x.snd.fst : Int)) ∧
         LdP w2 none (addP x.fst 0) (El.one (Sc.int IntKind.i64)) fun (x_3 : Int) =>
          (x_2.fst.isSome = true ∧ 0 ≤ x_3 ∧ x_3 < (↑x_2.snd.fst : Int)) ∧
           (addP x_2.fst (x_3.toNat * 5)).isSome = true ∧
            StP w2 (addP (addP x_2.fst (x_3.toNat * 5)) 3) [Value.bool false] fun (w2 : World) =>
             (x.fst.isSome = true ∧ (0 : Int) ≤ 0 ∧ 0 < (↑x.snd.fst : Int)) ∧ LdP w2 none (addP x.fst 0) (El.one (Sc.int IntKind.i64)) fun (x : Int) => EnP w2 fun (w1 : World) => Post (x, true, Unit.unit) w1)) := by kernel_rfl
theorem uclose_vc (p : Option Addr) (g i : Int) (w : World) (Post : Int → World → Prop) : (rxFn R2 (fun _ => []) 22 [.pointer p, .int .i64 g, .int .i64 i] w Post) = (
 ∃ (x : (Int × Int × Int × Bool × Bool × Unit) × Bool × Unit),
  QCalls Try.prog 31 [Value.pointer p, Value.int IntKind.i64 g, Value.int IntKind.i64 i] w
    (Value.tuple
     {
      toList :=
       [Value.agg { toList := [Value.int IntKind.i64 x.fst.fst, Value.int IntKind.i64 x.fst.snd.fst, Value.int IntKind.i64 x.fst.snd.snd.fst, Value.bool x.fst.snd.snd.snd.fst, Value.bool x.fst.snd.snd.snd.snd.fst] }, Value.bool x.snd.fst] }) ∧
   AlP w { toList := [Value.int IntKind.i64 0, Value.int IntKind.i64 0, Value.int IntKind.i64 0, Value.bool false, Value.bool false] } 48 fun (b : Nat) (w2 : World) =>
    StP w2 (some { block := b, off := 0 }) [Value.int IntKind.i64 x.fst.fst, Value.int IntKind.i64 x.fst.snd.fst, Value.int IntKind.i64 x.fst.snd.snd.fst, Value.bool x.fst.snd.snd.snd.fst, Value.bool x.fst.snd.snd.snd.snd.fst] fun (w2 : World) =>
     brP (!x.snd.fst) (EnP w2 fun (w1 : World) => Post 4 w1)
      (true = true ∧
       LdP w2 none (addP (some { block := b, off := 0 }) 0) (El.one (Sc.int IntKind.i64)) fun (x : Int) =>
        brP (x == 2)
         (p.isSome = true ∧
          p.isSome = true ∧
           LdP w2 none (addP p 0) (El.one Sc.slice) fun (x : Option Addr × Nat × Nat) =>
            true = true ∧
             LdP w2 none (addP (some { block := b, off := 0 }) 1) (El.one (Sc.int IntKind.i64)) fun (x_1 : Int) =>
              (x.fst.isSome = true ∧ 0 ≤ subI IntKind.i64 x_1 1 ∧ subI IntKind.i64 x_1 1 < (↑x.snd.fst : Int)) ∧
               LdP w2 none (addP x.fst ((subI IntKind.i64 x_1 1).toNat * 1)) (El.one Sc.slice) fun (x : Option Addr × Nat × Nat) =>
                true = true ∧
                 LdP w2 none (addP (some { block := b, off := 0 }) 2) (El.one (Sc.int IntKind.i64)) fun (x_2 : Int) =>
                  (x.fst.isSome = true ∧ 0 ≤ x_2 ∧ x_2 < (↑x.snd.fst : Int)) ∧
                   (addP x.fst (x_2.toNat * 5)).isSome = true ∧
                    StP w2 (addP (addP x.fst (x_2.toNat * 5)) 0) [Value.int IntKind.i64 1] fun (w2 : World) =>
                     p.isSome = true ∧
                      p.isSome = true ∧
                       LdP w2 none (addP p 0) (El.one Sc.slice) fun (x : Option Addr × Nat × Nat) =>
                        true = true ∧
                         LdP w2 none (addP (some { block := b, off := 0 }) 1) (El.one (Sc.int IntKind.i64)) fun (x_3 : Int) =>
                          (x.fst.isSome = true ∧ 0 ≤ subI IntKind.i64 x_3 1 ∧ subI IntKind.i64 x_3 1 < (↑x.snd.fst : Int)) ∧
                           LdP w2 none (addP x.fst ((subI IntKind.i64 x_3 1).toNat * 1)) (El.one Sc.slice) fun (x : Option Addr × Nat × Nat) =>
                            true = true ∧
                             LdP w2 none (addP (some { block := b, off := 0 }) 2) (El.one (Sc.int IntKind.i64)) fun (x_4 : Int) =>
                              (x.fst.isSome = true ∧ 0 ≤ x_4 ∧ x_4 < (↑x.snd.fst : Int)) ∧
                               (addP x.fst (x_4.toNat * 5)).isSome = true ∧
                                StP w2 (addP (addP x.fst (x_4.toNat * 5)) 2) [Value.int IntKind.i64 0] fun (w2 : World) =>
                                 p.isSome = true ∧
                                  p.isSome = true ∧
                                   LdP w2 none (addP p 0) (El.one Sc.slice) fun (x : Option Addr × Nat × Nat) =>
                                    (x.fst.isSome = true ∧ 0 ≤ subI IntKind.i64 g 1 ∧ subI IntKind.i64 g 1 < (↑x.snd.fst : Int)) ∧
                                     LdP w2 none (addP x.fst ((subI IntKind.i64 g 1).toNat * 1)) (El.one Sc.slice) fun (x : Option Addr × Nat × Nat) =>
                                      (x.fst.isSome = true ∧ 0 ≤ i ∧ i < (↑x.snd.fst : Int)) ∧
                                       StP w2 (addP x.fst (i.toNat * 5)) [Value.int IntKind.i64 0, Value.int IntKind.i64 0, Value.int IntKind.i64 0, Value.bool false, Value.bool false] fun (w2 : World) => EnP w2 fun (w1 : World) => Post 0 w1)
         (p.isSome = true ∧
          p.isSome = true ∧
           LdP w2 none (addP p 0) (El.one Sc.slice) fun (x : Option Addr × Nat × Nat) =>
            (x.fst.isSome = true ∧ 0 ≤ subI IntKind.i64 g 1 ∧ subI IntKind.i64 g 1 < (↑x.snd.fst : Int)) ∧
             LdP w2 none (addP x.fst ((subI IntKind.i64 g 1).toNat * 1)) (El.one Sc.slice) fun (x : Option Addr × Nat × Nat) =>
              (x.fst.isSome = true ∧ 0 ≤ i ∧ i < (↑x.snd.fst : Int)) ∧
               StP w2 (addP x.fst (i.toNat * 5)) [Value.int IntKind.i64 0, Value.int IntKind.i64 0, Value.int IntKind.i64 0, Value.bool false, Value.bool false] fun (w2 : World) => EnP w2 fun (w1 : World) => Post 0 w1))) := by kernel_rfl
def udrop_vc_ann : Nat → Slots := (fun | 5 => [(5, Go.RX.El.one (Go.RX.Sc.int Go.IntKind.i64)), (6, Go.RX.El.one (Go.RX.Sc.int Go.IntKind.i64))] | 10 => [(5, Go.RX.El.one (Go.RX.Sc.int Go.IntKind.i64)), (7, Go.RX.El.one (Go.RX.Sc.int Go.IntKind.i64))] | 13 => [(5, Go.RX.El.one (Go.RX.Sc.int Go.IntKind.i64)), (8, Go.RX.El.one (Go.RX.Sc.int Go.IntKind.i64))] | _ => [])
theorem udrop_vc (p : Option Addr) (g : Int) (w : World) (Post : Int → World → Prop) : (rxFn R2 udrop_vc_ann 24 [.pointer p, .int .i64 g] w Post) = (
 True ∧
  brP (!gI g) (EnP w fun (w1 : World) => Post 0 w1)
   (∃ (I : Nat → Int × Int × Unit → World → Prop),
    (∃ (n : Nat), ∀ (w1 : World), Ext w w1 → I n (0, 0, Unit.unit) w1) ∧
     ∀ (n : Nat) (s : Int × Int × Unit) (w1 : World),
      I n s w1 →
       p.isSome = true ∧
        p.isSome = true ∧
         LdP w1 none (addP p 0) (El.one Sc.slice) fun (x : Option Addr × Nat × Nat) =>
          (x.fst.isSome = true ∧ 0 ≤ subI IntKind.i64 g 1 ∧ subI IntKind.i64 g 1 < (↑x.snd.fst : Int)) ∧
           LdP w1 none (addP x.fst ((subI IntKind.i64 g 1).toNat * 1)) (El.one Sc.slice) fun (x : Option Addr × Nat × Nat) =>
            brP (decide (s.snd.fst < (↑x.snd.fst : Int)))
             (CaP Try.prog 22 (Sh.el (El.one (Sc.int IntKind.i64))) [Value.pointer p, Value.int IntKind.i64 g, Value.int IntKind.i64 s.snd.fst] w1 fun (x : Int) (w2 : World) =>
              brP (x == 0) (∀ (w3 : World), Ext w2 w3 → ∃ (n' : Nat), n' < n ∧ I n' (addI IntKind.i64 s.fst 1, addI IntKind.i64 s.snd.fst 1, Unit.unit) w3)
               (∀ (w3 : World), Ext w2 w3 → ∃ (n' : Nat), n' < n ∧ I n' (s.fst, addI IntKind.i64 s.snd.fst 1, Unit.unit) w3))
             (∃ (I : Nat → Int × Int × Unit → World → Prop),
              (∃ (n : Nat), ∀ (w1_1 : World), Ext w1 w1_1 → I n (s.fst, 0, Unit.unit) w1_1) ∧
               ∀ (n : Nat) (s : Int × Int × Unit) (w1 : World),
                I n s w1 →
                 brP (decide (s.snd.fst < 16))
                  (∃ (I_1 : Nat → Int × Int × Unit → World → Prop),
                   (∃ (n : Nat), ∀ (w1_1 : World), Ext w1 w1_1 → I_1 n (s.fst, 0, Unit.unit) w1_1) ∧
                    ∀ (n_1 : Nat) (s_1 : Int × Int × Unit) (w1 : World),
                     I_1 n_1 s_1 w1 →
                      p.isSome = true ∧
                       p.isSome = true ∧
                        LdP w1 none (addP p 0) (El.one Sc.slice) fun (x : Option Addr × Nat × Nat) =>
                         (x.fst.isSome = true ∧ 0 ≤ s.snd.fst ∧ s.snd.fst < (↑x.snd.fst : Int)) ∧
                          LdP w1 none (addP x.fst (Int.toNat s.snd.fst * 1)) (El.one Sc.slice) fun (x : Option Addr × Nat × Nat) =>
                           brP (decide (s_1.snd.fst < (↑x.snd.fst : Int)))
                            (p.isSome = true ∧
                             p.isSome = true ∧
                              LdP w1 none (addP p 0) (El.one Sc.slice) fun (x : Option Addr × Nat × Nat) =>
                               (x.fst.isSome = true ∧ 0 ≤ s.snd.fst ∧ s.snd.fst < (↑x.snd.fst : Int)) ∧
                                LdP w1 none (addP x.fst (Int.toNat s.snd.fst * 1)) (El.one Sc.slice) fun (x : Option Addr × Nat × Nat) =>
                                 (x.fst.isSome = true ∧ 0 ≤ s_1.snd.fst ∧ s_1.snd.fst < (↑x.snd.fst : Int)) ∧
                                  (addP x.fst (Int.toNat s_1.snd.fst * 5)).isSome = true ∧
                                   LdP w1 none (addP (addP x.fst (Int.toNat s_1.snd.fst * 5)) 0) (El.one (Sc.int IntKind.i64)) fun (x : Int) =>
                                    ((x == 1) = true → p.isSome = true) ∧
                                     ((x == 1) = true → p.isSome = true) ∧
                                      LdP w1 (some (x == 1)) (addP p 0) (El.one Sc.slice) fun (x_1 : Option Addr × Nat × Nat) =>
                                       ((x == 1) = true → x_1.fst.isSome = true ∧ 0 ≤ s.snd.fst ∧ s.snd.fst < (↑x_1.snd.fst : Int)) ∧
                                        LdP w1 (some (x == 1)) (addP x_1.fst (Int.toNat s.snd.fst * 1)) (El.one Sc.slice) fun (x_2 : Option Addr × Nat × Nat) =>
                                         ((x == 1) = true → x_2.fst.isSome = true ∧ 0 ≤ s_1.snd.fst ∧ s_1.snd.fst < (↑x_2.snd.fst : Int)) ∧
                                          ((x == 1) = true → (addP x_2.fst (Int.toNat s_1.snd.fst * 5)).isSome = true) ∧
                                           LdP w1 (some (x == 1)) (addP (addP x_2.fst (Int.toNat s_1.snd.fst * 5)) 1) (El.one (Sc.int IntKind.i64)) fun (x_3 : Int) =>
                                            brP (x == 1 && x_3 == g)
                                             (p.isSome = true ∧
                                              p.isSome = true ∧
                                               LdP w1 none (addP p 0) (El.one Sc.slice) fun (x : Option Addr × Nat × Nat) =>
                                                (x.fst.isSome = true ∧ 0 ≤ s.snd.fst ∧ s.snd.fst < (↑x.snd.fst : Int)) ∧
                                                 LdP w1 none (addP x.fst (Int.toNat s.snd.fst * 1)) (El.one Sc.slice) fun (x : Option Addr × Nat × Nat) =>
                                                  (x.fst.isSome = true ∧ 0 ≤ s_1.snd.fst ∧ s_1.snd.fst < (↑x.snd.fst : Int)) ∧
                                                   StP w1 (addP x.fst (Int.toNat s_1.snd.fst * 5)) [Value.int IntKind.i64 0, Value.int IntKind.i64 0, Value.int IntKind.i64 0, Value.bool false, Value.bool false] fun (w2 : World) =>
                                                    ∀ (w3 : World), Ext w2 w3 → ∃ (n' : Nat), n' < n_1 ∧ I_1 n' (addI IntKind.i64 s_1.fst 1, addI IntKind.i64 s_1.snd.fst 1, Unit.unit) w3)
                                             (∀ (w3 : World), Ext w1 w3 → ∃ (n' : Nat), n' < n_1 ∧ I_1 n' (s_1.fst, addI IntKind.i64 s_1.snd.fst 1, Unit.unit) w3))
                            (∀ (w3 : World), Ext w1 w3 → ∃ (n' : Nat), n' < n ∧ I n' (s_1.fst, addI IntKind.i64 s.snd.fst 1, Unit.unit) w3))
                  (EnP w1 fun (w1 : World) => Post s.fst w1)))) := by kernel_rfl
def ulinked_vc_ann : Nat → Slots := (fun | 6 => [(8, Go.RX.El.one (Go.RX.Sc.int Go.IntKind.i64))] | 9 => [(9, Go.RX.El.one (Go.RX.Sc.int Go.IntKind.i64))] | 12 => [(10, Go.RX.El.one (Go.RX.Sc.int Go.IntKind.i64))] | _ => [])
theorem ulinked_vc (p : Option Addr) (a b : Int) (w : World) (Post : Bool → World → Prop) : (rxFn R2 ulinked_vc_ann 29 [.pointer p, .int .i64 a, .int .i64 b] w Post) = (
 True ∧
  ((!!gI a) = true → True) ∧
   brP (!gI a || !gI b) (EnP w fun (w1 : World) => Post false w1)
    (MkP w 1 1 17 17 { toList := [Value.bool false] } 4 fun (b_1 : Nat) (w2 : World) =>
     (true = true ∧ 0 ≤ a ∧ a < (↑17 : Int)) ∧
      StP w2 (addP (some { block := b_1, off := 0 }) (a.toNat * 1)) [Value.bool true] fun (w2 : World) =>
       ∃ (I : Nat → Int × Unit → World → Prop),
        (∃ (n : Nat), ∀ (w1 : World), Ext w2 w1 → I n (0, Unit.unit) w1) ∧
         ∀ (n : Nat) (s : Int × Unit) (w1 : World),
          I n s w1 →
           brP (decide (s.fst < 16))
            (∃ (I_1 : Nat → Int × Unit → World → Prop),
             (∃ (n : Nat), ∀ (w1_1 : World), Ext w1 w1_1 → I_1 n (0, Unit.unit) w1_1) ∧
              ∀ (n_1 : Nat) (s_1 : Int × Unit) (w1 : World),
               I_1 n_1 s_1 w1 →
                brP (decide (s_1.fst < 16))
                 (∃ (I : Nat → Int × Unit → World → Prop),
                  (∃ (n : Nat), ∀ (w1_1 : World), Ext w1 w1_1 → I n (0, Unit.unit) w1_1) ∧
                   ∀ (n : Nat) (s : Int × Unit) (w1 : World),
                    I n s w1 →
                     p.isSome = true ∧
                      p.isSome = true ∧
                       LdP w1 none (addP p 0) (El.one Sc.slice) fun (x : Option Addr × Nat × Nat) =>
                        (x.fst.isSome = true ∧ 0 ≤ s_1.fst ∧ s_1.fst < (↑x.snd.fst : Int)) ∧
                         LdP w1 none (addP x.fst (Int.toNat s_1.fst * 1)) (El.one Sc.slice) fun (x : Option Addr × Nat × Nat) =>
                          brP (decide (s.fst < (↑x.snd.fst : Int)))
                           (p.isSome = true ∧
                            p.isSome = true ∧
                             LdP w1 none (addP p 0) (El.one Sc.slice) fun (x : Option Addr × Nat × Nat) =>
                              (x.fst.isSome = true ∧ 0 ≤ s_1.fst ∧ s_1.fst < (↑x.snd.fst : Int)) ∧
                               LdP w1 none (addP x.fst (Int.toNat s_1.fst * 1)) (El.one Sc.slice) fun (x : Option Addr × Nat × Nat) =>
                                (x.fst.isSome = true ∧ 0 ≤ s.fst ∧ s.fst < (↑x.snd.fst : Int)) ∧
                                 LdP w1 none (addP x.fst (Int.toNat s.fst * 5)) (El.agg [Sc.int IntKind.i64, Sc.int IntKind.i64, Sc.int IntKind.i64, Sc.bool, Sc.bool]) fun (x : Int × Int × Int × Bool × Bool × Unit) =>
                                  AlP w1 { toList := [Value.int IntKind.i64 0, Value.int IntKind.i64 0, Value.int IntKind.i64 0, Value.bool false, Value.bool false] } 48 fun (b : Nat) (w2 : World) =>
                                   StP w2 (some { block := b, off := 0 }) [Value.int IntKind.i64 x.fst, Value.int IntKind.i64 x.snd.fst, Value.int IntKind.i64 x.snd.snd.fst, Value.bool x.snd.snd.snd.fst, Value.bool x.snd.snd.snd.snd.fst]
                                    fun (w2 : World) =>
                                    true = true ∧
                                     LdP w2 none (addP (some { block := b, off := 0 }) 0) (El.one (Sc.int IntKind.i64)) fun (x : Int) =>
                                      (decide (x > 0) = true → true = true ∧ 0 ≤ addI IntKind.i64 s_1.fst 1 ∧ addI IntKind.i64 s_1.fst 1 < (↑17 : Int)) ∧
                                       LdP w2 (some (decide (x > 0))) (addP (some { block := b_1, off := 0 }) ((addI IntKind.i64 s_1.fst 1).toNat * 1)) (El.one Sc.bool) fun (x_1 : Bool) =>
                                        ((decide (x > 0) && !x_1) = true → true = true) ∧
                                         LdP w2 (some (decide (x > 0) && !x_1)) (addP (some { block := b, off := 0 }) 1) (El.one (Sc.int IntKind.i64)) fun (x_2 : Int) =>
                                          ((decide (x > 0) && !x_1) = true → true = true ∧ 0 ≤ x_2 ∧ x_2 < (↑17 : Int)) ∧
                                           LdP w2 (some (decide (x > 0) && !x_1)) (addP (some { block := b_1, off := 0 }) (x_2.toNat * 1)) (El.one Sc.bool) fun (x_3 : Bool) =>
                                            brP (decide (x > 0) && (x_1 || x_3))
                                             ((true = true ∧ 0 ≤ addI IntKind.i64 s_1.fst 1 ∧ addI IntKind.i64 s_1.fst 1 < (↑17 : Int)) ∧
                                              StP w2 (addP (some { block := b_1, off := 0 }) ((addI IntKind.i64 s_1.fst 1).toNat * 1)) [Value.bool true] fun (w2 : World) =>
                                               true = true ∧
                                                LdP w2 none (addP (some { block := b, off := 0 }) 1) (El.one (Sc.int IntKind.i64)) fun (x : Int) =>
                                                 (true = true ∧ 0 ≤ x ∧ x < (↑17 : Int)) ∧
                                                  StP w2 (addP (some { block := b_1, off := 0 }) (x.toNat * 1)) [Value.bool true] fun (w2 : World) => ∀ (w3 : World), Ext w2 w3 → ∃ (n' : Nat), n' < n ∧ I n' (addI IntKind.i64 s.fst 1, Unit.unit) w3)
                                             (∀ (w3 : World), Ext w2 w3 → ∃ (n' : Nat), n' < n ∧ I n' (addI IntKind.i64 s.fst 1, Unit.unit) w3))
                           (∀ (w3 : World), Ext w1 w3 → ∃ (n' : Nat), n' < n_1 ∧ I_1 n' (addI IntKind.i64 s_1.fst 1, Unit.unit) w3))
                 (∀ (w3 : World), Ext w1 w3 → ∃ (n' : Nat), n' < n ∧ I n' (addI IntKind.i64 s.fst 1, Unit.unit) w3))
            ((true = true ∧ 0 ≤ b ∧ b < (↑17 : Int)) ∧ LdP w1 none (addP (some { block := b_1, off := 0 }) (b.toNat * 1)) (El.one Sc.bool) fun (x : Bool) => EnP w1 fun (w1 : World) => Post x w1))) := by kernel_rfl
theorem uplain_vc (a b c : Int) (d e : Bool) (w : World) (Post : PT → World → Prop) : (rxFnR R2 (fun _ => []) 32 [.agg ⟨[.int .i64 a, .int .i64 b, .int .i64 c, .bool d, .bool e]⟩] w Post) = (
 AlP w { toList := [Value.int IntKind.i64 a, Value.int IntKind.i64 b, Value.int IntKind.i64 c, Value.bool d, Value.bool e] } 45 fun (b : Nat) (w2 : World) =>
  AlP w2 { toList := [Value.int IntKind.i64 0, Value.int IntKind.i64 0, Value.int IntKind.i64 0, Value.bool false, Value.bool false] } 48 fun (b_1 : Nat) (w2 : World) =>
   true = true ∧
    LdP w2 none (addP (some { block := b, off := 0 }) 0) (El.one (Sc.int IntKind.i64)) fun (x : Int) =>
     true = true ∧
      LdP w2 none (addP (some { block := b, off := 0 }) 1) (El.one (Sc.int IntKind.i64)) fun (x_1 : Int) =>
       true = true ∧
        LdP w2 none (addP (some { block := b, off := 0 }) 2) (El.one (Sc.int IntKind.i64)) fun (x_2 : Int) =>
         true = true ∧
          LdP w2 none (addP (some { block := b, off := 0 }) 3) (El.one Sc.bool) fun (x_3 : Bool) =>
           true = true ∧
            LdP w2 none (addP (some { block := b, off := 0 }) 4) (El.one Sc.bool) fun (x_4 : Bool) =>
             StP w2 (some { block := b_1, off := 0 }) [Value.int IntKind.i64 x, Value.int IntKind.i64 x_1, Value.int IntKind.i64 x_2, Value.bool x_3, Value.bool x_4] fun (w2 : World) =>
              EnP w2 fun (w1 : World) =>
               LdP w1 none (some { block := b_1, off := 0 }) (El.agg [Sc.int IntKind.i64, Sc.int IntKind.i64, Sc.int IntKind.i64, Sc.bool, Sc.bool]) fun (x : Int × Int × Int × Bool × Bool × Unit) =>
                Post (x.fst, x.snd.fst, x.snd.snd.fst, x.snd.snd.snd.fst, x.snd.snd.snd.snd.fst, Unit.unit) w1) := by kernel_rfl
end Go.Proofs.Ytcnaaobeooiojaa
