import Derived.Test.YtogndkmclingeaaO5
namespace Go.Proofs.Ytogndkmclingeaa
set_option linter.unusedSimpArgs false
set_option linter.unusedVariables false
open Go.RX
theorem rpnew_vc (n : Int) (w : World) (Post : Option Addr × Int × Unit → World → Prop) : (rxFn E0 (fun _ => []) 19 [.int .i64 n] w Post) = (
 brP (decide (n < 1) || decide (n > 4096)) (AlP w { toList := [Value.slice none 0 0] } 56 fun (b : Nat) (w2 : World) => EnP w2 fun (w1 : World) => Post (some { block := b, off := 0 }, 1, Unit.unit) w1)
  (MkP w 32 4 n n { toList := [Value.int IntKind.i64 0, Value.int IntKind.i64 0, Value.int IntKind.i64 0, Value.int IntKind.i64 0] } 52 fun (b : Nat) (w2 : World) =>
   AlP w2 { toList := [Value.slice (some { block := b, off := 0 }) n.toNat n.toNat] } 56 fun (b : Nat) (w2 : World) => EnP w2 fun (w1 : World) => Post (some { block := b, off := 0 }, 0, Unit.unit) w1)) := by kernel_rfl
theorem rturn_vc (p : Option Addr) (f k o : Int) (w : World) (Post : Int → World → Prop) : (rxFn E0 (fun _ => []) 22 [.pointer p, .int .i64 f, .int .i64 k, .int .i64 o] w Post) = (
 ((!decide (f < 0)) = true → p.isSome = true) ∧
  ((!decide (f < 0)) = true → p.isSome = true) ∧
   LdP w (some !decide (f < 0)) (addP p 0) (El.one Sc.slice) fun (x : Option Addr × Nat × Nat) =>
    brP (decide (f < 0) || decide (f ≥ (↑x.snd.fst : Int))) (EnP w fun (w1 : World) => Post 2 w1)
     (p.isSome = true ∧
      p.isSome = true ∧
       LdP w none (addP p 0) (El.one Sc.slice) fun (x : Option Addr × Nat × Nat) =>
        (x.fst.isSome = true ∧ 0 ≤ f ∧ f < (↑x.snd.fst : Int)) ∧
         LdP w none (addP x.fst (f.toNat * 4)) (El.agg [Sc.int IntKind.i64, Sc.int IntKind.i64, Sc.int IntKind.i64, Sc.int IntKind.i64]) fun (x : Int × Int × Int × Int × Unit) =>
          True ∧
           AlP w { toList := [Value.int IntKind.i64 0, Value.int IntKind.i64 0, Value.int IntKind.i64 0, Value.int IntKind.i64 0] } 52 fun (b : Nat) (w2 : World) =>
            StP w2 (some { block := b, off := 0 })
             [Value.int IntKind.i64 (nextK x.fst x.snd.fst x.snd.snd.fst x.snd.snd.snd.fst k o), Value.int IntKind.i64 (nextO x.fst x.snd.fst x.snd.snd.fst x.snd.snd.snd.fst k o), Value.int IntKind.i64 0, Value.int IntKind.i64 0] fun (w2 : World) =>
             brP (nextE x.fst x.snd.fst x.snd.snd.fst x.snd.snd.snd.fst k o == 0)
              (p.isSome = true ∧
               p.isSome = true ∧
                LdP w2 none (addP p 0) (El.one Sc.slice) fun (x_1 : Option Addr × Nat × Nat) =>
                 LdP w2 none (some { block := b, off := 0 }) (El.agg [Sc.int IntKind.i64, Sc.int IntKind.i64, Sc.int IntKind.i64, Sc.int IntKind.i64]) fun (x_2 : Int × Int × Int × Int × Unit) =>
                  (x_1.fst.isSome = true ∧ 0 ≤ f ∧ f < (↑x_1.snd.fst : Int)) ∧
                   StP w2 (addP x_1.fst (f.toNat * 4)) [Value.int IntKind.i64 x_2.fst, Value.int IntKind.i64 x_2.snd.fst, Value.int IntKind.i64 x_2.snd.snd.fst, Value.int IntKind.i64 x_2.snd.snd.snd.fst] fun (w2 : World) =>
                    EnP w2 fun (w1 : World) => Post (nextE x.fst x.snd.fst x.snd.snd.fst x.snd.snd.snd.fst k o) w1)
              (EnP w2 fun (w1 : World) => Post (nextE x.fst x.snd.fst x.snd.snd.fst x.snd.snd.snd.fst k o) w1))) := by kernel_rfl
theorem rpref_vc (p : Option Addr) (f x : Int) (w : World) (Post : Int → World → Prop) : (rxFn E0 (fun _ => []) 23 [.pointer p, .int .i64 f, .int .i64 x] w Post) = (
 ((!decide (f < 0)) = true → p.isSome = true) ∧
  ((!decide (f < 0)) = true → p.isSome = true) ∧
   LdP w (some !decide (f < 0)) (addP p 0) (El.one Sc.slice) fun (x_1 : Option Addr × Nat × Nat) =>
    brP (decide (f < 0) || decide (f ≥ (↑x_1.snd.fst : Int))) (EnP w fun (w1 : World) => Post 2 w1)
     (p.isSome = true ∧
      p.isSome = true ∧
       LdP w none (addP p 0) (El.one Sc.slice) fun (x_2 : Option Addr × Nat × Nat) =>
        (x_2.fst.isSome = true ∧ 0 ≤ f ∧ f < (↑x_2.snd.fst : Int)) ∧
         LdP w none (addP x_2.fst (f.toNat * 4)) (El.agg [Sc.int IntKind.i64, Sc.int IntKind.i64, Sc.int IntKind.i64, Sc.int IntKind.i64]) fun (x_3 : Int × Int × Int × Int × Unit) =>
          (-9223372036854775808 ≤ x ∧ x < 9223372036854775808) ∧
           AlP w { toList := [Value.int IntKind.i64 0, Value.int IntKind.i64 0, Value.int IntKind.i64 0, Value.int IntKind.i64 0] } 52 fun (b : Nat) (w2 : World) =>
            StP w2 (some { block := b, off := 0 })
             [Value.int IntKind.i64 (refV x_3.fst x_3.snd.fst x_3.snd.snd.fst x_3.snd.snd.snd.fst x).fst, Value.int IntKind.i64 (refV x_3.fst x_3.snd.fst x_3.snd.snd.fst x_3.snd.snd.snd.fst x).snd.fst,
              Value.int IntKind.i64 (refV x_3.fst x_3.snd.fst x_3.snd.snd.fst x_3.snd.snd.snd.fst x).snd.snd.fst, Value.int IntKind.i64 (refV x_3.fst x_3.snd.fst x_3.snd.snd.fst x_3.snd.snd.snd.fst x).snd.snd.snd.fst]
             fun (w2 : World) =>
             brP (refE x_3.fst x_3.snd.fst x_3.snd.snd.fst x_3.snd.snd.snd.fst x == 0)
              (p.isSome = true ∧
               p.isSome = true ∧
                LdP w2 none (addP p 0) (El.one Sc.slice) fun (x_4 : Option Addr × Nat × Nat) =>
                 LdP w2 none (some { block := b, off := 0 }) (El.agg [Sc.int IntKind.i64, Sc.int IntKind.i64, Sc.int IntKind.i64, Sc.int IntKind.i64]) fun (x_5 : Int × Int × Int × Int × Unit) =>
                  (x_4.fst.isSome = true ∧ 0 ≤ f ∧ f < (↑x_4.snd.fst : Int)) ∧
                   StP w2 (addP x_4.fst (f.toNat * 4)) [Value.int IntKind.i64 x_5.fst, Value.int IntKind.i64 x_5.snd.fst, Value.int IntKind.i64 x_5.snd.snd.fst, Value.int IntKind.i64 x_5.snd.snd.snd.fst] fun (w2 : World) =>
                    EnP w2 fun (w1 : World) => Post (refE x_3.fst x_3.snd.fst x_3.snd.snd.fst x_3.snd.snd.snd.fst x) w1)
              (EnP w2 fun (w1 : World) => Post (refE x_3.fst x_3.snd.fst x_3.snd.snd.fst x_3.snd.snd.snd.fst x) w1))) := by kernel_rfl
theorem rgive_vc (p : Option Addr) (f : Int) (w : World) (Post : Int → World → Prop) : (rxFn E0 (fun _ => []) 21 [.pointer p, .int .i64 f] w Post) = (
 CaP Try.prog 22 (Sh.el (El.one (Sc.int IntKind.i64))) [Value.pointer p, Value.int IntKind.i64 f, Value.int IntKind.i64 0, Value.int IntKind.i64 0] w fun (x : Int) (w2 : World) => EnP w2 fun (w1 : World) => Post x w1) := by kernel_rfl
def rtake_vc_ann : Nat → Slots := (fun | 2 => [(8, Go.RX.El.one (Go.RX.Sc.int Go.IntKind.i64))] | _ => [])
theorem rtake_vc (p : Option Addr) (k o : Int) (w : World) (Post : Int × Int × Unit → World → Prop) : (rxFn E0 rtake_vc_ann 20 [.pointer p, .int .i64 k, .int .i64 o] w Post) = (
 ∃ (I : Nat → Int × Unit → World → Prop),
  (∃ (n : Nat), ∀ (w1 : World), Ext w w1 → I n (0, Unit.unit) w1) ∧
   ∀ (n : Nat) (s : Int × Unit) (w1 : World),
    I n s w1 →
     p.isSome = true ∧
      p.isSome = true ∧
       LdP w1 none (addP p 0) (El.one Sc.slice) fun (x : Option Addr × Nat × Nat) =>
        brP (decide (s.fst < (↑x.snd.fst : Int)))
         (p.isSome = true ∧
          p.isSome = true ∧
           LdP w1 none (addP p 0) (El.one Sc.slice) fun (x : Option Addr × Nat × Nat) =>
            (x.fst.isSome = true ∧ 0 ≤ s.fst ∧ s.fst < (↑x.snd.fst : Int)) ∧
             (addP x.fst (Int.toNat s.fst * 4)).isSome = true ∧
              LdP w1 none (addP (addP x.fst (Int.toNat s.fst * 4)) 0) (El.one (Sc.int IntKind.i64)) fun (x : Int) =>
               brP (x == 0)
                (CaP Try.prog 22 (Sh.el (El.one (Sc.int IntKind.i64))) [Value.pointer p, Value.int IntKind.i64 s.fst, Value.int IntKind.i64 k, Value.int IntKind.i64 o] w1 fun (x : Int) (w2 : World) =>
                 brP (x != 0) (EnP w2 fun (w1 : World) => Post (0, x, Unit.unit) w1) (EnP w2 fun (w1 : World) => Post (s.fst, 0, Unit.unit) w1))
                (∀ (w3 : World), Ext w1 w3 → ∃ (n' : Nat), n' < n ∧ I n' (addI IntKind.i64 s.fst 1, Unit.unit) w3))
         (EnP w1 fun (w1 : World) => Post (0, 12, Unit.unit) w1)) := by kernel_rfl
def rcount_vc_ann : Nat → Slots := (fun | 3 => [(5, Go.RX.El.one (Go.RX.Sc.int Go.IntKind.i64)), (6, Go.RX.El.one (Go.RX.Sc.int Go.IntKind.i64))] | _ => [])
theorem rcount_vc (p : Option Addr) (k : Int) (w : World) (Post : Int → World → Prop) : (rxFn E0 rcount_vc_ann 26 [.pointer p, .int .i64 k] w Post) = (
 ∃ (I : Nat → Int × Int × Unit → World → Prop),
  (∃ (n : Nat), ∀ (w1 : World), Ext w w1 → I n (0, 0, Unit.unit) w1) ∧
   ∀ (n : Nat) (s : Int × Int × Unit) (w1 : World),
    I n s w1 →
     p.isSome = true ∧
      p.isSome = true ∧
       LdP w1 none (addP p 0) (El.one Sc.slice) fun (x : Option Addr × Nat × Nat) =>
        brP (decide (s.snd.fst < (↑x.snd.fst : Int)))
         (p.isSome = true ∧
          p.isSome = true ∧
           LdP w1 none (addP p 0) (El.one Sc.slice) fun (x : Option Addr × Nat × Nat) =>
            (x.fst.isSome = true ∧ 0 ≤ s.snd.fst ∧ s.snd.fst < (↑x.snd.fst : Int)) ∧
             (addP x.fst (Int.toNat s.snd.fst * 4)).isSome = true ∧
              LdP w1 none (addP (addP x.fst (Int.toNat s.snd.fst * 4)) 0) (El.one (Sc.int IntKind.i64)) fun (x : Int) =>
               brP (x == k) (∀ (w3 : World), Ext w1 w3 → ∃ (n' : Nat), n' < n ∧ I n' (addI IntKind.i64 s.fst 1, addI IntKind.i64 s.snd.fst 1, Unit.unit) w3)
                (∀ (w3 : World), Ext w1 w3 → ∃ (n' : Nat), n' < n ∧ I n' (s.fst, addI IntKind.i64 s.snd.fst 1, Unit.unit) w3))
         (EnP w1 fun (w1 : World) => Post s.fst w1)) := by kernel_rfl
def rowned_vc_ann : Nat → Slots := (fun | 3 => [(5, Go.RX.El.one Go.RX.Sc.slice), (6, Go.RX.El.one (Go.RX.Sc.int Go.IntKind.i64))] | _ => [])
theorem rowned_vc (p : Option Addr) (k : Int) (w : World) (Post : Option Addr × Nat × Nat → World → Prop) : (rxFn E0 rowned_vc_ann 28 [.pointer p, .int .i64 k] w Post) = (
 ∃ (I : Nat → (Option Addr × Nat × Nat) × Int × Unit → World → Prop),
  (∃ (n : Nat), ∀ (w1 : World), Ext w w1 → I n ((none, 0, 0), 0, Unit.unit) w1) ∧
   ∀ (n : Nat) (s : (Option Addr × Nat × Nat) × Int × Unit) (w1 : World),
    I n s w1 →
     p.isSome = true ∧
      p.isSome = true ∧
       LdP w1 none (addP p 0) (El.one Sc.slice) fun (x : Option Addr × Nat × Nat) =>
        brP (decide (s.snd.fst < (↑x.snd.fst : Int)))
         (p.isSome = true ∧
          p.isSome = true ∧
           LdP w1 none (addP p 0) (El.one Sc.slice) fun (x : Option Addr × Nat × Nat) =>
            (x.fst.isSome = true ∧ 0 ≤ s.snd.fst ∧ s.snd.fst < (↑x.snd.fst : Int)) ∧
             (addP x.fst (Int.toNat s.snd.fst * 4)).isSome = true ∧
              LdP w1 none (addP (addP x.fst (Int.toNat s.snd.fst * 4)) 1) (El.one (Sc.int IntKind.i64)) fun (x : Int) =>
               brP (x == k)
                (AlP w1 { toList := [Value.int IntKind.i64 s.snd.fst] } 3 fun (b : Nat) (w2 : World) =>
                 ∀ (w1 : World),
                  Ext w2 w1 →
                   apR w1 3 1 8 { toList := [Value.int IntKind.i64 0] } (s.fst.fst, s.fst.snd.fst, s.fst.snd.snd) (some { block := b, off := 0 }, 1, 1) fun (r : Option Addr × Nat × Nat) (w2 : World) =>
                    ∀ (w3 : World), Ext w2 w3 → ∃ (n' : Nat), n' < n ∧ I n' ((r.fst, r.snd.fst, r.snd.snd), addI IntKind.i64 s.snd.fst 1, Unit.unit) w3)
                (∀ (w3 : World), Ext w1 w3 → ∃ (n' : Nat), n' < n ∧ I n' ((s.fst.fst, s.fst.snd.fst, s.fst.snd.snd), addI IntKind.i64 s.snd.fst 1, Unit.unit) w3))
         (EnP w1 fun (w1 : World) => Post (s.fst.fst, s.fst.snd.fst, s.fst.snd.snd) w1)) := by kernel_rfl
end Go.Proofs.Ytogndkmclingeaa
