import Derived.Test.YtogndkmclingeaaQ6
namespace Go.Proofs.Ytogndkmclingeaa
set_option linter.unusedSimpArgs false
set_option linter.unusedVariables false
open Go.RX
noncomputable def E0 : Cfg Try.prog := { D3 with sh := [(35, .el (.one (.clo 42 2))), (29, .el (.one (.clo 42 2)))], quiet := [39, 36, 18] }
noncomputable def E1 : Cfg Try.prog := { E0 with cl := [(71, .clo 39 1)] }
noncomputable def E2 : Cfg Try.prog := { E0 with cl := [(71, .clo 36 1)] }
abbrev cloS : Sh := .el (.one (.clo 42 2))
theorem len_vc (p : Option Addr) (w : World) (Post : Int → World → Prop) : (rxFn E0 (fun _ => []) 18 [.pointer p] w Post) = (
 brP p.isNone (EnP w fun (w1 : World) => Post 0 w1) (p.isSome = true ∧ p.isSome = true ∧ LdP w none (addP p 0) (El.one Sc.slice) fun (x : Option Addr × Nat × Nat) => EnP w fun (w1 : World) => Post (↑x.snd.fst : Int) w1)) := by kernel_rfl
theorem of1_vc (k o r e : Int) (c : Option Addr) (w : World) (Post : Bool → World → Prop) : (rxFn E0 (fun _ => []) 39 [.agg ⟨[.int .i64 k, .int .i64 o, .int .i64 r, .int .i64 e]⟩, .pointer c] w Post) = (
 AlP w { toList := [Value.int IntKind.i64 k, Value.int IntKind.i64 o, Value.int IntKind.i64 r, Value.int IntKind.i64 e] } 33 fun (b : Nat) (w2 : World) =>
  true = true ∧ LdP w2 none (addP (some { block := b, off := 0 }) 0) (El.one (Sc.int IntKind.i64)) fun (x : Int) => LdP w2 none c (El.one (Sc.int IntKind.i64)) fun (x_1 : Int) => EnP w2 fun (w1 : World) => Post (x == x_1) w1) := by kernel_rfl
theorem owned1_vc (k o r e : Int) (c : Option Addr) (w : World) (Post : Bool → World → Prop) : (rxFn E0 (fun _ => []) 36 [.agg ⟨[.int .i64 k, .int .i64 o, .int .i64 r, .int .i64 e]⟩, .pointer c] w Post) = (
 AlP w { toList := [Value.int IntKind.i64 k, Value.int IntKind.i64 o, Value.int IntKind.i64 r, Value.int IntKind.i64 e] } 33 fun (b : Nat) (w2 : World) =>
  true = true ∧ LdP w2 none (addP (some { block := b, off := 0 }) 1) (El.one (Sc.int IntKind.i64)) fun (x : Int) => LdP w2 none c (El.one (Sc.int IntKind.i64)) fun (x_1 : Int) => EnP w2 fun (w1 : World) => Post (x == x_1) w1) := by kernel_rfl
theorem of_vc (p : Option Addr) (k : Int) (w : World) (Post : Option Addr × Option Addr × Unit → World → Prop) : (rxFn E0 (fun _ => []) 29 [.pointer p, .int .i64 k] w Post) = (
 AlP w { toList := [Value.int IntKind.i64 k] } 3 fun (b : Nat) (w2 : World) =>
  CaP Try.prog 35 (Sh.el (El.one (Sc.clo 42 2))) [Value.pointer p, Value.func (Fn.func 39) { toList := [] } { toList := [Value.pointer (some { block := b, off := 0 })] }] w2 fun (x : Option Addr × Option Addr × Unit) (w2 : World) =>
   EnP w2 fun (w1 : World) => Post (x.fst, x.snd.fst, Unit.unit) w1) := by kernel_rfl
theorem such_vc (p c : Option Addr) (w : World) (Post : Option Addr × Option Addr × Unit → World → Prop) : (rxFn E0 (fun _ => []) 35 [.pointer p, .func (.func 39) #[] #[.pointer c]] w Post) = (
 AlP w { toList := [Value.pointer p] } 23 fun (b : Nat) (w2 : World) =>
  AlP w2 { toList := [Value.func (Fn.func 39) { toList := [] } { toList := [Value.pointer c] }] } 71 fun (b_1 : Nat) (w2 : World) => EnP w2 fun (w1 : World) => Post (some { block := b, off := 0 }, some { block := b_1, off := 0 }, Unit.unit) w1) := by kernel_rfl
theorem such_vc2 (p c : Option Addr) (w : World) (Post : Option Addr × Option Addr × Unit → World → Prop) : (rxFn E0 (fun _ => []) 35 [.pointer p, .func (.func 36) #[] #[.pointer c]] w Post) = (
 AlP w { toList := [Value.pointer p] } 23 fun (b : Nat) (w2 : World) =>
  AlP w2 { toList := [Value.func (Fn.func 36) { toList := [] } { toList := [Value.pointer c] }] } 71 fun (b_1 : Nat) (w2 : World) => EnP w2 fun (w1 : World) => Post (some { block := b, off := 0 }, some { block := b_1, off := 0 }, Unit.unit) w1) := by kernel_rfl
def such1_vc_ann : Nat → Slots := (fun | 2 => [(13, Go.RX.El.one (Go.RX.Sc.int Go.IntKind.i64))] | _ => [])
theorem such1_vc (y : Nat) (p c : Option Addr) (w : World) (Post : Unit → World → Prop) : (rxFn E1 such1_vc_ann 42 [.func (.yield y) #[] #[], .pointer p, .pointer c] w Post) = (
 LdP w none p (El.one Sc.ptr) fun (x : Option Addr) =>
  brP x.isNone (EnP w fun (w1 : World) => Post Unit.unit w1)
   (LdP w none p (El.one Sc.ptr) fun (x : Option Addr) =>
    x.isSome = true ∧
     x.isSome = true ∧
      LdP w none (addP x 0) (El.one Sc.slice) fun (x : Option Addr × Nat × Nat) =>
       ∃ (I : Nat → Int × Unit → World → Prop),
        (∃ (n : Nat), ∀ (w1 : World), Ext w w1 → I n (0, Unit.unit) w1) ∧
         ∀ (n : Nat) (s : Int × Unit) (w1 : World),
          I n s w1 →
           brP (decide (s.fst < (↑x.snd.fst : Int)))
            ((x.fst.isSome = true ∧ 0 ≤ s.fst ∧ s.fst < (↑x.snd.fst : Int)) ∧
             LdP w1 none (addP x.fst (Int.toNat s.fst * 4)) (El.agg [Sc.int IntKind.i64, Sc.int IntKind.i64, Sc.int IntKind.i64, Sc.int IntKind.i64]) fun (x : Int × Int × Int × Int × Unit) =>
              AlP w1 { toList := [Value.int IntKind.i64 0, Value.int IntKind.i64 0, Value.int IntKind.i64 0, Value.int IntKind.i64 0] } 33 fun (b : Nat) (w2 : World) =>
               StP w2 (some { block := b, off := 0 }) [Value.int IntKind.i64 x.fst, Value.int IntKind.i64 x.snd.fst, Value.int IntKind.i64 x.snd.snd.fst, Value.int IntKind.i64 x.snd.snd.snd.fst] fun (w2 : World) =>
                LdP w2 none c (El.one (Sc.clo 39 1)) fun (x : Option Addr × Unit) =>
                 LdP w2 none (some { block := b, off := 0 }) (El.agg [Sc.int IntKind.i64, Sc.int IntKind.i64, Sc.int IntKind.i64, Sc.int IntKind.i64]) fun (x_1 : Int × Int × Int × Int × Unit) =>
                  ∃ (x_2 : Bool),
                   QCalls Try.prog 39 [Value.agg { toList := [Value.int IntKind.i64 x_1.fst, Value.int IntKind.i64 x_1.snd.fst, Value.int IntKind.i64 x_1.snd.snd.fst, Value.int IntKind.i64 x_1.snd.snd.snd.fst] }, Value.pointer x.fst] w2
                     (Value.bool x_2) ∧
                    brP x_2
                     (∀ (w1 : World),
                      Ext w2 w1 →
                       YieldC Try.prog y [Value.int IntKind.i64 s.fst] w1 fun (b : Bool) (w2 : World) =>
                        brP (!b) (EnP w2 fun (w1 : World) => Post Unit.unit w1) (∀ (w3 : World), Ext w2 w3 → ∃ (n' : Nat), n' < n ∧ I n' (addI IntKind.i64 s.fst 1, Unit.unit) w3))
                     (∀ (w3 : World), Ext w2 w3 → ∃ (n' : Nat), n' < n ∧ I n' (addI IntKind.i64 s.fst 1, Unit.unit) w3))
            (EnP w1 fun (w1 : World) => Post Unit.unit w1))) := by kernel_rfl
def such1_vc2_ann : Nat → Slots := (fun | 2 => [(13, Go.RX.El.one (Go.RX.Sc.int Go.IntKind.i64))] | _ => [])
theorem such1_vc2 (y : Nat) (p c : Option Addr) (w : World) (Post : Unit → World → Prop) : (rxFn E2 such1_vc2_ann 42 [.func (.yield y) #[] #[], .pointer p, .pointer c] w Post) = (
 LdP w none p (El.one Sc.ptr) fun (x : Option Addr) =>
  brP x.isNone (EnP w fun (w1 : World) => Post Unit.unit w1)
   (LdP w none p (El.one Sc.ptr) fun (x : Option Addr) =>
    x.isSome = true ∧
     x.isSome = true ∧
      LdP w none (addP x 0) (El.one Sc.slice) fun (x : Option Addr × Nat × Nat) =>
       ∃ (I : Nat → Int × Unit → World → Prop),
        (∃ (n : Nat), ∀ (w1 : World), Ext w w1 → I n (0, Unit.unit) w1) ∧
         ∀ (n : Nat) (s : Int × Unit) (w1 : World),
          I n s w1 →
           brP (decide (s.fst < (↑x.snd.fst : Int)))
            ((x.fst.isSome = true ∧ 0 ≤ s.fst ∧ s.fst < (↑x.snd.fst : Int)) ∧
             LdP w1 none (addP x.fst (Int.toNat s.fst * 4)) (El.agg [Sc.int IntKind.i64, Sc.int IntKind.i64, Sc.int IntKind.i64, Sc.int IntKind.i64]) fun (x : Int × Int × Int × Int × Unit) =>
              AlP w1 { toList := [Value.int IntKind.i64 0, Value.int IntKind.i64 0, Value.int IntKind.i64 0, Value.int IntKind.i64 0] } 33 fun (b : Nat) (w2 : World) =>
               StP w2 (some { block := b, off := 0 }) [Value.int IntKind.i64 x.fst, Value.int IntKind.i64 x.snd.fst, Value.int IntKind.i64 x.snd.snd.fst, Value.int IntKind.i64 x.snd.snd.snd.fst] fun (w2 : World) =>
                LdP w2 none c (El.one (Sc.clo 36 1)) fun (x : Option Addr × Unit) =>
                 LdP w2 none (some { block := b, off := 0 }) (El.agg [Sc.int IntKind.i64, Sc.int IntKind.i64, Sc.int IntKind.i64, Sc.int IntKind.i64]) fun (x_1 : Int × Int × Int × Int × Unit) =>
                  ∃ (x_2 : Bool),
                   QCalls Try.prog 36 [Value.agg { toList := [Value.int IntKind.i64 x_1.fst, Value.int IntKind.i64 x_1.snd.fst, Value.int IntKind.i64 x_1.snd.snd.fst, Value.int IntKind.i64 x_1.snd.snd.snd.fst] }, Value.pointer x.fst] w2
                     (Value.bool x_2) ∧
                    brP x_2
                     (∀ (w1 : World),
                      Ext w2 w1 →
                       YieldC Try.prog y [Value.int IntKind.i64 s.fst] w1 fun (b : Bool) (w2 : World) =>
                        brP (!b) (EnP w2 fun (w1 : World) => Post Unit.unit w1) (∀ (w3 : World), Ext w2 w3 → ∃ (n' : Nat), n' < n ∧ I n' (addI IntKind.i64 s.fst 1, Unit.unit) w3))
                     (∀ (w3 : World), Ext w2 w3 → ∃ (n' : Nat), n' < n ∧ I n' (addI IntKind.i64 s.fst 1, Unit.unit) w3))
            (EnP w1 fun (w1 : World) => Post Unit.unit w1))) := by kernel_rfl
theorem turn1_vc (k o r e : Int) (c d : Option Addr) (w : World) (Post : (Int × Int × Int × Int × Unit) × Int × Unit → World → Prop) : (rxFnR E0 (fun _ => []) 31 [.agg ⟨[.int .i64 k, .int .i64 o, .int .i64 r, .int .i64 e]⟩, .pointer c, .pointer d] w Post) = (
 AlP w { toList := [Value.int IntKind.i64 k, Value.int IntKind.i64 o, Value.int IntKind.i64 r, Value.int IntKind.i64 e] } 33 fun (b : Nat) (w2 : World) =>
  AlP w2 { toList := [Value.int IntKind.i64 0, Value.int IntKind.i64 0, Value.int IntKind.i64 0, Value.int IntKind.i64 0] } 33 fun (b_1 : Nat) (w2 : World) =>
   LdP w2 none (some { block := b, off := 0 }) (El.agg [Sc.int IntKind.i64, Sc.int IntKind.i64, Sc.int IntKind.i64, Sc.int IntKind.i64]) fun (x : Int × Int × Int × Int × Unit) =>
    LdP w2 none c (El.one (Sc.int IntKind.i64)) fun (x_1 : Int) =>
     LdP w2 none d (El.one (Sc.int IntKind.i64)) fun (x_2 : Int) =>
      True ∧
       StP w2 (some { block := b_1, off := 0 })
        [Value.int IntKind.i64 (nextK x.fst x.snd.fst x.snd.snd.fst x.snd.snd.snd.fst x_1 x_2), Value.int IntKind.i64 (nextO x.fst x.snd.fst x.snd.snd.fst x.snd.snd.snd.fst x_1 x_2), Value.int IntKind.i64 0, Value.int IntKind.i64 0]
        fun (w2 : World) =>
        EnP w2 fun (w1 : World) =>
         LdP w1 none (some { block := b_1, off := 0 }) (El.agg [Sc.int IntKind.i64, Sc.int IntKind.i64, Sc.int IntKind.i64, Sc.int IntKind.i64]) fun (x_3 : Int × Int × Int × Int × Unit) =>
          Post ((x_3.fst, x_3.snd.fst, x_3.snd.snd.fst, x_3.snd.snd.snd.fst, Unit.unit), nextE x.fst x.snd.fst x.snd.snd.fst x.snd.snd.snd.fst x_1 x_2, Unit.unit) w1) := by kernel_rfl
theorem ref1_vc (k o r e : Int) (c : Option Addr) (w : World) (Post : (Int × Int × Int × Int × Unit) × Int × Unit → World → Prop) : (rxFnR E0 (fun _ => []) 33 [.agg ⟨[.int .i64 k, .int .i64 o, .int .i64 r, .int .i64 e]⟩, .pointer c] w Post) = (
 AlP w { toList := [Value.int IntKind.i64 k, Value.int IntKind.i64 o, Value.int IntKind.i64 r, Value.int IntKind.i64 e] } 33 fun (b : Nat) (w2 : World) =>
  AlP w2 { toList := [Value.int IntKind.i64 0, Value.int IntKind.i64 0, Value.int IntKind.i64 0, Value.int IntKind.i64 0] } 33 fun (b_1 : Nat) (w2 : World) =>
   LdP w2 none (some { block := b, off := 0 }) (El.agg [Sc.int IntKind.i64, Sc.int IntKind.i64, Sc.int IntKind.i64, Sc.int IntKind.i64]) fun (x : Int × Int × Int × Int × Unit) =>
    LdP w2 none c (El.one (Sc.int IntKind.i64)) fun (x_1 : Int) =>
     (-9223372036854775808 ≤ x_1 ∧ x_1 < 9223372036854775808) ∧
      StP w2 (some { block := b_1, off := 0 })
       [Value.int IntKind.i64 (refV x.fst x.snd.fst x.snd.snd.fst x.snd.snd.snd.fst x_1).fst, Value.int IntKind.i64 (refV x.fst x.snd.fst x.snd.snd.fst x.snd.snd.snd.fst x_1).snd.fst,
        Value.int IntKind.i64 (refV x.fst x.snd.fst x.snd.snd.fst x.snd.snd.snd.fst x_1).snd.snd.fst, Value.int IntKind.i64 (refV x.fst x.snd.fst x.snd.snd.fst x.snd.snd.snd.fst x_1).snd.snd.snd.fst]
       fun (w2 : World) =>
       EnP w2 fun (w1 : World) =>
        LdP w1 none (some { block := b_1, off := 0 }) (El.agg [Sc.int IntKind.i64, Sc.int IntKind.i64, Sc.int IntKind.i64, Sc.int IntKind.i64]) fun (x_2 : Int × Int × Int × Int × Unit) =>
         Post ((x_2.fst, x_2.snd.fst, x_2.snd.snd.fst, x_2.snd.snd.snd.fst, Unit.unit), refE x.fst x.snd.fst x.snd.snd.fst x.snd.snd.snd.fst x_1, Unit.unit) w1) := by kernel_rfl
theorem change_vc (p : Option Addr) (f : Int) (c d : Option Addr) (w : World) (Post : Int → World → Prop) : (rxFn E0 (fun _ => []) 30 [.pointer p, .int .i64 f, .func (.func 31) #[] #[.pointer c, .pointer d]] w Post) = (
 ∃ (x : Int),
  QCalls Try.prog 18 [Value.pointer p] w (Value.int IntKind.i64 x) ∧
   brP (x == 0) (EnP w fun (w1 : World) => Post 10 w1)
    (((!decide (f < 0)) = true → p.isSome = true) ∧
     ((!decide (f < 0)) = true → p.isSome = true) ∧
      LdP w (some !decide (f < 0)) (addP p 0) (El.one Sc.slice) fun (x : Option Addr × Nat × Nat) =>
       brP (decide (f < 0) || decide (f ≥ (↑x.snd.fst : Int))) (EnP w fun (w1 : World) => Post 2 w1)
        (p.isSome = true ∧
         p.isSome = true ∧
          LdP w none (addP p 0) (El.one Sc.slice) fun (x : Option Addr × Nat × Nat) =>
           (x.fst.isSome = true ∧ 0 ≤ f ∧ f < (↑x.snd.fst : Int)) ∧
            LdP w none (addP x.fst (f.toNat * 4)) (El.agg [Sc.int IntKind.i64, Sc.int IntKind.i64, Sc.int IntKind.i64, Sc.int IntKind.i64]) fun (x : Int × Int × Int × Int × Unit) =>
             CaP Try.prog 31 (Sh.tup [El.agg [Sc.int IntKind.i64, Sc.int IntKind.i64, Sc.int IntKind.i64, Sc.int IntKind.i64], El.one (Sc.int IntKind.i64)])
              [Value.agg { toList := [Value.int IntKind.i64 x.fst, Value.int IntKind.i64 x.snd.fst, Value.int IntKind.i64 x.snd.snd.fst, Value.int IntKind.i64 x.snd.snd.snd.fst] }, Value.pointer c, Value.pointer d] w
              fun (x : (Int × Int × Int × Int × Unit) × Int × Unit) (w2 : World) =>
              AlP w2 { toList := [Value.int IntKind.i64 0, Value.int IntKind.i64 0, Value.int IntKind.i64 0, Value.int IntKind.i64 0] } 33 fun (b : Nat) (w2 : World) =>
               StP w2 (some { block := b, off := 0 }) [Value.int IntKind.i64 x.fst.fst, Value.int IntKind.i64 x.fst.snd.fst, Value.int IntKind.i64 x.fst.snd.snd.fst, Value.int IntKind.i64 x.fst.snd.snd.snd.fst] fun (w2 : World) =>
                brP (x.snd.fst == 0)
                 (p.isSome = true ∧
                  p.isSome = true ∧
                   LdP w2 none (addP p 0) (El.one Sc.slice) fun (x_1 : Option Addr × Nat × Nat) =>
                    LdP w2 none (some { block := b, off := 0 }) (El.agg [Sc.int IntKind.i64, Sc.int IntKind.i64, Sc.int IntKind.i64, Sc.int IntKind.i64]) fun (x_2 : Int × Int × Int × Int × Unit) =>
                     (x_1.fst.isSome = true ∧ 0 ≤ f ∧ f < (↑x_1.snd.fst : Int)) ∧
                      StP w2 (addP x_1.fst (f.toNat * 4)) [Value.int IntKind.i64 x_2.fst, Value.int IntKind.i64 x_2.snd.fst, Value.int IntKind.i64 x_2.snd.snd.fst, Value.int IntKind.i64 x_2.snd.snd.snd.fst] fun (w2 : World) =>
                       EnP w2 fun (w1 : World) => Post x.snd.fst w1)
                 (EnP w2 fun (w1 : World) => Post x.snd.fst w1)))) := by kernel_rfl
theorem change_vc2 (p : Option Addr) (f : Int) (c : Option Addr) (w : World) (Post : Int → World → Prop) : (rxFn E0 (fun _ => []) 30 [.pointer p, .int .i64 f, .func (.func 33) #[] #[.pointer c]] w Post) = (
 ∃ (x : Int),
  QCalls Try.prog 18 [Value.pointer p] w (Value.int IntKind.i64 x) ∧
   brP (x == 0) (EnP w fun (w1 : World) => Post 10 w1)
    (((!decide (f < 0)) = true → p.isSome = true) ∧
     ((!decide (f < 0)) = true → p.isSome = true) ∧
      LdP w (some !decide (f < 0)) (addP p 0) (El.one Sc.slice) fun (x : Option Addr × Nat × Nat) =>
       brP (decide (f < 0) || decide (f ≥ (↑x.snd.fst : Int))) (EnP w fun (w1 : World) => Post 2 w1)
        (p.isSome = true ∧
         p.isSome = true ∧
          LdP w none (addP p 0) (El.one Sc.slice) fun (x : Option Addr × Nat × Nat) =>
           (x.fst.isSome = true ∧ 0 ≤ f ∧ f < (↑x.snd.fst : Int)) ∧
            LdP w none (addP x.fst (f.toNat * 4)) (El.agg [Sc.int IntKind.i64, Sc.int IntKind.i64, Sc.int IntKind.i64, Sc.int IntKind.i64]) fun (x : Int × Int × Int × Int × Unit) =>
             CaP Try.prog 33 (Sh.tup [El.agg [Sc.int IntKind.i64, Sc.int IntKind.i64, Sc.int IntKind.i64, Sc.int IntKind.i64], El.one (Sc.int IntKind.i64)])
              [Value.agg { toList := [Value.int IntKind.i64 x.fst, Value.int IntKind.i64 x.snd.fst, Value.int IntKind.i64 x.snd.snd.fst, Value.int IntKind.i64 x.snd.snd.snd.fst] }, Value.pointer c] w
              fun (x : (Int × Int × Int × Int × Unit) × Int × Unit) (w2 : World) =>
              AlP w2 { toList := [Value.int IntKind.i64 0, Value.int IntKind.i64 0, Value.int IntKind.i64 0, Value.int IntKind.i64 0] } 33 fun (b : Nat) (w2 : World) =>
               StP w2 (some { block := b, off := 0 }) [Value.int IntKind.i64 x.fst.fst, Value.int IntKind.i64 x.fst.snd.fst, Value.int IntKind.i64 x.fst.snd.snd.fst, Value.int IntKind.i64 x.fst.snd.snd.snd.fst] fun (w2 : World) =>
                brP (x.snd.fst == 0)
                 (p.isSome = true ∧
                  p.isSome = true ∧
                   LdP w2 none (addP p 0) (El.one Sc.slice) fun (x_1 : Option Addr × Nat × Nat) =>
                    LdP w2 none (some { block := b, off := 0 }) (El.agg [Sc.int IntKind.i64, Sc.int IntKind.i64, Sc.int IntKind.i64, Sc.int IntKind.i64]) fun (x_2 : Int × Int × Int × Int × Unit) =>
                     (x_1.fst.isSome = true ∧ 0 ≤ f ∧ f < (↑x_1.snd.fst : Int)) ∧
                      StP w2 (addP x_1.fst (f.toNat * 4)) [Value.int IntKind.i64 x_2.fst, Value.int IntKind.i64 x_2.snd.fst, Value.int IntKind.i64 x_2.snd.snd.fst, Value.int IntKind.i64 x_2.snd.snd.snd.fst] fun (w2 : World) =>
                       EnP w2 fun (w1 : World) => Post x.snd.fst w1)
                 (EnP w2 fun (w1 : World) => Post x.snd.fst w1)))) := by kernel_rfl
theorem turn_vc (p : Option Addr) (f k o : Int) (w : World) (Post : Int → World → Prop) : (rxFn E0 (fun _ => []) 14 [.pointer p, .int .i64 f, .int .i64 k, .int .i64 o] w Post) = (
 AlP w { toList := [Value.int IntKind.i64 k] } 3 fun (b : Nat) (w2 : World) =>
  AlP w2 { toList := [Value.int IntKind.i64 o] } 3 fun (b_1 : Nat) (w2 : World) =>
   CaP Try.prog 30 (Sh.el (El.one (Sc.int IntKind.i64)))
    [Value.pointer p, Value.int IntKind.i64 f, Value.func (Fn.func 31) { toList := [] } { toList := [Value.pointer (some { block := b, off := 0 }), Value.pointer (some { block := b_1, off := 0 })] }] w2 fun (x : Int) (w2 : World) =>
    EnP w2 fun (w1 : World) => Post x w1) := by kernel_rfl
theorem pref_vc (p : Option Addr) (f x : Int) (w : World) (Post : Int → World → Prop) : (rxFn E0 (fun _ => []) 15 [.pointer p, .int .i64 f, .int .i64 x] w Post) = (
 AlP w { toList := [Value.int IntKind.i64 x] } 3 fun (b : Nat) (w2 : World) =>
  CaP Try.prog 30 (Sh.el (El.one (Sc.int IntKind.i64))) [Value.pointer p, Value.int IntKind.i64 f, Value.func (Fn.func 33) { toList := [] } { toList := [Value.pointer (some { block := b, off := 0 })] }] w2 fun (x : Int) (w2 : World) =>
   EnP w2 fun (w1 : World) => Post x w1) := by kernel_rfl
theorem give_vc (p : Option Addr) (f : Int) (w : World) (Post : Int → World → Prop) : (rxFn E0 (fun _ => []) 13 [.pointer p, .int .i64 f] w Post) = (
 CaP Try.prog 14 (Sh.el (El.one (Sc.int IntKind.i64))) [Value.pointer p, Value.int IntKind.i64 f, Value.int IntKind.i64 0, Value.int IntKind.i64 0] w fun (x : Int) (w2 : World) => EnP w2 fun (w1 : World) => Post x w1) := by kernel_rfl
theorem pof_vc (p : Option Addr) (f : Int) (w : World) (Post : (Int × Int × Int × Int × Unit) × Bool × Unit → World → Prop) : (rxFnR E0 (fun _ => []) 12 [.pointer p, .int .i64 f] w Post) = (
 AlP w { toList := [Value.int IntKind.i64 0, Value.int IntKind.i64 0, Value.int IntKind.i64 0, Value.int IntKind.i64 0] } 33 fun (b : Nat) (w2 : World) =>
  ∃ (x : Int),
   ((!decide (f < 0)) = true → QCalls Try.prog 18 [Value.pointer p] w2 (Value.int IntKind.i64 x)) ∧
    brP (decide (f < 0) || decide (f ≥ x))
     (StP w2 (some { block := b, off := 0 }) [Value.int IntKind.i64 0, Value.int IntKind.i64 0, Value.int IntKind.i64 0, Value.int IntKind.i64 0] fun (w2 : World) =>
      EnP w2 fun (w1 : World) =>
       LdP w1 none (some { block := b, off := 0 }) (El.agg [Sc.int IntKind.i64, Sc.int IntKind.i64, Sc.int IntKind.i64, Sc.int IntKind.i64]) fun (x : Int × Int × Int × Int × Unit) =>
        Post ((x.fst, x.snd.fst, x.snd.snd.fst, x.snd.snd.snd.fst, Unit.unit), false, Unit.unit) w1)
     (p.isSome = true ∧
      p.isSome = true ∧
       LdP w2 none (addP p 0) (El.one Sc.slice) fun (x : Option Addr × Nat × Nat) =>
        (x.fst.isSome = true ∧ 0 ≤ f ∧ f < (↑x.snd.fst : Int)) ∧
         LdP w2 none (addP x.fst (f.toNat * 4)) (El.agg [Sc.int IntKind.i64, Sc.int IntKind.i64, Sc.int IntKind.i64, Sc.int IntKind.i64]) fun (x : Int × Int × Int × Int × Unit) =>
          StP w2 (some { block := b, off := 0 }) [Value.int IntKind.i64 x.fst, Value.int IntKind.i64 x.snd.fst, Value.int IntKind.i64 x.snd.snd.fst, Value.int IntKind.i64 x.snd.snd.snd.fst] fun (w2 : World) =>
           EnP w2 fun (w1 : World) =>
            LdP w1 none (some { block := b, off := 0 }) (El.agg [Sc.int IntKind.i64, Sc.int IntKind.i64, Sc.int IntKind.i64, Sc.int IntKind.i64]) fun (x : Int × Int × Int × Int × Unit) =>
             Post ((x.fst, x.snd.fst, x.snd.snd.fst, x.snd.snd.snd.fst, Unit.unit), true, Unit.unit) w1)) := by kernel_rfl
theorem pnew_vc (n : Int) (w : World) (Post : Option Addr × Int × Unit → World → Prop) : (rxFn E0 (fun _ => []) 9 [.int .i64 n] w Post) = (
 brP (decide (n < 1) || decide (n > 4096)) (EnP w fun (w1 : World) => Post (none, 1, Unit.unit) w1)
  (MkP w 32 4 n n { toList := [Value.int IntKind.i64 0, Value.int IntKind.i64 0, Value.int IntKind.i64 0, Value.int IntKind.i64 0] } 33 fun (b : Nat) (w2 : World) =>
   AlP w2 { toList := [Value.slice (some { block := b, off := 0 }) n.toNat n.toNat] } 61 fun (b : Nat) (w2 : World) => EnP w2 fun (w1 : World) => Post (some { block := b, off := 0 }, 0, Unit.unit) w1)) := by kernel_rfl
theorem copy_vc (p : Option Addr) (w : World) (Post : Option Addr → World → Prop) : (rxFn E0 (fun _ => []) 24 [.pointer p] w Post) = (
 ∃ (x : Int),
  QCalls Try.prog 18 [Value.pointer p] w (Value.int IntKind.i64 x) ∧
   brP (x == 0) (EnP w fun (w1 : World) => Post none w1)
    (p.isSome = true ∧
     p.isSome = true ∧
      LdP w none (addP p 0) (El.one Sc.slice) fun (x : Option Addr × Nat × Nat) =>
       ∀ (w1 : World),
        Ext w w1 →
         apR w1 33 4 32 { toList := [Value.int IntKind.i64 0, Value.int IntKind.i64 0, Value.int IntKind.i64 0, Value.int IntKind.i64 0] } (none, 0, 0) (x.fst, x.snd.fst, x.snd.snd) fun (r : Option Addr × Nat × Nat) (w2 : World) =>
          AlP w2 { toList := [Value.slice r.fst r.snd.fst r.snd.snd] } 61 fun (b : Nat) (w2 : World) => EnP w2 fun (w1 : World) => Post (some { block := b, off := 0 }) w1)) := by kernel_rfl
def count_vc_ann : Nat → Slots := (fun | 3 => [(9, .one (.int .i64))] | _ => [])
theorem count_vc (p : Option Addr) (k : Int) (w : World) (Post : Int → World → Prop) : (rxFnR E0 count_vc_ann 10 [.pointer p, .int .i64 k] w Post) = (
 AlP w { toList := [Value.int IntKind.i64 0] } 3 fun (b : Nat) (w2 : World) =>
  StP w2 (some { block := b, off := 0 }) [Value.int IntKind.i64 0] fun (w2 : World) =>
   CaP Try.prog 29 (Sh.el (El.one (Sc.clo 42 2))) [Value.pointer p, Value.int IntKind.i64 k] w2 fun (x : Option Addr × Option Addr × Unit) (w2 : World) =>
    RnP Try.prog 42 (fun (y : Nat) => [Value.func (Fn.yield y) { toList := [] } { toList := [] }, Value.pointer x.fst, Value.pointer x.snd.fst]) { toList := [9] } w2 (fun (x : Int × Unit) => [Value.int IntKind.i64 x.fst])
     (fun (l : Nat) (rec : Loop) (x : Int × Unit) (w3 : World) (R : Bool → World → Prop) =>
      RoP l rec [Value.int IntKind.i64 x.fst].length 1 w3
       (BeP l rec w3 fun (w5 : World) =>
        LdP w5 none (some { block := b, off := 0 }) (El.one (Sc.int IntKind.i64)) fun (x : Int) => StP w5 (some { block := b, off := 0 }) [Value.int IntKind.i64 (addI IntKind.i64 x 1)] fun (w2 : World) => FiP l rec none w2 R))
     fun (r : Nat) (rec : Loop) (w4 : World) =>
     rxAfter (r + 1) rec w4 (fun (w5 : World) => LdP w5 none (some { block := b, off := 0 }) (El.one (Sc.int IntKind.i64)) fun (x : Int) => ClP [r] w5 fun (w1 : World) => Post x w1)
      (fun (id : Nat) (w5 : World) =>
       Decidable.rec (fun (h : id = 0 → False) => False) (fun (h : id = 0) => LdP w5 none (some { block := b, off := 0 }) (El.one (Sc.int IntKind.i64)) fun (x : Int) => ClP [r] w5 fun (w1 : World) => Post x w1)
        (match h : id.beq 0 with
        | true => isTrue (Nat.eq_of_beq_eq_true h)
        | false => isFalse (Nat.ne_of_beq_eq_false h)))
      fun (w5 : World) => ClP [r] w5 fun (w1 : World) => Post 0 w1) := by kernel_rfl
def owned_vc_ann : Nat → Slots := (fun | 4 => [(10, .one (.int .i64))] | _ => [])
theorem owned_vc (p : Option Addr) (k : Int) (w : World) (Post : Option Addr × Nat × Nat → World → Prop) : (rxFnR E0 owned_vc_ann 16 [.pointer p, .int .i64 k] w Post) = (
 AlP w { toList := [Value.int IntKind.i64 k] } 3 fun (b : Nat) (w2 : World) =>
  AlP w2 { toList := [Value.slice none 0 0] } 39 fun (b_1 : Nat) (w2 : World) =>
   CaP Try.prog 35 (Sh.el (El.one (Sc.clo 42 2))) [Value.pointer p, Value.func (Fn.func 36) { toList := [] } { toList := [Value.pointer (some { block := b, off := 0 })] }] w2 fun (x : Option Addr × Option Addr × Unit) (w2 : World) =>
    RnP Try.prog 42 (fun (y : Nat) => [Value.func (Fn.yield y) { toList := [] } { toList := [] }, Value.pointer x.fst, Value.pointer x.snd.fst]) { toList := [10] } w2 (fun (x : Int × Unit) => [Value.int IntKind.i64 x.fst])
     (fun (l : Nat) (rec : Loop) (x : Int × Unit) (w3 : World) (R : Bool → World → Prop) =>
      RoP l rec [Value.int IntKind.i64 x.fst].length 1 w3
       (BeP l rec w3 fun (w5 : World) =>
        LdP w5 none (some { block := b_1, off := 0 }) (El.one Sc.slice) fun (x_1 : Option Addr × Nat × Nat) =>
         AlP w5 { toList := [Value.int IntKind.i64 x.fst] } 3 fun (b : Nat) (w2 : World) =>
          ∀ (w1 : World),
           Ext w2 w1 →
            apR w1 3 1 8 { toList := [Value.int IntKind.i64 0] } (x_1.fst, x_1.snd.fst, x_1.snd.snd) (some { block := b, off := 0 }, 1, 1) fun (r : Option Addr × Nat × Nat) (w2 : World) =>
             StP w2 (some { block := b_1, off := 0 }) [Value.slice r.fst r.snd.fst r.snd.snd] fun (w2 : World) => FiP l rec none w2 R))
     fun (r : Nat) (rec : Loop) (w4 : World) =>
     rxAfter (r + 1) rec w4 (fun (w5 : World) => LdP w5 none (some { block := b_1, off := 0 }) (El.one Sc.slice) fun (x : Option Addr × Nat × Nat) => ClP [r] w5 fun (w1 : World) => Post (x.fst, x.snd.fst, x.snd.snd) w1)
      (fun (id : Nat) (w5 : World) =>
       Decidable.rec (fun (h : id = 0 → False) => False) (fun (h : id = 0) => LdP w5 none (some { block := b_1, off := 0 }) (El.one Sc.slice) fun (x : Option Addr × Nat × Nat) => ClP [r] w5 fun (w1 : World) => Post (x.fst, x.snd.fst, x.snd.snd) w1)
        (match h : id.beq 0 with
        | true => isTrue (Nat.eq_of_beq_eq_true h)
        | false => isFalse (Nat.ne_of_beq_eq_false h)))
      fun (w5 : World) => ClP [r] w5 fun (w1 : World) => Post (none, 0, 0) w1) := by kernel_rfl
def take_vc_ann : Nat → Slots := (fun | 5 => [(15, .one (.int .i64))] | _ => [])
theorem take_vc (p : Option Addr) (k o : Int) (w : World) (Post : Int × Int × Unit → World → Prop) : (rxFnR E0 take_vc_ann 11 [.pointer p, .int .i64 k, .int .i64 o] w Post) = (
 AlP w { toList := [Value.pointer p] } 23 fun (b : Nat) (w2 : World) =>
  AlP w2 { toList := [Value.int IntKind.i64 k] } 3 fun (b_1 : Nat) (w2 : World) =>
   AlP w2 { toList := [Value.int IntKind.i64 o] } 3 fun (b_2 : Nat) (w2 : World) =>
    AlP w2 { toList := [Value.int IntKind.i64 0] } 3 fun (b_3 : Nat) (w2 : World) =>
     AlP w2 { toList := [Value.int IntKind.i64 0] } 24 fun (b_4 : Nat) (w2 : World) =>
      LdP w2 none (some { block := b, off := 0 }) (El.one Sc.ptr) fun (x : Option Addr) =>
       ∃ (x_1 : Int),
        QCalls Try.prog 18 [Value.pointer x] w2 (Value.int IntKind.i64 x_1) ∧
         brP (x_1 == 0)
          (StP w2 (some { block := b_3, off := 0 }) [Value.int IntKind.i64 0] fun (w2 : World) =>
           StP w2 (some { block := b_4, off := 0 }) [Value.int IntKind.i64 10] fun (w2 : World) =>
            EnP w2 fun (w1 : World) =>
             LdP w1 none (some { block := b_3, off := 0 }) (El.one (Sc.int IntKind.i64)) fun (x : Int) => LdP w1 none (some { block := b_4, off := 0 }) (El.one (Sc.int IntKind.i64)) fun (x_2 : Int) => Post (x, x_2, Unit.unit) w1)
          (LdP w2 none (some { block := b, off := 0 }) (El.one Sc.ptr) fun (x : Option Addr) =>
           CaP Try.prog 29 (Sh.el (El.one (Sc.clo 42 2))) [Value.pointer x, Value.int IntKind.i64 0] w2 fun (x : Option Addr × Option Addr × Unit) (w2 : World) =>
            RnP Try.prog 42 (fun (y : Nat) => [Value.func (Fn.yield y) { toList := [] } { toList := [] }, Value.pointer x.fst, Value.pointer x.snd.fst]) { toList := [15] } w2 (fun (x : Int × Unit) => [Value.int IntKind.i64 x.fst])
             (fun (l : Nat) (rec : Loop) (x : Int × Unit) (w3 : World) (R : Bool → World → Prop) =>
              RoP l rec [Value.int IntKind.i64 x.fst].length 1 w3
               (BeP l rec w3 fun (w5 : World) =>
                LdP w5 none (some { block := b, off := 0 }) (El.one Sc.ptr) fun (x_2 : Option Addr) =>
                 LdP w5 none (some { block := b_1, off := 0 }) (El.one (Sc.int IntKind.i64)) fun (x_3 : Int) =>
                  LdP w5 none (some { block := b_2, off := 0 }) (El.one (Sc.int IntKind.i64)) fun (x_4 : Int) =>
                   CaP Try.prog 14 (Sh.el (El.one (Sc.int IntKind.i64))) [Value.pointer x_2, Value.int IntKind.i64 x.fst, Value.int IntKind.i64 x_3, Value.int IntKind.i64 x_4] w5 fun (x_5 : Int) (w2 : World) =>
                    brP (x_5 != 0) (StP w2 (some { block := b_3, off := 0 }) [Value.int IntKind.i64 0] fun (w2 : World) => StP w2 (some { block := b_4, off := 0 }) [Value.int IntKind.i64 x_5] fun (w2 : World) => FiP l rec (some Code.ret) w2 R)
                     (StP w2 (some { block := b_3, off := 0 }) [Value.int IntKind.i64 x.fst] fun (w2 : World) => StP w2 (some { block := b_4, off := 0 }) [Value.int IntKind.i64 0] fun (w2 : World) => FiP l rec (some Code.ret) w2 R)))
             fun (r : Nat) (rec : Loop) (w4 : World) =>
             rxAfter (r + 1) rec w4
              (fun (w5 : World) =>
               StP w5 (some { block := b_3, off := 0 }) [Value.int IntKind.i64 0] fun (w2 : World) =>
                StP w2 (some { block := b_4, off := 0 }) [Value.int IntKind.i64 12] fun (w2 : World) =>
                 ClP [r] w2 fun (w1 : World) =>
                  LdP w1 none (some { block := b_3, off := 0 }) (El.one (Sc.int IntKind.i64)) fun (x : Int) => LdP w1 none (some { block := b_4, off := 0 }) (El.one (Sc.int IntKind.i64)) fun (x_2 : Int) => Post (x, x_2, Unit.unit) w1)
              (fun (id : Nat) (w5 : World) =>
               Decidable.rec (fun (h : id = 0 → False) => False)
                (fun (h : id = 0) =>
                 StP w5 (some { block := b_3, off := 0 }) [Value.int IntKind.i64 0] fun (w2 : World) =>
                  StP w2 (some { block := b_4, off := 0 }) [Value.int IntKind.i64 12] fun (w2 : World) =>
                   ClP [r] w2 fun (w1 : World) =>
                    LdP w1 none (some { block := b_3, off := 0 }) (El.one (Sc.int IntKind.i64)) fun (x : Int) => LdP w1 none (some { block := b_4, off := 0 }) (El.one (Sc.int IntKind.i64)) fun (x_2 : Int) => Post (x, x_2, Unit.unit) w1)
                (match h : id.beq 0 with
                | true => isTrue (Nat.eq_of_beq_eq_true h)
                | false => isFalse (Nat.ne_of_beq_eq_false h)))
              fun (w5 : World) =>
              ClP [r] w5 fun (w1 : World) =>
               LdP w1 none (some { block := b_3, off := 0 }) (El.one (Sc.int IntKind.i64)) fun (x : Int) => LdP w1 none (some { block := b_4, off := 0 }) (El.one (Sc.int IntKind.i64)) fun (x_2 : Int) => Post (x, x_2, Unit.unit) w1)) := by kernel_rfl
end Go.Proofs.Ytogndkmclingeaa
