import Derived.Test.YtcnaaobeooiojaaT1
namespace Go.Proofs.Ytcnaaobeooiojaa
set_option linter.unusedSimpArgs false
set_option linter.unusedVariables false
open Go.RX
noncomputable def R1 : Cfg Try.prog := { R0 with tab := [eGuest, eRGuest], quiet := [40, 38, 34, 42, 39, 31, 37] }
theorem there_vc (p : Option Addr) (w : World) (Post : Bool → World → Prop) : (rxFn R1 (fun _ => []) 40 [.pointer p] w Post) = (
 ((!p.isNone) = true → p.isSome = true) ∧ ((!p.isNone) = true → p.isSome = true) ∧ LdP w (some !p.isNone) (addP p 2560) (El.one (Sc.int IntKind.i64)) fun (x : Int) => EnP w fun (w1 : World) => Post (!p.isNone && decide (x > 0)) w1) := by kernel_rfl
theorem at_vc (p : Option Addr) (g i : Int) (w : World) (Post : Option Addr → World → Prop) : (rxFn R1 (fun _ => []) 38 [.pointer p, .int .i64 g, .int .i64 i] w Post) = (
 ∃ (x : Bool),
  QCalls Try.prog 40 [Value.pointer p] w (Value.bool x) ∧
   ((!!x) = true → True) ∧
    ((!(!x || !gI g || decide (i < 0))) = true → p.isSome = true) ∧
     ((!(!x || !gI g || decide (i < 0))) = true → p.isSome = true) ∧
      LdP w (some !(!x || !gI g || decide (i < 0))) (addP p 2560) (El.one (Sc.int IntKind.i64)) fun (x_1 : Int) =>
       brP (!x || !gI g || decide (i < 0) || decide (i ≥ x_1)) (EnP w fun (w1 : World) => Post none w1)
        (p.isSome = true ∧
         p.isSome = true ∧
          ((addP p 0).isSome = true ∧ 0 ≤ subI IntKind.i64 g 1 ∧ subI IntKind.i64 g 1 < (↑16 : Int)) ∧
           ((addP (addP p 0) ((subI IntKind.i64 g 1).toNat * 160)).isSome = true ∧ 0 ≤ i ∧ i < (↑32 : Int)) ∧
            (addP (addP (addP p 0) ((subI IntKind.i64 g 1).toNat * 160)) (i.toNat * 5)).isSome = true ∧
             LdP w none (addP (addP (addP p 0) ((subI IntKind.i64 g 1).toNat * 160)) (i.toNat * 5)) (El.agg [Sc.int IntKind.i64, Sc.int IntKind.i64, Sc.int IntKind.i64, Sc.bool, Sc.bool]) fun (x : Int × Int × Int × Bool × Bool × Unit) =>
              brP (x.fst == 0 && (x.snd.fst == 0 && (x.snd.snd.fst == 0 && (x.snd.snd.snd.fst == false && (x.snd.snd.snd.snd.fst == false && true))))) (EnP w fun (w1 : World) => Post none w1)
               (EnP w fun (w1 : World) => Post (addP (addP (addP p 0) ((subI IntKind.i64 g 1).toNat * 160)) (i.toNat * 5)) w1))) := by kernel_rfl
def place_vc_ann : Nat → Slots := (fun | 2 => [(10, Go.RX.El.one (Go.RX.Sc.int Go.IntKind.i64))] | _ => [])
theorem place_vc (p : Option Addr) (g : Int) (w : World) (Post : Int → World → Prop) : (rxFn R1 place_vc_ann 42 [.pointer p, .int .i64 g] w Post) = (
 p.isSome = true ∧
  p.isSome = true ∧
   LdP w none (addP p 2560) (El.one (Sc.int IntKind.i64)) fun (x : Int) =>
    ∃ (I : Nat → Int × Unit → World → Prop),
     (∃ (n : Nat), ∀ (w1 : World), Ext w w1 → I n (0, Unit.unit) w1) ∧
      ∀ (n : Nat) (s : Int × Unit) (w1 : World),
       I n s w1 →
        brP (decide (s.fst < x))
         (∃ (x : Option Addr),
          QCalls Try.prog 38 [Value.pointer p, Value.int IntKind.i64 g, Value.int IntKind.i64 s.fst] w1 (Value.pointer x) ∧
           brP x.isNone (EnP w1 fun (w1 : World) => Post s.fst w1) (∀ (w3 : World), Ext w1 w3 → ∃ (n' : Nat), n' < n ∧ I n' (addI IntKind.i64 s.fst 1, Unit.unit) w3))
         (EnP w1 fun (w1 : World) => Post (-1) w1)) := by kernel_rfl
theorem two_vc (p : Option Addr) (g r : Int) (w : World) (Post : Int → World → Prop) : (rxFn R1 (fun _ => []) 34 [.pointer p, .int .i64 g, .int .i64 r] w Post) = (
 ∃ (x : Bool),
  QCalls Try.prog 40 [Value.pointer p] w (Value.bool x) ∧ brP (!x) (EnP w fun (w1 : World) => Post 10 w1) (True ∧ ((!!gI g) = true → True) ∧ brP (!gI g || !gI r || g == r) (EnP w fun (w1 : World) => Post 1 w1) (EnP w fun (w1 : World) => Post 0 w1))) := by kernel_rfl
theorem miss_vc (p : Option Addr) (w : World) (Post : Int → World → Prop) : (rxFn R1 (fun _ => []) 39 [.pointer p] w Post) = (
 ∃ (x : Bool), QCalls Try.prog 40 [Value.pointer p] w (Value.bool x) ∧ brP (!x) (EnP w fun (w1 : World) => Post 10 w1) (EnP w fun (w1 : World) => Post 4 w1)) := by kernel_rfl
theorem lay_vc (p : Option Addr) (g : Int) (x1 x2 x3 : Int) (x4 x5 : Bool) (w : World) (Post : Int × Int × Unit → World → Prop) : (rxFn R1 (fun _ => []) 35 [.pointer p, .int .i64 g, .agg ⟨[.int .i64 x1, .int .i64 x2, .int .i64 x3, .bool x4, .bool x5]⟩] w Post) = (
 AlP w { toList := [Value.int IntKind.i64 x1, Value.int IntKind.i64 x2, Value.int IntKind.i64 x3, Value.bool x4, Value.bool x5] } 45 fun (b : Nat) (w2 : World) =>
  ∃ (x : Int),
   QCalls Try.prog 42 [Value.pointer p, Value.int IntKind.i64 g] w2 (Value.int IntKind.i64 x) ∧
    brP (x == -1) (EnP w2 fun (w1 : World) => Post (0, 3, Unit.unit) w1)
     (LdP w2 none (some { block := b, off := 0 }) (El.agg [Sc.int IntKind.i64, Sc.int IntKind.i64, Sc.int IntKind.i64, Sc.bool, Sc.bool]) fun (x_1 : Int × Int × Int × Bool × Bool × Unit) =>
      p.isSome = true ∧
       p.isSome = true ∧
        ((addP p 0).isSome = true ∧ 0 ≤ subI IntKind.i64 g 1 ∧ subI IntKind.i64 g 1 < (↑16 : Int)) ∧
         ((addP (addP p 0) ((subI IntKind.i64 g 1).toNat * 160)).isSome = true ∧ 0 ≤ x ∧ x < (↑32 : Int)) ∧
          StP w2 (addP (addP (addP p 0) ((subI IntKind.i64 g 1).toNat * 160)) (x.toNat * 5))
           [Value.int IntKind.i64 x_1.fst, Value.int IntKind.i64 x_1.snd.fst, Value.int IntKind.i64 x_1.snd.snd.fst, Value.bool x_1.snd.snd.snd.fst, Value.bool x_1.snd.snd.snd.snd.fst] fun (w2 : World) =>
           EnP w2 fun (w1 : World) => Post (x, 0, Unit.unit) w1)) := by kernel_rfl
theorem popen_vc (p : Option Addr) (g r : Int) (w : World) (Post : Int × Int × Unit → World → Prop) : (rxFn R1 (fun _ => []) 11 [.pointer p, .int .i64 g, .int .i64 r] w Post) = (
 ∃ (x : Int),
  QCalls Try.prog 34 [Value.pointer p, Value.int IntKind.i64 g, Value.int IntKind.i64 r] w (Value.int IntKind.i64 x) ∧
   brP (x != 0) (EnP w fun (w1 : World) => Post (0, x, Unit.unit) w1)
    (CaP Try.prog 35 (Sh.tup [El.one (Sc.int IntKind.i64), El.one (Sc.int IntKind.i64)])
     [Value.pointer p, Value.int IntKind.i64 g, Value.agg { toList := [Value.int IntKind.i64 1, Value.int IntKind.i64 r, Value.int IntKind.i64 0, Value.bool false, Value.bool false] }] w fun (x : Int × Int × Unit) (w2 : World) =>
     EnP w2 fun (w1 : World) => Post (x.fst, x.snd.fst, Unit.unit) w1)) := by kernel_rfl
theorem pbind_vc (p : Option Addr) (g r i : Int) (w : World) (Post : Int × Int × Unit → World → Prop) : (rxFn R1 (fun _ => []) 13 [.pointer p, .int .i64 g, .int .i64 r, .int .i64 i] w Post) = (
 ∃ (x : Int),
  QCalls Try.prog 34 [Value.pointer p, Value.int IntKind.i64 g, Value.int IntKind.i64 r] w (Value.int IntKind.i64 x) ∧
   brP (x != 0) (EnP w fun (w1 : World) => Post (0, x, Unit.unit) w1)
    (∃ (x : Option Addr),
     QCalls Try.prog 38 [Value.pointer p, Value.int IntKind.i64 r, Value.int IntKind.i64 i] w (Value.pointer x) ∧
      brP x.isNone (EnP w fun (w1 : World) => Post (0, 4, Unit.unit) w1)
       (x.isSome = true ∧
        x.isSome = true ∧
         LdP w none (addP x 0) (El.one (Sc.int IntKind.i64)) fun (x_1 : Int) =>
          brP (x_1 == 2) (EnP w fun (w1 : World) => Post (0, 6, Unit.unit) w1)
           (x.isSome = true ∧
            x.isSome = true ∧
             LdP w none (addP x 1) (El.one (Sc.int IntKind.i64)) fun (x_2 : Int) =>
              brP (x_2 != g) (EnP w fun (w1 : World) => Post (0, 7, Unit.unit) w1)
               (CaP Try.prog 35 (Sh.tup [El.one (Sc.int IntKind.i64), El.one (Sc.int IntKind.i64)])
                [Value.pointer p, Value.int IntKind.i64 g, Value.agg { toList := [Value.int IntKind.i64 2, Value.int IntKind.i64 r, Value.int IntKind.i64 i, Value.bool false, Value.bool false] }] w fun (x_3 : Int × Int × Unit) (w2 : World) =>
                brP (x_3.snd.fst == 0)
                 (x.isSome = true ∧
                  x.isSome = true ∧
                   StP w2 (addP x 0) [Value.int IntKind.i64 2] fun (w2 : World) =>
                    x.isSome = true ∧ x.isSome = true ∧ StP w2 (addP x 2) [Value.int IntKind.i64 x_3.fst] fun (w2 : World) => EnP w2 fun (w1 : World) => Post (x_3.fst, x_3.snd.fst, Unit.unit) w1)
                 (EnP w2 fun (w1 : World) => Post (x_3.fst, x_3.snd.fst, Unit.unit) w1)))))) := by kernel_rfl
theorem psend_vc (p : Option Addr) (g i : Int) (w : World) (Post : Int → World → Prop) : (rxFn R1 (fun _ => []) 15 [.pointer p, .int .i64 g, .int .i64 i] w Post) = (
 ∃ (x : Option Addr),
  QCalls Try.prog 38 [Value.pointer p, Value.int IntKind.i64 g, Value.int IntKind.i64 i] w (Value.pointer x) ∧
   brP x.isNone (∃ (x : Int), QCalls Try.prog 39 [Value.pointer p] w (Value.int IntKind.i64 x) ∧ EnP w fun (w1 : World) => Post x w1)
    (x.isSome = true ∧
     x.isSome = true ∧
      LdP w none (addP x 0) (El.one (Sc.int IntKind.i64)) fun (x_1 : Int) =>
       brP (x_1 != 2) (EnP w fun (w1 : World) => Post 6 w1)
        (x.isSome = true ∧
         x.isSome = true ∧
          LdP w none (addP x 1) (El.one (Sc.int IntKind.i64)) fun (x_2 : Int) =>
           x.isSome = true ∧
            x.isSome = true ∧
             LdP w none (addP x 2) (El.one (Sc.int IntKind.i64)) fun (x : Int) =>
              ∃ (x_3 : Option Addr),
               QCalls Try.prog 38 [Value.pointer p, Value.int IntKind.i64 x_2, Value.int IntKind.i64 x] w (Value.pointer x_3) ∧
                x_3.isSome = true ∧ x_3.isSome = true ∧ StP w (addP x_3 3) [Value.bool true] fun (w2 : World) => EnP w2 fun (w1 : World) => Post 0 w1))) := by kernel_rfl
theorem pmask_vc (p : Option Addr) (g i : Int) (b : Bool) (w : World) (Post : Int → World → Prop) : (rxFn R1 (fun _ => []) 17 [.pointer p, .int .i64 g, .int .i64 i, .bool b] w Post) = (
 ∃ (x : Option Addr),
  QCalls Try.prog 38 [Value.pointer p, Value.int IntKind.i64 g, Value.int IntKind.i64 i] w (Value.pointer x) ∧
   brP x.isNone (∃ (x : Int), QCalls Try.prog 39 [Value.pointer p] w (Value.int IntKind.i64 x) ∧ EnP w fun (w1 : World) => Post x w1)
    (x.isSome = true ∧ x.isSome = true ∧ StP w (addP x 4) [Value.bool b] fun (w2 : World) => EnP w2 fun (w1 : World) => Post 0 w1)) := by kernel_rfl
def ppend_vc_ann : Nat → Slots := (fun | 5 => [(5, Go.RX.El.one Go.RX.Sc.slice), (15, Go.RX.El.one (Go.RX.Sc.int Go.IntKind.i64))] | _ => [])
theorem ppend_vc (p : Option Addr) (g : Int) (w : World) (Post : Option Addr × Nat × Nat → World → Prop) : (rxFn R1 ppend_vc_ann 26 [.pointer p, .int .i64 g] w Post) = (
 ∃ (x : Bool),
  QCalls Try.prog 40 [Value.pointer p] w (Value.bool x) ∧
   brP (!x) (EnP w fun (w1 : World) => Post (none, 0, 0) w1)
    (p.isSome = true ∧
     p.isSome = true ∧
      LdP w none (addP p 2560) (El.one (Sc.int IntKind.i64)) fun (x : Int) =>
       ∃ (I : Nat → (Option Addr × Nat × Nat) × Int × Unit → World → Prop),
        (∃ (n : Nat), ∀ (w1 : World), Ext w w1 → I n ((none, 0, 0), 0, Unit.unit) w1) ∧
         ∀ (n : Nat) (s : (Option Addr × Nat × Nat) × Int × Unit) (w1 : World),
          I n s w1 →
           brP (decide (s.snd.fst < x))
            (∃ (x : Option Addr),
             QCalls Try.prog 38 [Value.pointer p, Value.int IntKind.i64 g, Value.int IntKind.i64 s.snd.fst] w1 (Value.pointer x) ∧
              ((!x.isNone) = true → x.isSome = true) ∧
               ((!x.isNone) = true → x.isSome = true) ∧
                LdP w1 (some !x.isNone) (addP x 3) (El.one Sc.bool) fun (x_1 : Bool) =>
                 ((!x.isNone && x_1) = true → x.isSome = true) ∧
                  ((!x.isNone && x_1) = true → x.isSome = true) ∧
                   LdP w1 (some (!x.isNone && x_1)) (addP x 4) (El.one Sc.bool) fun (x_2 : Bool) =>
                    brP (!x.isNone && x_1 && !x_2)
                     (AlP w1 { toList := [Value.int IntKind.i64 s.snd.fst] } 3 fun (b : Nat) (w2 : World) =>
                      ∀ (w1 : World),
                       Ext w2 w1 →
                        apR w1 3 1 8 { toList := [Value.int IntKind.i64 0] } (s.fst.fst, s.fst.snd.fst, s.fst.snd.snd) (some { block := b, off := 0 }, 1, 1) fun (r : Option Addr × Nat × Nat) (w2 : World) =>
                         ∀ (w3 : World), Ext w2 w3 → ∃ (n' : Nat), n' < n ∧ I n' ((r.fst, r.snd.fst, r.snd.snd), addI IntKind.i64 s.snd.fst 1, Unit.unit) w3)
                     (∀ (w3 : World), Ext w1 w3 → ∃ (n' : Nat), n' < n ∧ I n' ((s.fst.fst, s.fst.snd.fst, s.fst.snd.snd), addI IntKind.i64 s.snd.fst 1, Unit.unit) w3))
            (EnP w1 fun (w1 : World) => Post (s.fst.fst, s.fst.snd.fst, s.fst.snd.snd) w1))) := by kernel_rfl
theorem ptake_vc (p : Option Addr) (g : Int) (w : World) (Post : Int × Bool × Unit → World → Prop) : (rxFn R1 (fun _ => []) 19 [.pointer p, .int .i64 g] w Post) = (
 CaP Try.prog 26 (Sh.el (El.one Sc.slice)) [Value.pointer p, Value.int IntKind.i64 g] w fun (x : Option Addr × Nat × Nat) (w2 : World) =>
  brP ((↑x.snd.fst : Int) == 0) (EnP w2 fun (w1 : World) => Post (0, false, Unit.unit) w1)
   ((x.fst.isSome = true ∧ (0 : Int) ≤ 0 ∧ 0 < (↑x.snd.fst : Int)) ∧
    LdP w2 none (addP x.fst 0) (El.one (Sc.int IntKind.i64)) fun (x_1 : Int) =>
     ∃ (x_2 : Option Addr),
      QCalls Try.prog 38 [Value.pointer p, Value.int IntKind.i64 g, Value.int IntKind.i64 x_1] w2 (Value.pointer x_2) ∧
       x_2.isSome = true ∧
        x_2.isSome = true ∧
         StP w2 (addP x_2 3) [Value.bool false] fun (w2 : World) =>
          (x.fst.isSome = true ∧ (0 : Int) ≤ 0 ∧ 0 < (↑x.snd.fst : Int)) ∧ LdP w2 none (addP x.fst 0) (El.one (Sc.int IntKind.i64)) fun (x : Int) => EnP w2 fun (w1 : World) => Post (x, true, Unit.unit) w1)) := by kernel_rfl
theorem pclose_vc (p : Option Addr) (g i : Int) (w : World) (Post : Int → World → Prop) : (rxFn R1 (fun _ => []) 21 [.pointer p, .int .i64 g, .int .i64 i] w Post) = (
 ∃ (x : Option Addr),
  QCalls Try.prog 38 [Value.pointer p, Value.int IntKind.i64 g, Value.int IntKind.i64 i] w (Value.pointer x) ∧
   brP x.isNone (∃ (x : Int), QCalls Try.prog 39 [Value.pointer p] w (Value.int IntKind.i64 x) ∧ EnP w fun (w1 : World) => Post x w1)
    (x.isSome = true ∧
     x.isSome = true ∧
      LdP w none (addP x 0) (El.one (Sc.int IntKind.i64)) fun (x_1 : Int) =>
       brP (x_1 == 2)
        (x.isSome = true ∧
         x.isSome = true ∧
          LdP w none (addP x 1) (El.one (Sc.int IntKind.i64)) fun (x_2 : Int) =>
           x.isSome = true ∧
            x.isSome = true ∧
             LdP w none (addP x 2) (El.one (Sc.int IntKind.i64)) fun (x_3 : Int) =>
              ∃ (x_4 : Option Addr),
               QCalls Try.prog 38 [Value.pointer p, Value.int IntKind.i64 x_2, Value.int IntKind.i64 x_3] w (Value.pointer x_4) ∧
                x_4.isSome = true ∧
                 x_4.isSome = true ∧
                  StP w (addP x_4 0) [Value.int IntKind.i64 1] fun (w2 : World) =>
                   x_4.isSome = true ∧
                    x_4.isSome = true ∧
                     StP w2 (addP x_4 2) [Value.int IntKind.i64 0] fun (w2 : World) =>
                      x.isSome = true ∧ StP w2 x [Value.int IntKind.i64 0, Value.int IntKind.i64 0, Value.int IntKind.i64 0, Value.bool false, Value.bool false] fun (w2 : World) => EnP w2 fun (w1 : World) => Post 0 w1)
        (x.isSome = true ∧ StP w x [Value.int IntKind.i64 0, Value.int IntKind.i64 0, Value.int IntKind.i64 0, Value.bool false, Value.bool false] fun (w2 : World) => EnP w2 fun (w1 : World) => Post 0 w1))) := by kernel_rfl
def pdrop_vc_ann : Nat → Slots := (fun | 5 => [(5, Go.RX.El.one (Go.RX.Sc.int Go.IntKind.i64)), (22, Go.RX.El.one (Go.RX.Sc.int Go.IntKind.i64))] | 11 => [(5, Go.RX.El.one (Go.RX.Sc.int Go.IntKind.i64)), (7, Go.RX.El.one (Go.RX.Sc.int Go.IntKind.i64))] | 14 => [(5, Go.RX.El.one (Go.RX.Sc.int Go.IntKind.i64)), (41, Go.RX.El.one (Go.RX.Sc.int Go.IntKind.i64))] | _ => [])
theorem pdrop_vc (p : Option Addr) (g : Int) (w : World) (Post : Int → World → Prop) : (rxFn R1 pdrop_vc_ann 23 [.pointer p, .int .i64 g] w Post) = (
 ∃ (x : Bool),
  QCalls Try.prog 40 [Value.pointer p] w (Value.bool x) ∧
   ((!!x) = true → True) ∧
    brP (!x || !gI g) (EnP w fun (w1 : World) => Post 0 w1)
     (p.isSome = true ∧
      p.isSome = true ∧
       LdP w none (addP p 2560) (El.one (Sc.int IntKind.i64)) fun (x : Int) =>
        ∃ (I : Nat → Int × Int × Unit → World → Prop),
         (∃ (n : Nat), ∀ (w1 : World), Ext w w1 → I n (0, 0, Unit.unit) w1) ∧
          ∀ (n : Nat) (s : Int × Int × Unit) (w1 : World),
           I n s w1 →
            brP (decide (s.snd.fst < x))
             (CaP Try.prog 21 (Sh.el (El.one (Sc.int IntKind.i64))) [Value.pointer p, Value.int IntKind.i64 g, Value.int IntKind.i64 s.snd.fst] w1 fun (x : Int) (w2 : World) =>
              brP (x == 0) (∀ (w3 : World), Ext w2 w3 → ∃ (n' : Nat), n' < n ∧ I n' (addI IntKind.i64 s.fst 1, addI IntKind.i64 s.snd.fst 1, Unit.unit) w3)
               (∀ (w3 : World), Ext w2 w3 → ∃ (n' : Nat), n' < n ∧ I n' (s.fst, addI IntKind.i64 s.snd.fst 1, Unit.unit) w3))
             (∃ (I : Nat → Int × Int × Unit → World → Prop),
              (∃ (n : Nat), ∀ (w1_1 : World), Ext w1 w1_1 → I n (s.fst, 1, Unit.unit) w1_1) ∧
               ∀ (n : Nat) (s : Int × Int × Unit) (w1 : World),
                I n s w1 →
                 brP (decide (s.snd.fst ≤ 16))
                  (p.isSome = true ∧
                   p.isSome = true ∧
                    LdP w1 none (addP p 2560) (El.one (Sc.int IntKind.i64)) fun (x : Int) =>
                     ∃ (I_1 : Nat → Int × Int × Unit → World → Prop),
                      (∃ (n : Nat), ∀ (w1_1 : World), Ext w1 w1_1 → I_1 n (s.fst, 0, Unit.unit) w1_1) ∧
                       ∀ (n_1 : Nat) (s_1 : Int × Int × Unit) (w1 : World),
                        I_1 n_1 s_1 w1 →
                         brP (decide (s_1.snd.fst < x))
                          (∃ (x : Option Addr),
                           QCalls Try.prog 38 [Value.pointer p, Value.int IntKind.i64 s.snd.fst, Value.int IntKind.i64 s_1.snd.fst] w1 (Value.pointer x) ∧
                            ((!x.isNone) = true → x.isSome = true) ∧
                             ((!x.isNone) = true → x.isSome = true) ∧
                              LdP w1 (some !x.isNone) (addP x 1) (El.one (Sc.int IntKind.i64)) fun (x_1 : Int) =>
                               brP (!x.isNone && x_1 == g)
                                (x.isSome = true ∧
                                 StP w1 x [Value.int IntKind.i64 0, Value.int IntKind.i64 0, Value.int IntKind.i64 0, Value.bool false, Value.bool false] fun (w2 : World) =>
                                  ∀ (w3 : World), Ext w2 w3 → ∃ (n' : Nat), n' < n_1 ∧ I_1 n' (addI IntKind.i64 s_1.fst 1, addI IntKind.i64 s_1.snd.fst 1, Unit.unit) w3)
                                (∀ (w3 : World), Ext w1 w3 → ∃ (n' : Nat), n' < n_1 ∧ I_1 n' (s_1.fst, addI IntKind.i64 s_1.snd.fst 1, Unit.unit) w3))
                          (∀ (w3 : World), Ext w1 w3 → ∃ (n' : Nat), n' < n ∧ I n' (s_1.fst, addI IntKind.i64 s.snd.fst 1, Unit.unit) w3))
                  (EnP w1 fun (w1 : World) => Post s.fst w1)))) := by kernel_rfl
theorem pofp_vc (p : Option Addr) (g i : Int) (w : World) (Post : PT × Bool × Unit → World → Prop) : (rxFnR R1 (fun _ => []) 30 [.pointer p, .int .i64 g, .int .i64 i] w Post) = (
 AlP w { toList := [Value.int IntKind.i64 0, Value.int IntKind.i64 0, Value.int IntKind.i64 0, Value.bool false, Value.bool false] } 45 fun (b : Nat) (w2 : World) =>
  ∃ (x : Option Addr),
   QCalls Try.prog 38 [Value.pointer p, Value.int IntKind.i64 g, Value.int IntKind.i64 i] w2 (Value.pointer x) ∧
    brP x.isNone
     (StP w2 (some { block := b, off := 0 }) [Value.int IntKind.i64 0, Value.int IntKind.i64 0, Value.int IntKind.i64 0, Value.bool false, Value.bool false] fun (w2 : World) =>
      EnP w2 fun (w1 : World) =>
       LdP w1 none (some { block := b, off := 0 }) (El.agg [Sc.int IntKind.i64, Sc.int IntKind.i64, Sc.int IntKind.i64, Sc.bool, Sc.bool]) fun (x : Int × Int × Int × Bool × Bool × Unit) =>
        Post ((x.fst, x.snd.fst, x.snd.snd.fst, x.snd.snd.snd.fst, x.snd.snd.snd.snd.fst, Unit.unit), false, Unit.unit) w1)
     (x.isSome = true ∧
      LdP w2 none x (El.agg [Sc.int IntKind.i64, Sc.int IntKind.i64, Sc.int IntKind.i64, Sc.bool, Sc.bool]) fun (x : Int × Int × Int × Bool × Bool × Unit) =>
       StP w2 (some { block := b, off := 0 }) [Value.int IntKind.i64 x.fst, Value.int IntKind.i64 x.snd.fst, Value.int IntKind.i64 x.snd.snd.fst, Value.bool x.snd.snd.snd.fst, Value.bool x.snd.snd.snd.snd.fst] fun (w2 : World) =>
        EnP w2 fun (w1 : World) =>
         LdP w1 none (some { block := b, off := 0 }) (El.agg [Sc.int IntKind.i64, Sc.int IntKind.i64, Sc.int IntKind.i64, Sc.bool, Sc.bool]) fun (x : Int × Int × Int × Bool × Bool × Unit) =>
          Post ((x.fst, x.snd.fst, x.snd.snd.fst, x.snd.snd.snd.fst, x.snd.snd.snd.snd.fst, Unit.unit), true, Unit.unit) w1)) := by kernel_rfl
def plinked_vc_ann : Nat → Slots := (fun | 6 => [(8, Go.RX.El.one Go.RX.Sc.bool)] | 9 => [(8, Go.RX.El.one Go.RX.Sc.bool), (9, Go.RX.El.one (Go.RX.Sc.int Go.IntKind.i64))] | 12 => [(8, Go.RX.El.one Go.RX.Sc.bool), (36, Go.RX.El.one (Go.RX.Sc.int Go.IntKind.i64))] | _ => [])
theorem plinked_vc (p : Option Addr) (a b : Int) (w : World) (Post : Bool → World → Prop) : (rxFn R1 plinked_vc_ann 28 [.pointer p, .int .i64 a, .int .i64 b] w Post) = (
 ∃ (x : Bool),
  QCalls Try.prog 40 [Value.pointer p] w (Value.bool x) ∧
   ((!!x) = true → True) ∧
    ((!(!x || !gI a)) = true → True) ∧
     brP (!x || !gI a || !gI b) (EnP w fun (w1 : World) => Post false w1)
      (AlP w
       {
        toList :=
         [Value.bool false, Value.bool false, Value.bool false, Value.bool false, Value.bool false, Value.bool false, Value.bool false, Value.bool false, Value.bool false, Value.bool false, Value.bool false, Value.bool false, Value.bool false,
          Value.bool false, Value.bool false, Value.bool false, Value.bool false] }
       75 fun (b_1 : Nat) (w2 : World) =>
       (true = true ∧ 0 ≤ a ∧ a < (↑17 : Int)) ∧
        StP w2 (addP (some { block := b_1, off := 0 }) (a.toNat * 1)) [Value.bool true] fun (w2 : World) =>
         ∃ (I : Nat → Bool × Unit → World → Prop),
          (∃ (n : Nat), ∀ (w1 : World), Ext w2 w1 → I n (true, Unit.unit) w1) ∧
           ∀ (n : Nat) (s : Bool × Unit) (w1 : World),
            I n s w1 →
             brP s.fst
              (∃ (I_1 : Nat → Bool × Int × Unit → World → Prop),
               (∃ (n : Nat), ∀ (w1_1 : World), Ext w1 w1_1 → I_1 n (false, 1, Unit.unit) w1_1) ∧
                ∀ (n_1 : Nat) (s : Bool × Int × Unit) (w1 : World),
                 I_1 n_1 s w1 →
                  brP (decide (s.snd.fst ≤ 16))
                   (p.isSome = true ∧
                    p.isSome = true ∧
                     LdP w1 none (addP p 2560) (El.one (Sc.int IntKind.i64)) fun (x : Int) =>
                      ∃ (I : Nat → Bool × Int × Unit → World → Prop),
                       (∃ (n : Nat), ∀ (w1_1 : World), Ext w1 w1_1 → I n (s.fst, 0, Unit.unit) w1_1) ∧
                        ∀ (n : Nat) (s_1 : Bool × Int × Unit) (w1 : World),
                         I n s_1 w1 →
                          brP (decide (s_1.snd.fst < x))
                           (∃ (x : Option Addr),
                            QCalls Try.prog 38 [Value.pointer p, Value.int IntKind.i64 s.snd.fst, Value.int IntKind.i64 s_1.snd.fst] w1 (Value.pointer x) ∧
                             ((!x.isNone) = true → true = true ∧ 0 ≤ s.snd.fst ∧ s.snd.fst < (↑17 : Int)) ∧
                              LdP w1 (some !x.isNone) (addP (some { block := b_1, off := 0 }) (Int.toNat s.snd.fst * 1)) (El.one Sc.bool) fun (x_1 : Bool) =>
                               ((!x.isNone) = true → x.isSome = true) ∧
                                ((!x.isNone) = true → x.isSome = true) ∧
                                 LdP w1 (some !x.isNone) (addP x 1) (El.one (Sc.int IntKind.i64)) fun (x_2 : Int) =>
                                  ((!x.isNone) = true → true = true ∧ 0 ≤ x_2 ∧ x_2 < (↑17 : Int)) ∧
                                   LdP w1 (some !x.isNone) (addP (some { block := b_1, off := 0 }) (x_2.toNat * 1)) (El.one Sc.bool) fun (x_3 : Bool) =>
                                    brP (!x.isNone && !x_1 == x_3)
                                     (x.isSome = true ∧
                                      x.isSome = true ∧
                                       LdP w1 none (addP x 1) (El.one (Sc.int IntKind.i64)) fun (x_4 : Int) =>
                                        (true = true ∧ 0 ≤ s.snd.fst ∧ s.snd.fst < (↑17 : Int)) ∧
                                         StP w1 (addP (some { block := b_1, off := 0 }) (Int.toNat s.snd.fst * 1)) [Value.bool true] fun (w2 : World) =>
                                          rdAt w2 (addP x 1) (El.one (Sc.int IntKind.i64)) x_4 ∧
                                           True ∧
                                            True ∧
                                             (true = true ∧ 0 ≤ x_4 ∧ x_4 < (↑17 : Int)) ∧
                                              StP w2 (addP (some { block := b_1, off := 0 }) (x_4.toNat * 1)) [Value.bool true] fun (w2 : World) =>
                                               ∀ (w3 : World), Ext w2 w3 → ∃ (n' : Nat), n' < n ∧ I n' (true, addI IntKind.i64 s_1.snd.fst 1, Unit.unit) w3)
                                     (∀ (w3 : World), Ext w1 w3 → ∃ (n' : Nat), n' < n ∧ I n' (s_1.fst, addI IntKind.i64 s_1.snd.fst 1, Unit.unit) w3))
                           (∀ (w3 : World), Ext w1 w3 → ∃ (n' : Nat), n' < n_1 ∧ I_1 n' (s_1.fst, addI IntKind.i64 s.snd.fst 1, Unit.unit) w3))
                   (∀ (w3 : World), Ext w1 w3 → ∃ (n' : Nat), n' < n ∧ I n' (s.fst, Unit.unit) w3))
              ((true = true ∧ 0 ≤ b ∧ b < (↑17 : Int)) ∧ LdP w1 none (addP (some { block := b_1, off := 0 }) (b.toNat * 1)) (El.one Sc.bool) fun (x : Bool) => EnP w1 fun (w1 : World) => Post x w1))) := by kernel_rfl
theorem pnewp_vc (n : Int) (w : World) (Post : Option Addr × Int × Unit → World → Prop) : (rxFn R1 (fun _ => []) 9 [.int .i64 n] w Post) = (
 brP (decide (n < 1) || decide (n > 32)) (EnP w fun (w1 : World) => Post (none, 1, Unit.unit) w1)
  (AlP w
   {
    toList :=
     [Value.int IntKind.i64 0, Value.int IntKind.i64 0, Value.int IntKind.i64 0, Value.bool false, Value.bool false, Value.int IntKind.i64 0, Value.int IntKind.i64 0, Value.int IntKind.i64 0, Value.bool false, Value.bool false,
      Value.int IntKind.i64 0, Value.int IntKind.i64 0, Value.int IntKind.i64 0, Value.bool false, Value.bool false, Value.int IntKind.i64 0, Value.int IntKind.i64 0, Value.int IntKind.i64 0, Value.bool false, Value.bool false,
      Value.int IntKind.i64 0, Value.int IntKind.i64 0, Value.int IntKind.i64 0, Value.bool false, Value.bool false, Value.int IntKind.i64 0, Value.int IntKind.i64 0, Value.int IntKind.i64 0, Value.bool false, Value.bool false,
      Value.int IntKind.i64 0, Value.int IntKind.i64 0, Value.int IntKind.i64 0, Value.bool false, Value.bool false, Value.int IntKind.i64 0, Value.int IntKind.i64 0, Value.int IntKind.i64 0, Value.bool false, Value.bool false,
      Value.int IntKind.i64 0, Value.int IntKind.i64 0, Value.int IntKind.i64 0, Value.bool false, Value.bool false, Value.int IntKind.i64 0, Value.int IntKind.i64 0, Value.int IntKind.i64 0, Value.bool false, Value.bool false,
      Value.int IntKind.i64 0, Value.int IntKind.i64 0, Value.int IntKind.i64 0, Value.bool false, Value.bool false, Value.int IntKind.i64 0, Value.int IntKind.i64 0, Value.int IntKind.i64 0, Value.bool false, Value.bool false,
      Value.int IntKind.i64 0, Value.int IntKind.i64 0, Value.int IntKind.i64 0, Value.bool false, Value.bool false, Value.int IntKind.i64 0, Value.int IntKind.i64 0, Value.int IntKind.i64 0, Value.bool false, Value.bool false,
      Value.int IntKind.i64 0, Value.int IntKind.i64 0, Value.int IntKind.i64 0, Value.bool false, Value.bool false, Value.int IntKind.i64 0, Value.int IntKind.i64 0, Value.int IntKind.i64 0, Value.bool false, Value.bool false,
      Value.int IntKind.i64 0, Value.int IntKind.i64 0, Value.int IntKind.i64 0, Value.bool false, Value.bool false, Value.int IntKind.i64 0, Value.int IntKind.i64 0, Value.int IntKind.i64 0, Value.bool false, Value.bool false,
      Value.int IntKind.i64 0, Value.int IntKind.i64 0, Value.int IntKind.i64 0, Value.bool false, Value.bool false, Value.int IntKind.i64 0, Value.int IntKind.i64 0, Value.int IntKind.i64 0, Value.bool false, Value.bool false,
      Value.int IntKind.i64 0, Value.int IntKind.i64 0, Value.int IntKind.i64 0, Value.bool false, Value.bool false, Value.int IntKind.i64 0, Value.int IntKind.i64 0, Value.int IntKind.i64 0, Value.bool false, Value.bool false,
      Value.int IntKind.i64 0, Value.int IntKind.i64 0, Value.int IntKind.i64 0, Value.bool false, Value.bool false, Value.int IntKind.i64 0, Value.int IntKind.i64 0, Value.int IntKind.i64 0, Value.bool false, Value.bool false,
      Value.int IntKind.i64 0, Value.int IntKind.i64 0, Value.int IntKind.i64 0, Value.bool false, Value.bool false, Value.int IntKind.i64 0, Value.int IntKind.i64 0, Value.int IntKind.i64 0, Value.bool false, Value.bool false,
      Value.int IntKind.i64 0, Value.int IntKind.i64 0, Value.int IntKind.i64 0, Value.bool false, Value.bool false, Value.int IntKind.i64 0, Value.int IntKind.i64 0, Value.int IntKind.i64 0, Value.bool false, Value.bool false,
      Value.int IntKind.i64 0, Value.int IntKind.i64 0, Value.int IntKind.i64 0, Value.bool false, Value.bool false, Value.int IntKind.i64 0, Value.int IntKind.i64 0, Value.int IntKind.i64 0, Value.bool false, Value.bool false,
      Value.int IntKind.i64 0, Value.int IntKind.i64 0, Value.int IntKind.i64 0, Value.bool false, Value.bool false, Value.int IntKind.i64 0, Value.int IntKind.i64 0, Value.int IntKind.i64 0, Value.bool false, Value.bool false,
      Value.int IntKind.i64 0, Value.int IntKind.i64 0, Value.int IntKind.i64 0, Value.bool false, Value.bool false, Value.int IntKind.i64 0, Value.int IntKind.i64 0, Value.int IntKind.i64 0, Value.bool false, Value.bool false,
      Value.int IntKind.i64 0, Value.int IntKind.i64 0, Value.int IntKind.i64 0, Value.bool false, Value.bool false, Value.int IntKind.i64 0, Value.int IntKind.i64 0, Value.int IntKind.i64 0, Value.bool false, Value.bool false,
      Value.int IntKind.i64 0, Value.int IntKind.i64 0, Value.int IntKind.i64 0, Value.bool false, Value.bool false, Value.int IntKind.i64 0, Value.int IntKind.i64 0, Value.int IntKind.i64 0, Value.bool false, Value.bool false,
      Value.int IntKind.i64 0, Value.int IntKind.i64 0, Value.int IntKind.i64 0, Value.bool false, Value.bool false, Value.int IntKind.i64 0, Value.int IntKind.i64 0, Value.int IntKind.i64 0, Value.bool false, Value.bool false,
      Value.int IntKind.i64 0, Value.int IntKind.i64 0, Value.int IntKind.i64 0, Value.bool false, Value.bool false, Value.int IntKind.i64 0, Value.int IntKind.i64 0, Value.int IntKind.i64 0, Value.bool false, Value.bool false,
      Value.int IntKind.i64 0, Value.int IntKind.i64 0, Value.int IntKind.i64 0, Value.bool false, Value.bool false, Value.int IntKind.i64 0, Value.int IntKind.i64 0, Value.int IntKind.i64 0, Value.bool false, Value.bool false,
      Value.int IntKind.i64 0, Value.int IntKind.i64 0, Value.int IntKind.i64 0, Value.bool false, Value.bool false, Value.int IntKind.i64 0, Value.int IntKind.i64 0, Value.int IntKind.i64 0, Value.bool false, Value.bool false,
      Value.int IntKind.i64 0, Value.int IntKind.i64 0, Value.int IntKind.i64 0, Value.bool false, Value.bool false, Value.int IntKind.i64 0, Value.int IntKind.i64 0, Value.int IntKind.i64 0, Value.bool false, Value.bool false,
      Value.int IntKind.i64 0, Value.int IntKind.i64 0, Value.int IntKind.i64 0, Value.bool false, Value.bool false, Value.int IntKind.i64 0, Value.int IntKind.i64 0, Value.int IntKind.i64 0, Value.bool false, Value.bool false,
      Value.int IntKind.i64 0, Value.int IntKind.i64 0, Value.int IntKind.i64 0, Value.bool false, Value.bool false, Value.int IntKind.i64 0, Value.int IntKind.i64 0, Value.int IntKind.i64 0, Value.bool false, Value.bool false,
      Value.int IntKind.i64 0, Value.int IntKind.i64 0, Value.int IntKind.i64 0, Value.bool false, Value.bool false, Value.int IntKind.i64 0, Value.int IntKind.i64 0, Value.int IntKind.i64 0, Value.bool false, Value.bool false,
      Value.int IntKind.i64 0, Value.int IntKind.i64 0, Value.int IntKind.i64 0, Value.bool false, Value.bool false, Value.int IntKind.i64 0, Value.int IntKind.i64 0, Value.int IntKind.i64 0, Value.bool false, Value.bool false,
      Value.int IntKind.i64 0, Value.int IntKind.i64 0, Value.int IntKind.i64 0, Value.bool false, Value.bool false, Value.int IntKind.i64 0, Value.int IntKind.i64 0, Value.int IntKind.i64 0, Value.bool false, Value.bool false,
      Value.int IntKind.i64 0, Value.int IntKind.i64 0, Value.int IntKind.i64 0, Value.bool false, Value.bool false, Value.int IntKind.i64 0, Value.int IntKind.i64 0, Value.int IntKind.i64 0, Value.bool false, Value.bool false,
      Value.int IntKind.i64 0, Value.int IntKind.i64 0, Value.int IntKind.i64 0, Value.bool false, Value.bool false, Value.int IntKind.i64 0, Value.int IntKind.i64 0, Value.int IntKind.i64 0, Value.bool false, Value.bool false,
      Value.int IntKind.i64 0, Value.int IntKind.i64 0, Value.int IntKind.i64 0, Value.bool false, Value.bool false, Value.int IntKind.i64 0, Value.int IntKind.i64 0, Value.int IntKind.i64 0, Value.bool false, Value.bool false,
      Value.int IntKind.i64 0, Value.int IntKind.i64 0, Value.int IntKind.i64 0, Value.bool false, Value.bool false, Value.int IntKind.i64 0, Value.int IntKind.i64 0, Value.int IntKind.i64 0, Value.bool false, Value.bool false,
      Value.int IntKind.i64 0, Value.int IntKind.i64 0, Value.int IntKind.i64 0, Value.bool false, Value.bool false, Value.int IntKind.i64 0, Value.int IntKind.i64 0, Value.int IntKind.i64 0, Value.bool false, Value.bool false,
      Value.int IntKind.i64 0, Value.int IntKind.i64 0, Value.int IntKind.i64 0, Value.bool false, Value.bool false, Value.int IntKind.i64 0, Value.int IntKind.i64 0, Value.int IntKind.i64 0, Value.bool false, Value.bool false,
      Value.int IntKind.i64 0, Value.int IntKind.i64 0, Value.int IntKind.i64 0, Value.bool false, Value.bool false, Value.int IntKind.i64 0, Value.int IntKind.i64 0, Value.int IntKind.i64 0, Value.bool false, Value.bool false,
      Value.int IntKind.i64 0, Value.int IntKind.i64 0, Value.int IntKind.i64 0, Value.bool false, Value.bool false, Value.int IntKind.i64 0, Value.int IntKind.i64 0, Value.int IntKind.i64 0, Value.bool false, Value.bool false,
      Value.int IntKind.i64 0, Value.int IntKind.i64 0, Value.int IntKind.i64 0, Value.bool false, Value.bool false, Value.int IntKind.i64 0, Value.int IntKind.i64 0, Value.int IntKind.i64 0, Value.bool false, Value.bool false,
      Value.int IntKind.i64 0, Value.int IntKind.i64 0, Value.int IntKind.i64 0, Value.bool false, Value.bool false, Value.int IntKind.i64 0, Value.int IntKind.i64 0, Value.int IntKind.i64 0, Value.bool false, Value.bool false,
      Value.int IntKind.i64 0, Value.int IntKind.i64 0, Value.int IntKind.i64 0, Value.bool false, Value.bool false, Value.int IntKind.i64 0, Value.int IntKind.i64 0, Value.int IntKind.i64 0, Value.bool false, Value.bool false,
      Value.int IntKind.i64 0, Value.int IntKind.i64 0, Value.int IntKind.i64 0, Value.bool false, Value.bool false, Value.int IntKind.i64 0, Value.int IntKind.i64 0, Value.int IntKind.i64 0, Value.bool false, Value.bool false,
      Value.int IntKind.i64 0, Value.int IntKind.i64 0, Value.int IntKind.i64 0, Value.bool false, Value.bool false, Value.int IntKind.i64 0, Value.int IntKind.i64 0, Value.int IntKind.i64 0, Value.bool false, Value.bool false,
      Value.int IntKind.i64 0, Value.int IntKind.i64 0, Value.int IntKind.i64 0, Value.bool false, Value.bool false, Value.int IntKind.i64 0, Value.int IntKind.i64 0, Value.int IntKind.i64 0, Value.bool false, Value.bool false,
      Value.int IntKind.i64 0, Value.int IntKind.i64 0, Value.int IntKind.i64 0, Value.bool false, Value.bool false, Value.int IntKind.i64 0, Value.int IntKind.i64 0, Value.int IntKind.i64 0, Value.bool false, Value.bool false,
      Value.int IntKind.i64 0, Value.int IntKind.i64 0, Value.int IntKind.i64 0, Value.bool false, Value.bool false, Value.int IntKind.i64 0, Value.int IntKind.i64 0, Value.int IntKind.i64 0, Value.bool false, Value.bool false,
      Value.int IntKind.i64 0, Value.int IntKind.i64 0, Value.int IntKind.i64 0, Value.bool false, Value.bool false, Value.int IntKind.i64 0, Value.int IntKind.i64 0, Value.int IntKind.i64 0, Value.bool false, Value.bool false,
      Value.int IntKind.i64 0, Value.int IntKind.i64 0, Value.int IntKind.i64 0, Value.bool false, Value.bool false, Value.int IntKind.i64 0, Value.int IntKind.i64 0, Value.int IntKind.i64 0, Value.bool false, Value.bool false,
      Value.int IntKind.i64 0, Value.int IntKind.i64 0, Value.int IntKind.i64 0, Value.bool false, Value.bool false, Value.int IntKind.i64 0, Value.int IntKind.i64 0, Value.int IntKind.i64 0, Value.bool false, Value.bool false,
      Value.int IntKind.i64 0, Value.int IntKind.i64 0, Value.int IntKind.i64 0, Value.bool false, Value.bool false, Value.int IntKind.i64 0, Value.int IntKind.i64 0, Value.int IntKind.i64 0, Value.bool false, Value.bool false,
      Value.int IntKind.i64 0, Value.int IntKind.i64 0, Value.int IntKind.i64 0, Value.bool false, Value.bool false, Value.int IntKind.i64 0, Value.int IntKind.i64 0, Value.int IntKind.i64 0, Value.bool false, Value.bool false,
      Value.int IntKind.i64 0, Value.int IntKind.i64 0, Value.int IntKind.i64 0, Value.bool false, Value.bool false, Value.int IntKind.i64 0, Value.int IntKind.i64 0, Value.int IntKind.i64 0, Value.bool false, Value.bool false,
      Value.int IntKind.i64 0, Value.int IntKind.i64 0, Value.int IntKind.i64 0, Value.bool false, Value.bool false, Value.int IntKind.i64 0, Value.int IntKind.i64 0, Value.int IntKind.i64 0, Value.bool false, Value.bool false,
      Value.int IntKind.i64 0, Value.int IntKind.i64 0, Value.int IntKind.i64 0, Value.bool false, Value.bool false, Value.int IntKind.i64 0, Value.int IntKind.i64 0, Value.int IntKind.i64 0, Value.bool false, Value.bool false,
      Value.int IntKind.i64 0, Value.int IntKind.i64 0, Value.int IntKind.i64 0, Value.bool false, Value.bool false, Value.int IntKind.i64 0, Value.int IntKind.i64 0, Value.int IntKind.i64 0, Value.bool false, Value.bool false,
      Value.int IntKind.i64 0, Value.int IntKind.i64 0, Value.int IntKind.i64 0, Value.bool false, Value.bool false, Value.int IntKind.i64 0, Value.int IntKind.i64 0, Value.int IntKind.i64 0, Value.bool false, Value.bool false,
      Value.int IntKind.i64 0, Value.int IntKind.i64 0, Value.int IntKind.i64 0, Value.bool false, Value.bool false, Value.int IntKind.i64 0, Value.int IntKind.i64 0, Value.int IntKind.i64 0, Value.bool false, Value.bool false,
      Value.int IntKind.i64 0, Value.int IntKind.i64 0, Value.int IntKind.i64 0, Value.bool false, Value.bool false, Value.int IntKind.i64 0, Value.int IntKind.i64 0, Value.int IntKind.i64 0, Value.bool false, Value.bool false,
      Value.int IntKind.i64 0, Value.int IntKind.i64 0, Value.int IntKind.i64 0, Value.bool false, Value.bool false, Value.int IntKind.i64 0, Value.int IntKind.i64 0, Value.int IntKind.i64 0, Value.bool false, Value.bool false,
      Value.int IntKind.i64 0, Value.int IntKind.i64 0, Value.int IntKind.i64 0, Value.bool false, Value.bool false, Value.int IntKind.i64 0, Value.int IntKind.i64 0, Value.int IntKind.i64 0, Value.bool false, Value.bool false,
      Value.int IntKind.i64 0, Value.int IntKind.i64 0, Value.int IntKind.i64 0, Value.bool false, Value.bool false, Value.int IntKind.i64 0, Value.int IntKind.i64 0, Value.int IntKind.i64 0, Value.bool false, Value.bool false,
      Value.int IntKind.i64 0, Value.int IntKind.i64 0, Value.int IntKind.i64 0, Value.bool false, Value.bool false, Value.int IntKind.i64 0, Value.int IntKind.i64 0, Value.int IntKind.i64 0, Value.bool false, Value.bool false,
      Value.int IntKind.i64 0, Value.int IntKind.i64 0, Value.int IntKind.i64 0, Value.bool false, Value.bool false, Value.int IntKind.i64 0, Value.int IntKind.i64 0, Value.int IntKind.i64 0, Value.bool false, Value.bool false,
      Value.int IntKind.i64 0, Value.int IntKind.i64 0, Value.int IntKind.i64 0, Value.bool false, Value.bool false, Value.int IntKind.i64 0, Value.int IntKind.i64 0, Value.int IntKind.i64 0, Value.bool false, Value.bool false,
      Value.int IntKind.i64 0, Value.int IntKind.i64 0, Value.int IntKind.i64 0, Value.bool false, Value.bool false, Value.int IntKind.i64 0, Value.int IntKind.i64 0, Value.int IntKind.i64 0, Value.bool false, Value.bool false,
      Value.int IntKind.i64 0, Value.int IntKind.i64 0, Value.int IntKind.i64 0, Value.bool false, Value.bool false, Value.int IntKind.i64 0, Value.int IntKind.i64 0, Value.int IntKind.i64 0, Value.bool false, Value.bool false,
      Value.int IntKind.i64 0, Value.int IntKind.i64 0, Value.int IntKind.i64 0, Value.bool false, Value.bool false, Value.int IntKind.i64 0, Value.int IntKind.i64 0, Value.int IntKind.i64 0, Value.bool false, Value.bool false,
      Value.int IntKind.i64 0, Value.int IntKind.i64 0, Value.int IntKind.i64 0, Value.bool false, Value.bool false, Value.int IntKind.i64 0, Value.int IntKind.i64 0, Value.int IntKind.i64 0, Value.bool false, Value.bool false,
      Value.int IntKind.i64 0, Value.int IntKind.i64 0, Value.int IntKind.i64 0, Value.bool false, Value.bool false, Value.int IntKind.i64 0, Value.int IntKind.i64 0, Value.int IntKind.i64 0, Value.bool false, Value.bool false,
      Value.int IntKind.i64 0, Value.int IntKind.i64 0, Value.int IntKind.i64 0, Value.bool false, Value.bool false, Value.int IntKind.i64 0, Value.int IntKind.i64 0, Value.int IntKind.i64 0, Value.bool false, Value.bool false,
      Value.int IntKind.i64 0, Value.int IntKind.i64 0, Value.int IntKind.i64 0, Value.bool false, Value.bool false, Value.int IntKind.i64 0, Value.int IntKind.i64 0, Value.int IntKind.i64 0, Value.bool false, Value.bool false,
      Value.int IntKind.i64 0, Value.int IntKind.i64 0, Value.int IntKind.i64 0, Value.bool false, Value.bool false, Value.int IntKind.i64 0, Value.int IntKind.i64 0, Value.int IntKind.i64 0, Value.bool false, Value.bool false,
      Value.int IntKind.i64 0, Value.int IntKind.i64 0, Value.int IntKind.i64 0, Value.bool false, Value.bool false, Value.int IntKind.i64 0, Value.int IntKind.i64 0, Value.int IntKind.i64 0, Value.bool false, Value.bool false,
      Value.int IntKind.i64 0, Value.int IntKind.i64 0, Value.int IntKind.i64 0, Value.bool false, Value.bool false, Value.int IntKind.i64 0, Value.int IntKind.i64 0, Value.int IntKind.i64 0, Value.bool false, Value.bool false,
      Value.int IntKind.i64 0, Value.int IntKind.i64 0, Value.int IntKind.i64 0, Value.bool false, Value.bool false, Value.int IntKind.i64 0, Value.int IntKind.i64 0, Value.int IntKind.i64 0, Value.bool false, Value.bool false,
      Value.int IntKind.i64 0, Value.int IntKind.i64 0, Value.int IntKind.i64 0, Value.bool false, Value.bool false, Value.int IntKind.i64 0, Value.int IntKind.i64 0, Value.int IntKind.i64 0, Value.bool false, Value.bool false,
      Value.int IntKind.i64 0, Value.int IntKind.i64 0, Value.int IntKind.i64 0, Value.bool false, Value.bool false, Value.int IntKind.i64 0, Value.int IntKind.i64 0, Value.int IntKind.i64 0, Value.bool false, Value.bool false,
      Value.int IntKind.i64 0, Value.int IntKind.i64 0, Value.int IntKind.i64 0, Value.bool false, Value.bool false, Value.int IntKind.i64 0, Value.int IntKind.i64 0, Value.int IntKind.i64 0, Value.bool false, Value.bool false,
      Value.int IntKind.i64 0, Value.int IntKind.i64 0, Value.int IntKind.i64 0, Value.bool false, Value.bool false, Value.int IntKind.i64 0, Value.int IntKind.i64 0, Value.int IntKind.i64 0, Value.bool false, Value.bool false,
      Value.int IntKind.i64 0, Value.int IntKind.i64 0, Value.int IntKind.i64 0, Value.bool false, Value.bool false, Value.int IntKind.i64 0, Value.int IntKind.i64 0, Value.int IntKind.i64 0, Value.bool false, Value.bool false,
      Value.int IntKind.i64 0, Value.int IntKind.i64 0, Value.int IntKind.i64 0, Value.bool false, Value.bool false, Value.int IntKind.i64 0, Value.int IntKind.i64 0, Value.int IntKind.i64 0, Value.bool false, Value.bool false,
      Value.int IntKind.i64 0, Value.int IntKind.i64 0, Value.int IntKind.i64 0, Value.bool false, Value.bool false, Value.int IntKind.i64 0, Value.int IntKind.i64 0, Value.int IntKind.i64 0, Value.bool false, Value.bool false,
      Value.int IntKind.i64 0, Value.int IntKind.i64 0, Value.int IntKind.i64 0, Value.bool false, Value.bool false, Value.int IntKind.i64 0, Value.int IntKind.i64 0, Value.int IntKind.i64 0, Value.bool false, Value.bool false,
      Value.int IntKind.i64 0, Value.int IntKind.i64 0, Value.int IntKind.i64 0, Value.bool false, Value.bool false, Value.int IntKind.i64 0, Value.int IntKind.i64 0, Value.int IntKind.i64 0, Value.bool false, Value.bool false,
      Value.int IntKind.i64 0, Value.int IntKind.i64 0, Value.int IntKind.i64 0, Value.bool false, Value.bool false, Value.int IntKind.i64 0, Value.int IntKind.i64 0, Value.int IntKind.i64 0, Value.bool false, Value.bool false,
      Value.int IntKind.i64 0, Value.int IntKind.i64 0, Value.int IntKind.i64 0, Value.bool false, Value.bool false, Value.int IntKind.i64 0, Value.int IntKind.i64 0, Value.int IntKind.i64 0, Value.bool false, Value.bool false,
      Value.int IntKind.i64 0, Value.int IntKind.i64 0, Value.int IntKind.i64 0, Value.bool false, Value.bool false, Value.int IntKind.i64 0, Value.int IntKind.i64 0, Value.int IntKind.i64 0, Value.bool false, Value.bool false,
      Value.int IntKind.i64 0, Value.int IntKind.i64 0, Value.int IntKind.i64 0, Value.bool false, Value.bool false, Value.int IntKind.i64 0, Value.int IntKind.i64 0, Value.int IntKind.i64 0, Value.bool false, Value.bool false,
      Value.int IntKind.i64 0, Value.int IntKind.i64 0, Value.int IntKind.i64 0, Value.bool false, Value.bool false, Value.int IntKind.i64 0, Value.int IntKind.i64 0, Value.int IntKind.i64 0, Value.bool false, Value.bool false,
      Value.int IntKind.i64 0, Value.int IntKind.i64 0, Value.int IntKind.i64 0, Value.bool false, Value.bool false, Value.int IntKind.i64 0, Value.int IntKind.i64 0, Value.int IntKind.i64 0, Value.bool false, Value.bool false,
      Value.int IntKind.i64 0, Value.int IntKind.i64 0, Value.int IntKind.i64 0, Value.bool false, Value.bool false, Value.int IntKind.i64 0, Value.int IntKind.i64 0, Value.int IntKind.i64 0, Value.bool false, Value.bool false,
      Value.int IntKind.i64 0, Value.int IntKind.i64 0, Value.int IntKind.i64 0, Value.bool false, Value.bool false, Value.int IntKind.i64 0, Value.int IntKind.i64 0, Value.int IntKind.i64 0, Value.bool false, Value.bool false,
      Value.int IntKind.i64 0, Value.int IntKind.i64 0, Value.int IntKind.i64 0, Value.bool false, Value.bool false, Value.int IntKind.i64 0, Value.int IntKind.i64 0, Value.int IntKind.i64 0, Value.bool false, Value.bool false,
      Value.int IntKind.i64 0, Value.int IntKind.i64 0, Value.int IntKind.i64 0, Value.bool false, Value.bool false, Value.int IntKind.i64 0, Value.int IntKind.i64 0, Value.int IntKind.i64 0, Value.bool false, Value.bool false,
      Value.int IntKind.i64 0, Value.int IntKind.i64 0, Value.int IntKind.i64 0, Value.bool false, Value.bool false, Value.int IntKind.i64 0, Value.int IntKind.i64 0, Value.int IntKind.i64 0, Value.bool false, Value.bool false,
      Value.int IntKind.i64 0, Value.int IntKind.i64 0, Value.int IntKind.i64 0, Value.bool false, Value.bool false, Value.int IntKind.i64 0, Value.int IntKind.i64 0, Value.int IntKind.i64 0, Value.bool false, Value.bool false,
      Value.int IntKind.i64 0, Value.int IntKind.i64 0, Value.int IntKind.i64 0, Value.bool false, Value.bool false, Value.int IntKind.i64 0, Value.int IntKind.i64 0, Value.int IntKind.i64 0, Value.bool false, Value.bool false,
      Value.int IntKind.i64 0, Value.int IntKind.i64 0, Value.int IntKind.i64 0, Value.bool false, Value.bool false, Value.int IntKind.i64 0, Value.int IntKind.i64 0, Value.int IntKind.i64 0, Value.bool false, Value.bool false,
      Value.int IntKind.i64 0, Value.int IntKind.i64 0, Value.int IntKind.i64 0, Value.bool false, Value.bool false, Value.int IntKind.i64 0, Value.int IntKind.i64 0, Value.int IntKind.i64 0, Value.bool false, Value.bool false,
      Value.int IntKind.i64 0, Value.int IntKind.i64 0, Value.int IntKind.i64 0, Value.bool false, Value.bool false, Value.int IntKind.i64 0, Value.int IntKind.i64 0, Value.int IntKind.i64 0, Value.bool false, Value.bool false,
      Value.int IntKind.i64 0, Value.int IntKind.i64 0, Value.int IntKind.i64 0, Value.bool false, Value.bool false, Value.int IntKind.i64 0, Value.int IntKind.i64 0, Value.int IntKind.i64 0, Value.bool false, Value.bool false,
      Value.int IntKind.i64 0, Value.int IntKind.i64 0, Value.int IntKind.i64 0, Value.bool false, Value.bool false, Value.int IntKind.i64 0, Value.int IntKind.i64 0, Value.int IntKind.i64 0, Value.bool false, Value.bool false,
      Value.int IntKind.i64 0, Value.int IntKind.i64 0, Value.int IntKind.i64 0, Value.bool false, Value.bool false, Value.int IntKind.i64 0, Value.int IntKind.i64 0, Value.int IntKind.i64 0, Value.bool false, Value.bool false,
      Value.int IntKind.i64 0, Value.int IntKind.i64 0, Value.int IntKind.i64 0, Value.bool false, Value.bool false, Value.int IntKind.i64 0, Value.int IntKind.i64 0, Value.int IntKind.i64 0, Value.bool false, Value.bool false,
      Value.int IntKind.i64 0, Value.int IntKind.i64 0, Value.int IntKind.i64 0, Value.bool false, Value.bool false, Value.int IntKind.i64 0, Value.int IntKind.i64 0, Value.int IntKind.i64 0, Value.bool false, Value.bool false,
      Value.int IntKind.i64 0, Value.int IntKind.i64 0, Value.int IntKind.i64 0, Value.bool false, Value.bool false, Value.int IntKind.i64 0, Value.int IntKind.i64 0, Value.int IntKind.i64 0, Value.bool false, Value.bool false,
      Value.int IntKind.i64 0, Value.int IntKind.i64 0, Value.int IntKind.i64 0, Value.bool false, Value.bool false, Value.int IntKind.i64 0, Value.int IntKind.i64 0, Value.int IntKind.i64 0, Value.bool false, Value.bool false,
      Value.int IntKind.i64 0, Value.int IntKind.i64 0, Value.int IntKind.i64 0, Value.bool false, Value.bool false, Value.int IntKind.i64 0, Value.int IntKind.i64 0, Value.int IntKind.i64 0, Value.bool false, Value.bool false,
      Value.int IntKind.i64 0, Value.int IntKind.i64 0, Value.int IntKind.i64 0, Value.bool false, Value.bool false, Value.int IntKind.i64 0, Value.int IntKind.i64 0, Value.int IntKind.i64 0, Value.bool false, Value.bool false,
      Value.int IntKind.i64 0, Value.int IntKind.i64 0, Value.int IntKind.i64 0, Value.bool false, Value.bool false, Value.int IntKind.i64 0, Value.int IntKind.i64 0, Value.int IntKind.i64 0, Value.bool false, Value.bool false,
      Value.int IntKind.i64 0, Value.int IntKind.i64 0, Value.int IntKind.i64 0, Value.bool false, Value.bool false, Value.int IntKind.i64 0, Value.int IntKind.i64 0, Value.int IntKind.i64 0, Value.bool false, Value.bool false,
      Value.int IntKind.i64 0, Value.int IntKind.i64 0, Value.int IntKind.i64 0, Value.bool false, Value.bool false, Value.int IntKind.i64 0, Value.int IntKind.i64 0, Value.int IntKind.i64 0, Value.bool false, Value.bool false,
      Value.int IntKind.i64 0, Value.int IntKind.i64 0, Value.int IntKind.i64 0, Value.bool false, Value.bool false, Value.int IntKind.i64 0, Value.int IntKind.i64 0, Value.int IntKind.i64 0, Value.bool false, Value.bool false,
      Value.int IntKind.i64 0, Value.int IntKind.i64 0, Value.int IntKind.i64 0, Value.bool false, Value.bool false, Value.int IntKind.i64 0, Value.int IntKind.i64 0, Value.int IntKind.i64 0, Value.bool false, Value.bool false,
      Value.int IntKind.i64 0, Value.int IntKind.i64 0, Value.int IntKind.i64 0, Value.bool false, Value.bool false, Value.int IntKind.i64 0, Value.int IntKind.i64 0, Value.int IntKind.i64 0, Value.bool false, Value.bool false,
      Value.int IntKind.i64 0, Value.int IntKind.i64 0, Value.int IntKind.i64 0, Value.bool false, Value.bool false, Value.int IntKind.i64 0, Value.int IntKind.i64 0, Value.int IntKind.i64 0, Value.bool false, Value.bool false,
      Value.int IntKind.i64 0, Value.int IntKind.i64 0, Value.int IntKind.i64 0, Value.bool false, Value.bool false, Value.int IntKind.i64 0, Value.int IntKind.i64 0, Value.int IntKind.i64 0, Value.bool false, Value.bool false,
      Value.int IntKind.i64 0, Value.int IntKind.i64 0, Value.int IntKind.i64 0, Value.bool false, Value.bool false, Value.int IntKind.i64 0, Value.int IntKind.i64 0, Value.int IntKind.i64 0, Value.bool false, Value.bool false,
      Value.int IntKind.i64 0, Value.int IntKind.i64 0, Value.int IntKind.i64 0, Value.bool false, Value.bool false, Value.int IntKind.i64 0, Value.int IntKind.i64 0, Value.int IntKind.i64 0, Value.bool false, Value.bool false,
      Value.int IntKind.i64 0, Value.int IntKind.i64 0, Value.int IntKind.i64 0, Value.bool false, Value.bool false, Value.int IntKind.i64 0, Value.int IntKind.i64 0, Value.int IntKind.i64 0, Value.bool false, Value.bool false,
      Value.int IntKind.i64 0, Value.int IntKind.i64 0, Value.int IntKind.i64 0, Value.bool false, Value.bool false, Value.int IntKind.i64 0, Value.int IntKind.i64 0, Value.int IntKind.i64 0, Value.bool false, Value.bool false,
      Value.int IntKind.i64 0, Value.int IntKind.i64 0, Value.int IntKind.i64 0, Value.bool false, Value.bool false, Value.int IntKind.i64 0, Value.int IntKind.i64 0, Value.int IntKind.i64 0, Value.bool false, Value.bool false,
      Value.int IntKind.i64 0, Value.int IntKind.i64 0, Value.int IntKind.i64 0, Value.bool false, Value.bool false, Value.int IntKind.i64 0, Value.int IntKind.i64 0, Value.int IntKind.i64 0, Value.bool false, Value.bool false,
      Value.int IntKind.i64 0, Value.int IntKind.i64 0, Value.int IntKind.i64 0, Value.bool false, Value.bool false, Value.int IntKind.i64 0, Value.int IntKind.i64 0, Value.int IntKind.i64 0, Value.bool false, Value.bool false,
      Value.int IntKind.i64 0, Value.int IntKind.i64 0, Value.int IntKind.i64 0, Value.bool false, Value.bool false, Value.int IntKind.i64 0, Value.int IntKind.i64 0, Value.int IntKind.i64 0, Value.bool false, Value.bool false,
      Value.int IntKind.i64 0, Value.int IntKind.i64 0, Value.int IntKind.i64 0, Value.bool false, Value.bool false, Value.int IntKind.i64 0, Value.int IntKind.i64 0, Value.int IntKind.i64 0, Value.bool false, Value.bool false,
      Value.int IntKind.i64 0, Value.int IntKind.i64 0, Value.int IntKind.i64 0, Value.bool false, Value.bool false, Value.int IntKind.i64 0, Value.int IntKind.i64 0, Value.int IntKind.i64 0, Value.bool false, Value.bool false,
      Value.int IntKind.i64 0, Value.int IntKind.i64 0, Value.int IntKind.i64 0, Value.bool false, Value.bool false, Value.int IntKind.i64 0, Value.int IntKind.i64 0, Value.int IntKind.i64 0, Value.bool false, Value.bool false,
      Value.int IntKind.i64 0, Value.int IntKind.i64 0, Value.int IntKind.i64 0, Value.bool false, Value.bool false, Value.int IntKind.i64 0, Value.int IntKind.i64 0, Value.int IntKind.i64 0, Value.bool false, Value.bool false,
      Value.int IntKind.i64 0, Value.int IntKind.i64 0, Value.int IntKind.i64 0, Value.bool false, Value.bool false, Value.int IntKind.i64 0, Value.int IntKind.i64 0, Value.int IntKind.i64 0, Value.bool false, Value.bool false,
      Value.int IntKind.i64 0, Value.int IntKind.i64 0, Value.int IntKind.i64 0, Value.bool false, Value.bool false, Value.int IntKind.i64 0, Value.int IntKind.i64 0, Value.int IntKind.i64 0, Value.bool false, Value.bool false,
      Value.int IntKind.i64 0, Value.int IntKind.i64 0, Value.int IntKind.i64 0, Value.bool false, Value.bool false, Value.int IntKind.i64 0, Value.int IntKind.i64 0, Value.int IntKind.i64 0, Value.bool false, Value.bool false,
      Value.int IntKind.i64 0, Value.int IntKind.i64 0, Value.int IntKind.i64 0, Value.bool false, Value.bool false, Value.int IntKind.i64 0, Value.int IntKind.i64 0, Value.int IntKind.i64 0, Value.bool false, Value.bool false,
      Value.int IntKind.i64 0, Value.int IntKind.i64 0, Value.int IntKind.i64 0, Value.bool false, Value.bool false, Value.int IntKind.i64 0, Value.int IntKind.i64 0, Value.int IntKind.i64 0, Value.bool false, Value.bool false,
      Value.int IntKind.i64 0, Value.int IntKind.i64 0, Value.int IntKind.i64 0, Value.bool false, Value.bool false, Value.int IntKind.i64 0, Value.int IntKind.i64 0, Value.int IntKind.i64 0, Value.bool false, Value.bool false,
      Value.int IntKind.i64 0, Value.int IntKind.i64 0, Value.int IntKind.i64 0, Value.bool false, Value.bool false, Value.int IntKind.i64 0, Value.int IntKind.i64 0, Value.int IntKind.i64 0, Value.bool false, Value.bool false,
      Value.int IntKind.i64 0, Value.int IntKind.i64 0, Value.int IntKind.i64 0, Value.bool false, Value.bool false, Value.int IntKind.i64 0, Value.int IntKind.i64 0, Value.int IntKind.i64 0, Value.bool false, Value.bool false,
      Value.int IntKind.i64 0, Value.int IntKind.i64 0, Value.int IntKind.i64 0, Value.bool false, Value.bool false, Value.int IntKind.i64 0, Value.int IntKind.i64 0, Value.int IntKind.i64 0, Value.bool false, Value.bool false,
      Value.int IntKind.i64 0, Value.int IntKind.i64 0, Value.int IntKind.i64 0, Value.bool false, Value.bool false, Value.int IntKind.i64 0, Value.int IntKind.i64 0, Value.int IntKind.i64 0, Value.bool false, Value.bool false,
      Value.int IntKind.i64 0, Value.int IntKind.i64 0, Value.int IntKind.i64 0, Value.bool false, Value.bool false, Value.int IntKind.i64 0, Value.int IntKind.i64 0, Value.int IntKind.i64 0, Value.bool false, Value.bool false,
      Value.int IntKind.i64 0, Value.int IntKind.i64 0, Value.int IntKind.i64 0, Value.bool false, Value.bool false, Value.int IntKind.i64 0, Value.int IntKind.i64 0, Value.int IntKind.i64 0, Value.bool false, Value.bool false,
      Value.int IntKind.i64 0, Value.int IntKind.i64 0, Value.int IntKind.i64 0, Value.bool false, Value.bool false, Value.int IntKind.i64 0, Value.int IntKind.i64 0, Value.int IntKind.i64 0, Value.bool false, Value.bool false,
      Value.int IntKind.i64 0, Value.int IntKind.i64 0, Value.int IntKind.i64 0, Value.bool false, Value.bool false, Value.int IntKind.i64 0, Value.int IntKind.i64 0, Value.int IntKind.i64 0, Value.bool false, Value.bool false,
      Value.int IntKind.i64 0, Value.int IntKind.i64 0, Value.int IntKind.i64 0, Value.bool false, Value.bool false, Value.int IntKind.i64 0, Value.int IntKind.i64 0, Value.int IntKind.i64 0, Value.bool false, Value.bool false,
      Value.int IntKind.i64 0, Value.int IntKind.i64 0, Value.int IntKind.i64 0, Value.bool false, Value.bool false, Value.int IntKind.i64 0, Value.int IntKind.i64 0, Value.int IntKind.i64 0, Value.bool false, Value.bool false,
      Value.int IntKind.i64 0, Value.int IntKind.i64 0, Value.int IntKind.i64 0, Value.bool false, Value.bool false, Value.int IntKind.i64 0, Value.int IntKind.i64 0, Value.int IntKind.i64 0, Value.bool false, Value.bool false,
      Value.int IntKind.i64 0, Value.int IntKind.i64 0, Value.int IntKind.i64 0, Value.bool false, Value.bool false, Value.int IntKind.i64 0, Value.int IntKind.i64 0, Value.int IntKind.i64 0, Value.bool false, Value.bool false,
      Value.int IntKind.i64 0, Value.int IntKind.i64 0, Value.int IntKind.i64 0, Value.bool false, Value.bool false, Value.int IntKind.i64 0, Value.int IntKind.i64 0, Value.int IntKind.i64 0, Value.bool false, Value.bool false,
      Value.int IntKind.i64 0, Value.int IntKind.i64 0, Value.int IntKind.i64 0, Value.bool false, Value.bool false, Value.int IntKind.i64 0, Value.int IntKind.i64 0, Value.int IntKind.i64 0, Value.bool false, Value.bool false,
      Value.int IntKind.i64 0, Value.int IntKind.i64 0, Value.int IntKind.i64 0, Value.bool false, Value.bool false, Value.int IntKind.i64 0, Value.int IntKind.i64 0, Value.int IntKind.i64 0, Value.bool false, Value.bool false,
      Value.int IntKind.i64 0, Value.int IntKind.i64 0, Value.int IntKind.i64 0, Value.bool false, Value.bool false, Value.int IntKind.i64 0, Value.int IntKind.i64 0, Value.int IntKind.i64 0, Value.bool false, Value.bool false,
      Value.int IntKind.i64 0, Value.int IntKind.i64 0, Value.int IntKind.i64 0, Value.bool false, Value.bool false, Value.int IntKind.i64 0, Value.int IntKind.i64 0, Value.int IntKind.i64 0, Value.bool false, Value.bool false,
      Value.int IntKind.i64 0, Value.int IntKind.i64 0, Value.int IntKind.i64 0, Value.bool false, Value.bool false, Value.int IntKind.i64 0, Value.int IntKind.i64 0, Value.int IntKind.i64 0, Value.bool false, Value.bool false,
      Value.int IntKind.i64 0, Value.int IntKind.i64 0, Value.int IntKind.i64 0, Value.bool false, Value.bool false, Value.int IntKind.i64 0, Value.int IntKind.i64 0, Value.int IntKind.i64 0, Value.bool false, Value.bool false,
      Value.int IntKind.i64 0, Value.int IntKind.i64 0, Value.int IntKind.i64 0, Value.bool false, Value.bool false, Value.int IntKind.i64 0, Value.int IntKind.i64 0, Value.int IntKind.i64 0, Value.bool false, Value.bool false,
      Value.int IntKind.i64 0, Value.int IntKind.i64 0, Value.int IntKind.i64 0, Value.bool false, Value.bool false, Value.int IntKind.i64 0, Value.int IntKind.i64 0, Value.int IntKind.i64 0, Value.bool false, Value.bool false,
      Value.int IntKind.i64 0, Value.int IntKind.i64 0, Value.int IntKind.i64 0, Value.bool false, Value.bool false, Value.int IntKind.i64 0, Value.int IntKind.i64 0, Value.int IntKind.i64 0, Value.bool false, Value.bool false,
      Value.int IntKind.i64 0, Value.int IntKind.i64 0, Value.int IntKind.i64 0, Value.bool false, Value.bool false, Value.int IntKind.i64 0, Value.int IntKind.i64 0, Value.int IntKind.i64 0, Value.bool false, Value.bool false,
      Value.int IntKind.i64 0, Value.int IntKind.i64 0, Value.int IntKind.i64 0, Value.bool false, Value.bool false, Value.int IntKind.i64 0, Value.int IntKind.i64 0, Value.int IntKind.i64 0, Value.bool false, Value.bool false,
      Value.int IntKind.i64 0, Value.int IntKind.i64 0, Value.int IntKind.i64 0, Value.bool false, Value.bool false, Value.int IntKind.i64 0, Value.int IntKind.i64 0, Value.int IntKind.i64 0, Value.bool false, Value.bool false,
      Value.int IntKind.i64 0, Value.int IntKind.i64 0, Value.int IntKind.i64 0, Value.bool false, Value.bool false, Value.int IntKind.i64 0, Value.int IntKind.i64 0, Value.int IntKind.i64 0, Value.bool false, Value.bool false,
      Value.int IntKind.i64 0, Value.int IntKind.i64 0, Value.int IntKind.i64 0, Value.bool false, Value.bool false, Value.int IntKind.i64 0, Value.int IntKind.i64 0, Value.int IntKind.i64 0, Value.bool false, Value.bool false,
      Value.int IntKind.i64 0, Value.int IntKind.i64 0, Value.int IntKind.i64 0, Value.bool false, Value.bool false, Value.int IntKind.i64 0, Value.int IntKind.i64 0, Value.int IntKind.i64 0, Value.bool false, Value.bool false,
      Value.int IntKind.i64 0, Value.int IntKind.i64 0, Value.int IntKind.i64 0, Value.bool false, Value.bool false, Value.int IntKind.i64 0, Value.int IntKind.i64 0, Value.int IntKind.i64 0, Value.bool false, Value.bool false,
      Value.int IntKind.i64 0, Value.int IntKind.i64 0, Value.int IntKind.i64 0, Value.bool false, Value.bool false, Value.int IntKind.i64 0, Value.int IntKind.i64 0, Value.int IntKind.i64 0, Value.bool false, Value.bool false,
      Value.int IntKind.i64 0, Value.int IntKind.i64 0, Value.int IntKind.i64 0, Value.bool false, Value.bool false, Value.int IntKind.i64 0, Value.int IntKind.i64 0, Value.int IntKind.i64 0, Value.bool false, Value.bool false,
      Value.int IntKind.i64 0, Value.int IntKind.i64 0, Value.int IntKind.i64 0, Value.bool false, Value.bool false, Value.int IntKind.i64 0, Value.int IntKind.i64 0, Value.int IntKind.i64 0, Value.bool false, Value.bool false,
      Value.int IntKind.i64 0, Value.int IntKind.i64 0, Value.int IntKind.i64 0, Value.bool false, Value.bool false, Value.int IntKind.i64 0, Value.int IntKind.i64 0, Value.int IntKind.i64 0, Value.bool false, Value.bool false,
      Value.int IntKind.i64 0, Value.int IntKind.i64 0, Value.int IntKind.i64 0, Value.bool false, Value.bool false, Value.int IntKind.i64 0, Value.int IntKind.i64 0, Value.int IntKind.i64 0, Value.bool false, Value.bool false,
      Value.int IntKind.i64 0, Value.int IntKind.i64 0, Value.int IntKind.i64 0, Value.bool false, Value.bool false, Value.int IntKind.i64 0, Value.int IntKind.i64 0, Value.int IntKind.i64 0, Value.bool false, Value.bool false,
      Value.int IntKind.i64 0, Value.int IntKind.i64 0, Value.int IntKind.i64 0, Value.bool false, Value.bool false, Value.int IntKind.i64 0, Value.int IntKind.i64 0, Value.int IntKind.i64 0, Value.bool false, Value.bool false,
      Value.int IntKind.i64 0, Value.int IntKind.i64 0, Value.int IntKind.i64 0, Value.bool false, Value.bool false, Value.int IntKind.i64 0, Value.int IntKind.i64 0, Value.int IntKind.i64 0, Value.bool false, Value.bool false,
      Value.int IntKind.i64 0, Value.int IntKind.i64 0, Value.int IntKind.i64 0, Value.bool false, Value.bool false, Value.int IntKind.i64 0, Value.int IntKind.i64 0, Value.int IntKind.i64 0, Value.bool false, Value.bool false,
      Value.int IntKind.i64 0, Value.int IntKind.i64 0, Value.int IntKind.i64 0, Value.bool false, Value.bool false, Value.int IntKind.i64 0, Value.int IntKind.i64 0, Value.int IntKind.i64 0, Value.bool false, Value.bool false,
      Value.int IntKind.i64 0, Value.int IntKind.i64 0, Value.int IntKind.i64 0, Value.bool false, Value.bool false, Value.int IntKind.i64 0, Value.int IntKind.i64 0, Value.int IntKind.i64 0, Value.bool false, Value.bool false,
      Value.int IntKind.i64 0, Value.int IntKind.i64 0, Value.int IntKind.i64 0, Value.bool false, Value.bool false, Value.int IntKind.i64 0, Value.int IntKind.i64 0, Value.int IntKind.i64 0, Value.bool false, Value.bool false,
      Value.int IntKind.i64 0, Value.int IntKind.i64 0, Value.int IntKind.i64 0, Value.bool false, Value.bool false, Value.int IntKind.i64 0, Value.int IntKind.i64 0, Value.int IntKind.i64 0, Value.bool false, Value.bool false,
      Value.int IntKind.i64 0, Value.int IntKind.i64 0, Value.int IntKind.i64 0, Value.bool false, Value.bool false, Value.int IntKind.i64 0, Value.int IntKind.i64 0, Value.int IntKind.i64 0, Value.bool false, Value.bool false,
      Value.int IntKind.i64 0, Value.int IntKind.i64 0, Value.int IntKind.i64 0, Value.bool false, Value.bool false, Value.int IntKind.i64 0, Value.int IntKind.i64 0, Value.int IntKind.i64 0, Value.bool false, Value.bool false,
      Value.int IntKind.i64 0, Value.int IntKind.i64 0, Value.int IntKind.i64 0, Value.bool false, Value.bool false, Value.int IntKind.i64 0, Value.int IntKind.i64 0, Value.int IntKind.i64 0, Value.bool false, Value.bool false,
      Value.int IntKind.i64 0, Value.int IntKind.i64 0, Value.int IntKind.i64 0, Value.bool false, Value.bool false, Value.int IntKind.i64 0, Value.int IntKind.i64 0, Value.int IntKind.i64 0, Value.bool false, Value.bool false,
      Value.int IntKind.i64 0, Value.int IntKind.i64 0, Value.int IntKind.i64 0, Value.bool false, Value.bool false, Value.int IntKind.i64 0, Value.int IntKind.i64 0, Value.int IntKind.i64 0, Value.bool false, Value.bool false,
      Value.int IntKind.i64 0, Value.int IntKind.i64 0, Value.int IntKind.i64 0, Value.bool false, Value.bool false, Value.int IntKind.i64 0, Value.int IntKind.i64 0, Value.int IntKind.i64 0, Value.bool false, Value.bool false,
      Value.int IntKind.i64 0, Value.int IntKind.i64 0, Value.int IntKind.i64 0, Value.bool false, Value.bool false, Value.int IntKind.i64 0, Value.int IntKind.i64 0, Value.int IntKind.i64 0, Value.bool false, Value.bool false,
      Value.int IntKind.i64 0, Value.int IntKind.i64 0, Value.int IntKind.i64 0, Value.bool false, Value.bool false, Value.int IntKind.i64 0, Value.int IntKind.i64 0, Value.int IntKind.i64 0, Value.bool false, Value.bool false,
      Value.int IntKind.i64 0, Value.int IntKind.i64 0, Value.int IntKind.i64 0, Value.bool false, Value.bool false, Value.int IntKind.i64 0, Value.int IntKind.i64 0, Value.int IntKind.i64 0, Value.bool false, Value.bool false,
      Value.int IntKind.i64 0, Value.int IntKind.i64 0, Value.int IntKind.i64 0, Value.bool false, Value.bool false, Value.int IntKind.i64 0, Value.int IntKind.i64 0, Value.int IntKind.i64 0, Value.bool false, Value.bool false,
      Value.int IntKind.i64 0, Value.int IntKind.i64 0, Value.int IntKind.i64 0, Value.bool false, Value.bool false, Value.int IntKind.i64 0, Value.int IntKind.i64 0, Value.int IntKind.i64 0, Value.bool false, Value.bool false,
      Value.int IntKind.i64 0, Value.int IntKind.i64 0, Value.int IntKind.i64 0, Value.bool false, Value.bool false, Value.int IntKind.i64 0, Value.int IntKind.i64 0, Value.int IntKind.i64 0, Value.bool false, Value.bool false,
      Value.int IntKind.i64 0, Value.int IntKind.i64 0, Value.int IntKind.i64 0, Value.bool false, Value.bool false, Value.int IntKind.i64 0, Value.int IntKind.i64 0, Value.int IntKind.i64 0, Value.bool false, Value.bool false,
      Value.int IntKind.i64 0, Value.int IntKind.i64 0, Value.int IntKind.i64 0, Value.bool false, Value.bool false, Value.int IntKind.i64 0, Value.int IntKind.i64 0, Value.int IntKind.i64 0, Value.bool false, Value.bool false,
      Value.int IntKind.i64 0, Value.int IntKind.i64 0, Value.int IntKind.i64 0, Value.bool false, Value.bool false, Value.int IntKind.i64 0, Value.int IntKind.i64 0, Value.int IntKind.i64 0, Value.bool false, Value.bool false,
      Value.int IntKind.i64 0, Value.int IntKind.i64 0, Value.int IntKind.i64 0, Value.bool false, Value.bool false, Value.int IntKind.i64 0, Value.int IntKind.i64 0, Value.int IntKind.i64 0, Value.bool false, Value.bool false,
      Value.int IntKind.i64 0, Value.int IntKind.i64 0, Value.int IntKind.i64 0, Value.bool false, Value.bool false, Value.int IntKind.i64 0, Value.int IntKind.i64 0, Value.int IntKind.i64 0, Value.bool false, Value.bool false,
      Value.int IntKind.i64 0, Value.int IntKind.i64 0, Value.int IntKind.i64 0, Value.bool false, Value.bool false, Value.int IntKind.i64 0, Value.int IntKind.i64 0, Value.int IntKind.i64 0, Value.bool false, Value.bool false,
      Value.int IntKind.i64 0, Value.int IntKind.i64 0, Value.int IntKind.i64 0, Value.bool false, Value.bool false, Value.int IntKind.i64 0, Value.int IntKind.i64 0, Value.int IntKind.i64 0, Value.bool false, Value.bool false,
      Value.int IntKind.i64 0, Value.int IntKind.i64 0, Value.int IntKind.i64 0, Value.bool false, Value.bool false, Value.int IntKind.i64 0, Value.int IntKind.i64 0, Value.int IntKind.i64 0, Value.bool false, Value.bool false,
      Value.int IntKind.i64 0, Value.int IntKind.i64 0, Value.int IntKind.i64 0, Value.bool false, Value.bool false, Value.int IntKind.i64 0, Value.int IntKind.i64 0, Value.int IntKind.i64 0, Value.bool false, Value.bool false,
      Value.int IntKind.i64 0, Value.int IntKind.i64 0, Value.int IntKind.i64 0, Value.bool false, Value.bool false, Value.int IntKind.i64 0, Value.int IntKind.i64 0, Value.int IntKind.i64 0, Value.bool false, Value.bool false,
      Value.int IntKind.i64 0, Value.int IntKind.i64 0, Value.int IntKind.i64 0, Value.bool false, Value.bool false, Value.int IntKind.i64 0, Value.int IntKind.i64 0, Value.int IntKind.i64 0, Value.bool false, Value.bool false,
      Value.int IntKind.i64 0, Value.int IntKind.i64 0, Value.int IntKind.i64 0, Value.bool false, Value.bool false, Value.int IntKind.i64 0, Value.int IntKind.i64 0, Value.int IntKind.i64 0, Value.bool false, Value.bool false,
      Value.int IntKind.i64 0, Value.int IntKind.i64 0, Value.int IntKind.i64 0, Value.bool false, Value.bool false, Value.int IntKind.i64 0, Value.int IntKind.i64 0, Value.int IntKind.i64 0, Value.bool false, Value.bool false,
      Value.int IntKind.i64 0, Value.int IntKind.i64 0, Value.int IntKind.i64 0, Value.bool false, Value.bool false, Value.int IntKind.i64 0, Value.int IntKind.i64 0, Value.int IntKind.i64 0, Value.bool false, Value.bool false,
      Value.int IntKind.i64 0, Value.int IntKind.i64 0, Value.int IntKind.i64 0, Value.bool false, Value.bool false, Value.int IntKind.i64 0, Value.int IntKind.i64 0, Value.int IntKind.i64 0, Value.bool false, Value.bool false,
      Value.int IntKind.i64 0, Value.int IntKind.i64 0, Value.int IntKind.i64 0, Value.bool false, Value.bool false, Value.int IntKind.i64 0, Value.int IntKind.i64 0, Value.int IntKind.i64 0, Value.bool false, Value.bool false,
      Value.int IntKind.i64 0, Value.int IntKind.i64 0, Value.int IntKind.i64 0, Value.bool false, Value.bool false, Value.int IntKind.i64 0, Value.int IntKind.i64 0, Value.int IntKind.i64 0, Value.bool false, Value.bool false,
      Value.int IntKind.i64 0, Value.int IntKind.i64 0, Value.int IntKind.i64 0, Value.bool false, Value.bool false, Value.int IntKind.i64 0, Value.int IntKind.i64 0, Value.int IntKind.i64 0, Value.bool false, Value.bool false,
      Value.int IntKind.i64 0, Value.int IntKind.i64 0, Value.int IntKind.i64 0, Value.bool false, Value.bool false, Value.int IntKind.i64 0, Value.int IntKind.i64 0, Value.int IntKind.i64 0, Value.bool false, Value.bool false,
      Value.int IntKind.i64 0, Value.int IntKind.i64 0, Value.int IntKind.i64 0, Value.bool false, Value.bool false, Value.int IntKind.i64 0, Value.int IntKind.i64 0, Value.int IntKind.i64 0, Value.bool false, Value.bool false,
      Value.int IntKind.i64 0, Value.int IntKind.i64 0, Value.int IntKind.i64 0, Value.bool false, Value.bool false, Value.int IntKind.i64 0, Value.int IntKind.i64 0, Value.int IntKind.i64 0, Value.bool false, Value.bool false,
      Value.int IntKind.i64 0, Value.int IntKind.i64 0, Value.int IntKind.i64 0, Value.bool false, Value.bool false, Value.int IntKind.i64 0, Value.int IntKind.i64 0, Value.int IntKind.i64 0, Value.bool false, Value.bool false,
      Value.int IntKind.i64 0, Value.int IntKind.i64 0, Value.int IntKind.i64 0, Value.bool false, Value.bool false, Value.int IntKind.i64 0, Value.int IntKind.i64 0, Value.int IntKind.i64 0, Value.bool false, Value.bool false,
      Value.int IntKind.i64 0, Value.int IntKind.i64 0, Value.int IntKind.i64 0, Value.bool false, Value.bool false, Value.int IntKind.i64 0, Value.int IntKind.i64 0, Value.int IntKind.i64 0, Value.bool false, Value.bool false,
      Value.int IntKind.i64 0, Value.int IntKind.i64 0, Value.int IntKind.i64 0, Value.bool false, Value.bool false, Value.int IntKind.i64 0, Value.int IntKind.i64 0, Value.int IntKind.i64 0, Value.bool false, Value.bool false,
      Value.int IntKind.i64 0, Value.int IntKind.i64 0, Value.int IntKind.i64 0, Value.bool false, Value.bool false, Value.int IntKind.i64 0, Value.int IntKind.i64 0, Value.int IntKind.i64 0, Value.bool false, Value.bool false,
      Value.int IntKind.i64 0, Value.int IntKind.i64 0, Value.int IntKind.i64 0, Value.bool false, Value.bool false, Value.int IntKind.i64 0, Value.int IntKind.i64 0, Value.int IntKind.i64 0, Value.bool false, Value.bool false,
      Value.int IntKind.i64 0, Value.int IntKind.i64 0, Value.int IntKind.i64 0, Value.bool false, Value.bool false, Value.int IntKind.i64 0, Value.int IntKind.i64 0, Value.int IntKind.i64 0, Value.bool false, Value.bool false,
      Value.int IntKind.i64 0, Value.int IntKind.i64 0, Value.int IntKind.i64 0, Value.bool false, Value.bool false, Value.int IntKind.i64 0, Value.int IntKind.i64 0, Value.int IntKind.i64 0, Value.bool false, Value.bool false,
      Value.int IntKind.i64 0, Value.int IntKind.i64 0, Value.int IntKind.i64 0, Value.bool false, Value.bool false, Value.int IntKind.i64 0, Value.int IntKind.i64 0, Value.int IntKind.i64 0, Value.bool false, Value.bool false,
      Value.int IntKind.i64 0, Value.int IntKind.i64 0, Value.int IntKind.i64 0, Value.bool false, Value.bool false, Value.int IntKind.i64 0, Value.int IntKind.i64 0, Value.int IntKind.i64 0, Value.bool false, Value.bool false,
      Value.int IntKind.i64 0, Value.int IntKind.i64 0, Value.int IntKind.i64 0, Value.bool false, Value.bool false, Value.int IntKind.i64 0, Value.int IntKind.i64 0, Value.int IntKind.i64 0, Value.bool false, Value.bool false,
      Value.int IntKind.i64 0, Value.int IntKind.i64 0, Value.int IntKind.i64 0, Value.bool false, Value.bool false, Value.int IntKind.i64 0, Value.int IntKind.i64 0, Value.int IntKind.i64 0, Value.bool false, Value.bool false,
      Value.int IntKind.i64 0, Value.int IntKind.i64 0, Value.int IntKind.i64 0, Value.bool false, Value.bool false, Value.int IntKind.i64 0, Value.int IntKind.i64 0, Value.int IntKind.i64 0, Value.bool false, Value.bool false,
      Value.int IntKind.i64 0, Value.int IntKind.i64 0, Value.int IntKind.i64 0, Value.bool false, Value.bool false, Value.int IntKind.i64 0, Value.int IntKind.i64 0, Value.int IntKind.i64 0, Value.bool false, Value.bool false,
      Value.int IntKind.i64 0, Value.int IntKind.i64 0, Value.int IntKind.i64 0, Value.bool false, Value.bool false, Value.int IntKind.i64 0, Value.int IntKind.i64 0, Value.int IntKind.i64 0, Value.bool false, Value.bool false,
      Value.int IntKind.i64 0, Value.int IntKind.i64 0, Value.int IntKind.i64 0, Value.bool false, Value.bool false, Value.int IntKind.i64 0, Value.int IntKind.i64 0, Value.int IntKind.i64 0, Value.bool false, Value.bool false,
      Value.int IntKind.i64 0, Value.int IntKind.i64 0, Value.int IntKind.i64 0, Value.bool false, Value.bool false, Value.int IntKind.i64 0, Value.int IntKind.i64 0, Value.int IntKind.i64 0, Value.bool false, Value.bool false,
      Value.int IntKind.i64 0, Value.int IntKind.i64 0, Value.int IntKind.i64 0, Value.bool false, Value.bool false, Value.int IntKind.i64 0, Value.int IntKind.i64 0, Value.int IntKind.i64 0, Value.bool false, Value.bool false,
      Value.int IntKind.i64 0, Value.int IntKind.i64 0, Value.int IntKind.i64 0, Value.bool false, Value.bool false, Value.int IntKind.i64 0, Value.int IntKind.i64 0, Value.int IntKind.i64 0, Value.bool false, Value.bool false,
      Value.int IntKind.i64 0, Value.int IntKind.i64 0, Value.int IntKind.i64 0, Value.bool false, Value.bool false, Value.int IntKind.i64 0, Value.int IntKind.i64 0, Value.int IntKind.i64 0, Value.bool false, Value.bool false,
      Value.int IntKind.i64 0, Value.int IntKind.i64 0, Value.int IntKind.i64 0, Value.bool false, Value.bool false, Value.int IntKind.i64 0, Value.int IntKind.i64 0, Value.int IntKind.i64 0, Value.bool false, Value.bool false,
      Value.int IntKind.i64 0, Value.int IntKind.i64 0, Value.int IntKind.i64 0, Value.bool false, Value.bool false, Value.int IntKind.i64 0, Value.int IntKind.i64 0, Value.int IntKind.i64 0, Value.bool false, Value.bool false,
      Value.int IntKind.i64 0, Value.int IntKind.i64 0, Value.int IntKind.i64 0, Value.bool false, Value.bool false, Value.int IntKind.i64 0, Value.int IntKind.i64 0, Value.int IntKind.i64 0, Value.bool false, Value.bool false,
      Value.int IntKind.i64 0, Value.int IntKind.i64 0, Value.int IntKind.i64 0, Value.bool false, Value.bool false, Value.int IntKind.i64 0, Value.int IntKind.i64 0, Value.int IntKind.i64 0, Value.bool false, Value.bool false,
      Value.int IntKind.i64 0, Value.int IntKind.i64 0, Value.int IntKind.i64 0, Value.bool false, Value.bool false, Value.int IntKind.i64 0, Value.int IntKind.i64 0, Value.int IntKind.i64 0, Value.bool false, Value.bool false,
      Value.int IntKind.i64 0, Value.int IntKind.i64 0, Value.int IntKind.i64 0, Value.bool false, Value.bool false, Value.int IntKind.i64 0, Value.int IntKind.i64 0, Value.int IntKind.i64 0, Value.bool false, Value.bool false,
      Value.int IntKind.i64 0, Value.int IntKind.i64 0, Value.int IntKind.i64 0, Value.bool false, Value.bool false, Value.int IntKind.i64 0, Value.int IntKind.i64 0, Value.int IntKind.i64 0, Value.bool false, Value.bool false,
      Value.int IntKind.i64 0, Value.int IntKind.i64 0, Value.int IntKind.i64 0, Value.bool false, Value.bool false, Value.int IntKind.i64 0, Value.int IntKind.i64 0, Value.int IntKind.i64 0, Value.bool false, Value.bool false,
      Value.int IntKind.i64 0, Value.int IntKind.i64 0, Value.int IntKind.i64 0, Value.bool false, Value.bool false, Value.int IntKind.i64 0, Value.int IntKind.i64 0, Value.int IntKind.i64 0, Value.bool false, Value.bool false,
      Value.int IntKind.i64 0, Value.int IntKind.i64 0, Value.int IntKind.i64 0, Value.bool false, Value.bool false, Value.int IntKind.i64 0, Value.int IntKind.i64 0, Value.int IntKind.i64 0, Value.bool false, Value.bool false,
      Value.int IntKind.i64 0, Value.int IntKind.i64 0, Value.int IntKind.i64 0, Value.bool false, Value.bool false, Value.int IntKind.i64 0, Value.int IntKind.i64 0, Value.int IntKind.i64 0, Value.bool false, Value.bool false,
      Value.int IntKind.i64 0, Value.int IntKind.i64 0, Value.int IntKind.i64 0, Value.bool false, Value.bool false, Value.int IntKind.i64 0, Value.int IntKind.i64 0, Value.int IntKind.i64 0, Value.bool false, Value.bool false,
      Value.int IntKind.i64 0, Value.int IntKind.i64 0, Value.int IntKind.i64 0, Value.bool false, Value.bool false, Value.int IntKind.i64 0, Value.int IntKind.i64 0, Value.int IntKind.i64 0, Value.bool false, Value.bool false,
      Value.int IntKind.i64 0, Value.int IntKind.i64 0, Value.int IntKind.i64 0, Value.bool false, Value.bool false, Value.int IntKind.i64 0, Value.int IntKind.i64 0, Value.int IntKind.i64 0, Value.bool false, Value.bool false,
      Value.int IntKind.i64 0, Value.int IntKind.i64 0, Value.int IntKind.i64 0, Value.bool false, Value.bool false, Value.int IntKind.i64 0, Value.int IntKind.i64 0, Value.int IntKind.i64 0, Value.bool false, Value.bool false,
      Value.int IntKind.i64 0, Value.int IntKind.i64 0, Value.int IntKind.i64 0, Value.bool false, Value.bool false, Value.int IntKind.i64 0, Value.int IntKind.i64 0, Value.int IntKind.i64 0, Value.bool false, Value.bool false,
      Value.int IntKind.i64 0, Value.int IntKind.i64 0, Value.int IntKind.i64 0, Value.bool false, Value.bool false, Value.int IntKind.i64 0, Value.int IntKind.i64 0, Value.int IntKind.i64 0, Value.bool false, Value.bool false,
      Value.int IntKind.i64 0, Value.int IntKind.i64 0, Value.int IntKind.i64 0, Value.bool false, Value.bool false, Value.int IntKind.i64 0, Value.int IntKind.i64 0, Value.int IntKind.i64 0, Value.bool false, Value.bool false,
      Value.int IntKind.i64 0, Value.int IntKind.i64 0, Value.int IntKind.i64 0, Value.bool false, Value.bool false, Value.int IntKind.i64 0, Value.int IntKind.i64 0, Value.int IntKind.i64 0, Value.bool false, Value.bool false,
      Value.int IntKind.i64 0, Value.int IntKind.i64 0, Value.int IntKind.i64 0, Value.bool false, Value.bool false, Value.int IntKind.i64 0, Value.int IntKind.i64 0, Value.int IntKind.i64 0, Value.bool false, Value.bool false,
      Value.int IntKind.i64 0, Value.int IntKind.i64 0, Value.int IntKind.i64 0, Value.bool false, Value.bool false, Value.int IntKind.i64 0, Value.int IntKind.i64 0, Value.int IntKind.i64 0, Value.bool false, Value.bool false,
      Value.int IntKind.i64 0, Value.int IntKind.i64 0, Value.int IntKind.i64 0, Value.bool false, Value.bool false, Value.int IntKind.i64 0, Value.int IntKind.i64 0, Value.int IntKind.i64 0, Value.bool false, Value.bool false,
      Value.int IntKind.i64 0, Value.int IntKind.i64 0, Value.int IntKind.i64 0, Value.bool false, Value.bool false, Value.int IntKind.i64 0, Value.int IntKind.i64 0, Value.int IntKind.i64 0, Value.bool false, Value.bool false,
      Value.int IntKind.i64 0, Value.int IntKind.i64 0, Value.int IntKind.i64 0, Value.bool false, Value.bool false, Value.int IntKind.i64 0, Value.int IntKind.i64 0, Value.int IntKind.i64 0, Value.bool false, Value.bool false,
      Value.int IntKind.i64 0, Value.int IntKind.i64 0, Value.int IntKind.i64 0, Value.bool false, Value.bool false, Value.int IntKind.i64 0, Value.int IntKind.i64 0, Value.int IntKind.i64 0, Value.bool false, Value.bool false,
      Value.int IntKind.i64 0, Value.int IntKind.i64 0, Value.int IntKind.i64 0, Value.bool false, Value.bool false, Value.int IntKind.i64 0, Value.int IntKind.i64 0, Value.int IntKind.i64 0, Value.bool false, Value.bool false,
      Value.int IntKind.i64 0, Value.int IntKind.i64 0, Value.int IntKind.i64 0, Value.bool false, Value.bool false, Value.int IntKind.i64 0, Value.int IntKind.i64 0, Value.int IntKind.i64 0, Value.bool false, Value.bool false,
      Value.int IntKind.i64 n] }
   63 fun (b : Nat) (w2 : World) => EnP w2 fun (w1 : World) => Post (some { block := b, off := 0 }, 0, Unit.unit) w1)) := by kernel_rfl
end Go.Proofs.Ytcnaaobeooiojaa
