import Derived.Test.YtffnfcokgemgjaaV6
namespace Go.Proofs.Ytffnfcokgemgjaa
set_option linter.unusedSimpArgs false
set_option linter.unusedVariables false
set_option maxRecDepth 100000
open Go.RX
theorem rrgt_vc (f p t : Int) (w : World) (Post : Bool → World → Prop) : (rxFn M1 (fun _ => []) 25 [.int .i64 f, .int .i64 p, .int .i64 t] w Post) = (
 EnP w fun (w1 : World) => Post (decide (f ≥ 0) && decide (f ≤ 4095) && decide (p ≥ 0) && decide (p ≤ 65535) && decide (t ≥ 0) && decide (t ≤ 7)) w1) := by kernel_rfl
theorem rwnew_vc (f p t : Int) (w : World) (Post : Option Addr → World → Prop) : (rxFn M1 (fun _ => []) 26 [.int .i64 f, .int .i64 p, .int .i64 t] w Post) = (
 AlP w
  {
   toList :=
    [Value.int IntKind.i64 f, Value.int IntKind.i64 p, Value.int IntKind.i64 t, Value.int IntKind.i64 3, Value.bool false, Value.int IntKind.i64 0, Value.int IntKind.i64 0, Value.int IntKind.i64 0, Value.int IntKind.i64 0, Value.slice none 0 0] }
  71 fun (b : Nat) (w2 : World) => EnP w2 fun (w1 : World) => Post (some { block := b, off := 0 }) w1) := by kernel_rfl
theorem rwend_vc (p : Option Addr) (e : Int) (w : World) (Post : Unit → World → Prop) : (rxFn M1 (fun _ => []) 38 [.pointer p, .int .i64 e] w Post) = (
 p.isSome = true ∧
  p.isSome = true ∧
   StP w (addP p 4) [Value.bool true] fun (w2 : World) =>
    p.isSome = true ∧
     p.isSome = true ∧
      LdP w2 none (addP p 3) (El.one (Sc.int IntKind.i64)) fun (x : Int) =>
       p.isSome = true ∧ p.isSome = true ∧ StP w2 (addP p 5) [Value.int IntKind.i64 0, Value.int IntKind.i64 0, Value.int IntKind.i64 x, Value.int IntKind.i64 e] fun (w2 : World) => EnP w2 fun (w1 : World) => Post Unit.unit w1) := by kernel_rfl
theorem rwin_vc (p : Option Addr) (fr : Int) (ep : Bool) (er : Int) (el : Bool) (ef : Int) (w : World) (Post : Unit → World → Prop) : (rxFn M1 (fun _ => []) 40 [.pointer p, .int .i64 fr, .agg ⟨[.bool ep, .int .i64 er, .bool el, .int .i64 ef]⟩] w Post) = (
 AlP w { toList := [Value.bool ep, Value.int IntKind.i64 er, Value.bool el, Value.int IntKind.i64 ef] } 95 fun (b : Nat) (w2 : World) =>
  brP (decide (fr > 4095)) (CaP Try.prog 38 (Sh.tup []) [Value.pointer p, Value.int IntKind.i64 11] w2 fun (x : Unit) (w2 : World) => EnP w2 fun (w1 : World) => Post Unit.unit w1)
   (p.isSome = true ∧
    p.isSome = true ∧
     StP w2 (addP p 4) [Value.bool true] fun (w2 : World) =>
      true = true ∧
       LdP w2 none (addP (some { block := b, off := 0 }) 1) (El.one (Sc.int IntKind.i64)) fun (x : Int) =>
        p.isSome = true ∧
         p.isSome = true ∧
          LdP w2 none (addP p 3) (El.one (Sc.int IntKind.i64)) fun (x_1 : Int) =>
           p.isSome = true ∧
            p.isSome = true ∧
             StP w2 (addP p 5) [Value.int IntKind.i64 fr, Value.int IntKind.i64 x, Value.int IntKind.i64 x_1, Value.int IntKind.i64 0] fun (w2 : World) =>
              LdP w2 none (some { block := b, off := 0 }) (El.agg [Sc.bool, Sc.int IntKind.i64, Sc.bool, Sc.int IntKind.i64]) fun (x : Bool × Int × Bool × Int × Unit) =>
               p.isSome = true ∧
                p.isSome = true ∧
                 LdP w2 none (addP p 2) (El.one (Sc.int IntKind.i64)) fun (x_2 : Int) =>
                  True ∧
                   brP (!allowsE x.fst x.snd.fst x.snd.snd.fst x.snd.snd.snd.fst x_2)
                    (p.isSome = true ∧ p.isSome = true ∧ (addP p 5).isSome = true ∧ StP w2 (addP (addP p 5) 3) [Value.int IntKind.i64 7] fun (w2 : World) => EnP w2 fun (w1 : World) => Post Unit.unit w1)
                    (EnP w2 fun (w1 : World) => Post Unit.unit w1))) := by kernel_rfl
theorem rwstep_vc (p m : Option Addr) (w : World) (Post : Bool → World → Prop) : (rxFn M1 (fun _ => []) 27 [.pointer p, .pointer m] w Post) = (
 p.isSome = true ∧
  p.isSome = true ∧
   LdP w none (addP p 4) (El.one Sc.bool) fun (x : Bool) =>
    brP x (EnP w fun (w1 : World) => Post true w1)
     (p.isSome = true ∧
      p.isSome = true ∧
       LdP w none (addP p 9) (El.one Sc.slice) fun (x : Option Addr × Nat × Nat) =>
        p.isSome = true ∧
         p.isSome = true ∧
          LdP w none (addP p 0) (El.one (Sc.int IntKind.i64)) fun (x_1 : Int) =>
           AlP w { toList := [Value.int IntKind.i64 x_1] } 3 fun (b : Nat) (w2 : World) =>
            ∀ (w1 : World),
             Ext w2 w1 →
              apR w1 3 1 8 { toList := [Value.int IntKind.i64 0] } (x.fst, x.snd.fst, x.snd.snd) (some { block := b, off := 0 }, 1, 1) fun (r : Option Addr × Nat × Nat) (w2 : World) =>
               p.isSome = true ∧
                p.isSome = true ∧
                 StP w2 (addP p 9) [Value.slice r.fst r.snd.fst r.snd.snd] fun (w2 : World) =>
                  p.isSome = true ∧
                   p.isSome = true ∧
                    LdP w2 none (addP p 0) (El.one (Sc.int IntKind.i64)) fun (x : Int) =>
                     p.isSome = true ∧
                      p.isSome = true ∧
                       LdP w2 none (addP p 1) (El.one (Sc.int IntKind.i64)) fun (x_2 : Int) =>
                        p.isSome = true ∧
                         p.isSome = true ∧
                          LdP w2 none (addP p 3) (El.one (Sc.int IntKind.i64)) fun (x_3 : Int) =>
                           True ∧
                            CaP Try.prog 36 (Sh.tup [El.one (Sc.int IntKind.u64), El.one (Sc.int IntKind.i64)]) [Value.pointer m, Value.int IntKind.i64 (atI x x_2 x_3)] w2 fun (x : Int × Int × Unit) (w2 : World) =>
                             U (B x.fst) = x.fst ∧
                              AlP w2 { toList := [Value.bool false, Value.int IntKind.i64 0, Value.bool false, Value.int IntKind.i64 0] } 95 fun (b : Nat) (w2 : World) =>
                               StP w2 (some { block := b, off := 0 }) [Value.bool (prP (B x.fst).toNat), Value.int IntKind.i64 (prR (B x.fst).toNat), Value.bool (prL (B x.fst).toNat), Value.int IntKind.i64 (prF (B x.fst).toNat)] fun (w2 : World) =>
                                brP (x.snd.fst != 0 || !okV (B x.fst).toNat)
                                 (CaP Try.prog 38 (Sh.tup []) [Value.pointer p, Value.int IntKind.i64 11] w2 fun (x : Unit) (w2 : World) =>
                                  p.isSome = true ∧ p.isSome = true ∧ LdP w2 none (addP p 4) (El.one Sc.bool) fun (x : Bool) => EnP w2 fun (w1 : World) => Post x w1)
                                 (true = true ∧
                                  LdP w2 none (addP (some { block := b, off := 0 }) 0) (El.one Sc.bool) fun (x : Bool) =>
                                   brP (!x)
                                    (CaP Try.prog 38 (Sh.tup []) [Value.pointer p, Value.int IntKind.i64 4] w2 fun (x : Unit) (w2 : World) =>
                                     p.isSome = true ∧ p.isSome = true ∧ LdP w2 none (addP p 4) (El.one Sc.bool) fun (x : Bool) => EnP w2 fun (w1 : World) => Post x w1)
                                    (LdP w2 none (some { block := b, off := 0 }) (El.agg [Sc.bool, Sc.int IntKind.i64, Sc.bool, Sc.int IntKind.i64]) fun (x : Bool × Int × Bool × Int × Unit) =>
                                     True ∧
                                      (tableE x.fst x.snd.fst x.snd.snd.fst x.snd.snd.snd.fst = true → p.isSome = true) ∧
                                       (tableE x.fst x.snd.fst x.snd.snd.fst x.snd.snd.snd.fst = true → p.isSome = true) ∧
                                        LdP w2 (some (tableE x.fst x.snd.fst x.snd.snd.fst x.snd.snd.snd.fst)) (addP p 3) (El.one (Sc.int IntKind.i64)) fun (x_4 : Int) =>
                                         brP (tableE x.fst x.snd.fst x.snd.snd.fst x.snd.snd.snd.fst && decide (x_4 > 0))
                                          (true = true ∧
                                           LdP w2 none (addP (some { block := b, off := 0 }) 3) (El.one (Sc.int IntKind.i64)) fun (x : Int) =>
                                            p.isSome = true ∧
                                             p.isSome = true ∧
                                              StP w2 (addP p 0) [Value.int IntKind.i64 x] fun (w2 : World) =>
                                               p.isSome = true ∧
                                                p.isSome = true ∧
                                                 LdP w2 none (addP p 3) (El.one (Sc.int IntKind.i64)) fun (x : Int) =>
                                                  p.isSome = true ∧
                                                   p.isSome = true ∧
                                                    StP w2 (addP p 3) [Value.int IntKind.i64 (subI IntKind.i64 x 1)] fun (w2 : World) =>
                                                     p.isSome = true ∧ p.isSome = true ∧ LdP w2 none (addP p 4) (El.one Sc.bool) fun (x : Bool) => EnP w2 fun (w1 : World) => Post x w1)
                                          (true = true ∧
                                           LdP w2 none (addP (some { block := b, off := 0 }) 2) (El.one Sc.bool) fun (x : Bool) =>
                                            (x = true → p.isSome = true) ∧
                                             (x = true → p.isSome = true) ∧
                                              LdP w2 (some x) (addP p 3) (El.one (Sc.int IntKind.i64)) fun (x_5 : Int) =>
                                               brP (x && x_5 == 1)
                                                (true = true ∧
                                                 LdP w2 none (addP (some { block := b, off := 0 }) 3) (El.one (Sc.int IntKind.i64)) fun (x : Int) =>
                                                  p.isSome = true ∧
                                                   p.isSome = true ∧
                                                    LdP w2 none (addP p 1) (El.one (Sc.int IntKind.i64)) fun (x_6 : Int) =>
                                                     LdP w2 none (some { block := b, off := 0 }) (El.agg [Sc.bool, Sc.int IntKind.i64, Sc.bool, Sc.int IntKind.i64]) fun (x_7 : Bool × Int × Bool × Int × Unit) =>
                                                      CaP Try.prog 40 (Sh.tup [])
                                                       [Value.pointer p, Value.int IntKind.i64 (addI IntKind.i64 x (remI x_6 16)),
                                                        Value.agg { toList := [Value.bool x_7.fst, Value.int IntKind.i64 x_7.snd.fst, Value.bool x_7.snd.snd.fst, Value.int IntKind.i64 x_7.snd.snd.snd.fst] }]
                                                       w2 fun (x : Unit) (w2 : World) => p.isSome = true ∧ p.isSome = true ∧ LdP w2 none (addP p 4) (El.one Sc.bool) fun (x : Bool) => EnP w2 fun (w1 : World) => Post x w1)
                                                (true = true ∧
                                                 LdP w2 none (addP (some { block := b, off := 0 }) 2) (El.one Sc.bool) fun (x : Bool) =>
                                                  LdP w2 (some !x) (some { block := b, off := 0 }) (El.agg [Sc.bool, Sc.int IntKind.i64, Sc.bool, Sc.int IntKind.i64]) fun (x_6 : Bool × Int × Bool × Int × Unit) =>
                                                   ((!x) = true → True) ∧
                                                    ((!x && !tableE x_6.fst x_6.snd.fst x_6.snd.snd.fst x_6.snd.snd.snd.fst) = true → p.isSome = true) ∧
                                                     ((!x && !tableE x_6.fst x_6.snd.fst x_6.snd.snd.fst x_6.snd.snd.snd.fst) = true → p.isSome = true) ∧
                                                      LdP w2 (some (!x && !tableE x_6.fst x_6.snd.fst x_6.snd.snd.fst x_6.snd.snd.snd.fst)) (addP p 3) (El.one (Sc.int IntKind.i64)) fun (x_7 : Int) =>
                                                       brP (!x && !tableE x_6.fst x_6.snd.fst x_6.snd.snd.fst x_6.snd.snd.snd.fst && x_7 == 0)
                                                        (true = true ∧
                                                         LdP w2 none (addP (some { block := b, off := 0 }) 3) (El.one (Sc.int IntKind.i64)) fun (x : Int) =>
                                                          LdP w2 none (some { block := b, off := 0 }) (El.agg [Sc.bool, Sc.int IntKind.i64, Sc.bool, Sc.int IntKind.i64]) fun (x_8 : Bool × Int × Bool × Int × Unit) =>
                                                           CaP Try.prog 40 (Sh.tup [])
                                                            [Value.pointer p, Value.int IntKind.i64 x,
                                                             Value.agg { toList := [Value.bool x_8.fst, Value.int IntKind.i64 x_8.snd.fst, Value.bool x_8.snd.snd.fst, Value.int IntKind.i64 x_8.snd.snd.snd.fst] }]
                                                            w2 fun (x : Unit) (w2 : World) => p.isSome = true ∧ p.isSome = true ∧ LdP w2 none (addP p 4) (El.one Sc.bool) fun (x : Bool) => EnP w2 fun (w1 : World) => Post x w1)
                                                        (CaP Try.prog 38 (Sh.tup []) [Value.pointer p, Value.int IntKind.i64 11] w2 fun (x : Unit) (w2 : World) =>
                                                         p.isSome = true ∧ p.isSome = true ∧ LdP w2 none (addP p 4) (El.one Sc.bool) fun (x : Bool) => EnP w2 fun (w1 : World) => Post x w1))))))) := by kernel_rfl
def rwall_vc_ann : Nat → Slots := (fun | 5 => [(10, Go.RX.El.one (Go.RX.Sc.int Go.IntKind.i64))] | _ => [])
theorem rwall_vc (m : Option Addr) (f p t : Int) (w : World) (Post : (Int × Int × Int × Int × Unit) → World → Prop) : (rxFnR M1 rwall_vc_ann 11 [.pointer m, .int .i64 f, .int .i64 p, .int .i64 t] w Post) = (
 AlP w { toList := [Value.int IntKind.i64 0, Value.int IntKind.i64 0, Value.int IntKind.i64 0, Value.int IntKind.i64 0] } 30 fun (b : Nat) (w2 : World) =>
  ∃ (x : Bool),
   QCalls Try.prog 25 [Value.int IntKind.i64 f, Value.int IntKind.i64 p, Value.int IntKind.i64 t] w2 (Value.bool x) ∧
    brP (!x)
     (StP w2 (some { block := b, off := 0 }) [Value.int IntKind.i64 0, Value.int IntKind.i64 0, Value.int IntKind.i64 0, Value.int IntKind.i64 1] fun (w2 : World) =>
      EnP w2 fun (w1 : World) =>
       LdP w1 none (some { block := b, off := 0 }) (El.agg [Sc.int IntKind.i64, Sc.int IntKind.i64, Sc.int IntKind.i64, Sc.int IntKind.i64]) fun (x : Int × Int × Int × Int × Unit) =>
        Post (x.fst, x.snd.fst, x.snd.snd.fst, x.snd.snd.snd.fst, Unit.unit) w1)
     (CaP Try.prog 26 (Sh.el (El.one Sc.ptr)) [Value.int IntKind.i64 f, Value.int IntKind.i64 p, Value.int IntKind.i64 t] w2 fun (x : Option Addr) (w2 : World) =>
      ∃ (I : Nat → Int × Unit → World → Prop),
       (∃ (n : Nat), ∀ (w1 : World), Ext w2 w1 → I n (0, Unit.unit) w1) ∧
        ∀ (n : Nat) (s : Int × Unit) (w1 : World),
         I n s w1 →
          brP (decide (s.fst < 4)) (CaP Try.prog 27 (Sh.el (El.one Sc.bool)) [Value.pointer x, Value.pointer m] w1 fun (x : Bool) (w2 : World) => ∀ (w3 : World), Ext w2 w3 → ∃ (n' : Nat), n' < n ∧ I n' (addI IntKind.i64 s.fst 1, Unit.unit) w3)
           (x.isSome = true ∧
            x.isSome = true ∧
             LdP w1 none (addP x 5) (El.agg [Sc.int IntKind.i64, Sc.int IntKind.i64, Sc.int IntKind.i64, Sc.int IntKind.i64]) fun (x : Int × Int × Int × Int × Unit) =>
              StP w1 (some { block := b, off := 0 }) [Value.int IntKind.i64 x.fst, Value.int IntKind.i64 x.snd.fst, Value.int IntKind.i64 x.snd.snd.fst, Value.int IntKind.i64 x.snd.snd.snd.fst] fun (w2 : World) =>
               EnP w2 fun (w1 : World) =>
                LdP w1 none (some { block := b, off := 0 }) (El.agg [Sc.int IntKind.i64, Sc.int IntKind.i64, Sc.int IntKind.i64, Sc.int IntKind.i64]) fun (x : Int × Int × Int × Int × Unit) =>
                 Post (x.fst, x.snd.fst, x.snd.snd.fst, x.snd.snd.snd.fst, Unit.unit) w1))) := by kernel_rfl
theorem wplain_vc (a b c d : Int) (w : World) (Post : (Int × Int × Int × Int × Unit) → World → Prop) : (rxFnR M1 (fun _ => []) 9 [.agg ⟨[.int .i64 a, .int .i64 b, .int .i64 c, .int .i64 d]⟩] w Post) = (
 AlP w { toList := [Value.int IntKind.i64 a, Value.int IntKind.i64 b, Value.int IntKind.i64 c, Value.int IntKind.i64 d] } 32 fun (b : Nat) (w2 : World) =>
  AlP w2 { toList := [Value.int IntKind.i64 0, Value.int IntKind.i64 0, Value.int IntKind.i64 0, Value.int IntKind.i64 0] } 30 fun (b_1 : Nat) (w2 : World) =>
   true = true ∧
    LdP w2 none (addP (some { block := b, off := 0 }) 0) (El.one (Sc.int IntKind.i64)) fun (x : Int) =>
     true = true ∧
      LdP w2 none (addP (some { block := b, off := 0 }) 1) (El.one (Sc.int IntKind.i64)) fun (x_1 : Int) =>
       true = true ∧
        LdP w2 none (addP (some { block := b, off := 0 }) 2) (El.one (Sc.int IntKind.i64)) fun (x_2 : Int) =>
         true = true ∧
          LdP w2 none (addP (some { block := b, off := 0 }) 3) (El.one (Sc.int IntKind.i64)) fun (x_3 : Int) =>
           StP w2 (some { block := b_1, off := 0 }) [Value.int IntKind.i64 x, Value.int IntKind.i64 x_1, Value.int IntKind.i64 x_2, Value.int IntKind.i64 x_3] fun (w2 : World) =>
            EnP w2 fun (w1 : World) =>
             LdP w1 none (some { block := b_1, off := 0 }) (El.agg [Sc.int IntKind.i64, Sc.int IntKind.i64, Sc.int IntKind.i64, Sc.int IntKind.i64]) fun (x : Int × Int × Int × Int × Unit) =>
              Post (x.fst, x.snd.fst, x.snd.snd.fst, x.snd.snd.snd.fst, Unit.unit) w1) := by kernel_rfl
def wknown_vc_ann : Nat → Slots := (fun | 6 => [(4, Go.RX.El.one (Go.RX.Sc.int Go.IntKind.i64))] | _ => [])
theorem wknown_vc (w : World) (Post : Bool → World → Prop) : (rxFn M1 wknown_vc_ann 12 [] w Post) = (
 AlP w { toList := [Value.int IntKind.i64 1, Value.int IntKind.u64 4097, Value.int IntKind.i64 18, Value.int IntKind.u64 8193, Value.int IntKind.i64 35, Value.int IntKind.u64 12289, Value.int IntKind.i64 52, Value.int IntKind.u64 36871] } 54
  fun (b : Nat) (w2 : World) =>
  CaP Try.prog 8 (Sh.tup [El.one Sc.ptr, El.one Sc.ptr]) [Value.slice (some { block := b, off := 0 }) 4 4] w2 fun (x : Option Addr × Option Addr × Unit) (w2 : World) =>
   CaP Try.prog 17 (Sh.el (El.one Sc.ptr)) [Value.int IntKind.i64 0, Value.int IntKind.i64 4660, Value.int IntKind.i64 2] w2 fun (x_1 : Option Addr) (w2 : World) =>
    brP (x.fst.isNone || x_1.isNone) (EnP w2 fun (w1 : World) => Post false w1)
     (∃ (I : Nat → Int × Unit → World → Prop),
      (∃ (n : Nat), ∀ (w1 : World), Ext w2 w1 → I n (0, Unit.unit) w1) ∧
       ∀ (n : Nat) (s : Int × Unit) (w1 : World),
        I n s w1 →
         brP (decide (s.fst < 9))
          (CaP Try.prog 14 (Sh.el (El.one Sc.bool)) [Value.pointer x_1, Value.pointer x.fst] w1 fun (x_2 : Bool) (w2 : World) =>
           brP (!x_2) (∀ (w3 : World), Ext w2 w3 → ∃ (n' : Nat), n' < n ∧ I n' (addI IntKind.i64 s.fst 1, Unit.unit) w3)
            (∃ (x_3 : (Int × Int × Int × Int × Unit) × Bool × Unit),
             QCalls Try.prog 13 [Value.pointer x_1] w2
               (Value.tuple
                { toList := [Value.agg { toList := [Value.int IntKind.i64 x_3.fst.fst, Value.int IntKind.i64 x_3.fst.snd.fst, Value.int IntKind.i64 x_3.fst.snd.snd.fst, Value.int IntKind.i64 x_3.fst.snd.snd.snd.fst] }, Value.bool x_3.snd.fst] }) ∧
              AlP w2 { toList := [Value.int IntKind.i64 0, Value.int IntKind.i64 0, Value.int IntKind.i64 0, Value.int IntKind.i64 0] } 32 fun (b : Nat) (w2 : World) =>
               StP w2 (some { block := b, off := 0 }) [Value.int IntKind.i64 x_3.fst.fst, Value.int IntKind.i64 x_3.fst.snd.fst, Value.int IntKind.i64 x_3.fst.snd.snd.fst, Value.int IntKind.i64 x_3.fst.snd.snd.snd.fst] fun (w2 : World) =>
                CaP Try.prog 10 (Sh.el (El.agg [Sc.int IntKind.i64, Sc.int IntKind.i64, Sc.int IntKind.i64, Sc.int IntKind.i64])) [Value.pointer x.fst, Value.int IntKind.i64 0, Value.int IntKind.i64 4660, Value.int IntKind.i64 4] w2
                 fun (x_4 : Int × Int × Int × Int × Unit) (w2 : World) =>
                 AlP w2 { toList := [Value.int IntKind.i64 0, Value.int IntKind.i64 0, Value.int IntKind.i64 0, Value.int IntKind.i64 0] } 32 fun (b_1 : Nat) (w2 : World) =>
                  StP w2 (some { block := b_1, off := 0 }) [Value.int IntKind.i64 x_4.fst, Value.int IntKind.i64 x_4.snd.fst, Value.int IntKind.i64 x_4.snd.snd.fst, Value.int IntKind.i64 x_4.snd.snd.snd.fst] fun (w2 : World) =>
                   CaP Try.prog 10 (Sh.el (El.agg [Sc.int IntKind.i64, Sc.int IntKind.i64, Sc.int IntKind.i64, Sc.int IntKind.i64])) [Value.pointer x.fst, Value.int IntKind.i64 0, Value.int IntKind.i64 4661, Value.int IntKind.i64 0] w2
                    fun (x_5 : Int × Int × Int × Int × Unit) (w2 : World) =>
                    AlP w2 { toList := [Value.int IntKind.i64 0, Value.int IntKind.i64 0, Value.int IntKind.i64 0, Value.int IntKind.i64 0] } 32 fun (b_2 : Nat) (w2 : World) =>
                     StP w2 (some { block := b_2, off := 0 }) [Value.int IntKind.i64 x_5.fst, Value.int IntKind.i64 x_5.snd.fst, Value.int IntKind.i64 x_5.snd.snd.fst, Value.int IntKind.i64 x_5.snd.snd.snd.fst] fun (w2 : World) =>
                      CaP Try.prog 10 (Sh.el (El.agg [Sc.int IntKind.i64, Sc.int IntKind.i64, Sc.int IntKind.i64, Sc.int IntKind.i64])) [Value.pointer x.fst, Value.int IntKind.i64 (-1), Value.int IntKind.i64 0, Value.int IntKind.i64 0] w2
                       fun (x : Int × Int × Int × Int × Unit) (w2 : World) =>
                       AlP w2 { toList := [Value.int IntKind.i64 0, Value.int IntKind.i64 0, Value.int IntKind.i64 0, Value.int IntKind.i64 0] } 32 fun (b_3 : Nat) (w2 : World) =>
                        StP w2 (some { block := b_3, off := 0 }) [Value.int IntKind.i64 x.fst, Value.int IntKind.i64 x.snd.fst, Value.int IntKind.i64 x.snd.snd.fst, Value.int IntKind.i64 x.snd.snd.snd.fst] fun (w2 : World) =>
                         LdP w2 (some (s.fst == 3 && x_3.snd.fst)) (some { block := b, off := 0 }) (El.agg [Sc.int IntKind.i64, Sc.int IntKind.i64, Sc.int IntKind.i64, Sc.int IntKind.i64]) fun (x : Int × Int × Int × Int × Unit) =>
                          brP (s.fst == 3 && x_3.snd.fst && (x.fst == 9 && (x.snd.fst == 3 && (x.snd.snd.fst == 0 && (x.snd.snd.snd.fst == 0 && true)))))
                           (CaP Try.prog 16 (Sh.el (El.one Sc.slice)) [Value.pointer x_1] w2 fun (x : Option Addr × Nat × Nat) (w2 : World) =>
                            AlP w2 { toList := [Value.int IntKind.i64 0, Value.int IntKind.i64 1, Value.int IntKind.i64 2, Value.int IntKind.i64 3] } 3 fun (b : Nat) (w2 : World) =>
                             CaP Try.prog 18 (Sh.el (El.one Sc.bool)) [Value.slice x.fst x.snd.fst x.snd.snd, Value.slice (some { block := b, off := 0 }) 4 4] w2 fun (x : Bool) (w2 : World) =>
                              (x = true → true = true) ∧
                               LdP w2 (some x) (addP (some { block := b_1, off := 0 }) 3) (El.one (Sc.int IntKind.i64)) fun (x_6 : Int) =>
                                ((x && x_6 == 7) = true → true = true) ∧
                                 LdP w2 (some (x && x_6 == 7)) (addP (some { block := b_1, off := 0 }) 0) (El.one (Sc.int IntKind.i64)) fun (x_7 : Int) =>
                                  LdP w2 (some (x && x_6 == 7 && x_7 == 9)) (some { block := b_2, off := 0 }) (El.agg [Sc.int IntKind.i64, Sc.int IntKind.i64, Sc.int IntKind.i64, Sc.int IntKind.i64]) fun (x_8 : Int × Int × Int × Int × Unit) =>
                                   ((x && x_6 == 7 && x_7 == 9 && (x_8.fst == 0 && (x_8.snd.fst == 0 && (x_8.snd.snd.fst == 0 && (x_8.snd.snd.snd.fst == 4 && true))))) = true → true = true) ∧
                                    LdP w2 (some (x && x_6 == 7 && x_7 == 9 && (x_8.fst == 0 && (x_8.snd.fst == 0 && (x_8.snd.snd.fst == 0 && (x_8.snd.snd.snd.fst == 4 && true)))))) (addP (some { block := b_3, off := 0 }) 3)
                                     (El.one (Sc.int IntKind.i64)) fun (x_9 : Int) =>
                                     brP (x && x_6 == 7 && x_7 == 9 && (x_8.fst == 0 && (x_8.snd.fst == 0 && (x_8.snd.snd.fst == 0 && (x_8.snd.snd.snd.fst == 4 && true)))) && x_9 == 1)
                                      (CaP Try.prog 17 (Sh.el (El.one Sc.ptr)) [Value.int IntKind.i64 4096, Value.int IntKind.i64 0, Value.int IntKind.i64 0] w2 fun (x : Option Addr) (w2 : World) =>
                                       ∃ (x_10 : Int × Int × Int × Int × Unit),
                                        (x.isNone = true →
                                          QCalls Try.prog 15 [Value.pointer x_1] w2
                                           (Value.agg { toList := [Value.int IntKind.i64 x_10.fst, Value.int IntKind.i64 x_10.snd.fst, Value.int IntKind.u64 x_10.snd.snd.fst, Value.int IntKind.u64 x_10.snd.snd.snd.fst] })) ∧
                                         EnP w2 fun (w1 : World) => Post (x.isNone && (x_10.fst == 0 && (x_10.snd.fst == 0 && (x_10.snd.snd.fst == 0 && (x_10.snd.snd.snd.fst == 0 && true))))) w1)
                                      (∃ (x : Int × Int × Int × Int × Unit),
                                       (false = true →
                                         QCalls Try.prog 15 [Value.pointer x_1] w2
                                          (Value.agg { toList := [Value.int IntKind.i64 x.fst, Value.int IntKind.i64 x.snd.fst, Value.int IntKind.u64 x.snd.snd.fst, Value.int IntKind.u64 x.snd.snd.snd.fst] })) ∧
                                        EnP w2 fun (w1 : World) => Post false w1))
                           ((false = true → true = true) ∧
                            LdP w2 (some false) (addP (some { block := b_1, off := 0 }) 3) (El.one (Sc.int IntKind.i64)) fun (x : Int) =>
                             (false = true → true = true) ∧
                              LdP w2 (some false) (addP (some { block := b_1, off := 0 }) 0) (El.one (Sc.int IntKind.i64)) fun (x : Int) =>
                               LdP w2 (some false) (some { block := b_2, off := 0 }) (El.agg [Sc.int IntKind.i64, Sc.int IntKind.i64, Sc.int IntKind.i64, Sc.int IntKind.i64]) fun (x : Int × Int × Int × Int × Unit) =>
                                (false = true → true = true) ∧
                                 LdP w2 (some false) (addP (some { block := b_3, off := 0 }) 3) (El.one (Sc.int IntKind.i64)) fun (x : Int) =>
                                  ∃ (x : Int × Int × Int × Int × Unit),
                                   (false = true →
                                     QCalls Try.prog 15 [Value.pointer x_1] w2 (Value.agg { toList := [Value.int IntKind.i64 x.fst, Value.int IntKind.i64 x.snd.fst, Value.int IntKind.u64 x.snd.snd.fst, Value.int IntKind.u64 x.snd.snd.snd.fst] })) ∧
                                    EnP w2 fun (w1 : World) => Post false w1)))
          (∃ (x_2 : (Int × Int × Int × Int × Unit) × Bool × Unit),
           QCalls Try.prog 13 [Value.pointer x_1] w1
             (Value.tuple
              { toList := [Value.agg { toList := [Value.int IntKind.i64 x_2.fst.fst, Value.int IntKind.i64 x_2.fst.snd.fst, Value.int IntKind.i64 x_2.fst.snd.snd.fst, Value.int IntKind.i64 x_2.fst.snd.snd.snd.fst] }, Value.bool x_2.snd.fst] }) ∧
            AlP w1 { toList := [Value.int IntKind.i64 0, Value.int IntKind.i64 0, Value.int IntKind.i64 0, Value.int IntKind.i64 0] } 32 fun (b : Nat) (w2 : World) =>
             StP w2 (some { block := b, off := 0 }) [Value.int IntKind.i64 x_2.fst.fst, Value.int IntKind.i64 x_2.fst.snd.fst, Value.int IntKind.i64 x_2.fst.snd.snd.fst, Value.int IntKind.i64 x_2.fst.snd.snd.snd.fst] fun (w2 : World) =>
              CaP Try.prog 10 (Sh.el (El.agg [Sc.int IntKind.i64, Sc.int IntKind.i64, Sc.int IntKind.i64, Sc.int IntKind.i64])) [Value.pointer x.fst, Value.int IntKind.i64 0, Value.int IntKind.i64 4660, Value.int IntKind.i64 4] w2
               fun (x_3 : Int × Int × Int × Int × Unit) (w2 : World) =>
               AlP w2 { toList := [Value.int IntKind.i64 0, Value.int IntKind.i64 0, Value.int IntKind.i64 0, Value.int IntKind.i64 0] } 32 fun (b_1 : Nat) (w2 : World) =>
                StP w2 (some { block := b_1, off := 0 }) [Value.int IntKind.i64 x_3.fst, Value.int IntKind.i64 x_3.snd.fst, Value.int IntKind.i64 x_3.snd.snd.fst, Value.int IntKind.i64 x_3.snd.snd.snd.fst] fun (w2 : World) =>
                 CaP Try.prog 10 (Sh.el (El.agg [Sc.int IntKind.i64, Sc.int IntKind.i64, Sc.int IntKind.i64, Sc.int IntKind.i64])) [Value.pointer x.fst, Value.int IntKind.i64 0, Value.int IntKind.i64 4661, Value.int IntKind.i64 0] w2
                  fun (x_4 : Int × Int × Int × Int × Unit) (w2 : World) =>
                  AlP w2 { toList := [Value.int IntKind.i64 0, Value.int IntKind.i64 0, Value.int IntKind.i64 0, Value.int IntKind.i64 0] } 32 fun (b_2 : Nat) (w2 : World) =>
                   StP w2 (some { block := b_2, off := 0 }) [Value.int IntKind.i64 x_4.fst, Value.int IntKind.i64 x_4.snd.fst, Value.int IntKind.i64 x_4.snd.snd.fst, Value.int IntKind.i64 x_4.snd.snd.snd.fst] fun (w2 : World) =>
                    CaP Try.prog 10 (Sh.el (El.agg [Sc.int IntKind.i64, Sc.int IntKind.i64, Sc.int IntKind.i64, Sc.int IntKind.i64])) [Value.pointer x.fst, Value.int IntKind.i64 (-1), Value.int IntKind.i64 0, Value.int IntKind.i64 0] w2
                     fun (x : Int × Int × Int × Int × Unit) (w2 : World) =>
                     AlP w2 { toList := [Value.int IntKind.i64 0, Value.int IntKind.i64 0, Value.int IntKind.i64 0, Value.int IntKind.i64 0] } 32 fun (b_3 : Nat) (w2 : World) =>
                      StP w2 (some { block := b_3, off := 0 }) [Value.int IntKind.i64 x.fst, Value.int IntKind.i64 x.snd.fst, Value.int IntKind.i64 x.snd.snd.fst, Value.int IntKind.i64 x.snd.snd.snd.fst] fun (w2 : World) =>
                       LdP w2 (some (s.fst == 3 && x_2.snd.fst)) (some { block := b, off := 0 }) (El.agg [Sc.int IntKind.i64, Sc.int IntKind.i64, Sc.int IntKind.i64, Sc.int IntKind.i64]) fun (x : Int × Int × Int × Int × Unit) =>
                        brP (s.fst == 3 && x_2.snd.fst && (x.fst == 9 && (x.snd.fst == 3 && (x.snd.snd.fst == 0 && (x.snd.snd.snd.fst == 0 && true)))))
                         (CaP Try.prog 16 (Sh.el (El.one Sc.slice)) [Value.pointer x_1] w2 fun (x : Option Addr × Nat × Nat) (w2 : World) =>
                          AlP w2 { toList := [Value.int IntKind.i64 0, Value.int IntKind.i64 1, Value.int IntKind.i64 2, Value.int IntKind.i64 3] } 3 fun (b : Nat) (w2 : World) =>
                           CaP Try.prog 18 (Sh.el (El.one Sc.bool)) [Value.slice x.fst x.snd.fst x.snd.snd, Value.slice (some { block := b, off := 0 }) 4 4] w2 fun (x : Bool) (w2 : World) =>
                            (x = true → true = true) ∧
                             LdP w2 (some x) (addP (some { block := b_1, off := 0 }) 3) (El.one (Sc.int IntKind.i64)) fun (x_5 : Int) =>
                              ((x && x_5 == 7) = true → true = true) ∧
                               LdP w2 (some (x && x_5 == 7)) (addP (some { block := b_1, off := 0 }) 0) (El.one (Sc.int IntKind.i64)) fun (x_6 : Int) =>
                                LdP w2 (some (x && x_5 == 7 && x_6 == 9)) (some { block := b_2, off := 0 }) (El.agg [Sc.int IntKind.i64, Sc.int IntKind.i64, Sc.int IntKind.i64, Sc.int IntKind.i64]) fun (x_7 : Int × Int × Int × Int × Unit) =>
                                 ((x && x_5 == 7 && x_6 == 9 && (x_7.fst == 0 && (x_7.snd.fst == 0 && (x_7.snd.snd.fst == 0 && (x_7.snd.snd.snd.fst == 4 && true))))) = true → true = true) ∧
                                  LdP w2 (some (x && x_5 == 7 && x_6 == 9 && (x_7.fst == 0 && (x_7.snd.fst == 0 && (x_7.snd.snd.fst == 0 && (x_7.snd.snd.snd.fst == 4 && true)))))) (addP (some { block := b_3, off := 0 }) 3)
                                   (El.one (Sc.int IntKind.i64)) fun (x_8 : Int) =>
                                   brP (x && x_5 == 7 && x_6 == 9 && (x_7.fst == 0 && (x_7.snd.fst == 0 && (x_7.snd.snd.fst == 0 && (x_7.snd.snd.snd.fst == 4 && true)))) && x_8 == 1)
                                    (CaP Try.prog 17 (Sh.el (El.one Sc.ptr)) [Value.int IntKind.i64 4096, Value.int IntKind.i64 0, Value.int IntKind.i64 0] w2 fun (x : Option Addr) (w2 : World) =>
                                     ∃ (x_9 : Int × Int × Int × Int × Unit),
                                      (x.isNone = true →
                                        QCalls Try.prog 15 [Value.pointer x_1] w2
                                         (Value.agg { toList := [Value.int IntKind.i64 x_9.fst, Value.int IntKind.i64 x_9.snd.fst, Value.int IntKind.u64 x_9.snd.snd.fst, Value.int IntKind.u64 x_9.snd.snd.snd.fst] })) ∧
                                       EnP w2 fun (w1 : World) => Post (x.isNone && (x_9.fst == 0 && (x_9.snd.fst == 0 && (x_9.snd.snd.fst == 0 && (x_9.snd.snd.snd.fst == 0 && true))))) w1)
                                    (∃ (x : Int × Int × Int × Int × Unit),
                                     (false = true →
                                       QCalls Try.prog 15 [Value.pointer x_1] w2 (Value.agg { toList := [Value.int IntKind.i64 x.fst, Value.int IntKind.i64 x.snd.fst, Value.int IntKind.u64 x.snd.snd.fst, Value.int IntKind.u64 x.snd.snd.snd.fst] })) ∧
                                      EnP w2 fun (w1 : World) => Post false w1))
                         ((false = true → true = true) ∧
                          LdP w2 (some false) (addP (some { block := b_1, off := 0 }) 3) (El.one (Sc.int IntKind.i64)) fun (x : Int) =>
                           (false = true → true = true) ∧
                            LdP w2 (some false) (addP (some { block := b_1, off := 0 }) 0) (El.one (Sc.int IntKind.i64)) fun (x : Int) =>
                             LdP w2 (some false) (some { block := b_2, off := 0 }) (El.agg [Sc.int IntKind.i64, Sc.int IntKind.i64, Sc.int IntKind.i64, Sc.int IntKind.i64]) fun (x : Int × Int × Int × Int × Unit) =>
                              (false = true → true = true) ∧
                               LdP w2 (some false) (addP (some { block := b_3, off := 0 }) 3) (El.one (Sc.int IntKind.i64)) fun (x : Int) =>
                                ∃ (x : Int × Int × Int × Int × Unit),
                                 (false = true →
                                   QCalls Try.prog 15 [Value.pointer x_1] w2 (Value.agg { toList := [Value.int IntKind.i64 x.fst, Value.int IntKind.i64 x.snd.fst, Value.int IntKind.u64 x.snd.snd.fst, Value.int IntKind.u64 x.snd.snd.snd.fst] })) ∧
                                  EnP w2 fun (w1 : World) => Post false w1)))) := by kernel_rfl
theorem lall_vc (p : Option Addr) (m c : Nat) (x y z : Int) (w : World) (Post : Bool → World → Prop) : (rxFn M1 (fun _ => []) 3 [.slice p m c, .agg ⟨[.int .i64 x, .int .i64 y, .int .i64 z]⟩] w Post) = (
 AlP w { toList := [Value.int IntKind.i64 x, Value.int IntKind.i64 y, Value.int IntKind.i64 z] } 23 fun (b : Nat) (w2 : World) =>
  CaP Try.prog 8 (Sh.tup [El.one Sc.ptr, El.one Sc.ptr]) [Value.slice p m c] w2 fun (x : Option Addr × Option Addr × Unit) (w2 : World) =>
   ((!x.fst.isNone) = true → true = true ∧ (0 : Int) ≤ 0 ∧ 0 < (↑3 : Int)) ∧
    LdP w2 (some !x.fst.isNone) (addP (some { block := b, off := 0 }) 0) (El.one (Sc.int IntKind.i64)) fun (x_1 : Int) =>
     ((!x.fst.isNone) = true → true = true ∧ (0 : Int) ≤ 1 ∧ 1 < (↑3 : Int)) ∧
      LdP w2 (some !x.fst.isNone) (addP (some { block := b, off := 0 }) 1) (El.one (Sc.int IntKind.i64)) fun (x_2 : Int) =>
       ((!x.fst.isNone) = true → true = true ∧ (0 : Int) ≤ 2 ∧ 2 < (↑3 : Int)) ∧
        LdP w2 (some !x.fst.isNone) (addP (some { block := b, off := 0 }) 2) (El.one (Sc.int IntKind.i64)) fun (x_3 : Int) =>
         ((!x.fst.isNone) = true → true = true ∧ (0 : Int) ≤ 0 ∧ 0 < (↑3 : Int)) ∧
          LdP w2 (some !x.fst.isNone) (addP (some { block := b, off := 0 }) 0) (El.one (Sc.int IntKind.i64)) fun (x_4 : Int) =>
           ((!x.fst.isNone) = true → true = true ∧ (0 : Int) ≤ 1 ∧ 1 < (↑3 : Int)) ∧
            LdP w2 (some !x.fst.isNone) (addP (some { block := b, off := 0 }) 1) (El.one (Sc.int IntKind.i64)) fun (x_5 : Int) =>
             ((!x.fst.isNone) = true → true = true ∧ (0 : Int) ≤ 2 ∧ 2 < (↑3 : Int)) ∧
              LdP w2 (some !x.fst.isNone) (addP (some { block := b, off := 0 }) 2) (El.one (Sc.int IntKind.i64)) fun (x_6 : Int) =>
               brP (!x.fst.isNone)
                (CaP Try.prog 10 (Sh.el (El.agg [Sc.int IntKind.i64, Sc.int IntKind.i64, Sc.int IntKind.i64, Sc.int IntKind.i64])) [Value.pointer x.fst, Value.int IntKind.i64 x_1, Value.int IntKind.i64 x_2, Value.int IntKind.i64 x_3] w2
                 fun (x_7 : Int × Int × Int × Int × Unit) (w2 : World) =>
                 ((!x.fst.isNone) = true → rdAt w2 (addP (some { block := b, off := 0 }) 2) (El.one (Sc.int IntKind.i64)) x_6) ∧
                  True ∧
                   ((!x.fst.isNone) = true → rdAt w2 (addP (some { block := b, off := 0 }) 1) (El.one (Sc.int IntKind.i64)) x_5) ∧
                    True ∧
                     ((!x.fst.isNone) = true → rdAt w2 (addP (some { block := b, off := 0 }) 0) (El.one (Sc.int IntKind.i64)) x_4) ∧
                      True ∧
                       ∃ (x_8 : Int × Int × Int × Int × Unit),
                        QCalls Try.prog 9 [Value.agg { toList := [Value.int IntKind.i64 x_7.fst, Value.int IntKind.i64 x_7.snd.fst, Value.int IntKind.i64 x_7.snd.snd.fst, Value.int IntKind.i64 x_7.snd.snd.snd.fst] }] w2
                          (Value.agg { toList := [Value.int IntKind.i64 x_8.fst, Value.int IntKind.i64 x_8.snd.fst, Value.int IntKind.i64 x_8.snd.snd.fst, Value.int IntKind.i64 x_8.snd.snd.snd.fst] }) ∧
                         CaP Try.prog 11 (Sh.el (El.agg [Sc.int IntKind.i64, Sc.int IntKind.i64, Sc.int IntKind.i64, Sc.int IntKind.i64])) [Value.pointer x.snd.fst, Value.int IntKind.i64 x_4, Value.int IntKind.i64 x_5, Value.int IntKind.i64 x_6] w2
                          fun (x : Int × Int × Int × Int × Unit) (w2 : World) =>
                          brP (x_8.fst == x.fst && (x_8.snd.fst == x.snd.fst && (x_8.snd.snd.fst == x.snd.snd.fst && (x_8.snd.snd.snd.fst == x.snd.snd.snd.fst && true))))
                           (CaP Try.prog 12 (Sh.el (El.one Sc.bool)) [] w2 fun (x : Bool) (w2 : World) => EnP w2 fun (w1 : World) => Post x w1) (EnP w2 fun (w1 : World) => Post false w1))
                (((!x.fst.isNone) = true → rdAt w2 (addP (some { block := b, off := 0 }) 2) (El.one (Sc.int IntKind.i64)) x_6) ∧
                 True ∧
                  ((!x.fst.isNone) = true → rdAt w2 (addP (some { block := b, off := 0 }) 1) (El.one (Sc.int IntKind.i64)) x_5) ∧
                   True ∧ ((!x.fst.isNone) = true → rdAt w2 (addP (some { block := b, off := 0 }) 0) (El.one (Sc.int IntKind.i64)) x_4) ∧ True ∧ EnP w2 fun (w1 : World) => Post false w1)) := by kernel_rfl
theorem lrights_vc (p : Option Addr) (m c : Nat) (x y : Int) (w : World) (Post : Bool → World → Prop) : (rxFn M1 (fun _ => []) 4 [.slice p m c, .int .u16 x, .int .u8 y] w Post) = (
 CaP Try.prog 8 (Sh.tup [El.one Sc.ptr, El.one Sc.ptr]) [Value.slice p m c] w fun (x_1 : Option Addr × Option Addr × Unit) (w2 : World) =>
  brP x_1.fst.isNone (EnP w2 fun (w1 : World) => Post false w1)
   (CaP Try.prog 10 (Sh.el (El.agg [Sc.int IntKind.i64, Sc.int IntKind.i64, Sc.int IntKind.i64, Sc.int IntKind.i64])) [Value.pointer x_1.fst, Value.int IntKind.i64 0, Value.int IntKind.i64 (convI IntKind.i64 x), Value.int IntKind.i64 0] w2
    fun (x_2 : Int × Int × Int × Int × Unit) (w2 : World) =>
    AlP w2 { toList := [Value.int IntKind.i64 0, Value.int IntKind.i64 0, Value.int IntKind.i64 0, Value.int IntKind.i64 0] } 32 fun (b : Nat) (w2 : World) =>
     StP w2 (some { block := b, off := 0 }) [Value.int IntKind.i64 x_2.fst, Value.int IntKind.i64 x_2.snd.fst, Value.int IntKind.i64 x_2.snd.snd.fst, Value.int IntKind.i64 x_2.snd.snd.snd.fst] fun (w2 : World) =>
      CaP Try.prog 10 (Sh.el (El.agg [Sc.int IntKind.i64, Sc.int IntKind.i64, Sc.int IntKind.i64, Sc.int IntKind.i64]))
       [Value.pointer x_1.fst, Value.int IntKind.i64 0, Value.int IntKind.i64 (convI IntKind.i64 x), Value.int IntKind.i64 (remI (convI IntKind.i64 y) 8)] w2 fun (x : Int × Int × Int × Int × Unit) (w2 : World) =>
       AlP w2 { toList := [Value.int IntKind.i64 0, Value.int IntKind.i64 0, Value.int IntKind.i64 0, Value.int IntKind.i64 0] } 32 fun (b_1 : Nat) (w2 : World) =>
        StP w2 (some { block := b_1, off := 0 }) [Value.int IntKind.i64 x.fst, Value.int IntKind.i64 x.snd.fst, Value.int IntKind.i64 x.snd.snd.fst, Value.int IntKind.i64 x.snd.snd.snd.fst] fun (w2 : World) =>
         true = true ∧
          LdP w2 none (addP (some { block := b, off := 0 }) 3) (El.one (Sc.int IntKind.i64)) fun (x : Int) =>
           brP (x != 0)
            (LdP w2 none (some { block := b_1, off := 0 }) (El.agg [Sc.int IntKind.i64, Sc.int IntKind.i64, Sc.int IntKind.i64, Sc.int IntKind.i64]) fun (x : Int × Int × Int × Int × Unit) =>
             LdP w2 none (some { block := b, off := 0 }) (El.agg [Sc.int IntKind.i64, Sc.int IntKind.i64, Sc.int IntKind.i64, Sc.int IntKind.i64]) fun (x_3 : Int × Int × Int × Int × Unit) =>
              brP (x.fst == x_3.fst && (x.snd.fst == x_3.snd.fst && (x.snd.snd.fst == x_3.snd.snd.fst && (x.snd.snd.snd.fst == x_3.snd.snd.snd.fst && true))))
               (CaP Try.prog 12 (Sh.el (El.one Sc.bool)) [] w2 fun (x : Bool) (w2 : World) => EnP w2 fun (w1 : World) => Post x w1) (EnP w2 fun (w1 : World) => Post false w1))
            (true = true ∧
             LdP w2 none (addP (some { block := b_1, off := 0 }) 0) (El.one (Sc.int IntKind.i64)) fun (x : Int) =>
              true = true ∧
               LdP w2 none (addP (some { block := b, off := 0 }) 0) (El.one (Sc.int IntKind.i64)) fun (x_3 : Int) =>
                ((x == x_3) = true → true = true) ∧
                 LdP w2 (some (x == x_3)) (addP (some { block := b_1, off := 0 }) 1) (El.one (Sc.int IntKind.i64)) fun (x_4 : Int) =>
                  ((x == x_3) = true → true = true) ∧
                   LdP w2 (some (x == x_3)) (addP (some { block := b, off := 0 }) 1) (El.one (Sc.int IntKind.i64)) fun (x_5 : Int) =>
                    ((x == x_3 && x_4 == x_5) = true → true = true) ∧
                     LdP w2 (some (x == x_3 && x_4 == x_5)) (addP (some { block := b_1, off := 0 }) 2) (El.one (Sc.int IntKind.i64)) fun (x_6 : Int) =>
                      ((x == x_3 && x_4 == x_5) = true → true = true) ∧
                       LdP w2 (some (x == x_3 && x_4 == x_5)) (addP (some { block := b, off := 0 }) 2) (El.one (Sc.int IntKind.i64)) fun (x_7 : Int) =>
                        ((x == x_3 && x_4 == x_5 && x_6 == x_7) = true → true = true) ∧
                         LdP w2 (some (x == x_3 && x_4 == x_5 && x_6 == x_7)) (addP (some { block := b_1, off := 0 }) 3) (El.one (Sc.int IntKind.i64)) fun (x_8 : Int) =>
                          ((x == x_3 && x_4 == x_5 && x_6 == x_7) = true → true = true) ∧
                           LdP w2 (some (x == x_3 && x_4 == x_5 && x_6 == x_7)) (addP (some { block := b, off := 0 }) 1) (El.one (Sc.int IntKind.i64)) fun (x_9 : Int) =>
                            ((x == x_3 && x_4 == x_5 && x_6 == x_7 && (x_8 == 0) == (andI IntKind.i64 x_9 (remI (convI IntKind.i64 y) 8) == remI (convI IntKind.i64 y) 8)) = true → true = true) ∧
                             LdP w2 (some (x == x_3 && x_4 == x_5 && x_6 == x_7 && (x_8 == 0) == (andI IntKind.i64 x_9 (remI (convI IntKind.i64 y) 8) == remI (convI IntKind.i64 y) 8))) (addP (some { block := b_1, off := 0 }) 3)
                              (El.one (Sc.int IntKind.i64)) fun (x_10 : Int) =>
                              ((x == x_3 && x_4 == x_5 && x_6 == x_7 && (x_8 == 0) == (andI IntKind.i64 x_9 (remI (convI IntKind.i64 y) 8) == remI (convI IntKind.i64 y) 8) && !x_10 == 0) = true → true = true) ∧
                               LdP w2 (some (x == x_3 && x_4 == x_5 && x_6 == x_7 && (x_8 == 0) == (andI IntKind.i64 x_9 (remI (convI IntKind.i64 y) 8) == remI (convI IntKind.i64 y) 8) && !x_10 == 0)) (addP (some { block := b_1, off := 0 }) 3)
                                (El.one (Sc.int IntKind.i64)) fun (x_11 : Int) =>
                                ((x == x_3 && x_4 == x_5 && x_6 == x_7 && (x_8 == 0) == (andI IntKind.i64 x_9 (remI (convI IntKind.i64 y) 8) == remI (convI IntKind.i64 y) 8) && (x_10 == 0 || x_11 == 7)) = true → true = true) ∧
                                 LdP w2 (some (x == x_3 && x_4 == x_5 && x_6 == x_7 && (x_8 == 0) == (andI IntKind.i64 x_9 (remI (convI IntKind.i64 y) 8) == remI (convI IntKind.i64 y) 8) && (x_10 == 0 || x_11 == 7)))
                                  (addP (some { block := b, off := 0 }) 1) (El.one (Sc.int IntKind.i64)) fun (x_12 : Int) =>
                                  brP (x == x_3 && x_4 == x_5 && x_6 == x_7 && (x_8 == 0) == (andI IntKind.i64 x_9 (remI (convI IntKind.i64 y) 8) == remI (convI IntKind.i64 y) 8) && (x_10 == 0 || x_11 == 7) && decide (x_12 > 0))
                                   (CaP Try.prog 12 (Sh.el (El.one Sc.bool)) [] w2 fun (x : Bool) (w2 : World) => EnP w2 fun (w1 : World) => Post x w1) (EnP w2 fun (w1 : World) => Post false w1)))) := by kernel_rfl
theorem lwnil_vc (x : Int) (w : World) (Post : Bool → World → Prop) : (rxFn M1 (fun _ => []) 5 [.int .u8 x] w Post) = (
 CaP Try.prog 8 (Sh.tup [El.one Sc.ptr, El.one Sc.ptr]) [Value.slice none 0 0] w fun (x_1 : Option Addr × Option Addr × Unit) (w2 : World) =>
  ∃ (x_2 : (Int × Int × Int × Int × Unit) × Bool × Unit),
   QCalls Try.prog 13 [Value.pointer none] w2
     (Value.tuple { toList := [Value.agg { toList := [Value.int IntKind.i64 x_2.fst.fst, Value.int IntKind.i64 x_2.fst.snd.fst, Value.int IntKind.i64 x_2.fst.snd.snd.fst, Value.int IntKind.i64 x_2.fst.snd.snd.snd.fst] }, Value.bool x_2.snd.fst] }) ∧
    AlP w2 { toList := [Value.int IntKind.i64 0, Value.int IntKind.i64 0, Value.int IntKind.i64 0, Value.int IntKind.i64 0] } 32 fun (b : Nat) (w2 : World) =>
     StP w2 (some { block := b, off := 0 }) [Value.int IntKind.i64 x_2.fst.fst, Value.int IntKind.i64 x_2.fst.snd.fst, Value.int IntKind.i64 x_2.fst.snd.snd.fst, Value.int IntKind.i64 x_2.fst.snd.snd.snd.fst] fun (w2 : World) =>
      brP (!x_1.fst.isNone)
       (CaP Try.prog 14 (Sh.el (El.one Sc.bool)) [Value.pointer none, Value.pointer x_1.fst] w2 fun (x_3 : Bool) (w2 : World) =>
        ∃ (x_4 : Int × Int × Int × Int × Unit),
         ((!x_3) = true → QCalls Try.prog 15 [Value.pointer none] w2 (Value.agg { toList := [Value.int IntKind.i64 x_4.fst, Value.int IntKind.i64 x_4.snd.fst, Value.int IntKind.u64 x_4.snd.snd.fst, Value.int IntKind.u64 x_4.snd.snd.snd.fst] })) ∧
          LdP w2 (some (!x_3 && (x_4.fst == 0 && (x_4.snd.fst == 0 && (x_4.snd.snd.fst == 0 && (x_4.snd.snd.snd.fst == 0 && true)))))) (some { block := b, off := 0 })
           (El.agg [Sc.int IntKind.i64, Sc.int IntKind.i64, Sc.int IntKind.i64, Sc.int IntKind.i64]) fun (x_5 : Int × Int × Int × Int × Unit) =>
           brP (!x_3 && (x_4.fst == 0 && (x_4.snd.fst == 0 && (x_4.snd.snd.fst == 0 && (x_4.snd.snd.snd.fst == 0 && true)))) && (x_5.fst == 0 && (x_5.snd.fst == 0 && (x_5.snd.snd.fst == 0 && (x_5.snd.snd.snd.fst == 0 && true)))) && !x_2.snd.fst)
            (CaP Try.prog 16 (Sh.el (El.one Sc.slice)) [Value.pointer none] w2 fun (x_6 : Option Addr × Nat × Nat) (w2 : World) =>
             brP ((↑x_6.snd.fst : Int) == 0 && decide (convI IntKind.i64 x ≥ 0)) (CaP Try.prog 12 (Sh.el (El.one Sc.bool)) [] w2 fun (x : Bool) (w2 : World) => EnP w2 fun (w1 : World) => Post x w1) (EnP w2 fun (w1 : World) => Post false w1))
            (EnP w2 fun (w1 : World) => Post false w1))
       (∃ (x : Int × Int × Int × Int × Unit),
        (false = true → QCalls Try.prog 15 [Value.pointer none] w2 (Value.agg { toList := [Value.int IntKind.i64 x.fst, Value.int IntKind.i64 x.snd.fst, Value.int IntKind.u64 x.snd.snd.fst, Value.int IntKind.u64 x.snd.snd.snd.fst] })) ∧
         LdP w2 (some false) (some { block := b, off := 0 }) (El.agg [Sc.int IntKind.i64, Sc.int IntKind.i64, Sc.int IntKind.i64, Sc.int IntKind.i64]) fun (x : Int × Int × Int × Int × Unit) => EnP w2 fun (w1 : World) => Post false w1)) := by kernel_rfl
theorem lfresh_vc (x y z : Int) (w : World) (Post : Bool → World → Prop) : (rxFn M1 (fun _ => []) 6 [.int .u8 x, .int .u16 y, .int .u8 z] w Post) = (
 CaP Try.prog 8 (Sh.tup [El.one Sc.ptr, El.one Sc.ptr]) [Value.slice none 0 0] w fun (x_1 : Option Addr × Option Addr × Unit) (w2 : World) =>
  CaP Try.prog 17 (Sh.el (El.one Sc.ptr)) [Value.int IntKind.i64 (remI (convI IntKind.i64 x) 10), Value.int IntKind.i64 (convI IntKind.i64 y), Value.int IntKind.i64 (remI (convI IntKind.i64 z) 8)] w2 fun (x_2 : Option Addr) (w2 : World) =>
   brP (x_1.fst.isNone || x_2.isNone) (EnP w2 fun (w1 : World) => Post false w1)
    (CaP Try.prog 14 (Sh.el (El.one Sc.bool)) [Value.pointer x_2, Value.pointer x_1.fst] w2 fun (x_3 : Bool) (w2 : World) =>
     ∃ (x_4 : (Int × Int × Int × Int × Unit) × Bool × Unit),
      QCalls Try.prog 13 [Value.pointer x_2] w2
        (Value.tuple
         { toList := [Value.agg { toList := [Value.int IntKind.i64 x_4.fst.fst, Value.int IntKind.i64 x_4.fst.snd.fst, Value.int IntKind.i64 x_4.fst.snd.snd.fst, Value.int IntKind.i64 x_4.fst.snd.snd.snd.fst] }, Value.bool x_4.snd.fst] }) ∧
       AlP w2 { toList := [Value.int IntKind.i64 0, Value.int IntKind.i64 0, Value.int IntKind.i64 0, Value.int IntKind.i64 0] } 32 fun (b : Nat) (w2 : World) =>
        StP w2 (some { block := b, off := 0 }) [Value.int IntKind.i64 x_4.fst.fst, Value.int IntKind.i64 x_4.fst.snd.fst, Value.int IntKind.i64 x_4.fst.snd.snd.fst, Value.int IntKind.i64 x_4.fst.snd.snd.snd.fst] fun (w2 : World) =>
         LdP w2 (some (x_3 && x_4.snd.fst)) (some { block := b, off := 0 }) (El.agg [Sc.int IntKind.i64, Sc.int IntKind.i64, Sc.int IntKind.i64, Sc.int IntKind.i64]) fun (x_5 : Int × Int × Int × Int × Unit) =>
          brP (x_3 && x_4.snd.fst && (x_5.fst == 0 && (x_5.snd.fst == 0 && (x_5.snd.snd.fst == 3 && (x_5.snd.snd.snd.fst == 4 && true)))))
           (CaP Try.prog 16 (Sh.el (El.one Sc.slice)) [Value.pointer x_2] w2 fun (x_6 : Option Addr × Nat × Nat) (w2 : World) =>
            AlP w2 { toList := [Value.int IntKind.i64 (remI (convI IntKind.i64 x) 10)] } 3 fun (b : Nat) (w2 : World) =>
             CaP Try.prog 18 (Sh.el (El.one Sc.bool)) [Value.slice x_6.fst x_6.snd.fst x_6.snd.snd, Value.slice (some { block := b, off := 0 }) 1 1] w2 fun (x : Bool) (w2 : World) =>
              brP x (CaP Try.prog 12 (Sh.el (El.one Sc.bool)) [] w2 fun (x : Bool) (w2 : World) => EnP w2 fun (w1 : World) => Post x w1) (EnP w2 fun (w1 : World) => Post false w1))
           (EnP w2 fun (w1 : World) => Post false w1))) := by kernel_rfl
def lfew_vc_ann : Nat → Slots := (fun | 9 => [(15, Go.RX.El.one (Go.RX.Sc.int Go.IntKind.i64))] | 17 => [(19, Go.RX.El.one (Go.RX.Sc.int Go.IntKind.i64))] | _ => [])
theorem lfew_vc (p : Option Addr) (m c : Nat) (x y z : Int) (w : World) (Post : Bool → World → Prop) : (rxFn M1 lfew_vc_ann 7 [.slice p m c, .int .u16 x, .agg ⟨[.int .i64 y, .int .u64 z]⟩] w Post) = (
 AlP w { toList := [Value.int IntKind.i64 y, Value.int IntKind.u64 z] } 54 fun (b : Nat) (w2 : World) =>
  CaP Try.prog 8 (Sh.tup [El.one Sc.ptr, El.one Sc.ptr]) [Value.slice p m c] w2 fun (x_1 : Option Addr × Option Addr × Unit) (w2 : World) =>
   CaP Try.prog 17 (Sh.el (El.one Sc.ptr)) [Value.int IntKind.i64 0, Value.int IntKind.i64 (convI IntKind.i64 x), Value.int IntKind.i64 0] w2 fun (x_2 : Option Addr) (w2 : World) =>
    brP (x_1.fst.isNone || x_2.isNone) (EnP w2 fun (w1 : World) => Post false w1)
     (∃ (x_3 : Int × Int × Unit),
      QCalls Try.prog 19 [Value.pointer x_1.fst] w2 (Value.tuple { toList := [Value.int IntKind.i64 x_3.fst, Value.int IntKind.i64 x_3.snd.fst] }) ∧
       CaP Try.prog 10 (Sh.el (El.agg [Sc.int IntKind.i64, Sc.int IntKind.i64, Sc.int IntKind.i64, Sc.int IntKind.i64])) [Value.pointer x_1.fst, Value.int IntKind.i64 0, Value.int IntKind.i64 (convI IntKind.i64 x), Value.int IntKind.i64 0] w2
        fun (x_4 : Int × Int × Int × Int × Unit) (w2 : World) =>
        AlP w2 { toList := [Value.int IntKind.i64 0, Value.int IntKind.i64 0, Value.int IntKind.i64 0, Value.int IntKind.i64 0] } 32 fun (b_1 : Nat) (w2 : World) =>
         StP w2 (some { block := b_1, off := 0 }) [Value.int IntKind.i64 x_4.fst, Value.int IntKind.i64 x_4.snd.fst, Value.int IntKind.i64 x_4.snd.snd.fst, Value.int IntKind.i64 x_4.snd.snd.snd.fst] fun (w2 : World) =>
          ∃ (x_5 : Int × Int × Unit),
           QCalls Try.prog 19 [Value.pointer x_1.fst] w2 (Value.tuple { toList := [Value.int IntKind.i64 x_5.fst, Value.int IntKind.i64 x_5.snd.fst] }) ∧
            ∃ (I : Nat → Int × Unit → World → Prop),
             (∃ (n : Nat), ∀ (w1 : World), Ext w2 w1 → I n (0, Unit.unit) w1) ∧
              ∀ (n : Nat) (s : Int × Unit) (w1 : World),
               I n s w1 →
                brP (decide (s.fst < 4))
                 (CaP Try.prog 14 (Sh.el (El.one Sc.bool)) [Value.pointer x_2, Value.pointer x_1.fst] w1 fun (x : Bool) (w2 : World) => ∀ (w3 : World), Ext w2 w3 → ∃ (n' : Nat), n' < n ∧ I n' (addI IntKind.i64 s.fst 1, Unit.unit) w3)
                 (∃ (x_6 : (Int × Int × Int × Int × Unit) × Bool × Unit),
                  QCalls Try.prog 13 [Value.pointer x_2] w1
                    (Value.tuple
                     {
                      toList := [Value.agg { toList := [Value.int IntKind.i64 x_6.fst.fst, Value.int IntKind.i64 x_6.fst.snd.fst, Value.int IntKind.i64 x_6.fst.snd.snd.fst, Value.int IntKind.i64 x_6.fst.snd.snd.snd.fst] }, Value.bool x_6.snd.fst] }) ∧
                   AlP w1 { toList := [Value.int IntKind.i64 0, Value.int IntKind.i64 0, Value.int IntKind.i64 0, Value.int IntKind.i64 0] } 32 fun (b_2 : Nat) (w2 : World) =>
                    StP w2 (some { block := b_2, off := 0 }) [Value.int IntKind.i64 x_6.fst.fst, Value.int IntKind.i64 x_6.fst.snd.fst, Value.int IntKind.i64 x_6.fst.snd.snd.fst, Value.int IntKind.i64 x_6.fst.snd.snd.snd.fst] fun (w2 : World) =>
                     CaP Try.prog 16 (Sh.el (El.one Sc.slice)) [Value.pointer x_2] w2 fun (x_7 : Option Addr × Nat × Nat) (w2 : World) =>
                      LdP w2 (some !!x_6.snd.fst) (some { block := b_2, off := 0 }) (El.agg [Sc.int IntKind.i64, Sc.int IntKind.i64, Sc.int IntKind.i64, Sc.int IntKind.i64]) fun (x_8 : Int × Int × Int × Int × Unit) =>
                       LdP w2 (some !!x_6.snd.fst) (some { block := b_1, off := 0 }) (El.agg [Sc.int IntKind.i64, Sc.int IntKind.i64, Sc.int IntKind.i64, Sc.int IntKind.i64]) fun (x_9 : Int × Int × Int × Int × Unit) =>
                        ((!(!x_6.snd.fst || !(x_8.fst == x_9.fst && (x_8.snd.fst == x_9.snd.fst && (x_8.snd.snd.fst == x_9.snd.snd.fst && (x_8.snd.snd.snd.fst == x_9.snd.snd.snd.fst && true)))) || decide (subI IntKind.i64 x_5.fst x_3.fst > 4) ||
                              decide ((↑x_7.snd.fst : Int) < 1) ||
                             decide ((↑x_7.snd.fst : Int) > 4))) =
                           true →
                          x_7.fst.isSome = true ∧ (0 : Int) ≤ 0 ∧ 0 < (↑x_7.snd.fst : Int)) ∧
                         LdP w2
                          (some
                           !(!x_6.snd.fst || !(x_8.fst == x_9.fst && (x_8.snd.fst == x_9.snd.fst && (x_8.snd.snd.fst == x_9.snd.snd.fst && (x_8.snd.snd.snd.fst == x_9.snd.snd.snd.fst && true)))) || decide (subI IntKind.i64 x_5.fst x_3.fst > 4) ||
                              decide ((↑x_7.snd.fst : Int) < 1) ||
                             decide ((↑x_7.snd.fst : Int) > 4)))
                          (addP x_7.fst 0) (El.one (Sc.int IntKind.i64)) fun (x_10 : Int) =>
                          brP
                           (!x_6.snd.fst || !(x_8.fst == x_9.fst && (x_8.snd.fst == x_9.snd.fst && (x_8.snd.snd.fst == x_9.snd.snd.fst && (x_8.snd.snd.snd.fst == x_9.snd.snd.snd.fst && true)))) || decide (subI IntKind.i64 x_5.fst x_3.fst > 4) ||
                              decide ((↑x_7.snd.fst : Int) < 1) ||
                             decide ((↑x_7.snd.fst : Int) > 4) ||
                            x_10 != 0)
                           (EnP w2 fun (w1 : World) => Post false w1)
                           (∃ (I : Nat → Int × Unit → World → Prop),
                            (∃ (n : Nat), ∀ (w1 : World), Ext w2 w1 → I n (0, Unit.unit) w1) ∧
                             ∀ (n : Nat) (s : Int × Unit) (w1 : World),
                              I n s w1 →
                               brP (decide (s.fst < (↑x_7.snd.fst : Int)))
                                (true = true ∧
                                 LdP w1 none (addP (some { block := b, off := 0 }) 0) (El.one (Sc.int IntKind.i64)) fun (x_11 : Int) =>
                                  (x_7.fst.isSome = true ∧ 0 ≤ s.fst ∧ s.fst < (↑x_7.snd.fst : Int)) ∧
                                   LdP w1 none (addP x_7.fst (Int.toNat s.fst * 1)) (El.one (Sc.int IntKind.i64)) fun (x_12 : Int) =>
                                    True ∧
                                     brP (x_11 == atI x_12 (convI IntKind.i64 x) (subI IntKind.i64 3 s.fst)) (CaP Try.prog 12 (Sh.el (El.one Sc.bool)) [] w1 fun (x : Bool) (w2 : World) => EnP w2 fun (w1 : World) => Post x w1)
                                      (∀ (w3 : World), Ext w1 w3 → ∃ (n' : Nat), n' < n ∧ I n' (addI IntKind.i64 s.fst 1, Unit.unit) w3))
                                (true = true ∧
                                 LdP w1 none (addP (some { block := b, off := 0 }) 0) (El.one (Sc.int IntKind.i64)) fun (x_11 : Int) =>
                                  true = true ∧
                                   LdP w1 none (addP (some { block := b, off := 0 }) 1) (El.one (Sc.int IntKind.u64)) fun (x_12 : Int) =>
                                    CaP Try.prog 21 (Sh.el (El.one (Sc.int IntKind.i64))) [Value.pointer x_1.fst, Value.int IntKind.i64 x_11, Value.int IntKind.u64 x_12] w1 fun (x_13 : Int) (w2 : World) =>
                                     LdP w2 none (some { block := b_1, off := 0 }) (El.agg [Sc.int IntKind.i64, Sc.int IntKind.i64, Sc.int IntKind.i64, Sc.int IntKind.i64]) fun (x_14 : Int × Int × Int × Int × Unit) =>
                                      CaP Try.prog 10 (Sh.el (El.agg [Sc.int IntKind.i64, Sc.int IntKind.i64, Sc.int IntKind.i64, Sc.int IntKind.i64]))
                                       [Value.pointer x_1.fst, Value.int IntKind.i64 0, Value.int IntKind.i64 (convI IntKind.i64 x), Value.int IntKind.i64 0] w2 fun (x : Int × Int × Int × Int × Unit) (w2 : World) =>
                                       rdAt w2 (some { block := b_1, off := 0 }) (El.agg [Sc.int IntKind.i64, Sc.int IntKind.i64, Sc.int IntKind.i64, Sc.int IntKind.i64]) x_14 ∧
                                        brP (x.fst == x_14.fst && (x.snd.fst == x_14.snd.fst && (x.snd.snd.fst == x_14.snd.snd.fst && (x.snd.snd.snd.fst == x_14.snd.snd.snd.fst && true))))
                                         (CaP Try.prog 12 (Sh.el (El.one Sc.bool)) [] w2 fun (x : Bool) (w2 : World) => EnP w2 fun (w1 : World) => Post x w1) (EnP w2 fun (w1 : World) => Post false w1)))))) := by kernel_rfl
end Go.Proofs.Ytffnfcokgemgjaa
