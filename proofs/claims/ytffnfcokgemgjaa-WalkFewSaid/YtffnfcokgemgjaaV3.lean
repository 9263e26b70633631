import Derived.Test.YtffnfcokgemgjaaV2
namespace Go.Proofs.Ytffnfcokgemgjaa
set_option linter.unusedSimpArgs false
set_option linter.unusedVariables false
set_option maxRecDepth 100000
open Go.RX
abbrev sR : List Sc := [.int .u64, .bool, .int .i64]
abbrev RT : Type := Int × Bool × Int × Unit
abbrev sA : List Sc := [.int .i64, .int .i64, .int .u64, .int .u64]
abbrev sF : List Sc := [.int .i64, .int .i64, .int .i64, .int .i64]
noncomputable def M1 : Cfg Try.prog := { M0 with quiet := [15, 13, 19, 25, 9] }
noncomputable def M2 : Cfg Try.prog := { M1 with dyn := some (.el (.agg sR)) }
noncomputable def M3 : Cfg Try.prog := { M1 with dyn := some (.tup []) }
theorem dload_vc (k i a b : Int) (m : Option Addr) (w : World) (Post : RT → World → Prop) : (rxFnR M1 (fun _ => []) 41 [.agg ⟨[.int .i64 k, .int .i64 i, .int .u64 a, .int .u64 b]⟩, .pointer m] w Post) = (
 AlP w { toList := [Value.int IntKind.i64 k, Value.int IntKind.i64 i, Value.int IntKind.u64 a, Value.int IntKind.u64 b] } 103 fun (b : Nat) (w2 : World) =>
  AlP w2 { toList := [Value.int IntKind.u64 0, Value.bool false, Value.int IntKind.i64 0] } 73 fun (b_1 : Nat) (w2 : World) =>
   true = true ∧
    LdP w2 none (addP (some { block := b, off := 0 }) 1) (El.one (Sc.int IntKind.i64)) fun (x : Int) =>
     CaP Try.prog 63 (Sh.tup [El.one (Sc.int IntKind.u64), El.one (Sc.int IntKind.i64)]) [Value.pointer m, Value.int IntKind.i64 x] w2 fun (x : Int × Int × Unit) (w2 : World) =>
      StP w2 (some { block := b_1, off := 0 }) [Value.int IntKind.u64 x.fst, Value.bool false, Value.int IntKind.i64 x.snd.fst] fun (w2 : World) =>
       EnP w2 fun (w1 : World) => LdP w1 none (some { block := b_1, off := 0 }) (El.agg [Sc.int IntKind.u64, Sc.bool, Sc.int IntKind.i64]) fun (x : Int × Bool × Int × Unit) => Post (x.fst, x.snd.fst, x.snd.snd.fst, Unit.unit) w1) := by kernel_rfl
theorem do_vc (m : Option Addr) (k i a b : Int) (w : World) (Post : RT → World → Prop) : (rxFnR M2 (fun _ => []) 28 [.pointer m, .agg ⟨[.int .i64 k, .int .i64 i, .int .u64 a, .int .u64 b]⟩] w Post) = (
 AlP w { toList := [Value.int IntKind.i64 k, Value.int IntKind.i64 i, Value.int IntKind.u64 a, Value.int IntKind.u64 b] } 45 fun (b : Nat) (w2 : World) =>
  AlP w2 { toList := [Value.int IntKind.u64 0, Value.bool false, Value.int IntKind.i64 0] } 73 fun (b_1 : Nat) (w2 : World) =>
   ∀ (w1 : World),
    Ext w2 w1 →
     ∀ (w1_1 : World),
      Ext (w1.alloc (Obj.map { toList := [] } 0)) w1_1 →
       ∃ (r : Nat),
        ∃ (es : Array MapEntry),
         ∃ (clock : Nat),
          some w1.heap.size = some r ∧
           MapO w1_1 r es clock ∧
            mUp w1_1 r IntKind.i64 1 (Value.func (Fn.func 41) { toList := [] } { toList := [] }) es clock fun (w2 : World) =>
             ∀ (w1_2 : World),
              Ext w2 w1_2 →
               ∃ (r : Nat),
                ∃ (es : Array MapEntry),
                 ∃ (clock : Nat),
                  some w1.heap.size = some r ∧
                   MapO w1_2 r es clock ∧
                    mUp w1_2 r IntKind.i64 2 (Value.func (Fn.func 42) { toList := [] } { toList := [] }) es clock fun (w2 : World) =>
                     ∀ (w1_3 : World),
                      Ext w2 w1_3 →
                       ∃ (r : Nat),
                        ∃ (es : Array MapEntry),
                         ∃ (clock : Nat),
                          some w1.heap.size = some r ∧
                           MapO w1_3 r es clock ∧
                            mUp w1_3 r IntKind.i64 3 (Value.func (Fn.func 43) { toList := [] } { toList := [] }) es clock fun (w2 : World) =>
                             ∀ (w1_4 : World),
                              Ext w2 w1_4 →
                               ∃ (r : Nat),
                                ∃ (es : Array MapEntry),
                                 ∃ (clock : Nat),
                                  some w1.heap.size = some r ∧
                                   MapO w1_4 r es clock ∧
                                    mUp w1_4 r IntKind.i64 4 (Value.func (Fn.func 44) { toList := [] } { toList := [] }) es clock fun (w2 : World) =>
                                     true = true ∧
                                      LdP w2 none (addP (some { block := b, off := 0 }) 0) (El.one (Sc.int IntKind.i64)) fun (x : Int) =>
                                       ∃ (x_1 : Value),
                                        ∃ (b_2 : Bool),
                                         lookO2 w2 (some w1.heap.size) IntKind.i64 x Value.nilFunc x_1 b_2 ∧
                                          brP (!b_2)
                                           (StP w2 (some { block := b_1, off := 0 }) [Value.int IntKind.u64 0, Value.bool false, Value.int IntKind.i64 1] fun (w2 : World) =>
                                            EnP w2 fun (w1 : World) =>
                                             LdP w1 none (some { block := b_1, off := 0 }) (El.agg [Sc.int IntKind.u64, Sc.bool, Sc.int IntKind.i64]) fun (x : Int × Bool × Int × Unit) => Post (x.fst, x.snd.fst, x.snd.snd.fst, Unit.unit) w1)
                                           (LdP w2 none (some { block := b, off := 0 }) (El.agg [Sc.int IntKind.i64, Sc.int IntKind.i64, Sc.int IntKind.u64, Sc.int IntKind.u64]) fun (x : Int × Int × Int × Int × Unit) =>
                                            CaV Try.prog x_1 (Sh.el (El.agg [Sc.int IntKind.u64, Sc.bool, Sc.int IntKind.i64]))
                                             [Value.agg { toList := [Value.int IntKind.i64 x.fst, Value.int IntKind.i64 x.snd.fst, Value.int IntKind.u64 x.snd.snd.fst, Value.int IntKind.u64 x.snd.snd.snd.fst] }, Value.pointer m] w2
                                             fun (x : Int × Bool × Int × Unit) (w2 : World) =>
                                             StP w2 (some { block := b_1, off := 0 }) [Value.int IntKind.u64 x.fst, Value.bool x.snd.fst, Value.int IntKind.i64 x.snd.snd.fst] fun (w2 : World) =>
                                              EnP w2 fun (w1 : World) =>
                                               LdP w1 none (some { block := b_1, off := 0 }) (El.agg [Sc.int IntKind.u64, Sc.bool, Sc.int IntKind.i64]) fun (x : Int × Bool × Int × Unit) => Post (x.fst, x.snd.fst, x.snd.snd.fst, Unit.unit) w1)) := by kernel_rfl
theorem wnew_vc (f p t : Int) (w : World) (Post : Option Addr → World → Prop) : (rxFn M1 (fun _ => []) 17 [.int .i64 f, .int .i64 p, .int .i64 t] w Post) = (
 AlP w
  {
   toList :=
    [Value.int IntKind.i64 f, Value.int IntKind.i64 p, Value.int IntKind.i64 t, Value.int IntKind.i64 3, Value.int IntKind.i64 0, Value.int IntKind.i64 0, Value.int IntKind.i64 0, Value.int IntKind.i64 0, Value.slice none 0 0, Value.bool true] }
  65 fun (b : Nat) (w2 : World) => True ∧ brP (decide (atI f p (3 : Int) < 0) || decide (t < 0) || decide (t > 7)) (EnP w2 fun (w1 : World) => Post none w1) (EnP w2 fun (w1 : World) => Post (some { block := b, off := 0 }) w1)) := by kernel_rfl
theorem wnext_vc (p : Option Addr) (w : World) (Post : (Int × Int × Int × Int × Unit) → World → Prop) : (rxFnR M1 (fun _ => []) 15 [.pointer p] w Post) = (
 AlP w { toList := [Value.int IntKind.i64 0, Value.int IntKind.i64 0, Value.int IntKind.u64 0, Value.int IntKind.u64 0] } 45 fun (b : Nat) (w2 : World) =>
  ((!p.isNone) = true → p.isSome = true) ∧
   ((!p.isNone) = true → p.isSome = true) ∧
    LdP w2 (some !p.isNone) (addP p 9) (El.one Sc.bool) fun (x : Bool) =>
     ((!(p.isNone || !x)) = true → p.isSome = true) ∧
      ((!(p.isNone || !x)) = true → p.isSome = true) ∧
       LdP w2 (some !(p.isNone || !x)) (addP p 3) (El.one (Sc.int IntKind.i64)) fun (x_1 : Int) =>
        brP (p.isNone || !x || x_1 == -1)
         (StP w2 (some { block := b, off := 0 }) [Value.int IntKind.i64 0, Value.int IntKind.i64 0, Value.int IntKind.u64 0, Value.int IntKind.u64 0] fun (w2 : World) =>
          EnP w2 fun (w1 : World) =>
           LdP w1 none (some { block := b, off := 0 }) (El.agg [Sc.int IntKind.i64, Sc.int IntKind.i64, Sc.int IntKind.u64, Sc.int IntKind.u64]) fun (x : Int × Int × Int × Int × Unit) =>
            Post (x.fst, x.snd.fst, x.snd.snd.fst, x.snd.snd.snd.fst, Unit.unit) w1)
         (p.isSome = true ∧
          p.isSome = true ∧
           LdP w2 none (addP p 0) (El.one (Sc.int IntKind.i64)) fun (x : Int) =>
            p.isSome = true ∧
             p.isSome = true ∧
              LdP w2 none (addP p 1) (El.one (Sc.int IntKind.i64)) fun (x_2 : Int) =>
               p.isSome = true ∧
                p.isSome = true ∧
                 LdP w2 none (addP p 3) (El.one (Sc.int IntKind.i64)) fun (x_3 : Int) =>
                  True ∧
                   StP w2 (some { block := b, off := 0 }) [Value.int IntKind.i64 1, Value.int IntKind.i64 (atI x x_2 x_3), Value.int IntKind.u64 0, Value.int IntKind.u64 0] fun (w2 : World) =>
                    EnP w2 fun (w1 : World) =>
                     LdP w1 none (some { block := b, off := 0 }) (El.agg [Sc.int IntKind.i64, Sc.int IntKind.i64, Sc.int IntKind.u64, Sc.int IntKind.u64]) fun (x : Int × Int × Int × Int × Unit) =>
                      Post (x.fst, x.snd.fst, x.snd.snd.fst, x.snd.snd.snd.fst, Unit.unit) w1)) := by kernel_rfl
theorem wend_vc (p : Option Addr) (a b c d : Int) (w : World) (Post : Unit → World → Prop) : (rxFn M1 (fun _ => []) 30 [.pointer p, .agg ⟨[.int .i64 a, .int .i64 b, .int .i64 c, .int .i64 d]⟩] w Post) = (
 AlP w { toList := [Value.int IntKind.i64 a, Value.int IntKind.i64 b, Value.int IntKind.i64 c, Value.int IntKind.i64 d] } 32 fun (b : Nat) (w2 : World) =>
  p.isSome = true ∧
   p.isSome = true ∧
    LdP w2 none (addP p 3) (El.one (Sc.int IntKind.i64)) fun (x : Int) =>
     true = true ∧
      StP w2 (addP (some { block := b, off := 0 }) 2) [Value.int IntKind.i64 x] fun (w2 : World) =>
       LdP w2 none (some { block := b, off := 0 }) (El.agg [Sc.int IntKind.i64, Sc.int IntKind.i64, Sc.int IntKind.i64, Sc.int IntKind.i64]) fun (x : Int × Int × Int × Int × Unit) =>
        p.isSome = true ∧
         p.isSome = true ∧
          StP w2 (addP p 4) [Value.int IntKind.i64 x.fst, Value.int IntKind.i64 x.snd.fst, Value.int IntKind.i64 x.snd.snd.fst, Value.int IntKind.i64 x.snd.snd.snd.fst] fun (w2 : World) =>
           p.isSome = true ∧ p.isSome = true ∧ StP w2 (addP p 3) [Value.int IntKind.i64 (-1)] fun (w2 : World) => EnP w2 fun (w1 : World) => Post Unit.unit w1) := by kernel_rfl
theorem win_vc (p : Option Addr) (fr : Int) (ep : Bool) (er : Int) (el : Bool) (ef : Int) (w : World) (Post : Unit → World → Prop) : (rxFn M1 (fun _ => []) 51 [.pointer p, .int .i64 fr, .agg ⟨[.bool ep, .int .i64 er, .bool el, .int .i64 ef]⟩] w Post) = (
 AlP w { toList := [Value.bool ep, Value.int IntKind.i64 er, Value.bool el, Value.int IntKind.i64 ef] } 76 fun (b : Nat) (w2 : World) =>
  brP (decide (fr ≥ 4096))
   (CaP Try.prog 30 (Sh.tup []) [Value.pointer p, Value.agg { toList := [Value.int IntKind.i64 0, Value.int IntKind.i64 0, Value.int IntKind.i64 0, Value.int IntKind.i64 11] }] w2 fun (x : Unit) (w2 : World) =>
    EnP w2 fun (w1 : World) => Post Unit.unit w1)
   (LdP w2 none (some { block := b, off := 0 }) (El.agg [Sc.bool, Sc.int IntKind.i64, Sc.bool, Sc.int IntKind.i64]) fun (x : Bool × Int × Bool × Int × Unit) =>
    p.isSome = true ∧
     p.isSome = true ∧
      LdP w2 none (addP p 2) (El.one (Sc.int IntKind.i64)) fun (x_1 : Int) =>
       True ∧
        brP (!allowsE x.fst x.snd.fst x.snd.snd.fst x.snd.snd.snd.fst x_1)
         (true = true ∧
          LdP w2 none (addP (some { block := b, off := 0 }) 1) (El.one (Sc.int IntKind.i64)) fun (x : Int) =>
           CaP Try.prog 30 (Sh.tup []) [Value.pointer p, Value.agg { toList := [Value.int IntKind.i64 fr, Value.int IntKind.i64 x, Value.int IntKind.i64 0, Value.int IntKind.i64 7] }] w2 fun (x : Unit) (w2 : World) =>
            EnP w2 fun (w1 : World) => Post Unit.unit w1)
         (true = true ∧
          LdP w2 none (addP (some { block := b, off := 0 }) 1) (El.one (Sc.int IntKind.i64)) fun (x : Int) =>
           CaP Try.prog 30 (Sh.tup []) [Value.pointer p, Value.agg { toList := [Value.int IntKind.i64 fr, Value.int IntKind.i64 x, Value.int IntKind.i64 0, Value.int IntKind.i64 0] }] w2 fun (x : Unit) (w2 : World) =>
            EnP w2 fun (w1 : World) => Post Unit.unit w1))) := by kernel_rfl
theorem took1_vc (pw : Option Addr) (w : World) (Post : Unit → World → Prop) : (rxFn M1 (fun _ => []) 47 [.pointer pw] w Post) = (
 LdP w none pw (El.one Sc.ptr) fun (x : Option Addr) =>
  CaP Try.prog 30 (Sh.tup []) [Value.pointer x, Value.agg { toList := [Value.int IntKind.i64 0, Value.int IntKind.i64 0, Value.int IntKind.i64 0, Value.int IntKind.i64 4] }] w fun (x : Unit) (w2 : World) =>
   EnP w2 fun (w1 : World) => Post Unit.unit w1) := by kernel_rfl
theorem took2_vc (pe pw : Option Addr) (w : World) (Post : Unit → World → Prop) : (rxFn M1 (fun _ => []) 49 [.pointer pe, .pointer pw] w Post) = (
 LdP w none pw (El.one Sc.ptr) fun (x : Option Addr) =>
  LdP w none pw (El.one Sc.ptr) fun (x_1 : Option Addr) =>
   pe.isSome = true ∧
    LdP w none (addP pe 3) (El.one (Sc.int IntKind.i64)) fun (x_2 : Int) =>
     LdP w none pw (El.one Sc.ptr) fun (x_3 : Option Addr) =>
      x_3.isSome = true ∧
       x_3.isSome = true ∧
        LdP w none (addP x_3 3) (El.one (Sc.int IntKind.i64)) fun (x_4 : Int) =>
         x.isSome = true ∧
          x.isSome = true ∧
           StP w (addP x 0) [Value.int IntKind.i64 x_2] fun (w2 : World) =>
            True ∧ rdAt w2 pw (El.one Sc.ptr) x_1 ∧ x_1.isSome = true ∧ x_1.isSome = true ∧ StP w2 (addP x_1 3) [Value.int IntKind.i64 (subI IntKind.i64 x_4 1)] fun (w2 : World) => EnP w2 fun (w1 : World) => Post Unit.unit w1) := by kernel_rfl
theorem took3_vc (pw pe : Option Addr) (w : World) (Post : Unit → World → Prop) : (rxFn M1 (fun _ => []) 50 [.pointer pw, .pointer pe] w Post) = (
 LdP w none pw (El.one Sc.ptr) fun (x : Option Addr) =>
  pe.isSome = true ∧
   LdP w none (addP pe 3) (El.one (Sc.int IntKind.i64)) fun (x_1 : Int) =>
    LdP w none pw (El.one Sc.ptr) fun (x_2 : Option Addr) =>
     x_2.isSome = true ∧
      x_2.isSome = true ∧
       LdP w none (addP x_2 1) (El.one (Sc.int IntKind.i64)) fun (x_3 : Int) =>
        True ∧
         spanI 1 ≠ 0 ∧
          LdP w none pe (El.agg [Sc.bool, Sc.int IntKind.i64, Sc.bool, Sc.int IntKind.i64]) fun (x_4 : Bool × Int × Bool × Int × Unit) =>
           CaP Try.prog 51 (Sh.tup [])
            [Value.pointer x, Value.int IntKind.i64 (addI IntKind.i64 x_1 (remI x_3 (spanI 1))), Value.agg { toList := [Value.bool x_4.fst, Value.int IntKind.i64 x_4.snd.fst, Value.bool x_4.snd.snd.fst, Value.int IntKind.i64 x_4.snd.snd.snd.fst] }] w
            fun (x : Unit) (w2 : World) => EnP w2 fun (w1 : World) => Post Unit.unit w1) := by kernel_rfl
theorem took4_vc (pw pe : Option Addr) (w : World) (Post : Unit → World → Prop) : (rxFn M1 (fun _ => []) 53 [.pointer pw, .pointer pe] w Post) = (
 LdP w none pw (El.one Sc.ptr) fun (x : Option Addr) =>
  pe.isSome = true ∧
   LdP w none (addP pe 3) (El.one (Sc.int IntKind.i64)) fun (x_1 : Int) =>
    LdP w none pe (El.agg [Sc.bool, Sc.int IntKind.i64, Sc.bool, Sc.int IntKind.i64]) fun (x_2 : Bool × Int × Bool × Int × Unit) =>
     CaP Try.prog 51 (Sh.tup []) [Value.pointer x, Value.int IntKind.i64 x_1, Value.agg { toList := [Value.bool x_2.fst, Value.int IntKind.i64 x_2.snd.fst, Value.bool x_2.snd.snd.fst, Value.int IntKind.i64 x_2.snd.snd.snd.fst] }] w
      fun (x : Unit) (w2 : World) => EnP w2 fun (w1 : World) => Post Unit.unit w1) := by kernel_rfl
theorem took5_vc (pw : Option Addr) (w : World) (Post : Unit → World → Prop) : (rxFn M1 (fun _ => []) 54 [.pointer pw] w Post) = (
 LdP w none pw (El.one Sc.ptr) fun (x : Option Addr) =>
  CaP Try.prog 30 (Sh.tup []) [Value.pointer x, Value.agg { toList := [Value.int IntKind.i64 0, Value.int IntKind.i64 0, Value.int IntKind.i64 0, Value.int IntKind.i64 11] }] w fun (x : Unit) (w2 : World) =>
   EnP w2 fun (w1 : World) => Post Unit.unit w1) := by kernel_rfl
def took_vc_ann : Nat → Slots := (fun | 3 => [(56, Go.RX.El.one (Go.RX.Sc.int Go.IntKind.i64))] | _ => [])
theorem took_vc (p : Option Addr) (ep : Bool) (er : Int) (el : Bool) (ef : Int) (w : World) (Post : Unit → World → Prop) : (rxFn M3 took_vc_ann 31 [.pointer p, .agg ⟨[.bool ep, .int .i64 er, .bool el, .int .i64 ef]⟩] w Post) = (
 AlP w { toList := [Value.pointer p] } 39 fun (b : Nat) (w2 : World) =>
  AlP w2 { toList := [Value.bool ep, Value.int IntKind.i64 er, Value.bool el, Value.int IntKind.i64 ef] } 76 fun (b_1 : Nat) (w2 : World) =>
   true = true ∧
    LdP w2 none (addP (some { block := b_1, off := 0 }) 0) (El.one Sc.bool) fun (x : Bool) =>
     LdP w2 none (some { block := b_1, off := 0 }) (El.agg [Sc.bool, Sc.int IntKind.i64, Sc.bool, Sc.int IntKind.i64]) fun (x_1 : Bool × Int × Bool × Int × Unit) =>
      True ∧
       LdP w2 (some (tableE x_1.fst x_1.snd.fst x_1.snd.snd.fst x_1.snd.snd.snd.fst)) (some { block := b, off := 0 }) (El.one Sc.ptr) fun (x_2 : Option Addr) =>
        (tableE x_1.fst x_1.snd.fst x_1.snd.snd.fst x_1.snd.snd.snd.fst = true → x_2.isSome = true) ∧
         (tableE x_1.fst x_1.snd.fst x_1.snd.snd.fst x_1.snd.snd.snd.fst = true → x_2.isSome = true) ∧
          LdP w2 (some (tableE x_1.fst x_1.snd.fst x_1.snd.snd.fst x_1.snd.snd.snd.fst)) (addP x_2 3) (El.one (Sc.int IntKind.i64)) fun (x_3 : Int) =>
           true = true ∧
            LdP w2 none (addP (some { block := b_1, off := 0 }) 2) (El.one Sc.bool) fun (x_4 : Bool) =>
             LdP w2 (some x_4) (some { block := b, off := 0 }) (El.one Sc.ptr) fun (x_5 : Option Addr) =>
              (x_4 = true → x_5.isSome = true) ∧
               (x_4 = true → x_5.isSome = true) ∧
                LdP w2 (some x_4) (addP x_5 3) (El.one (Sc.int IntKind.i64)) fun (x_6 : Int) =>
                 true = true ∧
                  LdP w2 none (addP (some { block := b_1, off := 0 }) 2) (El.one Sc.bool) fun (x_7 : Bool) =>
                   ((!x_7) = true → true = true) ∧
                    LdP w2 (some !x_7) (addP (some { block := b_1, off := 0 }) 1) (El.one (Sc.int IntKind.i64)) fun (x_8 : Int) =>
                     LdP w2 (some (!x_7 && decide (x_8 > 0))) (some { block := b, off := 0 }) (El.one Sc.ptr) fun (x_9 : Option Addr) =>
                      ((!x_7 && decide (x_8 > 0)) = true → x_9.isSome = true) ∧
                       ((!x_7 && decide (x_8 > 0)) = true → x_9.isSome = true) ∧
                        LdP w2 (some (!x_7 && decide (x_8 > 0))) (addP x_9 3) (El.one (Sc.int IntKind.i64)) fun (x_10 : Int) =>
                         AlP w2
                          {
                           toList :=
                            [Value.bool !x, Value.func (Fn.func 47) { toList := [] } { toList := [Value.pointer (some { block := b, off := 0 })] }, Value.bool (tableE x_1.fst x_1.snd.fst x_1.snd.snd.fst x_1.snd.snd.snd.fst && decide (x_3 > 0)),
                             Value.func (Fn.func 49) { toList := [] } { toList := [Value.pointer (some { block := b_1, off := 0 }), Value.pointer (some { block := b, off := 0 })] }, Value.bool (x_4 && x_6 == 1),
                             Value.func (Fn.func 50) { toList := [] } { toList := [Value.pointer (some { block := b, off := 0 }), Value.pointer (some { block := b_1, off := 0 })] }, Value.bool (!x_7 && decide (x_8 > 0) && x_10 == 0),
                             Value.func (Fn.func 53) { toList := [] } { toList := [Value.pointer (some { block := b, off := 0 }), Value.pointer (some { block := b_1, off := 0 })] }, Value.bool true,
                             Value.func (Fn.func 54) { toList := [] } { toList := [Value.pointer (some { block := b, off := 0 })] }] }
                          109 fun (b : Nat) (w2 : World) =>
                          ∃ (I : Nat → Int × Unit → World → Prop),
                           (∃ (n : Nat), ∀ (w1 : World), Ext w2 w1 → I n (0, Unit.unit) w1) ∧
                            ∀ (n : Nat) (s : Int × Unit) (w1 : World),
                             I n s w1 →
                              brP (decide (s.fst < (↑5 : Int)))
                               ((true = true ∧ 0 ≤ s.fst ∧ s.fst < (↑5 : Int)) ∧
                                LdP w1 none (addP (some { block := b, off := 0 }) (Int.toNat s.fst * 2)) (El.agg [Sc.bool, Sc.func]) fun (x : Bool × Value × Unit) =>
                                 AlP w1 { toList := [Value.bool false, Value.nilFunc] } 109 fun (b : Nat) (w2 : World) =>
                                  StP w2 (some { block := b, off := 0 }) [Value.bool x.fst, x.snd.fst] fun (w2 : World) =>
                                   true = true ∧
                                    LdP w2 none (addP (some { block := b, off := 0 }) 0) (El.one Sc.bool) fun (x : Bool) =>
                                     brP x
                                      (true = true ∧
                                       LdP w2 none (addP (some { block := b, off := 0 }) 1) (El.one Sc.func) fun (x : Value) => CaV Try.prog x (Sh.tup []) [] w2 fun (x : Unit) (w2 : World) => EnP w2 fun (w1 : World) => Post Unit.unit w1)
                                      (∀ (w3 : World), Ext w2 w3 → ∃ (n' : Nat), n' < n ∧ I n' (addI IntKind.i64 s.fst 1, Unit.unit) w3))
                               (EnP w1 fun (w1 : World) => Post Unit.unit w1)) := by kernel_rfl
theorem wstep_vc (p m : Option Addr) (w : World) (Post : Bool → World → Prop) : (rxFn M1 (fun _ => []) 14 [.pointer p, .pointer m] w Post) = (
 ((!p.isNone) = true → p.isSome = true) ∧
  ((!p.isNone) = true → p.isSome = true) ∧
   LdP w (some !p.isNone) (addP p 9) (El.one Sc.bool) fun (x : Bool) =>
    brP (p.isNone || !x) (EnP w fun (w1 : World) => Post false w1)
     (p.isSome = true ∧
      p.isSome = true ∧
       LdP w none (addP p 3) (El.one (Sc.int IntKind.i64)) fun (x : Int) =>
        brP (x == -1) (EnP w fun (w1 : World) => Post true w1)
         (∃ (x : Int × Int × Int × Int × Unit),
          QCalls Try.prog 15 [Value.pointer p] w (Value.agg { toList := [Value.int IntKind.i64 x.fst, Value.int IntKind.i64 x.snd.fst, Value.int IntKind.u64 x.snd.snd.fst, Value.int IntKind.u64 x.snd.snd.snd.fst] }) ∧
           CaP Try.prog 28 (Sh.el (El.agg [Sc.int IntKind.u64, Sc.bool, Sc.int IntKind.i64]))
            [Value.pointer m, Value.agg { toList := [Value.int IntKind.i64 x.fst, Value.int IntKind.i64 x.snd.fst, Value.int IntKind.u64 x.snd.snd.fst, Value.int IntKind.u64 x.snd.snd.snd.fst] }] w fun (x : Int × Bool × Int × Unit) (w2 : World) =>
            AlP w2 { toList := [Value.int IntKind.u64 0, Value.bool false, Value.int IntKind.i64 0] } 73 fun (b : Nat) (w2 : World) =>
             StP w2 (some { block := b, off := 0 }) [Value.int IntKind.u64 x.fst, Value.bool x.snd.fst, Value.int IntKind.i64 x.snd.snd.fst] fun (w2 : World) =>
              p.isSome = true ∧
               p.isSome = true ∧
                LdP w2 none (addP p 8) (El.one Sc.slice) fun (x : Option Addr × Nat × Nat) =>
                 p.isSome = true ∧
                  p.isSome = true ∧
                   LdP w2 none (addP p 0) (El.one (Sc.int IntKind.i64)) fun (x_1 : Int) =>
                    AlP w2 { toList := [Value.int IntKind.i64 x_1] } 3 fun (b_1 : Nat) (w2 : World) =>
                     ∀ (w1 : World),
                      Ext w2 w1 →
                       apR w1 3 1 8 { toList := [Value.int IntKind.i64 0] } (x.fst, x.snd.fst, x.snd.snd) (some { block := b_1, off := 0 }, 1, 1) fun (r : Option Addr × Nat × Nat) (w2 : World) =>
                        p.isSome = true ∧
                         p.isSome = true ∧
                          StP w2 (addP p 8) [Value.slice r.fst r.snd.fst r.snd.snd] fun (w2 : World) =>
                           true = true ∧
                            LdP w2 none (addP (some { block := b, off := 0 }) 0) (El.one (Sc.int IntKind.u64)) fun (x : Int) =>
                             U (B x) = x ∧
                              AlP w2 { toList := [Value.bool false, Value.int IntKind.i64 0, Value.bool false, Value.int IntKind.i64 0] } 76 fun (b_2 : Nat) (w2 : World) =>
                               StP w2 (some { block := b_2, off := 0 }) [Value.bool (prP (B x).toNat), Value.int IntKind.i64 (prR (B x).toNat), Value.bool (prL (B x).toNat), Value.int IntKind.i64 (prF (B x).toNat)] fun (w2 : World) =>
                                ((!!okV (B x).toNat) = true → true = true) ∧
                                 LdP w2 (some !!okV (B x).toNat) (addP (some { block := b, off := 0 }) 2) (El.one (Sc.int IntKind.i64)) fun (x_2 : Int) =>
                                  brP (!okV (B x).toNat || x_2 != 0)
                                   (CaP Try.prog 30 (Sh.tup []) [Value.pointer p, Value.agg { toList := [Value.int IntKind.i64 0, Value.int IntKind.i64 0, Value.int IntKind.i64 0, Value.int IntKind.i64 11] }] w2 fun (x : Unit) (w2 : World) =>
                                    EnP w2 fun (w1 : World) => Post true w1)
                                   (LdP w2 none (some { block := b_2, off := 0 }) (El.agg [Sc.bool, Sc.int IntKind.i64, Sc.bool, Sc.int IntKind.i64]) fun (x : Bool × Int × Bool × Int × Unit) =>
                                    CaP Try.prog 31 (Sh.tup []) [Value.pointer p, Value.agg { toList := [Value.bool x.fst, Value.int IntKind.i64 x.snd.fst, Value.bool x.snd.snd.fst, Value.int IntKind.i64 x.snd.snd.snd.fst] }] w2
                                     fun (x : Unit) (w2 : World) => p.isSome = true ∧ p.isSome = true ∧ LdP w2 none (addP p 3) (El.one (Sc.int IntKind.i64)) fun (x : Int) => EnP w2 fun (w1 : World) => Post (x == -1) w1)))) := by kernel_rfl
theorem wres_vc (p : Option Addr) (w : World) (Post : (Int × Int × Int × Int × Unit) × Bool × Unit → World → Prop) : (rxFnR M1 (fun _ => []) 13 [.pointer p] w Post) = (
 AlP w { toList := [Value.int IntKind.i64 0, Value.int IntKind.i64 0, Value.int IntKind.i64 0, Value.int IntKind.i64 0] } 32 fun (b : Nat) (w2 : World) =>
  ((!p.isNone) = true → p.isSome = true) ∧
   ((!p.isNone) = true → p.isSome = true) ∧
    LdP w2 (some !p.isNone) (addP p 9) (El.one Sc.bool) fun (x : Bool) =>
     ((!(p.isNone || !x)) = true → p.isSome = true) ∧
      ((!(p.isNone || !x)) = true → p.isSome = true) ∧
       LdP w2 (some !(p.isNone || !x)) (addP p 3) (El.one (Sc.int IntKind.i64)) fun (x_1 : Int) =>
        brP (p.isNone || !x || x_1 != -1)
         (StP w2 (some { block := b, off := 0 }) [Value.int IntKind.i64 0, Value.int IntKind.i64 0, Value.int IntKind.i64 0, Value.int IntKind.i64 0] fun (w2 : World) =>
          EnP w2 fun (w1 : World) =>
           LdP w1 none (some { block := b, off := 0 }) (El.agg [Sc.int IntKind.i64, Sc.int IntKind.i64, Sc.int IntKind.i64, Sc.int IntKind.i64]) fun (x : Int × Int × Int × Int × Unit) =>
            Post ((x.fst, x.snd.fst, x.snd.snd.fst, x.snd.snd.snd.fst, Unit.unit), false, Unit.unit) w1)
         (p.isSome = true ∧
          p.isSome = true ∧
           LdP w2 none (addP p 4) (El.agg [Sc.int IntKind.i64, Sc.int IntKind.i64, Sc.int IntKind.i64, Sc.int IntKind.i64]) fun (x : Int × Int × Int × Int × Unit) =>
            StP w2 (some { block := b, off := 0 }) [Value.int IntKind.i64 x.fst, Value.int IntKind.i64 x.snd.fst, Value.int IntKind.i64 x.snd.snd.fst, Value.int IntKind.i64 x.snd.snd.snd.fst] fun (w2 : World) =>
             EnP w2 fun (w1 : World) =>
              LdP w1 none (some { block := b, off := 0 }) (El.agg [Sc.int IntKind.i64, Sc.int IntKind.i64, Sc.int IntKind.i64, Sc.int IntKind.i64]) fun (x : Int × Int × Int × Int × Unit) =>
               Post ((x.fst, x.snd.fst, x.snd.snd.fst, x.snd.snd.snd.fst, Unit.unit), true, Unit.unit) w1)) := by kernel_rfl
theorem wpath_vc (p : Option Addr) (w : World) (Post : Option Addr × Nat × Nat → World → Prop) : (rxFn M1 (fun _ => []) 16 [.pointer p] w Post) = (
 brP p.isNone (EnP w fun (w1 : World) => Post (none, 0, 0) w1)
  (p.isSome = true ∧
   p.isSome = true ∧
    LdP w none (addP p 8) (El.one Sc.slice) fun (x : Option Addr × Nat × Nat) =>
     ∀ (w1 : World), Ext w w1 → apR w1 3 1 8 { toList := [Value.int IntKind.i64 0] } (none, 0, 0) (x.fst, x.snd.fst, x.snd.snd) fun (r : Option Addr × Nat × Nat) (w2 : World) => EnP w2 fun (w1 : World) => Post (r.fst, r.snd.fst, r.snd.snd) w1)) := by kernel_rfl
def wall_vc_ann : Nat → Slots := (fun | 4 => [] | _ => [])
theorem wall_vc (m : Option Addr) (f p t : Int) (w : World) (Post : (Int × Int × Int × Int × Unit) → World → Prop) : (rxFnR M1 wall_vc_ann 10 [.pointer m, .int .i64 f, .int .i64 p, .int .i64 t] w Post) = (
 AlP w { toList := [Value.int IntKind.i64 0, Value.int IntKind.i64 0, Value.int IntKind.i64 0, Value.int IntKind.i64 0] } 32 fun (b : Nat) (w2 : World) =>
  CaP Try.prog 17 (Sh.el (El.one Sc.ptr)) [Value.int IntKind.i64 f, Value.int IntKind.i64 p, Value.int IntKind.i64 t] w2 fun (x : Option Addr) (w2 : World) =>
   brP x.isNone
    (StP w2 (some { block := b, off := 0 }) [Value.int IntKind.i64 0, Value.int IntKind.i64 0, Value.int IntKind.i64 0, Value.int IntKind.i64 1] fun (w2 : World) =>
     EnP w2 fun (w1 : World) =>
      LdP w1 none (some { block := b, off := 0 }) (El.agg [Sc.int IntKind.i64, Sc.int IntKind.i64, Sc.int IntKind.i64, Sc.int IntKind.i64]) fun (x : Int × Int × Int × Int × Unit) =>
       Post (x.fst, x.snd.fst, x.snd.snd.fst, x.snd.snd.snd.fst, Unit.unit) w1)
    (∃ (I : Nat → Unit → World → Prop),
     (∃ (n : Nat), ∀ (w1 : World), Ext w2 w1 → I n Unit.unit w1) ∧
      ∀ (n : Nat) (s : Unit) (w1 : World),
       I n s w1 →
        CaP Try.prog 14 (Sh.el (El.one Sc.bool)) [Value.pointer x, Value.pointer m] w1 fun (x_1 : Bool) (w2 : World) =>
         brP (!x_1) (∀ (w3 : World), Ext w2 w3 → ∃ (n' : Nat), n' < n ∧ I n' Unit.unit w3)
          (x.isSome = true ∧
           x.isSome = true ∧
            LdP w2 none (addP x 4) (El.agg [Sc.int IntKind.i64, Sc.int IntKind.i64, Sc.int IntKind.i64, Sc.int IntKind.i64]) fun (x : Int × Int × Int × Int × Unit) =>
             StP w2 (some { block := b, off := 0 }) [Value.int IntKind.i64 x.fst, Value.int IntKind.i64 x.snd.fst, Value.int IntKind.i64 x.snd.snd.fst, Value.int IntKind.i64 x.snd.snd.snd.fst] fun (w2 : World) =>
              EnP w2 fun (w1 : World) =>
               LdP w1 none (some { block := b, off := 0 }) (El.agg [Sc.int IntKind.i64, Sc.int IntKind.i64, Sc.int IntKind.i64, Sc.int IntKind.i64]) fun (x : Int × Int × Int × Int × Unit) =>
                Post (x.fst, x.snd.fst, x.snd.snd.fst, x.snd.snd.snd.fst, Unit.unit) w1))) := by kernel_rfl
end Go.Proofs.Ytffnfcokgemgjaa
