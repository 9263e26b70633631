import Derived.Test.YtkldededdgpmbaaGreatMB
import Derived.Test.YtkldededdgpmbaaGreatMC
namespace Go.Proofs.YtkldededdgpmbaaGreat
set_option linter.unusedSimpArgs false
set_option linter.unusedVariables false
set_option maxRecDepth 100000
open Go.RX
abbrev wayS : Sh := .el (.one (.clo 89 2))
abbrev underS : Sh := .el (.one (.clo 80 3))
noncomputable def N0 : Cfg Tryz.prog := { M0 with sh := [(57, wayS), (50, underS)], quiet := [31, 114, 32, 26, 45, 17, 52, 47, 85] }
theorem tstate_vc (p : Option Addr) (w : World) (Post : Int → World → Prop) : (rxFn N0 (fun _ => []) 45 [.pointer p] w Post) = (
 ((!p.isNone) = true → p.isSome = true) ∧
  ((!p.isNone) = true → p.isSome = true) ∧
   LdP w (some !p.isNone) (addP p 0) (El.one Sc.ptr) fun (x : Option Addr) =>
    brP (p.isNone || x.isNone) (EnP w fun (w1 : World) => Post 10 w1) (p.isSome = true ∧ p.isSome = true ∧ LdP w none (addP p 4) (El.one Sc.bool) fun (x : Bool) => brP x (EnP w fun (w1 : World) => Post 6 w1) (EnP w fun (w1 : World) => Post 0 w1))) := by kernel_rfl
theorem troot_vc (p : Option Addr) (w : World) (Post : Int → World → Prop) : (rxFn N0 (fun _ => []) 17 [.pointer p] w Post) = (
 ∃ (x : Int),
  QCalls Tryz.prog 45 [Value.pointer p] w (Value.int IntKind.i64 x) ∧
   brP (x != 0) (EnP w fun (w1 : World) => Post (-1) w1) (p.isSome = true ∧ p.isSome = true ∧ LdP w none (addP p 3) (El.one (Sc.int IntKind.i64)) fun (x : Int) => EnP w fun (w1 : World) => Post x w1)) := by kernel_rfl
theorem tright_vc (p f r : Int) (w : World) (Post : Int → World → Prop) : (rxFn N0 (fun _ => []) 52 [.int .i64 p, .int .i64 f, .int .i64 r] w Post) = (
 brP (decide (p < 0) || decide (p ≥ 65536) || decide (f < 0) || decide (f ≥ 4096)) (EnP w fun (w1 : World) => Post 2 w1) (brP (decide (r < 1) || decide (r > 7)) (EnP w fun (w1 : World) => Post 7 w1) (EnP w fun (w1 : World) => Post 0 w1))) := by kernel_rfl
theorem tleads_vc (f : Int) (w : World) (Post : (Bool × Int × Bool × Int × Unit) → World → Prop) : (rxFnR N0 (fun _ => []) 85 [.int .i64 f] w Post) = (
 AlP w { toList := [Value.bool false, Value.int IntKind.i64 0, Value.bool false, Value.int IntKind.i64 0] } 93 fun (b : Nat) (w2 : World) =>
  StP w2 (some { block := b, off := 0 }) [Value.bool true, Value.int IntKind.i64 0, Value.bool false, Value.int IntKind.i64 f] fun (w2 : World) =>
   EnP w2 fun (w1 : World) =>
    LdP w1 none (some { block := b, off := 0 }) (El.agg [Sc.bool, Sc.int IntKind.i64, Sc.bool, Sc.int IntKind.i64]) fun (x : Bool × Int × Bool × Int × Unit) => Post (x.fst, x.snd.fst, x.snd.snd.fst, x.snd.snd.snd.fst, Unit.unit) w1) := by kernel_rfl
theorem tframe_vc (p xf xl xw : Int) (ep : Bool) (er : Int) (el : Bool) (ef : Int) (w : World) (Post : Int → World → Prop) : (rxFn N0 (fun _ => []) 47 [.int .i64 p, .agg ⟨[.int .i64 xf, .int .i64 xl, .int .i64 xw]⟩, .agg ⟨[.bool ep, .int .i64 er, .bool el, .int .i64 ef]⟩] w Post) = (
 AlP w { toList := [Value.int IntKind.i64 xf, Value.int IntKind.i64 xl, Value.int IntKind.i64 xw] } 91 fun (b : Nat) (w2 : World) =>
  AlP w2 { toList := [Value.bool ep, Value.int IntKind.i64 er, Value.bool el, Value.int IntKind.i64 ef] } 93 fun (b_1 : Nat) (w2 : World) =>
   true = true ∧
    LdP w2 none (addP (some { block := b, off := 0 }) 1) (El.one (Sc.int IntKind.i64)) fun (x : Int) =>
     brP (x == 1) (true = true ∧ LdP w2 none (addP (some { block := b_1, off := 0 }) 3) (El.one (Sc.int IntKind.i64)) fun (x : Int) => True ∧ spanI 1 ≠ 0 ∧ EnP w2 fun (w1 : World) => Post (addI IntKind.i64 x (remI p (spanI 1))) w1)
      (true = true ∧ LdP w2 none (addP (some { block := b_1, off := 0 }) 3) (El.one (Sc.int IntKind.i64)) fun (x : Int) => EnP w2 fun (w1 : World) => Post x w1)) := by kernel_rfl
theorem tat_vc (p : Option Addr) (i : Int) (w : World) (Post : (Bool × Int × Bool × Int × Unit) → World → Prop) : (rxFnR N0 (fun _ => []) 78 [.pointer p, .int .i64 i] w Post) = (
 AlP w { toList := [Value.bool false, Value.int IntKind.i64 0, Value.bool false, Value.int IntKind.i64 0] } 93 fun (b : Nat) (w2 : World) =>
  p.isSome = true ∧
   p.isSome = true ∧
    LdP w2 none (addP p 0) (El.one Sc.ptr) fun (x : Option Addr) =>
     CaP Tryz.prog 107 (Sh.tup [El.one (Sc.int IntKind.u64), El.one (Sc.int IntKind.i64)]) [Value.pointer x, Value.int IntKind.i64 i] w2 fun (x : Int × Int × Unit) (w2 : World) =>
      U (B x.fst) = x.fst ∧
       AlP w2 { toList := [Value.bool false, Value.int IntKind.i64 0, Value.bool false, Value.int IntKind.i64 0] } 93 fun (b_1 : Nat) (w2 : World) =>
        StP w2 (some { block := b_1, off := 0 }) [Value.bool (prP (B x.fst).toNat), Value.int IntKind.i64 (prR (B x.fst).toNat), Value.bool (prL (B x.fst).toNat), Value.int IntKind.i64 (prF (B x.fst).toNat)] fun (w2 : World) =>
         LdP w2 none (some { block := b_1, off := 0 }) (El.agg [Sc.bool, Sc.int IntKind.i64, Sc.bool, Sc.int IntKind.i64]) fun (x : Bool × Int × Bool × Int × Unit) =>
          StP w2 (some { block := b, off := 0 }) [Value.bool x.fst, Value.int IntKind.i64 x.snd.fst, Value.bool x.snd.snd.fst, Value.int IntKind.i64 x.snd.snd.snd.fst] fun (w2 : World) =>
           EnP w2 fun (w1 : World) =>
            LdP w1 none (some { block := b, off := 0 }) (El.agg [Sc.bool, Sc.int IntKind.i64, Sc.bool, Sc.int IntKind.i64]) fun (x : Bool × Int × Bool × Int × Unit) => Post (x.fst, x.snd.fst, x.snd.snd.fst, x.snd.snd.snd.fst, Unit.unit) w1) := by kernel_rfl
theorem tlay_vc (p : Option Addr) (i : Int) (ep : Bool) (er : Int) (el : Bool) (ef : Int) (w : World) (Post : Unit → World → Prop) : (rxFn N0 (fun _ => []) 60 [.pointer p, .int .i64 i, .agg ⟨[.bool ep, .int .i64 er, .bool el, .int .i64 ef]⟩] w Post) = (
 AlP w { toList := [Value.bool ep, Value.int IntKind.i64 er, Value.bool el, Value.int IntKind.i64 ef] } 93 fun (b : Nat) (w2 : World) =>
  LdP w2 none (some { block := b, off := 0 }) (El.agg [Sc.bool, Sc.int IntKind.i64, Sc.bool, Sc.int IntKind.i64]) fun (x : Bool × Int × Bool × Int × Unit) =>
   True ∧
    p.isSome = true ∧
     p.isSome = true ∧
      LdP w2 none (addP p 0) (El.one Sc.ptr) fun (x_1 : Option Addr) =>
       CaP Tryz.prog 58 (Sh.el (El.one (Sc.int IntKind.i64))) [Value.pointer x_1, Value.int IntKind.i64 i, Value.int IntKind.u64 (pkW x.fst x.snd.fst x.snd.snd.fst x.snd.snd.snd.fst)] w2 fun (x : Int) (w2 : World) =>
        EnP w2 fun (w1 : World) => Post Unit.unit w1) := by kernel_rfl
theorem tway_vc (p : Option Addr) (pg : Int) (w : World) (Post : Option Addr × Option Addr × Unit → World → Prop) : (rxFn N0 (fun _ => []) 57 [.pointer p, .int .i64 pg] w Post) = (
 AlP w { toList := [Value.pointer p] } 30 fun (b : Nat) (w2 : World) =>
  AlP w2 { toList := [Value.int IntKind.i64 pg] } 3 fun (b_1 : Nat) (w2 : World) => EnP w2 fun (w1 : World) => Post (some { block := b, off := 0 }, some { block := b_1, off := 0 }, Unit.unit) w1) := by kernel_rfl
def tway1_vc_ann : Nat → Slots := (fun | 2 => [(4, Go.RX.El.one (Go.RX.Sc.int Go.IntKind.i64)), (5, Go.RX.El.one (Go.RX.Sc.int Go.IntKind.i64))] | _ => [])
theorem tway1_vc (y : Nat) (p c : Option Addr) (w : World) (Post : Unit → World → Prop) : (rxFn N0 tway1_vc_ann 89 [.func (.yield y) #[] #[], .pointer p, .pointer c] w Post) = (
 LdP w none p (El.one Sc.ptr) fun (x : Option Addr) =>
  x.isSome = true ∧
   x.isSome = true ∧
    LdP w none (addP x 3) (El.one (Sc.int IntKind.i64)) fun (x : Int) =>
     ∃ (I : Nat → Int × Int × Unit → World → Prop),
      (∃ (n : Nat), ∀ (w1 : World), Ext w w1 → I n (x, 3, Unit.unit) w1) ∧
       ∀ (n : Nat) (s : Int × Int × Unit) (w1 : World),
        I n s w1 →
         brP (decide (s.snd.fst ≥ 0))
          (LdP w1 none c (El.one (Sc.int IntKind.i64)) fun (x : Int) =>
           True ∧
            AlP w1 { toList := [Value.int IntKind.i64 0, Value.int IntKind.i64 0, Value.int IntKind.i64 0] } 91 fun (b : Nat) (w2 : World) =>
             StP w2 (some { block := b, off := 0 }) [Value.int IntKind.i64 s.fst, Value.int IntKind.i64 s.snd.fst, Value.int IntKind.i64 (atI s.fst x s.snd.fst)] fun (w2 : World) =>
              LdP w2 none p (El.one Sc.ptr) fun (x : Option Addr) =>
               true = true ∧
                LdP w2 none (addP (some { block := b, off := 0 }) 2) (El.one (Sc.int IntKind.i64)) fun (x_1 : Int) =>
                 CaP Tryz.prog 78 (Sh.el (El.agg [Sc.bool, Sc.int IntKind.i64, Sc.bool, Sc.int IntKind.i64])) [Value.pointer x, Value.int IntKind.i64 x_1] w2 fun (x : Bool × Int × Bool × Int × Unit) (w2 : World) =>
                  AlP w2 { toList := [Value.bool false, Value.int IntKind.i64 0, Value.bool false, Value.int IntKind.i64 0] } 93 fun (b_1 : Nat) (w2 : World) =>
                   StP w2 (some { block := b_1, off := 0 }) [Value.bool x.fst, Value.int IntKind.i64 x.snd.fst, Value.bool x.snd.snd.fst, Value.int IntKind.i64 x.snd.snd.snd.fst] fun (w2 : World) =>
                    LdP w2 none (some { block := b, off := 0 }) (El.agg [Sc.int IntKind.i64, Sc.int IntKind.i64, Sc.int IntKind.i64]) fun (x : Int × Int × Int × Unit) =>
                     ∀ (w1 : World),
                      Ext w2 w1 →
                       YieldC Tryz.prog y [Value.agg { toList := [Value.int IntKind.i64 x.fst, Value.int IntKind.i64 x.snd.fst, Value.int IntKind.i64 x.snd.snd.fst] }] w1 fun (b : Bool) (w2 : World) =>
                        LdP w2 (some !!b) (some { block := b_1, off := 0 }) (El.agg [Sc.bool, Sc.int IntKind.i64, Sc.bool, Sc.int IntKind.i64]) fun (x : Bool × Int × Bool × Int × Unit) =>
                         ((!!b) = true → True) ∧
                          brP (!b || !tableE x.fst x.snd.fst x.snd.snd.fst x.snd.snd.snd.fst) (EnP w2 fun (w1 : World) => Post Unit.unit w1)
                           (true = true ∧ LdP w2 none (addP (some { block := b_1, off := 0 }) 3) (El.one (Sc.int IntKind.i64)) fun (x : Int) => ∀ (w3 : World), Ext w2 w3 → ∃ (n' : Nat), n' < n ∧ I n' (x, subI IntKind.i64 s.snd.fst 1, Unit.unit) w3))
          (EnP w1 fun (w1 : World) => Post Unit.unit w1)) := by kernel_rfl
def tgath_vc_ann : Nat → Slots := (fun | 4 => [(6, .agg [.int .i64, .int .i64, .int .i64])] | _ => [])
theorem tgath_vc (p c : Option Addr) (w : World) (Post : Option Addr × Nat × Nat → World → Prop) : (rxFnR N0 tgath_vc_ann 56 [.func (.func 89) #[] #[.pointer p, .pointer c]] w Post) = (
 AlP w { toList := [Value.slice none 0 0] } 110 fun (b : Nat) (w2 : World) =>
  RnP Tryz.prog 89 (fun (y : Nat) => [Value.func (Fn.yield y) { toList := [] } { toList := [] }, Value.pointer p, Value.pointer c]) { toList := [6] } w2
   (fun (x : (Int × Int × Int × Unit) × Unit) => [Value.agg { toList := [Value.int IntKind.i64 x.fst.fst, Value.int IntKind.i64 x.fst.snd.fst, Value.int IntKind.i64 x.fst.snd.snd.fst] }])
   (fun (l : Nat) (rec : Loop) (x : (Int × Int × Int × Unit) × Unit) (w3 : World) (R : Bool → World → Prop) =>
    RoP l rec [Value.agg { toList := [Value.int IntKind.i64 x.fst.fst, Value.int IntKind.i64 x.fst.snd.fst, Value.int IntKind.i64 x.fst.snd.snd.fst] }].length 1 w3
     (AlP w3 { toList := [Value.int IntKind.i64 0, Value.int IntKind.i64 0, Value.int IntKind.i64 0] } 91 fun (b_1 : Nat) (w2 : World) =>
      StP w2 (some { block := b_1, off := 0 }) [Value.int IntKind.i64 x.fst.fst, Value.int IntKind.i64 x.fst.snd.fst, Value.int IntKind.i64 x.fst.snd.snd.fst] fun (w2 : World) =>
       BeP l rec w2 fun (w5 : World) =>
        LdP w5 none (some { block := b, off := 0 }) (El.one Sc.slice) fun (x : Option Addr × Nat × Nat) =>
         LdP w5 none (some { block := b_1, off := 0 }) (El.agg [Sc.int IntKind.i64, Sc.int IntKind.i64, Sc.int IntKind.i64]) fun (x_1 : Int × Int × Int × Unit) =>
          AlP w5 { toList := [Value.int IntKind.i64 x_1.fst, Value.int IntKind.i64 x_1.snd.fst, Value.int IntKind.i64 x_1.snd.snd.fst] } 91 fun (b_2 : Nat) (w2 : World) =>
           ∀ (w1 : World),
            Ext w2 w1 →
             apR w1 91 3 24 { toList := [Value.int IntKind.i64 0, Value.int IntKind.i64 0, Value.int IntKind.i64 0] } (x.fst, x.snd.fst, x.snd.snd) (some { block := b_2, off := 0 }, 1, 1) fun (r : Option Addr × Nat × Nat) (w2 : World) =>
              StP w2 (some { block := b, off := 0 }) [Value.slice r.fst r.snd.fst r.snd.snd] fun (w2 : World) => FiP l rec none w2 R))
   fun (r : Nat) (rec : Loop) (w4 : World) =>
   rxAfter (r + 1) rec w4 (fun (w5 : World) => LdP w5 none (some { block := b, off := 0 }) (El.one Sc.slice) fun (x : Option Addr × Nat × Nat) => ClP [r] w5 fun (w1 : World) => Post (x.fst, x.snd.fst, x.snd.snd) w1)
    (fun (id : Nat) (w5 : World) =>
     Decidable.rec (fun (h : id = 0 → False) => False) (fun (h : id = 0) => LdP w5 none (some { block := b, off := 0 }) (El.one Sc.slice) fun (x : Option Addr × Nat × Nat) => ClP [r] w5 fun (w1 : World) => Post (x.fst, x.snd.fst, x.snd.snd) w1)
      (match h : id.beq 0 with
      | true => isTrue (Nat.eq_of_beq_eq_true h)
      | false => isFalse (Nat.ne_of_beq_eq_false h)))
    fun (w5 : World) => ClP [r] w5 fun (w1 : World) => Post (none, 0, 0) w1) := by kernel_rfl
theorem tend_vc (p : Option Addr) (pg : Int) (w : World) (Post : (Int × Int × Int × Unit) × (Bool × Int × Bool × Int × Unit) × Unit → World → Prop) : (rxFnR N0 (fun _ => []) 46 [.pointer p, .int .i64 pg] w Post) = (
 AlP w { toList := [Value.int IntKind.i64 0, Value.int IntKind.i64 0, Value.int IntKind.i64 0] } 91 fun (b : Nat) (w2 : World) =>
  AlP w2 { toList := [Value.bool false, Value.int IntKind.i64 0, Value.bool false, Value.int IntKind.i64 0] } 93 fun (b_1 : Nat) (w2 : World) =>
   CaP Tryz.prog 57 (Sh.el (El.one (Sc.clo 89 2))) [Value.pointer p, Value.int IntKind.i64 pg] w2 fun (x : Option Addr × Option Addr × Unit) (w2 : World) =>
    CaP Tryz.prog 56 (Sh.el (El.one Sc.slice)) [Value.func (Fn.func 89) { toList := [] } { toList := [Value.pointer x.fst, Value.pointer x.snd.fst] }] w2 fun (x : Option Addr × Nat × Nat) (w2 : World) =>
     (x.fst.isSome = true ∧ 0 ≤ subI IntKind.i64 (↑x.snd.fst : Int) 1 ∧ subI IntKind.i64 (↑x.snd.fst : Int) 1 < (↑x.snd.fst : Int)) ∧
      LdP w2 none (addP x.fst ((subI IntKind.i64 (↑x.snd.fst : Int) 1).toNat * 3)) (El.agg [Sc.int IntKind.i64, Sc.int IntKind.i64, Sc.int IntKind.i64]) fun (x : Int × Int × Int × Unit) =>
       AlP w2 { toList := [Value.int IntKind.i64 0, Value.int IntKind.i64 0, Value.int IntKind.i64 0] } 91 fun (b_2 : Nat) (w2 : World) =>
        StP w2 (some { block := b_2, off := 0 }) [Value.int IntKind.i64 x.fst, Value.int IntKind.i64 x.snd.fst, Value.int IntKind.i64 x.snd.snd.fst] fun (w2 : World) =>
         LdP w2 none (some { block := b_2, off := 0 }) (El.agg [Sc.int IntKind.i64, Sc.int IntKind.i64, Sc.int IntKind.i64]) fun (x : Int × Int × Int × Unit) =>
          true = true ∧
           LdP w2 none (addP (some { block := b_2, off := 0 }) 2) (El.one (Sc.int IntKind.i64)) fun (x_1 : Int) =>
            CaP Tryz.prog 78 (Sh.el (El.agg [Sc.bool, Sc.int IntKind.i64, Sc.bool, Sc.int IntKind.i64])) [Value.pointer p, Value.int IntKind.i64 x_1] w2 fun (x_2 : Bool × Int × Bool × Int × Unit) (w2 : World) =>
             rdAt w2 (some { block := b_2, off := 0 }) (El.agg [Sc.int IntKind.i64, Sc.int IntKind.i64, Sc.int IntKind.i64]) x ∧
              StP w2 (some { block := b, off := 0 }) [Value.int IntKind.i64 x.fst, Value.int IntKind.i64 x.snd.fst, Value.int IntKind.i64 x.snd.snd.fst] fun (w2 : World) =>
               StP w2 (some { block := b_1, off := 0 }) [Value.bool x_2.fst, Value.int IntKind.i64 x_2.snd.fst, Value.bool x_2.snd.snd.fst, Value.int IntKind.i64 x_2.snd.snd.snd.fst] fun (w2 : World) =>
                EnP w2 fun (w1 : World) =>
                 LdP w1 none (some { block := b, off := 0 }) (El.agg [Sc.int IntKind.i64, Sc.int IntKind.i64, Sc.int IntKind.i64]) fun (x : Int × Int × Int × Unit) =>
                  LdP w1 none (some { block := b_1, off := 0 }) (El.agg [Sc.bool, Sc.int IntKind.i64, Sc.bool, Sc.int IntKind.i64]) fun (x_3 : Bool × Int × Bool × Int × Unit) =>
                   Post ((x.fst, x.snd.fst, x.snd.snd.fst, Unit.unit), (x_3.fst, x_3.snd.fst, x_3.snd.snd.fst, x_3.snd.snd.snd.fst, Unit.unit), Unit.unit) w1) := by kernel_rfl
def ttake0_vc_ann : Nat → Slots := (fun | 5 => [(24, Go.RX.El.one (Go.RX.Sc.int Go.IntKind.i64))] | _ => [])
theorem ttake0_vc (p : Option Addr) (w : World) (Post : Int × Int × Unit → World → Prop) : (rxFn N0 ttake0_vc_ann 66 [.pointer p, .func (.func 67) #[] #[]] w Post) = (
 p.isSome = true ∧
  p.isSome = true ∧
   LdP w none (addP p 1) (El.one Sc.ptr) fun (x : Option Addr) =>
    p.isSome = true ∧
     p.isSome = true ∧
      LdP w none (addP p 2) (El.one (Sc.int IntKind.i64)) fun (x_1 : Int) =>
       CaP Tryz.prog 101 (Sh.tup [El.one (Sc.int IntKind.i64), El.one (Sc.int IntKind.i64)]) [Value.pointer x, Value.int IntKind.i64 3, Value.int IntKind.i64 x_1] w fun (x : Int × Int × Unit) (w2 : World) =>
        brP (x.snd.fst != 0) (EnP w2 fun (w1 : World) => Post (0, x.snd.fst, Unit.unit) w1)
         (∃ (I : Nat → Int × Unit → World → Prop),
          (∃ (n : Nat), ∀ (w1 : World), Ext w2 w1 → I n (0, Unit.unit) w1) ∧
           ∀ (n : Nat) (s : Int × Unit) (w1 : World),
            I n s w1 →
             brP (decide (s.fst < 16))
              (p.isSome = true ∧
               p.isSome = true ∧
                LdP w1 none (addP p 0) (El.one Sc.ptr) fun (x_2 : Option Addr) =>
                 CaP Tryz.prog 67 (Sh.el (El.one (Sc.int IntKind.u64))) [Value.int IntKind.i64 s.fst] w1 fun (x_3 : Int) (w2 : World) =>
                  True ∧
                   True ∧
                    rdAt w2 (addP p 0) (El.one Sc.ptr) x_2 ∧
                     True ∧
                      True ∧
                       CaP Tryz.prog 58 (Sh.el (El.one (Sc.int IntKind.i64))) [Value.pointer x_2, Value.int IntKind.i64 (addI IntKind.i64 (mulI IntKind.i64 16 x.fst) s.fst), Value.int IntKind.u64 x_3] w2 fun (x : Int) (w2 : World) =>
                        ∀ (w3 : World), Ext w2 w3 → ∃ (n' : Nat), n' < n ∧ I n' (addI IntKind.i64 s.fst 1, Unit.unit) w3)
              (EnP w1 fun (w1 : World) => Post (x.fst, 0, Unit.unit) w1))) := by kernel_rfl
def ttake1_vc_ann : Nat → Slots := (fun | 5 => [(24, Go.RX.El.one (Go.RX.Sc.int Go.IntKind.i64))] | _ => [])
theorem ttake1_vc (p : Option Addr) (w : World) (Post : Int × Int × Unit → World → Prop) : (rxFn N0 ttake1_vc_ann 66 [.pointer p, .func (.func 84) #[] #[]] w Post) = (
 p.isSome = true ∧
  p.isSome = true ∧
   LdP w none (addP p 1) (El.one Sc.ptr) fun (x : Option Addr) =>
    p.isSome = true ∧
     p.isSome = true ∧
      LdP w none (addP p 2) (El.one (Sc.int IntKind.i64)) fun (x_1 : Int) =>
       CaP Tryz.prog 101 (Sh.tup [El.one (Sc.int IntKind.i64), El.one (Sc.int IntKind.i64)]) [Value.pointer x, Value.int IntKind.i64 3, Value.int IntKind.i64 x_1] w fun (x : Int × Int × Unit) (w2 : World) =>
        brP (x.snd.fst != 0) (EnP w2 fun (w1 : World) => Post (0, x.snd.fst, Unit.unit) w1)
         (∃ (I : Nat → Int × Unit → World → Prop),
          (∃ (n : Nat), ∀ (w1 : World), Ext w2 w1 → I n (0, Unit.unit) w1) ∧
           ∀ (n : Nat) (s : Int × Unit) (w1 : World),
            I n s w1 →
             brP (decide (s.fst < 16))
              (p.isSome = true ∧
               p.isSome = true ∧
                LdP w1 none (addP p 0) (El.one Sc.ptr) fun (x_2 : Option Addr) =>
                 CaP Tryz.prog 84 (Sh.el (El.one (Sc.int IntKind.u64))) [Value.int IntKind.i64 s.fst] w1 fun (x_3 : Int) (w2 : World) =>
                  True ∧
                   True ∧
                    rdAt w2 (addP p 0) (El.one Sc.ptr) x_2 ∧
                     True ∧
                      True ∧
                       CaP Tryz.prog 58 (Sh.el (El.one (Sc.int IntKind.i64))) [Value.pointer x_2, Value.int IntKind.i64 (addI IntKind.i64 (mulI IntKind.i64 16 x.fst) s.fst), Value.int IntKind.u64 x_3] w2 fun (x : Int) (w2 : World) =>
                        ∀ (w3 : World), Ext w2 w3 → ∃ (n' : Nat), n' < n ∧ I n' (addI IntKind.i64 s.fst 1, Unit.unit) w3)
              (EnP w1 fun (w1 : World) => Post (x.fst, 0, Unit.unit) w1))) := by kernel_rfl
def ttake2_vc_ann : Nat → Slots := (fun | 5 => [(24, Go.RX.El.one (Go.RX.Sc.int Go.IntKind.i64))] | _ => [])
theorem ttake2_vc (p e : Option Addr) (w : World) (Post : Int × Int × Unit → World → Prop) : (rxFn N0 ttake2_vc_ann 66 [.pointer p, .func (.func 87) #[] #[.pointer e]] w Post) = (
 p.isSome = true ∧
  p.isSome = true ∧
   LdP w none (addP p 1) (El.one Sc.ptr) fun (x : Option Addr) =>
    p.isSome = true ∧
     p.isSome = true ∧
      LdP w none (addP p 2) (El.one (Sc.int IntKind.i64)) fun (x_1 : Int) =>
       CaP Tryz.prog 101 (Sh.tup [El.one (Sc.int IntKind.i64), El.one (Sc.int IntKind.i64)]) [Value.pointer x, Value.int IntKind.i64 3, Value.int IntKind.i64 x_1] w fun (x : Int × Int × Unit) (w2 : World) =>
        brP (x.snd.fst != 0) (EnP w2 fun (w1 : World) => Post (0, x.snd.fst, Unit.unit) w1)
         (∃ (I : Nat → Int × Unit → World → Prop),
          (∃ (n : Nat), ∀ (w1 : World), Ext w2 w1 → I n (0, Unit.unit) w1) ∧
           ∀ (n : Nat) (s : Int × Unit) (w1 : World),
            I n s w1 →
             brP (decide (s.fst < 16))
              (p.isSome = true ∧
               p.isSome = true ∧
                LdP w1 none (addP p 0) (El.one Sc.ptr) fun (x_2 : Option Addr) =>
                 CaP Tryz.prog 87 (Sh.el (El.one (Sc.int IntKind.u64))) [Value.int IntKind.i64 s.fst, Value.pointer e] w1 fun (x_3 : Int) (w2 : World) =>
                  True ∧
                   True ∧
                    rdAt w2 (addP p 0) (El.one Sc.ptr) x_2 ∧
                     True ∧
                      True ∧
                       CaP Tryz.prog 58 (Sh.el (El.one (Sc.int IntKind.i64))) [Value.pointer x_2, Value.int IntKind.i64 (addI IntKind.i64 (mulI IntKind.i64 16 x.fst) s.fst), Value.int IntKind.u64 x_3] w2 fun (x : Int) (w2 : World) =>
                        ∀ (w3 : World), Ext w2 w3 → ∃ (n' : Nat), n' < n ∧ I n' (addI IntKind.i64 s.fst 1, Unit.unit) w3)
              (EnP w1 fun (w1 : World) => Post (x.fst, 0, Unit.unit) w1))) := by kernel_rfl
theorem tnew1_vc (i : Int) (w : World) (Post : Int → World → Prop) : (rxFn N0 (fun _ => []) 67 [.int .i64 i] w Post) = (
 EnP w fun (w1 : World) => Post 0 w1) := by kernel_rfl
theorem tput1_vc (i : Int) (w : World) (Post : Int → World → Prop) : (rxFn N0 (fun _ => []) 84 [.int .i64 i] w Post) = (
 EnP w fun (w1 : World) => Post 0 w1) := by kernel_rfl
theorem tsplit1_vc (i : Int) (e : Option Addr) (w : World) (Post : Int → World → Prop) : (rxFn N0 (fun _ => []) 87 [.int .i64 i, .pointer e] w Post) = (
 e.isSome = true ∧
  LdP w none (addP e 1) (El.one (Sc.int IntKind.i64)) fun (x : Int) => e.isSome = true ∧ LdP w none (addP e 3) (El.one (Sc.int IntKind.i64)) fun (x_1 : Int) => True ∧ EnP w fun (w1 : World) => Post (pkW true x false (addI IntKind.i64 x_1 i)) w1) := by kernel_rfl
def tput_vc_ann : Nat → Slots := (fun | 6 => [] | _ => [])
theorem tput_vc (p : Option Addr) (pg lv : Int) (ep : Bool) (er : Int) (el : Bool) (ef : Int) (w : World) (Post : Int → World → Prop) : (rxFn N0 tput_vc_ann 53 [.pointer p, .int .i64 pg, .int .i64 lv, .agg ⟨[.bool ep, .int .i64 er, .bool el, .int .i64 ef]⟩] w Post) = (
 AlP w { toList := [Value.bool ep, Value.int IntKind.i64 er, Value.bool el, Value.int IntKind.i64 ef] } 93 fun (b : Nat) (w2 : World) =>
  CaP Tryz.prog 46 (Sh.tup [El.agg [Sc.int IntKind.i64, Sc.int IntKind.i64, Sc.int IntKind.i64], El.agg [Sc.bool, Sc.int IntKind.i64, Sc.bool, Sc.int IntKind.i64]]) [Value.pointer p, Value.int IntKind.i64 pg] w2
   fun (x : (Int × Int × Int × Unit) × (Bool × Int × Bool × Int × Unit) × Unit) (w2 : World) =>
   AlP w2 { toList := [Value.int IntKind.i64 0, Value.int IntKind.i64 0, Value.int IntKind.i64 0] } 91 fun (b_1 : Nat) (w2 : World) =>
    AlP w2 { toList := [Value.bool false, Value.int IntKind.i64 0, Value.bool false, Value.int IntKind.i64 0] } 93 fun (b_2 : Nat) (w2 : World) =>
     StP w2 (some { block := b_1, off := 0 }) [Value.int IntKind.i64 x.fst.fst, Value.int IntKind.i64 x.fst.snd.fst, Value.int IntKind.i64 x.fst.snd.snd.fst] fun (w2 : World) =>
      StP w2 (some { block := b_2, off := 0 }) [Value.bool x.snd.fst.fst, Value.int IntKind.i64 x.snd.fst.snd.fst, Value.bool x.snd.fst.snd.snd.fst, Value.int IntKind.i64 x.snd.fst.snd.snd.snd.fst] fun (w2 : World) =>
       true = true ∧
        LdP w2 none (addP (some { block := b_2, off := 0 }) 0) (El.one Sc.bool) fun (x : Bool) =>
         ((!x) = true → true = true) ∧
          LdP w2 (some !x) (addP (some { block := b_1, off := 0 }) 1) (El.one (Sc.int IntKind.i64)) fun (x_1 : Int) =>
           brP (x || decide (x_1 < lv)) (EnP w2 fun (w1 : World) => Post 5 w1)
            (p.isSome = true ∧
             p.isSome = true ∧
              LdP w2 none (addP p 1) (El.one Sc.ptr) fun (x : Option Addr) =>
               ∃ (x_2 : Int),
                QCalls Tryz.prog 26 [Value.pointer x, Value.int IntKind.i64 0] w2 (Value.int IntKind.i64 x_2) ∧
                 true = true ∧
                  LdP w2 none (addP (some { block := b_1, off := 0 }) 1) (El.one (Sc.int IntKind.i64)) fun (x : Int) =>
                   brP (decide (x_2 < subI IntKind.i64 x lv)) (EnP w2 fun (w1 : World) => Post 12 w1)
                    (∃ (I : Nat → Unit → World → Prop),
                     (∃ (n : Nat), ∀ (w1 : World), Ext w2 w1 → I n Unit.unit w1) ∧
                      ∀ (n : Nat) (s : Unit) (w1 : World),
                       I n s w1 →
                        true = true ∧
                         LdP w1 none (addP (some { block := b_1, off := 0 }) 1) (El.one (Sc.int IntKind.i64)) fun (x : Int) =>
                          brP (decide (x > lv))
                           (CaP Tryz.prog 66 (Sh.tup [El.one (Sc.int IntKind.i64), El.one (Sc.int IntKind.i64)]) [Value.pointer p, Value.func (Fn.func 84) { toList := [] } { toList := [] }] w1 fun (x : Int × Int × Unit) (w2 : World) =>
                            true = true ∧
                             LdP w2 none (addP (some { block := b_1, off := 0 }) 2) (El.one (Sc.int IntKind.i64)) fun (x_3 : Int) =>
                              ∃ (x_4 : Bool × Int × Bool × Int × Unit),
                               QCalls Tryz.prog 85 [Value.int IntKind.i64 x.fst] w2 (Value.agg { toList := [Value.bool x_4.fst, Value.int IntKind.i64 x_4.snd.fst, Value.bool x_4.snd.snd.fst, Value.int IntKind.i64 x_4.snd.snd.snd.fst] }) ∧
                                CaP Tryz.prog 60 (Sh.tup [])
                                 [Value.pointer p, Value.int IntKind.i64 x_3, Value.agg { toList := [Value.bool x_4.fst, Value.int IntKind.i64 x_4.snd.fst, Value.bool x_4.snd.snd.fst, Value.int IntKind.i64 x_4.snd.snd.snd.fst] }] w2
                                 fun (x_5 : Unit) (w2 : World) =>
                                 true = true ∧
                                  LdP w2 none (addP (some { block := b_1, off := 0 }) 1) (El.one (Sc.int IntKind.i64)) fun (x_6 : Int) =>
                                   true = true ∧
                                    LdP w2 none (addP (some { block := b_1, off := 0 }) 1) (El.one (Sc.int IntKind.i64)) fun (x_7 : Int) =>
                                     True ∧
                                      StP w2 (some { block := b_1, off := 0 }) [Value.int IntKind.i64 x.fst, Value.int IntKind.i64 (subI IntKind.i64 x_6 1), Value.int IntKind.i64 (atI x.fst pg (subI IntKind.i64 x_7 1))] fun (w2 : World) =>
                                       ∀ (w3 : World), Ext w2 w3 → ∃ (n' : Nat), n' < n ∧ I n' Unit.unit w3)
                           (true = true ∧
                            LdP w1 none (addP (some { block := b_1, off := 0 }) 2) (El.one (Sc.int IntKind.i64)) fun (x : Int) =>
                             LdP w1 none (some { block := b, off := 0 }) (El.agg [Sc.bool, Sc.int IntKind.i64, Sc.bool, Sc.int IntKind.i64]) fun (x_3 : Bool × Int × Bool × Int × Unit) =>
                              CaP Tryz.prog 60 (Sh.tup [])
                               [Value.pointer p, Value.int IntKind.i64 x, Value.agg { toList := [Value.bool x_3.fst, Value.int IntKind.i64 x_3.snd.fst, Value.bool x_3.snd.snd.fst, Value.int IntKind.i64 x_3.snd.snd.snd.fst] }] w1
                               fun (x : Unit) (w2 : World) => EnP w2 fun (w1 : World) => Post 0 w1)))) := by kernel_rfl
theorem tmap_vc (p : Option Addr) (pg f r : Int) (w : World) (Post : Int → World → Prop) : (rxFn N0 (fun _ => []) 20 [.pointer p, .int .i64 pg, .int .i64 f, .int .i64 r] w Post) = (
 ∃ (x : Int),
  QCalls Tryz.prog 45 [Value.pointer p] w (Value.int IntKind.i64 x) ∧
   brP (x != 0) (EnP w fun (w1 : World) => Post x w1)
    (∃ (x : Int),
     QCalls Tryz.prog 52 [Value.int IntKind.i64 pg, Value.int IntKind.i64 f, Value.int IntKind.i64 r] w (Value.int IntKind.i64 x) ∧
      brP (x != 0) (EnP w fun (w1 : World) => Post x w1)
       (CaP Tryz.prog 53 (Sh.el (El.one (Sc.int IntKind.i64))) [Value.pointer p, Value.int IntKind.i64 pg, Value.int IntKind.i64 0, Value.agg { toList := [Value.bool true, Value.int IntKind.i64 r, Value.bool false, Value.int IntKind.i64 f] }] w
        fun (x : Int) (w2 : World) => EnP w2 fun (w1 : World) => Post x w1))) := by kernel_rfl
theorem tlarge_vc (p : Option Addr) (pg f r : Int) (w : World) (Post : Int → World → Prop) : (rxFn N0 (fun _ => []) 21 [.pointer p, .int .i64 pg, .int .i64 f, .int .i64 r] w Post) = (
 ∃ (x : Int),
  QCalls Tryz.prog 45 [Value.pointer p] w (Value.int IntKind.i64 x) ∧
   brP (x != 0) (EnP w fun (w1 : World) => Post x w1)
    (∃ (x : Int),
     QCalls Tryz.prog 52 [Value.int IntKind.i64 pg, Value.int IntKind.i64 f, Value.int IntKind.i64 r] w (Value.int IntKind.i64 x) ∧
      brP (x != 0) (EnP w fun (w1 : World) => Post x w1)
       (True ∧
        spanI 1 ≠ 0 ∧
         ((!decide (remI pg (spanI 1) > 0)) = true → spanI 1 ≠ 0) ∧
          brP (decide (remI pg (spanI 1) > 0) || decide (remI f (spanI 1) > 0)) (EnP w fun (w1 : World) => Post 8 w1)
           (CaP Tryz.prog 53 (Sh.el (El.one (Sc.int IntKind.i64))) [Value.pointer p, Value.int IntKind.i64 pg, Value.int IntKind.i64 1, Value.agg { toList := [Value.bool true, Value.int IntKind.i64 r, Value.bool true, Value.int IntKind.i64 f] }] w
            fun (x : Int) (w2 : World) => EnP w2 fun (w1 : World) => Post x w1)))) := by kernel_rfl
theorem tquery_vc (p : Option Addr) (pg : Int) (w : World) (Post : Int × Int × Int × Unit → World → Prop) : (rxFn N0 (fun _ => []) 12 [.pointer p, .int .i64 pg] w Post) = (
 ∃ (x : Int),
  QCalls Tryz.prog 45 [Value.pointer p] w (Value.int IntKind.i64 x) ∧
   brP (x != 0) (EnP w fun (w1 : World) => Post (0, 0, x, Unit.unit) w1)
    (brP (decide (pg < 0) || decide (pg ≥ 65536)) (EnP w fun (w1 : World) => Post (0, 0, 2, Unit.unit) w1)
     (CaP Tryz.prog 46 (Sh.tup [El.agg [Sc.int IntKind.i64, Sc.int IntKind.i64, Sc.int IntKind.i64], El.agg [Sc.bool, Sc.int IntKind.i64, Sc.bool, Sc.int IntKind.i64]]) [Value.pointer p, Value.int IntKind.i64 pg] w
      fun (x : (Int × Int × Int × Unit) × (Bool × Int × Bool × Int × Unit) × Unit) (w2 : World) =>
      AlP w2 { toList := [Value.int IntKind.i64 0, Value.int IntKind.i64 0, Value.int IntKind.i64 0] } 91 fun (b : Nat) (w2 : World) =>
       AlP w2 { toList := [Value.bool false, Value.int IntKind.i64 0, Value.bool false, Value.int IntKind.i64 0] } 93 fun (b_1 : Nat) (w2 : World) =>
        StP w2 (some { block := b, off := 0 }) [Value.int IntKind.i64 x.fst.fst, Value.int IntKind.i64 x.fst.snd.fst, Value.int IntKind.i64 x.fst.snd.snd.fst] fun (w2 : World) =>
         StP w2 (some { block := b_1, off := 0 }) [Value.bool x.snd.fst.fst, Value.int IntKind.i64 x.snd.fst.snd.fst, Value.bool x.snd.fst.snd.snd.fst, Value.int IntKind.i64 x.snd.fst.snd.snd.snd.fst] fun (w2 : World) =>
          true = true ∧
           LdP w2 none (addP (some { block := b_1, off := 0 }) 0) (El.one Sc.bool) fun (x : Bool) =>
            brP (!x) (EnP w2 fun (w1 : World) => Post (0, 0, 4, Unit.unit) w1)
             (LdP w2 none (some { block := b, off := 0 }) (El.agg [Sc.int IntKind.i64, Sc.int IntKind.i64, Sc.int IntKind.i64]) fun (x : Int × Int × Int × Unit) =>
              LdP w2 none (some { block := b_1, off := 0 }) (El.agg [Sc.bool, Sc.int IntKind.i64, Sc.bool, Sc.int IntKind.i64]) fun (x_1 : Bool × Int × Bool × Int × Unit) =>
               ∃ (x_2 : Int),
                QCalls Tryz.prog 47
                  [Value.int IntKind.i64 pg, Value.agg { toList := [Value.int IntKind.i64 x.fst, Value.int IntKind.i64 x.snd.fst, Value.int IntKind.i64 x.snd.snd.fst] },
                   Value.agg { toList := [Value.bool x_1.fst, Value.int IntKind.i64 x_1.snd.fst, Value.bool x_1.snd.snd.fst, Value.int IntKind.i64 x_1.snd.snd.snd.fst] }]
                  w2 (Value.int IntKind.i64 x_2) ∧
                 true = true ∧ LdP w2 none (addP (some { block := b_1, off := 0 }) 1) (El.one (Sc.int IntKind.i64)) fun (x : Int) => EnP w2 fun (w1 : World) => Post (x_2, x, 0, Unit.unit) w1)))) := by kernel_rfl
theorem tsplit_vc (p : Option Addr) (pg : Int) (w : World) (Post : Int → World → Prop) : (rxFn N0 (fun _ => []) 55 [.pointer p, .int .i64 pg] w Post) = (
 CaP Tryz.prog 46 (Sh.tup [El.agg [Sc.int IntKind.i64, Sc.int IntKind.i64, Sc.int IntKind.i64], El.agg [Sc.bool, Sc.int IntKind.i64, Sc.bool, Sc.int IntKind.i64]]) [Value.pointer p, Value.int IntKind.i64 pg] w
  fun (x : (Int × Int × Int × Unit) × (Bool × Int × Bool × Int × Unit) × Unit) (w2 : World) =>
  AlP w2 { toList := [Value.int IntKind.i64 0, Value.int IntKind.i64 0, Value.int IntKind.i64 0] } 91 fun (b : Nat) (w2 : World) =>
   AlP w2 { toList := [Value.bool false, Value.int IntKind.i64 0, Value.bool false, Value.int IntKind.i64 0] } 93 fun (b_1 : Nat) (w2 : World) =>
    StP w2 (some { block := b, off := 0 }) [Value.int IntKind.i64 x.fst.fst, Value.int IntKind.i64 x.fst.snd.fst, Value.int IntKind.i64 x.fst.snd.snd.fst] fun (w2 : World) =>
     StP w2 (some { block := b_1, off := 0 }) [Value.bool x.snd.fst.fst, Value.int IntKind.i64 x.snd.fst.snd.fst, Value.bool x.snd.fst.snd.snd.fst, Value.int IntKind.i64 x.snd.fst.snd.snd.snd.fst] fun (w2 : World) =>
      true = true ∧
       LdP w2 none (addP (some { block := b, off := 0 }) 1) (El.one (Sc.int IntKind.i64)) fun (x : Int) =>
        brP (x == 0) (EnP w2 fun (w1 : World) => Post 0 w1)
         (CaP Tryz.prog 66 (Sh.tup [El.one (Sc.int IntKind.i64), El.one (Sc.int IntKind.i64)]) [Value.pointer p, Value.func (Fn.func 87) { toList := [] } { toList := [Value.pointer (some { block := b_1, off := 0 })] }] w2
          fun (x : Int × Int × Unit) (w2 : World) =>
          brP (x.snd.fst == 0)
           (true = true ∧
            LdP w2 none (addP (some { block := b, off := 0 }) 2) (El.one (Sc.int IntKind.i64)) fun (x_1 : Int) =>
             ∃ (x_2 : Bool × Int × Bool × Int × Unit),
              QCalls Tryz.prog 85 [Value.int IntKind.i64 x.fst] w2 (Value.agg { toList := [Value.bool x_2.fst, Value.int IntKind.i64 x_2.snd.fst, Value.bool x_2.snd.snd.fst, Value.int IntKind.i64 x_2.snd.snd.snd.fst] }) ∧
               CaP Tryz.prog 60 (Sh.tup []) [Value.pointer p, Value.int IntKind.i64 x_1, Value.agg { toList := [Value.bool x_2.fst, Value.int IntKind.i64 x_2.snd.fst, Value.bool x_2.snd.snd.fst, Value.int IntKind.i64 x_2.snd.snd.snd.fst] }] w2
                fun (x_3 : Unit) (w2 : World) => EnP w2 fun (w1 : World) => Post x.snd.fst w1)
           (EnP w2 fun (w1 : World) => Post x.snd.fst w1))) := by kernel_rfl
def tthin_vc_ann : Nat → Slots := (fun | 1 => [(4, Go.RX.El.one (Go.RX.Sc.int Go.IntKind.i64))] | 4 => [(26, Go.RX.El.one (Go.RX.Sc.int Go.IntKind.i64))] | _ => [])
theorem tthin_vc (p q : Option Addr) (n c : Nat) (w : World) (Post : Unit → World → Prop) : (rxFn N0 tthin_vc_ann 59 [.pointer p, .slice q n c] w Post) = (
 ∃ (I : Nat → Int × Unit → World → Prop),
  (∃ (n_1 : Nat), ∀ (w1 : World), Ext w w1 → I n_1 (subI IntKind.i64 (↑n : Int) 1, Unit.unit) w1) ∧
   ∀ (n_1 : Nat) (s : Int × Unit) (w1 : World),
    I n_1 s w1 →
     brP (decide (s.fst > 0))
      (p.isSome = true ∧
       p.isSome = true ∧
        LdP w1 none (addP p 0) (El.one Sc.ptr) fun (x : Option Addr) =>
         (q.isSome = true ∧ 0 ≤ s.fst ∧ s.fst < (↑n : Int)) ∧
          (addP q (Int.toNat s.fst * 3)).isSome = true ∧
           LdP w1 none (addP (addP q (Int.toNat s.fst * 3)) 0) (El.one (Sc.int IntKind.i64)) fun (x_1 : Int) =>
            CaP Tryz.prog 25 (Sh.el (El.one Sc.slice)) [Value.pointer x, Value.int IntKind.i64 (mulI IntKind.i64 16 x_1), Value.int IntKind.i64 16] w1 fun (x : Option Addr × Nat × Nat) (w2 : World) =>
             ∃ (I_1 : Nat → Int × Unit → World → Prop),
              (∃ (n : Nat), ∀ (w1 : World), Ext w2 w1 → I_1 n (0, Unit.unit) w1) ∧
               ∀ (n_2 : Nat) (s_1 : Int × Unit) (w1 : World),
                I_1 n_2 s_1 w1 →
                 brP (decide (s_1.fst < (↑x.snd.fst : Int)))
                  ((x.fst.isSome = true ∧ 0 ≤ s_1.fst ∧ s_1.fst < (↑x.snd.fst : Int)) ∧
                   LdP w1 none (addP x.fst (Int.toNat s_1.fst * 1)) (El.one (Sc.int IntKind.u64)) fun (x : Int) =>
                    brP (x != 0) (EnP w1 fun (w1 : World) => Post Unit.unit w1) (∀ (w3 : World), Ext w1 w3 → ∃ (n' : Nat), n' < n_2 ∧ I_1 n' (addI IntKind.i64 s_1.fst 1, Unit.unit) w3))
                  (p.isSome = true ∧
                   p.isSome = true ∧
                    LdP w1 none (addP p 0) (El.one Sc.ptr) fun (x : Option Addr) =>
                     (q.isSome = true ∧ 0 ≤ subI IntKind.i64 s.fst 1 ∧ subI IntKind.i64 s.fst 1 < (↑n : Int)) ∧
                      (addP q ((subI IntKind.i64 s.fst 1).toNat * 3)).isSome = true ∧
                       LdP w1 none (addP (addP q ((subI IntKind.i64 s.fst 1).toNat * 3)) 2) (El.one (Sc.int IntKind.i64)) fun (x_2 : Int) =>
                        CaP Tryz.prog 58 (Sh.el (El.one (Sc.int IntKind.i64))) [Value.pointer x, Value.int IntKind.i64 x_2, Value.int IntKind.u64 0] w1 fun (x : Int) (w2 : World) =>
                         p.isSome = true ∧
                          p.isSome = true ∧
                           LdP w2 none (addP p 1) (El.one Sc.ptr) fun (x : Option Addr) =>
                            (q.isSome = true ∧ 0 ≤ s.fst ∧ s.fst < (↑n : Int)) ∧
                             (addP q (Int.toNat s.fst * 3)).isSome = true ∧
                              LdP w2 none (addP (addP q (Int.toNat s.fst * 3)) 0) (El.one (Sc.int IntKind.i64)) fun (x_3 : Int) =>
                               CaP Tryz.prog 65 (Sh.el (El.one (Sc.int IntKind.i64))) [Value.pointer x, Value.int IntKind.i64 x_3, Value.int IntKind.i64 5, Value.int IntKind.i64 0] w2 fun (x : Int) (w2 : World) =>
                                ∀ (w3 : World), Ext w2 w3 → ∃ (n' : Nat), n' < n_1 ∧ I n' (subI IntKind.i64 s.fst 1, Unit.unit) w3))
      (EnP w1 fun (w1 : World) => Post Unit.unit w1)) := by kernel_rfl
theorem tunmap_vc (p : Option Addr) (pg : Int) (w : World) (Post : Int × Int × Unit → World → Prop) : (rxFn N0 (fun _ => []) 22 [.pointer p, .int .i64 pg] w Post) = (
 CaP Tryz.prog 12 (Sh.tup [El.one (Sc.int IntKind.i64), El.one (Sc.int IntKind.i64), El.one (Sc.int IntKind.i64)]) [Value.pointer p, Value.int IntKind.i64 pg] w fun (x : Int × Int × Int × Unit) (w2 : World) =>
  brP (x.snd.snd.fst != 0) (EnP w2 fun (w1 : World) => Post (0, x.snd.snd.fst, Unit.unit) w1)
   (CaP Tryz.prog 55 (Sh.el (El.one (Sc.int IntKind.i64))) [Value.pointer p, Value.int IntKind.i64 pg] w2 fun (x_1 : Int) (w2 : World) =>
    brP (x_1 != 0) (EnP w2 fun (w1 : World) => Post (0, x_1, Unit.unit) w1)
     (CaP Tryz.prog 57 (Sh.el (El.one (Sc.clo 89 2))) [Value.pointer p, Value.int IntKind.i64 pg] w2 fun (x_2 : Option Addr × Option Addr × Unit) (w2 : World) =>
      CaP Tryz.prog 56 (Sh.el (El.one Sc.slice)) [Value.func (Fn.func 89) { toList := [] } { toList := [Value.pointer x_2.fst, Value.pointer x_2.snd.fst] }] w2 fun (x_3 : Option Addr × Nat × Nat) (w2 : World) =>
       p.isSome = true ∧
        p.isSome = true ∧
         LdP w2 none (addP p 0) (El.one Sc.ptr) fun (x_4 : Option Addr) =>
          (x_3.fst.isSome = true ∧ 0 ≤ subI IntKind.i64 (↑x_3.snd.fst : Int) 1 ∧ subI IntKind.i64 (↑x_3.snd.fst : Int) 1 < (↑x_3.snd.fst : Int)) ∧
           (addP x_3.fst ((subI IntKind.i64 (↑x_3.snd.fst : Int) 1).toNat * 3)).isSome = true ∧
            LdP w2 none (addP (addP x_3.fst ((subI IntKind.i64 (↑x_3.snd.fst : Int) 1).toNat * 3)) 2) (El.one (Sc.int IntKind.i64)) fun (x_5 : Int) =>
             CaP Tryz.prog 58 (Sh.el (El.one (Sc.int IntKind.i64))) [Value.pointer x_4, Value.int IntKind.i64 x_5, Value.int IntKind.u64 0] w2 fun (x_6 : Int) (w2 : World) =>
              CaP Tryz.prog 59 (Sh.tup []) [Value.pointer p, Value.slice x_3.fst x_3.snd.fst x_3.snd.snd] w2 fun (x_7 : Unit) (w2 : World) => EnP w2 fun (w1 : World) => Post (x.fst, 0, Unit.unit) w1))) := by kernel_rfl
theorem tprot_vc (p : Option Addr) (pg r : Int) (w : World) (Post : Int → World → Prop) : (rxFn N0 (fun _ => []) 23 [.pointer p, .int .i64 pg, .int .i64 r] w Post) = (
 ∃ (x : Int),
  QCalls Tryz.prog 45 [Value.pointer p] w (Value.int IntKind.i64 x) ∧
   brP (x != 0) (EnP w fun (w1 : World) => Post x w1)
    (∃ (x : Int),
     QCalls Tryz.prog 52 [Value.int IntKind.i64 pg, Value.int IntKind.i64 0, Value.int IntKind.i64 r] w (Value.int IntKind.i64 x) ∧
      brP (x != 0) (EnP w fun (w1 : World) => Post x w1)
       (CaP Tryz.prog 46 (Sh.tup [El.agg [Sc.int IntKind.i64, Sc.int IntKind.i64, Sc.int IntKind.i64], El.agg [Sc.bool, Sc.int IntKind.i64, Sc.bool, Sc.int IntKind.i64]]) [Value.pointer p, Value.int IntKind.i64 pg] w
        fun (x : (Int × Int × Int × Unit) × (Bool × Int × Bool × Int × Unit) × Unit) (w2 : World) =>
        AlP w2 { toList := [Value.int IntKind.i64 0, Value.int IntKind.i64 0, Value.int IntKind.i64 0] } 91 fun (b : Nat) (w2 : World) =>
         AlP w2 { toList := [Value.bool false, Value.int IntKind.i64 0, Value.bool false, Value.int IntKind.i64 0] } 93 fun (b_1 : Nat) (w2 : World) =>
          StP w2 (some { block := b, off := 0 }) [Value.int IntKind.i64 x.fst.fst, Value.int IntKind.i64 x.fst.snd.fst, Value.int IntKind.i64 x.fst.snd.snd.fst] fun (w2 : World) =>
           StP w2 (some { block := b_1, off := 0 }) [Value.bool x.snd.fst.fst, Value.int IntKind.i64 x.snd.fst.snd.fst, Value.bool x.snd.fst.snd.snd.fst, Value.int IntKind.i64 x.snd.fst.snd.snd.snd.fst] fun (w2 : World) =>
            true = true ∧
             LdP w2 none (addP (some { block := b_1, off := 0 }) 0) (El.one Sc.bool) fun (x : Bool) =>
              brP (!x) (EnP w2 fun (w1 : World) => Post 4 w1)
               (true = true ∧
                LdP w2 none (addP (some { block := b_1, off := 0 }) 2) (El.one Sc.bool) fun (x : Bool) =>
                 (x = true → true = true) ∧
                  LdP w2 (some x) (addP (some { block := b_1, off := 0 }) 1) (El.one (Sc.int IntKind.i64)) fun (x_1 : Int) =>
                   brP (x && x_1 == r) (EnP w2 fun (w1 : World) => Post 0 w1)
                    (LdP w2 none (some { block := b, off := 0 }) (El.agg [Sc.int IntKind.i64, Sc.int IntKind.i64, Sc.int IntKind.i64]) fun (x : Int × Int × Int × Unit) =>
                     LdP w2 none (some { block := b_1, off := 0 }) (El.agg [Sc.bool, Sc.int IntKind.i64, Sc.bool, Sc.int IntKind.i64]) fun (x_2 : Bool × Int × Bool × Int × Unit) =>
                      ∃ (x_3 : Int),
                       QCalls Tryz.prog 47
                         [Value.int IntKind.i64 pg, Value.agg { toList := [Value.int IntKind.i64 x.fst, Value.int IntKind.i64 x.snd.fst, Value.int IntKind.i64 x.snd.snd.fst] },
                          Value.agg { toList := [Value.bool x_2.fst, Value.int IntKind.i64 x_2.snd.fst, Value.bool x_2.snd.snd.fst, Value.int IntKind.i64 x_2.snd.snd.snd.fst] }]
                         w2 (Value.int IntKind.i64 x_3) ∧
                        CaP Tryz.prog 55 (Sh.el (El.one (Sc.int IntKind.i64))) [Value.pointer p, Value.int IntKind.i64 pg] w2 fun (x : Int) (w2 : World) =>
                         brP (x != 0) (EnP w2 fun (w1 : World) => Post x w1)
                          (CaP Tryz.prog 46 (Sh.tup [El.agg [Sc.int IntKind.i64, Sc.int IntKind.i64, Sc.int IntKind.i64], El.agg [Sc.bool, Sc.int IntKind.i64, Sc.bool, Sc.int IntKind.i64]]) [Value.pointer p, Value.int IntKind.i64 pg] w2
                           fun (x : (Int × Int × Int × Unit) × (Bool × Int × Bool × Int × Unit) × Unit) (w2 : World) =>
                           StP w2 (some { block := b, off := 0 }) [Value.int IntKind.i64 x.fst.fst, Value.int IntKind.i64 x.fst.snd.fst, Value.int IntKind.i64 x.fst.snd.snd.fst] fun (w2 : World) =>
                            true = true ∧
                             LdP w2 none (addP (some { block := b, off := 0 }) 2) (El.one (Sc.int IntKind.i64)) fun (x : Int) =>
                              CaP Tryz.prog 60 (Sh.tup []) [Value.pointer p, Value.int IntKind.i64 x, Value.agg { toList := [Value.bool true, Value.int IntKind.i64 r, Value.bool false, Value.int IntKind.i64 x_3] }] w2 fun (x : Unit) (w2 : World) =>
                               EnP w2 fun (w1 : World) => Post 0 w1)))))) := by kernel_rfl
theorem tunder_vc (p : Option Addr) (f lv : Int) (w : World) (Post : Option Addr × Option Addr × Option Addr × Unit → World → Prop) : (rxFn N0 (fun _ => []) 50 [.pointer p, .int .i64 f, .int .i64 lv] w Post) = (
 AlP w { toList := [Value.pointer p] } 30 fun (b : Nat) (w2 : World) =>
  AlP w2 { toList := [Value.int IntKind.i64 f] } 3 fun (b_1 : Nat) (w2 : World) =>
   AlP w2 { toList := [Value.int IntKind.i64 lv] } 3 fun (b_2 : Nat) (w2 : World) => EnP w2 fun (w1 : World) => Post (some { block := b_1, off := 0 }, some { block := b, off := 0 }, some { block := b_2, off := 0 }, Unit.unit) w1) := by kernel_rfl
def tgathi_vc_ann : Nat → Slots := (fun | 4 => [(6, .one (.int .i64))] | _ => [])
theorem tgathi_vc (p c d : Option Addr) (w : World) (Post : Option Addr × Nat × Nat → World → Prop) : (rxFnR N0 tgathi_vc_ann 49 [.func (.func 80) #[] #[.pointer p, .pointer c, .pointer d]] w Post) = (
 AlP w { toList := [Value.slice none 0 0] } 44 fun (b : Nat) (w2 : World) =>
  RnP Tryz.prog 80 (fun (y : Nat) => [Value.func (Fn.yield y) { toList := [] } { toList := [] }, Value.pointer p, Value.pointer c, Value.pointer d]) { toList := [6] } w2 (fun (x : Int × Unit) => [Value.int IntKind.i64 x.fst])
   (fun (l : Nat) (rec : Loop) (x : Int × Unit) (w3 : World) (R : Bool → World → Prop) =>
    RoP l rec [Value.int IntKind.i64 x.fst].length 1 w3
     (BeP l rec w3 fun (w5 : World) =>
      LdP w5 none (some { block := b, off := 0 }) (El.one Sc.slice) fun (x_1 : Option Addr × Nat × Nat) =>
       AlP w5 { toList := [Value.int IntKind.i64 x.fst] } 3 fun (b_1 : Nat) (w2 : World) =>
        ∀ (w1 : World),
         Ext w2 w1 →
          apR w1 3 1 8 { toList := [Value.int IntKind.i64 0] } (x_1.fst, x_1.snd.fst, x_1.snd.snd) (some { block := b_1, off := 0 }, 1, 1) fun (r : Option Addr × Nat × Nat) (w2 : World) =>
           StP w2 (some { block := b, off := 0 }) [Value.slice r.fst r.snd.fst r.snd.snd] fun (w2 : World) => FiP l rec none w2 R))
   fun (r : Nat) (rec : Loop) (w4 : World) =>
   rxAfter (r + 1) rec w4 (fun (w5 : World) => LdP w5 none (some { block := b, off := 0 }) (El.one Sc.slice) fun (x : Option Addr × Nat × Nat) => ClP [r] w5 fun (w1 : World) => Post (x.fst, x.snd.fst, x.snd.snd) w1)
    (fun (id : Nat) (w5 : World) =>
     Decidable.rec (fun (h : id = 0 → False) => False) (fun (h : id = 0) => LdP w5 none (some { block := b, off := 0 }) (El.one Sc.slice) fun (x : Option Addr × Nat × Nat) => ClP [r] w5 fun (w1 : World) => Post (x.fst, x.snd.fst, x.snd.snd) w1)
      (match h : id.beq 0 with
      | true => isTrue (Nat.eq_of_beq_eq_true h)
      | false => isFalse (Nat.ne_of_beq_eq_false h)))
    fun (w5 : World) => ClP [r] w5 fun (w1 : World) => Post (none, 0, 0) w1) := by kernel_rfl
def tall_vc_ann : Nat → Slots := (fun | 5 => [(18, Go.RX.El.one (Go.RX.Sc.int Go.IntKind.i64))] | 8 => [(5, Go.RX.El.one (Go.RX.Sc.int Go.IntKind.i64))] | _ => [])
theorem tall_vc (p : Option Addr) (w : World) (Post : Option Addr × Nat × Nat → World → Prop) : (rxFn N0 tall_vc_ann 15 [.pointer p] w Post) = (
 ∃ (x : Int),
  QCalls Tryz.prog 45 [Value.pointer p] w (Value.int IntKind.i64 x) ∧
   brP (x != 0) (EnP w fun (w1 : World) => Post (none, 0, 0) w1)
    (p.isSome = true ∧
     p.isSome = true ∧
      LdP w none (addP p 3) (El.one (Sc.int IntKind.i64)) fun (x : Int) =>
       CaP Tryz.prog 50 (Sh.el (El.one (Sc.clo 80 3))) [Value.pointer p, Value.int IntKind.i64 x, Value.int IntKind.i64 3] w fun (x : Option Addr × Option Addr × Option Addr × Unit) (w2 : World) =>
        CaP Tryz.prog 49 (Sh.el (El.one Sc.slice)) [Value.func (Fn.func 80) { toList := [] } { toList := [Value.pointer x.fst, Value.pointer x.snd.fst, Value.pointer x.snd.snd.fst] }] w2 fun (x : Option Addr × Nat × Nat) (w2 : World) =>
         ∃ (I : Nat → Int × Unit → World → Prop),
          (∃ (n : Nat), ∀ (w1 : World), Ext w2 w1 → I n (0, Unit.unit) w1) ∧
           ∀ (n : Nat) (s : Int × Unit) (w1 : World),
            I n s w1 →
             brP (decide (s.fst < (↑x.snd.fst : Int)))
              (∃ (I_1 : Nat → Int × Unit → World → Prop),
               (∃ (n : Nat), ∀ (w1_1 : World), Ext w1 w1_1 → I_1 n (s.fst, Unit.unit) w1_1) ∧
                ∀ (n_1 : Nat) (s_1 : Int × Unit) (w1 : World),
                 I_1 n_1 s_1 w1 →
                  (decide (s_1.fst > 0) = true → x.fst.isSome = true ∧ 0 ≤ subI IntKind.i64 s_1.fst 1 ∧ subI IntKind.i64 s_1.fst 1 < (↑x.snd.fst : Int)) ∧
                   LdP w1 (some (decide (s_1.fst > 0))) (addP x.fst ((subI IntKind.i64 s_1.fst 1).toNat * 1)) (El.one (Sc.int IntKind.i64)) fun (x_1 : Int) =>
                    (decide (s_1.fst > 0) = true → x.fst.isSome = true ∧ 0 ≤ s_1.fst ∧ s_1.fst < (↑x.snd.fst : Int)) ∧
                     LdP w1 (some (decide (s_1.fst > 0))) (addP x.fst (Int.toNat s_1.fst * 1)) (El.one (Sc.int IntKind.i64)) fun (x_2 : Int) =>
                      brP (decide (s_1.fst > 0) && decide (x_1 > x_2))
                       ((x.fst.isSome = true ∧ 0 ≤ s_1.fst ∧ s_1.fst < (↑x.snd.fst : Int)) ∧
                        LdP w1 none (addP x.fst (Int.toNat s_1.fst * 1)) (El.one (Sc.int IntKind.i64)) fun (x_3 : Int) =>
                         (x.fst.isSome = true ∧ 0 ≤ subI IntKind.i64 s_1.fst 1 ∧ subI IntKind.i64 s_1.fst 1 < (↑x.snd.fst : Int)) ∧
                          LdP w1 none (addP x.fst ((subI IntKind.i64 s_1.fst 1).toNat * 1)) (El.one (Sc.int IntKind.i64)) fun (x_4 : Int) =>
                           (x.fst.isSome = true ∧ 0 ≤ subI IntKind.i64 s_1.fst 1 ∧ subI IntKind.i64 s_1.fst 1 < (↑x.snd.fst : Int)) ∧
                            StP w1 (addP x.fst ((subI IntKind.i64 s_1.fst 1).toNat * 1)) [Value.int IntKind.i64 x_3] fun (w2 : World) =>
                             (x.fst.isSome = true ∧ 0 ≤ s_1.fst ∧ s_1.fst < (↑x.snd.fst : Int)) ∧
                              StP w2 (addP x.fst (Int.toNat s_1.fst * 1)) [Value.int IntKind.i64 x_4] fun (w2 : World) => ∀ (w3 : World), Ext w2 w3 → ∃ (n' : Nat), n' < n_1 ∧ I_1 n' (subI IntKind.i64 s_1.fst 1, Unit.unit) w3)
                       (∀ (w3 : World), Ext w1 w3 → ∃ (n' : Nat), n' < n ∧ I n' (addI IntKind.i64 s.fst 1, Unit.unit) w3))
              (EnP w1 fun (w1 : World) => Post (x.fst, x.snd.fst, x.snd.snd) w1))) := by kernel_rfl
def tdrop_vc_ann : Nat → Slots := (fun | 5 => [(13, Go.RX.El.one (Go.RX.Sc.int Go.IntKind.i64))] | _ => [])
theorem tdrop_vc (p : Option Addr) (w : World) (Post : Option Addr × Nat × Nat → World → Prop) : (rxFn N0 tdrop_vc_ann 27 [.pointer p] w Post) = (
 ∃ (x : Int),
  QCalls Tryz.prog 45 [Value.pointer p] w (Value.int IntKind.i64 x) ∧
   brP (x != 0) (EnP w fun (w1 : World) => Post (none, 0, 0) w1)
    (CaP Tryz.prog 15 (Sh.el (El.one Sc.slice)) [Value.pointer p] w fun (x : Option Addr × Nat × Nat) (w2 : World) =>
     ∃ (I : Nat → Int × Unit → World → Prop),
      (∃ (n : Nat), ∀ (w1 : World), Ext w2 w1 → I n (0, Unit.unit) w1) ∧
       ∀ (n : Nat) (s : Int × Unit) (w1 : World),
        I n s w1 →
         brP (decide (s.fst < (↑x.snd.fst : Int)))
          ((x.fst.isSome = true ∧ 0 ≤ s.fst ∧ s.fst < (↑x.snd.fst : Int)) ∧
           LdP w1 none (addP x.fst (Int.toNat s.fst * 1)) (El.one (Sc.int IntKind.i64)) fun (x : Int) =>
            p.isSome = true ∧
             p.isSome = true ∧
              LdP w1 none (addP p 1) (El.one Sc.ptr) fun (x_1 : Option Addr) =>
               CaP Tryz.prog 65 (Sh.el (El.one (Sc.int IntKind.i64))) [Value.pointer x_1, Value.int IntKind.i64 x, Value.int IntKind.i64 5, Value.int IntKind.i64 0] w1 fun (x : Int) (w2 : World) =>
                ∀ (w3 : World), Ext w2 w3 → ∃ (n' : Nat), n' < n ∧ I n' (addI IntKind.i64 s.fst 1, Unit.unit) w3)
          (p.isSome = true ∧ p.isSome = true ∧ StP w1 (addP p 4) [Value.bool true] fun (w2 : World) => EnP w2 fun (w1 : World) => Post (x.fst, x.snd.fst, x.snd.snd) w1))) := by kernel_rfl
theorem tnew_vc (m p : Option Addr) (o : Int) (w : World) (Post : Option Addr × Int × Unit → World → Prop) : (rxFn N0 (fun _ => []) 38 [.pointer m, .pointer p, .int .i64 o] w Post) = (
 ∃ (x : Int),
  QCalls Tryz.prog 31 [Value.pointer m] w (Value.int IntKind.i64 x) ∧
   ∃ (x_1 : Int),
    ((!x == 0) = true → QCalls Tryz.prog 32 [Value.pointer p] w (Value.int IntKind.i64 x_1)) ∧
     ∃ (x_2 : Int),
      ((!(x == 0 || x_1 == 0)) = true → QCalls Tryz.prog 31 [Value.pointer m] w (Value.int IntKind.i64 x_2)) ∧
       ∃ (x_3 : Int),
        ((!(x == 0 || x_1 == 0)) = true → QCalls Tryz.prog 32 [Value.pointer p] w (Value.int IntKind.i64 x_3)) ∧
         brP (x == 0 || x_1 == 0 || decide (x_2 < mulI IntKind.i64 16 x_3)) (EnP w fun (w1 : World) => Post (none, 1, Unit.unit) w1)
          (AlP w { toList := [Value.pointer m, Value.pointer p, Value.int IntKind.i64 o, Value.int IntKind.i64 0, Value.bool false] } 106 fun (b : Nat) (w2 : World) =>
           CaP Tryz.prog 66 (Sh.tup [El.one (Sc.int IntKind.i64), El.one (Sc.int IntKind.i64)]) [Value.pointer (some { block := b, off := 0 }), Value.func (Fn.func 67) { toList := [] } { toList := [] }] w2 fun (x : Int × Int × Unit) (w2 : World) =>
            brP (x.snd.fst != 0) (EnP w2 fun (w1 : World) => Post (none, x.snd.fst, Unit.unit) w1)
             (true = true ∧ true = true ∧ StP w2 (addP (some { block := b, off := 0 }) 3) [Value.int IntKind.i64 x.fst] fun (w2 : World) => EnP w2 fun (w1 : World) => Post (some { block := b, off := 0 }, 0, Unit.unit) w1))) := by kernel_rfl
theorem mwords_vc (p : Option Addr) (i n : Int) (w : World) (Post : Option Addr × Nat × Nat → World → Prop) : (rxFn N0 (fun _ => []) 25 [.pointer p, .int .i64 i, .int .i64 n] w Post) = (
 brP p.isNone (EnP w fun (w1 : World) => Post (none, 0, 0) w1)
  (p.isSome = true ∧
   p.isSome = true ∧
    LdP w none (addP p 0) (El.agg [Sc.slice]) fun (x : (Option Addr × Nat × Nat) × Unit) =>
     CaP Tryz.prog 63 (Sh.el (El.one Sc.slice)) [Value.agg { toList := [Value.slice x.fst.fst x.fst.snd.fst x.fst.snd.snd] }, Value.int IntKind.i64 i, Value.int IntKind.i64 n] w fun (x : Option Addr × Nat × Nat) (w2 : World) =>
      EnP w2 fun (w1 : World) => Post (x.fst, x.snd.fst, x.snd.snd) w1)) := by kernel_rfl
theorem mcut_vc (p : Option Addr) (n c : Nat) (i k : Int) (w : World) (Post : Option Addr × Nat × Nat → World → Prop) : (rxFn N0 (fun _ => []) 63 [.agg ⟨[.slice p n c]⟩, .int .i64 i, .int .i64 k] w Post) = (
 AlP w { toList := [Value.slice p n c] } 123 fun (b : Nat) (w2 : World) =>
  ((!(decide (k < 1) || decide (i < 0))) = true → true = true) ∧
   LdP w2 (some !(decide (k < 1) || decide (i < 0))) (addP (some { block := b, off := 0 }) 0) (El.one Sc.slice) fun (x : Option Addr × Nat × Nat) =>
    ((!(decide (k < 1) || decide (i < 0) || decide (i > (↑x.snd.fst : Int)))) = true → true = true) ∧
     LdP w2 (some !(decide (k < 1) || decide (i < 0) || decide (i > (↑x.snd.fst : Int)))) (addP (some { block := b, off := 0 }) 0) (El.one Sc.slice) fun (x_1 : Option Addr × Nat × Nat) =>
      brP (decide (k < 1) || decide (i < 0) || decide (i > (↑x.snd.fst : Int)) || decide (k > subI IntKind.i64 (↑x_1.snd.fst : Int) i)) (EnP w2 fun (w1 : World) => Post (none, 0, 0) w1)
       (MkP w2 8 1 k k { toList := [Value.int IntKind.u64 0] } 59 fun (b_1 : Nat) (w2 : World) =>
        true = true ∧
         LdP w2 none (addP (some { block := b, off := 0 }) 0) (El.one Sc.slice) fun (x : Option Addr × Nat × Nat) =>
          (0 ≤ i ∧ i ≤ (↑x.snd.fst : Int) ∧ (↑x.snd.fst : Int) ≤ (↑x.snd.snd : Int) ∧ (↑x.snd.snd : Int) ≤ (↑x.snd.snd : Int)) ∧
           ∀ (w1 : World),
            Ext w2 w1 →
             cpR w1 1 (some { block := b_1, off := 0 }, k.toNat)
              (Decidable.rec (fun (h : (↑x.snd.snd : Int).toNat = i.toNat → False) => addP x.fst (i.toNat * 1)) (fun (h : (↑x.snd.snd : Int).toNat = i.toNat) => x.fst) (instDecidableEqNat (↑x.snd.snd : Int).toNat i.toNat),
               (↑x.snd.fst : Int).toNat - i.toNat)
              fun (r : Int) (w2 : World) => EnP w2 fun (w1 : World) => Post (some { block := b_1, off := 0 }, k.toNat, k.toNat) w1)) := by kernel_rfl
theorem mcopy_vc (p : Option Addr) (w : World) (Post : Option Addr → World → Prop) : (rxFn N0 (fun _ => []) 28 [.pointer p] w Post) = (
 ∃ (x : Int),
  QCalls Tryz.prog 31 [Value.pointer p] w (Value.int IntKind.i64 x) ∧
   brP (x == 0) (EnP w fun (w1 : World) => Post none w1)
    (p.isSome = true ∧
     LdP w none p (El.agg [Sc.slice, Sc.int IntKind.i64, Sc.int IntKind.i64]) fun (x : (Option Addr × Nat × Nat) × Int × Int × Unit) =>
      AlP w { toList := [Value.slice none 0 0, Value.int IntKind.i64 0, Value.int IntKind.i64 0] } 125 fun (b : Nat) (w2 : World) =>
       StP w2 (some { block := b, off := 0 }) [Value.slice x.fst.fst x.fst.snd.fst x.fst.snd.snd, Value.int IntKind.i64 x.snd.fst, Value.int IntKind.i64 x.snd.snd.fst] fun (w2 : World) =>
        ∃ (x : Int),
         QCalls Tryz.prog 31 [Value.pointer p] w2 (Value.int IntKind.i64 x) ∧
          CaP Tryz.prog 25 (Sh.el (El.one Sc.slice)) [Value.pointer p, Value.int IntKind.i64 0, Value.int IntKind.i64 x] w2 fun (x : Option Addr × Nat × Nat) (w2 : World) =>
           true = true ∧
            (addP (some { block := b, off := 0 }) 0).isSome = true ∧
             StP w2 (addP (addP (some { block := b, off := 0 }) 0) 0) [Value.slice x.fst x.snd.fst x.snd.snd] fun (w2 : World) => EnP w2 fun (w1 : World) => Post (some { block := b, off := 0 }) w1)) := by kernel_rfl
end Go.Proofs.YtkldededdgpmbaaGreat
namespace Go.Proofs.YtkldededdgpmbaaGreat
set_option linter.unusedSimpArgs false
set_option linter.unusedVariables false
set_option maxRecDepth 100000
open Go.RX D
/-! ### Tables over words and frames, in plain Lean -/
abbrev ET : Type := Bool × Int × Bool × Int × Unit
abbrev PT : Type := Int × Int × Int × Unit
abbrev sEn : List Sc := [.bool, .int .i64, .bool, .int .i64]
abbrev sPl : List Sc := [.int .i64, .int .i64, .int .i64]
def zE : ET := (false, 0, false, 0, ())
/-- A word's entry. -/
def entV (v : Int) : ET := (prP (B v).toNat, prR (B v).toNat, prL (B v).toNat, prF (B v).toNat, ())
def tabP (e : ET) : Bool := tableE e.1 e.2.1 e.2.2.1 e.2.2.2.1
def pkP (e : ET) : Int := pkW e.1 e.2.1 e.2.2.1 e.2.2.2.1
def leadP (f : Int) : ET := (true, 0, false, f, ())
def entA (ws : List Int) (i : Int) : ET := entV (ldV ws i)
/-- The tables on a page's way. -/
def wayL (ws : List Int) (pg : Int) : Nat → Int → List PT
  | 0, f => [(f, 0, atI f pg 0, ())]
  | l + 1, f => (f, ((l + 1 : Nat) : Int), atI f pg ((l + 1 : Nat) : Int), ()) :: if tabP (entA ws (atI f pg ((l + 1 : Nat) : Int))) = true then wayL ws pg l (entA ws (atI f pg ((l + 1 : Nat) : Int))).2.2.2.1 else []
theorem wayL_ne (ws : List Int) (pg : Int) (l : Nat) (f : Int) : wayL ws pg l f ≠ [] := by cases l <;> simp [wayL]
theorem wayL_len (ws : List Int) (pg : Int) : ∀ (l : Nat) (f : Int), (wayL ws pg l f).length ≤ l + 1
  | 0, f => by simp [wayL]
  | l + 1, f => by
    rw [wayL]
    split
    · have := wayL_len ws pg l (entA ws (atI f pg ((l + 1 : Nat) : Int))).2.2.2.1
      simp only [List.length_cons]; omega
    · simp
def endX (ws : List Int) (r pg : Int) : PT := (wayL ws pg 3 r).getLastD (0, 0, 0, ())
def endP (ws : List Int) (r pg : Int) : ET := entA ws (endX ws r pg).2.2.1
/-- A frame's words are laid. -/
def fillL (ws : List Int) (f : Int) (g : Int → Int) : Nat → List Int
  | 0 => ws
  | i + 1 => stL (fillL ws f g i) (16 * f + (i : Int)) (g i)
theorem fillL_len (ws : List Int) (f : Int) (g : Int → Int) : ∀ n, (fillL ws f g n).length = ws.length
  | 0 => rfl
  | n + 1 => by rw [fillL, stL_len, fillL_len ws f g n]
/-- Words and frames. -/
abbrev WD : Type := List Int × List DT
def tkF (s : WD) (o : Int) : Int := takeF s.2 3 o
def tkE (s : WD) (o : Int) : Int := takeE s.2 3 o
def tkS (s : WD) (o : Int) (g : Int → Int) : WD := (if tkE s o = 0 then fillL s.1 (tkF s o) g 16 else s.1, takeL s.2 3 o)
def layS (s : WD) (i : Int) (e : ET) : WD := (stL s.1 i (pkP e), s.2)
/-- Tables down to a level. -/
def downS (o pg : Int) : Nat → WD × PT → WD × PT
  | 0, x => x
  | n + 1, x => downS o pg n (layS (tkS x.1 o fun _ => 0) x.2.2.2.1 (leadP (tkF x.1 o)), (tkF x.1 o, x.2.2.1 - 1, atI (tkF x.1 o) pg (x.2.2.1 - 1), ()))
def putE (s : WD) (r pg lv : Int) : Int :=
  if ((endP s.1 r pg).1 || decide ((endX s.1 r pg).2.1 < lv)) = true then 5
  else if (cntL s.2 0 : Int) < (endX s.1 r pg).2.1 - lv then 12 else 0
def putS (s : WD) (o r pg lv : Int) (e : ET) : WD :=
  if putE s r pg lv = 0 then layS (downS o pg ((endX s.1 r pg).2.1 - lv).toNat (s, endX s.1 r pg)).1 (downS o pg ((endX s.1 r pg).2.1 - lv).toNat (s, endX s.1 r pg)).2.2.2.1 e else s
def rgtE (pg f rt : Int) : Int := if pg < 0 ∨ pg ≥ 65536 ∨ f < 0 ∨ f ≥ 4096 then 2 else if rt < 1 ∨ rt > 7 then 7 else 0
def mapE (s : WD) (r : Int) (gone : Bool) (pg f rt : Int) : Int := if gone = true then 6 else if rgtE pg f rt = 0 then putE s r pg 0 else rgtE pg f rt
def mapS (s : WD) (o r : Int) (gone : Bool) (pg f rt : Int) : WD := if gone = true then s else if rgtE pg f rt = 0 then putS s o r pg 0 (true, rt, false, f, ()) else s
def algE (pg f : Int) : Bool := decide (pg % 16 > 0) || decide (f % 16 > 0)
def lrgE (s : WD) (r : Int) (gone : Bool) (pg f rt : Int) : Int := if gone = true then 6 else if rgtE pg f rt = 0 then (if algE pg f = true then 8 else putE s r pg 1) else rgtE pg f rt
def lrgS (s : WD) (o r : Int) (gone : Bool) (pg f rt : Int) : WD := if gone = true then s else if rgtE pg f rt = 0 then (if algE pg f = true then s else putS s o r pg 1 (true, rt, true, f, ())) else s
def frmP (pg : Int) (x : PT) (e : ET) : Int := if x.2.1 = 1 then e.2.2.2.1 + pg % 16 else e.2.2.2.1
def qryV (s : WD) (r : Int) (gone : Bool) (pg : Int) : Int × Int × Int × Unit :=
  if gone = true then (0, 0, 6, ()) else if pg < 0 ∨ pg ≥ 65536 then (0, 0, 2, ())
  else if (endP s.1 r pg).1 = true then (frmP pg (endX s.1 r pg) (endP s.1 r pg), (endP s.1 r pg).2.1, 0, ()) else (0, 0, 4, ())
def splG (e : ET) (i : Int) : Int := pkP (true, e.2.1, false, e.2.2.2.1 + i, ())
def splE (s : WD) (o r pg : Int) : Int := if (endX s.1 r pg).2.1 = 0 then 0 else tkE s o
def splS (s : WD) (o r pg : Int) : WD :=
  if (endX s.1 r pg).2.1 = 0 then s
  else if tkE s o = 0 then layS (tkS s o (splG (endP s.1 r pg))) (endX s.1 r pg).2.2.1 (leadP (tkF s o)) else tkS s o (splG (endP s.1 r pg))
/-- Some words. -/
def cutL (ws : List Int) (i n : Int) : List Int := if n < 1 ∨ i < 0 ∨ i > ws.length ∨ n > ws.length - i then [] else (ws.drop i.toNat).take n.toNat
def allZ (ws : List Int) (f : Int) : Bool := (cutL ws (16 * f) 16).all fun v => v == 0
/-- Tables without entries are taken away; the last one is the first in the row. -/
def thinS : List PT → WD → WD
  | x :: y :: l, s => if allZ s.1 x.1 = true then thinS (y :: l) (stL s.1 y.2.2.1 0, chL s.2 x.1 (turnG 5 0)) else s
  | _, s => s
def unmE (s : WD) (o r : Int) (gone : Bool) (pg : Int) : Int := if (qryV s r gone pg).2.2.1 = 0 then splE s o r pg else (qryV s r gone pg).2.2.1
def unmF (s : WD) (o r : Int) (gone : Bool) (pg : Int) : Int := if unmE s o r gone pg = 0 then (qryV s r gone pg).1 else 0
def unmS (s : WD) (o r : Int) (gone : Bool) (pg : Int) : WD :=
  if (qryV s r gone pg).2.2.1 = 0 then
    if splE s o r pg = 0 then thinS (wayL (splS s o r pg).1 pg 3 r).reverse (stL (splS s o r pg).1 (endX (splS s o r pg).1 r pg).2.2.1 0, (splS s o r pg).2)
    else splS s o r pg
  else s
def proE (s : WD) (o r : Int) (gone : Bool) (pg rt : Int) : Int :=
  if gone = true then 6 else if rgtE pg 0 rt = 0 then (if (endP s.1 r pg).1 = true then (if ((endP s.1 r pg).2.2.1 && (endP s.1 r pg).2.1 == rt) = true then 0 else splE s o r pg) else 4) else rgtE pg 0 rt
def proS (s : WD) (o r : Int) (gone : Bool) (pg rt : Int) : WD :=
  if gone = true then s else if rgtE pg 0 rt = 0 then (if (endP s.1 r pg).1 = true then (if ((endP s.1 r pg).2.2.1 && (endP s.1 r pg).2.1 == rt) = true then s
    else if splE s o r pg = 0 then layS (splS s o r pg) (endX (splS s o r pg).1 r pg).2.2.1 (true, rt, false, frmP pg (endX s.1 r pg) (endP s.1 r pg), ()) else splS s o r pg) else s) else s
/-- The tables under one, and itself. -/
def underL (ws : List Int) : Nat → Int → List Int
  | 0, f => [f]
  | l + 1, f => f :: (List.range 16).flatMap fun (i : Nat) => if tabP (entA ws (16 * f + (i : Int))) = true then underL ws l (entA ws (16 * f + (i : Int))).2.2.2.1 else []
/-- A row's elements so far, the last one first: one more goes to its place. -/
def insD (x : Int) : List Int → List Int
  | [] => [x]
  | y :: l => if y > x then y :: insD x l else x :: y :: l
def sortI (l : List Int) : List Int := (l.foldl (fun a x => insD x a) []).reverse
def allS2 (s : WD) (r : Int) (gone : Bool) : List Int := if gone = true then [] else sortI (underL s.1 3 r)
def dropS (s : WD) (r : Int) (gone : Bool) : WD := if gone = true then s else (s.1, (allS2 s r gone).foldl (fun ds f => chL ds f (turnG 5 0)) s.2)
end Go.Proofs.YtkldededdgpmbaaGreat
namespace Go.Proofs.YtkldededdgpmbaaGreat
set_option linter.unusedSimpArgs false
set_option linter.unusedVariables false
set_option maxRecDepth 100000
open Go.RX D
/-! ### Words and frames, as they lie in memory -/
structure Sys where
  bm : Nat
  bw : Nat
  bf : Nat
  bp : Nat
  c : Nat
  cp : Nat
  rw : List Value
  rf : List Value
def Sys.L (Q : Sys) (ca la : Int) (s : WD) (L0 : List (Nat × List Value)) : List (Nat × List Value) :=
  (Q.bm, mcs Q.bw s.1.length Q.c ca la) :: (Q.bw, flat eW s.1 ++ Q.rw) :: (Q.bf, flat eD s.2 ++ Q.rf) :: (Q.bp, [.slice (some ⟨Q.bf, 0, none⟩) s.2.length Q.cp]) :: L0
/-- What is known: words, frames, and other blocks. -/
structure SAt (Q : Sys) (D G : List Nat) (w0 w : World) (s : WD) (L0 : List (Nat × List Value)) : Prop where
  pos : 0 < s.1.length
  fpos : 0 < s.2.length
  le : s.2.length ≤ 4096
  okw : okW s.1
  kn : ∃ ca la, AtD D G w0 w (Q.L ca la s L0)
/-- A guest's tables, as they lie in memory. -/
abbrev tcs (Q : Sys) (o r : Int) (gone : Bool) : List Value := [.pointer (some ⟨Q.bm, 0, none⟩), .pointer (some ⟨Q.bp, 0, none⟩), .int .i64 o, .int .i64 r, .bool gone]
theorem stL_ok {ws : List Int} (h : okW ws) (i v : Int) (hv : 0 ≤ v ∧ v < 18446744073709551616) : okW (stL ws i v) := by
  intro x hx
  unfold stL at hx
  split at hx
  · rcases List.mem_or_eq_of_mem_set hx with hx | rfl
    · exact h x hx
    · exact hv
  · exact h x hx
theorem pk_rng (p : Bool) (r : Int) (l : Bool) (f : Int) : 0 ≤ pkW p r l f ∧ pkW p r l f < 18446744073709551616 := by
  unfold pkW
  split
  · rename_i h
    unfold wordI
    cases p with
    | false =>
      unfold rightE at h
      simp at h
      obtain ⟨⟨h1, h2⟩, h3⟩ := h
      subst h1; subst h2; subst h3
      decide
    | true =>
      unfold rightE at h
      simp at h
      have b1 : (nB l : Int) ≤ 1 := by cases l <;> decide
      have b0 : 0 ≤ (nB l : Int) := by omega
      have e1 : (nB true : Int) = 1 := rfl
      rw [e1]
      omega
  · exact ⟨by decide, by decide⟩
theorem prF_rng (n : Nat) : 0 ≤ prF n ∧ prF n < 4096 := by
  unfold prF
  split <;> omega
section
variable {Q : Sys} {D G : List Nat} {w0 w w1 : World} {s : WD} {L0 L1 : List (Nat × List Value)}
namespace SAt
theorem ext (S : SAt Q D G w0 w s L0) (h : Ext w w1) : SAt Q D G w0 w1 s L0 := by
  obtain ⟨h1, h2, h3, h4, ca, la, H⟩ := S
  exact ⟨h1, h2, h3, h4, ca, la, H.ext h⟩
theorem al (S : SAt Q D G w0 w s L0) {cs : List Value} {e : TypeId} {K : Nat → World → Prop} (k : ∀ b w1, SAt Q D G w0 w1 s ((b, cs) :: L0) → K b w1) : AlP w ⟨cs⟩ e K := by
  obtain ⟨h1, h2, h3, h4, ca, la, H⟩ := S
  exact AlP.go H fun b w1 H => k b w1 ⟨h1, h2, h3, h4, ca, la, H.perm (List.perm_middle (l₁ := [_, _, _, _]))⟩
theorem en (S : SAt Q D G w0 w s L0) {K : World → Prop} (k : ∀ w1, SAt Q D G w0 w1 s L0 → K w1) : EnP w K := fun _ h => k _ (S.ext h)
theorem get (S : SAt Q D G w0 w s L0) {i b : Nat} {l : List Value} (h : L0[i]? = some (b, l)) : Blk w b l := by
  obtain ⟨h1, h2, h3, h4, ca, la, H⟩ := S
  exact H.get (i := i + 4) h
theorem ld (i : Nat) (S : SAt Q D G w0 w s L0) {g : Option Bool} {el : El} {K : el.T → Prop} {b o : Nat} {l : List Value} {x : el.T} (hL : L0[i]? = some (b, l)) (hv : elAt l o el = some x) (k : K x) : LdP w g (some ⟨b, o, none⟩) el K :=
  .of x (elAt_rd (S.get hL) hv) k
theorem ldA (i : Nat) (S : SAt Q D G w0 w s L0) {g : Option Bool} {el : El} {K : el.T → Prop} {b o n : Nat} {l : List Value} {x : el.T} (hL : L0[i]? = some (b, l)) (hv : elAt l (o + n) el = some x) (k : K x) : LdP w g (addP (some ⟨b, o, none⟩) n) el K := by
  rw [addP_B]; exact .of x (elAt_rd (S.get hL) hv) k
theorem stAll (i : Nat) (S : SAt Q D G w0 w s L0) {b : Nat} {l vs : List Value} {K : World → Prop} (hL : L0[i]? = some (b, l)) (ho : vs.all (·.oneCell') = true) (hn : vs.length = l.length)
    (k : ∀ w1, SAt Q D G w0 w1 s (L0.set i (b, vs)) → K w1) : StP w (some ⟨b, 0, none⟩) vs K := by
  obtain ⟨h1, h2, h3, h4, ca, la, H⟩ := S
  exact StP.all (i + 4) H hL ho hn fun w1 H => k w1 ⟨h1, h2, h3, h4, ca, la, H⟩
theorem stOne (i : Nat) (S : SAt Q D G w0 w s L0) {b o : Nat} {l : List Value} {x : Value} {K : World → Prop} (hL : L0[i]? = some (b, l)) (ho : x.oneCell' = true) (hn : Nat.blt o l.length = true)
    (k : ∀ w1, SAt Q D G w0 w1 s (L0.set i (b, l.set o x)) → K w1) : StP w (some ⟨b, o, none⟩) [x] K := by
  obtain ⟨h1, h2, h3, h4, ca, la, H⟩ := S
  exact StP.one (i + 4) H hL ho hn fun w1 H => k w1 ⟨h1, h2, h3, h4, ca, la, H⟩
theorem stOneA (i : Nat) (S : SAt Q D G w0 w s L0) {b o n : Nat} {l : List Value} {x : Value} {K : World → Prop} (hL : L0[i]? = some (b, l)) (ho : x.oneCell' = true) (hn : Nat.blt (o + n) l.length = true)
    (k : ∀ w1, SAt Q D G w0 w1 s (L0.set i (b, l.set (o + n) x)) → K w1) : StP w (addP (some ⟨b, o, none⟩) n) [x] K := by
  rw [addP_B]; exact S.stOne i hL ho hn k
theorem go (S : SAt Q D G w0 w s L0) {P : Program} {f : FuncId} {sh : Sh} {args : List Value} {K : sh.T → World → Prop} (k : ∀ w1, SAt Q D G w0 w1 s L0 → CallsR P f sh args w1 K) : CaP P f sh args w K := fun _ h => k _ (S.ext h)
theorem sub (S : SAt Q D G w0 w s L0) (h : L1.Sublist L0) : SAt Q D G w0 w s L1 := by
  obtain ⟨h1, h2, h3, h4, ca, la, H⟩ := S
  exact ⟨h1, h2, h3, h4, ca, la, H.sub (((((h.cons_cons _).cons_cons _).cons_cons _).cons_cons _))⟩
theorem tail {x : Nat × List Value} (S : SAt Q D G w0 w s (x :: L0)) : SAt Q D G w0 w s L0 := S.sub (List.sublist_cons_self _ _)
theorem perm (S : SAt Q D G w0 w s L0) (h : L1.Perm L0) : SAt Q D G w0 w s L1 := by
  obtain ⟨h1, h2, h3, h4, ca, la, H⟩ := S
  exact ⟨h1, h2, h3, h4, ca, la, H.perm ((((h.cons _).cons _).cons _).cons _)⟩
theorem mem (S : SAt Q D G w0 w s L0) : ∃ ca la, Blk w Q.bm (mcs Q.bw s.1.length Q.c ca la) := by
  obtain ⟨h1, h2, h3, h4, ca, la, H⟩ := S
  exact ⟨ca, la, H.get (i := 0) rfl⟩
theorem pool (S : SAt Q D G w0 w s L0) : Blk w Q.bp [.slice (some ⟨Q.bf, 0, none⟩) s.2.length Q.cp] := by
  obtain ⟨h1, h2, h3, h4, ca, la, H⟩ := S
  exact H.get (i := 3) rfl
theorem frames (S : SAt Q D G w0 w s L0) : Blk w Q.bf (flat eD s.2 ++ Q.rf) := by
  obtain ⟨h1, h2, h3, h4, ca, la, H⟩ := S
  exact H.get (i := 2) rfl
/-! The calls of the layers below. -/
theorem load (S : SAt Q D G w0 w s L0) (i : Int) {K : Int × Int × Unit → World → Prop} (k : ∀ w2, SAt Q D G w0 w2 s L0 → K (ldV s.1 i, ldE s.1 i, ()) w2) :
    CaP Tryz.prog 107 (.tup [.one (.int .u64), .one (.int .i64)]) [.pointer (some ⟨Q.bm, 0, none⟩), .int .i64 i] w K := by
  obtain ⟨h1, h2, h3, h4, ca, la, H⟩ := S
  exact mload_at H 0 1 rfl rfl (by decide) rfl h1 i fun w2 H => k w2 ⟨h1, h2, h3, h4, _, _, H⟩
theorem store (S : SAt Q D G w0 w s L0) (i v : Int) (hv : 0 ≤ v ∧ v < 18446744073709551616) {K : Int → World → Prop} (k : ∀ w2, SAt Q D G w0 w2 (stL s.1 i v, s.2) L0 → K (ldE s.1 i) w2) :
    CaP Tryz.prog 58 (.el (.one (.int .i64))) [.pointer (some ⟨Q.bm, 0, none⟩), .int .i64 i, .int .u64 v] w K := by
  obtain ⟨h1, h2, h3, h4, ca, la, H⟩ := S
  refine mstore_at H 0 1 rfl rfl (by decide) rfl h1 i v fun w2 H => k w2 ⟨?_, h2, h3, stL_ok h4 i v hv, upM s.1 i ca, upM s.1 i la, ?_⟩
  · show 0 < (stL s.1 i v).length
    rw [stL_len]; exact h1
  · unfold Sys.L
    show AtD D G w0 w2 ((Q.bm, mcs Q.bw (stL s.1 i v).length Q.c _ _) :: _)
    rw [stL_len]
    exact H
theorem take (S : SAt Q D G w0 w s L0) (y o : Int) {K : Int × Int × Unit → World → Prop} (k : ∀ w2, SAt Q D G w0 w2 (s.1, takeL s.2 y o) L0 → K (takeF s.2 y o, takeE s.2 y o, ()) w2) :
    CaP Tryz.prog 101 (.tup [.one (.int .i64), .one (.int .i64)]) [.pointer (some ⟨Q.bp, 0, none⟩), .int .i64 y, .int .i64 o] w K := by
  obtain ⟨h1, h2, h3, h4, ca, la, H⟩ := S
  refine take_at H 3 2 rfl rfl (by decide) rfl h2 h3 y o fun w2 H => k w2 ⟨h1, ?_, ?_, h4, ca, la, ?_⟩
  · show 0 < (takeL s.2 y o).length
    rw [takeL_len]; exact h2
  · show (takeL s.2 y o).length ≤ 4096
    rw [takeL_len]; exact h3
  · unfold Sys.L
    show AtD D G w0 w2 (_ :: _ :: _ :: (Q.bp, [.slice _ (takeL s.2 y o).length _]) :: _)
    rw [takeL_len]
    exact H
theorem turn (S : SAt Q D G w0 w s L0) (f y o : Int) {K : Int → World → Prop} (k : ∀ w2, SAt Q D G w0 w2 (s.1, chL s.2 f (turnG y o)) L0 → K (chE s.2 f (turnG y o)) w2) :
    CaP Tryz.prog 65 (.el (.one (.int .i64))) [.pointer (some ⟨Q.bp, 0, none⟩), .int .i64 f, .int .i64 y, .int .i64 o] w K := by
  obtain ⟨h1, h2, h3, h4, ca, la, H⟩ := S
  refine turn_at H 3 2 rfl rfl (by decide) rfl h2 h3 f y o fun w2 H => k w2 ⟨h1, ?_, ?_, h4, ca, la, ?_⟩
  · show 0 < (chL s.2 f (turnG y o)).length
    rw [chL_len]; exact h2
  · show (chL s.2 f (turnG y o)).length ≤ 4096
    rw [chL_len]; exact h3
  · unfold Sys.L
    show AtD D G w0 w2 (_ :: _ :: _ :: (Q.bp, [.slice _ (chL s.2 f (turnG y o)).length _]) :: _)
    rw [chL_len]
    exact H
theorem cnt (S : SAt Q D G w0 w s L0) (v : Int) : QCalls Tryz.prog 26 [.pointer (some ⟨Q.bp, 0, none⟩), .int .i64 v] w (.int .i64 (cntL s.2 v : Nat)) := by
  obtain ⟨h1, h2, h3, h4, ca, la, H⟩ := S
  exact count_q H 3 2 rfl rfl rfl h3 v
theorem mlen (S : SAt Q D G w0 w s L0) : QCalls Tryz.prog 31 [.pointer (some ⟨Q.bm, 0, none⟩)] w (.int .i64 (s.1.length : Nat)) := by
  obtain ⟨h1, h2, h3, h4, ca, la, H⟩ := S
  exact QCalls.of (s := .el (.one (.int .i64))) fun w' h' => mlen_ok ((H.get (i := 0) rfl).ext h')
theorem plen (S : SAt Q D G w0 w s L0) : QCalls Tryz.prog 32 [.pointer (some ⟨Q.bp, 0, none⟩)] w (.int .i64 (s.2.length : Nat)) := by
  obtain ⟨h1, h2, h3, h4, ca, la, H⟩ := S
  exact len_q H 3 rfl
end SAt
end
end Go.Proofs.YtkldededdgpmbaaGreat
namespace Go.Proofs.YtkldededdgpmbaaGreat
set_option linter.unusedSimpArgs false
set_option linter.unusedVariables false
set_option maxRecDepth 100000
open Go.RX D
/-! ### Tables: small functions, frames that are taken -/
def stE (gone : Bool) : Int := if gone = true then 6 else 0
def rootI (r : Int) (gone : Bool) : Int := if gone = true then -1 else r
theorem right_q (pg f rt : Int) (w : World) : QCalls Tryz.prog 52 [.int .i64 pg, .int .i64 f, .int .i64 rt] w (.int .i64 (rgtE pg f rt)) := by
  refine QCalls.of (s := .el (.one (.int .i64))) fun w' _ => rxFn_ok (C := N0) (ann := fun _ => []) (Eq.mpr (tright_vc _ _ _ w' _) ?_)
  unfold rgtE
  refine brP_intro (fun c => fun w1 h1 => ⟨?_, h1⟩) (fun c => brP_intro (fun d => fun w1 h1 => ⟨?_, h1⟩) (fun d => fun w1 h1 => ⟨?_, h1⟩))
  · simp at c; rw [if_pos (by omega)]
  · simp at c d; rw [if_neg (by omega), if_pos (by omega)]
  · simp at c d; rw [if_neg (by omega), if_neg (by omega)]
theorem leads_q (f : Int) (w : World) : QCalls Tryz.prog 85 [.int .i64 f] w (.agg ⟨[.bool true, .int .i64 0, .bool false, .int .i64 f]⟩) := by
  refine QCalls.of (s := .el (.agg sEn)) (v := leadP f) fun w' _ => rxFnR_ok (C := N0) (ann := fun _ => []) (Eq.mpr (tleads_vc f w' _) ?_)
  have H := At.start [] w'
  exact AlP.go H fun b w2 H => StP.all 0 H rfl rfl rfl fun w3 H => EnP.go H fun w4 H => LdP.at 0 H rfl rfl ⟨rfl, H.all⟩
theorem frame_q {pg : Int} (hp : 0 ≤ pg) (x : PT) (e : ET) (he : 0 ≤ e.2.2.2.1 ∧ e.2.2.2.1 < 4096) (w : World) : QCalls Tryz.prog 47 [.int .i64 pg, .agg ⟨[.int .i64 x.1, .int .i64 x.2.1, .int .i64 x.2.2.1]⟩, .agg ⟨[.bool e.1, .int .i64 e.2.1, .bool e.2.2.1, .int .i64 e.2.2.2.1]⟩] w (.int .i64 (frmP pg x e)) := by
  refine QCalls.of (s := .el (.one (.int .i64))) fun w' _ => rxFn_ok (C := N0) (ann := fun _ => []) (Eq.mpr (tframe_vc pg x.1 x.2.1 x.2.2.1 e.1 e.2.1 e.2.2.1 e.2.2.2.1 w' _) ?_)
  have H := At.start [] w'
  unfold frmP
  refine AlP.go H fun b w2 H => AlP.go H fun b1 w3 H => ⟨rfl, LdP.atA 1 H rfl rfl (brP_intro (fun c => ⟨rfl, LdP.atA 0 H rfl rfl ⟨trivial, by decide, EnP.go H fun w4 H => ⟨?_, H.all⟩⟩⟩) (fun c => ⟨rfl, LdP.atA 0 H rfl rfl (EnP.go H fun w4 H => ⟨?_, H.all⟩)⟩))⟩
  · have c : x.2.1 = 1 := by simpa using c
    rw [if_pos c]
    have e1 : remI pg (spanI 1) = pg % 16 := by
      have : spanI 1 = 16 := rfl
      rw [this]; exact Int.tmod_eq_emod_of_nonneg hp
    rw [e1, addI_i64 (by omega) (by omega)]
  · have c : ¬ x.2.1 = 1 := by simpa using c
    rw [if_neg c]
section
variable {Q : Sys} {D G : List Nat} {w0 w : World} {s : WD} {L0 : List (Nat × List Value)} {bt : Nat} {o r : Int} {gone : Bool}
namespace SAt
theorem state (S : SAt Q D G w0 w s L0) (i : Nat) (ht : L0[i]? = some (bt, tcs Q o r gone)) : QCalls Tryz.prog 45 [.pointer (some ⟨bt, 0, none⟩)] w (.int .i64 (stE gone)) := by
  have hb := S.get ht
  refine QCalls.of (s := .el (.one (.int .i64))) fun w' h' => rxFn_ok (C := N0) (ann := fun _ => []) (Eq.mpr (tstate_vc _ w' _) ?_)
  have hb := hb.ext h'
  refine ⟨fun _ => rfl, fun _ => rfl, LdP.of (some ⟨Q.bm, 0, none⟩) (by rw [addP_B]; exact hb.rd1 rfl) (brP_neg rfl ⟨rfl, rfl, LdP.of gone (by rw [addP_B]; exact hb.rd1 rfl) ?_⟩)⟩
  cases gone with
  | true => exact brP_pos rfl fun w1 h1 => ⟨rfl, h1⟩
  | false => exact brP_neg rfl fun w1 h1 => ⟨rfl, h1⟩
theorem root (S : SAt Q D G w0 w s L0) (i : Nat) (ht : L0[i]? = some (bt, tcs Q o r gone)) : QCalls Tryz.prog 17 [.pointer (some ⟨bt, 0, none⟩)] w (.int .i64 (rootI r gone)) := by
  refine QCalls.of (s := .el (.one (.int .i64))) fun w' h' => rxFn_ok (C := N0) (ann := fun _ => []) (Eq.mpr (troot_vc _ w' _) ?_)
  have S := S.ext h'
  refine ⟨_, S.state i ht, ?_⟩
  cases gone with
  | true => exact brP_pos rfl fun w1 h1 => ⟨rfl, h1⟩
  | false => exact brP_neg rfl ⟨rfl, rfl, S.ldA i ht rfl fun w1 h1 => ⟨rfl, h1⟩⟩
theorem at_ (S : SAt Q D G w0 w s L0) (k : Nat) (ht : L0[k]? = some (bt, tcs Q o r gone)) (i : Int) {K : ET → World → Prop} (c : ∀ w2, SAt Q D G w0 w2 s L0 → K (entA s.1 i) w2) :
    CaP Tryz.prog 78 (.el (.agg sEn)) [.pointer (some ⟨bt, 0, none⟩), .int .i64 i] w K := by
  refine S.go fun w1 S => rxFnR_ok (C := N0) (ann := fun _ => []) (Eq.mpr (tat_vc _ i w1 K) ?_)
  refine S.al fun b w2 S => ⟨rfl, rfl, S.ldA (k + 1) ht rfl (S.load i fun w3 S => ⟨?_, S.al fun b1 w4 S => S.stAll 0 rfl rfl rfl fun w5 S => S.ld 0 rfl rfl (S.stAll 1 rfl rfl rfl fun w6 S => S.en fun w7 S => S.ld 1 rfl rfl (c w7 S.tail.tail))⟩)⟩
  have h := ld_rng S.okw i
  exact U_B' h.1 h.2
theorem lay (S : SAt Q D G w0 w s L0) (k : Nat) (ht : L0[k]? = some (bt, tcs Q o r gone)) (i : Int) (e : ET) {K : Unit → World → Prop} (c : ∀ w2, SAt Q D G w0 w2 (layS s i e) L0 → K () w2) :
    CaP Tryz.prog 60 (.tup []) [.pointer (some ⟨bt, 0, none⟩), .int .i64 i, .agg ⟨[.bool e.1, .int .i64 e.2.1, .bool e.2.2.1, .int .i64 e.2.2.2.1]⟩] w K := by
  refine S.go fun w1 S => rxFn_ok (C := N0) (ann := fun _ => []) (Eq.mpr (tlay_vc _ i e.1 e.2.1 e.2.2.1 e.2.2.2.1 w1 K) ?_)
  exact S.al fun b w2 S => S.ld 0 rfl rfl ⟨trivial, rfl, rfl, S.ldA (k + 1) ht rfl (S.store i _ (pk_rng _ _ _ _) fun w3 S => S.en fun w4 S => c w4 S.tail)⟩
end SAt
theorem takeF0 {ds : List DT} {y o : Int} (h : ¬ takeE ds y o = 0) : takeF ds y o = 0 := by
  unfold takeE at h
  unfold takeF
  cases hf : freeI ds with
  | none => rfl
  | some n =>
    have hl : ¬ ds.length = 0 := fun e => by
      have : ds = [] := List.length_eq_zero_iff.1 e
      subst this
      cases hf
    rw [if_neg hl, hf] at h
    exact if_neg h
theorem takeF_rng (ds : List DT) (y o : Int) (h0 : 0 < ds.length) : 0 ≤ takeF ds y o ∧ takeF ds y o < ds.length := by
  unfold takeF
  cases hf : freeI ds with
  | none => exact ⟨Int.le_refl 0, by show (0 : Int) < _; omega⟩
  | some n =>
    unfold freeI at hf
    rw [List.findIdx?_eq_some_iff_getElem] at hf
    have h1 := hf.1
    dsimp only
    split <;> omega
end
end Go.Proofs.YtkldededdgpmbaaGreat
namespace Go.Proofs.YtkldededdgpmbaaGreat
set_option linter.unusedSimpArgs false
set_option linter.unusedVariables false
set_option maxRecDepth 100000
open Go.RX D
/-! ### A frame is taken, and its words are laid by a function -/
section
variable {Q : Sys} {D G : List Nat} {w0 w : World} {s : WD} {L0 : List (Nat × List Value)} {bt : Nat} {o r : Int} {gone : Bool}
namespace SAt
theorem take0 (S : SAt Q D G w0 w s L0) (i : Nat) (ht : L0[i]? = some (bt, tcs Q o r gone)) {K : Int × Int × Unit → World → Prop} (k : ∀ w2, SAt Q D G w0 w2 (tkS s o (fun _ => 0)) L0 → K (tkF s o, tkE s o, ()) w2) :
    CaP Tryz.prog 66 (.tup [.one (.int .i64), .one (.int .i64)]) [.pointer (some ⟨bt, 0, none⟩), .func (.func 67) #[] #[]] w K := by
  refine S.go fun w1 S => rxFn_ok (C := N0) (ann := ttake0_vc_ann) (Eq.mpr (ttake0_vc _ w1 K) ?_)
  have hr := takeF_rng s.2 3 o S.fpos
  have hle := S.le
  refine ⟨rfl, rfl, S.ldA i ht rfl ⟨rfl, rfl, S.ldA i ht rfl (S.take 3 o fun w2 S => ?_)⟩⟩
  by_cases he : tkE s o = 0
  · have hS : tkS s o (fun _ => 0) = (fillL s.1 (tkF s o) (fun _ => 0) 16, takeL s.2 3 o) := by unfold tkS; rw [if_pos he]
    rw [hS, he] at k
    have he' : takeE s.2 3 o = 0 := he
    refine brP_neg (by simp [he']) ⟨fun n v w' => ∃ m : Nat, n = 16 - m ∧ m ≤ 16 ∧ v.1 = (m : Int) ∧ SAt Q D G w0 w' (fillL s.1 (tkF s o) (fun _ => 0) m, takeL s.2 3 o) L0, ⟨16, fun w3 h => ⟨0, rfl, by omega, rfl, S.ext h⟩⟩, ?_⟩
    rintro n ⟨v, u⟩ w3 ⟨m, rfl, hm, e, S⟩
    dsimp only at e ⊢
    subst e
    refine brP_intro (fun c => ⟨rfl, rfl, S.ldA i ht rfl ?_⟩) (fun c => S.en fun w4 S => k w4 ?_)
    · have c : m < 16 := by simp at c; omega
      refine fun w4 h4 => rxFn_ok (C := N0) (ann := fun _ => []) (Eq.mpr (tnew1_vc _ w4 _) fun w5 h5 => ?_)
      have S := (S.ext h4).ext h5
      have hgv : (0 : Int) ≤ 0 ∧ (0 : Int) < 18446744073709551616 := by decide
      refine ⟨trivial, trivial, by rw [addP_B]; exact (S.get ht).rd1 rfl, trivial, trivial, ?_⟩
      have e1 : addI .i64 (mulI .i64 16 (takeF s.2 3 o)) (m : Int) = 16 * tkF s o + (m : Int) := by
        have : tkF s o = takeF s.2 3 o := rfl
        rw [mulI_i64 (by omega) (by omega), addI_i64 (by omega) (by omega), this]
      rw [e1]
      refine S.store _ _ hgv fun w6 S => fun w7 h7 => ⟨16 - (m + 1), by omega, m + 1, rfl, by omega, ?_, S.ext h7⟩
      rw [addI_i64 (by omega) (by omega)]; omega
    · have c : ¬ m < 16 := by simp at c; omega
      have : m = 16 := by omega
      subst this; exact S
  · have hS : tkS s o (fun _ => 0) = (s.1, takeL s.2 3 o) := by unfold tkS; rw [if_neg he]
    have hf : tkF s o = 0 := takeF0 he
    rw [hS, hf] at k
    have he' : ¬ takeE s.2 3 o = 0 := he
    exact brP_pos (by simp [he']) (S.en fun w3 S => k w3 S)
theorem take1 (S : SAt Q D G w0 w s L0) (i : Nat) (ht : L0[i]? = some (bt, tcs Q o r gone)) {K : Int × Int × Unit → World → Prop} (k : ∀ w2, SAt Q D G w0 w2 (tkS s o (fun _ => 0)) L0 → K (tkF s o, tkE s o, ()) w2) :
    CaP Tryz.prog 66 (.tup [.one (.int .i64), .one (.int .i64)]) [.pointer (some ⟨bt, 0, none⟩), .func (.func 84) #[] #[]] w K := by
  refine S.go fun w1 S => rxFn_ok (C := N0) (ann := ttake1_vc_ann) (Eq.mpr (ttake1_vc _ w1 K) ?_)
  have hr := takeF_rng s.2 3 o S.fpos
  have hle := S.le
  refine ⟨rfl, rfl, S.ldA i ht rfl ⟨rfl, rfl, S.ldA i ht rfl (S.take 3 o fun w2 S => ?_)⟩⟩
  by_cases he : tkE s o = 0
  · have hS : tkS s o (fun _ => 0) = (fillL s.1 (tkF s o) (fun _ => 0) 16, takeL s.2 3 o) := by unfold tkS; rw [if_pos he]
    rw [hS, he] at k
    have he' : takeE s.2 3 o = 0 := he
    refine brP_neg (by simp [he']) ⟨fun n v w' => ∃ m : Nat, n = 16 - m ∧ m ≤ 16 ∧ v.1 = (m : Int) ∧ SAt Q D G w0 w' (fillL s.1 (tkF s o) (fun _ => 0) m, takeL s.2 3 o) L0, ⟨16, fun w3 h => ⟨0, rfl, by omega, rfl, S.ext h⟩⟩, ?_⟩
    rintro n ⟨v, u⟩ w3 ⟨m, rfl, hm, e, S⟩
    dsimp only at e ⊢
    subst e
    refine brP_intro (fun c => ⟨rfl, rfl, S.ldA i ht rfl ?_⟩) (fun c => S.en fun w4 S => k w4 ?_)
    · have c : m < 16 := by simp at c; omega
      refine fun w4 h4 => rxFn_ok (C := N0) (ann := fun _ => []) (Eq.mpr (tput1_vc _ w4 _) fun w5 h5 => ?_)
      have S := (S.ext h4).ext h5
      have hgv : (0 : Int) ≤ 0 ∧ (0 : Int) < 18446744073709551616 := by decide
      refine ⟨trivial, trivial, by rw [addP_B]; exact (S.get ht).rd1 rfl, trivial, trivial, ?_⟩
      have e1 : addI .i64 (mulI .i64 16 (takeF s.2 3 o)) (m : Int) = 16 * tkF s o + (m : Int) := by
        have : tkF s o = takeF s.2 3 o := rfl
        rw [mulI_i64 (by omega) (by omega), addI_i64 (by omega) (by omega), this]
      rw [e1]
      refine S.store _ _ hgv fun w6 S => fun w7 h7 => ⟨16 - (m + 1), by omega, m + 1, rfl, by omega, ?_, S.ext h7⟩
      rw [addI_i64 (by omega) (by omega)]; omega
    · have c : ¬ m < 16 := by simp at c; omega
      have : m = 16 := by omega
      subst this; exact S
  · have hS : tkS s o (fun _ => 0) = (s.1, takeL s.2 3 o) := by unfold tkS; rw [if_neg he]
    have hf : tkF s o = 0 := takeF0 he
    rw [hS, hf] at k
    have he' : ¬ takeE s.2 3 o = 0 := he
    exact brP_pos (by simp [he']) (S.en fun w3 S => k w3 S)
theorem take2 (S : SAt Q D G w0 w s L0) (i : Nat) (ht : L0[i]? = some (bt, tcs Q o r gone)) (j : Nat) {be : Nat} {e : ET} (hb : L0[j]? = some (be, [.bool e.1, .int .i64 e.2.1, .bool e.2.2.1, .int .i64 e.2.2.2.1])) (hef : 0 ≤ e.2.2.2.1 ∧ e.2.2.2.1 < 4096) {K : Int × Int × Unit → World → Prop} (k : ∀ w2, SAt Q D G w0 w2 (tkS s o (splG e)) L0 → K (tkF s o, tkE s o, ()) w2) :
    CaP Tryz.prog 66 (.tup [.one (.int .i64), .one (.int .i64)]) [.pointer (some ⟨bt, 0, none⟩), .func (.func 87) #[] #[.pointer (some ⟨be, 0, none⟩)]] w K := by
  refine S.go fun w1 S => rxFn_ok (C := N0) (ann := ttake2_vc_ann) (Eq.mpr (ttake2_vc _ _ w1 K) ?_)
  have hr := takeF_rng s.2 3 o S.fpos
  have hle := S.le
  refine ⟨rfl, rfl, S.ldA i ht rfl ⟨rfl, rfl, S.ldA i ht rfl (S.take 3 o fun w2 S => ?_)⟩⟩
  by_cases he : tkE s o = 0
  · have hS : tkS s o (splG e) = (fillL s.1 (tkF s o) (splG e) 16, takeL s.2 3 o) := by unfold tkS; rw [if_pos he]
    rw [hS, he] at k
    have he' : takeE s.2 3 o = 0 := he
    refine brP_neg (by simp [he']) ⟨fun n v w' => ∃ m : Nat, n = 16 - m ∧ m ≤ 16 ∧ v.1 = (m : Int) ∧ SAt Q D G w0 w' (fillL s.1 (tkF s o) (splG e) m, takeL s.2 3 o) L0, ⟨16, fun w3 h => ⟨0, rfl, by omega, rfl, S.ext h⟩⟩, ?_⟩
    rintro n ⟨v, u⟩ w3 ⟨m, rfl, hm, ev, S⟩
    dsimp only at ev ⊢
    subst ev
    refine brP_intro (fun c => ⟨rfl, rfl, S.ldA i ht rfl ?_⟩) (fun c => S.en fun w4 S => k w4 ?_)
    · have c : m < 16 := by simp at c; omega
      refine fun w4 h4 => rxFn_ok (C := N0) (ann := fun _ => []) (Eq.mpr (tsplit1_vc _ _ w4 _) ?_)
      have S := S.ext h4
      refine ⟨rfl, S.ldA j hb rfl ⟨rfl, S.ldA j hb rfl ⟨trivial, S.en fun w5 S => ?_⟩⟩⟩
      have eg : pkW true e.2.1 false (addI .i64 e.2.2.2.1 (m : Int)) = splG e (m : Int) := by
        rw [addI_i64 (by omega) (by omega)]; rfl
      rw [eg]
      have hgv : 0 ≤ splG e (m : Int) ∧ splG e (m : Int) < 18446744073709551616 := pk_rng _ _ _ _
      refine ⟨trivial, trivial, by rw [addP_B]; exact (S.get ht).rd1 rfl, trivial, trivial, ?_⟩
      have e1 : addI .i64 (mulI .i64 16 (takeF s.2 3 o)) (m : Int) = 16 * tkF s o + (m : Int) := by
        have : tkF s o = takeF s.2 3 o := rfl
        rw [mulI_i64 (by omega) (by omega), addI_i64 (by omega) (by omega), this]
      rw [e1]
      refine S.store _ _ hgv fun w6 S => fun w7 h7 => ⟨16 - (m + 1), by omega, m + 1, rfl, by omega, ?_, S.ext h7⟩
      rw [addI_i64 (by omega) (by omega)]; omega
    · have c : ¬ m < 16 := by simp at c; omega
      have : m = 16 := by omega
      subst this; exact S
  · have hS : tkS s o (splG e) = (s.1, takeL s.2 3 o) := by unfold tkS; rw [if_neg he]
    have hf : tkF s o = 0 := takeF0 he
    rw [hS, hf] at k
    have he' : ¬ takeE s.2 3 o = 0 := he
    exact brP_pos (by simp [he']) (S.en fun w3 S => k w3 S)
end SAt
end
end Go.Proofs.YtkldededdgpmbaaGreat
namespace Go.Proofs.YtkldededdgpmbaaGreat
set_option linter.unusedSimpArgs false
set_option linter.unusedVariables false
set_option maxRecDepth 100000
open Go.RX D
/-! ### The way of a page: what is handed on, and gathered -/
section
variable {D G : List Nat} {w0 w : World} {L : List (Nat × List Value)}
/-- A row that is gathered: the variable's block, and the row's. -/
def GrS (e : El) (b : Nat) (xs : List e.T) (Rg : List (Nat × List Value)) : Prop :=
  (xs = [] ∧ Rg = [(b, [.slice none 0 0])]) ∨ ∃ bs c rest, Rg = [(b, [.slice (some ⟨bs, 0, none⟩) xs.length c]), (bs, flat e xs ++ rest)] ∧ (flat e xs ++ rest).length = c * stride e ∧ xs.length ≤ c
theorem GrS.head {e : El} {b : Nat} {xs : List e.T} {Rg : List (Nat × List Value)} (h : GrS e b xs Rg) : ∃ s : Option Addr × Nat × Nat, Rg[0]? = some (b, [.slice s.1 s.2.1 s.2.2]) := by
  rcases h with ⟨_, rfl⟩ | ⟨bs, c, rest, rfl, _⟩
  · exact ⟨(none, 0, 0), rfl⟩
  · exact ⟨(_, _, _), rfl⟩
theorem GrS.push {e : El} {b b2 : Nat} {xs : List e.T} {x : e.T} {Rg Z : List (Nat × List Value)} {s : Option Addr × Nat × Nat} (hg : GrS e b xs Rg) (hs : Rg[0]? = some (b, [.slice s.1 s.2.1 s.2.2])) (H : AtD D G w0 w ((b2, cellsOf e x) :: (Rg ++ Z)))
    (hp : plainE e = true) {t : TypeId} {size bytes : Nat} {z : Array Value} (hsz : size = stride e) (hz : z.size = stride e) (hb : (xs.length + 1) * bytes ≤ 140737488355328) {K : World → Prop}
    (k : ∀ Rg' w', GrS e b (xs ++ [x]) Rg' → AtD D G w0 w' (Rg' ++ Z) → K w') :
    apR w t size bytes z (s.1, s.2.1, s.2.2) (some ⟨b2, 0, none⟩, 1, 1) fun r w2 => StP w2 (some ⟨b, 0, none⟩) [.slice r.1 r.2.1 r.2.2] K := by
  obtain ⟨p, n, c⟩ := s
  rcases hg with ⟨rfl, rfl⟩ | ⟨bs, c', rest, rfl, h1, h2⟩
  · cases hs
    refine AtD.grow (Ls := []) (L0 := (b, [.slice none 0 0]) :: Z) (xs := []) H (.inl ⟨rfl, rfl, rfl⟩) hp hsz hz hb fun bs c rest w' g1 g2 H => ?_
    refine StP.all 1 H rfl rfl rfl fun w2 H => k [(b, [.slice (some ⟨bs, 0, none⟩) 1 c]), (bs, flat e [x] ++ rest)] w2 (.inr ⟨bs, c, rest, rfl, g1, g2⟩) ?_
    exact H.perm (List.Perm.swap _ _ _)
  · cases hs
    have H2 : AtD D G w0 w ((b2, cellsOf e x) :: ([(bs, flat e xs ++ rest)] ++ ((b, [.slice (some ⟨bs, 0, none⟩) xs.length c]) :: Z))) := H.perm (List.Perm.cons _ (List.Perm.swap _ _ _))
    refine AtD.grow H2 (.inr ⟨bs, c, rest, rfl, rfl, h1, h2⟩) hp hsz hz hb fun bs2 c2 rest2 w' g1 g2 H => ?_
    refine StP.all 1 H rfl rfl rfl fun w2 H => k [(b, [.slice (some ⟨bs2, 0, none⟩) (xs.length + 1) c2]), (bs2, flat e (xs ++ [x]) ++ rest2)] w2 (.inr ⟨bs2, c2, rest2, ?_, g1, by simpa using g2⟩) ?_
    · rw [List.length_append]; rfl
    · exact H.perm (List.Perm.swap _ _ _)
theorem Rdy.new {l : Nat} {rec : Loop} {w' : World} {b : Nat} {cs : List Value} (h : Rdy D G w0 w L l rec) (H : At [] w w' [(b, cs)]) : Rdy D G w0 w' ((b, cs) :: L) l rec ∧ Ob l w w' := by
  have he : Ext w w' := H.all
  have hb : w.heap.size ≤ b := by
    rcases H.own (b, cs) List.mem_cons_self with h | h
    · exact h
    · cases h
  exact ⟨⟨h.1, h.2.1.more he hb (H.blk (b, cs) List.mem_cons_self), h.2.2.ext he⟩, Ob.of_ext he⟩
/-! Words that lie in an old block. -/
theorem mload_old {bm bw n c : Nat} {ca la : Int} {ws : List Int} {rest : List Value} (H : AtD D G w0 w L) (j : Nat) (hm : L[j]? = some (bm, mcs bw n c ca la)) (hw : Blk w0 bw (flat eW ws ++ rest)) (hG : bw ∉ G) (hn : n = ws.length) (h0 : 0 < n) (i : Int) {K : Int × Int × Unit → World → Prop}
    (k : ∀ w2, AtD D G w0 w2 (L.set j (bm, mcs bw n c (upM ws i ca) la)) → K (ldV ws i, ldE ws i, ()) w2) :
    CaP Tryz.prog 107 (.tup [.one (.int .u64), .one (.int .i64)]) [.pointer (some ⟨bm, 0, none⟩), .int .i64 i] w K := by
  refine CaP.go H fun w1 H => rxFn_ok (C := M0) (ann := fun _ => []) (Eq.mpr (mload_vc _ i w1 K) ?_)
  refine mword_at H j hm hn h0 i (fun hi w2 H => ?_) (fun hi w2 H => ?_)
  · unfold upM ldV ldE at k
    rw [hi, if_pos rfl, if_pos rfl, if_pos rfl] at k
    have hi' := inM_iff.1 hi
    refine brP_neg rfl ⟨rfl, ?_⟩
    rw [addP_B]
    have e := w_el (ws := ws) (rest := rest) (i := i.toNat) (by omega)
    rw [Nat.mul_one] at e
    exact LdP.old H hw hG e (EnP.go H fun w3 H => k w3 H)
  · unfold upM ldV ldE at k
    rw [hi, if_neg (by decide), if_neg (by decide), if_neg (by decide)] at k
    refine brP_pos rfl (EnP.go H fun w3 H => k w3 ?_)
    rw [show L.set j (bm, mcs bw n c ca la) = L from List.ext_getElem? fun m => by
      by_cases e : j = m
      · subst e; rw [List.getElem?_set_self (List.getElem?_eq_some_iff.1 hm).1, hm]
      · rw [List.getElem?_set_ne e]]
    exact H
/-- What an iterator reads: the tables' record, and words. -/
structure TbR (Q : Sys) (ws : List Int) (w : World) (bt : Nat) (o r : Int) (gone : Bool) : Prop where
  tb : Blk w bt (tcs Q o r gone)
  wd : Blk w Q.bw (flat eW ws ++ Q.rw)
  tne : bt ≠ Q.bm
  wne : Q.bw ≠ Q.bm
  okw : okW ws
  pos : 0 < ws.length
abbrev Mc (Q : Sys) (n : Nat) (l : List Value) : Prop := ∃ ca la, l = mcs Q.bw n Q.c ca la
theorem at_old {Q : Sys} {ws : List Int} {bt : Nat} {o r : Int} {gone : Bool} {D : List Nat} {L : List (Nat × List Value)} {ca la : Int} (R : TbR Q ws w0 bt o r gone) (H : AtD D [Q.bm] w0 w L) (j : Nat) (hm : L[j]? = some (Q.bm, mcs Q.bw ws.length Q.c ca la)) (i : Int) {K : ET → World → Prop}
    (k : ∀ ca w2, AtD D [Q.bm] w0 w2 (L.set j (Q.bm, mcs Q.bw ws.length Q.c ca la)) → K (entA ws i) w2) :
    CaP Tryz.prog 78 (.el (.agg sEn)) [.pointer (some ⟨bt, 0, none⟩), .int .i64 i] w K := by
  have t1 : bt ∉ [Q.bm] := by simpa using R.tne
  have t2 : Q.bw ∉ [Q.bm] := by simpa using R.wne
  refine CaP.go H fun w1 H => rxFnR_ok (C := N0) (ann := fun _ => []) (Eq.mpr (tat_vc _ i w1 K) ?_)
  refine AlP.go H fun b w2 H => ⟨rfl, rfl, LdP.oldA H R.tb t1 rfl (mload_old H (j + 1) hm R.wd t2 rfl R.pos i fun w3 H => ⟨?_, AlP.go H fun b1 w4 H => StP.all 0 H rfl rfl rfl fun w5 H => LdP.at 0 H rfl rfl (StP.all 1 H rfl rfl rfl fun w6 H => EnP.go H fun w7 H => LdP.at 1 H rfl rfl (k (upM ws i ca) w7 (H.sub ?_)))⟩)⟩
  · have h := ld_rng R.okw i
    exact U_B' h.1 h.2
  · exact (List.sublist_cons_self _ _).trans (List.sublist_cons_self _ _)
end
end Go.Proofs.YtkldededdgpmbaaGreat
namespace Go.Proofs.YtkldededdgpmbaaGreat
set_option linter.unusedSimpArgs false
set_option linter.unusedVariables false
set_option maxRecDepth 100000
open Go.RX D
/-! ### The way of a page, as an iterator -/
abbrev emP (x : PT × Unit) : List Value := [.agg ⟨[.int .i64 x.1.1, .int .i64 x.1.2.1, .int .i64 x.1.2.2.1]⟩]
abbrev plc (x : PT) : PT × Unit := (x, ())
/-- What comes behind the first table. -/
def wayT (ws : List Int) (pg : Int) : Nat → Int → List PT
  | 0, _ => []
  | l + 1, f => if tabP (entA ws (atI f pg ((l + 1 : Nat) : Int))) = true then wayL ws pg l (entA ws (atI f pg ((l + 1 : Nat) : Int))).2.2.2.1 else []
theorem wayL_cons (ws : List Int) (pg : Int) : ∀ (l : Nat) (f : Int), wayL ws pg l f = (f, (l : Int), atI f pg (l : Int), ()) :: wayT ws pg l f
  | 0, _ => rfl
  | _ + 1, _ => rfl
theorem wayT_not {ws : List Int} {pg : Int} {l : Nat} {f : Int} (h : tabP (entA ws (atI f pg (l : Int))) = false) : wayT ws pg l f = [] := by
  cases l with
  | zero => rfl
  | succ l => rw [wayT, h, if_neg (by decide)]
theorem way_it {Q : Sys} {ws : List Int} {bt b c : Nat} {o r pg : Int} {gone : Bool} {N : Nat} (hok : okW ws) (hpos : 0 < ws.length) :
    ItJ Tryz.prog 89 (fun y => [.func (.yield y) #[] #[], .pointer (some ⟨b, 0, none⟩), .pointer (some ⟨c, 0, none⟩)]) emP N Q.bm (Mc Q ws.length)
      [(bt, tcs Q o r gone), (Q.bw, flat eW ws ++ Q.rw), (b, [.pointer (some ⟨bt, 0, none⟩)]), (c, [.int .i64 pg])] ((wayL ws pg 3 r).map plc) := by
  intro y J K hY a X O w hN hX j
  refine Calls.mono (rxFn_ok (C := N0) (ann := tway1_vc_ann) (Post := fun _ w' => J (a ++ (wayL ws pg 3 r).map plc) X O w') (Eq.mpr (tway1_vc y _ _ w _) ?_)) ?_
  rotate_left
  · rintro e w' ⟨x, rfl, h⟩
    exact ⟨_, rfl, h⟩
  have x1 := hX (bt, tcs Q o r gone) (by simp)
  have x2 := hX (Q.bw, flat eW ws ++ Q.rw) (by simp)
  have x3 := hX (b, [.pointer (some ⟨bt, 0, none⟩)]) (by simp)
  have x4 := hX (c, [.int .i64 pg]) (by simp)
  refine LdP.of (some ⟨bt, 0, none⟩) ((K.blk j x3).2.rd1 rfl) ⟨rfl, rfl, LdP.of r (by rw [addP_B]; exact (K.blk j x1).2.rd1 rfl) ⟨fun n v w' => (∃ l : Nat, v.2.1 = (l : Int) ∧ n = l + 1 ∧ l ≤ 3 ∧ ∃ pre, wayL ws pg 3 r = pre ++ wayL ws pg l v.1 ∧ J (a ++ pre.map plc) X O w') ∨ (v.2.1 = -1 ∧ J (a ++ (wayL ws pg 3 r).map plc) X O w'),
    ⟨4, fun w1 h1 => .inl ⟨3, rfl, rfl, Nat.le_refl _, [], rfl, by simpa using K.ext j h1⟩⟩, ?_⟩⟩
  rintro n ⟨f, lv, u⟩ w1 (⟨l, e1, rfl, hl, pre, hx, j⟩ | ⟨e1, j⟩)
  · dsimp only at e1 hx ⊢
    subst e1
    refine brP_pos (by simp) (LdP.of pg ((K.blk j x4).2.rd1 rfl) ⟨trivial, ?_⟩)
    obtain ⟨lm, ⟨ca, la, rfl⟩, H⟩ := K.at0 j
    have R : TbR Q ws w1 bt o r gone := ⟨(K.blk j x1).2, (K.blk j x2).2, (K.blk j x1).1, (K.blk j x2).1, hok, hpos⟩
    have hb := K.blk j x3
    have hbn : b ∉ [Q.bm] := by simpa using hb.1
    refine AlP.go H fun b1 w2 H => StP.all 0 H rfl rfl rfl fun w3 H => LdP.old H hb.2 hbn rfl ⟨rfl, LdP.atA 0 H rfl rfl (at_old R H 1 rfl _ fun ca2 w4 H => AlP.go H fun b2 w5 H => StP.all 0 H rfl rfl rfl fun w6 H => LdP.at 1 H rfl rfl fun w7 h7 => ?_)⟩
    have H := H.ext h7
    rw [wayL_cons ws pg l f] at hx
    have hlen : (a ++ pre.map plc).length < N := by
      rw [hx] at hN
      simp only [List.map_append, List.length_append, List.length_map, List.length_cons] at hN ⊢
      omega
    have j2 := K.of_at (Y := [(b2, _), (b1, _)]) j H ⟨_, _, rfl⟩
    refine hY _ (plc (f, (l : Int), atI f pg (l : Int), ())) _ _ w7 _ hlen j2 fun w8 j3 => ?_
    have hb2 := (K.blk j3 (x := (b2, _)) (List.mem_cons_self)).2
    refine LdP.of (entA ws (atI f pg (l : Int))) (elAt_rd hb2 rfl) ⟨fun _ => trivial, brP_intro (fun cc w9 h9 => ?_) (fun cc => ⟨rfl, LdP.of (entA ws (atI f pg (l : Int))).2.2.2.1 (by rw [addP_B]; exact hb2.rd1 rfl) fun w9 h9 => ?_⟩)⟩
    · have ht : tabP (entA ws (atI f pg (l : Int))) = false := by simpa [tabP] using cc
      have j4 := K.sub (K.ext j3 h9) (X' := X) (fun x h => by simp [h]) (List.Sublist.refl _)
      rw [wayT_not ht] at hx
      rw [hx]
      simpa using j4
    · have ht : tabP (entA ws (atI f pg (l : Int))) = true := by simpa [tabP] using cc
      have j4 := K.sub (K.ext j3 h9) (X' := X) (fun x h => by simp [h]) (List.Sublist.refl _)
      rcases l with _ | l
      · refine ⟨0, by omega, .inr ⟨rfl, ?_⟩⟩
        rw [hx]
        simpa [wayT] using j4
      · refine ⟨l + 1, by omega, .inl ⟨l, ?_, rfl, by omega, pre ++ [(f, ((l + 1 : Nat) : Int), atI f pg ((l + 1 : Nat) : Int), ())], ?_, by simpa using j4⟩⟩
        · show subI .i64 ((l + 1 : Nat) : Int) 1 = (l : Int)
          rw [subI_i64 (by omega) (by omega)]; omega
        · rw [hx, wayT, if_pos ht, List.append_assoc]; rfl
  · dsimp only at e1 ⊢
    subst e1
    exact brP_neg rfl fun w2 h2 => K.ext j h2
section
variable {Q : Sys} {D G : List Nat} {w0 w : World} {s : WD} {L0 : List (Nat × List Value)} {bt : Nat} {o r : Int} {gone : Bool}
namespace SAt
theorem way (S : SAt Q D G w0 w s L0) (pg : Int) {K : Option Addr × Option Addr × Unit → World → Prop} (k : ∀ b c w2, SAt Q D G w0 w2 s ((c, [.int .i64 pg]) :: (b, [.pointer (some ⟨bt, 0, none⟩)]) :: L0) → K (some ⟨b, 0, none⟩, some ⟨c, 0, none⟩, ()) w2) :
    CaP Tryz.prog 57 wayS [.pointer (some ⟨bt, 0, none⟩), .int .i64 pg] w K := by
  refine S.go fun w1 S => rxFn_ok (C := N0) (ann := fun _ => []) (Eq.mpr (tway_vc _ pg w1 K) ?_)
  exact S.al fun b w2 S => S.al fun c w3 S => S.en fun w4 S => k b c w4 S
/-- The way is gathered. -/
theorem gath (S : SAt Q D G w0 w s L0) (k0 : Nat) (ht : L0[k0]? = some (bt, tcs Q o r gone)) {b c : Nat} {pg : Int} (hb : (b, [Value.pointer (some ⟨bt, 0, none⟩)]) ∈ L0) (hc : (c, [Value.int .i64 pg]) ∈ L0)
    {K : Option Addr × Nat × Nat → World → Prop} (k : ∀ bs cs rest w2, SAt Q D G w0 w2 s ((bs, flat (.agg sPl) (wayL s.1 pg 3 r) ++ rest) :: L0) → K (some ⟨bs, 0, none⟩, (wayL s.1 pg 3 r).length, cs) w2) :
    CaP Tryz.prog 56 (.el (.one .slice)) [.func (.func 89) #[] #[.pointer (some ⟨b, 0, none⟩), .pointer (some ⟨c, 0, none⟩)]] w K := by
  refine S.go fun w1 S => rxFnR_ok (C := N0) (ann := tgath_vc_ann) (Eq.mpr (tgath_vc _ _ w1 K) ?_)
  obtain ⟨h1, h2, h3, h4, ca, la, H0⟩ := S
  have H := H0.again
  refine AlP.go H fun bl w2 H => ?_
  have hlen : (wayL s.1 pg 3 r).length ≤ 4 := wayL_len s.1 pg 3 r
  refine RnP.gath (N := 4) (bm := Q.bm) (mc := Mc Q s.1.length) (Rg0 := [(bl, [.slice none 0 0])]) (Lb := (Q.bw, flat eW s.1 ++ Q.rw) :: (Q.bf, flat eD s.2 ++ Q.rf) :: (Q.bp, [.slice (some ⟨Q.bf, 0, none⟩) s.2.length Q.cp]) :: L0) H ⟨_, _, rfl⟩
    (way_it (o := o) (r := r) (gone := gone) (bt := bt) (pg := pg) h4 h1) ?_ (by simpa using hlen) (fun xs Rg => GrS (.agg sPl) bl (xs.map (·.1)) Rg) (.inl ⟨rfl, rfl⟩) ?_ ?_
  · intro x hx
    simp only [List.mem_cons, List.not_mem_nil, or_false] at hx
    rcases hx with rfl | rfl | rfl | rfl
    · simp [List.mem_of_getElem? ht]
    · simp
    · simp [hb]
    · simp [hc]
  · intro b0 x Rg Z rr l rec w3 R hN hg hr hR
    refine RoP.go hr rfl ?_
    refine AlP.go (At.start [] w3) fun b1 w4 H1 => StP.all 0 H1 rfl rfl rfl fun w5 H1 => ?_
    obtain ⟨hr1, ho1⟩ := Rdy.new hr H1
    obtain ⟨sl, hsl⟩ := hg.head
    refine BeP.goO hr1 fun wb H hB ho2 => LdP.at 1 H (by rw [List.getElem?_cons_succ, List.getElem?_append_left (List.getElem?_eq_some_iff.1 hsl).1]; exact hsl) rfl (LdP.at 0 H rfl rfl (AlP.go H fun b2 w6 H => fun w7 h7 => ?_))
    have H := H.ext h7
    have H2 : AtD [] _ wb w7 ((b2, cellsOf (.agg sPl) x.1) :: (Rg ++ ((b1, [.int .i64 x.1.1, .int .i64 x.1.2.1, .int .i64 x.1.2.2.1]) :: Z))) := H.perm (List.Perm.cons _ List.perm_middle)
    refine hg.push hsl H2 rfl rfl rfl (by simp only [List.length_map]; omega) fun Rg' w8 hg' H3 => FiP.nextO hB (H3.sub (List.Sublist.append (List.Sublist.refl _) (List.sublist_cons_self _ _))) fun w9 hr9 ho9 => hR Rg' w9 (by simpa using hg') hr9 ((ho1.trans ho2).trans ho9)
  · rintro rr rec w4 l' Rg ⟨ca2, la2, rfl⟩ hg hr
    refine rxAfter.none hr fun w5 H => ?_
    have hmm : ((wayL s.1 pg 3 r).map plc).map (·.1) = wayL s.1 pg 3 r := by
      rw [List.map_map]; exact List.map_id _
    rw [hmm] at hg
    rcases hg with ⟨h, _⟩ | ⟨bs, cs, rest, rfl, g1, g2⟩
    · exact absurd h (wayL_ne _ _ _ _)
    · refine LdP.at 0 H rfl rfl (ClP.go H fun w6 H => k bs cs rest w6 ⟨h1, h2, h3, h4, ca2, la2, H0.join (fun x hx => hx) ?_⟩)
      refine (H.sub (List.sublist_cons_self _ _)).perm ?_
      exact List.perm_middle (l₁ := [_, _, _, _])
end SAt
end
end Go.Proofs.YtkldededdgpmbaaGreat
namespace Go.Proofs.YtkldededdgpmbaaGreat
set_option linter.unusedSimpArgs false
set_option linter.unusedVariables false
set_option maxRecDepth 100000
open Go.RX D
/-! ### The end of a way; Query; split -/
theorem end_get (ws : List Int) (r pg : Int) : (wayL ws pg 3 r)[(wayL ws pg 3 r).length - 1]? = some (endX ws r pg) := by
  have hn := wayL_ne ws pg 3 r
  unfold endX
  rw [List.getLastD_eq_getLast?, ← List.getLast?_eq_getElem?, List.getLast?_eq_some_getLast hn]
  rfl
theorem entA_rng (ws : List Int) (a : Int) : 0 ≤ (entA ws a).2.2.2.1 ∧ (entA ws a).2.2.2.1 < 4096 := prF_rng _
section
variable {Q : Sys} {D G : List Nat} {w0 w : World} {s : WD} {L0 : List (Nat × List Value)} {bt : Nat} {o r : Int} {gone : Bool}
namespace SAt
theorem end_ (S : SAt Q D G w0 w s L0) (k0 : Nat) (ht : L0[k0]? = some (bt, tcs Q o r gone)) (pg : Int) {K : PT × ET × Unit → World → Prop} (k : ∀ w2, SAt Q D G w0 w2 s L0 → K (endX s.1 r pg, endP s.1 r pg, ()) w2) :
    CaP Tryz.prog 46 (.tup [.agg sPl, .agg sEn]) [.pointer (some ⟨bt, 0, none⟩), .int .i64 pg] w K := by
  refine S.go fun w1 S => rxFnR_ok (C := N0) (ann := fun _ => []) (Eq.mpr (tend_vc _ pg w1 K) ?_)
  refine S.al fun b w2 S => S.al fun b1 w3 S => S.way pg fun bb bc w4 S => S.gath (pg := pg) (k0 + 4) ht (by simp) (by simp) fun bs cs rest w5 S => ?_
  have hlen : (wayL s.1 pg 3 r).length ≤ 4 := wayL_len s.1 pg 3 r
  have hpos : 0 < (wayL s.1 pg 3 r).length := List.length_pos_iff.2 (wayL_ne s.1 pg 3 r)
  have e1 : subI .i64 (((wayL s.1 pg 3 r).length : Nat) : Int) 1 = (((wayL s.1 pg 3 r).length - 1 : Nat) : Int) := by rw [subI_i64 (by omega) (by omega)]; omega
  have hrd := rd_flat (S.get (i := 0) rfl) (end_get s.1 r pg)
  dsimp only
  rw [e1]
  refine ⟨⟨rfl, by omega, by omega⟩, LdP.of (endX s.1 r pg) hrd ?_⟩
  refine S.al fun b2 w6 S => S.stAll 0 rfl rfl rfl fun w7 S => S.ld 0 rfl rfl ⟨rfl, S.ldA 0 rfl rfl (S.at_ (k0 + 6) ht _ fun w8 S => ⟨elAt_rd (S.get (i := 0) rfl) rfl, S.stAll 5 rfl rfl rfl fun w9 S => S.stAll 4 rfl rfl rfl fun w10 S => S.en fun w11 S => S.ld 5 rfl rfl (S.ld 4 rfl rfl (k w11 S.tail.tail.tail.tail.tail.tail))⟩)⟩
theorem query (S : SAt Q D G w0 w s L0) (k0 : Nat) (ht : L0[k0]? = some (bt, tcs Q o r gone)) (pg : Int) {K : Int × Int × Int × Unit → World → Prop} (k : ∀ w2, SAt Q D G w0 w2 s L0 → K (qryV s r gone pg) w2) :
    CaP Tryz.prog 12 (.tup [.one (.int .i64), .one (.int .i64), .one (.int .i64)]) [.pointer (some ⟨bt, 0, none⟩), .int .i64 pg] w K := by
  refine S.go fun w1 S => rxFn_ok (C := N0) (ann := fun _ => []) (Eq.mpr (tquery_vc _ pg w1 K) ?_)
  refine ⟨_, S.state k0 ht, ?_⟩
  unfold qryV at k
  cases gone with
  | true =>
    rw [if_pos rfl] at k
    exact brP_pos rfl (S.en fun w2 S => k w2 S)
  | false =>
    rw [if_neg (by decide)] at k
    refine brP_neg rfl (brP_intro (fun c => S.en fun w2 S => ?_) (fun c => ?_))
    · simp only [Bool.or_eq_true, decide_eq_true_eq] at c
      rw [if_pos c] at k
      exact k w2 S
    · simp only [Bool.or_eq_false_iff, decide_eq_false_iff_not] at c
      rw [if_neg (by omega)] at k
      refine S.end_ k0 ht pg fun w2 S => S.al fun b w3 S => S.al fun b1 w4 S => S.stAll 1 rfl rfl rfl fun w5 S => S.stAll 0 rfl rfl rfl fun w6 S => ⟨rfl, S.ldA 0 rfl rfl (brP_intro (fun c2 => S.en fun w7 S => ?_) (fun c2 => S.ld 1 rfl rfl (S.ld 0 rfl rfl ⟨_, frame_q (by omega) (endX s.1 r pg) (endP s.1 r pg) (entA_rng _ _) _, rfl, S.ldA 0 rfl rfl (S.en fun w7 S => ?_)⟩)))⟩
      · have c2 : (endP s.1 r pg).1 = false := by simpa using c2
        rw [c2, if_neg (by decide)] at k
        exact k w7 S.tail.tail
      · have c2 : (endP s.1 r pg).1 = true := by simpa using c2
        rw [c2, if_pos rfl] at k
        exact k w7 S.tail.tail
theorem split (S : SAt Q D G w0 w s L0) (k0 : Nat) (ht : L0[k0]? = some (bt, tcs Q o r gone)) (pg : Int) {K : Int → World → Prop} (k : ∀ w2, SAt Q D G w0 w2 (splS s o r pg) L0 → K (splE s o r pg) w2) :
    CaP Tryz.prog 55 (.el (.one (.int .i64))) [.pointer (some ⟨bt, 0, none⟩), .int .i64 pg] w K := by
  refine S.go fun w1 S => rxFn_ok (C := N0) (ann := fun _ => []) (Eq.mpr (tsplit_vc _ pg w1 K) ?_)
  unfold splS splE at k
  refine S.end_ k0 ht pg fun w2 S => S.al fun b w3 S => S.al fun b1 w4 S => S.stAll 1 rfl rfl rfl fun w5 S => S.stAll 0 rfl rfl rfl fun w6 S => ⟨rfl, S.ldA 1 rfl rfl (brP_intro (fun c => S.en fun w7 S => ?_) (fun c => ?_))⟩
  · have c : (endX s.1 r pg).2.1 = 0 := by simpa using c
    rw [if_pos c, if_pos c] at k
    exact k w7 S.tail.tail
  · have c : ¬ (endX s.1 r pg).2.1 = 0 := by simpa using c
    rw [if_neg c, if_neg c] at k
    refine S.take2 (k0 + 2) ht 0 (be := b1) (e := endP s.1 r pg) rfl (entA_rng _ _) fun w7 S => brP_intro (fun c2 => ⟨rfl, S.ldA 1 rfl rfl ⟨leadP (tkF s o), leads_q _ _, S.lay (k0 + 2) ht _ (leadP (tkF s o)) fun w8 S => S.en fun w9 S => ?_⟩⟩) (fun c2 => S.en fun w8 S => ?_)
    · have c2 : tkE s o = 0 := by simpa using c2
      rw [if_pos c2] at k
      exact k w9 S.tail.tail
    · have c2 : ¬ tkE s o = 0 := by simpa using c2
      rw [if_neg c2] at k
      exact k w8 S.tail.tail
end SAt
end
end Go.Proofs.YtkldededdgpmbaaGreat
namespace Go.Proofs.YtkldededdgpmbaaGreat
set_option linter.unusedSimpArgs false
set_option linter.unusedVariables false
set_option maxRecDepth 100000
open Go.RX D
/-! ### put, Map, Large -/
theorem wayL_lv (ws : List Int) (pg : Int) : ∀ (l : Nat) (f : Int) (x : PT), x ∈ wayL ws pg l f → 0 ≤ x.2.1 ∧ x.2.1 ≤ (l : Int)
  | 0, f, x, h => by
    rw [wayL, List.mem_singleton] at h
    subst h
    exact ⟨Int.le_refl _, Int.le_refl _⟩
  | l + 1, f, x, h => by
    rw [wayL] at h
    rcases List.mem_cons.1 h with rfl | h
    · exact ⟨by show (0 : Int) ≤ ((l + 1 : Nat) : Int); omega, Int.le_refl _⟩
    · split at h
      · have := wayL_lv ws pg l _ x h
        omega
      · cases h
theorem endX_lv (ws : List Int) (r pg : Int) : 0 ≤ (endX ws r pg).2.1 ∧ (endX ws r pg).2.1 ≤ 3 := by
  have := wayL_lv ws pg 3 r _ (List.mem_of_getElem? (end_get ws r pg))
  omega
section
variable {Q : Sys} {D G : List Nat} {w0 w : World} {s : WD} {L0 : List (Nat × List Value)} {bt : Nat} {o r : Int} {gone : Bool}
namespace SAt
theorem put (S : SAt Q D G w0 w s L0) (k0 : Nat) (ht : L0[k0]? = some (bt, tcs Q o r gone)) (pg lv : Int) (hlv : 0 ≤ lv ∧ lv ≤ 3) (e : ET) {K : Int → World → Prop} (k : ∀ w2, SAt Q D G w0 w2 (putS s o r pg lv e) L0 → K (putE s r pg lv) w2) :
    CaP Tryz.prog 53 (.el (.one (.int .i64))) [.pointer (some ⟨bt, 0, none⟩), .int .i64 pg, .int .i64 lv, .agg ⟨[.bool e.1, .int .i64 e.2.1, .bool e.2.2.1, .int .i64 e.2.2.2.1]⟩] w K := by
  refine S.go fun w1 S => rxFn_ok (C := N0) (ann := tput_vc_ann) (Eq.mpr (tput_vc _ pg lv e.1 e.2.1 e.2.2.1 e.2.2.2.1 w1 K) ?_)
  have hx := endX_lv s.1 r pg
  unfold putS at k
  refine S.al fun b w2 S => S.end_ (k0 + 1) ht pg fun w2 S => S.al fun b1 w3 S => S.al fun b2 w4 S => S.stAll 1 rfl rfl rfl fun w5 S => S.stAll 0 rfl rfl rfl fun w6 S => ⟨rfl, S.ldA 0 rfl rfl ⟨fun _ => rfl, S.ldA 1 rfl rfl ?_⟩⟩
  by_cases c1 : ((endP s.1 r pg).1 || decide ((endX s.1 r pg).2.1 < lv)) = true
  · have e1 : putE s r pg lv = 5 := by unfold putE; rw [if_pos c1]
    rw [e1, if_neg (by decide)] at k
    exact brP_pos c1 (S.en fun w7 S => k w7 S.tail.tail.tail)
  have c1' := c1
  simp only [Bool.or_eq_true, decide_eq_true_eq, not_or] at c1'
  refine brP_neg (by simpa using c1) ⟨rfl, rfl, S.ldA (k0 + 3) ht rfl ⟨_, S.cnt 0, rfl, S.ldA 1 rfl rfl ?_⟩⟩
  have esub : subI .i64 (endX s.1 r pg).2.1 lv = (endX s.1 r pg).2.1 - lv := subI_i64 (by omega) (by omega)
  dsimp only
  rw [esub]
  by_cases c2 : (cntL s.2 0 : Int) < (endX s.1 r pg).2.1 - lv
  · have e1 : putE s r pg lv = 12 := by unfold putE; rw [if_neg c1, if_pos c2]
    rw [e1, if_neg (by decide)] at k
    exact brP_pos (by simpa using c2) (S.en fun w7 S => k w7 S.tail.tail.tail)
  have e1 : putE s r pg lv = 0 := by unfold putE; rw [if_neg c1, if_neg c2]
  rw [e1, if_pos rfl] at k
  obtain ⟨n0, hn0⟩ : ∃ n0, n0 = ((endX s.1 r pg).2.1 - lv).toNat := ⟨_, rfl⟩
  rw [← hn0] at k
  obtain ⟨z, hz⟩ : ∃ z, z = downS o pg n0 (s, endX s.1 r pg) := ⟨_, rfl⟩
  rw [← hz] at k
  refine brP_neg (by simpa using c2) ⟨fun n _ w' => ∃ t : WD, ∃ x : PT, downS o pg n (t, x) = z ∧ x.2.1 = lv + (n : Int) ∧ n ≤ 3 ∧ SAt Q D G w0 w' t ((b2, [.bool (endP s.1 r pg).1, .int .i64 (endP s.1 r pg).2.1, .bool (endP s.1 r pg).2.2.1, .int .i64 (endP s.1 r pg).2.2.2.1]) :: (b1, [.int .i64 x.1, .int .i64 x.2.1, .int .i64 x.2.2.1]) :: (b, [.bool e.1, .int .i64 e.2.1, .bool e.2.2.1, .int .i64 e.2.2.2.1]) :: L0),
    ⟨n0, fun w7 h7 => ⟨s, endX s.1 r pg, hz.symm, by omega, by omega, S.ext h7⟩⟩, ?_⟩
  rintro n u w7 ⟨t, x, hd, hl, hn, S⟩
  refine ⟨rfl, S.ldA 1 rfl rfl ?_⟩
  rcases n with _ | n
  · refine brP_neg (by simp; omega) ⟨rfl, S.ldA 1 rfl rfl (S.ld 2 rfl rfl (S.lay (k0 + 3) ht _ e fun w8 S => S.en fun w9 S => k w9 ?_))⟩
    have : z = (t, x) := hd.symm
    rw [this]
    exact S.tail.tail.tail
  · refine brP_pos (by simp; omega) (S.take1 (k0 + 3) ht fun w8 S => ⟨rfl, S.ldA 1 rfl rfl ⟨leadP (tkF t o), leads_q _ _, S.lay (k0 + 3) ht _ (leadP (tkF t o)) fun w9 S => ⟨rfl, S.ldA 1 rfl rfl ⟨rfl, S.ldA 1 rfl rfl ⟨trivial, S.stAll 1 rfl rfl rfl fun w10 S => fun w11 h11 => ⟨n, by omega, layS (tkS t o fun _ => 0) x.2.2.1 (leadP (tkF t o)), (tkF t o, x.2.1 - 1, atI (tkF t o) pg (x.2.1 - 1), ()), hd, by show x.2.1 - 1 = _; omega, by omega, ?_⟩⟩⟩⟩⟩⟩)
    have e2 : subI .i64 x.2.1 1 = x.2.1 - 1 := subI_i64 (by omega) (by omega)
    have S := S.ext h11
    rw [e2] at S
    exact S
theorem map (S : SAt Q D G w0 w s L0) (k0 : Nat) (ht : L0[k0]? = some (bt, tcs Q o r gone)) (pg f rt : Int) {K : Int → World → Prop} (k : ∀ w2, SAt Q D G w0 w2 (mapS s o r gone pg f rt) L0 → K (mapE s r gone pg f rt) w2) :
    CaP Tryz.prog 20 (.el (.one (.int .i64))) [.pointer (some ⟨bt, 0, none⟩), .int .i64 pg, .int .i64 f, .int .i64 rt] w K := by
  refine S.go fun w1 S => rxFn_ok (C := N0) (ann := fun _ => []) (Eq.mpr (tmap_vc _ pg f rt w1 K) ?_)
  unfold mapS mapE at k
  refine ⟨_, S.state k0 ht, ?_⟩
  cases gone with
  | true =>
    rw [if_pos rfl, if_pos rfl] at k
    exact brP_pos rfl (S.en fun w2 S => k w2 S)
  | false =>
    have hff : ¬ (false = true) := by decide
    rw [if_neg hff, if_neg hff] at k
    refine brP_neg rfl ⟨_, right_q _ _ _ _, brP_intro (fun c => S.en fun w2 S => ?_) (fun c => S.put k0 ht pg 0 ⟨by decide, by decide⟩ (true, rt, false, f, ()) fun w2 S => S.en fun w3 S => ?_)⟩
    · have c : ¬ rgtE pg f rt = 0 := by simpa using c
      rw [if_neg c, if_neg c] at k
      exact k w2 S
    · have c : rgtE pg f rt = 0 := by simpa using c
      rw [if_pos c, if_pos c] at k
      exact k w3 S
theorem large (S : SAt Q D G w0 w s L0) (k0 : Nat) (ht : L0[k0]? = some (bt, tcs Q o r gone)) (pg f rt : Int) {K : Int → World → Prop} (k : ∀ w2, SAt Q D G w0 w2 (lrgS s o r gone pg f rt) L0 → K (lrgE s r gone pg f rt) w2) :
    CaP Tryz.prog 21 (.el (.one (.int .i64))) [.pointer (some ⟨bt, 0, none⟩), .int .i64 pg, .int .i64 f, .int .i64 rt] w K := by
  refine S.go fun w1 S => rxFn_ok (C := N0) (ann := fun _ => []) (Eq.mpr (tlarge_vc _ pg f rt w1 K) ?_)
  unfold lrgS lrgE at k
  refine ⟨_, S.state k0 ht, ?_⟩
  cases gone with
  | true =>
    rw [if_pos rfl, if_pos rfl] at k
    exact brP_pos rfl (S.en fun w2 S => k w2 S)
  | false =>
    have hff : ¬ (false = true) := by decide
    rw [if_neg hff, if_neg hff] at k
    refine brP_neg rfl ⟨_, right_q _ _ _ _, brP_intro (fun c => S.en fun w2 S => ?_) (fun c => ⟨trivial, by decide, fun _ => by decide, ?_⟩)⟩
    · have c : ¬ rgtE pg f rt = 0 := by simpa using c
      rw [if_neg c, if_neg c] at k
      exact k w2 S
    · have c : rgtE pg f rt = 0 := by simpa using c
      rw [if_pos c, if_pos c] at k
      have hr : 0 ≤ pg ∧ 0 ≤ f := by
        unfold rgtE at c
        by_cases h : pg < 0 ∨ pg ≥ 65536 ∨ f < 0 ∨ f ≥ 4096
        · rw [if_pos h] at c; cases c
        · omega
      have ea : (decide (remI pg (spanI 1) > 0) || decide (remI f (spanI 1) > 0)) = algE pg f := by
        have : spanI 1 = 16 := rfl
        unfold algE
        rw [this, show remI pg 16 = pg % 16 from Int.tmod_eq_emod_of_nonneg hr.1, show remI f 16 = f % 16 from Int.tmod_eq_emod_of_nonneg hr.2]
      rw [ea]
      refine brP_intro (fun d => S.en fun w2 S => ?_) (fun d => S.put k0 ht pg 1 ⟨by decide, by decide⟩ (true, rt, true, f, ()) fun w2 S => S.en fun w3 S => ?_)
      · rw [if_pos d, if_pos d] at k
        exact k w2 S
      · rw [if_neg (by rw [d]; decide), if_neg (by rw [d]; decide)] at k
        exact k w3 S
end SAt
end
end Go.Proofs.YtkldededdgpmbaaGreat
namespace Go.Proofs.YtkldededdgpmbaaGreat
set_option linter.unusedSimpArgs false
set_option linter.unusedVariables false
set_option maxRecDepth 100000
open Go.RX D
/-! ### Words that are read in a row; tables that are taken away -/
theorem dec_neg {p : Prop} {α : Type} (d : Decidable p) (hn : ¬ p) (a b : α) : (Decidable.rec (fun _ => a) (fun _ => b) d : α) = a := by
  cases d with
  | isFalse h => rfl
  | isTrue h => exact absurd h hn
theorem cutL_ok {ws : List Int} {i n : Int} (h : ¬ (n < 1 ∨ i < 0 ∨ i > ws.length ∨ n > ws.length - i)) : (cutL ws i n).length = n.toNat := by
  unfold cutL
  rw [if_neg h, List.length_take, List.length_drop]
  omega
section
variable {D G : List Nat} {w0 w : World} {L : List (Nat × List Value)}
theorem cut_ok {bw n c : Nat} {ws : List Int} {rest : List Value} (hw : Blk w bw (flat eW ws ++ rest)) (hn : n = ws.length) (hc : n ≤ c) (hb : n ≤ 1048576) (i k : Int) :
    CallsR Tryz.prog 63 (.el (.one .slice)) [.agg ⟨[.slice (some ⟨bw, 0, none⟩) n c]⟩, .int .i64 i, .int .i64 k] w (fun r w' => Own w w' eW r (cutL ws i k) ∧ Ext w w') := by
  refine rxFn_ok (C := N0) (ann := fun _ => []) (Eq.mpr (mcut_vc _ n c i k w _) ?_)
  have H := At.start [] w
  refine AlP.go H fun b w2 H => ⟨fun _ => rfl, LdP.atA 0 H rfl rfl ⟨fun _ => rfl, LdP.atA 0 H rfl rfl ?_⟩⟩
  by_cases hbad : k < 1 ∨ i < 0 ∨ i > ws.length ∨ k > ws.length - i
  · have e0 : cutL ws i k = [] := if_pos hbad
    rw [e0]
    refine brP_pos ?_ (EnP.go H fun w3 H => ⟨Own.nil w w3 eW, H.all⟩)
    dsimp only
    simp only [Bool.or_eq_true, decide_eq_true_eq]
    by_cases h1 : k < 1
    · exact .inl (.inl (.inl h1))
    · by_cases h2 : i < 0
      · exact .inl (.inl (.inr h2))
      · by_cases h3 : i > (n : Int)
        · exact .inl (.inr h3)
        · refine .inr ?_
          rw [subI_i64 (by omega) (by omega)]; omega
  · have hg : 1 ≤ k ∧ 0 ≤ i ∧ i + k ≤ n := by omega
    have e1 : subI .i64 (n : Int) i = (n : Int) - i := subI_i64 (by omega) (by omega)
    refine brP_neg ?_ ?_
    · dsimp only
      rw [e1]
      simp only [Bool.or_eq_false_iff, decide_eq_false_iff_not]
      omega
    refine MkP.go H (z := [.int .u64 0]) rfl (by omega) (Int.le_refl _) (by omega) (by omega) fun b1 w3 H => ⟨rfl, LdP.atA 1 H rfl rfl ⟨by dsimp only; omega, fun w4 h4 => ?_⟩⟩
    have H := H.ext h4
    have hw4 := hw.ext H.all
    dsimp only
    rw [dec_neg _ (by show ¬ (((c : Nat) : Int).toNat = i.toNat); omega)]
    have hlen : (cutL ws i k).length = k.toNat := cutL_ok hbad
    have hcut : cutL ws i k = (ws.drop i.toNat).take k.toNat := if_neg hbad
    have hfl : (flat eW (cutL ws i k)).length = k.toNat := by rw [flat_length, hlen]; exact Nat.mul_one _
    have hmin : Nat.min (((n : Nat) : Int).toNat - i.toNat) k.toNat = k.toNat := Nat.min_eq_right (by omega)
    have hrep : (List.replicate k.toNat [Value.int .u64 0]).flatten.length = k.toNat := by simp
    refine ⟨flat eW (cutL ws i k), ?_, .inr (.inr ⟨?_, ?_⟩), ?_⟩
    · show rdN w4 (addP (some ⟨bw, 0, none⟩) (i.toNat * 1)) (Nat.min (((n : Nat) : Int).toNat - i.toNat) k.toNat * 1) _
      rw [hmin, addP_B, Nat.mul_one, Nat.mul_one]
      refine hw4.rdN hfl fun j hj => ?_
      have e2 := flatW ws
      have e3 := flatW (cutL ws i k)
      rw [Nat.zero_add, e2, e3, List.getElem?_append_left (by rw [List.length_map]; omega), List.getElem?_map, List.getElem?_map, hcut, List.getElem?_take_of_lt hj, List.getElem?_drop]
    · rw [hfl]
      exact (H.get (i := 0) rfl).st (by rw [hrep]; omega)
    · have := oneCells_flat eW (cutL ws i k) rfl
      exact this
    · have H5 := H.put 0 (b := b1) (o := 0) rfl (flat eW (cutL ws i k)) (by rw [hfl, hrep]; omega)
      have hd : List.drop k.toNat (List.replicate k.toNat [Value.int .u64 0]).flatten = [] := List.drop_of_length_le (Nat.le_of_eq hrep)
      rw [Nat.zero_add, hfl, hd, List.append_nil, List.take_zero, List.nil_append] at H5
      refine EnP.go H5 fun w6 H6 => ⟨?_, H6.all⟩
      have hb1 : w.heap.size ≤ b1 := by
        rcases H6.own (b1, flat eW (cutL ws i k)) List.mem_cons_self with h | h
        · exact h
        · cases h
      refine ⟨hlen.symm, by rw [hlen]; exact Nat.le_refl _, .inr ⟨b1, _, rfl, hb1, H6.get (i := 0) rfl, by rw [hfl]; exact (Nat.mul_one _).symm, ?_⟩⟩
      rw [hlen]
      exact List.take_of_length_le (by rw [hfl]; exact Nat.le_of_eq (Nat.mul_one _).symm)
/-- One cell of a row's element. -/
theorem flat_cell {e : El} {xs : List e.T} {rest : List Value} {i : Nat} {x : e.T} (hx : xs[i]? = some x) {j : Nat} (hj : j < stride e) : (flat e xs ++ rest)[i * stride e + j]? = (cellsOf e x)[j]? := by
  have hi : i < xs.length := (List.getElem?_eq_some_iff.1 hx).1
  have hl : i * stride e + j < (flat e xs).length := by
    rw [flat_length]
    have : (i + 1) * stride e ≤ xs.length * stride e := Nat.mul_le_mul_right _ hi
    rw [Nat.add_mul] at this
    omega
  rw [List.getElem?_append_left hl]
  exact flat_get e xs i x hx j hj
end
section
variable {Q : Sys} {D G : List Nat} {w0 w : World} {s : WD} {L0 : List (Nat × List Value)} {bt : Nat} {o r : Int} {gone : Bool}
/-- The words are not too many. -/
abbrev Few (Q : Sys) (s : WD) : Prop := s.1.length ≤ Q.c ∧ s.1.length ≤ 1048576
namespace SAt
theorem words (S : SAt Q D G w0 w s L0) (hc : Few Q s) (i n : Int) {K : Option Addr × Nat × Nat → World → Prop} (k : ∀ x rows w2, SAt Q D G w0 w2 s (L0 ++ rows) → RowIn eW rows x (cutL s.1 i n) → K x w2) :
    CaP Tryz.prog 25 (.el (.one .slice)) [.pointer (some ⟨Q.bm, 0, none⟩), .int .i64 i, .int .i64 n] w K := by
  refine S.go fun w1 S => rxFn_ok (C := N0) (ann := fun _ => []) (Eq.mpr (mwords_vc _ i n w1 K) ?_)
  obtain ⟨h1, h2, h3, h4, ca, la, H⟩ := S
  refine brP_neg rfl ⟨rfl, rfl, LdP.atA 0 H rfl rfl ?_⟩
  refine CaP.rowR H (fun w2 H => cut_ok (H.get (i := 1) rfl) rfl hc.1 hc.2 i n) fun x rows w2 H hr => EnP.go H fun w3 H => k x rows w3 ⟨h1, h2, h3, h4, ca, la, H⟩ hr
theorem plc_cell (S : SAt Q D G w0 w s L0) {j bs : Nat} {l : List PT} {rest : List Value} (hb : L0[j]? = some (bs, flat (.agg sPl) l ++ rest)) {i : Nat} {x : PT} (hx : l[i]? = some x) (q : Nat) {K : Int → Prop} {v : Int} (hq : q < 3) (hv : (cellsOf (.agg sPl) x)[q]? = some (.int .i64 v)) (k : K v) :
    LdP w none (addP (addP (some ⟨bs, 0, none⟩) (i * 3)) q) (.one (.int .i64)) K := by
  rw [addP_B, addP_B, Nat.zero_add]
  refine LdP.of v ((S.get hb).rd1 ?_) k
  have := flat_cell (e := .agg sPl) (rest := rest) hx (j := q) hq
  rw [show i * 3 + q = i * stride (.agg sPl) + q from rfl, this, hv]
  rfl
end SAt
end
end Go.Proofs.YtkldededdgpmbaaGreat
namespace Go.Proofs.YtkldededdgpmbaaGreat
set_option linter.unusedSimpArgs false
set_option linter.unusedVariables false
set_option maxRecDepth 100000
open Go.RX D
/-! ### thin, Unmap, Protect -/
theorem thin1 (x : PT) (t : WD) : thinS [x] t = t := rfl
theorem thin2 (x y : PT) (l : List PT) (t : WD) : thinS (x :: y :: l) t = if allZ t.1 x.1 = true then thinS (y :: l) (stL t.1 y.2.2.1 0, chL t.2 x.1 (turnG 5 0)) else t := rfl
theorem rev_take2 {l : List PT} {q : Nat} {x y : PT} (hy : l[q]? = some y) (hx : l[q + 1]? = some x) : (l.take (q + 2)).reverse = x :: y :: (l.take q).reverse ∧ (l.take (q + 1)).reverse = y :: (l.take q).reverse := by
  have e1 : l.take (q + 1) = l.take q ++ [y] := by rw [List.take_add_one, hy]; rfl
  have e2 : l.take (q + 2) = l.take q ++ [y] ++ [x] := by rw [List.take_add_one, hx, e1]; rfl
  exact ⟨by rw [e2]; simp, by rw [e1]; simp⟩
theorem wayL_fr {ws : List Int} (pg : Int) : ∀ (l : Nat) (f : Int), (0 ≤ f ∧ f < 4096) → ∀ x ∈ wayL ws pg l f, 0 ≤ x.1 ∧ x.1 < 4096
  | 0, f, hf, x, h => by
    rw [wayL, List.mem_singleton] at h
    subst h; exact hf
  | l + 1, f, hf, x, h => by
    rw [wayL] at h
    rcases List.mem_cons.1 h with rfl | h
    · exact hf
    · split at h
      · exact wayL_fr pg l _ (entA_rng _ _) x h
      · cases h
section
variable {Q : Sys} {D G : List Nat} {w0 w : World} {s : WD} {L0 : List (Nat × List Value)} {bt : Nat} {o r : Int} {gone : Bool}
namespace SAt
theorem thin (S : SAt Q D G w0 w s L0) (hc : Few Q s) (k0 : Nat) (ht : L0[k0]? = some (bt, tcs Q o r gone)) {j bs c : Nat} {l : List PT} {rest : List Value} (hb : L0[j]? = some (bs, flat (.agg sPl) l ++ rest)) (hl : l.length ≤ 4) (hf : ∀ x ∈ l, 0 ≤ x.1 ∧ x.1 < 4096)
    {K : Unit → World → Prop} (k : ∀ w2, SAt Q D G w0 w2 (thinS l.reverse s) L0 → K () w2) :
    CaP Tryz.prog 59 (.tup []) [.pointer (some ⟨bt, 0, none⟩), .slice (some ⟨bs, 0, none⟩) l.length c] w K := by
  refine S.go fun w1 S => rxFn_ok (C := N0) (ann := tthin_vc_ann) (Eq.mpr (tthin_vc _ _ _ c w1 K) ?_)
  obtain ⟨z, hz⟩ : ∃ z, z = thinS l.reverse s := ⟨_, rfl⟩
  rw [← hz] at k
  refine ⟨fun n v w' => ∃ t : WD, v.1 + 1 = (n : Int) ∧ n ≤ l.length ∧ t.1.length = s.1.length ∧ thinS (l.take n).reverse t = z ∧ SAt Q D G w0 w' t L0,
    ⟨l.length, fun w2 h2 => ⟨s, ?_, Nat.le_refl _, rfl, by rw [List.take_length]; exact hz.symm, S.ext h2⟩⟩, ?_⟩
  · show subI .i64 ((l.length : Nat) : Int) 1 + 1 = _
    rw [subI_i64 (by omega) (by omega)]; omega
  rintro n ⟨v, u⟩ w2 ⟨t, e1, hn, hlen, hd, S⟩
  dsimp only at e1 ⊢
  rcases n with _ | _ | q
  · refine brP_neg (by simp; omega) (S.en fun w3 S => k w3 ?_)
    rw [← hd]; exact S
  · refine brP_neg (by simp; omega) (S.en fun w3 S => k w3 ?_)
    have : thinS (l.take (0 + 1)).reverse t = t := by
      cases l with
      | nil => rfl
      | cons x l => exact thin1 x t
    rw [← hd, this]; exact S
  · obtain rfl : v = ((q + 1 : Nat) : Int) := by omega
    have hx : l[q + 1]? = some l[q + 1] := List.getElem?_eq_getElem (by omega)
    have hy : l[q]? = some l[q] := List.getElem?_eq_getElem (by omega)
    generalize l[q + 1] = x at hx
    generalize l[q] = y at hy
    obtain ⟨t2, t1⟩ := rev_take2 hy hx
    rw [t2, thin2, ← t1] at hd
    have hfx := hf x (List.mem_of_getElem? hx)
    have em : mulI .i64 16 x.1 = 16 * x.1 := mulI_i64 (by omega) (by omega)
    have es : subI .i64 ((q + 1 : Nat) : Int) 1 = (q : Int) := by rw [subI_i64 (by omega) (by omega)]; omega
    refine brP_pos (by simp) ⟨rfl, rfl, S.ldA k0 ht rfl ⟨⟨rfl, by omega, by omega⟩, rfl, S.plc_cell hb hx 0 (by decide) rfl ?_⟩⟩
    rw [em]
    refine S.words ⟨by rw [hlen]; exact hc.1, by rw [hlen]; exact hc.2⟩ (16 * x.1) 16 fun rr rows w3 S hr => ?_
    have hll : (cutL t.1 (16 * x.1) 16).length ≤ 16 := by
      by_cases hbad : (16 : Int) < 1 ∨ 16 * x.1 < 0 ∨ 16 * x.1 > t.1.length ∨ 16 > t.1.length - 16 * x.1
      · rw [show cutL t.1 (16 * x.1) 16 = [] from if_pos hbad]; simp
      · rw [cutL_ok hbad]; decide
    have hrl : rr.2.1 = (cutL t.1 (16 * x.1) 16).length := hr.1
    refine ⟨fun n v w' => ∃ m : Nat, v.1 = (m : Int) ∧ n + m = (cutL t.1 (16 * x.1) 16).length ∧ (∀ i, i < m → (cutL t.1 (16 * x.1) 16)[i]? = some 0) ∧ SAt Q D G w0 w' t (L0 ++ rows), ⟨(cutL t.1 (16 * x.1) 16).length, fun w4 h4 => ⟨0, rfl, rfl, fun i hi => by omega, S.ext h4⟩⟩, ?_⟩
    rintro n ⟨v, u2⟩ w4 ⟨m, e1, hnm, hz0, S⟩
    dsimp only at e1 ⊢
    subst e1
    rw [hrl]
    refine brP_intro (fun cc => ?_) (fun cc => ?_)
    · have hm : m < (cutL t.1 (16 * x.1) 16).length := by simpa using cc
      have hv := List.getElem?_eq_getElem hm
      generalize (cutL t.1 (16 * x.1) 16)[m] = v0 at hv
      obtain ⟨g1, g2, g3, g4, ca, la, H⟩ := S
      have hsl := hr.sl H (fun x hx => by
        show x ∈ _ :: _ :: _ :: _ :: (L0 ++ rows)
        simp [hx]) m v0 hv
      have S : SAt Q D G w0 w4 t (L0 ++ rows) := ⟨g1, g2, g3, g4, ca, la, H⟩
      refine ⟨⟨hsl.1, by omega, by omega⟩, LdP.of v0 hsl.2 (brP_intro (fun c2 => S.en fun w5 S => k w5 ?_) (fun c2 => fun w5 h5 => ⟨n - 1, by omega, m + 1, ?_, by omega, fun i hi => ?_, S.ext h5⟩))⟩
      · have c2 : ¬ v0 = 0 := by simpa using c2
        have ha : allZ t.1 x.1 = false := by
          unfold allZ
          rw [List.all_eq_false]
          exact ⟨v0, List.mem_of_getElem? hv, by simpa using c2⟩
        rw [ha, if_neg (by decide)] at hd
        rw [← hd]
        exact S.sub (List.sublist_append_left _ _)
      · rw [addI_i64 (by omega) (by omega)]; omega
      · have c2 : v0 = 0 := by simpa using c2
        by_cases e : i = m
        · subst e; rw [hv, c2]
        · exact hz0 i (by omega)
    · have hm : ¬ m < (cutL t.1 (16 * x.1) 16).length := by simpa using cc
      have ha : allZ t.1 x.1 = true := by
        unfold allZ
        rw [List.all_eq_true]
        intro v0 hv0
        obtain ⟨i, hi⟩ := List.getElem?_of_mem hv0
        have := hz0 i (by have := (List.getElem?_eq_some_iff.1 hi).1; omega)
        rw [hi] at this
        cases this; rfl
      rw [ha, if_pos rfl] at hd
      have S := S.sub (List.sublist_append_left L0 rows)
      refine ⟨rfl, rfl, S.ldA k0 ht rfl ?_⟩
      rw [es]
      refine ⟨⟨rfl, by omega, by omega⟩, rfl, S.plc_cell hb hy 2 (by decide) rfl (S.store _ 0 ⟨by decide, by decide⟩ fun w5 S => ⟨rfl, rfl, S.ldA k0 ht rfl ⟨⟨rfl, by omega, by omega⟩, rfl, S.plc_cell hb hx 0 (by decide) rfl (S.turn x.1 5 0 fun w6 S => fun w7 h7 => ⟨q + 1, by omega, _, by show (q : Int) + 1 = _; omega, by omega, ?_, hd, S.ext h7⟩)⟩⟩)⟩
      show (stL t.1 y.2.2.1 0).length = s.1.length
      rw [stL_len]; exact hlen
theorem unmap (S : SAt Q D G w0 w s L0) (hc : Few Q s) (k0 : Nat) (ht : L0[k0]? = some (bt, tcs Q o r gone)) (hr : 0 ≤ r ∧ r < 4096) (pg : Int) {K : Int × Int × Unit → World → Prop} (k : ∀ w2, SAt Q D G w0 w2 (unmS s o r gone pg) L0 → K (unmF s o r gone pg, unmE s o r gone pg, ()) w2) :
    CaP Tryz.prog 22 (.tup [.one (.int .i64), .one (.int .i64)]) [.pointer (some ⟨bt, 0, none⟩), .int .i64 pg] w K := by
  refine S.go fun w1 S => rxFn_ok (C := N0) (ann := fun _ => []) (Eq.mpr (tunmap_vc _ pg w1 K) ?_)
  refine S.query k0 ht pg fun w2 S => brP_intro (fun c => S.en fun w3 S => ?_) (fun c => ?_)
  · have c : ¬ (qryV s r gone pg).2.2.1 = 0 := by simpa using c
    have e1 : unmE s o r gone pg = (qryV s r gone pg).2.2.1 := if_neg c
    have e2 : unmF s o r gone pg = 0 := by unfold unmF; rw [e1, if_neg c]
    have e3 : unmS s o r gone pg = s := if_neg c
    rw [e1, e2, e3] at k
    exact k w3 S
  have c : (qryV s r gone pg).2.2.1 = 0 := by simpa using c
  have e1 : unmE s o r gone pg = splE s o r pg := if_pos c
  have e3 : unmS s o r gone pg = if splE s o r pg = 0 then thinS (wayL (splS s o r pg).1 pg 3 r).reverse (stL (splS s o r pg).1 (endX (splS s o r pg).1 r pg).2.2.1 0, (splS s o r pg).2) else splS s o r pg := if_pos c
  refine S.split k0 ht pg fun w3 S => brP_intro (fun d => S.en fun w4 S => ?_) (fun d => ?_)
  · have d : ¬ splE s o r pg = 0 := by simpa using d
    have e2 : unmF s o r gone pg = 0 := by unfold unmF; rw [e1, if_neg d]
    rw [e1, e2, e3, if_neg d] at k
    exact k w4 S
  have d : splE s o r pg = 0 := by simpa using d
  have e2 : unmF s o r gone pg = (qryV s r gone pg).1 := by unfold unmF; rw [e1, if_pos d]
  rw [e2, e1, e3, if_pos d, d] at k
  have hlen : (splS s o r pg).1.length = s.1.length := by
    unfold splS tkS layS
    split
    · rfl
    · split
      · show (stL _ _ _).length = _
        rw [stL_len, fillL_len]
      · rfl
  generalize splS s o r pg = t at *
  refine S.way pg fun bb bc w4 S => S.gath (pg := pg) (k0 + 2) ht (by simp) (by simp) fun bs cs rest w5 S => ⟨rfl, rfl, S.ldA (k0 + 3) ht rfl ?_⟩
  have hl4 : (wayL t.1 pg 3 r).length ≤ 4 := wayL_len t.1 pg 3 r
  have hpos : 0 < (wayL t.1 pg 3 r).length := List.length_pos_iff.2 (wayL_ne t.1 pg 3 r)
  have es : subI .i64 (((wayL t.1 pg 3 r).length : Nat) : Int) 1 = (((wayL t.1 pg 3 r).length - 1 : Nat) : Int) := by rw [subI_i64 (by omega) (by omega)]; omega
  dsimp only
  rw [es]
  refine ⟨⟨rfl, by omega, by omega⟩, rfl, S.plc_cell (j := 0) rfl (end_get t.1 r pg) 2 (by decide) rfl (S.store _ 0 ⟨by decide, by decide⟩ fun w6 S => S.thin ⟨by show (stL _ _ _).length ≤ _; rw [stL_len, hlen]; exact hc.1, by show (stL _ _ _).length ≤ _; rw [stL_len, hlen]; exact hc.2⟩ (k0 + 3) ht (j := 0) rfl hl4 (wayL_fr pg 3 r hr) fun w7 S => S.en fun w8 S => k w8 S.tail.tail.tail)⟩
theorem protect (S : SAt Q D G w0 w s L0) (k0 : Nat) (ht : L0[k0]? = some (bt, tcs Q o r gone)) (pg rt : Int) {K : Int → World → Prop} (k : ∀ w2, SAt Q D G w0 w2 (proS s o r gone pg rt) L0 → K (proE s o r gone pg rt) w2) :
    CaP Tryz.prog 23 (.el (.one (.int .i64))) [.pointer (some ⟨bt, 0, none⟩), .int .i64 pg, .int .i64 rt] w K := by
  refine S.go fun w1 S => rxFn_ok (C := N0) (ann := fun _ => []) (Eq.mpr (tprot_vc _ pg rt w1 K) ?_)
  unfold proS proE at k
  refine ⟨_, S.state k0 ht, ?_⟩
  cases gone with
  | true =>
    rw [if_pos rfl, if_pos rfl] at k
    exact brP_pos rfl (S.en fun w2 S => k w2 S)
  | false =>
    have hff : ¬ (false = true) := by decide
    rw [if_neg hff, if_neg hff] at k
    refine brP_neg rfl ⟨_, right_q _ _ _ _, brP_intro (fun c => S.en fun w2 S => ?_) (fun c => ?_)⟩
    · have c : ¬ rgtE pg 0 rt = 0 := by simpa using c
      rw [if_neg c, if_neg c] at k
      exact k w2 S
    have c : rgtE pg 0 rt = 0 := by simpa using c
    rw [if_pos c, if_pos c] at k
    have hpg : 0 ≤ pg := by
      unfold rgtE at c
      by_cases h : pg < 0 ∨ pg ≥ 65536 ∨ (0 : Int) < 0 ∨ (0 : Int) ≥ 4096
      · rw [if_pos h] at c; cases c
      · omega
    refine S.end_ k0 ht pg fun w2 S => S.al fun b w3 S => S.al fun b1 w4 S => S.stAll 1 rfl rfl rfl fun w5 S => S.stAll 0 rfl rfl rfl fun w6 S => ⟨rfl, S.ldA 0 rfl rfl (brP_intro (fun d => S.en fun w7 S => ?_) (fun d => ⟨rfl, S.ldA 0 rfl rfl ⟨fun _ => rfl, S.ldA 0 rfl rfl (brP_intro (fun e => S.en fun w7 S => ?_) (fun e => ?_))⟩⟩))⟩
    · have d : ¬ (endP s.1 r pg).1 = true := by simpa using d
      rw [if_neg d, if_neg d] at k
      exact k w7 S.tail.tail
    · have d : (endP s.1 r pg).1 = true := by simpa using d
      rw [if_pos d, if_pos d] at k
      have e : ((endP s.1 r pg).2.2.1 && (endP s.1 r pg).2.1 == rt) = true := e
      rw [if_pos e, if_pos e] at k
      exact k w7 S.tail.tail
    have d : (endP s.1 r pg).1 = true := by simpa using d
    rw [if_pos d, if_pos d] at k
    have e : ¬ ((endP s.1 r pg).2.2.1 && (endP s.1 r pg).2.1 == rt) = true := by
      have e' : ((endP s.1 r pg).2.2.1 && (endP s.1 r pg).2.1 == rt) = false := e
      rw [e']; decide
    rw [if_neg e, if_neg e] at k
    refine S.ld 1 rfl rfl (S.ld 0 rfl rfl ⟨_, frame_q hpg (endX s.1 r pg) (endP s.1 r pg) (entA_rng _ _) _, S.split (k0 + 2) ht pg fun w7 S => brP_intro (fun f => S.en fun w8 S => ?_) (fun f => S.end_ (k0 + 2) ht pg fun w8 S => S.stAll 1 rfl rfl rfl fun w9 S => ⟨rfl, S.ldA 1 rfl rfl (S.lay (k0 + 2) ht _ (true, rt, false, frmP pg (endX s.1 r pg) (endP s.1 r pg), ()) fun w10 S => S.en fun w11 S => ?_)⟩)⟩)
    · have f : ¬ splE s o r pg = 0 := by simpa using f
      rw [if_neg f] at k
      exact k w8 S.tail.tail
    · have f : splE s o r pg = 0 := by simpa using f
      rw [if_pos f, f] at k
      exact k w11 S.tail.tail
end SAt
end
end Go.Proofs.YtkldededdgpmbaaGreat
namespace Go.Proofs.YtkldededdgpmbaaGreat
set_option linter.unusedSimpArgs false
set_option linter.unusedVariables false
set_option maxRecDepth 100000
open Go.RX
noncomputable def N1 : Cfg Tryz.prog := { N0 with cl := [(137, .yld)] }
def tunder1_vc_ann : Nat → Slots := (fun | 3 => [(12, Go.RX.El.one (Go.RX.Sc.int Go.IntKind.i64))] | 9 => [(34, .one (.int .i64))] | _ => [])
theorem tunder1_vc (y : Nat) (p c d : Option Addr) (w : World) (Post : Unit → World → Prop) : (rxFnR N1 tunder1_vc_ann 80 [.func (.yield y) #[] #[], .pointer p, .pointer c, .pointer d] w Post) = (
 AlP w { toList := [Value.func (Fn.yield y) { toList := [] } { toList := [] }] } 137 fun (b : Nat) (w2 : World) =>
  LdP w2 none (some { block := b, off := 0 }) (El.one Sc.yld) fun (x : Nat) =>
   LdP w2 none p (El.one (Sc.int IntKind.i64)) fun (x_1 : Int) =>
    ∀ (w1 : World),
     Ext w2 w1 →
      YieldC Tryz.prog x [Value.int IntKind.i64 x_1] w1 fun (b_1 : Bool) (w2 : World) =>
       brP (!b_1) (EnP w2 fun (w1 : World) => Post Unit.unit w1)
        (∃ (I : Nat → Int × Unit → List Nat → World → Prop),
         (∃ (n : Nat), ∀ (w1 : World), Ext w2 w1 → I n (0, Unit.unit) [] w1) ∧
          ∀ (n : Nat) (s : Int × Unit) (D1 : List Nat) (w1 : World),
           I n s D1 w1 →
            brP (decide (s.fst < 16))
             (LdP w1 none c (El.one Sc.ptr) fun (x : Option Addr) =>
              LdP w1 none p (El.one (Sc.int IntKind.i64)) fun (x_2 : Int) =>
               CaP Tryz.prog 78 (Sh.el (El.agg [Sc.bool, Sc.int IntKind.i64, Sc.bool, Sc.int IntKind.i64])) [Value.pointer x, Value.int IntKind.i64 (addI IntKind.i64 (mulI IntKind.i64 16 x_2) s.fst)] w1
                fun (x : Bool × Int × Bool × Int × Unit) (w2 : World) =>
                AlP w2 { toList := [Value.bool false, Value.int IntKind.i64 0, Value.bool false, Value.int IntKind.i64 0] } 93 fun (b_2 : Nat) (w2 : World) =>
                 StP w2 (some { block := b_2, off := 0 }) [Value.bool x.fst, Value.int IntKind.i64 x.snd.fst, Value.bool x.snd.snd.fst, Value.int IntKind.i64 x.snd.snd.snd.fst] fun (w2 : World) =>
                  LdP w2 none d (El.one (Sc.int IntKind.i64)) fun (x : Int) =>
                   LdP w2 (some !x == 0) (some { block := b_2, off := 0 }) (El.agg [Sc.bool, Sc.int IntKind.i64, Sc.bool, Sc.int IntKind.i64]) fun (x_3 : Bool × Int × Bool × Int × Unit) =>
                    ((!x == 0) = true → True) ∧
                     brP (x == 0 || !tableE x_3.fst x_3.snd.fst x_3.snd.snd.fst x_3.snd.snd.snd.fst) (∀ (w3 : World), Ext w2 w3 → ∃ (n' : Nat), n' < n ∧ I n' (addI IntKind.i64 s.fst 1, Unit.unit) D1 w3)
                      (LdP w2 none c (El.one Sc.ptr) fun (x : Option Addr) =>
                       true = true ∧
                        LdP w2 none (addP (some { block := b_2, off := 0 }) 3) (El.one (Sc.int IntKind.i64)) fun (x_4 : Int) =>
                         LdP w2 none d (El.one (Sc.int IntKind.i64)) fun (x_5 : Int) =>
                          CaP Tryz.prog 50 (Sh.el (El.one (Sc.clo 80 3))) [Value.pointer x, Value.int IntKind.i64 x_4, Value.int IntKind.i64 (subI IntKind.i64 x_5 1)] w2 fun (x : Option Addr × Option Addr × Option Addr × Unit) (w2 : World) =>
                           RnP Tryz.prog 80 (fun (y : Nat) => [Value.func (Fn.yield y) { toList := [] } { toList := [] }, Value.pointer x.fst, Value.pointer x.snd.fst, Value.pointer x.snd.snd.fst]) { toList := [34] } w2
                            (fun (x : Int × Unit) => [Value.int IntKind.i64 x.fst])
                            (fun (l : Nat) (rec : Loop) (x : Int × Unit) (w3 : World) (R : Bool → World → Prop) =>
                             RoP l rec [Value.int IntKind.i64 x.fst].length 1 w3
                              (BeP l rec w3 fun (w5 : World) =>
                               LdP w5 none (some { block := b, off := 0 }) (El.one Sc.yld) fun (x_6 : Nat) =>
                                ∀ (w1 : World), Ext w5 w1 → YieldC Tryz.prog x_6 [Value.int IntKind.i64 x.fst] w1 fun (b : Bool) (w2 : World) => brP (!b) (FiP l rec (some Code.ret) w2 R) (FiP l rec none w2 R)))
                            fun (r : Nat) (rec : Loop) (w4 : World) =>
                            rxAfter (r + 1) rec w4 (fun (w5 : World) => ∀ (w3 : World), Ext w5 w3 → ∃ (n' : Nat), n' < n ∧ I n' (addI IntKind.i64 s.fst 1, Unit.unit) (r :: D1) w3)
                             (fun (id : Nat) (w5 : World) =>
                              Decidable.rec
                               (fun (h : id = 2 → False) =>
                                Decidable.rec
                                 (fun (h : id = 1 → False) =>
                                  Decidable.rec (fun (h : id = 0 → False) => False) (fun (h : id = 0) => ClP (r :: D1) w5 fun (w1 : World) => Post Unit.unit w1)
                                   (match h : id.beq 0 with
                                   | true => isTrue (Nat.eq_of_beq_eq_true h)
                                   | false => isFalse (Nat.ne_of_beq_eq_false h)))
                                 (fun (h : id = 1) => ∀ (w3 : World), Ext w5 w3 → ∃ (n' : Nat), n' < n ∧ I n' (addI IntKind.i64 s.fst 1, Unit.unit) (r :: D1) w3)
                                 (match h : id.beq 1 with
                                 | true => isTrue (Nat.eq_of_beq_eq_true h)
                                 | false => isFalse (Nat.ne_of_beq_eq_false h)))
                               (fun (h : id = 2) => ∀ (w3 : World), Ext w5 w3 → ∃ (n' : Nat), n' < n ∧ I n' (addI IntKind.i64 s.fst 1, Unit.unit) (r :: D1) w3)
                               (match h : id.beq 2 with
                               | true => isTrue (Nat.eq_of_beq_eq_true h)
                               | false => isFalse (Nat.ne_of_beq_eq_false h)))
                             fun (w5 : World) => ClP (r :: D1) w5 fun (w1 : World) => Post Unit.unit w1))
             (byD D1 (EnP w1 fun (w1 : World) => Post Unit.unit w1) fun (r : Nat) (D : List Nat) => ClP (r :: D) w1 fun (w1 : World) => Post Unit.unit w1))) := by kernel_rfl
end Go.Proofs.YtkldededdgpmbaaGreat
namespace Go.Proofs.YtkldededdgpmbaaGreat
set_option linter.unusedSimpArgs false
set_option linter.unusedVariables false
set_option maxRecDepth 100000
open Go.RX D
/-! ### The tables under one, as an iterator that leans on itself -/
section
variable {T : Type} {bm : Nat} {mc : List Value → Prop} {J : List T → List (Nat × List Value) → List (Nat × Obj) → World → Prop} {a : List T} {X : List (Nat × List Value)} {O : List (Nat × Obj)} {w w' : World}
/-- A range inside an iterator: what was known ahead of it is known in each round. -/
theorem RnP.inX (K : JK bm mc J) {P : Program} {fid : FuncId} {args : Nat → List Value} {ps : Array Nat} {em : T → List Value} {Rd : Nat → Loop → T → World → (Bool → World → Prop) → Prop} {Af : Nat → Loop → World → Prop} {N : Nat} {X0 : List (Nat × List Value)} {xs : List T}
    (j : J a X O w) (It : ItJ P fid args em N bm mc X0 xs) (hX : ∀ x ∈ X0, x ∈ X) (hN : a.length + xs.length ≤ N)
    (hbody : ∀ b x X' O' l rec w3 (R : Bool → World → Prop), b.length < N → J b (X' ++ X) ((l, lpR rec) :: O') w3 → (∀ w', J (b ++ [x]) (X' ++ X) ((l, lpR rec) :: O') w' → R true w') → Rd l rec x w3 R)
    (haf : ∀ r rec w4, J (a ++ xs) X ((r + 1, lpR rec) :: (r, .deferred (some [])) :: O) w4 → Af r rec w4) : RnP P fid args ps w em Rd Af := by
  intro w1 h1 rec _ _ hst hpd hyield
  have hrec : rec = { rec with state := .ready, pending := .none } := by rw [← hst, ← hpd]
  have sz : (w1.alloc (.deferred (some []))).heap.size = w1.heap.size + 1 := alloc_size _ _
  have j1 : J a X ((w1.heap.size, .deferred (some [])) :: O) (w1.alloc (.deferred (some []))) := K.alO (K.ext j h1) (fun _ _ _ e => by cases e)
  have j2 := K.alO (o := lpR rec) j1 (lp_nc rec _ _)
  rw [sz] at j2
  let Z : List (Nat × Obj) := (w1.heap.size + 1, lpR rec) :: (w1.heap.size, .deferred (some [])) :: O
  let J2 : List T → List (Nat × List Value) → List (Nat × Obj) → World → Prop := fun b X' O' w => J b (X' ++ X) (O' ++ Z) w
  have K2 : JK bm mc J2 :=
    { step := fun {a' X' O' w2 w3 l' Y} h hf hb hl hy hn => by
        have := K.step h hf hb hl hy hn
        show J a' ((Y ++ X') ++ X) (O' ++ Z) w3
        rw [List.append_assoc]; exact this
      mem := fun h => K.mem h
      blk := fun h hm => K.blk h (List.mem_append_left _ hm)
      obj := fun h hm => K.obj h (List.mem_append_left _ hm)
      alO := fun h ho => K.alO h ho
      puO := fun h ho => K.puO h ho
      sub := fun h hx ho => K.sub h (fun x hm => by
        rcases List.mem_append.1 hm with hm | hm
        · exact List.mem_append_left _ (hx x hm)
        · exact List.mem_append_right _ hm) (ho.append_right Z)
      perm := fun h ho => K.perm h (ho.append_right Z) }
  have Y2 : Yd P (w1.heap.size + 1) em N J2 := fun b x X' O' w3 R hb h hR => by
    refine hyield x w3 R ?_
    have hp : ((w1.heap.size + 1, lpR rec) :: (O' ++ ((w1.heap.size, .deferred (some [])) :: O))).Perm (O' ++ Z) := (List.perm_middle (l₁ := O') (a := (w1.heap.size + 1, lpR rec)) (l₂ := (w1.heap.size, .deferred (some [])) :: O)).symm
    exact hbody b x X' (O' ++ ((w1.heap.size, .deferred (some [])) :: O)) _ rec w3 R hb (K.perm h hp) (fun w' h' => hR w' (K.perm h' hp.symm))
  have hw : (w1.alloc (.deferred (some []))).alloc (.loop rec) = (w1.alloc (.deferred (some []))).alloc (lpR rec) := by
    show _ = (w1.alloc (.deferred (some []))).alloc (.loop { rec with state := .ready, pending := none })
    rw [← hrec]
  rw [hw]
  have j3 : J a (X ++ X) Z ((w1.alloc (.deferred (some []))).alloc (lpR rec)) := K.sub j2 (fun x hm => by
    rcases List.mem_append.1 hm with hm | hm <;> exact hm) (List.Sublist.refl _)
  refine Calls.mono (It (w1.heap.size + 1) J2 K2 Y2 a X [] _ hN hX j3) ?_
  rintro e w4 ⟨v, he, h⟩
  exact ⟨v, he, haf _ _ _ (K.sub h (fun x hm => List.mem_append_right _ hm) (List.Sublist.refl _))⟩
end
/-- What is under an entry. -/
def subU (ws : List Int) (l : Nat) (f : Int) (i : Nat) : List Int := match l with
  | 0 => []
  | l + 1 => if tabP (entA ws (16 * f + (i : Int))) = true then underL ws l (entA ws (16 * f + (i : Int))).2.2.2.1 else []
theorem underL_eq (ws : List Int) : ∀ (l : Nat) (f : Int), underL ws l f = f :: (List.range 16).flatMap (subU ws l f)
  | 0, f => by
    rw [underL]
    have : (List.range 16).flatMap (subU ws 0 f) = [] := by
      rw [List.flatMap_eq_nil_iff]
      intro i _; rfl
    rw [this]
  | l + 1, f => rfl
theorem range_pre {m : Nat} (hm : m < 16) (g : Nat → List Int) : ∃ z, (List.range 16).flatMap g = (List.range m).flatMap g ++ (g m ++ z) := by
  obtain ⟨z, e⟩ : ∃ z, List.range 16 = List.range (m + 1) ++ z := by
    refine ⟨(List.range 16).drop (m + 1), ?_⟩
    conv => lhs; rw [← List.take_append_drop (m + 1) (List.range 16)]
    rw [List.take_range, Nat.min_eq_left (by omega)]
  refine ⟨z.flatMap g, ?_⟩
  rw [e, List.flatMap_append, List.range_succ, List.flatMap_append, List.append_assoc]
  simp
abbrev emI (x : Int × Unit) : List Value := [.int .i64 x.1]
abbrev plI (x : Int) : Int × Unit := (x, ())
abbrev ucs (bt c1 c2 c3 : Nat) (f : Int) (l : Nat) : List (Nat × List Value) := [(c1, [.int .i64 f]), (c2, [.pointer (some ⟨bt, 0, none⟩)]), (c3, [.int .i64 (l : Int)])]
theorem under_old {D G : List Nat} {w0 w : World} {L : List (Nat × List Value)} (H : AtD D G w0 w L) (p : Option Addr) (f lv : Int) {K : Option Addr × Option Addr × Option Addr × Unit → World → Prop}
    (k : ∀ b b1 b2 w2, AtD D G w0 w2 ((b2, [.int .i64 lv]) :: (b1, [.int .i64 f]) :: (b, [.pointer p]) :: L) → K (some ⟨b1, 0, none⟩, some ⟨b, 0, none⟩, some ⟨b2, 0, none⟩, ()) w2) :
    CaP Tryz.prog 50 underS [.pointer p, .int .i64 f, .int .i64 lv] w K :=
  CaP.go H fun w1 H => rxFn_ok (C := N0) (ann := fun _ => []) (Eq.mpr (tunder_vc p f lv w1 K) (AlP.go H fun b w2 H => AlP.go H fun b1 w3 H => AlP.go H fun b2 w4 H => EnP.go H fun w5 H => k b b1 b2 w5 H))
abbrev UIt (Q : Sys) (ws : List Int) (bt : Nat) (o r : Int) (gone : Bool) (N lv : Nat) : Prop := ∀ (f : Int) (hf : 0 ≤ f ∧ f < 4096) (c1 c2 c3 : Nat),
    ItJ Tryz.prog 80 (fun y => [.func (.yield y) #[] #[], .pointer (some ⟨c1, 0, none⟩), .pointer (some ⟨c2, 0, none⟩), .pointer (some ⟨c3, 0, none⟩)]) emI N Q.bm (Mc Q ws.length)
      ((bt, tcs Q o r gone) :: (Q.bw, flat eW ws ++ Q.rw) :: ucs bt c1 c2 c3 f lv) ((underL ws lv f).map plI)
theorem under_step {Q : Sys} {ws : List Int} {bt : Nat} {o r : Int} {gone : Bool} {N : Nat} (hok : okW ws) (hpos : 0 < ws.length) (lv : Nat) (hlv : lv ≤ 3) (ih : ∀ l', lv = l' + 1 → UIt Q ws bt o r gone N l') : UIt Q ws bt o r gone N lv := by
  intro f hf c1 c2 c3 y J K hY a X O w hN hX j
  refine Calls.mono (rxFnR_ok (C := N1) (ann := tunder1_vc_ann) (Post := fun _ w' => J (a ++ (underL ws lv f).map plI) X O w') (Eq.mpr (tunder1_vc y _ _ _ w _) ?_)) ?_
  rotate_left
  · rintro e w' ⟨x, rfl, h⟩
    exact ⟨_, rfl, h⟩
  rw [underL_eq] at hN ⊢
  simp only [List.map_cons, List.length_cons, List.length_map] at hN
  obtain ⟨lm, ⟨ca, la, rfl⟩, H⟩ := K.at0 j
  refine AlP.go H fun b w2 H => ?_
  have j := K.of_at (Y := [(b, _)]) j H ⟨_, _, rfl⟩
  have hX' : ∀ x ∈ (bt, tcs Q o r gone) :: (Q.bw, flat eW ws ++ Q.rw) :: ucs bt c1 c2 c3 f lv, x ∈ [(b, [Value.func (.yield y) #[] #[]])] ++ X := fun x hx => List.mem_append_right _ (hX x hx)
  have hXb : (b, [Value.func (.yield y) #[] #[]]) ∈ [(b, [Value.func (.yield y) #[] #[]])] ++ X := List.mem_append_left _ (List.mem_singleton.2 rfl)
  have back : ∀ {a' : List (Int × Unit)} {w' : World}, J a' ([(b, [Value.func (.yield y) #[] #[]])] ++ X) O w' → J a' X O w' := fun h => K.sub h (fun x hx => List.mem_append_right _ hx) (List.Sublist.refl _)
  generalize [(b, [Value.func (.yield y) #[] #[]])] ++ X = X1 at j hX' hXb back
  have x1 := hX' (bt, tcs Q o r gone) (by simp)
  have x2 := hX' (Q.bw, flat eW ws ++ Q.rw) (by simp)
  have x3 := hX' (c1, [.int .i64 f]) (by simp)
  have x4 := hX' (c2, [.pointer (some ⟨bt, 0, none⟩)]) (by simp)
  have x5 := hX' (c3, [.int .i64 (lv : Int)]) (by simp)
  refine LdP.of y ((K.blk j hXb).2.rd1 rfl) (LdP.of f ((K.blk j x3).2.rd1 rfl) fun w3 h3 => hY a (plI f) X1 O w3 _ (by omega) (K.ext j h3) fun w4 j => ?_)
  refine brP_neg rfl ⟨fun n v D1 w' => ∃ m : Nat, v.1 = (m : Int) ∧ n + m = 16 ∧ J (a ++ plI f :: ((List.range m).flatMap (subU ws lv f)).map plI) X1 (D1.map (fun r => (r, Obj.deferred (some []))) ++ O) w', ⟨16, fun w5 h5 => ⟨0, rfl, rfl, by simpa using K.ext j h5⟩⟩, ?_⟩
  rintro n ⟨v, u⟩ D1 w5 ⟨m, e1, hnm, j⟩
  dsimp only at e1 ⊢
  subst e1
  refine brP_intro (fun cc => ?_) (fun cc => ?_)
  · have hm : m < 16 := by simp at cc; omega
    obtain ⟨z, hz⟩ := range_pre hm (subU ws lv f)
    have hlen : (a ++ plI f :: ((List.range m).flatMap (subU ws lv f)).map plI).length + ((subU ws lv f m).map plI).length ≤ N := by
      rw [hz] at hN
      simp only [List.length_append, List.length_cons, List.length_map] at hN ⊢
      omega
    have hsucc : (List.range (m + 1)).flatMap (subU ws lv f) = (List.range m).flatMap (subU ws lv f) ++ subU ws lv f m := by
      rw [List.range_succ, List.flatMap_append]; simp
    have eidx : addI .i64 (mulI .i64 16 f) (m : Int) = 16 * f + (m : Int) := by rw [mulI_i64 (by omega) (by omega), addI_i64 (by omega) (by omega)]
    have einc : addI .i64 (m : Int) 1 = ((m + 1 : Nat) : Int) := by rw [addI_i64 (by omega) (by omega)]; omega
    refine LdP.of (some ⟨bt, 0, none⟩) ((K.blk j x4).2.rd1 rfl) (LdP.of f ((K.blk j x3).2.rd1 rfl) ?_)
    rw [eidx, einc]
    obtain ⟨lm, ⟨ca, la, rfl⟩, H⟩ := K.at0 j
    have R : TbR Q ws w5 bt o r gone := ⟨(K.blk j x1).2, (K.blk j x2).2, (K.blk j x1).1, (K.blk j x2).1, hok, hpos⟩
    have b3 := K.blk j x5
    have b4 := K.blk j x4
    have n3 : c3 ∉ [Q.bm] := by simpa using b3.1
    have n4 : c2 ∉ [Q.bm] := by simpa using b4.1
    refine at_old R H 0 rfl _ fun ca2 w6 H => AlP.go H fun b2 w7 H => StP.all 0 H rfl rfl rfl fun w8 H => LdP.old H b3.2 n3 rfl (LdP.at 0 H rfl rfl ⟨fun _ => trivial, brP_intro (fun c => fun w9 h9 => ?_) (fun c => ?_)⟩)
    · have j2 := K.sub (K.ext (K.of_at (Y := [(b2, _)]) j H ⟨_, _, rfl⟩) h9) (X' := X1) (fun x h => List.mem_append_right _ h) (List.Sublist.refl _)
      refine ⟨n - 1, by omega, m + 1, rfl, by omega, ?_⟩
      have hs : subU ws lv f m = [] := by
        cases lv with
        | zero => rfl
        | succ l =>
          have c : tabP (entA ws (16 * f + (m : Int))) = false := by
            have h0 : ((((l + 1 : Nat) : Int)) == 0) = false := by simp; omega
            simp only [h0, Bool.false_or, Bool.not_eq_true'] at c
            exact c
          exact if_neg (by rw [c]; decide)
      rw [hsucc, hs, List.append_nil]; exact j2
    · have c0 : ¬ lv = 0 ∧ tabP (entA ws (16 * f + (m : Int))) = true := by
        simp only [Bool.or_eq_false_iff, Bool.not_eq_false'] at c
        refine ⟨fun e => ?_, c.2⟩
        subst e
        simp at c
      obtain ⟨l, rfl⟩ : ∃ l, lv = l + 1 := ⟨lv - 1, by omega⟩
      have hs : subU ws (l + 1) f m = underL ws l (entA ws (16 * f + (m : Int))).2.2.2.1 := if_pos c0.2
      have elv : subI .i64 ((l + 1 : Nat) : Int) 1 = (l : Int) := by rw [subI_i64 (by omega) (by omega)]; omega
      refine LdP.old H b4.2 n4 rfl ⟨rfl, LdP.atA 0 H rfl rfl (LdP.old H b3.2 n3 rfl ?_)⟩
      rw [elv]
      refine under_old H _ _ _ fun d d1 d2 w9 H => ?_
      have j2 := K.of_at (Y := [(d2, _), (d1, _), (d, _), (b2, _)]) j H ⟨_, _, rfl⟩
      rw [hs] at hlen hsucc
      refine RnP.inX K j2 (ih l rfl _ (entA_rng _ _) d1 d d2) ?_ hlen ?_ ?_
      · intro x hx
        simp only [ucs, List.mem_cons, List.not_mem_nil, or_false] at hx
        rcases hx with rfl | rfl | rfl | rfl | rfl
        · exact List.mem_append_right _ x1
        · exact List.mem_append_right _ x2
        · simp
        · simp
        · simp
      · intro b0 x X' O' l' rec w10 R hb j hR
        refine RoP.inJ K j rfl (BeP.inJ K j fun wb j => LdP.of y ((K.blk j (List.mem_append_right _ (List.mem_append_right _ hXb))).2.rd1 rfl) fun w11 h11 => hY b0 x _ _ w11 _ hb (K.ext j h11) fun w12 j => brP_neg rfl (FiP.inJ K j fun w13 j => hR w13 j))
      · intro r' rec w10 j
        refine rxAfter.inJ K j fun w11 j => fun w12 h12 => ⟨n - 1, by omega, m + 1, rfl, by omega, ?_⟩
        have j3 := K.sub (K.ext j h12) (X' := X1) (fun x h => List.mem_append_right _ h) (List.Sublist.refl _)
        rw [hsucc]
        simpa using j3
  · have hm : m = 16 := by simp at cc; omega
    subst hm
    cases D1 with
    | nil => exact fun w6 h6 => back (K.ext j h6)
    | cons r' D1 => exact K.ClP (r' :: D1) j fun w6 j => back j
theorem under_it {Q : Sys} {ws : List Int} {bt : Nat} {o r : Int} {gone : Bool} {N : Nat} (hok : okW ws) (hpos : 0 < ws.length) : ∀ lv : Nat, lv ≤ 3 → UIt Q ws bt o r gone N lv := by
  intro lv
  induction lv with
  | zero => intro h; exact under_step hok hpos 0 h (fun l' e => by omega)
  | succ lv ih =>
    intro h
    refine under_step hok hpos (lv + 1) h (fun l' e => ?_)
    obtain rfl : lv = l' := by omega
    exact ih (by omega)
end Go.Proofs.YtkldededdgpmbaaGreat
namespace Go.Proofs.YtkldededdgpmbaaGreat
set_option linter.unusedSimpArgs false
set_option linter.unusedVariables false
set_option maxRecDepth 100000
open Go.RX D
/-! ### All, Drop, New -/
abbrev eN : El := .one (.int .i64)
theorem underL_len (ws : List Int) : ∀ (l : Nat) (f : Int), (underL ws l f).length ≤ (match l with | 0 => 1 | 1 => 17 | 2 => 273 | _ => 4369) ∨ 3 < l
  | 0, f => .inl (by simp [underL])
  | l + 1, f => by
    by_cases hl : 3 < l + 1
    · exact .inr hl
    refine .inl ?_
    have step : ∀ (c : Nat) (is : List Nat), (∀ i, (subU ws (l + 1) f i).length ≤ c) → (is.flatMap (subU ws (l + 1) f)).length ≤ is.length * c := by
      intro c is h
      induction is with
      | nil => simp
      | cons i is ih =>
        rw [List.flatMap_cons, List.length_append, List.length_cons, Nat.add_mul]
        have := h i
        omega
    have sub : ∀ (c : Nat), (∀ g, (underL ws l g).length ≤ c) → ∀ i, (subU ws (l + 1) f i).length ≤ c := by
      intro c h i
      unfold subU
      dsimp only
      split
      · exact h _
      · exact Nat.zero_le _
    rw [underL_eq, List.length_cons]
    have ih := underL_len ws l
    rcases l with _ | _ | _ | l
    · have := step 1 (List.range 16) (sub 1 fun g => by rcases ih g with h | h; exact h; omega)
      simp only [List.length_range] at this ⊢; omega
    · have := step 17 (List.range 16) (sub 17 fun g => by rcases ih g with h | h; exact h; omega)
      simp only [List.length_range] at this ⊢; omega
    · have := step 273 (List.range 16) (sub 273 fun g => by rcases ih g with h | h; exact h; omega)
      simp only [List.length_range] at this ⊢; omega
    · omega
theorem underL_len3 (ws : List Int) (f : Int) : (underL ws 3 f).length ≤ 4369 := by
  rcases underL_len ws 3 f with h | h
  · exact h
  · omega
theorem underL_ne (ws : List Int) (l : Nat) (f : Int) : underL ws l f ≠ [] := by rw [underL_eq]; simp
theorem insD_len (x : Int) : ∀ l : List Int, (insD x l).length = l.length + 1
  | [] => rfl
  | y :: l => by
    rw [insD]
    split
    · rw [List.length_cons, insD_len x l]; rfl
    · rfl
theorem fold_len : ∀ (l a : List Int), (l.foldl (fun a x => insD x a) a).length = a.length + l.length
  | [], a => rfl
  | x :: l, a => by
    rw [List.foldl_cons, fold_len l, insD_len, List.length_cons]; omega
theorem sortI_len (l : List Int) : (sortI l).length = l.length := by unfold sortI; rw [List.length_reverse, fold_len]; simp
theorem set_at (p z : List Int) (a c : Int) : (p ++ a :: z).set p.length c = p ++ c :: z := by simp
section
variable {Q : Sys} {D G : List Nat} {w0 w : World} {s : WD} {L0 : List (Nat × List Value)} {bt : Nat} {o r : Int} {gone : Bool}
namespace SAt
theorem under (S : SAt Q D G w0 w s L0) (f lv : Int) {K : Option Addr × Option Addr × Option Addr × Unit → World → Prop} (k : ∀ b b1 b2 w2, SAt Q D G w0 w2 s ((b2, [.int .i64 lv]) :: (b1, [.int .i64 f]) :: (b, [.pointer (some ⟨bt, 0, none⟩)]) :: L0) → K (some ⟨b1, 0, none⟩, some ⟨b, 0, none⟩, some ⟨b2, 0, none⟩, ()) w2) :
    CaP Tryz.prog 50 underS [.pointer (some ⟨bt, 0, none⟩), .int .i64 f, .int .i64 lv] w K := by
  refine S.go fun w1 S => rxFn_ok (C := N0) (ann := fun _ => []) (Eq.mpr (tunder_vc _ f lv w1 K) ?_)
  exact S.al fun b w2 S => S.al fun b1 w3 S => S.al fun b2 w4 S => S.en fun w5 S => k b b1 b2 w5 S
theorem gathi (S : SAt Q D G w0 w s L0) (k0 : Nat) (ht : L0[k0]? = some (bt, tcs Q o r gone)) {c1 c2 c3 : Nat} {f : Int} (hf : 0 ≤ f ∧ f < 4096) (h1 : (c1, [Value.int .i64 f]) ∈ L0) (h2 : (c2, [Value.pointer (some ⟨bt, 0, none⟩)]) ∈ L0) (h3 : (c3, [Value.int .i64 3]) ∈ L0)
    {K : Option Addr × Nat × Nat → World → Prop} (k : ∀ bs cs rest w2, SAt Q D G w0 w2 s ((bs, flat eN (underL s.1 3 f) ++ rest) :: L0) → K (some ⟨bs, 0, none⟩, (underL s.1 3 f).length, cs) w2) :
    CaP Tryz.prog 49 (.el (.one .slice)) [.func (.func 80) #[] #[.pointer (some ⟨c1, 0, none⟩), .pointer (some ⟨c2, 0, none⟩), .pointer (some ⟨c3, 0, none⟩)]] w K := by
  refine S.go fun w1 S => rxFnR_ok (C := N0) (ann := tgathi_vc_ann) (Eq.mpr (tgathi_vc _ _ _ w1 K) ?_)
  obtain ⟨g1, g2, g3, g4, ca, la, H0⟩ := S
  have H := H0.again
  refine AlP.go H fun bl w2 H => ?_
  have hlen := underL_len3 s.1 f
  refine RnP.gath (N := 4369) (bm := Q.bm) (mc := Mc Q s.1.length) (Rg0 := [(bl, [.slice none 0 0])]) (Lb := (Q.bw, flat eW s.1 ++ Q.rw) :: (Q.bf, flat eD s.2 ++ Q.rf) :: (Q.bp, [.slice (some ⟨Q.bf, 0, none⟩) s.2.length Q.cp]) :: L0) H ⟨_, _, rfl⟩
    (under_it (o := o) (r := r) (gone := gone) (bt := bt) g4 g1 3 (Nat.le_refl _) f hf c1 c2 c3) ?_ (by simpa using hlen) (fun xs Rg => GrS eN bl (xs.map (·.1)) Rg) (.inl ⟨rfl, rfl⟩) ?_ ?_
  · intro x hx
    simp only [ucs, List.mem_cons, List.not_mem_nil, or_false] at hx
    rcases hx with rfl | rfl | rfl | rfl | rfl
    · simp [List.mem_of_getElem? ht]
    · simp
    · simp [h1]
    · simp [h2]
    · exact List.mem_cons_of_mem _ (List.mem_cons_of_mem _ (List.mem_cons_of_mem _ h3))
  · intro b0 x Rg Z rr l rec w3 R hN hg hr hR
    obtain ⟨sl, hsl⟩ := hg.head
    refine RoP.go hr rfl (BeP.goO hr fun wb H hB ho2 => LdP.at 0 H (by rw [List.getElem?_append_left (List.getElem?_eq_some_iff.1 hsl).1]; exact hsl) rfl (AlP.go H fun b2 w6 H => fun w7 h7 => ?_))
    have H := H.ext h7
    exact hg.push hsl (x := x.1) H rfl rfl rfl (by simp only [List.length_map]; omega) fun Rg' w8 hg' H3 => FiP.nextO hB H3 fun w9 hr9 ho9 => hR Rg' w9 (by simpa using hg') hr9 (ho2.trans ho9)
  · rintro rr rec w4 l' Rg ⟨ca2, la2, rfl⟩ hg hr
    refine rxAfter.none hr fun w5 H => ?_
    have hmm : ((underL s.1 3 f).map plI).map (·.1) = underL s.1 3 f := by
      rw [List.map_map]; exact List.map_id _
    rw [hmm] at hg
    rcases hg with ⟨h, _⟩ | ⟨bs, cs, rest, rfl, q1, q2⟩
    · exact absurd h (underL_ne _ _ _)
    · refine LdP.at 0 H rfl rfl (ClP.go H fun w6 H => k bs cs rest w6 ⟨g1, g2, g3, g4, ca2, la2, H0.join (fun x hx => hx) ?_⟩)
      refine (H.sub (List.sublist_cons_self _ _)).perm ?_
      exact List.perm_middle (l₁ := [_, _, _, _])
theorem rdRow (S : SAt Q D G w0 w s L0) {j bs : Nat} {xs : List Int} {rest : List Value} (hL : L0[j]? = some (bs, flat eN xs ++ rest)) {i : Nat} {x : Int} (hx : xs[i]? = some x) : rdAt w (addP (some ⟨bs, 0, none⟩) (i * 1)) eN x := rd_flat (e := eN) (S.get hL) hx
theorem stRow (S : SAt Q D G w0 w s L0) (j : Nat) {bs : Nat} {xs : List Int} {rest : List Value} (hL : L0[j]? = some (bs, flat eN xs ++ rest)) {i : Nat} (hi : i < xs.length) (v : Int) {K : World → Prop} (k : ∀ w1, SAt Q D G w0 w1 s (L0.set j (bs, flat eN (xs.set i v) ++ rest)) → K w1) : StP w (addP (some ⟨bs, 0, none⟩) (i * 1)) [.int .i64 v] K := by
  obtain ⟨h1, h2, h3, h4, ca, la, H⟩ := S
  exact StP.flat (e := eN) (j + 4) H v hL rfl rfl hi fun w1 H => k w1 ⟨h1, h2, h3, h4, ca, la, H⟩
theorem all (S : SAt Q D G w0 w s L0) (k0 : Nat) (ht : L0[k0]? = some (bt, tcs Q o r gone)) (hr : 0 ≤ r ∧ r < 4096) {K : Option Addr × Nat × Nat → World → Prop} (k : ∀ x rows w2, SAt Q D G w0 w2 s (L0 ++ rows) → RowIn eN rows x (allS2 s r gone) → K x w2) :
    CaP Tryz.prog 15 (.el (.one .slice)) [.pointer (some ⟨bt, 0, none⟩)] w K := by
  refine S.go fun w1 S => rxFn_ok (C := N0) (ann := tall_vc_ann) (Eq.mpr (tall_vc _ w1 K) ?_)
  refine ⟨_, S.state k0 ht, ?_⟩
  cases gone with
  | true => exact brP_pos rfl (S.en fun w2 S => k (none, 0, 0) [] w2 (by rw [List.append_nil]; exact S) ⟨rfl, .inl ⟨rfl, rfl⟩⟩)
  | false =>
    refine brP_neg rfl ⟨rfl, rfl, S.ldA k0 ht rfl (S.under r 3 fun c2 c1 c3 w2 S => S.gathi (k0 + 3) ht hr (by simp) (by simp) (by simp) fun bs cs rest w3 S => ?_)⟩
    have S := S.perm (L1 := (bs, flat eN (underL s.1 3 r) ++ rest) :: (L0 ++ [(c3, [.int .i64 3]), (c1, [.int .i64 r]), (c2, [.pointer (some ⟨bt, 0, none⟩)])])) (List.Perm.cons _ (by exact List.perm_append_comm (l₂ := [_, _, _])))
    have S := S.sub (List.Sublist.cons_cons _ (List.sublist_append_left _ _))
    have hlen := underL_len3 s.1 r
    have ha : allS2 s r false = sortI (underL s.1 3 r) := if_neg (by decide)
    rw [ha] at k
    have hne := underL_ne s.1 3 r
    generalize underL s.1 3 r = l at *
    refine ⟨fun n v w' => ∃ m : Nat, v.1 = (m : Int) ∧ n + m = l.length ∧ SAt Q D G w0 w' s ((bs, flat eN (((l.take m).foldl (fun a x => insD x a) []).reverse ++ l.drop m) ++ rest) :: L0), ⟨l.length, fun w4 h4 => ⟨0, rfl, rfl, by simpa using S.ext h4⟩⟩, ?_⟩
    rintro n ⟨v, u⟩ w4 ⟨m, e1, hnm, S⟩
    dsimp only at e1 ⊢
    subst e1
    refine brP_intro (fun cc => ?_) (fun cc => ?_)
    · have hm : m < l.length := by simpa using cc
      obtain ⟨R, hR⟩ : ∃ R, R = (l.take m).foldl (fun a x => insD x a) [] := ⟨_, rfl⟩
      have hRl : R.length = m := by rw [hR, fold_len, List.length_take]; simp; omega
      have hx := List.getElem?_eq_getElem hm
      obtain ⟨x, hxe⟩ : ∃ x, x = l[m] := ⟨_, rfl⟩
      rw [← hxe] at hx
      have hd : l.drop m = x :: l.drop (m + 1) := by rw [List.drop_eq_getElem_cons hm, hxe]
      have hnext : (l.take (m + 1)).foldl (fun a x => insD x a) [] = insD x R := by
        rw [List.take_add_one, hx, Option.toList_some, List.foldl_append, ← hR]; rfl
      obtain ⟨Z, hZ⟩ : ∃ Z, Z = l.drop (m + 1) := ⟨_, rfl⟩
      rw [← hR, hd, ← hZ] at S
      refine ⟨fun n1 v w' => ∃ A B : List Int, v.1 = (A.length : Int) ∧ n1 = A.length ∧ A.length + B.length = m ∧ B ++ insD x A = insD x R ∧ SAt Q D G w0 w' s ((bs, flat eN (A.reverse ++ x :: (B.reverse ++ Z)) ++ rest) :: L0), ⟨m, fun w5 h5 => ⟨R, [], by rw [hRl], hRl.symm, by simp [hRl], rfl, by simpa using S.ext h5⟩⟩, ?_⟩
      rintro n1 ⟨v, u2⟩ w5 ⟨A, B, e1, rfl, hAB, hins, S⟩
      dsimp only at e1 ⊢
      subst e1
      have hrow : ∀ (C : List Int), C = insD x R → ∀ {w' : World}, SAt Q D G w0 w' s ((bs, flat eN (C.reverse ++ Z) ++ rest) :: L0) → ∀ w3, Ext w' w3 → ∃ n', n' < n ∧ ∃ m' : Nat, addI .i64 (m : Int) 1 = (m' : Int) ∧ n' + m' = l.length ∧ SAt Q D G w0 w3 s ((bs, flat eN (((l.take m').foldl (fun a x => insD x a) []).reverse ++ l.drop m') ++ rest) :: L0) := by
        intro C hC w' S w3 h3
        refine ⟨n - 1, by omega, m + 1, by rw [addI_i64 (by omega) (by omega)]; omega, by omega, ?_⟩
        rw [hnext, ← hC, ← hZ]
        exact S.ext h3
      cases A with
      | nil =>
        refine ⟨fun h => by simp at h, 0, fun h => by simp at h, fun h => by simp at h, 0, fun h => by simp at h, brP_neg rfl (hrow (B ++ insD x []) hins (w' := w5) ?_)⟩
        have e : (B ++ insD x []).reverse ++ Z = [].reverse ++ x :: (B.reverse ++ Z) := by simp [insD]
        rw [e]; exact S
      | cons y A =>
        have e : (y :: A).reverse ++ x :: (B.reverse ++ Z) = A.reverse ++ y :: x :: (B.reverse ++ Z) := by simp
        rw [e] at S
        simp only [List.length_cons] at hAB
        have es : subI .i64 (((y :: A).length : Nat) : Int) 1 = (A.length : Int) := by rw [List.length_cons, subI_i64 (by omega) (by omega)]; omega
        rw [es]
        have hy : (A.reverse ++ y :: x :: (B.reverse ++ Z))[A.length]? = some y := by rw [List.getElem?_append_right (by simp)]; simp
        have hxx : (A.reverse ++ y :: x :: (B.reverse ++ Z))[A.length + 1]? = some x := by rw [List.getElem?_append_right (by simp)]; simp
        have hl1 : A.length < (A.reverse ++ y :: x :: (B.reverse ++ Z)).length := (List.getElem?_eq_some_iff.1 hy).1
        have s1 : (A.reverse ++ y :: x :: (B.reverse ++ Z)).set A.length x = A.reverse ++ x :: x :: (B.reverse ++ Z) := by
          have := set_at A.reverse (x :: (B.reverse ++ Z)) y x
          rwa [List.length_reverse] at this
        have s2 : (A.reverse ++ x :: x :: (B.reverse ++ Z)).set (A.length + 1) y = A.reverse ++ x :: y :: (B.reverse ++ Z) := by
          simp
        have hl2 : A.length + 1 < (A.reverse ++ x :: x :: (B.reverse ++ Z)).length := by simp
        have t1 : ((A.length : Nat) : Int).toNat = A.length := rfl
        have t2 : (((y :: A).length : Nat) : Int).toNat = A.length + 1 := rfl
        rw [t1, t2]
        have g1 : (some (⟨bs, 0, none⟩ : Addr)).isSome = true ∧ 0 ≤ (A.length : Int) ∧ (A.length : Int) < (l.length : Int) := ⟨rfl, by omega, by omega⟩
        have g2 : (some (⟨bs, 0, none⟩ : Addr)).isSome = true ∧ 0 ≤ (((y :: A).length : Nat) : Int) ∧ (((y :: A).length : Nat) : Int) < (l.length : Int) := ⟨rfl, by omega, by rw [List.length_cons]; omega⟩
        refine ⟨fun _ => g1, LdP.of y (S.rdRow (j := 0) rfl hy) ⟨fun _ => g2, LdP.of x (S.rdRow (j := 0) rfl hxx) (brP_intro (fun c => ⟨g2, LdP.of x (S.rdRow (j := 0) rfl hxx) ⟨g1, LdP.of y (S.rdRow (j := 0) rfl hy) ⟨g1, S.stRow 0 rfl hl1 x fun w6 S => ⟨g2, ?_⟩⟩⟩⟩) (fun c => hrow (B ++ insD x (y :: A)) hins (w' := w5) ?_))⟩⟩
        · rw [s1] at S
          refine S.stRow 0 rfl hl2 y fun w7 S => fun w8 h8 => ⟨A.length, Nat.lt_succ_self _, A, B ++ [y], rfl, rfl, by simp; omega, ?_, ?_⟩
          · have c2 : y > x := by simpa using c
            rw [← hins, insD, if_pos c2, List.append_assoc]; rfl
          · rw [s2] at S
            have e2 : A.reverse ++ x :: ((B ++ [y]).reverse ++ Z) = A.reverse ++ x :: y :: (B.reverse ++ Z) := by simp
            rw [e2]; exact S.ext h8
        · have c2 : ¬ y > x := by simpa using c
          have e2 : (B ++ insD x (y :: A)).reverse ++ Z = A.reverse ++ y :: x :: (B.reverse ++ Z) := by rw [insD, if_neg c2]; simp
          rw [e2]; exact S
    · have hm : ¬ m < l.length := by simpa using cc
      have e1 : l.take m = l := List.take_of_length_le (by omega)
      have e2 : l.drop m = [] := List.drop_of_length_le (by omega)
      rw [e1, e2, List.append_nil] at S
      refine S.en fun w5 S => k (some ⟨bs, 0, none⟩, l.length, cs) [(bs, flat eN (sortI l) ++ rest)] w5 (S.perm (List.perm_append_singleton _ _)) ⟨(sortI_len l).symm, .inr ⟨bs, rest, rfl, rfl⟩⟩
theorem drop (S : SAt Q D G w0 w s L0) (k0 : Nat) (ht : L0[k0]? = some (bt, tcs Q o r gone)) (hr : 0 ≤ r ∧ r < 4096) {K : Option Addr × Nat × Nat → World → Prop} (k : ∀ x rows w2, SAt Q D G w0 w2 (dropS s r gone) (L0.set k0 (bt, tcs Q o r true) ++ rows) → RowIn eN rows x (allS2 s r gone) → K x w2) :
    CaP Tryz.prog 27 (.el (.one .slice)) [.pointer (some ⟨bt, 0, none⟩)] w K := by
  refine S.go fun w1 S => rxFn_ok (C := N0) (ann := tdrop_vc_ann) (Eq.mpr (tdrop_vc _ w1 K) ?_)
  refine ⟨_, S.state k0 ht, ?_⟩
  have hk0 : k0 < L0.length := (List.getElem?_eq_some_iff.1 ht).1
  cases gone with
  | true =>
    have e : L0.set k0 (bt, tcs Q o r true) = L0 := List.ext_getElem? fun q => by
      by_cases e : k0 = q
      · subst e; rw [List.getElem?_set_self hk0, ht]
      · rw [List.getElem?_set_ne e]
    exact brP_pos rfl (S.en fun w2 S => k (none, 0, 0) [] w2 (by rw [List.append_nil, e]; exact S) ⟨rfl, .inl ⟨rfl, rfl⟩⟩)
  | false =>
    refine brP_neg rfl (S.all k0 ht hr fun x rows w2 S hrow => ?_)
    have hS : dropS s r false = (s.1, (allS2 s r false).foldl (fun ds f => chL ds f (turnG 5 0)) s.2) := if_neg (by decide)
    rw [hS] at k
    have hlen : (allS2 s r false).length ≤ 4369 := by
      rw [show allS2 s r false = sortI (underL s.1 3 r) from if_neg (by decide), sortI_len]
      exact underL_len3 _ _
    generalize allS2 s r false = l at *
    obtain ⟨xp, xn, xc⟩ := x
    have hxl : xn = l.length := hrow.1
    subst hxl
    obtain ⟨ds0, hds0⟩ : ∃ ds0, ds0 = l.foldl (fun ds f => chL ds f (turnG 5 0)) s.2 := ⟨_, rfl⟩
    rw [← hds0] at k
    have ht' : (L0 ++ rows)[k0]? = some (bt, tcs Q o r false) := by rw [List.getElem?_append_left hk0]; exact ht
    refine ⟨fun n v w' => ∃ (m : Nat) (ds : List DT), v.1 = (m : Int) ∧ n + m = l.length ∧ (l.drop m).foldl (fun ds f => chL ds f (turnG 5 0)) ds = ds0 ∧ SAt Q D G w0 w' (s.1, ds) (L0 ++ rows), ⟨l.length, fun w3 h3 => ⟨0, s.2, rfl, rfl, hds0.symm, S.ext h3⟩⟩, ?_⟩
    rintro n ⟨v, u⟩ w3 ⟨m, ds, e1, hnm, hd, S⟩
    dsimp only at e1 ⊢
    subst e1
    refine brP_intro (fun cc => ?_) (fun cc => ?_)
    · have hm : m < l.length := by simpa using cc
      have hf := List.getElem?_eq_getElem hm
      obtain ⟨f, hfe⟩ : ∃ f, f = l[m] := ⟨_, rfl⟩
      rw [← hfe] at hf
      rw [List.drop_eq_getElem_cons hm, ← hfe, List.foldl_cons] at hd
      obtain ⟨g1, g2, g3, g4, ca, la, H⟩ := S
      have hsl := hrow.sl H (fun x hx => by
        show x ∈ _ :: _ :: _ :: _ :: (L0 ++ rows)
        simp [hx]) m f hf
      have S : SAt Q D G w0 w3 (s.1, ds) (L0 ++ rows) := ⟨g1, g2, g3, g4, ca, la, H⟩
      refine ⟨⟨hsl.1, by omega, by omega⟩, LdP.of f hsl.2 ⟨rfl, rfl, S.ldA k0 ht' rfl (S.turn f 5 0 fun w4 S => fun w5 h5 => ⟨n - 1, by omega, m + 1, _, ?_, by omega, hd, S.ext h5⟩)⟩⟩
      rw [addI_i64 (by omega) (by omega)]; omega
    · have hm : ¬ m < l.length := by simpa using cc
      rw [List.drop_of_length_le (by omega)] at hd
      have hd : ds = ds0 := hd
      subst hd
      refine ⟨rfl, rfl, S.stOneA k0 ht' rfl rfl fun w4 S => S.en fun w5 S => k (xp, l.length, xc) rows w5 ?_ hrow⟩
      rw [List.set_append_left _ _ hk0] at S
      exact S
/-- Tables are made. -/
theorem new (S : SAt Q D G w0 w s L0) (o : Int) {K : Option Addr × Int × Unit → World → Prop}
    (k1 : (s.1.length : Int) < 16 * (s.2.length : Int) → ∀ w2, SAt Q D G w0 w2 s L0 → K (none, 1, ()) w2)
    (k2 : ¬ (s.1.length : Int) < 16 * (s.2.length : Int) → ¬ tkE s o = 0 → ∀ w2, SAt Q D G w0 w2 (tkS s o fun _ => 0) L0 → K (none, tkE s o, ()) w2)
    (k3 : ¬ (s.1.length : Int) < 16 * (s.2.length : Int) → tkE s o = 0 → ∀ b w2, SAt Q D G w0 w2 (tkS s o fun _ => 0) ((b, tcs Q o (tkF s o) false) :: L0) → K (some ⟨b, 0, none⟩, 0, ()) w2) :
    CaP Tryz.prog 38 (.tup [.one .ptr, .one (.int .i64)]) [.pointer (some ⟨Q.bm, 0, none⟩), .pointer (some ⟨Q.bp, 0, none⟩), .int .i64 o] w K := by
  refine S.go fun w1 S => rxFn_ok (C := N0) (ann := fun _ => []) (Eq.mpr (tnew_vc _ _ o w1 K) ?_)
  have h1 := S.pos
  have h2 := S.fpos
  have h3 := S.le
  have c1 : (((s.1.length : Nat) : Int) == 0) = false := by rw [beq_eq_false_iff_ne]; omega
  have c2 : (((s.2.length : Nat) : Int) == 0) = false := by rw [beq_eq_false_iff_ne]; omega
  have em : mulI .i64 16 ((s.2.length : Nat) : Int) = 16 * (s.2.length : Int) := mulI_i64 (by omega) (by omega)
  refine ⟨_, S.mlen, _, fun _ => S.plen, _, fun _ => S.mlen, _, fun _ => S.plen, ?_⟩
  rw [c1, c2, em]
  refine brP_intro (fun c => S.en fun w2 S => k1 (by simpa using c) w2 S) (fun c => S.al fun b w2 S => S.take0 (r := 0) (gone := false) 0 rfl fun w3 S => brP_intro (fun d => S.en fun w4 S => ?_) (fun d => ⟨rfl, rfl, S.stOneA 0 rfl rfl rfl fun w4 S => S.en fun w5 S => k3 (by simpa using c) (by simpa using d) b w5 S⟩))
  exact k2 (by simpa using c) (by simpa using d) w4 S.tail
end SAt
end
end Go.Proofs.YtkldededdgpmbaaGreat
