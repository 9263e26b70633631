import Derived.Test.YtkldededdgpmbaaGreatMD
import Derived.Test.YtkldededdgpmbaaGreatME
namespace Go.Proofs.YtkldededdgpmbaaGreat
set_option linter.unusedSimpArgs false
set_option linter.unusedVariables false
set_option maxRecDepth 100000
open Go.RX
noncomputable def N2 : Cfg Tryz.prog := { N0 with quiet := [102, 75, 18] }
def yzero_vc_ann : Nat → Slots := (fun | 1 => [(4, Go.RX.El.one (Go.RX.Sc.int Go.IntKind.i64))] | _ => [])
theorem yzero_vc (p : Option Addr) (f : Int) (w : World) (Post : Unit → World → Prop) : (rxFn N2 yzero_vc_ann 69 [.pointer p, .int .i64 f] w Post) = (
 ∃ (I : Nat → Int × Unit → World → Prop),
  (∃ (n : Nat), ∀ (w1 : World), Ext w w1 → I n (0, Unit.unit) w1) ∧
   ∀ (n : Nat) (s : Int × Unit) (w1 : World),
    I n s w1 →
     brP (decide (s.fst < 16))
      (p.isSome = true ∧
       p.isSome = true ∧
        LdP w1 none (addP p 0) (El.one Sc.ptr) fun (x : Option Addr) =>
         CaP Tryz.prog 73 (Sh.el (El.one (Sc.int IntKind.i64))) [Value.pointer x, Value.int IntKind.i64 (addI IntKind.i64 (mulI IntKind.i64 16 f) s.fst), Value.int IntKind.u64 0] w1 fun (x : Int) (w2 : World) =>
          ∀ (w3 : World), Ext w2 w3 → ∃ (n' : Nat), n' < n ∧ I n' (addI IntKind.i64 s.fst 1, Unit.unit) w3)
      (EnP w1 fun (w1 : World) => Post Unit.unit w1)) := by kernel_rfl
theorem ynew_vc (m p : Option Addr) (o : Int) (w : World) (Post : Option Addr × Int × Unit → World → Prop) : (rxFn N2 (fun _ => []) 39 [.pointer m, .pointer p, .int .i64 o] w Post) = (
 AlP w { toList := [Value.pointer m, Value.pointer p, Value.int IntKind.i64 o, Value.int IntKind.i64 0, Value.bool false] } 98 fun (b : Nat) (w2 : World) =>
  m.isSome = true ∧
   m.isSome = true ∧
    LdP w2 none (addP m 0) (El.one Sc.slice) fun (x : Option Addr × Nat × Nat) =>
     p.isSome = true ∧
      p.isSome = true ∧
       LdP w2 none (addP p 0) (El.one Sc.slice) fun (x_1 : Option Addr × Nat × Nat) =>
        brP (decide ((↑x.snd.fst : Int) < mulI IntKind.i64 16 (↑x_1.snd.fst : Int))) (EnP w2 fun (w1 : World) => Post (some { block := b, off := 0 }, 1, Unit.unit) w1)
         (CaP Tryz.prog 68 (Sh.tup [El.one (Sc.int IntKind.i64), El.one (Sc.int IntKind.i64)]) [Value.pointer p, Value.int IntKind.i64 3, Value.int IntKind.i64 o] w2 fun (x : Int × Int × Unit) (w2 : World) =>
          brP (x.snd.fst != 0) (EnP w2 fun (w1 : World) => Post (some { block := b, off := 0 }, x.snd.fst, Unit.unit) w1)
           (true = true ∧
            true = true ∧
             StP w2 (addP (some { block := b, off := 0 }) 3) [Value.int IntKind.i64 x.fst] fun (w2 : World) =>
              CaP Tryz.prog 69 (Sh.tup []) [Value.pointer (some { block := b, off := 0 }), Value.int IntKind.i64 x.fst] w2 fun (x : Unit) (w2 : World) => EnP w2 fun (w1 : World) => Post (some { block := b, off := 0 }, 0, Unit.unit) w1))) := by kernel_rfl
theorem yentry_vc (p : Option Addr) (f pg lv : Int) (w : World) (Post : (Bool × Int × Bool × Int × Unit) → World → Prop) : (rxFnR N2 (fun _ => []) 79 [.pointer p, .int .i64 f, .int .i64 pg, .int .i64 lv] w Post) = (
 AlP w { toList := [Value.bool false, Value.int IntKind.i64 0, Value.bool false, Value.int IntKind.i64 0] } 99 fun (b : Nat) (w2 : World) =>
  p.isSome = true ∧
   p.isSome = true ∧
    LdP w2 none (addP p 0) (El.one Sc.ptr) fun (x : Option Addr) =>
     x.isSome = true ∧
      x.isSome = true ∧
       LdP w2 none (addP x 0) (El.one Sc.slice) fun (x : Option Addr × Nat × Nat) =>
        True ∧
         (x.fst.isSome = true ∧ 0 ≤ atI f pg lv ∧ atI f pg lv < (↑x.snd.fst : Int)) ∧
          LdP w2 none (addP x.fst ((atI f pg lv).toNat * 1)) (El.one (Sc.int IntKind.u64)) fun (x : Int) =>
           U (B x) = x ∧
            AlP w2 { toList := [Value.bool false, Value.int IntKind.i64 0, Value.bool false, Value.int IntKind.i64 0] } 99 fun (b_1 : Nat) (w2 : World) =>
             StP w2 (some { block := b_1, off := 0 }) [Value.bool (prP (B x).toNat), Value.int IntKind.i64 (prR (B x).toNat), Value.bool (prL (B x).toNat), Value.int IntKind.i64 (prF (B x).toNat)] fun (w2 : World) =>
              LdP w2 none (some { block := b_1, off := 0 }) (El.agg [Sc.bool, Sc.int IntKind.i64, Sc.bool, Sc.int IntKind.i64]) fun (x : Bool × Int × Bool × Int × Unit) =>
               StP w2 (some { block := b, off := 0 }) [Value.bool x.fst, Value.int IntKind.i64 x.snd.fst, Value.bool x.snd.snd.fst, Value.int IntKind.i64 x.snd.snd.snd.fst] fun (w2 : World) =>
                EnP w2 fun (w1 : World) =>
                 LdP w1 none (some { block := b, off := 0 }) (El.agg [Sc.bool, Sc.int IntKind.i64, Sc.bool, Sc.int IntKind.i64]) fun (x : Bool × Int × Bool × Int × Unit) => Post (x.fst, x.snd.fst, x.snd.snd.fst, x.snd.snd.snd.fst, Unit.unit) w1) := by kernel_rfl
theorem ylay_vc (p : Option Addr) (i : Int) (ep : Bool) (er : Int) (el : Bool) (ef : Int) (w : World) (Post : Unit → World → Prop) : (rxFn N2 (fun _ => []) 77 [.pointer p, .int .i64 i, .agg ⟨[.bool ep, .int .i64 er, .bool el, .int .i64 ef]⟩] w Post) = (
 AlP w { toList := [Value.bool ep, Value.int IntKind.i64 er, Value.bool el, Value.int IntKind.i64 ef] } 99 fun (b : Nat) (w2 : World) =>
  LdP w2 none (some { block := b, off := 0 }) (El.agg [Sc.bool, Sc.int IntKind.i64, Sc.bool, Sc.int IntKind.i64]) fun (x : Bool × Int × Bool × Int × Unit) =>
   True ∧
    p.isSome = true ∧
     p.isSome = true ∧
      LdP w2 none (addP p 0) (El.one Sc.ptr) fun (x_1 : Option Addr) =>
       CaP Tryz.prog 73 (Sh.el (El.one (Sc.int IntKind.i64))) [Value.pointer x_1, Value.int IntKind.i64 i, Value.int IntKind.u64 (pkW x.fst x.snd.fst x.snd.snd.fst x.snd.snd.snd.fst)] w2 fun (x : Int) (w2 : World) =>
        EnP w2 fun (w1 : World) => Post Unit.unit w1) := by kernel_rfl
def yway_vc_ann : Nat → Slots := (fun | 3 => [(5, Go.RX.El.one Go.RX.Sc.slice), (6, Go.RX.El.one (Go.RX.Sc.int Go.IntKind.i64))] | _ => [])
theorem yway_vc (p : Option Addr) (pg : Int) (w : World) (Post : Option Addr × Nat × Nat → World → Prop) : (rxFn N2 yway_vc_ann 72 [.pointer p, .int .i64 pg] w Post) = (
 p.isSome = true ∧
  p.isSome = true ∧
   LdP w none (addP p 3) (El.one (Sc.int IntKind.i64)) fun (x : Int) =>
    AlP w { toList := [Value.int IntKind.i64 x] } 3 fun (b : Nat) (w2 : World) =>
     ∃ (I : Nat → (Option Addr × Nat × Nat) × Int × Unit → World → Prop),
      (∃ (n : Nat), ∀ (w1 : World), Ext w2 w1 → I n ((some { block := b, off := 0 }, 1, 1), 3, Unit.unit) w1) ∧
       ∀ (n : Nat) (s : (Option Addr × Nat × Nat) × Int × Unit) (w1 : World),
        I n s w1 →
         brP (decide (s.snd.fst > 0))
          ((s.fst.fst.isSome = true ∧ 0 ≤ subI IntKind.i64 (↑s.fst.snd.fst : Int) 1 ∧ subI IntKind.i64 (↑s.fst.snd.fst : Int) 1 < (↑s.fst.snd.fst : Int)) ∧
           LdP w1 none (addP s.fst.fst ((subI IntKind.i64 (↑s.fst.snd.fst : Int) 1).toNat * 1)) (El.one (Sc.int IntKind.i64)) fun (x : Int) =>
            CaP Tryz.prog 79 (Sh.el (El.agg [Sc.bool, Sc.int IntKind.i64, Sc.bool, Sc.int IntKind.i64])) [Value.pointer p, Value.int IntKind.i64 x, Value.int IntKind.i64 pg, Value.int IntKind.i64 s.snd.fst] w1
             fun (x : Bool × Int × Bool × Int × Unit) (w2 : World) =>
             AlP w2 { toList := [Value.bool false, Value.int IntKind.i64 0, Value.bool false, Value.int IntKind.i64 0] } 99 fun (b : Nat) (w2 : World) =>
              StP w2 (some { block := b, off := 0 }) [Value.bool x.fst, Value.int IntKind.i64 x.snd.fst, Value.bool x.snd.snd.fst, Value.int IntKind.i64 x.snd.snd.snd.fst] fun (w2 : World) =>
               LdP w2 none (some { block := b, off := 0 }) (El.agg [Sc.bool, Sc.int IntKind.i64, Sc.bool, Sc.int IntKind.i64]) fun (x : Bool × Int × Bool × Int × Unit) =>
                True ∧
                 brP (!tableE x.fst x.snd.fst x.snd.snd.fst x.snd.snd.snd.fst) (EnP w2 fun (w1 : World) => Post (s.fst.fst, s.fst.snd.fst, s.fst.snd.snd) w1)
                  (true = true ∧
                   LdP w2 none (addP (some { block := b, off := 0 }) 3) (El.one (Sc.int IntKind.i64)) fun (x : Int) =>
                    AlP w2 { toList := [Value.int IntKind.i64 x] } 3 fun (b : Nat) (w2 : World) =>
                     ∀ (w1 : World),
                      Ext w2 w1 →
                       apR w1 3 1 8 { toList := [Value.int IntKind.i64 0] } (s.fst.fst, s.fst.snd.fst, s.fst.snd.snd) (some { block := b, off := 0 }, 1, 1) fun (r : Option Addr × Nat × Nat) (w2 : World) =>
                        ∀ (w3 : World), Ext w2 w3 → ∃ (n' : Nat), n' < n ∧ I n' ((r.fst, r.snd.fst, r.snd.snd), subI IntKind.i64 s.snd.fst 1, Unit.unit) w3))
          (EnP w1 fun (w1 : World) => Post (s.fst.fst, s.fst.snd.fst, s.fst.snd.snd) w1)) := by kernel_rfl
theorem ylast_vc (p : Option Addr) (pg : Int) (w : World) (Post : (Bool × Int × Bool × Int × Unit) × Int × Unit → World → Prop) : (rxFnR N2 (fun _ => []) 48 [.pointer p, .int .i64 pg] w Post) = (
 AlP w { toList := [Value.bool false, Value.int IntKind.i64 0, Value.bool false, Value.int IntKind.i64 0] } 99 fun (b : Nat) (w2 : World) =>
  CaP Tryz.prog 72 (Sh.el (El.one Sc.slice)) [Value.pointer p, Value.int IntKind.i64 pg] w2 fun (x : Option Addr × Nat × Nat) (w2 : World) =>
   (x.fst.isSome = true ∧ 0 ≤ subI IntKind.i64 (↑x.snd.fst : Int) 1 ∧ subI IntKind.i64 (↑x.snd.fst : Int) 1 < (↑x.snd.fst : Int)) ∧
    LdP w2 none (addP x.fst ((subI IntKind.i64 (↑x.snd.fst : Int) 1).toNat * 1)) (El.one (Sc.int IntKind.i64)) fun (x_1 : Int) =>
     CaP Tryz.prog 79 (Sh.el (El.agg [Sc.bool, Sc.int IntKind.i64, Sc.bool, Sc.int IntKind.i64])) [Value.pointer p, Value.int IntKind.i64 x_1, Value.int IntKind.i64 pg, Value.int IntKind.i64 (subI IntKind.i64 4 (↑x.snd.fst : Int))] w2
      fun (x_2 : Bool × Int × Bool × Int × Unit) (w2 : World) =>
      StP w2 (some { block := b, off := 0 }) [Value.bool x_2.fst, Value.int IntKind.i64 x_2.snd.fst, Value.bool x_2.snd.snd.fst, Value.int IntKind.i64 x_2.snd.snd.snd.fst] fun (w2 : World) =>
       EnP w2 fun (w1 : World) =>
        LdP w1 none (some { block := b, off := 0 }) (El.agg [Sc.bool, Sc.int IntKind.i64, Sc.bool, Sc.int IntKind.i64]) fun (x_3 : Bool × Int × Bool × Int × Unit) =>
         Post ((x_3.fst, x_3.snd.fst, x_3.snd.snd.fst, x_3.snd.snd.snd.fst, Unit.unit), subI IntKind.i64 4 (↑x.snd.fst : Int), Unit.unit) w1) := by kernel_rfl
theorem yquery_vc (p : Option Addr) (pg : Int) (w : World) (Post : Int × Int × Int × Unit → World → Prop) : (rxFn N2 (fun _ => []) 13 [.pointer p, .int .i64 pg] w Post) = (
 p.isSome = true ∧
  p.isSome = true ∧
   LdP w none (addP p 4) (El.one Sc.bool) fun (x : Bool) =>
    brP x (EnP w fun (w1 : World) => Post (0, 0, 6, Unit.unit) w1)
     (brP (decide (pg < 0) || decide (pg > 65535)) (EnP w fun (w1 : World) => Post (0, 0, 2, Unit.unit) w1)
      (CaP Tryz.prog 48 (Sh.tup [El.agg [Sc.bool, Sc.int IntKind.i64, Sc.bool, Sc.int IntKind.i64], El.one (Sc.int IntKind.i64)]) [Value.pointer p, Value.int IntKind.i64 pg] w fun (x : (Bool × Int × Bool × Int × Unit) × Int × Unit) (w2 : World) =>
       AlP w2 { toList := [Value.bool false, Value.int IntKind.i64 0, Value.bool false, Value.int IntKind.i64 0] } 99 fun (b : Nat) (w2 : World) =>
        StP w2 (some { block := b, off := 0 }) [Value.bool x.fst.fst, Value.int IntKind.i64 x.fst.snd.fst, Value.bool x.fst.snd.snd.fst, Value.int IntKind.i64 x.fst.snd.snd.snd.fst] fun (w2 : World) =>
         true = true ∧
          LdP w2 none (addP (some { block := b, off := 0 }) 0) (El.one Sc.bool) fun (x_1 : Bool) =>
           brP (!x_1) (EnP w2 fun (w1 : World) => Post (0, 0, 4, Unit.unit) w1)
            (brP (x.snd.fst == 1)
             (true = true ∧
              LdP w2 none (addP (some { block := b, off := 0 }) 3) (El.one (Sc.int IntKind.i64)) fun (x : Int) =>
               true = true ∧ LdP w2 none (addP (some { block := b, off := 0 }) 1) (El.one (Sc.int IntKind.i64)) fun (x_2 : Int) => EnP w2 fun (w1 : World) => Post (addI IntKind.i64 x (remI pg 16), x_2, 0, Unit.unit) w1)
             (true = true ∧
              LdP w2 none (addP (some { block := b, off := 0 }) 3) (El.one (Sc.int IntKind.i64)) fun (x : Int) =>
               true = true ∧ LdP w2 none (addP (some { block := b, off := 0 }) 1) (El.one (Sc.int IntKind.i64)) fun (x_2 : Int) => EnP w2 fun (w1 : World) => Post (x, x_2, 0, Unit.unit) w1))))) := by kernel_rfl
def yput_vc_ann : Nat → Slots := (fun | 14 => [(10, Go.RX.El.one (Go.RX.Sc.int Go.IntKind.i64))] | _ => [])
theorem yput_vc (p : Option Addr) (pg lv : Int) (ep : Bool) (er : Int) (el : Bool) (ef : Int) (w : World) (Post : Int → World → Prop) : (rxFn N2 yput_vc_ann 70 [.pointer p, .int .i64 pg, .int .i64 lv, .agg ⟨[.bool ep, .int .i64 er, .bool el, .int .i64 ef]⟩] w Post) = (
 AlP w { toList := [Value.bool ep, Value.int IntKind.i64 er, Value.bool el, Value.int IntKind.i64 ef] } 99 fun (b : Nat) (w2 : World) =>
  p.isSome = true ∧
   p.isSome = true ∧
    LdP w2 none (addP p 4) (El.one Sc.bool) fun (x : Bool) =>
     brP x (EnP w2 fun (w1 : World) => Post 6 w1)
      (((!(decide (pg < 0) || decide (pg > 65535))) = true → true = true) ∧
       LdP w2 (some !(decide (pg < 0) || decide (pg > 65535))) (addP (some { block := b, off := 0 }) 3) (El.one (Sc.int IntKind.i64)) fun (x : Int) =>
        ((!(decide (pg < 0) || decide (pg > 65535) || decide (x < 0))) = true → true = true) ∧
         LdP w2 (some !(decide (pg < 0) || decide (pg > 65535) || decide (x < 0))) (addP (some { block := b, off := 0 }) 3) (El.one (Sc.int IntKind.i64)) fun (x_1 : Int) =>
          brP (decide (pg < 0) || decide (pg > 65535) || decide (x < 0) || decide (x_1 > 4095)) (EnP w2 fun (w1 : World) => Post 2 w1)
           (true = true ∧
            LdP w2 none (addP (some { block := b, off := 0 }) 1) (El.one (Sc.int IntKind.i64)) fun (x : Int) =>
             ((!decide (x < 1)) = true → true = true) ∧
              LdP w2 (some !decide (x < 1)) (addP (some { block := b, off := 0 }) 1) (El.one (Sc.int IntKind.i64)) fun (x_2 : Int) =>
               brP (decide (x < 1) || decide (x_2 > 7)) (EnP w2 fun (w1 : World) => Post 7 w1)
                (true = true ∧
                 LdP w2 none (addP (some { block := b, off := 0 }) 2) (El.one Sc.bool) fun (x : Bool) =>
                  ((x && !remI pg 16 != 0) = true → true = true) ∧
                   LdP w2 (some (x && !remI pg 16 != 0)) (addP (some { block := b, off := 0 }) 3) (El.one (Sc.int IntKind.i64)) fun (x_3 : Int) =>
                    brP (x && (remI pg 16 != 0 || remI x_3 16 != 0)) (EnP w2 fun (w1 : World) => Post 8 w1)
                     (CaP Tryz.prog 48 (Sh.tup [El.agg [Sc.bool, Sc.int IntKind.i64, Sc.bool, Sc.int IntKind.i64], El.one (Sc.int IntKind.i64)]) [Value.pointer p, Value.int IntKind.i64 pg] w2
                      fun (x : (Bool × Int × Bool × Int × Unit) × Int × Unit) (w2 : World) =>
                      AlP w2 { toList := [Value.bool false, Value.int IntKind.i64 0, Value.bool false, Value.int IntKind.i64 0] } 99 fun (b_1 : Nat) (w2 : World) =>
                       StP w2 (some { block := b_1, off := 0 }) [Value.bool x.fst.fst, Value.int IntKind.i64 x.fst.snd.fst, Value.bool x.fst.snd.snd.fst, Value.int IntKind.i64 x.fst.snd.snd.snd.fst] fun (w2 : World) =>
                        true = true ∧
                         LdP w2 none (addP (some { block := b_1, off := 0 }) 0) (El.one Sc.bool) fun (x_4 : Bool) =>
                          brP (x_4 || decide (x.snd.fst < lv)) (EnP w2 fun (w1 : World) => Post 5 w1)
                           (p.isSome = true ∧
                            p.isSome = true ∧
                             LdP w2 none (addP p 1) (El.one Sc.ptr) fun (x_5 : Option Addr) =>
                              ∃ (x_6 : Int),
                               QCalls Tryz.prog 102 [Value.pointer x_5, Value.int IntKind.i64 0] w2 (Value.int IntKind.i64 x_6) ∧
                                brP (decide (x_6 < subI IntKind.i64 x.snd.fst lv)) (EnP w2 fun (w1 : World) => Post 12 w1)
                                 (∃ (I : Nat → Int × Unit → World → Prop),
                                  (∃ (n : Nat), ∀ (w1 : World), Ext w2 w1 → I n (x.snd.fst, Unit.unit) w1) ∧
                                   ∀ (n : Nat) (s : Int × Unit) (w1 : World),
                                    I n s w1 →
                                     brP (decide (s.fst > lv))
                                      (CaP Tryz.prog 72 (Sh.el (El.one Sc.slice)) [Value.pointer p, Value.int IntKind.i64 pg] w1 fun (x : Option Addr × Nat × Nat) (w2 : World) =>
                                       p.isSome = true ∧
                                        p.isSome = true ∧
                                         LdP w2 none (addP p 1) (El.one Sc.ptr) fun (x_7 : Option Addr) =>
                                          p.isSome = true ∧
                                           p.isSome = true ∧
                                            LdP w2 none (addP p 2) (El.one (Sc.int IntKind.i64)) fun (x_8 : Int) =>
                                             CaP Tryz.prog 68 (Sh.tup [El.one (Sc.int IntKind.i64), El.one (Sc.int IntKind.i64)]) [Value.pointer x_7, Value.int IntKind.i64 3, Value.int IntKind.i64 x_8] w2 fun (x_9 : Int × Int × Unit) (w2 : World) =>
                                              CaP Tryz.prog 69 (Sh.tup []) [Value.pointer p, Value.int IntKind.i64 x_9.fst] w2 fun (x_10 : Unit) (w2 : World) =>
                                               (x.fst.isSome = true ∧ 0 ≤ subI IntKind.i64 (↑x.snd.fst : Int) 1 ∧ subI IntKind.i64 (↑x.snd.fst : Int) 1 < (↑x.snd.fst : Int)) ∧
                                                LdP w2 none (addP x.fst ((subI IntKind.i64 (↑x.snd.fst : Int) 1).toNat * 1)) (El.one (Sc.int IntKind.i64)) fun (x : Int) =>
                                                 True ∧
                                                  CaP Tryz.prog 77 (Sh.tup [])
                                                   [Value.pointer p, Value.int IntKind.i64 (atI x pg s.fst), Value.agg { toList := [Value.bool true, Value.int IntKind.i64 0, Value.bool false, Value.int IntKind.i64 x_9.fst] }] w2
                                                   fun (x : Unit) (w2 : World) => ∀ (w3 : World), Ext w2 w3 → ∃ (n' : Nat), n' < n ∧ I n' (subI IntKind.i64 s.fst 1, Unit.unit) w3)
                                      (CaP Tryz.prog 72 (Sh.el (El.one Sc.slice)) [Value.pointer p, Value.int IntKind.i64 pg] w1 fun (x : Option Addr × Nat × Nat) (w2 : World) =>
                                       (x.fst.isSome = true ∧ 0 ≤ subI IntKind.i64 (↑x.snd.fst : Int) 1 ∧ subI IntKind.i64 (↑x.snd.fst : Int) 1 < (↑x.snd.fst : Int)) ∧
                                        LdP w2 none (addP x.fst ((subI IntKind.i64 (↑x.snd.fst : Int) 1).toNat * 1)) (El.one (Sc.int IntKind.i64)) fun (x : Int) =>
                                         True ∧
                                          LdP w2 none (some { block := b, off := 0 }) (El.agg [Sc.bool, Sc.int IntKind.i64, Sc.bool, Sc.int IntKind.i64]) fun (x_7 : Bool × Int × Bool × Int × Unit) =>
                                           CaP Tryz.prog 77 (Sh.tup [])
                                            [Value.pointer p, Value.int IntKind.i64 (atI x pg lv), Value.agg { toList := [Value.bool x_7.fst, Value.int IntKind.i64 x_7.snd.fst, Value.bool x_7.snd.snd.fst, Value.int IntKind.i64 x_7.snd.snd.snd.fst] }]
                                            w2 fun (x : Unit) (w2 : World) => EnP w2 fun (w1 : World) => Post 0 w1)))))))) := by kernel_rfl
theorem ymap_vc (p : Option Addr) (pg f r : Int) (w : World) (Post : Int → World → Prop) : (rxFn N2 (fun _ => []) 40 [.pointer p, .int .i64 pg, .int .i64 f, .int .i64 r] w Post) = (
 CaP Tryz.prog 70 (Sh.el (El.one (Sc.int IntKind.i64))) [Value.pointer p, Value.int IntKind.i64 pg, Value.int IntKind.i64 0, Value.agg { toList := [Value.bool true, Value.int IntKind.i64 r, Value.bool false, Value.int IntKind.i64 f] }] w
  fun (x : Int) (w2 : World) => EnP w2 fun (w1 : World) => Post x w1) := by kernel_rfl
theorem ylarge_vc (p : Option Addr) (pg f r : Int) (w : World) (Post : Int → World → Prop) : (rxFn N2 (fun _ => []) 41 [.pointer p, .int .i64 pg, .int .i64 f, .int .i64 r] w Post) = (
 CaP Tryz.prog 70 (Sh.el (El.one (Sc.int IntKind.i64))) [Value.pointer p, Value.int IntKind.i64 pg, Value.int IntKind.i64 1, Value.agg { toList := [Value.bool true, Value.int IntKind.i64 r, Value.bool true, Value.int IntKind.i64 f] }] w
  fun (x : Int) (w2 : World) => EnP w2 fun (w1 : World) => Post x w1) := by kernel_rfl
def ysplit_vc_ann : Nat → Slots := (fun | 8 => [(9, Go.RX.El.one (Go.RX.Sc.int Go.IntKind.i64))] | _ => [])
theorem ysplit_vc (p : Option Addr) (pg : Int) (w : World) (Post : Int → World → Prop) : (rxFn N2 ysplit_vc_ann 71 [.pointer p, .int .i64 pg] w Post) = (
 CaP Tryz.prog 48 (Sh.tup [El.agg [Sc.bool, Sc.int IntKind.i64, Sc.bool, Sc.int IntKind.i64], El.one (Sc.int IntKind.i64)]) [Value.pointer p, Value.int IntKind.i64 pg] w fun (x : (Bool × Int × Bool × Int × Unit) × Int × Unit) (w2 : World) =>
  AlP w2 { toList := [Value.bool false, Value.int IntKind.i64 0, Value.bool false, Value.int IntKind.i64 0] } 99 fun (b : Nat) (w2 : World) =>
   StP w2 (some { block := b, off := 0 }) [Value.bool x.fst.fst, Value.int IntKind.i64 x.fst.snd.fst, Value.bool x.fst.snd.snd.fst, Value.int IntKind.i64 x.fst.snd.snd.snd.fst] fun (w2 : World) =>
    brP (x.snd.fst == 0) (EnP w2 fun (w1 : World) => Post 0 w1)
     (p.isSome = true ∧
      p.isSome = true ∧
       LdP w2 none (addP p 1) (El.one Sc.ptr) fun (x : Option Addr) =>
        p.isSome = true ∧
         p.isSome = true ∧
          LdP w2 none (addP p 2) (El.one (Sc.int IntKind.i64)) fun (x_1 : Int) =>
           CaP Tryz.prog 68 (Sh.tup [El.one (Sc.int IntKind.i64), El.one (Sc.int IntKind.i64)]) [Value.pointer x, Value.int IntKind.i64 3, Value.int IntKind.i64 x_1] w2 fun (x : Int × Int × Unit) (w2 : World) =>
            brP (x.snd.fst != 0) (EnP w2 fun (w1 : World) => Post x.snd.fst w1)
             (∃ (I : Nat → Int × Unit → World → Prop),
              (∃ (n : Nat), ∀ (w1 : World), Ext w2 w1 → I n (0, Unit.unit) w1) ∧
               ∀ (n : Nat) (s : Int × Unit) (w1 : World),
                I n s w1 →
                 brP (decide (s.fst < 16))
                  (true = true ∧
                   LdP w1 none (addP (some { block := b, off := 0 }) 1) (El.one (Sc.int IntKind.i64)) fun (x_2 : Int) =>
                    true = true ∧
                     LdP w1 none (addP (some { block := b, off := 0 }) 3) (El.one (Sc.int IntKind.i64)) fun (x_3 : Int) =>
                      CaP Tryz.prog 77 (Sh.tup [])
                       [Value.pointer p, Value.int IntKind.i64 (addI IntKind.i64 (mulI IntKind.i64 16 x.fst) s.fst),
                        Value.agg { toList := [Value.bool true, Value.int IntKind.i64 x_2, Value.bool false, Value.int IntKind.i64 (addI IntKind.i64 x_3 s.fst)] }]
                       w1 fun (x : Unit) (w2 : World) => ∀ (w3 : World), Ext w2 w3 → ∃ (n' : Nat), n' < n ∧ I n' (addI IntKind.i64 s.fst 1, Unit.unit) w3)
                  (CaP Tryz.prog 72 (Sh.el (El.one Sc.slice)) [Value.pointer p, Value.int IntKind.i64 pg] w1 fun (x_2 : Option Addr × Nat × Nat) (w2 : World) =>
                   (x_2.fst.isSome = true ∧ 0 ≤ subI IntKind.i64 (↑x_2.snd.fst : Int) 1 ∧ subI IntKind.i64 (↑x_2.snd.fst : Int) 1 < (↑x_2.snd.fst : Int)) ∧
                    LdP w2 none (addP x_2.fst ((subI IntKind.i64 (↑x_2.snd.fst : Int) 1).toNat * 1)) (El.one (Sc.int IntKind.i64)) fun (x_3 : Int) =>
                     True ∧
                      CaP Tryz.prog 77 (Sh.tup []) [Value.pointer p, Value.int IntKind.i64 (atI x_3 pg 1), Value.agg { toList := [Value.bool true, Value.int IntKind.i64 0, Value.bool false, Value.int IntKind.i64 x.fst] }] w2
                       fun (x : Unit) (w2 : World) => EnP w2 fun (w1 : World) => Post 0 w1)))) := by kernel_rfl
def yempty_vc_ann : Nat → Slots := (fun | 2 => [(5, Go.RX.El.one (Go.RX.Sc.int Go.IntKind.i64))] | _ => [])
theorem yempty_vc (p : Option Addr) (f : Int) (w : World) (Post : Bool → World → Prop) : (rxFn N2 yempty_vc_ann 75 [.pointer p, .int .i64 f] w Post) = (
 ∃ (I : Nat → Int × Unit → World → Prop),
  (∃ (n : Nat), ∀ (w1 : World), Ext w w1 → I n (0, Unit.unit) w1) ∧
   ∀ (n : Nat) (s : Int × Unit) (w1 : World),
    I n s w1 →
     brP (decide (s.fst < 16))
      (p.isSome = true ∧
       p.isSome = true ∧
        LdP w1 none (addP p 0) (El.one Sc.ptr) fun (x : Option Addr) =>
         x.isSome = true ∧
          x.isSome = true ∧
           LdP w1 none (addP x 0) (El.one Sc.slice) fun (x : Option Addr × Nat × Nat) =>
            (x.fst.isSome = true ∧ 0 ≤ addI IntKind.i64 (mulI IntKind.i64 16 f) s.fst ∧ addI IntKind.i64 (mulI IntKind.i64 16 f) s.fst < (↑x.snd.fst : Int)) ∧
             LdP w1 none (addP x.fst ((addI IntKind.i64 (mulI IntKind.i64 16 f) s.fst).toNat * 1)) (El.one (Sc.int IntKind.u64)) fun (x : Int) =>
              brP (x != 0) (EnP w1 fun (w1 : World) => Post false w1) (∀ (w3 : World), Ext w1 w3 → ∃ (n' : Nat), n' < n ∧ I n' (addI IntKind.i64 s.fst 1, Unit.unit) w3))
      (EnP w1 fun (w1 : World) => Post true w1)) := by kernel_rfl
def yunmap_vc_ann : Nat → Slots := (fun | 10 => [(11, Go.RX.El.one (Go.RX.Sc.int Go.IntKind.i64))] | _ => [])
theorem yunmap_vc (p : Option Addr) (pg : Int) (w : World) (Post : Int × Int × Unit → World → Prop) : (rxFn N2 yunmap_vc_ann 42 [.pointer p, .int .i64 pg] w Post) = (
 CaP Tryz.prog 13 (Sh.tup [El.one (Sc.int IntKind.i64), El.one (Sc.int IntKind.i64), El.one (Sc.int IntKind.i64)]) [Value.pointer p, Value.int IntKind.i64 pg] w fun (x : Int × Int × Int × Unit) (w2 : World) =>
  brP (x.snd.snd.fst != 0) (EnP w2 fun (w1 : World) => Post (0, x.snd.snd.fst, Unit.unit) w1)
   (CaP Tryz.prog 71 (Sh.el (El.one (Sc.int IntKind.i64))) [Value.pointer p, Value.int IntKind.i64 pg] w2 fun (x_1 : Int) (w2 : World) =>
    brP (x_1 != 0) (EnP w2 fun (w1 : World) => Post (0, x_1, Unit.unit) w1)
     (CaP Tryz.prog 72 (Sh.el (El.one Sc.slice)) [Value.pointer p, Value.int IntKind.i64 pg] w2 fun (x_2 : Option Addr × Nat × Nat) (w2 : World) =>
      p.isSome = true ∧
       p.isSome = true ∧
        LdP w2 none (addP p 0) (El.one Sc.ptr) fun (x_3 : Option Addr) =>
         (x_2.fst.isSome = true ∧ (0 : Int) ≤ 3 ∧ 3 < (↑x_2.snd.fst : Int)) ∧
          LdP w2 none (addP x_2.fst 3) (El.one (Sc.int IntKind.i64)) fun (x_4 : Int) =>
           True ∧
            CaP Tryz.prog 73 (Sh.el (El.one (Sc.int IntKind.i64))) [Value.pointer x_3, Value.int IntKind.i64 (atI x_4 pg 0), Value.int IntKind.u64 0] w2 fun (x_5 : Int) (w2 : World) =>
             ∃ (I : Nat → Int × Unit → World → Prop),
              (∃ (n : Nat), ∀ (w1 : World), Ext w2 w1 → I n (3, Unit.unit) w1) ∧
               ∀ (n : Nat) (s : Int × Unit) (w1 : World),
                I n s w1 →
                 (decide (s.fst > 0) = true → x_2.fst.isSome = true ∧ 0 ≤ s.fst ∧ s.fst < (↑x_2.snd.fst : Int)) ∧
                  LdP w1 (some (decide (s.fst > 0))) (addP x_2.fst (Int.toNat s.fst * 1)) (El.one (Sc.int IntKind.i64)) fun (x_6 : Int) =>
                   ∃ (x_7 : Bool),
                    (decide (s.fst > 0) = true → QCalls Tryz.prog 75 [Value.pointer p, Value.int IntKind.i64 x_6] w1 (Value.bool x_7)) ∧
                     brP (decide (s.fst > 0) && x_7)
                      (p.isSome = true ∧
                       p.isSome = true ∧
                        LdP w1 none (addP p 0) (El.one Sc.ptr) fun (x : Option Addr) =>
                         (x_2.fst.isSome = true ∧ 0 ≤ subI IntKind.i64 s.fst 1 ∧ subI IntKind.i64 s.fst 1 < (↑x_2.snd.fst : Int)) ∧
                          LdP w1 none (addP x_2.fst ((subI IntKind.i64 s.fst 1).toNat * 1)) (El.one (Sc.int IntKind.i64)) fun (x_8 : Int) =>
                           True ∧
                            CaP Tryz.prog 73 (Sh.el (El.one (Sc.int IntKind.i64))) [Value.pointer x, Value.int IntKind.i64 (atI x_8 pg (subI IntKind.i64 4 s.fst)), Value.int IntKind.u64 0] w1 fun (x : Int) (w2 : World) =>
                             p.isSome = true ∧
                              p.isSome = true ∧
                               LdP w2 none (addP p 1) (El.one Sc.ptr) fun (x : Option Addr) =>
                                (x_2.fst.isSome = true ∧ 0 ≤ s.fst ∧ s.fst < (↑x_2.snd.fst : Int)) ∧
                                 LdP w2 none (addP x_2.fst (Int.toNat s.fst * 1)) (El.one (Sc.int IntKind.i64)) fun (x_9 : Int) =>
                                  CaP Tryz.prog 76 (Sh.el (El.one (Sc.int IntKind.i64))) [Value.pointer x, Value.int IntKind.i64 x_9, Value.int IntKind.i64 5, Value.int IntKind.i64 0] w2 fun (x : Int) (w2 : World) =>
                                   ∀ (w3 : World), Ext w2 w3 → ∃ (n' : Nat), n' < n ∧ I n' (subI IntKind.i64 s.fst 1, Unit.unit) w3)
                      (EnP w1 fun (w1 : World) => Post (x.fst, 0, Unit.unit) w1)))) := by kernel_rfl
theorem yprot_vc (p : Option Addr) (pg r : Int) (w : World) (Post : Int → World → Prop) : (rxFn N2 (fun _ => []) 43 [.pointer p, .int .i64 pg, .int .i64 r] w Post) = (
 p.isSome = true ∧
  p.isSome = true ∧
   LdP w none (addP p 4) (El.one Sc.bool) fun (x : Bool) =>
    brP x (EnP w fun (w1 : World) => Post 6 w1)
     (brP (decide (pg < 0) || decide (pg > 65535)) (EnP w fun (w1 : World) => Post 2 w1)
      (brP (decide (r < 1) || decide (r > 7)) (EnP w fun (w1 : World) => Post 7 w1)
       (CaP Tryz.prog 13 (Sh.tup [El.one (Sc.int IntKind.i64), El.one (Sc.int IntKind.i64), El.one (Sc.int IntKind.i64)]) [Value.pointer p, Value.int IntKind.i64 pg] w fun (x : Int × Int × Int × Unit) (w2 : World) =>
        brP (x.snd.snd.fst != 0) (EnP w2 fun (w1 : World) => Post x.snd.snd.fst w1)
         (brP (x.snd.fst == r)
          (CaP Tryz.prog 48 (Sh.tup [El.agg [Sc.bool, Sc.int IntKind.i64, Sc.bool, Sc.int IntKind.i64], El.one (Sc.int IntKind.i64)]) [Value.pointer p, Value.int IntKind.i64 pg] w2
           fun (x_1 : (Bool × Int × Bool × Int × Unit) × Int × Unit) (w2 : World) =>
           AlP w2 { toList := [Value.bool false, Value.int IntKind.i64 0, Value.bool false, Value.int IntKind.i64 0] } 99 fun (b : Nat) (w2 : World) =>
            StP w2 (some { block := b, off := 0 }) [Value.bool x_1.fst.fst, Value.int IntKind.i64 x_1.fst.snd.fst, Value.bool x_1.fst.snd.snd.fst, Value.int IntKind.i64 x_1.fst.snd.snd.snd.fst] fun (w2 : World) =>
             brP (x_1.snd.fst == 1) (EnP w2 fun (w1 : World) => Post 0 w1)
              (CaP Tryz.prog 71 (Sh.el (El.one (Sc.int IntKind.i64))) [Value.pointer p, Value.int IntKind.i64 pg] w2 fun (x_2 : Int) (w2 : World) =>
               brP (x_2 != 0) (EnP w2 fun (w1 : World) => Post x_2 w1)
                (CaP Tryz.prog 72 (Sh.el (El.one Sc.slice)) [Value.pointer p, Value.int IntKind.i64 pg] w2 fun (x_3 : Option Addr × Nat × Nat) (w2 : World) =>
                 (x_3.fst.isSome = true ∧ (0 : Int) ≤ 3 ∧ 3 < (↑x_3.snd.fst : Int)) ∧
                  LdP w2 none (addP x_3.fst 3) (El.one (Sc.int IntKind.i64)) fun (x_4 : Int) =>
                   True ∧
                    CaP Tryz.prog 77 (Sh.tup []) [Value.pointer p, Value.int IntKind.i64 (atI x_4 pg 0), Value.agg { toList := [Value.bool true, Value.int IntKind.i64 r, Value.bool false, Value.int IntKind.i64 x.fst] }] w2
                     fun (x : Unit) (w2 : World) => EnP w2 fun (w1 : World) => Post 0 w1)))
          (CaP Tryz.prog 71 (Sh.el (El.one (Sc.int IntKind.i64))) [Value.pointer p, Value.int IntKind.i64 pg] w2 fun (x_1 : Int) (w2 : World) =>
           brP (x_1 != 0) (EnP w2 fun (w1 : World) => Post x_1 w1)
            (CaP Tryz.prog 72 (Sh.el (El.one Sc.slice)) [Value.pointer p, Value.int IntKind.i64 pg] w2 fun (x_2 : Option Addr × Nat × Nat) (w2 : World) =>
             (x_2.fst.isSome = true ∧ (0 : Int) ≤ 3 ∧ 3 < (↑x_2.snd.fst : Int)) ∧
              LdP w2 none (addP x_2.fst 3) (El.one (Sc.int IntKind.i64)) fun (x_3 : Int) =>
               True ∧
                CaP Tryz.prog 77 (Sh.tup []) [Value.pointer p, Value.int IntKind.i64 (atI x_3 pg 0), Value.agg { toList := [Value.bool true, Value.int IntKind.i64 r, Value.bool false, Value.int IntKind.i64 x.fst] }] w2 fun (x : Unit) (w2 : World) =>
                 EnP w2 fun (w1 : World) => Post 0 w1))))))) := by kernel_rfl
def yunder_vc_ann : Nat → Slots := (fun | 3 => [(7, Go.RX.El.one Go.RX.Sc.slice), (8, Go.RX.El.one (Go.RX.Sc.int Go.IntKind.i64))] | _ => [])
theorem yunder_vc (p : Option Addr) (f lv : Int) (w : World) (Post : Option Addr × Nat × Nat → World → Prop) : (rxFn N2 yunder_vc_ann 51 [.pointer p, .int .i64 f, .int .i64 lv] w Post) = (
 AlP w { toList := [Value.int IntKind.i64 f] } 3 fun (b : Nat) (w2 : World) =>
  ∃ (I : Nat → (Option Addr × Nat × Nat) × Int × Unit → World → Prop),
   (∃ (n : Nat), ∀ (w1 : World), Ext w2 w1 → I n ((some { block := b, off := 0 }, 1, 1), 0, Unit.unit) w1) ∧
    ∀ (n : Nat) (s : (Option Addr × Nat × Nat) × Int × Unit) (w1 : World),
     I n s w1 →
      brP (decide (s.snd.fst < 16) && decide (lv > 0))
       (p.isSome = true ∧
        p.isSome = true ∧
         LdP w1 none (addP p 0) (El.one Sc.ptr) fun (x : Option Addr) =>
          x.isSome = true ∧
           x.isSome = true ∧
            LdP w1 none (addP x 0) (El.one Sc.slice) fun (x : Option Addr × Nat × Nat) =>
             (x.fst.isSome = true ∧ 0 ≤ addI IntKind.i64 (mulI IntKind.i64 16 f) s.snd.fst ∧ addI IntKind.i64 (mulI IntKind.i64 16 f) s.snd.fst < (↑x.snd.fst : Int)) ∧
              LdP w1 none (addP x.fst ((addI IntKind.i64 (mulI IntKind.i64 16 f) s.snd.fst).toNat * 1)) (El.one (Sc.int IntKind.u64)) fun (x : Int) =>
               U (B x) = x ∧
                AlP w1 { toList := [Value.bool false, Value.int IntKind.i64 0, Value.bool false, Value.int IntKind.i64 0] } 99 fun (b : Nat) (w2 : World) =>
                 StP w2 (some { block := b, off := 0 }) [Value.bool (prP (B x).toNat), Value.int IntKind.i64 (prR (B x).toNat), Value.bool (prL (B x).toNat), Value.int IntKind.i64 (prF (B x).toNat)] fun (w2 : World) =>
                  LdP w2 none (some { block := b, off := 0 }) (El.agg [Sc.bool, Sc.int IntKind.i64, Sc.bool, Sc.int IntKind.i64]) fun (x : Bool × Int × Bool × Int × Unit) =>
                   True ∧
                    brP (tableE x.fst x.snd.fst x.snd.snd.fst x.snd.snd.snd.fst)
                     (true = true ∧
                      LdP w2 none (addP (some { block := b, off := 0 }) 3) (El.one (Sc.int IntKind.i64)) fun (x : Int) =>
                       CaP Tryz.prog 51 (Sh.el (El.one Sc.slice)) [Value.pointer p, Value.int IntKind.i64 x, Value.int IntKind.i64 (subI IntKind.i64 lv 1)] w2 fun (x : Option Addr × Nat × Nat) (w2 : World) =>
                        ∀ (w1 : World),
                         Ext w2 w1 →
                          apR w1 3 1 8 { toList := [Value.int IntKind.i64 0] } (s.fst.fst, s.fst.snd.fst, s.fst.snd.snd) (x.fst, x.snd.fst, x.snd.snd) fun (r : Option Addr × Nat × Nat) (w2 : World) =>
                           ∀ (w3 : World), Ext w2 w3 → ∃ (n' : Nat), n' < n ∧ I n' ((r.fst, r.snd.fst, r.snd.snd), addI IntKind.i64 s.snd.fst 1, Unit.unit) w3)
                     (∀ (w3 : World), Ext w2 w3 → ∃ (n' : Nat), n' < n ∧ I n' ((s.fst.fst, s.fst.snd.fst, s.fst.snd.snd), addI IntKind.i64 s.snd.fst 1, Unit.unit) w3))
       (EnP w1 fun (w1 : World) => Post (s.fst.fst, s.fst.snd.fst, s.fst.snd.snd) w1)) := by kernel_rfl
def yall_vc_ann : Nat → Slots := (fun | 6 => [(3, Go.RX.El.one Go.RX.Sc.slice), (5, Go.RX.El.one (Go.RX.Sc.int Go.IntKind.i64))] | 9 => [(3, Go.RX.El.one Go.RX.Sc.slice), (6, Go.RX.El.one (Go.RX.Sc.int Go.IntKind.i64))] | _ => [])
theorem yall_vc (p : Option Addr) (w : World) (Post : Option Addr × Nat × Nat → World → Prop) : (rxFn N2 yall_vc_ann 16 [.pointer p] w Post) = (
 p.isSome = true ∧
  p.isSome = true ∧
   LdP w none (addP p 4) (El.one Sc.bool) fun (x : Bool) =>
    brP x (EnP w fun (w1 : World) => Post (none, 0, 0) w1)
     (p.isSome = true ∧
      p.isSome = true ∧
       LdP w none (addP p 3) (El.one (Sc.int IntKind.i64)) fun (x : Int) =>
        CaP Tryz.prog 51 (Sh.el (El.one Sc.slice)) [Value.pointer p, Value.int IntKind.i64 x, Value.int IntKind.i64 3] w fun (x : Option Addr × Nat × Nat) (w2 : World) =>
         ∃ (I : Nat → (Option Addr × Nat × Nat) × Int × Unit → World → Prop),
          (∃ (n : Nat), ∀ (w1 : World), Ext w2 w1 → I n ((none, 0, 0), 0, Unit.unit) w1) ∧
           ∀ (n : Nat) (s : (Option Addr × Nat × Nat) × Int × Unit) (w1 : World),
            I n s w1 →
             p.isSome = true ∧
              p.isSome = true ∧
               LdP w1 none (addP p 1) (El.one Sc.ptr) fun (x_1 : Option Addr) =>
                x_1.isSome = true ∧
                 x_1.isSome = true ∧
                  LdP w1 none (addP x_1 0) (El.one Sc.slice) fun (x_2 : Option Addr × Nat × Nat) =>
                   brP (decide (s.snd.fst < (↑x_2.snd.fst : Int)))
                    (∃ (I_1 : Nat → (Option Addr × Nat × Nat) × Int × Unit → World → Prop),
                     (∃ (n : Nat), ∀ (w1_1 : World), Ext w1 w1_1 → I_1 n ((s.fst.fst, s.fst.snd.fst, s.fst.snd.snd), 0, Unit.unit) w1_1) ∧
                      ∀ (n_1 : Nat) (s_1 : (Option Addr × Nat × Nat) × Int × Unit) (w1 : World),
                       I_1 n_1 s_1 w1 →
                        brP (decide (s_1.snd.fst < (↑x.snd.fst : Int)))
                         ((x.fst.isSome = true ∧ 0 ≤ s_1.snd.fst ∧ s_1.snd.fst < (↑x.snd.fst : Int)) ∧
                          LdP w1 none (addP x.fst (Int.toNat s_1.snd.fst * 1)) (El.one (Sc.int IntKind.i64)) fun (x : Int) =>
                           brP (x == s.snd.fst)
                            (AlP w1 { toList := [Value.int IntKind.i64 s.snd.fst] } 3 fun (b : Nat) (w2 : World) =>
                             ∀ (w1 : World),
                              Ext w2 w1 →
                               apR w1 3 1 8 { toList := [Value.int IntKind.i64 0] } (s_1.fst.fst, s_1.fst.snd.fst, s_1.fst.snd.snd) (some { block := b, off := 0 }, 1, 1) fun (r : Option Addr × Nat × Nat) (w2 : World) =>
                                ∀ (w3 : World), Ext w2 w3 → ∃ (n' : Nat), n' < n_1 ∧ I_1 n' ((r.fst, r.snd.fst, r.snd.snd), addI IntKind.i64 s_1.snd.fst 1, Unit.unit) w3)
                            (∀ (w3 : World), Ext w1 w3 → ∃ (n' : Nat), n' < n_1 ∧ I_1 n' ((s_1.fst.fst, s_1.fst.snd.fst, s_1.fst.snd.snd), addI IntKind.i64 s_1.snd.fst 1, Unit.unit) w3))
                         (∀ (w3 : World), Ext w1 w3 → ∃ (n' : Nat), n' < n ∧ I n' ((s_1.fst.fst, s_1.fst.snd.fst, s_1.fst.snd.snd), addI IntKind.i64 s.snd.fst 1, Unit.unit) w3))
                    (EnP w1 fun (w1 : World) => Post (s.fst.fst, s.fst.snd.fst, s.fst.snd.snd) w1))) := by kernel_rfl
def ydrop_vc_ann : Nat → Slots := (fun | 3 => [(4, Go.RX.El.one (Go.RX.Sc.int Go.IntKind.i64))] | _ => [])
theorem ydrop_vc (p : Option Addr) (w : World) (Post : Option Addr × Nat × Nat → World → Prop) : (rxFn N2 ydrop_vc_ann 44 [.pointer p] w Post) = (
 CaP Tryz.prog 16 (Sh.el (El.one Sc.slice)) [Value.pointer p] w fun (x : Option Addr × Nat × Nat) (w2 : World) =>
  ∃ (I : Nat → Int × Unit → World → Prop),
   (∃ (n : Nat), ∀ (w1 : World), Ext w2 w1 → I n (0, Unit.unit) w1) ∧
    ∀ (n : Nat) (s : Int × Unit) (w1 : World),
     I n s w1 →
      brP (decide (s.fst < (↑x.snd.fst : Int)))
       (p.isSome = true ∧
        p.isSome = true ∧
         LdP w1 none (addP p 1) (El.one Sc.ptr) fun (x_1 : Option Addr) =>
          (x.fst.isSome = true ∧ 0 ≤ s.fst ∧ s.fst < (↑x.snd.fst : Int)) ∧
           LdP w1 none (addP x.fst (Int.toNat s.fst * 1)) (El.one (Sc.int IntKind.i64)) fun (x : Int) =>
            CaP Tryz.prog 76 (Sh.el (El.one (Sc.int IntKind.i64))) [Value.pointer x_1, Value.int IntKind.i64 x, Value.int IntKind.i64 5, Value.int IntKind.i64 0] w1 fun (x : Int) (w2 : World) =>
             ∀ (w3 : World), Ext w2 w3 → ∃ (n' : Nat), n' < n ∧ I n' (addI IntKind.i64 s.fst 1, Unit.unit) w3)
       (p.isSome = true ∧ p.isSome = true ∧ StP w1 (addP p 4) [Value.bool true] fun (w2 : World) => EnP w2 fun (w1 : World) => Post (x.fst, x.snd.fst, x.snd.snd) w1)) := by kernel_rfl
theorem yroot_vc (p : Option Addr) (w : World) (Post : Int → World → Prop) : (rxFn N2 (fun _ => []) 18 [.pointer p] w Post) = (
 p.isSome = true ∧
  p.isSome = true ∧
   LdP w none (addP p 4) (El.one Sc.bool) fun (x : Bool) => brP x (EnP w fun (w1 : World) => Post (-1) w1) (p.isSome = true ∧ p.isSome = true ∧ LdP w none (addP p 3) (El.one (Sc.int IntKind.i64)) fun (x : Int) => EnP w fun (w1 : World) => Post x w1)) := by kernel_rfl
end Go.Proofs.YtkldededdgpmbaaGreat
namespace Go.Proofs.YtkldededdgpmbaaGreat
set_option linter.unusedSimpArgs false
set_option linter.unusedVariables false
set_option maxRecDepth 100000
open Go.RX D
/-! ### The document's tables: words, frames, New -/
section
variable {Q : Sys} {D G : List Nat} {w0 w : World} {s : WD} {L0 : List (Nat × List Value)} {bt : Nat} {o r : Int} {gone : Bool}
namespace SAt
theorem rstore (S : SAt Q D G w0 w s L0) (i v : Int) (hv : 0 ≤ v ∧ v < 18446744073709551616) {K : Int → World → Prop} (k : ∀ w2, SAt Q D G w0 w2 (stL s.1 i v, s.2) L0 → K (ldE s.1 i) w2) :
    CaP Tryz.prog 73 (.el (.one (.int .i64))) [.pointer (some ⟨Q.bm, 0, none⟩), .int .i64 i, .int .u64 v] w K := by
  obtain ⟨h1, h2, h3, h4, ca, la, H⟩ := S
  refine nstore_at H 0 1 rfl rfl (by decide) rfl i v fun w2 H => k w2 ⟨?_, h2, h3, stL_ok h4 i v hv, upM s.1 i ca, upM s.1 i la, ?_⟩
  · show 0 < (stL s.1 i v).length
    rw [stL_len]; exact h1
  · unfold Sys.L
    show AtD D G w0 w2 ((Q.bm, mcs Q.bw (stL s.1 i v).length Q.c _ _) :: _)
    rw [stL_len]
    exact H
theorem rtake (S : SAt Q D G w0 w s L0) (y o : Int) {K : Int × Int × Unit → World → Prop} (k : ∀ w2, SAt Q D G w0 w2 (s.1, takeL s.2 y o) L0 → K (takeF s.2 y o, takeE s.2 y o, ()) w2) :
    CaP Tryz.prog 68 (.tup [.one (.int .i64), .one (.int .i64)]) [.pointer (some ⟨Q.bp, 0, none⟩), .int .i64 y, .int .i64 o] w K := by
  obtain ⟨h1, h2, h3, h4, ca, la, H⟩ := S
  refine rtake_at H 3 2 rfl rfl (by decide) rfl h2 h3 y o fun w2 H => k w2 ⟨h1, ?_, ?_, h4, ca, la, ?_⟩
  · show 0 < (takeL s.2 y o).length
    rw [takeL_len]; exact h2
  · show (takeL s.2 y o).length ≤ 4096
    rw [takeL_len]; exact h3
  · unfold Sys.L
    show AtD D G w0 w2 (_ :: _ :: _ :: (Q.bp, [.slice _ (takeL s.2 y o).length _]) :: _)
    rw [takeL_len]
    exact H
theorem rturn (S : SAt Q D G w0 w s L0) (f y o : Int) {K : Int → World → Prop} (k : ∀ w2, SAt Q D G w0 w2 (s.1, chL s.2 f (turnG y o)) L0 → K (chE s.2 f (turnG y o)) w2) :
    CaP Tryz.prog 76 (.el (.one (.int .i64))) [.pointer (some ⟨Q.bp, 0, none⟩), .int .i64 f, .int .i64 y, .int .i64 o] w K := by
  obtain ⟨h1, h2, h3, h4, ca, la, H⟩ := S
  refine rturn_at H 3 2 rfl rfl (by decide) rfl h2 h3 f y o fun w2 H => k w2 ⟨h1, ?_, ?_, h4, ca, la, ?_⟩
  · show 0 < (chL s.2 f (turnG y o)).length
    rw [chL_len]; exact h2
  · show (chL s.2 f (turnG y o)).length ≤ 4096
    rw [chL_len]; exact h3
  · unfold Sys.L
    show AtD D G w0 w2 (_ :: _ :: _ :: (Q.bp, [.slice _ (chL s.2 f (turnG y o)).length _]) :: _)
    rw [chL_len]
    exact H
theorem rcnt (S : SAt Q D G w0 w s L0) (v : Int) : QCalls Tryz.prog 102 [.pointer (some ⟨Q.bp, 0, none⟩), .int .i64 v] w (.int .i64 (cntL s.2 v : Nat)) := by
  obtain ⟨h1, h2, h3, h4, ca, la, H⟩ := S
  exact rcount_q H 3 2 rfl rfl rfl h3 v
theorem rzero (S : SAt Q D G w0 w s L0) (k0 : Nat) (ht : L0[k0]? = some (bt, tcs Q o r gone)) (f : Int) (hf : 0 ≤ f ∧ f ≤ 4096) {K : Unit → World → Prop} (k : ∀ w2, SAt Q D G w0 w2 (fillL s.1 f (fun _ => 0) 16, s.2) L0 → K () w2) :
    CaP Tryz.prog 69 (.tup []) [.pointer (some ⟨bt, 0, none⟩), .int .i64 f] w K := by
  refine S.go fun w1 S => rxFn_ok (C := N2) (ann := yzero_vc_ann) (Eq.mpr (yzero_vc _ f w1 K) ?_)
  refine ⟨fun n v w' => ∃ m : Nat, n = 16 - m ∧ m ≤ 16 ∧ v.1 = (m : Int) ∧ SAt Q D G w0 w' (fillL s.1 f (fun _ => 0) m, s.2) L0, ⟨16, fun w3 h => ⟨0, rfl, by omega, rfl, S.ext h⟩⟩, ?_⟩
  rintro n ⟨v, u⟩ w3 ⟨m, rfl, hm, e, S⟩
  dsimp only at e ⊢
  subst e
  refine brP_intro (fun c => ⟨rfl, rfl, S.ldA k0 ht rfl ?_⟩) (fun c => S.en fun w4 S => k w4 ?_)
  · have c : m < 16 := by simp at c; omega
    have e1 : addI .i64 (mulI .i64 16 f) (m : Int) = 16 * f + (m : Int) := by
      rw [mulI_i64 (by omega) (by omega), addI_i64 (by omega) (by omega)]
    rw [e1]
    refine S.rstore _ 0 ⟨by decide, by decide⟩ fun w6 S => fun w7 h7 => ⟨16 - (m + 1), by omega, m + 1, rfl, by omega, ?_, S.ext h7⟩
    rw [addI_i64 (by omega) (by omega)]; omega
  · have c : ¬ m < 16 := by simp at c; omega
    have : m = 16 := by omega
    subst this; exact S
/-- The document's tables are made. -/
theorem rnew (S : SAt Q D G w0 w s L0) (o : Int) {K : Option Addr × Int × Unit → World → Prop}
    (k2 : ¬ tkE s o = 0 → ∀ b w2, SAt Q D G w0 w2 (tkS s o fun _ => 0) ((b, tcs Q o 0 false) :: L0) → K (some ⟨b, 0, none⟩, tkE s o, ()) w2)
    (k3 : tkE s o = 0 → ∀ b w2, SAt Q D G w0 w2 (tkS s o fun _ => 0) ((b, tcs Q o (tkF s o) false) :: L0) → K (some ⟨b, 0, none⟩, 0, ()) w2) (hl : ¬ (s.1.length : Int) < 16 * (s.2.length : Int)) :
    CaP Tryz.prog 39 (.tup [.one .ptr, .one (.int .i64)]) [.pointer (some ⟨Q.bm, 0, none⟩), .pointer (some ⟨Q.bp, 0, none⟩), .int .i64 o] w K := by
  refine S.go fun w1 S => rxFn_ok (C := N2) (ann := fun _ => []) (Eq.mpr (ynew_vc _ _ o w1 K) ?_)
  have h1 := S.pos
  have h2 := S.fpos
  have h3 := S.le
  have hr := takeF_rng s.2 3 o S.fpos
  have em : mulI .i64 16 ((s.2.length : Nat) : Int) = 16 * (s.2.length : Int) := mulI_i64 (by omega) (by omega)
  refine S.al fun b w2 S => ⟨rfl, rfl, ?_⟩
  obtain ⟨ca, la, hm⟩ := S.mem
  refine LdP.of (some ⟨Q.bw, 0, none⟩, s.1.length, Q.c) (by rw [addP_B]; exact hm.rd1 rfl) ⟨rfl, rfl, LdP.of (some ⟨Q.bf, 0, none⟩, s.2.length, Q.cp) (by rw [addP_B]; exact S.pool.rd1 rfl) ?_⟩
  dsimp only
  rw [em]
  refine brP_neg (by simpa using hl) (S.rtake 3 o fun w3 S => brP_intro (fun d => S.en fun w4 S => ?_) (fun d => ⟨rfl, rfl, S.stOneA 0 rfl rfl rfl fun w4 S => S.rzero 0 rfl _ ⟨hr.1, by omega⟩ fun w5 S => S.en fun w6 S => ?_⟩))
  · have d : ¬ takeE s.2 3 o = 0 := by simpa using d
    have d : ¬ tkE s o = 0 := d
    refine k2 d b w4 ?_
    unfold tkS
    rw [if_neg d]
    exact S
  · have d : takeE s.2 3 o = 0 := by simpa using d
    have d : tkE s o = 0 := d
    refine k3 d b w6 ?_
    unfold tkS
    rw [if_pos d]
    exact S
end SAt
end
end Go.Proofs.YtkldededdgpmbaaGreat
namespace Go.Proofs.YtkldededdgpmbaaGreat
set_option linter.unusedSimpArgs false
set_option linter.unusedVariables false
set_option maxRecDepth 100000
open Go.RX
noncomputable def N3 : Cfg Tryz.prog := { N0 with quiet := [17, 18, 31, 32, 26, 33, 14, 30] }
theorem zknown_vc (w : World) (Post : Bool → World → Prop) : (rxFn N3 (fun _ => []) 19 [] w Post) = (
 CaP Tryz.prog 34 (Sh.tup [El.one Sc.ptr, El.one (Sc.int IntKind.i64)]) [Value.int IntKind.i64 160] w fun (x : Option Addr × Int × Unit) (w2 : World) =>
  CaP Tryz.prog 35 (Sh.tup [El.one Sc.ptr, El.one (Sc.int IntKind.i64)]) [Value.int IntKind.i64 10] w2 fun (x_1 : Option Addr × Int × Unit) (w2 : World) =>
   brP (x.snd.fst != 0 || x_1.snd.fst != 0 || x.fst.isNone || x_1.fst.isNone) (EnP w2 fun (w1 : World) => Post false w1)
    (CaP Tryz.prog 38 (Sh.tup [El.one Sc.ptr, El.one (Sc.int IntKind.i64)]) [Value.pointer x.fst, Value.pointer x_1.fst, Value.int IntKind.i64 1] w2 fun (x_2 : Option Addr × Int × Unit) (w2 : World) =>
     brP (x_2.snd.fst != 0 || x_2.fst.isNone) (EnP w2 fun (w1 : World) => Post false w1)
      (CaP Tryz.prog 20 (Sh.el (El.one (Sc.int IntKind.i64))) [Value.pointer x_2.fst, Value.int IntKind.i64 4660, Value.int IntKind.i64 5, Value.int IntKind.i64 3] w2 fun (x_3 : Int) (w2 : World) =>
       CaP Tryz.prog 20 (Sh.el (El.one (Sc.int IntKind.i64))) [Value.pointer x_2.fst, Value.int IntKind.i64 4660, Value.int IntKind.i64 6, Value.int IntKind.i64 3] w2 fun (x_4 : Int) (w2 : World) =>
        CaP Tryz.prog 21 (Sh.el (El.one (Sc.int IntKind.i64))) [Value.pointer x_2.fst, Value.int IntKind.i64 4672, Value.int IntKind.i64 32, Value.int IntKind.i64 1] w2 fun (x_5 : Int) (w2 : World) =>
         CaP Tryz.prog 12 (Sh.tup [El.one (Sc.int IntKind.i64), El.one (Sc.int IntKind.i64), El.one (Sc.int IntKind.i64)]) [Value.pointer x_2.fst, Value.int IntKind.i64 4679] w2 fun (x_6 : Int × Int × Int × Unit) (w2 : World) =>
          CaP Tryz.prog 15 (Sh.el (El.one Sc.slice)) [Value.pointer x_2.fst] w2 fun (x_7 : Option Addr × Nat × Nat) (w2 : World) =>
           CaP Tryz.prog 23 (Sh.el (El.one (Sc.int IntKind.i64))) [Value.pointer x_2.fst, Value.int IntKind.i64 4679, Value.int IntKind.i64 7] w2 fun (x_8 : Int) (w2 : World) =>
            CaP Tryz.prog 15 (Sh.el (El.one Sc.slice)) [Value.pointer x_2.fst] w2 fun (x_9 : Option Addr × Nat × Nat) (w2 : World) =>
             CaP Tryz.prog 22 (Sh.tup [El.one (Sc.int IntKind.i64), El.one (Sc.int IntKind.i64)]) [Value.pointer x_2.fst, Value.int IntKind.i64 4660] w2 fun (x_10 : Int × Int × Unit) (w2 : World) =>
              CaP Tryz.prog 22 (Sh.tup [El.one (Sc.int IntKind.i64), El.one (Sc.int IntKind.i64)]) [Value.pointer x_2.fst, Value.int IntKind.i64 4660] w2 fun (x_11 : Int × Int × Unit) (w2 : World) =>
               ∃ (x_12 : (Int × Int × Int × Int × Unit) × Bool × Unit),
                QCalls Tryz.prog 33 [Value.pointer x_1.fst, Value.int IntKind.i64 3] w2
                  (Value.tuple
                   {
                    toList :=
                     [Value.agg { toList := [Value.int IntKind.i64 x_12.fst.fst, Value.int IntKind.i64 x_12.fst.snd.fst, Value.int IntKind.i64 x_12.fst.snd.snd.fst, Value.int IntKind.i64 x_12.fst.snd.snd.snd.fst] }, Value.bool x_12.snd.fst] }) ∧
                 AlP w2 { toList := [Value.int IntKind.i64 0, Value.int IntKind.i64 0, Value.int IntKind.i64 0, Value.int IntKind.i64 0] } 68 fun (b : Nat) (w2 : World) =>
                  StP w2 (some { block := b, off := 0 }) [Value.int IntKind.i64 x_12.fst.fst, Value.int IntKind.i64 x_12.fst.snd.fst, Value.int IntKind.i64 x_12.fst.snd.snd.fst, Value.int IntKind.i64 x_12.fst.snd.snd.snd.fst] fun (w2 : World) =>
                   ∃ (x_13 : Int),
                    QCalls Tryz.prog 17 [Value.pointer x_2.fst] w2 (Value.int IntKind.i64 x_13) ∧
                     CaP Tryz.prog 24 (Sh.el (El.agg [Sc.int IntKind.i64, Sc.int IntKind.i64, Sc.int IntKind.i64, Sc.int IntKind.i64])) [Value.pointer x.fst, Value.int IntKind.i64 x_13, Value.int IntKind.i64 4679, Value.int IntKind.i64 4] w2
                      fun (x : Int × Int × Int × Int × Unit) (w2 : World) =>
                      AlP w2 { toList := [Value.int IntKind.i64 0, Value.int IntKind.i64 0, Value.int IntKind.i64 0, Value.int IntKind.i64 0] } 54 fun (b_1 : Nat) (w2 : World) =>
                       StP w2 (some { block := b_1, off := 0 }) [Value.int IntKind.i64 x.fst, Value.int IntKind.i64 x.snd.fst, Value.int IntKind.i64 x.snd.snd.fst, Value.int IntKind.i64 x.snd.snd.snd.fst] fun (w2 : World) =>
                        CaP Tryz.prog 27 (Sh.el (El.one Sc.slice)) [Value.pointer x_2.fst] w2 fun (x : Option Addr × Nat × Nat) (w2 : World) =>
                         brP (x_3 == 0 && x_4 == 5 && x_5 == 0 && x_6.fst == 39 && x_6.snd.fst == 1 && x_6.snd.snd.fst == 0)
                          (AlP w2 { toList := [Value.int IntKind.i64 0, Value.int IntKind.i64 1, Value.int IntKind.i64 2, Value.int IntKind.i64 3] } 3 fun (b_2 : Nat) (w2 : World) =>
                           ∃ (x_14 : Bool),
                            QCalls Tryz.prog 14 [Value.slice x_7.fst x_7.snd.fst x_7.snd.snd, Value.slice (some { block := b_2, off := 0 }) 4 4] w2 (Value.bool x_14) ∧
                             ((x_14 && x_8 == 0 && (↑x_9.snd.fst : Int) == 5 && x_10.fst == 5 && x_10.snd.fst == 0 && x_11.snd.fst == 4) = true → true = true) ∧
                              LdP w2 (some (x_14 && x_8 == 0 && (↑x_9.snd.fst : Int) == 5 && x_10.fst == 5 && x_10.snd.fst == 0 && x_11.snd.fst == 4)) (addP (some { block := b, off := 0 }) 0) (El.one (Sc.int IntKind.i64)) fun (x_15 : Int) =>
                               LdP w2 (some (x_14 && x_8 == 0 && (↑x_9.snd.fst : Int) == 5 && x_10.fst == 5 && x_10.snd.fst == 0 && x_11.snd.fst == 4 && x_15 == 5)) (some { block := b_1, off := 0 })
                                (El.agg [Sc.int IntKind.i64, Sc.int IntKind.i64, Sc.int IntKind.i64, Sc.int IntKind.i64]) fun (x_16 : Int × Int × Int × Int × Unit) =>
                                ∃ (x_17 : Int),
                                 ((x_14 && x_8 == 0 && (↑x_9.snd.fst : Int) == 5 && x_10.fst == 5 && x_10.snd.fst == 0 && x_11.snd.fst == 4 && x_15 == 5 &&
                                      (x_16.fst == 39 && (x_16.snd.fst == 7 && (x_16.snd.snd.fst == 0 && (x_16.snd.snd.snd.fst == 0 && true)))) &&
                                     (↑x.snd.fst : Int) == 4) =
                                    true →
                                   QCalls Tryz.prog 17 [Value.pointer x_2.fst] w2 (Value.int IntKind.i64 x_17)) ∧
                                  brP
                                   (x_14 && x_8 == 0 && (↑x_9.snd.fst : Int) == 5 && x_10.fst == 5 && x_10.snd.fst == 0 && x_11.snd.fst == 4 && x_15 == 5 &&
                                      (x_16.fst == 39 && (x_16.snd.fst == 7 && (x_16.snd.snd.fst == 0 && (x_16.snd.snd.snd.fst == 0 && true)))) &&
                                     (↑x.snd.fst : Int) == 4 &&
                                    x_17 == -1)
                                   (CaP Tryz.prog 20 (Sh.el (El.one (Sc.int IntKind.i64))) [Value.pointer x_2.fst, Value.int IntKind.i64 0, Value.int IntKind.i64 0, Value.int IntKind.i64 1] w2 fun (x : Int) (w2 : World) =>
                                    EnP w2 fun (w1 : World) => Post (x == 6) w1)
                                   (EnP w2 fun (w1 : World) => Post false w1))
                          ((false = true → true = true) ∧
                           LdP w2 (some false) (addP (some { block := b, off := 0 }) 0) (El.one (Sc.int IntKind.i64)) fun (x : Int) =>
                            LdP w2 (some false) (some { block := b_1, off := 0 }) (El.agg [Sc.int IntKind.i64, Sc.int IntKind.i64, Sc.int IntKind.i64, Sc.int IntKind.i64]) fun (x : Int × Int × Int × Int × Unit) =>
                             ∃ (x : Int), (false = true → QCalls Tryz.prog 17 [Value.pointer x_2.fst] w2 (Value.int IntKind.i64 x)) ∧ EnP w2 fun (w1 : World) => Post false w1)))) := by kernel_rfl
def zbegin_vc_ann : Nat → Slots := (fun | 13 => [(13, Go.RX.El.one (Go.RX.Sc.int Go.IntKind.i64))] | _ => [])
theorem zbegin_vc (n : Int) (w : World) (Post : Option Addr × Bool × Unit → World → Prop) : (rxFn N3 zbegin_vc_ann 9 [.int .i64 n] w Post) = (
 AlP w { toList := [Value.pointer none, Value.pointer none, Value.pointer none, Value.pointer none, Value.pointer none, Value.pointer none, Value.pointer none, Value.pointer none] } 39 fun (b : Nat) (w2 : World) =>
  CaP Tryz.prog 34 (Sh.tup [El.one Sc.ptr, El.one (Sc.int IntKind.i64)]) [Value.int IntKind.i64 (mulI IntKind.i64 16 n)] w2 fun (x : Option Addr × Int × Unit) (w2 : World) =>
   CaP Tryz.prog 35 (Sh.tup [El.one Sc.ptr, El.one (Sc.int IntKind.i64)]) [Value.int IntKind.i64 n] w2 fun (x_1 : Option Addr × Int × Unit) (w2 : World) =>
    CaP Tryz.prog 36 (Sh.tup [El.one Sc.ptr, El.one (Sc.int IntKind.i64)]) [Value.int IntKind.i64 (mulI IntKind.i64 16 n)] w2 fun (x_2 : Option Addr × Int × Unit) (w2 : World) =>
     CaP Tryz.prog 37 (Sh.tup [El.one Sc.ptr, El.one (Sc.int IntKind.i64)]) [Value.int IntKind.i64 n] w2 fun (x_3 : Option Addr × Int × Unit) (w2 : World) =>
      true = true ∧
       true = true ∧
        StP w2 (addP (some { block := b, off := 0 }) 0) [Value.pointer x.fst] fun (w2 : World) =>
         true = true ∧
          true = true ∧
           StP w2 (addP (some { block := b, off := 0 }) 1) [Value.pointer x_1.fst] fun (w2 : World) =>
            true = true ∧
             true = true ∧
              StP w2 (addP (some { block := b, off := 0 }) 4) [Value.pointer x_2.fst] fun (w2 : World) =>
               true = true ∧
                true = true ∧
                 StP w2 (addP (some { block := b, off := 0 }) 5) [Value.pointer x_3.fst] fun (w2 : World) =>
                  brP (x.snd.fst != 0 || x_1.snd.fst != 0 || x.fst.isNone || x_1.fst.isNone) (EnP w2 fun (w1 : World) => Post (some { block := b, off := 0 }, false, Unit.unit) w1)
                   (∃ (I : Nat → Int × Unit → World → Prop),
                    (∃ (n : Nat), ∀ (w1 : World), Ext w2 w1 → I n (0, Unit.unit) w1) ∧
                     ∀ (n : Nat) (s : Int × Unit) (w1 : World),
                      I n s w1 →
                       brP (decide (s.fst < 2))
                        (CaP Tryz.prog 38 (Sh.tup [El.one Sc.ptr, El.one (Sc.int IntKind.i64)]) [Value.pointer x.fst, Value.pointer x_1.fst, Value.int IntKind.i64 (addI IntKind.i64 1 s.fst)] w1 fun (x : Option Addr × Int × Unit) (w2 : World) =>
                         CaP Tryz.prog 39 (Sh.tup [El.one Sc.ptr, El.one (Sc.int IntKind.i64)]) [Value.pointer x_2.fst, Value.pointer x_3.fst, Value.int IntKind.i64 (addI IntKind.i64 1 s.fst)] w2 fun (x_4 : Option Addr × Int × Unit) (w2 : World) =>
                          brP (x.snd.fst != x_4.snd.fst || !(!x.fst.isNone) == (x_4.snd.fst == 0)) (EnP w2 fun (w1 : World) => Post (some { block := b, off := 0 }, false, Unit.unit) w1)
                           (true = true ∧
                            true = true ∧
                             ((addP (some { block := b, off := 0 }) 2).isSome = true ∧ 0 ≤ s.fst ∧ s.fst < (↑2 : Int)) ∧
                              StP w2 (addP (addP (some { block := b, off := 0 }) 2) (Int.toNat s.fst * 1)) [Value.pointer x.fst] fun (w2 : World) =>
                               true = true ∧
                                true = true ∧
                                 ((addP (some { block := b, off := 0 }) 6).isSome = true ∧ 0 ≤ s.fst ∧ s.fst < (↑2 : Int)) ∧
                                  StP w2 (addP (addP (some { block := b, off := 0 }) 6) (Int.toNat s.fst * 1)) [Value.pointer x_4.fst] fun (w2 : World) =>
                                   ∀ (w3 : World), Ext w2 w3 → ∃ (n' : Nat), n' < n ∧ I n' (addI IntKind.i64 s.fst 1, Unit.unit) w3))
                        (EnP w1 fun (w1 : World) => Post (some { block := b, off := 0 }, true, Unit.unit) w1))) := by kernel_rfl
def zsame_vc_ann : Nat → Slots := (fun | 4 => [(3, Go.RX.El.one (Go.RX.Sc.int Go.IntKind.i64))] | _ => [])
theorem zsame_vc (p : Option Addr) (w : World) (Post : Bool → World → Prop) : (rxFn N3 zsame_vc_ann 11 [.pointer p] w Post) = (
 p.isSome = true ∧
  p.isSome = true ∧
   LdP w none (addP p 0) (El.one Sc.ptr) fun (x : Option Addr) =>
    p.isSome = true ∧
     p.isSome = true ∧
      LdP w none (addP p 0) (El.one Sc.ptr) fun (x_1 : Option Addr) =>
       ∃ (x_2 : Int),
        QCalls Tryz.prog 31 [Value.pointer x_1] w (Value.int IntKind.i64 x_2) ∧
         p.isSome = true ∧
          p.isSome = true ∧
           LdP w none (addP p 4) (El.one Sc.ptr) fun (x_3 : Option Addr) =>
            x_3.isSome = true ∧
             x_3.isSome = true ∧
              LdP w none (addP x_3 0) (El.one Sc.slice) fun (x_4 : Option Addr × Nat × Nat) =>
               CaP Tryz.prog 25 (Sh.el (El.one Sc.slice)) [Value.pointer x, Value.int IntKind.i64 0, Value.int IntKind.i64 x_2] w fun (x : Option Addr × Nat × Nat) (w2 : World) =>
                rdAt w2 (addP x_3 0) (El.one Sc.slice) x_4 ∧
                 True ∧
                  True ∧
                   rdAt w2 (addP p 4) (El.one Sc.ptr) x_3 ∧
                    True ∧
                     True ∧
                      ∃ (x_5 : Bool),
                       QCalls Tryz.prog 30 [Value.slice x.fst x.snd.fst x.snd.snd, Value.slice x_4.fst x_4.snd.fst x_4.snd.snd] w2 (Value.bool x_5) ∧
                        brP (!x_5) (EnP w2 fun (w1 : World) => Post false w1)
                         (∃ (I : Nat → Int × Unit → World → Prop),
                          (∃ (n : Nat), ∀ (w1 : World), Ext w2 w1 → I n (0, Unit.unit) w1) ∧
                           ∀ (n : Nat) (s : Int × Unit) (w1 : World),
                            I n s w1 →
                             p.isSome = true ∧
                              p.isSome = true ∧
                               LdP w1 none (addP p 5) (El.one Sc.ptr) fun (x : Option Addr) =>
                                x.isSome = true ∧
                                 x.isSome = true ∧
                                  LdP w1 none (addP x 0) (El.one Sc.slice) fun (x : Option Addr × Nat × Nat) =>
                                   brP (decide (s.fst < (↑x.snd.fst : Int)))
                                    (p.isSome = true ∧
                                     p.isSome = true ∧
                                      LdP w1 none (addP p 1) (El.one Sc.ptr) fun (x : Option Addr) =>
                                       ∃ (x_6 : (Int × Int × Int × Int × Unit) × Bool × Unit),
                                        QCalls Tryz.prog 33 [Value.pointer x, Value.int IntKind.i64 s.fst] w1
                                          (Value.tuple
                                           {
                                            toList :=
                                             [Value.agg { toList := [Value.int IntKind.i64 x_6.fst.fst, Value.int IntKind.i64 x_6.fst.snd.fst, Value.int IntKind.i64 x_6.fst.snd.snd.fst, Value.int IntKind.i64 x_6.fst.snd.snd.snd.fst] },
                                              Value.bool x_6.snd.fst] }) ∧
                                         AlP w1 { toList := [Value.int IntKind.i64 0, Value.int IntKind.i64 0, Value.int IntKind.i64 0, Value.int IntKind.i64 0] } 68 fun (b : Nat) (w2 : World) =>
                                          StP w2 (some { block := b, off := 0 }) [Value.int IntKind.i64 x_6.fst.fst, Value.int IntKind.i64 x_6.fst.snd.fst, Value.int IntKind.i64 x_6.fst.snd.snd.fst, Value.int IntKind.i64 x_6.fst.snd.snd.snd.fst]
                                           fun (w2 : World) =>
                                           true = true ∧
                                            LdP w2 none (addP (some { block := b, off := 0 }) 0) (El.one (Sc.int IntKind.i64)) fun (x : Int) =>
                                             true = true ∧
                                              LdP w2 none (addP (some { block := b, off := 0 }) 1) (El.one (Sc.int IntKind.i64)) fun (x_7 : Int) =>
                                               true = true ∧
                                                LdP w2 none (addP (some { block := b, off := 0 }) 2) (El.one (Sc.int IntKind.i64)) fun (x_8 : Int) =>
                                                 true = true ∧
                                                  LdP w2 none (addP (some { block := b, off := 0 }) 3) (El.one (Sc.int IntKind.i64)) fun (x_9 : Int) =>
                                                   p.isSome = true ∧
                                                    p.isSome = true ∧
                                                     LdP w2 none (addP p 5) (El.one Sc.ptr) fun (x_10 : Option Addr) =>
                                                      x_10.isSome = true ∧
                                                       x_10.isSome = true ∧
                                                        LdP w2 none (addP x_10 0) (El.one Sc.slice) fun (x_11 : Option Addr × Nat × Nat) =>
                                                         (x_11.fst.isSome = true ∧ 0 ≤ s.fst ∧ s.fst < (↑x_11.snd.fst : Int)) ∧
                                                          LdP w2 none (addP x_11.fst (Int.toNat s.fst * 4)) (El.agg [Sc.int IntKind.i64, Sc.int IntKind.i64, Sc.int IntKind.i64, Sc.int IntKind.i64]) fun (x_12 : Int × Int × Int × Int × Unit) =>
                                                           brP (!(x == x_12.fst && (x_7 == x_12.snd.fst && (x_8 == x_12.snd.snd.fst && (x_9 == x_12.snd.snd.snd.fst && true))))) (EnP w2 fun (w1 : World) => Post false w1)
                                                            (∀ (w3 : World), Ext w2 w3 → ∃ (n' : Nat), n' < n ∧ I n' (addI IntKind.i64 s.fst 1, Unit.unit) w3))
                                    (EnP w1 fun (w1 : World) => Post true w1))) := by kernel_rfl
theorem zdo_vc (p : Option Addr) (k wh pg f r : Int) (w : World) (Post : Bool → World → Prop) : (rxFn N3 (fun _ => []) 10 [.pointer p, .agg ⟨[.int .i64 k, .int .i64 wh, .int .i64 pg, .int .i64 f, .int .i64 r]⟩] w Post) = (
 AlP w { toList := [Value.int IntKind.i64 k, Value.int IntKind.i64 wh, Value.int IntKind.i64 pg, Value.int IntKind.i64 f, Value.int IntKind.i64 r] } 27 fun (b : Nat) (w2 : World) =>
  true = true ∧
   LdP w2 none (addP (some { block := b, off := 0 }) 1) (El.one (Sc.int IntKind.i64)) fun (x : Int) =>
    p.isSome = true ∧
     p.isSome = true ∧
      ((addP p 2).isSome = true ∧ 0 ≤ andI IntKind.i64 x 1 ∧ andI IntKind.i64 x 1 < (↑2 : Int)) ∧
       LdP w2 none (addP (addP p 2) ((andI IntKind.i64 x 1).toNat * 1)) (El.one Sc.ptr) fun (x : Option Addr) =>
        true = true ∧
         LdP w2 none (addP (some { block := b, off := 0 }) 1) (El.one (Sc.int IntKind.i64)) fun (x_1 : Int) =>
          p.isSome = true ∧
           p.isSome = true ∧
            ((addP p 6).isSome = true ∧ 0 ≤ andI IntKind.i64 x_1 1 ∧ andI IntKind.i64 x_1 1 < (↑2 : Int)) ∧
             LdP w2 none (addP (addP p 6) ((andI IntKind.i64 x_1 1).toNat * 1)) (El.one Sc.ptr) fun (x_2 : Option Addr) =>
              brP x.isNone (EnP w2 fun (w1 : World) => Post true w1)
               (true = true ∧
                LdP w2 none (addP (some { block := b, off := 0 }) 0) (El.one (Sc.int IntKind.i64)) fun (x_3 : Int) =>
                 brP (x_3 == 0)
                  (true = true ∧
                   LdP w2 none (addP (some { block := b, off := 0 }) 2) (El.one (Sc.int IntKind.i64)) fun (x_4 : Int) =>
                    true = true ∧
                     LdP w2 none (addP (some { block := b, off := 0 }) 3) (El.one (Sc.int IntKind.i64)) fun (x_5 : Int) =>
                      true = true ∧
                       LdP w2 none (addP (some { block := b, off := 0 }) 4) (El.one (Sc.int IntKind.i64)) fun (x_6 : Int) =>
                        true = true ∧
                         LdP w2 none (addP (some { block := b, off := 0 }) 2) (El.one (Sc.int IntKind.i64)) fun (x_7 : Int) =>
                          true = true ∧
                           LdP w2 none (addP (some { block := b, off := 0 }) 3) (El.one (Sc.int IntKind.i64)) fun (x_8 : Int) =>
                            true = true ∧
                             LdP w2 none (addP (some { block := b, off := 0 }) 4) (El.one (Sc.int IntKind.i64)) fun (x_9 : Int) =>
                              CaP Tryz.prog 20 (Sh.el (El.one (Sc.int IntKind.i64))) [Value.pointer x, Value.int IntKind.i64 x_4, Value.int IntKind.i64 x_5, Value.int IntKind.i64 x_6] w2 fun (x : Int) (w2 : World) =>
                               rdAt w2 (addP (some { block := b, off := 0 }) 4) (El.one (Sc.int IntKind.i64)) x_9 ∧
                                True ∧
                                 rdAt w2 (addP (some { block := b, off := 0 }) 3) (El.one (Sc.int IntKind.i64)) x_8 ∧
                                  True ∧
                                   rdAt w2 (addP (some { block := b, off := 0 }) 2) (El.one (Sc.int IntKind.i64)) x_7 ∧
                                    True ∧
                                     CaP Tryz.prog 40 (Sh.el (El.one (Sc.int IntKind.i64))) [Value.pointer x_2, Value.int IntKind.i64 x_7, Value.int IntKind.i64 x_8, Value.int IntKind.i64 x_9] w2 fun (x_10 : Int) (w2 : World) =>
                                      EnP w2 fun (w1 : World) => Post (x == x_10) w1)
                  (brP (x_3 == 1)
                   (true = true ∧
                    LdP w2 none (addP (some { block := b, off := 0 }) 2) (El.one (Sc.int IntKind.i64)) fun (x_4 : Int) =>
                     true = true ∧
                      LdP w2 none (addP (some { block := b, off := 0 }) 3) (El.one (Sc.int IntKind.i64)) fun (x_5 : Int) =>
                       true = true ∧
                        LdP w2 none (addP (some { block := b, off := 0 }) 4) (El.one (Sc.int IntKind.i64)) fun (x_6 : Int) =>
                         true = true ∧
                          LdP w2 none (addP (some { block := b, off := 0 }) 2) (El.one (Sc.int IntKind.i64)) fun (x_7 : Int) =>
                           true = true ∧
                            LdP w2 none (addP (some { block := b, off := 0 }) 3) (El.one (Sc.int IntKind.i64)) fun (x_8 : Int) =>
                             true = true ∧
                              LdP w2 none (addP (some { block := b, off := 0 }) 4) (El.one (Sc.int IntKind.i64)) fun (x_9 : Int) =>
                               CaP Tryz.prog 21 (Sh.el (El.one (Sc.int IntKind.i64))) [Value.pointer x, Value.int IntKind.i64 x_4, Value.int IntKind.i64 x_5, Value.int IntKind.i64 x_6] w2 fun (x : Int) (w2 : World) =>
                                rdAt w2 (addP (some { block := b, off := 0 }) 4) (El.one (Sc.int IntKind.i64)) x_9 ∧
                                 True ∧
                                  rdAt w2 (addP (some { block := b, off := 0 }) 3) (El.one (Sc.int IntKind.i64)) x_8 ∧
                                   True ∧
                                    rdAt w2 (addP (some { block := b, off := 0 }) 2) (El.one (Sc.int IntKind.i64)) x_7 ∧
                                     True ∧
                                      CaP Tryz.prog 41 (Sh.el (El.one (Sc.int IntKind.i64))) [Value.pointer x_2, Value.int IntKind.i64 x_7, Value.int IntKind.i64 x_8, Value.int IntKind.i64 x_9] w2 fun (x_10 : Int) (w2 : World) =>
                                       EnP w2 fun (w1 : World) => Post (x == x_10) w1)
                   (brP (x_3 == 2)
                    (true = true ∧
                     LdP w2 none (addP (some { block := b, off := 0 }) 2) (El.one (Sc.int IntKind.i64)) fun (x_4 : Int) =>
                      CaP Tryz.prog 22 (Sh.tup [El.one (Sc.int IntKind.i64), El.one (Sc.int IntKind.i64)]) [Value.pointer x, Value.int IntKind.i64 x_4] w2 fun (x : Int × Int × Unit) (w2 : World) =>
                       true = true ∧
                        LdP w2 none (addP (some { block := b, off := 0 }) 2) (El.one (Sc.int IntKind.i64)) fun (x_5 : Int) =>
                         CaP Tryz.prog 42 (Sh.tup [El.one (Sc.int IntKind.i64), El.one (Sc.int IntKind.i64)]) [Value.pointer x_2, Value.int IntKind.i64 x_5] w2 fun (x_6 : Int × Int × Unit) (w2 : World) =>
                          EnP w2 fun (w1 : World) => Post (x.fst == x_6.fst && x.snd.fst == x_6.snd.fst) w1)
                    (brP (x_3 == 3)
                     (true = true ∧
                      LdP w2 none (addP (some { block := b, off := 0 }) 2) (El.one (Sc.int IntKind.i64)) fun (x_4 : Int) =>
                       true = true ∧
                        LdP w2 none (addP (some { block := b, off := 0 }) 4) (El.one (Sc.int IntKind.i64)) fun (x_5 : Int) =>
                         true = true ∧
                          LdP w2 none (addP (some { block := b, off := 0 }) 2) (El.one (Sc.int IntKind.i64)) fun (x_6 : Int) =>
                           true = true ∧
                            LdP w2 none (addP (some { block := b, off := 0 }) 4) (El.one (Sc.int IntKind.i64)) fun (x_7 : Int) =>
                             CaP Tryz.prog 23 (Sh.el (El.one (Sc.int IntKind.i64))) [Value.pointer x, Value.int IntKind.i64 x_4, Value.int IntKind.i64 x_5] w2 fun (x : Int) (w2 : World) =>
                              rdAt w2 (addP (some { block := b, off := 0 }) 4) (El.one (Sc.int IntKind.i64)) x_7 ∧
                               True ∧
                                rdAt w2 (addP (some { block := b, off := 0 }) 2) (El.one (Sc.int IntKind.i64)) x_6 ∧
                                 True ∧ CaP Tryz.prog 43 (Sh.el (El.one (Sc.int IntKind.i64))) [Value.pointer x_2, Value.int IntKind.i64 x_6, Value.int IntKind.i64 x_7] w2 fun (x_8 : Int) (w2 : World) => EnP w2 fun (w1 : World) => Post (x == x_8) w1)
                     (brP (x_3 == 4)
                      (CaP Tryz.prog 27 (Sh.el (El.one Sc.slice)) [Value.pointer x] w2 fun (x : Option Addr × Nat × Nat) (w2 : World) =>
                       CaP Tryz.prog 44 (Sh.el (El.one Sc.slice)) [Value.pointer x_2] w2 fun (x_4 : Option Addr × Nat × Nat) (w2 : World) =>
                        ∃ (x_5 : Bool), QCalls Tryz.prog 14 [Value.slice x.fst x.snd.fst x.snd.snd, Value.slice x_4.fst x_4.snd.fst x_4.snd.snd] w2 (Value.bool x_5) ∧ EnP w2 fun (w1 : World) => Post x_5 w1)
                      (EnP w2 fun (w1 : World) => Post true w1))))))) := by kernel_rfl
def zplays_vc_ann : Nat → Slots := (fun | 5 => [(7, Go.RX.El.one (Go.RX.Sc.int Go.IntKind.i64))] | _ => [])
theorem zplays_vc (n : Int) (p : Option Addr) (m c : Nat) (w : World) (Post : Bool → World → Prop) : (rxFn N3 zplays_vc_ann 3 [.int .u8 n, .slice p m c] w Post) = (
 CaP Tryz.prog 9 (Sh.tup [El.one Sc.ptr, El.one Sc.bool]) [Value.int IntKind.i64 (addI IntKind.i64 1 (remI (convI IntKind.i64 n) 40))] w fun (x : Option Addr × Bool × Unit) (w2 : World) =>
  brP (!x.snd.fst) (EnP w2 fun (w1 : World) => Post false w1)
   (∃ (I : Nat → Int × Unit → World → Prop),
    (∃ (n : Nat), ∀ (w1 : World), Ext w2 w1 → I n (0, Unit.unit) w1) ∧
     ∀ (n : Nat) (s : Int × Unit) (w1 : World),
      I n s w1 →
       brP (decide (s.fst < (↑m : Int)) && decide (s.fst < 40))
        ((p.isSome = true ∧ 0 ≤ s.fst ∧ s.fst < (↑m : Int)) ∧
         LdP w1 none (addP p (Int.toNat s.fst * 5)) (El.agg [Sc.int IntKind.i64, Sc.int IntKind.i64, Sc.int IntKind.i64, Sc.int IntKind.i64, Sc.int IntKind.i64]) fun (x_1 : Int × Int × Int × Int × Int × Unit) =>
          AlP w1 { toList := [Value.int IntKind.i64 0, Value.int IntKind.i64 0, Value.int IntKind.i64 0, Value.int IntKind.i64 0, Value.int IntKind.i64 0] } 27 fun (b : Nat) (w2 : World) =>
           StP w2 (some { block := b, off := 0 }) [Value.int IntKind.i64 x_1.fst, Value.int IntKind.i64 x_1.snd.fst, Value.int IntKind.i64 x_1.snd.snd.fst, Value.int IntKind.i64 x_1.snd.snd.snd.fst, Value.int IntKind.i64 x_1.snd.snd.snd.snd.fst]
            fun (w2 : World) =>
            LdP w2 none (some { block := b, off := 0 }) (El.agg [Sc.int IntKind.i64, Sc.int IntKind.i64, Sc.int IntKind.i64, Sc.int IntKind.i64, Sc.int IntKind.i64]) fun (x_2 : Int × Int × Int × Int × Int × Unit) =>
             CaP Tryz.prog 10 (Sh.el (El.one Sc.bool))
              [Value.pointer x.fst,
               Value.agg { toList := [Value.int IntKind.i64 x_2.fst, Value.int IntKind.i64 x_2.snd.fst, Value.int IntKind.i64 x_2.snd.snd.fst, Value.int IntKind.i64 x_2.snd.snd.snd.fst, Value.int IntKind.i64 x_2.snd.snd.snd.snd.fst] }]
              w2 fun (x_3 : Bool) (w2 : World) =>
              brP (!x_3) (EnP w2 fun (w1 : World) => Post false w1)
               (CaP Tryz.prog 11 (Sh.el (El.one Sc.bool)) [Value.pointer x.fst] w2 fun (x_4 : Bool) (w2 : World) =>
                brP (!x_4) (EnP w2 fun (w1 : World) => Post false w1)
                 (true = true ∧
                  LdP w2 none (addP (some { block := b, off := 0 }) 1) (El.one (Sc.int IntKind.i64)) fun (x_5 : Int) =>
                   x.fst.isSome = true ∧
                    x.fst.isSome = true ∧
                     ((addP x.fst 2).isSome = true ∧ 0 ≤ andI IntKind.i64 x_5 1 ∧ andI IntKind.i64 x_5 1 < (↑2 : Int)) ∧
                      LdP w2 none (addP (addP x.fst 2) ((andI IntKind.i64 x_5 1).toNat * 1)) (El.one Sc.ptr) fun (x_6 : Option Addr) =>
                       true = true ∧
                        LdP w2 none (addP (some { block := b, off := 0 }) 1) (El.one (Sc.int IntKind.i64)) fun (x_7 : Int) =>
                         x.fst.isSome = true ∧
                          x.fst.isSome = true ∧
                           ((addP x.fst 6).isSome = true ∧ 0 ≤ andI IntKind.i64 x_7 1 ∧ andI IntKind.i64 x_7 1 < (↑2 : Int)) ∧
                            LdP w2 none (addP (addP x.fst 6) ((andI IntKind.i64 x_7 1).toNat * 1)) (El.one Sc.ptr) fun (x : Option Addr) =>
                             brP x_6.isNone (∀ (w3 : World), Ext w2 w3 → ∃ (n' : Nat), n' < n ∧ I n' (addI IntKind.i64 s.fst 1, Unit.unit) w3)
                              (true = true ∧
                               LdP w2 none (addP (some { block := b, off := 0 }) 2) (El.one (Sc.int IntKind.i64)) fun (x_8 : Int) =>
                                CaP Tryz.prog 12 (Sh.tup [El.one (Sc.int IntKind.i64), El.one (Sc.int IntKind.i64), El.one (Sc.int IntKind.i64)]) [Value.pointer x_6, Value.int IntKind.i64 x_8] w2 fun (x_9 : Int × Int × Int × Unit) (w2 : World) =>
                                 true = true ∧
                                  LdP w2 none (addP (some { block := b, off := 0 }) 2) (El.one (Sc.int IntKind.i64)) fun (x_10 : Int) =>
                                   CaP Tryz.prog 13 (Sh.tup [El.one (Sc.int IntKind.i64), El.one (Sc.int IntKind.i64), El.one (Sc.int IntKind.i64)]) [Value.pointer x, Value.int IntKind.i64 x_10] w2 fun (x_11 : Int × Int × Int × Unit) (w2 : World) =>
                                    brP (x_9.fst != x_11.fst || x_9.snd.fst != x_11.snd.fst || x_9.snd.snd.fst != x_11.snd.snd.fst)
                                     (∃ (x_12 : Int),
                                      (false = true → QCalls Tryz.prog 17 [Value.pointer x_6] w2 (Value.int IntKind.i64 x_12)) ∧
                                       ∃ (x_13 : Int), (false = true → QCalls Tryz.prog 18 [Value.pointer x] w2 (Value.int IntKind.i64 x_13)) ∧ EnP w2 fun (w1 : World) => Post false w1)
                                     (CaP Tryz.prog 15 (Sh.el (El.one Sc.slice)) [Value.pointer x_6] w2 fun (x_12 : Option Addr × Nat × Nat) (w2 : World) =>
                                      CaP Tryz.prog 16 (Sh.el (El.one Sc.slice)) [Value.pointer x] w2 fun (x_13 : Option Addr × Nat × Nat) (w2 : World) =>
                                       ∃ (x_14 : Bool),
                                        QCalls Tryz.prog 14 [Value.slice x_12.fst x_12.snd.fst x_12.snd.snd, Value.slice x_13.fst x_13.snd.fst x_13.snd.snd] w2 (Value.bool x_14) ∧
                                         ∃ (x_15 : Int),
                                          ((!!x_14) = true → QCalls Tryz.prog 17 [Value.pointer x_6] w2 (Value.int IntKind.i64 x_15)) ∧
                                           ∃ (x_16 : Int),
                                            ((!!x_14) = true → QCalls Tryz.prog 18 [Value.pointer x] w2 (Value.int IntKind.i64 x_16)) ∧
                                             brP (!x_14 || x_15 != x_16) (EnP w2 fun (w1 : World) => Post false w1) (∀ (w3 : World), Ext w2 w3 → ∃ (n' : Nat), n' < n ∧ I n' (addI IntKind.i64 s.fst 1, Unit.unit) w3))))))
        (CaP Tryz.prog 19 (Sh.el (El.one Sc.bool)) [] w1 fun (x : Bool) (w2 : World) => EnP w2 fun (w1 : World) => Post x w1))) := by kernel_rfl
def zmodel_vc_ann : Nat → Slots := (fun | 9 => [(8, Go.RX.El.one (Go.RX.Sc.int Go.IntKind.i64)), (9, Go.RX.El.one (Go.RX.Sc.int Go.IntKind.i64)), (11, Go.RX.El.one (Go.RX.Sc.int Go.IntKind.i64))] | 1000012 => [(15, .one .bool), (8, Go.RX.El.one (Go.RX.Sc.int Go.IntKind.i64)), (9, Go.RX.El.one (Go.RX.Sc.int Go.IntKind.i64))] | 1000015 => [(18, .one .bool), (8, Go.RX.El.one (Go.RX.Sc.int Go.IntKind.i64)), (9, Go.RX.El.one (Go.RX.Sc.int Go.IntKind.i64))] | 1000018 => [(25, .one .bool), (8, Go.RX.El.one (Go.RX.Sc.int Go.IntKind.i64)), (9, Go.RX.El.one (Go.RX.Sc.int Go.IntKind.i64))] | 1000025 => [(27, .one .bool), (9, Go.RX.El.one (Go.RX.Sc.int Go.IntKind.i64))] | _ => [])
theorem zmodel_vc (p : Option Addr) (m c : Nat) (pg : Int) (w : World) (Post : Bool → World → Prop) : (rxFn N3 zmodel_vc_ann 4 [.slice p m c, .int .u16 pg] w Post) = (
 CaP Tryz.prog 9 (Sh.tup [El.one Sc.ptr, El.one Sc.bool]) [Value.int IntKind.i64 200] w fun (x : Option Addr × Bool × Unit) (w2 : World) =>
  ((!!x.snd.fst) = true → x.fst.isSome = true) ∧
   ((!!x.snd.fst) = true → x.fst.isSome = true) ∧
    ((!!x.snd.fst) = true → (addP x.fst 2).isSome = true ∧ (0 : Int) ≤ 0 ∧ 0 < (↑2 : Int)) ∧
     LdP w2 (some !!x.snd.fst) (addP (addP x.fst 2) 0) (El.one Sc.ptr) fun (x_1 : Option Addr) =>
      brP (!x.snd.fst || x_1.isNone) (EnP w2 fun (w1 : World) => Post false w1)
       (x.fst.isSome = true ∧
        x.fst.isSome = true ∧
         ((addP x.fst 2).isSome = true ∧ (0 : Int) ≤ 0 ∧ 0 < (↑2 : Int)) ∧
          LdP w2 none (addP (addP x.fst 2) 0) (El.one Sc.ptr) fun (x_2 : Option Addr) =>
           ∃ (I : Nat → Int × Int × Int × Unit → World → Prop),
            (∃ (n : Nat), ∀ (w1 : World), Ext w2 w1 → I n (0, 0, 0, Unit.unit) w1) ∧
             ∀ (n : Nat) (s : Int × Int × Int × Unit) (w1 : World),
              I n s w1 →
               brP (decide (s.snd.snd.fst < (↑m : Int)) && decide (s.snd.snd.fst < 30))
                ((p.isSome = true ∧ 0 ≤ s.snd.snd.fst ∧ s.snd.snd.fst < (↑m : Int)) ∧
                 LdP w1 none (addP p (Int.toNat s.snd.snd.fst * 5)) (El.agg [Sc.int IntKind.i64, Sc.int IntKind.i64, Sc.int IntKind.i64, Sc.int IntKind.i64, Sc.int IntKind.i64]) fun (x_3 : Int × Int × Int × Int × Int × Unit) =>
                  AlP w1 { toList := [Value.int IntKind.i64 0, Value.int IntKind.i64 0, Value.int IntKind.i64 0, Value.int IntKind.i64 0, Value.int IntKind.i64 0] } 27 fun (b : Nat) (w2 : World) =>
                   StP w2 (some { block := b, off := 0 })
                    [Value.int IntKind.i64 x_3.fst, Value.int IntKind.i64 x_3.snd.fst, Value.int IntKind.i64 x_3.snd.snd.fst, Value.int IntKind.i64 x_3.snd.snd.snd.fst, Value.int IntKind.i64 x_3.snd.snd.snd.snd.fst] fun (w2 : World) =>
                    ∃ (J : Int × Int × Unit → World → Prop),
                     (true = true ∧
                       LdP w2 none (addP (some { block := b, off := 0 }) 0) (El.one (Sc.int IntKind.i64)) fun (x : Int) =>
                        ((x == 0) = true → true = true) ∧
                         LdP w2 (some (x == 0)) (addP (some { block := b, off := 0 }) 2) (El.one (Sc.int IntKind.i64)) fun (x_4 : Int) =>
                          ((x == 0) = true → true = true) ∧
                           LdP w2 (some (x == 0)) (addP (some { block := b, off := 0 }) 3) (El.one (Sc.int IntKind.i64)) fun (x_5 : Int) =>
                            ((x == 0) = true → true = true) ∧
                             LdP w2 (some (x == 0)) (addP (some { block := b, off := 0 }) 4) (El.one (Sc.int IntKind.i64)) fun (x_6 : Int) =>
                              brP (x == 0)
                               (CaP Tryz.prog 20 (Sh.el (El.one (Sc.int IntKind.i64))) [Value.pointer x_2, Value.int IntKind.i64 x_4, Value.int IntKind.i64 x_5, Value.int IntKind.i64 x_6] w2 fun (x : Int) (w2 : World) =>
                                ((x == 0) = true → true = true) ∧
                                 LdP w2 (some (x == 0)) (addP (some { block := b, off := 0 }) 2) (El.one (Sc.int IntKind.i64)) fun (x_7 : Int) =>
                                  brP (x == 0 && x_7 == convI IntKind.i64 pg)
                                   (true = true ∧
                                    LdP w2 none (addP (some { block := b, off := 0 }) 3) (El.one (Sc.int IntKind.i64)) fun (x : Int) =>
                                     true = true ∧ LdP w2 none (addP (some { block := b, off := 0 }) 4) (El.one (Sc.int IntKind.i64)) fun (x_8 : Int) => J (x, x_8, Unit.unit) w2)
                                   (J (s.fst, s.snd.fst, Unit.unit) w2))
                               ((false = true → true = true) ∧ LdP w2 (some false) (addP (some { block := b, off := 0 }) 2) (El.one (Sc.int IntKind.i64)) fun (x : Int) => J (s.fst, s.snd.fst, Unit.unit) w2)) ∧
                      ∀ (s_1 : Int × Int × Unit) (w1 : World),
                       J s_1 w1 →
                        ∃ (J : Int × Int × Unit → World → Prop),
                         (true = true ∧
                           LdP w1 none (addP (some { block := b, off := 0 }) 0) (El.one (Sc.int IntKind.i64)) fun (x : Int) =>
                            ((x == 1) = true → true = true) ∧
                             LdP w1 (some (x == 1)) (addP (some { block := b, off := 0 }) 2) (El.one (Sc.int IntKind.i64)) fun (x_4 : Int) =>
                              ((x == 1) = true → true = true) ∧
                               LdP w1 (some (x == 1)) (addP (some { block := b, off := 0 }) 3) (El.one (Sc.int IntKind.i64)) fun (x_5 : Int) =>
                                ((x == 1) = true → true = true) ∧
                                 LdP w1 (some (x == 1)) (addP (some { block := b, off := 0 }) 4) (El.one (Sc.int IntKind.i64)) fun (x_6 : Int) =>
                                  brP (x == 1)
                                   (CaP Tryz.prog 21 (Sh.el (El.one (Sc.int IntKind.i64))) [Value.pointer x_2, Value.int IntKind.i64 x_4, Value.int IntKind.i64 x_5, Value.int IntKind.i64 x_6] w1 fun (x : Int) (w2 : World) =>
                                    ((x == 0) = true → true = true) ∧
                                     LdP w2 (some (x == 0)) (addP (some { block := b, off := 0 }) 2) (El.one (Sc.int IntKind.i64)) fun (x_7 : Int) =>
                                      brP (x == 0 && x_7 == subI IntKind.i64 (convI IntKind.i64 pg) (remI (convI IntKind.i64 pg) 16))
                                       (true = true ∧
                                        LdP w2 none (addP (some { block := b, off := 0 }) 3) (El.one (Sc.int IntKind.i64)) fun (x : Int) =>
                                         true = true ∧ LdP w2 none (addP (some { block := b, off := 0 }) 4) (El.one (Sc.int IntKind.i64)) fun (x_8 : Int) => J (addI IntKind.i64 x (remI (convI IntKind.i64 pg) 16), x_8, Unit.unit) w2)
                                       (J (s_1.fst, s_1.snd.fst, Unit.unit) w2))
                                   ((false = true → true = true) ∧ LdP w1 (some false) (addP (some { block := b, off := 0 }) 2) (El.one (Sc.int IntKind.i64)) fun (x : Int) => J (s_1.fst, s_1.snd.fst, Unit.unit) w1)) ∧
                          ∀ (s_2 : Int × Int × Unit) (w1 : World),
                           J s_2 w1 →
                            ∃ (J : Int × Int × Unit → World → Prop),
                             (true = true ∧
                               LdP w1 none (addP (some { block := b, off := 0 }) 0) (El.one (Sc.int IntKind.i64)) fun (x : Int) =>
                                brP (x == 2)
                                 (true = true ∧
                                  LdP w1 none (addP (some { block := b, off := 0 }) 2) (El.one (Sc.int IntKind.i64)) fun (x : Int) =>
                                   CaP Tryz.prog 22 (Sh.tup [El.one (Sc.int IntKind.i64), El.one (Sc.int IntKind.i64)]) [Value.pointer x_2, Value.int IntKind.i64 x] w1 fun (x : Int × Int × Unit) (w2 : World) =>
                                    true = true ∧
                                     LdP w2 none (addP (some { block := b, off := 0 }) 2) (El.one (Sc.int IntKind.i64)) fun (x_4 : Int) =>
                                      ((!(x_4 == convI IntKind.i64 pg && !(x.snd.fst == 0) == decide (s_2.snd.fst > 0))) = true → true = true) ∧
                                       LdP w2 (some !(x_4 == convI IntKind.i64 pg && !(x.snd.fst == 0) == decide (s_2.snd.fst > 0))) (addP (some { block := b, off := 0 }) 2) (El.one (Sc.int IntKind.i64)) fun (x_5 : Int) =>
                                        brP (x_4 == convI IntKind.i64 pg && !(x.snd.fst == 0) == decide (s_2.snd.fst > 0) || x_5 == convI IntKind.i64 pg && x.snd.fst == 0 && x.fst != s_2.fst) (EnP w2 fun (w1 : World) => Post false w1)
                                         (true = true ∧
                                          LdP w2 none (addP (some { block := b, off := 0 }) 2) (El.one (Sc.int IntKind.i64)) fun (x : Int) => brP (x == convI IntKind.i64 pg) (J (0, 0, Unit.unit) w2) (J (s_2.fst, s_2.snd.fst, Unit.unit) w2)))
                                 (J (s_2.fst, s_2.snd.fst, Unit.unit) w1)) ∧
                              ∀ (s_3 : Int × Int × Unit) (w1 : World),
                               J s_3 w1 →
                                ∃ (J : Int × Unit → World → Prop),
                                 (true = true ∧
                                   LdP w1 none (addP (some { block := b, off := 0 }) 0) (El.one (Sc.int IntKind.i64)) fun (x : Int) =>
                                    ((x == 3) = true → true = true) ∧
                                     LdP w1 (some (x == 3)) (addP (some { block := b, off := 0 }) 2) (El.one (Sc.int IntKind.i64)) fun (x_4 : Int) =>
                                      ((x == 3) = true → true = true) ∧
                                       LdP w1 (some (x == 3)) (addP (some { block := b, off := 0 }) 4) (El.one (Sc.int IntKind.i64)) fun (x_5 : Int) =>
                                        brP (x == 3)
                                         (CaP Tryz.prog 23 (Sh.el (El.one (Sc.int IntKind.i64))) [Value.pointer x_2, Value.int IntKind.i64 x_4, Value.int IntKind.i64 x_5] w1 fun (x : Int) (w2 : World) =>
                                          ((x == 0) = true → true = true) ∧
                                           LdP w2 (some (x == 0)) (addP (some { block := b, off := 0 }) 2) (El.one (Sc.int IntKind.i64)) fun (x_6 : Int) =>
                                            brP (x == 0 && x_6 == convI IntKind.i64 pg) (true = true ∧ LdP w2 none (addP (some { block := b, off := 0 }) 4) (El.one (Sc.int IntKind.i64)) fun (x : Int) => J (x, Unit.unit) w2)
                                             (J (s_3.snd.fst, Unit.unit) w2))
                                         ((false = true → true = true) ∧ LdP w1 (some false) (addP (some { block := b, off := 0 }) 2) (El.one (Sc.int IntKind.i64)) fun (x : Int) => J (s_3.snd.fst, Unit.unit) w1)) ∧
                                  ∀ (s_4 : Int × Unit) (w1 : World),
                                   J s_4 w1 →
                                    CaP Tryz.prog 12 (Sh.tup [El.one (Sc.int IntKind.i64), El.one (Sc.int IntKind.i64), El.one (Sc.int IntKind.i64)]) [Value.pointer x_2, Value.int IntKind.i64 (convI IntKind.i64 pg)] w1
                                     fun (x_4 : Int × Int × Int × Unit) (w2 : World) =>
                                     x.fst.isSome = true ∧
                                      x.fst.isSome = true ∧
                                       LdP w2 none (addP x.fst 0) (El.one Sc.ptr) fun (x : Option Addr) =>
                                        ∃ (x_5 : Int),
                                         QCalls Tryz.prog 17 [Value.pointer x_2] w2 (Value.int IntKind.i64 x_5) ∧
                                          (CaP Tryz.prog 24 (Sh.el (El.agg [Sc.int IntKind.i64, Sc.int IntKind.i64, Sc.int IntKind.i64, Sc.int IntKind.i64]))
                                            [Value.pointer x, Value.int IntKind.i64 x_5, Value.int IntKind.i64 (convI IntKind.i64 pg), Value.int IntKind.i64 0] w2 fun (x : Int × Int × Int × Int × Unit) (w2 : World) =>
                                            AlP w2 { toList := [Value.int IntKind.i64 0, Value.int IntKind.i64 0, Value.int IntKind.i64 0, Value.int IntKind.i64 0] } 54 fun (b : Nat) (w2 : World) =>
                                             StP w2 (some { block := b, off := 0 }) [Value.int IntKind.i64 x.fst, Value.int IntKind.i64 x.snd.fst, Value.int IntKind.i64 x.snd.snd.fst, Value.int IntKind.i64 x.snd.snd.snd.fst] fun (w2 : World) =>
                                              ((!(!(x_4.snd.snd.fst == 0) == decide (s_4.fst > 0) || x_4.fst != s_3.fst || x_4.snd.fst != s_4.fst)) = true → true = true) ∧
                                               LdP w2 (some !(!(x_4.snd.snd.fst == 0) == decide (s_4.fst > 0) || x_4.fst != s_3.fst || x_4.snd.fst != s_4.fst)) (addP (some { block := b, off := 0 }) 0) (El.one (Sc.int IntKind.i64)) fun (x : Int) =>
                                                ((!(!(x_4.snd.snd.fst == 0) == decide (s_4.fst > 0) || x_4.fst != s_3.fst || x_4.snd.fst != s_4.fst || x != x_4.fst)) = true → true = true) ∧
                                                 LdP w2 (some !(!(x_4.snd.snd.fst == 0) == decide (s_4.fst > 0) || x_4.fst != s_3.fst || x_4.snd.fst != s_4.fst || x != x_4.fst)) (addP (some { block := b, off := 0 }) 1) (El.one (Sc.int IntKind.i64))
                                                  fun (x_6 : Int) =>
                                                  ((!(!(x_4.snd.snd.fst == 0) == decide (s_4.fst > 0) || x_4.fst != s_3.fst || x_4.snd.fst != s_4.fst || x != x_4.fst || x_6 != x_4.snd.fst)) = true → true = true) ∧
                                                   LdP w2 (some !(!(x_4.snd.snd.fst == 0) == decide (s_4.fst > 0) || x_4.fst != s_3.fst || x_4.snd.fst != s_4.fst || x != x_4.fst || x_6 != x_4.snd.fst)) (addP (some { block := b, off := 0 }) 3)
                                                    (El.one (Sc.int IntKind.i64)) fun (x_7 : Int) =>
                                                    brP (!(x_4.snd.snd.fst == 0) == decide (s_4.fst > 0) || x_4.fst != s_3.fst || x_4.snd.fst != s_4.fst || x != x_4.fst || x_6 != x_4.snd.fst || !(x_7 == 0) == (x_4.snd.snd.fst == 0))
                                                     (EnP w2 fun (w1 : World) => Post false w1) (∀ (w3 : World), Ext w2 w3 → ∃ (n' : Nat), n' < n ∧ I n' (s_3.fst, s_4.fst, addI IntKind.i64 s.snd.snd.fst 1, Unit.unit) w3)) ∧
                                           AlP w2 { toList := [Value.int IntKind.i64 0, Value.int IntKind.i64 0, Value.int IntKind.i64 0, Value.int IntKind.i64 0] } 54 fun (b : Nat) (w2 : World) =>
                                            CaP Tryz.prog 24 (Sh.el (El.agg [Sc.int IntKind.i64, Sc.int IntKind.i64, Sc.int IntKind.i64, Sc.int IntKind.i64]))
                                             [Value.pointer x, Value.int IntKind.i64 x_5, Value.int IntKind.i64 (convI IntKind.i64 pg), Value.int IntKind.i64 0] w2 fun (x : Int × Int × Int × Int × Unit) (w2 : World) =>
                                             StP w2 (some { block := b, off := 0 }) [Value.int IntKind.i64 x.fst, Value.int IntKind.i64 x.snd.fst, Value.int IntKind.i64 x.snd.snd.fst, Value.int IntKind.i64 x.snd.snd.snd.fst] fun (w2 : World) =>
                                              ((!(!(x_4.snd.snd.fst == 0) == decide (s_4.fst > 0) || x_4.fst != s_3.fst || x_4.snd.fst != s_4.fst)) = true → true = true) ∧
                                               LdP w2 (some !(!(x_4.snd.snd.fst == 0) == decide (s_4.fst > 0) || x_4.fst != s_3.fst || x_4.snd.fst != s_4.fst)) (addP (some { block := b, off := 0 }) 0) (El.one (Sc.int IntKind.i64)) fun (x : Int) =>
                                                ((!(!(x_4.snd.snd.fst == 0) == decide (s_4.fst > 0) || x_4.fst != s_3.fst || x_4.snd.fst != s_4.fst || x != x_4.fst)) = true → true = true) ∧
                                                 LdP w2 (some !(!(x_4.snd.snd.fst == 0) == decide (s_4.fst > 0) || x_4.fst != s_3.fst || x_4.snd.fst != s_4.fst || x != x_4.fst)) (addP (some { block := b, off := 0 }) 1) (El.one (Sc.int IntKind.i64))
                                                  fun (x_6 : Int) =>
                                                  ((!(!(x_4.snd.snd.fst == 0) == decide (s_4.fst > 0) || x_4.fst != s_3.fst || x_4.snd.fst != s_4.fst || x != x_4.fst || x_6 != x_4.snd.fst)) = true → true = true) ∧
                                                   LdP w2 (some !(!(x_4.snd.snd.fst == 0) == decide (s_4.fst > 0) || x_4.fst != s_3.fst || x_4.snd.fst != s_4.fst || x != x_4.fst || x_6 != x_4.snd.fst)) (addP (some { block := b, off := 0 }) 3)
                                                    (El.one (Sc.int IntKind.i64)) fun (x_7 : Int) =>
                                                    brP (!(x_4.snd.snd.fst == 0) == decide (s_4.fst > 0) || x_4.fst != s_3.fst || x_4.snd.fst != s_4.fst || x != x_4.fst || x_6 != x_4.snd.fst || !(x_7 == 0) == (x_4.snd.snd.fst == 0))
                                                     (EnP w2 fun (w1 : World) => Post false w1) (∀ (w3 : World), Ext w2 w3 → ∃ (n' : Nat), n' < n ∧ I n' (s_3.fst, s_4.fst, addI IntKind.i64 s.snd.snd.fst 1, Unit.unit) w3))
                (CaP Tryz.prog 19 (Sh.el (El.one Sc.bool)) [] w1 fun (x : Bool) (w2 : World) => EnP w2 fun (w1 : World) => Post x w1))) := by kernel_rfl
def zfails_vc_ann : Nat → Slots := (fun | 5 => [(7, Go.RX.El.one (Go.RX.Sc.int Go.IntKind.i64))] | 30 => [(15, Go.RX.El.one (Go.RX.Sc.int Go.IntKind.i64))] | 1000015 => [(25, .one .bool), (12, Go.RX.El.one (Go.RX.Sc.int Go.IntKind.i64))] | _ => [])
theorem zfails_vc (n : Int) (p : Option Addr) (m c : Nat) (w : World) (Post : Bool → World → Prop) : (rxFn N3 zfails_vc_ann 8 [.int .u8 n, .slice p m c] w Post) = (
 CaP Tryz.prog 9 (Sh.tup [El.one Sc.ptr, El.one Sc.bool]) [Value.int IntKind.i64 (addI IntKind.i64 1 (remI (convI IntKind.i64 n) 20))] w fun (x : Option Addr × Bool × Unit) (w2 : World) =>
  brP (!x.snd.fst) (EnP w2 fun (w1 : World) => Post false w1)
   (∃ (I : Nat → Int × Unit → World → Prop),
    (∃ (n : Nat), ∀ (w1 : World), Ext w2 w1 → I n (0, Unit.unit) w1) ∧
     ∀ (n : Nat) (s : Int × Unit) (w1 : World),
      I n s w1 →
       brP (decide (s.fst < (↑m : Int)) && decide (s.fst < 40))
        ((p.isSome = true ∧ 0 ≤ s.fst ∧ s.fst < (↑m : Int)) ∧
         LdP w1 none (addP p (Int.toNat s.fst * 5)) (El.agg [Sc.int IntKind.i64, Sc.int IntKind.i64, Sc.int IntKind.i64, Sc.int IntKind.i64, Sc.int IntKind.i64]) fun (x_1 : Int × Int × Int × Int × Int × Unit) =>
          AlP w1 { toList := [Value.int IntKind.i64 0, Value.int IntKind.i64 0, Value.int IntKind.i64 0, Value.int IntKind.i64 0, Value.int IntKind.i64 0] } 27 fun (b : Nat) (w2 : World) =>
           StP w2 (some { block := b, off := 0 }) [Value.int IntKind.i64 x_1.fst, Value.int IntKind.i64 x_1.snd.fst, Value.int IntKind.i64 x_1.snd.snd.fst, Value.int IntKind.i64 x_1.snd.snd.snd.fst, Value.int IntKind.i64 x_1.snd.snd.snd.snd.fst]
            fun (w2 : World) =>
            true = true ∧
             LdP w2 none (addP (some { block := b, off := 0 }) 1) (El.one (Sc.int IntKind.i64)) fun (x_2 : Int) =>
              x.fst.isSome = true ∧
               x.fst.isSome = true ∧
                ((addP x.fst 2).isSome = true ∧ 0 ≤ andI IntKind.i64 x_2 1 ∧ andI IntKind.i64 x_2 1 < (↑2 : Int)) ∧
                 LdP w2 none (addP (addP x.fst 2) ((andI IntKind.i64 x_2 1).toNat * 1)) (El.one Sc.ptr) fun (x_3 : Option Addr) =>
                  ((!x_3.isNone) = true → true = true) ∧
                   LdP w2 (some !x_3.isNone) (addP (some { block := b, off := 0 }) 0) (El.one (Sc.int IntKind.i64)) fun (x_4 : Int) =>
                    brP (x_3.isNone || x_4 == 4) (∀ (w3 : World), Ext w2 w3 → ∃ (n' : Nat), n' < n ∧ I n' (addI IntKind.i64 s.fst 1, Unit.unit) w3)
                     (x.fst.isSome = true ∧
                      x.fst.isSome = true ∧
                       LdP w2 none (addP x.fst 0) (El.one Sc.ptr) fun (x_5 : Option Addr) =>
                        CaP Tryz.prog 28 (Sh.el (El.one Sc.ptr)) [Value.pointer x_5] w2 fun (x_6 : Option Addr) (w2 : World) =>
                         x.fst.isSome = true ∧
                          x.fst.isSome = true ∧
                           LdP w2 none (addP x.fst 1) (El.one Sc.ptr) fun (x_7 : Option Addr) =>
                            CaP Tryz.prog 29 (Sh.el (El.one Sc.ptr)) [Value.pointer x_7] w2 fun (x_8 : Option Addr) (w2 : World) =>
                             brP (x_6.isNone || x_8.isNone) (EnP w2 fun (w1 : World) => Post false w1)
                              (∃ (J : Int × Unit → World → Prop),
                               (true = true ∧
                                 LdP w2 none (addP (some { block := b, off := 0 }) 0) (El.one (Sc.int IntKind.i64)) fun (x : Int) =>
                                  brP (x == 0)
                                   (true = true ∧
                                    LdP w2 none (addP (some { block := b, off := 0 }) 2) (El.one (Sc.int IntKind.i64)) fun (x : Int) =>
                                     true = true ∧
                                      LdP w2 none (addP (some { block := b, off := 0 }) 3) (El.one (Sc.int IntKind.i64)) fun (x_9 : Int) =>
                                       true = true ∧
                                        LdP w2 none (addP (some { block := b, off := 0 }) 4) (El.one (Sc.int IntKind.i64)) fun (x_10 : Int) =>
                                         CaP Tryz.prog 20 (Sh.el (El.one (Sc.int IntKind.i64))) [Value.pointer x_3, Value.int IntKind.i64 x, Value.int IntKind.i64 x_9, Value.int IntKind.i64 x_10] w2 fun (x : Int) (w2 : World) => J (x, Unit.unit) w2)
                                   (brP (x == 1)
                                    (true = true ∧
                                     LdP w2 none (addP (some { block := b, off := 0 }) 2) (El.one (Sc.int IntKind.i64)) fun (x : Int) =>
                                      true = true ∧
                                       LdP w2 none (addP (some { block := b, off := 0 }) 3) (El.one (Sc.int IntKind.i64)) fun (x_9 : Int) =>
                                        true = true ∧
                                         LdP w2 none (addP (some { block := b, off := 0 }) 4) (El.one (Sc.int IntKind.i64)) fun (x_10 : Int) =>
                                          CaP Tryz.prog 21 (Sh.el (El.one (Sc.int IntKind.i64))) [Value.pointer x_3, Value.int IntKind.i64 x, Value.int IntKind.i64 x_9, Value.int IntKind.i64 x_10] w2 fun (x : Int) (w2 : World) => J (x, Unit.unit) w2)
                                    (brP (x == 2)
                                     (true = true ∧
                                      LdP w2 none (addP (some { block := b, off := 0 }) 2) (El.one (Sc.int IntKind.i64)) fun (x : Int) =>
                                       CaP Tryz.prog 22 (Sh.tup [El.one (Sc.int IntKind.i64), El.one (Sc.int IntKind.i64)]) [Value.pointer x_3, Value.int IntKind.i64 x] w2 fun (x : Int × Int × Unit) (w2 : World) => J (x.snd.fst, Unit.unit) w2)
                                     (brP (x == 3)
                                      (true = true ∧
                                       LdP w2 none (addP (some { block := b, off := 0 }) 2) (El.one (Sc.int IntKind.i64)) fun (x : Int) =>
                                        true = true ∧
                                         LdP w2 none (addP (some { block := b, off := 0 }) 4) (El.one (Sc.int IntKind.i64)) fun (x_9 : Int) =>
                                          CaP Tryz.prog 23 (Sh.el (El.one (Sc.int IntKind.i64))) [Value.pointer x_3, Value.int IntKind.i64 x, Value.int IntKind.i64 x_9] w2 fun (x : Int) (w2 : World) => J (x, Unit.unit) w2)
                                      (J (0, Unit.unit) w2))))) ∧
                                ∀ (s_1 : Int × Unit) (w1 : World),
                                 J s_1 w1 →
                                  ∃ (x_9 : Int),
                                   ((s_1.fst != 0) = true → QCalls Tryz.prog 31 [Value.pointer x_6] w1 (Value.int IntKind.i64 x_9)) ∧
                                    ((s_1.fst != 0) = true → x.fst.isSome = true) ∧
                                     ((s_1.fst != 0) = true → x.fst.isSome = true) ∧
                                      LdP w1 (some (s_1.fst != 0)) (addP x.fst 0) (El.one Sc.ptr) fun (x_10 : Option Addr) =>
                                       ((s_1.fst != 0) = true → x.fst.isSome = true) ∧
                                        ((s_1.fst != 0) = true → x.fst.isSome = true) ∧
                                         LdP w1 (some (s_1.fst != 0)) (addP x.fst 0) (El.one Sc.ptr) fun (x_11 : Option Addr) =>
                                          brP (s_1.fst != 0)
                                           (CaP Tryz.prog 25 (Sh.el (El.one Sc.slice)) [Value.pointer x_6, Value.int IntKind.i64 0, Value.int IntKind.i64 x_9] w1 fun (x_12 : Option Addr × Nat × Nat) (w2 : World) =>
                                            ((s_1.fst != 0) = true → rdAt w2 (addP x.fst 0) (El.one Sc.ptr) x_11) ∧
                                             True ∧
                                              True ∧
                                               ((s_1.fst != 0) = true → rdAt w2 (addP x.fst 0) (El.one Sc.ptr) x_10) ∧
                                                True ∧
                                                 True ∧
                                                  ∃ (x_13 : Int),
                                                   QCalls Tryz.prog 31 [Value.pointer x_11] w2 (Value.int IntKind.i64 x_13) ∧
                                                    CaP Tryz.prog 25 (Sh.el (El.one Sc.slice)) [Value.pointer x_10, Value.int IntKind.i64 0, Value.int IntKind.i64 x_13] w2 fun (x_14 : Option Addr × Nat × Nat) (w2 : World) =>
                                                     ∃ (x_15 : Bool),
                                                      QCalls Tryz.prog 30 [Value.slice x_12.fst x_12.snd.fst x_12.snd.snd, Value.slice x_14.fst x_14.snd.fst x_14.snd.snd] w2 (Value.bool x_15) ∧
                                                       brP (!x_15) (EnP w2 fun (w1 : World) => Post false w1)
                                                        (((s_1.fst == 12) = true → x.fst.isSome = true) ∧
                                                         ((s_1.fst == 12) = true → x.fst.isSome = true) ∧
                                                          LdP w2 (some (s_1.fst == 12)) (addP x.fst 1) (El.one Sc.ptr) fun (x_16 : Option Addr) =>
                                                           ∃ (x_17 : Int),
                                                            ((s_1.fst == 12) = true → QCalls Tryz.prog 26 [Value.pointer x_16, Value.int IntKind.i64 0] w2 (Value.int IntKind.i64 x_17)) ∧
                                                             ((!(s_1.fst == 12 && decide (x_17 > 3))) = true → true = true) ∧
                                                              LdP w2 (some !(s_1.fst == 12 && decide (x_17 > 3))) (addP (some { block := b, off := 0 }) 0) (El.one (Sc.int IntKind.i64)) fun (x_18 : Int) =>
                                                               ∃ (x_19 : Int),
                                                                ((!(s_1.fst == 12 && decide (x_17 > 3)) && x_18 != 2) = true → QCalls Tryz.prog 26 [Value.pointer x_8, Value.int IntKind.i64 5] w2 (Value.int IntKind.i64 x_19)) ∧
                                                                 ((!(s_1.fst == 12 && decide (x_17 > 3)) && x_18 != 2) = true → x.fst.isSome = true) ∧
                                                                  ((!(s_1.fst == 12 && decide (x_17 > 3)) && x_18 != 2) = true → x.fst.isSome = true) ∧
                                                                   LdP w2 (some (!(s_1.fst == 12 && decide (x_17 > 3)) && x_18 != 2)) (addP x.fst 1) (El.one Sc.ptr) fun (x_20 : Option Addr) =>
                                                                    ∃ (x_21 : Int),
                                                                     ((!(s_1.fst == 12 && decide (x_17 > 3)) && x_18 != 2) = true → QCalls Tryz.prog 26 [Value.pointer x_20, Value.int IntKind.i64 5] w2 (Value.int IntKind.i64 x_21)) ∧
                                                                      brP (s_1.fst == 12 && decide (x_17 > 3) || x_18 != 2 && x_19 != x_21) (EnP w2 fun (w1 : World) => Post false w1)
                                                                       (∃ (I_1 : Nat → Int × Unit → World → Prop),
                                                                        (∃ (n : Nat), ∀ (w1 : World), Ext w2 w1 → I_1 n (0, Unit.unit) w1) ∧
                                                                         ∀ (n_1 : Nat) (s_2 : Int × Unit) (w1 : World),
                                                                          I_1 n_1 s_2 w1 →
                                                                           ∃ (x_22 : Int),
                                                                            QCalls Tryz.prog 32 [Value.pointer x_8] w1 (Value.int IntKind.i64 x_22) ∧
                                                                             brP (decide (s_2.fst < x_22))
                                                                              (∃ (x_23 : (Int × Int × Int × Int × Unit) × Bool × Unit),
                                                                               QCalls Tryz.prog 33 [Value.pointer x_8, Value.int IntKind.i64 s_2.fst] w1
                                                                                 (Value.tuple
                                                                                  {
                                                                                   toList :=
                                                                                    [Value.agg
                                                                                      {
                                                                                       toList :=
                                                                                        [Value.int IntKind.i64 x_23.fst.fst, Value.int IntKind.i64 x_23.fst.snd.fst, Value.int IntKind.i64 x_23.fst.snd.snd.fst,
                                                                                         Value.int IntKind.i64 x_23.fst.snd.snd.snd.fst] },
                                                                                     Value.bool x_23.snd.fst] }) ∧
                                                                                AlP w1 { toList := [Value.int IntKind.i64 0, Value.int IntKind.i64 0, Value.int IntKind.i64 0, Value.int IntKind.i64 0] } 68 fun (b : Nat) (w2 : World) =>
                                                                                 StP w2 (some { block := b, off := 0 })
                                                                                  [Value.int IntKind.i64 x_23.fst.fst, Value.int IntKind.i64 x_23.fst.snd.fst, Value.int IntKind.i64 x_23.fst.snd.snd.fst, Value.int IntKind.i64 x_23.fst.snd.snd.snd.fst]
                                                                                  fun (w2 : World) =>
                                                                                  x.fst.isSome = true ∧
                                                                                   x.fst.isSome = true ∧
                                                                                    LdP w2 none (addP x.fst 1) (El.one Sc.ptr) fun (x : Option Addr) =>
                                                                                     ∃ (x_24 : (Int × Int × Int × Int × Unit) × Bool × Unit),
                                                                                      QCalls Tryz.prog 33 [Value.pointer x, Value.int IntKind.i64 s_2.fst] w2
                                                                                        (Value.tuple
                                                                                         {
                                                                                          toList :=
                                                                                           [Value.agg
                                                                                             {
                                                                                              toList :=
                                                                                               [Value.int IntKind.i64 x_24.fst.fst, Value.int IntKind.i64 x_24.fst.snd.fst, Value.int IntKind.i64 x_24.fst.snd.snd.fst,
                                                                                                Value.int IntKind.i64 x_24.fst.snd.snd.snd.fst] },
                                                                                            Value.bool x_24.snd.fst] }) ∧
                                                                                       AlP w2 { toList := [Value.int IntKind.i64 0, Value.int IntKind.i64 0, Value.int IntKind.i64 0, Value.int IntKind.i64 0] } 68 fun (b_1 : Nat) (w2 : World) =>
                                                                                        StP w2 (some { block := b_1, off := 0 })
                                                                                         [Value.int IntKind.i64 x_24.fst.fst, Value.int IntKind.i64 x_24.fst.snd.fst, Value.int IntKind.i64 x_24.fst.snd.snd.fst,
                                                                                          Value.int IntKind.i64 x_24.fst.snd.snd.snd.fst]
                                                                                         fun (w2 : World) =>
                                                                                         LdP w2 (some (s_1.fst != 0)) (some { block := b, off := 0 }) (El.agg [Sc.int IntKind.i64, Sc.int IntKind.i64, Sc.int IntKind.i64, Sc.int IntKind.i64])
                                                                                          fun (x : Int × Int × Int × Int × Unit) =>
                                                                                          LdP w2 (some (s_1.fst != 0)) (some { block := b_1, off := 0 }) (El.agg [Sc.int IntKind.i64, Sc.int IntKind.i64, Sc.int IntKind.i64, Sc.int IntKind.i64])
                                                                                           fun (x_25 : Int × Int × Int × Int × Unit) =>
                                                                                           brP
                                                                                            (s_1.fst != 0 &&
                                                                                             !(x.fst == x_25.fst && (x.snd.fst == x_25.snd.fst && (x.snd.snd.fst == x_25.snd.snd.fst && (x.snd.snd.snd.fst == x_25.snd.snd.snd.fst && true)))))
                                                                                            (EnP w2 fun (w1 : World) => Post false w1) (∀ (w3 : World), Ext w2 w3 → ∃ (n' : Nat), n' < n_1 ∧ I_1 n' (addI IntKind.i64 s_2.fst 1, Unit.unit) w3))
                                                                              (∀ (w3 : World), Ext w1 w3 → ∃ (n' : Nat), n' < n ∧ I n' (addI IntKind.i64 s.fst 1, Unit.unit) w3))))
                                           (((s_1.fst != 0) = true → rdAt w1 (addP x.fst 0) (El.one Sc.ptr) x_11) ∧
                                            True ∧
                                             True ∧
                                              ((s_1.fst != 0) = true → rdAt w1 (addP x.fst 0) (El.one Sc.ptr) x_10) ∧
                                               True ∧
                                                True ∧
                                                 ((s_1.fst == 12) = true → x.fst.isSome = true) ∧
                                                  ((s_1.fst == 12) = true → x.fst.isSome = true) ∧
                                                   LdP w1 (some (s_1.fst == 12)) (addP x.fst 1) (El.one Sc.ptr) fun (x_12 : Option Addr) =>
                                                    ∃ (x_13 : Int),
                                                     ((s_1.fst == 12) = true → QCalls Tryz.prog 26 [Value.pointer x_12, Value.int IntKind.i64 0] w1 (Value.int IntKind.i64 x_13)) ∧
                                                      ((!(s_1.fst == 12 && decide (x_13 > 3))) = true → true = true) ∧
                                                       LdP w1 (some !(s_1.fst == 12 && decide (x_13 > 3))) (addP (some { block := b, off := 0 }) 0) (El.one (Sc.int IntKind.i64)) fun (x_14 : Int) =>
                                                        ∃ (x_15 : Int),
                                                         ((!(s_1.fst == 12 && decide (x_13 > 3)) && x_14 != 2) = true → QCalls Tryz.prog 26 [Value.pointer x_8, Value.int IntKind.i64 5] w1 (Value.int IntKind.i64 x_15)) ∧
                                                          ((!(s_1.fst == 12 && decide (x_13 > 3)) && x_14 != 2) = true → x.fst.isSome = true) ∧
                                                           ((!(s_1.fst == 12 && decide (x_13 > 3)) && x_14 != 2) = true → x.fst.isSome = true) ∧
                                                            LdP w1 (some (!(s_1.fst == 12 && decide (x_13 > 3)) && x_14 != 2)) (addP x.fst 1) (El.one Sc.ptr) fun (x_16 : Option Addr) =>
                                                             ∃ (x_17 : Int),
                                                              ((!(s_1.fst == 12 && decide (x_13 > 3)) && x_14 != 2) = true → QCalls Tryz.prog 26 [Value.pointer x_16, Value.int IntKind.i64 5] w1 (Value.int IntKind.i64 x_17)) ∧
                                                               brP (s_1.fst == 12 && decide (x_13 > 3) || x_14 != 2 && x_15 != x_17) (EnP w1 fun (w1 : World) => Post false w1)
                                                                (∃ (I_1 : Nat → Int × Unit → World → Prop),
                                                                 (∃ (n : Nat), ∀ (w1_1 : World), Ext w1 w1_1 → I_1 n (0, Unit.unit) w1_1) ∧
                                                                  ∀ (n_1 : Nat) (s_2 : Int × Unit) (w1 : World),
                                                                   I_1 n_1 s_2 w1 →
                                                                    ∃ (x_18 : Int),
                                                                     QCalls Tryz.prog 32 [Value.pointer x_8] w1 (Value.int IntKind.i64 x_18) ∧
                                                                      brP (decide (s_2.fst < x_18))
                                                                       (∃ (x_19 : (Int × Int × Int × Int × Unit) × Bool × Unit),
                                                                        QCalls Tryz.prog 33 [Value.pointer x_8, Value.int IntKind.i64 s_2.fst] w1
                                                                          (Value.tuple
                                                                           {
                                                                            toList :=
                                                                             [Value.agg
                                                                               {
                                                                                toList :=
                                                                                 [Value.int IntKind.i64 x_19.fst.fst, Value.int IntKind.i64 x_19.fst.snd.fst, Value.int IntKind.i64 x_19.fst.snd.snd.fst,
                                                                                  Value.int IntKind.i64 x_19.fst.snd.snd.snd.fst] },
                                                                              Value.bool x_19.snd.fst] }) ∧
                                                                         AlP w1 { toList := [Value.int IntKind.i64 0, Value.int IntKind.i64 0, Value.int IntKind.i64 0, Value.int IntKind.i64 0] } 68 fun (b : Nat) (w2 : World) =>
                                                                          StP w2 (some { block := b, off := 0 })
                                                                           [Value.int IntKind.i64 x_19.fst.fst, Value.int IntKind.i64 x_19.fst.snd.fst, Value.int IntKind.i64 x_19.fst.snd.snd.fst, Value.int IntKind.i64 x_19.fst.snd.snd.snd.fst]
                                                                           fun (w2 : World) =>
                                                                           x.fst.isSome = true ∧
                                                                            x.fst.isSome = true ∧
                                                                             LdP w2 none (addP x.fst 1) (El.one Sc.ptr) fun (x : Option Addr) =>
                                                                              ∃ (x_20 : (Int × Int × Int × Int × Unit) × Bool × Unit),
                                                                               QCalls Tryz.prog 33 [Value.pointer x, Value.int IntKind.i64 s_2.fst] w2
                                                                                 (Value.tuple
                                                                                  {
                                                                                   toList :=
                                                                                    [Value.agg
                                                                                      {
                                                                                       toList :=
                                                                                        [Value.int IntKind.i64 x_20.fst.fst, Value.int IntKind.i64 x_20.fst.snd.fst, Value.int IntKind.i64 x_20.fst.snd.snd.fst,
                                                                                         Value.int IntKind.i64 x_20.fst.snd.snd.snd.fst] },
                                                                                     Value.bool x_20.snd.fst] }) ∧
                                                                                AlP w2 { toList := [Value.int IntKind.i64 0, Value.int IntKind.i64 0, Value.int IntKind.i64 0, Value.int IntKind.i64 0] } 68 fun (b_1 : Nat) (w2 : World) =>
                                                                                 StP w2 (some { block := b_1, off := 0 })
                                                                                  [Value.int IntKind.i64 x_20.fst.fst, Value.int IntKind.i64 x_20.fst.snd.fst, Value.int IntKind.i64 x_20.fst.snd.snd.fst, Value.int IntKind.i64 x_20.fst.snd.snd.snd.fst]
                                                                                  fun (w2 : World) =>
                                                                                  LdP w2 (some (s_1.fst != 0)) (some { block := b, off := 0 }) (El.agg [Sc.int IntKind.i64, Sc.int IntKind.i64, Sc.int IntKind.i64, Sc.int IntKind.i64])
                                                                                   fun (x : Int × Int × Int × Int × Unit) =>
                                                                                   LdP w2 (some (s_1.fst != 0)) (some { block := b_1, off := 0 }) (El.agg [Sc.int IntKind.i64, Sc.int IntKind.i64, Sc.int IntKind.i64, Sc.int IntKind.i64])
                                                                                    fun (x_21 : Int × Int × Int × Int × Unit) =>
                                                                                    brP (s_1.fst != 0 && !(x.fst == x_21.fst && (x.snd.fst == x_21.snd.fst && (x.snd.snd.fst == x_21.snd.snd.fst && (x.snd.snd.snd.fst == x_21.snd.snd.snd.fst && true)))))
                                                                                     (EnP w2 fun (w1 : World) => Post false w1) (∀ (w3 : World), Ext w2 w3 → ∃ (n' : Nat), n' < n_1 ∧ I_1 n' (addI IntKind.i64 s_2.fst 1, Unit.unit) w3))
                                                                       (∀ (w3 : World), Ext w1 w3 → ∃ (n' : Nat), n' < n ∧ I n' (addI IntKind.i64 s.fst 1, Unit.unit) w3))))))
        (CaP Tryz.prog 19 (Sh.el (El.one Sc.bool)) [] w1 fun (x : Bool) (w2 : World) => EnP w2 fun (w1 : World) => Post x w1))) := by kernel_rfl
def zends_vc_ann : Nat → Slots := (fun | 7 => [(6, Go.RX.El.one Go.RX.Sc.slice), (7, Go.RX.El.one (Go.RX.Sc.int Go.IntKind.i64))] | 14 => [(6, Go.RX.El.one Go.RX.Sc.slice), (9, Go.RX.El.one (Go.RX.Sc.int Go.IntKind.i64))] | 19 => [(11, Go.RX.El.one (Go.RX.Sc.int Go.IntKind.i64))] | 27 => [(16, Go.RX.El.one (Go.RX.Sc.int Go.IntKind.i64))] | 1000010 => [(12, .one .bool), (6, Go.RX.El.one Go.RX.Sc.slice)] | _ => [])
theorem zends_vc (p : Option Addr) (m c : Nat) (w : World) (Post : Bool → World → Prop) : (rxFn N3 zends_vc_ann 5 [.slice p m c] w Post) = (
 CaP Tryz.prog 9 (Sh.tup [El.one Sc.ptr, El.one Sc.bool]) [Value.int IntKind.i64 200] w fun (x : Option Addr × Bool × Unit) (w2 : World) =>
  ((!!x.snd.fst) = true → x.fst.isSome = true) ∧
   ((!!x.snd.fst) = true → x.fst.isSome = true) ∧
    ((!!x.snd.fst) = true → (addP x.fst 2).isSome = true ∧ (0 : Int) ≤ 0 ∧ 0 < (↑2 : Int)) ∧
     LdP w2 (some !!x.snd.fst) (addP (addP x.fst 2) 0) (El.one Sc.ptr) fun (x_1 : Option Addr) =>
      brP (!x.snd.fst || x_1.isNone) (EnP w2 fun (w1 : World) => Post false w1)
       (x.fst.isSome = true ∧
        x.fst.isSome = true ∧
         ((addP x.fst 2).isSome = true ∧ (0 : Int) ≤ 0 ∧ 0 < (↑2 : Int)) ∧
          LdP w2 none (addP (addP x.fst 2) 0) (El.one Sc.ptr) fun (x_2 : Option Addr) =>
           ∃ (I : Nat → (Option Addr × Nat × Nat) × Int × Unit → World → Prop),
            (∃ (n : Nat), ∀ (w1 : World), Ext w2 w1 → I n ((none, 0, 0), 0, Unit.unit) w1) ∧
             ∀ (n : Nat) (s : (Option Addr × Nat × Nat) × Int × Unit) (w1 : World),
              I n s w1 →
               brP (decide (s.snd.fst < (↑m : Int)) && decide (s.snd.fst < 20))
                ((p.isSome = true ∧ 0 ≤ s.snd.fst ∧ s.snd.fst < (↑m : Int)) ∧
                 LdP w1 none (addP p (Int.toNat s.snd.fst * 5)) (El.agg [Sc.int IntKind.i64, Sc.int IntKind.i64, Sc.int IntKind.i64, Sc.int IntKind.i64, Sc.int IntKind.i64]) fun (x : Int × Int × Int × Int × Int × Unit) =>
                  AlP w1 { toList := [Value.int IntKind.i64 0, Value.int IntKind.i64 0, Value.int IntKind.i64 0, Value.int IntKind.i64 0, Value.int IntKind.i64 0] } 27 fun (b : Nat) (w2 : World) =>
                   StP w2 (some { block := b, off := 0 }) [Value.int IntKind.i64 x.fst, Value.int IntKind.i64 x.snd.fst, Value.int IntKind.i64 x.snd.snd.fst, Value.int IntKind.i64 x.snd.snd.snd.fst, Value.int IntKind.i64 x.snd.snd.snd.snd.fst]
                    fun (w2 : World) =>
                    ∃ (J : (Option Addr × Nat × Nat) × Unit → World → Prop),
                     (true = true ∧
                       LdP w2 none (addP (some { block := b, off := 0 }) 0) (El.one (Sc.int IntKind.i64)) fun (x : Int) =>
                        ((x == 0) = true → true = true) ∧
                         LdP w2 (some (x == 0)) (addP (some { block := b, off := 0 }) 2) (El.one (Sc.int IntKind.i64)) fun (x_3 : Int) =>
                          ((x == 0) = true → true = true) ∧
                           LdP w2 (some (x == 0)) (addP (some { block := b, off := 0 }) 3) (El.one (Sc.int IntKind.i64)) fun (x_4 : Int) =>
                            ((x == 0) = true → true = true) ∧
                             LdP w2 (some (x == 0)) (addP (some { block := b, off := 0 }) 4) (El.one (Sc.int IntKind.i64)) fun (x_5 : Int) =>
                              brP (x == 0)
                               (CaP Tryz.prog 20 (Sh.el (El.one (Sc.int IntKind.i64))) [Value.pointer x_2, Value.int IntKind.i64 x_3, Value.int IntKind.i64 x_4, Value.int IntKind.i64 x_5] w2 fun (x : Int) (w2 : World) =>
                                brP (x == 0)
                                 (true = true ∧
                                  LdP w2 none (addP (some { block := b, off := 0 }) 2) (El.one (Sc.int IntKind.i64)) fun (x : Int) =>
                                   AlP w2 { toList := [Value.int IntKind.i64 x] } 3 fun (b : Nat) (w2 : World) =>
                                    ∀ (w1 : World),
                                     Ext w2 w1 →
                                      apR w1 3 1 8 { toList := [Value.int IntKind.i64 0] } (s.fst.fst, s.fst.snd.fst, s.fst.snd.snd) (some { block := b, off := 0 }, 1, 1) fun (r : Option Addr × Nat × Nat) (w2 : World) =>
                                       J ((r.fst, r.snd.fst, r.snd.snd), Unit.unit) w2)
                                 (J ((s.fst.fst, s.fst.snd.fst, s.fst.snd.snd), Unit.unit) w2))
                               (J ((s.fst.fst, s.fst.snd.fst, s.fst.snd.snd), Unit.unit) w2)) ∧
                      ∀ (s_1 : (Option Addr × Nat × Nat) × Unit) (w1 : World),
                       J s_1 w1 →
                        true = true ∧
                         LdP w1 none (addP (some { block := b, off := 0 }) 0) (El.one (Sc.int IntKind.i64)) fun (x : Int) =>
                          ((x == 1) = true → true = true) ∧
                           LdP w1 (some (x == 1)) (addP (some { block := b, off := 0 }) 2) (El.one (Sc.int IntKind.i64)) fun (x_3 : Int) =>
                            ((x == 1) = true → true = true) ∧
                             LdP w1 (some (x == 1)) (addP (some { block := b, off := 0 }) 3) (El.one (Sc.int IntKind.i64)) fun (x_4 : Int) =>
                              ((x == 1) = true → true = true) ∧
                               LdP w1 (some (x == 1)) (addP (some { block := b, off := 0 }) 4) (El.one (Sc.int IntKind.i64)) fun (x_5 : Int) =>
                                brP (x == 1)
                                 (CaP Tryz.prog 21 (Sh.el (El.one (Sc.int IntKind.i64))) [Value.pointer x_2, Value.int IntKind.i64 x_3, Value.int IntKind.i64 x_4, Value.int IntKind.i64 x_5] w1 fun (x : Int) (w2 : World) =>
                                  brP (x == 0)
                                   (∃ (I_1 : Nat → (Option Addr × Nat × Nat) × Int × Unit → World → Prop),
                                    (∃ (n : Nat), ∀ (w1 : World), Ext w2 w1 → I_1 n ((s_1.fst.fst, s_1.fst.snd.fst, s_1.fst.snd.snd), 0, Unit.unit) w1) ∧
                                     ∀ (n_1 : Nat) (s_2 : (Option Addr × Nat × Nat) × Int × Unit) (w1 : World),
                                      I_1 n_1 s_2 w1 →
                                       brP (decide (s_2.snd.fst < 16))
                                        (true = true ∧
                                         LdP w1 none (addP (some { block := b, off := 0 }) 2) (El.one (Sc.int IntKind.i64)) fun (x : Int) =>
                                          AlP w1 { toList := [Value.int IntKind.i64 (addI IntKind.i64 x s_2.snd.fst)] } 3 fun (b : Nat) (w2 : World) =>
                                           ∀ (w1 : World),
                                            Ext w2 w1 →
                                             apR w1 3 1 8 { toList := [Value.int IntKind.i64 0] } (s_2.fst.fst, s_2.fst.snd.fst, s_2.fst.snd.snd) (some { block := b, off := 0 }, 1, 1) fun (r : Option Addr × Nat × Nat) (w2 : World) =>
                                              ∀ (w3 : World), Ext w2 w3 → ∃ (n' : Nat), n' < n_1 ∧ I_1 n' ((r.fst, r.snd.fst, r.snd.snd), addI IntKind.i64 s_2.snd.fst 1, Unit.unit) w3)
                                        (∀ (w3 : World), Ext w1 w3 → ∃ (n' : Nat), n' < n ∧ I n' ((s_2.fst.fst, s_2.fst.snd.fst, s_2.fst.snd.snd), addI IntKind.i64 s.snd.fst 1, Unit.unit) w3))
                                   (∀ (w3 : World), Ext w2 w3 → ∃ (n' : Nat), n' < n ∧ I n' ((s_1.fst.fst, s_1.fst.snd.fst, s_1.fst.snd.snd), addI IntKind.i64 s.snd.fst 1, Unit.unit) w3))
                                 (∀ (w3 : World), Ext w1 w3 → ∃ (n' : Nat), n' < n ∧ I n' ((s_1.fst.fst, s_1.fst.snd.fst, s_1.fst.snd.snd), addI IntKind.i64 s.snd.fst 1, Unit.unit) w3))
                (CaP Tryz.prog 15 (Sh.el (El.one Sc.slice)) [Value.pointer x_2] w1 fun (x_3 : Option Addr × Nat × Nat) (w2 : World) =>
                 ∃ (I : Nat → Int × Unit → World → Prop),
                  (∃ (n : Nat), ∀ (w1 : World), Ext w2 w1 → I n (0, Unit.unit) w1) ∧
                   ∀ (n : Nat) (s_1 : Int × Unit) (w1 : World),
                    I n s_1 w1 →
                     brP (decide (s_1.fst < (↑s.fst.snd.fst : Int)))
                      ((s.fst.fst.isSome = true ∧ 0 ≤ s_1.fst ∧ s_1.fst < (↑s.fst.snd.fst : Int)) ∧
                       LdP w1 none (addP s.fst.fst (Int.toNat s_1.fst * 1)) (El.one (Sc.int IntKind.i64)) fun (x : Int) =>
                        CaP Tryz.prog 22 (Sh.tup [El.one (Sc.int IntKind.i64), El.one (Sc.int IntKind.i64)]) [Value.pointer x_2, Value.int IntKind.i64 x] w1 fun (x : Int × Int × Unit) (w2 : World) =>
                         brP (x.snd.fst != 0) (EnP w2 fun (w1 : World) => Post false w1) (∀ (w3 : World), Ext w2 w3 → ∃ (n' : Nat), n' < n ∧ I n' (addI IntKind.i64 s_1.fst 1, Unit.unit) w3))
                      (CaP Tryz.prog 15 (Sh.el (El.one Sc.slice)) [Value.pointer x_2] w1 fun (x_4 : Option Addr × Nat × Nat) (w2 : World) =>
                       x.fst.isSome = true ∧
                        x.fst.isSome = true ∧
                         LdP w2 none (addP x.fst 0) (El.one Sc.ptr) fun (x_5 : Option Addr) =>
                          ∃ (x_6 : Int),
                           QCalls Tryz.prog 17 [Value.pointer x_2] w2 (Value.int IntKind.i64 x_6) ∧
                            CaP Tryz.prog 25 (Sh.el (El.one Sc.slice)) [Value.pointer x_5, Value.int IntKind.i64 (mulI IntKind.i64 16 x_6), Value.int IntKind.i64 16] w2 fun (x_7 : Option Addr × Nat × Nat) (w2 : World) =>
                             ∃ (I : Nat → Int × Unit → World → Prop),
                              (∃ (n : Nat), ∀ (w1 : World), Ext w2 w1 → I n (0, Unit.unit) w1) ∧
                               ∀ (n : Nat) (s : Int × Unit) (w1 : World),
                                I n s w1 →
                                 brP (decide (s.fst < (↑x_7.snd.fst : Int)))
                                  ((x_7.fst.isSome = true ∧ 0 ≤ s.fst ∧ s.fst < (↑x_7.snd.fst : Int)) ∧
                                   LdP w1 none (addP x_7.fst (Int.toNat s.fst * 1)) (El.one (Sc.int IntKind.u64)) fun (x : Int) =>
                                    brP (x != 0) (EnP w1 fun (w1 : World) => Post false w1) (∀ (w3 : World), Ext w1 w3 → ∃ (n' : Nat), n' < n ∧ I n' (addI IntKind.i64 s.fst 1, Unit.unit) w3))
                                  ((((↑x_4.snd.fst : Int) == 1) = true → x_4.fst.isSome = true ∧ (0 : Int) ≤ 0 ∧ 0 < (↑x_4.snd.fst : Int)) ∧
                                   LdP w1 (some ((↑x_4.snd.fst : Int) == 1)) (addP x_4.fst 0) (El.one (Sc.int IntKind.i64)) fun (x_8 : Int) =>
                                    ∃ (x_9 : Int),
                                     (((↑x_4.snd.fst : Int) == 1) = true → QCalls Tryz.prog 17 [Value.pointer x_2] w1 (Value.int IntKind.i64 x_9)) ∧
                                      (((↑x_4.snd.fst : Int) == 1 && x_8 == x_9 && (↑x_7.snd.fst : Int) == 16) = true → x.fst.isSome = true) ∧
                                       (((↑x_4.snd.fst : Int) == 1 && x_8 == x_9 && (↑x_7.snd.fst : Int) == 16) = true → x.fst.isSome = true) ∧
                                        LdP w1 (some ((↑x_4.snd.fst : Int) == 1 && x_8 == x_9 && (↑x_7.snd.fst : Int) == 16)) (addP x.fst 1) (El.one Sc.ptr) fun (x_10 : Option Addr) =>
                                         ∃ (x_11 : Int),
                                          (((↑x_4.snd.fst : Int) == 1 && x_8 == x_9 && (↑x_7.snd.fst : Int) == 16) = true → QCalls Tryz.prog 26 [Value.pointer x_10, Value.int IntKind.i64 3] w1 (Value.int IntKind.i64 x_11)) ∧
                                           (((↑x_4.snd.fst : Int) == 1 && x_8 == x_9 && (↑x_7.snd.fst : Int) == 16 && x_11 == 2) = true → x.fst.isSome = true) ∧
                                            (((↑x_4.snd.fst : Int) == 1 && x_8 == x_9 && (↑x_7.snd.fst : Int) == 16 && x_11 == 2) = true → x.fst.isSome = true) ∧
                                             LdP w1 (some ((↑x_4.snd.fst : Int) == 1 && x_8 == x_9 && (↑x_7.snd.fst : Int) == 16 && x_11 == 2)) (addP x.fst 1) (El.one Sc.ptr) fun (x : Option Addr) =>
                                              ∃ (x_12 : Int),
                                               (((↑x_4.snd.fst : Int) == 1 && x_8 == x_9 && (↑x_7.snd.fst : Int) == 16 && x_11 == 2) = true → QCalls Tryz.prog 26 [Value.pointer x, Value.int IntKind.i64 5] w1 (Value.int IntKind.i64 x_12)) ∧
                                                brP ((↑x_4.snd.fst : Int) == 1 && x_8 == x_9 && (↑x_7.snd.fst : Int) == 16 && x_11 == 2 && decide (x_12 ≥ subI IntKind.i64 (↑x_3.snd.fst : Int) 1))
                                                 (CaP Tryz.prog 19 (Sh.el (El.one Sc.bool)) [] w1 fun (x : Bool) (w2 : World) => EnP w2 fun (w1 : World) => Post x w1) (EnP w1 fun (w1 : World) => Post false w1)))))) := by kernel_rfl
def zlarge_vc_ann : Nat → Slots := (fun | 11 => [(13, Go.RX.El.one (Go.RX.Sc.int Go.IntKind.i64))] | 18 => [(16, Go.RX.El.one (Go.RX.Sc.int Go.IntKind.i64))] | 21 => [(17, Go.RX.El.one (Go.RX.Sc.int Go.IntKind.i64))] | _ => [])
theorem zlarge_vc (pg a b c : Int) (w : World) (Post : Bool → World → Prop) : (rxFn N3 zlarge_vc_ann 6 [.int .u16 pg, .agg ⟨[.int .u8 a, .int .u8 b, .int .u8 c]⟩] w Post) = (
 AlP w { toList := [Value.int IntKind.u8 a, Value.int IntKind.u8 b, Value.int IntKind.u8 c] } 62 fun (b : Nat) (w2 : World) =>
  CaP Tryz.prog 9 (Sh.tup [El.one Sc.ptr, El.one Sc.bool]) [Value.int IntKind.i64 40] w2 fun (x : Option Addr × Bool × Unit) (w2 : World) =>
   ((!!x.snd.fst) = true → x.fst.isSome = true) ∧
    ((!!x.snd.fst) = true → x.fst.isSome = true) ∧
     ((!!x.snd.fst) = true → (addP x.fst 2).isSome = true ∧ (0 : Int) ≤ 0 ∧ 0 < (↑2 : Int)) ∧
      LdP w2 (some !!x.snd.fst) (addP (addP x.fst 2) 0) (El.one Sc.ptr) fun (x_1 : Option Addr) =>
       ((!(!x.snd.fst || x_1.isNone)) = true → x.fst.isSome = true) ∧
        ((!(!x.snd.fst || x_1.isNone)) = true → x.fst.isSome = true) ∧
         ((!(!x.snd.fst || x_1.isNone)) = true → (addP x.fst 2).isSome = true ∧ (0 : Int) ≤ 1 ∧ 1 < (↑2 : Int)) ∧
          LdP w2 (some !(!x.snd.fst || x_1.isNone)) (addP (addP x.fst 2) 1) (El.one Sc.ptr) fun (x_2 : Option Addr) =>
           brP (!x.snd.fst || x_1.isNone || x_2.isNone) (EnP w2 fun (w1 : World) => Post false w1)
            ((true = true ∧ (0 : Int) ≤ 0 ∧ 0 < (↑3 : Int)) ∧
             LdP w2 none (addP (some { block := b, off := 0 }) 0) (El.one (Sc.int IntKind.u8)) fun (x_3 : Int) =>
              (true = true ∧ (0 : Int) ≤ 1 ∧ 1 < (↑3 : Int)) ∧
               LdP w2 none (addP (some { block := b, off := 0 }) 1) (El.one (Sc.int IntKind.u8)) fun (x_4 : Int) =>
                (true = true ∧ (0 : Int) ≤ 2 ∧ 2 < (↑3 : Int)) ∧
                 LdP w2 none (addP (some { block := b, off := 0 }) 2) (El.one (Sc.int IntKind.u8)) fun (x_5 : Int) =>
                  (true = true ∧ (0 : Int) ≤ 2 ∧ 2 < (↑3 : Int)) ∧
                   LdP w2 none (addP (some { block := b, off := 0 }) 2) (El.one (Sc.int IntKind.u8)) fun (x_6 : Int) =>
                    x.fst.isSome = true ∧
                     x.fst.isSome = true ∧
                      ((addP x.fst 2).isSome = true ∧ (0 : Int) ≤ 0 ∧ 0 < (↑2 : Int)) ∧
                       LdP w2 none (addP (addP x.fst 2) 0) (El.one Sc.ptr) fun (x_7 : Option Addr) =>
                        CaP Tryz.prog 21 (Sh.el (El.one (Sc.int IntKind.i64)))
                         [Value.pointer x_7, Value.int IntKind.i64 (subI IntKind.i64 (convI IntKind.i64 pg) (remI (convI IntKind.i64 pg) 16)), Value.int IntKind.i64 (mulI IntKind.i64 16 (convI IntKind.i64 x_3)),
                          Value.int IntKind.i64 (addI IntKind.i64 1 (remI (convI IntKind.i64 x_4) 7))]
                         w2 fun (x_8 : Int) (w2 : World) =>
                         ∃ (I : Nat → Int × Unit → World → Prop),
                          (∃ (n : Nat), ∀ (w1 : World), Ext w2 w1 → I n (0, Unit.unit) w1) ∧
                           ∀ (n : Nat) (s : Int × Unit) (w1 : World),
                            I n s w1 →
                             brP (decide (s.fst < 16))
                              (x.fst.isSome = true ∧
                               x.fst.isSome = true ∧
                                ((addP x.fst 2).isSome = true ∧ (0 : Int) ≤ 1 ∧ 1 < (↑2 : Int)) ∧
                                 LdP w1 none (addP (addP x.fst 2) 1) (El.one Sc.ptr) fun (x : Option Addr) =>
                                  CaP Tryz.prog 20 (Sh.el (El.one (Sc.int IntKind.i64)))
                                   [Value.pointer x, Value.int IntKind.i64 (addI IntKind.i64 (subI IntKind.i64 (convI IntKind.i64 pg) (remI (convI IntKind.i64 pg) 16)) s.fst),
                                    Value.int IntKind.i64 (addI IntKind.i64 (mulI IntKind.i64 16 (convI IntKind.i64 x_3)) s.fst), Value.int IntKind.i64 (addI IntKind.i64 1 (remI (convI IntKind.i64 x_4) 7))]
                                   w1 fun (x : Int) (w2 : World) => brP (x != 0) (EnP w2 fun (w1 : World) => Post false w1) (∀ (w3 : World), Ext w2 w3 → ∃ (n' : Nat), n' < n ∧ I n' (addI IntKind.i64 s.fst 1, Unit.unit) w3))
                              (x.fst.isSome = true ∧
                               x.fst.isSome = true ∧
                                ((addP x.fst 2).isSome = true ∧ (0 : Int) ≤ 0 ∧ 0 < (↑2 : Int)) ∧
                                 LdP w1 none (addP (addP x.fst 2) 0) (El.one Sc.ptr) fun (x_9 : Option Addr) =>
                                  CaP Tryz.prog 23 (Sh.el (El.one (Sc.int IntKind.i64)))
                                   [Value.pointer x_9, Value.int IntKind.i64 (addI IntKind.i64 (subI IntKind.i64 (convI IntKind.i64 pg) (remI (convI IntKind.i64 pg) 16)) (remI (convI IntKind.i64 x_6) 16)),
                                    Value.int IntKind.i64 (addI IntKind.i64 1 (remI (convI IntKind.i64 x_5) 7))]
                                   w1 fun (x_10 : Int) (w2 : World) =>
                                   x.fst.isSome = true ∧
                                    x.fst.isSome = true ∧
                                     ((addP x.fst 2).isSome = true ∧ (0 : Int) ≤ 1 ∧ 1 < (↑2 : Int)) ∧
                                      LdP w2 none (addP (addP x.fst 2) 1) (El.one Sc.ptr) fun (x_11 : Option Addr) =>
                                       CaP Tryz.prog 23 (Sh.el (El.one (Sc.int IntKind.i64)))
                                        [Value.pointer x_11, Value.int IntKind.i64 (addI IntKind.i64 (subI IntKind.i64 (convI IntKind.i64 pg) (remI (convI IntKind.i64 pg) 16)) (remI (convI IntKind.i64 x_6) 16)),
                                         Value.int IntKind.i64 (addI IntKind.i64 1 (remI (convI IntKind.i64 x_5) 7))]
                                        w2 fun (x_12 : Int) (w2 : World) =>
                                        ∃ (I : Nat → Int × Unit → World → Prop),
                                         (∃ (n : Nat), ∀ (w1 : World), Ext w2 w1 → I n (0, Unit.unit) w1) ∧
                                          ∀ (n : Nat) (s : Int × Unit) (w1 : World),
                                           I n s w1 →
                                            brP (decide (s.fst < 2))
                                             (∃ (I_1 : Nat → Int × Unit → World → Prop),
                                              (∃ (n : Nat), ∀ (w1_1 : World), Ext w1 w1_1 → I_1 n (-1, Unit.unit) w1_1) ∧
                                               ∀ (n_1 : Nat) (s_1 : Int × Unit) (w1 : World),
                                                I_1 n_1 s_1 w1 →
                                                 brP (decide (s_1.fst < 17))
                                                  (x.fst.isSome = true ∧
                                                   x.fst.isSome = true ∧
                                                    ((addP x.fst 2).isSome = true ∧ (0 : Int) ≤ 0 ∧ 0 < (↑2 : Int)) ∧
                                                     LdP w1 none (addP (addP x.fst 2) 0) (El.one Sc.ptr) fun (x_13 : Option Addr) =>
                                                      CaP Tryz.prog 12 (Sh.tup [El.one (Sc.int IntKind.i64), El.one (Sc.int IntKind.i64), El.one (Sc.int IntKind.i64)])
                                                       [Value.pointer x_13, Value.int IntKind.i64 (addI IntKind.i64 (subI IntKind.i64 (convI IntKind.i64 pg) (remI (convI IntKind.i64 pg) 16)) s_1.fst)] w1
                                                       fun (x_14 : Int × Int × Int × Unit) (w2 : World) =>
                                                       x.fst.isSome = true ∧
                                                        x.fst.isSome = true ∧
                                                         ((addP x.fst 2).isSome = true ∧ (0 : Int) ≤ 1 ∧ 1 < (↑2 : Int)) ∧
                                                          LdP w2 none (addP (addP x.fst 2) 1) (El.one Sc.ptr) fun (x : Option Addr) =>
                                                           CaP Tryz.prog 12 (Sh.tup [El.one (Sc.int IntKind.i64), El.one (Sc.int IntKind.i64), El.one (Sc.int IntKind.i64)])
                                                            [Value.pointer x, Value.int IntKind.i64 (addI IntKind.i64 (subI IntKind.i64 (convI IntKind.i64 pg) (remI (convI IntKind.i64 pg) 16)) s_1.fst)] w2
                                                            fun (x : Int × Int × Int × Unit) (w2 : World) =>
                                                            brP (x_14.fst != x.fst || x_14.snd.fst != x.snd.fst || x_14.snd.snd.fst != x.snd.snd.fst) (EnP w2 fun (w1 : World) => Post false w1)
                                                             (∀ (w3 : World), Ext w2 w3 → ∃ (n' : Nat), n' < n_1 ∧ I_1 n' (addI IntKind.i64 s_1.fst 1, Unit.unit) w3))
                                                  (brP (s.fst == 0)
                                                   (x.fst.isSome = true ∧
                                                    x.fst.isSome = true ∧
                                                     ((addP x.fst 2).isSome = true ∧ (0 : Int) ≤ 0 ∧ 0 < (↑2 : Int)) ∧
                                                      LdP w1 none (addP (addP x.fst 2) 0) (El.one Sc.ptr) fun (x_13 : Option Addr) =>
                                                       CaP Tryz.prog 22 (Sh.tup [El.one (Sc.int IntKind.i64), El.one (Sc.int IntKind.i64)])
                                                        [Value.pointer x_13, Value.int IntKind.i64 (addI IntKind.i64 (subI IntKind.i64 (convI IntKind.i64 pg) (remI (convI IntKind.i64 pg) 16)) (remI (convI IntKind.i64 x_6) 16))] w1
                                                        fun (x_14 : Int × Int × Unit) (w2 : World) =>
                                                        x.fst.isSome = true ∧
                                                         x.fst.isSome = true ∧
                                                          ((addP x.fst 2).isSome = true ∧ (0 : Int) ≤ 1 ∧ 1 < (↑2 : Int)) ∧
                                                           LdP w2 none (addP (addP x.fst 2) 1) (El.one Sc.ptr) fun (x : Option Addr) =>
                                                            CaP Tryz.prog 22 (Sh.tup [El.one (Sc.int IntKind.i64), El.one (Sc.int IntKind.i64)])
                                                             [Value.pointer x, Value.int IntKind.i64 (addI IntKind.i64 (subI IntKind.i64 (convI IntKind.i64 pg) (remI (convI IntKind.i64 pg) 16)) (remI (convI IntKind.i64 x_6) 16))] w2
                                                             fun (x : Int × Int × Unit) (w2 : World) =>
                                                             brP (x_14.fst != addI IntKind.i64 (mulI IntKind.i64 16 (convI IntKind.i64 x_3)) (remI (convI IntKind.i64 x_6) 16) || x.fst != x_14.fst || x_14.snd.fst != 0 || x.snd.fst != 0)
                                                              (EnP w2 fun (w1 : World) => Post false w1) (∀ (w3 : World), Ext w2 w3 → ∃ (n' : Nat), n' < n ∧ I n' (addI IntKind.i64 s.fst 1, Unit.unit) w3))
                                                   (∀ (w3 : World), Ext w1 w3 → ∃ (n' : Nat), n' < n ∧ I n' (addI IntKind.i64 s.fst 1, Unit.unit) w3)))
                                             (brP (x_8 == 0 && x_10 == 0 && x_12 == 0) (CaP Tryz.prog 19 (Sh.el (El.one Sc.bool)) [] w1 fun (x : Bool) (w2 : World) => EnP w2 fun (w1 : World) => Post x w1) (EnP w1 fun (w1 : World) => Post false w1))))) := by kernel_rfl
def ztwo_vc_ann : Nat → Slots := (fun | 7 => [(7, Go.RX.El.one (Go.RX.Sc.int Go.IntKind.i64))] | 1000010 => [(21, .one .bool)] | _ => [])
theorem ztwo_vc (p : Option Addr) (m c : Nat) (pg : Int) (w : World) (Post : Bool → World → Prop) : (rxFn N3 ztwo_vc_ann 7 [.slice p m c, .int .u16 pg] w Post) = (
 CaP Tryz.prog 9 (Sh.tup [El.one Sc.ptr, El.one Sc.bool]) [Value.int IntKind.i64 200] w fun (x : Option Addr × Bool × Unit) (w2 : World) =>
  ((!!x.snd.fst) = true → x.fst.isSome = true) ∧
   ((!!x.snd.fst) = true → x.fst.isSome = true) ∧
    ((!!x.snd.fst) = true → (addP x.fst 2).isSome = true ∧ (0 : Int) ≤ 0 ∧ 0 < (↑2 : Int)) ∧
     LdP w2 (some !!x.snd.fst) (addP (addP x.fst 2) 0) (El.one Sc.ptr) fun (x_1 : Option Addr) =>
      ((!(!x.snd.fst || x_1.isNone)) = true → x.fst.isSome = true) ∧
       ((!(!x.snd.fst || x_1.isNone)) = true → x.fst.isSome = true) ∧
        ((!(!x.snd.fst || x_1.isNone)) = true → (addP x.fst 2).isSome = true ∧ (0 : Int) ≤ 1 ∧ 1 < (↑2 : Int)) ∧
         LdP w2 (some !(!x.snd.fst || x_1.isNone)) (addP (addP x.fst 2) 1) (El.one Sc.ptr) fun (x_2 : Option Addr) =>
          brP (!x.snd.fst || x_1.isNone || x_2.isNone) (EnP w2 fun (w1 : World) => Post false w1)
           (x.fst.isSome = true ∧
            x.fst.isSome = true ∧
             ((addP x.fst 2).isSome = true ∧ (0 : Int) ≤ 1 ∧ 1 < (↑2 : Int)) ∧
              LdP w2 none (addP (addP x.fst 2) 1) (El.one Sc.ptr) fun (x_3 : Option Addr) =>
               CaP Tryz.prog 20 (Sh.el (El.one (Sc.int IntKind.i64))) [Value.pointer x_3, Value.int IntKind.i64 (convI IntKind.i64 pg), Value.int IntKind.i64 77, Value.int IntKind.i64 5] w2 fun (x_4 : Int) (w2 : World) =>
                brP (x_4 != 0) (EnP w2 fun (w1 : World) => Post false w1)
                 (∃ (I : Nat → Int × Unit → World → Prop),
                  (∃ (n : Nat), ∀ (w1 : World), Ext w2 w1 → I n (0, Unit.unit) w1) ∧
                   ∀ (n : Nat) (s : Int × Unit) (w1 : World),
                    I n s w1 →
                     brP (decide (s.fst < (↑m : Int)) && decide (s.fst < 30))
                      ((p.isSome = true ∧ 0 ≤ s.fst ∧ s.fst < (↑m : Int)) ∧
                       LdP w1 none (addP p (Int.toNat s.fst * 5)) (El.agg [Sc.int IntKind.i64, Sc.int IntKind.i64, Sc.int IntKind.i64, Sc.int IntKind.i64, Sc.int IntKind.i64]) fun (x_5 : Int × Int × Int × Int × Int × Unit) =>
                        AlP w1 { toList := [Value.int IntKind.i64 0, Value.int IntKind.i64 0, Value.int IntKind.i64 0, Value.int IntKind.i64 0, Value.int IntKind.i64 0] } 27 fun (b : Nat) (w2 : World) =>
                         StP w2 (some { block := b, off := 0 })
                          [Value.int IntKind.i64 x_5.fst, Value.int IntKind.i64 x_5.snd.fst, Value.int IntKind.i64 x_5.snd.snd.fst, Value.int IntKind.i64 x_5.snd.snd.snd.fst, Value.int IntKind.i64 x_5.snd.snd.snd.snd.fst] fun (w2 : World) =>
                          ∃ (J : Unit → World → Prop),
                           (true = true ∧
                             LdP w2 none (addP (some { block := b, off := 0 }) 0) (El.one (Sc.int IntKind.i64)) fun (x_6 : Int) =>
                              brP (x_6 == 0)
                               (x.fst.isSome = true ∧
                                x.fst.isSome = true ∧
                                 ((addP x.fst 2).isSome = true ∧ (0 : Int) ≤ 0 ∧ 0 < (↑2 : Int)) ∧
                                  LdP w2 none (addP (addP x.fst 2) 0) (El.one Sc.ptr) fun (x : Option Addr) =>
                                   true = true ∧
                                    LdP w2 none (addP (some { block := b, off := 0 }) 2) (El.one (Sc.int IntKind.i64)) fun (x_7 : Int) =>
                                     true = true ∧
                                      LdP w2 none (addP (some { block := b, off := 0 }) 3) (El.one (Sc.int IntKind.i64)) fun (x_8 : Int) =>
                                       true = true ∧
                                        LdP w2 none (addP (some { block := b, off := 0 }) 4) (El.one (Sc.int IntKind.i64)) fun (x_9 : Int) =>
                                         CaP Tryz.prog 20 (Sh.el (El.one (Sc.int IntKind.i64))) [Value.pointer x, Value.int IntKind.i64 x_7, Value.int IntKind.i64 x_8, Value.int IntKind.i64 x_9] w2 fun (x : Int) (w2 : World) => J Unit.unit w2)
                               (brP (x_6 == 1)
                                (x.fst.isSome = true ∧
                                 x.fst.isSome = true ∧
                                  ((addP x.fst 2).isSome = true ∧ (0 : Int) ≤ 0 ∧ 0 < (↑2 : Int)) ∧
                                   LdP w2 none (addP (addP x.fst 2) 0) (El.one Sc.ptr) fun (x : Option Addr) =>
                                    true = true ∧
                                     LdP w2 none (addP (some { block := b, off := 0 }) 2) (El.one (Sc.int IntKind.i64)) fun (x_7 : Int) =>
                                      true = true ∧
                                       LdP w2 none (addP (some { block := b, off := 0 }) 3) (El.one (Sc.int IntKind.i64)) fun (x_8 : Int) =>
                                        true = true ∧
                                         LdP w2 none (addP (some { block := b, off := 0 }) 4) (El.one (Sc.int IntKind.i64)) fun (x_9 : Int) =>
                                          CaP Tryz.prog 21 (Sh.el (El.one (Sc.int IntKind.i64))) [Value.pointer x, Value.int IntKind.i64 x_7, Value.int IntKind.i64 x_8, Value.int IntKind.i64 x_9] w2 fun (x : Int) (w2 : World) => J Unit.unit w2)
                                (brP (x_6 == 2)
                                 (x.fst.isSome = true ∧
                                  x.fst.isSome = true ∧
                                   ((addP x.fst 2).isSome = true ∧ (0 : Int) ≤ 0 ∧ 0 < (↑2 : Int)) ∧
                                    LdP w2 none (addP (addP x.fst 2) 0) (El.one Sc.ptr) fun (x : Option Addr) =>
                                     true = true ∧
                                      LdP w2 none (addP (some { block := b, off := 0 }) 2) (El.one (Sc.int IntKind.i64)) fun (x_7 : Int) =>
                                       CaP Tryz.prog 22 (Sh.tup [El.one (Sc.int IntKind.i64), El.one (Sc.int IntKind.i64)]) [Value.pointer x, Value.int IntKind.i64 x_7] w2 fun (x : Int × Int × Unit) (w2 : World) => J Unit.unit w2)
                                 (brP (x_6 == 3)
                                  (x.fst.isSome = true ∧
                                   x.fst.isSome = true ∧
                                    ((addP x.fst 2).isSome = true ∧ (0 : Int) ≤ 0 ∧ 0 < (↑2 : Int)) ∧
                                     LdP w2 none (addP (addP x.fst 2) 0) (El.one Sc.ptr) fun (x : Option Addr) =>
                                      true = true ∧
                                       LdP w2 none (addP (some { block := b, off := 0 }) 2) (El.one (Sc.int IntKind.i64)) fun (x_7 : Int) =>
                                        true = true ∧
                                         LdP w2 none (addP (some { block := b, off := 0 }) 4) (El.one (Sc.int IntKind.i64)) fun (x_8 : Int) =>
                                          CaP Tryz.prog 23 (Sh.el (El.one (Sc.int IntKind.i64))) [Value.pointer x, Value.int IntKind.i64 x_7, Value.int IntKind.i64 x_8] w2 fun (x : Int) (w2 : World) => J Unit.unit w2)
                                  (brP (x_6 == 4)
                                   (x.fst.isSome = true ∧
                                    x.fst.isSome = true ∧
                                     ((addP x.fst 2).isSome = true ∧ (0 : Int) ≤ 0 ∧ 0 < (↑2 : Int)) ∧
                                      LdP w2 none (addP (addP x.fst 2) 0) (El.one Sc.ptr) fun (x : Option Addr) => CaP Tryz.prog 27 (Sh.el (El.one Sc.slice)) [Value.pointer x] w2 fun (x : Option Addr × Nat × Nat) (w2 : World) => J Unit.unit w2)
                                   (J Unit.unit w2)))))) ∧
                            ∀ (s_1 : Unit) (w1 : World),
                             J s_1 w1 →
                              x.fst.isSome = true ∧
                               x.fst.isSome = true ∧
                                ((addP x.fst 2).isSome = true ∧ (0 : Int) ≤ 1 ∧ 1 < (↑2 : Int)) ∧
                                 LdP w1 none (addP (addP x.fst 2) 1) (El.one Sc.ptr) fun (x_6 : Option Addr) =>
                                  CaP Tryz.prog 12 (Sh.tup [El.one (Sc.int IntKind.i64), El.one (Sc.int IntKind.i64), El.one (Sc.int IntKind.i64)]) [Value.pointer x_6, Value.int IntKind.i64 (convI IntKind.i64 pg)] w1
                                   fun (x_7 : Int × Int × Int × Unit) (w2 : World) =>
                                   ((!(x_7.fst != 77 || x_7.snd.fst != 5 || x_7.snd.snd.fst != 0)) = true → x.fst.isSome = true) ∧
                                    ((!(x_7.fst != 77 || x_7.snd.fst != 5 || x_7.snd.snd.fst != 0)) = true → x.fst.isSome = true) ∧
                                     ((!(x_7.fst != 77 || x_7.snd.fst != 5 || x_7.snd.snd.fst != 0)) = true → (addP x.fst 2).isSome = true ∧ (0 : Int) ≤ 1 ∧ 1 < (↑2 : Int)) ∧
                                      LdP w2 (some !(x_7.fst != 77 || x_7.snd.fst != 5 || x_7.snd.snd.fst != 0)) (addP (addP x.fst 2) 1) (El.one Sc.ptr) fun (x : Option Addr) =>
                                       brP (x_7.fst != 77 || x_7.snd.fst != 5 || x_7.snd.snd.fst != 0) (EnP w2 fun (w1 : World) => Post false w1)
                                        (CaP Tryz.prog 15 (Sh.el (El.one Sc.slice)) [Value.pointer x] w2 fun (x : Option Addr × Nat × Nat) (w2 : World) =>
                                         brP ((↑x.snd.fst : Int) != 4) (EnP w2 fun (w1 : World) => Post false w1) (∀ (w3 : World), Ext w2 w3 → ∃ (n' : Nat), n' < n ∧ I n' (addI IntKind.i64 s.fst 1, Unit.unit) w3)))
                      (CaP Tryz.prog 19 (Sh.el (El.one Sc.bool)) [] w1 fun (x : Bool) (w2 : World) => EnP w2 fun (w1 : World) => Post x w1)))) := by kernel_rfl
theorem pcopy_vc (p : Option Addr) (w : World) (Post : Option Addr → World → Prop) : (rxFn N0 (fun _ => []) 29 [.pointer p] w Post) = (
 ∃ (x : Int),
  QCalls Tryz.prog 32 [Value.pointer p] w (Value.int IntKind.i64 x) ∧
   brP (x == 0) (EnP w fun (w1 : World) => Post none w1)
    (p.isSome = true ∧
     p.isSome = true ∧
      LdP w none (addP p 0) (El.one Sc.slice) fun (x : Option Addr × Nat × Nat) =>
       ∀ (w1 : World),
        Ext w w1 →
         apR w1 68 4 32 { toList := [Value.int IntKind.i64 0, Value.int IntKind.i64 0, Value.int IntKind.i64 0, Value.int IntKind.i64 0] } (none, 0, 0) (x.fst, x.snd.fst, x.snd.snd) fun (r : Option Addr × Nat × Nat) (w2 : World) =>
          AlP w2 { toList := [Value.slice r.fst r.snd.fst r.snd.snd] } 129 fun (b : Nat) (w2 : World) => EnP w2 fun (w1 : World) => Post (some { block := b, off := 0 }) w1)) := by kernel_rfl
end Go.Proofs.YtkldededdgpmbaaGreat
namespace Go.Proofs.YtkldededdgpmbaaGreat
set_option linter.unusedSimpArgs false
set_option linter.unusedVariables false
set_option maxRecDepth 100000
open Go.RX D
/-! ### The laws' calls; what must come of fixed calls -/
section
variable {w0 w : World}
theorem wall_any {bm bw n c : Nat} {ca la : Int} {ws : List Int} {rest : List Value} {L0 : List (Nat × List Value)} (H : At [] w0 w ((bm, mcs bw n c ca la) :: (bw, flat eW ws ++ rest) :: L0)) (hn : n = ws.length) (h0 : 0 < n) (hW : okW ws) (f p t : Int) {K : FT → World → Prop}
    (k : ∀ ca' w1, At [] w0 w1 ((bm, mcs bw n c ca' la) :: (bw, flat eW ws ++ rest) :: L0) → K (allS ws f p t) w1) :
    CaP Tryz.prog 24 (.el (.agg sF)) [.pointer (some ⟨bm, 0, none⟩), .int .i64 f, .int .i64 p, .int .i64 t] w K := by
  refine CaP.go H fun w1 H => rxFnR_ok (C := M1) (ann := wall_vc_ann) (Eq.mpr (wall_vc _ f p t w1 K) ?_)
  refine AlP.go H fun b w2 H => wnew_at H f p t (fun hb w3 H => ?_) fun hb bk w3 H => ?_
  · have e : allS ws f p t = (0, 0, 0, 1, ()) := if_pos hb
    rw [e] at k
    exact brP_pos rfl (StP.all 0 H rfl rfl rfl fun w4 H => EnP.go H fun w5 H => LdP.at 0 H rfl rfl (k ca w5 (H.sub (List.sublist_cons_self _ _))))
  have e : allS ws f p t = (itS ws f p t 4).2.2 := if_neg (by rw [hb]; decide)
  rw [e] at k
  refine brP_neg rfl ⟨fun q _ w' => ∃ (i : Nat) (Ls : List (Nat × List Value)) (s : Option Addr × Nat × Nat) (xs : List Int) (ca' : Int), q + i = 4 ∧ i ≤ 3 ∧ (itS ws f p t i).2.1 ≠ -1 ∧ xs.length = i ∧ PIn Ls s xs ∧
      At [] w0 w' ((bk, wcs (itS ws f p t i).1 p t (itS ws f p t i).2.1 (itS ws f p t i).2.2 s) :: (bm, mcs bw n c ca' la) :: (bw, flat eW ws ++ rest) :: (Ls ++ ((b, [.int .i64 0, .int .i64 0, .int .i64 0, .int .i64 0]) :: L0))), ⟨4, fun w4 h4 => ⟨0, [], (none, 0, 0), [], ca, rfl, by decide, (show (3 : Int) ≠ -1 by decide), rfl, .inl ⟨rfl, rfl, rfl⟩, (H.ext h4).perm ?_⟩⟩, ?_⟩
  · exact .cons _ (List.perm_append_comm (l₁ := [(bm, mcs bw n c ca la), (bw, flat eW ws ++ rest)]) (l₂ := [(b, [.int .i64 0, .int .i64 0, .int .i64 0, .int .i64 0])]) |>.append_right L0)
  clear H
  rintro q u w4 ⟨i, Ls, s, xs, ca', hq, hi3, hl, hxl, hP, H⟩
  dsimp only
  refine wstep_at H hP (by omega) hn h0 hW hl fun w5 Ls' s' hP' H => ?_
  have es : stepS ws p t ((itS ws f p t i).1, (itS ws f p t i).2.1, (itS ws f p t i).2.2) = itS ws f p t (i + 1) := rfl
  rw [es] at H ⊢
  by_cases hd : (itS ws f p t (i + 1)).2.1 = -1
  · have e4 : itS ws f p t 4 = itS ws f p t (i + 1) := by
      have := it_stop hd (4 - (i + 1))
      rw [show i + 1 + (4 - (i + 1)) = 4 by omega] at this
      exact this
    rw [e4] at k
    generalize itS ws f p t (i + 1) = y at H hd k
    obtain ⟨y0, y1, ⟨y2, y3, y4, y5, yu⟩⟩ := y
    refine brP_neg (by rw [hd]; rfl) ⟨rfl, rfl, LdP.atA (x := (y2, y3, y4, y5, ())) 0 H rfl rfl ?_⟩
    have H := H.perm (L' := (b, [.int .i64 0, .int .i64 0, .int .i64 0, .int .i64 0]) :: ((bk, wcs y0 p t y1 (y2, y3, y4, y5, ()) s') :: (bm, mcs bw n c (upM ws (atI (itS ws f p t i).1 p (itS ws f p t i).2.1) ca') la) :: (bw, flat eW ws ++ rest) :: (Ls' ++ L0))) (by
      refine (List.perm_middle (l₁ := [(bk, wcs y0 p t y1 (y2, y3, y4, y5, ()) s'), (bm, mcs bw n c (upM ws (atI (itS ws f p t i).1 p (itS ws f p t i).2.1) ca') la), (bw, flat eW ws ++ rest)] ++ Ls') (a := (b, [.int .i64 0, .int .i64 0, .int .i64 0, .int .i64 0])) (l₂ := L0)).symm)
    refine StP.all 0 H rfl rfl rfl fun w6 H => EnP.go H fun w7 H => LdP.at 0 H rfl rfl (k (upM ws (atI (itS ws f p t i).1 p (itS ws f p t i).2.1) ca') w7 ?_)
    have H := (H.sub (List.sublist_cons_self _ _)).sub (List.sublist_cons_self _ _)
    exact H.sub (.cons_cons _ (.cons_cons _ (List.sublist_append_right _ _)))
  · have hlv := (it_lv ws f p t (i + 1)).resolve_left hd
    refine brP_pos (by simp [hd]) fun w6 h6 => ⟨q - 1, by omega, i + 1, Ls', s', xs ++ [(itS ws f p t i).1], _, by omega, hlv.2, hd, by rw [List.length_append, hxl]; rfl, hP', H.ext h6⟩
theorem wall_any2 {bm bw n c : Nat} {ca la : Int} {ws : List Int} {rest : List Value} {L : List (Nat × List Value)} (H : At [] w0 w L) (j jw : Nat) (hm : L[j]? = some (bm, mcs bw n c ca la)) (hw : L[jw]? = some (bw, flat eW ws ++ rest)) (hj : j ≠ jw) (hn : n = ws.length) (h0 : 0 < n) (hW : okW ws) (f p t : Int) {K : FT → World → Prop}
    (k : ∀ ca' w1, At [] w0 w1 (L.set j (bm, mcs bw n c ca' la)) → K (allS ws f p t) w1) :
    CaP Tryz.prog 24 (.el (.agg sF)) [.pointer (some ⟨bm, 0, none⟩), .int .i64 f, .int .i64 p, .int .i64 t] w K := by
  obtain ⟨L2, q1, q2⟩ := front2 hm hw hj
  exact wall_any (H.perm q1.symm) hn h0 hW f p t fun ca' w1 H => k ca' w1 (H.perm (q2 _))
end
section
variable {Q : Sys} {D G : List Nat} {w0 w : World} {s : WD} {L0 : List (Nat × List Value)} {bt : Nat} {o r : Int} {gone : Bool}

abbrev sys0 (bm bw bf bp n m : Nat) : Sys := { bm := bm, bw := bw, bf := bf, bp := bp, c := n, cp := m, rw := [], rf := [] }
theorem SAt.mk0 {bm bw bf bp n m : Nat} (hn : 1 ≤ n) (hm : 1 ≤ m ∧ m ≤ 4096) (H : AtD D G w0 w ((bp, [.slice (some ⟨bf, 0, none⟩) m m]) :: (bf, flat eD (List.replicate m zD) ++ []) :: (bm, mcs bw n n 0 0) :: (bw, flat eW (List.replicate n 0) ++ []) :: L0)) :
    SAt (sys0 bm bw bf bp n m) D G w0 w (fresh n m) L0 := by
  refine ⟨by show 0 < (List.replicate n (0 : Int)).length; simp; omega, by show 0 < (List.replicate m zD).length; simp; omega, by show (List.replicate m zD).length ≤ 4096; simp; omega, ?_, 0, 0, ?_⟩
  · intro v hv
    have : v = 0 := List.eq_of_mem_replicate hv
    subst this; decide
  · have H2 := H.perm (L' := (bm, mcs bw n n 0 0) :: (bw, flat eW (List.replicate n 0) ++ []) :: (bf, flat eD (List.replicate m zD) ++ []) :: (bp, [.slice (some ⟨bf, 0, none⟩) m m]) :: L0) ?_
    · show AtD D G w0 w ((bm, mcs bw (List.replicate n (0 : Int)).length n 0 0) :: (bw, _) :: (bf, _) :: (bp, [.slice (some ⟨bf, 0, none⟩) (List.replicate m zD).length m]) :: L0)
      rw [List.length_replicate, List.length_replicate]
      exact H2
    · refine List.Perm.trans ?_ (List.perm_append_comm (l₁ := [(bm, mcs bw n n 0 0), (bw, flat eW (List.replicate n 0) ++ [])]) (l₂ := [(bp, [.slice (some ⟨bf, 0, none⟩) m m]), (bf, flat eD (List.replicate m zD) ++ [])]) |>.append_right L0)
      exact .cons _ (.cons _ (.swap _ _ _))
namespace SAt
theorem ofq (S : SAt Q D G w0 w s L0) (f : Int) : QCalls Tryz.prog 33 [.pointer (some ⟨Q.bp, 0, none⟩), .int .i64 f] w ((Sh.tup [eD, .one .bool]).emb (ofV s.2 f, ofB s.2 f, ())) := by
  obtain ⟨h1, h2, h3, h4, ca, la, H⟩ := S
  exact of_q H 3 2 rfl rfl rfl f
theorem wall (S : SAt Q [] [] w0 w s L0) (f p t : Int) {K : FT → World → Prop} (k : ∀ w1, SAt Q [] [] w0 w1 s L0 → K (allS s.1 f p t) w1) :
    CaP Tryz.prog 24 (.el (.agg sF)) [.pointer (some ⟨Q.bm, 0, none⟩), .int .i64 f, .int .i64 p, .int .i64 t] w K := by
  obtain ⟨h1, h2, h3, h4, ca, la, H⟩ := S
  exact wall_any2 H 0 1 rfl rfl (by decide) rfl h1 h4 f p t fun ca' w1 H => k w1 ⟨h1, h2, h3, h4, ca', la, H⟩
end SAt
end
/-! The fixed calls. -/
def kA : WD := tkS (fresh 160 10) 1 (fun _ => 0)
def kB : WD := mapS kA 1 0 false 4660 5 3
def kC : WD := lrgS kB 1 0 false 4672 32 1
def kD : WD := proS kC 1 0 false 4679 7
def kE : WD := unmS kD 1 0 false 4660
theorem kA_F : tkF (fresh 160 10) 1 = 0 := by decide +kernel
theorem kA_E : tkE (fresh 160 10) 1 = 0 := by decide +kernel
theorem k1 : mapE kA 0 false 4660 5 3 = 0 := by decide +kernel
theorem k2 : mapE kB 0 false 4660 6 3 = 5 := by decide +kernel
theorem k2S : mapS kB 1 0 false 4660 6 3 = kB := by decide +kernel
theorem k3 : lrgE kB 0 false 4672 32 1 = 0 := by decide +kernel
theorem k4 : qryV kC 0 false 4679 = (39, 1, 0, ()) := by decide +kernel
theorem k5 : allS2 kC 0 false = [0, 1, 2, 3] := by decide +kernel
theorem k6 : proE kC 1 0 false 4679 7 = 0 := by decide +kernel
theorem k7 : (allS2 kD 0 false).length = 5 := by decide +kernel
theorem k8 : unmE kD 1 0 false 4660 = 0 ∧ unmF kD 1 0 false 4660 = 5 := by decide +kernel
theorem k9 : unmE kE 1 0 false 4660 = 4 := by decide +kernel
theorem k9S : unmS kE 1 0 false 4660 = kE := by decide +kernel
theorem k10 : (ofV kE.2 3).1 = 5 := by decide +kernel
theorem k11 : allS kE.1 0 4679 4 = (39, 7, 0, 0, ()) := by decide +kernel
theorem k12 : (allS2 kE 0 false).length = 4 := by decide +kernel
theorem kD_len : kD.1.length = 160 := by decide +kernel
theorem kE_len : kE.1.length = 160 := by decide +kernel
end Go.Proofs.YtkldededdgpmbaaGreat
namespace Go.Proofs.YtkldededdgpmbaaGreat
set_option linter.unusedSimpArgs false
set_option linter.unusedVariables false
set_option maxRecDepth 100000
open Go.RX D
theorem SAt.sl {Q : Sys} {D G : List Nat} {w0 w : World} {s : WD} {L0 rows : List (Nat × List Value)} {e : El} {x : Option Addr × Nat × Nat} {xs : List e.T} (S : SAt Q D G w0 w s L0) (hr : RowIn e rows x xs) (hm : ∀ y ∈ rows, y ∈ L0) : Sl w e x.1 xs := by
  obtain ⟨g1, g2, g3, g4, ca, la, H⟩ := S
  refine hr.sl H fun y hy => ?_
  show y ∈ _ :: _ :: _ :: _ :: L0
  simp [hm y hy]
theorem Sl.row {w : World} {b : Nat} {xs : List Int} {rest : List Value} (h : Blk w b (flat eN xs ++ rest)) : Sl w eN (some ⟨b, 0, none⟩) xs := by
  refine Sl.of_blk h ?_
  rw [List.take_append_of_le_length (by rw [flat_length]; exact Nat.le_refl _), List.take_of_length_le (by rw [flat_length]; exact Nat.le_refl _)]
theorem ints_q {p q : Option Addr} {c d : Nat} {w : World} {xs ys : List Int} (hx : Sl w eN p xs) (hy : Sl w eN q ys) (hb : xs.length < 4611686018427387904) :
    QCalls Tryz.prog 14 [.slice p xs.length c, .slice q ys.length d] w (.bool (decide (xs = ys))) :=
  QCalls.of (s := .el (.one .bool)) fun w' h' => ints_ok (hx.ext h') rfl (hy.ext h') rfl hb
theorem known_ok (w : World) : CallsR Tryz.prog 19 (.el (.one .bool)) [] w (fun b w' => b = true ∧ Ext w w') := by
  refine rxFn_ok (C := N3) (ann := fun _ => []) (Eq.mpr (zknown_vc w _) ?_)
  refine mnew_at (n := 160) (At.start [] w) ⟨by decide, by decide⟩ fun bm bw w1 H => pnew_at H 10 (fun h => absurd h (by decide)) fun _ _ bp bf w2 H => brP_neg rfl ?_
  have S : SAt (sys0 bm bw bf bp 160 10) [] [] w w2 (fresh 160 10) [] := SAt.mk0 (by decide) ⟨by decide, by decide⟩ H
  have hr : (0 : Int) ≤ 0 ∧ (0 : Int) < 4096 := ⟨by decide, by decide⟩
  refine S.new 1 (fun h => absurd h (by decide)) (fun _ h => absurd kA_E h) fun _ _ bt w3 S => brP_neg rfl ?_
  rw [kA_F] at S
  have S : SAt (sys0 bm bw bf bp 160 10) [] [] w w3 kA [(bt, tcs (sys0 bm bw bf bp 160 10) 1 0 false)] := S
  refine S.map 0 rfl 4660 5 3 fun w4 S => ?_
  have S : SAt (sys0 bm bw bf bp 160 10) [] [] w w4 kB [(bt, tcs (sys0 bm bw bf bp 160 10) 1 0 false)] := S
  refine S.map 0 rfl 4660 6 3 fun w5 S => ?_
  rw [k2S] at S
  refine S.large 0 rfl 4672 32 1 fun w6 S => ?_
  have S : SAt (sys0 bm bw bf bp 160 10) [] [] w w6 kC [(bt, tcs (sys0 bm bw bf bp 160 10) 1 0 false)] := S
  refine S.query 0 rfl 4679 fun w7 S => S.all 0 rfl hr fun x7 rows7 w8 S hr7 => S.protect 0 rfl 4679 7 fun w9 S => ?_
  have S : SAt (sys0 bm bw bf bp 160 10) [] [] w w9 kD ((bt, tcs (sys0 bm bw bf bp 160 10) 1 0 false) :: rows7) := S
  have fD : Few (sys0 bm bw bf bp 160 10) kD := by unfold Few; rw [kD_len]; exact ⟨Nat.le_refl _, by decide⟩
  have fE : Few (sys0 bm bw bf bp 160 10) kE := by unfold Few; rw [kE_len]; exact ⟨Nat.le_refl _, by decide⟩
  refine S.all 0 rfl hr fun x9 rows9 w10 S hr9 => S.unmap fD 0 rfl hr 4660 fun w11 S => ?_
  have S : SAt (sys0 bm bw bf bp 160 10) [] [] w w11 kE ((bt, tcs (sys0 bm bw bf bp 160 10) 1 0 false) :: (rows7 ++ rows9)) := S
  refine S.unmap fE 0 rfl hr 4660 fun w12 S => ?_
  rw [k9S] at S
  refine ⟨(ofV kE.2 3, ofB kE.2 3, ()), S.ofq 3, S.al fun b w13 S => S.stAll 0 rfl rfl rfl fun w14 S => ⟨_, S.root 1 rfl, S.wall 0 4679 4 fun w15 S => S.al fun b1 w16 S => S.stAll 0 rfl rfl rfl fun w17 S => S.drop 2 rfl hr fun x rows w18 S hrow => ?_⟩⟩
  obtain ⟨x7p, x7n, x7c⟩ := x7
  obtain ⟨x9p, x9n, x9c⟩ := x9
  obtain ⟨xp, xn, xc⟩ := x
  have h7 : x7n = (allS2 kC 0 false).length := hr7.1
  have h9 : x9n = (allS2 kD 0 false).length := hr9.1
  have h0 : xn = (allS2 kE 0 false).length := hrow.1
  rw [k7] at h9
  rw [k12] at h0
  rw [k5] at h7 hr7
  have h7' : x7n = 4 := h7
  subst h7'; subst h9; subst h0
  have e1 : mapE (tkS (fresh 160 10) 1 fun _ => 0) 0 false 4660 5 3 = 0 := k1
  dsimp only
  refine brP_pos (by rw [k1, k2, k3, k4]; rfl) (S.al fun b2 w19 S => ⟨true, ?_, fun _ => rfl, ?_⟩)
  · have hx := S.sl hr7 (fun y hy => by simp [hy])
    have hy : Sl w19 eN (some ⟨b2, 0, none⟩) [0, 1, 2, 3] := Sl.row (rest := []) (S.get (i := 0) rfl)
    have := ints_q (c := x7c) (d := 4) hx hy (by decide)
    exact this
  · refine S.ldA 2 rfl rfl (S.ld 1 rfl rfl ⟨-1, fun _ => S.root 3 rfl, brP_pos ?_ (S.map 3 rfl 0 0 1 fun w20 S => S.en fun w21 S => ⟨rfl, ?_⟩)⟩)
    · rw [k6, k8.1, k8.2, k9, k10, k11]; rfl
    · obtain ⟨g1, g2, g3, g4, ca, la, H⟩ := S
      exact H.all
end Go.Proofs.YtkldededdgpmbaaGreat
namespace Go.Proofs.YtkldededdgpmbaaGreat
set_option linter.unusedSimpArgs false
set_option linter.unusedVariables false
set_option maxRecDepth 100000
open Go.RX D
/-! ### Two systems side by side: the program's and the document's -/
/-- The first system's, and the second one's, are known at once. -/
def Two (Q Q' : Sys) (D G : List Nat) (w0 w : World) (s s' : WD) (L0 : List (Nat × List Value)) : Prop :=
  (∃ ca la, SAt Q D G w0 w s (Q'.L ca la s' L0)) ∧ 0 < s'.1.length ∧ 0 < s'.2.length ∧ s'.2.length ≤ 4096 ∧ okW s'.1
theorem Sys.swap (Q Q' : Sys) (ca la ca' la' : Int) (s s' : WD) (L0 : List (Nat × List Value)) : (Q.L ca la s (Q'.L ca' la' s' L0)).Perm (Q'.L ca' la' s' (Q.L ca la s L0)) := by
  have e : ∀ (Q Q' : Sys) (ca la ca' la' : Int) (s s' : WD), Q.L ca la s (Q'.L ca' la' s' L0) = (Q.L ca la s [] ++ Q'.L ca' la' s' []) ++ L0 := fun _ _ _ _ _ _ _ _ => rfl
  rw [e, e]
  exact List.perm_append_comm.append_right L0
section
variable {Q Q' : Sys} {D G : List Nat} {w0 w w1 : World} {s s' : WD} {L0 L1 : List (Nat × List Value)}
namespace Two
theorem ext (T : Two Q Q' D G w0 w s s' L0) (h : Ext w w1) : Two Q Q' D G w0 w1 s s' L0 := by
  obtain ⟨⟨ca, la, S⟩, k⟩ := T
  exact ⟨⟨ca, la, S.ext h⟩, k⟩
theorem swap (T : Two Q Q' D G w0 w s s' L0) : Two Q' Q D G w0 w s' s L0 := by
  obtain ⟨⟨ca, la, h1, h2, h3, h4, ca', la', H⟩, k1, k2, k3, k4⟩ := T
  exact ⟨⟨ca', la', k1, k2, k3, k4, ca, la, H.perm (Sys.swap Q' Q ca la ca' la' s' s L0)⟩, h1, h2, h3, h4⟩
/-- One more call of the first system's. -/
theorem of (T : Two Q Q' D G w0 w s s' L0) {w2 : World} {t : WD} {ca la : Int} (S : SAt Q D G w0 w2 t (Q'.L ca la s' L1)) : Two Q Q' D G w0 w2 t s' L1 := ⟨⟨ca, la, S⟩, T.2⟩
theorem fst (T : Two Q Q' D G w0 w s s' L0) : SAt Q D G w0 w s L0 := by
  obtain ⟨⟨ca, la, S⟩, k⟩ := T
  exact S.tail.tail.tail.tail
theorem snd (T : Two Q Q' D G w0 w s s' L0) : SAt Q' D G w0 w s' L0 := T.swap.fst
theorem perm (T : Two Q Q' D G w0 w s s' L0) (h : L1.Perm L0) : Two Q Q' D G w0 w s s' L1 := by
  obtain ⟨⟨ca, la, S⟩, k⟩ := T
  exact ⟨⟨ca, la, S.perm ((((h.cons _).cons _).cons _).cons _)⟩, k⟩
theorem sub (T : Two Q Q' D G w0 w s s' L0) (h : L1.Sublist L0) : Two Q Q' D G w0 w s s' L1 := by
  obtain ⟨⟨ca, la, S⟩, k⟩ := T
  exact ⟨⟨ca, la, S.sub ((((h.cons_cons _).cons_cons _).cons_cons _).cons_cons _)⟩, k⟩
end Two
theorem L_fresh {bm bw bf bp n m : Nat} (L0 : List (Nat × List Value)) : ((sys0 bm bw bf bp n m).L 0 0 (fresh n m) L0).Perm ((bp, [.slice (some ⟨bf, 0, none⟩) m m]) :: (bf, flat eD (List.replicate m zD) ++ []) :: (bm, mcs bw n n 0 0) :: (bw, flat eW (List.replicate n 0) ++ []) :: L0) := by
  have e : (sys0 bm bw bf bp n m).L 0 0 (fresh n m) L0 = (bm, mcs bw n n 0 0) :: (bw, flat eW (List.replicate n 0) ++ []) :: (bf, flat eD (List.replicate m zD) ++ []) :: (bp, [.slice (some ⟨bf, 0, none⟩) m m]) :: L0 := by
    unfold Sys.L fresh
    dsimp only [sys0]
    rw [List.length_replicate, List.length_replicate]
  rw [e]
  refine List.Perm.trans ?_ (List.perm_append_comm (l₁ := [(bm, mcs bw n n 0 0), (bw, flat eW (List.replicate n 0) ++ [])]) (l₂ := [(bp, [.slice (some ⟨bf, 0, none⟩) m m]), (bf, flat eD (List.replicate m zD) ++ [])]) |>.append_right L0)
  exact .cons _ (.cons _ (.swap _ _ _))
end
/-- A law's world. -/
abbrev wcs2 (Q Q' : Sys) (t0 t1 u0 u1 : Option Addr) : List Value := [.pointer (some ⟨Q.bm, 0, none⟩), .pointer (some ⟨Q.bp, 0, none⟩), .pointer t0, .pointer t1, .pointer (some ⟨Q'.bm, 0, none⟩), .pointer (some ⟨Q'.bp, 0, none⟩), .pointer u0, .pointer u1]
abbrev at0 (b : Nat) : Option Addr := some ⟨b, 0, none⟩
/-- Behind one guest's tables, and behind two guests'. -/
def stA (n : Nat) : WD := tkS (fresh (16 * n) n) 1 fun _ => 0
def stB (n : Nat) : WD := tkS (stA n) 2 fun _ => 0
def rtA (n : Nat) : Int := tkF (fresh (16 * n) n) 1
def rtB (n : Nat) : Int := tkF (stA n) 2
theorem stA_ok {n : Nat} (h : 1 ≤ n ∧ n ≤ 4096) : tkE (fresh (16 * n) n) 1 = 0 ∧ 0 ≤ rtA n ∧ rtA n < n ∧ Inv (setG noG (rtA n) (some (1, 3, 0))) (stA n) ∧ (stA n).1.length = 16 * n ∧ (stA n).2.length = n ∧
    cntL (stA n).2 0 + 1 = n ∧ cntL (stA n).2 3 = 1 ∧ cntL (stA n).2 5 = 0 ∧ (∀ b, ldV (stA n).1 b = 0) := by
  have I := inv_fresh (n := 16 * n) (m := n) (by omega) h.2
  have hl1 : (fresh (16 * n) n).1.length = 16 * n := by simp [fresh]
  have hl2 : (fresh (16 * n) n).2.length = n := by simp [fresh]
  have c0 : ∀ v, cntL (fresh (16 * n) n).2 v = if v = 0 then n else 0 := cnt_rep n
  obtain ⟨q1, q2, q3, q4, q5, q6, q7, q8, q9, q10⟩ := I.born (o := 1) ⟨by decide, by decide⟩ (fun f hf => by cases hf) (by rw [c0, if_pos rfl]; omega)
  have hs : ∀ v, _ := fun v => cnt_set (d' := (3, 1, 0, 0, ())) q6 v
  have e5 : (stA n).2 = _ := q5
  rw [hl2] at q4
  refine ⟨q1, q3, q4, q10, by rw [← hl1]; exact q9, by rw [e5, List.length_set, hl2], ?_, ?_, ?_, fun b => ?_⟩
  · have := hs 0
    rw [e5]
    rw [c0, if_pos rfl] at this
    simpa [zD] using this
  · have := hs 3
    rw [e5]
    rw [c0, if_neg (by decide)] at this
    simpa [zD] using this
  · have := hs 5
    rw [e5]
    rw [c0, if_neg (by decide)] at this
    simpa [zD] using this
  · by_cases hb : b < 16 * rtA n ∨ 16 * rtA n + 16 ≤ b
    · exact (q7 b hb).trans (ld_fresh _ _ _)
    · have := q8 (b - 16 * rtA n) (by omega) (by omega)
      rw [← this]
      show ldV (tkS _ _ _).1 b = ldV (tkS _ _ _).1 (16 * rtA n + (b - 16 * rtA n))
      congr 1; omega
/-- Whose tables there are, behind two guests'. -/
def ghB (n : Nat) : Gh := setG (setG noG (rtA n) (some (1, 3, 0))) (rtB n) (some (2, 3, 0))
theorem stB_ok {n : Nat} (h : 2 ≤ n ∧ n ≤ 4096) : tkE (stA n) 2 = 0 ∧ (0 ≤ rtB n ∧ rtB n < n) ∧ (0 ≤ rtA n ∧ rtA n < n) ∧ rtA n ≠ rtB n ∧ Inv (ghB n) (stB n) ∧ (stB n).1.length = 16 * n ∧ (stB n).2.length = n ∧
    cntL (stB n).2 0 + 2 = n ∧ cntL (stB n).2 3 = 2 ∧ cntL (stB n).2 5 = 0 ∧ (∀ b, ldV (stB n).1 b = 0) := by
  obtain ⟨p1, p2, p3, p4, p5, p6, p7, p8, p9, p10⟩ := stA_ok (n := n) ⟨by omega, h.2⟩
  obtain ⟨q1, q2, q3, q4, q5, q6, q7, q8, q9, q10⟩ := p4.born (o := 2) ⟨by decide, by decide⟩ (fun f hf => by
    unfold setG at hf
    split at hf <;> cases hf) (by omega)
  have hs : ∀ v, _ := fun v => cnt_set (d' := (3, 2, 0, 0, ())) q6 v
  have e5 : (stB n).2 = _ := q5
  rw [p6] at q4
  refine ⟨q1, ⟨q3, q4⟩, ⟨p2, p3⟩, fun e => ?_, q10, by rw [← p5]; exact q9, by rw [e5, List.length_set, p6], ?_, ?_, ?_, fun b => ?_⟩
  · have e : rtA n = tkF (stA n) 2 := e
    rw [← e, setG_self] at q2
    cases q2
  · have := hs 0
    rw [e5]
    simp [zD] at this
    omega
  · have := hs 3
    rw [e5]
    simp [zD] at this
    omega
  · have := hs 5
    rw [e5]
    simp [zD] at this
    omega
  · by_cases hb : b < 16 * rtB n ∨ 16 * rtB n + 16 ≤ b
    · exact (q7 b hb).trans (p10 b)
    · have := q8 (b - 16 * rtB n) (by omega) (by omega)
      rw [← this]
      show ldV (tkS _ _ _).1 b = ldV (tkS _ _ _).1 (16 * rtB n + (b - 16 * rtB n))
      congr 1; omega
theorem stB_one : tkE (stA 1) 2 = 12 ∧ stB 1 = stA 1 := by
  obtain ⟨p1, p2, p3, p4, p5, p6, p7, p8, p9, p10⟩ := stA_ok (n := 1) ⟨by decide, by decide⟩
  have h0 : cntL (stA 1).2 0 = 0 := by omega
  have e := free0 h0
  refine ⟨?_, tkS_err (tkE_none h0 (by omega))⟩
  unfold tkE takeE
  rw [if_neg (by omega), e]
theorem ghB_root (n : Nat) (h : rtA n ≠ rtB n) : ghB n (rtA n) = some (1, 3, 0) ∧ ghB n (rtB n) = some (2, 3, 0) := ⟨by unfold ghB; rw [setG_ne h, setG_self], setG_self _ _ _⟩
theorem ghB_only {n : Nat} {f : Int} {v : Int × Nat × Int} (h : ghB n f = some v) : v.2.1 = 3 := by
  unfold ghB setG at h
  split at h
  · cases h; rfl
  · split at h
    · cases h; rfl
    · cases h
section
variable {w0 w : World} {L : List (Nat × List Value)}
theorem begin_at (H : At [] w0 w L) (n : Nat) (hn : 1 ≤ n ∧ n ≤ 200) {K : Option Addr × Bool × Unit → World → Prop}
    (k1 : n = 1 → ∀ Q Q' b b0 c0 c1 w1, Few Q (stA n) → Two Q Q' [] [] w0 w1 (stA n) (stA n) ((b, wcs2 Q Q' (at0 b0) none (at0 c0) (at0 c1)) :: (b0, tcs Q 1 (rtA n) false) :: (c0, tcs Q' 1 (rtA n) false) :: (c1, tcs Q' 2 0 false) :: L) → K (at0 b, true, ()) w1)
    (k2 : 2 ≤ n → ∀ Q Q' b b0 b1 c0 c1 w1, Few Q (stB n) → Two Q Q' [] [] w0 w1 (stB n) (stB n) ((b, wcs2 Q Q' (at0 b0) (at0 b1) (at0 c0) (at0 c1)) :: (b0, tcs Q 1 (rtA n) false) :: (b1, tcs Q 2 (rtB n) false) :: (c0, tcs Q' 1 (rtA n) false) :: (c1, tcs Q' 2 (rtB n) false) :: L) → K (at0 b, true, ()) w1) :
    CaP Tryz.prog 9 (.tup [.one .ptr, .one .bool]) [.int .i64 (n : Int)] w K := by
  refine CaP.go H fun w1 H => rxFn_ok (C := N3) (ann := zbegin_vc_ann) (Eq.mpr (zbegin_vc (n : Int) w1 K) ?_)
  have em : mulI .i64 16 (n : Int) = ((16 * n : Nat) : Int) := by rw [mulI_i64 (by omega) (by omega)]; omega
  rw [em]
  refine AlP.go H fun b w2 H => mnew_at H ⟨by omega, by omega⟩ fun bm bw w3 H => pnew_at H (n : Int) (fun h => by omega) fun _ _ bp bf w4 H => ?_
  replace H := H.perm (L_fresh (bm := bm) (bw := bw) (bf := bf) (bp := bp) (n := 16 * n) (m := n) _)
  refine nnew_at H ⟨by omega, by omega⟩ fun om ow w5 H => rpnew_at H (n : Int) (fun h => by omega) fun _ _ qp qf w6 H9 => ?_
  replace H9 := H9.perm (L_fresh (bm := om) (bw := ow) (bf := qf) (bp := qp) (n := 16 * n) (m := n) _)
  obtain ⟨p1, p2, p3, p4, p5, p6, p7, p8, p9, p10⟩ := stA_ok (n := n) ⟨hn.1, by omega⟩
  have f1 : (fresh (16 * n) n).1.length = 16 * n := by simp [fresh]
  have f2 : (fresh (16 * n) n).2.length = n := by simp [fresh]
  have fok : okW (fresh (16 * n) n).1 := by
    intro v hv
    have : v = 0 := List.eq_of_mem_replicate hv
    subst this; decide
  obtain ⟨Q, hQ⟩ : ∃ Q, Q = sys0 bm bw bf bp (16 * n) n := ⟨_, rfl⟩
  obtain ⟨Q', hQ'⟩ : ∃ Q, Q = sys0 om ow qf qp (16 * n) n := ⟨_, rfl⟩
  have m1 : bm = Q.bm := by rw [hQ]
  have m2 : bp = Q.bp := by rw [hQ]
  have m3 : om = Q'.bm := by rw [hQ']
  have m4 : qp = Q'.bp := by rw [hQ']
  have fw : Q.c = 16 * n := by rw [hQ]
  rw [← hQ', ← hQ] at H9
  clear hQ hQ'
  subst m1; subst m2; subst m3; subst m4
  have T : Two Q Q' [] [] w0 w6 (fresh (16 * n) n) (fresh (16 * n) n) ((b, [.pointer none, .pointer none, .pointer none, .pointer none, .pointer none, .pointer none, .pointer none, .pointer none]) :: L) :=
    Two.swap ⟨⟨0, 0, by omega, by omega, by omega, fok, 0, 0, H9⟩, by omega, by omega, by omega, fok⟩
  clear H9
  have few : ∀ s : WD, s.1.length = 16 * n → Few Q s := fun s h => ⟨by omega, by omega⟩
  obtain ⟨⟨ca, la, S⟩, T2⟩ := T
  refine ⟨rfl, rfl, S.stOneA 4 rfl rfl rfl fun w7 S => ⟨rfl, rfl, S.stOneA 4 rfl rfl rfl fun w8 S => ⟨rfl, rfl, S.stOneA 4 rfl rfl rfl fun w9 S => ⟨rfl, rfl, S.stOneA 4 rfl rfl rfl fun w10 S => brP_neg rfl ?_⟩⟩⟩⟩
  have T : Two Q Q' [] [] w0 w10 (fresh (16 * n) n) (fresh (16 * n) n) ((b, wcs2 Q Q' none none none none) :: L) := ⟨⟨ca, la, S⟩, T2⟩
  clear S T2
  let R1 : World → Prop := fun w' => ∃ b0 c0, Two Q Q' [] [] w0 w' (stA n) (stA n) ((c0, tcs Q' 1 (rtA n) false) :: (b0, tcs Q 1 (rtA n) false) :: (b, wcs2 Q Q' (at0 b0) none (at0 c0) none) :: L)
  let R2 : World → Prop := fun w' => (n = 1 ∧ ∃ b0 c0 c1, Two Q Q' [] [] w0 w' (stA n) (stA n) ((b, wcs2 Q Q' (at0 b0) none (at0 c0) (at0 c1)) :: (b0, tcs Q 1 (rtA n) false) :: (c0, tcs Q' 1 (rtA n) false) :: (c1, tcs Q' 2 0 false) :: L)) ∨
    (2 ≤ n ∧ ∃ b0 b1 c0 c1, Two Q Q' [] [] w0 w' (stB n) (stB n) ((b, wcs2 Q Q' (at0 b0) (at0 b1) (at0 c0) (at0 c1)) :: (b0, tcs Q 1 (rtA n) false) :: (b1, tcs Q 2 (rtB n) false) :: (c0, tcs Q' 1 (rtA n) false) :: (c1, tcs Q' 2 (rtB n) false) :: L))
  refine ⟨fun k v w' => (k = 2 ∧ v.1 = 0 ∧ Two Q Q' [] [] w0 w' (fresh (16 * n) n) (fresh (16 * n) n) ((b, wcs2 Q Q' none none none none) :: L)) ∨ (k = 1 ∧ v.1 = 1 ∧ R1 w') ∨ (k = 0 ∧ v.1 = 2 ∧ R2 w'), ⟨2, fun w11 h => .inl ⟨rfl, rfl, T.ext h⟩⟩, ?_⟩
  clear T
  rintro k ⟨v, u⟩ w11 (⟨rfl, e, T⟩ | ⟨rfl, e, b0, c0, T⟩ | ⟨rfl, e, h⟩)
  · obtain rfl : v = 0 := e
    refine brP_pos rfl ?_
    dsimp only
    obtain ⟨⟨ca, la, S⟩, T2⟩ := T
    have hl : ¬ ((fresh (16 * n) n).1.length : Int) < 16 * ((fresh (16 * n) n).2.length : Int) := by rw [f1, f2]; omega
    refine S.new 1 (fun h => absurd h hl) (fun _ h => absurd p1 h) fun _ _ b0 w12 S => ?_
    have S := S.perm (L1 := Q'.L ca la (fresh (16 * n) n) ((b0, tcs Q 1 (rtA n) false) :: (b, wcs2 Q Q' none none none none) :: L)) (by
      exact List.perm_middle (l₁ := [_, _, _, _]))
    have T : Two Q Q' [] [] w0 w12 (stA n) (fresh (16 * n) n) ((b0, tcs Q 1 (rtA n) false) :: (b, wcs2 Q Q' none none none none) :: L) := ⟨⟨ca, la, S⟩, T2⟩
    obtain ⟨⟨ca, la, S⟩, T2⟩ := T.swap
    clear T
    refine S.rnew 1 (fun h => absurd p1 h) (fun _ c0 w13 S => ?_) hl
    have S := S.perm (L1 := Q.L ca la (stA n) ((c0, tcs Q' 1 (rtA n) false) :: (b0, tcs Q 1 (rtA n) false) :: (b, wcs2 Q Q' none none none none) :: L)) (by
      exact List.perm_middle (l₁ := [_, _, _, _]))
    have T : Two Q' Q [] [] w0 w13 (stA n) (stA n) ((c0, tcs Q' 1 (rtA n) false) :: (b0, tcs Q 1 (rtA n) false) :: (b, wcs2 Q Q' none none none none) :: L) := ⟨⟨ca, la, S⟩, T2⟩
    obtain ⟨⟨ca, la, S⟩, T2⟩ := T.swap
    refine brP_neg rfl ⟨rfl, rfl, ⟨rfl, by decide, by decide⟩, ?_⟩
    rw [addP_B]
    refine S.stOneA 6 rfl rfl rfl fun w14 S => ⟨rfl, rfl, ⟨rfl, by decide, by decide⟩, ?_⟩
    rw [addP_B]
    refine S.stOneA 6 rfl rfl rfl fun w15 S => fun w16 h => ⟨1, by decide, .inr (.inl ⟨rfl, rfl, b0, c0, ⟨ca, la, S.ext h⟩, T2⟩)⟩
  · obtain rfl : v = 1 := e
    refine brP_pos rfl ?_
    dsimp only
    obtain ⟨⟨ca, la, S⟩, T2⟩ := T
    have hl : ¬ ((stA n).1.length : Int) < 16 * ((stA n).2.length : Int) := by omega
    by_cases h1 : n = 1
    · have ⟨z1, z2⟩ := stB_one
      rw [← h1] at z1 z2
      have z2 : tkS (stA n) 2 (fun _ => 0) = stA n := z2
      have z0 : ¬ tkE (stA n) 2 = 0 := by rw [z1]; decide
      refine S.new 2 (fun h => absurd h hl) (fun _ _ w12 S => ?_) (fun _ h => absurd h z0)
      rw [z2] at S
      have T : Two Q Q' [] [] w0 w12 (stA n) (stA n) ((c0, tcs Q' 1 (rtA n) false) :: (b0, tcs Q 1 (rtA n) false) :: (b, wcs2 Q Q' (at0 b0) none (at0 c0) none) :: L) := ⟨⟨ca, la, S⟩, T2⟩
      obtain ⟨⟨ca, la, S⟩, T2⟩ := T.swap
      clear T
      refine S.rnew 2 (fun _ c1 w13 S => ?_) (fun h => absurd h z0) hl
      rw [z2] at S
      have S := S.perm (L1 := Q.L ca la (stA n) ((c1, tcs Q' 2 0 false) :: (c0, tcs Q' 1 (rtA n) false) :: (b0, tcs Q 1 (rtA n) false) :: (b, wcs2 Q Q' (at0 b0) none (at0 c0) none) :: L)) (by
        exact List.perm_middle (l₁ := [_, _, _, _]))
      have T : Two Q' Q [] [] w0 w13 (stA n) (stA n) ((c1, tcs Q' 2 0 false) :: (c0, tcs Q' 1 (rtA n) false) :: (b0, tcs Q 1 (rtA n) false) :: (b, wcs2 Q Q' (at0 b0) none (at0 c0) none) :: L) := ⟨⟨ca, la, S⟩, T2⟩
      obtain ⟨⟨ca, la, S⟩, T2⟩ := T.swap
      have z1 : tkE (stA n) (1 + 1) = 12 := z1
      refine brP_neg (by rw [show tkE (stA n) 2 = 12 from z1]; rfl) ⟨rfl, rfl, ⟨rfl, by decide, by decide⟩, ?_⟩
      rw [addP_B]
      refine S.stOneA 7 rfl rfl rfl fun w14 S => ⟨rfl, rfl, ⟨rfl, by decide, by decide⟩, ?_⟩
      rw [addP_B]
      refine S.stOneA 7 rfl rfl rfl fun w15 S => fun w16 h => ⟨0, by decide, .inr (.inr ⟨rfl, rfl, .inl ⟨h1, b0, c0, c1, ?_⟩⟩)⟩
      have T : Two Q Q' [] [] w0 w16 (stA n) (stA n) ((c1, tcs Q' 2 0 false) :: (c0, tcs Q' 1 (rtA n) false) :: (b0, tcs Q 1 (rtA n) false) :: (b, wcs2 Q Q' (at0 b0) none (at0 c0) (at0 c1)) :: L) := ⟨⟨ca, la, S.ext h⟩, T2⟩
      refine T.perm ?_
      exact List.Perm.append_right L (List.reverse_perm [(c1, tcs Q' 2 0 false), (c0, tcs Q' 1 (rtA n) false), (b0, tcs Q 1 (rtA n) false), (b, wcs2 Q Q' (at0 b0) none (at0 c0) (at0 c1))])
    · have h2 : 2 ≤ n ∧ n ≤ 4096 := by omega
      obtain ⟨z1, z2⟩ := stB_ok h2
      refine S.new 2 (fun h => absurd h hl) (fun _ h => absurd z1 h) fun _ _ b1 w12 S => ?_
      have S := S.perm (L1 := Q'.L ca la (stA n) ((b1, tcs Q 2 (rtB n) false) :: (c0, tcs Q' 1 (rtA n) false) :: (b0, tcs Q 1 (rtA n) false) :: (b, wcs2 Q Q' (at0 b0) none (at0 c0) none) :: L)) (by
        exact List.perm_middle (l₁ := [_, _, _, _]))
      have T : Two Q Q' [] [] w0 w12 (stB n) (stA n) ((b1, tcs Q 2 (rtB n) false) :: (c0, tcs Q' 1 (rtA n) false) :: (b0, tcs Q 1 (rtA n) false) :: (b, wcs2 Q Q' (at0 b0) none (at0 c0) none) :: L) := ⟨⟨ca, la, S⟩, T2⟩
      obtain ⟨⟨ca, la, S⟩, T2⟩ := T.swap
      clear T
      refine S.rnew 2 (fun h => absurd z1 h) (fun _ c1 w13 S => ?_) hl
      have S := S.perm (L1 := Q.L ca la (stB n) ((c1, tcs Q' 2 (rtB n) false) :: (b1, tcs Q 2 (rtB n) false) :: (c0, tcs Q' 1 (rtA n) false) :: (b0, tcs Q 1 (rtA n) false) :: (b, wcs2 Q Q' (at0 b0) none (at0 c0) none) :: L)) (by
        exact List.perm_middle (l₁ := [_, _, _, _]))
      have T : Two Q' Q [] [] w0 w13 (stB n) (stB n) ((c1, tcs Q' 2 (rtB n) false) :: (b1, tcs Q 2 (rtB n) false) :: (c0, tcs Q' 1 (rtA n) false) :: (b0, tcs Q 1 (rtA n) false) :: (b, wcs2 Q Q' (at0 b0) none (at0 c0) none) :: L) := ⟨⟨ca, la, S⟩, T2⟩
      obtain ⟨⟨ca, la, S⟩, T2⟩ := T.swap
      refine brP_neg rfl ⟨rfl, rfl, ⟨rfl, by decide, by decide⟩, ?_⟩
      rw [addP_B]
      refine S.stOneA 8 rfl rfl rfl fun w14 S => ⟨rfl, rfl, ⟨rfl, by decide, by decide⟩, ?_⟩
      rw [addP_B]
      refine S.stOneA 8 rfl rfl rfl fun w15 S => fun w16 h => ⟨0, by decide, .inr (.inr ⟨rfl, rfl, .inr ⟨h2.1, b0, b1, c0, c1, ?_⟩⟩)⟩
      have T : Two Q Q' [] [] w0 w16 (stB n) (stB n) ((c1, tcs Q' 2 (rtB n) false) :: (b1, tcs Q 2 (rtB n) false) :: (c0, tcs Q' 1 (rtA n) false) :: (b0, tcs Q 1 (rtA n) false) :: (b, wcs2 Q Q' (at0 b0) (at0 b1) (at0 c0) (at0 c1)) :: L) := ⟨⟨ca, la, S.ext h⟩, T2⟩
      refine T.perm ?_
      refine List.Perm.trans ?_ (List.Perm.append_right L (List.reverse_perm [(c1, tcs Q' 2 (rtB n) false), (b1, tcs Q 2 (rtB n) false), (c0, tcs Q' 1 (rtA n) false), (b0, tcs Q 1 (rtA n) false), (b, wcs2 Q Q' (at0 b0) (at0 b1) (at0 c0) (at0 c1))]))
      exact .cons _ (.cons _ (.swap _ _ _))
  · obtain rfl : v = 2 := e
    refine brP_neg rfl ?_
    intro w12 h12
    rcases h with ⟨h1, b0, c0, c1, T⟩ | ⟨h2, b0, b1, c0, c1, T⟩
    · exact k1 h1 Q Q' b b0 c0 c1 w12 (few _ p5) (T.ext h12)
    · exact k2 h2 Q Q' b b0 b1 c0 c1 w12 (few _ (stB_ok ⟨h2, by omega⟩).2.2.2.2.2.1) (T.ext h12)
end
end Go.Proofs.YtkldededdgpmbaaGreat
