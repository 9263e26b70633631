import Derived.Test.YtkldededdgpmbaaGreatMA
import Derived.Test.YtkldededdgpmbaaGreatRx
namespace Go.Proofs.YtkldededdgpmbaaGreat
set_option linter.unusedSimpArgs false
set_option linter.unusedVariables false
set_option maxRecDepth 100000
open Go.RX
noncomputable def D0 : Cfg Tryz.prog := { C3 with share := true }
theorem pbit_vc (b : Bool) (w : World) (Post : Int → World → Prop) : (rxFn D0 (fun _ => []) 113 [.bool b] w Post) = (
 brP b (EnP w fun (w1 : World) => Post 1 w1) (EnP w fun (w1 : World) => Post 0 w1)) := by kernel_rfl
theorem right_vc (p : Bool) (r : Int) (l : Bool) (f : Int) (w : World) (Post : Bool → World → Prop) : (rxFn D0 (fun _ => []) 108 [.agg ⟨[.bool p, .int .i64 r, .bool l, .int .i64 f]⟩] w Post) = (
 AlP w { toList := [Value.bool p, Value.int IntKind.i64 r, Value.bool l, Value.int IntKind.i64 f] } 93 fun (b : Nat) (w2 : World) =>
  true = true ∧
   LdP w2 none (addP (some { block := b, off := 0 }) 0) (El.one Sc.bool) fun (x : Bool) =>
    brP (!x)
     (LdP w2 none (some { block := b, off := 0 }) (El.agg [Sc.bool, Sc.int IntKind.i64, Sc.bool, Sc.int IntKind.i64]) fun (x : Bool × Int × Bool × Int × Unit) =>
      EnP w2 fun (w1 : World) => Post (x.fst == false && (x.snd.fst == 0 && (x.snd.snd.fst == false && (x.snd.snd.snd.fst == 0 && true)))) w1)
     (true = true ∧
      LdP w2 none (addP (some { block := b, off := 0 }) 1) (El.one (Sc.int IntKind.i64)) fun (x : Int) =>
       ((!decide (x < 0)) = true → true = true) ∧
        LdP w2 (some !decide (x < 0)) (addP (some { block := b, off := 0 }) 1) (El.one (Sc.int IntKind.i64)) fun (x_1 : Int) =>
         ((!(decide (x < 0) || decide (x_1 > 7))) = true → true = true) ∧
          LdP w2 (some !(decide (x < 0) || decide (x_1 > 7))) (addP (some { block := b, off := 0 }) 3) (El.one (Sc.int IntKind.i64)) fun (x_2 : Int) =>
           ((!(decide (x < 0) || decide (x_1 > 7) || decide (x_2 < 0))) = true → true = true) ∧
            LdP w2 (some !(decide (x < 0) || decide (x_1 > 7) || decide (x_2 < 0))) (addP (some { block := b, off := 0 }) 3) (El.one (Sc.int IntKind.i64)) fun (x_3 : Int) =>
             brP (decide (x < 0) || decide (x_1 > 7) || decide (x_2 < 0) || decide (x_3 ≥ 4096)) (EnP w2 fun (w1 : World) => Post false w1)
              (true = true ∧
               LdP w2 none (addP (some { block := b, off := 0 }) 1) (El.one (Sc.int IntKind.i64)) fun (x : Int) =>
                ((!decide (x > 0)) = true → true = true) ∧ LdP w2 (some !decide (x > 0)) (addP (some { block := b, off := 0 }) 2) (El.one Sc.bool) fun (x_4 : Bool) => EnP w2 fun (w1 : World) => Post (decide (x > 0) || !x_4) w1))) := by kernel_rfl
theorem rright_vc (p : Bool) (r : Int) (l : Bool) (f : Int) (w : World) (Post : Bool → World → Prop) : (rxFn D0 (fun _ => []) 110 [.agg ⟨[.bool p, .int .i64 r, .bool l, .int .i64 f]⟩] w Post) = (
 AlP w { toList := [Value.bool p, Value.int IntKind.i64 r, Value.bool l, Value.int IntKind.i64 f] } 99 fun (b : Nat) (w2 : World) =>
  true = true ∧
   LdP w2 none (addP (some { block := b, off := 0 }) 0) (El.one Sc.bool) fun (x : Bool) =>
    brP (!x)
     (true = true ∧
      LdP w2 none (addP (some { block := b, off := 0 }) 1) (El.one (Sc.int IntKind.i64)) fun (x : Int) =>
       ((x == 0) = true → true = true) ∧
        LdP w2 (some (x == 0)) (addP (some { block := b, off := 0 }) 2) (El.one Sc.bool) fun (x_1 : Bool) =>
         ((x == 0 && !x_1) = true → true = true) ∧ LdP w2 (some (x == 0 && !x_1)) (addP (some { block := b, off := 0 }) 3) (El.one (Sc.int IntKind.i64)) fun (x_2 : Int) => EnP w2 fun (w1 : World) => Post (x == 0 && !x_1 && x_2 == 0) w1)
     (true = true ∧
      LdP w2 none (addP (some { block := b, off := 0 }) 1) (El.one (Sc.int IntKind.i64)) fun (x : Int) =>
       (decide (x ≥ 0) = true → true = true) ∧
        LdP w2 (some (decide (x ≥ 0))) (addP (some { block := b, off := 0 }) 1) (El.one (Sc.int IntKind.i64)) fun (x_1 : Int) =>
         ((decide (x ≥ 0) && decide (x_1 ≤ 7)) = true → true = true) ∧
          LdP w2 (some (decide (x ≥ 0) && decide (x_1 ≤ 7))) (addP (some { block := b, off := 0 }) 3) (El.one (Sc.int IntKind.i64)) fun (x_2 : Int) =>
           ((decide (x ≥ 0) && decide (x_1 ≤ 7) && decide (x_2 ≥ 0)) = true → true = true) ∧
            LdP w2 (some (decide (x ≥ 0) && decide (x_1 ≤ 7) && decide (x_2 ≥ 0))) (addP (some { block := b, off := 0 }) 3) (El.one (Sc.int IntKind.i64)) fun (x_3 : Int) =>
             ((decide (x ≥ 0) && decide (x_1 ≤ 7) && decide (x_2 ≥ 0) && decide (x_3 ≤ 4095)) = true → true = true) ∧
              LdP w2 (some (decide (x ≥ 0) && decide (x_1 ≤ 7) && decide (x_2 ≥ 0) && decide (x_3 ≤ 4095))) (addP (some { block := b, off := 0 }) 2) (El.one Sc.bool) fun (x_4 : Bool) =>
               ((decide (x ≥ 0) && decide (x_1 ≤ 7) && decide (x_2 ≥ 0) && decide (x_3 ≤ 4095) && !!x_4) = true → true = true) ∧
                LdP w2 (some (decide (x ≥ 0) && decide (x_1 ≤ 7) && decide (x_2 ≥ 0) && decide (x_3 ≤ 4095) && !!x_4)) (addP (some { block := b, off := 0 }) 1) (El.one (Sc.int IntKind.i64)) fun (x_5 : Int) =>
                 EnP w2 fun (w1 : World) => Post (decide (x ≥ 0) && decide (x_1 ≤ 7) && decide (x_2 ≥ 0) && decide (x_3 ≤ 4095) && (!x_4 || decide (x_5 > 0))) w1)) := by kernel_rfl
theorem span_vc (x : Int) (w : World) (Post : Int → World → Prop) : (rxFn D0 (fun _ => []) 54 [.int .i64 x] w Post) = (
 brP (decide (x < 0) || decide (x ≥ 4)) (EnP w fun (w1 : World) => Post 0 w1) (∀ (x_1 : Int), x_1 = mulI IntKind.i64 4 x → 0 ≤ x_1 ∧ ∀ (x : Int), x = shlI IntKind.i64 1 x_1 → EnP w fun (w1 : World) => Post x w1)) := by kernel_rfl
theorem rspan_vc (x : Int) (w : World) (Post : Int → World → Prop) : (rxFn D0 (fun _ => []) 129 [.int .i64 x] w Post) = (
 brP (decide (x < 0) || decide (x > 3)) (EnP w fun (w1 : World) => Post 0 w1)
  (AlP w { toList := [Value.int IntKind.i64 1, Value.int IntKind.i64 16, Value.int IntKind.i64 256, Value.int IntKind.i64 4096] } 3 fun (b : Nat) (w2 : World) =>
   (true = true ∧ 0 ≤ x ∧ x < (↑4 : Int)) ∧ LdP w2 none (addP (some { block := b, off := 0 }) (x.toNat * 1)) (El.one (Sc.int IntKind.i64)) fun (x : Int) => EnP w2 fun (w1 : World) => Post x w1)) := by kernel_rfl
def entL (p : Bool) (r : Int) (l : Bool) (f : Int) : List Value := [.bool p, .int .i64 r, .bool l, .int .i64 f]
theorem ent_rd {w : World} {b : Nat} {p : Bool} {r : Int} {l : Bool} {f : Int} (h : Blk w b [.bool p, .int .i64 r, .bool l, .int .i64 f]) :
    rdAt w (addP (some ⟨b, 0, none⟩) 0) (.one .bool) p ∧ rdAt w (addP (some ⟨b, 0, none⟩) 1) (.one (.int .i64)) r ∧ rdAt w (addP (some ⟨b, 0, none⟩) 2) (.one .bool) l ∧ rdAt w (addP (some ⟨b, 0, none⟩) 3) (.one (.int .i64)) f ∧
      rdAt w (some ⟨b, 0, none⟩) (.agg [.bool, .int .i64, .bool, .int .i64]) (p, r, l, f, ()) := by
  refine ⟨?_, ?_, ?_, ?_, ?_⟩
  · rw [addP_B]; exact h.rd1 rfl
  · rw [addP_B]; exact h.rd1 rfl
  · rw [addP_B]; exact h.rd1 rfl
  · rw [addP_B]; exact h.rd1 rfl
  · exact h.rdA fun i _ => by rw [Nat.zero_add]; rfl
/-- Can it be? -/
def rightE (p : Bool) (r : Int) (l : Bool) (f : Int) : Bool :=
  match p with
  | true => decide (0 ≤ r) && decide (r ≤ 7) && decide (0 ≤ f) && decide (f < 4096) && (decide (r > 0) || !l)
  | false => decide (r = 0) && !l && decide (f = 0)
theorem right_ok (p : Bool) (r : Int) (l : Bool) (f : Int) (w : World) : CallsR Tryz.prog 108 (.el (.one .bool)) [.agg ⟨[.bool p, .int .i64 r, .bool l, .int .i64 f]⟩] w (fun b w' => b = rightE p r l f ∧ Ext w w') := by
  refine rxFn_ok (C := D0) (ann := fun _ => []) (Eq.mpr (right_vc p r l f w _) ?_)
  intro w1 h1
  obtain ⟨g0, g1, g2, g3, ga⟩ := ent_rd (Blk.new w1 [.bool p, .int .i64 r, .bool l, .int .i64 f] 93)
  refine ⟨rfl, p, g0, brP_intro (fun h => ⟨_, ga, fun w2 h2 => ⟨?_, (h1.allocd _).trans h2⟩⟩) (fun h => ⟨rfl, r, g1, fun _ => rfl, r, fun _ => g1, fun _ => rfl, f, fun _ => g3, fun _ => rfl, f, fun _ => g3, brP_intro (fun h3 => fun w2 h2 => ⟨?_, (h1.allocd _).trans h2⟩) (fun h3 => ⟨rfl, r, g1, fun _ => rfl, l, fun _ => g2, fun w2 h2 => ⟨?_, (h1.allocd _).trans h2⟩⟩)⟩)⟩
  · have hp : p = false := by simpa using h
    subst hp
    by_cases c1 : r = 0 <;> by_cases c2 : f = 0 <;> cases l <;> simp [rightE, c1, c2]
  · have hp : p = true := by simpa using h
    subst hp
    simp only [Bool.or_eq_true, decide_eq_true_eq] at h3
    symm
    simp only [rightE, Bool.and_eq_false_iff, decide_eq_false_iff_not]
    omega
  · have hp : p = true := by simpa using h
    subst hp
    simp only [Bool.or_eq_false_iff, decide_eq_false_iff_not] at h3
    have c1 : 0 ≤ r := by omega
    have c2 : r ≤ 7 := by omega
    have c3 : 0 ≤ f := by omega
    have c4 : f < 4096 := by omega
    simp [rightE, c1, c2, c3, c4]
theorem rright_ok (p : Bool) (r : Int) (l : Bool) (f : Int) (w : World) : CallsR Tryz.prog 110 (.el (.one .bool)) [.agg ⟨[.bool p, .int .i64 r, .bool l, .int .i64 f]⟩] w (fun b w' => b = rightE p r l f ∧ Ext w w') := by
  refine rxFn_ok (C := D0) (ann := fun _ => []) (Eq.mpr (rright_vc p r l f w _) ?_)
  intro w1 h1
  obtain ⟨g0, g1, g2, g3, ga⟩ := ent_rd (Blk.new w1 [.bool p, .int .i64 r, .bool l, .int .i64 f] 99)
  refine ⟨rfl, p, g0, brP_intro (fun h => ⟨rfl, r, g1, fun _ => rfl, l, fun _ => g2, fun _ => rfl, f, fun _ => g3, fun w2 h2 => ⟨?_, (h1.allocd _).trans h2⟩⟩) (fun h => ⟨rfl, r, g1, fun _ => rfl, r, fun _ => g1, fun _ => rfl, f, fun _ => g3, fun _ => rfl, f, fun _ => g3, fun _ => rfl, l, fun _ => g2, fun _ => rfl, r, fun _ => g1, fun w2 h2 => ⟨?_, (h1.allocd _).trans h2⟩⟩)⟩
  · have hp : p = false := by simpa using h
    subst hp
    by_cases c1 : r = 0 <;> by_cases c2 : f = 0 <;> cases l <;> simp [rightE, c1, c2]
  · have hp : p = true := by simpa using h
    subst hp
    have e : decide (f ≤ 4095) = decide (f < 4096) := by
      by_cases c : f < 4096
      · have : f ≤ 4095 := by omega
        simp [c, this]
      · have : ¬ f ≤ 4095 := by omega
        simp [c, this]
    show (decide (0 ≤ r) && decide (r ≤ 7) && decide (0 ≤ f) && decide (f ≤ 4095) && (!l || decide (r > 0))) = _
    rw [e, Bool.or_comm]
    rfl
noncomputable def ePBit : Entry Tryz.prog where
  f := 113
  fn l := match l with
    | [.bool b] => some (True, .int .u64 (U (bB b)))
    | _ => none
  ok args pre v h hp w := by
    split at h
    · rename_i b
      cases h
      refine entry_of (x := U (bB b)) (rxFn_ok (C := D0) (ann := fun _ => []) (Eq.mpr (pbit_vc b w _) ?_))
      exact brP_intro (fun hb w1 h1 => ⟨by subst hb; rfl, h1⟩) (fun hb w1 h1 => ⟨by subst hb; rfl, h1⟩)
    · cases h
noncomputable def eRight : Entry Tryz.prog where
  f := 108
  fn l := match l with
    | [.agg ⟨[.bool p, .int .i64 r, .bool l, .int .i64 f]⟩] => some (True, .bool (rightE p r l f))
    | _ => none
  ok args pre v h hp w := by
    split at h
    · rename_i p r l f
      cases h
      exact entry_of (right_ok p r l f w)
    · cases h
noncomputable def eRRight : Entry Tryz.prog where
  f := 110
  fn l := match l with
    | [.agg ⟨[.bool p, .int .i64 r, .bool l, .int .i64 f]⟩] => some (True, .bool (rightE p r l f))
    | _ => none
  ok args pre v h hp w := by
    split at h
    · rename_i p r l f
      cases h
      exact entry_of (rright_ok p r l f w)
    · cases h
/-- How many pages. -/
def spanI (x : Int) : Int := if x = 0 then 1 else if x = 1 then 16 else if x = 2 then 256 else if x = 3 then 4096 else 0
theorem span_ok (x : Int) (w : World) : CallsR Tryz.prog 54 (.el (.one (.int .i64))) [.int .i64 x] w (fun b w' => b = spanI x ∧ Ext w w') := by
  refine rxFn_ok (C := D0) (ann := fun _ => []) (Eq.mpr (span_vc x w _) ?_)
  refine brP_intro (fun h w1 h1 => ⟨?_, h1⟩) (fun h y ey => ?_)
  · simp only [Bool.or_eq_true, decide_eq_true_eq] at h
    unfold spanI
    rw [if_neg (by omega), if_neg (by omega), if_neg (by omega), if_neg (by omega)]
  · simp only [Bool.or_eq_false_iff, decide_eq_false_iff_not] at h
    rw [mulI_i64 (by omega) (by omega)] at ey
    refine ⟨by omega, fun z ez w1 h1 => ⟨?_, h1⟩⟩
    have : x = 0 ∨ x = 1 ∨ x = 2 ∨ x = 3 := by omega
    rcases this with rfl | rfl | rfl | rfl <;> (subst ey; rw [ez]; decide +kernel)
theorem rspan_ok (x : Int) (w : World) : CallsR Tryz.prog 129 (.el (.one (.int .i64))) [.int .i64 x] w (fun b w' => b = spanI x ∧ Ext w w') := by
  refine rxFn_ok (C := D0) (ann := fun _ => []) (Eq.mpr (rspan_vc x w _) ?_)
  refine brP_intro (fun h w1 h1 => ⟨?_, h1⟩) (fun h w1 h1 => ?_)
  · simp only [Bool.or_eq_true, decide_eq_true_eq] at h
    unfold spanI
    rw [if_neg (by omega), if_neg (by omega), if_neg (by omega), if_neg (by omega)]
  · simp only [Bool.or_eq_false_iff, decide_eq_false_iff_not] at h
    have sl : Sl (w1.alloc (.cells ⟨[Value.int .i64 1, Value.int .i64 16, Value.int .i64 256, Value.int .i64 4096]⟩ 3)) eI (some ⟨w1.heap.size, 0, none⟩) [1, 16, 256, 4096] := Sl.of_blk (Blk.new w1 _ _) rfl
    have hx : x.toNat < 4 := by omega
    have g : [(1 : Int), 16, 256, 4096][x.toNat]? = some (spanI x) := by
      have : x = 0 ∨ x = 1 ∨ x = 2 ∨ x = 3 := by omega
      rcases this with rfl | rfl | rfl | rfl <;> rfl
    exact ⟨⟨rfl, by omega, by omega⟩, _, (sl _ _ g).2, fun w2 h2 => ⟨rfl, (h1.allocd _).trans h2⟩⟩
noncomputable def eSpan : Entry Tryz.prog where
  f := 54
  fn l := match l with
    | [.int .i64 x] => some (True, .int .i64 (spanI x))
    | _ => none
  ok args pre v h hp w := by
    split at h
    · rename_i x
      cases h
      exact entry_of (span_ok x w)
    · cases h
noncomputable def eRSpan : Entry Tryz.prog where
  f := 129
  fn l := match l with
    | [.int .i64 x] => some (True, .int .i64 (spanI x))
    | _ => none
  ok args pre v h hp w := by
    split at h
    · rename_i x
      cases h
      exact entry_of (rspan_ok x w)
    · cases h
noncomputable def D1 : Cfg Tryz.prog := { D0 with tab := [eFits, eIs, eBit, eOne, eMask, eRGet, eGet, ePut, ePBit, eRight, eRRight, eSpan, eRSpan] }
end Go.Proofs.YtkldededdgpmbaaGreat
namespace Go.Proofs.YtkldededdgpmbaaGreat
set_option linter.unusedSimpArgs false
set_option linter.unusedVariables false
set_option maxRecDepth 100000
open Go.RX
theorem table_vc (p : Bool) (r : Int) (l : Bool) (f : Int) (w : World) (Post : Bool → World → Prop) : (rxFn D1 (fun _ => []) 81 [.agg ⟨[.bool p, .int .i64 r, .bool l, .int .i64 f]⟩] w Post) = (
 AlP w { toList := [Value.bool p, Value.int IntKind.i64 r, Value.bool l, Value.int IntKind.i64 f] } 93 fun (b : Nat) (w2 : World) =>
  true = true ∧
   LdP w2 none (addP (some { block := b, off := 0 }) 0) (El.one Sc.bool) fun (x : Bool) =>
    (x = true → true = true) ∧
     LdP w2 (some x) (addP (some { block := b, off := 0 }) 1) (El.one (Sc.int IntKind.i64)) fun (x_1 : Int) =>
      LdP w2 (some (x && x_1 == 0)) (some { block := b, off := 0 }) (El.agg [Sc.bool, Sc.int IntKind.i64, Sc.bool, Sc.int IntKind.i64]) fun (x_2 : Bool × Int × Bool × Int × Unit) =>
       ((x && x_1 == 0) = true → True) ∧ EnP w2 fun (w1 : World) => Post (x && x_1 == 0 && rightE x_2.fst x_2.snd.fst x_2.snd.snd.fst x_2.snd.snd.snd.fst) w1) := by kernel_rfl
theorem rtable_vc (p : Bool) (r : Int) (l : Bool) (f : Int) (w : World) (Post : Bool → World → Prop) : (rxFn D1 (fun _ => []) 83 [.agg ⟨[.bool p, .int .i64 r, .bool l, .int .i64 f]⟩] w Post) = (
 AlP w { toList := [Value.bool p, Value.int IntKind.i64 r, Value.bool l, Value.int IntKind.i64 f] } 99 fun (b : Nat) (w2 : World) =>
  LdP w2 none (some { block := b, off := 0 }) (El.agg [Sc.bool, Sc.int IntKind.i64, Sc.bool, Sc.int IntKind.i64]) fun (x : Bool × Int × Bool × Int × Unit) =>
   True ∧
    (rightE x.fst x.snd.fst x.snd.snd.fst x.snd.snd.snd.fst = true → true = true) ∧
     LdP w2 (some (rightE x.fst x.snd.fst x.snd.snd.fst x.snd.snd.snd.fst)) (addP (some { block := b, off := 0 }) 0) (El.one Sc.bool) fun (x_1 : Bool) =>
      ((rightE x.fst x.snd.fst x.snd.snd.fst x.snd.snd.snd.fst && x_1) = true → true = true) ∧
       LdP w2 (some (rightE x.fst x.snd.fst x.snd.snd.fst x.snd.snd.snd.fst && x_1)) (addP (some { block := b, off := 0 }) 1) (El.one (Sc.int IntKind.i64)) fun (x_2 : Int) =>
        EnP w2 fun (w1 : World) => Post (rightE x.fst x.snd.fst x.snd.snd.fst x.snd.snd.snd.fst && x_1 && x_2 == 0) w1) := by kernel_rfl
theorem allows_vc (p : Bool) (r : Int) (l : Bool) (f : Int) (t : Int) (w : World) (Post : Bool → World → Prop) : (rxFn D1 (fun _ => []) 140 [.agg ⟨[.bool p, .int .i64 r, .bool l, .int .i64 f]⟩, .int .i64 t] w Post) = (
 AlP w { toList := [Value.bool p, Value.int IntKind.i64 r, Value.bool l, Value.int IntKind.i64 f] } 93 fun (b : Nat) (w2 : World) =>
  LdP w2 none (some { block := b, off := 0 }) (El.agg [Sc.bool, Sc.int IntKind.i64, Sc.bool, Sc.int IntKind.i64]) fun (x : Bool × Int × Bool × Int × Unit) =>
   True ∧
    (rightE x.fst x.snd.fst x.snd.snd.fst x.snd.snd.snd.fst = true → true = true) ∧
     LdP w2 (some (rightE x.fst x.snd.fst x.snd.snd.fst x.snd.snd.snd.fst)) (addP (some { block := b, off := 0 }) 1) (El.one (Sc.int IntKind.i64)) fun (x_1 : Int) =>
      ((rightE x.fst x.snd.fst x.snd.snd.fst x.snd.snd.snd.fst && decide (x_1 > 0) && decide (t ≥ 0) && decide (t ≤ 7)) = true → true = true) ∧
       LdP w2 (some (rightE x.fst x.snd.fst x.snd.snd.fst x.snd.snd.snd.fst && decide (x_1 > 0) && decide (t ≥ 0) && decide (t ≤ 7))) (addP (some { block := b, off := 0 }) 1) (El.one (Sc.int IntKind.i64)) fun (x_2 : Int) =>
        ∀ (x_3 : Int), x_3 = andNotI IntKind.i64 t x_2 → EnP w2 fun (w1 : World) => Post (rightE x.fst x.snd.fst x.snd.snd.fst x.snd.snd.snd.fst && decide (x_1 > 0) && decide (t ≥ 0) && decide (t ≤ 7) && x_3 == 0) w1) := by kernel_rfl
theorem index_vc (x y : Int) (w : World) (Post : Int → World → Prop) : (rxFn D1 (fun _ => []) 111 [.int .i64 x, .int .i64 y] w Post) = (
 ((!(decide (x < 0) || decide (x ≥ 65536))) = true → True) ∧
  ∀ (x_1 : Int),
   x_1 = spanI y →
    brP (decide (x < 0) || decide (x ≥ 65536) || x_1 == 0) (EnP w fun (w1 : World) => Post (-1) w1)
     (∀ (x_2 : Int), x_2 = convI IntKind.u64 x → ∀ (x : Int), x = mulI IntKind.i64 4 y → U (B x_2) = x_2 ∧ ∀ (x_3 : Int), x_3 = U (getB (B x_2) x 4) → ∀ (x : Int), x = convI IntKind.i64 x_3 → EnP w fun (w1 : World) => Post x w1)) := by kernel_rfl
theorem rindex_vc (x y : Int) (w : World) (Post : Int → World → Prop) : (rxFn D1 (fun _ => []) 104 [.int .i64 x, .int .i64 y] w Post) = (
 ((!(decide (x < 0) || decide (x > 65535))) = true → True) ∧
  ∀ (x_1 : Int),
   x_1 = spanI y →
    brP (decide (x < 0) || decide (x > 65535) || x_1 == 0) (EnP w fun (w1 : World) => Post (-1) w1)
     (True ∧ ∀ (x_2 : Int), x_2 = spanI y → x_2 ≠ 0 ∧ ∀ (x_3 : Int), x_3 = quoI IntKind.i64 x x_2 → ∀ (x : Int), x = remI x_3 16 → EnP w fun (w1 : World) => Post x w1)) := by kernel_rfl
theorem pack_vc' (p : Bool) (r : Int) (l : Bool) (f : Int) (w : World) (Post : Int × Int × Unit → World → Prop) : (rxFn D1 (fun _ => []) 88 [.agg ⟨[.bool p, .int .i64 r, .bool l, .int .i64 f]⟩] w Post) = (
 AlP w { toList := [Value.bool p, Value.int IntKind.i64 r, Value.bool l, Value.int IntKind.i64 f] } 93 fun (b : Nat) (w2 : World) =>
  LdP w2 none (some { block := b, off := 0 }) (El.agg [Sc.bool, Sc.int IntKind.i64, Sc.bool, Sc.int IntKind.i64]) fun (x : Bool × Int × Bool × Int × Unit) =>
   True ∧
    brP (!rightE x.fst x.snd.fst x.snd.snd.fst x.snd.snd.snd.fst) (EnP w2 fun (w1 : World) => Post (0, 11, Unit.unit) w1)
     (true = true ∧
      LdP w2 none (addP (some { block := b, off := 0 }) 0) (El.one Sc.bool) fun (x : Bool) =>
       True ∧
        ∀ (x_1 : Int),
         x_1 = U (bB x) →
          true = true ∧
           LdP w2 none (addP (some { block := b, off := 0 }) 1) (El.one (Sc.int IntKind.i64)) fun (x : Int) =>
            ∀ (x_2 : Int),
             x_2 = convI IntKind.u64 x →
              true = true ∧
               LdP w2 none (addP (some { block := b, off := 0 }) 2) (El.one Sc.bool) fun (x : Bool) =>
                True ∧
                 ∀ (x_3 : Int),
                  x_3 = U (bB x) →
                   true = true ∧
                    LdP w2 none (addP (some { block := b, off := 0 }) 3) (El.one (Sc.int IntKind.i64)) fun (x : Int) =>
                     ∀ (x_4 : Int),
                      x_4 = convI IntKind.u64 x →
                       AlP w2
                        {
                         toList :=
                          [Value.int IntKind.u64 x_1, Value.int IntKind.i64 1, Value.int IntKind.u64 x_2, Value.int IntKind.i64 3, Value.int IntKind.u64 x_3, Value.int IntKind.i64 1, Value.int IntKind.u64 0, Value.int IntKind.i64 7,
                           Value.int IntKind.u64 x_4, Value.int IntKind.i64 12] }
                        176 fun (b : Nat) (w2 : World) => CaP Tryz.prog 112 (Sh.el (El.one (Sc.int IntKind.u64))) [Value.slice (some { block := b, off := 0 }) 5 5] w2 fun (x : Int) (w2 : World) => EnP w2 fun (w1 : World) => Post (x, 0, Unit.unit) w1)) := by kernel_rfl
theorem rpack_vc' (p : Bool) (r : Int) (l : Bool) (f : Int) (w : World) (Post : Int × Int × Unit → World → Prop) : (rxFn D1 (fun _ => []) 106 [.agg ⟨[.bool p, .int .i64 r, .bool l, .int .i64 f]⟩] w Post) = (
 AlP w { toList := [Value.bool p, Value.int IntKind.i64 r, Value.bool l, Value.int IntKind.i64 f] } 99 fun (b : Nat) (w2 : World) =>
  LdP w2 none (some { block := b, off := 0 }) (El.agg [Sc.bool, Sc.int IntKind.i64, Sc.bool, Sc.int IntKind.i64]) fun (x : Bool × Int × Bool × Int × Unit) =>
   True ∧
    brP (!rightE x.fst x.snd.fst x.snd.snd.fst x.snd.snd.snd.fst) (EnP w2 fun (w1 : World) => Post (0, 11, Unit.unit) w1)
     (true = true ∧
      LdP w2 none (addP (some { block := b, off := 0 }) 0) (El.one Sc.bool) fun (x : Bool) =>
       brP x
        (true = true ∧
         LdP w2 none (addP (some { block := b, off := 0 }) 2) (El.one Sc.bool) fun (x : Bool) =>
          brP x
           (∀ (x : Int),
            x = addI IntKind.u64 1 16 →
             true = true ∧
              LdP w2 none (addP (some { block := b, off := 0 }) 1) (El.one (Sc.int IntKind.i64)) fun (x_1 : Int) =>
               ∀ (x_2 : Int),
                x_2 = convI IntKind.u64 x_1 →
                 ∀ (x_3 : Int),
                  x_3 = mulI IntKind.u64 2 x_2 →
                   ∀ (x_4 : Int),
                    x_4 = addI IntKind.u64 x x_3 →
                     true = true ∧
                      LdP w2 none (addP (some { block := b, off := 0 }) 3) (El.one (Sc.int IntKind.i64)) fun (x : Int) =>
                       ∀ (x_5 : Int), x_5 = convI IntKind.u64 x → ∀ (x : Int), x = mulI IntKind.u64 4096 x_5 → ∀ (x_6 : Int), x_6 = addI IntKind.u64 x_4 x → EnP w2 fun (w1 : World) => Post (x_6, 0, Unit.unit) w1)
           (true = true ∧
            LdP w2 none (addP (some { block := b, off := 0 }) 1) (El.one (Sc.int IntKind.i64)) fun (x : Int) =>
             ∀ (x_1 : Int),
              x_1 = convI IntKind.u64 x →
               ∀ (x : Int),
                x = mulI IntKind.u64 2 x_1 →
                 ∀ (x_2 : Int),
                  x_2 = addI IntKind.u64 1 x →
                   true = true ∧
                    LdP w2 none (addP (some { block := b, off := 0 }) 3) (El.one (Sc.int IntKind.i64)) fun (x : Int) =>
                     ∀ (x_3 : Int), x_3 = convI IntKind.u64 x → ∀ (x : Int), x = mulI IntKind.u64 4096 x_3 → ∀ (x_4 : Int), x_4 = addI IntKind.u64 x_2 x → EnP w2 fun (w1 : World) => Post (x_4, 0, Unit.unit) w1))
        (true = true ∧
         LdP w2 none (addP (some { block := b, off := 0 }) 2) (El.one Sc.bool) fun (x : Bool) =>
          brP x
           (∀ (x : Int),
            x = addI IntKind.u64 0 16 →
             true = true ∧
              LdP w2 none (addP (some { block := b, off := 0 }) 1) (El.one (Sc.int IntKind.i64)) fun (x_1 : Int) =>
               ∀ (x_2 : Int),
                x_2 = convI IntKind.u64 x_1 →
                 ∀ (x_3 : Int),
                  x_3 = mulI IntKind.u64 2 x_2 →
                   ∀ (x_4 : Int),
                    x_4 = addI IntKind.u64 x x_3 →
                     true = true ∧
                      LdP w2 none (addP (some { block := b, off := 0 }) 3) (El.one (Sc.int IntKind.i64)) fun (x : Int) =>
                       ∀ (x_5 : Int), x_5 = convI IntKind.u64 x → ∀ (x : Int), x = mulI IntKind.u64 4096 x_5 → ∀ (x_6 : Int), x_6 = addI IntKind.u64 x_4 x → EnP w2 fun (w1 : World) => Post (x_6, 0, Unit.unit) w1)
           (true = true ∧
            LdP w2 none (addP (some { block := b, off := 0 }) 1) (El.one (Sc.int IntKind.i64)) fun (x : Int) =>
             ∀ (x_1 : Int),
              x_1 = convI IntKind.u64 x →
               ∀ (x : Int),
                x = mulI IntKind.u64 2 x_1 →
                 ∀ (x_2 : Int),
                  x_2 = addI IntKind.u64 0 x →
                   true = true ∧
                    LdP w2 none (addP (some { block := b, off := 0 }) 3) (El.one (Sc.int IntKind.i64)) fun (x : Int) =>
                     ∀ (x_3 : Int), x_3 = convI IntKind.u64 x → ∀ (x : Int), x = mulI IntKind.u64 4096 x_3 → ∀ (x_4 : Int), x_4 = addI IntKind.u64 x_2 x → EnP w2 fun (w1 : World) => Post (x_4, 0, Unit.unit) w1)))) := by kernel_rfl
theorem parse_vc (v : Int) (w : World) (Post : (Bool × Int × Bool × Int × Unit) × Bool × Unit → World → Prop) : (rxFnR D1 (fun _ => []) 93 [.int .u64 v] w Post) = (
 AlP w { toList := [Value.bool false, Value.int IntKind.i64 0, Value.bool false, Value.int IntKind.i64 0] } 93 fun (b : Nat) (w2 : World) =>
  AlP w2 { toList := [Value.int IntKind.i64 1, Value.int IntKind.i64 3, Value.int IntKind.i64 1, Value.int IntKind.i64 7, Value.int IntKind.i64 12, Value.int IntKind.i64 40] } 3 fun (b_1 : Nat) (w2 : World) =>
   CaP Tryz.prog 119 (Sh.el (El.one Sc.slice)) [Value.int IntKind.u64 v, Value.slice (some { block := b_1, off := 0 }) 6 6] w2 fun (x : Option Addr × Nat × Nat) (w2 : World) =>
    (x.fst.isSome = true ∧ (0 : Int) ≤ 0 ∧ 0 < (↑x.snd.fst : Int)) ∧
     LdP w2 none (addP x.fst 0) (El.one (Sc.int IntKind.u64)) fun (x_1 : Int) =>
      (x.fst.isSome = true ∧ (0 : Int) ≤ 1 ∧ 1 < (↑x.snd.fst : Int)) ∧
       LdP w2 none (addP x.fst 1) (El.one (Sc.int IntKind.u64)) fun (x_2 : Int) =>
        ∀ (x_3 : Int),
         x_3 = convI IntKind.i64 x_2 →
          (x.fst.isSome = true ∧ (0 : Int) ≤ 2 ∧ 2 < (↑x.snd.fst : Int)) ∧
           LdP w2 none (addP x.fst 2) (El.one (Sc.int IntKind.u64)) fun (x_4 : Int) =>
            (x.fst.isSome = true ∧ (0 : Int) ≤ 4 ∧ 4 < (↑x.snd.fst : Int)) ∧
             LdP w2 none (addP x.fst 4) (El.one (Sc.int IntKind.u64)) fun (x_5 : Int) =>
              ∀ (x_6 : Int),
               x_6 = convI IntKind.i64 x_5 →
                AlP w2 { toList := [Value.bool false, Value.int IntKind.i64 0, Value.bool false, Value.int IntKind.i64 0] } 93 fun (b_2 : Nat) (w2 : World) =>
                 StP w2 (some { block := b_2, off := 0 }) [Value.bool (x_1 == 1), Value.int IntKind.i64 x_3, Value.bool (x_4 == 1), Value.int IntKind.i64 x_6] fun (w2 : World) =>
                  (x.fst.isSome = true ∧ (0 : Int) ≤ 3 ∧ 3 < (↑x.snd.fst : Int)) ∧
                   LdP w2 none (addP x.fst 3) (El.one (Sc.int IntKind.u64)) fun (x_7 : Int) =>
                    ((!decide (x_7 > 0)) = true → x.fst.isSome = true ∧ (0 : Int) ≤ 5 ∧ 5 < (↑x.snd.fst : Int)) ∧
                     LdP w2 (some !decide (x_7 > 0)) (addP x.fst 5) (El.one (Sc.int IntKind.u64)) fun (x : Int) =>
                      LdP w2 (some !(decide (x_7 > 0) || decide (x > 0))) (some { block := b_2, off := 0 }) (El.agg [Sc.bool, Sc.int IntKind.i64, Sc.bool, Sc.int IntKind.i64]) fun (x_8 : Bool × Int × Bool × Int × Unit) =>
                       ((!(decide (x_7 > 0) || decide (x > 0))) = true → True) ∧
                        brP (decide (x_7 > 0) || decide (x > 0) || !rightE x_8.fst x_8.snd.fst x_8.snd.snd.fst x_8.snd.snd.snd.fst)
                         (StP w2 (some { block := b, off := 0 }) [Value.bool false, Value.int IntKind.i64 0, Value.bool false, Value.int IntKind.i64 0] fun (w2 : World) =>
                          EnP w2 fun (w1 : World) =>
                           LdP w1 none (some { block := b, off := 0 }) (El.agg [Sc.bool, Sc.int IntKind.i64, Sc.bool, Sc.int IntKind.i64]) fun (x : Bool × Int × Bool × Int × Unit) =>
                            Post ((x.fst, x.snd.fst, x.snd.snd.fst, x.snd.snd.snd.fst, Unit.unit), false, Unit.unit) w1)
                         (LdP w2 none (some { block := b_2, off := 0 }) (El.agg [Sc.bool, Sc.int IntKind.i64, Sc.bool, Sc.int IntKind.i64]) fun (x : Bool × Int × Bool × Int × Unit) =>
                          StP w2 (some { block := b, off := 0 }) [Value.bool x.fst, Value.int IntKind.i64 x.snd.fst, Value.bool x.snd.snd.fst, Value.int IntKind.i64 x.snd.snd.snd.fst] fun (w2 : World) =>
                           EnP w2 fun (w1 : World) =>
                            LdP w1 none (some { block := b, off := 0 }) (El.agg [Sc.bool, Sc.int IntKind.i64, Sc.bool, Sc.int IntKind.i64]) fun (x : Bool × Int × Bool × Int × Unit) =>
                             Post ((x.fst, x.snd.fst, x.snd.snd.fst, x.snd.snd.snd.fst, Unit.unit), true, Unit.unit) w1)) := by kernel_rfl
/-- Does it lead to a table? -/
def tableE (p : Bool) (r : Int) (l : Bool) (f : Int) : Bool := p && r == 0 && rightE p r l f
/-- Does it allow something? -/
def allowsE (p : Bool) (r : Int) (l : Bool) (f t : Int) : Bool := rightE p r l f && decide (r > 0) && decide (t ≥ 0) && decide (t ≤ 7) && andNotI .i64 t r == 0
theorem table_ok (p : Bool) (r : Int) (l : Bool) (f : Int) (w : World) : CallsR Tryz.prog 81 (.el (.one .bool)) [.agg ⟨[.bool p, .int .i64 r, .bool l, .int .i64 f]⟩] w (fun b w' => b = tableE p r l f ∧ Ext w w') := by
  refine rxFn_ok (C := D1) (ann := fun _ => []) (Eq.mpr (table_vc p r l f w _) ?_)
  intro w1 h1
  obtain ⟨g0, g1, g2, g3, ga⟩ := ent_rd (Blk.new w1 [.bool p, .int .i64 r, .bool l, .int .i64 f] 93)
  exact ⟨rfl, p, g0, fun _ => rfl, r, fun _ => g1, _, fun _ => ga, fun _ => trivial, fun w2 h2 => ⟨rfl, (h1.allocd _).trans h2⟩⟩
theorem rtable_ok (p : Bool) (r : Int) (l : Bool) (f : Int) (w : World) : CallsR Tryz.prog 83 (.el (.one .bool)) [.agg ⟨[.bool p, .int .i64 r, .bool l, .int .i64 f]⟩] w (fun b w' => b = tableE p r l f ∧ Ext w w') := by
  refine rxFn_ok (C := D1) (ann := fun _ => []) (Eq.mpr (rtable_vc p r l f w _) ?_)
  intro w1 h1
  obtain ⟨g0, g1, g2, g3, ga⟩ := ent_rd (Blk.new w1 [.bool p, .int .i64 r, .bool l, .int .i64 f] 99)
  refine ⟨_, ga, trivial, fun _ => rfl, p, fun _ => g0, fun _ => rfl, r, fun _ => g1, fun w2 h2 => ⟨?_, (h1.allocd _).trans h2⟩⟩
  show (rightE p r l f && p && r == 0) = (p && r == 0 && rightE p r l f)
  rw [Bool.and_assoc, Bool.and_comm]
theorem small_and : ∀ r t : Fin 8, (andNotI .i64 (t.val : Int) (r.val : Int) == 0) = (andI .i64 (r.val : Int) (t.val : Int) == (t.val : Int)) := by decide +kernel
theorem of_fin {x : Int} (h : 0 ≤ x) (h' : x ≤ 7) : ∃ k : Fin 8, x = (k.val : Int) := ⟨⟨x.toNat, by omega⟩, by show x = (x.toNat : Int); omega⟩
theorem right_bd {p : Bool} {r : Int} {l : Bool} {f : Int} (h : rightE p r l f = true) : 0 ≤ r ∧ r ≤ 7 ∧ 0 ≤ f ∧ f < 4096 ∧ (p = false → r = 0 ∧ l = false ∧ f = 0) := by
  cases p
  · simp [rightE] at h
    obtain ⟨⟨h1, h2⟩, h3⟩ := h
    subst h1; subst h3
    exact ⟨by decide, by decide, by decide, by decide, fun _ => ⟨rfl, h2, rfl⟩⟩
  · simp [rightE] at h
    exact ⟨h.1.1.1.1, h.1.1.1.2, h.1.1.2, h.1.2, fun e => by cases e⟩
theorem allows_fin {r t : Int} (h1 : 0 ≤ r) (h2 : r ≤ 7) (h3 : 0 ≤ t) (h4 : t ≤ 7) : (andI .i64 r t == t) = (andNotI .i64 t r == 0) := by
  obtain ⟨k, hk⟩ := of_fin h1 h2
  obtain ⟨j, hj⟩ := of_fin h3 h4
  rw [hk, hj]
  exact (small_and k j).symm
theorem allows_plain (p : Bool) (r : Int) (l : Bool) (f t : Int) : (rightE p r l f && p && decide (r > 0) && decide (t ≥ 0) && decide (t ≤ 7) && andI .i64 r t == t) = allowsE p r l f t := by
  unfold allowsE
  cases hr : rightE p r l f with
  | false => simp only [Bool.false_and]
  | true =>
    have b := right_bd hr
    by_cases c1 : r > 0
    · have hp : p = true := by
        cases hp : p with
        | true => rfl
        | false => have := (b.2.2.2.2 hp).1; omega
      by_cases c2 : t ≥ 0
      · by_cases c3 : t ≤ 7
        · rw [hp, allows_fin b.1 b.2.1 c2 c3, Bool.true_and]
        · rw [decide_eq_false c3]; simp
      · rw [decide_eq_false c2]; simp
    · rw [decide_eq_false c1]; simp
theorem allows_ok (p : Bool) (r : Int) (l : Bool) (f t : Int) (w : World) : CallsR Tryz.prog 140 (.el (.one .bool)) [.agg ⟨[.bool p, .int .i64 r, .bool l, .int .i64 f]⟩, .int .i64 t] w (fun b w' => b = allowsE p r l f t ∧ Ext w w') := by
  refine rxFn_ok (C := D1) (ann := fun _ => []) (Eq.mpr (allows_vc p r l f t w _) ?_)
  intro w1 h1
  obtain ⟨g0, g1, g2, g3, ga⟩ := ent_rd (Blk.new w1 [.bool p, .int .i64 r, .bool l, .int .i64 f] 93)
  exact ⟨_, ga, trivial, fun _ => rfl, r, fun _ => g1, fun _ => rfl, r, fun _ => g1, fun x ex w2 h2 => ⟨by rw [ex]; rfl, (h1.allocd _).trans h2⟩⟩
/-- Where it stands. -/
def indexI (x y : Int) : Int := if 0 ≤ x ∧ x < 65536 ∧ 0 ≤ y ∧ y ≤ 3 then x / spanI y % 16 else -1
theorem span_zero {y : Int} : (spanI y == 0) = !(decide (0 ≤ y) && decide (y ≤ 3)) := by
  by_cases h : 0 ≤ y ∧ y ≤ 3
  · have : y = 0 ∨ y = 1 ∨ y = 2 ∨ y = 3 := by omega
    rcases this with rfl | rfl | rfl | rfl <;> rfl
  · have e : spanI y = 0 := by
      unfold spanI
      rw [if_neg (by omega), if_neg (by omega), if_neg (by omega), if_neg (by omega)]
    rw [e]
    by_cases h1 : 0 ≤ y
    · have : ¬ y ≤ 3 := fun h2 => h ⟨h1, h2⟩
      simp [this]
    · simp [h1]
theorem index_bad {x y : Int} (h : ¬ (0 ≤ x ∧ x < 65536 ∧ 0 ≤ y ∧ y ≤ 3)) : indexI x y = -1 := if_neg h
theorem conv_i64' {x : Int} (h : -9223372036854775808 ≤ x) (h' : x < 9223372036854775808) : convI .i64 x = x := wrap_i64_id h h'
theorem conv_u64' {x : Int} (h : 0 ≤ x) (h' : x < 18446744073709551616) : convI .u64 x = x := by
  show IntKind.u64.wrap x = x
  rw [wrap_u64]; omega
theorem index_key {a b c : Int} (m : Nat) (ha : 0 ≤ a ∧ a < 65536) (hm : 2 ^ b.toNat = m) (hf : fitsI b 4 = true) (ec : c = U (getB (B a) b 4)) : c = a / (m : Int) % 16 := by
  have hN : ((B a).toNat : Int) = a := U_B' (by omega) (by omega)
  rw [ec, U_eq (get_num m 16 hf hm (by decide)), Int.natCast_emod, Int.natCast_ediv, hN]
  rfl
theorem index_plain {a y b c : Int} (ha : 0 ≤ a ∧ a < 65536) (hy : 0 ≤ y ∧ y ≤ 3) (eb : b = 4 * y) (ec : c = U (getB (B a) b 4)) : c = indexI a y ∧ 0 ≤ c ∧ c < 16 := by
  have e : c = indexI a y := by
    unfold indexI
    rw [if_pos (by omega)]
    have : y = 0 ∨ y = 1 ∨ y = 2 ∨ y = 3 := by omega
    rcases this with rfl | rfl | rfl | rfl
    · exact index_key 1 ha (by subst eb; decide) (by subst eb; decide) ec
    · exact index_key 16 ha (by subst eb; decide) (by subst eb; decide) ec
    · exact index_key 256 ha (by subst eb; decide) (by subst eb; decide) ec
    · rw [show spanI 3 = ((4096 : Nat) : Int) by decide]
      exact index_key 4096 ha (by subst eb; decide) (by subst eb; decide) ec
  refine ⟨e, ?_⟩
  rw [e]
  unfold indexI
  rw [if_pos (by omega)]
  exact ⟨Int.emod_nonneg _ (by decide), Int.emod_lt_of_pos _ (by decide)⟩
theorem index_ok (x y : Int) (w : World) : CallsR Tryz.prog 111 (.el (.one (.int .i64))) [.int .i64 x, .int .i64 y] w (fun b w' => b = indexI x y ∧ Ext w w') := by
  refine rxFn_ok (C := D1) (ann := fun _ => []) (Eq.mpr (index_vc x y w _) ?_)
  refine ⟨fun _ => trivial, fun s es => ?_⟩
  subst es
  rw [span_zero]
  refine brP_intro (fun h w1 h1 => ⟨?_, h1⟩) (fun h a ea b eb => ?_)
  · simp only [Bool.or_eq_true, decide_eq_true_eq, Bool.not_eq_true', Bool.and_eq_false_iff, decide_eq_false_iff_not] at h
    rw [index_bad (by omega)]
  · simp only [Bool.or_eq_false_iff, decide_eq_false_iff_not, Bool.not_eq_false', Bool.and_eq_true, decide_eq_true_eq] at h
    rw [conv_u64' (by omega) (by omega)] at ea
    rw [mulI_i64 (by omega) (by omega)] at eb
    subst ea
    refine ⟨U_B' (by omega) (by omega), fun c ec d ed w1 h1 => ⟨?_, h1⟩⟩
    obtain ⟨e1, e2, e3⟩ := index_plain (y := y) (by omega) (by omega) eb ec
    rw [ed, conv_i64' (by omega) (by omega), e1]
theorem rindex_ok (x y : Int) (w : World) : CallsR Tryz.prog 104 (.el (.one (.int .i64))) [.int .i64 x, .int .i64 y] w (fun b w' => b = indexI x y ∧ Ext w w') := by
  refine rxFn_ok (C := D1) (ann := fun _ => []) (Eq.mpr (rindex_vc x y w _) ?_)
  refine ⟨fun _ => trivial, fun s es => ?_⟩
  subst es
  rw [span_zero]
  refine brP_intro (fun h w1 h1 => ⟨?_, h1⟩) (fun h => ⟨trivial, fun s es => ?_⟩)
  · simp only [Bool.or_eq_true, decide_eq_true_eq, Bool.not_eq_true', Bool.and_eq_false_iff, decide_eq_false_iff_not] at h
    rw [index_bad (by omega)]
  · simp only [Bool.or_eq_false_iff, decide_eq_false_iff_not, Bool.not_eq_false', Bool.and_eq_true, decide_eq_true_eq] at h
    have hy : y = 0 ∨ y = 1 ∨ y = 2 ∨ y = 3 := by omega
    have hs : 1 ≤ s := by rcases hy with rfl | rfl | rfl | rfl <;> (rw [es]; decide)
    refine ⟨by omega, fun c ec d ed w1 h1 => ⟨?_, h1⟩⟩
    have hq : quoI .i64 x s = x / s := by
      unfold quoI
      rw [Int.tdiv_eq_ediv_of_nonneg (by omega)]
      have h1 : 0 ≤ x / s := Int.ediv_nonneg (by omega) (by omega)
      have h2 : x / s ≤ x := Int.ediv_le_self _ (by omega)
      exact wrap_i64_id (by omega) (by omega)
    have h1 : 0 ≤ x / s := Int.ediv_nonneg (by omega) (by omega)
    rw [hq] at ec
    have hr : remI c 16 = c % 16 := Int.tmod_eq_emod_of_nonneg (by omega)
    rw [ed, hr, ec, es]
    unfold indexI
    rw [if_pos (by omega)]
end Go.Proofs.YtkldededdgpmbaaGreat
/-! One more element; where the row lies then. -/
namespace Go.RX
set_option linter.unusedSimpArgs false
set_option linter.unusedVariables false
set_option maxRecDepth 100000
theorem own_push_sep {w0 w wA w1 : World} {e : El} {s : Option Addr × Nat × Nat} {xs : List e.T} {x : e.T} {t : TypeId} {bytes : Nat} {z : Array Value} {R : Option Addr × Nat × Nat → World → Prop}
    (h : Own w0 w e s xs) (h0 : Ext w0 w) (hp : plainE e = true) (k1 : Ext w wA) (k2 : Ext (wA.alloc (.cells ⟨cellsOf e x⟩ t)) w1) (hz : z.size = stride e) (hb : (xs.length + 1) * bytes ≤ 140737488355328)
    (k : ∀ s' w', Own w0 w' e s' (xs ++ [x]) → Ext w0 w' → (∀ b, b < w.heap.size → (∀ a, s.1 = some a → b ≠ a.block) → w'.heap[b]? = w.heap[b]?) → w.heap.size ≤ w'.heap.size →
      (∀ a, s'.1 = some a → s.1 = some a ∨ w.heap.size ≤ a.block) → R s' w') :
    apR w1 t (stride e) bytes z s (some ⟨wA.heap.size, 0, none⟩, 1, 1) R := by
  have kk : Ext w w1 := (k1.trans (Ext.alloc wA _)).trans k2
  have hblk : Blk w1 wA.heap.size (cellsOf e x) := (Blk.new wA _ _).ext k2
  refine own_append (ys := [x]) (h.ext kk) (h0.trans kk) hp rfl ?_ hz hb fun s' w' ho he hf hsz hd => k s' w' ho he (fun b hb' hne => ?_) (Nat.le_trans kk.size hsz) (fun a ha => ?_)
  · refine hblk.rdN (flat_length e [x]) fun i hi => ?_
    simp [flat]
  · rw [hf b (Nat.lt_of_lt_of_le hb' kk.size) hne, kk.block hb']
  · rcases hd with ⟨a', h1, h2⟩ | ⟨a', h1, h2⟩ | h1
    · rw [h1] at ha; cases ha; exact .inl h2
    · rw [h1] at ha; cases ha; exact .inr (Nat.le_trans kk.size h2)
    · have l1 := ho.1
      have l2 := h.1
      rw [h1] at l1
      simp only [List.length_append, List.length_cons, List.length_nil] at l1
      omega
end Go.RX
namespace Go.Proofs.YtkldededdgpmbaaGreat
set_option linter.unusedSimpArgs false
set_option linter.unusedVariables false
set_option maxRecDepth 100000
open Go.RX
/-- A right entry's word. -/
def wordI (p : Bool) (r : Int) (l : Bool) (f : Int) : Int := (nB p : Int) + 2 * r + 16 * (nB l : Int) + 4096 * f
def pkW (p : Bool) (r : Int) (l : Bool) (f : Int) : Int := if rightE p r l f = true then wordI p r l f else 0
def pkE (p : Bool) (r : Int) (l : Bool) (f : Int) : Int := if rightE p r l f = true then 0 else 11
theorem B_nat {x : Int} (h : 0 ≤ x) (h' : x < 18446744073709551616) : (B x).toNat = x.toNat := by
  have : ((B x).toNat : Int) = x := U_B' h h'
  omega
theorem pack_plain {p : Bool} {r : Int} {l : Bool} {f : Int} (h : rightE p r l f = true) : U (packB 0#64 0 [(bB p, 1), (B r, 3), (bB l, 1), (0#64, 7), (B f, 12)]) = wordI p r l f := by
  have b := right_bd h
  rw [U_eq (pack_word (B_nat (by omega) (by omega)) (by omega) (B_nat (by omega) (by omega)) (by omega))]
  unfold wordI
  omega
theorem pack_ok' (p : Bool) (r : Int) (l : Bool) (f : Int) (w : World) : CallsR Tryz.prog 88 (.tup [eU, eI]) [.agg ⟨[.bool p, .int .i64 r, .bool l, .int .i64 f]⟩] w (fun x w' => x = (pkW p r l f, pkE p r l f, ()) ∧ Ext w w') := by
  refine rxFn_ok (C := D1) (ann := fun _ => []) (Eq.mpr (pack_vc' p r l f w _) ?_)
  intro w1 h1
  obtain ⟨g0, g1, g2, g3, ga⟩ := ent_rd (Blk.new w1 [.bool p, .int .i64 r, .bool l, .int .i64 f] 93)
  refine ⟨_, ga, trivial, brP_intro (fun h w2 h2 => ⟨?_, (h1.allocd _).trans h2⟩) (fun h => ⟨rfl, p, g0, trivial, fun x1 e1 => ⟨rfl, r, g1, fun x2 e2 => ⟨rfl, l, g2, trivial, fun x3 e3 => ⟨rfl, f, g3, fun x4 e4 w2 h2 w3 h3 => ?_⟩⟩⟩⟩)⟩
  · have h' : rightE p r l f = false := by simpa using h
    unfold pkW pkE
    rw [h']; rfl
  · have h' : rightE p r l f = true := by simpa using h
    have b := right_bd h'
    rw [conv_u64' (by omega) (by omega)] at e2 e4
    subst e1; subst e2; subst e3; subst e4
    have hr : U (B x2) = x2 := U_B' (by omega) (by omega)
    have hf : U (B x4) = x4 := U_B' (by omega) (by omega)
    have sl : Sl w3 eP (some ⟨w2.heap.size, 0, none⟩) (embP [(bB p, 1), (B x2, 3), (bB l, 1), (0#64, 7), (B x4, 12)]) := Sl.of_blk ((Blk.new w2 _ _).ext h3) (by
      simp only [embP, List.map_cons, List.map_nil, hr, hf]; rfl)
    refine (pack_ok (n := 5) (c := 5) sl rfl (by decide)).mono ?_
    rintro x w4 ⟨ex, h4⟩ w5 h5
    refine ⟨?_, ((((h1.allocd _).trans h2).allocd _).trans h3).trans (h4.trans h5)⟩
    rw [ex, pack_plain h']
    unfold pkW pkE
    rw [if_pos h', if_pos h']
theorem addI_u64 {x y : Int} (h : 0 ≤ x + y) (h' : x + y < 18446744073709551616) : addI .u64 x y = x + y := by
  show IntKind.u64.wrap (x + y) = _
  rw [wrap_u64]; omega
theorem mulI_u64 {x y : Int} (h : 0 ≤ x * y) (h' : x * y < 18446744073709551616) : mulI .u64 x y = x * y := by
  show IntKind.u64.wrap (x * y) = _
  rw [wrap_u64]; omega
theorem rpack_ok' (p : Bool) (r : Int) (l : Bool) (f : Int) (w : World) : CallsR Tryz.prog 106 (.tup [eU, eI]) [.agg ⟨[.bool p, .int .i64 r, .bool l, .int .i64 f]⟩] w (fun x w' => x = (pkW p r l f, pkE p r l f, ()) ∧ Ext w w') := by
  refine rxFn_ok (C := D1) (ann := fun _ => []) (Eq.mpr (rpack_vc' p r l f w _) ?_)
  intro w1 h1
  obtain ⟨g0, g1, g2, g3, ga⟩ := ent_rd (Blk.new w1 [.bool p, .int .i64 r, .bool l, .int .i64 f] 99)
  have fin : ∀ (h : rightE p r l f = true) (s : Int), s = (nB p : Int) + 16 * (nB l : Int) → ∀ (x1 x2 x3 x4 x5 x6 : Int), x2 = convI .u64 x1 → x1 = r → x3 = mulI .u64 2 x2 → x4 = addI .u64 s x3 → x5 = convI .u64 f → x6 = mulI .u64 4096 x5 → ∀ x7, x7 = addI .u64 x4 x6 → ((x7, (0 : Int), ()) : Int × Int × Unit) = (pkW p r l f, pkE p r l f, ()) := by
    intro h s es x1 x2 x3 x4 x5 x6 e2 e1 e3 e4 e5 e6 x7 e7
    have b := right_bd h
    have b1 := nB_le p
    have b2 := nB_le l
    subst e1
    rw [conv_u64' (by omega) (by omega)] at e2 e5
    rw [mulI_u64 (by omega) (by omega)] at e3 e6
    rw [addI_u64 (by omega) (by omega)] at e4
    rw [addI_u64 (by omega) (by omega)] at e7
    unfold pkW pkE wordI
    rw [if_pos h, if_pos h]
    congr 1
    omega
  refine ⟨_, ga, trivial, brP_intro (fun h w2 h2 => ⟨?_, (h1.allocd _).trans h2⟩) (fun h => ?_)⟩
  · have h' : rightE p r l f = false := by simpa using h
    unfold pkW pkE
    rw [h']; rfl
  · have h' : rightE p r l f = true := by simpa using h
    refine ⟨rfl, p, g0, brP_intro (fun hp => ⟨rfl, l, g2, brP_intro (fun hl s es => ⟨rfl, r, g1, fun x2 e2 x3 e3 x4 e4 => ⟨rfl, f, g3, fun x5 e5 x6 e6 x7 e7 w2 h2 => ⟨?_, (h1.allocd _).trans h2⟩⟩⟩) (fun hl => ⟨rfl, r, g1, fun x2 e2 x3 e3 x4 e4 => ⟨rfl, f, g3, fun x5 e5 x6 e6 x7 e7 w2 h2 => ⟨?_, (h1.allocd _).trans h2⟩⟩⟩)⟩) (fun hp => ⟨rfl, l, g2, brP_intro (fun hl s es => ⟨rfl, r, g1, fun x2 e2 x3 e3 x4 e4 => ⟨rfl, f, g3, fun x5 e5 x6 e6 x7 e7 w2 h2 => ⟨?_, (h1.allocd _).trans h2⟩⟩⟩) (fun hl => ⟨rfl, r, g1, fun x2 e2 x3 e3 x4 e4 => ⟨rfl, f, g3, fun x5 e5 x6 e6 x7 e7 w2 h2 => ⟨?_, (h1.allocd _).trans h2⟩⟩⟩)⟩)⟩
    · refine fin h' s ?_ r x2 x3 x4 x5 x6 e2 rfl e3 e4 e5 e6 x7 e7
      rw [es, hp, hl, addI_u64 (by decide) (by decide)]; decide
    · refine fin h' 1 ?_ r x2 x3 x4 x5 x6 e2 rfl e3 e4 e5 e6 x7 e7
      rw [hp, hl]; decide
    · refine fin h' s ?_ r x2 x3 x4 x5 x6 e2 rfl e3 e4 e5 e6 x7 e7
      rw [es, hp, hl, addI_u64 (by decide) (by decide)]; decide
    · refine fin h' 0 ?_ r x2 x3 x4 x5 x6 e2 rfl e3 e4 e5 e6 x7 e7
      rw [hp, hl]; decide
theorem putAll {w : World} {b : Nat} {l : List Value} (h : Blk w b l) (vs : List Value) (hn : vs.length = l.length) : Blk (putP w (some ⟨b, 0, none⟩) vs) b vs := by
  have := h.put (o := 0) vs (by omega)
  rw [Nat.zero_add, hn, List.drop_length, List.append_nil, List.take_zero, List.nil_append] at this
  exact this
/-! A word, read. -/
def okV (n : Nat) : Bool := decide (n / 32 % 128 = 0) && decide (n / 16777216 % 1099511627776 = 0) && rightE (n % 2 == 1) ((n / 2 % 8 : Nat) : Int) (n / 16 % 2 == 1) ((n / 4096 % 4096 : Nat) : Int)
def prP (n : Nat) : Bool := okV n && n % 2 == 1
def prR (n : Nat) : Int := if okV n = true then ((n / 2 % 8 : Nat) : Int) else 0
def prL (n : Nat) : Bool := okV n && n / 16 % 2 == 1
def prF (n : Nat) : Int := if okV n = true then ((n / 4096 % 4096 : Nat) : Int) else 0
theorem own_lt {w0 w : World} {e : El} {s : Option Addr × Nat × Nat} {xs : List e.T} (h : Own w0 w e s xs) {a : Addr} (ha : s.1 = some a) : a.block < w.heap.size := by
  obtain ⟨_, _, h3⟩ := h
  rcases h3 with ⟨h3, _⟩ | ⟨b, l, h3, _, h4, _⟩
  · rw [h3] at ha; cases ha
  · rw [h3] at ha; cases ha; exact h4.lt
theorem beq_one (n : Nat) : (((n : Nat) : Int) == 1) = (n == 1) := by
  rw [Bool.eq_iff_iff, beq_iff_eq, beq_iff_eq]; omega
theorem pos_nat (n : Nat) : decide (((n : Nat) : Int) > 0) = !decide (n = 0) := by
  rw [Bool.eq_iff_iff, decide_eq_true_eq, Bool.not_eq_true', decide_eq_false_iff_not]; omega
theorem parse_ok (v : BitVec 64) (w : World) : CallsR Tryz.prog 93 (.tup [.agg [.bool, .int .i64, .bool, .int .i64], .one .bool]) [.int .u64 (U v)] w
    (fun x w' => x = ((prP v.toNat, prR v.toNat, prL v.toNat, prF v.toNat, ()), okV v.toNat, ()) ∧ Ext w w') := by
  refine rxFnR_ok (C := D1) (ann := fun _ => []) (Eq.mpr (parse_vc (U v) w _) ?_)
  intro w1 h1 w2 h2 w3 h3
  have blk : Blk w2 w1.heap.size [Value.bool false, Value.int .i64 0, Value.bool false, Value.int .i64 0] := (Blk.new w1 _ _).ext h2
  have hw2 : Ext w w2 := (h1.allocd _).trans h2
  have hw3 : Ext w w3 := (hw2.allocd _).trans h3
  have sl : Sl w3 eI (some ⟨w2.heap.size, 0, none⟩) [1, 3, 1, 7, 12, 40] := Sl.of_blk ((Blk.new w2 _ _).ext h3) rfl
  refine (split_ok (v := v) (c := 6) sl rfl (by decide)).mono ?_
  rintro ⟨p, n, c⟩ w4 ⟨ho, h4⟩
  rw [split_word] at ho
  have ln : n = 6 := by have := ho.len; simpa [embU] using this
  subst ln
  let N := v.toNat
  have v0 : U (getB v 0 1) = ((N % 2 : Nat) : Int) := by rw [U_eq (get_num 1 2 (by decide) rfl rfl), Nat.div_one]
  have v1 : U (getB v 1 3) = ((N / 2 % 8 : Nat) : Int) := U_eq (get_num 2 8 (by decide) rfl rfl)
  have v2 : U (getB v 4 1) = ((N / 16 % 2 : Nat) : Int) := U_eq (get_num 16 2 (by decide) rfl rfl)
  have v3 : U (getB v 5 7) = ((N / 32 % 128 : Nat) : Int) := U_eq (get_num 32 128 (by decide) rfl rfl)
  have v4 : U (getB v 12 12) = ((N / 4096 % 4096 : Nat) : Int) := U_eq (get_num 4096 4096 (by decide) (by decide) (by decide))
  have v5 : U (getB v 24 40) = ((N / 16777216 % 1099511627776 : Nat) : Int) := U_eq (get_num 16777216 1099511627776 (by decide) (by decide) (by decide))
  have hL : embU ((some [getB v 0 1, getB v 1 3, getB v 4 1, getB v 5 7, getB v 12 12, getB v 24 40]).getD []) = [((N % 2 : Nat) : Int), ((N / 2 % 8 : Nat) : Int), ((N / 16 % 2 : Nat) : Int), ((N / 32 % 128 : Nat) : Int), ((N / 4096 % 4096 : Nat) : Int), ((N / 16777216 % 1099511627776 : Nat) : Int)] := by
    show [U (getB v 0 1), U (getB v 1 3), U (getB v 4 1), U (getB v 5 7), U (getB v 12 12), U (getB v 24 40)] = _
    rw [v0, v1, v2, v3, v4, v5]
  rw [hL] at ho
  have some0 : p.isSome = true := (ho.sl 0 _ rfl).1
  have ix : ∀ i : Int, 0 ≤ i → i < 6 → p.isSome = true ∧ 0 ≤ i ∧ i < ((6 : Nat) : Int) := fun i a b => ⟨some0, a, b⟩
  refine ⟨ix 0 (by decide) (by decide), _, (ho.sl 0 _ rfl).2, ix 1 (by decide) (by decide), _, (ho.sl 1 _ rfl).2, fun x3 e3 => ⟨ix 2 (by decide) (by decide), _, (ho.sl 2 _ rfl).2, ix 4 (by decide) (by decide), _, (ho.sl 4 _ rfl).2, fun x6 e6 w5 h5 w6 h6 => ?_⟩⟩
  rw [conv_i64' (by omega) (by omega)] at e3 e6
  rw [beq_one, beq_one]
  subst e3; subst e6
  have bt : Blk w6 w5.heap.size [Value.bool false, Value.int .i64 0, Value.bool false, Value.int .i64 0] := (Blk.new w5 _ _).ext h6
  refine ⟨⟨rfl, bt.st (by simp)⟩, ?_⟩
  have bp := putAll bt [Value.bool (N % 2 == 1), Value.int .i64 ((N / 2 % 8 : Nat) : Int), Value.bool (N / 16 % 2 == 1), Value.int .i64 ((N / 4096 % 4096 : Nat) : Int)] rfl
  have o6 : Own w3 (putP w6 (some ⟨w5.heap.size, 0, none⟩) [Value.bool (N % 2 == 1), Value.int .i64 ((N / 2 % 8 : Nat) : Int), Value.bool (N / 16 % 2 == 1), Value.int .i64 ((N / 4096 % 4096 : Nat) : Int)]) eU (p, 6, c) _ :=
    ((ho.ext h5).ext ((Ext.alloc _ _).trans h6)).same fun a ha => putAt_ne _ _ ⟨w5.heap.size, 0, none⟩ 0 _ (by
      have := own_lt ho ha
      have := h5.size
      show a.block ≠ w5.heap.size
      omega)
  have hw6 : Ext w w6 := (((hw3.trans h4).trans h5).allocd _).trans h6
  have hw7 : Ext w (putP w6 (some ⟨w5.heap.size, 0, none⟩) [Value.bool (N % 2 == 1), Value.int .i64 ((N / 2 % 8 : Nat) : Int), Value.bool (N / 16 % 2 == 1), Value.int .i64 ((N / 4096 % 4096 : Nat) : Int)]) := hw6.putP (a := ⟨w5.heap.size, 0, none⟩) (((hw3.trans h4).trans h5).size) _
  have ra : rdAt (putP w6 (some ⟨w5.heap.size, 0, none⟩) [Value.bool (N % 2 == 1), Value.int .i64 ((N / 2 % 8 : Nat) : Int), Value.bool (N / 16 % 2 == 1), Value.int .i64 ((N / 4096 % 4096 : Nat) : Int)]) (some ⟨w5.heap.size, 0, none⟩) (.agg [.bool, .int .i64, .bool, .int .i64]) (N % 2 == 1, ((N / 2 % 8 : Nat) : Int), N / 16 % 2 == 1, ((N / 4096 % 4096 : Nat) : Int), ()) :=
    bp.rdA fun i _ => by rw [Nat.zero_add]; rfl
  have lt1 := blk.lt
  have ne1 : w1.heap.size ≠ w5.heap.size := by
    have a1 := h3.size
    have a2 := h4.size
    have a3 := h5.size
    rw [alloc_size] at a1
    omega
  have blk6 : Blk (putP w6 (some ⟨w5.heap.size, 0, none⟩) [Value.bool (N % 2 == 1), Value.int .i64 ((N / 2 % 8 : Nat) : Int), Value.bool (N / 16 % 2 == 1), Value.int .i64 ((N / 4096 % 4096 : Nat) : Int)]) w1.heap.size [Value.bool false, Value.int .i64 0, Value.bool false, Value.int .i64 0] :=
    ((((((blk.ext (Ext.alloc _ _)).ext h3).ext h4).ext h5).ext (Ext.alloc _ _)).ext h6).putNe (a := ⟨w5.heap.size, 0, none⟩) ne1 _
  refine ⟨ix 3 (by decide) (by decide), _, (o6.sl 3 _ rfl).2, fun _ => ix 5 (by decide) (by decide), _, fun _ => (o6.sl 5 _ rfl).2, _, fun _ => ra, fun _ => trivial, ?_⟩
  rw [pos_nat, pos_nat]
  have hok : okV N = !(!decide (N / 32 % 128 = 0) || !decide (N / 16777216 % 1099511627776 = 0) || !rightE (N % 2 == 1) ((N / 2 % 8 : Nat) : Int) (N / 16 % 2 == 1) ((N / 4096 % 4096 : Nat) : Int)) := by
    unfold okV
    cases decide (N / 32 % 128 = 0) <;> cases decide (N / 16777216 % 1099511627776 = 0) <;> cases rightE (N % 2 == 1) ((N / 2 % 8 : Nat) : Int) (N / 16 % 2 == 1) ((N / 4096 % 4096 : Nat) : Int) <;> rfl
  refine brP_intro (fun hb w8 h8 => ?_) (fun hb => ⟨_, ra, fun w8 h8 => ?_⟩)
  · have ho' : okV N = false := by rw [hok, hb]; rfl
    have b8 := blk6.ext h8
    refine ⟨⟨rfl, b8.st (by simp)⟩, fun w9 h9 => ⟨(false, 0, false, 0, ()), ?_, ?_, ?_⟩⟩
    · have b9 := (putAll b8 [Value.bool false, Value.int .i64 0, Value.bool false, Value.int .i64 0] rfl).ext h9
      exact b9.rdA fun i _ => by rw [Nat.zero_add]; rfl
    · show _ = ((prP N, prR N, prL N, prF N, ()), okV N, ())
      unfold prP prR prL prF
      rw [ho']; rfl
    · exact ((hw7.trans h8).putP (a := ⟨w1.heap.size, 0, none⟩) h1.size _).trans h9
  · have ho' : okV N = true := by rw [hok, hb]; rfl
    have b8 := blk6.ext h8
    refine ⟨⟨rfl, b8.st (by simp)⟩, fun w9 h9 => ⟨(N % 2 == 1, ((N / 2 % 8 : Nat) : Int), N / 16 % 2 == 1, ((N / 4096 % 4096 : Nat) : Int), ()), ?_, ?_, ?_⟩⟩
    · have b9 := (putAll b8 [Value.bool (N % 2 == 1), Value.int .i64 ((N / 2 % 8 : Nat) : Int), Value.bool (N / 16 % 2 == 1), Value.int .i64 ((N / 4096 % 4096 : Nat) : Int)] rfl).ext h9
      exact b9.rdA fun i _ => by rw [Nat.zero_add]; rfl
    · show _ = ((prP N, prR N, prL N, prF N, ()), okV N, ())
      unfold prP prR prL prF
      rw [ho', if_pos rfl, if_pos rfl, Bool.true_and, Bool.true_and]
    · exact ((hw7.trans h8).putP (a := ⟨w1.heap.size, 0, none⟩) h1.size _).trans h9
end Go.Proofs.YtkldededdgpmbaaGreat
namespace Go.Proofs.YtkldededdgpmbaaGreat
set_option linter.unusedSimpArgs false
set_option linter.unusedVariables false
set_option maxRecDepth 100000
open Go.RX
noncomputable def eTable : Entry Tryz.prog where
  f := 81
  fn l := match l with
    | [.agg ⟨[.bool p, .int .i64 r, .bool l, .int .i64 f]⟩] => some (True, .bool (tableE p r l f))
    | _ => none
  ok args pre v h hp w := by
    split at h
    · rename_i p r l f
      cases h
      exact entry_of (table_ok p r l f w)
    · cases h
noncomputable def eRTable : Entry Tryz.prog where
  f := 83
  fn l := match l with
    | [.agg ⟨[.bool p, .int .i64 r, .bool l, .int .i64 f]⟩] => some (True, .bool (tableE p r l f))
    | _ => none
  ok args pre v h hp w := by
    split at h
    · rename_i p r l f
      cases h
      exact entry_of (rtable_ok p r l f w)
    · cases h
noncomputable def eAllows : Entry Tryz.prog where
  f := 140
  fn l := match l with
    | [.agg ⟨[.bool p, .int .i64 r, .bool l, .int .i64 f]⟩, .int .i64 t] => some (True, .bool (allowsE p r l f t))
    | _ => none
  ok args pre v h hp w := by
    split at h
    · rename_i p r l f t
      cases h
      exact entry_of (allows_ok p r l f t w)
    · cases h
noncomputable def eIndex : Entry Tryz.prog where
  f := 111
  fn l := match l with
    | [.int .i64 x, .int .i64 y] => some (True, .int .i64 (indexI x y))
    | _ => none
  ok args pre v h hp w := by
    split at h
    · rename_i x y
      cases h
      exact entry_of (index_ok x y w)
    · cases h
noncomputable def eRIndex : Entry Tryz.prog where
  f := 104
  fn l := match l with
    | [.int .i64 x, .int .i64 y] => some (True, .int .i64 (indexI x y))
    | _ => none
  ok args pre v h hp w := by
    split at h
    · rename_i x y
      cases h
      exact entry_of (rindex_ok x y w)
    · cases h
noncomputable def ePack : Entry Tryz.prog where
  f := 88
  fn l := match l with
    | [.agg ⟨[.bool p, .int .i64 r, .bool l, .int .i64 f]⟩] => some (True, .tuple ⟨[.int .u64 (pkW p r l f), .int .i64 (pkE p r l f)]⟩)
    | _ => none
  ok args pre v h hp w := by
    split at h
    · rename_i p r l f
      cases h
      exact entry_of (pack_ok' p r l f w)
    · cases h
noncomputable def eRPack : Entry Tryz.prog where
  f := 106
  fn l := match l with
    | [.agg ⟨[.bool p, .int .i64 r, .bool l, .int .i64 f]⟩] => some (True, .tuple ⟨[.int .u64 (pkW p r l f), .int .i64 (pkE p r l f)]⟩)
    | _ => none
  ok args pre v h hp w := by
    split at h
    · rename_i p r l f
      cases h
      exact entry_of (rpack_ok' p r l f w)
    · cases h
noncomputable def eParse : Entry Tryz.prog where
  f := 93
  fn l := match l with
    | [.int .u64 v] => some (U (B v) = v, .tuple ⟨[.agg ⟨[.bool (prP (B v).toNat), .int .i64 (prR (B v).toNat), .bool (prL (B v).toNat), .int .i64 (prF (B v).toNat)]⟩, .bool (okV (B v).toNat)]⟩)
    | _ => none
  ok args pre v h hp w := by
    split at h
    · rename_i v
      cases h
      have := entry_of (parse_ok (B v) w)
      rw [hp] at this; exact this
    · cases h
noncomputable def D2 : Cfg Tryz.prog := { D0 with tab := [eFits, eIs, eBit, eOne, eMask, eRGet, eGet, ePut, ePBit, eRight, eRRight, eSpan, eRSpan, eTable, eRTable, eAllows, eIndex, eRIndex, ePack, eRPack, eParse] }
end Go.Proofs.YtkldededdgpmbaaGreat
namespace Go.Proofs.YtkldededdgpmbaaGreat
set_option linter.unusedSimpArgs false
set_option linter.unusedVariables false
set_option maxRecDepth 100000
open Go.RX
theorem at_vc (z x y : Int) (w : World) (Post : Int → World → Prop) : (rxFn D2 (fun _ => []) 86 [.int .i64 z, .int .i64 x, .int .i64 y] w Post) = (
 True ∧
  ∀ (x_1 : Int),
   x_1 = indexI x y → brP (decide (x_1 < 0) || decide (z < 0) || decide (z ≥ 4096)) (EnP w fun (w1 : World) => Post (-1) w1) (∀ (x : Int), x = mulI IntKind.i64 16 z → ∀ (x_2 : Int), x_2 = addI IntKind.i64 x x_1 → EnP w fun (w1 : World) => Post x_2 w1)) := by kernel_rfl
theorem rat_vc (z x y : Int) (w : World) (Post : Int → World → Prop) : (rxFn D2 (fun _ => []) 74 [.int .i64 z, .int .i64 x, .int .i64 y] w Post) = (
 True ∧
  ∀ (x_1 : Int),
   x_1 = indexI x y → brP (decide (x_1 < 0) || decide (z < 0) || decide (z > 4095)) (EnP w fun (w1 : World) => Post (-1) w1) (∀ (x : Int), x = mulI IntKind.i64 16 z → ∀ (x_2 : Int), x_2 = addI IntKind.i64 x x_1 → EnP w fun (w1 : World) => Post x_2 w1)) := by kernel_rfl
theorem rparse_vc (v : Int) (w : World) (Post : (Bool × Int × Bool × Int × Unit) × Bool × Unit → World → Prop) : (rxFnR D2 (fun _ => []) 82 [.int .u64 v] w Post) = (
 AlP w { toList := [Value.bool false, Value.int IntKind.i64 0, Value.bool false, Value.int IntKind.i64 0] } 99 fun (b : Nat) (w2 : World) =>
  U (B v) = v ∧
   ∀ (x : Int),
    x = U (getB (B v) 0 1) →
     U (B v) = v ∧
      ∀ (x_1 : Int),
       x_1 = U (getB (B v) 1 3) →
        ∀ (x_2 : Int),
         x_2 = convI IntKind.i64 x_1 →
          U (B v) = v ∧
           ∀ (x_3 : Int),
            x_3 = U (getB (B v) 4 1) →
             U (B v) = v ∧
              ∀ (x_4 : Int),
               x_4 = U (getB (B v) 12 12) →
                ∀ (x_5 : Int),
                 x_5 = convI IntKind.i64 x_4 →
                  AlP w2 { toList := [Value.bool false, Value.int IntKind.i64 0, Value.bool false, Value.int IntKind.i64 0] } 99 fun (b_1 : Nat) (w2 : World) =>
                   StP w2 (some { block := b_1, off := 0 }) [Value.bool (x == 1), Value.int IntKind.i64 x_2, Value.bool (x_3 == 1), Value.int IntKind.i64 x_5] fun (w2 : World) =>
                    LdP w2 none (some { block := b_1, off := 0 }) (El.agg [Sc.bool, Sc.int IntKind.i64, Sc.bool, Sc.int IntKind.i64]) fun (x : Bool × Int × Bool × Int × Unit) =>
                     True ∧
                      brP (pkE x.fst x.snd.fst x.snd.snd.fst x.snd.snd.snd.fst != 0 || pkW x.fst x.snd.fst x.snd.snd.fst x.snd.snd.snd.fst != v)
                       (StP w2 (some { block := b, off := 0 }) [Value.bool false, Value.int IntKind.i64 0, Value.bool false, Value.int IntKind.i64 0] fun (w2 : World) =>
                        EnP w2 fun (w1 : World) =>
                         LdP w1 none (some { block := b, off := 0 }) (El.agg [Sc.bool, Sc.int IntKind.i64, Sc.bool, Sc.int IntKind.i64]) fun (x : Bool × Int × Bool × Int × Unit) =>
                          Post ((x.fst, x.snd.fst, x.snd.snd.fst, x.snd.snd.snd.fst, Unit.unit), false, Unit.unit) w1)
                       (LdP w2 none (some { block := b_1, off := 0 }) (El.agg [Sc.bool, Sc.int IntKind.i64, Sc.bool, Sc.int IntKind.i64]) fun (x : Bool × Int × Bool × Int × Unit) =>
                        StP w2 (some { block := b, off := 0 }) [Value.bool x.fst, Value.int IntKind.i64 x.snd.fst, Value.bool x.snd.snd.fst, Value.int IntKind.i64 x.snd.snd.snd.fst] fun (w2 : World) =>
                         EnP w2 fun (w1 : World) =>
                          LdP w1 none (some { block := b, off := 0 }) (El.agg [Sc.bool, Sc.int IntKind.i64, Sc.bool, Sc.int IntKind.i64]) fun (x : Bool × Int × Bool × Int × Unit) =>
                           Post ((x.fst, x.snd.fst, x.snd.snd.fst, x.snd.snd.snd.fst, Unit.unit), true, Unit.unit) w1)) := by kernel_rfl
/-- An entry's word's place. -/
def atI (z x y : Int) : Int := if indexI x y < 0 ∨ z < 0 ∨ z ≥ 4096 then -1 else 16 * z + indexI x y
theorem index_lt (x y : Int) : -1 ≤ indexI x y ∧ indexI x y < 16 := by
  unfold indexI
  split
  · have h1 := Int.emod_nonneg (x / spanI y) (show (16 : Int) ≠ 0 by decide)
    have h2 := Int.emod_lt_of_pos (x / spanI y) (show (0 : Int) < 16 by decide)
    omega
  · omega
theorem at_ok (z x y : Int) (w : World) : CallsR Tryz.prog 86 (.el (.one (.int .i64))) [.int .i64 z, .int .i64 x, .int .i64 y] w (fun b w' => b = atI z x y ∧ Ext w w') := by
  refine rxFn_ok (C := D2) (ann := fun _ => []) (Eq.mpr (at_vc z x y w _) ⟨trivial, fun s es => ?_⟩)
  have hb := index_lt x y
  subst es
  refine brP_intro (fun h w1 h1 => ⟨?_, h1⟩) (fun h a ea b eb w1 h1 => ⟨?_, h1⟩)
  · simp only [Bool.or_eq_true, decide_eq_true_eq] at h
    unfold atI
    rw [if_pos (by omega)]
  · simp only [Bool.or_eq_false_iff, decide_eq_false_iff_not] at h
    rw [mulI_i64 (by omega) (by omega)] at ea
    rw [addI_i64 (by omega) (by omega)] at eb
    unfold atI
    rw [if_neg (by omega), eb, ea]
theorem rat_ok (z x y : Int) (w : World) : CallsR Tryz.prog 74 (.el (.one (.int .i64))) [.int .i64 z, .int .i64 x, .int .i64 y] w (fun b w' => b = atI z x y ∧ Ext w w') := by
  refine rxFn_ok (C := D2) (ann := fun _ => []) (Eq.mpr (rat_vc z x y w _) ⟨trivial, fun s es => ?_⟩)
  have hb := index_lt x y
  subst es
  refine brP_intro (fun h w1 h1 => ⟨?_, h1⟩) (fun h a ea b eb w1 h1 => ⟨?_, h1⟩)
  · simp only [Bool.or_eq_true, decide_eq_true_eq] at h
    unfold atI
    rw [if_pos (by omega)]
  · simp only [Bool.or_eq_false_iff, decide_eq_false_iff_not] at h
    rw [mulI_i64 (by omega) (by omega)] at ea
    rw [addI_i64 (by omega) (by omega)] at eb
    unfold atI
    rw [if_neg (by omega), eb, ea]
theorem nB_odd (n : Nat) (h : n ≤ 1) : nB (n == 1) = n := by
  have : n = 0 ∨ n = 1 := by omega
  rcases this with rfl | rfl <;> rfl
theorem word_of (n : Nat) : wordI (n % 2 == 1) ((n / 2 % 8 : Nat) : Int) (n / 16 % 2 == 1) ((n / 4096 % 4096 : Nat) : Int) = ((n % 2 + 2 * (n / 2 % 8) + 16 * (n / 16 % 2) + 4096 * (n / 4096 % 4096) : Nat) : Int) := by
  unfold wordI
  rw [nB_odd _ (by omega), nB_odd _ (by omega)]
  omega
theorem split_num (n : Nat) (h : n < 18446744073709551616) : n = n % 2 + 2 * (n / 2 % 8) + 16 * (n / 16 % 2) + 32 * (n / 32 % 128) + 4096 * (n / 4096 % 4096) + 16777216 * (n / 16777216 % 1099511627776) := by
  omega
/-- A word that is read is its word. -/
theorem ok_word (n : Nat) (h : n < 18446744073709551616) : okV n = (rightE (n % 2 == 1) ((n / 2 % 8 : Nat) : Int) (n / 16 % 2 == 1) ((n / 4096 % 4096 : Nat) : Int) && decide (wordI (n % 2 == 1) ((n / 2 % 8 : Nat) : Int) (n / 16 % 2 == 1) ((n / 4096 % 4096 : Nat) : Int) = (n : Int))) := by
  rw [word_of]
  have hs := split_num n h
  unfold okV
  rw [Bool.and_comm]
  congr 1
  rw [Bool.eq_iff_iff, Bool.and_eq_true, decide_eq_true_eq, decide_eq_true_eq, decide_eq_true_eq]
  omega
theorem rparse_bad (v : BitVec 64) : (pkE (v.toNat % 2 == 1) ((v.toNat / 2 % 8 : Nat) : Int) (v.toNat / 16 % 2 == 1) ((v.toNat / 4096 % 4096 : Nat) : Int) != 0 || pkW (v.toNat % 2 == 1) ((v.toNat / 2 % 8 : Nat) : Int) (v.toNat / 16 % 2 == 1) ((v.toNat / 4096 % 4096 : Nat) : Int) != U v) = !okV v.toNat := by
  rw [ok_word _ v.isLt]
  unfold pkE pkW
  cases rightE (v.toNat % 2 == 1) ((v.toNat / 2 % 8 : Nat) : Int) (v.toNat / 16 % 2 == 1) ((v.toNat / 4096 % 4096 : Nat) : Int) with
  | false => rfl
  | true =>
    rw [if_pos rfl, if_pos rfl, Bool.true_and]
    show (((0 : Int) != 0) || _) = _
    rw [show ((0 : Int) != 0) = false from rfl, Bool.false_or]
    rw [Bool.eq_iff_iff, bne_iff_ne, Bool.not_eq_true', decide_eq_false_iff_not]
    rfl
theorem rparse_ok (v : BitVec 64) (w : World) : CallsR Tryz.prog 82 (.tup [.agg [.bool, .int .i64, .bool, .int .i64], .one .bool]) [.int .u64 (U v)] w
    (fun x w' => x = ((prP v.toNat, prR v.toNat, prL v.toNat, prF v.toNat, ()), okV v.toNat, ()) ∧ Ext w w') := by
  refine rxFnR_ok (C := D2) (ann := fun _ => []) (Eq.mpr (rparse_vc (U v) w _) ?_)
  let N := v.toNat
  have v0 : U (getB v 0 1) = ((N % 2 : Nat) : Int) := by rw [U_eq (get_num 1 2 (by decide) rfl rfl), Nat.div_one]
  have v1 : U (getB v 1 3) = ((N / 2 % 8 : Nat) : Int) := U_eq (get_num 2 8 (by decide) rfl rfl)
  have v2 : U (getB v 4 1) = ((N / 16 % 2 : Nat) : Int) := U_eq (get_num 16 2 (by decide) rfl rfl)
  have v4 : U (getB v 12 12) = ((N / 4096 % 4096 : Nat) : Int) := U_eq (get_num 4096 4096 (by decide) (by decide) (by decide))
  intro w1 h1
  rw [B_U]
  refine ⟨rfl, fun x0 e0 => ⟨rfl, fun x1 e1 x2 e2 => ⟨rfl, fun x3 e3 => ⟨rfl, fun x4 e4 x5 e5 w2 h2 w3 h3 => ?_⟩⟩⟩⟩
  rw [v0] at e0
  rw [v1] at e1
  rw [v2] at e3
  rw [v4] at e4
  rw [conv_i64' (by omega) (by omega)] at e2 e5
  subst e0; subst e2; subst e3; subst e5; subst e1; subst e4
  rw [beq_one, beq_one]
  have blk : Blk w2 w1.heap.size [Value.bool false, Value.int .i64 0, Value.bool false, Value.int .i64 0] := (Blk.new w1 _ _).ext h2
  have hw2 : Ext w w2 := (h1.allocd _).trans h2
  have bt : Blk w3 w2.heap.size [Value.bool false, Value.int .i64 0, Value.bool false, Value.int .i64 0] := (Blk.new w2 _ _).ext h3
  have bp := putAll bt [Value.bool (N % 2 == 1), Value.int .i64 ((N / 2 % 8 : Nat) : Int), Value.bool (N / 16 % 2 == 1), Value.int .i64 ((N / 4096 % 4096 : Nat) : Int)] rfl
  have hw3 : Ext w w3 := (hw2.allocd _).trans h3
  have hw4 : Ext w (putP w3 (some ⟨w2.heap.size, 0, none⟩) [Value.bool (N % 2 == 1), Value.int .i64 ((N / 2 % 8 : Nat) : Int), Value.bool (N / 16 % 2 == 1), Value.int .i64 ((N / 4096 % 4096 : Nat) : Int)]) := hw3.putP (a := ⟨w2.heap.size, 0, none⟩) hw2.size _
  have ra : rdAt (putP w3 (some ⟨w2.heap.size, 0, none⟩) [Value.bool (N % 2 == 1), Value.int .i64 ((N / 2 % 8 : Nat) : Int), Value.bool (N / 16 % 2 == 1), Value.int .i64 ((N / 4096 % 4096 : Nat) : Int)]) (some ⟨w2.heap.size, 0, none⟩) (.agg [.bool, .int .i64, .bool, .int .i64]) (N % 2 == 1, ((N / 2 % 8 : Nat) : Int), N / 16 % 2 == 1, ((N / 4096 % 4096 : Nat) : Int), ()) :=
    bp.rdA fun i _ => by rw [Nat.zero_add]; rfl
  have lt1 := blk.lt
  have b4 : Blk (putP w3 (some ⟨w2.heap.size, 0, none⟩) [Value.bool (N % 2 == 1), Value.int .i64 ((N / 2 % 8 : Nat) : Int), Value.bool (N / 16 % 2 == 1), Value.int .i64 ((N / 4096 % 4096 : Nat) : Int)]) w1.heap.size [Value.bool false, Value.int .i64 0, Value.bool false, Value.int .i64 0] :=
    ((blk.ext (Ext.alloc _ _)).ext h3).putNe (a := ⟨w2.heap.size, 0, none⟩) (by show w1.heap.size ≠ w2.heap.size; omega) _
  refine ⟨⟨rfl, bt.st (by simp)⟩, _, ra, trivial, ?_⟩
  have hbad := rparse_bad v
  refine brP_intro (fun hb w8 h8 => ?_) (fun hb => ⟨_, ra, fun w8 h8 => ?_⟩)
  · have ho' : okV N = false := by
      have := hbad.symm.trans hb
      simpa using this
    have b8 := b4.ext h8
    refine ⟨⟨rfl, b8.st (by simp)⟩, fun w9 h9 => ⟨(false, 0, false, 0, ()), ?_, ?_, ?_⟩⟩
    · have b9 := (putAll b8 [Value.bool false, Value.int .i64 0, Value.bool false, Value.int .i64 0] rfl).ext h9
      exact b9.rdA fun i _ => by rw [Nat.zero_add]; rfl
    · show _ = ((prP N, prR N, prL N, prF N, ()), okV N, ())
      unfold prP prR prL prF
      rw [ho']; rfl
    · exact ((hw4.trans h8).putP (a := ⟨w1.heap.size, 0, none⟩) h1.size _).trans h9
  · have ho' : okV N = true := by
      have := hbad.symm.trans hb
      simpa using this
    have b8 := b4.ext h8
    refine ⟨⟨rfl, b8.st (by simp)⟩, fun w9 h9 => ⟨(N % 2 == 1, ((N / 2 % 8 : Nat) : Int), N / 16 % 2 == 1, ((N / 4096 % 4096 : Nat) : Int), ()), ?_, ?_, ?_⟩⟩
    · have b9 := (putAll b8 [Value.bool (N % 2 == 1), Value.int .i64 ((N / 2 % 8 : Nat) : Int), Value.bool (N / 16 % 2 == 1), Value.int .i64 ((N / 4096 % 4096 : Nat) : Int)] rfl).ext h9
      exact b9.rdA fun i _ => by rw [Nat.zero_add]; rfl
    · show _ = ((prP N, prR N, prL N, prF N, ()), okV N, ())
      unfold prP prR prL prF
      rw [ho', if_pos rfl, if_pos rfl, Bool.true_and, Bool.true_and]
    · exact ((hw4.trans h8).putP (a := ⟨w1.heap.size, 0, none⟩) h1.size _).trans h9
noncomputable def eAt : Entry Tryz.prog where
  f := 86
  fn l := match l with
    | [.int .i64 z, .int .i64 x, .int .i64 y] => some (True, .int .i64 (atI z x y))
    | _ => none
  ok args pre v h hp w := by
    split at h
    · rename_i z x y
      cases h
      exact entry_of (at_ok z x y w)
    · cases h
noncomputable def eRAt : Entry Tryz.prog where
  f := 74
  fn l := match l with
    | [.int .i64 z, .int .i64 x, .int .i64 y] => some (True, .int .i64 (atI z x y))
    | _ => none
  ok args pre v h hp w := by
    split at h
    · rename_i z x y
      cases h
      exact entry_of (rat_ok z x y w)
    · cases h
noncomputable def eRParse : Entry Tryz.prog where
  f := 82
  fn l := match l with
    | [.int .u64 v] => some (U (B v) = v, .tuple ⟨[.agg ⟨[.bool (prP (B v).toNat), .int .i64 (prR (B v).toNat), .bool (prL (B v).toNat), .int .i64 (prF (B v).toNat)]⟩, .bool (okV (B v).toNat)]⟩)
    | _ => none
  ok args pre v h hp w := by
    split at h
    · rename_i v
      cases h
      have := entry_of (rparse_ok (B v) w)
      rw [hp] at this; exact this
    · cases h
noncomputable def D3 : Cfg Tryz.prog := { D0 with tab := [eFits, eIs, eBit, eOne, eMask, eRGet, eGet, ePut, ePBit, eRight, eRRight, eSpan, eRSpan, eTable, eRTable, eAllows, eIndex, eRIndex, ePack, eRPack, eParse, eAt, eRAt, eRParse] }
end Go.Proofs.YtkldededdgpmbaaGreat
namespace Go.Proofs.YtkldededdgpmbaaGreat
set_option linter.unusedSimpArgs false
set_option linter.unusedVariables false
set_option maxRecDepth 100000
open Go.RX
noncomputable def M0 : Cfg Tryz.prog := { D3 with share := false, quiet := [31, 114, 103] }
theorem mlen_vc (p : Option Addr) (w : World) (Post : Int → World → Prop) : (rxFn M0 (fun _ => []) 31 [.pointer p] w Post) = (
 brP p.isNone (EnP w fun (w1 : World) => Post 0 w1)
  (p.isSome = true ∧ p.isSome = true ∧ (addP p 0).isSome = true ∧ LdP w none (addP (addP p 0) 0) (El.one Sc.slice) fun (x : Option Addr × Nat × Nat) => EnP w fun (w1 : World) => Post (↑x.snd.fst : Int) w1)) := by kernel_rfl
theorem mat_vc (p : Option Addr) (n c : Nat) (i : Int) (w : World) (Post : Option Addr → World → Prop) : (rxFn M0 (fun _ => []) 114 [.agg ⟨[.slice p n c]⟩, .int .i64 i] w Post) = (
 AlP w { toList := [Value.slice p n c] } 123 fun (b : Nat) (w2 : World) =>
  ((!decide (i < 0)) = true → true = true) ∧
   LdP w2 (some !decide (i < 0)) (addP (some { block := b, off := 0 }) 0) (El.one Sc.slice) fun (x : Option Addr × Nat × Nat) =>
    brP (decide (i < 0) || decide (i ≥ (↑x.snd.fst : Int))) (EnP w2 fun (w1 : World) => Post none w1)
     (true = true ∧ LdP w2 none (addP (some { block := b, off := 0 }) 0) (El.one Sc.slice) fun (x : Option Addr × Nat × Nat) => (x.fst.isSome = true ∧ 0 ≤ i ∧ i < (↑x.snd.fst : Int)) ∧ EnP w2 fun (w1 : World) => Post (addP x.fst (i.toNat * 1)) w1)) := by kernel_rfl
theorem mword_vc (p : Option Addr) (i : Int) (w : World) (Post : Option Addr × Int × Unit → World → Prop) : (rxFn M0 (fun _ => []) 90 [.pointer p, .int .i64 i] w Post) = (
 ∃ (x : Int),
  QCalls Tryz.prog 31 [Value.pointer p] w (Value.int IntKind.i64 x) ∧
   brP (x == 0) (EnP w fun (w1 : World) => Post (none, 10, Unit.unit) w1)
    (p.isSome = true ∧
     p.isSome = true ∧
      LdP w none (addP p 0) (El.agg [Sc.slice]) fun (x : (Option Addr × Nat × Nat) × Unit) =>
       ∃ (x_1 : Option Addr),
        QCalls Tryz.prog 114 [Value.agg { toList := [Value.slice x.fst.fst x.fst.snd.fst x.fst.snd.snd] }, Value.int IntKind.i64 i] w (Value.pointer x_1) ∧
         brP x_1.isNone (EnP w fun (w1 : World) => Post (none, 2, Unit.unit) w1)
          (p.isSome = true ∧
           p.isSome = true ∧
            LdP w none (addP p 1) (El.one (Sc.int IntKind.i64)) fun (x : Int) =>
             p.isSome = true ∧ p.isSome = true ∧ StP w (addP p 1) [Value.int IntKind.i64 (addI IntKind.i64 x 1)] fun (w2 : World) => EnP w2 fun (w1 : World) => Post (x_1, 0, Unit.unit) w1))) := by kernel_rfl
theorem mload_vc (p : Option Addr) (i : Int) (w : World) (Post : Int × Int × Unit → World → Prop) : (rxFn M0 (fun _ => []) 107 [.pointer p, .int .i64 i] w Post) = (
 CaP Tryz.prog 90 (Sh.tup [El.one Sc.ptr, El.one (Sc.int IntKind.i64)]) [Value.pointer p, Value.int IntKind.i64 i] w fun (x : Option Addr × Int × Unit) (w2 : World) =>
  brP (x.snd.fst != 0) (EnP w2 fun (w1 : World) => Post (0, x.snd.fst, Unit.unit) w1) (x.fst.isSome = true ∧ LdP w2 none x.fst (El.one (Sc.int IntKind.u64)) fun (x : Int) => EnP w2 fun (w1 : World) => Post (x, 0, Unit.unit) w1)) := by kernel_rfl
theorem mstore_vc (p : Option Addr) (i v : Int) (w : World) (Post : Int → World → Prop) : (rxFn M0 (fun _ => []) 58 [.pointer p, .int .i64 i, .int .u64 v] w Post) = (
 CaP Tryz.prog 90 (Sh.tup [El.one Sc.ptr, El.one (Sc.int IntKind.i64)]) [Value.pointer p, Value.int IntKind.i64 i] w fun (x : Option Addr × Int × Unit) (w2 : World) =>
  brP (x.snd.fst == 0)
   (x.fst.isSome = true ∧
    StP w2 x.fst [Value.int IntKind.u64 v] fun (w2 : World) =>
     p.isSome = true ∧
      p.isSome = true ∧
       LdP w2 none (addP p 2) (El.one (Sc.int IntKind.i64)) fun (x_1 : Int) => p.isSome = true ∧ p.isSome = true ∧ StP w2 (addP p 2) [Value.int IntKind.i64 (addI IntKind.i64 x_1 1)] fun (w2 : World) => EnP w2 fun (w1 : World) => Post x.snd.fst w1)
   (EnP w2 fun (w1 : World) => Post x.snd.fst w1)) := by kernel_rfl
theorem mnew_vc (n : Int) (w : World) (Post : Option Addr × Int × Unit → World → Prop) : (rxFn M0 (fun _ => []) 34 [.int .i64 n] w Post) = (
 brP (decide (n < 1) || decide (n > 65536)) (EnP w fun (w1 : World) => Post (none, 1, Unit.unit) w1)
  (MkP w 8 1 n n { toList := [Value.int IntKind.u64 0] } 59 fun (b : Nat) (w2 : World) =>
   AlP w2 { toList := [Value.slice (some { block := b, off := 0 }) n.toNat n.toNat, Value.int IntKind.i64 0, Value.int IntKind.i64 0] } 125 fun (b : Nat) (w2 : World) =>
    EnP w2 fun (w1 : World) => Post (some { block := b, off := 0 }, 0, Unit.unit) w1)) := by kernel_rfl
theorem nthere_vc (p : Option Addr) (i : Int) (w : World) (Post : Bool → World → Prop) : (rxFn M0 (fun _ => []) 103 [.pointer p, .int .i64 i] w Post) = (
 (decide (i ≥ 0) = true → p.isSome = true) ∧
  (decide (i ≥ 0) = true → p.isSome = true) ∧ LdP w (some (decide (i ≥ 0))) (addP p 0) (El.one Sc.slice) fun (x : Option Addr × Nat × Nat) => EnP w fun (w1 : World) => Post (decide (i ≥ 0) && decide (i < (↑x.snd.fst : Int))) w1) := by kernel_rfl
theorem nstore_vc (p : Option Addr) (i v : Int) (w : World) (Post : Int → World → Prop) : (rxFn M0 (fun _ => []) 73 [.pointer p, .int .i64 i, .int .u64 v] w Post) = (
 ∃ (x : Bool),
  QCalls Tryz.prog 103 [Value.pointer p, Value.int IntKind.i64 i] w (Value.bool x) ∧
   brP (!x) (EnP w fun (w1 : World) => Post 2 w1)
    (p.isSome = true ∧
     p.isSome = true ∧
      LdP w none (addP p 1) (El.one (Sc.int IntKind.i64)) fun (x : Int) =>
       p.isSome = true ∧
        p.isSome = true ∧
         StP w (addP p 1) [Value.int IntKind.i64 (addI IntKind.i64 x 1)] fun (w2 : World) =>
          p.isSome = true ∧
           p.isSome = true ∧
            LdP w2 none (addP p 2) (El.one (Sc.int IntKind.i64)) fun (x : Int) =>
             p.isSome = true ∧
              p.isSome = true ∧
               StP w2 (addP p 2) [Value.int IntKind.i64 (addI IntKind.i64 x 1)] fun (w2 : World) =>
                p.isSome = true ∧
                 p.isSome = true ∧
                  LdP w2 none (addP p 0) (El.one Sc.slice) fun (x : Option Addr × Nat × Nat) =>
                   (x.fst.isSome = true ∧ 0 ≤ i ∧ i < (↑x.snd.fst : Int)) ∧ StP w2 (addP x.fst (i.toNat * 1)) [Value.int IntKind.u64 v] fun (w2 : World) => EnP w2 fun (w1 : World) => Post 0 w1)) := by kernel_rfl
theorem nnew_vc (n : Int) (w : World) (Post : Option Addr × Int × Unit → World → Prop) : (rxFn M0 (fun _ => []) 36 [.int .i64 n] w Post) = (
 brP (decide (n < 1) || decide (n > 65536))
  (AlP w { toList := [Value.slice none 0 0, Value.int IntKind.i64 0, Value.int IntKind.i64 0] } 84 fun (b : Nat) (w2 : World) => EnP w2 fun (w1 : World) => Post (some { block := b, off := 0 }, 1, Unit.unit) w1)
  (MkP w 8 1 n n { toList := [Value.int IntKind.u64 0] } 59 fun (b : Nat) (w2 : World) =>
   AlP w2 { toList := [Value.slice (some { block := b, off := 0 }) n.toNat n.toNat, Value.int IntKind.i64 0, Value.int IntKind.i64 0] } 84 fun (b : Nat) (w2 : World) => EnP w2 fun (w1 : World) => Post (some { block := b, off := 0 }, 0, Unit.unit) w1)) := by kernel_rfl
end Go.Proofs.YtkldededdgpmbaaGreat
namespace Go.Proofs.YtkldededdgpmbaaGreat
set_option linter.unusedSimpArgs false
set_option linter.unusedVariables false
set_option maxRecDepth 100000
open Go.RX
abbrev eW : El := .one (.int .u64)
/-- Words, how many calls there were, how many were laid. -/
abbrev mcs (bw n c : Nat) (ca la : Int) : List Value := [.slice (some ⟨bw, 0, none⟩) n c, .int .i64 ca, .int .i64 la]
def inM (ws : List Int) (i : Int) : Bool := decide (0 ≤ i) && decide (i < ws.length)
def ldV (ws : List Int) (i : Int) : Int := if inM ws i then ws.getD i.toNat 0 else 0
def ldE (ws : List Int) (i : Int) : Int := if inM ws i then 0 else 2
def upM (ws : List Int) (i x : Int) : Int := if inM ws i then addI .i64 x 1 else x
def stL (ws : List Int) (i v : Int) : List Int := if inM ws i then ws.set i.toNat v else ws
theorem inM_iff {ws : List Int} {i : Int} : inM ws i = true ↔ 0 ≤ i ∧ i < ws.length := by unfold inM; simp
theorem stL_len (ws : List Int) (i v : Int) : (stL ws i v).length = ws.length := by unfold stL; split <;> simp
theorem flatW : ∀ ws : List Int, flat eW ws = ws.map (Value.int .u64)
  | [] => rfl
  | a :: l => by
    show [Value.int .u64 a] ++ flat eW l = _
    rw [flatW l]; rfl
section
variable {D G : List Nat} {w0 w : World} {L : List (Nat × List Value)} {bm bw n c : Nat} {ca la : Int} {ws : List Int} {rest : List Value}
theorem w_el {i : Nat} (hi : i < ws.length) : elAt (flat eW ws ++ rest) (0 + i * 1) eW = some (ws.getD i 0) := by
  have : (flat eW ws ++ rest)[0 + i * 1]? = some (.int .u64 (ws.getD i 0)) := by
    have hl : (flat eW ws).length = ws.length * 1 := flat_length eW ws
    rw [Nat.zero_add, Nat.mul_one, List.getElem?_append_left (by omega)]
    have e := flatW ws
    rw [e, List.getElem?_map, List.getElem?_eq_getElem hi, List.getD_eq_getElem?_getD, List.getElem?_eq_getElem hi]; rfl
  show (match (flat eW ws ++ rest)[0 + i * 1]? with | some v => (Sc.int .u64).proj v | none => none) = _
  rw [this]; rfl
theorem mlen_ok (h : Blk w bm (mcs bw n c ca la)) : CallsR Tryz.prog 31 (.el (.one (.int .i64))) [.pointer (some ⟨bm, 0, none⟩)] w (fun x w' => x = (n : Int) ∧ Ext w w') := by
  refine rxFn_ok (C := M0) (ann := fun _ => []) (Eq.mpr (mlen_vc _ w _) ?_)
  refine brP_neg rfl ⟨rfl, rfl, rfl, LdP.of (some ⟨bw, 0, none⟩, n, c) (by rw [addP_B, addP_B]; exact h.rd1 rfl) fun w1 h1 => ⟨rfl, h1⟩⟩
theorem mat_ok (p : Option Addr) (hp : n ≠ 0 → p.isSome = true) (i : Int) (w : World) : CallsR Tryz.prog 114 (.el (.one .ptr)) [.agg ⟨[.slice p n c]⟩, .int .i64 i] w (fun x w' => x = (if 0 ≤ i ∧ i < n then addP p i.toNat else none) ∧ Ext w w') := by
  refine rxFn_ok (C := M0) (ann := fun _ => []) (Eq.mpr (mat_vc p n c i w _) ?_)
  have H := At.start [] w
  refine AlP.go H fun b w2 H => ⟨fun _ => rfl, LdP.atA 0 H rfl rfl (brP_intro (fun c1 => EnP.go H fun w3 H => ⟨?_, H.all⟩) (fun c1 => ⟨rfl, LdP.atA 0 H rfl rfl ?_⟩))⟩
  · have : ¬ (0 ≤ i ∧ i < n) := by simp at c1; omega
    rw [if_neg this]
  · have hi : 0 ≤ i ∧ i < n := by simp at c1; omega
    refine ⟨⟨hp (by omega), by omega, by show i < ((n : Nat) : Int); omega⟩, EnP.go H fun w3 H => ⟨?_, H.all⟩⟩
    rw [if_pos hi, Nat.mul_one]
theorem mword_at (H : AtD D G w0 w L) (j : Nat) (hm : L[j]? = some (bm, mcs bw n c ca la)) (hn : n = ws.length) (h0 : 0 < n) (i : Int) {K : Option Addr × Int × Unit → World → Prop}
    (k1 : inM ws i = true → ∀ w2, AtD D G w0 w2 (L.set j (bm, mcs bw n c (addI .i64 ca 1) la)) → K (addP (some ⟨bw, 0, none⟩) i.toNat, 0, ()) w2) (k2 : inM ws i = false → ∀ w2, AtD D G w0 w2 L → K (none, 2, ()) w2) :
    CaP Tryz.prog 90 (.tup [.one .ptr, .one (.int .i64)]) [.pointer (some ⟨bm, 0, none⟩), .int .i64 i] w K := by
  refine CaP.go H fun w1 H => rxFn_ok (C := M0) (ann := fun _ => []) (Eq.mpr (mword_vc _ i w1 K) ?_)
  refine ⟨_, QCalls.of (s := .el (.one (.int .i64))) fun w' h' => mlen_ok ((H.get hm).ext h'), brP_neg (by simp; omega) ⟨rfl, rfl, LdP.atA j H hm rfl ⟨_, QCalls.of (s := .el (.one .ptr)) fun w' h' => mat_ok (some ⟨bw, 0, none⟩) (fun _ => rfl) i w', ?_⟩⟩⟩
  subst hn
  cases hi : inM ws i with
  | true =>
    have hi' := inM_iff.1 hi
    rw [if_pos hi']
    refine brP_neg rfl ⟨rfl, rfl, LdP.atA j H hm rfl ⟨rfl, rfl, StP.oneA j H hm rfl rfl fun w2 H => EnP.go H fun w3 H => k1 hi w3 H⟩⟩
  | false =>
    have hi' : ¬ (0 ≤ i ∧ i < (ws.length : Int)) := fun h => by rw [inM_iff.2 h] at hi; cases hi
    rw [if_neg hi']
    exact brP_pos rfl (EnP.go H fun w2 H => k2 hi w2 H)
theorem mload_at (H : AtD D G w0 w L) (j jw : Nat) (hm : L[j]? = some (bm, mcs bw n c ca la)) (hw : L[jw]? = some (bw, flat eW ws ++ rest)) (hj : j ≠ jw) (hn : n = ws.length) (h0 : 0 < n) (i : Int) {K : Int × Int × Unit → World → Prop}
    (k : ∀ w2, AtD D G w0 w2 (L.set j (bm, mcs bw n c (upM ws i ca) la)) → K (ldV ws i, ldE ws i, ()) w2) :
    CaP Tryz.prog 107 (.tup [.one (.int .u64), .one (.int .i64)]) [.pointer (some ⟨bm, 0, none⟩), .int .i64 i] w K := by
  refine CaP.go H fun w1 H => rxFn_ok (C := M0) (ann := fun _ => []) (Eq.mpr (mload_vc _ i w1 K) ?_)
  refine mword_at H j hm hn h0 i (fun hi w2 H => ?_) (fun hi w2 H => ?_)
  · unfold upM ldV ldE at k
    rw [hi, if_pos rfl, if_pos rfl, if_pos rfl] at k
    have hw2 : (L.set j (bm, mcs bw n c (addI .i64 ca 1) la))[jw]? = some (bw, flat eW ws ++ rest) := by rw [List.getElem?_set_ne hj]; exact hw
    have hi' := inM_iff.1 hi
    refine brP_neg rfl ⟨rfl, ?_⟩
    rw [addP_B]
    have e := w_el (ws := ws) (rest := rest) (i := i.toNat) (by omega)
    rw [Nat.mul_one] at e
    exact LdP.at jw H hw2 e (EnP.go H fun w3 H => k w3 H)
  · unfold upM ldV ldE at k
    rw [hi, if_neg (by decide), if_neg (by decide), if_neg (by decide)] at k
    refine brP_pos rfl (EnP.go H fun w3 H => k w3 ?_)
    rw [show L.set j (bm, mcs bw n c ca la) = L from List.ext_getElem? fun m => by
      by_cases e : j = m
      · subst e; rw [List.getElem?_set_self (List.getElem?_eq_some_iff.1 hm).1, hm]
      · rw [List.getElem?_set_ne e]]
    exact H
theorem set_w {i : Nat} (hi : i < ws.length) (v : Int) : (flat eW ws ++ rest).set i (.int .u64 v) = flat eW (ws.set i v) ++ rest := by
  have h := flat_set eW ws i v rest hi
  have e1 : (cellsOf eW v) = [Value.int .u64 v] := rfl
  have e2 : stride eW = 1 := rfl
  rw [e1, e2, Nat.mul_one] at h
  rw [← h]
  have hl : (flat eW ws).length = ws.length * 1 := flat_length eW ws
  rw [List.set_eq_take_append_cons_drop, if_pos (by rw [List.length_append]; omega)]
  rfl
theorem mstore_at (H : AtD D G w0 w L) (j jw : Nat) (hm : L[j]? = some (bm, mcs bw n c ca la)) (hw : L[jw]? = some (bw, flat eW ws ++ rest)) (hj : j ≠ jw) (hn : n = ws.length) (h0 : 0 < n) (i v : Int) {K : Int → World → Prop}
    (k : ∀ w2, AtD D G w0 w2 ((L.set j (bm, mcs bw n c (upM ws i ca) (upM ws i la))).set jw (bw, flat eW (stL ws i v) ++ rest)) → K (ldE ws i) w2) :
    CaP Tryz.prog 58 (.el (.one (.int .i64))) [.pointer (some ⟨bm, 0, none⟩), .int .i64 i, .int .u64 v] w K := by
  refine CaP.go H fun w1 H => rxFn_ok (C := M0) (ann := fun _ => []) (Eq.mpr (mstore_vc _ i v w1 K) ?_)
  have hjl : j < L.length := (List.getElem?_eq_some_iff.1 hm).1
  have hjwl : jw < L.length := (List.getElem?_eq_some_iff.1 hw).1
  refine mword_at H j hm hn h0 i (fun hi w2 H => ?_) (fun hi w2 H => ?_)
  · unfold upM stL ldE at k
    rw [hi, if_pos rfl, if_pos rfl, if_pos rfl, if_pos rfl] at k
    have hw2 : (L.set j (bm, mcs bw n c (addI .i64 ca 1) la))[jw]? = some (bw, flat eW ws ++ rest) := by rw [List.getElem?_set_ne hj]; exact hw
    have hi' := inM_iff.1 hi
    have hlt : i.toNat < ws.length := by omega
    have hl : (flat eW ws).length = ws.length * 1 := flat_length eW ws
    refine brP_pos rfl ⟨rfl, StP.oneA jw H hw2 rfl (by rw [Nat.blt_eq, List.length_append]; omega) fun w3 H => ?_⟩
    rw [Nat.zero_add, set_w hlt] at H
    have hm3 : ((L.set j (bm, mcs bw n c (addI .i64 ca 1) la)).set jw (bw, flat eW (ws.set i.toNat v) ++ rest))[j]? = some (bm, mcs bw n c (addI .i64 ca 1) la) := by
      rw [List.getElem?_set_ne (fun e => hj e.symm), List.getElem?_set_self hjl]
    refine ⟨rfl, rfl, LdP.atA j H hm3 rfl ⟨rfl, rfl, StP.oneA j H hm3 rfl rfl fun w4 H => EnP.go H fun w5 H => k w5 ?_⟩⟩
    rw [List.set_comm _ _ hj, List.set_set] at H
    rw [List.set_comm _ _ hj]
    exact H
  · unfold upM stL ldE at k
    rw [hi, if_neg (by decide), if_neg (by decide), if_neg (by decide), if_neg (by decide)] at k
    refine brP_neg rfl (EnP.go H fun w3 H => k w3 ?_)
    have s1 : ∀ {m : Nat} {x : Nat × List Value}, L[m]? = some x → L.set m x = L := fun {m x} h => List.ext_getElem? fun q => by
      by_cases e : m = q
      · subst e; rw [List.getElem?_set_self (List.getElem?_eq_some_iff.1 h).1, h]
      · rw [List.getElem?_set_ne e]
    rw [s1 hm, s1 hw]; exact H
theorem mnew_at (H : AtD D G w0 w L) (hn : 1 ≤ n ∧ n ≤ 65536) {K : Option Addr × Int × Unit → World → Prop}
    (k : ∀ bm bw w1, AtD D G w0 w1 ((bm, mcs bw n n 0 0) :: (bw, flat eW (List.replicate n 0) ++ []) :: L) → K (some ⟨bm, 0, none⟩, 0, ()) w1) :
    CaP Tryz.prog 34 (.tup [.one .ptr, .one (.int .i64)]) [.int .i64 (n : Int)] w K := by
  refine CaP.go H fun w1 H => rxFn_ok (C := M0) (ann := fun _ => []) (Eq.mpr (mnew_vc _ w1 K) ?_)
  refine brP_neg (by rw [decide_eq_false (by omega), decide_eq_false (by omega)]; rfl) (MkP.go H rfl (by omega) (by omega) (by omega) (by omega) fun bw w2 H => AlP.go H fun bm w3 H => EnP.go H fun w4 H => k bm bw w4 ?_)
  rw [flat_replicate, List.append_nil]
  exact H
theorem nnew_at (H : AtD D G w0 w L) (hn : 1 ≤ n ∧ n ≤ 65536) {K : Option Addr × Int × Unit → World → Prop}
    (k : ∀ bm bw w1, AtD D G w0 w1 ((bm, mcs bw n n 0 0) :: (bw, flat eW (List.replicate n 0) ++ []) :: L) → K (some ⟨bm, 0, none⟩, 0, ()) w1) :
    CaP Tryz.prog 36 (.tup [.one .ptr, .one (.int .i64)]) [.int .i64 (n : Int)] w K := by
  refine CaP.go H fun w1 H => rxFn_ok (C := M0) (ann := fun _ => []) (Eq.mpr (nnew_vc _ w1 K) ?_)
  refine brP_neg (by rw [decide_eq_false (by omega), decide_eq_false (by omega)]; rfl) (MkP.go H rfl (by omega) (by omega) (by omega) (by omega) fun bw w2 H => AlP.go H fun bm w3 H => EnP.go H fun w4 H => k bm bw w4 ?_)
  rw [flat_replicate, List.append_nil]
  exact H
theorem nthere_q (H : AtD D G w0 w L) (j : Nat) (hm : L[j]? = some (bm, mcs bw n c ca la)) (hn : n = ws.length) (i : Int) : QCalls Tryz.prog 103 [.pointer (some ⟨bm, 0, none⟩), .int .i64 i] w (.bool (inM ws i)) :=
  QCalls.of (s := .el (.one .bool)) fun w' h' => by
    refine rxFn_ok (C := M0) (ann := fun _ => []) (Eq.mpr (nthere_vc _ i w' _) ?_)
    have h := (H.get hm).ext h'
    refine ⟨fun _ => rfl, fun _ => rfl, LdP.of (some ⟨bw, 0, none⟩, n, c) (by rw [addP_B]; exact h.rd1 rfl) fun w1 h1 => ⟨?_, h1⟩⟩
    unfold inM; rw [hn]
theorem nstore_at (H : AtD D G w0 w L) (j jw : Nat) (hm : L[j]? = some (bm, mcs bw n c ca la)) (hw : L[jw]? = some (bw, flat eW ws ++ rest)) (hj : j ≠ jw) (hn : n = ws.length) (i v : Int) {K : Int → World → Prop}
    (k : ∀ w2, AtD D G w0 w2 ((L.set j (bm, mcs bw n c (upM ws i ca) (upM ws i la))).set jw (bw, flat eW (stL ws i v) ++ rest)) → K (ldE ws i) w2) :
    CaP Tryz.prog 73 (.el (.one (.int .i64))) [.pointer (some ⟨bm, 0, none⟩), .int .i64 i, .int .u64 v] w K := by
  refine CaP.go H fun w1 H => rxFn_ok (C := M0) (ann := fun _ => []) (Eq.mpr (nstore_vc _ i v w1 K) ?_)
  have hjl : j < L.length := (List.getElem?_eq_some_iff.1 hm).1
  refine ⟨_, nthere_q H j hm hn i, ?_⟩
  unfold upM stL ldE at k
  cases hi : inM ws i with
  | true =>
    rw [hi, if_pos rfl, if_pos rfl, if_pos rfl, if_pos rfl] at k
    have hi' := inM_iff.1 hi
    refine brP_neg rfl ⟨rfl, rfl, LdP.atA j H hm rfl ⟨rfl, rfl, StP.oneA j H hm rfl rfl fun w2 H => ?_⟩⟩
    have H : AtD D G w0 w2 (L.set j (bm, mcs bw n c (addI .i64 ca 1) la)) := H
    have hm2 : (L.set j (bm, mcs bw n c (addI .i64 ca 1) la))[j]? = some (bm, mcs bw n c (addI .i64 ca 1) la) := List.getElem?_set_self hjl
    refine ⟨rfl, rfl, LdP.atA j H hm2 rfl ⟨rfl, rfl, StP.oneA j H hm2 rfl rfl fun w3 H => ?_⟩⟩
    rw [List.set_set] at H
    have H : AtD D G w0 w3 (L.set j (bm, mcs bw n c (addI .i64 ca 1) (addI .i64 la 1))) := H
    have hm3 : (L.set j (bm, mcs bw n c (addI .i64 ca 1) (addI .i64 la 1)))[j]? = some (bm, mcs bw n c (addI .i64 ca 1) (addI .i64 la 1)) := List.getElem?_set_self hjl
    have hw3 : (L.set j (bm, mcs bw n c (addI .i64 ca 1) (addI .i64 la 1)))[jw]? = some (bw, flat eW ws ++ rest) := by rw [List.getElem?_set_ne hj]; exact hw
    have hl : (flat eW ws).length = ws.length * 1 := flat_length eW ws
    refine ⟨rfl, rfl, LdP.atA j H hm3 rfl ⟨⟨rfl, by omega, by show i < ((n : Nat) : Int); omega⟩, StP.oneA jw H hw3 rfl (by rw [Nat.blt_eq, List.length_append]; omega) fun w4 H => EnP.go H fun w5 H => k w5 ?_⟩⟩
    rw [Nat.zero_add, Nat.mul_one, set_w (by omega)] at H
    exact H
  | false =>
    rw [hi, if_neg (by decide), if_neg (by decide), if_neg (by decide), if_neg (by decide)] at k
    refine brP_pos rfl (EnP.go H fun w3 H => k w3 ?_)
    have s1 : ∀ {m : Nat} {x : Nat × List Value}, L[m]? = some x → L.set m x = L := fun {m x} h => List.ext_getElem? fun q => by
      by_cases e : m = q
      · subst e; rw [List.getElem?_set_self (List.getElem?_eq_some_iff.1 h).1, h]
      · rw [List.getElem?_set_ne e]
    rw [s1 hm, s1 hw]; exact H
end
end Go.Proofs.YtkldededdgpmbaaGreat
namespace Go.Proofs.YtkldededdgpmbaaGreat
set_option linter.unusedSimpArgs false
set_option linter.unusedVariables false
set_option maxRecDepth 100000
open Go.RX
abbrev sR : List Sc := [.int .u64, .bool, .int .i64]
abbrev RT : Type := Int × Bool × Int × Unit
abbrev sA : List Sc := [.int .i64, .int .i64, .int .u64, .int .u64]
abbrev sF : List Sc := [.int .i64, .int .i64, .int .i64, .int .i64]
noncomputable def M1 : Cfg Tryz.prog := { M0 with quiet := [92] }
noncomputable def M2 : Cfg Tryz.prog := { M1 with dyn := some (.el (.agg sR)) }
noncomputable def M3 : Cfg Tryz.prog := { M1 with dyn := some (.tup []) }
theorem dload_vc (k i a b : Int) (m : Option Addr) (w : World) (Post : RT → World → Prop) : (rxFnR M1 (fun _ => []) 115 [.agg ⟨[.int .i64 k, .int .i64 i, .int .u64 a, .int .u64 b]⟩, .pointer m] w Post) = (
 AlP w { toList := [Value.int IntKind.i64 k, Value.int IntKind.i64 i, Value.int IntKind.u64 a, Value.int IntKind.u64 b] } 180 fun (b : Nat) (w2 : World) =>
  AlP w2 { toList := [Value.int IntKind.u64 0, Value.bool false, Value.int IntKind.i64 0] } 152 fun (b_1 : Nat) (w2 : World) =>
   true = true ∧
    LdP w2 none (addP (some { block := b, off := 0 }) 1) (El.one (Sc.int IntKind.i64)) fun (x : Int) =>
     CaP Tryz.prog 107 (Sh.tup [El.one (Sc.int IntKind.u64), El.one (Sc.int IntKind.i64)]) [Value.pointer m, Value.int IntKind.i64 x] w2 fun (x : Int × Int × Unit) (w2 : World) =>
      StP w2 (some { block := b_1, off := 0 }) [Value.int IntKind.u64 x.fst, Value.bool false, Value.int IntKind.i64 x.snd.fst] fun (w2 : World) =>
       EnP w2 fun (w1 : World) => LdP w1 none (some { block := b_1, off := 0 }) (El.agg [Sc.int IntKind.u64, Sc.bool, Sc.int IntKind.i64]) fun (x : Int × Bool × Int × Unit) => Post (x.fst, x.snd.fst, x.snd.snd.fst, Unit.unit) w1) := by kernel_rfl
theorem do_vc (m : Option Addr) (k i a b : Int) (w : World) (Post : RT → World → Prop) : (rxFnR M2 (fun _ => []) 91 [.pointer m, .agg ⟨[.int .i64 k, .int .i64 i, .int .u64 a, .int .u64 b]⟩] w Post) = (
 AlP w { toList := [Value.int IntKind.i64 k, Value.int IntKind.i64 i, Value.int IntKind.u64 a, Value.int IntKind.u64 b] } 155 fun (b : Nat) (w2 : World) =>
  AlP w2 { toList := [Value.int IntKind.u64 0, Value.bool false, Value.int IntKind.i64 0] } 152 fun (b_1 : Nat) (w2 : World) =>
   ∀ (w1 : World),
    Ext w2 w1 →
     ∀ (w1_1 : World),
      Ext (w1.alloc (Obj.map { toList := [] } 0)) w1_1 →
       ∃ (r : Nat),
        ∃ (es : Array MapEntry),
         ∃ (clock : Nat),
          some w1.heap.size = some r ∧
           MapO w1_1 r es clock ∧
            mUp w1_1 r IntKind.i64 1 (Value.func (Fn.func 115) { toList := [] } { toList := [] }) es clock fun (w2 : World) =>
             ∀ (w1_2 : World),
              Ext w2 w1_2 →
               ∃ (r : Nat),
                ∃ (es : Array MapEntry),
                 ∃ (clock : Nat),
                  some w1.heap.size = some r ∧
                   MapO w1_2 r es clock ∧
                    mUp w1_2 r IntKind.i64 2 (Value.func (Fn.func 116) { toList := [] } { toList := [] }) es clock fun (w2 : World) =>
                     ∀ (w1_3 : World),
                      Ext w2 w1_3 →
                       ∃ (r : Nat),
                        ∃ (es : Array MapEntry),
                         ∃ (clock : Nat),
                          some w1.heap.size = some r ∧
                           MapO w1_3 r es clock ∧
                            mUp w1_3 r IntKind.i64 3 (Value.func (Fn.func 117) { toList := [] } { toList := [] }) es clock fun (w2 : World) =>
                             ∀ (w1_4 : World),
                              Ext w2 w1_4 →
                               ∃ (r : Nat),
                                ∃ (es : Array MapEntry),
                                 ∃ (clock : Nat),
                                  some w1.heap.size = some r ∧
                                   MapO w1_4 r es clock ∧
                                    mUp w1_4 r IntKind.i64 4 (Value.func (Fn.func 118) { toList := [] } { toList := [] }) es clock fun (w2 : World) =>
                                     true = true ∧
                                      LdP w2 none (addP (some { block := b, off := 0 }) 0) (El.one (Sc.int IntKind.i64)) fun (x : Int) =>
                                       ∃ (x_1 : Value),
                                        ∃ (b_2 : Bool),
                                         lookO2 w2 (some w1.heap.size) IntKind.i64 x Value.nilFunc x_1 b_2 ∧
                                          brP (!b_2)
                                           (StP w2 (some { block := b_1, off := 0 }) [Value.int IntKind.u64 0, Value.bool false, Value.int IntKind.i64 1] fun (w2 : World) =>
                                            EnP w2 fun (w1 : World) =>
                                             LdP w1 none (some { block := b_1, off := 0 }) (El.agg [Sc.int IntKind.u64, Sc.bool, Sc.int IntKind.i64]) fun (x : Int × Bool × Int × Unit) => Post (x.fst, x.snd.fst, x.snd.snd.fst, Unit.unit) w1)
                                           (LdP w2 none (some { block := b, off := 0 }) (El.agg [Sc.int IntKind.i64, Sc.int IntKind.i64, Sc.int IntKind.u64, Sc.int IntKind.u64]) fun (x : Int × Int × Int × Int × Unit) =>
                                            CaV Tryz.prog x_1 (Sh.el (El.agg [Sc.int IntKind.u64, Sc.bool, Sc.int IntKind.i64]))
                                             [Value.agg { toList := [Value.int IntKind.i64 x.fst, Value.int IntKind.i64 x.snd.fst, Value.int IntKind.u64 x.snd.snd.fst, Value.int IntKind.u64 x.snd.snd.snd.fst] }, Value.pointer m] w2
                                             fun (x : Int × Bool × Int × Unit) (w2 : World) =>
                                             StP w2 (some { block := b_1, off := 0 }) [Value.int IntKind.u64 x.fst, Value.bool x.snd.fst, Value.int IntKind.i64 x.snd.snd.fst] fun (w2 : World) =>
                                              EnP w2 fun (w1 : World) =>
                                               LdP w1 none (some { block := b_1, off := 0 }) (El.agg [Sc.int IntKind.u64, Sc.bool, Sc.int IntKind.i64]) fun (x : Int × Bool × Int × Unit) => Post (x.fst, x.snd.fst, x.snd.snd.fst, Unit.unit) w1)) := by kernel_rfl
theorem wnew_vc (f p t : Int) (w : World) (Post : Option Addr → World → Prop) : (rxFn M1 (fun _ => []) 61 [.int .i64 f, .int .i64 p, .int .i64 t] w Post) = (
 AlP w
  {
   toList :=
    [Value.int IntKind.i64 f, Value.int IntKind.i64 p, Value.int IntKind.i64 t, Value.int IntKind.i64 3, Value.int IntKind.i64 0, Value.int IntKind.i64 0, Value.int IntKind.i64 0, Value.int IntKind.i64 0, Value.slice none 0 0, Value.bool true] }
  121 fun (b : Nat) (w2 : World) => True ∧ brP (decide (atI f p (3 : Int) < 0) || decide (t < 0) || decide (t > 7)) (EnP w2 fun (w1 : World) => Post none w1) (EnP w2 fun (w1 : World) => Post (some { block := b, off := 0 }) w1)) := by kernel_rfl
theorem wnext_vc (p : Option Addr) (w : World) (Post : (Int × Int × Int × Int × Unit) → World → Prop) : (rxFnR M1 (fun _ => []) 92 [.pointer p] w Post) = (
 AlP w { toList := [Value.int IntKind.i64 0, Value.int IntKind.i64 0, Value.int IntKind.u64 0, Value.int IntKind.u64 0] } 155 fun (b : Nat) (w2 : World) =>
  ((!p.isNone) = true → p.isSome = true) ∧
   ((!p.isNone) = true → p.isSome = true) ∧
    LdP w2 (some !p.isNone) (addP p 9) (El.one Sc.bool) fun (x : Bool) =>
     ((!(p.isNone || !x)) = true → p.isSome = true) ∧
      ((!(p.isNone || !x)) = true → p.isSome = true) ∧
       LdP w2 (some !(p.isNone || !x)) (addP p 3) (El.one (Sc.int IntKind.i64)) fun (x_1 : Int) =>
        brP (p.isNone || !x || x_1 == -1)
         (StP w2 (some { block := b, off := 0 }) [Value.int IntKind.i64 0, Value.int IntKind.i64 0, Value.int IntKind.u64 0, Value.int IntKind.u64 0] fun (w2 : World) =>
          EnP w2 fun (w1 : World) =>
           LdP w1 none (some { block := b, off := 0 }) (El.agg [Sc.int IntKind.i64, Sc.int IntKind.i64, Sc.int IntKind.u64, Sc.int IntKind.u64]) fun (x : Int × Int × Int × Int × Unit) =>
            Post (x.fst, x.snd.fst, x.snd.snd.fst, x.snd.snd.snd.fst, Unit.unit) w1)
         (p.isSome = true ∧
          p.isSome = true ∧
           LdP w2 none (addP p 0) (El.one (Sc.int IntKind.i64)) fun (x : Int) =>
            p.isSome = true ∧
             p.isSome = true ∧
              LdP w2 none (addP p 1) (El.one (Sc.int IntKind.i64)) fun (x_2 : Int) =>
               p.isSome = true ∧
                p.isSome = true ∧
                 LdP w2 none (addP p 3) (El.one (Sc.int IntKind.i64)) fun (x_3 : Int) =>
                  True ∧
                   StP w2 (some { block := b, off := 0 }) [Value.int IntKind.i64 1, Value.int IntKind.i64 (atI x x_2 x_3), Value.int IntKind.u64 0, Value.int IntKind.u64 0] fun (w2 : World) =>
                    EnP w2 fun (w1 : World) =>
                     LdP w1 none (some { block := b, off := 0 }) (El.agg [Sc.int IntKind.i64, Sc.int IntKind.i64, Sc.int IntKind.u64, Sc.int IntKind.u64]) fun (x : Int × Int × Int × Int × Unit) =>
                      Post (x.fst, x.snd.fst, x.snd.snd.fst, x.snd.snd.snd.fst, Unit.unit) w1)) := by kernel_rfl
theorem wend_vc (p : Option Addr) (a b c d : Int) (w : World) (Post : Unit → World → Prop) : (rxFn M1 (fun _ => []) 94 [.pointer p, .agg ⟨[.int .i64 a, .int .i64 b, .int .i64 c, .int .i64 d]⟩] w Post) = (
 AlP w { toList := [Value.int IntKind.i64 a, Value.int IntKind.i64 b, Value.int IntKind.i64 c, Value.int IntKind.i64 d] } 54 fun (b : Nat) (w2 : World) =>
  p.isSome = true ∧
   p.isSome = true ∧
    LdP w2 none (addP p 3) (El.one (Sc.int IntKind.i64)) fun (x : Int) =>
     true = true ∧
      StP w2 (addP (some { block := b, off := 0 }) 2) [Value.int IntKind.i64 x] fun (w2 : World) =>
       LdP w2 none (some { block := b, off := 0 }) (El.agg [Sc.int IntKind.i64, Sc.int IntKind.i64, Sc.int IntKind.i64, Sc.int IntKind.i64]) fun (x : Int × Int × Int × Int × Unit) =>
        p.isSome = true ∧
         p.isSome = true ∧
          StP w2 (addP p 4) [Value.int IntKind.i64 x.fst, Value.int IntKind.i64 x.snd.fst, Value.int IntKind.i64 x.snd.snd.fst, Value.int IntKind.i64 x.snd.snd.snd.fst] fun (w2 : World) =>
           p.isSome = true ∧ p.isSome = true ∧ StP w2 (addP p 3) [Value.int IntKind.i64 (-1)] fun (w2 : World) => EnP w2 fun (w1 : World) => Post Unit.unit w1) := by kernel_rfl
theorem win_vc (p : Option Addr) (fr : Int) (ep : Bool) (er : Int) (el : Bool) (ef : Int) (w : World) (Post : Unit → World → Prop) : (rxFn M1 (fun _ => []) 123 [.pointer p, .int .i64 fr, .agg ⟨[.bool ep, .int .i64 er, .bool el, .int .i64 ef]⟩] w Post) = (
 AlP w { toList := [Value.bool ep, Value.int IntKind.i64 er, Value.bool el, Value.int IntKind.i64 ef] } 93 fun (b : Nat) (w2 : World) =>
  brP (decide (fr ≥ 4096))
   (CaP Tryz.prog 94 (Sh.tup []) [Value.pointer p, Value.agg { toList := [Value.int IntKind.i64 0, Value.int IntKind.i64 0, Value.int IntKind.i64 0, Value.int IntKind.i64 11] }] w2 fun (x : Unit) (w2 : World) =>
    EnP w2 fun (w1 : World) => Post Unit.unit w1)
   (LdP w2 none (some { block := b, off := 0 }) (El.agg [Sc.bool, Sc.int IntKind.i64, Sc.bool, Sc.int IntKind.i64]) fun (x : Bool × Int × Bool × Int × Unit) =>
    p.isSome = true ∧
     p.isSome = true ∧
      LdP w2 none (addP p 2) (El.one (Sc.int IntKind.i64)) fun (x_1 : Int) =>
       True ∧
        brP (!allowsE x.fst x.snd.fst x.snd.snd.fst x.snd.snd.snd.fst x_1)
         (true = true ∧
          LdP w2 none (addP (some { block := b, off := 0 }) 1) (El.one (Sc.int IntKind.i64)) fun (x : Int) =>
           CaP Tryz.prog 94 (Sh.tup []) [Value.pointer p, Value.agg { toList := [Value.int IntKind.i64 fr, Value.int IntKind.i64 x, Value.int IntKind.i64 0, Value.int IntKind.i64 7] }] w2 fun (x : Unit) (w2 : World) =>
            EnP w2 fun (w1 : World) => Post Unit.unit w1)
         (true = true ∧
          LdP w2 none (addP (some { block := b, off := 0 }) 1) (El.one (Sc.int IntKind.i64)) fun (x : Int) =>
           CaP Tryz.prog 94 (Sh.tup []) [Value.pointer p, Value.agg { toList := [Value.int IntKind.i64 fr, Value.int IntKind.i64 x, Value.int IntKind.i64 0, Value.int IntKind.i64 0] }] w2 fun (x : Unit) (w2 : World) =>
            EnP w2 fun (w1 : World) => Post Unit.unit w1))) := by kernel_rfl
theorem took1_vc (pw : Option Addr) (w : World) (Post : Unit → World → Prop) : (rxFn M1 (fun _ => []) 120 [.pointer pw] w Post) = (
 LdP w none pw (El.one Sc.ptr) fun (x : Option Addr) =>
  CaP Tryz.prog 94 (Sh.tup []) [Value.pointer x, Value.agg { toList := [Value.int IntKind.i64 0, Value.int IntKind.i64 0, Value.int IntKind.i64 0, Value.int IntKind.i64 4] }] w fun (x : Unit) (w2 : World) =>
   EnP w2 fun (w1 : World) => Post Unit.unit w1) := by kernel_rfl
theorem took2_vc (pe pw : Option Addr) (w : World) (Post : Unit → World → Prop) : (rxFn M1 (fun _ => []) 121 [.pointer pe, .pointer pw] w Post) = (
 LdP w none pw (El.one Sc.ptr) fun (x : Option Addr) =>
  LdP w none pw (El.one Sc.ptr) fun (x_1 : Option Addr) =>
   pe.isSome = true ∧
    LdP w none (addP pe 3) (El.one (Sc.int IntKind.i64)) fun (x_2 : Int) =>
     LdP w none pw (El.one Sc.ptr) fun (x_3 : Option Addr) =>
      x_3.isSome = true ∧
       x_3.isSome = true ∧
        LdP w none (addP x_3 3) (El.one (Sc.int IntKind.i64)) fun (x_4 : Int) =>
         x.isSome = true ∧
          x.isSome = true ∧
           StP w (addP x 0) [Value.int IntKind.i64 x_2] fun (w2 : World) =>
            True ∧ rdAt w2 pw (El.one Sc.ptr) x_1 ∧ x_1.isSome = true ∧ x_1.isSome = true ∧ StP w2 (addP x_1 3) [Value.int IntKind.i64 (subI IntKind.i64 x_4 1)] fun (w2 : World) => EnP w2 fun (w1 : World) => Post Unit.unit w1) := by kernel_rfl
theorem took3_vc (pw pe : Option Addr) (w : World) (Post : Unit → World → Prop) : (rxFn M1 (fun _ => []) 122 [.pointer pw, .pointer pe] w Post) = (
 LdP w none pw (El.one Sc.ptr) fun (x : Option Addr) =>
  pe.isSome = true ∧
   LdP w none (addP pe 3) (El.one (Sc.int IntKind.i64)) fun (x_1 : Int) =>
    LdP w none pw (El.one Sc.ptr) fun (x_2 : Option Addr) =>
     x_2.isSome = true ∧
      x_2.isSome = true ∧
       LdP w none (addP x_2 1) (El.one (Sc.int IntKind.i64)) fun (x_3 : Int) =>
        True ∧
         spanI 1 ≠ 0 ∧
          LdP w none pe (El.agg [Sc.bool, Sc.int IntKind.i64, Sc.bool, Sc.int IntKind.i64]) fun (x_4 : Bool × Int × Bool × Int × Unit) =>
           CaP Tryz.prog 123 (Sh.tup [])
            [Value.pointer x, Value.int IntKind.i64 (addI IntKind.i64 x_1 (remI x_3 (spanI 1))), Value.agg { toList := [Value.bool x_4.fst, Value.int IntKind.i64 x_4.snd.fst, Value.bool x_4.snd.snd.fst, Value.int IntKind.i64 x_4.snd.snd.snd.fst] }] w
            fun (x : Unit) (w2 : World) => EnP w2 fun (w1 : World) => Post Unit.unit w1) := by kernel_rfl
theorem took4_vc (pw pe : Option Addr) (w : World) (Post : Unit → World → Prop) : (rxFn M1 (fun _ => []) 124 [.pointer pw, .pointer pe] w Post) = (
 LdP w none pw (El.one Sc.ptr) fun (x : Option Addr) =>
  pe.isSome = true ∧
   LdP w none (addP pe 3) (El.one (Sc.int IntKind.i64)) fun (x_1 : Int) =>
    LdP w none pe (El.agg [Sc.bool, Sc.int IntKind.i64, Sc.bool, Sc.int IntKind.i64]) fun (x_2 : Bool × Int × Bool × Int × Unit) =>
     CaP Tryz.prog 123 (Sh.tup []) [Value.pointer x, Value.int IntKind.i64 x_1, Value.agg { toList := [Value.bool x_2.fst, Value.int IntKind.i64 x_2.snd.fst, Value.bool x_2.snd.snd.fst, Value.int IntKind.i64 x_2.snd.snd.snd.fst] }] w
      fun (x : Unit) (w2 : World) => EnP w2 fun (w1 : World) => Post Unit.unit w1) := by kernel_rfl
theorem took5_vc (pw : Option Addr) (w : World) (Post : Unit → World → Prop) : (rxFn M1 (fun _ => []) 125 [.pointer pw] w Post) = (
 LdP w none pw (El.one Sc.ptr) fun (x : Option Addr) =>
  CaP Tryz.prog 94 (Sh.tup []) [Value.pointer x, Value.agg { toList := [Value.int IntKind.i64 0, Value.int IntKind.i64 0, Value.int IntKind.i64 0, Value.int IntKind.i64 11] }] w fun (x : Unit) (w2 : World) =>
   EnP w2 fun (w1 : World) => Post Unit.unit w1) := by kernel_rfl
def took_vc_ann : Nat → Slots := (fun | 3 => [(56, Go.RX.El.one (Go.RX.Sc.int Go.IntKind.i64))] | _ => [])
theorem took_vc (p : Option Addr) (ep : Bool) (er : Int) (el : Bool) (ef : Int) (w : World) (Post : Unit → World → Prop) : (rxFn M3 took_vc_ann 95 [.pointer p, .agg ⟨[.bool ep, .int .i64 er, .bool el, .int .i64 ef]⟩] w Post) = (
 AlP w { toList := [Value.pointer p] } 117 fun (b : Nat) (w2 : World) =>
  AlP w2 { toList := [Value.bool ep, Value.int IntKind.i64 er, Value.bool el, Value.int IntKind.i64 ef] } 93 fun (b_1 : Nat) (w2 : World) =>
   true = true ∧
    LdP w2 none (addP (some { block := b_1, off := 0 }) 0) (El.one Sc.bool) fun (x : Bool) =>
     LdP w2 none (some { block := b_1, off := 0 }) (El.agg [Sc.bool, Sc.int IntKind.i64, Sc.bool, Sc.int IntKind.i64]) fun (x_1 : Bool × Int × Bool × Int × Unit) =>
      True ∧
       LdP w2 (some (tableE x_1.fst x_1.snd.fst x_1.snd.snd.fst x_1.snd.snd.snd.fst)) (some { block := b, off := 0 }) (El.one Sc.ptr) fun (x_2 : Option Addr) =>
        (tableE x_1.fst x_1.snd.fst x_1.snd.snd.fst x_1.snd.snd.snd.fst = true → x_2.isSome = true) ∧
         (tableE x_1.fst x_1.snd.fst x_1.snd.snd.fst x_1.snd.snd.snd.fst = true → x_2.isSome = true) ∧
          LdP w2 (some (tableE x_1.fst x_1.snd.fst x_1.snd.snd.fst x_1.snd.snd.snd.fst)) (addP x_2 3) (El.one (Sc.int IntKind.i64)) fun (x_3 : Int) =>
           true = true ∧
            LdP w2 none (addP (some { block := b_1, off := 0 }) 2) (El.one Sc.bool) fun (x_4 : Bool) =>
             LdP w2 (some x_4) (some { block := b, off := 0 }) (El.one Sc.ptr) fun (x_5 : Option Addr) =>
              (x_4 = true → x_5.isSome = true) ∧
               (x_4 = true → x_5.isSome = true) ∧
                LdP w2 (some x_4) (addP x_5 3) (El.one (Sc.int IntKind.i64)) fun (x_6 : Int) =>
                 true = true ∧
                  LdP w2 none (addP (some { block := b_1, off := 0 }) 2) (El.one Sc.bool) fun (x_7 : Bool) =>
                   ((!x_7) = true → true = true) ∧
                    LdP w2 (some !x_7) (addP (some { block := b_1, off := 0 }) 1) (El.one (Sc.int IntKind.i64)) fun (x_8 : Int) =>
                     LdP w2 (some (!x_7 && decide (x_8 > 0))) (some { block := b, off := 0 }) (El.one Sc.ptr) fun (x_9 : Option Addr) =>
                      ((!x_7 && decide (x_8 > 0)) = true → x_9.isSome = true) ∧
                       ((!x_7 && decide (x_8 > 0)) = true → x_9.isSome = true) ∧
                        LdP w2 (some (!x_7 && decide (x_8 > 0))) (addP x_9 3) (El.one (Sc.int IntKind.i64)) fun (x_10 : Int) =>
                         AlP w2
                          {
                           toList :=
                            [Value.bool !x, Value.func (Fn.func 120) { toList := [] } { toList := [Value.pointer (some { block := b, off := 0 })] }, Value.bool (tableE x_1.fst x_1.snd.fst x_1.snd.snd.fst x_1.snd.snd.snd.fst && decide (x_3 > 0)),
                             Value.func (Fn.func 121) { toList := [] } { toList := [Value.pointer (some { block := b_1, off := 0 }), Value.pointer (some { block := b, off := 0 })] }, Value.bool (x_4 && x_6 == 1),
                             Value.func (Fn.func 122) { toList := [] } { toList := [Value.pointer (some { block := b, off := 0 }), Value.pointer (some { block := b_1, off := 0 })] }, Value.bool (!x_7 && decide (x_8 > 0) && x_10 == 0),
                             Value.func (Fn.func 124) { toList := [] } { toList := [Value.pointer (some { block := b, off := 0 }), Value.pointer (some { block := b_1, off := 0 })] }, Value.bool true,
                             Value.func (Fn.func 125) { toList := [] } { toList := [Value.pointer (some { block := b, off := 0 })] }] }
                          185 fun (b : Nat) (w2 : World) =>
                          ∃ (I : Nat → Int × Unit → World → Prop),
                           (∃ (n : Nat), ∀ (w1 : World), Ext w2 w1 → I n (0, Unit.unit) w1) ∧
                            ∀ (n : Nat) (s : Int × Unit) (w1 : World),
                             I n s w1 →
                              brP (decide (s.fst < (↑5 : Int)))
                               ((true = true ∧ 0 ≤ s.fst ∧ s.fst < (↑5 : Int)) ∧
                                LdP w1 none (addP (some { block := b, off := 0 }) (Int.toNat s.fst * 2)) (El.agg [Sc.bool, Sc.func]) fun (x : Bool × Value × Unit) =>
                                 AlP w1 { toList := [Value.bool false, Value.nilFunc] } 185 fun (b : Nat) (w2 : World) =>
                                  StP w2 (some { block := b, off := 0 }) [Value.bool x.fst, x.snd.fst] fun (w2 : World) =>
                                   true = true ∧
                                    LdP w2 none (addP (some { block := b, off := 0 }) 0) (El.one Sc.bool) fun (x : Bool) =>
                                     brP x
                                      (true = true ∧
                                       LdP w2 none (addP (some { block := b, off := 0 }) 1) (El.one Sc.func) fun (x : Value) => CaV Tryz.prog x (Sh.tup []) [] w2 fun (x : Unit) (w2 : World) => EnP w2 fun (w1 : World) => Post Unit.unit w1)
                                      (∀ (w3 : World), Ext w2 w3 → ∃ (n' : Nat), n' < n ∧ I n' (addI IntKind.i64 s.fst 1, Unit.unit) w3))
                               (EnP w1 fun (w1 : World) => Post Unit.unit w1)) := by kernel_rfl
theorem wstep_vc (p m : Option Addr) (w : World) (Post : Bool → World → Prop) : (rxFn M1 (fun _ => []) 62 [.pointer p, .pointer m] w Post) = (
 ((!p.isNone) = true → p.isSome = true) ∧
  ((!p.isNone) = true → p.isSome = true) ∧
   LdP w (some !p.isNone) (addP p 9) (El.one Sc.bool) fun (x : Bool) =>
    brP (p.isNone || !x) (EnP w fun (w1 : World) => Post false w1)
     (p.isSome = true ∧
      p.isSome = true ∧
       LdP w none (addP p 3) (El.one (Sc.int IntKind.i64)) fun (x : Int) =>
        brP (x == -1) (EnP w fun (w1 : World) => Post true w1)
         (∃ (x : Int × Int × Int × Int × Unit),
          QCalls Tryz.prog 92 [Value.pointer p] w (Value.agg { toList := [Value.int IntKind.i64 x.fst, Value.int IntKind.i64 x.snd.fst, Value.int IntKind.u64 x.snd.snd.fst, Value.int IntKind.u64 x.snd.snd.snd.fst] }) ∧
           CaP Tryz.prog 91 (Sh.el (El.agg [Sc.int IntKind.u64, Sc.bool, Sc.int IntKind.i64]))
            [Value.pointer m, Value.agg { toList := [Value.int IntKind.i64 x.fst, Value.int IntKind.i64 x.snd.fst, Value.int IntKind.u64 x.snd.snd.fst, Value.int IntKind.u64 x.snd.snd.snd.fst] }] w fun (x : Int × Bool × Int × Unit) (w2 : World) =>
            AlP w2 { toList := [Value.int IntKind.u64 0, Value.bool false, Value.int IntKind.i64 0] } 152 fun (b : Nat) (w2 : World) =>
             StP w2 (some { block := b, off := 0 }) [Value.int IntKind.u64 x.fst, Value.bool x.snd.fst, Value.int IntKind.i64 x.snd.snd.fst] fun (w2 : World) =>
              p.isSome = true ∧
               p.isSome = true ∧
                LdP w2 none (addP p 8) (El.one Sc.slice) fun (x : Option Addr × Nat × Nat) =>
                 p.isSome = true ∧
                  p.isSome = true ∧
                   LdP w2 none (addP p 0) (El.one (Sc.int IntKind.i64)) fun (x_1 : Int) =>
                    AlP w2 { toList := [Value.int IntKind.i64 x_1] } 3 fun (b_1 : Nat) (w2 : World) =>
                     ∀ (w1 : World),
                      Ext w2 w1 →
                       apR w1 3 1 8 { toList := [Value.int IntKind.i64 0] } (x.fst, x.snd.fst, x.snd.snd) (some { block := b_1, off := 0 }, 1, 1) fun (r : Option Addr × Nat × Nat) (w2 : World) =>
                        p.isSome = true ∧
                         p.isSome = true ∧
                          StP w2 (addP p 8) [Value.slice r.fst r.snd.fst r.snd.snd] fun (w2 : World) =>
                           true = true ∧
                            LdP w2 none (addP (some { block := b, off := 0 }) 0) (El.one (Sc.int IntKind.u64)) fun (x : Int) =>
                             U (B x) = x ∧
                              AlP w2 { toList := [Value.bool false, Value.int IntKind.i64 0, Value.bool false, Value.int IntKind.i64 0] } 93 fun (b_2 : Nat) (w2 : World) =>
                               StP w2 (some { block := b_2, off := 0 }) [Value.bool (prP (B x).toNat), Value.int IntKind.i64 (prR (B x).toNat), Value.bool (prL (B x).toNat), Value.int IntKind.i64 (prF (B x).toNat)] fun (w2 : World) =>
                                ((!!okV (B x).toNat) = true → true = true) ∧
                                 LdP w2 (some !!okV (B x).toNat) (addP (some { block := b, off := 0 }) 2) (El.one (Sc.int IntKind.i64)) fun (x_2 : Int) =>
                                  brP (!okV (B x).toNat || x_2 != 0)
                                   (CaP Tryz.prog 94 (Sh.tup []) [Value.pointer p, Value.agg { toList := [Value.int IntKind.i64 0, Value.int IntKind.i64 0, Value.int IntKind.i64 0, Value.int IntKind.i64 11] }] w2 fun (x : Unit) (w2 : World) =>
                                    EnP w2 fun (w1 : World) => Post true w1)
                                   (LdP w2 none (some { block := b_2, off := 0 }) (El.agg [Sc.bool, Sc.int IntKind.i64, Sc.bool, Sc.int IntKind.i64]) fun (x : Bool × Int × Bool × Int × Unit) =>
                                    CaP Tryz.prog 95 (Sh.tup []) [Value.pointer p, Value.agg { toList := [Value.bool x.fst, Value.int IntKind.i64 x.snd.fst, Value.bool x.snd.snd.fst, Value.int IntKind.i64 x.snd.snd.snd.fst] }] w2
                                     fun (x : Unit) (w2 : World) => p.isSome = true ∧ p.isSome = true ∧ LdP w2 none (addP p 3) (El.one (Sc.int IntKind.i64)) fun (x : Int) => EnP w2 fun (w1 : World) => Post (x == -1) w1)))) := by kernel_rfl
def wall_vc_ann : Nat → Slots := (fun | 4 => [] | _ => [])
theorem wall_vc (m : Option Addr) (f p t : Int) (w : World) (Post : (Int × Int × Int × Int × Unit) → World → Prop) : (rxFnR M1 wall_vc_ann 24 [.pointer m, .int .i64 f, .int .i64 p, .int .i64 t] w Post) = (
 AlP w { toList := [Value.int IntKind.i64 0, Value.int IntKind.i64 0, Value.int IntKind.i64 0, Value.int IntKind.i64 0] } 54 fun (b : Nat) (w2 : World) =>
  CaP Tryz.prog 61 (Sh.el (El.one Sc.ptr)) [Value.int IntKind.i64 f, Value.int IntKind.i64 p, Value.int IntKind.i64 t] w2 fun (x : Option Addr) (w2 : World) =>
   brP x.isNone
    (StP w2 (some { block := b, off := 0 }) [Value.int IntKind.i64 0, Value.int IntKind.i64 0, Value.int IntKind.i64 0, Value.int IntKind.i64 1] fun (w2 : World) =>
     EnP w2 fun (w1 : World) =>
      LdP w1 none (some { block := b, off := 0 }) (El.agg [Sc.int IntKind.i64, Sc.int IntKind.i64, Sc.int IntKind.i64, Sc.int IntKind.i64]) fun (x : Int × Int × Int × Int × Unit) =>
       Post (x.fst, x.snd.fst, x.snd.snd.fst, x.snd.snd.snd.fst, Unit.unit) w1)
    (∃ (I : Nat → Unit → World → Prop),
     (∃ (n : Nat), ∀ (w1 : World), Ext w2 w1 → I n Unit.unit w1) ∧
      ∀ (n : Nat) (s : Unit) (w1 : World),
       I n s w1 →
        CaP Tryz.prog 62 (Sh.el (El.one Sc.bool)) [Value.pointer x, Value.pointer m] w1 fun (x_1 : Bool) (w2 : World) =>
         brP (!x_1) (∀ (w3 : World), Ext w2 w3 → ∃ (n' : Nat), n' < n ∧ I n' Unit.unit w3)
          (x.isSome = true ∧
           x.isSome = true ∧
            LdP w2 none (addP x 4) (El.agg [Sc.int IntKind.i64, Sc.int IntKind.i64, Sc.int IntKind.i64, Sc.int IntKind.i64]) fun (x : Int × Int × Int × Int × Unit) =>
             StP w2 (some { block := b, off := 0 }) [Value.int IntKind.i64 x.fst, Value.int IntKind.i64 x.snd.fst, Value.int IntKind.i64 x.snd.snd.fst, Value.int IntKind.i64 x.snd.snd.snd.fst] fun (w2 : World) =>
              EnP w2 fun (w1 : World) =>
               LdP w1 none (some { block := b, off := 0 }) (El.agg [Sc.int IntKind.i64, Sc.int IntKind.i64, Sc.int IntKind.i64, Sc.int IntKind.i64]) fun (x : Int × Int × Int × Int × Unit) =>
                Post (x.fst, x.snd.fst, x.snd.snd.fst, x.snd.snd.snd.fst, Unit.unit) w1))) := by kernel_rfl
end Go.Proofs.YtkldededdgpmbaaGreat
namespace Go.Proofs.YtkldededdgpmbaaGreat
set_option linter.unusedSimpArgs false
set_option linter.unusedVariables false
set_option maxRecDepth 100000
open Go.RX
abbrev FT : Type := Int × Int × Int × Int × Unit
abbrev wcs (fr pg wt lv : Int) (fd : FT) (s : Option Addr × Nat × Nat) : List Value :=
  [.int .i64 fr, .int .i64 pg, .int .i64 wt, .int .i64 lv, .int .i64 fd.1, .int .i64 fd.2.1, .int .i64 fd.2.2.1, .int .i64 fd.2.2.2.1, .slice s.1 s.2.1 s.2.2, .bool true]
def endF (lv e : Int) : FT := (0, 0, lv, e, ())
def inF (lv wt fr : Int) (ep : Bool) (er : Int) (el : Bool) (ef : Int) : FT := if fr ≥ 4096 then (0, 0, lv, 11, ()) else if allowsE ep er el ef wt then (fr, er, lv, 0, ()) else (fr, er, lv, 7, ())
theorem mUp_new {w : World} {r : Nat} {k : IntKind} {n : Int} {val : Value} {es : Array MapEntry} {clock : Nat} {K : World → Prop} (h : Instr.findNow (.int k) (.int k n) es.toList 0 = some none)
    (hk : K (w.putObj r (.map (es.push { key := .int k n, val, born := clock }) (clock + 1)))) : mUp w r k n val es clock K := by
  unfold mUp
  rw [h]; exact hk
section
variable {D G : List Nat} {w0 w : World} {L : List (Nat × List Value)} {bm bw n c : Nat} {ca la : Int} {ws : List Int} {rest : List Value}
theorem dload_at (H : AtD D G w0 w L) (j jw : Nat) (hm : L[j]? = some (bm, mcs bw n c ca la)) (hw : L[jw]? = some (bw, flat eW ws ++ rest)) (hj : j ≠ jw) (hn : n = ws.length) (h0 : 0 < n) (kd i a b : Int) {K : RT → World → Prop}
    (k : ∀ w2, AtD D G w0 w2 (L.set j (bm, mcs bw n c (upM ws i ca) la)) → K (ldV ws i, false, ldE ws i, ()) w2) :
    CallsR Tryz.prog 115 (.el (.agg sR)) [.agg ⟨[.int .i64 kd, .int .i64 i, .int .u64 a, .int .u64 b]⟩, .pointer (some ⟨bm, 0, none⟩)] w K := by
  refine rxFnR_ok (C := M1) (ann := fun _ => []) (Eq.mpr (dload_vc kd i a b _ w K) ?_)
  refine AlP.go H fun b1 w2 H => AlP.go H fun b2 w3 H => ⟨rfl, LdP.atA 1 H rfl rfl ?_⟩
  refine mload_at H (j + 2) (jw + 2) hm hw (by omega) hn h0 i fun w4 H => ?_
  refine StP.all 0 H rfl rfl rfl fun w5 H => EnP.go H fun w6 H => LdP.at 0 H rfl rfl (k w6 ?_)
  exact (H.sub (List.sublist_cons_self _ _)).sub (List.sublist_cons_self _ _)
/-- A key that is new, in a map that is new. -/
theorem ins_at (H : AtD D G w0 w L) {r : Nat} {es : Array MapEntry} {clock : Nat} (hr : w0.heap.size ≤ r) (hD : r ∉ D) (hm : MapO w r es clock) {n : Int} {val : Value} {K : World → Prop} (hf : Instr.findNow (.int .i64) (.int .i64 n) es.toList 0 = some none)
    (k : ∀ w2, AtD D G w0 w2 L → MapO w2 r (es.push { key := .int .i64 n, val, born := clock }) (clock + 1) → K w2) :
    ∃ r' es' clock', some r = some r' ∧ MapO w r' es' clock' ∧ mUp w r' .i64 n val es' clock' K :=
  ⟨r, es, clock, rfl, hm, mUp_new hf (k _ (H.putObj hr hm (fun _ _ _ hc => by cases hc) hD) (putObj_self (Array.getElem?_eq_some_iff.1 hm).1))⟩
theorem do_at (H : AtD D G w0 w L) (hD : D = []) (j jw : Nat) (hm : L[j]? = some (bm, mcs bw n c ca la)) (hw : L[jw]? = some (bw, flat eW ws ++ rest)) (hj : j ≠ jw) (hn : n = ws.length) (h0 : 0 < n) (i a b : Int) {K : RT → World → Prop}
    (k : ∀ w2, AtD D G w0 w2 (L.set j (bm, mcs bw n c (upM ws i ca) la)) → K (ldV ws i, false, ldE ws i, ()) w2) :
    CaP Tryz.prog 91 (.el (.agg sR)) [.pointer (some ⟨bm, 0, none⟩), .agg ⟨[.int .i64 1, .int .i64 i, .int .u64 a, .int .u64 b]⟩] w K := by
  subst hD
  refine CaP.go H fun w1 H => rxFnR_ok (C := M2) (ann := fun _ => []) (Eq.mpr (do_vc _ 1 i a b w1 K) ?_)
  refine AlP.go H fun b1 w2 H => AlP.go H fun b2 w3 H => fun w4 h4 w5 h5 => ?_
  have H := (((H.ext h4).allocO (.map ⟨[]⟩ 0)).ext h5)
  have hsz : w0.heap.size ≤ w4.heap.size := by have := (AtD.ext (w1 := w4) (by assumption) h4 : AtD [] G w0 w4 _).fr.size; exact this
  have m0 : MapO w5 w4.heap.size ⟨[]⟩ 0 := h5.obj (alloc_self w4 _)
  refine ins_at H hsz (by simp) m0 rfl fun w6 H m1 w7 h7 => ?_
  refine ins_at (H.ext h7) hsz (by simp) (h7.obj m1) rfl fun w8 H m2 w9 h9 => ?_
  refine ins_at (H.ext h9) hsz (by simp) (h9.obj m2) rfl fun w10 H m3 w11 h11 => ?_
  refine ins_at (H.ext h11) hsz (by simp) (h11.obj m3) rfl fun w12 H m4 => ?_
  refine ⟨rfl, LdP.atA 1 H rfl rfl ⟨.func (.func 115) #[] #[], true, ⟨_, _, _, rfl, m4, ?_⟩, brP_neg rfl (LdP.at 1 H rfl rfl ?_)⟩⟩
  · exact ⟨rfl, rfl⟩
  · unfold CaV
    refine fun w13 h13 => ⟨_, #[], #[], rfl, by kernel_rfl, ?_⟩
    refine dload_at (H.ext h13) (j + 2) (jw + 2) hm hw (by omega) hn h0 1 i a b fun w14 H => ?_
    refine StP.all 0 H rfl rfl rfl fun w15 H => EnP.go H fun w16 H => LdP.at 0 H rfl rfl (k w16 ?_)
    exact (H.sub (List.sublist_cons_self _ _)).sub (List.sublist_cons_self _ _)
end
section
variable {D G : List Nat} {w0 w : World} {L : List (Nat × List Value)} {bk : Nat} {fr pg wt lv : Int} {fd : FT} {s : Option Addr × Nat × Nat}
theorem wend_at (H : AtD D G w0 w L) (j : Nat) (hk : L[j]? = some (bk, wcs fr pg wt lv fd s)) (x1 x2 x3 x4 : Int) {K : Unit → World → Prop}
    (k : ∀ w2, AtD D G w0 w2 (L.set j (bk, wcs fr pg wt (-1) (x1, x2, lv, x4, ()) s)) → K () w2) :
    CaP Tryz.prog 94 (.tup []) [.pointer (some ⟨bk, 0, none⟩), .agg ⟨[.int .i64 x1, .int .i64 x2, .int .i64 x3, .int .i64 x4]⟩] w K := by
  refine CaP.go H fun w1 H => rxFn_ok (C := M1) (ann := fun _ => []) (Eq.mpr (wend_vc _ x1 x2 x3 x4 w1 K) ?_)
  have hjl : j < L.length := (List.getElem?_eq_some_iff.1 hk).1
  refine AlP.go H fun b w2 H => ?_
  have hk1 : ((b, [Value.int .i64 x1, .int .i64 x2, .int .i64 x3, .int .i64 x4]) :: L)[j + 1]? = some (bk, wcs fr pg wt lv fd s) := hk
  refine ⟨rfl, rfl, LdP.atA (j + 1) H hk1 rfl ⟨rfl, StP.oneA 0 H rfl rfl rfl fun w3 H => LdP.at 0 H rfl rfl ⟨rfl, rfl, ?_⟩⟩⟩
  rw [addP_B, addP_B]
  refine StP.at (j + 1) H hk rfl (Nat.le_of_ble_eq_true rfl) fun w4 H => ⟨rfl, rfl, ?_⟩
  refine StP.one (j + 1) H (List.getElem?_set_self (Nat.succ_lt_succ hjl)) rfl rfl fun w5 H => EnP.go H fun w6 H => k w6 ?_
  have H := H.sub (List.sublist_cons_self _ _)
  have e : (L.set j (bk, wcs fr pg wt lv (x1, x2, lv, x4, ()) s)).set j (bk, wcs fr pg wt (-1) (x1, x2, lv, x4, ()) s) = L.set j (bk, wcs fr pg wt (-1) (x1, x2, lv, x4, ()) s) := List.set_set ..
  rw [← e]
  exact H
theorem win_at (H : AtD D G w0 w L) (j : Nat) (hk : L[j]? = some (bk, wcs fr pg wt lv fd s)) (f : Int) (ep : Bool) (er : Int) (el : Bool) (ef : Int) {K : Unit → World → Prop}
    (k : ∀ w2, AtD D G w0 w2 (L.set j (bk, wcs fr pg wt (-1) (inF lv wt f ep er el ef) s)) → K () w2) :
    CaP Tryz.prog 123 (.tup []) [.pointer (some ⟨bk, 0, none⟩), .int .i64 f, .agg ⟨[.bool ep, .int .i64 er, .bool el, .int .i64 ef]⟩] w K := by
  refine CaP.go H fun w1 H => rxFn_ok (C := M1) (ann := fun _ => []) (Eq.mpr (win_vc _ f ep er el ef w1 K) ?_)
  refine AlP.go H fun b w2 H => ?_
  have hk1 : ((b, [Value.bool ep, .int .i64 er, .bool el, .int .i64 ef]) :: L)[j + 1]? = some (bk, wcs fr pg wt lv fd s) := hk
  refine brP_intro (fun c => ?_) (fun c => LdP.at 0 H rfl rfl ⟨rfl, rfl, LdP.atA (j + 1) H hk1 rfl ⟨trivial, brP_intro (fun c2 => ?_) (fun c2 => ?_)⟩⟩)
  · refine wend_at H (j + 1) hk1 0 0 0 11 fun w3 H => EnP.go H fun w4 H => k w4 ?_
    have e : inF lv wt f ep er el ef = (0, 0, lv, 11, ()) := if_pos (of_decide_eq_true c)
    rw [e]; exact H.sub (List.sublist_cons_self _ _)
  · refine ⟨rfl, LdP.atA 0 H rfl rfl (wend_at H (j + 1) hk1 f er 0 7 fun w3 H => EnP.go H fun w4 H => k w4 ?_)⟩
    have e : inF lv wt f ep er el ef = (f, er, lv, 7, ()) := by
      have c3 : allowsE ep er el ef wt = false := by simpa using c2
      unfold inF; rw [if_neg (of_decide_eq_false c), c3]; rfl
    rw [e]; exact H.sub (List.sublist_cons_self _ _)
  · refine ⟨rfl, LdP.atA 0 H rfl rfl (wend_at H (j + 1) hk1 f er 0 0 fun w3 H => EnP.go H fun w4 H => k w4 ?_)⟩
    have e : inF lv wt f ep er el ef = (f, er, lv, 0, ()) := by
      have c3 : allowsE ep er el ef wt = true := by simpa using c2
      unfold inF; rw [if_neg (of_decide_eq_false c), if_pos c3]
    rw [e]; exact H.sub (List.sublist_cons_self _ _)
end
end Go.Proofs.YtkldededdgpmbaaGreat
namespace Go.Proofs.YtkldededdgpmbaaGreat
set_option linter.unusedSimpArgs false
set_option linter.unusedVariables false
set_option maxRecDepth 100000
open Go.RX
def tookS (fr pg wt lv : Int) (fd : FT) (ep : Bool) (er : Int) (el : Bool) (ef : Int) : Int × Int × FT :=
  if (!ep) = true then (fr, -1, endF lv 4)
  else if (tableE ep er el ef && decide (lv > 0)) = true then (ef, subI .i64 lv 1, fd)
  else if (el && lv == 1) = true then (fr, -1, inF lv wt (addI .i64 ef (remI pg 16)) ep er el ef)
  else if (!el && decide (er > 0) && lv == 0) = true then (fr, -1, inF lv wt ef ep er el ef)
  else (fr, -1, endF lv 11)
section
variable {D G : List Nat} {w0 w : World} {L : List (Nat × List Value)} {bk bp be : Nat} {fr pg wt lv : Int} {fd : FT} {s : Option Addr × Nat × Nat} {ep : Bool} {er : Int} {el : Bool} {ef : Int}
theorem took1_at (H : AtD D G w0 w L) (jw j : Nat) (hw : L[jw]? = some (bp, [.pointer (some ⟨bk, 0, none⟩)])) (hk : L[j]? = some (bk, wcs fr pg wt lv fd s)) {K : Unit → World → Prop}
    (k : ∀ w2, AtD D G w0 w2 (L.set j (bk, wcs fr pg wt (-1) (endF lv 4) s)) → K () w2) : CallsR Tryz.prog 120 (.tup []) [.pointer (some ⟨bp, 0, none⟩)] w K := by
  refine rxFn_ok (C := M1) (ann := fun _ => []) (Eq.mpr (took1_vc _ w K) ?_)
  exact LdP.at jw H hw rfl (wend_at H j hk 0 0 0 4 fun w3 H => EnP.go H fun w4 H => k w4 H)
theorem took5_at (H : AtD D G w0 w L) (jw j : Nat) (hw : L[jw]? = some (bp, [.pointer (some ⟨bk, 0, none⟩)])) (hk : L[j]? = some (bk, wcs fr pg wt lv fd s)) {K : Unit → World → Prop}
    (k : ∀ w2, AtD D G w0 w2 (L.set j (bk, wcs fr pg wt (-1) (endF lv 11) s)) → K () w2) : CallsR Tryz.prog 125 (.tup []) [.pointer (some ⟨bp, 0, none⟩)] w K := by
  refine rxFn_ok (C := M1) (ann := fun _ => []) (Eq.mpr (took5_vc _ w K) ?_)
  exact LdP.at jw H hw rfl (wend_at H j hk 0 0 0 11 fun w3 H => EnP.go H fun w4 H => k w4 H)
theorem took2_at (H : AtD D G w0 w L) (je jw j : Nat) (he : L[je]? = some (be, [.bool ep, .int .i64 er, .bool el, .int .i64 ef])) (hw : L[jw]? = some (bp, [.pointer (some ⟨bk, 0, none⟩)])) (hk : L[j]? = some (bk, wcs fr pg wt lv fd s)) (hj : j ≠ jw) {K : Unit → World → Prop}
    (k : ∀ w2, AtD D G w0 w2 (L.set j (bk, wcs ef pg wt (subI .i64 lv 1) fd s)) → K () w2) : CallsR Tryz.prog 121 (.tup []) [.pointer (some ⟨be, 0, none⟩), .pointer (some ⟨bp, 0, none⟩)] w K := by
  refine rxFn_ok (C := M1) (ann := fun _ => []) (Eq.mpr (took2_vc _ _ w K) ?_)
  have hjl : j < L.length := (List.getElem?_eq_some_iff.1 hk).1
  refine LdP.at jw H hw rfl (LdP.at jw H hw rfl ⟨rfl, LdP.atA je H he rfl (LdP.at jw H hw rfl ⟨rfl, rfl, LdP.atA j H hk rfl ⟨rfl, rfl, ?_⟩⟩)⟩)
  refine StP.oneA j H hk rfl rfl fun w2 H => ⟨trivial, ?_, rfl, rfl, ?_⟩
  · exact elAt_rd (H.get (i := jw) (by rw [List.getElem?_set_ne hj]; exact hw)) rfl
  · refine StP.oneA j H (List.getElem?_set_self hjl) rfl rfl fun w3 H => EnP.go H fun w4 H => k w4 ?_
    rw [List.set_set] at H
    exact H
theorem took3_at (H : AtD D G w0 w L) (je jw j : Nat) (he : L[je]? = some (be, [.bool ep, .int .i64 er, .bool el, .int .i64 ef])) (hw : L[jw]? = some (bp, [.pointer (some ⟨bk, 0, none⟩)])) (hk : L[j]? = some (bk, wcs fr pg wt lv fd s)) {K : Unit → World → Prop}
    (k : ∀ w2, AtD D G w0 w2 (L.set j (bk, wcs fr pg wt (-1) (inF lv wt (addI .i64 ef (remI pg 16)) ep er el ef) s)) → K () w2) : CallsR Tryz.prog 122 (.tup []) [.pointer (some ⟨bp, 0, none⟩), .pointer (some ⟨be, 0, none⟩)] w K := by
  refine rxFn_ok (C := M1) (ann := fun _ => []) (Eq.mpr (took3_vc _ _ w K) ?_)
  have e16 : spanI 1 = 16 := rfl
  rw [e16]
  refine LdP.at jw H hw rfl ⟨rfl, LdP.atA je H he rfl (LdP.at jw H hw rfl ⟨rfl, rfl, LdP.atA j H hk rfl ⟨trivial, by decide, LdP.at je H he rfl ?_⟩⟩)⟩
  exact win_at H j hk _ ep er el ef fun w3 H => EnP.go H fun w4 H => k w4 H
theorem took4_at (H : AtD D G w0 w L) (je jw j : Nat) (he : L[je]? = some (be, [.bool ep, .int .i64 er, .bool el, .int .i64 ef])) (hw : L[jw]? = some (bp, [.pointer (some ⟨bk, 0, none⟩)])) (hk : L[j]? = some (bk, wcs fr pg wt lv fd s)) {K : Unit → World → Prop}
    (k : ∀ w2, AtD D G w0 w2 (L.set j (bk, wcs fr pg wt (-1) (inF lv wt ef ep er el ef) s)) → K () w2) : CallsR Tryz.prog 124 (.tup []) [.pointer (some ⟨bp, 0, none⟩), .pointer (some ⟨be, 0, none⟩)] w K := by
  refine rxFn_ok (C := M1) (ann := fun _ => []) (Eq.mpr (took4_vc _ _ w K) ?_)
  refine LdP.at jw H hw rfl ⟨rfl, LdP.atA je H he rfl (LdP.at je H he rfl ?_)⟩
  exact win_at H j hk _ ep er el ef fun w3 H => EnP.go H fun w4 H => k w4 H
theorem took_at (H : AtD D G w0 w L) (j : Nat) (hk : L[j]? = some (bk, wcs fr pg wt lv fd s)) (ep : Bool) (er : Int) (el : Bool) (ef : Int) {K : Unit → World → Prop}
    (k : ∀ w2, AtD D G w0 w2 (L.set j (bk, wcs (tookS fr pg wt lv fd ep er el ef).1 pg wt (tookS fr pg wt lv fd ep er el ef).2.1 (tookS fr pg wt lv fd ep er el ef).2.2 s)) → K () w2) :
    CaP Tryz.prog 95 (.tup []) [.pointer (some ⟨bk, 0, none⟩), .agg ⟨[.bool ep, .int .i64 er, .bool el, .int .i64 ef]⟩] w K := by
  refine CaP.go H fun w1 H => rxFn_ok (C := M3) (ann := took_vc_ann) (Eq.mpr (took_vc _ ep er el ef w1 K) ?_)
  refine AlP.go H fun bp w2 H => AlP.go H fun be w3 H => ⟨rfl, LdP.atA 0 H rfl rfl (LdP.at 0 H rfl rfl ⟨trivial, LdP.at 1 H rfl rfl ⟨fun _ => rfl, fun _ => rfl, LdP.atA (j + 2) H hk rfl ⟨rfl, LdP.atA 0 H rfl rfl (LdP.at 1 H rfl rfl ⟨fun _ => rfl, fun _ => rfl, LdP.atA (j + 2) H hk rfl ⟨rfl, LdP.atA 0 H rfl rfl ⟨fun _ => rfl, LdP.atA 0 H rfl rfl (LdP.at 1 H rfl rfl ⟨fun _ => rfl, fun _ => rfl, LdP.atA (j + 2) H hk rfl ?_⟩)⟩⟩⟩)⟩⟩⟩)⟩
  refine AlP.go H fun bs w4 H => ?_
  dsimp only at H ⊢
  generalize hc0 : (!ep) = c0 at H
  generalize hc1 : (tableE ep er el ef && decide (lv > 0)) = c1 at H
  generalize hc2 : (el && lv == 1) = c2 at H
  generalize hc3 : (!el && decide (er > 0) && lv == 0) = c3 at H
  have hT : tookS fr pg wt lv fd ep er el ef = if c0 = true then (fr, -1, endF lv 4) else if c1 = true then (ef, subI .i64 lv 1, fd) else if c2 = true then (fr, -1, inF lv wt (addI .i64 ef (remI pg 16)) ep er el ef) else if c3 = true then (fr, -1, inF lv wt ef ep er el ef) else (fr, -1, endF lv 11) := by
    unfold tookS
    rw [hc0, hc1, hc2, hc3]
  clear hc0 hc1 hc2 hc3
  refine ⟨fun n s' w' => ∃ i : Nat, s'.1 = i ∧ n + i = 5 ∧ ((0 < i → c0 = false) ∧ (1 < i → c1 = false) ∧ (2 < i → c2 = false) ∧ (3 < i → c3 = false) ∧ i < 5) ∧ AtD D G w0 w' ((bs, [.bool c0, .func (.func 120) ⟨[]⟩ ⟨[.pointer (some ⟨bp, 0, none⟩)]⟩, .bool c1, .func (.func 121) ⟨[]⟩ ⟨[.pointer (some ⟨be, 0, none⟩), .pointer (some ⟨bp, 0, none⟩)]⟩,
      .bool c2, .func (.func 122) ⟨[]⟩ ⟨[.pointer (some ⟨bp, 0, none⟩), .pointer (some ⟨be, 0, none⟩)]⟩, .bool c3, .func (.func 124) ⟨[]⟩ ⟨[.pointer (some ⟨bp, 0, none⟩), .pointer (some ⟨be, 0, none⟩)]⟩, .bool true, .func (.func 125) ⟨[]⟩ ⟨[.pointer (some ⟨bp, 0, none⟩)]⟩]) :: (be, [.bool ep, .int .i64 er, .bool el, .int .i64 ef]) :: (bp, [.pointer (some ⟨bk, 0, none⟩)]) :: L),
    ⟨5, fun w5 h5 => ⟨0, rfl, rfl, ⟨fun h => absurd h (by decide), fun h => absurd h (by decide), fun h => absurd h (by decide), fun h => absurd h (by decide), by decide⟩, H.ext h5⟩⟩, ?_⟩
  clear H
  rintro n ⟨i', u⟩ w5 ⟨i, hi, hn, ⟨z0, z1, z2, z3, hi5⟩, H⟩
  simp only at hi
  subst hi
  dsimp only
  have hk5 : ∀ {x y z q : Nat × List Value}, (x :: y :: z :: q :: L)[j + 4]? = some (bk, wcs fr pg wt lv fd s) := hk
  have fin : ∀ {x y z q : Nat × List Value} {w9 : World} {fr' lv' : Int} {fd' : FT}, tookS fr pg wt lv fd ep er el ef = (fr', lv', fd') → AtD D G w0 w9 (x :: y :: z :: q :: L.set j (bk, wcs fr' pg wt lv' fd' s)) → K () w9 := fun e H => by
    rw [e] at k
    exact k _ ((((H.sub (List.sublist_cons_self _ _)).sub (List.sublist_cons_self _ _)).sub (List.sublist_cons_self _ _)).sub (List.sublist_cons_self _ _))
  have e5 : addI .i64 (i : Int) 1 = ((i + 1 : Nat) : Int) := by rw [addI_i64 (by omega) (by omega)]; rfl
  rcases (by omega : i = 0 ∨ i = 1 ∨ i = 2 ∨ i = 3 ∨ i = 4) with rfl | rfl | rfl | rfl | rfl
  · refine brP_pos rfl ⟨⟨rfl, by decide, by decide⟩, LdP.atA 0 H rfl rfl (AlP.go H fun b4 w6 H => StP.all 0 H rfl rfl rfl fun w7 H => ⟨rfl, LdP.atA 0 H rfl rfl (brP_intro (fun c => ⟨rfl, LdP.atA 0 H rfl rfl ?_⟩) (fun c w8 h8 => ⟨n - 1, by omega, 1, e5, by omega, ⟨fun _ => c, fun h => absurd h (by decide), fun h => absurd h (by decide), fun h => absurd h (by decide), by decide⟩, (H.sub (List.sublist_cons_self _ _)).ext h8⟩))⟩)⟩
    unfold CaV
    refine fun w9 h9 => ⟨_, ⟨[]⟩, ⟨[.pointer (some ⟨bp, 0, none⟩)]⟩, rfl, by kernel_rfl, took1_at (H.ext h9) 3 (j + 4) rfl hk5 fun w10 H => EnP.go H fun w11 H => fin ?_ H⟩
    rw [hT, if_pos c]
  · refine brP_pos rfl ⟨⟨rfl, by decide, by decide⟩, LdP.atA 0 H rfl rfl (AlP.go H fun b4 w6 H => StP.all 0 H rfl rfl rfl fun w7 H => ⟨rfl, LdP.atA 0 H rfl rfl (brP_intro (fun c => ⟨rfl, LdP.atA 0 H rfl rfl ?_⟩) (fun c w8 h8 => ⟨n - 1, by omega, 2, e5, by omega, ⟨fun _ => z0 (by decide), fun _ => c, fun h => absurd h (by decide), fun h => absurd h (by decide), by decide⟩, (H.sub (List.sublist_cons_self _ _)).ext h8⟩))⟩)⟩
    unfold CaV
    refine fun w9 h9 => ⟨_, ⟨[]⟩, ⟨[.pointer (some ⟨be, 0, none⟩), .pointer (some ⟨bp, 0, none⟩)]⟩, rfl, by kernel_rfl, took2_at (H.ext h9) 2 3 (j + 4) rfl rfl hk5 (by omega) fun w10 H => EnP.go H fun w11 H => fin ?_ H⟩
    rw [hT, if_neg (by rw [z0 (by decide)]; decide), if_pos c]
  · refine brP_pos rfl ⟨⟨rfl, by decide, by decide⟩, LdP.atA 0 H rfl rfl (AlP.go H fun b4 w6 H => StP.all 0 H rfl rfl rfl fun w7 H => ⟨rfl, LdP.atA 0 H rfl rfl (brP_intro (fun c => ⟨rfl, LdP.atA 0 H rfl rfl ?_⟩) (fun c w8 h8 => ⟨n - 1, by omega, 3, e5, by omega, ⟨fun _ => z0 (by decide), fun _ => z1 (by decide), fun _ => c, fun h => absurd h (by decide), by decide⟩, (H.sub (List.sublist_cons_self _ _)).ext h8⟩))⟩)⟩
    unfold CaV
    refine fun w9 h9 => ⟨_, ⟨[]⟩, ⟨[.pointer (some ⟨bp, 0, none⟩), .pointer (some ⟨be, 0, none⟩)]⟩, rfl, by kernel_rfl, took3_at (H.ext h9) 2 3 (j + 4) rfl rfl hk5 fun w10 H => EnP.go H fun w11 H => fin ?_ H⟩
    rw [hT, if_neg (by rw [z0 (by decide)]; decide), if_neg (by rw [z1 (by decide)]; decide), if_pos c]
  · refine brP_pos rfl ⟨⟨rfl, by decide, by decide⟩, LdP.atA 0 H rfl rfl (AlP.go H fun b4 w6 H => StP.all 0 H rfl rfl rfl fun w7 H => ⟨rfl, LdP.atA 0 H rfl rfl (brP_intro (fun c => ⟨rfl, LdP.atA 0 H rfl rfl ?_⟩) (fun c w8 h8 => ⟨n - 1, by omega, 4, e5, by omega, ⟨fun _ => z0 (by decide), fun _ => z1 (by decide), fun _ => z2 (by decide), fun _ => c, by decide⟩, (H.sub (List.sublist_cons_self _ _)).ext h8⟩))⟩)⟩
    unfold CaV
    refine fun w9 h9 => ⟨_, ⟨[]⟩, ⟨[.pointer (some ⟨bp, 0, none⟩), .pointer (some ⟨be, 0, none⟩)]⟩, rfl, by kernel_rfl, took4_at (H.ext h9) 2 3 (j + 4) rfl rfl hk5 fun w10 H => EnP.go H fun w11 H => fin ?_ H⟩
    rw [hT, if_neg (by rw [z0 (by decide)]; decide), if_neg (by rw [z1 (by decide)]; decide), if_neg (by rw [z2 (by decide)]; decide), if_pos c]
  · refine brP_pos rfl ⟨⟨rfl, by decide, by decide⟩, LdP.atA 0 H rfl rfl (AlP.go H fun b4 w6 H => StP.all 0 H rfl rfl rfl fun w7 H => ⟨rfl, LdP.atA 0 H rfl rfl (brP_pos rfl ⟨rfl, LdP.atA 0 H rfl rfl ?_⟩)⟩)⟩
    unfold CaV
    refine fun w9 h9 => ⟨_, ⟨[]⟩, ⟨[.pointer (some ⟨bp, 0, none⟩)]⟩, rfl, by kernel_rfl, took5_at (H.ext h9) 3 (j + 4) rfl hk5 fun w10 H => EnP.go H fun w11 H => fin ?_ H⟩
    rw [hT, if_neg (by rw [z0 (by decide)]; decide), if_neg (by rw [z1 (by decide)]; decide), if_neg (by rw [z2 (by decide)]; decide), if_neg (by rw [z3 (by decide)]; decide)]
end
end Go.Proofs.YtkldededdgpmbaaGreat
namespace Go.Proofs.YtkldededdgpmbaaGreat
set_option linter.unusedSimpArgs false
set_option linter.unusedVariables false
set_option maxRecDepth 100000
open Go.RX
def PIn (Ls : List (Nat × List Value)) (s : Option Addr × Nat × Nat) (xs : List Int) : Prop :=
  (s = (none, 0, 0) ∧ xs = [] ∧ Ls = []) ∨ ∃ bs c rest, s = (some ⟨bs, 0, none⟩, xs.length, c) ∧ Ls = [(bs, flat eI xs ++ rest)] ∧ (flat eI xs ++ rest).length = c * stride eI ∧ xs.length ≤ c
def okW (ws : List Int) : Prop := ∀ x ∈ ws, 0 ≤ x ∧ x < 18446744073709551616
def stepS (ws : List Int) (pg wt : Int) (x : Int × Int × FT) : Int × Int × FT :=
  if x.2.1 = -1 then x
  else if (!okV (B (ldV ws (atI x.1 pg x.2.1))).toNat || ldE ws (atI x.1 pg x.2.1) != 0) = true then (x.1, -1, endF x.2.1 11)
  else tookS x.1 pg wt x.2.1 x.2.2 (prP (B (ldV ws (atI x.1 pg x.2.1))).toNat) (prR (B (ldV ws (atI x.1 pg x.2.1))).toNat) (prL (B (ldV ws (atI x.1 pg x.2.1))).toNat) (prF (B (ldV ws (atI x.1 pg x.2.1))).toNat)
theorem ld_rng {ws : List Int} (h : okW ws) (i : Int) : 0 ≤ ldV ws i ∧ ldV ws i < 18446744073709551616 := by
  unfold ldV
  split
  · rename_i hi
    rw [inM_iff] at hi
    rw [List.getD_eq_getElem?_getD, List.getElem?_eq_getElem (by omega)]
    exact h _ (List.getElem_mem _)
  · exact ⟨by decide, by decide⟩
section
variable {D G : List Nat} {w0 w : World} {L L0 Ls : List (Nat × List Value)} {bk bm bw n c : Nat} {ca la fr pg wt lv : Int} {fd : FT} {s : Option Addr × Nat × Nat} {ws xs : List Int} {rest : List Value}
theorem wnext_ok (hb : Blk w bk (wcs fr pg wt lv fd s)) (hl : lv ≠ -1) : CallsR Tryz.prog 92 (.el (.agg sA)) [.pointer (some ⟨bk, 0, none⟩)] w (fun x w' => x = (1, atI fr pg lv, 0, 0, ()) ∧ Ext w w') := by
  refine rxFnR_ok (C := M1) (ann := fun _ => []) (Eq.mpr (wnext_vc _ w _) ?_)
  have H := At.start [] w
  refine AlP.go H fun b w2 H => ⟨fun _ => rfl, fun _ => rfl, LdP.oldA H hb (by simp) rfl ⟨fun _ => rfl, fun _ => rfl, LdP.oldA H hb (by simp) rfl (brP_neg (by simp [hl]) ?_)⟩⟩
  refine ⟨rfl, rfl, LdP.oldA H hb (by simp) rfl ⟨rfl, rfl, LdP.oldA H hb (by simp) rfl ⟨rfl, rfl, LdP.oldA H hb (by simp) rfl ⟨trivial, StP.all 0 H rfl rfl rfl fun w3 H => EnP.go H fun w4 H => LdP.at 0 H rfl rfl ⟨rfl, H.all⟩⟩⟩⟩⟩
theorem wstep_done (H : AtD D G w0 w L) (j : Nat) (hk : L[j]? = some (bk, wcs fr pg wt (-1) fd s)) (m : Option Addr) {K : Bool → World → Prop} (k : ∀ w2, AtD D G w0 w2 L → K true w2) :
    CaP Tryz.prog 62 (.el (.one .bool)) [.pointer (some ⟨bk, 0, none⟩), .pointer m] w K := by
  refine CaP.go H fun w1 H => rxFn_ok (C := M1) (ann := fun _ => []) (Eq.mpr (wstep_vc _ m w1 K) ?_)
  exact ⟨fun _ => rfl, fun _ => rfl, LdP.atA j H hk rfl (brP_neg rfl ⟨rfl, rfl, LdP.atA j H hk rfl (brP_pos rfl (EnP.go H fun w2 H => k w2 H))⟩)⟩
theorem wstep_at (H : At G w0 w ((bk, wcs fr pg wt lv fd s) :: (bm, mcs bw n c ca la) :: (bw, flat eW ws ++ rest) :: (Ls ++ L0))) (hp : PIn Ls s xs) (hx : xs.length ≤ 1000) (hn : n = ws.length) (h0 : 0 < n) (hW : okW ws) (hl : lv ≠ -1) {K : Bool → World → Prop}
    (k : ∀ w2 Ls' s', PIn Ls' s' (xs ++ [fr]) → At G w0 w2 ((bk, wcs (stepS ws pg wt (fr, lv, fd)).1 pg wt (stepS ws pg wt (fr, lv, fd)).2.1 (stepS ws pg wt (fr, lv, fd)).2.2 s') :: (bm, mcs bw n c (upM ws (atI fr pg lv) ca) la) :: (bw, flat eW ws ++ rest) :: (Ls' ++ L0)) → K ((stepS ws pg wt (fr, lv, fd)).2.1 == -1) w2) :
    CaP Tryz.prog 62 (.el (.one .bool)) [.pointer (some ⟨bk, 0, none⟩), .pointer (some ⟨bm, 0, none⟩)] w K := by
  refine CaP.go H fun w1 H => rxFn_ok (C := M1) (ann := fun _ => []) (Eq.mpr (wstep_vc _ _ w1 K) ?_)
  refine ⟨fun _ => rfl, fun _ => rfl, LdP.atA 0 H rfl rfl (brP_neg rfl ⟨rfl, rfl, LdP.atA 0 H rfl rfl (brP_neg (by simp [hl]) ?_)⟩)⟩
  refine ⟨(1, atI fr pg lv, 0, 0, ()), QCalls.of (s := .el (.agg sA)) fun w' h' => wnext_ok ((H.get (i := 0) rfl).ext h') hl, ?_⟩
  refine do_at H rfl 1 2 rfl rfl (by decide) hn h0 (atI fr pg lv) 0 0 fun w2 H => ?_
  refine AlP.go H fun b w3 H => StP.all 0 H rfl rfl rfl fun w4 H => ⟨rfl, rfl, LdP.atA 1 H rfl rfl ⟨rfl, rfl, LdP.atA 1 H rfl rfl (AlP.go H fun b1 w5 H => fun w6 h6 => ?_)⟩⟩
  have H := H.ext h6
  dsimp only at H ⊢
  generalize hv : ldV ws (atI fr pg lv) = v at H ⊢
  generalize he : ldE ws (atI fr pg lv) = er at H ⊢
  have hvr : 0 ≤ v ∧ v < 18446744073709551616 := by rw [← hv]; exact ld_rng hW _
  have H : At G w0 w6 ([(b1, cellsOf eI fr)] ++ ([(b, [.int .u64 v, .bool false, .int .i64 er]), (bk, wcs fr pg wt lv fd s), (bm, mcs bw n c (upM ws (atI fr pg lv) ca) la), (bw, flat eW ws ++ rest)] ++ (Ls ++ L0))) := H
  have H := H.perm (L' := (b1, cellsOf eI fr) :: (Ls ++ ([(b, [.int .u64 v, .bool false, .int .i64 er]), (bk, wcs fr pg wt lv fd s), (bm, mcs bw n c (upM ws (atI fr pg lv) ca) la), (bw, flat eW ws ++ rest)] ++ L0))) (.cons _ (by
    rw [← List.append_assoc, ← List.append_assoc]
    exact List.Perm.append_right _ List.perm_append_comm))
  refine AtD.grow H hp rfl rfl rfl (by omega) fun bs c' rest' w7 hlen hle H => ⟨rfl, rfl, StP.oneA 2 H rfl rfl rfl fun w8 H => ⟨rfl, LdP.atA 1 H rfl rfl ?_⟩⟩
  have hU : U (B v) = v := U_B' hvr.1 hvr.2
  refine ⟨hU, AlP.go H fun b2 w9 H => StP.all 0 H rfl rfl rfl fun w10 H => ⟨fun _ => rfl, LdP.atA 2 H rfl rfl ?_⟩⟩
  have hS : stepS ws pg wt (fr, lv, fd) = if (!okV (B v).toNat || er != 0) = true then (fr, -1, endF lv 11) else tookS fr pg wt lv fd (prP (B v).toNat) (prR (B v).toNat) (prL (B v).toNat) (prF (B v).toNat) := by
    unfold stepS
    simp only [hv, he]
    rw [if_neg hl]
  have hs' : PIn [(bs, flat eI (xs ++ [fr]) ++ rest')] (some ⟨bs, 0, none⟩, xs.length + 1, c') (xs ++ [fr]) := .inr ⟨bs, c', rest', by rw [List.length_append]; rfl, rfl, hlen, by rw [List.length_append]; exact hle⟩
  have out : ∀ {w : World} {x y : Nat × List Value} {l : List Value}, At G w0 w (x :: (bs, flat eI (xs ++ [fr]) ++ rest') :: y :: (bk, l) :: (bm, mcs bw n c (upM ws (atI fr pg lv) ca) la) :: (bw, flat eW ws ++ rest) :: L0) → At G w0 w ((bk, l) :: (bm, mcs bw n c (upM ws (atI fr pg lv) ca) la) :: (bw, flat eW ws ++ rest) :: ([(bs, flat eI (xs ++ [fr]) ++ rest')] ++ L0)) := fun {w x y l} H => by
    have H := H.sub (List.sublist_cons_self _ _)
    have H := H.sub (L' := [(bs, flat eI (xs ++ [fr]) ++ rest')] ++ ([(bk, l), (bm, mcs bw n c (upM ws (atI fr pg lv) ca) la), (bw, flat eW ws ++ rest)] ++ L0)) (.cons_cons _ (List.sublist_cons_self _ _))
    refine H.perm ?_
    refine List.Perm.trans (l₂ := [(bk, l), (bm, mcs bw n c (upM ws (atI fr pg lv) ca) la), (bw, flat eW ws ++ rest)] ++ ([(bs, flat eI (xs ++ [fr]) ++ rest')] ++ L0)) (.refl _) ?_
    rw [← List.append_assoc, ← List.append_assoc]
    exact List.Perm.append_right _ List.perm_append_comm
  refine brP_intro (fun c1 => ?_) (fun c1 => LdP.at 0 H rfl rfl ?_)
  · rw [hS, if_pos c1] at k
    exact wend_at H 3 rfl 0 0 0 11 fun w11 H => EnP.go H fun w12 H => k w12 _ _ hs' (out H)
  · rw [hS, if_neg (by rw [c1]; decide)] at k
    refine took_at H 3 rfl _ _ _ _ fun w11 H => ⟨rfl, rfl, LdP.atA 3 H rfl rfl (EnP.go H fun w12 H => k w12 _ _ hs' (out H))⟩
def badW (f p t : Int) : Bool := decide (atI f p 3 < 0) || decide (t < 0) || decide (t > 7)
theorem wnew_at (H : AtD D G w0 w L) (f p t : Int) {K : Option Addr → World → Prop} (hb : badW f p t = true → ∀ w1, AtD D G w0 w1 L → K none w1)
    (hg : badW f p t = false → ∀ bk w1, AtD D G w0 w1 ((bk, wcs f p t 3 (0, 0, 0, 0, ()) (none, 0, 0)) :: L) → K (some ⟨bk, 0, none⟩) w1) :
    CaP Tryz.prog 61 (.el (.one .ptr)) [.int .i64 f, .int .i64 p, .int .i64 t] w K := by
  refine CaP.go H fun w1 H => rxFn_ok (C := M1) (ann := fun _ => []) (Eq.mpr (wnew_vc f p t w1 K) ?_)
  refine AlP.go H fun b w2 H => ⟨trivial, brP_intro (fun c => EnP.go H fun w3 H => hb c w3 (H.sub (List.sublist_cons_self _ _))) (fun c => EnP.go H fun w3 H => hg c b w3 H)⟩
end
end Go.Proofs.YtkldededdgpmbaaGreat
namespace Go.Proofs.YtkldededdgpmbaaGreat
set_option linter.unusedSimpArgs false
set_option linter.unusedVariables false
set_option maxRecDepth 100000
open Go.RX
end Go.Proofs.YtkldededdgpmbaaGreat
namespace Go.Proofs.YtkldededdgpmbaaGreat
set_option linter.unusedSimpArgs false
set_option linter.unusedVariables false
set_option maxRecDepth 100000
open Go.RX
abbrev sW : List Sc := [.int .i64, .int .u64]
def ldW (xs : List (ScsT sW)) : List Int := xs.foldl (fun ws x => stL ws x.1 x.2.1) (List.replicate 160 0)
theorem ldW_snoc (xs : List (ScsT sW)) (x : ScsT sW) : ldW (xs ++ [x]) = stL (ldW xs) x.1 x.2.1 := by unfold ldW; rw [List.foldl_append]; rfl
theorem ld_len : ∀ (xs : List (ScsT sW)) (ws : List Int), (xs.foldl (fun ws (x : ScsT sW) => stL ws x.1 x.2.1) ws).length = ws.length
  | [], _ => rfl
  | x :: xs, ws => (ld_len xs (stL ws x.1 x.2.1)).trans (stL_len _ _ _)
theorem ldW_ok : ∀ (n : Nat) (xs : List (ScsT sW)), xs.length = n → (∀ x ∈ xs, (0 : Int) ≤ x.2.1 ∧ (x.2.1 : Int) < 18446744073709551616) → (ldW xs).length = 160 ∧ okW (ldW xs)
  | 0, xs, hn, _ => by
    have : xs = [] := List.length_eq_zero_iff.1 hn
    subst this
    refine ⟨by unfold ldW; simp, fun x hx => ?_⟩
    have : x ∈ List.replicate 160 (0 : Int) := hx
    rw [List.eq_of_mem_replicate this]; exact ⟨by decide, by decide⟩
  | n + 1, xs, hn, h => by
    obtain ⟨ys, y, rfl⟩ : ∃ ys y, xs = ys ++ [y] := by
      have hne : xs ≠ [] := fun e => by rw [e] at hn; cases hn
      exact ⟨xs.dropLast, xs.getLast hne, (List.dropLast_concat_getLast hne).symm⟩
    obtain ⟨h1, h2⟩ := ldW_ok n ys (by simpa using hn) fun x hx => h x (List.mem_append_left _ hx)
    rw [ldW_snoc]
    refine ⟨(stL_len _ _ _).trans h1, fun x hx => ?_⟩
    unfold stL at hx
    split at hx
    · rcases List.mem_or_eq_of_mem_set hx with hx | rfl
      · exact h2 x hx
      · exact h y (List.mem_append_right _ (List.mem_singleton.2 rfl))
    · exact h2 x hx
theorem up_le {ws : List Int} {i ca : Int} {k : Int} (h : 0 ≤ ca ∧ ca ≤ k) (hk : k ≤ 1000000) : 0 ≤ upM ws i ca ∧ upM ws i ca ≤ k + 1 := by
  unfold upM
  split
  · rw [addI_i64 (by omega) (by omega)]; omega
  · omega
section
variable {w0 w : World} {L : List (Nat × List Value)}
/-! ### All -/
def itS (ws : List Int) (f p t : Int) : Nat → Int × Int × FT
  | 0 => (f, 3, (0, 0, 0, 0, ()))
  | k + 1 => stepS ws p t (itS ws f p t k)
def allS (ws : List Int) (f p t : Int) : FT := if badW f p t then (0, 0, 0, 1, ()) else (itS ws f p t 4).2.2
theorem step_done {ws : List Int} {p t : Int} {x : Int × Int × FT} (h : x.2.1 = -1) : stepS ws p t x = x := if_pos h
theorem took_lv {fr pg wt lv : Int} {fd : FT} {ep : Bool} {er : Int} {el : Bool} {ef : Int} (hl : 0 ≤ lv ∧ lv ≤ 3) : (tookS fr pg wt lv fd ep er el ef).2.1 = -1 ∨ ((tookS fr pg wt lv fd ep er el ef).2.1 = lv - 1 ∧ 0 < lv) := by
  unfold tookS
  split
  · exact .inl rfl
  · split
    · rename_i h
      rw [Bool.and_eq_true, decide_eq_true_eq] at h
      exact .inr ⟨subI_i64 (by omega) (by omega), by omega⟩
    · split
      · exact .inl rfl
      · split <;> exact .inl rfl
theorem it_lv (ws : List Int) (f p t : Int) : ∀ k : Nat, (itS ws f p t k).2.1 = -1 ∨ ((itS ws f p t k).2.1 = 3 - (k : Int) ∧ k ≤ 3)
  | 0 => .inr ⟨rfl, by decide⟩
  | k + 1 => by
    rcases it_lv ws f p t k with h | ⟨h, hk⟩
    · left
      show (stepS ws p t (itS ws f p t k)).2.1 = -1
      rw [step_done h]; exact h
    · show (stepS ws p t (itS ws f p t k)).2.1 = -1 ∨ ((stepS ws p t (itS ws f p t k)).2.1 = 3 - ((k + 1 : Nat) : Int) ∧ k + 1 ≤ 3)
      generalize itS ws f p t k = x at h
      unfold stepS
      rw [if_neg (by omega)]
      split
      · exact .inl rfl
      · rcases took_lv (fr := x.1) (pg := p) (wt := t) (lv := x.2.1) (fd := x.2.2) (by omega) with e | ⟨e, e2⟩
        · exact .inl (e ..)
        · exact .inr ⟨by rw [e]; omega, by omega⟩
theorem it_stop {ws : List Int} {f p t : Int} {k : Nat} (h : (itS ws f p t k).2.1 = -1) : ∀ j, itS ws f p t (k + j) = itS ws f p t k
  | 0 => rfl
  | j + 1 => by
    show stepS ws p t (itS ws f p t (k + j)) = _
    rw [it_stop h j, step_done h]
theorem wall_at {bm bw n c : Nat} {ca la : Int} {ws : List Int} {rest : List Value} {L0 : List (Nat × List Value)} (H : At [] w0 w ((bm, mcs bw n c ca la) :: (bw, flat eW ws ++ rest) :: L0)) (hn : n = ws.length) (h0 : 0 < n) (hW : okW ws) (hca : 0 ≤ ca ∧ ca ≤ 1000) (f p t : Int) {K : FT → World → Prop}
    (k : ∀ ca' w1, ca ≤ ca' ∧ ca' ≤ ca + 4 → At [] w0 w1 ((bm, mcs bw n c ca' la) :: (bw, flat eW ws ++ rest) :: L0) → K (allS ws f p t) w1) :
    CaP Tryz.prog 24 (.el (.agg sF)) [.pointer (some ⟨bm, 0, none⟩), .int .i64 f, .int .i64 p, .int .i64 t] w K := by
  refine CaP.go H fun w1 H => rxFnR_ok (C := M1) (ann := wall_vc_ann) (Eq.mpr (wall_vc _ f p t w1 K) ?_)
  refine AlP.go H fun b w2 H => wnew_at H f p t (fun hb w3 H => ?_) fun hb bk w3 H => ?_
  · have e : allS ws f p t = (0, 0, 0, 1, ()) := if_pos hb
    rw [e] at k
    exact brP_pos rfl (StP.all 0 H rfl rfl rfl fun w4 H => EnP.go H fun w5 H => LdP.at 0 H rfl rfl (k ca w5 ⟨by omega, by omega⟩ (H.sub (List.sublist_cons_self _ _))))
  have e : allS ws f p t = (itS ws f p t 4).2.2 := if_neg (by rw [hb]; decide)
  rw [e] at k
  refine brP_neg rfl ⟨fun q _ w' => ∃ (i : Nat) (Ls : List (Nat × List Value)) (s : Option Addr × Nat × Nat) (xs : List Int) (ca' : Int), q + i = 4 ∧ i ≤ 3 ∧ (itS ws f p t i).2.1 ≠ -1 ∧ xs.length = i ∧ PIn Ls s xs ∧ (ca ≤ ca' ∧ ca' ≤ ca + i) ∧
      At [] w0 w' ((bk, wcs (itS ws f p t i).1 p t (itS ws f p t i).2.1 (itS ws f p t i).2.2 s) :: (bm, mcs bw n c ca' la) :: (bw, flat eW ws ++ rest) :: (Ls ++ ((b, [.int .i64 0, .int .i64 0, .int .i64 0, .int .i64 0]) :: L0))), ⟨4, fun w4 h4 => ⟨0, [], (none, 0, 0), [], ca, rfl, by decide, (show (3 : Int) ≠ -1 by decide), rfl, .inl ⟨rfl, rfl, rfl⟩, ⟨by omega, by omega⟩, (H.ext h4).perm ?_⟩⟩, ?_⟩
  · exact .cons _ (List.perm_append_comm (l₁ := [(bm, mcs bw n c ca la), (bw, flat eW ws ++ rest)]) (l₂ := [(b, [.int .i64 0, .int .i64 0, .int .i64 0, .int .i64 0])]) |>.append_right L0)
  clear H
  rintro q u w4 ⟨i, Ls, s, xs, ca', hq, hi3, hl, hxl, hP, hcc, H⟩
  dsimp only
  refine wstep_at H hP (by omega) hn h0 hW hl fun w5 Ls' s' hP' H => ?_
  have es : stepS ws p t ((itS ws f p t i).1, (itS ws f p t i).2.1, (itS ws f p t i).2.2) = itS ws f p t (i + 1) := rfl
  rw [es] at H ⊢
  have hup := up_le (ws := ws) (i := atI (itS ws f p t i).1 p (itS ws f p t i).2.1) (ca := ca') (k := ca') ⟨by omega, Int.le_refl _⟩ (by omega)
  have hup2 : ca' ≤ upM ws (atI (itS ws f p t i).1 p (itS ws f p t i).2.1) ca' := by
    unfold upM
    split
    · rw [addI_i64 (by omega) (by omega)]; omega
    · exact Int.le_refl _
  by_cases hd : (itS ws f p t (i + 1)).2.1 = -1
  · have e4 : itS ws f p t 4 = itS ws f p t (i + 1) := by
      have := it_stop hd (4 - (i + 1))
      rw [show i + 1 + (4 - (i + 1)) = 4 by omega] at this
      exact this
    rw [e4] at k
    generalize itS ws f p t (i + 1) = y at H hd k
    obtain ⟨y0, y1, ⟨y2, y3, y4, y5, yu⟩⟩ := y
    refine brP_neg (by rw [hd]; rfl) ⟨rfl, rfl, LdP.atA (x := (y2, y3, y4, y5, ())) 0 H rfl rfl ?_⟩
    have H := H.perm (L' := (b, [.int .i64 0, .int .i64 0, .int .i64 0, .int .i64 0]) :: ((bk, wcs y0 p t y1 (y2, y3, y4, y5, ()) s') :: (bm, mcs bw n c (upM ws (atI (itS ws f p t i).1 p (itS ws f p t i).2.1) ca') la) :: (bw, flat eW ws ++ rest) :: (Ls' ++ L0))) (by
      refine (List.perm_middle (l₁ := [(bk, wcs y0 p t y1 (y2, y3, y4, y5, ()) s'), (bm, mcs bw n c (upM ws (atI (itS ws f p t i).1 p (itS ws f p t i).2.1) ca') la), (bw, flat eW ws ++ rest)] ++ Ls') (a := (b, [.int .i64 0, .int .i64 0, .int .i64 0, .int .i64 0])) (l₂ := L0)).symm)
    refine StP.all 0 H rfl rfl rfl fun w6 H => EnP.go H fun w7 H => LdP.at 0 H rfl rfl (k (upM ws (atI (itS ws f p t i).1 p (itS ws f p t i).2.1) ca') w7 ⟨by omega, by omega⟩ ?_)
    have H := (H.sub (List.sublist_cons_self _ _)).sub (List.sublist_cons_self _ _)
    exact H.sub (.cons_cons _ (.cons_cons _ (List.sublist_append_right _ _)))
  · have hlv := (it_lv ws f p t (i + 1)).resolve_left hd
    refine brP_pos (by simp [hd]) fun w6 h6 => ⟨q - 1, by omega, i + 1, Ls', s', xs ++ [(itS ws f p t i).1], _, by omega, hlv.2, hd, by rw [List.length_append, hxl]; rfl, hP', ⟨by omega, by omega⟩, H.ext h6⟩
end
end Go.Proofs.YtkldededdgpmbaaGreat
namespace Go.Proofs.YtkldededdgpmbaaGreat
set_option linter.unusedSimpArgs false
set_option linter.unusedVariables false
set_option maxRecDepth 100000
open Go.RX
theorem set_perm {α : Type} (a : α) : ∀ (L : List α) (j : Nat), j < L.length → (L.set j a).Perm (a :: L.eraseIdx j)
  | [], _, h => by simp at h
  | x :: L, 0, _ => by simp
  | x :: L, j + 1, h => by
    rw [List.set_cons_succ, List.eraseIdx_cons_succ]
    exact ((set_perm a L j (by simpa using h)).cons x).trans (.swap a x _)
theorem set_id {α : Type} {L : List α} {j : Nat} {a : α} (ha : L[j]? = some a) : L.set j a = L := by
  apply List.ext_getElem?
  intro n
  by_cases e : j = n
  · subst e; rw [List.getElem?_set_self (List.getElem?_eq_some_iff.1 ha).1, ha]
  · rw [List.getElem?_set_ne e]
theorem front2 {α : Type} {L : List α} {j jw : Nat} {a b : α} (ha : L[j]? = some a) (hb : L[jw]? = some b) (hne : j ≠ jw) : ∃ L2, L.Perm (a :: b :: L2) ∧ ∀ a', (L.set j a').Perm (a' :: b :: L2) := by
  have hj : j < L.length := (List.getElem?_eq_some_iff.1 ha).1
  have hb2 : b ∈ L.eraseIdx j := by
    rw [List.mem_eraseIdx_iff_getElem?]
    exact ⟨jw, fun e => hne e.symm, hb⟩
  obtain ⟨i, hi⟩ := List.getElem?_of_mem hb2
  have hil : i < (L.eraseIdx j).length := (List.getElem?_eq_some_iff.1 hi).1
  have p2 : (L.eraseIdx j).Perm (b :: (L.eraseIdx j).eraseIdx i) := by
    have := set_perm b (L.eraseIdx j) i hil
    rwa [set_id hi] at this
  refine ⟨(L.eraseIdx j).eraseIdx i, ?_, fun a' => (set_perm a' L j hj).trans (p2.cons a')⟩
  have := (set_perm a L j hj).trans (p2.cons a)
  rwa [set_id ha] at this
section
variable {w0 w : World} {L : List (Nat × List Value)}
theorem wall_q {bm bw n c : Nat} {ca la : Int} {ws : List Int} {rest : List Value} (H : At [] w0 w L) (j jw : Nat) (hm : L[j]? = some (bm, mcs bw n c ca la)) (hw : L[jw]? = some (bw, flat eW ws ++ rest)) (hj : j ≠ jw) (hn : n = ws.length) (h0 : 0 < n) (hW : okW ws) (hca : 0 ≤ ca ∧ ca ≤ 1000) (f p t : Int) {K : FT → World → Prop}
    (k : ∀ ca' w1, ca ≤ ca' ∧ ca' ≤ ca + 4 → At [] w0 w1 (L.set j (bm, mcs bw n c ca' la)) → K (allS ws f p t) w1) :
    CaP Tryz.prog 24 (.el (.agg sF)) [.pointer (some ⟨bm, 0, none⟩), .int .i64 f, .int .i64 p, .int .i64 t] w K := by
  obtain ⟨L2, q1, q2⟩ := front2 hm hw hj
  exact wall_at (H.perm q1.symm) hn h0 hW hca f p t fun ca' w1 h H => k ca' w1 h (H.perm (q2 _))
theorem wnext_done {bk : Nat} {fr pg wt : Int} {fd : FT} {s : Option Addr × Nat × Nat} (hb : Blk w bk (wcs fr pg wt (-1) fd s)) : QCalls Tryz.prog 92 [.pointer (some ⟨bk, 0, none⟩)] w ((Sh.el (.agg sA)).emb (0, 0, 0, 0, ())) := QCalls.of (s := .el (.agg sA)) fun w' h' => by
  have hb := hb.ext h'
  refine rxFnR_ok (C := M1) (ann := fun _ => []) (Eq.mpr (wnext_vc _ w' _) ?_)
  have H := At.start [] w'
  refine AlP.go H fun b w2 H => ⟨fun _ => rfl, fun _ => rfl, LdP.oldA H hb (by simp) rfl ⟨fun _ => rfl, fun _ => rfl, LdP.oldA H hb (by simp) rfl (brP_pos rfl ?_)⟩⟩
  exact StP.all 0 H rfl rfl rfl fun w3 H => EnP.go H fun w4 H => LdP.at 0 H rfl rfl ⟨rfl, H.all⟩
end
/-! ### Fixed calls -/
def knX : List (ScsT sW) := [((1 : Int), (4097 : Int), ()), ((18 : Int), (8193 : Int), ()), ((35 : Int), (12289 : Int), ()), ((52 : Int), (36871 : Int), ())]
def knW : List Int := ldW knX
theorem kn_it : ∀ i : Nat, i ≤ 3 → (itS knW 0 4660 2 i).2.1 ≠ -1 ∧ (itS knW 0 4660 2 i).1 = i := by
  intro i hi
  rcases (by omega : i = 0 ∨ i = 1 ∨ i = 2 ∨ i = 3) with rfl | rfl | rfl | rfl <;> decide +kernel
theorem kn_end : itS knW 0 4660 2 4 = (3, -1, (9, 3, 0, 0, ())) := by decide +kernel
theorem kn_a1 : allS knW 0 4660 4 = (9, 3, 0, 7, ()) := by decide +kernel
theorem kn_a2 : allS knW 0 4661 0 = (0, 0, 0, 4, ()) := by decide +kernel
theorem kn_a3 : allS knW (-1) 0 0 = (0, 0, 0, 1, ()) := by decide +kernel
theorem kn_ok : okW knW := (ldW_ok 4 knX rfl (by decide +kernel)).2
end Go.Proofs.YtkldededdgpmbaaGreat
