import Derived.Test.YtffnfcokgemgjaaPNum
namespace Go.Proofs.Ytffnfcokgemgjaa
set_option linter.unusedSimpArgs false
set_option linter.unusedVariables false
set_option maxRecDepth 100000
open Go.RX
noncomputable def D0 : Cfg Try.prog := { C3 with share := true }
theorem right_vc (p : Bool) (r : Int) (l : Bool) (f : Int) (w : World) (Post : Bool → World → Prop) : (rxFn D0 (fun _ => []) 46 [.agg ⟨[.bool p, .int .i64 r, .bool l, .int .i64 f]⟩] w Post) = (
 AlP w { toList := [Value.bool p, Value.int IntKind.i64 r, Value.bool l, Value.int IntKind.i64 f] } 76 fun (b : Nat) (w2 : World) =>
  true = true ∧
   LdP w2 none (addP (some { block := b, off := 0 }) 0) (El.one Sc.bool) fun (x : Bool) =>
    brP (!x)
     (LdP w2 none (some { block := b, off := 0 }) (El.agg [Sc.bool, Sc.int IntKind.i64, Sc.bool, Sc.int IntKind.i64]) fun (x : Bool × Int × Bool × Int × Unit) =>
      EnP w2 fun (w1 : World) => Post (x.fst == false && (x.snd.fst == 0 && (x.snd.snd.fst == false && (x.snd.snd.snd.fst == 0 && true)))) w1)
     (true = true ∧
      LdP w2 none (addP (some { block := b, off := 0 }) 1) (El.one (Sc.int IntKind.i64)) fun (x : Int) =>
       ((!decide (x < 0)) = true → true = true) ∧
        LdP w2 (some !decide (x < 0)) (addP (some { block := b, off := 0 }) 1) (El.one (Sc.int IntKind.i64)) fun (x_1 : Int) =>
         ((!(decide (x < 0) || decide (x_1 > 7))) = true → true = true) ∧
          LdP w2 (some !(decide (x < 0) || decide (x_1 > 7))) (addP (some { block := b, off := 0 }) 3) (El.one (Sc.int IntKind.i64)) fun (x_2 : Int) =>
           ((!(decide (x < 0) || decide (x_1 > 7) || decide (x_2 < 0))) = true → true = true) ∧
            LdP w2 (some !(decide (x < 0) || decide (x_1 > 7) || decide (x_2 < 0))) (addP (some { block := b, off := 0 }) 3) (El.one (Sc.int IntKind.i64)) fun (x_3 : Int) =>
             brP (decide (x < 0) || decide (x_1 > 7) || decide (x_2 < 0) || decide (x_3 ≥ 4096)) (EnP w2 fun (w1 : World) => Post false w1)
              (true = true ∧
               LdP w2 none (addP (some { block := b, off := 0 }) 1) (El.one (Sc.int IntKind.i64)) fun (x : Int) =>
                ((!decide (x > 0)) = true → true = true) ∧ LdP w2 (some !decide (x > 0)) (addP (some { block := b, off := 0 }) 2) (El.one Sc.bool) fun (x_4 : Bool) => EnP w2 fun (w1 : World) => Post (decide (x > 0) || !x_4) w1))) := by kernel_rfl
theorem rright_vc (p : Bool) (r : Int) (l : Bool) (f : Int) (w : World) (Post : Bool → World → Prop) : (rxFn D0 (fun _ => []) 61 [.agg ⟨[.bool p, .int .i64 r, .bool l, .int .i64 f]⟩] w Post) = (
 AlP w { toList := [Value.bool p, Value.int IntKind.i64 r, Value.bool l, Value.int IntKind.i64 f] } 95 fun (b : Nat) (w2 : World) =>
  true = true ∧
   LdP w2 none (addP (some { block := b, off := 0 }) 0) (El.one Sc.bool) fun (x : Bool) =>
    brP (!x)
     (true = true ∧
      LdP w2 none (addP (some { block := b, off := 0 }) 1) (El.one (Sc.int IntKind.i64)) fun (x : Int) =>
       ((x == 0) = true → true = true) ∧
        LdP w2 (some (x == 0)) (addP (some { block := b, off := 0 }) 2) (El.one Sc.bool) fun (x_1 : Bool) =>
         ((x == 0 && !x_1) = true → true = true) ∧ LdP w2 (some (x == 0 && !x_1)) (addP (some { block := b, off := 0 }) 3) (El.one (Sc.int IntKind.i64)) fun (x_2 : Int) => EnP w2 fun (w1 : World) => Post (x == 0 && !x_1 && x_2 == 0) w1)
     (true = true ∧
      LdP w2 none (addP (some { block := b, off := 0 }) 1) (El.one (Sc.int IntKind.i64)) fun (x : Int) =>
       (decide (x ≥ 0) = true → true = true) ∧
        LdP w2 (some (decide (x ≥ 0))) (addP (some { block := b, off := 0 }) 1) (El.one (Sc.int IntKind.i64)) fun (x_1 : Int) =>
         ((decide (x ≥ 0) && decide (x_1 ≤ 7)) = true → true = true) ∧
          LdP w2 (some (decide (x ≥ 0) && decide (x_1 ≤ 7))) (addP (some { block := b, off := 0 }) 3) (El.one (Sc.int IntKind.i64)) fun (x_2 : Int) =>
           ((decide (x ≥ 0) && decide (x_1 ≤ 7) && decide (x_2 ≥ 0)) = true → true = true) ∧
            LdP w2 (some (decide (x ≥ 0) && decide (x_1 ≤ 7) && decide (x_2 ≥ 0))) (addP (some { block := b, off := 0 }) 3) (El.one (Sc.int IntKind.i64)) fun (x_3 : Int) =>
             ((decide (x ≥ 0) && decide (x_1 ≤ 7) && decide (x_2 ≥ 0) && decide (x_3 ≤ 4095)) = true → true = true) ∧
              LdP w2 (some (decide (x ≥ 0) && decide (x_1 ≤ 7) && decide (x_2 ≥ 0) && decide (x_3 ≤ 4095))) (addP (some { block := b, off := 0 }) 2) (El.one Sc.bool) fun (x_4 : Bool) =>
               ((decide (x ≥ 0) && decide (x_1 ≤ 7) && decide (x_2 ≥ 0) && decide (x_3 ≤ 4095) && !!x_4) = true → true = true) ∧
                LdP w2 (some (decide (x ≥ 0) && decide (x_1 ≤ 7) && decide (x_2 ≥ 0) && decide (x_3 ≤ 4095) && !!x_4)) (addP (some { block := b, off := 0 }) 1) (El.one (Sc.int IntKind.i64)) fun (x_5 : Int) =>
                 EnP w2 fun (w1 : World) => Post (decide (x ≥ 0) && decide (x_1 ≤ 7) && decide (x_2 ≥ 0) && decide (x_3 ≤ 4095) && (!x_4 || decide (x_5 > 0))) w1)) := by kernel_rfl
theorem span_vc (x : Int) (w : World) (Post : Int → World → Prop) : (rxFn D0 (fun _ => []) 52 [.int .i64 x] w Post) = (
 brP (decide (x < 0) || decide (x ≥ 4)) (EnP w fun (w1 : World) => Post 0 w1) (∀ (x_1 : Int), x_1 = mulI IntKind.i64 4 x → 0 ≤ x_1 ∧ ∀ (x : Int), x = shlI IntKind.i64 1 x_1 → EnP w fun (w1 : World) => Post x w1)) := by kernel_rfl
theorem rspan_vc (x : Int) (w : World) (Post : Int → World → Prop) : (rxFn D0 (fun _ => []) 56 [.int .i64 x] w Post) = (
 brP (decide (x < 0) || decide (x > 3)) (EnP w fun (w1 : World) => Post 0 w1)
  (AlP w { toList := [Value.int IntKind.i64 1, Value.int IntKind.i64 16, Value.int IntKind.i64 256, Value.int IntKind.i64 4096] } 3 fun (b : Nat) (w2 : World) =>
   (true = true ∧ 0 ≤ x ∧ x < (↑4 : Int)) ∧ LdP w2 none (addP (some { block := b, off := 0 }) (x.toNat * 1)) (El.one (Sc.int IntKind.i64)) fun (x : Int) => EnP w2 fun (w1 : World) => Post x w1)) := by kernel_rfl
def entL (p : Bool) (r : Int) (l : Bool) (f : Int) : List Value := [.bool p, .int .i64 r, .bool l, .int .i64 f]
theorem ent_rd {w : World} {b : Nat} {p : Bool} {r : Int} {l : Bool} {f : Int} (h : Blk w b [.bool p, .int .i64 r, .bool l, .int .i64 f]) :
    rdAt w (addP (some ⟨b, 0, none⟩) 0) (.one .bool) p ∧ rdAt w (addP (some ⟨b, 0, none⟩) 1) (.one (.int .i64)) r ∧ rdAt w (addP (some ⟨b, 0, none⟩) 2) (.one .bool) l ∧ rdAt w (addP (some ⟨b, 0, none⟩) 3) (.one (.int .i64)) f ∧
      rdAt w (some ⟨b, 0, none⟩) (.agg [.bool, .int .i64, .bool, .int .i64]) (p, r, l, f, ()) := by
  refine ⟨?_, ?_, ?_, ?_, ?_⟩
  · rw [addP_B]; exact h.rd1 rfl
  · rw [addP_B]; exact h.rd1 rfl
  · rw [addP_B]; exact h.rd1 rfl
  · rw [addP_B]; exact h.rd1 rfl
  · exact h.rdA fun i _ => by rw [Nat.zero_add]; rfl
/-- Can it be? -/
def rightE (p : Bool) (r : Int) (l : Bool) (f : Int) : Bool :=
  match p with
  | true => decide (0 ≤ r) && decide (r ≤ 7) && decide (0 ≤ f) && decide (f < 4096) && (decide (r > 0) || !l)
  | false => decide (r = 0) && !l && decide (f = 0)
theorem right_ok (p : Bool) (r : Int) (l : Bool) (f : Int) (w : World) : CallsR Try.prog 46 (.el (.one .bool)) [.agg ⟨[.bool p, .int .i64 r, .bool l, .int .i64 f]⟩] w (fun b w' => b = rightE p r l f ∧ Ext w w') := by
  refine rxFn_ok (C := D0) (ann := fun _ => []) (Eq.mpr (right_vc p r l f w _) ?_)
  intro w1 h1
  obtain ⟨g0, g1, g2, g3, ga⟩ := ent_rd (Blk.new w1 [.bool p, .int .i64 r, .bool l, .int .i64 f] 76)
  refine ⟨rfl, p, g0, brP_intro (fun h => ⟨_, ga, fun w2 h2 => ⟨?_, (h1.allocd _).trans h2⟩⟩) (fun h => ⟨rfl, r, g1, fun _ => rfl, r, fun _ => g1, fun _ => rfl, f, fun _ => g3, fun _ => rfl, f, fun _ => g3, brP_intro (fun h3 => fun w2 h2 => ⟨?_, (h1.allocd _).trans h2⟩) (fun h3 => ⟨rfl, r, g1, fun _ => rfl, l, fun _ => g2, fun w2 h2 => ⟨?_, (h1.allocd _).trans h2⟩⟩)⟩)⟩
  · have hp : p = false := by simpa using h
    subst hp
    by_cases c1 : r = 0 <;> by_cases c2 : f = 0 <;> cases l <;> simp [rightE, c1, c2]
  · have hp : p = true := by simpa using h
    subst hp
    simp only [Bool.or_eq_true, decide_eq_true_eq] at h3
    symm
    simp only [rightE, Bool.and_eq_false_iff, decide_eq_false_iff_not]
    omega
  · have hp : p = true := by simpa using h
    subst hp
    simp only [Bool.or_eq_false_iff, decide_eq_false_iff_not] at h3
    have c1 : 0 ≤ r := by omega
    have c2 : r ≤ 7 := by omega
    have c3 : 0 ≤ f := by omega
    have c4 : f < 4096 := by omega
    simp [rightE, c1, c2, c3, c4]
theorem rright_ok (p : Bool) (r : Int) (l : Bool) (f : Int) (w : World) : CallsR Try.prog 61 (.el (.one .bool)) [.agg ⟨[.bool p, .int .i64 r, .bool l, .int .i64 f]⟩] w (fun b w' => b = rightE p r l f ∧ Ext w w') := by
  refine rxFn_ok (C := D0) (ann := fun _ => []) (Eq.mpr (rright_vc p r l f w _) ?_)
  intro w1 h1
  obtain ⟨g0, g1, g2, g3, ga⟩ := ent_rd (Blk.new w1 [.bool p, .int .i64 r, .bool l, .int .i64 f] 95)
  refine ⟨rfl, p, g0, brP_intro (fun h => ⟨rfl, r, g1, fun _ => rfl, l, fun _ => g2, fun _ => rfl, f, fun _ => g3, fun w2 h2 => ⟨?_, (h1.allocd _).trans h2⟩⟩) (fun h => ⟨rfl, r, g1, fun _ => rfl, r, fun _ => g1, fun _ => rfl, f, fun _ => g3, fun _ => rfl, f, fun _ => g3, fun _ => rfl, l, fun _ => g2, fun _ => rfl, r, fun _ => g1, fun w2 h2 => ⟨?_, (h1.allocd _).trans h2⟩⟩)⟩
  · have hp : p = false := by simpa using h
    subst hp
    by_cases c1 : r = 0 <;> by_cases c2 : f = 0 <;> cases l <;> simp [rightE, c1, c2]
  · have hp : p = true := by simpa using h
    subst hp
    have e : decide (f ≤ 4095) = decide (f < 4096) := by
      by_cases c : f < 4096
      · have : f ≤ 4095 := by omega
        simp [c, this]
      · have : ¬ f ≤ 4095 := by omega
        simp [c, this]
    show (decide (0 ≤ r) && decide (r ≤ 7) && decide (0 ≤ f) && decide (f ≤ 4095) && (!l || decide (r > 0))) = _
    rw [e, Bool.or_comm]
    rfl
noncomputable def eRight : Entry Try.prog where
  f := 46
  fn l := match l with
    | [.agg ⟨[.bool p, .int .i64 r, .bool l, .int .i64 f]⟩] => some (True, .bool (rightE p r l f))
    | _ => none
  ok args pre v h hp w := by
    split at h
    · rename_i p r l f
      cases h
      exact entry_of (right_ok p r l f w)
    · cases h
noncomputable def eRRight : Entry Try.prog where
  f := 61
  fn l := match l with
    | [.agg ⟨[.bool p, .int .i64 r, .bool l, .int .i64 f]⟩] => some (True, .bool (rightE p r l f))
    | _ => none
  ok args pre v h hp w := by
    split at h
    · rename_i p r l f
      cases h
      exact entry_of (rright_ok p r l f w)
    · cases h
/-- How many pages. -/
def spanI (x : Int) : Int := if x = 0 then 1 else if x = 1 then 16 else if x = 2 then 256 else if x = 3 then 4096 else 0
theorem span_ok (x : Int) (w : World) : CallsR Try.prog 52 (.el (.one (.int .i64))) [.int .i64 x] w (fun b w' => b = spanI x ∧ Ext w w') := by
  refine rxFn_ok (C := D0) (ann := fun _ => []) (Eq.mpr (span_vc x w _) ?_)
  refine brP_intro (fun h w1 h1 => ⟨?_, h1⟩) (fun h y ey => ?_)
  · simp only [Bool.or_eq_true, decide_eq_true_eq] at h
    unfold spanI
    rw [if_neg (by omega), if_neg (by omega), if_neg (by omega), if_neg (by omega)]
  · simp only [Bool.or_eq_false_iff, decide_eq_false_iff_not] at h
    rw [mulI_i64 (by omega) (by omega)] at ey
    refine ⟨by omega, fun z ez w1 h1 => ⟨?_, h1⟩⟩
    have : x = 0 ∨ x = 1 ∨ x = 2 ∨ x = 3 := by omega
    rcases this with rfl | rfl | rfl | rfl <;> (subst ey; rw [ez]; decide +kernel)
theorem rspan_ok (x : Int) (w : World) : CallsR Try.prog 56 (.el (.one (.int .i64))) [.int .i64 x] w (fun b w' => b = spanI x ∧ Ext w w') := by
  refine rxFn_ok (C := D0) (ann := fun _ => []) (Eq.mpr (rspan_vc x w _) ?_)
  refine brP_intro (fun h w1 h1 => ⟨?_, h1⟩) (fun h w1 h1 => ?_)
  · simp only [Bool.or_eq_true, decide_eq_true_eq] at h
    unfold spanI
    rw [if_neg (by omega), if_neg (by omega), if_neg (by omega), if_neg (by omega)]
  · simp only [Bool.or_eq_false_iff, decide_eq_false_iff_not] at h
    have sl : Sl (w1.alloc (.cells ⟨[Value.int .i64 1, Value.int .i64 16, Value.int .i64 256, Value.int .i64 4096]⟩ 3)) eI (some ⟨w1.heap.size, 0, none⟩) [1, 16, 256, 4096] := Sl.of_blk (Blk.new w1 _ _) rfl
    have hx : x.toNat < 4 := by omega
    have g : [(1 : Int), 16, 256, 4096][x.toNat]? = some (spanI x) := by
      have : x = 0 ∨ x = 1 ∨ x = 2 ∨ x = 3 := by omega
      rcases this with rfl | rfl | rfl | rfl <;> rfl
    exact ⟨⟨rfl, by omega, by omega⟩, _, (sl _ _ g).2, fun w2 h2 => ⟨rfl, (h1.allocd _).trans h2⟩⟩
noncomputable def eSpan : Entry Try.prog where
  f := 52
  fn l := match l with
    | [.int .i64 x] => some (True, .int .i64 (spanI x))
    | _ => none
  ok args pre v h hp w := by
    split at h
    · rename_i x
      cases h
      exact entry_of (span_ok x w)
    · cases h
noncomputable def eRSpan : Entry Try.prog where
  f := 56
  fn l := match l with
    | [.int .i64 x] => some (True, .int .i64 (spanI x))
    | _ => none
  ok args pre v h hp w := by
    split at h
    · rename_i x
      cases h
      exact entry_of (rspan_ok x w)
    · cases h
noncomputable def D1 : Cfg Try.prog := { D0 with tab := [eFits, eIs, eBit, eOne, eMask, eRGet, eGet, eRight, eRRight, eSpan, eRSpan] }
end Go.Proofs.Ytffnfcokgemgjaa
