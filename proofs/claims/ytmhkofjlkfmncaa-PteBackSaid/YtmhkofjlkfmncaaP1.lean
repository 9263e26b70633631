import Derived.Test.YtmhkofjlkfmncaaPNum
namespace Go.Proofs.Ytmhkofjlkfmncaa
open Go.RX
noncomputable def D0 : Cfg Try.prog := { C3 with share := true }
theorem pbit_vc (b : Bool) (w : World) (Post : Int → World → Prop) : (rxFn D0 (fun _ => []) 28 [.bool b] w Post) = (
 brP b (∀ (w1 : World), Ext w w1 → Post 1 w1) (∀ (w1 : World), Ext w w1 → Post 0 w1)) := by kernel_rfl
theorem right_vc (p : Bool) (r : Int) (l : Bool) (f : Int) (w : World) (Post : Bool → World → Prop) : (rxFn D0 (fun _ => []) 14 [.agg ⟨[.bool p, .int .i64 r, .bool l, .int .i64 f]⟩] w Post) = (
 ∀ (w1 : World),
  Ext w w1 →
   true = true ∧
    ∃ (x : Bool),
     rdAt (w1.alloc (Obj.cells { toList := [Value.bool p, Value.int IntKind.i64 r, Value.bool l, Value.int IntKind.i64 f] } 23)) (addP (some { block := w1.heap.size, off := 0 }) 0) (El.one Sc.bool) x ∧
      brP (!x)
       (∃ (x : Bool × Int × Bool × Int × Unit),
        rdAt (w1.alloc (Obj.cells { toList := [Value.bool p, Value.int IntKind.i64 r, Value.bool l, Value.int IntKind.i64 f] } 23)) (some { block := w1.heap.size, off := 0 }) (El.agg [Sc.bool, Sc.int IntKind.i64, Sc.bool, Sc.int IntKind.i64]) x ∧
         ∀ (w1_1 : World),
          Ext (w1.alloc (Obj.cells { toList := [Value.bool p, Value.int IntKind.i64 r, Value.bool l, Value.int IntKind.i64 f] } 23)) w1_1 → Post (x.fst == false && (x.snd.fst == 0 && (x.snd.snd.fst == false && (x.snd.snd.snd.fst == 0 && true)))) w1_1)
       (true = true ∧
        ∃ (x : Int),
         rdAt (w1.alloc (Obj.cells { toList := [Value.bool p, Value.int IntKind.i64 r, Value.bool l, Value.int IntKind.i64 f] } 23)) (addP (some { block := w1.heap.size, off := 0 }) 1) (El.one (Sc.int IntKind.i64)) x ∧
          ((!decide (x < 0)) = true → true = true) ∧
           ∃ (x_1 : Int),
            ((!decide (x < 0)) = true →
              rdAt (w1.alloc (Obj.cells { toList := [Value.bool p, Value.int IntKind.i64 r, Value.bool l, Value.int IntKind.i64 f] } 23)) (addP (some { block := w1.heap.size, off := 0 }) 1) (El.one (Sc.int IntKind.i64)) x_1) ∧
             ((!(decide (x < 0) || decide (x_1 > 7))) = true → true = true) ∧
              ∃ (x_2 : Int),
               ((!(decide (x < 0) || decide (x_1 > 7))) = true →
                 rdAt (w1.alloc (Obj.cells { toList := [Value.bool p, Value.int IntKind.i64 r, Value.bool l, Value.int IntKind.i64 f] } 23)) (addP (some { block := w1.heap.size, off := 0 }) 3) (El.one (Sc.int IntKind.i64)) x_2) ∧
                ((!(decide (x < 0) || decide (x_1 > 7) || decide (x_2 < 0))) = true → true = true) ∧
                 ∃ (x_3 : Int),
                  ((!(decide (x < 0) || decide (x_1 > 7) || decide (x_2 < 0))) = true →
                    rdAt (w1.alloc (Obj.cells { toList := [Value.bool p, Value.int IntKind.i64 r, Value.bool l, Value.int IntKind.i64 f] } 23)) (addP (some { block := w1.heap.size, off := 0 }) 3) (El.one (Sc.int IntKind.i64)) x_3) ∧
                   brP (decide (x < 0) || decide (x_1 > 7) || decide (x_2 < 0) || decide (x_3 ≥ 4096))
                    (∀ (w1_1 : World), Ext (w1.alloc (Obj.cells { toList := [Value.bool p, Value.int IntKind.i64 r, Value.bool l, Value.int IntKind.i64 f] } 23)) w1_1 → Post false w1_1)
                    (true = true ∧
                     ∃ (x : Int),
                      rdAt (w1.alloc (Obj.cells { toList := [Value.bool p, Value.int IntKind.i64 r, Value.bool l, Value.int IntKind.i64 f] } 23)) (addP (some { block := w1.heap.size, off := 0 }) 1) (El.one (Sc.int IntKind.i64)) x ∧
                       ((!decide (x > 0)) = true → true = true) ∧
                        ∃ (x_4 : Bool),
                         ((!decide (x > 0)) = true →
                           rdAt (w1.alloc (Obj.cells { toList := [Value.bool p, Value.int IntKind.i64 r, Value.bool l, Value.int IntKind.i64 f] } 23)) (addP (some { block := w1.heap.size, off := 0 }) 2) (El.one Sc.bool) x_4) ∧
                          ∀ (w1_1 : World), Ext (w1.alloc (Obj.cells { toList := [Value.bool p, Value.int IntKind.i64 r, Value.bool l, Value.int IntKind.i64 f] } 23)) w1_1 → Post (decide (x > 0) || !x_4) w1_1))) := by kernel_rfl
theorem rright_vc (p : Bool) (r : Int) (l : Bool) (f : Int) (w : World) (Post : Bool → World → Prop) : (rxFn D0 (fun _ => []) 15 [.agg ⟨[.bool p, .int .i64 r, .bool l, .int .i64 f]⟩] w Post) = (
 ∀ (w1 : World),
  Ext w w1 →
   true = true ∧
    ∃ (x : Bool),
     rdAt (w1.alloc (Obj.cells { toList := [Value.bool p, Value.int IntKind.i64 r, Value.bool l, Value.int IntKind.i64 f] } 29)) (addP (some { block := w1.heap.size, off := 0 }) 0) (El.one Sc.bool) x ∧
      brP (!x)
       (true = true ∧
        ∃ (x : Int),
         rdAt (w1.alloc (Obj.cells { toList := [Value.bool p, Value.int IntKind.i64 r, Value.bool l, Value.int IntKind.i64 f] } 29)) (addP (some { block := w1.heap.size, off := 0 }) 1) (El.one (Sc.int IntKind.i64)) x ∧
          ((x == 0) = true → true = true) ∧
           ∃ (x_1 : Bool),
            ((x == 0) = true → rdAt (w1.alloc (Obj.cells { toList := [Value.bool p, Value.int IntKind.i64 r, Value.bool l, Value.int IntKind.i64 f] } 29)) (addP (some { block := w1.heap.size, off := 0 }) 2) (El.one Sc.bool) x_1) ∧
             ((x == 0 && !x_1) = true → true = true) ∧
              ∃ (x_2 : Int),
               ((x == 0 && !x_1) = true →
                 rdAt (w1.alloc (Obj.cells { toList := [Value.bool p, Value.int IntKind.i64 r, Value.bool l, Value.int IntKind.i64 f] } 29)) (addP (some { block := w1.heap.size, off := 0 }) 3) (El.one (Sc.int IntKind.i64)) x_2) ∧
                ∀ (w1_1 : World), Ext (w1.alloc (Obj.cells { toList := [Value.bool p, Value.int IntKind.i64 r, Value.bool l, Value.int IntKind.i64 f] } 29)) w1_1 → Post (x == 0 && !x_1 && x_2 == 0) w1_1)
       (true = true ∧
        ∃ (x : Int),
         rdAt (w1.alloc (Obj.cells { toList := [Value.bool p, Value.int IntKind.i64 r, Value.bool l, Value.int IntKind.i64 f] } 29)) (addP (some { block := w1.heap.size, off := 0 }) 1) (El.one (Sc.int IntKind.i64)) x ∧
          (decide (x ≥ 0) = true → true = true) ∧
           ∃ (x_1 : Int),
            (decide (x ≥ 0) = true → rdAt (w1.alloc (Obj.cells { toList := [Value.bool p, Value.int IntKind.i64 r, Value.bool l, Value.int IntKind.i64 f] } 29)) (addP (some { block := w1.heap.size, off := 0 }) 1) (El.one (Sc.int IntKind.i64)) x_1) ∧
             ((decide (x ≥ 0) && decide (x_1 ≤ 7)) = true → true = true) ∧
              ∃ (x_2 : Int),
               ((decide (x ≥ 0) && decide (x_1 ≤ 7)) = true →
                 rdAt (w1.alloc (Obj.cells { toList := [Value.bool p, Value.int IntKind.i64 r, Value.bool l, Value.int IntKind.i64 f] } 29)) (addP (some { block := w1.heap.size, off := 0 }) 3) (El.one (Sc.int IntKind.i64)) x_2) ∧
                ((decide (x ≥ 0) && decide (x_1 ≤ 7) && decide (x_2 ≥ 0)) = true → true = true) ∧
                 ∃ (x_3 : Int),
                  ((decide (x ≥ 0) && decide (x_1 ≤ 7) && decide (x_2 ≥ 0)) = true →
                    rdAt (w1.alloc (Obj.cells { toList := [Value.bool p, Value.int IntKind.i64 r, Value.bool l, Value.int IntKind.i64 f] } 29)) (addP (some { block := w1.heap.size, off := 0 }) 3) (El.one (Sc.int IntKind.i64)) x_3) ∧
                   ((decide (x ≥ 0) && decide (x_1 ≤ 7) && decide (x_2 ≥ 0) && decide (x_3 ≤ 4095)) = true → true = true) ∧
                    ∃ (x_4 : Bool),
                     ((decide (x ≥ 0) && decide (x_1 ≤ 7) && decide (x_2 ≥ 0) && decide (x_3 ≤ 4095)) = true →
                       rdAt (w1.alloc (Obj.cells { toList := [Value.bool p, Value.int IntKind.i64 r, Value.bool l, Value.int IntKind.i64 f] } 29)) (addP (some { block := w1.heap.size, off := 0 }) 2) (El.one Sc.bool) x_4) ∧
                      ((decide (x ≥ 0) && decide (x_1 ≤ 7) && decide (x_2 ≥ 0) && decide (x_3 ≤ 4095) && !!x_4) = true → true = true) ∧
                       ∃ (x_5 : Int),
                        ((decide (x ≥ 0) && decide (x_1 ≤ 7) && decide (x_2 ≥ 0) && decide (x_3 ≤ 4095) && !!x_4) = true →
                          rdAt (w1.alloc (Obj.cells { toList := [Value.bool p, Value.int IntKind.i64 r, Value.bool l, Value.int IntKind.i64 f] } 29)) (addP (some { block := w1.heap.size, off := 0 }) 1) (El.one (Sc.int IntKind.i64)) x_5) ∧
                         ∀ (w1_1 : World),
                          Ext (w1.alloc (Obj.cells { toList := [Value.bool p, Value.int IntKind.i64 r, Value.bool l, Value.int IntKind.i64 f] } 29)) w1_1 →
                           Post (decide (x ≥ 0) && decide (x_1 ≤ 7) && decide (x_2 ≥ 0) && decide (x_3 ≤ 4095) && (!x_4 || decide (x_5 > 0))) w1_1)) := by kernel_rfl
theorem span_vc (x : Int) (w : World) (Post : Int → World → Prop) : (rxFn D0 (fun _ => []) 25 [.int .i64 x] w Post) = (
 brP (decide (x < 0) || decide (x ≥ 4)) (∀ (w1 : World), Ext w w1 → Post 0 w1) (∀ (x_1 : Int), x_1 = mulI IntKind.i64 4 x → 0 ≤ x_1 ∧ ∀ (x : Int), x = shlI IntKind.i64 1 x_1 → ∀ (w1 : World), Ext w w1 → Post x w1)) := by kernel_rfl
theorem rspan_vc (x : Int) (w : World) (Post : Int → World → Prop) : (rxFn D0 (fun _ => []) 26 [.int .i64 x] w Post) = (
 brP (decide (x < 0) || decide (x > 3)) (∀ (w1 : World), Ext w w1 → Post 0 w1)
  (∀ (w1 : World),
   Ext w w1 →
    (true = true ∧ 0 ≤ x ∧ x < (↑4 : Int)) ∧
     ∃ (x_1 : Int),
      rdAt (w1.alloc (Obj.cells { toList := [Value.int IntKind.i64 1, Value.int IntKind.i64 16, Value.int IntKind.i64 256, Value.int IntKind.i64 4096] } 3)) (addP (some { block := w1.heap.size, off := 0 }) (x.toNat * 1)) (El.one (Sc.int IntKind.i64))
        x_1 ∧
       ∀ (w1_1 : World), Ext (w1.alloc (Obj.cells { toList := [Value.int IntKind.i64 1, Value.int IntKind.i64 16, Value.int IntKind.i64 256, Value.int IntKind.i64 4096] } 3)) w1_1 → Post x_1 w1_1)) := by kernel_rfl
def entL (p : Bool) (r : Int) (l : Bool) (f : Int) : List Value := [.bool p, .int .i64 r, .bool l, .int .i64 f]
theorem ent_rd {w : World} {b : Nat} {p : Bool} {r : Int} {l : Bool} {f : Int} (h : Blk w b [.bool p, .int .i64 r, .bool l, .int .i64 f]) :
    rdAt w (addP (some ⟨b, 0, none⟩) 0) (.one .bool) p ∧ rdAt w (addP (some ⟨b, 0, none⟩) 1) (.one (.int .i64)) r ∧ rdAt w (addP (some ⟨b, 0, none⟩) 2) (.one .bool) l ∧ rdAt w (addP (some ⟨b, 0, none⟩) 3) (.one (.int .i64)) f ∧
      rdAt w (some ⟨b, 0, none⟩) (.agg [.bool, .int .i64, .bool, .int .i64]) (p, r, l, f, ()) := by
  refine ⟨?_, ?_, ?_, ?_, ?_⟩
  · rw [addP_B]; exact h.rd1 rfl
  · rw [addP_B]; exact h.rd1 rfl
  · rw [addP_B]; exact h.rd1 rfl
  · rw [addP_B]; exact h.rd1 rfl
  · exact h.rdA fun i _ => by rw [Nat.zero_add]; rfl
/-- Can it be? -/
def rightE (p : Bool) (r : Int) (l : Bool) (f : Int) : Bool :=
  match p with
  | true => decide (0 ≤ r) && decide (r ≤ 7) && decide (0 ≤ f) && decide (f < 4096) && (decide (r > 0) || !l)
  | false => decide (r = 0) && !l && decide (f = 0)
theorem right_ok (p : Bool) (r : Int) (l : Bool) (f : Int) (w : World) : CallsR Try.prog 14 (.el (.one .bool)) [.agg ⟨[.bool p, .int .i64 r, .bool l, .int .i64 f]⟩] w (fun b w' => b = rightE p r l f ∧ Ext w w') := by
  refine rxFn_ok (C := D0) (ann := fun _ => []) (Eq.mpr (right_vc p r l f w _) ?_)
  intro w1 h1
  obtain ⟨g0, g1, g2, g3, ga⟩ := ent_rd (Blk.new w1 [.bool p, .int .i64 r, .bool l, .int .i64 f] 23)
  refine ⟨rfl, p, g0, brP_intro (fun h => ⟨_, ga, fun w2 h2 => ⟨?_, (h1.allocd _).trans h2⟩⟩) (fun h => ⟨rfl, r, g1, fun _ => rfl, r, fun _ => g1, fun _ => rfl, f, fun _ => g3, fun _ => rfl, f, fun _ => g3, brP_intro (fun h3 => fun w2 h2 => ⟨?_, (h1.allocd _).trans h2⟩) (fun h3 => ⟨rfl, r, g1, fun _ => rfl, l, fun _ => g2, fun w2 h2 => ⟨?_, (h1.allocd _).trans h2⟩⟩)⟩)⟩
  · have hp : p = false := by simpa using h
    subst hp
    by_cases c1 : r = 0 <;> by_cases c2 : f = 0 <;> cases l <;> simp [rightE, c1, c2]
  · have hp : p = true := by simpa using h
    subst hp
    simp only [Bool.or_eq_true, decide_eq_true_eq] at h3
    symm
    simp only [rightE, Bool.and_eq_false_iff, decide_eq_false_iff_not]
    omega
  · have hp : p = true := by simpa using h
    subst hp
    simp only [Bool.or_eq_false_iff, decide_eq_false_iff_not] at h3
    have c1 : 0 ≤ r := by omega
    have c2 : r ≤ 7 := by omega
    have c3 : 0 ≤ f := by omega
    have c4 : f < 4096 := by omega
    simp [rightE, c1, c2, c3, c4]
theorem rright_ok (p : Bool) (r : Int) (l : Bool) (f : Int) (w : World) : CallsR Try.prog 15 (.el (.one .bool)) [.agg ⟨[.bool p, .int .i64 r, .bool l, .int .i64 f]⟩] w (fun b w' => b = rightE p r l f ∧ Ext w w') := by
  refine rxFn_ok (C := D0) (ann := fun _ => []) (Eq.mpr (rright_vc p r l f w _) ?_)
  intro w1 h1
  obtain ⟨g0, g1, g2, g3, ga⟩ := ent_rd (Blk.new w1 [.bool p, .int .i64 r, .bool l, .int .i64 f] 29)
  refine ⟨rfl, p, g0, brP_intro (fun h => ⟨rfl, r, g1, fun _ => rfl, l, fun _ => g2, fun _ => rfl, f, fun _ => g3, fun w2 h2 => ⟨?_, (h1.allocd _).trans h2⟩⟩) (fun h => ⟨rfl, r, g1, fun _ => rfl, r, fun _ => g1, fun _ => rfl, f, fun _ => g3, fun _ => rfl, f, fun _ => g3, fun _ => rfl, l, fun _ => g2, fun _ => rfl, r, fun _ => g1, fun w2 h2 => ⟨?_, (h1.allocd _).trans h2⟩⟩)⟩
  · have hp : p = false := by simpa using h
    subst hp
    by_cases c1 : r = 0 <;> by_cases c2 : f = 0 <;> cases l <;> simp [rightE, c1, c2]
  · have hp : p = true := by simpa using h
    subst hp
    have e : decide (f ≤ 4095) = decide (f < 4096) := by
      by_cases c : f < 4096
      · have : f ≤ 4095 := by omega
        simp [c, this]
      · have : ¬ f ≤ 4095 := by omega
        simp [c, this]
    show (decide (0 ≤ r) && decide (r ≤ 7) && decide (0 ≤ f) && decide (f ≤ 4095) && (!l || decide (r > 0))) = _
    rw [e, Bool.or_comm]
    rfl
noncomputable def ePBit : Entry Try.prog where
  f := 28
  fn l := match l with
    | [.bool b] => some (True, .int .u64 (U (bB b)))
    | _ => none
  ok args pre v h hp w := by
    split at h
    · rename_i b
      cases h
      refine entry_of (x := U (bB b)) (rxFn_ok (C := D0) (ann := fun _ => []) (Eq.mpr (pbit_vc b w _) ?_))
      exact brP_intro (fun hb w1 h1 => ⟨by subst hb; rfl, h1⟩) (fun hb w1 h1 => ⟨by subst hb; rfl, h1⟩)
    · cases h
noncomputable def eRight : Entry Try.prog where
  f := 14
  fn l := match l with
    | [.agg ⟨[.bool p, .int .i64 r, .bool l, .int .i64 f]⟩] => some (True, .bool (rightE p r l f))
    | _ => none
  ok args pre v h hp w := by
    split at h
    · rename_i p r l f
      cases h
      exact entry_of (right_ok p r l f w)
    · cases h
noncomputable def eRRight : Entry Try.prog where
  f := 15
  fn l := match l with
    | [.agg ⟨[.bool p, .int .i64 r, .bool l, .int .i64 f]⟩] => some (True, .bool (rightE p r l f))
    | _ => none
  ok args pre v h hp w := by
    split at h
    · rename_i p r l f
      cases h
      exact entry_of (rright_ok p r l f w)
    · cases h
/-- How many pages. -/
def spanI (x : Int) : Int := if x = 0 then 1 else if x = 1 then 16 else if x = 2 then 256 else if x = 3 then 4096 else 0
theorem span_ok (x : Int) (w : World) : CallsR Try.prog 25 (.el (.one (.int .i64))) [.int .i64 x] w (fun b w' => b = spanI x ∧ Ext w w') := by
  refine rxFn_ok (C := D0) (ann := fun _ => []) (Eq.mpr (span_vc x w _) ?_)
  refine brP_intro (fun h w1 h1 => ⟨?_, h1⟩) (fun h y ey => ?_)
  · simp only [Bool.or_eq_true, decide_eq_true_eq] at h
    unfold spanI
    rw [if_neg (by omega), if_neg (by omega), if_neg (by omega), if_neg (by omega)]
  · simp only [Bool.or_eq_false_iff, decide_eq_false_iff_not] at h
    rw [mulI_i64 (by omega) (by omega)] at ey
    refine ⟨by omega, fun z ez w1 h1 => ⟨?_, h1⟩⟩
    have : x = 0 ∨ x = 1 ∨ x = 2 ∨ x = 3 := by omega
    rcases this with rfl | rfl | rfl | rfl <;> (subst ey; rw [ez]; decide +kernel)
theorem rspan_ok (x : Int) (w : World) : CallsR Try.prog 26 (.el (.one (.int .i64))) [.int .i64 x] w (fun b w' => b = spanI x ∧ Ext w w') := by
  refine rxFn_ok (C := D0) (ann := fun _ => []) (Eq.mpr (rspan_vc x w _) ?_)
  refine brP_intro (fun h w1 h1 => ⟨?_, h1⟩) (fun h w1 h1 => ?_)
  · simp only [Bool.or_eq_true, decide_eq_true_eq] at h
    unfold spanI
    rw [if_neg (by omega), if_neg (by omega), if_neg (by omega), if_neg (by omega)]
  · simp only [Bool.or_eq_false_iff, decide_eq_false_iff_not] at h
    have sl : Sl (w1.alloc (.cells ⟨[Value.int .i64 1, Value.int .i64 16, Value.int .i64 256, Value.int .i64 4096]⟩ 3)) eI (some ⟨w1.heap.size, 0, none⟩) [1, 16, 256, 4096] := Sl.of_blk (Blk.new w1 _ _) rfl
    have hx : x.toNat < 4 := by omega
    have g : [(1 : Int), 16, 256, 4096][x.toNat]? = some (spanI x) := by
      have : x = 0 ∨ x = 1 ∨ x = 2 ∨ x = 3 := by omega
      rcases this with rfl | rfl | rfl | rfl <;> rfl
    exact ⟨⟨rfl, by omega, by omega⟩, _, (sl _ _ g).2, fun w2 h2 => ⟨rfl, (h1.allocd _).trans h2⟩⟩
noncomputable def eSpan : Entry Try.prog where
  f := 25
  fn l := match l with
    | [.int .i64 x] => some (True, .int .i64 (spanI x))
    | _ => none
  ok args pre v h hp w := by
    split at h
    · rename_i x
      cases h
      exact entry_of (span_ok x w)
    · cases h
noncomputable def eRSpan : Entry Try.prog where
  f := 26
  fn l := match l with
    | [.int .i64 x] => some (True, .int .i64 (spanI x))
    | _ => none
  ok args pre v h hp w := by
    split at h
    · rename_i x
      cases h
      exact entry_of (rspan_ok x w)
    · cases h
noncomputable def D1 : Cfg Try.prog := { D0 with tab := [eFits, eIs, eBit, eOne, eMask, eRGet, eGet, ePut, ePBit, eRight, eRRight, eSpan, eRSpan] }
end Go.Proofs.Ytmhkofjlkfmncaa
