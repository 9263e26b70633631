import Derived.Test.YtogndkmclingeaaQ1
namespace Go.Proofs.Ytogndkmclingeaa
set_option linter.unusedSimpArgs false
set_option linter.unusedVariables false
open Go.RX
noncomputable def eCan : Entry Try.prog where
  f := 41
  fn l := match l with
    | [.int .i64 a, .int .i64 b] => some (True, .bool (decide (b ∈ leadsL a)))
    | _ => none
  ok args pre v h hp w := by
    split at h
    · rename_i a b
      cases h
      exact entry_of (can_ok a b w)
    · cases h
/-- Is there a way from one kind to another one? -/
def rlI (a b : Int) : Bool := if a = 0 then decide (b ≥ 1) && decide (b ≤ 4) else if a = 1 then b == 0 || decide (b ≥ 2) && decide (b ≤ 4) else if a = 2 then b == 5 || b == 0 else if a = 3 then b == 5 || b == 0 else if a = 4 then b == 5 || b == 0 || b == 4 else b == 0
theorem rleads_ok (a b : Int) (w : World) : CallsR Try.prog 44 (.el (.one .bool)) [.int .i64 a, .int .i64 b] w (fun x w' => x = rlI a b ∧ Ext w w') := by
  refine rxFn_ok (C := D0) (ann := fun _ => []) (Eq.mpr (rleads_vc a b w _) ?_)
  refine brP_intro (fun h0 w1 h1 => ⟨?_, h1⟩) (fun h0 => brP_intro (fun h1 w1 k1 => ⟨?_, k1⟩) (fun h1 => brP_intro (fun h2 => brP_intro (fun _ w1 k1 => ⟨?_, k1⟩) (fun n2 => by rw [h2] at n2; cases n2)) (fun h2 => brP_intro (fun h3 w1 k1 => ⟨?_, k1⟩) (fun h3 => brP_intro (fun h4 w1 k1 => ⟨?_, k1⟩) (fun h4 w1 k1 => ⟨?_, k1⟩)))))
  all_goals simp only [beq_iff_eq, beq_eq_false_iff_ne, ne_eq] at *
  · unfold rlI; rw [if_pos h0]
  · unfold rlI; rw [if_neg h0, if_pos h1]
  · unfold rlI; rw [if_neg h0, if_neg h1, if_pos h2]
  · unfold rlI; rw [if_neg h0, if_neg h1, if_neg h2, if_pos h3]
  · unfold rlI; rw [if_neg h0, if_neg h1, if_neg h2, if_neg h3, if_pos h4]
  · unfold rlI; rw [if_neg h0, if_neg h1, if_neg h2, if_neg h3, if_neg h4]
/-- The two ways say the same of kinds that are. -/
theorem leads_rl {a : Int} (b : Int) (h : 0 ≤ a ∧ a ≤ 5) : decide (b ∈ leadsL a) = rlI a b := by
  have : a = 0 ∨ a = 1 ∨ a = 2 ∨ a = 3 ∨ a = 4 ∨ a = 5 := by omega
  rw [Bool.eq_iff_iff, decide_eq_true_eq]
  rcases this with rfl | rfl | rfl | rfl | rfl | rfl <;> simp [leadsL, rlI] <;> omega
noncomputable def eRLeads : Entry Try.prog where
  f := 44
  fn l := match l with
    | [.int .i64 a, .int .i64 b] => some (True, .bool (rlI a b))
    | _ => none
  ok args pre v h hp w := by
    split at h
    · rename_i a b
      cases h
      exact entry_of (rleads_ok a b w)
    · cases h
noncomputable def eWithin : Entry Try.prog where
  f := 45
  fn l := match l with
    | [.int .i64 n, .int .i64 m] => some (True, .bool (decide (n ≥ 0) && decide (n ≤ m)))
    | _ => none
  ok args pre v h hp w := by
    split at h
    · rename_i n m
      cases h
      exact entry_of (x := decide (n ≥ 0) && decide (n ≤ m)) (rxFn_ok (C := D0) (ann := fun _ => []) (Eq.mpr (within_vc n m w _) fun w1 h1 => ⟨rfl, h1⟩))
    · cases h
noncomputable def D1 : Cfg Try.prog := { D0 with tab := [eCan, eRLeads, eWithin] }
theorem right_vc (k o r e : Int) (w : World) (Post : Bool → World → Prop) : (rxFn D1 (fun _ => []) 40 [.agg ⟨[.int .i64 k, .int .i64 o, .int .i64 r, .int .i64 e]⟩] w Post) = (
 AlP w { toList := [Value.int IntKind.i64 k, Value.int IntKind.i64 o, Value.int IntKind.i64 r, Value.int IntKind.i64 e] } 33 fun (b : Nat) (w2 : World) =>
  true = true ∧
   LdP w2 none (addP (some { block := b, off := 0 }) 1) (El.one (Sc.int IntKind.i64)) fun (x : Int) =>
    ((!decide (x < 0)) = true → true = true) ∧
     LdP w2 (some !decide (x < 0)) (addP (some { block := b, off := 0 }) 1) (El.one (Sc.int IntKind.i64)) fun (x_1 : Int) =>
      ((!(decide (x < 0) || decide (x_1 > 16))) = true → true = true) ∧
       LdP w2 (some !(decide (x < 0) || decide (x_1 > 16))) (addP (some { block := b, off := 0 }) 2) (El.one (Sc.int IntKind.i64)) fun (x_2 : Int) =>
        ((!(decide (x < 0) || decide (x_1 > 16) || decide (x_2 < 0))) = true → true = true) ∧
         LdP w2 (some !(decide (x < 0) || decide (x_1 > 16) || decide (x_2 < 0))) (addP (some { block := b, off := 0 }) 2) (El.one (Sc.int IntKind.i64)) fun (x_3 : Int) =>
          ((!(decide (x < 0) || decide (x_1 > 16) || decide (x_2 < 0) || decide (x_3 > 65535))) = true → true = true) ∧
           LdP w2 (some !(decide (x < 0) || decide (x_1 > 16) || decide (x_2 < 0) || decide (x_3 > 65535))) (addP (some { block := b, off := 0 }) 3) (El.one (Sc.int IntKind.i64)) fun (x_4 : Int) =>
            ((!(decide (x < 0) || decide (x_1 > 16) || decide (x_2 < 0) || decide (x_3 > 65535) || decide (x_4 < 0))) = true → true = true) ∧
             LdP w2 (some !(decide (x < 0) || decide (x_1 > 16) || decide (x_2 < 0) || decide (x_3 > 65535) || decide (x_4 < 0))) (addP (some { block := b, off := 0 }) 3) (El.one (Sc.int IntKind.i64)) fun (x_5 : Int) =>
              brP (decide (x < 0) || decide (x_1 > 16) || decide (x_2 < 0) || decide (x_3 > 65535) || decide (x_4 < 0) || decide (x_5 > 4294967295)) (EnP w2 fun (w1 : World) => Post false w1)
               (true = true ∧
                LdP w2 none (addP (some { block := b, off := 0 }) 0) (El.one (Sc.int IntKind.i64)) fun (x : Int) =>
                 brP (x == 0)
                  (brP (x == 0)
                   (LdP w2 none (some { block := b, off := 0 }) (El.agg [Sc.int IntKind.i64, Sc.int IntKind.i64, Sc.int IntKind.i64, Sc.int IntKind.i64]) fun (x : Int × Int × Int × Int × Unit) =>
                    true = true ∧
                     LdP w2 none (addP (some { block := b, off := 0 }) 0) (El.one (Sc.int IntKind.i64)) fun (x_6 : Int) =>
                      EnP w2 fun (w1 : World) => Post (x.fst == x_6 && (x.snd.fst == 0 && (x.snd.snd.fst == 0 && (x.snd.snd.snd.fst == 0 && true)))) w1)
                   (brP (x == 2)
                    (true = true ∧
                     LdP w2 none (addP (some { block := b, off := 0 }) 1) (El.one (Sc.int IntKind.i64)) fun (x : Int) =>
                      ((x == 0) = true → true = true) ∧ LdP w2 (some (x == 0)) (addP (some { block := b, off := 0 }) 3) (El.one (Sc.int IntKind.i64)) fun (x_6 : Int) => EnP w2 fun (w1 : World) => Post (x == 0 && x_6 == 0) w1)
                    (brP (x == 3)
                     (brP (x == 3)
                      (true = true ∧
                       LdP w2 none (addP (some { block := b, off := 0 }) 1) (El.one (Sc.int IntKind.i64)) fun (x : Int) =>
                        (decide (x > 0) = true → true = true) ∧ LdP w2 (some (decide (x > 0))) (addP (some { block := b, off := 0 }) 3) (El.one (Sc.int IntKind.i64)) fun (x_6 : Int) => EnP w2 fun (w1 : World) => Post (decide (x > 0) && x_6 == 0) w1)
                      (brP (x == 5) (true = true ∧ LdP w2 none (addP (some { block := b, off := 0 }) 2) (El.one (Sc.int IntKind.i64)) fun (x : Int) => EnP w2 fun (w1 : World) => Post (x == 0) w1) (EnP w2 fun (w1 : World) => Post false w1)))
                     (brP (x == 4)
                      (true = true ∧
                       LdP w2 none (addP (some { block := b, off := 0 }) 1) (El.one (Sc.int IntKind.i64)) fun (x : Int) =>
                        (decide (x > 0) = true → true = true) ∧ LdP w2 (some (decide (x > 0))) (addP (some { block := b, off := 0 }) 3) (El.one (Sc.int IntKind.i64)) fun (x_6 : Int) => EnP w2 fun (w1 : World) => Post (decide (x > 0) && x_6 == 0) w1)
                      (brP (x == 5) (true = true ∧ LdP w2 none (addP (some { block := b, off := 0 }) 2) (El.one (Sc.int IntKind.i64)) fun (x : Int) => EnP w2 fun (w1 : World) => Post (x == 0) w1) (EnP w2 fun (w1 : World) => Post false w1))))))
                  (brP (x == 1)
                   (LdP w2 none (some { block := b, off := 0 }) (El.agg [Sc.int IntKind.i64, Sc.int IntKind.i64, Sc.int IntKind.i64, Sc.int IntKind.i64]) fun (x : Int × Int × Int × Int × Unit) =>
                    true = true ∧
                     LdP w2 none (addP (some { block := b, off := 0 }) 0) (El.one (Sc.int IntKind.i64)) fun (x_6 : Int) =>
                      EnP w2 fun (w1 : World) => Post (x.fst == x_6 && (x.snd.fst == 0 && (x.snd.snd.fst == 0 && (x.snd.snd.snd.fst == 0 && true)))) w1)
                   (brP (x == 2)
                    (true = true ∧
                     LdP w2 none (addP (some { block := b, off := 0 }) 1) (El.one (Sc.int IntKind.i64)) fun (x : Int) =>
                      ((x == 0) = true → true = true) ∧ LdP w2 (some (x == 0)) (addP (some { block := b, off := 0 }) 3) (El.one (Sc.int IntKind.i64)) fun (x_6 : Int) => EnP w2 fun (w1 : World) => Post (x == 0 && x_6 == 0) w1)
                    (brP (x == 3)
                     (brP (x == 3)
                      (true = true ∧
                       LdP w2 none (addP (some { block := b, off := 0 }) 1) (El.one (Sc.int IntKind.i64)) fun (x : Int) =>
                        (decide (x > 0) = true → true = true) ∧ LdP w2 (some (decide (x > 0))) (addP (some { block := b, off := 0 }) 3) (El.one (Sc.int IntKind.i64)) fun (x_6 : Int) => EnP w2 fun (w1 : World) => Post (decide (x > 0) && x_6 == 0) w1)
                      (brP (x == 5) (true = true ∧ LdP w2 none (addP (some { block := b, off := 0 }) 2) (El.one (Sc.int IntKind.i64)) fun (x : Int) => EnP w2 fun (w1 : World) => Post (x == 0) w1) (EnP w2 fun (w1 : World) => Post false w1)))
                     (brP (x == 4)
                      (true = true ∧
                       LdP w2 none (addP (some { block := b, off := 0 }) 1) (El.one (Sc.int IntKind.i64)) fun (x : Int) =>
                        (decide (x > 0) = true → true = true) ∧ LdP w2 (some (decide (x > 0))) (addP (some { block := b, off := 0 }) 3) (El.one (Sc.int IntKind.i64)) fun (x_6 : Int) => EnP w2 fun (w1 : World) => Post (decide (x > 0) && x_6 == 0) w1)
                      (brP (x == 5) (true = true ∧ LdP w2 none (addP (some { block := b, off := 0 }) 2) (El.one (Sc.int IntKind.i64)) fun (x : Int) => EnP w2 fun (w1 : World) => Post (x == 0) w1) (EnP w2 fun (w1 : World) => Post false w1)))))))) := by kernel_rfl
theorem rright_vc (k o r e : Int) (w : World) (Post : Bool → World → Prop) : (rxFn D1 (fun _ => []) 43 [.agg ⟨[.int .i64 k, .int .i64 o, .int .i64 r, .int .i64 e]⟩] w Post) = (
 AlP w { toList := [Value.int IntKind.i64 k, Value.int IntKind.i64 o, Value.int IntKind.i64 r, Value.int IntKind.i64 e] } 52 fun (b : Nat) (w2 : World) =>
  true = true ∧
   LdP w2 none (addP (some { block := b, off := 0 }) 0) (El.one (Sc.int IntKind.i64)) fun (x : Int) =>
    True ∧
     ((!!(decide (x ≥ 0) && decide (x ≤ 5))) = true → true = true) ∧
      LdP w2 (some !!(decide (x ≥ 0) && decide (x ≤ 5))) (addP (some { block := b, off := 0 }) 1) (El.one (Sc.int IntKind.i64)) fun (x_1 : Int) =>
       ((!!(decide (x ≥ 0) && decide (x ≤ 5))) = true → True) ∧
        ((!(!(decide (x ≥ 0) && decide (x ≤ 5)) || !(decide (x_1 ≥ 0) && decide (x_1 ≤ 16)))) = true → true = true) ∧
         LdP w2 (some !(!(decide (x ≥ 0) && decide (x ≤ 5)) || !(decide (x_1 ≥ 0) && decide (x_1 ≤ 16)))) (addP (some { block := b, off := 0 }) 2) (El.one (Sc.int IntKind.i64)) fun (x_2 : Int) =>
          ((!(!(decide (x ≥ 0) && decide (x ≤ 5)) || !(decide (x_1 ≥ 0) && decide (x_1 ≤ 16)))) = true → True) ∧
           ((!(!(decide (x ≥ 0) && decide (x ≤ 5)) || !(decide (x_1 ≥ 0) && decide (x_1 ≤ 16)) || !(decide (x_2 ≥ 0) && decide (x_2 ≤ 65535)))) = true → true = true) ∧
            LdP w2 (some !(!(decide (x ≥ 0) && decide (x ≤ 5)) || !(decide (x_1 ≥ 0) && decide (x_1 ≤ 16)) || !(decide (x_2 ≥ 0) && decide (x_2 ≤ 65535)))) (addP (some { block := b, off := 0 }) 3) (El.one (Sc.int IntKind.i64)) fun (x_3 : Int) =>
             ((!(!(decide (x ≥ 0) && decide (x ≤ 5)) || !(decide (x_1 ≥ 0) && decide (x_1 ≤ 16)) || !(decide (x_2 ≥ 0) && decide (x_2 ≤ 65535)))) = true → True) ∧
              brP (!(decide (x ≥ 0) && decide (x ≤ 5)) || !(decide (x_1 ≥ 0) && decide (x_1 ≤ 16)) || !(decide (x_2 ≥ 0) && decide (x_2 ≤ 65535)) || !(decide (x_3 ≥ 0) && decide (x_3 ≤ 4294967295))) (EnP w2 fun (w1 : World) => Post false w1)
               (true = true ∧
                LdP w2 none (addP (some { block := b, off := 0 }) 0) (El.one (Sc.int IntKind.i64)) fun (x : Int) =>
                 brP (x == 0)
                  (brP (x == 0)
                   (true = true ∧
                    LdP w2 none (addP (some { block := b, off := 0 }) 1) (El.one (Sc.int IntKind.i64)) fun (x : Int) =>
                     ((x == 0) = true → true = true) ∧
                      LdP w2 (some (x == 0)) (addP (some { block := b, off := 0 }) 2) (El.one (Sc.int IntKind.i64)) fun (x_4 : Int) =>
                       ((x == 0 && x_4 == 0) = true → true = true) ∧
                        LdP w2 (some (x == 0 && x_4 == 0)) (addP (some { block := b, off := 0 }) 3) (El.one (Sc.int IntKind.i64)) fun (x_5 : Int) => EnP w2 fun (w1 : World) => Post (x == 0 && x_4 == 0 && x_5 == 0) w1)
                   (brP (x == 2)
                    (true = true ∧
                     LdP w2 none (addP (some { block := b, off := 0 }) 1) (El.one (Sc.int IntKind.i64)) fun (x : Int) =>
                      ((x == 0) = true → true = true) ∧ LdP w2 (some (x == 0)) (addP (some { block := b, off := 0 }) 3) (El.one (Sc.int IntKind.i64)) fun (x_4 : Int) => EnP w2 fun (w1 : World) => Post (x == 0 && x_4 == 0) w1)
                    (brP (x == 3)
                     (brP (x == 3)
                      (true = true ∧
                       LdP w2 none (addP (some { block := b, off := 0 }) 1) (El.one (Sc.int IntKind.i64)) fun (x : Int) =>
                        (decide (x > 0) = true → true = true) ∧ LdP w2 (some (decide (x > 0))) (addP (some { block := b, off := 0 }) 3) (El.one (Sc.int IntKind.i64)) fun (x_4 : Int) => EnP w2 fun (w1 : World) => Post (decide (x > 0) && x_4 == 0) w1)
                      (true = true ∧ LdP w2 none (addP (some { block := b, off := 0 }) 2) (El.one (Sc.int IntKind.i64)) fun (x : Int) => EnP w2 fun (w1 : World) => Post (x == 0) w1))
                     (brP (x == 4)
                      (true = true ∧
                       LdP w2 none (addP (some { block := b, off := 0 }) 1) (El.one (Sc.int IntKind.i64)) fun (x : Int) =>
                        (decide (x > 0) = true → true = true) ∧ LdP w2 (some (decide (x > 0))) (addP (some { block := b, off := 0 }) 3) (El.one (Sc.int IntKind.i64)) fun (x_4 : Int) => EnP w2 fun (w1 : World) => Post (decide (x > 0) && x_4 == 0) w1)
                      (true = true ∧ LdP w2 none (addP (some { block := b, off := 0 }) 2) (El.one (Sc.int IntKind.i64)) fun (x : Int) => EnP w2 fun (w1 : World) => Post (x == 0) w1)))))
                  (brP (x == 1)
                   (true = true ∧
                    LdP w2 none (addP (some { block := b, off := 0 }) 1) (El.one (Sc.int IntKind.i64)) fun (x : Int) =>
                     ((x == 0) = true → true = true) ∧
                      LdP w2 (some (x == 0)) (addP (some { block := b, off := 0 }) 2) (El.one (Sc.int IntKind.i64)) fun (x_4 : Int) =>
                       ((x == 0 && x_4 == 0) = true → true = true) ∧
                        LdP w2 (some (x == 0 && x_4 == 0)) (addP (some { block := b, off := 0 }) 3) (El.one (Sc.int IntKind.i64)) fun (x_5 : Int) => EnP w2 fun (w1 : World) => Post (x == 0 && x_4 == 0 && x_5 == 0) w1)
                   (brP (x == 2)
                    (true = true ∧
                     LdP w2 none (addP (some { block := b, off := 0 }) 1) (El.one (Sc.int IntKind.i64)) fun (x : Int) =>
                      ((x == 0) = true → true = true) ∧ LdP w2 (some (x == 0)) (addP (some { block := b, off := 0 }) 3) (El.one (Sc.int IntKind.i64)) fun (x_4 : Int) => EnP w2 fun (w1 : World) => Post (x == 0 && x_4 == 0) w1)
                    (brP (x == 3)
                     (brP (x == 3)
                      (true = true ∧
                       LdP w2 none (addP (some { block := b, off := 0 }) 1) (El.one (Sc.int IntKind.i64)) fun (x : Int) =>
                        (decide (x > 0) = true → true = true) ∧ LdP w2 (some (decide (x > 0))) (addP (some { block := b, off := 0 }) 3) (El.one (Sc.int IntKind.i64)) fun (x_4 : Int) => EnP w2 fun (w1 : World) => Post (decide (x > 0) && x_4 == 0) w1)
                      (true = true ∧ LdP w2 none (addP (some { block := b, off := 0 }) 2) (El.one (Sc.int IntKind.i64)) fun (x : Int) => EnP w2 fun (w1 : World) => Post (x == 0) w1))
                     (brP (x == 4)
                      (true = true ∧
                       LdP w2 none (addP (some { block := b, off := 0 }) 1) (El.one (Sc.int IntKind.i64)) fun (x : Int) =>
                        (decide (x > 0) = true → true = true) ∧ LdP w2 (some (decide (x > 0))) (addP (some { block := b, off := 0 }) 3) (El.one (Sc.int IntKind.i64)) fun (x_4 : Int) => EnP w2 fun (w1 : World) => Post (decide (x > 0) && x_4 == 0) w1)
                      (true = true ∧ LdP w2 none (addP (some { block := b, off := 0 }) 2) (El.one (Sc.int IntKind.i64)) fun (x : Int) => EnP w2 fun (w1 : World) => Post (x == 0) w1))))))) := by kernel_rfl
/-- Can it be? -/
def rightP (k o r e : Int) : Prop := (0 ≤ o ∧ o ≤ 16 ∧ 0 ≤ r ∧ r ≤ 65535 ∧ 0 ≤ e ∧ e ≤ 4294967295) ∧ (((k = 0 ∨ k = 1) ∧ o = 0 ∧ r = 0 ∧ e = 0) ∨ (k = 2 ∧ o = 0 ∧ e = 0) ∨ ((k = 3 ∨ k = 4) ∧ 0 < o ∧ e = 0) ∨ (k = 5 ∧ r = 0))
instance (k o r e : Int) : Decidable (rightP k o r e) := by unfold rightP; infer_instance
def rightD (k o r e : Int) : Bool := decide (rightP k o r e)
theorem rightD_of {k o r e : Int} {b : Bool} (h : b = true ↔ rightP k o r e) : b = rightD k o r e := by
  unfold rightD
  rw [Bool.eq_iff_iff, decide_eq_true_eq]; exact h
theorem right_ok (k o r e : Int) (w : World) : CallsR Try.prog 40 (.el (.one .bool)) [.agg ⟨[.int .i64 k, .int .i64 o, .int .i64 r, .int .i64 e]⟩] w (fun b w' => b = rightD k o r e ∧ Ext w w') := by
  refine rxFn_ok (C := D1) (ann := fun _ => []) (Eq.mpr (right_vc k o r e w _) ?_)
  have H := At.start [] w
  repeat' (first
    | exact Go.RX.AtD.all H
    | exact And.intro (by first | rfl | decide +kernel) (Go.RX.AtD.all H)
    | refine And.intro (by first | exact rfl | exact trivial | exact fun _ => rfl | exact fun _ => trivial | exact ⟨rfl, by decide, by decide⟩ | exact ⟨by decide, by decide⟩ | decide +kernel | exact fun _ => by decide | exact fun _ => ⟨rfl, by decide, by decide⟩ | (dsimp only [List.length_cons, List.length_nil]; exact ⟨rfl, by decide, by decide⟩)) ?_
    | refine LdP.atA 0 H rfl rfl ?_
    | refine LdP.at 0 H rfl rfl ?_
    | refine AlP.go H fun b w1 H => ?_
    | refine StP.all 0 H rfl rfl rfl fun w1 H => ?_
    | refine StP.oneA 0 H rfl rfl rfl fun w1 H => ?_
    | refine StP.one 0 H rfl rfl rfl fun w1 H => ?_
    | with_reducible refine EnP.go H fun w1 H => ?_
    | refine shr_go ?_
    | refine brP_pos (by assumption) ?_
    | refine brP_neg (by assumption) ?_
    | refine brP_intro (fun c => ?_) (fun c => ?_))
  all_goals
    refine And.intro (rightD_of ?_) H.all
    simp only [Bool.or_eq_true, Bool.or_eq_false_iff, Bool.and_eq_true, Bool.and_eq_false_iff, beq_iff_eq, beq_eq_false_iff_ne, bne_iff_ne, bne_eq_false_iff_eq, decide_eq_true_eq, decide_eq_false_iff_not, Bool.false_eq_true, Bool.true_eq_false, Bool.not_eq_true', Bool.not_eq_false', and_true, true_and, and_false, false_and, or_true, true_or, or_false, false_or, ne_eq, not_true_eq_false, not_false_eq_true, false_iff, iff_false, true_iff, iff_true] at *
    unfold rightP
    omega
theorem rright_ok (k o r e : Int) (w : World) : CallsR Try.prog 43 (.el (.one .bool)) [.agg ⟨[.int .i64 k, .int .i64 o, .int .i64 r, .int .i64 e]⟩] w (fun b w' => b = rightD k o r e ∧ Ext w w') := by
  refine rxFn_ok (C := D1) (ann := fun _ => []) (Eq.mpr (rright_vc k o r e w _) ?_)
  have H := At.start [] w
  repeat' (first
    | exact Go.RX.AtD.all H
    | exact And.intro (by first | rfl | decide +kernel) (Go.RX.AtD.all H)
    | refine And.intro (by first | exact rfl | exact trivial | exact fun _ => rfl | exact fun _ => trivial | exact ⟨rfl, by decide, by decide⟩ | exact ⟨by decide, by decide⟩ | decide +kernel | exact fun _ => by decide | exact fun _ => ⟨rfl, by decide, by decide⟩ | (dsimp only [List.length_cons, List.length_nil]; exact ⟨rfl, by decide, by decide⟩)) ?_
    | refine LdP.atA 0 H rfl rfl ?_
    | refine LdP.at 0 H rfl rfl ?_
    | refine AlP.go H fun b w1 H => ?_
    | refine StP.all 0 H rfl rfl rfl fun w1 H => ?_
    | refine StP.oneA 0 H rfl rfl rfl fun w1 H => ?_
    | refine StP.one 0 H rfl rfl rfl fun w1 H => ?_
    | with_reducible refine EnP.go H fun w1 H => ?_
    | refine shr_go ?_
    | refine brP_pos (by assumption) ?_
    | refine brP_neg (by assumption) ?_
    | refine brP_intro (fun c => ?_) (fun c => ?_))
  all_goals
    refine And.intro (rightD_of ?_) H.all
    simp only [Bool.or_eq_true, Bool.or_eq_false_iff, Bool.and_eq_true, Bool.and_eq_false_iff, beq_iff_eq, beq_eq_false_iff_ne, bne_iff_ne, bne_eq_false_iff_eq, decide_eq_true_eq, decide_eq_false_iff_not, Bool.false_eq_true, Bool.true_eq_false, Bool.not_eq_true', Bool.not_eq_false', and_true, true_and, and_false, false_and, or_true, true_or, or_false, false_or, ne_eq, not_true_eq_false, not_false_eq_true, false_iff, iff_false, true_iff, iff_true] at *
    unfold rightP
    omega
noncomputable def eRight : Entry Try.prog where
  f := 40
  fn l := match l with
    | [.agg ⟨[.int .i64 k, .int .i64 o, .int .i64 r, .int .i64 e]⟩] => some (True, .bool (rightD k o r e))
    | _ => none
  ok args pre v h hp w := by
    split at h
    · rename_i k o r e
      cases h
      exact entry_of (right_ok k o r e w)
    · cases h
noncomputable def eRRight : Entry Try.prog where
  f := 43
  fn l := match l with
    | [.agg ⟨[.int .i64 k, .int .i64 o, .int .i64 r, .int .i64 e]⟩] => some (True, .bool (rightD k o r e))
    | _ => none
  ok args pre v h hp w := by
    split at h
    · rename_i k o r e
      cases h
      exact entry_of (rright_ok k o r e w)
    · cases h
noncomputable def D2 : Cfg Try.prog := { D0 with tab := [eCan, eRLeads, eWithin, eRight, eRRight] }
end Go.Proofs.Ytogndkmclingeaa
