import Derived.Test.YtffnfcokgemgjaaP4
namespace Go.Proofs.Ytffnfcokgemgjaa
set_option linter.unusedSimpArgs false
set_option linter.unusedVariables false
set_option maxRecDepth 100000
open Go.RX
theorem at_vc (z x y : Int) (w : World) (Post : Int → World → Prop) : (rxFn D2 (fun _ => []) 32 [.int .i64 z, .int .i64 x, .int .i64 y] w Post) = (
 True ∧
  ∀ (x_1 : Int),
   x_1 = indexI x y → brP (decide (x_1 < 0) || decide (z < 0) || decide (z ≥ 4096)) (EnP w fun (w1 : World) => Post (-1) w1) (∀ (x : Int), x = mulI IntKind.i64 16 z → ∀ (x_2 : Int), x_2 = addI IntKind.i64 x x_1 → EnP w fun (w1 : World) => Post x_2 w1)) := by kernel_rfl
theorem rat_vc (z x y : Int) (w : World) (Post : Int → World → Prop) : (rxFn D2 (fun _ => []) 20 [.int .i64 z, .int .i64 x, .int .i64 y] w Post) = (
 True ∧
  ∀ (x_1 : Int),
   x_1 = indexI x y → brP (decide (x_1 < 0) || decide (z < 0) || decide (z > 4095)) (EnP w fun (w1 : World) => Post (-1) w1) (∀ (x : Int), x = mulI IntKind.i64 16 z → ∀ (x_2 : Int), x_2 = addI IntKind.i64 x x_1 → EnP w fun (w1 : World) => Post x_2 w1)) := by kernel_rfl
theorem rparse_vc (v : Int) (w : World) (Post : (Bool × Int × Bool × Int × Unit) × Bool × Unit → World → Prop) : (rxFnR D2 (fun _ => []) 37 [.int .u64 v] w Post) = (
 AlP w { toList := [Value.bool false, Value.int IntKind.i64 0, Value.bool false, Value.int IntKind.i64 0] } 95 fun (b : Nat) (w2 : World) =>
  U (B v) = v ∧
   ∀ (x : Int),
    x = U (getB (B v) 0 1) →
     U (B v) = v ∧
      ∀ (x_1 : Int),
       x_1 = U (getB (B v) 1 3) →
        ∀ (x_2 : Int),
         x_2 = convI IntKind.i64 x_1 →
          U (B v) = v ∧
           ∀ (x_3 : Int),
            x_3 = U (getB (B v) 4 1) →
             U (B v) = v ∧
              ∀ (x_4 : Int),
               x_4 = U (getB (B v) 12 12) →
                ∀ (x_5 : Int),
                 x_5 = convI IntKind.i64 x_4 →
                  AlP w2 { toList := [Value.bool false, Value.int IntKind.i64 0, Value.bool false, Value.int IntKind.i64 0] } 95 fun (b_1 : Nat) (w2 : World) =>
                   StP w2 (some { block := b_1, off := 0 }) [Value.bool (x == 1), Value.int IntKind.i64 x_2, Value.bool (x_3 == 1), Value.int IntKind.i64 x_5] fun (w2 : World) =>
                    LdP w2 none (some { block := b_1, off := 0 }) (El.agg [Sc.bool, Sc.int IntKind.i64, Sc.bool, Sc.int IntKind.i64]) fun (x : Bool × Int × Bool × Int × Unit) =>
                     True ∧
                      brP (pkE x.fst x.snd.fst x.snd.snd.fst x.snd.snd.snd.fst != 0 || pkW x.fst x.snd.fst x.snd.snd.fst x.snd.snd.snd.fst != v)
                       (StP w2 (some { block := b, off := 0 }) [Value.bool false, Value.int IntKind.i64 0, Value.bool false, Value.int IntKind.i64 0] fun (w2 : World) =>
                        EnP w2 fun (w1 : World) =>
                         LdP w1 none (some { block := b, off := 0 }) (El.agg [Sc.bool, Sc.int IntKind.i64, Sc.bool, Sc.int IntKind.i64]) fun (x : Bool × Int × Bool × Int × Unit) =>
                          Post ((x.fst, x.snd.fst, x.snd.snd.fst, x.snd.snd.snd.fst, Unit.unit), false, Unit.unit) w1)
                       (LdP w2 none (some { block := b_1, off := 0 }) (El.agg [Sc.bool, Sc.int IntKind.i64, Sc.bool, Sc.int IntKind.i64]) fun (x : Bool × Int × Bool × Int × Unit) =>
                        StP w2 (some { block := b, off := 0 }) [Value.bool x.fst, Value.int IntKind.i64 x.snd.fst, Value.bool x.snd.snd.fst, Value.int IntKind.i64 x.snd.snd.snd.fst] fun (w2 : World) =>
                         EnP w2 fun (w1 : World) =>
                          LdP w1 none (some { block := b, off := 0 }) (El.agg [Sc.bool, Sc.int IntKind.i64, Sc.bool, Sc.int IntKind.i64]) fun (x : Bool × Int × Bool × Int × Unit) =>
                           Post ((x.fst, x.snd.fst, x.snd.snd.fst, x.snd.snd.snd.fst, Unit.unit), true, Unit.unit) w1)) := by kernel_rfl
/-- An entry's word's place. -/
def atI (z x y : Int) : Int := if indexI x y < 0 ∨ z < 0 ∨ z ≥ 4096 then -1 else 16 * z + indexI x y
theorem index_lt (x y : Int) : -1 ≤ indexI x y ∧ indexI x y < 16 := by
  unfold indexI
  split
  · have h1 := Int.emod_nonneg (x / spanI y) (show (16 : Int) ≠ 0 by decide)
    have h2 := Int.emod_lt_of_pos (x / spanI y) (show (0 : Int) < 16 by decide)
    omega
  · omega
theorem at_ok (z x y : Int) (w : World) : CallsR Try.prog 32 (.el (.one (.int .i64))) [.int .i64 z, .int .i64 x, .int .i64 y] w (fun b w' => b = atI z x y ∧ Ext w w') := by
  refine rxFn_ok (C := D2) (ann := fun _ => []) (Eq.mpr (at_vc z x y w _) ⟨trivial, fun s es => ?_⟩)
  have hb := index_lt x y
  subst es
  refine brP_intro (fun h w1 h1 => ⟨?_, h1⟩) (fun h a ea b eb w1 h1 => ⟨?_, h1⟩)
  · simp only [Bool.or_eq_true, decide_eq_true_eq] at h
    unfold atI
    rw [if_pos (by omega)]
  · simp only [Bool.or_eq_false_iff, decide_eq_false_iff_not] at h
    rw [mulI_i64 (by omega) (by omega)] at ea
    rw [addI_i64 (by omega) (by omega)] at eb
    unfold atI
    rw [if_neg (by omega), eb, ea]
theorem rat_ok (z x y : Int) (w : World) : CallsR Try.prog 20 (.el (.one (.int .i64))) [.int .i64 z, .int .i64 x, .int .i64 y] w (fun b w' => b = atI z x y ∧ Ext w w') := by
  refine rxFn_ok (C := D2) (ann := fun _ => []) (Eq.mpr (rat_vc z x y w _) ⟨trivial, fun s es => ?_⟩)
  have hb := index_lt x y
  subst es
  refine brP_intro (fun h w1 h1 => ⟨?_, h1⟩) (fun h a ea b eb w1 h1 => ⟨?_, h1⟩)
  · simp only [Bool.or_eq_true, decide_eq_true_eq] at h
    unfold atI
    rw [if_pos (by omega)]
  · simp only [Bool.or_eq_false_iff, decide_eq_false_iff_not] at h
    rw [mulI_i64 (by omega) (by omega)] at ea
    rw [addI_i64 (by omega) (by omega)] at eb
    unfold atI
    rw [if_neg (by omega), eb, ea]
theorem nB_odd (n : Nat) (h : n ≤ 1) : nB (n == 1) = n := by
  have : n = 0 ∨ n = 1 := by omega
  rcases this with rfl | rfl <;> rfl
theorem word_of (n : Nat) : wordI (n % 2 == 1) ((n / 2 % 8 : Nat) : Int) (n / 16 % 2 == 1) ((n / 4096 % 4096 : Nat) : Int) = ((n % 2 + 2 * (n / 2 % 8) + 16 * (n / 16 % 2) + 4096 * (n / 4096 % 4096) : Nat) : Int) := by
  unfold wordI
  rw [nB_odd _ (by omega), nB_odd _ (by omega)]
  omega
theorem split_num (n : Nat) (h : n < 18446744073709551616) : n = n % 2 + 2 * (n / 2 % 8) + 16 * (n / 16 % 2) + 32 * (n / 32 % 128) + 4096 * (n / 4096 % 4096) + 16777216 * (n / 16777216 % 1099511627776) := by
  omega
/-- A word that is read is its word. -/
theorem ok_word (n : Nat) (h : n < 18446744073709551616) : okV n = (rightE (n % 2 == 1) ((n / 2 % 8 : Nat) : Int) (n / 16 % 2 == 1) ((n / 4096 % 4096 : Nat) : Int) && decide (wordI (n % 2 == 1) ((n / 2 % 8 : Nat) : Int) (n / 16 % 2 == 1) ((n / 4096 % 4096 : Nat) : Int) = (n : Int))) := by
  rw [word_of]
  have hs := split_num n h
  unfold okV
  rw [Bool.and_comm]
  congr 1
  rw [Bool.eq_iff_iff, Bool.and_eq_true, decide_eq_true_eq, decide_eq_true_eq, decide_eq_true_eq]
  omega
theorem rparse_bad (v : BitVec 64) : (pkE (v.toNat % 2 == 1) ((v.toNat / 2 % 8 : Nat) : Int) (v.toNat / 16 % 2 == 1) ((v.toNat / 4096 % 4096 : Nat) : Int) != 0 || pkW (v.toNat % 2 == 1) ((v.toNat / 2 % 8 : Nat) : Int) (v.toNat / 16 % 2 == 1) ((v.toNat / 4096 % 4096 : Nat) : Int) != U v) = !okV v.toNat := by
  rw [ok_word _ v.isLt]
  unfold pkE pkW
  cases rightE (v.toNat % 2 == 1) ((v.toNat / 2 % 8 : Nat) : Int) (v.toNat / 16 % 2 == 1) ((v.toNat / 4096 % 4096 : Nat) : Int) with
  | false => rfl
  | true =>
    rw [if_pos rfl, if_pos rfl, Bool.true_and]
    show (((0 : Int) != 0) || _) = _
    rw [show ((0 : Int) != 0) = false from rfl, Bool.false_or]
    rw [Bool.eq_iff_iff, bne_iff_ne, Bool.not_eq_true', decide_eq_false_iff_not]
    rfl
theorem rparse_ok (v : BitVec 64) (w : World) : CallsR Try.prog 37 (.tup [.agg [.bool, .int .i64, .bool, .int .i64], .one .bool]) [.int .u64 (U v)] w
    (fun x w' => x = ((prP v.toNat, prR v.toNat, prL v.toNat, prF v.toNat, ()), okV v.toNat, ()) ∧ Ext w w') := by
  refine rxFnR_ok (C := D2) (ann := fun _ => []) (Eq.mpr (rparse_vc (U v) w _) ?_)
  let N := v.toNat
  have v0 : U (getB v 0 1) = ((N % 2 : Nat) : Int) := by rw [U_eq (get_num 1 2 (by decide) rfl rfl), Nat.div_one]
  have v1 : U (getB v 1 3) = ((N / 2 % 8 : Nat) : Int) := U_eq (get_num 2 8 (by decide) rfl rfl)
  have v2 : U (getB v 4 1) = ((N / 16 % 2 : Nat) : Int) := U_eq (get_num 16 2 (by decide) rfl rfl)
  have v4 : U (getB v 12 12) = ((N / 4096 % 4096 : Nat) : Int) := U_eq (get_num 4096 4096 (by decide) (by decide) (by decide))
  intro w1 h1
  rw [B_U]
  refine ⟨rfl, fun x0 e0 => ⟨rfl, fun x1 e1 x2 e2 => ⟨rfl, fun x3 e3 => ⟨rfl, fun x4 e4 x5 e5 w2 h2 w3 h3 => ?_⟩⟩⟩⟩
  rw [v0] at e0
  rw [v1] at e1
  rw [v2] at e3
  rw [v4] at e4
  rw [conv_i64' (by omega) (by omega)] at e2 e5
  subst e0; subst e2; subst e3; subst e5; subst e1; subst e4
  rw [beq_one, beq_one]
  have blk : Blk w2 w1.heap.size [Value.bool false, Value.int .i64 0, Value.bool false, Value.int .i64 0] := (Blk.new w1 _ _).ext h2
  have hw2 : Ext w w2 := (h1.allocd _).trans h2
  have bt : Blk w3 w2.heap.size [Value.bool false, Value.int .i64 0, Value.bool false, Value.int .i64 0] := (Blk.new w2 _ _).ext h3
  have bp := putAll bt [Value.bool (N % 2 == 1), Value.int .i64 ((N / 2 % 8 : Nat) : Int), Value.bool (N / 16 % 2 == 1), Value.int .i64 ((N / 4096 % 4096 : Nat) : Int)] rfl
  have hw3 : Ext w w3 := (hw2.allocd _).trans h3
  have hw4 : Ext w (putP w3 (some ⟨w2.heap.size, 0, none⟩) [Value.bool (N % 2 == 1), Value.int .i64 ((N / 2 % 8 : Nat) : Int), Value.bool (N / 16 % 2 == 1), Value.int .i64 ((N / 4096 % 4096 : Nat) : Int)]) := hw3.putP (a := ⟨w2.heap.size, 0, none⟩) hw2.size _
  have ra : rdAt (putP w3 (some ⟨w2.heap.size, 0, none⟩) [Value.bool (N % 2 == 1), Value.int .i64 ((N / 2 % 8 : Nat) : Int), Value.bool (N / 16 % 2 == 1), Value.int .i64 ((N / 4096 % 4096 : Nat) : Int)]) (some ⟨w2.heap.size, 0, none⟩) (.agg [.bool, .int .i64, .bool, .int .i64]) (N % 2 == 1, ((N / 2 % 8 : Nat) : Int), N / 16 % 2 == 1, ((N / 4096 % 4096 : Nat) : Int), ()) :=
    bp.rdA fun i _ => by rw [Nat.zero_add]; rfl
  have lt1 := blk.lt
  have b4 : Blk (putP w3 (some ⟨w2.heap.size, 0, none⟩) [Value.bool (N % 2 == 1), Value.int .i64 ((N / 2 % 8 : Nat) : Int), Value.bool (N / 16 % 2 == 1), Value.int .i64 ((N / 4096 % 4096 : Nat) : Int)]) w1.heap.size [Value.bool false, Value.int .i64 0, Value.bool false, Value.int .i64 0] :=
    ((blk.ext (Ext.alloc _ _)).ext h3).putNe (a := ⟨w2.heap.size, 0, none⟩) (by show w1.heap.size ≠ w2.heap.size; omega) _
  refine ⟨⟨rfl, bt.st (by simp)⟩, _, ra, trivial, ?_⟩
  have hbad := rparse_bad v
  refine brP_intro (fun hb w8 h8 => ?_) (fun hb => ⟨_, ra, fun w8 h8 => ?_⟩)
  · have ho' : okV N = false := by
      have := hbad.symm.trans hb
      simpa using this
    have b8 := b4.ext h8
    refine ⟨⟨rfl, b8.st (by simp)⟩, fun w9 h9 => ⟨(false, 0, false, 0, ()), ?_, ?_, ?_⟩⟩
    · have b9 := (putAll b8 [Value.bool false, Value.int .i64 0, Value.bool false, Value.int .i64 0] rfl).ext h9
      exact b9.rdA fun i _ => by rw [Nat.zero_add]; rfl
    · show _ = ((prP N, prR N, prL N, prF N, ()), okV N, ())
      unfold prP prR prL prF
      rw [ho']; rfl
    · exact ((hw4.trans h8).putP (a := ⟨w1.heap.size, 0, none⟩) h1.size _).trans h9
  · have ho' : okV N = true := by
      have := hbad.symm.trans hb
      simpa using this
    have b8 := b4.ext h8
    refine ⟨⟨rfl, b8.st (by simp)⟩, fun w9 h9 => ⟨(N % 2 == 1, ((N / 2 % 8 : Nat) : Int), N / 16 % 2 == 1, ((N / 4096 % 4096 : Nat) : Int), ()), ?_, ?_, ?_⟩⟩
    · have b9 := (putAll b8 [Value.bool (N % 2 == 1), Value.int .i64 ((N / 2 % 8 : Nat) : Int), Value.bool (N / 16 % 2 == 1), Value.int .i64 ((N / 4096 % 4096 : Nat) : Int)] rfl).ext h9
      exact b9.rdA fun i _ => by rw [Nat.zero_add]; rfl
    · show _ = ((prP N, prR N, prL N, prF N, ()), okV N, ())
      unfold prP prR prL prF
      rw [ho', if_pos rfl, if_pos rfl, Bool.true_and, Bool.true_and]
    · exact ((hw4.trans h8).putP (a := ⟨w1.heap.size, 0, none⟩) h1.size _).trans h9
noncomputable def eAt : Entry Try.prog where
  f := 32
  fn l := match l with
    | [.int .i64 z, .int .i64 x, .int .i64 y] => some (True, .int .i64 (atI z x y))
    | _ => none
  ok args pre v h hp w := by
    split at h
    · rename_i z x y
      cases h
      exact entry_of (at_ok z x y w)
    · cases h
noncomputable def eRAt : Entry Try.prog where
  f := 20
  fn l := match l with
    | [.int .i64 z, .int .i64 x, .int .i64 y] => some (True, .int .i64 (atI z x y))
    | _ => none
  ok args pre v h hp w := by
    split at h
    · rename_i z x y
      cases h
      exact entry_of (rat_ok z x y w)
    · cases h
noncomputable def eRParse : Entry Try.prog where
  f := 37
  fn l := match l with
    | [.int .u64 v] => some (U (B v) = v, .tuple ⟨[.agg ⟨[.bool (prP (B v).toNat), .int .i64 (prR (B v).toNat), .bool (prL (B v).toNat), .int .i64 (prF (B v).toNat)]⟩, .bool (okV (B v).toNat)]⟩)
    | _ => none
  ok args pre v h hp w := by
    split at h
    · rename_i v
      cases h
      have := entry_of (rparse_ok (B v) w)
      rw [hp] at this; exact this
    · cases h
noncomputable def D3 : Cfg Try.prog := { D0 with tab := [eFits, eIs, eBit, eOne, eMask, eRGet, eGet, eRight, eRRight, eSpan, eRSpan, eTable, eRTable, eAllows, eRAllows, eIndex, eRIndex, eRPack, eParse, eAt, eRAt, eRParse] }
end Go.Proofs.Ytffnfcokgemgjaa
