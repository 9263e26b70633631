/-! The places of the ones of a word. -/
namespace Go.Proofs.Ytffnfcokgemgjaa
set_option linter.unusedSimpArgs false
set_option linter.unusedVariables false
set_option maxRecDepth 100000
def remL (b : BitVec 64) (i : Nat) : List Nat := (List.range' i (64 - i)).filter fun j => b.getLsbD j
def onesL (b : BitVec 64) : List Nat := remL b 0
theorem remL_step {b : BitVec 64} {i : Nat} (h : i < 64) : remL b i = if b.getLsbD i = true then i :: remL b (i + 1) else remL b (i + 1) := by
  unfold remL
  rw [show 64 - i = (64 - (i + 1)) + 1 by omega, List.range'_succ, List.filter_cons]
theorem remL_end {b : BitVec 64} {i : Nat} (h : b >>> i = 0#64) : remL b i = [] := by
  unfold remL
  rw [List.filter_eq_nil_iff]
  intro j hj
  rw [List.mem_range'_1] at hj
  have := congrArg (fun c => c.getLsbD (j - i)) h
  simp only [BitVec.getLsbD_ushiftRight, BitVec.getLsbD_zero] at this
  rw [show i + (j - i) = j by omega] at this
  simp [this]
theorem remL_64 (b : BitVec 64) : remL b 64 = [] := rfl
theorem remL_lt {b : BitVec 64} {i : Nat} (h : b >>> i ≠ 0#64) : i < 64 := by
  apply Nat.lt_of_not_le
  intro hi
  exact h (BitVec.ushiftRight_eq_zero hi)
theorem mem_onesL {b : BitVec 64} {j : Nat} : j ∈ onesL b ↔ b.getLsbD j = true := by
  unfold onesL remL
  rw [List.mem_filter, List.mem_range'_1]
  constructor
  · intro h; exact h.2
  · intro h; exact ⟨⟨by omega, by have := BitVec.lt_of_getLsbD h; omega⟩, h⟩
theorem onesL_sorted (b : BitVec 64) : (onesL b).Pairwise (· < ·) := by
  unfold onesL remL
  exact List.Pairwise.filter _ (List.pairwise_lt_range' (s := 0) (n := 64))
theorem onesL_len (b : BitVec 64) : (onesL b).length ≤ 64 := by
  unfold onesL remL
  have := List.length_filter_le (fun j => b.getLsbD j) (List.range' 0 (64 - 0))
  simp at this
  simpa using this
theorem filter_add {α : Type} (p q : α → Bool) : ∀ l : List α, (l.filter fun j => p j || q j).length + (l.filter fun j => p j && q j).length = (l.filter p).length + (l.filter q).length
  | [] => rfl
  | x :: r => by
    have ih := filter_add p q r
    simp only [List.filter_cons]
    cases p x <;> cases q x <;> simp <;> omega
theorem onesL_add (a b : BitVec 64) : (onesL (a ||| b)).length + (onesL (a &&& b)).length = (onesL a).length + (onesL b).length := by
  unfold onesL remL
  simp only [BitVec.getLsbD_or, BitVec.getLsbD_and]
  exact filter_add _ _ _
theorem filter_range' (lo n : Nat) (h : lo + n ≤ 64) : ((List.range' 0 64).filter fun j => decide (lo ≤ j) && decide (j < lo + n)) = List.range' lo n := by
  have e : List.range' 0 64 = List.range' 0 lo ++ (List.range' lo n ++ List.range' (lo + n) (64 - (lo + n))) := by
    rw [List.range'_append_1, ]
    rw [show n + (64 - (lo + n)) = 64 - lo by omega]
    have := List.range'_append_1 (s := 0) (m := lo) (n := 64 - lo)
    rw [Nat.zero_add] at this
    rw [this]; congr 1; omega
  rw [e, List.filter_append, List.filter_append]
  rw [List.filter_eq_nil_iff.2, List.filter_eq_self.2, List.filter_eq_nil_iff.2]
  · simp
  · intro j hj; rw [List.mem_range'_1] at hj; simp; omega
  · intro j hj; rw [List.mem_range'_1] at hj; simp; omega
  · intro j hj; rw [List.mem_range'_1] at hj; simp; omega
end Go.Proofs.Ytffnfcokgemgjaa
