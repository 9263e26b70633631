import Derived.Test.YtffnfcokgemgjaaBits
/-! Fields as numbers. -/
namespace Go.Proofs.Ytffnfcokgemgjaa
set_option linter.unusedSimpArgs false
set_option linter.unusedVariables false
set_option maxRecDepth 100000
open Go.RX
theorem fits_nat' {lo sz : Int} (h : fitsI lo sz = true) : lo.toNat + sz.toNat ≤ 64 ∧ 1 ≤ sz.toNat := by
  have := fitsI_iff.1 h; omega
theorem getB_nat {w : BitVec 64} {lo sz : Int} (h : fitsI lo sz = true) : (getB w lo sz).toNat = w.toNat / 2 ^ lo.toNat % 2 ^ sz.toNat := by
  have hn := fits_nat' h
  apply Nat.eq_of_testBit_eq
  intro j
  rw [BitVec.testBit_toNat, getB_Gk h, Gk_bit (by omega), Nat.testBit_mod_two_pow, Nat.testBit_div_two_pow, BitVec.testBit_toNat, Nat.add_comm j, Bool.and_comm]
theorem putB_nat {w v : BitVec 64} {lo sz : Int} (h : fitsI lo sz = true) (hw : w.toNat < 2 ^ lo.toNat) : (putB w lo sz v).toNat = 2 ^ lo.toNat * (v.toNat % 2 ^ sz.toNat) + w.toNat := by
  have hn := fits_nat' h
  apply Nat.eq_of_testBit_eq
  intro j
  rw [BitVec.testBit_toNat, putB_Pk h, Nat.testBit_two_pow_mul_add _ hw]
  by_cases hj : j < 64
  · rw [Pk_bit (by omega) hj]
    by_cases h1 : j < lo.toNat
    · rw [if_neg (by omega), if_pos h1, BitVec.testBit_toNat]
    · rw [if_neg h1, Nat.testBit_mod_two_pow, BitVec.testBit_toNat]
      by_cases h2 : j < lo.toNat + sz.toNat
      · rw [if_pos (by omega)]
        have : j - lo.toNat < sz.toNat := by omega
        simp [this]
      · rw [if_neg (by omega)]
        have h3 : ¬ j - lo.toNat < sz.toNat := by omega
        simp only [h3, decide_false, Bool.false_and]
        rw [← BitVec.testBit_toNat]
        exact Nat.testBit_lt_two_pow (Nat.lt_of_lt_of_le hw (Nat.pow_le_pow_right (by decide) (by omega)))
  · rw [BitVec.getLsbD_of_ge _ _ (by omega), if_neg (by omega), Nat.testBit_mod_two_pow]
    have h3 : ¬ j - lo.toNat < sz.toNat := by omega
    simp [h3]
theorem U_nat (b : BitVec 64) : U b = (b.toNat : Int) := rfl
theorem U_eq {b : BitVec 64} {n : Nat} (h : b.toNat = n) : U b = (n : Int) := by rw [U_nat, h]
end Go.Proofs.Ytffnfcokgemgjaa
