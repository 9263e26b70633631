import Derived.Test.YtcnaaobeooiojaaBits
import Derived.Test.YtcnaaobeooiojaaProg
namespace Go.Proofs.Ytcnaaobeooiojaa
set_option linter.unusedSimpArgs false
set_option linter.unusedVariables false
open Go.RX
theorem mx : Try.prog.follows .mixedOrders = true := by kernel_rfl
noncomputable def C0 : Cfg Try.prog := { tab := [], quiet := [], sh := [], mixed := mx }
theorem fitsI_eq (lo sz : Int) : (decide (lo ≥ 0) && decide (lo < 64) && decide (sz ≥ 1) && decide (sz ≤ subI .i64 64 lo)) = fitsI lo sz := by
  unfold fitsI
  by_cases h : 0 ≤ lo ∧ lo < 64
  · rw [subI_i64 (by omega) (by omega)]
  · by_cases h1 : lo ≥ 0 <;> by_cases h2 : lo < 64 <;> simp [h1, h2] <;> omega
theorem isI_eq (lo sz : Int) : (decide (lo ≥ 0) && decide (lo < 64) && decide (sz ≥ 1) && decide (sz ≤ 64) && decide (addI .i64 lo sz ≤ 64)) = fitsI lo sz := by
  unfold fitsI
  by_cases h : 0 ≤ lo ∧ lo < 64 ∧ 1 ≤ sz ∧ sz ≤ 64
  · rw [addI_i64 (by omega) (by omega)]
    obtain ⟨h1, h2, h3, h4⟩ := h
    simp [h1, h2, h3, h4]; omega
  · by_cases h1 : lo ≥ 0 <;> by_cases h2 : lo < 64 <;> by_cases h3 : sz ≥ 1 <;> by_cases h4 : sz ≤ 64 <;> simp [h1, h2, h3, h4] <;> omega
noncomputable def C1 : Cfg Try.prog := { C0 with tab := [] }
/-- A loop that counts up to a field's size. -/
theorem upto {lo sz : Int} (k : Nat) (h : (decide ((k : Int) < sz) && fitsI lo sz) = true) : fitsI lo sz = true ∧ lo.toNat + k < 64 ∧ k < sz.toNat ∧ addI .i64 lo (k : Int) = ((lo.toNat + k : Nat) : Int) ∧ addI .i64 (k : Int) 1 = ((k + 1 : Nat) : Int) := by
  simp only [Bool.and_eq_true, decide_eq_true_eq] at h
  obtain ⟨h1, h2⟩ := h
  have h3 := fitsI_iff.1 h2
  refine ⟨h2, by omega, by omega, ?_, ?_⟩
  · rw [addI_i64 (by omega) (by omega)]; omega
  · rw [addI_i64 (by omega) (by omega)]; omega
theorem upto_end {lo sz : Int} {k : Nat} (hk : k ≤ sz.toNat) (h : (decide ((k : Int) < sz) && fitsI lo sz) = false) (hf : fitsI lo sz = true) : k = sz.toNat := by
  simp only [hf, Bool.and_true, decide_eq_false_iff_not] at h
  omega
noncomputable def C2 : Cfg Try.prog := { C0 with tab := [] }
noncomputable def C3 : Cfg Try.prog := { C0 with tab := [] }
end Go.Proofs.Ytcnaaobeooiojaa
