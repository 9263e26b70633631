import Derived.Test.YtmdcalknhbhlcaaBits
import Derived.Test.YtmdcalknhbhlcaaLists
/-! The laws of fields, in plain Lean. -/
namespace Go.Proofs.Ytmdcalknhbhlcaa
open Go.RX
theorem fits_nat {lo sz : Int} (h : fitsI lo sz = true) : lo.toNat + sz.toNat ≤ 64 ∧ 1 ≤ sz.toNat := by
  have := fitsI_iff.1 h; omega
theorem maskB_bit {lo sz : Int} (h : fitsI lo sz = true) (j : Nat) : (maskB lo sz).getLsbD j = (decide (lo.toNat ≤ j) && decide (j < lo.toNat + sz.toNat)) := by
  have hn := fits_nat h
  unfold maskB
  rw [if_pos h, Mk_bit (by omega)]
  by_cases h1 : lo.toNat ≤ j <;> by_cases h2 : j < lo.toNat + sz.toNat <;> simp [h1, h2] <;> omega
theorem putB_bit {w v : BitVec 64} {lo sz : Int} (h : fitsI lo sz = true) {j : Nat} (hj : j < 64) : (putB w lo sz v).getLsbD j = if lo.toNat ≤ j ∧ j < lo.toNat + sz.toNat then v.getLsbD (j - lo.toNat) else w.getLsbD j := by
  have hn := fits_nat h
  rw [putB_Pk h, Pk_bit (by omega) hj]
theorem getB_bit {w : BitVec 64} {lo sz : Int} (h : fitsI lo sz = true) (j : Nat) : (getB w lo sz).getLsbD j = (w.getLsbD (lo.toNat + j) && decide (j < sz.toNat)) := by
  have hn := fits_nat h
  rw [getB_Gk h, Gk_bit (by omega)]
theorem get_put_bit {w v : BitVec 64} {lo sz : Int} (h : fitsI lo sz = true) (j : Nat) : (getB (putB w lo sz v) lo sz).getLsbD j = (v.getLsbD j && decide (j < sz.toNat)) := by
  have hn := fits_nat h
  rw [getB_bit h]
  by_cases hj : j < sz.toNat
  · rw [putB_bit h (by omega), if_pos (by omega), show lo.toNat + j - lo.toNat = j by omega]
  · simp [hj]
theorem get_put {w v : BitVec 64} {lo sz : Int} (h : fitsI lo sz = true) : getB (putB w lo sz v) lo sz = v <<< (64 - sz.toNat) >>> (64 - sz.toNat) := by
  have hn := fits_nat h
  apply BitVec.eq_of_getLsbD_eq
  intro j hj
  rw [get_put_bit h, BitVec.getLsbD_ushiftRight, BitVec.getLsbD_shiftLeft]
  by_cases hj : j < sz.toNat
  · rw [show 64 - sz.toNat + j - (64 - sz.toNat) = j by omega]
    simp [hj]; omega
  · simp [hj]; omega
theorem put_beside {w v : BitVec 64} {lo sz : Int} (h : fitsI lo sz = true) : putB w lo sz v &&& ~~~ maskB lo sz = w &&& ~~~ maskB lo sz := by
  apply BitVec.eq_of_getLsbD_eq
  intro j hj
  rw [BitVec.getLsbD_and, BitVec.getLsbD_and, BitVec.getLsbD_not, maskB_bit h, putB_bit h hj]
  by_cases h1 : lo.toNat ≤ j <;> by_cases h2 : j < lo.toNat + sz.toNat <;> simp [h1, h2]
theorem put_get {w v : BitVec 64} {lo sz : Int} (h : fitsI lo sz = true) : putB (putB w lo sz v) lo sz (getB w lo sz) = w := by
  apply BitVec.eq_of_getLsbD_eq
  intro j hj
  rw [putB_bit h hj, putB_bit h hj, getB_bit h]
  by_cases h1 : lo.toNat ≤ j ∧ j < lo.toNat + sz.toNat
  · rw [if_pos h1, show lo.toNat + (j - lo.toNat) = j by omega]
    have : j - lo.toNat < sz.toNat := by omega
    simp [this]
  · rw [if_neg h1, if_neg h1]
theorem ones_mask {lo sz : Int} (h : fitsI lo sz = true) : onesL (maskB lo sz) = List.range' lo.toNat sz.toNat := by
  have hn := fits_nat h
  unfold onesL remL
  rw [show 64 - 0 = 64 from rfl, ← filter_range' lo.toNat sz.toNat hn.1]
  congr 1
  funext j
  exact maskB_bit h j
theorem count_mask {lo sz : Int} (h : fitsI lo sz = true) : (onesL (maskB lo sz)).length = sz.toNat := by
  rw [ones_mask h, List.length_range']
theorem masks_apart {lo a b : Int} (h1 : fitsI lo a = true) (h2 : fitsI (lo + a) b = true) : maskB lo a &&& maskB (lo + a) b = 0#64 := by
  have f1 := fitsI_iff.1 h1
  apply BitVec.eq_of_getLsbD_eq
  intro j hj
  rw [BitVec.getLsbD_and, maskB_bit h1, maskB_bit h2, BitVec.getLsbD_zero]
  by_cases k1 : j < lo.toNat + a.toNat
  · have : ¬ (lo + a).toNat ≤ j := by omega
    simp [this]
  · simp [k1]
theorem masks_join {lo a b : Int} (h1 : fitsI lo a = true) (h2 : fitsI (lo + a) b = true) : maskB lo a ||| maskB (lo + a) b = maskB lo (a + b) := by
  have f1 := fitsI_iff.1 h1
  have f2 := fitsI_iff.1 h2
  have h3 : fitsI lo (a + b) = true := fitsI_iff.2 (by omega)
  apply BitVec.eq_of_getLsbD_eq
  intro j hj
  rw [BitVec.getLsbD_or, maskB_bit h1, maskB_bit h2, maskB_bit h3]
  have e1 : (lo + a).toNat = lo.toNat + a.toNat := by omega
  have e2 : (a + b).toNat = a.toNat + b.toNat := by omega
  rw [e1, e2]
  by_cases k1 : j < lo.toNat + a.toNat
  · have k2 : ¬ lo.toNat + a.toNat ≤ j := by omega
    have k3 : j < lo.toNat + (a.toNat + b.toNat) := by omega
    simp [k1, k2, k3]
  · have k2 : lo.toNat + a.toNat ≤ j := by omega
    have k4 : lo.toNat ≤ j := by omega
    simp [k1, k2, k4, Nat.add_assoc]
/-- Fields apart from one another. -/
theorem put_comm {w u v : BitVec 64} {a m b n : Int} (h1 : fitsI a m = true) (h2 : fitsI b n = true) (hab : a + m ≤ b) : putB (putB w a m u) b n v = putB (putB w b n v) a m u := by
  have f1 := fitsI_iff.1 h1
  have f2 := fitsI_iff.1 h2
  apply BitVec.eq_of_getLsbD_eq
  intro j hj
  rw [putB_bit h2 hj, putB_bit h1 hj, putB_bit h1 hj, putB_bit h2 hj]
  by_cases k1 : a.toNat ≤ j ∧ j < a.toNat + m.toNat
  · rw [if_pos k1, if_pos k1, if_neg (by omega)]
  · rw [if_neg k1, if_neg k1]
theorem get_beside {w v : BitVec 64} {a m b n : Int} (h1 : fitsI a m = true) (h2 : fitsI b n = true) (hab : a + m ≤ b) : getB (putB w b n v) a m = getB w a m := by
  have f1 := fitsI_iff.1 h1
  have f2 := fitsI_iff.1 h2
  apply BitVec.eq_of_getLsbD_eq
  intro j hj
  rw [getB_bit h1, getB_bit h1]
  by_cases k : j < m.toNat
  · rw [putB_bit h2 (by omega), if_neg (by omega)]
  · simp [k]
theorem get_put_any {w w' v : BitVec 64} {a b m : Int} (h1 : fitsI a m = true) (h2 : fitsI b m = true) : getB (putB w a m v) a m = getB (putB w' b m v) b m := by
  apply BitVec.eq_of_getLsbD_eq
  intro j hj
  rw [get_put_bit h1, get_put_bit h2]
/-! Numbers. -/
theorem remI_nn {a b : Int} (h : 0 ≤ a) : remI a b = a % b := Int.tmod_eq_emod_of_nonneg h
theorem conv_i64 {x : Int} (h : -9223372036854775808 ≤ x) (h' : x < 9223372036854775808) : convI .i64 x = x := wrap_i64_id h h'
theorem conv_u64 {x : Int} (h : 0 ≤ x) (h' : x < 18446744073709551616) : convI .u64 x = x := by
  show IntKind.u64.wrap x = x
  rw [wrap_u64]; omega
theorem u8_wf {x : Int} (h : (Lit.int .u8 x).wf = true) : 0 ≤ x ∧ x < 256 := by
  simp [Lit.wf, IntKind.min, IntKind.max, IntKind.bits, IntKind.signed] at h
  omega
end Go.Proofs.Ytmdcalknhbhlcaa
