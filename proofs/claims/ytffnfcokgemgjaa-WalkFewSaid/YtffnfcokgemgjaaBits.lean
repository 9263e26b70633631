import Derived.Test.YtffnfcokgemgjaaRx
/-! Fields of words, in plain Lean. -/
namespace Go.Proofs.Ytffnfcokgemgjaa
set_option linter.unusedSimpArgs false
set_option linter.unusedVariables false
open Go.RX

def fitsI (lo sz : Int) : Bool := decide (lo ≥ 0) && decide (lo < 64) && decide (sz ≥ 1) && decide (sz ≤ 64 - lo)
theorem fitsI_iff {lo sz : Int} : fitsI lo sz = true ↔ 0 ≤ lo ∧ lo < 64 ∧ 1 ≤ sz ∧ sz ≤ 64 - lo := by
  simp only [fitsI, Bool.and_eq_true, decide_eq_true_eq]; omega
/-- n bits from lo on. -/
def Mk (lo n : Nat) : BitVec 64 := (BitVec.allOnes 64 >>> (64 - n)) <<< lo
theorem Mk_bit {lo n j : Nat} (hn : n ≤ 64) : (Mk lo n).getLsbD j = (decide (lo ≤ j) && decide (j < lo + n) && decide (j < 64)) := by
  unfold Mk
  rw [BitVec.getLsbD_shiftLeft, BitVec.getLsbD_ushiftRight, BitVec.getLsbD_allOnes]
  by_cases h1 : j < 64 <;> by_cases h2 : lo ≤ j <;> by_cases h3 : j < lo + n <;> simp [h1, h2, h3] <;> omega
def maskB (lo sz : Int) : BitVec 64 := if fitsI lo sz = true then Mk lo.toNat sz.toNat else 0#64
def getB (w : BitVec 64) (lo sz : Int) : BitVec 64 := (w &&& maskB lo sz) >>> (maxI 0 (minI lo 63)).toNat
def putB (w : BitVec 64) (lo sz : Int) (v : BitVec 64) : BitVec 64 := if maskB lo sz = 0#64 then w else w &&& ~~~ maskB lo sz ||| v <<< lo.toNat &&& maskB lo sz

theorem ones_shift {lo sz : Int} (h : fitsI lo sz = true) : shlI .u64 (shrI .u64 18446744073709551615 (subI .i64 64 sz)) lo = U (maskB lo sz) := by
  have h' := fitsI_iff.1 h
  rw [show (18446744073709551615 : Int) = U (BitVec.allOnes 64) from rfl, shrI_U, shlI_U, subI_i64 (by omega) (by omega)]
  unfold maskB Mk
  rw [if_pos h]
  congr 4
  omega
theorem maskB_ne {lo sz : Int} (h : fitsI lo sz = true) : maskB lo sz ≠ 0#64 := by
  intro h0
  have h' := fitsI_iff.1 h
  have := congrArg (fun b => b.getLsbD lo.toNat) h0
  simp only [maskB, if_pos h] at this
  rw [Mk_bit (by omega)] at this
  simp at this
  omega
theorem maskB_none {lo sz : Int} (h : fitsI lo sz = false) : maskB lo sz = 0#64 := by simp [maskB, h]

/-- One bit. -/
def oneB (i : Nat) : BitVec 64 := 1#64 <<< i
theorem oneB_bit (i j : Nat) : (oneB i).getLsbD j = (decide (i = j) && decide (j < 64)) := by
  unfold oneB
  rw [BitVec.getLsbD_shiftLeft, BitVec.getLsbD_one]
  by_cases h1 : j < 64 <;> by_cases h2 : i = j <;> simp [h1, h2] <;> omega
theorem oneB_succ (i : Nat) : 2#64 * oneB i = oneB (i + 1) := by
  unfold oneB
  rw [BitVec.shiftLeft_add]
  apply BitVec.eq_of_toNat_eq
  simp [BitVec.toNat_shiftLeft, Nat.shiftLeft_eq]
  omega
theorem half (w : BitVec 64) : quoI .u64 (U w) 2 = U (w >>> 1) := by
  unfold quoI
  rw [wrap_u64]
  unfold U
  rw [BitVec.toNat_ushiftRight, Nat.shiftRight_eq_div_pow, Int.tdiv_eq_ediv_of_nonneg (by omega)]
  have := w.isLt
  omega
theorem odd (w : BitVec 64) : (remI (U w) 2 == 1) = w.getLsbD 0 := by
  unfold remI U
  rw [Int.tmod_eq_emod_of_nonneg (by omega), BitVec.getLsbD, Nat.testBit_zero]
  have : ((w.toNat : Int) % 2 == 1) = decide (w.toNat % 2 = 1) := by
    by_cases h : w.toNat % 2 = 1 <;> simp [h] <;> omega
  rw [this]

theorem Mk_succ {lo k : Nat} (h : lo + k < 64) : Mk lo k + oneB (lo + k) = Mk lo (k + 1) := by
  rw [BitVec.add_eq_or_of_and_eq_zero]
  · apply BitVec.eq_of_getLsbD_eq
    intro j hj
    rw [BitVec.getLsbD_or, Mk_bit (by omega), Mk_bit (by omega), oneB_bit]
    simp only [hj, decide_true, Bool.and_true]
    by_cases h1 : lo ≤ j <;> by_cases h2 : j < lo + k <;> by_cases h3 : lo + k = j <;> simp [h1, h2, h3] <;> omega
  · apply BitVec.eq_of_getLsbD_eq
    intro j hj
    rw [BitVec.getLsbD_and, Mk_bit (by omega), oneB_bit]
    simp only [hj, decide_true, Bool.and_true, BitVec.getLsbD_zero]
    by_cases h1 : lo ≤ j <;> by_cases h2 : j < lo + k <;> by_cases h3 : lo + k = j <;> simp [h1, h2, h3] <;> omega
theorem Mk_zero (lo : Nat) : Mk lo 0 = 0#64 := by
  apply BitVec.eq_of_getLsbD_eq
  intro j hj
  rw [Mk_bit (by omega)]
  simp; omega
/-- The first k bits of a field. -/
def Gk (w : BitVec 64) (lo k : Nat) : BitVec 64 := (w >>> lo) &&& Mk 0 k
theorem Gk_zero (w : BitVec 64) (lo : Nat) : Gk w lo 0 = 0#64 := by simp [Gk, Mk_zero]
theorem Gk_bit {w : BitVec 64} {lo k j : Nat} (hk : k ≤ 64) : (Gk w lo k).getLsbD j = (w.getLsbD (lo + j) && decide (j < k)) := by
  unfold Gk
  rw [BitVec.getLsbD_and, BitVec.getLsbD_ushiftRight, Mk_bit hk]
  by_cases h : j < k <;> simp [h]
  omega
theorem Gk_one {w : BitVec 64} {lo k : Nat} (h : lo + k < 64) (hb : w.getLsbD (lo + k) = true) : Gk w lo k + oneB k = Gk w lo (k + 1) := by
  rw [BitVec.add_eq_or_of_and_eq_zero]
  · apply BitVec.eq_of_getLsbD_eq
    intro j hj
    rw [BitVec.getLsbD_or, Gk_bit (by omega), Gk_bit (by omega), oneB_bit]
    simp only [hj, decide_true, Bool.and_true]
    by_cases h3 : k = j
    · subst h3; simp [hb]
    · have : (j < k + 1) = (j < k) := by apply propext; omega
      simp [h3, this]
  · apply BitVec.eq_of_getLsbD_eq
    intro j hj
    rw [BitVec.getLsbD_and, Gk_bit (by omega), oneB_bit]
    by_cases h3 : k = j <;> simp [h3]
theorem Gk_none {w : BitVec 64} {lo k : Nat} (h : lo + k < 64) (hb : w.getLsbD (lo + k) = false) : Gk w lo k = Gk w lo (k + 1) := by
  apply BitVec.eq_of_getLsbD_eq
  intro j hj
  rw [Gk_bit (by omega), Gk_bit (by omega)]
  by_cases h3 : k = j
  · subst h3; simp [hb]
  · have : (j < k + 1) = (j < k) := by apply propext; omega
    simp [this]
/-- The first k bits of a field, put. -/
def Pk (w v : BitVec 64) (lo k : Nat) : BitVec 64 := w &&& ~~~ Mk lo k ||| v <<< lo &&& Mk lo k
theorem Pk_bit {w v : BitVec 64} {lo k j : Nat} (hk : k ≤ 64) (hj : j < 64) : (Pk w v lo k).getLsbD j = if lo ≤ j ∧ j < lo + k then v.getLsbD (j - lo) else w.getLsbD j := by
  unfold Pk
  rw [BitVec.getLsbD_or, BitVec.getLsbD_and, BitVec.getLsbD_and, BitVec.getLsbD_not, BitVec.getLsbD_shiftLeft, Mk_bit hk]
  by_cases h1 : lo ≤ j <;> by_cases h2 : j < lo + k <;> simp [h1, h2, hj]
  all_goals omega
theorem Pk_zero (w v : BitVec 64) (lo : Nat) : Pk w v lo 0 = w := by
  apply BitVec.eq_of_getLsbD_eq
  intro j hj
  rw [Pk_bit (by omega) hj, if_neg (by omega)]
theorem sub_oneB {a : BitVec 64} {i : Nat} (h : a.getLsbD i = true) : a - oneB i = a &&& ~~~ oneB i := by
  have hi : i < 64 := BitVec.lt_of_getLsbD h
  have e : (a &&& ~~~ oneB i) + oneB i = a := by
    rw [BitVec.add_eq_or_of_and_eq_zero]
    · apply BitVec.eq_of_getLsbD_eq
      intro j hj
      rw [BitVec.getLsbD_or, BitVec.getLsbD_and, BitVec.getLsbD_not, oneB_bit]
      by_cases h3 : i = j
      · subst h3; simp [h, hj]
      · simp [h3, hj]
    · apply BitVec.eq_of_getLsbD_eq
      intro j hj
      rw [BitVec.getLsbD_and, BitVec.getLsbD_and, BitVec.getLsbD_not, oneB_bit]
      by_cases h3 : i = j <;> simp [h3]
  rw [← e, BitVec.add_sub_cancel, e]
theorem add_oneB {a : BitVec 64} {i : Nat} (h : a.getLsbD i = false) : a + oneB i = a ||| oneB i := by
  rw [BitVec.add_eq_or_of_and_eq_zero]
  apply BitVec.eq_of_getLsbD_eq
  intro j hj
  rw [BitVec.getLsbD_and, oneB_bit]
  by_cases h3 : i = j
  · subst h3; simp [h]
  · simp [h3]
theorem Pk_same {w v : BitVec 64} {lo k : Nat} (h : lo + k < 64) : (Pk w v lo k).getLsbD (lo + k) = w.getLsbD (lo + k) := by
  rw [Pk_bit (by omega) h, if_neg (by omega)]
/-- One more bit is put. -/
theorem Pk_step {w v : BitVec 64} {lo k : Nat} (h : lo + k < 64) :
    (if v.getLsbD k = true then (if (Pk w v lo k).getLsbD (lo + k) = true then Pk w v lo k - oneB (lo + k) else Pk w v lo k) + oneB (lo + k) else (if (Pk w v lo k).getLsbD (lo + k) = true then Pk w v lo k - oneB (lo + k) else Pk w v lo k)) = Pk w v lo (k + 1) := by
  have hc : (if (Pk w v lo k).getLsbD (lo + k) = true then Pk w v lo k - oneB (lo + k) else Pk w v lo k) = Pk w v lo k &&& ~~~ oneB (lo + k) := by
    by_cases hb : (Pk w v lo k).getLsbD (lo + k) = true
    · rw [if_pos hb, sub_oneB hb]
    · rw [if_neg hb]
      apply BitVec.eq_of_getLsbD_eq
      intro j hj
      rw [BitVec.getLsbD_and, BitVec.getLsbD_not, oneB_bit]
      by_cases h3 : lo + k = j
      · subst h3; simp at hb; simp [hb]
      · simp [h3, hj]
  rw [hc]
  have h0 : (Pk w v lo k &&& ~~~ oneB (lo + k)).getLsbD (lo + k) = false := by
    rw [BitVec.getLsbD_and, BitVec.getLsbD_not, oneB_bit]; simp [h]
  apply BitVec.eq_of_getLsbD_eq
  intro j hj
  rw [Pk_bit (by omega) hj]
  by_cases h3 : lo + k = j
  · subst h3
    have e3 : (if lo ≤ lo + k ∧ lo + k < lo + (k + 1) then v.getLsbD (lo + k - lo) else w.getLsbD (lo + k)) = v.getLsbD k := by
      rw [if_pos (by omega), show lo + k - lo = k by omega]
    rw [e3]
    by_cases hv : v.getLsbD k = true
    · rw [if_pos hv, add_oneB h0, BitVec.getLsbD_or, oneB_bit, hv]; simp [h]
    · rw [if_neg hv, h0]; simp at hv; rw [hv]
  · have e1 : (Pk w v lo k &&& ~~~ oneB (lo + k)).getLsbD j = (Pk w v lo k).getLsbD j := by
      rw [BitVec.getLsbD_and, BitVec.getLsbD_not, oneB_bit]; simp [h3, hj]
    have e2 : (if lo ≤ j ∧ j < lo + (k + 1) then v.getLsbD (j - lo) else w.getLsbD j) = (Pk w v lo k).getLsbD j := by
      rw [Pk_bit (by omega) hj]
      have : (lo ≤ j ∧ j < lo + (k + 1)) = (lo ≤ j ∧ j < lo + k) := by apply propext; omega
      simp only [this]
    rw [e2]
    by_cases hv : v.getLsbD k = true
    · rw [if_pos hv, add_oneB h0, BitVec.getLsbD_or, oneB_bit, e1]; simp [h3]
    · rw [if_neg hv, e1]
theorem getB_Gk {w : BitVec 64} {lo sz : Int} (h : fitsI lo sz = true) : getB w lo sz = Gk w lo.toNat sz.toNat := by
  have h' := fitsI_iff.1 h
  unfold getB maskB
  rw [if_pos h]
  have e : (maxI 0 (minI lo 63)).toNat = lo.toNat := by unfold maxI minI; split <;> split <;> omega
  rw [e]
  apply BitVec.eq_of_getLsbD_eq
  intro j hj
  rw [Gk_bit (by omega), BitVec.getLsbD_ushiftRight, BitVec.getLsbD_and, Mk_bit (by omega)]
  by_cases h1 : lo.toNat + j < 64
  · by_cases h2 : j < sz.toNat <;> simp [h1, h2]
  · rw [BitVec.getLsbD_of_ge w _ (by omega)]; simp
theorem getB_none {w : BitVec 64} {lo sz : Int} (h : fitsI lo sz = false) : getB w lo sz = 0#64 := by
  unfold getB; rw [maskB_none h]; simp
theorem putB_Pk {w v : BitVec 64} {lo sz : Int} (h : fitsI lo sz = true) : putB w lo sz v = Pk w v lo.toNat sz.toNat := by
  unfold putB Pk
  rw [if_neg (maskB_ne h)]
  simp only [maskB, if_pos h]
theorem putB_none {w v : BitVec 64} {lo sz : Int} (h : fitsI lo sz = false) : putB w lo sz v = w := by
  unfold putB; rw [if_pos (maskB_none h)]

end Go.Proofs.Ytffnfcokgemgjaa
