import Derived.Test.YtffnfcokgemgjaaNum
import Derived.Test.YtffnfcokgemgjaaLst
/-! Entries as numbers. -/
namespace Go.Proofs.Ytffnfcokgemgjaa
set_option linter.unusedSimpArgs false
set_option linter.unusedVariables false
set_option maxRecDepth 100000
open Go.RX
def bB (b : Bool) : BitVec 64 := if b then 1#64 else 0#64
def nB (b : Bool) : Nat := if b then 1 else 0
theorem bB_nat (b : Bool) : (bB b).toNat = nB b := by cases b <;> rfl
theorem nB_le (b : Bool) : nB b ≤ 1 := by cases b <;> decide
theorem put_step {w v : BitVec 64} {lo sz : Int} {a n : Nat} (hf : fitsI lo sz = true) (hw : w.toNat = a) (ha : a < 2 ^ lo.toNat) (hv : v.toNat = n) (hn : n < 2 ^ sz.toNat) : (putB w lo sz v).toNat = 2 ^ lo.toNat * n + a := by
  rw [putB_nat hf (by rw [hw]; exact ha), hv, hw, Nat.mod_eq_of_lt hn]
theorem pack_word {p l : Bool} {r f : BitVec 64} {x y : Nat} (hr : r.toNat = x) (hx : x < 8) (hf : f.toNat = y) (hy : y < 4096) :
    (packB 0#64 0 [(bB p, 1), (r, 3), (bB l, 1), (0#64, 7), (f, 12)]).toNat = nB p + 2 * x + 16 * nB l + 4096 * y := by
  have hp := nB_le p
  have hl := nB_le l
  simp only [packB]
  rw [if_pos (by decide), if_pos (by decide), if_pos (by decide), if_pos (by decide), if_pos (by decide)]
  have e1 := put_step (w := 0#64) (lo := 0) (sz := 1) (by decide) (rfl : (0#64).toNat = 0) (by decide) (bB_nat p) (by show nB p < 2; omega)
  have e2 := put_step (lo := 0 + 1) (sz := 3) (by decide) e1 (by show 1 * nB p + 0 < 2; omega) hr (by show x < 8; omega)
  have e3 := put_step (lo := 0 + 1 + 3) (sz := 1) (by decide) e2 (by show 2 * x + (1 * nB p + 0) < 16; omega) (bB_nat l) (by show nB l < 2; omega)
  have e4 := put_step (lo := 0 + 1 + 3 + 1) (sz := 7) (v := 0#64) (by decide) e3 (by show 16 * nB l + (2 * x + (1 * nB p + 0)) < 32; omega) (rfl : (0#64).toNat = 0) (by decide)
  have e5 := put_step (lo := 0 + 1 + 3 + 1 + 7) (sz := 12) (by decide) e4 (by show 32 * 0 + (16 * nB l + (2 * x + (1 * nB p + 0))) < 4096; omega) hf (by show y < 4096; omega)
  rw [e5]
  show 4096 * y + (32 * 0 + (16 * nB l + (2 * x + (1 * nB p + 0)))) = _
  omega
theorem split_word (w : BitVec 64) : splitB w 0 [1, 3, 1, 7, 12, 40] = some [getB w 0 1, getB w 1 3, getB w 4 1, getB w 5 7, getB w 12 12, getB w 24 40] := by
  simp only [splitB]
  rw [if_pos (by decide), if_pos (by decide), if_pos (by decide), if_pos (by decide), if_pos (by decide), if_pos (by decide)]
  rfl
theorem get_num {w : BitVec 64} {lo sz : Int} (a b : Nat) (h : fitsI lo sz = true) (ha : 2 ^ lo.toNat = a) (hb : 2 ^ sz.toNat = b) : (getB w lo sz).toNat = w.toNat / a % b := by
  rw [getB_nat h, ha, hb]
end Go.Proofs.Ytffnfcokgemgjaa
