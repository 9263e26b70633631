import Derived.Test.YtogndkmclingeaaQ4
namespace Go.Proofs.Ytogndkmclingeaa
set_option linter.unusedSimpArgs false
set_option linter.unusedVariables false
open Go.RX
/-! ### A word's descriptor -/
def fK (N : Nat) : Int := ((N % 16 : Nat) : Int)
def fO (N : Nat) : Int := ((N / 16 % 256 : Nat) : Int)
def fR (N : Nat) : Int := ((N / 4096 % 65536 : Nat) : Int)
def fS (N : Nat) : Int := ((N / 268435456 % 16 : Nat) : Int)
def fE (N : Nat) : Int := ((N / 4294967296 % 4294967296 : Nat) : Int)
def parD (N : Nat) : Bool := decide (fS N = 0) && rightD (fK N) (fO N) (fR N) (fE N)
def parV (N : Nat) : Int × Int × Int × Int × Unit := if parD N = true then (fK N, fO N, fR N, fE N, ()) else (0, 0, 0, 0, ())
theorem split_word5 (v : BitVec 64) : (splitB v 0 [4, 8, 16, 4, 32]).getD [] = [getB v 0 4, getB v 4 8, getB v 12 16, getB v 28 4, getB v 32 32] := by
  simp only [splitB]
  rw [if_pos (by decide), if_pos (by decide), if_pos (by decide), if_pos (by decide), if_pos (by decide)]
  rfl
theorem getK (v : BitVec 64) : U (getB v 0 4) = fK v.toNat := by rw [U_eq (get_num 1 16 (by decide) rfl rfl), Nat.div_one]; rfl
theorem getO (v : BitVec 64) : U (getB v 4 8) = fO v.toNat := U_eq (get_num 16 256 (by decide) rfl rfl)
theorem getR (v : BitVec 64) : U (getB v 12 16) = fR v.toNat := U_eq (get_num 4096 65536 (by decide) rfl (by decide))
theorem getS (v : BitVec 64) : U (getB v 28 4) = fS v.toNat := U_eq (get_num 268435456 16 (by decide) (by decide) rfl)
theorem getE (v : BitVec 64) : U (getB v 32 32) = fE v.toNat := U_eq (get_num 4294967296 4294967296 (by decide) (by decide) (by decide))
theorem cI64 {x : Int} (h : 0 ≤ x) (h' : x < 4294967296) : convI .i64 x = x := wrap_i64_id (by omega) (by omega)
theorem cK (N : Nat) : convI .i64 (fK N) = fK N := cI64 (by unfold fK; omega) (by unfold fK; omega)
theorem cO (N : Nat) : convI .i64 (fO N) = fO N := cI64 (by unfold fO; omega) (by unfold fO; omega)
theorem cR (N : Nat) : convI .i64 (fR N) = fR N := cI64 (by unfold fR; omega) (by unfold fR; omega)
theorem cE (N : Nat) : convI .i64 (fE N) = fE N := cI64 (by unfold fE; omega) (by unfold fE; omega)
/-! ### Names -/
def nameS (a : Int) : ByteArray := if a = 0 then ⟨#[102, 114, 101, 101]⟩ else if a = 1 then ⟨#[99, 97, 99, 104, 101, 100]⟩ else if a = 2 then ⟨#[109, 111, 110, 105, 116, 111, 114]⟩ else if a = 3 then ⟨#[116, 97, 98, 108, 101]⟩ else if a = 4 then ⟨#[103, 117, 101, 115, 116]⟩ else if a = 5 then ⟨#[114, 101, 116, 105, 114, 101, 100]⟩ else ⟨#[]⟩
end Go.Proofs.Ytogndkmclingeaa
