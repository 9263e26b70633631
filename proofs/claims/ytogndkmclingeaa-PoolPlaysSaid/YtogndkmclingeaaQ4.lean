import Derived.Test.YtogndkmclingeaaQ3
import Derived.Test.YtogndkmclingeaaPNum
namespace Go.Proofs.Ytogndkmclingeaa
set_option linter.unusedSimpArgs false
set_option linter.unusedVariables false
open Go.RX
/-! ### The refs -/
def refE (k o r e x : Int) : Int := if rightD k o r e = false then 11 else if k = 2 ∨ k = 3 ∨ k = 4 then (if r + x < 0 ∨ r + x > 65535 then 2 else 0) else 6
def refV (k o r e x : Int) : Int × Int × Int × Int × Unit := if refE k o r e x = 0 then (k, o, r + x, e, ()) else (0, 0, 0, 0, ())
theorem ref_ok (k o r e x : Int) (hx : -9223372036854775808 ≤ x ∧ x < 9223372036854775808) (w : World) : CallsR Try.prog 34 (.tup [(.agg [.int .i64, .int .i64, .int .i64, .int .i64]), .one (.int .i64)]) [.agg ⟨[.int .i64 k, .int .i64 o, .int .i64 r, .int .i64 e]⟩, .int .i64 x] w
    (fun v w' => v = (refV k o r e x, refE k o r e x, ()) ∧ Ext w w') := by
  refine rxFnR_ok (C := D2) (ann := fun _ => []) (Eq.mpr (ref_vc k o r e x w _) ?_)
  have H := At.start [] w
  repeat' (first
    | exact Go.RX.AtD.all H
    | exact And.intro (by first | rfl | decide +kernel) (Go.RX.AtD.all H)
    | refine And.intro (by first | exact rfl | exact trivial | exact fun _ => rfl | exact fun _ => trivial | exact ⟨rfl, by decide, by decide⟩ | exact ⟨by decide, by decide⟩ | decide +kernel | exact fun _ => by decide | exact fun _ => ⟨rfl, by decide, by decide⟩ | (dsimp only [List.length_cons, List.length_nil]; exact ⟨rfl, by decide, by decide⟩)) ?_
    | refine LdP.atA 0 H rfl rfl ?_
    | refine LdP.atA 1 H rfl rfl ?_
    | refine LdP.atA 2 H rfl rfl ?_
    | refine LdP.at 0 H rfl rfl ?_
    | refine LdP.at 1 H rfl rfl ?_
    | refine LdP.at 2 H rfl rfl ?_
    | refine AlP.go H fun b w1 H => ?_
    | refine StP.all 0 H rfl rfl rfl fun w1 H => ?_
    | refine StP.all 1 H rfl rfl rfl fun w1 H => ?_
    | refine StP.all 2 H rfl rfl rfl fun w1 H => ?_
    | refine StP.oneA 0 H rfl rfl rfl fun w1 H => ?_
    | refine StP.oneA 1 H rfl rfl rfl fun w1 H => ?_
    | refine StP.oneA 2 H rfl rfl rfl fun w1 H => ?_
    | refine StP.one 0 H rfl rfl rfl fun w1 H => ?_
    | refine StP.one 1 H rfl rfl rfl fun w1 H => ?_
    | refine StP.one 2 H rfl rfl rfl fun w1 H => ?_
    | with_reducible refine EnP.go H fun w1 H => ?_
    | refine shr_go ?_
    | refine brP_pos (by assumption) ?_
    | refine brP_neg (by assumption) ?_
    | refine brP_intro (fun c => ?_) (fun c => ?_))
  all_goals
    refine And.intro ?_ H.all
    simp only [Bool.or_eq_true, Bool.or_eq_false_iff, Bool.and_eq_true, Bool.and_eq_false_iff, beq_iff_eq, beq_eq_false_iff_ne, bne_iff_ne, bne_eq_false_iff_eq, decide_eq_true_eq, decide_eq_false_iff_not, Bool.false_eq_true, Bool.true_eq_false, Bool.not_eq_true', Bool.not_eq_false', and_true, true_and, and_false, false_and, or_true, true_or, or_false, false_or, ne_eq, not_true_eq_false, not_false_eq_true, false_iff, iff_false, true_iff, iff_true] at *
  · simp [refV, refE, *]
  · have h2 : ¬ (k = 2 ∨ k = 3 ∨ k = 4) := by omega
    simp [refV, refE, *]
  all_goals
    have hr : rightD k o r e = true := by assumption
    have hp : rightP k o r e := of_decide_eq_true hr
    unfold rightP at hp
    have e1 : subI .i64 65535 r = 65535 - r := subI_i64 (by omega) (by omega)
    have e2 : subI .i64 0 r = 0 - r := subI_i64 (by omega) (by omega)
    simp only [e1, e2] at *
    have h2 : k = 2 ∨ k = 3 ∨ k = 4 := by omega
  · have h3 : r + x < 0 ∨ r + x > 65535 := by omega
    simp [refV, refE, *]
  · have h3 : ¬ (r + x < 0 ∨ r + x > 65535) := by omega
    have e3 : addI .i64 r x = r + x := addI_i64 (by omega) (by omega)
    have : refE k o r e x = 0 := by unfold refE; rw [if_neg (by rw [hr]; decide), if_pos h2, if_neg h3]
    unfold refV
    rw [this, if_pos rfl, e3]
theorem rref_ok (k o r e x : Int) (hx : -9223372036854775808 ≤ x ∧ x < 9223372036854775808) (w : World) : CallsR Try.prog 38 (.tup [(.agg [.int .i64, .int .i64, .int .i64, .int .i64]), .one (.int .i64)]) [.agg ⟨[.int .i64 k, .int .i64 o, .int .i64 r, .int .i64 e]⟩, .int .i64 x] w
    (fun v w' => v = (refV k o r e x, refE k o r e x, ()) ∧ Ext w w') := by
  refine rxFnR_ok (C := D2) (ann := fun _ => []) (Eq.mpr (rref_vc k o r e x w _) ?_)
  have H := At.start [] w
  repeat' (first
    | exact Go.RX.AtD.all H
    | exact And.intro (by first | rfl | decide +kernel) (Go.RX.AtD.all H)
    | refine And.intro (by first | exact rfl | exact trivial | exact fun _ => rfl | exact fun _ => trivial | exact ⟨rfl, by decide, by decide⟩ | exact ⟨by decide, by decide⟩ | decide +kernel | exact fun _ => by decide | exact fun _ => ⟨rfl, by decide, by decide⟩ | (dsimp only [List.length_cons, List.length_nil]; exact ⟨rfl, by decide, by decide⟩)) ?_
    | refine LdP.atA 0 H rfl rfl ?_
    | refine LdP.atA 1 H rfl rfl ?_
    | refine LdP.atA 2 H rfl rfl ?_
    | refine LdP.at 0 H rfl rfl ?_
    | refine LdP.at 1 H rfl rfl ?_
    | refine LdP.at 2 H rfl rfl ?_
    | refine AlP.go H fun b w1 H => ?_
    | refine StP.all 0 H rfl rfl rfl fun w1 H => ?_
    | refine StP.all 1 H rfl rfl rfl fun w1 H => ?_
    | refine StP.all 2 H rfl rfl rfl fun w1 H => ?_
    | refine StP.oneA 0 H rfl rfl rfl fun w1 H => ?_
    | refine StP.oneA 1 H rfl rfl rfl fun w1 H => ?_
    | refine StP.oneA 2 H rfl rfl rfl fun w1 H => ?_
    | refine StP.one 0 H rfl rfl rfl fun w1 H => ?_
    | refine StP.one 1 H rfl rfl rfl fun w1 H => ?_
    | refine StP.one 2 H rfl rfl rfl fun w1 H => ?_
    | with_reducible refine EnP.go H fun w1 H => ?_
    | refine shr_go ?_
    | refine brP_pos (by assumption) ?_
    | refine brP_neg (by assumption) ?_
    | refine brP_intro (fun c => ?_) (fun c => ?_))
  all_goals
    refine And.intro ?_ H.all
    simp only [Bool.or_eq_true, Bool.or_eq_false_iff, Bool.and_eq_true, Bool.and_eq_false_iff, beq_iff_eq, beq_eq_false_iff_ne, bne_iff_ne, bne_eq_false_iff_eq, decide_eq_true_eq, decide_eq_false_iff_not, Bool.false_eq_true, Bool.true_eq_false, Bool.not_eq_true', Bool.not_eq_false', and_true, true_and, and_false, false_and, or_true, true_or, or_false, false_or, ne_eq, not_true_eq_false, not_false_eq_true, false_iff, iff_false, true_iff, iff_true] at *
  · simp [refV, refE, *]
  all_goals
    have hr : rightD k o r e = true := by assumption
    have hp : rightP k o r e := of_decide_eq_true hr
    unfold rightP at hp
  · have h2 : ¬ (k = 2 ∨ k = 3 ∨ k = 4) := by omega
    simp [refV, refE, *]
  · have h2 : k = 2 ∨ k = 3 ∨ k = 4 := by omega
    have h3 : r + x < 0 ∨ r + x > 65535 := by
      by_cases h : x > 65535 ∨ x < -65535
      · omega
      · have e3 : addI .i64 r x = r + x := addI_i64 (by omega) (by omega)
        simp only [e3] at *
        omega
    simp [refV, refE, *]
  · have h2 : k = 2 ∨ k = 3 ∨ k = 4 := by omega
    have e3 : addI .i64 r x = r + x := addI_i64 (by omega) (by omega)
    simp only [e3] at *
    have h3 : ¬ (r + x < 0 ∨ r + x > 65535) := by omega
    have : refE k o r e x = 0 := by unfold refE; rw [if_neg (by rw [hr]; decide), if_pos h2, if_neg h3]
    unfold refV
    rw [this, if_pos rfl]
/-! ### Words -/
def partsL (k o r e : Int) : List (BitVec 64 × Int) := [(B k, 4), (B o, 8), (B r, 16), (B 0, 4), (B e, 32)]
def packW (k o r e : Int) : Int := if rightD k o r e = true then k + 16 * o + 4096 * r + 4294967296 * e else 0
def packE (k o r e : Int) : Int := if rightD k o r e = true then 0 else 11
theorem B_nat {x : Int} (h : 0 ≤ x) (h' : x < 18446744073709551616) : (B x).toNat = x.toNat := by
  have := U_B' h h'
  unfold U at this
  omega
theorem conv_u64 (x : Int) : convI .u64 x = U (B x) := wrap_B x
theorem pack_num {k o r e : Int} (h : rightP k o r e) : U (packB 0#64 0 (partsL k o r e)) = k + 16 * o + 4096 * r + 4294967296 * e := by
  unfold rightP at h
  have nk := B_nat (x := k) (by omega) (by omega)
  have no := B_nat (x := o) (by omega) (by omega)
  have nr := B_nat (x := r) (by omega) (by omega)
  have n0 := B_nat (x := 0) (by omega) (by omega)
  have ne := B_nat (x := e) (by omega) (by omega)
  simp only [partsL, packB]
  rw [if_pos (by decide), if_pos (by decide), if_pos (by decide), if_pos (by decide), if_pos (by decide)]
  have e1 := put_step (w := 0#64) (lo := 0) (sz := 4) (by decide) (rfl : (0#64).toNat = 0) (by decide) nk (by show k.toNat < 16; omega)
  have e2 := put_step (lo := 0 + 4) (sz := 8) (by decide) e1 (by show 1 * k.toNat + 0 < 16; omega) no (by show o.toNat < 256; omega)
  have e3 := put_step (lo := 0 + 4 + 8) (sz := 16) (by decide) e2 (by show 16 * o.toNat + (1 * k.toNat + 0) < 4096; omega) nr (by show r.toNat < 65536; omega)
  have e4 := put_step (lo := 0 + 4 + 8 + 16) (sz := 4) (by decide) e3 (by show 4096 * r.toNat + (16 * o.toNat + (1 * k.toNat + 0)) < 268435456; omega) n0 (by decide)
  have e5 := put_step (lo := 0 + 4 + 8 + 16 + 4) (sz := 32) (by decide) e4 (by show 268435456 * (0 : Int).toNat + (4096 * r.toNat + (16 * o.toNat + (1 * k.toNat + 0))) < 4294967296; omega) ne (by show e.toNat < 4294967296; omega)
  rw [U_eq e5]
  show ((4294967296 * e.toNat + (268435456 * (0 : Int).toNat + (4096 * r.toNat + (16 * o.toNat + (1 * k.toNat + 0)))) : Nat) : Int) = _
  omega
end Go.Proofs.Ytogndkmclingeaa
