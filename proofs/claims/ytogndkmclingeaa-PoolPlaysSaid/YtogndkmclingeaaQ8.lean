import Derived.Test.YtogndkmclingeaaQ7
namespace Go.Proofs.Ytogndkmclingeaa
set_option linter.unusedSimpArgs false
set_option linter.unusedVariables false
open Go.RX
theorem packW_rng (k o r e : Int) : 0 ≤ packW k o r e ∧ packW k o r e < 18446744073709551616 := by
  unfold packW
  split
  · rename_i h
    have hp : rightP k o r e := of_decide_eq_true h
    unfold rightP at hp
    omega
  · omega
theorem pack_U (k o r e : Int) : U (B (packW k o r e)) = packW k o r e := U_B' (packW_rng k o r e).1 (packW_rng k o r e).2
theorem pack_par {k o r e : Int} (h : rightD k o r e = true) : parD (B (packW k o r e)).toNat = true ∧ parV (B (packW k o r e)).toNat = (k, o, r, e, ()) := by
  have hn : (B (packW k o r e)).toNat = (packW k o r e).toNat := B_nat (packW_rng k o r e).1 (packW_rng k o r e).2
  have hp : rightP k o r e := of_decide_eq_true h
  unfold rightP at hp
  have hw : packW k o r e = k + 16 * o + 4096 * r + 4294967296 * e := by unfold packW; rw [if_pos h]
  rw [hn, hw]
  have a1 : fK (k + 16 * o + 4096 * r + 4294967296 * e).toNat = k := by unfold fK; omega
  have a2 : fO (k + 16 * o + 4096 * r + 4294967296 * e).toNat = o := by unfold fO; omega
  have a3 : fR (k + 16 * o + 4096 * r + 4294967296 * e).toNat = r := by unfold fR; omega
  have a4 : fE (k + 16 * o + 4096 * r + 4294967296 * e).toNat = e := by unfold fE; omega
  have a5 : fS (k + 16 * o + 4096 * r + 4294967296 * e).toNat = 0 := by unfold fS; omega
  have d : parD (k + 16 * o + 4096 * r + 4294967296 * e).toNat = true := by unfold parD; rw [a1, a2, a3, a4, a5, h]; rfl
  exact ⟨d, by unfold parV; rw [if_pos d, a1, a2, a3, a4]⟩
theorem par_pack {v : BitVec 64} (h : parD v.toNat = true) : rightD (parV v.toNat).1 (parV v.toNat).2.1 (parV v.toNat).2.2.1 (parV v.toNat).2.2.2.1 = true ∧
    packW (parV v.toNat).1 (parV v.toNat).2.1 (parV v.toNat).2.2.1 (parV v.toNat).2.2.2.1 = U v := by
  have hv : parV v.toNat = (fK v.toNat, fO v.toNat, fR v.toNat, fE v.toNat, ()) := by unfold parV; rw [if_pos h]
  rw [hv]
  unfold parD at h
  rw [Bool.and_eq_true, decide_eq_true_eq] at h
  refine ⟨h.2, ?_⟩
  show packW (fK v.toNat) (fO v.toNat) (fR v.toNat) (fE v.toNat) = _
  unfold packW
  rw [if_pos h.2]
  have h1 := h.1
  have hlt := v.isLt
  have hN : (U v : Int) = (v.toNat : Nat) := rfl
  rw [hN]
  unfold fS at h1
  unfold fK fO fR fE
  omega
/-! ### Changes -/
theorem next_good {k o r e x y : Int} (h : nextE k o r e x y = 0) : nextK k o r e x y = x ∧ rightD (nextK k o r e x y) (nextO k o r e x y) 0 0 = true ∧ ¬ r > 0 ∧ rightD k o r e = true := by
  have hK : nextK k o r e x y = x := by unfold nextK; rw [if_pos h]
  have hO : nextO k o r e x y = if x = 5 then o else y := by unfold nextO; rw [if_pos h]
  rw [hK, hO]
  unfold nextE at h
  by_cases h1 : rightD k o r e = false
  · rw [if_pos h1] at h; omega
  rw [if_neg h1] at h
  by_cases h2 : r > 0
  · rw [if_pos h2] at h; omega
  rw [if_neg h2] at h
  by_cases h3 : x ∈ leadsL k
  · rw [if_pos h3] at h
    by_cases h4 : rightD x (if x = 5 then o else y) 0 0 = false
    · rw [if_pos h4] at h; omega
    · exact ⟨rfl, by simpa using h4, h2, by simpa using h1⟩
  · rw [if_neg h3] at h; omega
theorem leads_free {k : Int} (h : 1 ≤ k ∧ k ≤ 5) : 0 ∈ leadsL k := by
  have : k = 1 ∨ k = 2 ∨ k = 3 ∨ k = 4 ∨ k = 5 := by omega
  rcases this with rfl | rfl | rfl | rfl | rfl <;> decide
theorem next_free {k o : Int} (h : rightD k o 0 0 = true) (hk : k ≠ 0) : nextE k o 0 0 0 0 = 0 ∧ nextK k o 0 0 0 0 = 0 ∧ nextO k o 0 0 0 0 = 0 := by
  have hp : rightP k o 0 0 := of_decide_eq_true h
  unfold rightP at hp
  have e : nextE k o 0 0 0 0 = 0 := by
    unfold nextE
    rw [if_neg (by rw [h]; decide), if_neg (by omega), if_pos (leads_free (by omega))]
    rfl
  refine ⟨e, ?_, ?_⟩
  · unfold nextK; rw [if_pos e]
  · unfold nextO; rw [if_pos e]; rfl
theorem ref_good {k o r e x : Int} (h : refE k o r e x = 0) : refV k o r e x = (k, o, r + x, e, ()) ∧ refE k o (r + x) e (-x) = 0 ∧ refV k o (r + x) e (-x) = (k, o, r, e, ()) := by
  have hV : refV k o r e x = (k, o, r + x, e, ()) := by unfold refV; rw [if_pos h]
  unfold refE at h
  split at h
  · omega
  · rename_i hr
    have hr' : rightD k o r e = true := by simpa using hr
    have hp : rightP k o r e := of_decide_eq_true hr'
    split at h
    · rename_i hk
      split at h
      · omega
      · rename_i hx
        have hp2 : rightP k o (r + x) e := by unfold rightP at hp ⊢; omega
        have hr2 : rightD k o (r + x) e = true := decide_eq_true hp2
        unfold rightP at hp
        have e2 : refE k o (r + x) e (-x) = 0 := by
          unfold refE
          rw [if_neg (by rw [hr2]; decide), if_pos hk, if_neg (by omega)]
        refine ⟨hV, e2, ?_⟩
        unfold refV
        rw [if_pos e2, show r + x + -x = r by omega]
    · omega
/-- A frame's way round. -/
theorem rounds {o y k : Int} (hk : k = 3 ∨ k = 4) (ho : 1 ≤ o ∧ o ≤ 16) : nextE 0 0 0 0 k o = 0 ∧ nextK 0 0 0 0 k o = k ∧ nextO 0 0 0 0 k o = o ∧
    nextE k o 0 0 5 y = 0 ∧ nextK k o 0 0 5 y = 5 ∧ nextO k o 0 0 5 y = o ∧ nextE 5 o 0 0 0 0 = 0 ∧ nextK 5 o 0 0 0 0 = 0 ∧ nextO 5 o 0 0 0 0 = 0 ∧ nextE 5 o 0 0 k o = 6 := by
  have r0 : rightD 0 0 0 0 = true := by decide +kernel
  have r1 : rightD k o 0 0 = true := decide_eq_true (by unfold rightP; omega)
  have r2 : rightD 5 o 0 0 = true := decide_eq_true (by unfold rightP; omega)
  have e1 : nextE 0 0 0 0 k o = 0 := by
    unfold nextE
    rw [if_neg (by rw [r0]; decide), if_neg (by decide), if_pos (by rcases hk with rfl | rfl <;> decide), if_neg (c := k = 5) (by omega), if_neg (by rw [r1]; decide)]
  have e2 : nextE k o 0 0 5 y = 0 := by
    unfold nextE
    rw [if_neg (by rw [r1]; decide), if_neg (by decide), if_pos (by rcases hk with rfl | rfl <;> decide), if_pos rfl, if_neg (by rw [r2]; decide)]
  have e3 := next_free r2 (by decide)
  refine ⟨e1, ?_, ?_, e2, ?_, ?_, e3.1, e3.2.1, e3.2.2, ?_⟩
  · unfold nextK; rw [if_pos e1]
  · unfold nextO; rw [if_pos e1, if_neg (by omega)]
  · unfold nextK; rw [if_pos e2]
  · unfold nextO; rw [if_pos e2, if_pos rfl]
  · unfold nextE
    rw [if_neg (by rw [r2]; decide), if_neg (by decide), if_neg (by rcases hk with rfl | rfl <;> decide)]
end Go.Proofs.Ytogndkmclingeaa
