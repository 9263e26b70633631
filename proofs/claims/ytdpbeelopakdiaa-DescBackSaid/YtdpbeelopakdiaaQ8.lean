import Derived.Test.YtdpbeelopakdiaaQ7
namespace Go.Proofs.Ytdpbeelopakdiaa
set_option linter.unusedSimpArgs false
set_option linter.unusedVariables false
open Go.RX
theorem packW_rng (k o r e : Int) : 0 ≤ packW k o r e ∧ packW k o r e < 18446744073709551616 := by
  unfold packW
  split
  · rename_i h
    have hp : rightP k o r e := of_decide_eq_true h
    unfold rightP at hp
    omega
  · omega
theorem pack_U (k o r e : Int) : U (B (packW k o r e)) = packW k o r e := U_B' (packW_rng k o r e).1 (packW_rng k o r e).2
theorem pack_par {k o r e : Int} (h : rightD k o r e = true) : parD (B (packW k o r e)).toNat = true ∧ parV (B (packW k o r e)).toNat = (k, o, r, e, ()) := by
  have hn : (B (packW k o r e)).toNat = (packW k o r e).toNat := B_nat (packW_rng k o r e).1 (packW_rng k o r e).2
  have hp : rightP k o r e := of_decide_eq_true h
  unfold rightP at hp
  have hw : packW k o r e = k + 16 * o + 4096 * r + 4294967296 * e := by unfold packW; rw [if_pos h]
  rw [hn, hw]
  have a1 : fK (k + 16 * o + 4096 * r + 4294967296 * e).toNat = k := by unfold fK; omega
  have a2 : fO (k + 16 * o + 4096 * r + 4294967296 * e).toNat = o := by unfold fO; omega
  have a3 : fR (k + 16 * o + 4096 * r + 4294967296 * e).toNat = r := by unfold fR; omega
  have a4 : fE (k + 16 * o + 4096 * r + 4294967296 * e).toNat = e := by unfold fE; omega
  have a5 : fS (k + 16 * o + 4096 * r + 4294967296 * e).toNat = 0 := by unfold fS; omega
  have d : parD (k + 16 * o + 4096 * r + 4294967296 * e).toNat = true := by unfold parD; rw [a1, a2, a3, a4, a5, h]; rfl
  exact ⟨d, by unfold parV; rw [if_pos d, a1, a2, a3, a4]⟩
theorem par_pack {v : BitVec 64} (h : parD v.toNat = true) : rightD (parV v.toNat).1 (parV v.toNat).2.1 (parV v.toNat).2.2.1 (parV v.toNat).2.2.2.1 = true ∧
    packW (parV v.toNat).1 (parV v.toNat).2.1 (parV v.toNat).2.2.1 (parV v.toNat).2.2.2.1 = U v := by
  have hv : parV v.toNat = (fK v.toNat, fO v.toNat, fR v.toNat, fE v.toNat, ()) := by unfold parV; rw [if_pos h]
  rw [hv]
  unfold parD at h
  rw [Bool.and_eq_true, decide_eq_true_eq] at h
  refine ⟨h.2, ?_⟩
  show packW (fK v.toNat) (fO v.toNat) (fR v.toNat) (fE v.toNat) = _
  unfold packW
  rw [if_pos h.2]
  have h1 := h.1
  have hlt := v.isLt
  have hN : (U v : Int) = (v.toNat : Nat) := rfl
  rw [hN]
  unfold fS at h1
  unfold fK fO fR fE
  omega
theorem dback_row (d : ScsT dS) (_ : okScs dS d) (v : BitVec 64) (w : World) : CallsR Try.prog 5 (.el (.one .bool)) [.agg ⟨scsEmb dS d⟩, .int .u64 (U v)] w (fun b w' => b = true ∧ Ext w w') := by
  obtain ⟨k, o, r, e, u⟩ := d
  refine rxFn_ok (C := D4) (ann := fun _ => []) (Eq.mpr (dback_vc k o r e (U v) w _) ?_)
  have H := At.start [] w
  have hu : U (B (U v)) = U v := by rw [B_U]
  have hw := pack_U k o r e
  repeat' (first
    | refine And.intro hu ?_
    | refine And.intro hw ?_
    | exact Go.RX.At.all H
    | exact And.intro (by first | rfl | decide +kernel) (Go.RX.At.all H)
    | refine And.intro (by first | exact rfl | exact trivial | exact fun _ => rfl | exact fun _ => trivial | exact ⟨rfl, by decide, by decide⟩ | exact ⟨by decide, by decide⟩ | decide +kernel | exact fun _ => by decide | exact fun _ => ⟨rfl, by decide, by decide⟩ | (dsimp only [List.length_cons, List.length_nil]; exact ⟨rfl, by decide, by decide⟩)) ?_
    | refine LdP.atA 0 H rfl rfl ?_
    | refine LdP.atA 1 H rfl rfl ?_
    | refine LdP.atA 2 H rfl rfl ?_
    | refine LdP.atA 3 H rfl rfl ?_
    | refine LdP.atA 4 H rfl rfl ?_
    | refine LdP.atA 5 H rfl rfl ?_
    | refine LdP.atA 6 H rfl rfl ?_
    | refine LdP.atA 7 H rfl rfl ?_
    | refine LdP.atA 8 H rfl rfl ?_
    | refine LdP.at 0 H rfl rfl ?_
    | refine LdP.at 1 H rfl rfl ?_
    | refine LdP.at 2 H rfl rfl ?_
    | refine LdP.at 3 H rfl rfl ?_
    | refine LdP.at 4 H rfl rfl ?_
    | refine LdP.at 5 H rfl rfl ?_
    | refine LdP.at 6 H rfl rfl ?_
    | refine LdP.at 7 H rfl rfl ?_
    | refine LdP.at 8 H rfl rfl ?_
    | refine AlP.go H fun b w1 H => ?_
    | refine StP.all 0 H rfl rfl rfl fun w1 H => ?_
    | refine StP.all 1 H rfl rfl rfl fun w1 H => ?_
    | refine StP.all 2 H rfl rfl rfl fun w1 H => ?_
    | refine StP.all 3 H rfl rfl rfl fun w1 H => ?_
    | refine StP.all 4 H rfl rfl rfl fun w1 H => ?_
    | refine StP.all 5 H rfl rfl rfl fun w1 H => ?_
    | refine StP.all 6 H rfl rfl rfl fun w1 H => ?_
    | refine StP.all 7 H rfl rfl rfl fun w1 H => ?_
    | refine StP.all 8 H rfl rfl rfl fun w1 H => ?_
    | refine StP.oneA 0 H rfl rfl rfl fun w1 H => ?_
    | refine StP.oneA 1 H rfl rfl rfl fun w1 H => ?_
    | refine StP.oneA 2 H rfl rfl rfl fun w1 H => ?_
    | refine StP.oneA 3 H rfl rfl rfl fun w1 H => ?_
    | refine StP.oneA 4 H rfl rfl rfl fun w1 H => ?_
    | refine StP.oneA 5 H rfl rfl rfl fun w1 H => ?_
    | refine StP.oneA 6 H rfl rfl rfl fun w1 H => ?_
    | refine StP.oneA 7 H rfl rfl rfl fun w1 H => ?_
    | refine StP.oneA 8 H rfl rfl rfl fun w1 H => ?_
    | refine StP.one 0 H rfl rfl rfl fun w1 H => ?_
    | refine StP.one 1 H rfl rfl rfl fun w1 H => ?_
    | refine StP.one 2 H rfl rfl rfl fun w1 H => ?_
    | refine StP.one 3 H rfl rfl rfl fun w1 H => ?_
    | refine StP.one 4 H rfl rfl rfl fun w1 H => ?_
    | refine StP.one 5 H rfl rfl rfl fun w1 H => ?_
    | refine StP.one 6 H rfl rfl rfl fun w1 H => ?_
    | refine StP.one 7 H rfl rfl rfl fun w1 H => ?_
    | refine StP.one 8 H rfl rfl rfl fun w1 H => ?_
    | with_reducible refine EnP.go H fun w1 H => ?_
    | refine shr_go ?_
    | refine brP_pos (by assumption) ?_
    | refine brP_neg (by assumption) ?_
    | refine brP_intro (fun c => ?_) (fun c => ?_))
  refine And.intro ?_ H.all
  dsimp only
  rw [B_U]
  cases hr : rightD k o r e
  · have he : packE k o r e = 11 := by unfold packE; rw [hr]; rfl
    cases hv : parD v.toNat
    · simp [he]
    · obtain ⟨p1, p2⟩ := par_pack hv
      simp [he, p1, p2]
  · have he : packE k o r e = 0 := by unfold packE; rw [hr]; rfl
    obtain ⟨q1, q2⟩ := pack_par hr
    cases hv : parD v.toNat
    · simp [he, q1, q2]
    · obtain ⟨p1, p2⟩ := par_pack hv
      simp [he, q1, q2, p1, p2]
/-! ### Changes -/
theorem next_good {k o r e x y : Int} (h : nextE k o r e x y = 0) : nextK k o r e x y = x ∧ rightD (nextK k o r e x y) (nextO k o r e x y) 0 0 = true ∧ ¬ r > 0 ∧ rightD k o r e = true := by
  have hK : nextK k o r e x y = x := by unfold nextK; rw [if_pos h]
  have hO : nextO k o r e x y = if x = 5 then o else y := by unfold nextO; rw [if_pos h]
  rw [hK, hO]
  unfold nextE at h
  by_cases h1 : rightD k o r e = false
  · rw [if_pos h1] at h; omega
  rw [if_neg h1] at h
  by_cases h2 : r > 0
  · rw [if_pos h2] at h; omega
  rw [if_neg h2] at h
  by_cases h3 : x ∈ leadsL k
  · rw [if_pos h3] at h
    by_cases h4 : rightD x (if x = 5 then o else y) 0 0 = false
    · rw [if_pos h4] at h; omega
    · exact ⟨rfl, by simpa using h4, h2, by simpa using h1⟩
  · rw [if_neg h3] at h; omega
theorem leads_free {k : Int} (h : 1 ≤ k ∧ k ≤ 5) : 0 ∈ leadsL k := by
  have : k = 1 ∨ k = 2 ∨ k = 3 ∨ k = 4 ∨ k = 5 := by omega
  rcases this with rfl | rfl | rfl | rfl | rfl <;> decide
theorem next_free {k o : Int} (h : rightD k o 0 0 = true) (hk : k ≠ 0) : nextE k o 0 0 0 0 = 0 ∧ nextK k o 0 0 0 0 = 0 ∧ nextO k o 0 0 0 0 = 0 := by
  have hp : rightP k o 0 0 := of_decide_eq_true h
  unfold rightP at hp
  have e : nextE k o 0 0 0 0 = 0 := by
    unfold nextE
    rw [if_neg (by rw [h]; decide), if_neg (by omega), if_pos (leads_free (by omega))]
    rfl
  refine ⟨e, ?_, ?_⟩
  · unfold nextK; rw [if_pos e]
  · unfold nextO; rw [if_pos e]; rfl
theorem ref_good {k o r e x : Int} (h : refE k o r e x = 0) : refV k o r e x = (k, o, r + x, e, ()) ∧ refE k o (r + x) e (-x) = 0 ∧ refV k o (r + x) e (-x) = (k, o, r, e, ()) := by
  have hV : refV k o r e x = (k, o, r + x, e, ()) := by unfold refV; rw [if_pos h]
  unfold refE at h
  split at h
  · omega
  · rename_i hr
    have hr' : rightD k o r e = true := by simpa using hr
    have hp : rightP k o r e := of_decide_eq_true hr'
    split at h
    · rename_i hk
      split at h
      · omega
      · rename_i hx
        have hp2 : rightP k o (r + x) e := by unfold rightP at hp ⊢; omega
        have hr2 : rightD k o (r + x) e = true := decide_eq_true hp2
        unfold rightP at hp
        have e2 : refE k o (r + x) e (-x) = 0 := by
          unfold refE
          rw [if_neg (by rw [hr2]; decide), if_pos hk, if_neg (by omega)]
        refine ⟨hV, e2, ?_⟩
        unfold refV
        rw [if_pos e2, show r + x + -x = r by omega]
    · omega
theorem dkeeps_row (d : ScsT dS) (_ : okScs dS d) (x : ScsT iS) (_ : okScs iS x) (z : Int) (hz : (Lit.int .u16 z).wf = true) (w : World) : CallsR Try.prog 6 (.el (.one .bool)) [.agg ⟨scsEmb dS d⟩, .agg ⟨scsEmb iS x⟩, .int .u16 z] w (fun b w' => b = true ∧ Ext w w') := by
  obtain ⟨k, o, r, e, u⟩ := d
  obtain ⟨x, y, u⟩ := x
  refine rxFn_ok (C := D4) (ann := fun _ => []) (Eq.mpr (dkeeps_vc k o r e x y z w _) ?_)
  have H := At.start [] w
  have hz' : 0 ≤ z ∧ z < 65536 := by
    simp [Lit.wf, IntKind.min, IntKind.max, IntKind.bits, IntKind.signed] at hz
    omega
  have c1 : convI .i64 z = z := wrap_i64_id (by omega) (by omega)
  have c2 : subI .i64 0 z = - z := by rw [subI_i64 (by omega) (by omega)]; omega
  simp only [c1, c2]
  have hu : -9223372036854775808 ≤ z ∧ z < 9223372036854775808 := by omega
  have hu' : -9223372036854775808 ≤ -z ∧ -z < 9223372036854775808 := by omega
  repeat' (first
    | refine And.intro hu ?_
    | refine And.intro hu' ?_
    | exact Go.RX.At.all H
    | exact And.intro (by first | rfl | decide +kernel) (Go.RX.At.all H)
    | refine And.intro (by first | exact rfl | exact trivial | exact fun _ => rfl | exact fun _ => trivial | exact ⟨rfl, by decide, by decide⟩ | exact ⟨by decide, by decide⟩ | decide +kernel | exact fun _ => by decide | exact fun _ => ⟨rfl, by decide, by decide⟩ | (dsimp only [List.length_cons, List.length_nil]; exact ⟨rfl, by decide, by decide⟩)) ?_
    | refine LdP.atA 0 H rfl rfl ?_
    | refine LdP.atA 1 H rfl rfl ?_
    | refine LdP.atA 2 H rfl rfl ?_
    | refine LdP.atA 3 H rfl rfl ?_
    | refine LdP.atA 4 H rfl rfl ?_
    | refine LdP.atA 5 H rfl rfl ?_
    | refine LdP.atA 6 H rfl rfl ?_
    | refine LdP.atA 7 H rfl rfl ?_
    | refine LdP.atA 8 H rfl rfl ?_
    | refine LdP.at 0 H rfl rfl ?_
    | refine LdP.at 1 H rfl rfl ?_
    | refine LdP.at 2 H rfl rfl ?_
    | refine LdP.at 3 H rfl rfl ?_
    | refine LdP.at 4 H rfl rfl ?_
    | refine LdP.at 5 H rfl rfl ?_
    | refine LdP.at 6 H rfl rfl ?_
    | refine LdP.at 7 H rfl rfl ?_
    | refine LdP.at 8 H rfl rfl ?_
    | refine AlP.go H fun b w1 H => ?_
    | refine StP.all 0 H rfl rfl rfl fun w1 H => ?_
    | refine StP.all 1 H rfl rfl rfl fun w1 H => ?_
    | refine StP.all 2 H rfl rfl rfl fun w1 H => ?_
    | refine StP.all 3 H rfl rfl rfl fun w1 H => ?_
    | refine StP.all 4 H rfl rfl rfl fun w1 H => ?_
    | refine StP.all 5 H rfl rfl rfl fun w1 H => ?_
    | refine StP.all 6 H rfl rfl rfl fun w1 H => ?_
    | refine StP.all 7 H rfl rfl rfl fun w1 H => ?_
    | refine StP.all 8 H rfl rfl rfl fun w1 H => ?_
    | refine StP.oneA 0 H rfl rfl rfl fun w1 H => ?_
    | refine StP.oneA 1 H rfl rfl rfl fun w1 H => ?_
    | refine StP.oneA 2 H rfl rfl rfl fun w1 H => ?_
    | refine StP.oneA 3 H rfl rfl rfl fun w1 H => ?_
    | refine StP.oneA 4 H rfl rfl rfl fun w1 H => ?_
    | refine StP.oneA 5 H rfl rfl rfl fun w1 H => ?_
    | refine StP.oneA 6 H rfl rfl rfl fun w1 H => ?_
    | refine StP.oneA 7 H rfl rfl rfl fun w1 H => ?_
    | refine StP.oneA 8 H rfl rfl rfl fun w1 H => ?_
    | refine StP.one 0 H rfl rfl rfl fun w1 H => ?_
    | refine StP.one 1 H rfl rfl rfl fun w1 H => ?_
    | refine StP.one 2 H rfl rfl rfl fun w1 H => ?_
    | refine StP.one 3 H rfl rfl rfl fun w1 H => ?_
    | refine StP.one 4 H rfl rfl rfl fun w1 H => ?_
    | refine StP.one 5 H rfl rfl rfl fun w1 H => ?_
    | refine StP.one 6 H rfl rfl rfl fun w1 H => ?_
    | refine StP.one 7 H rfl rfl rfl fun w1 H => ?_
    | refine StP.one 8 H rfl rfl rfl fun w1 H => ?_
    | with_reducible refine EnP.go H fun w1 H => ?_
    | refine shr_go ?_
    | refine brP_pos (by assumption) ?_
    | refine brP_neg (by assumption) ?_
    | refine brP_intro (fun c => ?_) (fun c => ?_))
  all_goals refine And.intro ?_ H.all
  all_goals
    exfalso
    dsimp only at *
  · rw [Bool.and_eq_true, beq_iff_eq] at c
    obtain ⟨h, c⟩ := c
    obtain ⟨g1, g2, g3, g4⟩ := next_good h
    rw [g1] at c g2
    simp [g2, g3] at c
  · rw [Bool.and_eq_true, beq_iff_eq] at c
    obtain ⟨h, c⟩ := c
    obtain ⟨g1, g2, g3⟩ := ref_good h
    rw [g1] at c
    dsimp only at c
    rw [g2, g3] at c
    have e3 : addI .i64 r z = r + z := by
      unfold refE at h
      split at h
      · omega
      · split at h
        · split at h
          · omega
          · exact addI_i64 (by omega) (by omega)
        · omega
    simp [e3] at c
  · have cc : (nextE k o r e x y == 0 && nextK k o r e x y != 0) = true := by assumption
    rw [Bool.and_eq_true, beq_iff_eq, bne_iff_ne] at cc
    obtain ⟨h, cc⟩ := cc
    obtain ⟨g1, g2, g3, g4⟩ := next_good h
    obtain ⟨f1, f2, f3⟩ := next_free g2 cc
    rw [f1, f2, f3] at c
    simp at c
/-- A frame's way round. -/
theorem rounds {o y k : Int} (hk : k = 3 ∨ k = 4) (ho : 1 ≤ o ∧ o ≤ 16) : nextE 0 0 0 0 k o = 0 ∧ nextK 0 0 0 0 k o = k ∧ nextO 0 0 0 0 k o = o ∧
    nextE k o 0 0 5 y = 0 ∧ nextK k o 0 0 5 y = 5 ∧ nextO k o 0 0 5 y = o ∧ nextE 5 o 0 0 0 0 = 0 ∧ nextK 5 o 0 0 0 0 = 0 ∧ nextO 5 o 0 0 0 0 = 0 ∧ nextE 5 o 0 0 k o = 6 := by
  have r0 : rightD 0 0 0 0 = true := by decide +kernel
  have r1 : rightD k o 0 0 = true := decide_eq_true (by unfold rightP; omega)
  have r2 : rightD 5 o 0 0 = true := decide_eq_true (by unfold rightP; omega)
  have e1 : nextE 0 0 0 0 k o = 0 := by
    unfold nextE
    rw [if_neg (by rw [r0]; decide), if_neg (by decide), if_pos (by rcases hk with rfl | rfl <;> decide), if_neg (c := k = 5) (by omega), if_neg (by rw [r1]; decide)]
  have e2 : nextE k o 0 0 5 y = 0 := by
    unfold nextE
    rw [if_neg (by rw [r1]; decide), if_neg (by decide), if_pos (by rcases hk with rfl | rfl <;> decide), if_pos rfl, if_neg (by rw [r2]; decide)]
  have e3 := next_free r2 (by decide)
  refine ⟨e1, ?_, ?_, e2, ?_, ?_, e3.1, e3.2.1, e3.2.2, ?_⟩
  · unfold nextK; rw [if_pos e1]
  · unfold nextO; rw [if_pos e1, if_neg (by omega)]
  · unfold nextK; rw [if_pos e2]
  · unfold nextO; rw [if_pos e2, if_pos rfl]
  · unfold nextE
    rw [if_neg (by rw [r2]; decide), if_neg (by decide), if_neg (by rcases hk with rfl | rfl <;> decide)]
theorem drounds_row (x : Int) (hx : (Lit.int .u8 x).wf = true) (y : Int) (_ : (Lit.int .i64 y).wf = true) (g : Bool) (w : World) : CallsR Try.prog 7 (.el (.one .bool)) [.int .u8 x, .int .i64 y, .bool g] w (fun b w' => b = true ∧ Ext w w') := by
  refine rxFn_ok (C := D4) (ann := fun _ => []) (Eq.mpr (drounds_vc x y g w _) ?_)
  have H := At.start [] w
  have hx' : 0 ≤ x ∧ x < 256 := by
    simp [Lit.wf, IntKind.min, IntKind.max, IntKind.bits, IntKind.signed] at hx
    omega
  have c1 : convI .i64 x = x := wrap_i64_id (by omega) (by omega)
  have c2 : remI x 16 = x % 16 := by unfold remI; exact Int.tmod_eq_emod_of_nonneg (by omega)
  have c3 : addI .i64 1 (x % 16) = 1 + x % 16 := addI_i64 (by omega) (by omega)
  simp only [c1, c2, c3]
  obtain ⟨p1, p2, p3, p4, p5, p6, p7, p8, p9, p10⟩ := rounds (o := 1 + x % 16) (y := y) (k := 4) (.inr rfl) (by omega)
  obtain ⟨q1, q2, q3, q4, q5, q6, q7, q8, q9, q10⟩ := rounds (o := 1 + x % 16) (y := y) (k := 3) (.inl rfl) (by omega)
  simp only [p1, p2, p3, q1, q2, q3]
  repeat' (first
    | exact Go.RX.At.all H
    | exact And.intro (by first | rfl | decide +kernel) (Go.RX.At.all H)
    | refine And.intro (by first | exact rfl | exact trivial | exact fun _ => rfl | exact fun _ => trivial | exact ⟨rfl, by decide, by decide⟩ | exact ⟨by decide, by decide⟩ | decide +kernel | exact fun _ => by decide | exact fun _ => ⟨rfl, by decide, by decide⟩ | (dsimp only [List.length_cons, List.length_nil]; exact ⟨rfl, by decide, by decide⟩)) ?_
    | refine LdP.atA 0 H rfl rfl ?_
    | refine LdP.atA 1 H rfl rfl ?_
    | refine LdP.atA 2 H rfl rfl ?_
    | refine LdP.atA 3 H rfl rfl ?_
    | refine LdP.atA 4 H rfl rfl ?_
    | refine LdP.atA 5 H rfl rfl ?_
    | refine LdP.atA 6 H rfl rfl ?_
    | refine LdP.atA 7 H rfl rfl ?_
    | refine LdP.atA 8 H rfl rfl ?_
    | refine LdP.at 0 H rfl rfl ?_
    | refine LdP.at 1 H rfl rfl ?_
    | refine LdP.at 2 H rfl rfl ?_
    | refine LdP.at 3 H rfl rfl ?_
    | refine LdP.at 4 H rfl rfl ?_
    | refine LdP.at 5 H rfl rfl ?_
    | refine LdP.at 6 H rfl rfl ?_
    | refine LdP.at 7 H rfl rfl ?_
    | refine LdP.at 8 H rfl rfl ?_
    | refine AlP.go H fun b w1 H => ?_
    | refine StP.all 0 H rfl rfl rfl fun w1 H => ?_
    | refine StP.all 1 H rfl rfl rfl fun w1 H => ?_
    | refine StP.all 2 H rfl rfl rfl fun w1 H => ?_
    | refine StP.all 3 H rfl rfl rfl fun w1 H => ?_
    | refine StP.all 4 H rfl rfl rfl fun w1 H => ?_
    | refine StP.all 5 H rfl rfl rfl fun w1 H => ?_
    | refine StP.all 6 H rfl rfl rfl fun w1 H => ?_
    | refine StP.all 7 H rfl rfl rfl fun w1 H => ?_
    | refine StP.all 8 H rfl rfl rfl fun w1 H => ?_
    | refine StP.oneA 0 H rfl rfl rfl fun w1 H => ?_
    | refine StP.oneA 1 H rfl rfl rfl fun w1 H => ?_
    | refine StP.oneA 2 H rfl rfl rfl fun w1 H => ?_
    | refine StP.oneA 3 H rfl rfl rfl fun w1 H => ?_
    | refine StP.oneA 4 H rfl rfl rfl fun w1 H => ?_
    | refine StP.oneA 5 H rfl rfl rfl fun w1 H => ?_
    | refine StP.oneA 6 H rfl rfl rfl fun w1 H => ?_
    | refine StP.oneA 7 H rfl rfl rfl fun w1 H => ?_
    | refine StP.oneA 8 H rfl rfl rfl fun w1 H => ?_
    | refine StP.one 0 H rfl rfl rfl fun w1 H => ?_
    | refine StP.one 1 H rfl rfl rfl fun w1 H => ?_
    | refine StP.one 2 H rfl rfl rfl fun w1 H => ?_
    | refine StP.one 3 H rfl rfl rfl fun w1 H => ?_
    | refine StP.one 4 H rfl rfl rfl fun w1 H => ?_
    | refine StP.one 5 H rfl rfl rfl fun w1 H => ?_
    | refine StP.one 6 H rfl rfl rfl fun w1 H => ?_
    | refine StP.one 7 H rfl rfl rfl fun w1 H => ?_
    | refine StP.one 8 H rfl rfl rfl fun w1 H => ?_
    | with_reducible refine EnP.go H fun w1 H => ?_
    | refine shr_go ?_
    | refine brP_pos (by assumption) ?_
    | refine brP_neg (by assumption) ?_
    | refine brP_intro (fun c => ?_) (fun c => ?_))
  all_goals refine And.intro ?_ H.all
  all_goals dsimp only
  · simp [p4, p5, p6, p7, p8, p9, p10]
  · simp [q4, q5, q6, q7, q8, q9, q10]
end Go.Proofs.Ytdpbeelopakdiaa
