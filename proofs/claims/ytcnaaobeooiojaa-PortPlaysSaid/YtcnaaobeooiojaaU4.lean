import Derived.Test.YtcnaaobeooiojaaU3
namespace Go.Proofs.Ytcnaaobeooiojaa
set_option linter.unusedSimpArgs false
set_option linter.unusedVariables false
open Go.RX
section
variable {D G : List Nat} {w0 w w' : World} {A : List (Nat × List Value)} {bp bl c : Nat} {rb : Nat → Nat} {rest : List Value} {room : Int} {ps : List PT}
theorem upend_ok (hU : UB w bp bl c rb rest room ps) (hT : okT room ps) (g : Int) : CallsR Try.prog 27 (.el (.one .slice)) [.pointer (some ⟨bp, 0, none⟩), .int .i64 g] w (fun r w' => Own w w' eI r (pendL room ps g) ∧ Ext w w') := by
  refine rxFn_ok (C := R2) (ann := upend_vc_ann) (Eq.mpr (upend_vc _ g w _) ?_)
  have hs := hT.tookS
  have hlo := hs.lo
  have hhi := hs.hi
  refine ⟨trivial, brP_intro (fun c0 w1 h1 => ?_) (fun c0 => ?_)⟩
  · have hg : gI g = false := by simpa using c0
    have e : pendL room ps g = [] := by
      unfold pendL
      have : (List.range room.toNat).filter (pendB ps g) = [] := by
        rw [List.filter_eq_nil_iff]
        intro i _
        unfold pendB
        rw [hg]; simp
      rw [this]; rfl
    rw [e]
    exact ⟨Own.start w w1 eI, h1⟩
  have hg : gI g = true := by simpa using c0
  have hg' := gI_iff.1 hg
  have es : subI .i64 g 1 = g - 1 := subI_i64 (by omega) (by omega)
  have hm : (g - 1).toNat < 16 := by omega
  rw [es]
  refine ⟨fun q s w' => ∃ i : Nat, s.2.1 = i ∧ q + i = room.toNat ∧ At [] w w' [] ∧ Own w w' eI s.1 (pendI ps g i), ⟨room.toNat, fun w1 h1 => ⟨0, rfl, rfl, (At.start [] w).ext h1, Own.start w w1 eI⟩⟩, ?_⟩
  rintro q ⟨⟨sp, sn, sc⟩, i', u⟩ w1 ⟨i, hi, hq, H, ho⟩
  simp only at hi ho
  subst hi
  dsimp only
  have hU := hU.ext H.all
  have r1 : (some (⟨bl, 0, none⟩ : Addr)).isSome = true ∧ 0 ≤ g - 1 ∧ g - 1 < ((16 : Nat) : Int) := ⟨rfl, by omega, by omega⟩
  refine ⟨rfl, rfl, hU.hd ⟨r1, hU.row hm (brP_intro (fun c1 => ?_) (fun c1 => ?_))⟩⟩
  · have hlt : (i : Int) < room := by simp at c1; omega
    have r2 : (some (⟨rb (g - 1).toNat, 0, none⟩ : Addr)).isSome = true ∧ 0 ≤ (i : Int) ∧ (i : Int) < ((room.toNat : Nat) : Int) := ⟨rfl, by omega, by omega⟩
    have hn := pendI_succ (ps := ps) g i
    have hlen := pendI_len (ps := ps) g i
    have hpb : pendB ps g i = ((ps.getD ((g - 1).toNat * 32 + i) zP).2.2.2.1 && !(ps.getD ((g - 1).toNat * 32 + i) zP).2.2.2.2.1) := by
      unfold pendB; rw [hg]; rfl
    rw [hpb] at hn
    refine ⟨rfl, rfl, hU.hd ⟨r1, hU.row hm ⟨r2, rfl, hU.fd hm (i := i) hlt (by decide) rfl ⟨fun _ => rfl, fun _ => rfl, hU.hd ⟨fun _ => r1, hU.row hm ⟨fun _ => r2, fun _ => rfl, hU.fd hm (i := i) hlt (by decide) rfl ?_⟩⟩⟩⟩⟩⟩
    refine brP_intro (fun c2 => ?_) (fun c2 => ?_)
    · rw [if_pos c2] at hn
      have Hr := At.start [] w1
      refine AlP.go Hr fun b w2 Hr => fun w3 h3 => ?_
      refine At.push0 (e := eI) (i := 0) H ho (Hr.ext h3) (i : Int) rfl rfl rfl rfl rfl (by omega) fun s' w4 H4 ho4 w5 h5 => ⟨q - 1, by omega, i + 1, by rw [addI_i64 (by omega) (by omega)]; rfl, by omega, H4.ext h5, ?_⟩
      rw [hn]; exact ho4.ext h5
    · rw [if_neg (by rw [c2]; decide), List.append_nil] at hn
      exact fun w2 h2 => ⟨q - 1, by omega, i + 1, by rw [addI_i64 (by omega) (by omega)]; rfl, by omega, H.ext h2, by rw [hn]; exact ho.ext h2⟩
  · have hi : i = room.toNat := by simp at c1; omega
    subst hi
    exact fun w2 h2 => ⟨ho.ext h2, (H.ext h2).all⟩
theorem upend_at (H : AtD D G w0 w (A ++ uL bp bl c rb rest room ps)) (hT : okT room ps) (g : Int) {K : Option Addr × Nat × Nat → World → Prop}
    (k : ∀ r rows w2, AtD D G w0 w2 ((rows ++ A) ++ uL bp bl c rb rest room ps) → RowIn eI rows r (pendL room ps g) → K r w2) : CaP Try.prog 27 (.el (.one .slice)) [.pointer (some ⟨bp, 0, none⟩), .int .i64 g] w K :=
  CaP.rowR H (fun w1 H => upend_ok (ubOf H) hT g) fun r rows w2 H hr => k r rows w2 (by rw [List.append_assoc]; exact H.perm List.perm_append_comm) hr
theorem utake_at (H : AtD D G w0 w (A ++ uL bp bl c rb rest room ps)) (hT : okT room ps) (g : Int) {K : Int × Bool × Unit → World → Prop}
    (k : ∀ w2, AtD D G w0 w2 (A ++ uL bp bl c rb rest room (takeS room ps g).2) → K ((takeS room ps g).1.1, (takeS room ps g).1.2, ()) w2) :
    CaP Try.prog 20 (.tup [.one (.int .i64), .one .bool]) [.pointer (some ⟨bp, 0, none⟩), .int .i64 g] w K := by
  refine CaP.go H fun w1 H => rxFn_ok (C := R2) (ann := fun _ => []) (Eq.mpr (utake_vc _ g w1 K) ?_)
  have hs := hT.tookS
  refine upend_at H hT g fun r rows w2 H hr => ?_
  have hl := hr.1
  cases hp : pendL room ps g with
  | nil =>
    rw [hp] at hl
    have e : takeS room ps g = ((0, false), ps) := by unfold takeS; rw [hp]
    rw [e] at k
    refine brP_pos (by rw [hl]; rfl) (EnP.go H fun w3 H => k w3 (H.sub ?_))
    rw [List.append_assoc]; exact List.sublist_append_right _ _
  | cons x l =>
    have hm0 : x ∈ pendL room ps g := by rw [hp]; exact List.mem_cons_self
    rw [hp] at hl hr
    have e : takeS room ps g = ((x, true), ps.set (ix g x) ((gp ps g x).1, (gp ps g x).2.1, (gp ps g x).2.2.1, false, (gp ps g x).2.2.2.2)) := by unfold takeS; rw [hp]
    rw [e] at k
    obtain ⟨p1, _, _⟩ := pend_mem hm0
    have p1' := inR_iff.1 p1
    have es : subI .i64 g 1 = g - 1 := subI_i64 (by omega) (by omega)
    have hm : (g - 1).toNat < 16 := by omega
    have r1 : (some (⟨bl, 0, none⟩ : Addr)).isSome = true ∧ 0 ≤ g - 1 ∧ g - 1 < ((16 : Nat) : Int) := ⟨rfl, by omega, by omega⟩
    have r2 : (some (⟨rb (g - 1).toNat, 0, none⟩ : Addr)).isSome = true ∧ 0 ≤ x ∧ x < ((room.toNat : Nat) : Int) := ⟨rfl, by omega, by omega⟩
    have hmem : ∀ {U : List (Nat × List Value)}, ∀ y ∈ rows, y ∈ (rows ++ A) ++ U := fun y hy => List.mem_append_left _ (List.mem_append_left _ hy)
    have h0 := rowIn_head hr H hmem
    have hlen : (x :: l).length = l.length + 1 := rfl
    have r3 : (0 : Int) < ((r.2.1 : Nat) : Int) := by rw [hl, hlen]; omega
    rw [es]
    refine brP_neg (by rw [hl, hlen]; simp; omega) ⟨rfl, rfl, (ubOf H).hd ⟨r1, (ubOf H).row hm ⟨⟨h0.1, by omega, r3⟩, LdP.of x h0.2 ⟨r2, rfl, ?_⟩⟩⟩⟩
    refine u_stf H hs hm (i := x.toNat) (by omega) (_, _, _, false, _, ()) (by decide) rfl rfl fun w3 H => ?_
    have h1 := rowIn_head hr H hmem
    refine ⟨⟨h1.1, by omega, r3⟩, LdP.of x h1.2 (EnP.go H fun w4 H => k w4 (H.sub ?_))⟩
    rw [List.append_assoc]; exact List.sublist_append_right _ _
theorem udrop_at (H : AtD D G w0 w (A ++ uL bp bl c rb rest room ps)) (hT : okT room ps) (g : Int) {K : Int → World → Prop}
    (k : ∀ w2, AtD D G w0 w2 (A ++ uL bp bl c rb rest room (dropS room ps g).2) → K (dropS room ps g).1 w2) :
    CaP Try.prog 24 (.el (.one (.int .i64))) [.pointer (some ⟨bp, 0, none⟩), .int .i64 g] w K := by
  refine CaP.go H fun w1 H => rxFn_ok (C := R2) (ann := udrop_vc_ann) (Eq.mpr (udrop_vc _ g w1 K) ?_)
  have hs := hT.tookS
  have hlo := hs.lo
  have hhi := hs.hi
  refine ⟨trivial, brP_intro (fun c0 => ?_) (fun c0 => ?_)⟩
  · have hg : gI g = false := by simpa using c0
    have e : dropS room ps g = (0, ps) := by unfold dropS; rw [hg]; rfl
    rw [e] at k
    exact EnP.go H fun w3 H => k w3 H
  have hg : gI g = true := by simpa using c0
  have hg' := gI_iff.1 hg
  have es : subI .i64 g 1 = g - 1 := subI_i64 (by omega) (by omega)
  have hm : (g - 1).toNat < 16 := by omega
  rw [es]
  have e : dropS room ps g = dropA room g (drop1 room ps g room.toNat) 16 := by unfold dropS; rw [if_pos hg]
  rw [e] at k
  have r1 : (some (⟨bl, 0, none⟩ : Addr)).isSome = true ∧ 0 ≤ g - 1 ∧ g - 1 < ((16 : Nat) : Int) := ⟨rfl, by omega, by omega⟩
  refine ⟨fun q s w' => ∃ i : Nat, s.2.1 = i ∧ q + i = room.toNat ∧ s.1 = (drop1 room ps g i).1 ∧ AtD D G w0 w' (A ++ uL bp bl c rb rest room (drop1 room ps g i).2), ⟨room.toNat, fun w3 h3 => ⟨0, rfl, rfl, rfl, H.ext h3⟩⟩, ?_⟩
  clear H
  rintro q ⟨a, i', u⟩ w3 ⟨i, hi, hq, ha, H⟩
  simp only at hi ha
  subst hi; subst ha
  dsimp only
  have hdl := drop1_le (room := room) (ps := ps) g i
  refine ⟨rfl, rfl, (ubOf H).hd ⟨r1, (ubOf H).row hm (brP_intro (fun c1 => ?_) (fun c1 => ?_))⟩⟩
  · have hlt : i < room.toNat := by simp at c1; omega
    have hT2 := drop1_ok hT g i
    refine uclose_at H hT2 g i fun w4 H => ?_
    have e5 : addI .i64 (i : Int) 1 = ((i + 1 : Nat) : Int) := by rw [addI_i64 (by omega) (by omega)]; rfl
    refine brP_intro (fun c2 w5 h5 => ⟨q - 1, by omega, i + 1, e5, by omega, ?_, H.ext h5⟩) (fun c2 w5 h5 => ⟨q - 1, by omega, i + 1, e5, by omega, ?_, H.ext h5⟩)
    · have c3 : (closeS room (drop1 room ps g i).2 g i).1 = 0 := by simpa using c2
      simp only [drop1]
      rw [if_pos c3, addI_i64 (by omega) (by omega)]
    · have c3 : ¬ (closeS room (drop1 room ps g i).2 g i).1 = 0 := by simpa using c2
      simp only [drop1]
      rw [if_neg c3, Int.add_zero]
  have hi : i = room.toNat := by simp at c1; omega
  subst hi
  have hgo := drop1_gone hT hg
  generalize drop1 room ps g room.toNat = S0 at H k hgo hdl
  refine ⟨fun q s w' => ∃ m : Nat, s.2.1 = (m : Int) ∧ q + m = 16 ∧ s.1 = (dropA room g S0 m).1 ∧ AtD D G w0 w' (A ++ uL bp bl c rb rest room (dropA room g S0 m).2), ⟨16, fun w4 h4 => ⟨0, rfl, rfl, rfl, H.ext h4⟩⟩, ?_⟩
  clear H
  rintro q2 ⟨a, m', u2⟩ w4 ⟨m, hm2, hq2, ha, H⟩
  simp only at hm2 ha
  subst hm2; subst ha
  dsimp only
  have hgA := dropA_gone hgo m
  have hlA := dropA_le (room := room) (g := g) S0 m
  have hlA2 : (m : Int) * (room.toNat : Int) ≤ 16 * 32 := Int.mul_le_mul (by omega) (by omega) (by omega) (by omega)
  refine brP_intro (fun c2 => ?_) (fun c2 => ?_)
  · have hm16 : m < 16 := by simp at c2; omega
    have t1 : (some (⟨bl, 0, none⟩ : Addr)).isSome = true ∧ 0 ≤ (m : Int) ∧ (m : Int) < ((16 : Nat) : Int) := ⟨rfl, by omega, by omega⟩
    refine ⟨fun q s w' => ∃ i : Nat, s.2.1 = i ∧ q + i = room.toNat ∧ s.1 = (dropR room g (dropA room g S0 m) ((m : Int) + 1) i).1 ∧ AtD D G w0 w' (A ++ uL bp bl c rb rest room (dropR room g (dropA room g S0 m) ((m : Int) + 1) i).2), ⟨room.toNat, fun w5 h5 => ⟨0, rfl, rfl, rfl, H.ext h5⟩⟩, ?_⟩
    clear H
    rintro q3 ⟨a, i', u3⟩ w5 ⟨i, hi, hq3, ha, H⟩
    simp only at hi ha
    subst hi; subst ha
    dsimp only
    have hgR := dropR_gone hgA ((m : Int) + 1) i
    have hlR := dropR_le (room := room) (g := g) (dropA room g S0 m) ((m : Int) + 1) i
    refine ⟨rfl, rfl, (ubOf H).hd ⟨t1, (ubOf H).row hm16 (brP_intro (fun c3 => ?_) (fun c3 => ?_))⟩⟩
    · have hlt : i < room.toNat := by simp at c3; omega
      have hltI : (i : Int) < room := by omega
      have e5 : addI .i64 (i : Int) 1 = ((i + 1 : Nat) : Int) := by rw [addI_i64 (by omega) (by omega)]; rfl
      have hsR := hgR.1.tookS
      have er : dropR room g (dropA room g S0 m) ((m : Int) + 1) (i + 1) = dropT room g (dropR room g (dropA room g S0 m) ((m : Int) + 1) i) ((m : Int) + 1) i := rfl
      generalize hS2 : dropR room g (dropA room g S0 m) ((m : Int) + 1) i = S2 at H hgR hlR hsR er ⊢
      have t2 : (some (⟨rb m, 0, none⟩ : Addr)).isSome = true ∧ 0 ≤ (i : Int) ∧ (i : Int) < ((room.toNat : Nat) : Int) := ⟨rfl, by omega, by omega⟩
      have hin : inR room ((m : Int) + 1) i = true := inR_iff.2 ⟨by omega, by omega, hltI⟩
      have ekk : ix ((m : Int) + 1) i = m * 32 + i := by unfold ix; omega
      have egp : S2.2.getD (m * 32 + i) zP = gp S2.2 ((m : Int) + 1) i := by unfold gp; rw [ekk]
      have hst := hgR.1.st0 hin
      refine ⟨rfl, rfl, (ubOf H).hd ⟨t1, (ubOf H).row hm16 ⟨t2, rfl, (ubOf H).fd hm16 (i := i) hltI (by decide) rfl ⟨fun _ => rfl, fun _ => rfl, (ubOf H).hd ⟨fun _ => t1, (ubOf H).row hm16 ⟨fun _ => t2, fun _ => rfl, (ubOf H).fd hm16 (i := i) hltI (by decide) rfl ?_⟩⟩⟩⟩⟩⟩
      have hT3 := hgR.1
      by_cases hc : gp S2.2 ((m : Int) + 1) i ≠ zP ∧ (gp S2.2 ((m : Int) + 1) i).2.1 = g
      · have h1 : (gp S2.2 ((m : Int) + 1) i).1 = 1 := by
          rcases hT3.inv _ _ hin with z | z | z
          · exact absurd z hc.1
          · exact z.1
          · exact absurd z.1 (gone_ne2 hgR hin hc.2)
        have ed : dropT room g S2 ((m : Int) + 1) i = (S2.1 + 1, S2.2.set (m * 32 + i) zP) := by
          unfold dropT
          rw [atX_eq hin, if_neg hc.1, ekk]
          simp only [egp]
          rw [if_pos hc.2]
        rw [ed] at er
        refine brP_pos (by rw [egp, h1, hc.2]; simp) ⟨rfl, rfl, (ubOf H).hd ⟨t1, (ubOf H).row hm16 ⟨t2, u_st H hsR hm16 hltI zP rfl fun w6 H w7 h7 => ⟨q3 - 1, by omega, i + 1, e5, by omega, ?_, ?_⟩⟩⟩⟩
        · rw [er, addI_i64 (by omega) (by omega)]
        · rw [er]; exact H.ext h7
      · have ed : dropT room g S2 ((m : Int) + 1) i = S2 := by
          unfold dropT
          rw [atX_eq hin]
          by_cases ez : gp S2.2 ((m : Int) + 1) i = zP
          · rw [if_pos ez]
          · rw [if_neg ez, ekk]
            simp only [egp]
            rw [if_neg (fun h => hc ⟨ez, h⟩)]
        rw [ed] at er
        refine brP_neg ?_ fun w6 h6 => ⟨q3 - 1, by omega, i + 1, e5, by omega, by rw [er], by rw [er]; exact H.ext h6⟩
        rw [egp]
        by_cases ez : gp S2.2 ((m : Int) + 1) i = zP
        · rw [ez]; rfl
        · have : (gp S2.2 ((m : Int) + 1) i).2.1 ≠ g := fun h => hc ⟨ez, h⟩
          simp [this]
    · have hi : i = room.toNat := by simp at c3; omega
      subst hi
      exact fun w6 h6 => ⟨q2 - 1, by omega, m + 1, by rw [addI_i64 (by omega) (by omega)]; omega, by omega, rfl, H.ext h6⟩
  · have hm16 : m = 16 := by simp at c2; omega
    subst hm16
    exact EnP.go H fun w5 H => k w5 H
end
end Go.Proofs.Ytcnaaobeooiojaa
