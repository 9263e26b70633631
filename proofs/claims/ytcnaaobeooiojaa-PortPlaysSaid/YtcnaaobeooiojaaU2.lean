import Derived.Test.YtcnaaobeooiojaaU1
namespace Go.Proofs.Ytcnaaobeooiojaa
set_option linter.unusedSimpArgs false
set_option linter.unusedVariables false
open Go.RX
/-! ### The document's ports -/
def rowL (room : Int) (ps : List PT) (k : Nat) : List PT := (List.range room.toNat).map fun i => ps.getD (k * 32 + i) zP
def hdr (rb : Nat → Nat) (room : Int) : List Value := (List.range 16).map fun k => .slice (some ⟨rb k, 0, none⟩) room.toNat room.toNat
def uL (bp bl c : Nat) (rb : Nat → Nat) (rest : List Value) (room : Int) (ps : List PT) : List (Nat × List Value) :=
  (bp, [.slice (some ⟨bl, 0, none⟩) 16 c]) :: (bl, hdr rb room ++ rest) :: (List.range 16).map fun k => (rb k, flat eQ (rowL room ps k) ++ [])
structure UB (w : World) (bp bl c : Nat) (rb : Nat → Nat) (rest : List Value) (room : Int) (ps : List PT) : Prop where
  b1 : Blk w bp [.slice (some ⟨bl, 0, none⟩) 16 c]
  b2 : Blk w bl (hdr rb room ++ rest)
  b3 : ∀ k, k < 16 → Blk w (rb k) (flat eQ (rowL room ps k) ++ [])
section
variable {D G : List Nat} {w0 w w' : World} {A : List (Nat × List Value)} {bp bl c : Nat} {rb : Nat → Nat} {rest : List Value} {room : Int} {ps : List PT}
theorem UB.ext (h : UB w bp bl c rb rest room ps) (e : Ext w w') : UB w' bp bl c rb rest room ps := ⟨h.b1.ext e, h.b2.ext e, fun k hk => (h.b3 k hk).ext e⟩
theorem row_len (k : Nat) : (rowL room ps k).length = room.toNat := by simp [rowL]
theorem row_get {k i : Nat} (hi : (i : Int) < room) : (rowL room ps k)[i]? = some (ps.getD (k * 32 + i) zP) := by
  unfold rowL
  rw [List.getElem?_map, List.getElem?_range (by omega)]; rfl
theorem row_set {k i : Nat} (hs : okS room ps) (hk : k < 16) (hi : (i : Int) < room) (y : PT) (m : Nat) : rowL room (ps.set (k * 32 + i) y) m = if m = k then (rowL room ps k).set i y else rowL room ps m := by
  have hhi := hs.hi
  apply List.ext_getElem?
  intro n
  by_cases hn : (n : Int) < room
  · rw [row_get hn]
    by_cases e : m = k
    · subst e
      rw [if_pos rfl]
      by_cases e2 : n = i
      · subst e2
        rw [List.getElem?_set_self (by rw [row_len]; omega), getD_set_same (by rw [hs.len]; omega)]
      · rw [List.getElem?_set_ne (fun e3 => e2 e3.symm), row_get hn, getD_set_other (by omega)]
    · rw [if_neg e, row_get hn, getD_set_other (by omega)]
  · rw [List.getElem?_eq_none (by rw [row_len]; omega), List.getElem?_eq_none]
    split
    · rw [List.length_set, row_len]; omega
    · rw [row_len]; omega
theorem ubOf (H : AtD D G w0 w (A ++ uL bp bl c rb rest room ps)) : UB w bp bl c rb rest room ps where
  b1 := H.blk _ (List.mem_append_right _ (List.mem_cons_self))
  b2 := H.blk _ (List.mem_append_right _ (List.mem_cons_of_mem _ (List.mem_cons_self)))
  b3 k hk := H.blk (rb k, flat eQ (rowL room ps k) ++ []) (List.mem_append_right _ (List.mem_cons_of_mem _ (List.mem_cons_of_mem _ (List.mem_map.2 ⟨k, List.mem_range.2 hk, rfl⟩))))
theorem UB.hd (h : UB w bp bl c rb rest room ps) {g : Option Bool} {K : (Option Addr × Nat × Nat) → Prop} (k : K (some ⟨bl, 0, none⟩, 16, c)) : LdP w g (addP (some ⟨bp, 0, none⟩) 0) (.one .slice) K :=
  LdP.of (some ⟨bl, 0, none⟩, 16, c) (by rw [addP_B]; exact h.b1.rd1 rfl) k
theorem UB.row (h : UB w bp bl c rb rest room ps) {m : Nat} (hm : m < 16) {g : Option Bool} {K : (Option Addr × Nat × Nat) → Prop} (k : K (some ⟨rb m, 0, none⟩, room.toNat, room.toNat)) : LdP w g (addP (some ⟨bl, 0, none⟩) (m * 1)) (.one .slice) K :=
  LdP.of (some ⟨rb m, 0, none⟩, room.toNat, room.toNat) (by
    rw [addP_B]
    refine h.b2.rd1 ?_
    rw [Nat.zero_add, Nat.mul_one, List.getElem?_append_left (by simp [hdr]; omega)]
    unfold hdr
    rw [List.getElem?_map, List.getElem?_range hm]; rfl) k
theorem UB.rdE (h : UB w bp bl c rb rest room ps) {m i : Nat} (hm : m < 16) (hi : (i : Int) < room) : rdAt w (addP (some ⟨rb m, 0, none⟩) (i * 5)) eQ (ps.getD (m * 32 + i) zP) :=
  rd_flat (e := eQ) (h.b3 m hm) (row_get hi)
theorem UB.el (h : UB w bp bl c rb rest room ps) {m i : Nat} (hm : m < 16) (hi : (i : Int) < room) {g : Option Bool} {K : PT → Prop} (k : K (ps.getD (m * 32 + i) zP)) : LdP w g (addP (some ⟨rb m, 0, none⟩) (i * 5)) eQ K :=
  LdP.of _ (h.rdE hm hi) k
theorem UB.fd (h : UB w bp bl c rb rest room ps) {m i f : Nat} (hm : m < 16) (hi : (i : Int) < room) {g : Option Bool} {s : Sc} {y : s.T} {K : s.T → Prop} (hf : f < 5) (hy : (scsEmb sQ (ps.getD (m * 32 + i) zP))[f]? = some (s.emb y)) (k : K y) : LdP w g (addP (addP (some ⟨rb m, 0, none⟩) (i * 5)) f) (.one s) K :=
  LdP.of y (rdAt_fld (h.rdE hm hi) hf hy) k
theorem uL_set {m i : Nat} (hs : okS room ps) (hm : m < 16) (hi : (i : Int) < room) (y : PT) : (A ++ uL bp bl c rb rest room ps).set (A.length + 2 + m) (rb m, flat eQ ((rowL room ps m).set i y) ++ []) = A ++ uL bp bl c rb rest room (ps.set (m * 32 + i) y) := by
  rw [List.set_append_right _ _ (by omega), show A.length + 2 + m - A.length = m + 1 + 1 by omega]
  congr 1
  unfold uL
  rw [List.set_cons_succ, List.set_cons_succ]
  congr 2
  apply List.ext_getElem?
  intro n
  rw [List.getElem?_map]
  by_cases hn : n < 16
  · rw [List.getElem?_range hn]
    by_cases e : m = n
    · subst e
      rw [List.getElem?_set_self (by simp; exact hn)]
      simp only [Option.map_some]
      rw [row_set hs hm hi, if_pos rfl]
    · rw [List.getElem?_set_ne e, List.getElem?_map, List.getElem?_range hn]
      simp only [Option.map_some]
      rw [row_set hs hm hi, if_neg (fun e2 => e e2.symm)]
  · rw [List.getElem?_eq_none (by simp; omega), List.getElem?_eq_none (l := List.range 16) (by simp; omega)]; rfl
theorem uL_get {m : Nat} (hm : m < 16) : (A ++ uL bp bl c rb rest room ps)[A.length + 2 + m]? = some (rb m, flat eQ (rowL room ps m) ++ []) := by
  rw [List.getElem?_append_right (by omega), show A.length + 2 + m - A.length = m + 1 + 1 by omega]
  unfold uL
  rw [List.getElem?_cons_succ, List.getElem?_cons_succ, List.getElem?_map, List.getElem?_range hm]; rfl
theorem u_st (H : AtD D G w0 w (A ++ uL bp bl c rb rest room ps)) (hs : okS room ps) {m i : Nat} (hm : m < 16) (hi : (i : Int) < room) (y : PT) {vs : List Value} (hv : vs = scsEmb sQ y) {K : World → Prop}
    (hK : ∀ w1, AtD D G w0 w1 (A ++ uL bp bl c rb rest room (ps.set (m * 32 + i) y)) → K w1) : StP w (addP (some ⟨rb m, 0, none⟩) (i * 5)) vs K := by
  refine StP.flat (A.length + 2 + m) H (e := eQ) y (uL_get hm) hv rfl (by rw [row_len]; omega) fun w1 h1 => hK w1 ?_
  rw [uL_set hs hm hi] at h1; exact h1
theorem u_stf (H : AtD D G w0 w (A ++ uL bp bl c rb rest room ps)) (hs : okS room ps) {m i f : Nat} (hm : m < 16) (hi : (i : Int) < room) (y : PT) {v : Value} (hf : f < 5) (hv : v.oneCell' = true) (hy : scsEmb sQ y = (scsEmb sQ (ps.getD (m * 32 + i) zP)).set f v) {K : World → Prop}
    (hK : ∀ w1, AtD D G w0 w1 (A ++ uL bp bl c rb rest room (ps.set (m * 32 + i) y)) → K w1) : StP w (addP (addP (some ⟨rb m, 0, none⟩) (i * 5)) f) [v] K := by
  rw [addP_B]
  refine StP.oneA (A.length + 2 + m) H (uL_get hm) hv ?_ fun w1 h1 => hK w1 ?_
  · rw [Nat.blt_eq]
    have : (flat eQ (rowL room ps m)).length = (rowL room ps m).length * 5 := flat_length eQ _
    rw [List.length_append, this, row_len]
    simp only [List.length_nil]
    omega
  · have e : (flat eQ (rowL room ps m) ++ []).set (0 + i * 5 + f) v = flat eQ ((rowL room ps m).set i y) ++ [] := by
      rw [Nat.zero_add]
      exact flat_setF (ss := sQ) (row_get hi) hf hy
    rw [e, uL_set hs hm hi] at h1; exact h1
/-- State 0 is a free port. -/
theorem okT.st0 (hT : okT room ps) {g i : Int} (h : inR room g i = true) : ((gp ps g i).1 == 0) = decide (gp ps g i = zP) := by
  rcases hT.inv g i h with z | z | z
  · rw [z]; rfl
  · have e : gp ps g i ≠ zP := fun e => by rw [e] at z; exact absurd z.1 (by decide)
    rw [z.1, decide_eq_false e]; rfl
  · have e : gp ps g i ≠ zP := fun e => by rw [e] at z; exact absurd z.1 (by decide)
    rw [z.1, decide_eq_false e]; rfl
theorem uof_ok (hU : UB w bp bl c rb rest room ps) (hT : okT room ps) (g i : Int) : CallsR Try.prog 31 (.tup [eQ, .one .bool]) [.pointer (some ⟨bp, 0, none⟩), .int .i64 g, .int .i64 i] w (fun v w' => v = ((ofS room ps g i).1, (ofS room ps g i).2, ()) ∧ Ext w w') := by
  refine rxFnR_ok (C := R2) (ann := fun _ => []) (Eq.mpr (uof_vc _ g i w _) ?_)
  have hs := hT.tookS
  have hlo := hs.lo
  have hhi := hs.hi
  have H := At.start [] w
  refine AlP.go H fun b w2 H => ⟨trivial, fun _ => rfl, fun _ => rfl, ?_⟩
  have hU := hU.ext H.all
  refine hU.hd ⟨fun _ => ⟨rfl, Int.le_refl _, (by decide : (0 : Int) < ((16 : Nat) : Int))⟩, hU.row (m := 0) (by decide) ?_⟩
  dsimp only
  have en : ((room.toNat : Nat) : Int) = room := by omega
  rw [en]
  by_cases hin : inR room g i = true
  · have hin' := inR_iff.1 hin
    have hg : gI g = true := gI_iff.2 hin'.1
    have c0 : (!gI g || decide (i < 0) || decide (i ≥ room)) = false := by
      rw [hg, decide_eq_false (by omega), decide_eq_false (by omega)]; rfl
    have es : subI .i64 g 1 = g - 1 := subI_i64 (by omega) (by omega)
    rw [c0, es]
    have hm : (g - 1).toNat < 16 := by omega
    have hi : ((i.toNat : Nat) : Int) < room := by omega
    have egp : ps.getD ((g - 1).toNat * 32 + i.toNat) zP = gp ps g i := rfl
    refine ⟨fun _ => rfl, fun _ => rfl, hU.hd ⟨fun _ => ⟨rfl, by omega, by show g - 1 < ((16 : Nat) : Int); omega⟩, hU.row hm ⟨fun _ => ⟨rfl, by omega, by show i < ((room.toNat : Nat) : Int); omega⟩, fun _ => rfl, hU.fd hm hi (by decide) rfl ?_⟩⟩⟩
    rw [egp, hT.st0 hin, Bool.false_or]
    refine brP_intro (fun c1 => ?_) (fun c1 => ?_)
    · have ez : gp ps g i = zP := of_decide_eq_true c1
      have e : ofS room ps g i = (zP, false) := by rw [ofS_in hin, if_pos ez]
      rw [e]
      exact StP.all 0 H rfl rfl rfl fun w3 H => EnP.go H fun w4 H => LdP.at 0 H rfl rfl ⟨rfl, H.all⟩
    · have ez : gp ps g i ≠ zP := of_decide_eq_false c1
      have e : ofS room ps g i = (gp ps g i, true) := by rw [ofS_in hin, if_neg ez]
      rw [e]
      refine ⟨rfl, rfl, hU.hd ⟨⟨rfl, by omega, by show g - 1 < ((16 : Nat) : Int); omega⟩, hU.row hm ⟨⟨rfl, by omega, by show i < ((room.toNat : Nat) : Int); omega⟩, hU.el hm hi ?_⟩⟩⟩
      rw [egp]
      exact StP.all 0 H rfl rfl rfl fun w3 H => EnP.go H fun w4 H => LdP.at 0 H rfl rfl ⟨rfl, H.all⟩
  · have c0 : (!gI g || decide (i < 0) || decide (i ≥ room)) = true := by
      cases hg : gI g with
      | false => rfl
      | true =>
        by_cases h1 : i < 0
        · rw [decide_eq_true h1]; rfl
        · by_cases h2 : i ≥ room
          · rw [decide_eq_true h2]; simp
          · exact absurd (inR_iff.2 ⟨gI_iff.1 hg, by omega, by omega⟩) hin
    rw [c0]
    have e : ofS room ps g i = (zP, false) := by unfold ofS; rw [atX_out hin]
    rw [e]
    refine ⟨fun h => by simp at h, fun h => by simp at h, (none, 0, 0), fun h => by simp at h, fun h => by simp at h, (none, 0, 0), fun h => by simp at h, fun h => by simp at h, fun h => by simp at h, (0 : Int), fun h => by simp at h, brP_pos rfl ?_⟩
    exact StP.all 0 H rfl rfl rfl fun w3 H => EnP.go H fun w4 H => LdP.at 0 H rfl rfl ⟨rfl, H.all⟩
theorem ufree_ok (hU : UB w bp bl c rb rest room ps) (hT : okT room ps) (g : Int) (hg : gI g = true) : CallsR Try.prog 37 (.el (.one (.int .i64))) [.pointer (some ⟨bp, 0, none⟩), .int .i64 g] w (fun x w' => x = placeI room ps g ∧ Ext w w') := by
  refine rxFn_ok (C := R2) (ann := ufree_vc_ann) (Eq.mpr (ufree_vc _ g w _) ?_)
  have hs := hT.tookS
  have hlo := hs.lo
  have hhi := hs.hi
  have hg' := gI_iff.1 hg
  have es : subI .i64 g 1 = g - 1 := subI_i64 (by omega) (by omega)
  rw [es]
  have hm : (g - 1).toNat < 16 := by omega
  have en : ((room.toNat : Nat) : Int) = room := by omega
  refine ⟨fun q s w' => ∃ i : Nat, s.1 = i ∧ q + i = room.toNat ∧ (∀ j : Nat, j < i → atX room ps g j ≠ none) ∧ Ext w w', ⟨room.toNat, fun w1 h1 => ⟨0, rfl, rfl, fun j hj => absurd hj (by omega), h1⟩⟩, ?_⟩
  rintro q ⟨i', u⟩ w1 ⟨i, hi, hq, hf, hw⟩
  simp only at hi
  subst hi
  dsimp only
  have hU := hU.ext hw
  refine ⟨rfl, rfl, hU.hd ⟨⟨rfl, by omega, by show g - 1 < ((16 : Nat) : Int); omega⟩, hU.row hm (brP_intro (fun c => ?_) (fun c w2 h2 => ⟨?_, hw.trans h2⟩))⟩⟩
  · have hlt : (i : Int) < room := by simp at c; omega
    have hin : inR room g i = true := inR_iff.2 ⟨hg', by omega, hlt⟩
    have egp : ps.getD ((g - 1).toNat * 32 + i) zP = gp ps g i := rfl
    refine ⟨rfl, rfl, hU.hd ⟨⟨rfl, by omega, by show g - 1 < ((16 : Nat) : Int); omega⟩, hU.row hm ⟨⟨rfl, by omega, by show (i : Int) < ((room.toNat : Nat) : Int); omega⟩, rfl, hU.fd hm (i := i) hlt (by decide) rfl ?_⟩⟩⟩
    rw [egp, hT.st0 hin]
    refine brP_intro (fun c2 w2 h2 => ⟨?_, hw.trans h2⟩) (fun c2 w2 h2 => ⟨q - 1, by omega, i + 1, by rw [addI_i64 (by omega) (by omega)]; rfl, by omega, fun j hj => ?_, hw.trans h2⟩)
    · exact (place_some hlt (by rw [atX_eq hin, if_pos (of_decide_eq_true c2)]) hf).symm
    · rcases Nat.lt_or_ge j i with h1 | h1
      · exact hf j h1
      · obtain rfl : j = i := by omega
        rw [atX_eq hin, if_neg (of_decide_eq_false c2)]; simp
  · have hi : i = room.toNat := by simp at c; omega
    exact (place_none fun j hj => hf j (by omega)).symm
end
end Go.Proofs.Ytcnaaobeooiojaa
