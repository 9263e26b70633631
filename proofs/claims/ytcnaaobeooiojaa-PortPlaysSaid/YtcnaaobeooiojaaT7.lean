import Derived.Test.YtcnaaobeooiojaaT6
namespace Go.Proofs.Ytcnaaobeooiojaa
set_option linter.unusedSimpArgs false
set_option linter.unusedVariables false
open Go.RX
section
variable {D G : List Nat} {w0 w : World} {L : List (Nat × List Value)} {bp : Nat} {room : Int} {ps : List PT}
def pendI (ps : List PT) (g : Int) (i : Nat) : List Int := ((List.range i).filter (pendB ps g)).map fun i => ((i : Nat) : Int)
theorem pendI_succ (g : Int) (i : Nat) : pendI ps g (i + 1) = pendI ps g i ++ (if pendB ps g i then [((i : Nat) : Int)] else []) := by
  unfold pendI
  rw [List.range_succ, List.filter_append, List.map_append]
  by_cases h : pendB ps g i = true
  · rw [if_pos h, List.filter_cons, if_pos h]; rfl
  · rw [if_neg h, List.filter_cons, if_neg h]; rfl
theorem pendI_len (g : Int) (i : Nat) : (pendI ps g i).length ≤ i := by
  unfold pendI
  rw [List.length_map]
  exact Nat.le_trans (List.length_filter_le _ _) (by simp)
theorem pendB_none {g : Int} {i : Nat} (hi : (i : Int) < room) (hx : atX room ps g i = none) : pendB ps g i = false := by
  unfold pendB
  cases hg : gI g with
  | false => rfl
  | true =>
    have hin : inR room g i = true := inR_iff.2 ⟨gI_iff.1 hg, by omega, hi⟩
    rw [atX_eq hin] at hx
    by_cases e : gp ps g i = zP
    · rw [e]; rfl
    · rw [if_neg e] at hx; cases hx
theorem pendB_some {g : Int} {i : Nat} {k : Nat} (hx : atX room ps g i = some k) : pendB ps g i = ((ps.getD k zP).2.2.2.1 && !(ps.getD k zP).2.2.2.2.1) := by
  obtain ⟨h1, h2, _⟩ := atX_some hx
  unfold pendB gp
  rw [gI_iff.2 (inR_iff.1 h1).1, h2]; rfl
theorem ppend_ok (hb : Blk w bp (pcs room ps)) (hs : okS room ps) (g : Int) : CallsR Try.prog 26 (.el (.one .slice)) [.pointer (some ⟨bp, 0, none⟩), .int .i64 g] w (fun r w' => Own w w' eI r (pendL room ps g) ∧ Ext w w') := by
  refine rxFn_ok (C := R1) (ann := ppend_vc_ann) (Eq.mpr (ppend_vc _ g w _) ?_)
  have hlo := hs.lo
  have hhi := hs.hi
  refine ⟨true, QCalls.of (s := .el (.one .bool)) fun w' h' => there_ok (hb.ext h') hs, brP_neg rfl ⟨rfl, rfl, LdP.oldA (At.start [] w) hb (by simp) (room_at hs) ?_⟩⟩
  refine ⟨fun q s w' => ∃ i : Nat, s.2.1 = i ∧ q + i = room.toNat ∧ At [] w w' [] ∧ Own w w' eI s.1 (pendI ps g i), ⟨room.toNat, fun w1 h1 => ⟨0, rfl, rfl, (At.start [] w).ext h1, Own.start w w1 eI⟩⟩, ?_⟩
  rintro q ⟨⟨sp, sn, sc⟩, i', u⟩ w1 ⟨i, hi, hq, H, ho⟩
  simp only at hi ho
  subst hi
  dsimp only
  refine brP_intro (fun c => ?_) (fun c => ?_)
  · have hlt : i < room.toNat := by simp at c; omega
    have hn := pendI_succ (ps := ps) g i
    have hlen := pendI_len (ps := ps) g i
    refine ⟨_, QCalls.of (s := .el (.one .ptr)) fun w' h' => at_ok ((H.old hb (by simp)).ext h') hs g i, ?_⟩
    unfold atA
    cases hx : atX room ps g i with
    | none =>
      rw [pendB_none (by omega) hx] at hn
      rw [if_neg (by decide), List.append_nil] at hn
      refine ⟨fun h => by simp at h, fun h => by simp at h, false, fun h => by simp at h, fun h => by simp at h, fun h => by simp at h, false, fun h => by simp at h, brP_neg rfl fun w2 h2 => ⟨q - 1, by omega, i + 1, by rw [addI_i64 (by omega) (by omega)]; rfl, by omega, H.ext h2, by rw [hn]; exact ho.ext h2⟩⟩
    | some kk =>
      obtain ⟨hin, hkk, hnz⟩ := atX_some hx
      have hk5 : kk < 512 := by rw [hkk]; exact ix_lt hin hs.hi
      have hxk := hs.get hk5
      rw [pendB_some hx] at hn
      refine ⟨fun _ => rfl, fun _ => rfl, LdP.oldA H hb (by simp) (fld hxk (by decide) rfl) ⟨fun _ => rfl, fun _ => rfl, LdP.oldA H hb (by simp) (fld hxk (by decide) rfl) (brP_intro (fun c2 => ?_) (fun c2 => ?_))⟩⟩
      · have c3 : ((ps.getD kk zP).2.2.2.1 && !(ps.getD kk zP).2.2.2.2.1) = true := by simpa using c2
        rw [if_pos c3] at hn
        have Hr := At.start [] w1
        refine AlP.go Hr fun b w2 Hr => fun w3 h3 => ?_
        refine At.push0 (e := eI) (i := 0) H ho (Hr.ext h3) (i : Int) rfl rfl rfl rfl rfl (by omega) fun s' w4 H4 ho4 w5 h5 => ⟨q - 1, by omega, i + 1, by rw [addI_i64 (by omega) (by omega)]; rfl, by omega, H4.ext h5, ?_⟩
        rw [hn]; exact ho4.ext h5
      · have c3 : ¬ ((ps.getD kk zP).2.2.2.1 && !(ps.getD kk zP).2.2.2.2.1) = true := by simpa using c2
        rw [if_neg c3, List.append_nil] at hn
        exact fun w2 h2 => ⟨q - 1, by omega, i + 1, by rw [addI_i64 (by omega) (by omega)]; rfl, by omega, H.ext h2, by rw [hn]; exact ho.ext h2⟩
  · have hi : i = room.toNat := by simp at c; omega
    subst hi
    exact fun w2 h2 => ⟨ho.ext h2, (H.ext h2).all⟩
theorem ppend_at (H : AtD D G w0 w L) (j : Nat) (hL : L[j]? = some (bp, pcs room ps)) (hs : okS room ps) (g : Int) {K : Option Addr × Nat × Nat → World → Prop}
    (k : ∀ r rows w2, AtD D G w0 w2 (L ++ rows) → RowIn eI rows r (pendL room ps g) → K r w2) : CaP Try.prog 26 (.el (.one .slice)) [.pointer (some ⟨bp, 0, none⟩), .int .i64 g] w K :=
  CaP.rowR H (fun w1 H => ppend_ok (H.get hL) hs g) k
theorem rowIn_head {rows : List (Nat × List Value)} {r : Option Addr × Nat × Nat} {x : Int} {l : List Int} (hr : RowIn eI rows r (x :: l)) (H : AtD D G w0 w L) (hm : ∀ y ∈ rows, y ∈ L) : r.1.isSome = true ∧ rdAt w (addP r.1 0) (.one (.int .i64)) x := by
  have := hr.sl H hm 0 x rfl
  simpa using this
theorem ptake_at (H : AtD D G w0 w L) (j : Nat) (hL : L[j]? = some (bp, pcs room ps)) (hs : okS room ps) (g : Int) {K : Int × Bool × Unit → World → Prop}
    (k : ∀ w2, AtD D G w0 w2 (L.set j (bp, pcs room (takeS room ps g).2)) → K ((takeS room ps g).1.1, (takeS room ps g).1.2, ()) w2) :
    CaP Try.prog 19 (.tup [.one (.int .i64), .one .bool]) [.pointer (some ⟨bp, 0, none⟩), .int .i64 g] w K := by
  refine CaP.go H fun w1 H => rxFn_ok (C := R1) (ann := fun _ => []) (Eq.mpr (ptake_vc _ g w1 K) ?_)
  refine ppend_at H j hL hs g fun r rows w2 H hr => ?_
  have hj : j < L.length := (List.getElem?_eq_some_iff.1 hL).1
  have hL2 : (L ++ rows)[j]? = some (bp, pcs room ps) := by rw [List.getElem?_append_left hj]; exact hL
  have hl := hr.1
  cases hp : pendL room ps g with
  | nil =>
    rw [hp] at hl
    have e : takeS room ps g = ((0, false), ps) := by unfold takeS; rw [hp]
    rw [e] at k
    refine brP_pos (by rw [hl]; rfl) (EnP.go H fun w3 H => k w3 ?_)
    rw [set_self hL]; exact H.sub (List.sublist_append_left _ _)
  | cons x l =>
    have hm : x ∈ pendL room ps g := by rw [hp]; exact List.mem_cons_self
    rw [hp] at hl hr
    have e : takeS room ps g = ((x, true), ps.set (ix g x) ((gp ps g x).1, (gp ps g x).2.1, (gp ps g x).2.2.1, false, (gp ps g x).2.2.2.2)) := by unfold takeS; rw [hp]
    rw [e] at k
    obtain ⟨p1, _, _⟩ := pend_mem hm
    have hx : atX room ps g x = some (ix g x) := by rw [atX_eq p1, if_neg (pend_nz hm)]
    have hk5 := ix_lt p1 hs.hi
    have hxk : ps[ix g x]? = some (gp ps g x) := hs.get hk5
    have h0 := rowIn_head hr H (fun y hy => List.mem_append_right _ hy)
    have hlen : (x :: l).length = l.length + 1 := rfl
    refine brP_neg (by rw [hl, hlen]; simp; omega) ⟨⟨h0.1, by omega, by rw [hl, hlen]; omega⟩, LdP.of x h0.2 ⟨_, at_q H j hL2 hs g x hx, rfl, rfl, ?_⟩⟩
    refine StP.fld j H ((gp ps g x).1, (gp ps g x).2.1, (gp ps g x).2.2.1, false, (gp ps g x).2.2.2.2.1, ()) hL2 hxk (by decide) rfl rfl fun w3 H => ?_
    rw [List.set_append_left _ _ hj] at H
    have h1 := rowIn_head hr H (fun y hy => List.mem_append_right _ hy)
    refine ⟨⟨h1.1, by omega, by rw [hl, hlen]; omega⟩, LdP.of x h1.2 (EnP.go H fun w4 H => k w4 (H.sub (List.sublist_append_left _ _)))⟩
/-! ### Drop -/
theorem closeE (g i : Int) : (closeS room ps g i).1 = 0 ∨ ((closeS room ps g i).1 = 4 ∧ (closeS room ps g i).2 = ps) := by
  cases hx : atX room ps g i with
  | none => rw [closeS_none hx]; exact .inr ⟨rfl, rfl⟩
  | some k => rw [closeS_some hx]; split <;> exact .inl rfl
theorem drop1_ok (hT : okT room ps) (g : Int) : ∀ i, okT room (drop1 room ps g i).2
  | 0 => hT
  | i + 1 => (drop1_ok hT g i).closeS g i
theorem drop1_le (g : Int) : ∀ i : Nat, 0 ≤ (drop1 room ps g i).1 ∧ (drop1 room ps g i).1 ≤ i
  | 0 => by simp [drop1]
  | i + 1 => by
    have := drop1_le g i
    simp only [drop1]
    split <;> omega
/-- g's own port goes; none of its others changes. -/
theorem closeS_gp (hT : okT room ps) {g i j : Int} (hi : inR room g i = true) (hj : inR room g j = true) : gp (closeS room ps g i).2 g j = if j = i then zP else gp ps g j := by
  cases hx : atX room ps g i with
  | none =>
    rw [closeS_none hx]
    rw [atX_eq hi] at hx
    by_cases e : gp ps g i = zP
    · by_cases e2 : j = i
      · rw [if_pos e2, e2]; exact e
      · rw [if_neg e2]
    · rw [if_neg e] at hx; cases hx
  | some k =>
    rw [closeS_some hx]
    obtain ⟨p1, p2, p3⟩ := atX_some hx
    have hs := hT.tookS
    split
    · rename_i h2
      obtain ⟨r1, r2, _⟩ := hT.nz hx h2
      subst p2
      show gp ((ps.set _ _).set (ix g i) zP) g j = _
      rw [gp_set (hs.set _ _) p1 hj, gp_set hs r2 hj]
      by_cases e2 : j = i
      · rw [if_pos ⟨rfl, e2⟩, if_pos e2]
      · rw [if_neg (fun c => e2 c.2), if_neg (fun c => r1 c.1.symm), if_neg e2]
    · subst p2
      show gp (ps.set (ix g i) zP) g j = _
      rw [gp_set hs p1 hj]
      by_cases e2 : j = i
      · rw [if_pos ⟨rfl, e2⟩, if_pos e2]
      · rw [if_neg (fun c => e2 c.2), if_neg e2]
theorem drop1_gp (hT : okT room ps) {g : Int} (hg : gI g = true) : ∀ (n : Nat), (n : Int) ≤ room → ∀ j, 0 ≤ j → j < (n : Int) → gp (drop1 room ps g n).2 g j = zP
  | 0, _, j, h0, h1 => by omega
  | n + 1, hn, j, h0, h1 => by
    have hin : inR room g n = true := inR_iff.2 ⟨gI_iff.1 hg, by omega, by omega⟩
    have hj : inR room g j = true := inR_iff.2 ⟨gI_iff.1 hg, by omega, by omega⟩
    simp only [drop1]
    rw [closeS_gp (drop1_ok hT g n) hin hj]
    by_cases e : j = n
    · rw [if_pos e]
    · rw [if_neg e]; exact drop1_gp hT hg n (by omega) j h0 (by omega)
def goneP (room : Int) (ps : List PT) (g : Int) : Prop := okT room ps ∧ ∀ i, inR room g i = true → gp ps g i = zP
theorem gone_ne2 {g : Int} (h : goneP room ps g) {k i : Int} (hi : inR room k i = true) (hz : (gp ps k i).2.1 = g) : (gp ps k i).1 ≠ 2 := by
  intro h2
  rcases h.1.inv k i hi with z | z | ⟨_, _, b3, b4, _⟩
  · rw [z] at h2; exact absurd h2 (by decide)
  · rw [z.1] at h2; exact absurd h2 (by decide)
  · rw [hz] at b3 b4
    rw [h.2 _ b3] at b4
    exact absurd b4 (by decide)
theorem dropT_gone {g : Int} {s : Int × List PT} (h : goneP room s.2 g) (k i : Int) : goneP room (dropT room g s k i).2 g := by
  unfold dropT
  split
  · exact h
  · rename_i x hx
    split
    · rename_i hg
      obtain ⟨p1, p2, p3⟩ := atX_some hx
      subst p2
      refine ⟨h.1.putA p1 (gone_ne2 h p1 hg) (.inl rfl), fun j hj => ?_⟩
      show gp (s.2.set (ix k i) zP) g j = zP
      rw [gp_set h.1.tookS p1 hj]
      split
      · rfl
      · exact h.2 j hj
    · exact h
theorem dropR_gone {g : Int} {s : Int × List PT} (h : goneP room s.2 g) (k : Int) : ∀ i, goneP room (dropR room g s k i).2 g
  | 0 => h
  | i + 1 => dropT_gone (dropR_gone h k i) k i
theorem dropA_gone {g : Int} {s : Int × List PT} (h : goneP room s.2 g) : ∀ k, goneP room (dropA room g s k).2 g
  | 0 => h
  | k + 1 => dropR_gone (dropA_gone h k) _ _
theorem dropT_le {g : Int} (s : Int × List PT) (k i : Int) : s.1 ≤ (dropT room g s k i).1 ∧ (dropT room g s k i).1 ≤ s.1 + 1 := by
  unfold dropT
  split
  · omega
  · split
    · simp only; omega
    · omega
theorem dropR_le {g : Int} (s : Int × List PT) (k : Int) : ∀ i : Nat, s.1 ≤ (dropR room g s k i).1 ∧ (dropR room g s k i).1 ≤ s.1 + i
  | 0 => by simp [dropR]
  | i + 1 => by
    have h1 := dropR_le (g := g) s k i
    have h2 := dropT_le (g := g) (room := room) (dropR room g s k i) k i
    simp only [dropR]
    omega
theorem dropA_le {g : Int} (s : Int × List PT) : ∀ k : Nat, s.1 ≤ (dropA room g s k).1 ∧ (dropA room g s k).1 ≤ s.1 + k * room.toNat
  | 0 => by simp [dropA]
  | k + 1 => by
    have h1 := dropA_le (g := g) s k
    have h2 := dropR_le (g := g) (room := room) (dropA room g s k) ((k : Int) + 1) room.toNat
    simp only [dropA]
    have e : ((k + 1 : Nat) : Int) * (room.toNat : Int) = (k : Int) * (room.toNat : Int) + room.toNat := by rw [Int.natCast_add, Int.add_mul]; simp
    rw [e]
    omega
theorem drop1_gone (hT : okT room ps) {g : Int} (hg : gI g = true) : goneP room (drop1 room ps g room.toNat).2 g := by
  have hlo := hT.tookS.lo
  exact ⟨drop1_ok hT g _, fun i hi => drop1_gp hT hg room.toNat (by omega) i (by rw [inR_iff] at hi; omega) (by rw [inR_iff] at hi; omega)⟩
theorem dropS_ok (hT : okT room ps) (g : Int) : okT room (dropS room ps g).2 := by
  unfold dropS
  split
  · rename_i hg
    exact (dropA_gone (drop1_gone hT hg) 16).1
  · exact hT
theorem dropS_gone (hT : okT room ps) {g : Int} (hg : gI g = true) : goneP room (dropS room ps g).2 g := by
  unfold dropS
  rw [if_pos hg]
  exact dropA_gone (drop1_gone hT hg) 16
theorem pdrop_at (H : AtD D G w0 w L) (j : Nat) (hL : L[j]? = some (bp, pcs room ps)) (hT : okT room ps) (g : Int) {K : Int → World → Prop}
    (k : ∀ w2, AtD D G w0 w2 (L.set j (bp, pcs room (dropS room ps g).2)) → K (dropS room ps g).1 w2) :
    CaP Try.prog 23 (.el (.one (.int .i64))) [.pointer (some ⟨bp, 0, none⟩), .int .i64 g] w K := by
  refine CaP.go H fun w1 H => rxFn_ok (C := R1) (ann := pdrop_vc_ann) (Eq.mpr (pdrop_vc _ g w1 K) ?_)
  have hs := hT.tookS
  have hlo := hs.lo
  have hhi := hs.hi
  refine ⟨true, there_q H j hL hs, fun _ => trivial, brP_intro (fun c => ?_) (fun c => ?_)⟩
  · have hg : gI g = false := by simpa using c
    have e : dropS room ps g = (0, ps) := by unfold dropS; rw [hg]; rfl
    rw [e] at k
    refine EnP.go H fun w3 H => k w3 ?_
    rw [set_self hL]; exact H
  have hg : gI g = true := by simpa using c
  have e : dropS room ps g = dropA room g (drop1 room ps g room.toNat) 16 := by unfold dropS; rw [if_pos hg]
  rw [e] at k
  refine ⟨rfl, rfl, LdP.atA j H hL (room_at hs) ?_⟩
  refine ⟨fun q s w' => ∃ i : Nat, s.2.1 = i ∧ q + i = room.toNat ∧ s.1 = (drop1 room ps g i).1 ∧ AtD D G w0 w' (L.set j (bp, pcs room (drop1 room ps g i).2)), ⟨room.toNat, fun w3 h3 => ⟨0, rfl, rfl, rfl, by rw [show (drop1 room ps g 0).2 = ps from rfl, set_self hL]; exact H.ext h3⟩⟩, ?_⟩
  clear H
  rintro q ⟨a, i', u⟩ w3 ⟨i, hi, hq, ha, H⟩
  simp only at hi ha
  subst hi; subst ha
  dsimp only
  have hdl := drop1_le (room := room) (ps := ps) g i
  refine brP_intro (fun c1 => ?_) (fun c1 => ?_)
  · have hlt : i < room.toNat := by simp at c1; omega
    have hT2 := drop1_ok hT g i
    refine pclose_at H j (set_get hL) hT2 g i fun w4 H => ?_
    rw [List.set_set] at H
    have e5 : addI .i64 (i : Int) 1 = ((i + 1 : Nat) : Int) := by rw [addI_i64 (by omega) (by omega)]; rfl
    refine brP_intro (fun c2 w5 h5 => ⟨q - 1, by omega, i + 1, e5, by omega, ?_, H.ext h5⟩) (fun c2 w5 h5 => ⟨q - 1, by omega, i + 1, e5, by omega, ?_, H.ext h5⟩)
    · have c3 : (closeS room (drop1 room ps g i).2 g i).1 = 0 := by simpa using c2
      simp only [drop1]
      rw [if_pos c3, addI_i64 (by omega) (by omega)]
    · have c3 : ¬ (closeS room (drop1 room ps g i).2 g i).1 = 0 := by simpa using c2
      simp only [drop1]
      rw [if_neg c3, Int.add_zero]
  have hi : i = room.toNat := by simp at c1; omega
  subst hi
  have hgo := drop1_gone hT hg
  generalize drop1 room ps g room.toNat = S0 at H k hgo hdl
  refine ⟨fun q s w' => ∃ m : Nat, s.2.1 = (m : Int) + 1 ∧ q + m = 16 ∧ s.1 = (dropA room g S0 m).1 ∧ AtD D G w0 w' (L.set j (bp, pcs room (dropA room g S0 m).2)), ⟨16, fun w4 h4 => ⟨0, rfl, rfl, rfl, H.ext h4⟩⟩, ?_⟩
  clear H
  rintro q2 ⟨a, m', u2⟩ w4 ⟨m, hm, hq2, ha, H⟩
  simp only at hm ha
  subst hm; subst ha
  dsimp only
  have hgA := dropA_gone hgo m
  have hlA := dropA_le (room := room) (g := g) S0 m
  have hlA2 : (m : Int) * (room.toNat : Int) ≤ 16 * 32 := Int.mul_le_mul (by omega) (by omega) (by omega) (by omega)
  refine brP_intro (fun c2 => ?_) (fun c2 => ?_)
  · have hm16 : m < 16 := by simp at c2; omega
    refine ⟨rfl, rfl, LdP.atA j H (set_get hL) (room_at hgA.1.tookS) ?_⟩
    refine ⟨fun q s w' => ∃ i : Nat, s.2.1 = i ∧ q + i = room.toNat ∧ s.1 = (dropR room g (dropA room g S0 m) ((m : Int) + 1) i).1 ∧ AtD D G w0 w' (L.set j (bp, pcs room (dropR room g (dropA room g S0 m) ((m : Int) + 1) i).2)), ⟨room.toNat, fun w5 h5 => ⟨0, rfl, rfl, rfl, H.ext h5⟩⟩, ?_⟩
    clear H
    rintro q3 ⟨a, i', u3⟩ w5 ⟨i, hi, hq3, ha, H⟩
    simp only at hi ha
    subst hi; subst ha
    dsimp only
    have hgR := dropR_gone hgA ((m : Int) + 1) i
    have hlR := dropR_le (room := room) (g := g) (dropA room g S0 m) ((m : Int) + 1) i
    refine brP_intro (fun c3 => ?_) (fun c3 => ?_)
    · have hlt : i < room.toNat := by simp at c3; omega
      have e5 : addI .i64 (i : Int) 1 = ((i + 1 : Nat) : Int) := by rw [addI_i64 (by omega) (by omega)]; rfl
      have hsR := hgR.1.tookS
      have er : dropR room g (dropA room g S0 m) ((m : Int) + 1) (i + 1) = dropT room g (dropR room g (dropA room g S0 m) ((m : Int) + 1) i) ((m : Int) + 1) i := rfl
      generalize dropR room g (dropA room g S0 m) ((m : Int) + 1) i = S2 at *
      refine ⟨_, at_q H j (set_get hL) hsR ((m : Int) + 1) i rfl, ?_⟩
      cases hx : atX room S2.2 ((m : Int) + 1) i with
      | none =>
        have ed : dropT room g S2 ((m : Int) + 1) i = S2 := by unfold dropT; rw [hx]
        rw [ed] at er
        exact ⟨fun h => by simp at h, fun h => by simp at h, (0 : Int), fun h => by simp at h, brP_neg rfl fun w6 h6 => ⟨q3 - 1, by omega, i + 1, e5, by omega, by rw [er], by rw [er]; exact H.ext h6⟩⟩
      | some kk =>
        obtain ⟨hin, hkk, hnz⟩ := atX_some hx
        have hk5 : kk < 512 := by rw [hkk]; exact ix_lt hin hhi
        have hxk := hsR.get hk5
        have ed : dropT room g S2 ((m : Int) + 1) i = if (S2.2.getD kk zP).2.1 = g then (S2.1 + 1, S2.2.set kk zP) else S2 := by unfold dropT; rw [hx]
        rw [ed] at er
        refine ⟨fun _ => rfl, fun _ => rfl, LdP.atA j H (set_get hL) (fld hxk (by decide) rfl) (brP_intro (fun c4 => ?_) (fun c4 => ?_))⟩
        · have c5 : (S2.2.getD kk zP).2.1 = g := by simpa using c4
          rw [if_pos c5] at er
          refine ⟨rfl, StP.port j H (set_get hL) (by rw [hsR.len]; exact hk5) zP rfl fun w6 H w7 h7 => ⟨q3 - 1, by omega, i + 1, e5, by omega, ?_, ?_⟩⟩
          · rw [er, addI_i64 (by omega) (by omega)]
          · rw [er]; rw [List.set_set] at H; exact H.ext h7
        · have c5 : ¬ (S2.2.getD kk zP).2.1 = g := by simpa using c4
          rw [if_neg c5] at er
          exact fun w6 h6 => ⟨q3 - 1, by omega, i + 1, e5, by omega, by rw [er], by rw [er]; exact H.ext h6⟩
    · have hi : i = room.toNat := by simp at c3; omega
      subst hi
      exact fun w6 h6 => ⟨q2 - 1, by omega, m + 1, by rw [addI_i64 (by omega) (by omega)]; omega, by omega, rfl, H.ext h6⟩
  · have hm16 : m = 16 := by simp at c2; omega
    subst hm16
    exact EnP.go H fun w5 H => k w5 H
end
end Go.Proofs.Ytcnaaobeooiojaa
