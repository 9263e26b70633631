import Derived.Test.YtcnaaobeooiojaaT2
namespace Go.Proofs.Ytcnaaobeooiojaa
set_option linter.unusedSimpArgs false
set_option linter.unusedVariables false
open Go.RX
theorem flat_at {ss : List Sc} {xs : List (ScsT ss)} {rest : List Value} {k f : Nat} {x : ScsT ss} (hx : xs[k]? = some x) (hf : f < ss.length) : (flat (.agg ss) xs ++ rest)[k * ss.length + f]? = (scsEmb ss x)[f]? := by
  induction xs generalizing k with
  | nil => simp at hx
  | cons y ys ih =>
    cases k with
    | zero =>
      simp at hx
      subst hx
      have hl : f < (scsEmb ss y).length := by rw [scsEmb_length]; exact hf
      simp only [Nat.zero_mul, Nat.zero_add]
      show ((scsEmb ss y ++ flat (.agg ss) ys) ++ rest)[f]? = _
      rw [List.append_assoc, List.getElem?_append_left hl]
    | succ k =>
      have hx' : ys[k]? = some x := by simpa using hx
      show ((scsEmb ss y ++ flat (.agg ss) ys) ++ rest)[(k + 1) * ss.length + f]? = _
      rw [List.append_assoc, List.getElem?_append_right (by rw [scsEmb_length, Nat.add_mul]; omega), scsEmb_length, Nat.add_mul]
      rw [show k * ss.length + 1 * ss.length + f - ss.length = k * ss.length + f by omega]
      exact ih hx'
theorem flat_setF {ss : List Sc} {xs : List (ScsT ss)} {rest : List Value} {k f : Nat} {x y : ScsT ss} {v : Value} (hx : xs[k]? = some x) (hf : f < ss.length) (hy : scsEmb ss y = (scsEmb ss x).set f v) : (flat (.agg ss) xs ++ rest).set (k * ss.length + f) v = flat (.agg ss) (xs.set k y) ++ rest := by
  induction xs generalizing k with
  | nil => simp at hx
  | cons z zs ih =>
    cases k with
    | zero =>
      simp at hx
      subst hx
      have hl : f < (scsEmb ss z).length := by rw [scsEmb_length]; exact hf
      simp only [Nat.zero_mul, Nat.zero_add]
      show ((scsEmb ss z ++ flat (.agg ss) zs) ++ rest).set f v = (scsEmb ss y ++ flat (.agg ss) zs) ++ rest
      rw [List.append_assoc, List.set_append_left _ _ hl, hy, List.append_assoc]
    | succ k =>
      have hx' : zs[k]? = some x := by simpa using hx
      show ((scsEmb ss z ++ flat (.agg ss) zs) ++ rest).set ((k + 1) * ss.length + f) v = (scsEmb ss z ++ flat (.agg ss) (zs.set k y)) ++ rest
      rw [List.append_assoc, List.set_append_right _ _ (by rw [scsEmb_length, Nat.add_mul]; omega), scsEmb_length, Nat.add_mul]
      rw [show k * ss.length + 1 * ss.length + f - ss.length = k * ss.length + f by omega, ih hx', List.append_assoc]
abbrev pcs (room : Int) (ps : List PT) : List Value := flat eQ ps ++ [.int .i64 room]
def ix (g i : Int) : Nat := (g - 1).toNat * 32 + i.toNat
def inR (room g i : Int) : Bool := gI g && (decide (0 ≤ i) && decide (i < room))
def atX (room : Int) (ps : List PT) (g i : Int) : Option Nat := if inR room g i = true ∧ ps.getD (ix g i) zP ≠ zP then some (ix g i) else none
structure okS (room : Int) (ps : List PT) : Prop where
  len : ps.length = 512
  lo : 1 ≤ room
  hi : room ≤ 32
theorem gI_iff {g : Int} : gI g = true ↔ 1 ≤ g ∧ g ≤ 16 := by unfold gI; simp
theorem inR_iff {room g i : Int} : inR room g i = true ↔ (1 ≤ g ∧ g ≤ 16) ∧ 0 ≤ i ∧ i < room := by unfold inR; rw [Bool.and_eq_true, gI_iff]; simp
theorem ix_lt {room g i : Int} (h : inR room g i = true) (hr : room ≤ 32) : ix g i < 512 := by
  rw [inR_iff] at h; unfold ix; omega
theorem ix_inj {room g i g' i' : Int} (h : inR room g i = true) (h' : inR room g' i' = true) (hr : room ≤ 32) (e : ix g i = ix g' i') : g = g' ∧ i = i' := by
  rw [inR_iff] at h h'; unfold ix at e; omega
theorem okS.get {room : Int} {ps : List PT} (h : okS room ps) {k : Nat} (hk : k < 512) : ps[k]? = some (ps.getD k zP) := by
  rw [List.getD_eq_getElem?_getD, List.getElem?_eq_getElem (by rw [h.len]; exact hk)]; rfl
theorem okS.set {room : Int} {ps : List PT} (h : okS room ps) (k : Nat) (x : PT) : okS room (ps.set k x) := ⟨by rw [List.length_set]; exact h.len, h.lo, h.hi⟩
theorem atX_some {room : Int} {ps : List PT} {g i : Int} {k : Nat} (h : atX room ps g i = some k) : inR room g i = true ∧ k = ix g i ∧ ps.getD k zP ≠ zP := by
  unfold atX at h
  split at h
  · rename_i c; cases h; exact ⟨c.1, rfl, c.2⟩
  · cases h
theorem room_at {room : Int} {ps : List PT} (h : okS room ps) : elAt (pcs room ps) (0 + 2560) (.one (.int .i64)) = some room := by
  have : (pcs room ps)[2560]? = some (.int .i64 room) := by
    show (flat eQ ps ++ [Value.int .i64 room])[2560]? = _
    rw [List.getElem?_append_right (by rw [flat_length, h.len]; decide), flat_length, h.len]; rfl
  show (match (pcs room ps)[0 + 2560]? with | some v => (Sc.int .i64).proj v | none => none) = some room
  rw [Nat.zero_add, this]; rfl
theorem isZ (x : PT) : (x.fst == 0 && (x.snd.fst == 0 && (x.snd.snd.fst == 0 && (x.snd.snd.snd.fst == false && (x.snd.snd.snd.snd.fst == false && true))))) = decide (x = zP) := by
  obtain ⟨a, b, c, d, e, u⟩ := x
  rw [Bool.eq_iff_iff]
  simp [zP]
theorem fld {room : Int} {ps : List PT} {k f : Nat} {x : PT} (hx : ps[k]? = some x) (hf : f < 5) {s : Sc} {y : s.T} (hy : (match (scsEmb sQ x)[f]? with | some v => s.proj v | none => none) = some y) : elAt (pcs room ps) (k * 5 + f) (.one s) = some y := by
  show (match (pcs room ps)[k * 5 + f]? with | some v => s.proj v | none => none) = some y
  have := flat_at (ss := sQ) (rest := [.int .i64 room]) hx (f := f) hf
  rw [show (pcs room ps)[k * 5 + f]? = (scsEmb sQ x)[f]? from this]; exact hy
section
variable {D G : List Nat} {w0 w : World} {L : List (Nat × List Value)}
theorem StP.fld (j : Nat) (H : AtD D G w0 w L) {bp k f : Nat} {room : Int} {ps : List PT} {x : PT} (y : PT) {v : Value} {K : World → Prop} (hL : L[j]? = some (bp, pcs room ps)) (hx : ps[k]? = some x) (hf : f < 5) (hv : v.oneCell' = true) (hy : scsEmb sQ y = (scsEmb sQ x).set f v)
    (hk : ∀ w1, AtD D G w0 w1 (L.set j (bp, pcs room (ps.set k y))) → K w1) : StP w (addP (some ⟨bp, k * 5, none⟩) f) [v] K := by
  refine StP.oneA j H hL hv ?_ fun w1 h1 => hk w1 ?_
  · rw [Nat.blt_eq]
    have hlt : k < ps.length := (List.getElem?_eq_some_iff.1 hx).1
    have : (flat eQ ps).length = ps.length * 5 := flat_length eQ ps
    rw [List.length_append, this]
    simp only [List.length_singleton]
    omega
  · have e : (pcs room ps).set (k * 5 + f) v = pcs room (ps.set k y) := flat_setF (ss := sQ) hx hf hy
    rw [e] at h1; exact h1
end
section
variable {w : World} {bp : Nat} {room : Int} {ps : List PT}
theorem there_ok (h : Blk w bp (pcs room ps)) (hs : okS room ps) : CallsR Try.prog 40 (.el (.one .bool)) [.pointer (some ⟨bp, 0, none⟩)] w (fun x w' => x = true ∧ Ext w w') := by
  refine rxFn_ok (C := R1) (ann := fun _ => []) (Eq.mpr (there_vc _ w _) ?_)
  refine ⟨fun _ => rfl, fun _ => rfl, LdP.oldA (At.start [] w) h (by simp) (room_at hs) fun w1 h1 => ⟨?_, h1⟩⟩
  have := hs.lo
  simp; omega
theorem there_nil (w : World) : CallsR Try.prog 40 (.el (.one .bool)) [.pointer none] w (fun x w' => x = false ∧ Ext w w') := by
  refine rxFn_ok (C := R1) (ann := fun _ => []) (Eq.mpr (there_vc _ w _) ?_)
  exact ⟨fun h => by simp at h, fun h => by simp at h, (0 : Int), fun h => by simp at h, fun w1 h1 => ⟨by simp, h1⟩⟩
theorem there_zero (h : Blk w bp (pcs 0 ps)) (hl : ps.length = 512) : CallsR Try.prog 40 (.el (.one .bool)) [.pointer (some ⟨bp, 0, none⟩)] w (fun x w' => x = false ∧ Ext w w') := by
  refine rxFn_ok (C := R1) (ann := fun _ => []) (Eq.mpr (there_vc _ w _) ?_)
  have e : (pcs 0 ps)[2560]? = some (.int .i64 0) := by
    show (flat eQ ps ++ [Value.int .i64 0])[2560]? = _
    rw [List.getElem?_append_right (by rw [flat_length, hl]; decide), flat_length, hl]; rfl
  exact ⟨fun _ => rfl, fun _ => rfl, (0 : Int), fun _ => by rw [addP_B]; exact h.rd1 e, fun w1 h1 => ⟨rfl, h1⟩⟩
def atA (bp : Nat) (room : Int) (ps : List PT) (g i : Int) : Option Addr := (atX room ps g i).map fun k => ⟨bp, k * 5, none⟩
theorem at_ok (h : Blk w bp (pcs room ps)) (hs : okS room ps) (g i : Int) : CallsR Try.prog 38 (.el (.one .ptr)) [.pointer (some ⟨bp, 0, none⟩), .int .i64 g, .int .i64 i] w (fun x w' => x = atA bp room ps g i ∧ Ext w w') := by
  refine rxFn_ok (C := R1) (ann := fun _ => []) (Eq.mpr (at_vc _ g i w _) ?_)
  refine ⟨true, QCalls.of (s := .el (.one .bool)) fun w' h' => there_ok (h.ext h') hs, fun _ => trivial, fun _ => rfl, fun _ => rfl, LdP.oldA (At.start [] w) h (by simp) (room_at hs) ?_⟩
  have hlo := hs.lo
  have hhi := hs.hi
  refine brP_intro (fun c w1 h1 => ⟨?_, h1⟩) (fun c => ?_)
  · have hn : ¬ inR room g i = true := by
      rw [inR_iff]
      intro hh
      have hgI : gI g = true := gI_iff.2 hh.1
      rw [hgI] at c
      simp at c
      omega
    unfold atA atX
    rw [if_neg (fun hc => hn hc.1)]; rfl
  · have hin : inR room g i = true := by
      rw [inR_iff, ← gI_iff]
      cases hgI : gI g with
      | false => rw [hgI] at c; simp at c
      | true => rw [hgI] at c; simp at c; exact ⟨rfl, by omega, by omega⟩
    have hin' := inR_iff.1 hin
    have hk := ix_lt hin hhi
    have hx := hs.get hk
    have es : subI .i64 g 1 = g - 1 := subI_i64 (by omega) (by omega)
    rw [es]
    have ea : addP (addP (addP (some ⟨bp, 0, none⟩) 0) ((g - 1).toNat * 160)) (i.toNat * 5) = some ⟨bp, ix g i * 5, none⟩ := by
      rw [addP_B, addP_B, addP_B]
      unfold ix
      congr 2
      omega
    have ea2 : addP (addP (some ⟨bp, 0, none⟩) 0) ((g - 1).toNat * 160) = some ⟨bp, 0 + 0 + (g - 1).toNat * 160, none⟩ := by rw [addP_B, addP_B]
    rw [ea, ea2]
    refine ⟨rfl, rfl, ⟨rfl, by omega, by omega⟩, ⟨rfl, by omega, by omega⟩, rfl, LdP.of (ps.getD (ix g i) zP) ?_ ?_⟩
    · have := rd_flat (e := eQ) (rest := [.int .i64 room]) h hx
      rw [addP_B, Nat.zero_add] at this
      exact this
    · rw [isZ]
      refine brP_intro (fun c2 w1 h1 => ⟨?_, h1⟩) (fun c2 w1 h1 => ⟨?_, h1⟩)
      · unfold atA atX
        rw [if_neg (fun hc => hc.2 (of_decide_eq_true c2))]; rfl
      · unfold atA atX
        rw [if_pos ⟨hin, of_decide_eq_false c2⟩]; rfl
def twoE (g r : Int) : Int := if !gI g || !gI r || g == r then 1 else 0
theorem two_ok (h : Blk w bp (pcs room ps)) (hs : okS room ps) (g r : Int) : CallsR Try.prog 34 (.el (.one (.int .i64))) [.pointer (some ⟨bp, 0, none⟩), .int .i64 g, .int .i64 r] w (fun x w' => x = twoE g r ∧ Ext w w') := by
  refine rxFn_ok (C := R1) (ann := fun _ => []) (Eq.mpr (two_vc _ g r w _) ?_)
  refine ⟨true, QCalls.of (s := .el (.one .bool)) fun w' h' => there_ok (h.ext h') hs, brP_neg rfl ⟨trivial, fun _ => trivial, brP_intro (fun c w1 h1 => ⟨?_, h1⟩) (fun c w1 h1 => ⟨?_, h1⟩)⟩⟩
  · unfold twoE; rw [if_pos c]
  · unfold twoE; rw [if_neg (by rw [c]; decide)]
theorem miss_ok (h : Blk w bp (pcs room ps)) (hs : okS room ps) : CallsR Try.prog 39 (.el (.one (.int .i64))) [.pointer (some ⟨bp, 0, none⟩)] w (fun x w' => x = 4 ∧ Ext w w') := by
  refine rxFn_ok (C := R1) (ann := fun _ => []) (Eq.mpr (miss_vc _ w _) ?_)
  exact ⟨true, QCalls.of (s := .el (.one .bool)) fun w' h' => there_ok (h.ext h') hs, brP_neg rfl fun w1 h1 => ⟨rfl, h1⟩⟩
/-- The first free place, from i on. -/
def placeI (room : Int) (ps : List PT) (g : Int) : Int := match (List.range room.toNat).find? fun (i : Nat) => (atX room ps g i).isNone with
  | some i => (i : Int)
  | none => -1
theorem place_ok (h : Blk w bp (pcs room ps)) (hs : okS room ps) (g : Int) : CallsR Try.prog 42 (.el (.one (.int .i64))) [.pointer (some ⟨bp, 0, none⟩), .int .i64 g] w (fun x w' => x = placeI room ps g ∧ Ext w w') := by
  refine rxFn_ok (C := R1) (ann := place_vc_ann) (Eq.mpr (place_vc _ g w _) ?_)
  have hlo := hs.lo
  have hhi := hs.hi
  refine ⟨rfl, rfl, LdP.oldA (At.start [] w) h (by simp) (room_at hs) ?_⟩
  refine ⟨fun q s w' => ∃ i : Nat, s.1 = i ∧ q + i = room.toNat ∧ (∀ j : Nat, j < i → (atX room ps g j).isNone = false) ∧ Ext w w', ⟨room.toNat, fun w1 h1 => ⟨0, rfl, rfl, fun j hj => absurd hj (by omega), h1⟩⟩, ?_⟩
  rintro q ⟨i', u⟩ w1 ⟨i, hi, hq, hf, hw⟩
  simp only at hi
  subst hi
  dsimp only
  refine brP_intro (fun c => ?_) (fun c w2 h2 => ⟨?_, hw.trans h2⟩)
  · have hlt : i < room.toNat := by simp at c; omega
    refine ⟨_, QCalls.of (s := .el (.one .ptr)) fun w' h' => at_ok ((h.ext hw).ext h') hs g i, brP_intro (fun c2 w2 h2 => ⟨?_, hw.trans h2⟩) (fun c2 w2 h2 => ⟨q - 1, by omega, i + 1, by rw [addI_i64 (by omega) (by omega)]; rfl, by omega, fun j hj => ?_, hw.trans h2⟩)⟩
    · have hn : (atX room ps g i).isNone = true := by unfold atA at c2; simpa using c2
      have : (List.range room.toNat).find? (fun (i : Nat) => (atX room ps g i).isNone) = some i := by
        rw [List.find?_range_eq_some]
        exact ⟨hn, List.mem_range.2 hlt, fun j hj => by rw [hf j hj]; rfl⟩
      unfold placeI; rw [this]
    · rcases Nat.lt_or_ge j i with h1 | h1
      · exact hf j h1
      · obtain rfl : j = i := by omega
        unfold atA at c2; simpa using c2
  · have : (List.range room.toNat).find? (fun (i : Nat) => (atX room ps g i).isNone) = none := by
      rw [List.find?_eq_none]
      intro j hj
      have hi : i = room.toNat := by simp at c; omega
      rw [hf j (by rw [hi]; exact List.mem_range.1 hj)]; decide
    unfold placeI; rw [this]
theorem place_in {room : Int} {ps : List PT} {g : Int} (hg : gI g = true) (h : placeI room ps g ≠ -1) : inR room g (placeI room ps g) = true ∧ atX room ps g (placeI room ps g) = none := by
  unfold placeI at h ⊢
  split at h
  · rename_i i hi
    rw [List.find?_range_eq_some] at hi
    have := List.mem_range.1 hi.2.1
    exact ⟨inR_iff.2 ⟨gI_iff.1 hg, by omega, by omega⟩, by simpa using hi.1⟩
  · exact absurd rfl h
end
end Go.Proofs.Ytcnaaobeooiojaa
