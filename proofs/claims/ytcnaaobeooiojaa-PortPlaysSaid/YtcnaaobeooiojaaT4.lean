import Derived.Test.YtcnaaobeooiojaaT3
namespace Go.Proofs.Ytcnaaobeooiojaa
set_option linter.unusedSimpArgs false
set_option linter.unusedVariables false
open Go.RX
/-! ### What the calls do, as plain functions -/
def gp (ps : List PT) (g i : Int) : PT := ps.getD (ix g i) zP
def layS (room : Int) (ps : List PT) (g : Int) (x : PT) : (Int × Int) × List PT := if placeI room ps g = -1 then ((0, 3), ps) else ((placeI room ps g, 0), ps.set (ix g (placeI room ps g)) x)
def openS (room : Int) (ps : List PT) (g r : Int) : (Int × Int) × List PT := if twoE g r = 0 then layS room ps g (1, r, 0, false, false, ()) else ((0, twoE g r), ps)
def bindS (room : Int) (ps : List PT) (g r i : Int) : (Int × Int) × List PT :=
  if twoE g r = 0 then
    match atX room ps r i with
    | none => ((0, 4), ps)
    | some k =>
      if (ps.getD k zP).1 = 2 then ((0, 6), ps) else if (ps.getD k zP).2.1 ≠ g then ((0, 7), ps) else
        if placeI room ps g = -1 then ((0, 3), ps) else
          ((placeI room ps g, 0), (ps.set (ix g (placeI room ps g)) (2, r, i, false, false, ())).set k (2, (ps.getD k zP).2.1, placeI room ps g, (ps.getD k zP).2.2.2))
  else ((0, twoE g r), ps)
def sendS (room : Int) (ps : List PT) (g i : Int) : Int × List PT :=
  match atX room ps g i with
  | none => (4, ps)
  | some k => if (ps.getD k zP).1 = 2 then
      let y := gp ps (ps.getD k zP).2.1 (ps.getD k zP).2.2.1
      (0, ps.set (ix (ps.getD k zP).2.1 (ps.getD k zP).2.2.1) (y.1, y.2.1, y.2.2.1, true, y.2.2.2.2))
    else (6, ps)
def maskS (room : Int) (ps : List PT) (g i : Int) (b : Bool) : Int × List PT :=
  match atX room ps g i with
  | none => (4, ps)
  | some k => (0, ps.set k ((ps.getD k zP).1, (ps.getD k zP).2.1, (ps.getD k zP).2.2.1, (ps.getD k zP).2.2.2.1, b, ()))
def pendB (ps : List PT) (g : Int) (i : Nat) : Bool := gI g && ((gp ps g i).2.2.2.1 && !(gp ps g i).2.2.2.2.1)
def pendL (room : Int) (ps : List PT) (g : Int) : List Int := ((List.range room.toNat).filter (pendB ps g)).map fun i => ((i : Nat) : Int)
def takeS (room : Int) (ps : List PT) (g : Int) : (Int × Bool) × List PT :=
  match pendL room ps g with
  | [] => ((0, false), ps)
  | i :: _ => ((i, true), ps.set (ix g i) ((gp ps g i).1, (gp ps g i).2.1, (gp ps g i).2.2.1, false, (gp ps g i).2.2.2.2))
def closeS (room : Int) (ps : List PT) (g i : Int) : Int × List PT :=
  match atX room ps g i with
  | none => (4, ps)
  | some k => if (ps.getD k zP).1 = 2 then
      let y := gp ps (ps.getD k zP).2.1 (ps.getD k zP).2.2.1
      (0, (ps.set (ix (ps.getD k zP).2.1 (ps.getD k zP).2.2.1) (1, y.2.1, 0, y.2.2.2)).set k zP)
    else (0, ps.set k zP)
def drop1 (room : Int) (ps : List PT) (g : Int) : Nat → Int × List PT
  | 0 => (0, ps)
  | i + 1 => ((drop1 room ps g i).1 + (if (closeS room (drop1 room ps g i).2 g i).1 = 0 then 1 else 0), (closeS room (drop1 room ps g i).2 g i).2)
/-- A port that has to do with g goes. -/
def dropT (room g : Int) (s : Int × List PT) (k i : Int) : Int × List PT :=
  match atX room s.2 k i with
  | none => s
  | some x => if (s.2.getD x zP).2.1 = g then (s.1 + 1, s.2.set x zP) else s
def dropR (room g : Int) (s : Int × List PT) (k : Int) : Nat → Int × List PT
  | 0 => s
  | i + 1 => dropT room g (dropR room g s k i) k i
def dropA (room g : Int) (s : Int × List PT) : Nat → Int × List PT
  | 0 => s
  | k + 1 => dropR room g (dropA room g s k) ((k : Int) + 1) room.toNat
def dropS (room : Int) (ps : List PT) (g : Int) : Int × List PT := if gI g then dropA room g (drop1 room ps g room.toNat) 16 else (0, ps)
/-- What always holds of the ports. -/
structure okT (room : Int) (ps : List PT) : Prop extends okS room ps where
  inv : ∀ g i, inR room g i = true → gp ps g i = zP ∨ ((gp ps g i).1 = 1 ∧ (1 ≤ (gp ps g i).2.1 ∧ (gp ps g i).2.1 ≤ 16) ∧ (gp ps g i).2.1 ≠ g ∧ (gp ps g i).2.2.1 = 0) ∨
    ((gp ps g i).1 = 2 ∧ (gp ps g i).2.1 ≠ g ∧ inR room (gp ps g i).2.1 (gp ps g i).2.2.1 = true ∧ (gp ps (gp ps g i).2.1 (gp ps g i).2.2.1).1 = 2 ∧ (gp ps (gp ps g i).2.1 (gp ps g i).2.2.1).2.1 = g ∧ (gp ps (gp ps g i).2.1 (gp ps g i).2.2.1).2.2.1 = i)
theorem getD_set_same {ps : List PT} {k : Nat} (h : k < ps.length) (x : PT) : (ps.set k x).getD k zP = x := by simp [List.getD_eq_getElem?_getD, h]
theorem getD_set_other {ps : List PT} {k j : Nat} (h : k ≠ j) (x : PT) : (ps.set k x).getD j zP = ps.getD j zP := by simp [List.getD_eq_getElem?_getD, List.getElem?_set_ne h]
theorem gp_set {room : Int} {ps : List PT} (hs : okS room ps) {g i g' i' : Int} (h : inR room g i = true) (h' : inR room g' i' = true) (x : PT) : gp (ps.set (ix g i) x) g' i' = if g' = g ∧ i' = i then x else gp ps g' i' := by
  unfold gp
  by_cases e : g' = g ∧ i' = i
  · rw [if_pos e, e.1, e.2]; exact getD_set_same (by rw [hs.len]; exact ix_lt h hs.hi) x
  · rw [if_neg e]; exact getD_set_other (fun e2 => e (by have := ix_inj h h' hs.hi e2; exact ⟨this.1.symm, this.2.symm⟩)) x
theorem atX_eq {room : Int} {ps : List PT} {g i : Int} (h : inR room g i = true) : atX room ps g i = if gp ps g i = zP then none else some (ix g i) := by
  unfold atX gp
  by_cases e : ps.getD (ix g i) zP = zP
  · rw [if_neg (fun c => c.2 e), if_pos e]
  · rw [if_pos ⟨h, e⟩, if_neg e]
theorem atX_out {room : Int} {ps : List PT} {g i : Int} (h : ¬ inR room g i = true) : atX room ps g i = none := by
  unfold atX; rw [if_neg (fun c => h c.1)]
theorem two_iff {g r : Int} : twoE g r = 0 ↔ gI g = true ∧ gI r = true ∧ g ≠ r := by
  unfold twoE
  cases gI g <;> cases gI r <;> by_cases e : g = r <;> simp [e]
section
variable {D G : List Nat} {w0 w : World} {L : List (Nat × List Value)} {bp : Nat} {room : Int} {ps : List PT}
theorem at_q (H : AtD D G w0 w L) (j : Nat) (hL : L[j]? = some (bp, pcs room ps)) (hs : okS room ps) (g i : Int) {r : Option Nat} (hx : atX room ps g i = r) : QCalls Try.prog 38 [.pointer (some ⟨bp, 0, none⟩), .int .i64 g, .int .i64 i] w (.pointer (r.map fun k => ⟨bp, k * 5, none⟩)) := by
  subst hx
  exact QCalls.of (s := .el (.one .ptr)) fun w' h' => at_ok ((H.get hL).ext h') hs g i
theorem two_q (H : AtD D G w0 w L) (j : Nat) (hL : L[j]? = some (bp, pcs room ps)) (hs : okS room ps) (g i : Int) : QCalls Try.prog 34 [.pointer (some ⟨bp, 0, none⟩), .int .i64 g, .int .i64 i] w (.int .i64 (twoE g i)) :=
  QCalls.of (s := .el (.one (.int .i64))) fun w' h' => two_ok ((H.get hL).ext h') hs g i
theorem miss_q (H : AtD D G w0 w L) (j : Nat) (hL : L[j]? = some (bp, pcs room ps)) (hs : okS room ps) : QCalls Try.prog 39 [.pointer (some ⟨bp, 0, none⟩)] w (.int .i64 4) :=
  QCalls.of (s := .el (.one (.int .i64))) fun w' h' => miss_ok ((H.get hL).ext h') hs
theorem there_q (H : AtD D G w0 w L) (j : Nat) (hL : L[j]? = some (bp, pcs room ps)) (hs : okS room ps) : QCalls Try.prog 40 [.pointer (some ⟨bp, 0, none⟩)] w (.bool true) :=
  QCalls.of (s := .el (.one .bool)) fun w' h' => there_ok ((H.get hL).ext h') hs
theorem set_get {j : Nat} {x y : Nat × List Value} (h : L[j]? = some x) : (L.set j y)[j]? = some y := by rw [List.getElem?_set_self (List.getElem?_eq_some_iff.1 h).1]
theorem lay_at (H : AtD D G w0 w L) (j : Nat) (hL : L[j]? = some (bp, pcs room ps)) (hs : okS room ps) (g : Int) (hg : gI g = true) (x : PT) {K : Int × Int × Unit → World → Prop}
    (k : ∀ w2, AtD D G w0 w2 (L.set j (bp, pcs room (layS room ps g x).2)) → K ((layS room ps g x).1.1, (layS room ps g x).1.2, ()) w2) :
    CaP Try.prog 35 (.tup [.one (.int .i64), .one (.int .i64)]) [.pointer (some ⟨bp, 0, none⟩), .int .i64 g, .agg ⟨scsEmb sQ x⟩] w K := by
  obtain ⟨x1, x2, x3, x4, x5, xu⟩ := x
  refine CaP.go H fun w1 H => rxFn_ok (C := R1) (ann := fun _ => []) (Eq.mpr (lay_vc _ g x1 x2 x3 x4 x5 w1 K) ?_)
  have hhi := hs.hi
  refine AlP.go H fun b w2 H => ?_
  have hL' : ((b, scsEmb sQ (x1, x2, x3, x4, x5, ())) :: L)[j + 1]? = some (bp, pcs room ps) := hL
  refine ⟨placeI room ps g, QCalls.of (s := .el (.one (.int .i64))) fun w' h' => place_ok ((H.get hL').ext h') hs g, brP_intro (fun c => ?_) (fun c => ?_)⟩
  · have e : placeI room ps g = -1 := by simpa using c
    have e2 : layS room ps g (x1, x2, x3, x4, x5, xu) = ((0, 3), ps) := if_pos e
    rw [e2] at k
    refine EnP.go H fun w3 H => k w3 ?_
    have e3 : L.set j (bp, pcs room ps) = L := List.ext_getElem? fun m => by
      by_cases hm : j = m
      · subst hm; rw [set_get hL, hL]
      · rw [List.getElem?_set_ne hm]
    show AtD D G w0 w3 (L.set j (bp, pcs room ps))
    rw [e3]; exact H.sub (List.sublist_cons_self _ _)
  · have e : placeI room ps g ≠ -1 := by simpa using c
    have e2 : layS room ps g (x1, x2, x3, x4, x5, xu) = ((placeI room ps g, 0), ps.set (ix g (placeI room ps g)) (x1, x2, x3, x4, x5, xu)) := if_neg e
    rw [e2] at k
    have hin := (place_in hg e).1
    have hin' := inR_iff.1 hin
    have hk := ix_lt hin hhi
    have es : subI .i64 g 1 = g - 1 := subI_i64 (by omega) (by omega)
    rw [es]
    have ea : addP (addP (addP (some ⟨bp, 0, none⟩) 0) ((g - 1).toNat * 160)) ((placeI room ps g).toNat * 5) = addP (some ⟨bp, 0, none⟩) (ix g (placeI room ps g) * stride eQ) := by
      rw [addP_B, addP_B, addP_B, addP_B]
      unfold ix
      congr 2
      show _ = 0 + _ * 5
      omega
    have ea2 : addP (addP (some ⟨bp, 0, none⟩) 0) ((g - 1).toNat * 160) = some ⟨bp, 0 + 0 + (g - 1).toNat * 160, none⟩ := by rw [addP_B, addP_B]
    rw [ea, ea2]
    refine LdP.at 0 H rfl (x := (x1, x2, x3, x4, x5, ())) rfl ⟨rfl, rfl, ⟨rfl, by omega, by omega⟩, ⟨rfl, by omega, by omega⟩, ?_⟩
    refine StP.flat (j + 1) H (x1, x2, x3, x4, x5, ()) hL' rfl rfl (by rw [hs.len]; exact hk) fun w3 H => EnP.go H fun w4 H => k w4 ?_
    exact H.sub (List.sublist_cons_self _ _)
theorem set_self {j : Nat} {x : Nat × List Value} (h : L[j]? = some x) : L.set j x = L := List.ext_getElem? fun m => by
  by_cases hm : j = m
  · subst hm; rw [set_get h, h]
  · rw [List.getElem?_set_ne hm]
theorem popen_at (H : AtD D G w0 w L) (j : Nat) (hL : L[j]? = some (bp, pcs room ps)) (hs : okS room ps) (g r : Int) {K : Int × Int × Unit → World → Prop}
    (k : ∀ w2, AtD D G w0 w2 (L.set j (bp, pcs room (openS room ps g r).2)) → K ((openS room ps g r).1.1, (openS room ps g r).1.2, ()) w2) :
    CaP Try.prog 11 (.tup [.one (.int .i64), .one (.int .i64)]) [.pointer (some ⟨bp, 0, none⟩), .int .i64 g, .int .i64 r] w K := by
  refine CaP.go H fun w1 H => rxFn_ok (C := R1) (ann := fun _ => []) (Eq.mpr (popen_vc _ g r w1 K) ?_)
  refine ⟨_, two_q H j hL hs g r, brP_intro (fun c => ?_) (fun c => ?_)⟩
  · have e : ¬ twoE g r = 0 := by simpa using c
    have e2 : openS room ps g r = ((0, twoE g r), ps) := if_neg e
    rw [e2] at k
    refine EnP.go H fun w3 H => k w3 ?_
    rw [set_self hL]; exact H
  · have e : twoE g r = 0 := by simpa using c
    have e2 : openS room ps g r = layS room ps g (1, r, 0, false, false, ()) := if_pos e
    rw [e2] at k
    exact lay_at H j hL hs g (two_iff.1 e).1 (1, r, 0, false, false, ()) fun w2 H => EnP.go H fun w3 H => k w3 H
theorem pbind_at (H : AtD D G w0 w L) (j : Nat) (hL : L[j]? = some (bp, pcs room ps)) (hs : okS room ps) (g r i : Int) {K : Int × Int × Unit → World → Prop}
    (k : ∀ w2, AtD D G w0 w2 (L.set j (bp, pcs room (bindS room ps g r i).2)) → K ((bindS room ps g r i).1.1, (bindS room ps g r i).1.2, ()) w2) :
    CaP Try.prog 13 (.tup [.one (.int .i64), .one (.int .i64)]) [.pointer (some ⟨bp, 0, none⟩), .int .i64 g, .int .i64 r, .int .i64 i] w K := by
  refine CaP.go H fun w1 H => rxFn_ok (C := R1) (ann := fun _ => []) (Eq.mpr (pbind_vc _ g r i w1 K) ?_)
  have bad : ∀ v : Int × Int, bindS room ps g r i = (v, ps) → EnP w1 fun w1 => K (v.1, v.2, ()) w1 := fun v e => by
    rw [e] at k
    refine EnP.go H fun w3 H => k w3 ?_
    rw [set_self hL]; exact H
  refine ⟨_, two_q H j hL hs g r, brP_intro (fun c => ?_) (fun c => ?_)⟩
  · have e : ¬ twoE g r = 0 := by simpa using c
    exact bad (0, twoE g r) (if_neg e)
  have e : twoE g r = 0 := by simpa using c
  obtain ⟨hg, hr, hgr⟩ := two_iff.1 e
  have hb : bindS room ps g r i = _ := if_pos e
  refine ⟨_, at_q H j hL hs r i rfl, ?_⟩
  cases hx : atX room ps r i with
  | none =>
    rw [hx] at hb
    exact brP_pos rfl (bad (0, 4) hb)
  | some kk =>
    rw [hx] at hb
    obtain ⟨hin, hkk, hnz⟩ := atX_some hx
    have hk5 : kk < 512 := by rw [hkk]; exact ix_lt hin hs.hi
    have hxk := hs.get hk5
    refine brP_neg rfl ⟨rfl, rfl, LdP.atA j H hL (fld hxk (by decide) rfl) (brP_intro (fun c1 => ?_) (fun c1 => ?_))⟩
    · exact bad (0, 6) (hb.trans (if_pos (by simpa using c1)))
    refine ⟨rfl, rfl, LdP.atA j H hL (fld hxk (by decide) rfl) (brP_intro (fun c2 => ?_) (fun c2 => ?_))⟩
    · exact bad (0, 7) (hb.trans ((if_neg (by simpa using c1)).trans (if_pos (by simpa using c2))))
    have hb2 := hb.trans ((if_neg (by simpa using c1)).trans (if_neg (by simpa using c2)))
    refine lay_at H j hL hs g hg (2, r, i, false, false, ()) fun w2 H => ?_
    by_cases hp : placeI room ps g = -1
    · have e3 : layS room ps g (2, r, i, false, false, ()) = ((0, 3), ps) := if_pos hp
      rw [e3] at H ⊢
      have e4 : bindS room ps g r i = ((0, 3), ps) := hb2.trans (if_pos hp)
      rw [e4] at k
      exact brP_neg rfl (EnP.go H fun w3 H => k w3 H)
    · have e3 : layS room ps g (2, r, i, false, false, ()) = ((placeI room ps g, 0), ps.set (ix g (placeI room ps g)) (2, r, i, false, false, ())) := if_neg hp
      rw [e3] at H ⊢
      have hne : ix g (placeI room ps g) ≠ kk := fun e5 => by
        rw [hkk] at e5
        exact hgr (ix_inj (place_in hg hp).1 hin hs.hi e5).1
      have e4 : bindS room ps g r i = ((placeI room ps g, 0), _) := hb2.trans (if_neg hp)
      rw [e4] at k
      have hxk2 := (hs.set (ix g (placeI room ps g)) (2, r, i, false, false, ())).get hk5
      rw [getD_set_other hne] at hxk2
      refine brP_pos rfl ⟨rfl, rfl, ?_⟩
      refine StP.fld j H (2, (ps.getD kk zP).2.1, (ps.getD kk zP).2.2.1, (ps.getD kk zP).2.2.2.1, (ps.getD kk zP).2.2.2.2.1, ()) (set_get hL) hxk2 (by decide) rfl rfl fun w3 H => ⟨rfl, rfl, ?_⟩
      rw [List.set_set] at H
      refine StP.fld j H (x := (2, (ps.getD kk zP).2.1, (ps.getD kk zP).2.2.1, (ps.getD kk zP).2.2.2.1, (ps.getD kk zP).2.2.2.2.1, ())) (2, (ps.getD kk zP).2.1, placeI room ps g, (ps.getD kk zP).2.2.2.1, (ps.getD kk zP).2.2.2.2.1, ()) (set_get hL) (by rw [List.getElem?_set_self (by rw [List.length_set, hs.len]; exact hk5)]) (by decide) rfl rfl fun w4 H => EnP.go H fun w5 H => k w5 ?_
      rw [List.set_set, List.set_set] at H
      exact H
end
end Go.Proofs.Ytcnaaobeooiojaa
