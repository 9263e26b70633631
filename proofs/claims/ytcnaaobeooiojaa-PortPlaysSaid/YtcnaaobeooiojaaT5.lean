import Derived.Test.YtcnaaobeooiojaaT4
namespace Go.Proofs.Ytcnaaobeooiojaa
set_option linter.unusedSimpArgs false
set_option linter.unusedVariables false
open Go.RX
theorem okT.nz {room : Int} {ps : List PT} (hT : okT room ps) {g i : Int} {k : Nat} (h : atX room ps g i = some k) (h2 : (ps.getD k zP).1 = 2) :
    (ps.getD k zP).2.1 ≠ g ∧ inR room (ps.getD k zP).2.1 (ps.getD k zP).2.2.1 = true ∧ atX room ps (ps.getD k zP).2.1 (ps.getD k zP).2.2.1 = some (ix (ps.getD k zP).2.1 (ps.getD k zP).2.2.1) := by
  obtain ⟨hin, hk, hz⟩ := atX_some h
  subst hk
  have e0 : ps.getD (ix g i) zP = gp ps g i := rfl
  rw [e0] at h2 hz ⊢
  rcases hT.inv g i hin with e | e | ⟨_, e2, e3, e4, e5⟩
  · exact absurd e hz
  · rw [e.1] at h2; exact absurd h2 (by decide)
  · refine ⟨e2, e3, ?_⟩
    rw [atX_eq e3, if_neg]
    intro e6
    rw [e6] at e4
    exact absurd e4 (by decide)
theorem sendS_some {room : Int} {ps : List PT} {g i : Int} {k : Nat} (hx : atX room ps g i = some k) : sendS room ps g i = if (ps.getD k zP).1 = 2 then (0, ps.set (ix (ps.getD k zP).2.1 (ps.getD k zP).2.2.1) ((gp ps (ps.getD k zP).2.1 (ps.getD k zP).2.2.1).1, (gp ps (ps.getD k zP).2.1 (ps.getD k zP).2.2.1).2.1, (gp ps (ps.getD k zP).2.1 (ps.getD k zP).2.2.1).2.2.1, true, (gp ps (ps.getD k zP).2.1 (ps.getD k zP).2.2.1).2.2.2.2)) else (6, ps) := by
  unfold sendS; rw [hx]
theorem maskS_some {room : Int} {ps : List PT} {g i : Int} {k : Nat} {b : Bool} (hx : atX room ps g i = some k) : maskS room ps g i b = (0, ps.set k ((ps.getD k zP).1, (ps.getD k zP).2.1, (ps.getD k zP).2.2.1, (ps.getD k zP).2.2.2.1, b, ())) := by
  unfold maskS; rw [hx]
theorem closeS_some {room : Int} {ps : List PT} {g i : Int} {k : Nat} (hx : atX room ps g i = some k) : closeS room ps g i = if (ps.getD k zP).1 = 2 then (0, (ps.set (ix (ps.getD k zP).2.1 (ps.getD k zP).2.2.1) (1, (gp ps (ps.getD k zP).2.1 (ps.getD k zP).2.2.1).2.1, 0, (gp ps (ps.getD k zP).2.1 (ps.getD k zP).2.2.1).2.2.2)).set k zP) else (0, ps.set k zP) := by
  unfold closeS; rw [hx]
theorem sendS_none {room : Int} {ps : List PT} {g i : Int} (hx : atX room ps g i = none) : sendS room ps g i = (4, ps) := by unfold sendS; rw [hx]
theorem maskS_none {room : Int} {ps : List PT} {g i : Int} {b : Bool} (hx : atX room ps g i = none) : maskS room ps g i b = (4, ps) := by unfold maskS; rw [hx]
theorem closeS_none {room : Int} {ps : List PT} {g i : Int} (hx : atX room ps g i = none) : closeS room ps g i = (4, ps) := by unfold closeS; rw [hx]
section
variable {D G : List Nat} {w0 w : World} {L : List (Nat × List Value)} {bp : Nat} {room : Int} {ps : List PT}
theorem psend_at (H : AtD D G w0 w L) (j : Nat) (hL : L[j]? = some (bp, pcs room ps)) (hT : okT room ps) (g i : Int) {K : Int → World → Prop}
    (k : ∀ w2, AtD D G w0 w2 (L.set j (bp, pcs room (sendS room ps g i).2)) → K (sendS room ps g i).1 w2) :
    CaP Try.prog 15 (.el (.one (.int .i64))) [.pointer (some ⟨bp, 0, none⟩), .int .i64 g, .int .i64 i] w K := by
  refine CaP.go H fun w1 H => rxFn_ok (C := R1) (ann := fun _ => []) (Eq.mpr (psend_vc _ g i w1 K) ?_)
  have hs := hT.tookS
  have bad : ∀ v : Int, sendS room ps g i = (v, ps) → EnP w1 fun w1 => K v w1 := fun v e => by
    rw [e] at k
    refine EnP.go H fun w3 H => k w3 ?_
    rw [set_self hL]; exact H
  refine ⟨_, at_q H j hL hs g i rfl, ?_⟩
  cases hx : atX room ps g i with
  | none => exact brP_pos rfl ⟨4, miss_q H j hL hs, bad 4 (by unfold sendS; rw [hx])⟩
  | some kk =>
    obtain ⟨hin, hkk, hnz⟩ := atX_some hx
    have hk5 : kk < 512 := by rw [hkk]; exact ix_lt hin hs.hi
    have hxk := hs.get hk5
    have hb := sendS_some hx
    refine brP_neg rfl ⟨rfl, rfl, LdP.atA j H hL (fld hxk (by decide) rfl) (brP_intro (fun c1 => ?_) (fun c1 => ?_))⟩
    · exact bad 6 (hb.trans (if_neg (by simpa using c1)))
    have h2 : (ps.getD kk zP).1 = 2 := by simpa using c1
    rw [hb, if_pos h2] at k
    obtain ⟨q1, q2, q3⟩ := hT.nz hx h2
    have hk2 := ix_lt q2 hs.hi
    have hxk2 := hs.get hk2
    refine ⟨rfl, rfl, LdP.atA j H hL (fld hxk (by decide) rfl) ⟨rfl, rfl, LdP.atA j H hL (fld hxk (by decide) rfl) ⟨_, at_q H j hL hs _ _ q3, rfl, rfl, ?_⟩⟩⟩
    exact StP.fld j H (_, _, _, true, _, ()) hL hxk2 (by decide) rfl rfl fun w3 H => EnP.go H fun w4 H => k w4 H
theorem pmask_at (H : AtD D G w0 w L) (j : Nat) (hL : L[j]? = some (bp, pcs room ps)) (hs : okS room ps) (g i : Int) (b : Bool) {K : Int → World → Prop}
    (k : ∀ w2, AtD D G w0 w2 (L.set j (bp, pcs room (maskS room ps g i b).2)) → K (maskS room ps g i b).1 w2) :
    CaP Try.prog 17 (.el (.one (.int .i64))) [.pointer (some ⟨bp, 0, none⟩), .int .i64 g, .int .i64 i, .bool b] w K := by
  refine CaP.go H fun w1 H => rxFn_ok (C := R1) (ann := fun _ => []) (Eq.mpr (pmask_vc _ g i b w1 K) ?_)
  refine ⟨_, at_q H j hL hs g i rfl, ?_⟩
  cases hx : atX room ps g i with
  | none =>
    have e : maskS room ps g i b = (4, ps) := by unfold maskS; rw [hx]
    rw [e] at k
    refine brP_pos rfl ⟨4, miss_q H j hL hs, EnP.go H fun w3 H => k w3 ?_⟩
    rw [set_self hL]; exact H
  | some kk =>
    obtain ⟨hin, hkk, hnz⟩ := atX_some hx
    have hk5 : kk < 512 := by rw [hkk]; exact ix_lt hin hs.hi
    have hxk := hs.get hk5
    have e := maskS_some (b := b) hx
    rw [e] at k
    refine brP_neg rfl ⟨rfl, rfl, ?_⟩
    exact StP.fld j H (_, _, _, _, b, ()) hL hxk (by decide) rfl rfl fun w3 H => EnP.go H fun w4 H => k w4 H
theorem rd_port (H : AtD D G w0 w L) (j : Nat) (hL : L[j]? = some (bp, pcs room ps)) {k : Nat} {x : PT} (hx : ps[k]? = some x) : rdAt w (some ⟨bp, k * 5, none⟩) eQ x := by
  have := rd_flat (e := eQ) (rest := [.int .i64 room]) (H.get hL) hx
  rw [addP_B, Nat.zero_add] at this
  exact this
theorem StP.port (j : Nat) (H : AtD D G w0 w L) (hL : L[j]? = some (bp, pcs room ps)) {k : Nat} (hk : k < ps.length) (y : PT) {vs : List Value} (hv : vs = scsEmb sQ y) {K : World → Prop}
    (hK : ∀ w1, AtD D G w0 w1 (L.set j (bp, pcs room (ps.set k y))) → K w1) : StP w (some ⟨bp, k * 5, none⟩) vs K := by
  have := StP.flat j H (e := eQ) (rest := [.int .i64 room]) (i := k) y hL hv rfl hk hK
  rw [addP_B, Nat.zero_add] at this
  exact this
def ofS (room : Int) (ps : List PT) (g i : Int) : PT × Bool := match atX room ps g i with
  | none => (zP, false)
  | some k => (ps.getD k zP, true)
theorem pof_ok (hb : Blk w bp (pcs room ps)) (hs : okS room ps) (g i : Int) : CallsR Try.prog 30 (.tup [eQ, .one .bool]) [.pointer (some ⟨bp, 0, none⟩), .int .i64 g, .int .i64 i] w (fun v w' => v = ((ofS room ps g i).1, (ofS room ps g i).2, ()) ∧ Ext w w') := by
  refine rxFnR_ok (C := R1) (ann := fun _ => []) (Eq.mpr (pofp_vc _ g i w _) ?_)
  have H := At.start [] w
  refine AlP.go H fun b w2 H => ⟨_, QCalls.of (s := .el (.one .ptr)) fun w' h' => at_ok ((H.old hb (by simp)).ext h') hs g i, ?_⟩
  unfold atA
  cases hx : atX room ps g i with
  | none =>
    have e : ofS room ps g i = (zP, false) := by unfold ofS; rw [hx]
    rw [e]
    exact brP_pos rfl (StP.all 0 H rfl rfl rfl fun w3 H => EnP.go H fun w4 H => LdP.at 0 H rfl rfl ⟨rfl, H.all⟩)
  | some kk =>
    obtain ⟨hin, hkk, hnz⟩ := atX_some hx
    have hk5 : kk < 512 := by rw [hkk]; exact ix_lt hin hs.hi
    have hxk := hs.get hk5
    have e : ofS room ps g i = (ps.getD kk zP, true) := by unfold ofS; rw [hx]
    rw [e]
    refine brP_neg rfl ⟨rfl, LdP.of (ps.getD kk zP) ?_ (StP.all 0 H rfl rfl rfl fun w3 H => EnP.go H fun w4 H => LdP.at 0 H rfl rfl ⟨rfl, H.all⟩)⟩
    have := rd_flat (e := eQ) (rest := [.int .i64 room]) (H.old hb (by simp)) hxk
    rw [addP_B, Nat.zero_add] at this
    exact this
theorem pof_q (H : AtD D G w0 w L) (j : Nat) (hL : L[j]? = some (bp, pcs room ps)) (hs : okS room ps) (g i : Int) : QCalls Try.prog 30 [.pointer (some ⟨bp, 0, none⟩), .int .i64 g, .int .i64 i] w ((Sh.tup [eQ, .one .bool]).emb ((ofS room ps g i).1, (ofS room ps g i).2, ())) :=
  QCalls.of (s := .tup [eQ, .one .bool]) fun w' h' => pof_ok ((H.get hL).ext h') hs g i
theorem pclose_at (H : AtD D G w0 w L) (j : Nat) (hL : L[j]? = some (bp, pcs room ps)) (hT : okT room ps) (g i : Int) {K : Int → World → Prop}
    (k : ∀ w2, AtD D G w0 w2 (L.set j (bp, pcs room (closeS room ps g i).2)) → K (closeS room ps g i).1 w2) :
    CaP Try.prog 21 (.el (.one (.int .i64))) [.pointer (some ⟨bp, 0, none⟩), .int .i64 g, .int .i64 i] w K := by
  refine CaP.go H fun w1 H => rxFn_ok (C := R1) (ann := fun _ => []) (Eq.mpr (pclose_vc _ g i w1 K) ?_)
  have hs := hT.tookS
  refine ⟨_, at_q H j hL hs g i rfl, ?_⟩
  cases hx : atX room ps g i with
  | none =>
    have e : closeS room ps g i = (4, ps) := by unfold closeS; rw [hx]
    rw [e] at k
    refine brP_pos rfl ⟨4, miss_q H j hL hs, EnP.go H fun w3 H => k w3 ?_⟩
    rw [set_self hL]; exact H
  | some kk =>
    obtain ⟨hin, hkk, hnz⟩ := atX_some hx
    have hk5 : kk < 512 := by rw [hkk]; exact ix_lt hin hs.hi
    have hxk := hs.get hk5
    have hb := closeS_some hx
    refine brP_neg rfl ⟨rfl, rfl, LdP.atA j H hL (fld hxk (by decide) rfl) (brP_intro (fun c1 => ?_) (fun c1 => ?_))⟩
    · have h2 : (ps.getD kk zP).1 = 2 := by simpa using c1
      rw [hb, if_pos h2] at k
      obtain ⟨q1, q2, q3⟩ := hT.nz hx h2
      have hk2 := ix_lt q2 hs.hi
      have hxk2 := hs.get hk2
      refine ⟨rfl, rfl, LdP.atA j H hL (fld hxk (by decide) rfl) ⟨rfl, rfl, LdP.atA j H hL (fld hxk (by decide) rfl) ⟨_, at_q H j hL hs _ _ q3, rfl, rfl, ?_⟩⟩⟩
      obtain ⟨y, hy⟩ : ∃ y, y = gp ps (ps.getD kk zP).2.1 (ps.getD kk zP).2.2.1 := ⟨_, rfl⟩
      rw [← hy] at k
      have hxk2 : ps[ix (ps.getD kk zP).2.1 (ps.getD kk zP).2.2.1]? = some y := by rw [hy]; exact hs.get hk2
      refine StP.fld j H (1, y.2.1, y.2.2.1, y.2.2.2.1, y.2.2.2.2.1, ()) hL hxk2 (by decide) rfl rfl fun w3 H => ⟨rfl, rfl, ?_⟩
      refine StP.fld j H (x := (1, y.2.1, y.2.2.1, y.2.2.2.1, y.2.2.2.2.1, ())) (1, y.2.1, 0, y.2.2.2.1, y.2.2.2.2.1, ()) (set_get hL) (by rw [List.getElem?_set_self (by rw [hs.len]; exact hk2)]) (by decide) rfl rfl fun w4 H => ⟨rfl, ?_⟩
      rw [List.set_set, List.set_set] at H
      refine StP.port j H (set_get hL) (by rw [List.length_set, hs.len]; exact hk5) zP rfl fun w5 H => EnP.go H fun w6 H => k w6 ?_
      rw [List.set_set] at H
      exact H
    · rw [hb, if_neg (by simpa using c1)] at k
      exact ⟨rfl, StP.port j H hL (by rw [hs.len]; exact hk5) zP rfl fun w5 H => EnP.go H fun w6 H => k w6 H⟩
end
end Go.Proofs.Ytcnaaobeooiojaa
