import Derived.Test.YtcnaaobeooiojaaU2
namespace Go.Proofs.Ytcnaaobeooiojaa
set_option linter.unusedSimpArgs false
set_option linter.unusedVariables false
open Go.RX
section
variable {D G : List Nat} {w0 w w' : World} {A : List (Nat × List Value)} {bp bl c : Nat} {rb : Nat → Nat} {rest : List Value} {room : Int} {ps : List PT}
theorem place_neg {g : Int} (hg : gI g = true) : decide (placeI room ps g < 0) = decide (placeI room ps g = -1) := by
  rw [decide_eq_decide]
  constructor
  · intro h
    apply Classical.byContradiction
    intro hn
    have := inR_iff.1 (place_in hg hn).1
    omega
  · intro h; omega
theorem uof_q (hU : UB w bp bl c rb rest room ps) (hT : okT room ps) (g i : Int) : QCalls Try.prog 31 [.pointer (some ⟨bp, 0, none⟩), .int .i64 g, .int .i64 i] w ((Sh.tup [eQ, .one .bool]).emb ((ofS room ps g i).1, (ofS room ps g i).2, ())) :=
  QCalls.of (s := .tup [eQ, .one .bool]) fun w' h' => uof_ok (hU.ext h') hT g i
theorem uopen_at (H : AtD D G w0 w (A ++ uL bp bl c rb rest room ps)) (hT : okT room ps) (g r : Int) {K : Int × Int × Unit → World → Prop}
    (k : ∀ w2, AtD D G w0 w2 (A ++ uL bp bl c rb rest room (openS room ps g r).2) → K ((openS room ps g r).1.1, (openS room ps g r).1.2, ()) w2) :
    CaP Try.prog 12 (.tup [.one (.int .i64), .one (.int .i64)]) [.pointer (some ⟨bp, 0, none⟩), .int .i64 g, .int .i64 r] w K := by
  refine CaP.go H fun w1 H => rxFn_ok (C := R2) (ann := fun _ => []) (Eq.mpr (uopen_vc _ g r w1 K) ?_)
  have hs := hT.tookS
  have hlo := hs.lo
  refine ⟨trivial, fun _ => trivial, brP_intro (fun c0 => ?_) (fun c0 => ?_)⟩
  · have e : openS room ps g r = ((0, 1), ps) := by
      have e1 : twoE g r = 1 := if_pos c0
      unfold openS; rw [e1, if_neg (by decide)]
    rw [e] at k
    exact EnP.go H fun w2 H => k w2 H
  have ht : twoE g r = 0 := if_neg (by rw [c0]; decide)
  obtain ⟨hg, hr, hgr⟩ := two_iff.1 ht
  have hg' := gI_iff.1 hg
  have es : subI .i64 g 1 = g - 1 := subI_i64 (by omega) (by omega)
  have hm : (g - 1).toNat < 16 := by omega
  rw [es]
  refine ⟨_, QCalls.of (s := .el (.one (.int .i64))) fun w' h' => ufree_ok ((ubOf H).ext h') hT g hg, ?_⟩
  rw [place_neg hg]
  refine brP_intro (fun c1 => ?_) (fun c1 => ?_)
  · have e := openS_full ht (of_decide_eq_true c1)
    rw [e] at k
    exact EnP.go H fun w2 H => k w2 H
  · have hne := of_decide_eq_false c1
    have hin := inR_iff.1 (place_in hg hne).1
    have e := openS_free (b := r) ht rfl hne
    rw [e] at k
    refine ⟨rfl, rfl, (ubOf H).hd ⟨⟨rfl, by omega, by show g - 1 < ((16 : Nat) : Int); omega⟩, (ubOf H).row hm ⟨⟨rfl, by omega, by show placeI room ps g < ((room.toNat : Nat) : Int); omega⟩, ?_⟩⟩⟩
    exact u_st H hs hm (by omega) (1, r, 0, false, false, ()) rfl fun w2 H => EnP.go H fun w3 H => k w3 H
theorem ubind_at (H : AtD D G w0 w (A ++ uL bp bl c rb rest room ps)) (hT : okT room ps) (g r i : Int) {K : Int × Int × Unit → World → Prop}
    (k : ∀ w2, AtD D G w0 w2 (A ++ uL bp bl c rb rest room (bindS room ps g r i).2) → K ((bindS room ps g r i).1.1, (bindS room ps g r i).1.2, ()) w2) :
    CaP Try.prog 14 (.tup [.one (.int .i64), .one (.int .i64)]) [.pointer (some ⟨bp, 0, none⟩), .int .i64 g, .int .i64 r, .int .i64 i] w K := by
  refine CaP.go H fun w1 H => rxFn_ok (C := R2) (ann := fun _ => []) (Eq.mpr (ubind_vc _ g r i w1 K) ?_)
  have hs := hT.tookS
  have hlo := hs.lo
  refine ⟨trivial, fun _ => trivial, brP_intro (fun c0 => ?_) (fun c0 => ?_)⟩
  · have e : bindS room ps g r i = ((0, 1), ps) := by
      have e1 : twoE g r = 1 := if_pos c0
      unfold bindS; rw [e1, if_neg (by decide)]
    rw [e] at k
    exact EnP.go H fun w2 H => k w2 H
  have ht : twoE g r = 0 := if_neg (by rw [c0]; decide)
  obtain ⟨hg, hr, hgr⟩ := two_iff.1 ht
  have hg' := gI_iff.1 hg
  have hr' := gI_iff.1 hr
  have es : subI .i64 g 1 = g - 1 := subI_i64 (by omega) (by omega)
  have es2 : subI .i64 r 1 = r - 1 := subI_i64 (by omega) (by omega)
  have hm : (g - 1).toNat < 16 := by omega
  have hm2 : (r - 1).toNat < 16 := by omega
  rw [es, es2]
  have hb : bindS room ps g r i = _ := if_pos ht
  refine ⟨_, uof_q (ubOf H) hT r i, AlP.go H fun b w2 H => StP.all 0 H rfl rfl rfl fun w3 H => ?_⟩
  cases hx : atX room ps r i with
  | none =>
    rw [hx] at hb
    have e : bindS room ps g r i = ((0, 4), ps) := hb
    rw [e] at k
    have eo : ofS room ps r i = (zP, false) := by unfold ofS; rw [hx]
    rw [eo] at H ⊢
    exact brP_pos rfl (EnP.go H fun w4 H => k w4 (H.sub (List.sublist_cons_self _ _)))
  | some kk =>
    rw [hx] at hb
    obtain ⟨hin, hkk, hnz⟩ := atX_some hx
    have hin' := inR_iff.1 hin
    have eo : ofS room ps r i = (ps.getD kk zP, true) := by unfold ofS; rw [hx]
    rw [eo] at H ⊢
    refine brP_neg rfl ⟨rfl, LdP.atA 0 H rfl rfl (brP_intro (fun c1 => ?_) (fun c1 => ?_))⟩
    · have e : bindS room ps g r i = ((0, 6), ps) := hb.trans (if_pos (by simpa using c1))
      rw [e] at k
      exact EnP.go H fun w4 H => k w4 (H.sub (List.sublist_cons_self _ _))
    refine ⟨rfl, LdP.atA 0 H rfl rfl (brP_intro (fun c2 => ?_) (fun c2 => ?_))⟩
    · have e : bindS room ps g r i = ((0, 7), ps) := hb.trans ((if_neg (by simpa using c1)).trans (if_pos (by simpa using c2)))
      rw [e] at k
      exact EnP.go H fun w4 H => k w4 (H.sub (List.sublist_cons_self _ _))
    have hb2 := hb.trans ((if_neg (by simpa using c1)).trans (if_neg (by simpa using c2)))
    have H := H.sub (List.sublist_cons_self _ _)
    refine ⟨_, QCalls.of (s := .el (.one (.int .i64))) fun w' h' => ufree_ok ((ubOf (A := A) H).ext h') hT g hg, ?_⟩
    rw [place_neg hg]
    refine brP_intro (fun c3 => ?_) (fun c3 => ?_)
    · have e : bindS room ps g r i = ((0, 3), ps) := hb2.trans (if_pos (of_decide_eq_true c3))
      rw [e] at k
      exact EnP.go H fun w2 H => k w2 H
    have hne := of_decide_eq_false c3
    have hpin := (place_in hg hne).1
    have hpi := inR_iff.1 hpin
    have e := hb2.trans (if_neg hne)
    rw [e] at k
    have H : AtD D G w0 w3 (A ++ uL bp bl c rb rest room ps) := H
    refine ⟨rfl, rfl, (ubOf H).hd ⟨⟨rfl, by omega, by show g - 1 < ((16 : Nat) : Int); omega⟩, (ubOf H).row hm ⟨⟨rfl, by omega, by show placeI room ps g < ((room.toNat : Nat) : Int); omega⟩, ?_⟩⟩⟩
    refine u_st H hs hm (by omega) (2, r, i, false, false, ()) rfl fun w4 H => ?_
    have hdiff : ix g (placeI room ps g) ≠ kk := fun e5 => by
      rw [hkk] at e5
      exact hgr (ix_inj hpin hin hs.hi e5).1
    have ek : (ps.set (ix g (placeI room ps g)) (2, r, i, false, false, ())).getD kk zP = ps.getD kk zP := getD_set_other hdiff _
    have hs2 := hs.set (ix g (placeI room ps g)) (2, r, i, false, false, ())
    have H9 : AtD D G w0 w4 (A ++ uL bp bl c rb rest room (ps.set (ix g (placeI room ps g)) (2, r, i, false, false, ()))) := H
    generalize hps2 : ps.set (ix g (placeI room ps g)) (2, r, i, false, false, ()) = ps2 at H9 ek hs2 k
    subst hkk
    generalize hxv : ps.getD (ix r i) zP = xv at k ek
    refine ⟨rfl, rfl, (ubOf H9).hd ⟨⟨rfl, by omega, by show r - 1 < ((16 : Nat) : Int); omega⟩, (ubOf H9).row hm2 ⟨⟨rfl, by omega, by show i < ((room.toNat : Nat) : Int); omega⟩, rfl, ?_⟩⟩⟩
    have ek' : ps2.getD ((r - 1).toNat * 32 + i.toNat) zP = xv := ek
    refine u_stf H9 hs2 hm2 (i := i.toNat) (by omega) (2, xv.2.1, xv.2.2.1, xv.2.2.2.1, xv.2.2.2.2.1, ()) (by decide) rfl (by rw [ek']; rfl) fun w5 H => ?_
    refine ⟨rfl, rfl, (ubOf H).hd ⟨⟨rfl, by omega, by show r - 1 < ((16 : Nat) : Int); omega⟩, (ubOf H).row hm2 ⟨⟨rfl, by omega, by show i < ((room.toNat : Nat) : Int); omega⟩, rfl, ?_⟩⟩⟩
    refine u_stf H (hs2.set _ _) hm2 (i := i.toNat) (by omega) (2, xv.2.1, placeI room ps g, xv.2.2.2.1, xv.2.2.2.2.1, ()) (by decide) rfl (by rw [getD_set_same (by have := hs2.len; have := hs2.hi; omega)]; rfl) fun w6 H => EnP.go H fun w7 H => k w7 ?_
    rw [List.set_set] at H
    exact H
theorem usend_at (H : AtD D G w0 w (A ++ uL bp bl c rb rest room ps)) (hT : okT room ps) (g i : Int) {K : Int → World → Prop}
    (k : ∀ w2, AtD D G w0 w2 (A ++ uL bp bl c rb rest room (sendS room ps g i).2) → K (sendS room ps g i).1 w2) :
    CaP Try.prog 16 (.el (.one (.int .i64))) [.pointer (some ⟨bp, 0, none⟩), .int .i64 g, .int .i64 i] w K := by
  refine CaP.go H fun w1 H => rxFn_ok (C := R2) (ann := fun _ => []) (Eq.mpr (usend_vc _ g i w1 K) ?_)
  have hs := hT.tookS
  have hlo := hs.lo
  refine ⟨_, uof_q (ubOf H) hT g i, AlP.go H fun b w2 H => StP.all 0 H rfl rfl rfl fun w3 H => ?_⟩
  cases hx : atX room ps g i with
  | none =>
    rw [sendS_none hx] at k
    have eo : ofS room ps g i = (zP, false) := by unfold ofS; rw [hx]
    rw [eo] at H ⊢
    exact brP_pos rfl (EnP.go H fun w4 H => k w4 (H.sub (List.sublist_cons_self _ _)))
  | some kk =>
    have eo : ofS room ps g i = (ps.getD kk zP, true) := by unfold ofS; rw [hx]
    rw [sendS_some hx] at k
    rw [eo] at H ⊢
    refine brP_neg rfl ⟨rfl, LdP.atA 0 H rfl rfl (brP_intro (fun c1 => ?_) (fun c1 => ?_))⟩
    · rw [if_neg (by simpa using c1)] at k
      exact EnP.go H fun w4 H => k w4 (H.sub (List.sublist_cons_self _ _))
    have h2 : (ps.getD kk zP).1 = 2 := by simpa using c1
    rw [if_pos h2] at k
    obtain ⟨q1, q2, q3⟩ := hT.nz hx h2
    generalize ps.getD kk zP = x at H k q1 q2 q3
    obtain ⟨x1, x2, x3, x4, x5, xu⟩ := x
    simp only at k q1 q2 q3
    have q2' := inR_iff.1 q2
    have es : subI .i64 x2 1 = x2 - 1 := subI_i64 (by omega) (by omega)
    have hm : (x2 - 1).toNat < 16 := by omega
    have H : AtD D G w0 w3 (((b, [.int .i64 x1, .int .i64 x2, .int .i64 x3, .bool x4, .bool x5]) :: A) ++ uL bp bl c rb rest room ps) := H
    refine ⟨rfl, rfl, (ubOf H).hd ⟨rfl, LdP.atA 0 H rfl rfl ?_⟩⟩
    rw [es]
    refine ⟨⟨rfl, by omega, by show x2 - 1 < ((16 : Nat) : Int); omega⟩, (ubOf H).row hm ⟨rfl, LdP.atA 0 H rfl rfl ⟨⟨rfl, by omega, by show x3 < ((room.toNat : Nat) : Int); omega⟩, rfl, ?_⟩⟩⟩
    refine u_stf H hs hm (i := x3.toNat) (by omega) (_, _, _, true, _, ()) (by decide) rfl rfl fun w4 H => EnP.go H fun w5 H => k w5 (H.sub (List.sublist_cons_self _ _))
theorem umask_at (H : AtD D G w0 w (A ++ uL bp bl c rb rest room ps)) (hT : okT room ps) (g i : Int) (bb : Bool) {K : Int → World → Prop}
    (k : ∀ w2, AtD D G w0 w2 (A ++ uL bp bl c rb rest room (maskS room ps g i bb).2) → K (maskS room ps g i bb).1 w2) :
    CaP Try.prog 18 (.el (.one (.int .i64))) [.pointer (some ⟨bp, 0, none⟩), .int .i64 g, .int .i64 i, .bool bb] w K := by
  refine CaP.go H fun w1 H => rxFn_ok (C := R2) (ann := fun _ => []) (Eq.mpr (umask_vc _ g i bb w1 K) ?_)
  have hs := hT.tookS
  have hlo := hs.lo
  refine ⟨_, uof_q (ubOf H) hT g i, AlP.go H fun b w2 H => StP.all 0 H rfl rfl rfl fun w3 H => ?_⟩
  have H := H.sub (List.sublist_cons_self _ _)
  have H : AtD D G w0 w3 (A ++ uL bp bl c rb rest room ps) := H
  cases hx : atX room ps g i with
  | none =>
    rw [maskS_none hx] at k
    have eo : ofS room ps g i = (zP, false) := by unfold ofS; rw [hx]
    rw [eo]
    exact brP_pos rfl (EnP.go H fun w4 H => k w4 H)
  | some kk =>
    have eo : ofS room ps g i = (ps.getD kk zP, true) := by unfold ofS; rw [hx]
    rw [maskS_some hx] at k
    rw [eo]
    obtain ⟨hin, hkk, hnz⟩ := atX_some hx
    have hin' := inR_iff.1 hin
    subst hkk
    have es : subI .i64 g 1 = g - 1 := subI_i64 (by omega) (by omega)
    have hm : (g - 1).toNat < 16 := by omega
    rw [es]
    refine brP_neg rfl ⟨rfl, rfl, (ubOf H).hd ⟨⟨rfl, by omega, by show g - 1 < ((16 : Nat) : Int); omega⟩, (ubOf H).row hm ⟨⟨rfl, by omega, by show i < ((room.toNat : Nat) : Int); omega⟩, rfl, ?_⟩⟩⟩
    exact u_stf H hs hm (i := i.toNat) (by omega) (_, _, _, _, bb, ()) (by decide) rfl rfl fun w4 H => EnP.go H fun w5 H => k w5 H
theorem uclose_at (H : AtD D G w0 w (A ++ uL bp bl c rb rest room ps)) (hT : okT room ps) (g i : Int) {K : Int → World → Prop}
    (k : ∀ w2, AtD D G w0 w2 (A ++ uL bp bl c rb rest room (closeS room ps g i).2) → K (closeS room ps g i).1 w2) :
    CaP Try.prog 22 (.el (.one (.int .i64))) [.pointer (some ⟨bp, 0, none⟩), .int .i64 g, .int .i64 i] w K := by
  refine CaP.go H fun w1 H => rxFn_ok (C := R2) (ann := fun _ => []) (Eq.mpr (uclose_vc _ g i w1 K) ?_)
  have hs := hT.tookS
  have hlo := hs.lo
  refine ⟨_, uof_q (ubOf H) hT g i, AlP.go H fun b w2 H => StP.all 0 H rfl rfl rfl fun w3 H => ?_⟩
  cases hx : atX room ps g i with
  | none =>
    rw [closeS_none hx] at k
    have eo : ofS room ps g i = (zP, false) := by unfold ofS; rw [hx]
    rw [eo] at H ⊢
    exact brP_pos rfl (EnP.go H fun w4 H => k w4 (H.sub (List.sublist_cons_self _ _)))
  | some kk =>
    have eo : ofS room ps g i = (ps.getD kk zP, true) := by unfold ofS; rw [hx]
    rw [closeS_some hx] at k
    rw [eo] at H ⊢
    obtain ⟨hin, hkk, hnz⟩ := atX_some hx
    have hin' := inR_iff.1 hin
    have eg : subI .i64 g 1 = g - 1 := subI_i64 (by omega) (by omega)
    have hmg : (g - 1).toNat < 16 := by omega
    rw [eg]
    refine brP_neg rfl ⟨rfl, LdP.atA 0 H rfl rfl (brP_intro (fun c1 => ?_) (fun c1 => ?_))⟩
    · have h2 : (ps.getD kk zP).1 = 2 := by simpa using c1
      rw [if_pos h2] at k
      obtain ⟨q1, q2, q3⟩ := hT.nz hx h2
      generalize ps.getD kk zP = x at H k q1 q2 q3
      obtain ⟨x1, x2, x3, x4, x5, xu⟩ := x
      simp only at k q1 q2 q3
      have q2' := inR_iff.1 q2
      have es : subI .i64 x2 1 = x2 - 1 := subI_i64 (by omega) (by omega)
      have hm : (x2 - 1).toNat < 16 := by omega
      generalize hy : gp ps x2 x3 = y at k
      have hy' : ps.getD ((x2 - 1).toNat * 32 + x3.toNat) zP = y := hy
      have H : AtD D G w0 w3 (((b, [.int .i64 x1, .int .i64 x2, .int .i64 x3, .bool x4, .bool x5]) :: A) ++ uL bp bl c rb rest room ps) := H
      refine ⟨rfl, rfl, (ubOf H).hd ⟨rfl, LdP.atA 0 H rfl rfl ?_⟩⟩
      rw [es]
      refine ⟨⟨rfl, by omega, by show x2 - 1 < ((16 : Nat) : Int); omega⟩, (ubOf H).row hm ⟨rfl, LdP.atA 0 H rfl rfl ⟨⟨rfl, by omega, by show x3 < ((room.toNat : Nat) : Int); omega⟩, rfl, ?_⟩⟩⟩
      refine u_stf H hs hm (i := x3.toNat) (by omega) (1, y.2.1, y.2.2.1, y.2.2.2.1, y.2.2.2.2.1, ()) (by decide) rfl (by rw [hy']; rfl) fun w4 H => ?_
      refine ⟨rfl, rfl, (ubOf H).hd ⟨rfl, LdP.atA 0 H rfl rfl ?_⟩⟩
      rw [es]
      refine ⟨⟨rfl, by omega, by show x2 - 1 < ((16 : Nat) : Int); omega⟩, (ubOf H).row hm ⟨rfl, LdP.atA 0 H rfl rfl ⟨⟨rfl, by omega, by show x3 < ((room.toNat : Nat) : Int); omega⟩, rfl, ?_⟩⟩⟩
      refine u_stf H (hs.set _ _) hm (i := x3.toNat) (by omega) (1, y.2.1, 0, y.2.2.2.1, y.2.2.2.2.1, ()) (by decide) rfl (by rw [getD_set_same (by have := hs.len; have := hs.hi; omega)]; rfl) fun w5 H => ?_
      rw [List.set_set] at H
      refine ⟨rfl, rfl, (ubOf H).hd ⟨⟨rfl, by omega, by show g - 1 < ((16 : Nat) : Int); omega⟩, (ubOf H).row hmg ⟨⟨rfl, by omega, by show i < ((room.toNat : Nat) : Int); omega⟩, ?_⟩⟩⟩
      subst hkk
      exact u_st H (hs.set _ _) hmg (i := i.toNat) (by omega) zP rfl fun w6 H => EnP.go H fun w7 H => k w7 (H.sub (List.sublist_cons_self _ _))
    · rw [if_neg (by simpa using c1)] at k
      have H8 := H.sub (List.sublist_cons_self _ _)
      have H9 : AtD D G w0 w3 (A ++ uL bp bl c rb rest room ps) := H8
      subst hkk
      refine ⟨rfl, rfl, (ubOf H9).hd ⟨⟨rfl, by omega, by show g - 1 < ((16 : Nat) : Int); omega⟩, (ubOf H9).row hmg ⟨⟨rfl, by omega, by show i < ((room.toNat : Nat) : Int); omega⟩, ?_⟩⟩⟩
      exact u_st H9 hs hmg (i := i.toNat) (by omega) zP rfl fun w6 H => EnP.go H fun w7 H => k w7 H
end
end Go.Proofs.Ytcnaaobeooiojaa
