import Derived.Test.YtffnfcokgemgjaaV4
namespace Go.Proofs.Ytffnfcokgemgjaa
set_option linter.unusedSimpArgs false
set_option linter.unusedVariables false
set_option maxRecDepth 100000
open Go.RX
def tookS (fr pg wt lv : Int) (fd : FT) (ep : Bool) (er : Int) (el : Bool) (ef : Int) : Int × Int × FT :=
  if (!ep) = true then (fr, -1, endF lv 4)
  else if (tableE ep er el ef && decide (lv > 0)) = true then (ef, subI .i64 lv 1, fd)
  else if (el && lv == 1) = true then (fr, -1, inF lv wt (addI .i64 ef (remI pg 16)) ep er el ef)
  else if (!el && decide (er > 0) && lv == 0) = true then (fr, -1, inF lv wt ef ep er el ef)
  else (fr, -1, endF lv 11)
section
variable {D G : List Nat} {w0 w : World} {L : List (Nat × List Value)} {bk bp be : Nat} {fr pg wt lv : Int} {fd : FT} {s : Option Addr × Nat × Nat} {ep : Bool} {er : Int} {el : Bool} {ef : Int}
theorem took1_at (H : AtD D G w0 w L) (jw j : Nat) (hw : L[jw]? = some (bp, [.pointer (some ⟨bk, 0, none⟩)])) (hk : L[j]? = some (bk, wcs fr pg wt lv fd s)) {K : Unit → World → Prop}
    (k : ∀ w2, AtD D G w0 w2 (L.set j (bk, wcs fr pg wt (-1) (endF lv 4) s)) → K () w2) : CallsR Try.prog 47 (.tup []) [.pointer (some ⟨bp, 0, none⟩)] w K := by
  refine rxFn_ok (C := M1) (ann := fun _ => []) (Eq.mpr (took1_vc _ w K) ?_)
  exact LdP.at jw H hw rfl (wend_at H j hk 0 0 0 4 fun w3 H => EnP.go H fun w4 H => k w4 H)
theorem took5_at (H : AtD D G w0 w L) (jw j : Nat) (hw : L[jw]? = some (bp, [.pointer (some ⟨bk, 0, none⟩)])) (hk : L[j]? = some (bk, wcs fr pg wt lv fd s)) {K : Unit → World → Prop}
    (k : ∀ w2, AtD D G w0 w2 (L.set j (bk, wcs fr pg wt (-1) (endF lv 11) s)) → K () w2) : CallsR Try.prog 54 (.tup []) [.pointer (some ⟨bp, 0, none⟩)] w K := by
  refine rxFn_ok (C := M1) (ann := fun _ => []) (Eq.mpr (took5_vc _ w K) ?_)
  exact LdP.at jw H hw rfl (wend_at H j hk 0 0 0 11 fun w3 H => EnP.go H fun w4 H => k w4 H)
theorem took2_at (H : AtD D G w0 w L) (je jw j : Nat) (he : L[je]? = some (be, [.bool ep, .int .i64 er, .bool el, .int .i64 ef])) (hw : L[jw]? = some (bp, [.pointer (some ⟨bk, 0, none⟩)])) (hk : L[j]? = some (bk, wcs fr pg wt lv fd s)) (hj : j ≠ jw) {K : Unit → World → Prop}
    (k : ∀ w2, AtD D G w0 w2 (L.set j (bk, wcs ef pg wt (subI .i64 lv 1) fd s)) → K () w2) : CallsR Try.prog 49 (.tup []) [.pointer (some ⟨be, 0, none⟩), .pointer (some ⟨bp, 0, none⟩)] w K := by
  refine rxFn_ok (C := M1) (ann := fun _ => []) (Eq.mpr (took2_vc _ _ w K) ?_)
  have hjl : j < L.length := (List.getElem?_eq_some_iff.1 hk).1
  refine LdP.at jw H hw rfl (LdP.at jw H hw rfl ⟨rfl, LdP.atA je H he rfl (LdP.at jw H hw rfl ⟨rfl, rfl, LdP.atA j H hk rfl ⟨rfl, rfl, ?_⟩⟩)⟩)
  refine StP.oneA j H hk rfl rfl fun w2 H => ⟨trivial, ?_, rfl, rfl, ?_⟩
  · exact elAt_rd (H.get (i := jw) (by rw [List.getElem?_set_ne hj]; exact hw)) rfl
  · refine StP.oneA j H (List.getElem?_set_self hjl) rfl rfl fun w3 H => EnP.go H fun w4 H => k w4 ?_
    rw [List.set_set] at H
    exact H
theorem took3_at (H : AtD D G w0 w L) (je jw j : Nat) (he : L[je]? = some (be, [.bool ep, .int .i64 er, .bool el, .int .i64 ef])) (hw : L[jw]? = some (bp, [.pointer (some ⟨bk, 0, none⟩)])) (hk : L[j]? = some (bk, wcs fr pg wt lv fd s)) {K : Unit → World → Prop}
    (k : ∀ w2, AtD D G w0 w2 (L.set j (bk, wcs fr pg wt (-1) (inF lv wt (addI .i64 ef (remI pg 16)) ep er el ef) s)) → K () w2) : CallsR Try.prog 50 (.tup []) [.pointer (some ⟨bp, 0, none⟩), .pointer (some ⟨be, 0, none⟩)] w K := by
  refine rxFn_ok (C := M1) (ann := fun _ => []) (Eq.mpr (took3_vc _ _ w K) ?_)
  have e16 : spanI 1 = 16 := rfl
  rw [e16]
  refine LdP.at jw H hw rfl ⟨rfl, LdP.atA je H he rfl (LdP.at jw H hw rfl ⟨rfl, rfl, LdP.atA j H hk rfl ⟨trivial, by decide, LdP.at je H he rfl ?_⟩⟩)⟩
  exact win_at H j hk _ ep er el ef fun w3 H => EnP.go H fun w4 H => k w4 H
theorem took4_at (H : AtD D G w0 w L) (je jw j : Nat) (he : L[je]? = some (be, [.bool ep, .int .i64 er, .bool el, .int .i64 ef])) (hw : L[jw]? = some (bp, [.pointer (some ⟨bk, 0, none⟩)])) (hk : L[j]? = some (bk, wcs fr pg wt lv fd s)) {K : Unit → World → Prop}
    (k : ∀ w2, AtD D G w0 w2 (L.set j (bk, wcs fr pg wt (-1) (inF lv wt ef ep er el ef) s)) → K () w2) : CallsR Try.prog 53 (.tup []) [.pointer (some ⟨bp, 0, none⟩), .pointer (some ⟨be, 0, none⟩)] w K := by
  refine rxFn_ok (C := M1) (ann := fun _ => []) (Eq.mpr (took4_vc _ _ w K) ?_)
  refine LdP.at jw H hw rfl ⟨rfl, LdP.atA je H he rfl (LdP.at je H he rfl ?_)⟩
  exact win_at H j hk _ ep er el ef fun w3 H => EnP.go H fun w4 H => k w4 H
theorem took_at (H : AtD D G w0 w L) (j : Nat) (hk : L[j]? = some (bk, wcs fr pg wt lv fd s)) (ep : Bool) (er : Int) (el : Bool) (ef : Int) {K : Unit → World → Prop}
    (k : ∀ w2, AtD D G w0 w2 (L.set j (bk, wcs (tookS fr pg wt lv fd ep er el ef).1 pg wt (tookS fr pg wt lv fd ep er el ef).2.1 (tookS fr pg wt lv fd ep er el ef).2.2 s)) → K () w2) :
    CaP Try.prog 31 (.tup []) [.pointer (some ⟨bk, 0, none⟩), .agg ⟨[.bool ep, .int .i64 er, .bool el, .int .i64 ef]⟩] w K := by
  refine CaP.go H fun w1 H => rxFn_ok (C := M3) (ann := took_vc_ann) (Eq.mpr (took_vc _ ep er el ef w1 K) ?_)
  refine AlP.go H fun bp w2 H => AlP.go H fun be w3 H => ⟨rfl, LdP.atA 0 H rfl rfl (LdP.at 0 H rfl rfl ⟨trivial, LdP.at 1 H rfl rfl ⟨fun _ => rfl, fun _ => rfl, LdP.atA (j + 2) H hk rfl ⟨rfl, LdP.atA 0 H rfl rfl (LdP.at 1 H rfl rfl ⟨fun _ => rfl, fun _ => rfl, LdP.atA (j + 2) H hk rfl ⟨rfl, LdP.atA 0 H rfl rfl ⟨fun _ => rfl, LdP.atA 0 H rfl rfl (LdP.at 1 H rfl rfl ⟨fun _ => rfl, fun _ => rfl, LdP.atA (j + 2) H hk rfl ?_⟩)⟩⟩⟩)⟩⟩⟩)⟩
  refine AlP.go H fun bs w4 H => ?_
  dsimp only at H ⊢
  generalize hc0 : (!ep) = c0 at H
  generalize hc1 : (tableE ep er el ef && decide (lv > 0)) = c1 at H
  generalize hc2 : (el && lv == 1) = c2 at H
  generalize hc3 : (!el && decide (er > 0) && lv == 0) = c3 at H
  have hT : tookS fr pg wt lv fd ep er el ef = if c0 = true then (fr, -1, endF lv 4) else if c1 = true then (ef, subI .i64 lv 1, fd) else if c2 = true then (fr, -1, inF lv wt (addI .i64 ef (remI pg 16)) ep er el ef) else if c3 = true then (fr, -1, inF lv wt ef ep er el ef) else (fr, -1, endF lv 11) := by
    unfold tookS
    rw [hc0, hc1, hc2, hc3]
  clear hc0 hc1 hc2 hc3
  refine ⟨fun n s' w' => ∃ i : Nat, s'.1 = i ∧ n + i = 5 ∧ ((0 < i → c0 = false) ∧ (1 < i → c1 = false) ∧ (2 < i → c2 = false) ∧ (3 < i → c3 = false) ∧ i < 5) ∧ AtD D G w0 w' ((bs, [.bool c0, .func (.func 47) ⟨[]⟩ ⟨[.pointer (some ⟨bp, 0, none⟩)]⟩, .bool c1, .func (.func 49) ⟨[]⟩ ⟨[.pointer (some ⟨be, 0, none⟩), .pointer (some ⟨bp, 0, none⟩)]⟩,
      .bool c2, .func (.func 50) ⟨[]⟩ ⟨[.pointer (some ⟨bp, 0, none⟩), .pointer (some ⟨be, 0, none⟩)]⟩, .bool c3, .func (.func 53) ⟨[]⟩ ⟨[.pointer (some ⟨bp, 0, none⟩), .pointer (some ⟨be, 0, none⟩)]⟩, .bool true, .func (.func 54) ⟨[]⟩ ⟨[.pointer (some ⟨bp, 0, none⟩)]⟩]) :: (be, [.bool ep, .int .i64 er, .bool el, .int .i64 ef]) :: (bp, [.pointer (some ⟨bk, 0, none⟩)]) :: L),
    ⟨5, fun w5 h5 => ⟨0, rfl, rfl, ⟨fun h => absurd h (by decide), fun h => absurd h (by decide), fun h => absurd h (by decide), fun h => absurd h (by decide), by decide⟩, H.ext h5⟩⟩, ?_⟩
  clear H
  rintro n ⟨i', u⟩ w5 ⟨i, hi, hn, ⟨z0, z1, z2, z3, hi5⟩, H⟩
  simp only at hi
  subst hi
  dsimp only
  have hk5 : ∀ {x y z q : Nat × List Value}, (x :: y :: z :: q :: L)[j + 4]? = some (bk, wcs fr pg wt lv fd s) := hk
  have fin : ∀ {x y z q : Nat × List Value} {w9 : World} {fr' lv' : Int} {fd' : FT}, tookS fr pg wt lv fd ep er el ef = (fr', lv', fd') → AtD D G w0 w9 (x :: y :: z :: q :: L.set j (bk, wcs fr' pg wt lv' fd' s)) → K () w9 := fun e H => by
    rw [e] at k
    exact k _ ((((H.sub (List.sublist_cons_self _ _)).sub (List.sublist_cons_self _ _)).sub (List.sublist_cons_self _ _)).sub (List.sublist_cons_self _ _))
  have e5 : addI .i64 (i : Int) 1 = ((i + 1 : Nat) : Int) := by rw [addI_i64 (by omega) (by omega)]; rfl
  rcases (by omega : i = 0 ∨ i = 1 ∨ i = 2 ∨ i = 3 ∨ i = 4) with rfl | rfl | rfl | rfl | rfl
  · refine brP_pos rfl ⟨⟨rfl, by decide, by decide⟩, LdP.atA 0 H rfl rfl (AlP.go H fun b4 w6 H => StP.all 0 H rfl rfl rfl fun w7 H => ⟨rfl, LdP.atA 0 H rfl rfl (brP_intro (fun c => ⟨rfl, LdP.atA 0 H rfl rfl ?_⟩) (fun c w8 h8 => ⟨n - 1, by omega, 1, e5, by omega, ⟨fun _ => c, fun h => absurd h (by decide), fun h => absurd h (by decide), fun h => absurd h (by decide), by decide⟩, (H.sub (List.sublist_cons_self _ _)).ext h8⟩))⟩)⟩
    unfold CaV
    refine fun w9 h9 => ⟨_, ⟨[]⟩, ⟨[.pointer (some ⟨bp, 0, none⟩)]⟩, rfl, by kernel_rfl, took1_at (H.ext h9) 3 (j + 4) rfl hk5 fun w10 H => EnP.go H fun w11 H => fin ?_ H⟩
    rw [hT, if_pos c]
  · refine brP_pos rfl ⟨⟨rfl, by decide, by decide⟩, LdP.atA 0 H rfl rfl (AlP.go H fun b4 w6 H => StP.all 0 H rfl rfl rfl fun w7 H => ⟨rfl, LdP.atA 0 H rfl rfl (brP_intro (fun c => ⟨rfl, LdP.atA 0 H rfl rfl ?_⟩) (fun c w8 h8 => ⟨n - 1, by omega, 2, e5, by omega, ⟨fun _ => z0 (by decide), fun _ => c, fun h => absurd h (by decide), fun h => absurd h (by decide), by decide⟩, (H.sub (List.sublist_cons_self _ _)).ext h8⟩))⟩)⟩
    unfold CaV
    refine fun w9 h9 => ⟨_, ⟨[]⟩, ⟨[.pointer (some ⟨be, 0, none⟩), .pointer (some ⟨bp, 0, none⟩)]⟩, rfl, by kernel_rfl, took2_at (H.ext h9) 2 3 (j + 4) rfl rfl hk5 (by omega) fun w10 H => EnP.go H fun w11 H => fin ?_ H⟩
    rw [hT, if_neg (by rw [z0 (by decide)]; decide), if_pos c]
  · refine brP_pos rfl ⟨⟨rfl, by decide, by decide⟩, LdP.atA 0 H rfl rfl (AlP.go H fun b4 w6 H => StP.all 0 H rfl rfl rfl fun w7 H => ⟨rfl, LdP.atA 0 H rfl rfl (brP_intro (fun c => ⟨rfl, LdP.atA 0 H rfl rfl ?_⟩) (fun c w8 h8 => ⟨n - 1, by omega, 3, e5, by omega, ⟨fun _ => z0 (by decide), fun _ => z1 (by decide), fun _ => c, fun h => absurd h (by decide), by decide⟩, (H.sub (List.sublist_cons_self _ _)).ext h8⟩))⟩)⟩
    unfold CaV
    refine fun w9 h9 => ⟨_, ⟨[]⟩, ⟨[.pointer (some ⟨bp, 0, none⟩), .pointer (some ⟨be, 0, none⟩)]⟩, rfl, by kernel_rfl, took3_at (H.ext h9) 2 3 (j + 4) rfl rfl hk5 fun w10 H => EnP.go H fun w11 H => fin ?_ H⟩
    rw [hT, if_neg (by rw [z0 (by decide)]; decide), if_neg (by rw [z1 (by decide)]; decide), if_pos c]
  · refine brP_pos rfl ⟨⟨rfl, by decide, by decide⟩, LdP.atA 0 H rfl rfl (AlP.go H fun b4 w6 H => StP.all 0 H rfl rfl rfl fun w7 H => ⟨rfl, LdP.atA 0 H rfl rfl (brP_intro (fun c => ⟨rfl, LdP.atA 0 H rfl rfl ?_⟩) (fun c w8 h8 => ⟨n - 1, by omega, 4, e5, by omega, ⟨fun _ => z0 (by decide), fun _ => z1 (by decide), fun _ => z2 (by decide), fun _ => c, by decide⟩, (H.sub (List.sublist_cons_self _ _)).ext h8⟩))⟩)⟩
    unfold CaV
    refine fun w9 h9 => ⟨_, ⟨[]⟩, ⟨[.pointer (some ⟨bp, 0, none⟩), .pointer (some ⟨be, 0, none⟩)]⟩, rfl, by kernel_rfl, took4_at (H.ext h9) 2 3 (j + 4) rfl rfl hk5 fun w10 H => EnP.go H fun w11 H => fin ?_ H⟩
    rw [hT, if_neg (by rw [z0 (by decide)]; decide), if_neg (by rw [z1 (by decide)]; decide), if_neg (by rw [z2 (by decide)]; decide), if_pos c]
  · refine brP_pos rfl ⟨⟨rfl, by decide, by decide⟩, LdP.atA 0 H rfl rfl (AlP.go H fun b4 w6 H => StP.all 0 H rfl rfl rfl fun w7 H => ⟨rfl, LdP.atA 0 H rfl rfl (brP_pos rfl ⟨rfl, LdP.atA 0 H rfl rfl ?_⟩)⟩)⟩
    unfold CaV
    refine fun w9 h9 => ⟨_, ⟨[]⟩, ⟨[.pointer (some ⟨bp, 0, none⟩)]⟩, rfl, by kernel_rfl, took5_at (H.ext h9) 3 (j + 4) rfl hk5 fun w10 H => EnP.go H fun w11 H => fin ?_ H⟩
    rw [hT, if_neg (by rw [z0 (by decide)]; decide), if_neg (by rw [z1 (by decide)]; decide), if_neg (by rw [z2 (by decide)]; decide), if_neg (by rw [z3 (by decide)]; decide)]
end
end Go.Proofs.Ytffnfcokgemgjaa
