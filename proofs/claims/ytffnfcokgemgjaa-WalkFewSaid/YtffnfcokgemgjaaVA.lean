import Derived.Test.YtffnfcokgemgjaaV9
namespace Go.Proofs.Ytffnfcokgemgjaa
set_option linter.unusedSimpArgs false
set_option linter.unusedVariables false
set_option maxRecDepth 100000
open Go.RX
section
variable {w : World}
theorem nres_q : QCalls Try.prog 13 [.pointer none] w ((Sh.tup [.agg sF, .one .bool]).emb ((0, 0, 0, 0, ()), false, ())) := QCalls.of (s := .tup [.agg sF, .one .bool]) fun w' h' => by
  refine rxFnR_ok (C := M1) (ann := fun _ => []) (Eq.mpr (wres_vc _ w' _) ?_)
  have H := At.start [] w'
  refine AlP.go H fun b w2 H => ⟨fun h => by simp at h, fun h => by simp at h, false, fun h => by simp at h, fun h => by simp at h, fun h => by simp at h, (0 : Int), fun h => by simp at h, brP_pos rfl ?_⟩
  exact StP.all 0 H rfl rfl rfl fun w3 H => EnP.go H fun w4 H => LdP.at 0 H rfl rfl ⟨rfl, H.all⟩
theorem nstep_ok (m : Option Addr) (w : World) : CallsR Try.prog 14 (.el (.one .bool)) [.pointer none, .pointer m] w (fun x w' => x = false ∧ Ext w w') := by
  refine rxFn_ok (C := M1) (ann := fun _ => []) (Eq.mpr (wstep_vc _ m w _) ?_)
  exact ⟨fun h => by simp at h, fun h => by simp at h, false, fun h => by simp at h, brP_pos rfl fun w1 h1 => ⟨rfl, h1⟩⟩
theorem nnext_q : QCalls Try.prog 15 [.pointer none] w ((Sh.el (.agg sA)).emb (0, 0, 0, 0, ())) := QCalls.of (s := .el (.agg sA)) fun w' h' => by
  refine rxFnR_ok (C := M1) (ann := fun _ => []) (Eq.mpr (wnext_vc _ w' _) ?_)
  have H := At.start [] w'
  refine AlP.go H fun b w2 H => ⟨fun h => by simp at h, fun h => by simp at h, false, fun h => by simp at h, fun h => by simp at h, fun h => by simp at h, (0 : Int), fun h => by simp at h, brP_pos rfl ?_⟩
  exact StP.all 0 H rfl rfl rfl fun w3 H => EnP.go H fun w4 H => LdP.at 0 H rfl rfl ⟨rfl, H.all⟩
theorem npath_ok (w : World) : CallsR Try.prog 16 (.el (.one .slice)) [.pointer none] w (fun x w' => x = (none, 0, 0) ∧ Ext w w') := by
  refine rxFn_ok (C := M1) (ann := fun _ => []) (Eq.mpr (wpath_vc _ w _) ?_)
  exact brP_pos rfl fun w1 h1 => ⟨rfl, h1⟩
end
theorem sl_nil {w : World} : Sl w (.agg sW) none [] := fun i x hx => by simp at hx
theorem u8_rng {x : Int} (h : (Lit.int .u8 x).wf = true) : 0 ≤ x ∧ x < 256 := by
  simp [Lit.wf, IntKind.min, IntKind.max, IntKind.bits, IntKind.signed] at h
  omega
theorem u16_rng {x : Int} (h : (Lit.int .u16 x).wf = true) : 0 ≤ x ∧ x < 65536 := by
  simp [Lit.wf, IntKind.min, IntKind.max, IntKind.bits, IntKind.signed] at h
  omega
theorem u64_rng {x : Int} (h : (Lit.int .u64 x).wf = true) : 0 ≤ x ∧ x < 18446744073709551616 := by
  simp [Lit.wf, IntKind.min, IntKind.max, IntKind.bits, IntKind.signed] at h
  omega
theorem conv_id {x : Int} (h : -9223372036854775808 ≤ x) (h' : x < 9223372036854775808) : convI .i64 x = x := wrap_i64_id h h'
theorem rem_id {x d : Int} (h : 0 ≤ x) : remI x d = x % d := by unfold remI; exact Int.tmod_eq_emod_of_nonneg h
theorem fin_known {w w1 : World} (h : Ext w w1) : CaP Try.prog 12 (.el (.one .bool)) [] w1 fun (x : Bool) (w2 : World) => EnP w2 fun (w1 : World) => x = true ∧ Ext w w1 :=
  CaP.val ((At.start [] w).ext h) (s := .el (.one .bool)) true (fun w3 _ => wknown_ok w3) fun w4 H => EnP.go H fun w5 H => ⟨rfl, H.all⟩
theorem lwnil_row (x : Int) (hx : (Lit.int .u8 x).wf = true) (w : World) : CallsR Try.prog 5 (.el (.one .bool)) [.int .u8 x] w (fun b w' => b = true ∧ Ext w w') := by
  refine rxFn_ok (C := M1) (ann := fun _ => []) (Eq.mpr (lwnil_vc x w _) ?_)
  have hx := u8_rng hx
  have H := At.start [] w
  refine both_at H none 0 0 [] rfl (fun w' A H => sl_nil) fun bm bw bm2 bw2 ca la ca2 la2 w2 hca H => ?_
  refine ⟨_, nres_q, AlP.go H fun b w3 H => StP.all 0 H rfl rfl rfl fun w4 H => brP_pos rfl ?_⟩
  refine CaP.val H (s := .el (.one .bool)) false (fun w1 H => nstep_ok _ w1) fun w5 H => ⟨_, fun _ => nnext_q, LdP.at 0 H rfl rfl (brP_pos rfl ?_)⟩
  refine CaP.val H (s := .el (.one .slice)) (none, 0, 0) (fun w1 H => npath_ok w1) fun w6 H => brP_pos ?_ (fin_known H.all)
  rw [conv_id (by omega) (by omega)]
  simp; omega
theorem index3 {y : Int} (hy : 0 ≤ y ∧ y < 65536) : indexI y 3 = y / 4096 % 16 := by
  unfold indexI
  rw [if_pos ⟨hy.1, hy.2, by decide, by decide⟩]; rfl
theorem at3 {k y : Int} (hk : 0 ≤ k ∧ k < 4096) (hy : 0 ≤ y ∧ y < 65536) : atI k y 3 = 16 * k + y / 4096 % 16 := by
  unfold atI
  rw [index3 hy, if_neg (by omega)]
theorem fresh_step {k y t : Int} (hk : 0 ≤ k ∧ k < 10) (hy : 0 ≤ y ∧ y < 65536) : stepS (ldW []) y t (k, 3, (0, 0, 0, 0, ())) = (k, -1, (0, 0, 3, 4, ())) := by
  have hz : ldW [] = List.replicate 160 (0 : Int) := rfl
  have hin : inM (ldW []) (atI k y 3) = true := by rw [inM_iff, hz, at3 ⟨hk.1, by omega⟩ hy, List.length_replicate]; omega
  have e1 : ldV (ldW []) (atI k y 3) = 0 := by
    unfold ldV
    rw [if_pos hin, hz, List.getD_eq_getElem?_getD, List.getElem?_replicate]
    split <;> rfl
  have e2 : ldE (ldW []) (atI k y 3) = 0 := by unfold ldE; rw [if_pos hin]
  unfold stepS
  simp only [e1, e2]
  rw [if_neg (by decide), if_neg (by decide +kernel)]
  unfold tookS
  rw [if_pos (by decide +kernel)]
  rfl
theorem lfresh_row (x : Int) (hx : (Lit.int .u8 x).wf = true) (y : Int) (hy : (Lit.int .u16 y).wf = true) (z : Int) (hz : (Lit.int .u8 z).wf = true) (w : World) :
    CallsR Try.prog 6 (.el (.one .bool)) [.int .u8 x, .int .u16 y, .int .u8 z] w (fun b w' => b = true ∧ Ext w w') := by
  refine rxFn_ok (C := M1) (ann := fun _ => []) (Eq.mpr (lfresh_vc x y z w _) ?_)
  have hx := u8_rng hx
  have hy := u16_rng hy
  have hz := u8_rng hz
  rw [conv_id (x := x) (by omega) (by omega), conv_id (x := y) (by omega) (by omega), conv_id (x := z) (by omega) (by omega), rem_id (x := x) (by omega), rem_id (x := z) (by omega)]
  obtain ⟨k, hk⟩ : ∃ k, k = x % 10 := ⟨_, rfl⟩
  obtain ⟨t, ht⟩ : ∃ t, t = z % 8 := ⟨_, rfl⟩
  rw [← hk, ← ht]
  have hk1 : 0 ≤ k ∧ k < 10 := by omega
  have H := At.start [] w
  have hW : okW (ldW []) := (ldW_ok 0 [] rfl (by simp)).2
  have hlen : (ldW []).length = 160 := (ldW_ok 0 [] rfl (by simp)).1
  refine both_at H none 0 0 [] rfl (fun w' A H => sl_nil) fun bm bw bm2 bw2 ca la ca2 la2 w2 hca H => ?_
  have H : At [] w w2 [(bm, mcs bw 160 160 ca la), (bw, flat eW (ldW []) ++ []), (bm2, mcs bw2 160 160 ca2 la2), (bw2, flat eW (ldW []) ++ [])] := H
  have hbad : badW k y t = false := by
    unfold badW
    rw [at3 ⟨hk1.1, by omega⟩ hy, decide_eq_false (by omega), decide_eq_false (by omega), decide_eq_false (by omega)]; rfl
  refine wnew_at H k y t (fun h => absurd (hbad.symm.trans h) (by decide)) fun _ bk w3 H => brP_neg rfl ?_
  have es := fresh_step (t := t) hk1 hy
  refine wstep_at (Ls := []) (xs := []) H (.inl ⟨rfl, rfl, rfl⟩) (by simp) hlen.symm (by decide) hW (show (3 : Int) ≠ -1 by decide) fun w4 Ls' s' hP H => ?_
  rw [es] at H ⊢
  refine ⟨_, QCalls.of (s := .tup [.agg sF, .one .bool]) fun w' h' => wres_ok ((H.get (i := 0) rfl).ext h'), ?_⟩
  refine AlP.go H fun b w6 H => StP.all 0 H rfl rfl rfl fun w7 H => LdP.at 0 H rfl rfl (brP_pos rfl ?_)
  refine wpath_at H 1 rfl hP (by simp) (fun x hx => List.mem_cons_of_mem _ (List.mem_cons_of_mem _ (List.mem_cons_of_mem _ (List.mem_cons_of_mem _ (List.mem_append_left _ hx))))) (by simp) fun b4 c4 rest4 w17 H => ?_
  refine AlP.go H fun b5 w18 H => ?_
  refine CaP.val H (s := .el (.one .bool)) true (fun w19 H => (ints_ok (xs := [k]) (ys := [k]) (Sl.of_blk (H.get (i := 1) rfl) rfl) rfl (Sl.of_blk (H.get (i := 0) rfl) rfl) rfl (by simp)).mono fun b w' h => ⟨h.1.trans (by simp), h.2⟩) fun w19 H => ?_
  exact brP_pos rfl (fin_known H.all)
end Go.Proofs.Ytffnfcokgemgjaa
