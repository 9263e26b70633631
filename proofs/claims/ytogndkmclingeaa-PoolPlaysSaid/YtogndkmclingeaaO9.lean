import Derived.Test.YtogndkmclingeaaO8
namespace Go.Proofs.Ytogndkmclingeaa
set_option linter.unusedSimpArgs false
set_option linter.unusedVariables false
open Go.RX
section
variable {D G : List Nat} {w0 w : World} {L : List (Nat × List Value)}
theorem turn_at (H : AtD D G w0 w L) (i j : Nat) {bp bf n c : Nat} {ds : List DT} {rest : List Value} (hp : L[i]? = some (bp, [.slice (some ⟨bf, 0, none⟩) n c])) (hf : L[j]? = some (bf, flat eD ds ++ rest)) (hij : i ≠ j) (hn : n = ds.length) (hpos : 0 < n) (hle : n ≤ 4096) (f y o : Int) {K : Int → World → Prop}
    (k : ∀ w2, AtD D G w0 w2 (L.set j (bf, flat eD (chL ds f (turnG y o)) ++ rest)) → K (chE ds f (turnG y o)) w2) : CaP Try.prog 14 (.el (.one (.int .i64))) [.pointer (some ⟨bp, 0, none⟩), .int .i64 f, .int .i64 y, .int .i64 o] w K := by
  subst hn
  exact CaP.mod1 H j hf (fun w1 H => turn_ok (H.get hp) (H.get hf) (H.ne hp hf hij) hle f y o) k
theorem pref_at (H : AtD D G w0 w L) (i j : Nat) {bp bf n c : Nat} {ds : List DT} {rest : List Value} (hp : L[i]? = some (bp, [.slice (some ⟨bf, 0, none⟩) n c])) (hf : L[j]? = some (bf, flat eD ds ++ rest)) (hij : i ≠ j) (hn : n = ds.length) (hpos : 0 < n) (hle : n ≤ 4096) (f x : Int) (hi : -9223372036854775808 ≤ x ∧ x < 9223372036854775808) {K : Int → World → Prop}
    (k : ∀ w2, AtD D G w0 w2 (L.set j (bf, flat eD (chL ds f (refG x)) ++ rest)) → K (chE ds f (refG x)) w2) : CaP Try.prog 15 (.el (.one (.int .i64))) [.pointer (some ⟨bp, 0, none⟩), .int .i64 f, .int .i64 x] w K := by
  subst hn
  exact CaP.mod1 H j hf (fun w1 H => pref_ok (H.get hp) (H.get hf) (H.ne hp hf hij) hle f x hi) k
theorem give_at (H : AtD D G w0 w L) (i j : Nat) {bp bf n c : Nat} {ds : List DT} {rest : List Value} (hp : L[i]? = some (bp, [.slice (some ⟨bf, 0, none⟩) n c])) (hf : L[j]? = some (bf, flat eD ds ++ rest)) (hij : i ≠ j) (hn : n = ds.length) (hpos : 0 < n) (hle : n ≤ 4096) (f : Int) {K : Int → World → Prop}
    (k : ∀ w2, AtD D G w0 w2 (L.set j (bf, flat eD (chL ds f (turnG 0 0)) ++ rest)) → K (chE ds f (turnG 0 0)) w2) : CaP Try.prog 13 (.el (.one (.int .i64))) [.pointer (some ⟨bp, 0, none⟩), .int .i64 f] w K := by
  subst hn
  exact CaP.mod1 H j hf (fun w1 H => give_ok (H.get hp) (H.get hf) (H.ne hp hf hij) hle f) k
theorem take_at (H : AtD D G w0 w L) (i j : Nat) {bp bf n c : Nat} {ds : List DT} {rest : List Value} (hp : L[i]? = some (bp, [.slice (some ⟨bf, 0, none⟩) n c])) (hf : L[j]? = some (bf, flat eD ds ++ rest)) (hij : i ≠ j) (hn : n = ds.length) (hpos : 0 < n) (hle : n ≤ 4096) (y o : Int) {K : Int × Int × Unit → World → Prop}
    (k : ∀ w2, AtD D G w0 w2 (L.set j (bf, flat eD (takeL ds y o) ++ rest)) → K (takeF ds y o, takeE ds y o, ()) w2) : CaP Try.prog 11 (.tup [.one (.int .i64), .one (.int .i64)]) [.pointer (some ⟨bp, 0, none⟩), .int .i64 y, .int .i64 o] w K := by
  subst hn
  exact CaP.mod1 H j hf (fun w1 H => take_ok (H.get hp) (H.get hf) (H.ne hp hf hij) rfl hle y o) k
theorem rturn_at (H : AtD D G w0 w L) (i j : Nat) {bp bf n c : Nat} {ds : List DT} {rest : List Value} (hp : L[i]? = some (bp, [.slice (some ⟨bf, 0, none⟩) n c])) (hf : L[j]? = some (bf, flat eD ds ++ rest)) (hij : i ≠ j) (hn : n = ds.length) (hpos : 0 < n) (hle : n ≤ 4096) (f y o : Int) {K : Int → World → Prop}
    (k : ∀ w2, AtD D G w0 w2 (L.set j (bf, flat eD (chL ds f (turnG y o)) ++ rest)) → K (chE ds f (turnG y o)) w2) : CaP Try.prog 22 (.el (.one (.int .i64))) [.pointer (some ⟨bp, 0, none⟩), .int .i64 f, .int .i64 y, .int .i64 o] w K := by
  subst hn
  exact CaP.mod1 H j hf (fun w1 H => rturn_ok (H.get hp) (H.get hf) (H.ne hp hf hij) rfl hpos f y o) k
theorem rpref_at (H : AtD D G w0 w L) (i j : Nat) {bp bf n c : Nat} {ds : List DT} {rest : List Value} (hp : L[i]? = some (bp, [.slice (some ⟨bf, 0, none⟩) n c])) (hf : L[j]? = some (bf, flat eD ds ++ rest)) (hij : i ≠ j) (hn : n = ds.length) (hpos : 0 < n) (hle : n ≤ 4096) (f x : Int) (hi : -9223372036854775808 ≤ x ∧ x < 9223372036854775808) {K : Int → World → Prop}
    (k : ∀ w2, AtD D G w0 w2 (L.set j (bf, flat eD (chL ds f (refG x)) ++ rest)) → K (chE ds f (refG x)) w2) : CaP Try.prog 23 (.el (.one (.int .i64))) [.pointer (some ⟨bp, 0, none⟩), .int .i64 f, .int .i64 x] w K := by
  subst hn
  exact CaP.mod1 H j hf (fun w1 H => rpref_ok (H.get hp) (H.get hf) (H.ne hp hf hij) rfl hpos f x hi) k
theorem rgive_at (H : AtD D G w0 w L) (i j : Nat) {bp bf n c : Nat} {ds : List DT} {rest : List Value} (hp : L[i]? = some (bp, [.slice (some ⟨bf, 0, none⟩) n c])) (hf : L[j]? = some (bf, flat eD ds ++ rest)) (hij : i ≠ j) (hn : n = ds.length) (hpos : 0 < n) (hle : n ≤ 4096) (f : Int) {K : Int → World → Prop}
    (k : ∀ w2, AtD D G w0 w2 (L.set j (bf, flat eD (chL ds f (turnG 0 0)) ++ rest)) → K (chE ds f (turnG 0 0)) w2) : CaP Try.prog 21 (.el (.one (.int .i64))) [.pointer (some ⟨bp, 0, none⟩), .int .i64 f] w K := by
  subst hn
  exact CaP.mod1 H j hf (fun w1 H => rgive_ok (H.get hp) (H.get hf) (H.ne hp hf hij) rfl hpos f) k
theorem rtake_at (H : AtD D G w0 w L) (i j : Nat) {bp bf n c : Nat} {ds : List DT} {rest : List Value} (hp : L[i]? = some (bp, [.slice (some ⟨bf, 0, none⟩) n c])) (hf : L[j]? = some (bf, flat eD ds ++ rest)) (hij : i ≠ j) (hn : n = ds.length) (hpos : 0 < n) (hle : n ≤ 4096) (y o : Int) {K : Int × Int × Unit → World → Prop}
    (k : ∀ w2, AtD D G w0 w2 (L.set j (bf, flat eD (takeL ds y o) ++ rest)) → K (takeF ds y o, takeE ds y o, ()) w2) : CaP Try.prog 20 (.tup [.one (.int .i64), .one (.int .i64)]) [.pointer (some ⟨bp, 0, none⟩), .int .i64 y, .int .i64 o] w K := by
  subst hn
  exact CaP.mod1 H j hf (fun w1 H => rtake_ok (H.get hp) (H.get hf) (H.ne hp hf hij) rfl hpos hle y o) k
theorem len_q (H : AtD D G w0 w L) (i : Nat) {bp n c : Nat} {a : Option Addr} (hp : L[i]? = some (bp, [.slice a n c])) : QCalls Try.prog 18 [.pointer (some ⟨bp, 0, none⟩)] w (.int .i64 (n : Int)) :=
  QCalls.of (s := .el (.one (.int .i64))) fun w' h => len_ok ((H.get hp).ext h)
theorem count_q (H : AtD D G w0 w L) (i j : Nat) {bp bf n c : Nat} {ds : List DT} {rest : List Value} (hp : L[i]? = some (bp, [.slice (some ⟨bf, 0, none⟩) n c])) (hf : L[j]? = some (bf, flat eD ds ++ rest)) (hn : n = ds.length) (hle : n ≤ 4096) (v : Int) :
    QCalls Try.prog 10 [.pointer (some ⟨bp, 0, none⟩), .int .i64 v] w (.int .i64 (cntL ds v : Nat)) :=
  QCalls.of (s := .el (.one (.int .i64))) fun w' h => count_ok ((H.get hp).ext h) ((H.get hf).ext h) hn hle v
theorem rcount_q (H : AtD D G w0 w L) (i j : Nat) {bp bf n c : Nat} {ds : List DT} {rest : List Value} (hp : L[i]? = some (bp, [.slice (some ⟨bf, 0, none⟩) n c])) (hf : L[j]? = some (bf, flat eD ds ++ rest)) (hn : n = ds.length) (hle : n ≤ 4096) (v : Int) :
    QCalls Try.prog 26 [.pointer (some ⟨bp, 0, none⟩), .int .i64 v] w (.int .i64 (cntL ds v : Nat)) :=
  QCalls.of (s := .el (.one (.int .i64))) fun w' h => rcount_ok ((H.get hp).ext h) ((H.get hf).ext h) hn hle v
theorem of_q (H : AtD D G w0 w L) (i j : Nat) {bp bf n c : Nat} {ds : List DT} {rest : List Value} (hp : L[i]? = some (bp, [.slice (some ⟨bf, 0, none⟩) n c])) (hf : L[j]? = some (bf, flat eD ds ++ rest)) (hn : n = ds.length) (f : Int) :
    QCalls Try.prog 12 [.pointer (some ⟨bp, 0, none⟩), .int .i64 f] w ((Sh.tup [eD, .one .bool]).emb (ofV ds f, ofB ds f, ())) := by
  subst hn
  exact QCalls.of (s := .tup [eD, .one .bool]) fun w' h => pof_ok ((H.get hp).ext h) ((H.get hf).ext h) f
/-- An owner's frames. -/
theorem owned_at (H : AtD D G w0 w L) (i j : Nat) {bp bf n c : Nat} {ds : List DT} {rest : List Value} (hp : L[i]? = some (bp, [.slice (some ⟨bf, 0, none⟩) n c])) (hf : L[j]? = some (bf, flat eD ds ++ rest)) (hn : n = ds.length) (hle : n ≤ 4096) (v : Int) {K : Option Addr × Nat × Nat → World → Prop}
    (k : ∀ r rows w2, AtD D G w0 w2 (L ++ rows) → RowIn eI rows r ((ownL ds v).map fun i => ((i : Nat) : Int)) → K r w2) : CaP Try.prog 16 (.el (.one .slice)) [.pointer (some ⟨bp, 0, none⟩), .int .i64 v] w K :=
  CaP.rowR H (fun w1 H => owned_ok (H.get hp) (H.get hf) hn hle v) k
theorem rowned_at (H : AtD D G w0 w L) (i j : Nat) {bp bf n c : Nat} {ds : List DT} {rest : List Value} (hp : L[i]? = some (bp, [.slice (some ⟨bf, 0, none⟩) n c])) (hf : L[j]? = some (bf, flat eD ds ++ rest)) (hn : n = ds.length) (hle : n ≤ 4096) (v : Int) {K : Option Addr × Nat × Nat → World → Prop}
    (k : ∀ r rows w2, AtD D G w0 w2 (L ++ rows) → RowIn eI rows r ((ownL ds v).map fun i => ((i : Nat) : Int)) → K r w2) : CaP Try.prog 28 (.el (.one .slice)) [.pointer (some ⟨bp, 0, none⟩), .int .i64 v] w K :=
  CaP.rowR H (fun w1 H => rowned_ok (H.get hp) (H.get hf) hn hle v) k
end
theorem own_len (ds : List DT) (v : Int) : (ownL ds v).length ≤ ds.length := by
  refine Nat.le_trans (List.length_filter_le _ _) ?_
  simp
def kD0 : List DT := List.replicate (2 : Int).toNat zD
theorem pknown_ok (w : World) : CallsR Try.prog 17 (.el (.one .bool)) [] w (fun b w' => b = true ∧ Ext w w') := by
  refine rxFn_ok (C := E3) (ann := fun _ => []) (Eq.mpr (pknown_vc w _) ?_)
  have H := At.start [] w
  refine pnew_at H 2 (fun h => absurd h (by decide)) fun _ _ bp bf w1 H => ?_
  refine pnew_at H 0 (fun _ w2 H => ?_) (fun h => absurd h (by decide))
  refine brP_neg (by rfl) ?_
  refine take_at H 0 1 rfl rfl (by decide) rfl (by decide) (by decide) _ _ fun w3 H => ?_
  refine take_at H 0 1 rfl rfl (by decide) (by decide +kernel) (by decide) (by decide) _ _ fun w3 H => ?_
  refine take_at H 0 1 rfl rfl (by decide) (by decide +kernel) (by decide) (by decide) _ _ fun w3 H => ?_
  refine pref_at H 0 1 rfl rfl (by decide) (by decide +kernel) (by decide) (by decide) _ _ (by decide) fun w3 H => ?_
  refine give_at H 0 1 rfl rfl (by decide) (by decide +kernel) (by decide) (by decide) _ fun w3 H => ?_
  refine pref_at H 0 1 rfl rfl (by decide) (by decide +kernel) (by decide) (by decide) _ _ (by decide) fun w3 H => ?_
  refine give_at H 0 1 rfl rfl (by decide) (by decide +kernel) (by decide) (by decide) _ fun w3 H => ?_
  refine ⟨_, of_q H 0 1 rfl rfl (by decide +kernel) 1, ?_⟩
  refine AlP.go H fun b w4 H => StP.all 0 H rfl rfl rfl fun w5 H => LdP.at 0 H rfl rfl ⟨_, fun _ => count_q H 1 2 rfl rfl (by decide +kernel) (by decide) 0, brP_pos (by decide +kernel) ?_⟩
  refine owned_at H 1 2 rfl rfl (by decide +kernel) (by decide) 1 fun r rows w6 H hr => AlP.go H fun b2 w7 H => ?_
  have e1 : (ownL (chL (chL (chL (chL (takeL (takeL (takeL (List.replicate (2 : Int).toNat zD) 4 1) 3 1) 4 1) 0 (refG 1)) 0 (turnG 0 0)) 0 (refG (-1))) 0 (turnG 0 0)) 1).map (fun i => ((i : Nat) : Int)) = [1] := by decide +kernel
  rw [e1] at hr
  refine CaP.val H (s := .el (.one .bool)) (decide (([1] : List Int) = [1])) (fun w8 H => ints_ok (hr.sl H (fun x hx => List.mem_cons_of_mem _ (List.mem_append_right _ hx))) hr.1 (Sl.of_blk (H.get (i := 0) rfl) rfl) rfl (by rw [hr.1]; decide)) fun w8 H => ?_
  refine ⟨_, fun _ => len_q H 2 rfl, brP_pos rfl ?_⟩
  refine turn_at H 2 3 rfl rfl (by decide) (by decide +kernel) (by decide) (by decide) _ _ _ fun w9 H => EnP.go H fun w10 H => ?_
  exact ⟨by decide +kernel, H.all⟩
end Go.Proofs.Ytogndkmclingeaa
