import Derived.Test.YtffnfcokgemgjaaV8
namespace Go.Proofs.Ytffnfcokgemgjaa
set_option linter.unusedSimpArgs false
set_option linter.unusedVariables false
set_option maxRecDepth 100000
open Go.RX
theorem set_perm {α : Type} (a : α) : ∀ (L : List α) (j : Nat), j < L.length → (L.set j a).Perm (a :: L.eraseIdx j)
  | [], _, h => by simp at h
  | x :: L, 0, _ => by simp
  | x :: L, j + 1, h => by
    rw [List.set_cons_succ, List.eraseIdx_cons_succ]
    exact ((set_perm a L j (by simpa using h)).cons x).trans (.swap a x _)
theorem set_id {α : Type} {L : List α} {j : Nat} {a : α} (ha : L[j]? = some a) : L.set j a = L := by
  apply List.ext_getElem?
  intro n
  by_cases e : j = n
  · subst e; rw [List.getElem?_set_self (List.getElem?_eq_some_iff.1 ha).1, ha]
  · rw [List.getElem?_set_ne e]
theorem front2 {α : Type} {L : List α} {j jw : Nat} {a b : α} (ha : L[j]? = some a) (hb : L[jw]? = some b) (hne : j ≠ jw) : ∃ L2, L.Perm (a :: b :: L2) ∧ ∀ a', (L.set j a').Perm (a' :: b :: L2) := by
  have hj : j < L.length := (List.getElem?_eq_some_iff.1 ha).1
  have hb2 : b ∈ L.eraseIdx j := by
    rw [List.mem_eraseIdx_iff_getElem?]
    exact ⟨jw, fun e => hne e.symm, hb⟩
  obtain ⟨i, hi⟩ := List.getElem?_of_mem hb2
  have hil : i < (L.eraseIdx j).length := (List.getElem?_eq_some_iff.1 hi).1
  have p2 : (L.eraseIdx j).Perm (b :: (L.eraseIdx j).eraseIdx i) := by
    have := set_perm b (L.eraseIdx j) i hil
    rwa [set_id hi] at this
  refine ⟨(L.eraseIdx j).eraseIdx i, ?_, fun a' => (set_perm a' L j hj).trans (p2.cons a')⟩
  have := (set_perm a L j hj).trans (p2.cons a)
  rwa [set_id ha] at this
section
variable {w0 w : World} {L : List (Nat × List Value)}
theorem wall_q {bm bw n c : Nat} {ca la : Int} {ws : List Int} {rest : List Value} (H : At [] w0 w L) (j jw : Nat) (hm : L[j]? = some (bm, mcs bw n c ca la)) (hw : L[jw]? = some (bw, flat eW ws ++ rest)) (hj : j ≠ jw) (hn : n = ws.length) (h0 : 0 < n) (hW : okW ws) (hca : 0 ≤ ca ∧ ca ≤ 1000) (f p t : Int) {K : FT → World → Prop}
    (k : ∀ ca' w1, ca ≤ ca' ∧ ca' ≤ ca + 4 → At [] w0 w1 (L.set j (bm, mcs bw n c ca' la)) → K (allS ws f p t) w1) :
    CaP Try.prog 10 (.el (.agg sF)) [.pointer (some ⟨bm, 0, none⟩), .int .i64 f, .int .i64 p, .int .i64 t] w K := by
  obtain ⟨L2, q1, q2⟩ := front2 hm hw hj
  exact wall_at (H.perm q1.symm) hn h0 hW hca f p t fun ca' w1 h H => k ca' w1 h (H.perm (q2 _))
theorem wpath_at {bk : Nat} {fr pg wt lv : Int} {fd : FT} {s : Option Addr × Nat × Nat} {xs : List Int} {Ls : List (Nat × List Value)} (H : At [] w0 w L) (j : Nat) (hk : L[j]? = some (bk, wcs fr pg wt lv fd s)) (hP : PIn Ls s xs) (hne : xs ≠ []) (hLs : ∀ x ∈ Ls, x ∈ L) (hb : xs.length ≤ 1000) {K : Option Addr × Nat × Nat → World → Prop}
    (k : ∀ b' c' rest w', At [] w0 w' ((b', flat eI xs ++ rest) :: L) → K (some ⟨b', 0, none⟩, xs.length, c') w') :
    CaP Try.prog 16 (.el (.one .slice)) [.pointer (some ⟨bk, 0, none⟩)] w K := by
  refine CaP.go H fun w1 H => rxFn_ok (C := M1) (ann := fun _ => []) (Eq.mpr (wpath_vc _ w1 K) ?_)
  rcases hP with ⟨_, h2, _⟩ | ⟨bs, c, rest, rfl, h2, h3, h4⟩
  · exact absurd h2 hne
  · refine brP_neg rfl ⟨rfl, rfl, LdP.atA j H hk (x := (some ⟨bs, 0, none⟩, xs.length, c)) rfl fun w2 h2' => ?_⟩
    have H := H.ext h2'
    have hbs : Blk w2 bs (flat eI xs ++ rest) := H.blk (bs, flat eI xs ++ rest) (hLs _ (by rw [h2]; exact List.mem_singleton.2 rfl))
    have hlen : (flat eI xs).length = xs.length * stride eI := flat_length eI xs
    exact apR.copy (e := eI) H hbs (by rw [List.take_append_of_le_length (by omega), List.take_of_length_le (by omega)]) rfl hne rfl rfl rfl (by omega) fun b' c' rest' w' H => EnP.go H fun w5 H => k b' c' rest' w5 H
theorem wnext_done {bk : Nat} {fr pg wt : Int} {fd : FT} {s : Option Addr × Nat × Nat} (hb : Blk w bk (wcs fr pg wt (-1) fd s)) : QCalls Try.prog 15 [.pointer (some ⟨bk, 0, none⟩)] w ((Sh.el (.agg sA)).emb (0, 0, 0, 0, ())) := QCalls.of (s := .el (.agg sA)) fun w' h' => by
  have hb := hb.ext h'
  refine rxFnR_ok (C := M1) (ann := fun _ => []) (Eq.mpr (wnext_vc _ w' _) ?_)
  have H := At.start [] w'
  refine AlP.go H fun b w2 H => ⟨fun _ => rfl, fun _ => rfl, LdP.oldA H hb (by simp) rfl ⟨fun _ => rfl, fun _ => rfl, LdP.oldA H hb (by simp) rfl (brP_pos rfl ?_)⟩⟩
  exact StP.all 0 H rfl rfl rfl fun w3 H => EnP.go H fun w4 H => LdP.at 0 H rfl rfl ⟨rfl, H.all⟩
end
/-! ### Fixed calls -/
def knX : List (ScsT sW) := [((1 : Int), (4097 : Int), ()), ((18 : Int), (8193 : Int), ()), ((35 : Int), (12289 : Int), ()), ((52 : Int), (36871 : Int), ())]
def knW : List Int := ldW knX
theorem kn_it : ∀ i : Nat, i ≤ 3 → (itS knW 0 4660 2 i).2.1 ≠ -1 ∧ (itS knW 0 4660 2 i).1 = i := by
  intro i hi
  rcases (by omega : i = 0 ∨ i = 1 ∨ i = 2 ∨ i = 3) with rfl | rfl | rfl | rfl <;> decide +kernel
theorem kn_end : itS knW 0 4660 2 4 = (3, -1, (9, 3, 0, 0, ())) := by decide +kernel
theorem kn_a1 : allS knW 0 4660 4 = (9, 3, 0, 7, ()) := by decide +kernel
theorem kn_a2 : allS knW 0 4661 0 = (0, 0, 0, 4, ()) := by decide +kernel
theorem kn_a3 : allS knW (-1) 0 0 = (0, 0, 0, 1, ()) := by decide +kernel
theorem kn_ok : okW knW := (ldW_ok 4 knX rfl (by decide +kernel)).2
theorem wknown_ok (w : World) : CallsR Try.prog 12 (.el (.one .bool)) [] w (fun b w' => b = true ∧ Ext w w') := by
  refine rxFn_ok (C := M1) (ann := wknown_vc_ann) (Eq.mpr (wknown_vc w _) ?_)
  have H := At.start [] w
  refine AlP.go H fun bl w1 H => ?_
  refine both_at H (some ⟨bl, 0, none⟩) 4 4 knX rfl (fun w' A H => Sl.of_blk (H.blk (bl, _) (List.mem_append_right _ List.mem_cons_self)) rfl) fun bm bw bm2 bw2 ca la ca2 la2 w2 hca H => ?_
  have ew : ldW (knX.take 200) = knW := rfl
  rw [ew] at H
  refine wnew_at H 0 4660 2 (fun h => absurd h (by decide +kernel)) fun _ bk w3 H => brP_neg rfl ?_
  have hlen : knW.length = 160 := by decide +kernel
  refine ⟨fun q s w' => ∃ (i : Nat) (Ls : List (Nat × List Value)) (s' : Option Addr × Nat × Nat) (ca' : Int), s.1 = i ∧ q + i = 9 ∧ i ≤ 3 ∧ PIn Ls s' ((List.range i).map fun x => ((x : Nat) : Int)) ∧ (0 ≤ ca' ∧ ca' ≤ 200 + i) ∧
      At [] w w' ((bk, wcs (itS knW 0 4660 2 i).1 4660 2 (itS knW 0 4660 2 i).2.1 (itS knW 0 4660 2 i).2.2 s') :: (bm, mcs bw 160 160 ca' la) :: (bw, flat eW knW ++ []) :: (Ls ++ [(bm2, mcs bw2 160 160 ca2 la2), (bw2, flat eW knW ++ []), (bl, _)])), ⟨9, fun w4 h4 => ⟨0, [], (none, 0, 0), ca, rfl, rfl, by decide, .inl ⟨rfl, rfl, rfl⟩, ⟨hca.1, by omega⟩, H.ext h4⟩⟩, ?_⟩
  clear H
  rintro q ⟨i', u⟩ w4 ⟨i, Ls, s', ca', hi, hq, hi3, hP, hcc, H⟩
  simp only at hi
  subst hi
  dsimp only
  refine brP_pos (by simp; omega) ?_
  obtain ⟨k1, k2⟩ := kn_it i hi3
  refine wstep_at H hP (by simp; omega) hlen.symm (by decide) kn_ok k1 fun w5 Ls2 s2 hP2 H => ?_
  have es : stepS knW 4660 2 ((itS knW 0 4660 2 i).1, (itS knW 0 4660 2 i).2.1, (itS knW 0 4660 2 i).2.2) = itS knW 0 4660 2 (i + 1) := rfl
  rw [es] at H ⊢
  have hup := up_le (ws := knW) (i := atI (itS knW 0 4660 2 i).1 4660 (itS knW 0 4660 2 i).2.1) hcc (by omega)
  generalize upM knW (atI (itS knW 0 4660 2 i).1 4660 (itS knW 0 4660 2 i).2.1) ca' = ca3 at H hup
  have hP3 : PIn Ls2 s2 ((List.range (i + 1)).map fun x => ((x : Nat) : Int)) := by
    rw [List.range_succ, List.map_append]
    rw [k2] at hP2
    exact hP2
  by_cases h3 : i = 3
  · subst h3
    have ke : itS knW 0 4660 2 (3 + 1) = (3, -1, (9, 3, 0, 0, ())) := kn_end
    rw [ke] at H ⊢
    refine brP_neg rfl ⟨_, QCalls.of (s := .tup [.agg sF, .one .bool]) fun w' h' => wres_ok ((H.get (i := 0) rfl).ext h'), ?_⟩
    refine AlP.go H fun b w6 H => StP.all 0 H rfl rfl rfl fun w7 H => ?_
    refine wall_q H 2 3 rfl rfl (by decide) hlen.symm (by decide) kn_ok ⟨by omega, by omega⟩ 0 4660 4 fun ca4 w8 hc4 H => ?_
    rw [kn_a1]
    refine AlP.go H fun b1 w9 H => StP.all 0 H rfl rfl rfl fun w10 H => ?_
    refine wall_q H 3 4 rfl rfl (by decide) hlen.symm (by decide) kn_ok ⟨by omega, by omega⟩ 0 4661 0 fun ca5 w11 hc5 H => ?_
    rw [kn_a2]
    refine AlP.go H fun b2 w12 H => StP.all 0 H rfl rfl rfl fun w13 H => ?_
    refine wall_q H 4 5 rfl rfl (by decide) hlen.symm (by decide) kn_ok ⟨by omega, by omega⟩ (-1) 0 0 fun ca6 w14 hc6 H => ?_
    rw [kn_a3]
    refine AlP.go H fun b3 w15 H => StP.all 0 H rfl rfl rfl fun w16 H => LdP.at 3 H rfl rfl (brP_pos rfl ?_)
    refine wpath_at H 4 rfl hP3 (by decide) (fun x hx => ?_) (by decide) fun b4 c4 rest4 w17 H => ?_
    · exact List.mem_cons_of_mem _ (List.mem_cons_of_mem _ (List.mem_cons_of_mem _ (List.mem_cons_of_mem _ (List.mem_cons_of_mem _ (List.mem_cons_of_mem _ (List.mem_cons_of_mem _ (List.mem_append_left _ hx)))))))
    refine AlP.go H fun b5 w18 H => ?_
    refine CaP.val H (s := .el (.one .bool)) true (fun w19 H => (ints_ok (xs := [0, 1, 2, 3]) (ys := [0, 1, 2, 3]) (Sl.of_blk (H.get (i := 1) rfl) (by
      rw [List.take_append_of_le_length (by decide), List.take_of_length_le (by decide)]; rfl)) rfl (Sl.of_blk (H.get (i := 0) rfl) rfl) rfl (by decide)).mono fun b w' h => ⟨h.1.trans (by decide), h.2⟩) fun w19 H => ?_
    refine ⟨fun _ => rfl, LdP.atA 4 H rfl rfl ⟨fun _ => rfl, LdP.atA 4 H rfl rfl (LdP.at 3 H rfl rfl ⟨fun _ => rfl, LdP.atA 2 H rfl rfl (brP_pos rfl ?_)⟩)⟩⟩
    refine wnew_at H 4096 0 0 (fun _ w20 H => ⟨_, fun _ => wnext_done (H.get (i := 6) rfl), EnP.go H fun w21 H => ⟨rfl, H.all⟩⟩) fun h => absurd h (by decide +kernel)
  · obtain ⟨k3, _⟩ := kn_it (i + 1) (by omega)
    refine brP_pos (by simp [k3]) fun w6 h6 => ⟨q - 1, by omega, i + 1, Ls2, s2, ca3, by rw [addI_i64 (by omega) (by omega)]; rfl, by omega, by omega, hP3, ⟨hup.1, by omega⟩, H.ext h6⟩
end Go.Proofs.Ytffnfcokgemgjaa
