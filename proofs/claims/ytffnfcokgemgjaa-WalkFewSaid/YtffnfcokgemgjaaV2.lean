import Derived.Test.YtffnfcokgemgjaaV1
namespace Go.Proofs.Ytffnfcokgemgjaa
set_option linter.unusedSimpArgs false
set_option linter.unusedVariables false
set_option maxRecDepth 100000
open Go.RX
abbrev eW : El := .one (.int .u64)
/-- Words, how many calls there were, how many were laid. -/
abbrev mcs (bw n c : Nat) (ca la : Int) : List Value := [.slice (some ⟨bw, 0, none⟩) n c, .int .i64 ca, .int .i64 la]
def inM (ws : List Int) (i : Int) : Bool := decide (0 ≤ i) && decide (i < ws.length)
def ldV (ws : List Int) (i : Int) : Int := if inM ws i then ws.getD i.toNat 0 else 0
def ldE (ws : List Int) (i : Int) : Int := if inM ws i then 0 else 2
def upM (ws : List Int) (i x : Int) : Int := if inM ws i then addI .i64 x 1 else x
def stL (ws : List Int) (i v : Int) : List Int := if inM ws i then ws.set i.toNat v else ws
theorem inM_iff {ws : List Int} {i : Int} : inM ws i = true ↔ 0 ≤ i ∧ i < ws.length := by unfold inM; simp
theorem stL_len (ws : List Int) (i v : Int) : (stL ws i v).length = ws.length := by unfold stL; split <;> simp
theorem flatW : ∀ ws : List Int, flat eW ws = ws.map (Value.int .u64)
  | [] => rfl
  | a :: l => by
    show [Value.int .u64 a] ++ flat eW l = _
    rw [flatW l]; rfl
section
variable {D G : List Nat} {w0 w : World} {L : List (Nat × List Value)} {bm bw n c : Nat} {ca la : Int} {ws : List Int} {rest : List Value}
theorem w_el {i : Nat} (hi : i < ws.length) : elAt (flat eW ws ++ rest) (0 + i * 1) eW = some (ws.getD i 0) := by
  have : (flat eW ws ++ rest)[0 + i * 1]? = some (.int .u64 (ws.getD i 0)) := by
    have hl : (flat eW ws).length = ws.length * 1 := flat_length eW ws
    rw [Nat.zero_add, Nat.mul_one, List.getElem?_append_left (by omega)]
    have e := flatW ws
    rw [e, List.getElem?_map, List.getElem?_eq_getElem hi, List.getD_eq_getElem?_getD, List.getElem?_eq_getElem hi]; rfl
  show (match (flat eW ws ++ rest)[0 + i * 1]? with | some v => (Sc.int .u64).proj v | none => none) = _
  rw [this]; rfl
theorem mlen_ok (h : Blk w bm (mcs bw n c ca la)) : CallsR Try.prog 57 (.el (.one (.int .i64))) [.pointer (some ⟨bm, 0, none⟩)] w (fun x w' => x = (n : Int) ∧ Ext w w') := by
  refine rxFn_ok (C := M0) (ann := fun _ => []) (Eq.mpr (mlen_vc _ w _) ?_)
  refine brP_neg rfl ⟨rfl, rfl, rfl, LdP.of (some ⟨bw, 0, none⟩, n, c) (by rw [addP_B, addP_B]; exact h.rd1 rfl) fun w1 h1 => ⟨rfl, h1⟩⟩
theorem mat_ok (p : Option Addr) (hp : n ≠ 0 → p.isSome = true) (i : Int) (w : World) : CallsR Try.prog 58 (.el (.one .ptr)) [.agg ⟨[.slice p n c]⟩, .int .i64 i] w (fun x w' => x = (if 0 ≤ i ∧ i < n then addP p i.toNat else none) ∧ Ext w w') := by
  refine rxFn_ok (C := M0) (ann := fun _ => []) (Eq.mpr (mat_vc p n c i w _) ?_)
  have H := At.start [] w
  refine AlP.go H fun b w2 H => ⟨fun _ => rfl, LdP.atA 0 H rfl rfl (brP_intro (fun c1 => EnP.go H fun w3 H => ⟨?_, H.all⟩) (fun c1 => ⟨rfl, LdP.atA 0 H rfl rfl ?_⟩))⟩
  · have : ¬ (0 ≤ i ∧ i < n) := by simp at c1; omega
    rw [if_neg this]
  · have hi : 0 ≤ i ∧ i < n := by simp at c1; omega
    refine ⟨⟨hp (by omega), by omega, by show i < ((n : Nat) : Int); omega⟩, EnP.go H fun w3 H => ⟨?_, H.all⟩⟩
    rw [if_pos hi, Nat.mul_one]
theorem mword_at (H : AtD D G w0 w L) (j : Nat) (hm : L[j]? = some (bm, mcs bw n c ca la)) (hn : n = ws.length) (h0 : 0 < n) (i : Int) {K : Option Addr × Int × Unit → World → Prop}
    (k1 : inM ws i = true → ∀ w2, AtD D G w0 w2 (L.set j (bm, mcs bw n c (addI .i64 ca 1) la)) → K (addP (some ⟨bw, 0, none⟩) i.toNat, 0, ()) w2) (k2 : inM ws i = false → ∀ w2, AtD D G w0 w2 L → K (none, 2, ()) w2) :
    CaP Try.prog 34 (.tup [.one .ptr, .one (.int .i64)]) [.pointer (some ⟨bm, 0, none⟩), .int .i64 i] w K := by
  refine CaP.go H fun w1 H => rxFn_ok (C := M0) (ann := fun _ => []) (Eq.mpr (mword_vc _ i w1 K) ?_)
  refine ⟨_, QCalls.of (s := .el (.one (.int .i64))) fun w' h' => mlen_ok ((H.get hm).ext h'), brP_neg (by simp; omega) ⟨rfl, rfl, LdP.atA j H hm rfl ⟨_, QCalls.of (s := .el (.one .ptr)) fun w' h' => mat_ok (some ⟨bw, 0, none⟩) (fun _ => rfl) i w', ?_⟩⟩⟩
  subst hn
  cases hi : inM ws i with
  | true =>
    have hi' := inM_iff.1 hi
    rw [if_pos hi']
    refine brP_neg rfl ⟨rfl, rfl, LdP.atA j H hm rfl ⟨rfl, rfl, StP.oneA j H hm rfl rfl fun w2 H => EnP.go H fun w3 H => k1 hi w3 H⟩⟩
  | false =>
    have hi' : ¬ (0 ≤ i ∧ i < (ws.length : Int)) := fun h => by rw [inM_iff.2 h] at hi; cases hi
    rw [if_neg hi']
    exact brP_pos rfl (EnP.go H fun w2 H => k2 hi w2 H)
theorem mload_at (H : AtD D G w0 w L) (j jw : Nat) (hm : L[j]? = some (bm, mcs bw n c ca la)) (hw : L[jw]? = some (bw, flat eW ws ++ rest)) (hj : j ≠ jw) (hn : n = ws.length) (h0 : 0 < n) (i : Int) {K : Int × Int × Unit → World → Prop}
    (k : ∀ w2, AtD D G w0 w2 (L.set j (bm, mcs bw n c (upM ws i ca) la)) → K (ldV ws i, ldE ws i, ()) w2) :
    CaP Try.prog 63 (.tup [.one (.int .u64), .one (.int .i64)]) [.pointer (some ⟨bm, 0, none⟩), .int .i64 i] w K := by
  refine CaP.go H fun w1 H => rxFn_ok (C := M0) (ann := fun _ => []) (Eq.mpr (mload_vc _ i w1 K) ?_)
  refine mword_at H j hm hn h0 i (fun hi w2 H => ?_) (fun hi w2 H => ?_)
  · unfold upM ldV ldE at k
    rw [hi, if_pos rfl, if_pos rfl, if_pos rfl] at k
    have hw2 : (L.set j (bm, mcs bw n c (addI .i64 ca 1) la))[jw]? = some (bw, flat eW ws ++ rest) := by rw [List.getElem?_set_ne hj]; exact hw
    have hi' := inM_iff.1 hi
    refine brP_neg rfl ⟨rfl, ?_⟩
    rw [addP_B]
    have e := w_el (ws := ws) (rest := rest) (i := i.toNat) (by omega)
    rw [Nat.mul_one] at e
    exact LdP.at jw H hw2 e (EnP.go H fun w3 H => k w3 H)
  · unfold upM ldV ldE at k
    rw [hi, if_neg (by decide), if_neg (by decide), if_neg (by decide)] at k
    refine brP_pos rfl (EnP.go H fun w3 H => k w3 ?_)
    rw [show L.set j (bm, mcs bw n c ca la) = L from List.ext_getElem? fun m => by
      by_cases e : j = m
      · subst e; rw [List.getElem?_set_self (List.getElem?_eq_some_iff.1 hm).1, hm]
      · rw [List.getElem?_set_ne e]]
    exact H
theorem set_w {i : Nat} (hi : i < ws.length) (v : Int) : (flat eW ws ++ rest).set i (.int .u64 v) = flat eW (ws.set i v) ++ rest := by
  have h := flat_set eW ws i v rest hi
  have e1 : (cellsOf eW v) = [Value.int .u64 v] := rfl
  have e2 : stride eW = 1 := rfl
  rw [e1, e2, Nat.mul_one] at h
  rw [← h]
  have hl : (flat eW ws).length = ws.length * 1 := flat_length eW ws
  rw [List.set_eq_take_append_cons_drop, if_pos (by rw [List.length_append]; omega)]
  rfl
theorem mstore_at (H : AtD D G w0 w L) (j jw : Nat) (hm : L[j]? = some (bm, mcs bw n c ca la)) (hw : L[jw]? = some (bw, flat eW ws ++ rest)) (hj : j ≠ jw) (hn : n = ws.length) (h0 : 0 < n) (i v : Int) {K : Int → World → Prop}
    (k : ∀ w2, AtD D G w0 w2 ((L.set j (bm, mcs bw n c (upM ws i ca) (upM ws i la))).set jw (bw, flat eW (stL ws i v) ++ rest)) → K (ldE ws i) w2) :
    CaP Try.prog 21 (.el (.one (.int .i64))) [.pointer (some ⟨bm, 0, none⟩), .int .i64 i, .int .u64 v] w K := by
  refine CaP.go H fun w1 H => rxFn_ok (C := M0) (ann := fun _ => []) (Eq.mpr (mstore_vc _ i v w1 K) ?_)
  have hjl : j < L.length := (List.getElem?_eq_some_iff.1 hm).1
  have hjwl : jw < L.length := (List.getElem?_eq_some_iff.1 hw).1
  refine mword_at H j hm hn h0 i (fun hi w2 H => ?_) (fun hi w2 H => ?_)
  · unfold upM stL ldE at k
    rw [hi, if_pos rfl, if_pos rfl, if_pos rfl, if_pos rfl] at k
    have hw2 : (L.set j (bm, mcs bw n c (addI .i64 ca 1) la))[jw]? = some (bw, flat eW ws ++ rest) := by rw [List.getElem?_set_ne hj]; exact hw
    have hi' := inM_iff.1 hi
    have hlt : i.toNat < ws.length := by omega
    have hl : (flat eW ws).length = ws.length * 1 := flat_length eW ws
    refine brP_pos rfl ⟨rfl, StP.oneA jw H hw2 rfl (by rw [Nat.blt_eq, List.length_append]; omega) fun w3 H => ?_⟩
    rw [Nat.zero_add, set_w hlt] at H
    have hm3 : ((L.set j (bm, mcs bw n c (addI .i64 ca 1) la)).set jw (bw, flat eW (ws.set i.toNat v) ++ rest))[j]? = some (bm, mcs bw n c (addI .i64 ca 1) la) := by
      rw [List.getElem?_set_ne (fun e => hj e.symm), List.getElem?_set_self hjl]
    refine ⟨rfl, rfl, LdP.atA j H hm3 rfl ⟨rfl, rfl, StP.oneA j H hm3 rfl rfl fun w4 H => EnP.go H fun w5 H => k w5 ?_⟩⟩
    rw [List.set_comm _ _ hj, List.set_set] at H
    rw [List.set_comm _ _ hj]
    exact H
  · unfold upM stL ldE at k
    rw [hi, if_neg (by decide), if_neg (by decide), if_neg (by decide), if_neg (by decide)] at k
    refine brP_neg rfl (EnP.go H fun w3 H => k w3 ?_)
    have s1 : ∀ {m : Nat} {x : Nat × List Value}, L[m]? = some x → L.set m x = L := fun {m x} h => List.ext_getElem? fun q => by
      by_cases e : m = q
      · subst e; rw [List.getElem?_set_self (List.getElem?_eq_some_iff.1 h).1, h]
      · rw [List.getElem?_set_ne e]
    rw [s1 hm, s1 hw]; exact H
theorem mcount_q (H : AtD D G w0 w L) (j : Nat) (hm : L[j]? = some (bm, mcs bw n c ca la)) : CallsR Try.prog 19 (.tup [.one (.int .i64), .one (.int .i64)]) [.pointer (some ⟨bm, 0, none⟩)] w (fun x w' => x = (ca, la, ()) ∧ Ext w w') := by
  refine rxFn_ok (C := M0) (ann := fun _ => []) (Eq.mpr (mcount_vc _ w _) ?_)
  have h := H.get hm
  refine brP_neg rfl ⟨rfl, rfl, LdP.of ca (by rw [addP_B]; exact h.rd1 rfl) ⟨rfl, rfl, LdP.of la (by rw [addP_B]; exact h.rd1 rfl) fun w1 h1 => ⟨rfl, h1⟩⟩⟩
theorem mnew_at (H : AtD D G w0 w L) (hn : 1 ≤ n ∧ n ≤ 65536) {K : Option Addr × Int × Unit → World → Prop}
    (k : ∀ bm bw w1, AtD D G w0 w1 ((bm, mcs bw n n 0 0) :: (bw, flat eW (List.replicate n 0) ++ []) :: L) → K (some ⟨bm, 0, none⟩, 0, ()) w1) :
    CaP Try.prog 22 (.tup [.one .ptr, .one (.int .i64)]) [.int .i64 (n : Int)] w K := by
  refine CaP.go H fun w1 H => rxFn_ok (C := M0) (ann := fun _ => []) (Eq.mpr (mnew_vc _ w1 K) ?_)
  refine brP_neg (by rw [decide_eq_false (by omega), decide_eq_false (by omega)]; rfl) (MkP.go H rfl (by omega) (by omega) (by omega) (by omega) fun bw w2 H => AlP.go H fun bm w3 H => EnP.go H fun w4 H => k bm bw w4 ?_)
  rw [flat_replicate, List.append_nil]
  exact H
theorem nnew_at (H : AtD D G w0 w L) (hn : 1 ≤ n ∧ n ≤ 65536) {K : Option Addr × Int × Unit → World → Prop}
    (k : ∀ bm bw w1, AtD D G w0 w1 ((bm, mcs bw n n 0 0) :: (bw, flat eW (List.replicate n 0) ++ []) :: L) → K (some ⟨bm, 0, none⟩, 0, ()) w1) :
    CaP Try.prog 23 (.tup [.one .ptr, .one (.int .i64)]) [.int .i64 (n : Int)] w K := by
  refine CaP.go H fun w1 H => rxFn_ok (C := M0) (ann := fun _ => []) (Eq.mpr (nnew_vc _ w1 K) ?_)
  refine brP_neg (by rw [decide_eq_false (by omega), decide_eq_false (by omega)]; rfl) (MkP.go H rfl (by omega) (by omega) (by omega) (by omega) fun bw w2 H => AlP.go H fun bm w3 H => EnP.go H fun w4 H => k bm bw w4 ?_)
  rw [flat_replicate, List.append_nil]
  exact H
theorem nthere_q (H : AtD D G w0 w L) (j : Nat) (hm : L[j]? = some (bm, mcs bw n c ca la)) (hn : n = ws.length) (i : Int) : QCalls Try.prog 35 [.pointer (some ⟨bm, 0, none⟩), .int .i64 i] w (.bool (inM ws i)) :=
  QCalls.of (s := .el (.one .bool)) fun w' h' => by
    refine rxFn_ok (C := M0) (ann := fun _ => []) (Eq.mpr (nthere_vc _ i w' _) ?_)
    have h := (H.get hm).ext h'
    refine ⟨fun _ => rfl, fun _ => rfl, LdP.of (some ⟨bw, 0, none⟩, n, c) (by rw [addP_B]; exact h.rd1 rfl) fun w1 h1 => ⟨?_, h1⟩⟩
    unfold inM; rw [hn]
theorem nload_at (H : AtD D G w0 w L) (j jw : Nat) (hm : L[j]? = some (bm, mcs bw n c ca la)) (hw : L[jw]? = some (bw, flat eW ws ++ rest)) (hj : j ≠ jw) (hn : n = ws.length) (i : Int) {K : Int × Int × Unit → World → Prop}
    (k : ∀ w2, AtD D G w0 w2 (L.set j (bm, mcs bw n c (upM ws i ca) la)) → K (ldV ws i, ldE ws i, ()) w2) :
    CaP Try.prog 36 (.tup [.one (.int .u64), .one (.int .i64)]) [.pointer (some ⟨bm, 0, none⟩), .int .i64 i] w K := by
  refine CaP.go H fun w1 H => rxFn_ok (C := M0) (ann := fun _ => []) (Eq.mpr (nload_vc _ i w1 K) ?_)
  refine ⟨_, nthere_q H j hm hn i, ?_⟩
  unfold upM ldV ldE at k
  cases hi : inM ws i with
  | true =>
    rw [hi, if_pos rfl, if_pos rfl, if_pos rfl] at k
    have hi' := inM_iff.1 hi
    have hjl : j < L.length := (List.getElem?_eq_some_iff.1 hm).1
    refine brP_neg rfl ⟨rfl, rfl, LdP.atA j H hm rfl ⟨rfl, rfl, StP.oneA j H hm rfl rfl fun w2 H => ?_⟩⟩
    have H : AtD D G w0 w2 (L.set j (bm, mcs bw n c (addI .i64 ca 1) la)) := H
    have hm2 : (L.set j (bm, mcs bw n c (addI .i64 ca 1) la))[j]? = some (bm, mcs bw n c (addI .i64 ca 1) la) := List.getElem?_set_self hjl
    have hw2 : (L.set j (bm, mcs bw n c (addI .i64 ca 1) la))[jw]? = some (bw, flat eW ws ++ rest) := by rw [List.getElem?_set_ne hj]; exact hw
    refine ⟨rfl, rfl, LdP.atA j H hm2 rfl ⟨⟨rfl, by omega, by show i < ((n : Nat) : Int); omega⟩, ?_⟩⟩
    exact LdP.atA jw H hw2 (w_el (by omega)) (EnP.go H fun w3 H => k w3 H)
  | false =>
    rw [hi, if_neg (by decide), if_neg (by decide), if_neg (by decide)] at k
    refine brP_pos rfl (EnP.go H fun w3 H => k w3 ?_)
    rw [show L.set j (bm, mcs bw n c ca la) = L from List.ext_getElem? fun m => by
      by_cases e : j = m
      · subst e; rw [List.getElem?_set_self (List.getElem?_eq_some_iff.1 hm).1, hm]
      · rw [List.getElem?_set_ne e]]
    exact H
theorem nstore_at (H : AtD D G w0 w L) (j jw : Nat) (hm : L[j]? = some (bm, mcs bw n c ca la)) (hw : L[jw]? = some (bw, flat eW ws ++ rest)) (hj : j ≠ jw) (hn : n = ws.length) (i v : Int) {K : Int → World → Prop}
    (k : ∀ w2, AtD D G w0 w2 ((L.set j (bm, mcs bw n c (upM ws i ca) (upM ws i la))).set jw (bw, flat eW (stL ws i v) ++ rest)) → K (ldE ws i) w2) :
    CaP Try.prog 24 (.el (.one (.int .i64))) [.pointer (some ⟨bm, 0, none⟩), .int .i64 i, .int .u64 v] w K := by
  refine CaP.go H fun w1 H => rxFn_ok (C := M0) (ann := fun _ => []) (Eq.mpr (nstore_vc _ i v w1 K) ?_)
  have hjl : j < L.length := (List.getElem?_eq_some_iff.1 hm).1
  refine ⟨_, nthere_q H j hm hn i, ?_⟩
  unfold upM stL ldE at k
  cases hi : inM ws i with
  | true =>
    rw [hi, if_pos rfl, if_pos rfl, if_pos rfl, if_pos rfl] at k
    have hi' := inM_iff.1 hi
    refine brP_neg rfl ⟨rfl, rfl, LdP.atA j H hm rfl ⟨rfl, rfl, StP.oneA j H hm rfl rfl fun w2 H => ?_⟩⟩
    have H : AtD D G w0 w2 (L.set j (bm, mcs bw n c (addI .i64 ca 1) la)) := H
    have hm2 : (L.set j (bm, mcs bw n c (addI .i64 ca 1) la))[j]? = some (bm, mcs bw n c (addI .i64 ca 1) la) := List.getElem?_set_self hjl
    refine ⟨rfl, rfl, LdP.atA j H hm2 rfl ⟨rfl, rfl, StP.oneA j H hm2 rfl rfl fun w3 H => ?_⟩⟩
    rw [List.set_set] at H
    have H : AtD D G w0 w3 (L.set j (bm, mcs bw n c (addI .i64 ca 1) (addI .i64 la 1))) := H
    have hm3 : (L.set j (bm, mcs bw n c (addI .i64 ca 1) (addI .i64 la 1)))[j]? = some (bm, mcs bw n c (addI .i64 ca 1) (addI .i64 la 1)) := List.getElem?_set_self hjl
    have hw3 : (L.set j (bm, mcs bw n c (addI .i64 ca 1) (addI .i64 la 1)))[jw]? = some (bw, flat eW ws ++ rest) := by rw [List.getElem?_set_ne hj]; exact hw
    have hl : (flat eW ws).length = ws.length * 1 := flat_length eW ws
    refine ⟨rfl, rfl, LdP.atA j H hm3 rfl ⟨⟨rfl, by omega, by show i < ((n : Nat) : Int); omega⟩, StP.oneA jw H hw3 rfl (by rw [Nat.blt_eq, List.length_append]; omega) fun w4 H => EnP.go H fun w5 H => k w5 ?_⟩⟩
    rw [Nat.zero_add, Nat.mul_one, set_w (by omega)] at H
    exact H
  | false =>
    rw [hi, if_neg (by decide), if_neg (by decide), if_neg (by decide), if_neg (by decide)] at k
    refine brP_pos rfl (EnP.go H fun w3 H => k w3 ?_)
    have s1 : ∀ {m : Nat} {x : Nat × List Value}, L[m]? = some x → L.set m x = L := fun {m x} h => List.ext_getElem? fun q => by
      by_cases e : m = q
      · subst e; rw [List.getElem?_set_self (List.getElem?_eq_some_iff.1 h).1, h]
      · rw [List.getElem?_set_ne e]
    rw [s1 hm, s1 hw]; exact H
end
end Go.Proofs.Ytffnfcokgemgjaa
