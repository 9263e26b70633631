import Derived.Test.YtcnaaobeooiojaaU6
namespace Go.Proofs.Ytcnaaobeooiojaa
set_option linter.unusedSimpArgs false
set_option linter.unusedVariables false
open Go.RX
abbrev eS : El := .one .slice
def xsU (rb : Nat → Nat) (n : Int) (i : Nat) : List (Option Addr × Nat × Nat) := (List.range i).map fun k => (some ⟨rb k, 0, none⟩, n.toNat, n.toNat)
def rowsU (rb : Nat → Nat) (n : Int) (i : Nat) : List (Nat × List Value) := (List.range i).map fun k => (rb k, flat eQ (rowL n k0 k) ++ [])
theorem row_zero (n : Int) (h : n ≤ 32) (k : Nat) : flat eQ (rowL n k0 k) = (List.replicate n.toNat [Value.int .i64 0, .int .i64 0, .int .i64 0, .bool false, .bool false]).flatten := by
  have e : rowL n k0 k = List.replicate n.toNat zP := by
    apply List.ext_getElem?
    intro i
    by_cases hi : (i : Int) < n
    · rw [row_get hi, List.getElem?_replicate, if_pos (by omega)]
      unfold k0
      rw [List.getD_eq_getElem?_getD, List.getElem?_replicate]
      split <;> rfl
    · rw [List.getElem?_eq_none (by rw [row_len]; omega), List.getElem?_eq_none (by simp; omega)]
  rw [e, flat_replicate]; rfl
theorem hdr_eq (rb : Nat → Nat) (n : Int) : flat eS (xsU rb n 16) = hdr rb n := by
  unfold xsU hdr flat
  rw [List.flatMap_map]
  simp [cellsOf, El.emb, Sc.emb]
  rfl
theorem xsU_len (rb : Nat → Nat) (n : Int) (i : Nat) : (xsU rb n i).length = i := by simp [xsU]
theorem xsU_succ (rb : Nat → Nat) (n : Int) (i b : Nat) : xsU (fun k => if k = i then b else rb k) n (i + 1) = xsU rb n i ++ [(some ⟨b, 0, none⟩, n.toNat, n.toNat)] := by
  unfold xsU
  rw [List.range_succ, List.map_append]
  congr 1
  · apply List.map_congr_left
    intro k hk
    have hne : ¬ k = i := by have := List.mem_range.1 hk; omega
    simp only [if_neg hne]
  · simp
theorem rowsU_succ (rb : Nat → Nat) (n : Int) (i b : Nat) : rowsU (fun k => if k = i then b else rb k) n (i + 1) = rowsU rb n i ++ [(b, flat eQ (rowL n k0 i) ++ [])] := by
  unfold rowsU
  rw [List.range_succ, List.map_append]
  congr 1
  · apply List.map_congr_left
    intro k hk
    have hne : ¬ k = i := by have := List.mem_range.1 hk; omega
    simp only [if_neg hne]
  · simp
section
variable {D G : List Nat} {w0 w w' : World} {A : List (Nat × List Value)}
theorem perm3 {α : Type} (a b c : α) (r s : List α) : ([a] ++ (c :: ((r ++ [b]) ++ s))).Perm (a :: b :: c :: (r ++ s)) := by
  refine .cons _ ?_
  have h1 : ((r ++ [b]) ++ s).Perm (b :: (r ++ s)) := by
    rw [List.append_assoc]
    exact List.perm_middle
  exact (h1.cons c).trans (.swap b c _)
theorem unew_at (H : AtD D G w0 w A) (n : Int) {K : Option Addr × Int × Unit → World → Prop} (hb : n < 1 ∨ n > 32 → ∀ bp w1, AtD D G w0 w1 ((bp, [.slice none 0 0]) :: A) → K (some ⟨bp, 0, none⟩, 1, ()) w1)
    (hg : 1 ≤ n → n ≤ 32 → ∀ bp bl c rb rest w1, AtD D G w0 w1 (A ++ uL bp bl c rb rest n k0) → K (some ⟨bp, 0, none⟩, 0, ()) w1) :
    CaP Try.prog 10 (.tup [.one .ptr, .one (.int .i64)]) [.int .i64 n] w K := by
  refine CaP.go H fun w1 H => rxFn_ok (C := R2) (ann := unew_vc_ann) (Eq.mpr (unew_vc n w1 K) ?_)
  refine AlP.go H fun bp w2 H => brP_intro (fun c => EnP.go H fun w3 H => hb (by simp at c; omega) bp w3 H) (fun c => ?_)
  have hn : 1 ≤ n ∧ n ≤ 32 := by simp at c; omega
  refine ⟨fun q s w' => ∃ (i : Nat) (rb : Nat → Nat) (Ls : List (Nat × List Value)) (sl : Option Addr × Nat × Nat), s.1 = i ∧ q + i = 16 ∧
      ((sl = (none, 0, 0) ∧ xsU rb n i = [] ∧ Ls = []) ∨ ∃ bs c rest, sl = (some ⟨bs, 0, none⟩, (xsU rb n i).length, c) ∧ Ls = [(bs, flat eS (xsU rb n i) ++ rest)] ∧ (flat eS (xsU rb n i) ++ rest).length = c * stride eS ∧ (xsU rb n i).length ≤ c) ∧
      AtD D G w0 w' (Ls ++ ((bp, [.slice sl.1 sl.2.1 sl.2.2]) :: (rowsU rb n i ++ A))), ⟨16, fun w3 h3 => ⟨0, fun _ => 0, [], (none, 0, 0), rfl, rfl, .inl ⟨rfl, rfl, rfl⟩, H.ext h3⟩⟩, ?_⟩
  clear H
  rintro q ⟨i', u⟩ w3 ⟨i, rb, Ls, sl, hi, hq, hsl, H⟩
  simp only at hi
  subst hi
  dsimp only
  refine brP_intro (fun c1 => ?_) (fun c1 => ?_)
  · have hi16 : i < 16 := by simp at c1; omega
    have hbp : Blk w3 bp [.slice sl.1 sl.2.1 sl.2.2] := H.blk (bp, _) (List.mem_append_right _ List.mem_cons_self)
    refine ⟨rfl, rfl, LdP.of sl (by rw [addP_B]; exact hbp.rd1 rfl) ?_⟩
    refine MkP.go H rfl (by omega) (by omega) (by omega) (by omega) fun b w4 H => AlP.go H fun b2 w5 H => fun w6 h6 => ?_
    have H := H.ext h6
    rw [← row_zero n hn.2 i] at H
    have H : AtD D G w0 w6 ((b2, cellsOf eS (some ⟨b, 0, none⟩, n.toNat, n.toNat)) :: (b, flat eQ (rowL n k0 i)) :: (Ls ++ ((bp, [.slice sl.1 sl.2.1 sl.2.2]) :: (rowsU rb n i ++ A)))) := H
    have H := H.perm (L' := (b2, cellsOf eS (some ⟨b, 0, none⟩, n.toNat, n.toNat)) :: (Ls ++ ((b, flat eQ (rowL n k0 i)) :: (bp, [.slice sl.1 sl.2.1 sl.2.2]) :: (rowsU rb n i ++ A)))) (.cons _ List.perm_middle)
    refine AtD.grow H hsl rfl rfl rfl (by rw [xsU_len]; omega) fun bs c' rest' w7 hlen hle H => ?_
    refine ⟨rfl, rfl, StP.oneA 2 H rfl rfl rfl fun w8 H w9 h9 => ?_⟩
    have e1 := xsU_succ rb n i b
    have e2 := rowsU_succ rb n i b
    have elen : (xsU rb n i).length + 1 = (xsU (fun k => if k = i then b else rb k) n (i + 1)).length := by rw [xsU_len, xsU_len]
    refine ⟨q - 1, by omega, i + 1, (fun k => if k = i then b else rb k), [(bs, flat eS (xsU rb n i ++ [(some ⟨b, 0, none⟩, n.toNat, n.toNat)]) ++ rest')], (some ⟨bs, 0, none⟩, (xsU rb n i).length + 1, c'), by rw [addI_i64 (by omega) (by omega)]; rfl, by omega, .inr ⟨bs, c', rest', by rw [elen], by rw [e1], by rw [e1]; exact hlen, by rw [← elen]; exact hle⟩, ?_⟩
    rw [e2, List.append_nil]
    exact (H.ext h9).perm (perm3 _ _ _ _ _)
  · have hi16 : i = 16 := by simp at c1; omega
    subst hi16
    rcases hsl with ⟨_, h2, _⟩ | ⟨bs, c', rest, h1, h2, h3, h4⟩
    · have := xsU_len rb n 16
      rw [h2] at this; cases this
    · subst h1; subst h2
      refine EnP.go H fun w4 H => hg hn.1 hn.2 bp bs c' rb rest w4 (H.perm ?_)
      rw [hdr_eq, xsU_len]
      refine List.perm_append_comm.trans ?_
      exact List.Perm.swap (bs, hdr rb n ++ rest) (bp, [Value.slice (some ⟨bs, 0, none⟩) 16 c']) _
end
end Go.Proofs.Ytcnaaobeooiojaa
