import Derived.Test.YtffnfcokgemgjaaV3
namespace Go.Proofs.Ytffnfcokgemgjaa
set_option linter.unusedSimpArgs false
set_option linter.unusedVariables false
set_option maxRecDepth 100000
open Go.RX
abbrev FT : Type := Int × Int × Int × Int × Unit
abbrev wcs (fr pg wt lv : Int) (fd : FT) (s : Option Addr × Nat × Nat) : List Value :=
  [.int .i64 fr, .int .i64 pg, .int .i64 wt, .int .i64 lv, .int .i64 fd.1, .int .i64 fd.2.1, .int .i64 fd.2.2.1, .int .i64 fd.2.2.2.1, .slice s.1 s.2.1 s.2.2, .bool true]
def endF (lv e : Int) : FT := (0, 0, lv, e, ())
def inF (lv wt fr : Int) (ep : Bool) (er : Int) (el : Bool) (ef : Int) : FT := if fr ≥ 4096 then (0, 0, lv, 11, ()) else if allowsE ep er el ef wt then (fr, er, lv, 0, ()) else (fr, er, lv, 7, ())
theorem mUp_new {w : World} {r : Nat} {k : IntKind} {n : Int} {val : Value} {es : Array MapEntry} {clock : Nat} {K : World → Prop} (h : Instr.findNow (.int k) (.int k n) es.toList 0 = some none)
    (hk : K (w.putObj r (.map (es.push { key := .int k n, val, born := clock }) (clock + 1)))) : mUp w r k n val es clock K := by
  unfold mUp
  rw [h]; exact hk
section
variable {D G : List Nat} {w0 w : World} {L : List (Nat × List Value)} {bm bw n c : Nat} {ca la : Int} {ws : List Int} {rest : List Value}
theorem dload_at (H : AtD D G w0 w L) (j jw : Nat) (hm : L[j]? = some (bm, mcs bw n c ca la)) (hw : L[jw]? = some (bw, flat eW ws ++ rest)) (hj : j ≠ jw) (hn : n = ws.length) (h0 : 0 < n) (kd i a b : Int) {K : RT → World → Prop}
    (k : ∀ w2, AtD D G w0 w2 (L.set j (bm, mcs bw n c (upM ws i ca) la)) → K (ldV ws i, false, ldE ws i, ()) w2) :
    CallsR Try.prog 41 (.el (.agg sR)) [.agg ⟨[.int .i64 kd, .int .i64 i, .int .u64 a, .int .u64 b]⟩, .pointer (some ⟨bm, 0, none⟩)] w K := by
  refine rxFnR_ok (C := M1) (ann := fun _ => []) (Eq.mpr (dload_vc kd i a b _ w K) ?_)
  refine AlP.go H fun b1 w2 H => AlP.go H fun b2 w3 H => ⟨rfl, LdP.atA 1 H rfl rfl ?_⟩
  refine mload_at H (j + 2) (jw + 2) hm hw (by omega) hn h0 i fun w4 H => ?_
  refine StP.all 0 H rfl rfl rfl fun w5 H => EnP.go H fun w6 H => LdP.at 0 H rfl rfl (k w6 ?_)
  exact (H.sub (List.sublist_cons_self _ _)).sub (List.sublist_cons_self _ _)
/-- A key that is new, in a map that is new. -/
theorem ins_at (H : AtD D G w0 w L) {r : Nat} {es : Array MapEntry} {clock : Nat} (hr : w0.heap.size ≤ r) (hD : r ∉ D) (hm : MapO w r es clock) {n : Int} {val : Value} {K : World → Prop} (hf : Instr.findNow (.int .i64) (.int .i64 n) es.toList 0 = some none)
    (k : ∀ w2, AtD D G w0 w2 L → MapO w2 r (es.push { key := .int .i64 n, val, born := clock }) (clock + 1) → K w2) :
    ∃ r' es' clock', some r = some r' ∧ MapO w r' es' clock' ∧ mUp w r' .i64 n val es' clock' K :=
  ⟨r, es, clock, rfl, hm, mUp_new hf (k _ (H.putObj hr hm (fun _ _ _ hc => by cases hc) hD) (putObj_self (Array.getElem?_eq_some_iff.1 hm).1))⟩
theorem do_at (H : AtD D G w0 w L) (hD : D = []) (j jw : Nat) (hm : L[j]? = some (bm, mcs bw n c ca la)) (hw : L[jw]? = some (bw, flat eW ws ++ rest)) (hj : j ≠ jw) (hn : n = ws.length) (h0 : 0 < n) (i a b : Int) {K : RT → World → Prop}
    (k : ∀ w2, AtD D G w0 w2 (L.set j (bm, mcs bw n c (upM ws i ca) la)) → K (ldV ws i, false, ldE ws i, ()) w2) :
    CaP Try.prog 28 (.el (.agg sR)) [.pointer (some ⟨bm, 0, none⟩), .agg ⟨[.int .i64 1, .int .i64 i, .int .u64 a, .int .u64 b]⟩] w K := by
  subst hD
  refine CaP.go H fun w1 H => rxFnR_ok (C := M2) (ann := fun _ => []) (Eq.mpr (do_vc _ 1 i a b w1 K) ?_)
  refine AlP.go H fun b1 w2 H => AlP.go H fun b2 w3 H => fun w4 h4 w5 h5 => ?_
  have H := (((H.ext h4).allocO (.map ⟨[]⟩ 0)).ext h5)
  have hsz : w0.heap.size ≤ w4.heap.size := by have := (AtD.ext (w1 := w4) (by assumption) h4 : AtD [] G w0 w4 _).fr.size; exact this
  have m0 : MapO w5 w4.heap.size ⟨[]⟩ 0 := h5.obj (alloc_self w4 _)
  refine ins_at H hsz (by simp) m0 rfl fun w6 H m1 w7 h7 => ?_
  refine ins_at (H.ext h7) hsz (by simp) (h7.obj m1) rfl fun w8 H m2 w9 h9 => ?_
  refine ins_at (H.ext h9) hsz (by simp) (h9.obj m2) rfl fun w10 H m3 w11 h11 => ?_
  refine ins_at (H.ext h11) hsz (by simp) (h11.obj m3) rfl fun w12 H m4 => ?_
  refine ⟨rfl, LdP.atA 1 H rfl rfl ⟨.func (.func 41) #[] #[], true, ⟨_, _, _, rfl, m4, ?_⟩, brP_neg rfl (LdP.at 1 H rfl rfl ?_)⟩⟩
  · exact ⟨rfl, rfl⟩
  · unfold CaV
    refine fun w13 h13 => ⟨_, #[], #[], rfl, by kernel_rfl, ?_⟩
    refine dload_at (H.ext h13) (j + 2) (jw + 2) hm hw (by omega) hn h0 1 i a b fun w14 H => ?_
    refine StP.all 0 H rfl rfl rfl fun w15 H => EnP.go H fun w16 H => LdP.at 0 H rfl rfl (k w16 ?_)
    exact (H.sub (List.sublist_cons_self _ _)).sub (List.sublist_cons_self _ _)
end
section
variable {D G : List Nat} {w0 w : World} {L : List (Nat × List Value)} {bk : Nat} {fr pg wt lv : Int} {fd : FT} {s : Option Addr × Nat × Nat}
theorem wend_at (H : AtD D G w0 w L) (j : Nat) (hk : L[j]? = some (bk, wcs fr pg wt lv fd s)) (x1 x2 x3 x4 : Int) {K : Unit → World → Prop}
    (k : ∀ w2, AtD D G w0 w2 (L.set j (bk, wcs fr pg wt (-1) (x1, x2, lv, x4, ()) s)) → K () w2) :
    CaP Try.prog 30 (.tup []) [.pointer (some ⟨bk, 0, none⟩), .agg ⟨[.int .i64 x1, .int .i64 x2, .int .i64 x3, .int .i64 x4]⟩] w K := by
  refine CaP.go H fun w1 H => rxFn_ok (C := M1) (ann := fun _ => []) (Eq.mpr (wend_vc _ x1 x2 x3 x4 w1 K) ?_)
  have hjl : j < L.length := (List.getElem?_eq_some_iff.1 hk).1
  refine AlP.go H fun b w2 H => ?_
  have hk1 : ((b, [Value.int .i64 x1, .int .i64 x2, .int .i64 x3, .int .i64 x4]) :: L)[j + 1]? = some (bk, wcs fr pg wt lv fd s) := hk
  refine ⟨rfl, rfl, LdP.atA (j + 1) H hk1 rfl ⟨rfl, StP.oneA 0 H rfl rfl rfl fun w3 H => LdP.at 0 H rfl rfl ⟨rfl, rfl, ?_⟩⟩⟩
  rw [addP_B, addP_B]
  refine StP.at (j + 1) H hk rfl (Nat.le_of_ble_eq_true rfl) fun w4 H => ⟨rfl, rfl, ?_⟩
  refine StP.one (j + 1) H (List.getElem?_set_self (Nat.succ_lt_succ hjl)) rfl rfl fun w5 H => EnP.go H fun w6 H => k w6 ?_
  have H := H.sub (List.sublist_cons_self _ _)
  have e : (L.set j (bk, wcs fr pg wt lv (x1, x2, lv, x4, ()) s)).set j (bk, wcs fr pg wt (-1) (x1, x2, lv, x4, ()) s) = L.set j (bk, wcs fr pg wt (-1) (x1, x2, lv, x4, ()) s) := List.set_set ..
  rw [← e]
  exact H
theorem win_at (H : AtD D G w0 w L) (j : Nat) (hk : L[j]? = some (bk, wcs fr pg wt lv fd s)) (f : Int) (ep : Bool) (er : Int) (el : Bool) (ef : Int) {K : Unit → World → Prop}
    (k : ∀ w2, AtD D G w0 w2 (L.set j (bk, wcs fr pg wt (-1) (inF lv wt f ep er el ef) s)) → K () w2) :
    CaP Try.prog 51 (.tup []) [.pointer (some ⟨bk, 0, none⟩), .int .i64 f, .agg ⟨[.bool ep, .int .i64 er, .bool el, .int .i64 ef]⟩] w K := by
  refine CaP.go H fun w1 H => rxFn_ok (C := M1) (ann := fun _ => []) (Eq.mpr (win_vc _ f ep er el ef w1 K) ?_)
  refine AlP.go H fun b w2 H => ?_
  have hk1 : ((b, [Value.bool ep, .int .i64 er, .bool el, .int .i64 ef]) :: L)[j + 1]? = some (bk, wcs fr pg wt lv fd s) := hk
  refine brP_intro (fun c => ?_) (fun c => LdP.at 0 H rfl rfl ⟨rfl, rfl, LdP.atA (j + 1) H hk1 rfl ⟨trivial, brP_intro (fun c2 => ?_) (fun c2 => ?_)⟩⟩)
  · refine wend_at H (j + 1) hk1 0 0 0 11 fun w3 H => EnP.go H fun w4 H => k w4 ?_
    have e : inF lv wt f ep er el ef = (0, 0, lv, 11, ()) := if_pos (of_decide_eq_true c)
    rw [e]; exact H.sub (List.sublist_cons_self _ _)
  · refine ⟨rfl, LdP.atA 0 H rfl rfl (wend_at H (j + 1) hk1 f er 0 7 fun w3 H => EnP.go H fun w4 H => k w4 ?_)⟩
    have e : inF lv wt f ep er el ef = (f, er, lv, 7, ()) := by
      have c3 : allowsE ep er el ef wt = false := by simpa using c2
      unfold inF; rw [if_neg (of_decide_eq_false c), c3]; rfl
    rw [e]; exact H.sub (List.sublist_cons_self _ _)
  · refine ⟨rfl, LdP.atA 0 H rfl rfl (wend_at H (j + 1) hk1 f er 0 0 fun w3 H => EnP.go H fun w4 H => k w4 ?_)⟩
    have e : inF lv wt f ep er el ef = (f, er, lv, 0, ()) := by
      have c3 : allowsE ep er el ef wt = true := by simpa using c2
      unfold inF; rw [if_neg (of_decide_eq_false c), if_pos c3]
    rw [e]; exact H.sub (List.sublist_cons_self _ _)
end
end Go.Proofs.Ytffnfcokgemgjaa
