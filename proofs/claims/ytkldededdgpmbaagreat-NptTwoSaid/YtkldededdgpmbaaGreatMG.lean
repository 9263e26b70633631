import Derived.Test.YtkldededdgpmbaaGreatMF
import Derived.Test.YtkldededdgpmbaaGreatME
namespace Go.Proofs.YtkldededdgpmbaaGreat
set_option linter.unusedSimpArgs false
set_option linter.unusedVariables false
set_option maxRecDepth 100000
open Go.RX D
/-! ### What all laws of tables share -/
abbrev sOp : List Sc := [.int .i64, .int .i64, .int .i64, .int .i64, .int .i64]
theorem rng8 {x : Int} (h : (Lit.int .u8 x).wf = true) : 0 ≤ x ∧ x < 256 := by
  simp [Lit.wf, IntKind.min, IntKind.max, IntKind.bits, IntKind.signed] at h
  omega
theorem rng16 {x : Int} (h : (Lit.int .u16 x).wf = true) : 0 ≤ x ∧ x < 65536 := by
  simp [Lit.wf, IntKind.min, IntKind.max, IntKind.bits, IntKind.signed] at h
  omega
theorem cv_id {x : Int} (h : -9223372036854775808 ≤ x) (h' : x < 9223372036854775808) : convI .i64 x = x := wrap_i64_id h h'
theorem rm_id {x d : Int} (h : 0 ≤ x) : remI x d = x % d := by unfold remI; exact Int.tmod_eq_emod_of_nonneg h
theorem fin_npt {w w1 : World} (h : Ext w w1) : CaP Tryz.prog 19 (.el (.one .bool)) [] w1 fun (x : Bool) (w2 : World) => EnP w2 fun (w1 : World) => x = true ∧ Ext w w1 :=
  CaP.val ((At.start [] w).ext h) (s := .el (.one .bool)) true (fun w3 _ => known_ok w3) fun w4 H => EnP.go H fun w5 H => ⟨rfl, H.all⟩
section
variable {Q : Sys} {D G : List Nat} {w0 w w1 : World} {s : WD} {L0 L1 : List (Nat × List Value)}
namespace SAt
theorem exts (S : SAt Q [] [] w0 w s L0) : Ext w0 w := by
  obtain ⟨h1, h2, h3, h4, ca, la, H⟩ := S
  exact H.all
theorem ldAA (i : Nat) (S : SAt Q D G w0 w s L0) {g : Option Bool} {el : El} {K : el.T → Prop} {b o n m : Nat} {l : List Value} {x : el.T} (hL : L0[i]? = some (b, l)) (hv : elAt l (o + n + m) el = some x) (k : K x) : LdP w g (addP (addP (some ⟨b, o, none⟩) n) m) el K := by
  rw [addP_B, addP_B]; exact .of x (elAt_rd (S.get hL) hv) k
/-- An operation that was handed in lies in a variable. -/
theorem opv (S : SAt Q [] [] w0 w s L0) {p : Option Addr} {xs : List (ScsT sOp)} (hx : Sl w0 (.agg sOp) p xs) {i : Nat} {m : Nat} (hm : m = xs.length) (hi : i < m) {t : TypeId} {K : Nat → World → Prop} (k : ∀ o : ScsT sOp, o ∈ xs → ∀ b w1, SAt Q [] [] w0 w1 s ((b, [.int .i64 o.1, .int .i64 o.2.1, .int .i64 o.2.2.1, .int .i64 o.2.2.2.1, .int .i64 o.2.2.2.2.1]) :: L0) → K b w1) :
    (p.isSome = true ∧ 0 ≤ (i : Int) ∧ (i : Int) < (m : Int)) ∧ LdP w none (addP p ((i : Int).toNat * 5)) (.agg sOp) fun x =>
      AlP w ⟨[.int .i64 0, .int .i64 0, .int .i64 0, .int .i64 0, .int .i64 0]⟩ t fun b w2 => StP w2 (some ⟨b, 0, none⟩) [.int .i64 x.1, .int .i64 x.2.1, .int .i64 x.2.2.1, .int .i64 x.2.2.2.1, .int .i64 x.2.2.2.2.1] fun w3 => K b w3 := by
  have hi' : i < xs.length := by omega
  have hget : xs[i]? = some xs[i] := List.getElem?_eq_getElem hi'
  have h1 := (hx.ext S.exts) i _ hget
  refine ⟨⟨h1.1, by omega, by omega⟩, LdP.of xs[i] h1.2 ?_⟩
  exact S.al fun b w2 S => S.stAll 0 rfl rfl rfl fun w3 S => k xs[i] (List.getElem_mem _) b w3 S
end SAt
end
/-- What the law of two guests keeps. -/
structure TwoI (g : Gh) (s : WD) (r0 r1 pg : Int) (gone : Bool) : Prop where
  inv : Inv g s
  rt : Rt g
  a : gone = false → g r0 = some (1, 3, 0)
  b : g r1 = some (2, 3, 0)
  q : qryV s r1 false pg = (77, 5, 0, ())
  n : (allS2 s r1 false).length = 4
  len : s.1.length = 3200
theorem allS2_len {s s' : WD} {r : Int} (h : underL s'.1 3 r = underL s.1 3 r) : (allS2 s' r false).length = (allS2 s r false).length := by
  rw [show allS2 s' r false = sortI (underL s'.1 3 r) from if_neg (by decide), show allS2 s r false = sortI (underL s.1 3 r) from if_neg (by decide), h]
theorem TwoI.chg {g g' : Gh} {s s' : WD} {r0 r1 pg p : Int} {l : Nat} (T : TwoI g s r0 r1 pg false) (C : Chg (sameP 1 l p) 1 g g' s s') : TwoI g' s' r0 r1 pg false where
  inv := C.inv
  rt := T.rt.keep C.root
  a := fun _ => C.root.to (T.a rfl)
  b := C.root.to T.b
  q := (T.inv.qry_keep C.inv C.endk C.root T.b (fun h => absurd h.1 (by decide))).trans T.q
  n := (allS2_len (T.inv.under_other C.othr 3 (by decide) T.b)).trans T.n
  len := C.len.1.trans T.len
theorem TwoI.drop {g : Gh} {s : WD} {r0 r1 pg : Int} (T : TwoI g s r0 r1 pg false) : TwoI (delG g 1) (dropS s r0 false) r0 r1 pg true := by
  obtain ⟨I, R, e1, e2, e3⟩ := T.inv.dropped T.rt (T.a rfl)
  refine ⟨I, R, fun h => (by cases h), delG_some.2 ⟨T.b, by show (2 : Int) ≠ 1; decide⟩, ?_, ?_, ?_⟩
  · have : qryV (dropS s r0 false) r1 false pg = qryV s r1 false pg := by unfold qryV; rw [e1]
    rw [this]; exact T.q
  · rw [allS2_len (s' := dropS s r0 false) (by rw [e1])]; exact T.n
  · rw [e1]; exact T.len
theorem map_gone (s : WD) (o r p f t : Int) : mapS s o r true p f t = s := if_pos rfl
theorem lrg_gone (s : WD) (o r p f t : Int) : lrgS s o r true p f t = s := if_pos rfl
theorem pro_gone (s : WD) (o r p t : Int) : proS s o r true p t = s := if_pos rfl
theorem dropS_gone (s : WD) (r : Int) : dropS s r true = s := if_pos rfl
theorem ghB_rt (n : Nat) : Rt (ghB n) := fun f o x h => by
  unfold ghB setG at h
  split at h
  · cases h; rfl
  · split at h
    · cases h; rfl
    · cases h
theorem begin_two (pg : Int) (hp : 0 ≤ pg ∧ pg < 65536) : mapE (stB 200) (rtB 200) false pg 77 5 = 0 ∧ ∃ g, TwoI g (mapS (stB 200) 2 (rtB 200) false pg 77 5) (rtA 200) (rtB 200) pg false := by
  obtain ⟨_, hB, hA, hne, I, l1, l2, c0, c3, c5, hz⟩ := stB_ok (n := 200) ⟨by decide, by decide⟩
  obtain ⟨g0, g1⟩ := ghB_root 200 hne
  have hon : ∀ {f : Int} {v : Int × Nat × Int}, ghB 200 f = some v → v.2.1 = 3 := fun h => ghB_only h
  have Rg : Rt (ghB 200) := ghB_rt 200
  have l1 : (stB 200).1.length = 3200 := l1
  generalize ghB 200 = g at *
  generalize stB 200 = s at *
  generalize rtA 200 = r0 at *
  generalize rtB 200 = r1 at *
  have hend : ∀ q : Int, 0 ≤ q ∧ q < 65536 → EndAt g s 2 q r1 3 ∧ (entA s.1 (16 * r1 + px 3 q % 16)).1 = false := fun q hq => I.end_root (p := q) g1 hq (fun k _ _ => hz _)
  obtain ⟨E, z⟩ := hend pg hp
  have hE := I.map_can (f := 77) (rt := 5) g1 hp ⟨by decide, by decide⟩ ⟨by decide, by decide⟩ E z (by omega)
  refine ⟨hE, ?_⟩
  obtain ⟨_, g', C, hq, _, _, ⟨f0, E0⟩, _, hN⟩ := I.map g1 hE
  have hN0 : NEx g s none := fun f o l x h hl _ => by
    have : l = 3 := hon h
    omega
  refine ⟨g', C.inv, Rg.keep C.root, fun _ => C.root.to g0, C.root.to g1, hq, ?_, C.len.1.trans l1⟩
  rw [show allS2 (mapS s 2 r1 false pg 77 5) r1 false = sortI (underL (mapS s 2 r1 false pg 77 5).1 3 r1) from if_neg (by decide), sortI_len]
  refine C.inv.one_page (Rg.keep C.root) (C.root.to g1) (hN hN0) hp E0 fun q hq hok => ?_
  refine Classical.byContradiction fun hne' => ?_
  rw [I.qry_keep C.inv C.endk C.root g1 (p := q) (fun h => hne' h.2)] at hok
  obtain ⟨E2, z2⟩ := hend q hq
  rw [I.qry_of g1 hq E2, res0 _ _ z2] at hok
  exact absurd hok (by decide)
theorem ltwo_row (p : Option Addr) (m c : Nat) (xs : List (ScsT sOp)) (hm : m = xs.length) (hmx : m ≤ maxLen) {w : World} (hx : Sl w (.agg sOp) p xs) (hxw : ∀ x ∈ xs, okScs sOp x) (y : Int) (hy : (Lit.int .u16 y).wf = true) :
    CallsR Tryz.prog 7 (.el (.one .bool)) [.slice p m c, .int .u16 y] w (fun b w' => b = true ∧ Ext w w') := by
  refine rxFn_ok (C := N3) (ann := ztwo_vc_ann) (Eq.mpr (ztwo_vc p m c y w _) ?_)
  have hy := rng16 hy
  rw [cv_id (x := y) (by omega) (by omega)]
  refine begin_at (At.start [] w) 200 ⟨by decide, by decide⟩ (fun h => absurd h (by decide)) fun _ Q Q' b b0 b1 c0 c1 w1 few T => ?_
  have S := T.fst.sub (L1 := [(b, wcs2 Q Q' (at0 b0) (at0 b1) (at0 c0) (at0 c1)), (b0, tcs Q 1 (rtA 200) false), (b1, tcs Q 2 (rtB 200) false)]) (.cons_cons _ (.cons_cons _ (.cons_cons _ (List.nil_sublist _))))
  clear T
  obtain ⟨hE, g0, T0⟩ := begin_two y hy
  obtain ⟨_, hB, hA, _, _, l1, _⟩ := stB_ok (n := 200) ⟨by decide, by decide⟩
  have hrA : 0 ≤ rtA 200 ∧ rtA 200 < 4096 := by omega
  have hrB : 0 ≤ rtB 200 ∧ rtB 200 < 4096 := by omega
  have few2 : ∀ s : WD, s.1.length = 3200 → Few Q s := fun s h => by
    obtain ⟨f1, f2⟩ := few
    exact ⟨by omega, by omega⟩
  refine ⟨fun _ => rfl, fun _ => rfl, fun _ => ⟨rfl, by decide, by decide⟩, S.ldAA 0 rfl rfl ⟨fun _ => rfl, fun _ => rfl, fun _ => ⟨rfl, by decide, by decide⟩, S.ldAA 0 rfl rfl (brP_neg rfl ⟨rfl, rfl, ⟨rfl, by decide, by decide⟩, S.ldAA 0 rfl rfl (S.map 2 rfl y 77 5 fun w2 S => ?_)⟩)⟩⟩
  rw [hE]
  refine brP_neg rfl ?_
  generalize mapS (stB 200) 2 (rtB 200) false y 77 5 = s0 at S T0
  generalize rtA 200 = r0 at *
  generalize rtB 200 = r1 at *
  let J : World → Prop := fun w' => ∃ g s gone, TwoI g s r0 r1 y gone ∧ SAt Q [] [] w w' s [(b, wcs2 Q Q' (at0 b0) (at0 b1) (at0 c0) (at0 c1)), (b0, tcs Q 1 r0 gone), (b1, tcs Q 2 r1 false)]
  refine ⟨fun k v w' => ∃ i : Nat, v.1 = (i : Int) ∧ k + i = m ∧ J w', ⟨m, fun w3 h3 => ⟨0, rfl, rfl, g0, s0, false, T0, S.ext h3⟩⟩, ?_⟩
  clear S T0 hE few
  rintro k ⟨v, u⟩ w3 ⟨i, e, hk, g, s, gone, T, S⟩
  dsimp only at e ⊢
  subst e
  refine brP_intro (fun cc => ?_) (fun cc => fin_npt S.exts)
  have hi : i < m := by
    simp only [Bool.and_eq_true, decide_eq_true_eq] at cc
    omega
  refine S.opv hx hm hi fun o ho bo w4 S => ⟨fun _ w' => J w', ?_, ?_⟩
  · refine ⟨rfl, S.ldA 0 rfl rfl ?_⟩
    refine brP_intro (fun c1 => ⟨rfl, rfl, ⟨rfl, by decide, by decide⟩, S.ldAA 1 rfl rfl ⟨rfl, S.ldA 0 rfl rfl ⟨rfl, S.ldA 0 rfl rfl ⟨rfl, S.ldA 0 rfl rfl (S.map 2 rfl _ _ _ fun w5 S => ?_)⟩⟩⟩⟩) (fun c1 => brP_intro (fun c2 => ⟨rfl, rfl, ⟨rfl, by decide, by decide⟩, S.ldAA 1 rfl rfl ⟨rfl, S.ldA 0 rfl rfl ⟨rfl, S.ldA 0 rfl rfl ⟨rfl, S.ldA 0 rfl rfl (S.large 2 rfl _ _ _ fun w5 S => ?_)⟩⟩⟩⟩) (fun c2 =>
      brP_intro (fun c3 => ⟨rfl, rfl, ⟨rfl, by decide, by decide⟩, S.ldAA 1 rfl rfl ⟨rfl, S.ldA 0 rfl rfl (S.unmap (few2 _ T.len) 2 rfl hrA _ fun w5 S => ?_)⟩⟩) (fun c3 => brP_intro (fun c4 => ⟨rfl, rfl, ⟨rfl, by decide, by decide⟩, S.ldAA 1 rfl rfl ⟨rfl, S.ldA 0 rfl rfl ⟨rfl, S.ldA 0 rfl rfl (S.protect 2 rfl _ _ fun w5 S => ?_)⟩⟩⟩) (fun c4 =>
        brP_intro (fun c5 => ⟨rfl, rfl, ⟨rfl, by decide, by decide⟩, S.ldAA 1 rfl rfl (S.drop 2 rfl hrA fun x rows w5 S _ => ?_)⟩) (fun c5 => ⟨g, s, gone, T, S.tail⟩)))))
    · cases gone with
      | true =>
        rw [map_gone] at S
        exact ⟨g, s, true, T, S.tail⟩
      | false =>
        obtain ⟨g', C, _⟩ := T.inv.mapC (T.a rfl) o.2.2.1 o.2.2.2.1 o.2.2.2.2.1
        exact ⟨g', _, false, T.chg C, S.tail⟩
    · cases gone with
      | true =>
        rw [lrg_gone] at S
        exact ⟨g, s, true, T, S.tail⟩
      | false =>
        obtain ⟨g', C, _⟩ := T.inv.lrgC (T.a rfl) o.2.2.1 o.2.2.2.1 o.2.2.2.2.1
        exact ⟨g', _, false, T.chg C, S.tail⟩
    · cases gone with
      | true =>
        rw [(unm_gone s 1 r0 _).2] at S
        exact ⟨g, s, true, T, S.tail⟩
      | false =>
        obtain ⟨g', C, _⟩ := T.inv.unmC (T.a rfl) o.2.2.1
        exact ⟨g', _, false, T.chg C, S.tail⟩
    · cases gone with
      | true =>
        rw [pro_gone] at S
        exact ⟨g, s, true, T, S.tail⟩
      | false =>
        obtain ⟨g', C, _⟩ := T.inv.proC (T.a rfl) o.2.2.1 o.2.2.2.2.1
        exact ⟨g', _, false, T.chg C, S.tail⟩
    · have S := (S.sub (List.sublist_append_left _ _)).tail
      cases gone with
      | true =>
        rw [dropS_gone] at S
        exact ⟨g, s, true, T, S⟩
      | false => exact ⟨delG g 1, _, true, T.drop, S⟩
  · clear S T
    rintro _ w5 ⟨g, s, gone, T, S⟩
    refine ⟨rfl, rfl, ⟨rfl, by decide, by decide⟩, S.ldAA 0 rfl rfl (S.query 2 rfl y fun w6 S => ?_)⟩
    rw [T.q]
    refine ⟨fun _ => rfl, fun _ => rfl, fun _ => ⟨rfl, by decide, by decide⟩, S.ldAA 0 rfl rfl (brP_neg rfl (S.all 2 rfl hrB fun x rows w7 S hr => ?_))⟩
    have hl : x.2.1 = 4 := by rw [hr.1]; exact T.n
    rw [hl]
    refine brP_neg rfl fun w8 h8 => ⟨k - 1, by omega, i + 1, ?_, by omega, g, s, gone, T, (S.sub (List.sublist_append_left _ _)).ext h8⟩
    have hc : i < 30 := by
      simp only [Bool.and_eq_true, decide_eq_true_eq] at cc
      omega
    rw [addI_i64 (by omega) (by omega)]; omega
end Go.Proofs.YtkldededdgpmbaaGreat
