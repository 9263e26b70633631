import Derived.Test.YtkldededdgpmbaaGreatMF
import Derived.Test.YtkldededdgpmbaaGreatME
namespace Go.Proofs.YtkldededdgpmbaaGreat
set_option linter.unusedSimpArgs false
set_option linter.unusedVariables false
set_option maxRecDepth 100000
open Go.RX D
/-! ### What all laws of tables share -/
abbrev sOp : List Sc := [.int .i64, .int .i64, .int .i64, .int .i64, .int .i64]
theorem rng8 {x : Int} (h : (Lit.int .u8 x).wf = true) : 0 ≤ x ∧ x < 256 := by
  simp [Lit.wf, IntKind.min, IntKind.max, IntKind.bits, IntKind.signed] at h
  omega
theorem rng16 {x : Int} (h : (Lit.int .u16 x).wf = true) : 0 ≤ x ∧ x < 65536 := by
  simp [Lit.wf, IntKind.min, IntKind.max, IntKind.bits, IntKind.signed] at h
  omega
theorem cv_id {x : Int} (h : -9223372036854775808 ≤ x) (h' : x < 9223372036854775808) : convI .i64 x = x := wrap_i64_id h h'
theorem rm_id {x d : Int} (h : 0 ≤ x) : remI x d = x % d := by unfold remI; exact Int.tmod_eq_emod_of_nonneg h
theorem fin_npt {w w1 : World} (h : Ext w w1) : CaP Tryz.prog 19 (.el (.one .bool)) [] w1 fun (x : Bool) (w2 : World) => EnP w2 fun (w1 : World) => x = true ∧ Ext w w1 :=
  CaP.val ((At.start [] w).ext h) (s := .el (.one .bool)) true (fun w3 _ => known_ok w3) fun w4 H => EnP.go H fun w5 H => ⟨rfl, H.all⟩
section
variable {Q : Sys} {D G : List Nat} {w0 w w1 : World} {s : WD} {L0 L1 : List (Nat × List Value)}
namespace SAt
theorem exts (S : SAt Q [] [] w0 w s L0) : Ext w0 w := by
  obtain ⟨h1, h2, h3, h4, ca, la, H⟩ := S
  exact H.all
theorem ldAA (i : Nat) (S : SAt Q D G w0 w s L0) {g : Option Bool} {el : El} {K : el.T → Prop} {b o n m : Nat} {l : List Value} {x : el.T} (hL : L0[i]? = some (b, l)) (hv : elAt l (o + n + m) el = some x) (k : K x) : LdP w g (addP (addP (some ⟨b, o, none⟩) n) m) el K := by
  rw [addP_B, addP_B]; exact .of x (elAt_rd (S.get hL) hv) k
/-- An operation that was handed in lies in a variable. -/
theorem opv (S : SAt Q [] [] w0 w s L0) {p : Option Addr} {xs : List (ScsT sOp)} (hx : Sl w0 (.agg sOp) p xs) {i : Nat} {m : Nat} (hm : m = xs.length) (hi : i < m) {t : TypeId} {K : Nat → World → Prop} (k : ∀ o1 o2 o3 o4 o5 : Int, ((o1, o2, o3, o4, o5, ()) : ScsT sOp) ∈ xs → ∀ b w1, SAt Q [] [] w0 w1 s ((b, [.int .i64 o1, .int .i64 o2, .int .i64 o3, .int .i64 o4, .int .i64 o5]) :: L0) → K b w1) :
    (p.isSome = true ∧ 0 ≤ (i : Int) ∧ (i : Int) < (m : Int)) ∧ LdP w none (addP p ((i : Int).toNat * 5)) (.agg sOp) fun x =>
      AlP w ⟨[.int .i64 0, .int .i64 0, .int .i64 0, .int .i64 0, .int .i64 0]⟩ t fun b w2 => StP w2 (some ⟨b, 0, none⟩) [.int .i64 x.1, .int .i64 x.2.1, .int .i64 x.2.2.1, .int .i64 x.2.2.2.1, .int .i64 x.2.2.2.2.1] fun w3 => K b w3 := by
  have hi' : i < xs.length := by omega
  have hget : xs[i]? = some xs[i] := List.getElem?_eq_getElem hi'
  have h1 := (hx.ext S.exts) i _ hget
  refine ⟨⟨h1.1, by omega, by omega⟩, LdP.of xs[i] h1.2 ?_⟩
  exact S.al fun b w2 S => S.stAll 0 rfl rfl rfl fun w3 S => k xs[i].1 xs[i].2.1 xs[i].2.2.1 xs[i].2.2.2.1 xs[i].2.2.2.2.1 (List.getElem_mem _) b w3 S
end SAt
end
/-- What the law of two guests keeps. -/
structure TwoI (g : Gh) (s : WD) (r0 r1 pg : Int) (gone : Bool) : Prop where
  inv : Inv g s
  rt : Rt g
  a : gone = false → g r0 = some (1, 3, 0)
  b : g r1 = some (2, 3, 0)
  q : qryV s r1 false pg = (77, 5, 0, ())
  n : (allS2 s r1 false).length = 4
  len : s.1.length = 3200
theorem allS2_len {s s' : WD} {r : Int} (h : underL s'.1 3 r = underL s.1 3 r) : (allS2 s' r false).length = (allS2 s r false).length := by
  rw [show allS2 s' r false = sortI (underL s'.1 3 r) from if_neg (by decide), show allS2 s r false = sortI (underL s.1 3 r) from if_neg (by decide), h]
theorem TwoI.chg {g g' : Gh} {s s' : WD} {r0 r1 pg p : Int} {l : Nat} (T : TwoI g s r0 r1 pg false) (C : Chg (sameP 1 l p) 1 g g' s s') : TwoI g' s' r0 r1 pg false where
  inv := C.inv
  rt := T.rt.keep C.root
  a := fun _ => C.root.to (T.a rfl)
  b := C.root.to T.b
  q := (T.inv.qry_keep C.inv C.endk C.root T.b (fun h => absurd h.1 (by decide))).trans T.q
  n := (allS2_len (T.inv.under_other C.othr 3 (by decide) T.b)).trans T.n
  len := C.len.1.trans T.len
theorem TwoI.drop {g : Gh} {s : WD} {r0 r1 pg : Int} (T : TwoI g s r0 r1 pg false) : TwoI (delG g 1) (dropS s r0 false) r0 r1 pg true := by
  obtain ⟨I, R, e1, e2, e3⟩ := T.inv.dropped T.rt (T.a rfl)
  refine ⟨I, R, fun h => (by cases h), delG_some.2 ⟨T.b, by show (2 : Int) ≠ 1; decide⟩, ?_, ?_, ?_⟩
  · have : qryV (dropS s r0 false) r1 false pg = qryV s r1 false pg := by unfold qryV; rw [e1]
    rw [this]; exact T.q
  · rw [allS2_len (s' := dropS s r0 false) (by rw [e1])]; exact T.n
  · rw [e1]; exact T.len
theorem map_gone (s : WD) (o r p f t : Int) : mapS s o r true p f t = s := if_pos rfl
theorem lrg_gone (s : WD) (o r p f t : Int) : lrgS s o r true p f t = s := if_pos rfl
theorem pro_gone (s : WD) (o r p t : Int) : proS s o r true p t = s := if_pos rfl
theorem dropS_gone (s : WD) (r : Int) : dropS s r true = s := if_pos rfl
theorem ghB_rt (n : Nat) : Rt (ghB n) := fun f o x h => by
  unfold ghB setG at h
  split at h
  · cases h; rfl
  · split at h
    · cases h; rfl
    · cases h
theorem begin_two (pg : Int) (hp : 0 ≤ pg ∧ pg < 65536) : mapE (stB 200) (rtB 200) false pg 77 5 = 0 ∧ ∃ g, TwoI g (mapS (stB 200) 2 (rtB 200) false pg 77 5) (rtA 200) (rtB 200) pg false := by
  obtain ⟨_, hB, hA, hne, I, l1, l2, c0, c3, c5, hz⟩ := stB_ok (n := 200) ⟨by decide, by decide⟩
  obtain ⟨g0, g1⟩ := ghB_root 200 hne
  have hon : ∀ {f : Int} {v : Int × Nat × Int}, ghB 200 f = some v → v.2.1 = 3 := fun h => ghB_only h
  have Rg : Rt (ghB 200) := ghB_rt 200
  have l1 : (stB 200).1.length = 3200 := l1
  generalize ghB 200 = g at *
  generalize stB 200 = s at *
  generalize rtA 200 = r0 at *
  generalize rtB 200 = r1 at *
  have hend : ∀ q : Int, 0 ≤ q ∧ q < 65536 → EndAt g s 2 q r1 3 ∧ (entA s.1 (16 * r1 + px 3 q % 16)).1 = false := fun q hq => I.end_root (p := q) g1 hq (fun k _ _ => hz _)
  obtain ⟨E, z⟩ := hend pg hp
  have hE := I.map_can (f := 77) (rt := 5) g1 hp ⟨by decide, by decide⟩ ⟨by decide, by decide⟩ E z (by omega)
  refine ⟨hE, ?_⟩
  obtain ⟨_, g', C, hq, _, _, ⟨f0, E0⟩, _, hN⟩ := I.map g1 hE
  have hN0 : NEx g s none := fun f o l x h hl _ => by
    have : l = 3 := hon h
    omega
  refine ⟨g', C.inv, Rg.keep C.root, fun _ => C.root.to g0, C.root.to g1, hq, ?_, C.len.1.trans l1⟩
  rw [show allS2 (mapS s 2 r1 false pg 77 5) r1 false = sortI (underL (mapS s 2 r1 false pg 77 5).1 3 r1) from if_neg (by decide), sortI_len]
  refine C.inv.one_page (Rg.keep C.root) (C.root.to g1) (hN hN0) hp E0 fun q hq hok => ?_
  refine Classical.byContradiction fun hne' => ?_
  rw [I.qry_keep C.inv C.endk C.root g1 (p := q) (fun h => hne' h.2)] at hok
  obtain ⟨E2, z2⟩ := hend q hq
  rw [I.qry_of g1 hq E2, res0 _ _ z2] at hok
  exact absurd hok (by decide)
theorem ltwo_row (p : Option Addr) (m c : Nat) (xs : List (ScsT sOp)) (hm : m = xs.length) (hmx : m ≤ maxLen) {w : World} (hx : Sl w (.agg sOp) p xs) (hxw : ∀ x ∈ xs, okScs sOp x) (y : Int) (hy : (Lit.int .u16 y).wf = true) :
    CallsR Tryz.prog 7 (.el (.one .bool)) [.slice p m c, .int .u16 y] w (fun b w' => b = true ∧ Ext w w') := by
  refine rxFn_ok (C := N3) (ann := ztwo_vc_ann) (Eq.mpr (ztwo_vc p m c y w _) ?_)
  have hy := rng16 hy
  rw [cv_id (x := y) (by omega) (by omega)]
  refine begin_at (At.start [] w) 200 ⟨by decide, by decide⟩ (fun h => absurd h (by decide)) fun _ Q Q' b b0 b1 c0 c1 w1 few T => ?_
  have S := T.fst.sub (L1 := [(b, wcs2 Q Q' (at0 b0) (at0 b1) (at0 c0) (at0 c1)), (b0, tcs Q 1 (rtA 200) false), (b1, tcs Q 2 (rtB 200) false)]) (.cons_cons _ (.cons_cons _ (.cons_cons _ (List.nil_sublist _))))
  clear T
  obtain ⟨hE, g0, T0⟩ := begin_two y hy
  obtain ⟨_, hB, hA, _, _, l1, _⟩ := stB_ok (n := 200) ⟨by decide, by decide⟩
  have hrA : 0 ≤ rtA 200 ∧ rtA 200 < 4096 := by omega
  have hrB : 0 ≤ rtB 200 ∧ rtB 200 < 4096 := by omega
  have few2 : ∀ s : WD, s.1.length = 3200 → Few Q s := fun s h => by
    obtain ⟨f1, f2⟩ := few
    exact ⟨by omega, by omega⟩
  refine ⟨fun _ => rfl, fun _ => rfl, fun _ => ⟨rfl, by decide, by decide⟩, S.ldAA 0 rfl rfl ⟨fun _ => rfl, fun _ => rfl, fun _ => ⟨rfl, by decide, by decide⟩, S.ldAA 0 rfl rfl (brP_neg rfl ⟨rfl, rfl, ⟨rfl, by decide, by decide⟩, S.ldAA 0 rfl rfl (S.map 2 rfl y 77 5 fun w2 S => ?_)⟩)⟩⟩
  rw [hE]
  refine brP_neg rfl ?_
  generalize mapS (stB 200) 2 (rtB 200) false y 77 5 = s0 at S T0
  generalize rtA 200 = r0 at *
  generalize rtB 200 = r1 at *
  let J : World → Prop := fun w' => ∃ g s gone, TwoI g s r0 r1 y gone ∧ SAt Q [] [] w w' s [(b, wcs2 Q Q' (at0 b0) (at0 b1) (at0 c0) (at0 c1)), (b0, tcs Q 1 r0 gone), (b1, tcs Q 2 r1 false)]
  refine ⟨fun k v w' => ∃ i : Nat, v.1 = (i : Int) ∧ k + i = m ∧ J w', ⟨m, fun w3 h3 => ⟨0, rfl, rfl, g0, s0, false, T0, S.ext h3⟩⟩, ?_⟩
  clear S T0 hE few
  rintro k ⟨v, u⟩ w3 ⟨i, e, hk, g, s, gone, T, S⟩
  dsimp only at e ⊢
  subst e
  refine brP_intro (fun cc => ?_) (fun cc => fin_npt S.exts)
  have hi : i < m := by
    simp only [Bool.and_eq_true, decide_eq_true_eq] at cc
    omega
  refine S.opv hx hm hi fun o1 o2 o3 o4 o5 ho bo w4 S => ⟨fun _ w' => J w', ?_, ?_⟩
  · refine ⟨rfl, S.ldA 0 rfl rfl ?_⟩
    refine brP_intro (fun c1 => ⟨rfl, rfl, ⟨rfl, by decide, by decide⟩, S.ldAA 1 rfl rfl ⟨rfl, S.ldA 0 rfl rfl ⟨rfl, S.ldA 0 rfl rfl ⟨rfl, S.ldA 0 rfl rfl (S.map 2 rfl _ _ _ fun w5 S => ?_)⟩⟩⟩⟩) (fun c1 => brP_intro (fun c2 => ⟨rfl, rfl, ⟨rfl, by decide, by decide⟩, S.ldAA 1 rfl rfl ⟨rfl, S.ldA 0 rfl rfl ⟨rfl, S.ldA 0 rfl rfl ⟨rfl, S.ldA 0 rfl rfl (S.large 2 rfl _ _ _ fun w5 S => ?_)⟩⟩⟩⟩) (fun c2 =>
      brP_intro (fun c3 => ⟨rfl, rfl, ⟨rfl, by decide, by decide⟩, S.ldAA 1 rfl rfl ⟨rfl, S.ldA 0 rfl rfl (S.unmap (few2 _ T.len) 2 rfl hrA _ fun w5 S => ?_)⟩⟩) (fun c3 => brP_intro (fun c4 => ⟨rfl, rfl, ⟨rfl, by decide, by decide⟩, S.ldAA 1 rfl rfl ⟨rfl, S.ldA 0 rfl rfl ⟨rfl, S.ldA 0 rfl rfl (S.protect 2 rfl _ _ fun w5 S => ?_)⟩⟩⟩) (fun c4 =>
        brP_intro (fun c5 => ⟨rfl, rfl, ⟨rfl, by decide, by decide⟩, S.ldAA 1 rfl rfl (S.drop 2 rfl hrA fun x rows w5 S _ => ?_)⟩) (fun c5 => ⟨g, s, gone, T, S.tail⟩)))))
    · cases gone with
      | true =>
        rw [map_gone] at S
        exact ⟨g, s, true, T, S.tail⟩
      | false =>
        obtain ⟨g', C, _⟩ := T.inv.mapC (T.a rfl) o3 o4 o5
        exact ⟨g', _, false, T.chg C, S.tail⟩
    · cases gone with
      | true =>
        rw [lrg_gone] at S
        exact ⟨g, s, true, T, S.tail⟩
      | false =>
        obtain ⟨g', C, _⟩ := T.inv.lrgC (T.a rfl) o3 o4 o5
        exact ⟨g', _, false, T.chg C, S.tail⟩
    · cases gone with
      | true =>
        rw [(unm_gone s 1 r0 _).2] at S
        exact ⟨g, s, true, T, S.tail⟩
      | false =>
        obtain ⟨g', C, _⟩ := T.inv.unmC (T.a rfl) o3
        exact ⟨g', _, false, T.chg C, S.tail⟩
    · cases gone with
      | true =>
        rw [pro_gone] at S
        exact ⟨g, s, true, T, S.tail⟩
      | false =>
        obtain ⟨g', C, _⟩ := T.inv.proC (T.a rfl) o3 o5
        exact ⟨g', _, false, T.chg C, S.tail⟩
    · have S := (S.sub (List.sublist_append_left _ _)).tail
      cases gone with
      | true =>
        rw [dropS_gone] at S
        exact ⟨g, s, true, T, S⟩
      | false => exact ⟨delG g 1, _, true, T.drop, S⟩
  · clear S T
    rintro _ w5 ⟨g, s, gone, T, S⟩
    refine ⟨rfl, rfl, ⟨rfl, by decide, by decide⟩, S.ldAA 0 rfl rfl (S.query 2 rfl y fun w6 S => ?_)⟩
    rw [T.q]
    refine ⟨fun _ => rfl, fun _ => rfl, fun _ => ⟨rfl, by decide, by decide⟩, S.ldAA 0 rfl rfl (brP_neg rfl (S.all 2 rfl hrB fun x rows w7 S hr => ?_))⟩
    have hl : x.2.1 = 4 := by rw [hr.1]; exact T.n
    rw [hl]
    refine brP_neg rfl fun w8 h8 => ⟨k - 1, by omega, i + 1, ?_, by omega, g, s, gone, T, (S.sub (List.sublist_append_left _ _)).ext h8⟩
    have hc : i < 30 := by
      simp only [Bool.and_eq_true, decide_eq_true_eq] at cc
      omega
    rw [addI_i64 (by omega) (by omega)]; omega
end Go.Proofs.YtkldededdgpmbaaGreat
namespace Go.Proofs.YtkldededdgpmbaaGreat
set_option linter.unusedSimpArgs false
set_option linter.unusedVariables false
set_option maxRecDepth 100000
open Go.RX D
/-! ### A page is mapped as it was mapped last; a walker finds the same -/
structure ModI (g : Gh) (s : WD) (r p frame rights : Int) : Prop where
  inv : Inv g s
  root : g r = some (1, 3, 0)
  q : (0 < rights ∧ qryV s r false p = (frame, rights, 0, ())) ∨ (rights = 0 ∧ frame = 0 ∧ qryV s r false p = (0, 0, 4, ()))
  len : s.1.length = 3200
namespace ModI
variable {g : Gh} {s : WD} {r p frame rights : Int}
theorem keep (M : ModI g s r p frame rights) {g' : Gh} {s' : WD} {a : Int} {l : Nat} (C : Chg (sameP 1 l a) 1 g g' s s') (h : ¬ px l p = px l a) : ModI g' s' r p frame rights :=
  ⟨C.inv, C.root.to M.root, by rw [M.inv.qry_keep C.inv C.endk C.root M.root (fun hh => h hh.2)]; exact M.q, C.len.1.trans M.len⟩
theorem rng (M : ModI g s r p frame rights) : 0 ≤ rights := by rcases M.q with ⟨h, _⟩ | ⟨h, _⟩ <;> omega
theorem map (M : ModI g s r p frame rights) (a f t : Int) : ∃ g', ModI g' (mapS s 1 r false a f t) r p (if mapE s r false a f t = 0 ∧ a = p then f else frame) (if mapE s r false a f t = 0 ∧ a = p then t else rights) ∧ cntL s.2 0 ≤ cntL (mapS s 1 r false a f t).2 0 + 3 := by
  by_cases h : mapE s r false a f t = 0
  · obtain ⟨_, g', C, hq, h1, _, _, ⟨f0, j, he, hc⟩, _⟩ := M.inv.map (o := 1) M.root h
    have hj := (M.inv.kd he.1).2.2.2.2.2
    refine ⟨g', ?_, by omega⟩
    by_cases e : a = p
    · subst e
      rw [if_pos ⟨h, rfl⟩, if_pos ⟨h, rfl⟩]
      exact ⟨C.inv, C.root.to M.root, .inl ⟨by omega, hq⟩, C.len.1.trans M.len⟩
    · rw [if_neg (fun hh => e hh.2), if_neg (fun hh => e hh.2)]
      exact M.keep C (fun hh => e hh.symm)
  · rw [map_err h, if_neg (fun hh => h hh.1), if_neg (fun hh => h hh.1)]
    exact ⟨g, M, by omega⟩
theorem large (M : ModI g s r p frame rights) (hp : 0 ≤ p ∧ p < 65536) (a f t : Int) : ∃ g', ModI g' (lrgS s 1 r false a f t) r p (if lrgE s r false a f t = 0 ∧ a = p - p % 16 then f + p % 16 else frame) (if lrgE s r false a f t = 0 ∧ a = p - p % 16 then t else rights) ∧ cntL s.2 0 ≤ cntL (lrgS s 1 r false a f t).2 0 + 3 := by
  by_cases h : lrgE s r false a f t = 0
  · obtain ⟨ha, h16, g', C, hq, h1, ⟨f0, j, hj1, he, _, hc⟩, _⟩ := M.inv.large (o := 1) M.root h
    have hj := (M.inv.kd he.1).2.2.2.2.2
    refine ⟨g', ?_, by omega⟩
    by_cases e : a = p - p % 16
    · rw [if_pos ⟨h, e⟩, if_pos ⟨h, e⟩]
      have hs : px 1 p = px 1 a := by
        show p / 16 = a / 16
        omega
      exact ⟨C.inv, C.root.to M.root, .inl ⟨by omega, (hq p hp hs).1⟩, C.len.1.trans M.len⟩
    · rw [if_neg (fun hh => e hh.2), if_neg (fun hh => e hh.2)]
      refine M.keep C (fun hh => e ?_)
      have hh : p / 16 = a / 16 := hh
      omega
  · rw [lrg_err h, if_neg (fun hh => h hh.1), if_neg (fun hh => h hh.1)]
    exact ⟨g, M, by omega⟩
theorem unmap (M : ModI g s r p frame rights) (hc : 0 < cntL s.2 0) (a : Int) : ∃ g', ModI g' (unmS s 1 r false a) r p (if a = p then 0 else frame) (if a = p then 0 else rights) ∧ cntL s.2 0 ≤ cntL (unmS s 1 r false a).2 0 + 3 ∧ (a = p → (unmE s 1 r false a = 0 ↔ 0 < rights) ∧ (unmE s 1 r false a = 0 → unmF s 1 r false a = frame)) := by
  by_cases h : unmE s 1 r false a = 0
  · obtain ⟨ha, hq, h1, ⟨f0, j, hj1, he, _, hc⟩, _⟩ := (M.inv.unmap (o := 1) M.root (unm_rng h).2 h).choose_spec
    generalize (M.inv.unmap (o := 1) M.root (unm_rng h).2 h).choose = g' at ha
    refine ⟨g', ?_, by omega, fun e => ?_⟩
    · by_cases e : a = p
      · subst e
        rw [if_pos rfl, if_pos rfl]
        exact ⟨ha.inv, ha.root.to M.root, .inr ⟨rfl, rfl, hq⟩, ha.len.1.trans M.len⟩
      · rw [if_neg e, if_neg e]
        exact M.keep ha (fun hh => e hh.symm)
    · subst e
      rcases M.q with ⟨hp, hq2⟩ | ⟨_, _, hq2⟩
      · refine ⟨⟨fun _ => hp, fun _ => h⟩, fun _ => ?_⟩
        unfold unmF
        rw [if_pos h, hq2]
      · rw [hq2] at h1
        exact absurd h1 (by decide)
  · rw [unm_err h]
    refine ⟨g, ?_, by omega, fun e => ?_⟩
    · by_cases e : a = p
      · subst e
        rw [if_pos rfl, if_pos rfl]
        rcases M.q with ⟨hp, hq2⟩ | ⟨_, _, hq2⟩
        · exfalso
          have hpr := qry_rng (s := s) (r := r) (pg := a) (gone := false) (by rw [hq2])
          obtain ⟨f0, j, hj, he⟩ := M.inv.end_at M.root hpr.2
          refine h (M.inv.unm_can M.root hpr.2 he ?_ (.inl hc))
          rw [M.inv.qry_of M.root hpr.2 he] at hq2
          exact resE_ok (by rw [hq2])
        · exact ⟨M.inv, M.root, .inr ⟨rfl, rfl, hq2⟩, M.len⟩
      · rw [if_neg e, if_neg e]; exact M
    · subst e
      refine ⟨⟨fun hh => absurd hh h, fun hp => ?_⟩, fun hh => absurd hh h⟩
      rcases M.q with ⟨_, hq2⟩ | ⟨h0, _, _⟩
      · have hpr := qry_rng (s := s) (r := r) (pg := a) (gone := false) (by rw [hq2])
        obtain ⟨f0, j, hj, he⟩ := M.inv.end_at M.root hpr.2
        refine M.inv.unm_can M.root hpr.2 he ?_ (.inl hc)
        rw [M.inv.qry_of M.root hpr.2 he] at hq2
        exact resE_ok (by rw [hq2])
      · omega
theorem protect (M : ModI g s r p frame rights) (a t : Int) : ∃ g', ModI g' (proS s 1 r false a t) r p frame (if proE s 1 r false a t = 0 ∧ a = p then t else rights) ∧ cntL s.2 0 ≤ cntL (proS s 1 r false a t).2 0 + 3 := by
  by_cases h : proE s 1 r false a t = 0
  · obtain ⟨ha, g', C, h1, hq, hc⟩ := M.inv.protect (o := 1) M.root h
    refine ⟨g', ?_, by omega⟩
    by_cases e : a = p
    · subst e
      rw [if_pos ⟨h, rfl⟩]
      rcases M.q with ⟨hp, hq2⟩ | ⟨_, _, hq2⟩
      · rw [hq2] at hq
        have ht : 0 < t := by
          have := hq
          obtain ⟨f0, j, hj, he⟩ := C.inv.end_at (C.root.to M.root) ha
          have hR : rgtE a 0 t = 0 := by
            unfold proE at h
            rw [if_neg (by decide)] at h
            by_cases hh : rgtE a 0 t = 0
            · exact hh
            · rw [if_neg hh] at h; exact absurd h hh
          unfold rgtE at hR
          rw [if_neg (by omega)] at hR
          by_cases hh : t < 1 ∨ t > 7
          · rw [if_pos hh] at hR; exact absurd hR (by decide)
          · omega
        exact ⟨C.inv, C.root.to M.root, .inl ⟨ht, hq⟩, C.len.1.trans M.len⟩
      · rw [hq2] at h1; exact absurd h1 (by decide)
    · rw [if_neg (fun hh => e hh.2)]
      exact M.keep C (fun hh => e hh.symm)
  · rw [pro_err h, if_neg (fun hh => h hh.1)]
    exact ⟨g, M, by omega⟩
end ModI
theorem begin_mod (p : Int) (hp : 0 ≤ p ∧ p < 65536) : ModI (ghB 200) (stB 200) (rtA 200) p 0 0 ∧ cntL (stB 200).2 0 = 198 := by
  obtain ⟨_, hB, hA, hne, I, l1, l2, c0, c3, c5, hz⟩ := stB_ok (n := 200) ⟨by decide, by decide⟩
  obtain ⟨g0, g1⟩ := ghB_root 200 hne
  have l1 : (stB 200).1.length = 3200 := l1
  generalize ghB 200 = g at *
  generalize stB 200 = s at *
  generalize rtA 200 = r0 at *
  obtain ⟨E, z⟩ := I.end_root (p := p) g0 hp (fun k _ _ => hz _)
  refine ⟨⟨I, g0, .inr ⟨rfl, rfl, ?_⟩, l1⟩, by omega⟩
  rw [I.qry_of g0 hp E, res0 _ _ z]
theorem lmodel_row (p : Option Addr) (m c : Nat) (xs : List (ScsT sOp)) (hm : m = xs.length) (hmx : m ≤ maxLen) {w : World} (hx : Sl w (.agg sOp) p xs) (hxw : ∀ x ∈ xs, okScs sOp x) (y : Int) (hy : (Lit.int .u16 y).wf = true) :
    CallsR Tryz.prog 4 (.el (.one .bool)) [.slice p m c, .int .u16 y] w (fun b w' => b = true ∧ Ext w w') := by
  refine rxFn_ok (C := N3) (ann := zmodel_vc_ann) (Eq.mpr (zmodel_vc p m c y w _) ?_)
  have hy := rng16 hy
  rw [cv_id (x := y) (by omega) (by omega)]
  have e16 : remI y 16 = y % 16 := rm_id hy.1
  have es : subI .i64 y (y % 16) = y - y % 16 := subI_i64 (by omega) (by omega)
  rw [e16, es]
  refine begin_at (At.start [] w) 200 ⟨by decide, by decide⟩ (fun h => absurd h (by decide)) fun _ Q Q' b b0 b1 c0 c1 w1 few T => ?_
  have S := T.fst.sub (L1 := [(b, wcs2 Q Q' (at0 b0) (at0 b1) (at0 c0) (at0 c1)), (b0, tcs Q 1 (rtA 200) false)]) (.cons_cons _ (.cons_cons _ (List.nil_sublist _)))
  clear T
  obtain ⟨M0, cc0⟩ := begin_mod y hy
  obtain ⟨_, hB, hA, _, _, l1, _⟩ := stB_ok (n := 200) ⟨by decide, by decide⟩
  have hrA : 0 ≤ rtA 200 ∧ rtA 200 < 4096 := by omega
  have few2 : ∀ s : WD, s.1.length = 3200 → Few Q s := fun s h => by
    obtain ⟨f1, f2⟩ := few
    exact ⟨by omega, by omega⟩
  clear few hB hA l1
  refine ⟨fun _ => rfl, fun _ => rfl, fun _ => ⟨rfl, by decide, by decide⟩, S.ldAA 0 rfl rfl (brP_neg rfl ⟨rfl, rfl, ⟨rfl, by decide, by decide⟩, S.ldAA 0 rfl rfl ?_⟩)⟩
  generalize stB 200 = s0 at *
  generalize rtA 200 = r at *
  generalize ghB 200 = g0 at *
  refine ⟨fun k v w' => ∃ i : Nat, v.2.2.1 = (i : Int) ∧ k + i = m ∧ ∃ g s, ModI g s r y v.1 v.2.1 ∧ 198 ≤ cntL s.2 0 + 3 * i ∧ SAt Q [] [] w w' s [(b, wcs2 Q Q' (at0 b0) (at0 b1) (at0 c0) (at0 c1)), (b0, tcs Q 1 r false)], ⟨m, fun w3 h3 => ⟨0, rfl, rfl, g0, s0, M0, by omega, S.ext h3⟩⟩, ?_⟩
  clear S M0 cc0
  rintro k ⟨fr0, rg0, v, u⟩ w3 ⟨i, e, hk, g, s, M, hcnt, S⟩
  dsimp only at e M ⊢
  subst e
  refine brP_intro (fun cc => ?_) (fun cc => fin_npt S.exts)
  have hi : i < m ∧ i < 30 := by
    simp only [Bool.and_eq_true, decide_eq_true_eq] at cc
    omega
  refine S.opv hx hm hi.1 fun o1 o2 o3 o4 o5 ho bo w4 S => ?_
  let J : (Prop) → Int → Int → World → Prop := fun P fr rg w' => ∃ g s, ModI g s r y fr rg ∧ (198 ≤ cntL s.2 0 + 3 * i ∨ (P ∧ 198 ≤ cntL s.2 0 + 3 * (i + 1))) ∧ SAt Q [] [] w w' s [(bo, [.int .i64 o1, .int .i64 o2, .int .i64 o3, .int .i64 o4, .int .i64 o5]), (b, wcs2 Q Q' (at0 b0) (at0 b1) (at0 c0) (at0 c1)), (b0, tcs Q 1 r false)]
  refine ⟨fun v w' => J (o1 = 0) v.1 v.2.1 w', ?_, ?_⟩
  · refine ⟨rfl, S.ldA 0 rfl rfl ⟨fun _ => rfl, S.ldA 0 rfl rfl ⟨fun _ => rfl, S.ldA 0 rfl rfl ⟨fun _ => rfl, S.ldA 0 rfl rfl (brP_intro (fun c1 => S.map 2 rfl _ _ _ fun w5 S => ⟨fun _ => rfl, S.ldA 0 rfl rfl ?_⟩) (fun c1 => ⟨fun _ => rfl, S.ldA 0 rfl rfl ⟨g, s, M, .inl hcnt, S⟩⟩))⟩⟩⟩⟩
    obtain ⟨g', M', hc⟩ := M.map o3 o4 o5
    have c1 : o1 = 0 := by simpa using c1
    refine brP_intro (fun d => ⟨rfl, S.ldA 0 rfl rfl ⟨rfl, S.ldA 0 rfl rfl ⟨g', _, ?_, .inr ⟨c1, by omega⟩, S⟩⟩⟩) (fun d => ⟨g', _, ?_, .inr ⟨c1, by omega⟩, S⟩)
    · have d : mapE s r false o3 o4 o5 = 0 ∧ o3 = y := by simpa using d
      rw [if_pos d, if_pos d] at M'
      exact M'
    · have d : ¬ (mapE s r false o3 o4 o5 = 0 ∧ o3 = y) := by simpa using d
      rw [if_neg d, if_neg d] at M'
      exact M'
  clear S M hcnt
  rintro ⟨fr1, rg1, _⟩ w5 ⟨g, s, M, hcnt, S⟩
  dsimp only at M ⊢
  refine ⟨fun v w' => J (o1 = 0 ∨ o1 = 1) v.1 v.2.1 w', ?_, ?_⟩
  · refine ⟨rfl, S.ldA 0 rfl rfl ⟨fun _ => rfl, S.ldA 0 rfl rfl ⟨fun _ => rfl, S.ldA 0 rfl rfl ⟨fun _ => rfl, S.ldA 0 rfl rfl (brP_intro (fun c1 => S.large 2 rfl _ _ _ fun w5 S => ⟨fun _ => rfl, S.ldA 0 rfl rfl ?_⟩) (fun c1 => ⟨fun _ => rfl, S.ldA 0 rfl rfl ⟨g, s, M, hcnt.imp id (fun h => ⟨.inl h.1, h.2⟩), S⟩⟩))⟩⟩⟩⟩
    obtain ⟨g', M', hc⟩ := M.large hy o3 o4 o5
    have c1 : o1 = 1 := by simpa using c1
    have hcnt : 198 ≤ cntL s.2 0 + 3 * i := hcnt.resolve_right (fun h => absurd (show o1 = 0 from h.1) (by omega))
    have hr4 : lrgE s r false o3 o4 o5 = 0 → 0 ≤ o4 ∧ o4 < 4096 := fun h => by
      have hR : rgtE o3 o4 o5 = 0 := by
        unfold lrgE at h
        rw [if_neg (by decide)] at h
        by_cases hh : rgtE o3 o4 o5 = 0
        · exact hh
        · rw [if_neg hh] at h; exact absurd h hh
      unfold rgtE at hR
      by_cases hh : o3 < 0 ∨ o3 ≥ 65536 ∨ o4 < 0 ∨ o4 ≥ 4096
      · rw [if_pos hh] at hR; exact absurd hR (by decide)
      · omega
    refine brP_intro (fun d => ⟨rfl, S.ldA 0 rfl rfl ⟨rfl, S.ldA 0 rfl rfl ⟨g', _, ?_, .inr ⟨.inr c1, by omega⟩, S⟩⟩⟩) (fun d => ⟨g', _, ?_, .inr ⟨.inr c1, by omega⟩, S⟩)
    · have d : lrgE s r false o3 o4 o5 = 0 ∧ o3 = y - y % 16 := by simpa using d
      rw [if_pos d, if_pos d] at M'
      have := hr4 d.1
      have e : addI .i64 o4 (y % 16) = o4 + y % 16 := addI_i64 (by omega) (by omega)
      show ModI g' _ r y (addI .i64 o4 (y % 16)) o5
      rw [e]
      exact M'
    · have d : ¬ (lrgE s r false o3 o4 o5 = 0 ∧ o3 = y - y % 16) := by simpa using d
      rw [if_neg d, if_neg d] at M'
      exact M'
  clear S M hcnt
  rintro ⟨fr2, rg2, _⟩ w6 ⟨g, s, M, hcnt, S⟩
  dsimp only at M ⊢
  refine ⟨fun v w' => J (o1 = 0 ∨ o1 = 1 ∨ o1 = 2) v.1 v.2.1 w', ?_, ?_⟩
  · refine ⟨rfl, S.ldA 0 rfl rfl (brP_intro (fun c1 => ⟨rfl, S.ldA 0 rfl rfl (S.unmap (few2 _ M.len) 2 rfl hrA _ fun w7 S => ⟨rfl, S.ldA 0 rfl rfl ⟨fun _ => rfl, S.ldA 0 rfl rfl ?_⟩⟩)⟩) (fun c1 => ⟨g, s, M, hcnt.imp id (fun h => ⟨h.1.imp id .inl, h.2⟩), S⟩))⟩
    have c1 : o1 = 2 := by simpa using c1
    have hcnt : 198 ≤ cntL s.2 0 + 3 * i := hcnt.resolve_right (fun h => absurd (show o1 = 0 ∨ o1 = 1 from h.1) (by omega))
    obtain ⟨g', M', hc, hu⟩ := M.unmap (by omega) o3
    have hrg := M.rng
    by_cases e : o3 = y
    · rw [if_pos e, if_pos e] at M'
      obtain ⟨u1, u2⟩ := hu e
      refine brP_neg ?_ ⟨rfl, S.ldA 0 rfl rfl (brP_pos (by simpa using e) ⟨g', _, M', .inr ⟨.inr (.inr c1), by omega⟩, S⟩)⟩
      by_cases h : unmE s 1 r false o3 = 0
      · have := u1.1 h
        simp [h, u2 h, this]
      · have : ¬ 0 < rg2 := fun hh => h (u1.2 hh)
        simp [h, this]
    · rw [if_neg e, if_neg e] at M'
      have e' : (o3 == y) = false := by simpa using e
      dsimp only
      rw [e']
      exact brP_neg rfl ⟨rfl, S.ldA 0 rfl rfl (brP_neg e' ⟨g', _, M', .inr ⟨.inr (.inr c1), by omega⟩, S⟩)⟩
  clear S M hcnt
  rintro ⟨fr3, rg3, _⟩ w7 ⟨g, s, M, hcnt, S⟩
  dsimp only at M ⊢
  refine ⟨fun v w' => J True fr3 v.1 w', ?_, ?_⟩
  · refine ⟨rfl, S.ldA 0 rfl rfl ⟨fun _ => rfl, S.ldA 0 rfl rfl ⟨fun _ => rfl, S.ldA 0 rfl rfl (brP_intro (fun c1 => S.protect 2 rfl _ _ fun w8 S => ⟨fun _ => rfl, S.ldA 0 rfl rfl ?_⟩) (fun c1 => ⟨fun _ => rfl, S.ldA 0 rfl rfl ⟨g, s, M, hcnt.imp id (fun h => ⟨trivial, h.2⟩), S⟩⟩))⟩⟩⟩
    obtain ⟨g', M', hc⟩ := M.protect o3 o5
    have c1 : o1 = 3 := by simpa using c1
    have hcnt : 198 ≤ cntL s.2 0 + 3 * i := hcnt.resolve_right (fun h => absurd (show o1 = 0 ∨ o1 = 1 ∨ o1 = 2 from h.1) (by omega))
    refine brP_intro (fun d => ⟨rfl, S.ldA 0 rfl rfl ⟨g', _, ?_, .inr ⟨trivial, by omega⟩, S⟩⟩) (fun d => ⟨g', _, ?_, .inr ⟨trivial, by omega⟩, S⟩)
    · have d : proE s 1 r false o3 o5 = 0 ∧ o3 = y := by simpa using d
      rw [if_pos d] at M'
      exact M'
    · have d : ¬ (proE s 1 r false o3 o5 = 0 ∧ o3 = y) := by simpa using d
      rw [if_neg d] at M'
      exact M'
  clear S M hcnt
  rintro ⟨rg4, _⟩ w8 ⟨g, s, M, hcnt, S⟩
  dsimp only at M ⊢
  have hcnt : 198 ≤ cntL s.2 0 + 3 * (i + 1) := by rcases hcnt with h | ⟨_, h⟩ <;> omega
  obtain ⟨f0, j, hj, he⟩ := M.inv.end_at M.root hy
  obtain ⟨a1, a2, a3⟩ := M.inv.wall_of M.root hy he
  rw [← M.inv.qry_of M.root hy he] at a1 a2 a3
  refine S.query 2 rfl y fun w9 S => ⟨rfl, rfl, S.ldA 1 rfl rfl ⟨_, S.root 2 rfl, S.wall (rootI r false) y 0 fun w10 S => S.al fun bz w11 S => S.stAll 0 rfl rfl rfl fun w12 S => ?_, S.al fun bz w11 S => S.wall (rootI r false) y 0 fun w10 S => S.stAll 0 rfl rfl rfl fun w12 S => ?_⟩⟩
  all_goals
    have S : SAt Q [] [] w w12 s [(bz, [.int .i64 (allS s.1 r y 0).1, .int .i64 (allS s.1 r y 0).2.1, .int .i64 (allS s.1 r y 0).2.2.1, .int .i64 (allS s.1 r y 0).2.2.2.1]), (bo, [.int .i64 o1, .int .i64 o2, .int .i64 o3, .int .i64 o4, .int .i64 o5]), (b, wcs2 Q Q' (at0 b0) (at0 b1) (at0 c0) (at0 c1)), (b0, tcs Q 1 r false)] := S
    refine ⟨fun _ => rfl, S.ldA 0 rfl rfl ⟨fun _ => rfl, S.ldA 0 rfl rfl ⟨fun _ => rfl, S.ldA 0 rfl rfl (brP_neg ?_ fun w13 h13 => ⟨k - 1, by omega, i + 1, by rw [addI_i64 (by omega) (by omega)]; omega, by omega, g, s, M, hcnt, S.tail.tail.ext h13⟩)⟩⟩⟩
    rw [a1, a2]
    rcases M.q with ⟨hp, hq⟩ | ⟨rfl, rfl, hq⟩
    · rw [hq] at a3 ⊢
      have a3 : (allS s.1 r y 0).2.2.2.1 = 0 := a3.2 rfl
      simp [a3, hp]
    · rw [hq] at a3 ⊢
      have a3 : ¬ (allS s.1 r y 0).2.2.2.1 = 0 := fun h => absurd (a3.1 h) (by decide)
      simp [a3]
end Go.Proofs.YtkldededdgpmbaaGreat
