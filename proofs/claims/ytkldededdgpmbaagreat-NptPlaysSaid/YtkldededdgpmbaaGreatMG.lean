import Derived.Test.YtkldededdgpmbaaGreatMF
import Derived.Test.YtkldededdgpmbaaGreatME
namespace Go.Proofs.YtkldededdgpmbaaGreat
set_option linter.unusedSimpArgs false
set_option linter.unusedVariables false
set_option maxRecDepth 100000
open Go.RX D
/-! ### What all laws of tables share -/
abbrev sOp : List Sc := [.int .i64, .int .i64, .int .i64, .int .i64, .int .i64]
theorem rng8 {x : Int} (h : (Lit.int .u8 x).wf = true) : 0 ≤ x ∧ x < 256 := by
  simp [Lit.wf, IntKind.min, IntKind.max, IntKind.bits, IntKind.signed] at h
  omega
theorem rng16 {x : Int} (h : (Lit.int .u16 x).wf = true) : 0 ≤ x ∧ x < 65536 := by
  simp [Lit.wf, IntKind.min, IntKind.max, IntKind.bits, IntKind.signed] at h
  omega
theorem cv_id {x : Int} (h : -9223372036854775808 ≤ x) (h' : x < 9223372036854775808) : convI .i64 x = x := wrap_i64_id h h'
theorem rm_id {x d : Int} (h : 0 ≤ x) : remI x d = x % d := by unfold remI; exact Int.tmod_eq_emod_of_nonneg h
theorem fin_npt {w w1 : World} (h : Ext w w1) : CaP Tryz.prog 19 (.el (.one .bool)) [] w1 fun (x : Bool) (w2 : World) => EnP w2 fun (w1 : World) => x = true ∧ Ext w w1 :=
  CaP.val ((At.start [] w).ext h) (s := .el (.one .bool)) true (fun w3 _ => known_ok w3) fun w4 H => EnP.go H fun w5 H => ⟨rfl, H.all⟩
section
variable {Q : Sys} {D G : List Nat} {w0 w w1 : World} {s : WD} {L0 L1 : List (Nat × List Value)}
namespace SAt
theorem exts (S : SAt Q [] [] w0 w s L0) : Ext w0 w := by
  obtain ⟨h1, h2, h3, h4, ca, la, H⟩ := S
  exact H.all
theorem ldAA (i : Nat) (S : SAt Q D G w0 w s L0) {g : Option Bool} {el : El} {K : el.T → Prop} {b o n m : Nat} {l : List Value} {x : el.T} (hL : L0[i]? = some (b, l)) (hv : elAt l (o + n + m) el = some x) (k : K x) : LdP w g (addP (addP (some ⟨b, o, none⟩) n) m) el K := by
  rw [addP_B, addP_B]; exact .of x (elAt_rd (S.get hL) hv) k
/-- An operation that was handed in lies in a variable. -/
theorem opv (S : SAt Q [] [] w0 w s L0) {p : Option Addr} {xs : List (ScsT sOp)} (hx : Sl w0 (.agg sOp) p xs) {i : Nat} {m : Nat} (hm : m = xs.length) (hi : i < m) {t : TypeId} {K : Nat → World → Prop} (k : ∀ o1 o2 o3 o4 o5 : Int, ((o1, o2, o3, o4, o5, ()) : ScsT sOp) ∈ xs → ∀ b w1, SAt Q [] [] w0 w1 s ((b, [.int .i64 o1, .int .i64 o2, .int .i64 o3, .int .i64 o4, .int .i64 o5]) :: L0) → K b w1) :
    (p.isSome = true ∧ 0 ≤ (i : Int) ∧ (i : Int) < (m : Int)) ∧ LdP w none (addP p ((i : Int).toNat * 5)) (.agg sOp) fun x =>
      AlP w ⟨[.int .i64 0, .int .i64 0, .int .i64 0, .int .i64 0, .int .i64 0]⟩ t fun b w2 => StP w2 (some ⟨b, 0, none⟩) [.int .i64 x.1, .int .i64 x.2.1, .int .i64 x.2.2.1, .int .i64 x.2.2.2.1, .int .i64 x.2.2.2.2.1] fun w3 => K b w3 := by
  have hi' : i < xs.length := by omega
  have hget : xs[i]? = some xs[i] := List.getElem?_eq_getElem hi'
  have h1 := (hx.ext S.exts) i _ hget
  refine ⟨⟨h1.1, by omega, by omega⟩, LdP.of xs[i] h1.2 ?_⟩
  exact S.al fun b w2 S => S.stAll 0 rfl rfl rfl fun w3 S => k xs[i].1 xs[i].2.1 xs[i].2.2.1 xs[i].2.2.2.1 xs[i].2.2.2.2.1 (List.getElem_mem _) b w3 S
end SAt
end
/-- What the law of two guests keeps. -/
structure TwoI (g : Gh) (s : WD) (r0 r1 pg : Int) (gone : Bool) : Prop where
  inv : Inv g s
  rt : Rt g
  a : gone = false → g r0 = some (1, 3, 0)
  b : g r1 = some (2, 3, 0)
  q : qryV s r1 false pg = (77, 5, 0, ())
  n : (allS2 s r1 false).length = 4
  len : s.1.length = 3200
theorem allS2_len {s s' : WD} {r : Int} (h : underL s'.1 3 r = underL s.1 3 r) : (allS2 s' r false).length = (allS2 s r false).length := by
  rw [show allS2 s' r false = sortI (underL s'.1 3 r) from if_neg (by decide), show allS2 s r false = sortI (underL s.1 3 r) from if_neg (by decide), h]
theorem TwoI.chg {g g' : Gh} {s s' : WD} {r0 r1 pg p : Int} {l : Nat} (T : TwoI g s r0 r1 pg false) (C : Chg (sameP 1 l p) 1 g g' s s') : TwoI g' s' r0 r1 pg false where
  inv := C.inv
  rt := T.rt.keep C.root
  a := fun _ => C.root.to (T.a rfl)
  b := C.root.to T.b
  q := (T.inv.qry_keep C.inv C.endk C.root T.b (fun h => absurd h.1 (by decide))).trans T.q
  n := (allS2_len (T.inv.under_other C.othr 3 (by decide) T.b)).trans T.n
  len := C.len.1.trans T.len
theorem TwoI.drop {g : Gh} {s : WD} {r0 r1 pg : Int} (T : TwoI g s r0 r1 pg false) : TwoI (delG g 1) (dropS s r0 false) r0 r1 pg true := by
  obtain ⟨I, R, e1, e2, e3⟩ := T.inv.dropped T.rt (T.a rfl)
  refine ⟨I, R, fun h => (by cases h), delG_some.2 ⟨T.b, by show (2 : Int) ≠ 1; decide⟩, ?_, ?_, ?_⟩
  · have : qryV (dropS s r0 false) r1 false pg = qryV s r1 false pg := by unfold qryV; rw [e1]
    rw [this]; exact T.q
  · rw [allS2_len (s' := dropS s r0 false) (by rw [e1])]; exact T.n
  · rw [e1]; exact T.len
theorem map_gone (s : WD) (o r p f t : Int) : mapS s o r true p f t = s := if_pos rfl
theorem lrg_gone (s : WD) (o r p f t : Int) : lrgS s o r true p f t = s := if_pos rfl
theorem pro_gone (s : WD) (o r p t : Int) : proS s o r true p t = s := if_pos rfl
theorem dropS_gone (s : WD) (r : Int) : dropS s r true = s := if_pos rfl
theorem ghB_rt (n : Nat) : Rt (ghB n) := fun f o x h => by
  unfold ghB setG at h
  split at h
  · cases h; rfl
  · split at h
    · cases h; rfl
    · cases h
theorem begin_two (pg : Int) (hp : 0 ≤ pg ∧ pg < 65536) : mapE (stB 200) (rtB 200) false pg 77 5 = 0 ∧ ∃ g, TwoI g (mapS (stB 200) 2 (rtB 200) false pg 77 5) (rtA 200) (rtB 200) pg false := by
  obtain ⟨_, hB, hA, hne, I, l1, l2, c0, c3, c5, hz⟩ := stB_ok (n := 200) ⟨by decide, by decide⟩
  obtain ⟨g0, g1⟩ := ghB_root 200 hne
  have hon : ∀ {f : Int} {v : Int × Nat × Int}, ghB 200 f = some v → v.2.1 = 3 := fun h => ghB_only h
  have Rg : Rt (ghB 200) := ghB_rt 200
  have l1 : (stB 200).1.length = 3200 := l1
  generalize ghB 200 = g at *
  generalize stB 200 = s at *
  generalize rtA 200 = r0 at *
  generalize rtB 200 = r1 at *
  have hend : ∀ q : Int, 0 ≤ q ∧ q < 65536 → EndAt g s 2 q r1 3 ∧ (entA s.1 (16 * r1 + px 3 q % 16)).1 = false := fun q hq => I.end_root (p := q) g1 hq (fun k _ _ => hz _)
  obtain ⟨E, z⟩ := hend pg hp
  have hE := I.map_can (f := 77) (rt := 5) g1 hp ⟨by decide, by decide⟩ ⟨by decide, by decide⟩ E z (by omega)
  refine ⟨hE, ?_⟩
  obtain ⟨_, g', C, hq, _, _, ⟨f0, E0⟩, _, hN⟩ := I.map g1 hE
  have hN0 : NEx g s none := fun f o l x h hl _ => by
    have : l = 3 := hon h
    omega
  refine ⟨g', C.inv, Rg.keep C.root, fun _ => C.root.to g0, C.root.to g1, hq, ?_, C.len.1.trans l1⟩
  rw [show allS2 (mapS s 2 r1 false pg 77 5) r1 false = sortI (underL (mapS s 2 r1 false pg 77 5).1 3 r1) from if_neg (by decide), sortI_len]
  refine C.inv.one_page (Rg.keep C.root) (C.root.to g1) (hN hN0) hp E0 fun q hq hok => ?_
  refine Classical.byContradiction fun hne' => ?_
  rw [I.qry_keep C.inv C.endk C.root g1 (p := q) (fun h => hne' h.2)] at hok
  obtain ⟨E2, z2⟩ := hend q hq
  rw [I.qry_of g1 hq E2, res0 _ _ z2] at hok
  exact absurd hok (by decide)
theorem ltwo_row (p : Option Addr) (m c : Nat) (xs : List (ScsT sOp)) (hm : m = xs.length) (hmx : m ≤ maxLen) {w : World} (hx : Sl w (.agg sOp) p xs) (hxw : ∀ x ∈ xs, okScs sOp x) (y : Int) (hy : (Lit.int .u16 y).wf = true) :
    CallsR Tryz.prog 7 (.el (.one .bool)) [.slice p m c, .int .u16 y] w (fun b w' => b = true ∧ Ext w w') := by
  refine rxFn_ok (C := N3) (ann := ztwo_vc_ann) (Eq.mpr (ztwo_vc p m c y w _) ?_)
  have hy := rng16 hy
  rw [cv_id (x := y) (by omega) (by omega)]
  refine begin_at (At.start [] w) 200 ⟨by decide, by decide⟩ (fun h => absurd h (by decide)) fun _ Q Q' b b0 b1 c0 c1 w1 few T => ?_
  have S := T.fst.sub (L1 := [(b, wcs2 Q Q' (at0 b0) (at0 b1) (at0 c0) (at0 c1)), (b0, tcs Q 1 (rtA 200) false), (b1, tcs Q 2 (rtB 200) false)]) (.cons_cons _ (.cons_cons _ (.cons_cons _ (List.nil_sublist _))))
  clear T
  obtain ⟨hE, g0, T0⟩ := begin_two y hy
  obtain ⟨_, hB, hA, _, _, l1, _⟩ := stB_ok (n := 200) ⟨by decide, by decide⟩
  have hrA : 0 ≤ rtA 200 ∧ rtA 200 < 4096 := by omega
  have hrB : 0 ≤ rtB 200 ∧ rtB 200 < 4096 := by omega
  have few2 : ∀ s : WD, s.1.length = 3200 → Few Q s := fun s h => by
    obtain ⟨f1, f2⟩ := few
    exact ⟨by omega, by omega⟩
  refine ⟨fun _ => rfl, fun _ => rfl, fun _ => ⟨rfl, by decide, by decide⟩, S.ldAA 0 rfl rfl ⟨fun _ => rfl, fun _ => rfl, fun _ => ⟨rfl, by decide, by decide⟩, S.ldAA 0 rfl rfl (brP_neg rfl ⟨rfl, rfl, ⟨rfl, by decide, by decide⟩, S.ldAA 0 rfl rfl (S.map 2 rfl y 77 5 fun w2 S => ?_)⟩)⟩⟩
  rw [hE]
  refine brP_neg rfl ?_
  generalize mapS (stB 200) 2 (rtB 200) false y 77 5 = s0 at S T0
  generalize rtA 200 = r0 at *
  generalize rtB 200 = r1 at *
  let J : World → Prop := fun w' => ∃ g s gone, TwoI g s r0 r1 y gone ∧ SAt Q [] [] w w' s [(b, wcs2 Q Q' (at0 b0) (at0 b1) (at0 c0) (at0 c1)), (b0, tcs Q 1 r0 gone), (b1, tcs Q 2 r1 false)]
  refine ⟨fun k v w' => ∃ i : Nat, v.1 = (i : Int) ∧ k + i = m ∧ J w', ⟨m, fun w3 h3 => ⟨0, rfl, rfl, g0, s0, false, T0, S.ext h3⟩⟩, ?_⟩
  clear S T0 hE few
  rintro k ⟨v, u⟩ w3 ⟨i, e, hk, g, s, gone, T, S⟩
  dsimp only at e ⊢
  subst e
  refine brP_intro (fun cc => ?_) (fun cc => fin_npt S.exts)
  have hi : i < m := by
    simp only [Bool.and_eq_true, decide_eq_true_eq] at cc
    omega
  refine S.opv hx hm hi fun o1 o2 o3 o4 o5 ho bo w4 S => ⟨fun _ w' => J w', ?_, ?_⟩
  · refine ⟨rfl, S.ldA 0 rfl rfl ?_⟩
    refine brP_intro (fun c1 => ⟨rfl, rfl, ⟨rfl, by decide, by decide⟩, S.ldAA 1 rfl rfl ⟨rfl, S.ldA 0 rfl rfl ⟨rfl, S.ldA 0 rfl rfl ⟨rfl, S.ldA 0 rfl rfl (S.map 2 rfl _ _ _ fun w5 S => ?_)⟩⟩⟩⟩) (fun c1 => brP_intro (fun c2 => ⟨rfl, rfl, ⟨rfl, by decide, by decide⟩, S.ldAA 1 rfl rfl ⟨rfl, S.ldA 0 rfl rfl ⟨rfl, S.ldA 0 rfl rfl ⟨rfl, S.ldA 0 rfl rfl (S.large 2 rfl _ _ _ fun w5 S => ?_)⟩⟩⟩⟩) (fun c2 =>
      brP_intro (fun c3 => ⟨rfl, rfl, ⟨rfl, by decide, by decide⟩, S.ldAA 1 rfl rfl ⟨rfl, S.ldA 0 rfl rfl (S.unmap (few2 _ T.len) 2 rfl hrA _ fun w5 S => ?_)⟩⟩) (fun c3 => brP_intro (fun c4 => ⟨rfl, rfl, ⟨rfl, by decide, by decide⟩, S.ldAA 1 rfl rfl ⟨rfl, S.ldA 0 rfl rfl ⟨rfl, S.ldA 0 rfl rfl (S.protect 2 rfl _ _ fun w5 S => ?_)⟩⟩⟩) (fun c4 =>
        brP_intro (fun c5 => ⟨rfl, rfl, ⟨rfl, by decide, by decide⟩, S.ldAA 1 rfl rfl (S.drop 2 rfl hrA fun x rows w5 S _ => ?_)⟩) (fun c5 => ⟨g, s, gone, T, S.tail⟩)))))
    · cases gone with
      | true =>
        rw [map_gone] at S
        exact ⟨g, s, true, T, S.tail⟩
      | false =>
        obtain ⟨g', C, _⟩ := T.inv.mapC (T.a rfl) o3 o4 o5
        exact ⟨g', _, false, T.chg C, S.tail⟩
    · cases gone with
      | true =>
        rw [lrg_gone] at S
        exact ⟨g, s, true, T, S.tail⟩
      | false =>
        obtain ⟨g', C, _⟩ := T.inv.lrgC (T.a rfl) o3 o4 o5
        exact ⟨g', _, false, T.chg C, S.tail⟩
    · cases gone with
      | true =>
        rw [(unm_gone s 1 r0 _).2] at S
        exact ⟨g, s, true, T, S.tail⟩
      | false =>
        obtain ⟨g', C, _⟩ := T.inv.unmC (T.a rfl) o3
        exact ⟨g', _, false, T.chg C, S.tail⟩
    · cases gone with
      | true =>
        rw [pro_gone] at S
        exact ⟨g, s, true, T, S.tail⟩
      | false =>
        obtain ⟨g', C, _⟩ := T.inv.proC (T.a rfl) o3 o5
        exact ⟨g', _, false, T.chg C, S.tail⟩
    · have S := (S.sub (List.sublist_append_left _ _)).tail
      cases gone with
      | true =>
        rw [dropS_gone] at S
        exact ⟨g, s, true, T, S⟩
      | false => exact ⟨delG g 1, _, true, T.drop, S⟩
  · clear S T
    rintro _ w5 ⟨g, s, gone, T, S⟩
    refine ⟨rfl, rfl, ⟨rfl, by decide, by decide⟩, S.ldAA 0 rfl rfl (S.query 2 rfl y fun w6 S => ?_)⟩
    rw [T.q]
    refine ⟨fun _ => rfl, fun _ => rfl, fun _ => ⟨rfl, by decide, by decide⟩, S.ldAA 0 rfl rfl (brP_neg rfl (S.all 2 rfl hrB fun x rows w7 S hr => ?_))⟩
    have hl : x.2.1 = 4 := by rw [hr.1]; exact T.n
    rw [hl]
    refine brP_neg rfl fun w8 h8 => ⟨k - 1, by omega, i + 1, ?_, by omega, g, s, gone, T, (S.sub (List.sublist_append_left _ _)).ext h8⟩
    have hc : i < 30 := by
      simp only [Bool.and_eq_true, decide_eq_true_eq] at cc
      omega
    rw [addI_i64 (by omega) (by omega)]; omega
end Go.Proofs.YtkldededdgpmbaaGreat
namespace Go.Proofs.YtkldededdgpmbaaGreat
set_option linter.unusedSimpArgs false
set_option linter.unusedVariables false
set_option maxRecDepth 100000
open Go.RX D
/-! ### A page is mapped as it was mapped last; a walker finds the same -/
structure ModI (g : Gh) (s : WD) (r p frame rights : Int) : Prop where
  inv : Inv g s
  root : g r = some (1, 3, 0)
  q : (0 < rights ∧ qryV s r false p = (frame, rights, 0, ())) ∨ (rights = 0 ∧ frame = 0 ∧ qryV s r false p = (0, 0, 4, ()))
  len : s.1.length = 3200
namespace ModI
variable {g : Gh} {s : WD} {r p frame rights : Int}
theorem keep (M : ModI g s r p frame rights) {g' : Gh} {s' : WD} {a : Int} {l : Nat} (C : Chg (sameP 1 l a) 1 g g' s s') (h : ¬ px l p = px l a) : ModI g' s' r p frame rights :=
  ⟨C.inv, C.root.to M.root, by rw [M.inv.qry_keep C.inv C.endk C.root M.root (fun hh => h hh.2)]; exact M.q, C.len.1.trans M.len⟩
theorem rng (M : ModI g s r p frame rights) : 0 ≤ rights := by rcases M.q with ⟨h, _⟩ | ⟨h, _⟩ <;> omega
theorem map (M : ModI g s r p frame rights) (a f t : Int) : ∃ g', ModI g' (mapS s 1 r false a f t) r p (if mapE s r false a f t = 0 ∧ a = p then f else frame) (if mapE s r false a f t = 0 ∧ a = p then t else rights) ∧ cntL s.2 0 ≤ cntL (mapS s 1 r false a f t).2 0 + 3 := by
  by_cases h : mapE s r false a f t = 0
  · obtain ⟨_, g', C, hq, h1, _, _, ⟨f0, j, he, hc⟩, _⟩ := M.inv.map (o := 1) M.root h
    have hj := (M.inv.kd he.1).2.2.2.2.2
    refine ⟨g', ?_, by omega⟩
    by_cases e : a = p
    · subst e
      rw [if_pos ⟨h, rfl⟩, if_pos ⟨h, rfl⟩]
      exact ⟨C.inv, C.root.to M.root, .inl ⟨by omega, hq⟩, C.len.1.trans M.len⟩
    · rw [if_neg (fun hh => e hh.2), if_neg (fun hh => e hh.2)]
      exact M.keep C (fun hh => e hh.symm)
  · rw [map_err h, if_neg (fun hh => h hh.1), if_neg (fun hh => h hh.1)]
    exact ⟨g, M, by omega⟩
theorem large (M : ModI g s r p frame rights) (hp : 0 ≤ p ∧ p < 65536) (a f t : Int) : ∃ g', ModI g' (lrgS s 1 r false a f t) r p (if lrgE s r false a f t = 0 ∧ a = p - p % 16 then f + p % 16 else frame) (if lrgE s r false a f t = 0 ∧ a = p - p % 16 then t else rights) ∧ cntL s.2 0 ≤ cntL (lrgS s 1 r false a f t).2 0 + 3 := by
  by_cases h : lrgE s r false a f t = 0
  · obtain ⟨ha, h16, g', C, hq, h1, ⟨f0, j, hj1, he, _, hc⟩, _⟩ := M.inv.large (o := 1) M.root h
    have hj := (M.inv.kd he.1).2.2.2.2.2
    refine ⟨g', ?_, by omega⟩
    by_cases e : a = p - p % 16
    · rw [if_pos ⟨h, e⟩, if_pos ⟨h, e⟩]
      have hs : px 1 p = px 1 a := by
        show p / 16 = a / 16
        omega
      exact ⟨C.inv, C.root.to M.root, .inl ⟨by omega, (hq p hp hs).1⟩, C.len.1.trans M.len⟩
    · rw [if_neg (fun hh => e hh.2), if_neg (fun hh => e hh.2)]
      refine M.keep C (fun hh => e ?_)
      have hh : p / 16 = a / 16 := hh
      omega
  · rw [lrg_err h, if_neg (fun hh => h hh.1), if_neg (fun hh => h hh.1)]
    exact ⟨g, M, by omega⟩
theorem unmap (M : ModI g s r p frame rights) (hc : 0 < cntL s.2 0) (a : Int) : ∃ g', ModI g' (unmS s 1 r false a) r p (if a = p then 0 else frame) (if a = p then 0 else rights) ∧ cntL s.2 0 ≤ cntL (unmS s 1 r false a).2 0 + 3 ∧ (a = p → (unmE s 1 r false a = 0 ↔ 0 < rights) ∧ (unmE s 1 r false a = 0 → unmF s 1 r false a = frame)) := by
  by_cases h : unmE s 1 r false a = 0
  · obtain ⟨ha, hq, h1, ⟨f0, j, hj1, he, _, hc⟩, _⟩ := (M.inv.unmap (o := 1) M.root (unm_rng h).2 h).choose_spec
    generalize (M.inv.unmap (o := 1) M.root (unm_rng h).2 h).choose = g' at ha
    refine ⟨g', ?_, by omega, fun e => ?_⟩
    · by_cases e : a = p
      · subst e
        rw [if_pos rfl, if_pos rfl]
        exact ⟨ha.inv, ha.root.to M.root, .inr ⟨rfl, rfl, hq⟩, ha.len.1.trans M.len⟩
      · rw [if_neg e, if_neg e]
        exact M.keep ha (fun hh => e hh.symm)
    · subst e
      rcases M.q with ⟨hp, hq2⟩ | ⟨_, _, hq2⟩
      · refine ⟨⟨fun _ => hp, fun _ => h⟩, fun _ => ?_⟩
        unfold unmF
        rw [if_pos h, hq2]
      · rw [hq2] at h1
        exact absurd h1 (by decide)
  · rw [unm_err h]
    refine ⟨g, ?_, by omega, fun e => ?_⟩
    · by_cases e : a = p
      · subst e
        rw [if_pos rfl, if_pos rfl]
        rcases M.q with ⟨hp, hq2⟩ | ⟨_, _, hq2⟩
        · exfalso
          have hpr := qry_rng (s := s) (r := r) (pg := a) (gone := false) (by rw [hq2])
          obtain ⟨f0, j, hj, he⟩ := M.inv.end_at M.root hpr.2
          refine h (M.inv.unm_can M.root hpr.2 he ?_ (.inl hc))
          rw [M.inv.qry_of M.root hpr.2 he] at hq2
          exact resE_ok (by rw [hq2])
        · exact ⟨M.inv, M.root, .inr ⟨rfl, rfl, hq2⟩, M.len⟩
      · rw [if_neg e, if_neg e]; exact M
    · subst e
      refine ⟨⟨fun hh => absurd hh h, fun hp => ?_⟩, fun hh => absurd hh h⟩
      rcases M.q with ⟨_, hq2⟩ | ⟨h0, _, _⟩
      · have hpr := qry_rng (s := s) (r := r) (pg := a) (gone := false) (by rw [hq2])
        obtain ⟨f0, j, hj, he⟩ := M.inv.end_at M.root hpr.2
        refine M.inv.unm_can M.root hpr.2 he ?_ (.inl hc)
        rw [M.inv.qry_of M.root hpr.2 he] at hq2
        exact resE_ok (by rw [hq2])
      · omega
theorem protect (M : ModI g s r p frame rights) (a t : Int) : ∃ g', ModI g' (proS s 1 r false a t) r p frame (if proE s 1 r false a t = 0 ∧ a = p then t else rights) ∧ cntL s.2 0 ≤ cntL (proS s 1 r false a t).2 0 + 3 := by
  by_cases h : proE s 1 r false a t = 0
  · obtain ⟨ha, g', C, h1, hq, hc⟩ := M.inv.protect (o := 1) M.root h
    refine ⟨g', ?_, by omega⟩
    by_cases e : a = p
    · subst e
      rw [if_pos ⟨h, rfl⟩]
      rcases M.q with ⟨hp, hq2⟩ | ⟨_, _, hq2⟩
      · rw [hq2] at hq
        have ht : 0 < t := by
          have := hq
          obtain ⟨f0, j, hj, he⟩ := C.inv.end_at (C.root.to M.root) ha
          have hR : rgtE a 0 t = 0 := by
            unfold proE at h
            rw [if_neg (by decide)] at h
            by_cases hh : rgtE a 0 t = 0
            · exact hh
            · rw [if_neg hh] at h; exact absurd h hh
          unfold rgtE at hR
          rw [if_neg (by omega)] at hR
          by_cases hh : t < 1 ∨ t > 7
          · rw [if_pos hh] at hR; exact absurd hR (by decide)
          · omega
        exact ⟨C.inv, C.root.to M.root, .inl ⟨ht, hq⟩, C.len.1.trans M.len⟩
      · rw [hq2] at h1; exact absurd h1 (by decide)
    · rw [if_neg (fun hh => e hh.2)]
      exact M.keep C (fun hh => e hh.symm)
  · rw [pro_err h, if_neg (fun hh => h hh.1)]
    exact ⟨g, M, by omega⟩
end ModI
theorem begin_mod (p : Int) (hp : 0 ≤ p ∧ p < 65536) : ModI (ghB 200) (stB 200) (rtA 200) p 0 0 ∧ cntL (stB 200).2 0 = 198 := by
  obtain ⟨_, hB, hA, hne, I, l1, l2, c0, c3, c5, hz⟩ := stB_ok (n := 200) ⟨by decide, by decide⟩
  obtain ⟨g0, g1⟩ := ghB_root 200 hne
  have l1 : (stB 200).1.length = 3200 := l1
  generalize ghB 200 = g at *
  generalize stB 200 = s at *
  generalize rtA 200 = r0 at *
  obtain ⟨E, z⟩ := I.end_root (p := p) g0 hp (fun k _ _ => hz _)
  refine ⟨⟨I, g0, .inr ⟨rfl, rfl, ?_⟩, l1⟩, by omega⟩
  rw [I.qry_of g0 hp E, res0 _ _ z]
theorem lmodel_row (p : Option Addr) (m c : Nat) (xs : List (ScsT sOp)) (hm : m = xs.length) (hmx : m ≤ maxLen) {w : World} (hx : Sl w (.agg sOp) p xs) (hxw : ∀ x ∈ xs, okScs sOp x) (y : Int) (hy : (Lit.int .u16 y).wf = true) :
    CallsR Tryz.prog 4 (.el (.one .bool)) [.slice p m c, .int .u16 y] w (fun b w' => b = true ∧ Ext w w') := by
  refine rxFn_ok (C := N3) (ann := zmodel_vc_ann) (Eq.mpr (zmodel_vc p m c y w _) ?_)
  have hy := rng16 hy
  rw [cv_id (x := y) (by omega) (by omega)]
  have e16 : remI y 16 = y % 16 := rm_id hy.1
  have es : subI .i64 y (y % 16) = y - y % 16 := subI_i64 (by omega) (by omega)
  rw [e16, es]
  refine begin_at (At.start [] w) 200 ⟨by decide, by decide⟩ (fun h => absurd h (by decide)) fun _ Q Q' b b0 b1 c0 c1 w1 few T => ?_
  have S := T.fst.sub (L1 := [(b, wcs2 Q Q' (at0 b0) (at0 b1) (at0 c0) (at0 c1)), (b0, tcs Q 1 (rtA 200) false)]) (.cons_cons _ (.cons_cons _ (List.nil_sublist _)))
  clear T
  obtain ⟨M0, cc0⟩ := begin_mod y hy
  obtain ⟨_, hB, hA, _, _, l1, _⟩ := stB_ok (n := 200) ⟨by decide, by decide⟩
  have hrA : 0 ≤ rtA 200 ∧ rtA 200 < 4096 := by omega
  have few2 : ∀ s : WD, s.1.length = 3200 → Few Q s := fun s h => by
    obtain ⟨f1, f2⟩ := few
    exact ⟨by omega, by omega⟩
  clear few hB hA l1
  refine ⟨fun _ => rfl, fun _ => rfl, fun _ => ⟨rfl, by decide, by decide⟩, S.ldAA 0 rfl rfl (brP_neg rfl ⟨rfl, rfl, ⟨rfl, by decide, by decide⟩, S.ldAA 0 rfl rfl ?_⟩)⟩
  generalize stB 200 = s0 at *
  generalize rtA 200 = r at *
  generalize ghB 200 = g0 at *
  refine ⟨fun k v w' => ∃ i : Nat, v.2.2.1 = (i : Int) ∧ k + i = m ∧ ∃ g s, ModI g s r y v.1 v.2.1 ∧ 198 ≤ cntL s.2 0 + 3 * i ∧ SAt Q [] [] w w' s [(b, wcs2 Q Q' (at0 b0) (at0 b1) (at0 c0) (at0 c1)), (b0, tcs Q 1 r false)], ⟨m, fun w3 h3 => ⟨0, rfl, rfl, g0, s0, M0, by omega, S.ext h3⟩⟩, ?_⟩
  clear S M0 cc0
  rintro k ⟨fr0, rg0, v, u⟩ w3 ⟨i, e, hk, g, s, M, hcnt, S⟩
  dsimp only at e M ⊢
  subst e
  refine brP_intro (fun cc => ?_) (fun cc => fin_npt S.exts)
  have hi : i < m ∧ i < 30 := by
    simp only [Bool.and_eq_true, decide_eq_true_eq] at cc
    omega
  refine S.opv hx hm hi.1 fun o1 o2 o3 o4 o5 ho bo w4 S => ?_
  let J : (Prop) → Int → Int → World → Prop := fun P fr rg w' => ∃ g s, ModI g s r y fr rg ∧ (198 ≤ cntL s.2 0 + 3 * i ∨ (P ∧ 198 ≤ cntL s.2 0 + 3 * (i + 1))) ∧ SAt Q [] [] w w' s [(bo, [.int .i64 o1, .int .i64 o2, .int .i64 o3, .int .i64 o4, .int .i64 o5]), (b, wcs2 Q Q' (at0 b0) (at0 b1) (at0 c0) (at0 c1)), (b0, tcs Q 1 r false)]
  refine ⟨fun v w' => J (o1 = 0) v.1 v.2.1 w', ?_, ?_⟩
  · refine ⟨rfl, S.ldA 0 rfl rfl ⟨fun _ => rfl, S.ldA 0 rfl rfl ⟨fun _ => rfl, S.ldA 0 rfl rfl ⟨fun _ => rfl, S.ldA 0 rfl rfl (brP_intro (fun c1 => S.map 2 rfl _ _ _ fun w5 S => ⟨fun _ => rfl, S.ldA 0 rfl rfl ?_⟩) (fun c1 => ⟨fun _ => rfl, S.ldA 0 rfl rfl ⟨g, s, M, .inl hcnt, S⟩⟩))⟩⟩⟩⟩
    obtain ⟨g', M', hc⟩ := M.map o3 o4 o5
    have c1 : o1 = 0 := by simpa using c1
    refine brP_intro (fun d => ⟨rfl, S.ldA 0 rfl rfl ⟨rfl, S.ldA 0 rfl rfl ⟨g', _, ?_, .inr ⟨c1, by omega⟩, S⟩⟩⟩) (fun d => ⟨g', _, ?_, .inr ⟨c1, by omega⟩, S⟩)
    · have d : mapE s r false o3 o4 o5 = 0 ∧ o3 = y := by simpa using d
      rw [if_pos d, if_pos d] at M'
      exact M'
    · have d : ¬ (mapE s r false o3 o4 o5 = 0 ∧ o3 = y) := by simpa using d
      rw [if_neg d, if_neg d] at M'
      exact M'
  clear S M hcnt
  rintro ⟨fr1, rg1, _⟩ w5 ⟨g, s, M, hcnt, S⟩
  dsimp only at M ⊢
  refine ⟨fun v w' => J (o1 = 0 ∨ o1 = 1) v.1 v.2.1 w', ?_, ?_⟩
  · refine ⟨rfl, S.ldA 0 rfl rfl ⟨fun _ => rfl, S.ldA 0 rfl rfl ⟨fun _ => rfl, S.ldA 0 rfl rfl ⟨fun _ => rfl, S.ldA 0 rfl rfl (brP_intro (fun c1 => S.large 2 rfl _ _ _ fun w5 S => ⟨fun _ => rfl, S.ldA 0 rfl rfl ?_⟩) (fun c1 => ⟨fun _ => rfl, S.ldA 0 rfl rfl ⟨g, s, M, hcnt.imp id (fun h => ⟨.inl h.1, h.2⟩), S⟩⟩))⟩⟩⟩⟩
    obtain ⟨g', M', hc⟩ := M.large hy o3 o4 o5
    have c1 : o1 = 1 := by simpa using c1
    have hcnt : 198 ≤ cntL s.2 0 + 3 * i := hcnt.resolve_right (fun h => absurd (show o1 = 0 from h.1) (by omega))
    have hr4 : lrgE s r false o3 o4 o5 = 0 → 0 ≤ o4 ∧ o4 < 4096 := fun h => by
      have hR : rgtE o3 o4 o5 = 0 := by
        unfold lrgE at h
        rw [if_neg (by decide)] at h
        by_cases hh : rgtE o3 o4 o5 = 0
        · exact hh
        · rw [if_neg hh] at h; exact absurd h hh
      unfold rgtE at hR
      by_cases hh : o3 < 0 ∨ o3 ≥ 65536 ∨ o4 < 0 ∨ o4 ≥ 4096
      · rw [if_pos hh] at hR; exact absurd hR (by decide)
      · omega
    refine brP_intro (fun d => ⟨rfl, S.ldA 0 rfl rfl ⟨rfl, S.ldA 0 rfl rfl ⟨g', _, ?_, .inr ⟨.inr c1, by omega⟩, S⟩⟩⟩) (fun d => ⟨g', _, ?_, .inr ⟨.inr c1, by omega⟩, S⟩)
    · have d : lrgE s r false o3 o4 o5 = 0 ∧ o3 = y - y % 16 := by simpa using d
      rw [if_pos d, if_pos d] at M'
      have := hr4 d.1
      have e : addI .i64 o4 (y % 16) = o4 + y % 16 := addI_i64 (by omega) (by omega)
      show ModI g' _ r y (addI .i64 o4 (y % 16)) o5
      rw [e]
      exact M'
    · have d : ¬ (lrgE s r false o3 o4 o5 = 0 ∧ o3 = y - y % 16) := by simpa using d
      rw [if_neg d, if_neg d] at M'
      exact M'
  clear S M hcnt
  rintro ⟨fr2, rg2, _⟩ w6 ⟨g, s, M, hcnt, S⟩
  dsimp only at M ⊢
  refine ⟨fun v w' => J (o1 = 0 ∨ o1 = 1 ∨ o1 = 2) v.1 v.2.1 w', ?_, ?_⟩
  · refine ⟨rfl, S.ldA 0 rfl rfl (brP_intro (fun c1 => ⟨rfl, S.ldA 0 rfl rfl (S.unmap (few2 _ M.len) 2 rfl hrA _ fun w7 S => ⟨rfl, S.ldA 0 rfl rfl ⟨fun _ => rfl, S.ldA 0 rfl rfl ?_⟩⟩)⟩) (fun c1 => ⟨g, s, M, hcnt.imp id (fun h => ⟨h.1.imp id .inl, h.2⟩), S⟩))⟩
    have c1 : o1 = 2 := by simpa using c1
    have hcnt : 198 ≤ cntL s.2 0 + 3 * i := hcnt.resolve_right (fun h => absurd (show o1 = 0 ∨ o1 = 1 from h.1) (by omega))
    obtain ⟨g', M', hc, hu⟩ := M.unmap (by omega) o3
    have hrg := M.rng
    by_cases e : o3 = y
    · rw [if_pos e, if_pos e] at M'
      obtain ⟨u1, u2⟩ := hu e
      refine brP_neg ?_ ⟨rfl, S.ldA 0 rfl rfl (brP_pos (by simpa using e) ⟨g', _, M', .inr ⟨.inr (.inr c1), by omega⟩, S⟩)⟩
      by_cases h : unmE s 1 r false o3 = 0
      · have := u1.1 h
        simp [h, u2 h, this]
      · have : ¬ 0 < rg2 := fun hh => h (u1.2 hh)
        simp [h, this]
    · rw [if_neg e, if_neg e] at M'
      have e' : (o3 == y) = false := by simpa using e
      dsimp only
      rw [e']
      exact brP_neg rfl ⟨rfl, S.ldA 0 rfl rfl (brP_neg e' ⟨g', _, M', .inr ⟨.inr (.inr c1), by omega⟩, S⟩)⟩
  clear S M hcnt
  rintro ⟨fr3, rg3, _⟩ w7 ⟨g, s, M, hcnt, S⟩
  dsimp only at M ⊢
  refine ⟨fun v w' => J True fr3 v.1 w', ?_, ?_⟩
  · refine ⟨rfl, S.ldA 0 rfl rfl ⟨fun _ => rfl, S.ldA 0 rfl rfl ⟨fun _ => rfl, S.ldA 0 rfl rfl (brP_intro (fun c1 => S.protect 2 rfl _ _ fun w8 S => ⟨fun _ => rfl, S.ldA 0 rfl rfl ?_⟩) (fun c1 => ⟨fun _ => rfl, S.ldA 0 rfl rfl ⟨g, s, M, hcnt.imp id (fun h => ⟨trivial, h.2⟩), S⟩⟩))⟩⟩⟩
    obtain ⟨g', M', hc⟩ := M.protect o3 o5
    have c1 : o1 = 3 := by simpa using c1
    have hcnt : 198 ≤ cntL s.2 0 + 3 * i := hcnt.resolve_right (fun h => absurd (show o1 = 0 ∨ o1 = 1 ∨ o1 = 2 from h.1) (by omega))
    refine brP_intro (fun d => ⟨rfl, S.ldA 0 rfl rfl ⟨g', _, ?_, .inr ⟨trivial, by omega⟩, S⟩⟩) (fun d => ⟨g', _, ?_, .inr ⟨trivial, by omega⟩, S⟩)
    · have d : proE s 1 r false o3 o5 = 0 ∧ o3 = y := by simpa using d
      rw [if_pos d] at M'
      exact M'
    · have d : ¬ (proE s 1 r false o3 o5 = 0 ∧ o3 = y) := by simpa using d
      rw [if_neg d] at M'
      exact M'
  clear S M hcnt
  rintro ⟨rg4, _⟩ w8 ⟨g, s, M, hcnt, S⟩
  dsimp only at M ⊢
  have hcnt : 198 ≤ cntL s.2 0 + 3 * (i + 1) := by rcases hcnt with h | ⟨_, h⟩ <;> omega
  obtain ⟨f0, j, hj, he⟩ := M.inv.end_at M.root hy
  obtain ⟨a1, a2, a3⟩ := M.inv.wall_of M.root hy he
  rw [← M.inv.qry_of M.root hy he] at a1 a2 a3
  refine S.query 2 rfl y fun w9 S => ⟨rfl, rfl, S.ldA 1 rfl rfl ⟨_, S.root 2 rfl, S.wall (rootI r false) y 0 fun w10 S => S.al fun bz w11 S => S.stAll 0 rfl rfl rfl fun w12 S => ?_, S.al fun bz w11 S => S.wall (rootI r false) y 0 fun w10 S => S.stAll 0 rfl rfl rfl fun w12 S => ?_⟩⟩
  all_goals
    have S : SAt Q [] [] w w12 s [(bz, [.int .i64 (allS s.1 r y 0).1, .int .i64 (allS s.1 r y 0).2.1, .int .i64 (allS s.1 r y 0).2.2.1, .int .i64 (allS s.1 r y 0).2.2.2.1]), (bo, [.int .i64 o1, .int .i64 o2, .int .i64 o3, .int .i64 o4, .int .i64 o5]), (b, wcs2 Q Q' (at0 b0) (at0 b1) (at0 c0) (at0 c1)), (b0, tcs Q 1 r false)] := S
    refine ⟨fun _ => rfl, S.ldA 0 rfl rfl ⟨fun _ => rfl, S.ldA 0 rfl rfl ⟨fun _ => rfl, S.ldA 0 rfl rfl (brP_neg ?_ fun w13 h13 => ⟨k - 1, by omega, i + 1, by rw [addI_i64 (by omega) (by omega)]; omega, by omega, g, s, M, hcnt, S.tail.tail.ext h13⟩)⟩⟩⟩
    rw [a1, a2]
    rcases M.q with ⟨hp, hq⟩ | ⟨rfl, rfl, hq⟩
    · rw [hq] at a3 ⊢
      have a3 : (allS s.1 r y 0).2.2.2.1 = 0 := a3.2 rfl
      simp [a3, hp]
    · rw [hq] at a3 ⊢
      have a3 : ¬ (allS s.1 r y 0).2.2.2.1 = 0 := fun h => absurd (a3.1 h) (by decide)
      simp [a3]
end Go.Proofs.YtkldededdgpmbaaGreat
namespace Go.Proofs.YtkldededdgpmbaaGreat
set_option linter.unusedSimpArgs false
set_option linter.unusedVariables false
set_option maxRecDepth 100000
open Go.RX D
/-! ### Behind the last Unmap there is the root alone -/
theorem px_up {p q : Int} (h : px 1 q = px 1 p) : ∀ j, 1 ≤ j → px j q = px j p
  | 0, hj => by omega
  | 1, _ => h
  | j + 2, _ => by
    have := px_up h (j + 1) (by omega)
    show px (j + 1) q / 16 = px (j + 1) p / 16
    rw [this]
def grp (a : Int) : List Int := (List.range 16).map fun (k : Nat) => a + (k : Int)
theorem mem_grp {a q : Int} (h16 : a % 16 = 0) : q ∈ grp a ↔ px 1 q = px 1 a := by
  unfold grp
  rw [List.mem_map]
  show (∃ k, k ∈ List.range 16 ∧ a + (k : Int) = q) ↔ q / 16 = a / 16
  constructor
  · rintro ⟨k, hk, rfl⟩
    rw [List.mem_range] at hk
    omega
  · intro h
    exact ⟨(q - a).toNat, List.mem_range.2 (by omega), by omega⟩
theorem grp_nodup (a : Int) : (grp a).Nodup := by
  unfold grp
  have h : (List.range 16).Nodup := List.nodup_range
  exact List.Pairwise.map _ (fun x y (hxy : x ≠ y) => by show a + (x : Int) ≠ a + (y : Int); omega) h
namespace Inv
variable {g : Gh} {s : WD}
theorem root_of (I : Inv g s) : ∀ (n : Nat) {l : Nat} {f o x : Int}, l + n = 3 → g f = some (o, l, x) → ∃ r x', g r = some (o, 3, x')
  | 0, l, f, o, x, hl, hf => by
    have : l = 3 := by omega
    subst this
    exact ⟨f, x, hf⟩
  | n + 1, l, f, o, x, hl, hf => by
    obtain ⟨f', h1, _⟩ := I.par hf (by omega)
    exact I.root_of n (l := l + 1) (by omega) h1
end Inv
/-- What the law of ends keeps while pages are mapped. -/
structure EndI (g : Gh) (s : WD) (r r1 : Int) (i : Nat) (xs : List Int) : Prop where
  inv : Inv g s
  rt : Rt g
  root : g r = some (1, 3, 0)
  root1 : g r1 = some (2, 3, 0)
  rts : ∀ f o x, g f = some (o, 3, x) → o = 1 ∨ o = 2
  ne : NEx g s none
  nd : xs.Nodup
  rg : ∀ q ∈ xs, 0 ≤ q ∧ q < 65536
  mp : ∀ q, 0 ≤ q ∧ q < 65536 → ((qryV s r false q).2.2.1 = 0 ↔ q ∈ xs)
  no2 : ∀ q, 0 ≤ q ∧ q < 65536 → (qryV s r1 false q).2.2.1 ≠ 0
  cnt : 198 ≤ cntL s.2 0 + 3 * i
  nl : nlW s.1 ≤ i
  ln : xs.length ≤ 16 * i
  len : s.1.length = 3200
namespace EndI
variable {g : Gh} {s : WD} {r r1 : Int} {i : Nat} {xs : List Int}
theorem more (E : EndI g s r r1 i xs) : EndI g s r r1 (i + 1) xs := { E with cnt := by have := E.cnt; omega, nl := by have := E.nl; omega, ln := by have := E.ln; omega }
theorem map (E : EndI g s r r1 i xs) {a f t : Int} (h : mapE s r false a f t = 0) : (0 ≤ a ∧ a < 65536) ∧ ∃ g', EndI g' (mapS s 1 r false a f t) r r1 (i + 1) (xs ++ [a]) := by
  obtain ⟨ha, g', C, hq, _, h4, _, ⟨f0, j, he, hc⟩, hN⟩ := E.inv.map (o := 1) E.root h
  have hj := (E.inv.kd he.1).2.2.2.2.2
  have hna : a ∉ xs := fun hm => by
    rw [(E.mp a ha).2 hm] at h4
    exact absurd h4 (by decide)
  refine ⟨ha, g', C.inv, E.rt.keep C.root, C.root.to E.root, C.root.to E.root1, fun f o x hf => E.rts f o x ((C.root _ _ _).1 hf), hN E.ne, ?_, ?_, ?_, ?_, ?_, ?_, ?_, C.len.1.trans E.len⟩
  · exact List.nodup_append.2 ⟨E.nd, List.nodup_cons.2 ⟨fun h => (by cases h), List.nodup_nil⟩, fun x hx y hy e => hna (by
      rw [List.mem_singleton] at hy
      rw [← hy, ← e]; exact hx)⟩
  · intro q hq2
    rcases List.mem_append.1 hq2 with h | h
    · exact E.rg q h
    · rw [List.mem_singleton] at h; rw [h]; exact ha
  · intro q hq2
    by_cases e : q = a
    · subst e
      rw [hq]
      simp
    · rw [E.inv.qry_keep C.inv C.endk C.root E.root (fun hh => e hh.2), E.mp q hq2]
      simp [e]
  · intro q hq2
    rw [E.inv.qry_keep C.inv C.endk C.root E.root1 (fun hh => absurd hh.1 (by decide))]
    exact E.no2 q hq2
  · have := E.cnt
    omega
  · have h1 := E.nl
    have h2 : nlW (mapS s 1 r false a f t).1 ≤ nlW s.1 := nl_map
    omega
  · have := E.ln
    rw [List.length_append, List.length_singleton]; omega
theorem large (E : EndI g s r r1 i xs) {a f t : Int} (h : lrgE s r false a f t = 0) : (0 ≤ a ∧ a < 65536) ∧ ∃ g', EndI g' (lrgS s 1 r false a f t) r r1 (i + 1) (xs ++ grp a) := by
  obtain ⟨ha, h16, g', C, hq, _, ⟨f0, j, hj1, he, hz, hc⟩, hN⟩ := E.inv.large (o := 1) E.root h
  have hj := (E.inv.kd he.1).2.2.2.2.2
  have hg : ∀ q, q ∈ grp a → (0 ≤ q ∧ q < 65536) ∧ px 1 q = px 1 a := fun q hm => by
    have h1 := (mem_grp h16).1 hm
    have h2 : q / 16 = a / 16 := h1
    exact ⟨by omega, h1⟩
  have hna : ∀ q, q ∈ grp a → q ∉ xs := fun q hm hx => by
    obtain ⟨h1, h2⟩ := hg q hm
    have e1 := px_up h2 j hj1
    have e2 : px (j + 1) q = px (j + 1) a := px_up h2 (j + 1) (by omega)
    have he2 : EndAt g s 1 q f0 j := ⟨by rw [e2]; exact he.1, by rw [e1]; exact he.2⟩
    have h3 := (E.mp q h1).2 hx
    rw [E.inv.qry_of E.root h1 he2, e1, res0 _ _ hz] at h3
    exact absurd h3 (by decide)
  refine ⟨ha, g', C.inv, E.rt.keep C.root, C.root.to E.root, C.root.to E.root1, fun f o x hf => E.rts f o x ((C.root _ _ _).1 hf), hN E.ne, ?_, ?_, ?_, ?_, ?_, ?_, ?_, C.len.1.trans E.len⟩
  · exact List.nodup_append.2 ⟨E.nd, grp_nodup a, fun x hx y hy e => hna y hy (by rw [← e]; exact hx)⟩
  · intro q hq2
    rcases List.mem_append.1 hq2 with h | h
    · exact E.rg q h
    · exact (hg q h).1
  · intro q hq2
    by_cases e : px 1 q = px 1 a
    · rw [(hq q hq2 e).1]
      simp [(mem_grp h16).2 e]
    · rw [E.inv.qry_keep C.inv C.endk C.root E.root (fun hh => e hh.2), E.mp q hq2]
      have : q ∉ grp a := fun hm => e ((mem_grp h16).1 hm)
      simp [this]
  · intro q hq2
    rw [E.inv.qry_keep C.inv C.endk C.root E.root1 (fun hh => absurd hh.1 (by decide))]
    exact E.no2 q hq2
  · have := E.cnt
    omega
  · have h1 := E.nl
    have h2 : nlW (lrgS s 1 r false a f t).1 ≤ nlW s.1 + 1 := nl_lrg
    omega
  · have := E.ln
    have h2 : (grp a).length = 16 := by unfold grp; simp
    rw [List.length_append, h2]; omega
end EndI
def own1 : Int → Int → Prop := fun o _ => o = 1
/-- What it keeps while they are taken away; (g1, s1): when that began. -/
structure TakI (g1 : Gh) (s1 : WD) (g : Gh) (s : WD) (r r1 : Int) (xs : List Int) : Prop where
  C : Chg own1 1 g1 g s1 s
  ne : NEx g s none
  mp : ∀ q, 0 ≤ q ∧ q < 65536 → ((qryV s r false q).2.2.1 = 0 ↔ q ∈ xs)
  nl : nlW s.1 ≤ cntL s.2 0
theorem TakI.unmap {g1 g : Gh} {s1 s : WD} {r r1 a : Int} {xs : List Int} (K : TakI g1 s1 g s r r1 (a :: xs)) (hr1 : g1 r = some (1, 3, 0)) (ha : 0 ≤ a ∧ a < 65536) (hn : a ∉ xs) :
    unmE s 1 r false a = 0 ∧ ∃ g', TakI g1 s1 g' (unmS s 1 r false a) r r1 xs := by
  have hr := K.C.root.to hr1
  have I := K.C.inv
  have hq := (K.mp a ha).2 List.mem_cons_self
  obtain ⟨f, j, _, he⟩ := I.end_at hr ha
  have hq2 := hq
  rw [I.qry_of hr ha he] at hq2
  have hpr := resE_ok hq2
  obtain ⟨p1, p2⟩ := I.nl_pos he hpr
  have hnl := K.nl
  have h0 : unmE s 1 r false a = 0 := I.unm_can hr ha he hpr (by
    rcases Nat.eq_zero_or_pos j with h | h
    · exact .inr h
    · exact .inl (by omega))
  have hn2 := I.nl_unm hr ha he hpr h0
  obtain ⟨g', C, hqa, _, ⟨f2, j2, _, he2, _, hc⟩, hN⟩ := I.unmap hr ha h0
  obtain ⟨_, rfl⟩ := I.end_uniq hr ha he he2
  refine ⟨h0, g', K.C.trans (C.mono fun o p h => h.1), hN K.ne, fun q hq3 => ?_, by omega⟩
  by_cases e : q = a
  · subst e
    rw [hqa]
    simp [hn]
  · rw [I.qry_keep C.inv C.endk C.root hr (fun hh => e hh.2), K.mp q hq3]
    simp [e]
theorem TakI.last {g1 g : Gh} {s1 s : WD} {r r1 : Int} {xs0 : List Int} {i : Nat} (E : EndI g1 s1 r r1 i xs0) (K : TakI g1 s1 g s r r1 []) :
    allS2 s r false = [r] ∧ (∀ k, 0 ≤ k → k < 16 → ldV s.1 (16 * r + k) = 0) ∧ cntL s.2 3 = 2 ∧ (allS2 s1 r false).length ≤ cntL s.2 5 + 1 := by
  have I := K.C.inv
  have hR := E.rt.keep K.C.root
  have hr := K.C.root.to E.root
  have hr1 := K.C.root.to E.root1
  obtain ⟨b1, b2, b3⟩ := I.bare hR K.ne hr (fun q hq h => by
    have := (K.mp q hq).1 h
    cases this)
  obtain ⟨d1, _, _⟩ := I.bare hR K.ne hr1 (fun q hq => by
    rw [E.inv.qry_keep I K.C.endk K.C.root E.root1 (fun h => absurd (show (2 : Int) = 1 from h) (by decide))]
    exact E.no2 q hq)
  have only : ∀ {f v}, g f = some v → f = r ∨ f = r1 := fun {f v} hf => by
    obtain ⟨o, l, x⟩ := v
    obtain ⟨r', x', hr'⟩ := I.root_of (3 - l) (l := l) (by have := (I.kd hf).2.2.2.2.2; omega) hf
    rcases E.rts _ _ _ ((K.C.root _ _ _).1 hr') with rfl | rfl
    · exact .inl (b1 _ _ _ hf)
    · exact .inr (d1 _ _ _ hf)
  have hne : r ≠ r1 := fun e => by
    rw [e, hr1] at hr
    cases hr
  have k1 := I.kd hr
  have k2 := I.kd hr1
  refine ⟨b2, b3, ?_, ?_⟩
  · rw [cnt_idx]
    have hp := (List.perm_ext_iff_of_nodup (idx_nodup s.2 3) (l₂ := [r.toNat, r1.toNat]) (by simp; omega)).2 fun z => by
      rw [idx_mem]
      simp only [List.mem_cons, List.not_mem_nil, or_false]
      constructor
      · rintro ⟨d, hd, h3⟩
        obtain ⟨v, hv⟩ := I.tb hd h3
        rcases only hv with h | h
        · left; omega
        · right; omega
      · rintro (rfl | rfl)
        · exact ⟨_, k1.2.2.1, rfl⟩
        · exact ⟨_, k2.2.2.1, rfl⟩
    exact hp.length_eq
  · rw [cnt_idx]
    rw [show allS2 s1 r false = sortI (underL s1.1 3 r) from if_neg (by decide), sortI_len]
    have nd := E.inv.under_nodup 3 E.root
    have hm : r ∈ underL s1.1 3 r := (E.inv.under_mem E.rt E.root r).2 ⟨_, _, E.root⟩
    have hl : ((underL s1.1 3 r).erase r).length = (underL s1.1 3 r).length - 1 := List.length_erase_of_mem hm
    have ndE : ((underL s1.1 3 r).erase r).Nodup := nd.erase r
    have inE : ∀ z ∈ (underL s1.1 3 r).erase r, z ≠ r ∧ ∃ l x, g1 z = some (1, l, x) := fun z hz => by
      rw [nd.mem_erase_iff] at hz
      exact ⟨hz.1, (E.inv.under_mem E.rt E.root z).1 hz.2⟩
    have nd2 : (((underL s1.1 3 r).erase r).map Int.toNat).Nodup := by
      rw [List.nodup_iff_pairwise_ne, List.pairwise_map]
      rw [List.nodup_iff_pairwise_ne] at ndE
      refine ndE.imp_of_mem fun {a b} ha hb hab => ?_
      obtain ⟨_, l1, x1, h1⟩ := inE a ha
      obtain ⟨_, l2, x2, h2⟩ := inE b hb
      have := (E.inv.kd h1).1
      have := (E.inv.kd h2).1
      omega
    have hsub := nd2.length_le_of_subset (l₂ := idxL s.2 5) (fun n hn => by
      obtain ⟨z, hz, rfl⟩ := List.mem_map.1 hn
      obtain ⟨hzr, l, x, hg⟩ := inE z hz
      rw [idx_mem]
      have hk := E.inv.kd hg
      obtain ⟨d', h1, h2⟩ := K.C.kk hk.2.2.1 (.inl rfl)
      refine ⟨d', h1, h2.resolve_right fun h3 => ?_⟩
      obtain ⟨v, hv⟩ := I.tb h1 h3.1
      have ez : ((z.toNat : Nat) : Int) = z := by omega
      rw [ez] at hv
      rcases only hv with h | h
      · exact hzr h
      · rw [h, E.root1] at hg
        cases hg)
    rw [List.length_map, hl] at hsub
    omega
theorem begin_end : EndI (ghB 200) (stB 200) (rtA 200) (rtB 200) 0 [] := by
  obtain ⟨_, hB, hA, hne, I, l1, l2, c0, c3, c5, hz⟩ := stB_ok (n := 200) ⟨by decide, by decide⟩
  obtain ⟨g0, g1⟩ := ghB_root 200 hne
  have hon : ∀ {f : Int} {v : Int × Nat × Int}, ghB 200 f = some v → v.2.1 = 3 := fun h => ghB_only h
  have l1 : (stB 200).1.length = 3200 := l1
  have Rg : Rt (ghB 200) := ghB_rt 200
  have hrs : ∀ f o x, ghB 200 f = some (o, 3, x) → o = 1 ∨ o = 2 := fun f o x h => by
    unfold ghB setG at h
    split at h
    · cases h; exact .inr rfl
    · split at h
      · cases h; exact .inl rfl
      · cases h
  have hnl : nlW (stB 200).1 ≤ 0 := by
    unfold stB stA
    refine Nat.le_trans (nl_tk fun _ => lg0) (Nat.le_trans (nl_tk fun _ => lg0) ?_)
    unfold nlW fresh
    rw [List.countP_replicate, lg0]
    exact Nat.le_refl _
  generalize ghB 200 = g at *
  generalize stB 200 = s at *
  generalize rtA 200 = r0 at *
  generalize rtB 200 = r1 at *
  have no : ∀ {o r : Int}, g r = some (o, 3, 0) → ∀ q, 0 ≤ q ∧ q < 65536 → (qryV s r false q).2.2.1 ≠ 0 := fun hr q hq => by
    obtain ⟨E, z⟩ := I.end_root (p := q) hr hq (fun k _ _ => hz _)
    rw [I.qry_of hr hq E, res0 _ _ z]
    decide
  refine ⟨I, Rg, g0, g1, hrs, fun f o l x h hl _ => ?_, List.nodup_nil, fun q hq => (by cases hq), fun q hq => ⟨fun h => absurd h (no g0 q hq), fun h => (by cases h)⟩, no g1, by omega, hnl, Nat.zero_le _, l1⟩
  have : l = 3 := hon h
  omega
section
variable {Q : Sys} {D G : List Nat} {w0 w : World} {s : WD}
/-- A row of numbers grows. -/
theorem SAt.grow {A Ls : List (Nat × List Value)} {b2 : Nat} {x : Int} {xs : List Int} {sl : Option Addr × Nat × Nat} (S : SAt Q D G w0 w s ((b2, [.int .i64 x]) :: (A ++ Ls))) (hs : PIn Ls sl xs) (hb : xs.length ≤ 1000000) {t : TypeId}
    {R : Option Addr × Nat × Nat → World → Prop} (k : ∀ Ls' sl' w', PIn Ls' sl' (xs ++ [x]) → SAt Q D G w0 w' s (A ++ Ls') → R sl' w') :
    apR w t 1 8 ⟨[.int .i64 0]⟩ sl (some ⟨b2, 0, none⟩, 1, 1) R := by
  obtain ⟨h1, h2, h3, h4, ca, la, H⟩ := S
  have H2 : AtD D G w0 w ((b2, cellsOf eN x) :: (Ls ++ (Q.L ca la s A))) := by
    refine H.perm ?_
    have e : Q.L ca la s ((b2, [.int .i64 x]) :: (A ++ Ls)) = Q.L ca la s [] ++ ((b2, [.int .i64 x]) :: (A ++ Ls)) := rfl
    have e2 : Q.L ca la s A = Q.L ca la s [] ++ A := rfl
    rw [e, e2]
    refine List.Perm.trans ?_ (List.perm_middle).symm
    refine List.Perm.cons _ ?_
    rw [← List.append_assoc (Q.L ca la s []) A Ls]
    exact List.perm_append_comm
  refine AtD.grow (e := eN) H2 hs rfl rfl rfl (by omega) fun bs c rest w' q1 q2 H3 => k [(bs, flat eN (xs ++ [x]) ++ rest)] (some ⟨bs, 0, none⟩, xs.length + 1, c) w' (.inr ⟨bs, c, rest, ?_, rfl, q1, by simpa using q2⟩) ⟨h1, h2, h3, h4, ca, la, H3.perm ?_⟩
  · rw [List.length_append]; rfl
  · have e : Q.L ca la s (A ++ [(bs, flat eN (xs ++ [x]) ++ rest)]) = Q.L ca la s A ++ [(bs, flat eN (xs ++ [x]) ++ rest)] := rfl
    rw [e]
    exact List.perm_append_comm
theorem PIn.row {Ls : List (Nat × List Value)} {sl : Option Addr × Nat × Nat} {xs : List Int} (h : PIn Ls sl xs) : RowIn eN Ls sl xs := by
  rcases h with ⟨rfl, rfl, rfl⟩ | ⟨bs, c, rest, rfl, rfl, _, _⟩
  · exact ⟨rfl, .inl ⟨rfl, rfl⟩⟩
  · exact ⟨rfl, .inr ⟨bs, rest, rfl, rfl⟩⟩
end
theorem lends_row (p : Option Addr) (m c : Nat) (xs : List (ScsT sOp)) (hm : m = xs.length) (hmx : m ≤ maxLen) {w : World} (hx : Sl w (.agg sOp) p xs) (hxw : ∀ x ∈ xs, okScs sOp x) :
    CallsR Tryz.prog 5 (.el (.one .bool)) [.slice p m c] w (fun b w' => b = true ∧ Ext w w') := by
  refine rxFn_ok (C := N3) (ann := zends_vc_ann) (Eq.mpr (zends_vc p m c w _) ?_)
  refine begin_at (At.start [] w) 200 ⟨by decide, by decide⟩ (fun h => absurd h (by decide)) fun _ Q Q' b b0 b1 c0 c1 w1 few T => ?_
  have S := T.fst.sub (L1 := [(b, wcs2 Q Q' (at0 b0) (at0 b1) (at0 c0) (at0 c1)), (b0, tcs Q 1 (rtA 200) false)]) (.cons_cons _ (.cons_cons _ (List.nil_sublist _)))
  clear T
  have E0 := begin_end
  obtain ⟨_, hB, hA, _, _, l1, _⟩ := stB_ok (n := 200) ⟨by decide, by decide⟩
  have hrA : 0 ≤ rtA 200 ∧ rtA 200 < 200 := by omega
  have few2 : ∀ s : WD, s.1.length = 3200 → Few Q s := fun s h => by
    obtain ⟨f1, f2⟩ := few
    exact ⟨by omega, by omega⟩
  clear few hB hA l1
  refine ⟨fun _ => rfl, fun _ => rfl, fun _ => ⟨rfl, by decide, by decide⟩, S.ldAA 0 rfl rfl (brP_neg rfl ⟨rfl, rfl, ⟨rfl, by decide, by decide⟩, S.ldAA 0 rfl rfl ?_⟩)⟩
  generalize stB 200 = s0 at *
  generalize rtA 200 = r at *
  generalize rtB 200 = r1 at *
  generalize ghB 200 = g0 at *
  have hr : 0 ≤ r ∧ r < 4096 := by omega
  let base : List (Nat × List Value) := [(b, wcs2 Q Q' (at0 b0) (at0 b1) (at0 c0) (at0 c1)), (b0, tcs Q 1 r false)]
  refine ⟨fun k v w' => ∃ (i : Nat) (g : Gh) (s : WD) (ps : List Int) (Ls : List (Nat × List Value)), v.2.1 = (i : Int) ∧ k + i = m ∧ i ≤ 20 ∧ EndI g s r r1 i ps ∧ PIn Ls v.1 ps ∧ SAt Q [] [] w w' s (base ++ Ls), ⟨m, fun w3 h3 => ⟨0, g0, s0, [], [], rfl, rfl, by decide, E0, .inl ⟨rfl, rfl, rfl⟩, S.ext h3⟩⟩, ?_⟩
  clear S E0
  rintro k ⟨sl, v, u⟩ w3 ⟨i, g, s, ps, Ls, e, hk, hi20, E, hP, S⟩
  dsimp only at e hP ⊢
  subst e
  refine brP_intro (fun cc => ?_) (fun cc => ?_)
  · have hi : i < m ∧ i < 20 := by
      simp only [Bool.and_eq_true, decide_eq_true_eq] at cc
      omega
    refine S.opv hx hm hi.1 fun o1 o2 o3 o4 o5 ho bo w4 S => ?_
    let opc : Nat × List Value := (bo, [.int .i64 o1, .int .i64 o2, .int .i64 o3, .int .i64 o4, .int .i64 o5])
    refine ⟨fun v w' => ∃ (g : Gh) (s : WD) (ps : List Int) (Ls : List (Nat × List Value)), (EndI g s r r1 i ps ∨ (o1 = 0 ∧ EndI g s r r1 (i + 1) ps)) ∧ PIn Ls v.1 ps ∧ SAt Q [] [] w w' s ((opc :: base) ++ Ls), ?_, ?_⟩
    · refine ⟨rfl, S.ldA 0 rfl rfl ⟨fun _ => rfl, S.ldA 0 rfl rfl ⟨fun _ => rfl, S.ldA 0 rfl rfl ⟨fun _ => rfl, S.ldA 0 rfl rfl (brP_intro (fun c1 => S.map 2 rfl _ _ _ fun w5 S => brP_intro (fun d => ⟨rfl, S.ldA 0 rfl rfl (S.al fun b2 w6 S => fun w7 h7 => ?_)⟩) (fun d => ?_)) (fun c1 => ⟨g, s, ps, Ls, .inl E, hP, S⟩))⟩⟩⟩⟩
      · have c1 : o1 = 0 := by simpa using c1
        have d : mapE s r false o3 o4 o5 = 0 := by simpa using d
        obtain ⟨_, g', E'⟩ := E.map d
        have hl := E.ln
        exact SAt.grow (A := opc :: base) (S.ext h7) hP (by omega) fun Ls' sl' w8 hP' S => ⟨g', _, _, Ls', .inr ⟨c1, E'⟩, hP', S⟩
      · have d : ¬ mapE s r false o3 o4 o5 = 0 := by simpa using d
        rw [map_err d] at S
        exact ⟨g, s, ps, Ls, .inl E, hP, S⟩
    · clear S E hP
      rintro ⟨sl, u⟩ w5 ⟨g, s, ps, Ls, hE, hP, S⟩
      dsimp only at hP ⊢
      have hE1 : EndI g s r r1 (i + 1) ps := hE.elim (fun h => h.more) (fun h => h.2)
      have next : ∀ {sl' : Option Addr × Nat × Nat} {g' : Gh} {s' : WD} {ps' : List Int} {Ls' : List (Nat × List Value)} {w' : World}, EndI g' s' r r1 (i + 1) ps' → PIn Ls' sl' ps' → SAt Q [] [] w w' s' ((opc :: base) ++ Ls') → ∀ w3, Ext w' w3 → ∃ n', n' < k ∧ ∃ (j : Nat) (g : Gh) (s : WD) (ps : List Int) (Ls : List (Nat × List Value)), addI .i64 (i : Int) 1 = (j : Int) ∧ n' + j = m ∧ j ≤ 20 ∧ EndI g s r r1 j ps ∧ PIn Ls sl' ps ∧ SAt Q [] [] w w3 s (base ++ Ls) := fun {sl' g' s' ps' Ls' w'} hE' hP' S' w3 h3 =>
        ⟨k - 1, by omega, i + 1, g', s', ps', Ls', by rw [addI_i64 (by omega) (by omega)]; omega, by omega, by omega, hE', hP', S'.tail.ext h3⟩
      refine ⟨rfl, S.ldA 0 rfl rfl ⟨fun _ => rfl, S.ldA 0 rfl rfl ⟨fun _ => rfl, S.ldA 0 rfl rfl ⟨fun _ => rfl, S.ldA 0 rfl rfl (brP_intro (fun c1 => S.large 2 rfl _ _ _ fun w6 S => brP_intro (fun d => ?_) (fun d => ?_)) (fun c1 => next hE1 hP S))⟩⟩⟩⟩
      · have c1 : o1 = 1 := by simpa using c1
        have d : lrgE s r false o3 o4 o5 = 0 := by simpa using d
        have E := hE.resolve_right (fun h => by omega)
        obtain ⟨ho3, g', E'⟩ := E.large d
        have hl := E.ln
        generalize lrgS s 1 r false o3 o4 o5 = s' at *
        refine ⟨fun q v w' => ∃ (t : Nat) (Ls : List (Nat × List Value)), v.2.1 = (t : Int) ∧ q + t = 16 ∧ PIn Ls v.1 (ps ++ (List.range t).map fun (k : Nat) => o3 + (k : Int)) ∧ SAt Q [] [] w w' s' ((opc :: base) ++ Ls), ⟨16, fun w7 h7 => ⟨0, Ls, rfl, rfl, by simpa using hP, S.ext h7⟩⟩, ?_⟩
        clear S hP
        rintro q ⟨sl, v, u⟩ w7 ⟨t, Ls, e, hq, hP, S⟩
        dsimp only at e hP ⊢
        subst e
        refine brP_intro (fun d => ⟨rfl, S.ldA 0 rfl rfl ?_⟩) (fun d => ?_)
        · have ht : t < 16 := by simp at d; omega
          have ea : addI .i64 o3 (t : Int) = o3 + (t : Int) := addI_i64 (by omega) (by omega)
          rw [ea]
          refine S.al fun b2 w8 S => fun w9 h9 => SAt.grow (A := opc :: base) (S.ext h9) hP (by rw [List.length_append, List.length_map, List.length_range]; omega) fun Ls' sl' w10 hP' S => fun w11 h11 => ⟨q - 1, by omega, t + 1, Ls', by rw [addI_i64 (by omega) (by omega)]; omega, by omega, ?_, S.ext h11⟩
          rw [List.range_succ, List.map_append, ← List.append_assoc]
          exact hP'
        · have ht : t = 16 := by simp at d; omega
          subst ht
          exact next E' hP S
      · have d : ¬ lrgE s r false o3 o4 o5 = 0 := by simpa using d
        rw [lrg_err d] at S
        exact next hE1 hP S
  · -- all pages are taken away
    have hl := E.ln
    have h1 := E.cnt
    have h2 := E.nl
    refine S.all 1 rfl hr fun x3 rows w4 S hr3 => ?_
    have hx3 : x3.2.1 = (allS2 s r false).length := hr3.1
    have S := S.sub (List.sublist_append_left _ _)
    have K0 : TakI g s g s r r1 ps := ⟨.refl E.inv _ _, E.ne, E.mp, by omega⟩
    have hpn : sl.2.1 = ps.length := hP.row.1
    refine ⟨fun q v w' => ∃ (t : Nat) (g' : Gh) (s' : WD), v.1 = (t : Int) ∧ q + t = ps.length ∧ TakI g s g' s' r r1 (ps.drop t) ∧ SAt Q [] [] w w' s' (base ++ Ls), ⟨ps.length, fun w5 h5 => ⟨0, g, s, rfl, rfl, K0, S.ext h5⟩⟩, ?_⟩
    clear S K0
    rintro q ⟨v, u⟩ w5 ⟨t, g', s', e, hq, K, S⟩
    dsimp only at e ⊢
    subst e
    have hlen' : s'.1.length = 3200 := K.C.len.1.trans E.len
    refine brP_intro (fun d => ?_) (fun d => ?_)
    · have ht : t < ps.length := by simp at d; omega
      have hget : ps[t]? = some ps[t] := List.getElem?_eq_getElem ht
      obtain ⟨a, hae⟩ : ∃ a, a = ps[t] := ⟨_, rfl⟩
      rw [← hae] at hget
      have hd : ps.drop t = a :: ps.drop (t + 1) := by rw [List.drop_eq_getElem_cons ht, hae]
      rw [hd] at K
      have hsl := (S.sl hP.row (fun y hy => by simp [base, hy])) t a hget
      have hna : a ∉ ps.drop (t + 1) := by
        have := E.nd.sublist (List.drop_sublist t ps)
        rw [hd] at this
        exact (List.nodup_cons.1 this).1
      obtain ⟨u0, g2, K2⟩ := K.unmap E.root (E.rg a (List.mem_of_getElem? hget)) hna
      refine ⟨⟨hsl.1, by omega, by omega⟩, LdP.of a hsl.2 (S.unmap (few2 _ hlen') 1 rfl hr a fun w6 S => ?_)⟩
      rw [u0]
      exact brP_neg rfl fun w7 h7 => ⟨q - 1, by omega, t + 1, g2, _, by rw [addI_i64 (by omega) (by omega)]; omega, by omega, K2, S.ext h7⟩
    · have ht : t = ps.length := by simp at d; omega
      rw [List.drop_of_length_le (by omega)] at K
      obtain ⟨e1, e2, e3, e4⟩ := K.last E
      have hlw := K.C.inv.len
      have hkr := (K.C.inv.kd (K.C.root.to E.root)).2.1
      refine S.all 1 rfl hr fun x4 rows4 w6 S hr4 => ?_
      rw [e1] at hr4
      refine ⟨rfl, rfl, S.ldA 0 rfl rfl ⟨_, S.root 1 rfl, ?_⟩⟩
      have em : mulI .i64 16 (rootI r false) = 16 * r := mulI_i64 (x := 16) (y := r) (by omega) (by omega)
      rw [em]
      refine S.words (few2 _ hlen') (16 * r) 16 fun x7 rows7 w7 S hr7 => ?_
      have hbad : ¬ ((16 : Int) < 1 ∨ 16 * r < 0 ∨ 16 * r > s'.1.length ∨ 16 > s'.1.length - 16 * r) := by omega
      have hcl : (cutL s'.1 (16 * r) 16).length = 16 := cutL_ok hbad
      have hx7 : x7.2.1 = 16 := hr7.1.trans hcl
      have hz : ∀ k : Nat, k < 16 → (cutL s'.1 (16 * r) 16)[k]? = some 0 := fun k hk => by
        rw [cut_ld (by omega) (by omega) hk, e2 (k : Int) (by omega) (by omega)]
      refine ⟨fun q2 v w' => ∃ t : Nat, v.1 = (t : Int) ∧ q2 + t = 16 ∧ SAt Q [] [] w w' s' (base ++ Ls ++ rows4 ++ rows7), ⟨16, fun w8 h8 => ⟨0, rfl, rfl, S.ext h8⟩⟩, ?_⟩
      clear S
      rintro q2 ⟨v, u⟩ w8 ⟨t2, e, hq2, S⟩
      dsimp only at e ⊢
      subst e
      rw [hx7]
      refine brP_intro (fun d => ?_) (fun d => ?_)
      · have ht2 : t2 < 16 := by simp at d; omega
        have hsl := (S.sl hr7 (fun y hy => by simp [hy])) t2 0 (hz t2 ht2)
        refine ⟨⟨hsl.1, by omega, by omega⟩, LdP.of (0 : Int) hsl.2 (brP_neg rfl fun w9 h9 => ⟨q2 - 1, by omega, t2 + 1, by rw [addI_i64 (by omega) (by omega)]; omega, by omega, S.ext h9⟩)⟩
      · have hx4 : x4.2.1 = 1 := hr4.1
        have hsl := (S.sl hr4 (fun y hy => by simp [hy])) 0 r rfl
        rw [hx4]
        have esub : subI .i64 ((x3.2.1 : Nat) : Int) 1 = (x3.2.1 : Int) - 1 := by
          have : (allS2 s r false).length ≤ 4369 := by
            rw [show allS2 s r false = sortI (underL s.1 3 r) from if_neg (by decide), sortI_len]
            exact underL_len3 _ _
          exact subI_i64 (by omega) (by omega)
        rw [esub]
        refine ⟨fun _ => ⟨hsl.1, by omega, by decide⟩, LdP.of r hsl.2 ⟨r, fun _ => S.root 1 rfl, fun _ => rfl, fun _ => rfl, S.ldA 0 rfl rfl ⟨_, fun _ => S.cnt 3, fun _ => rfl, fun _ => rfl, S.ldA 0 rfl rfl ⟨_, fun _ => S.cnt 5, brP_pos ?_ (fin_npt S.exts)⟩⟩⟩⟩
        rw [e3]
        simp
        omega
end Go.Proofs.YtkldededdgpmbaaGreat
namespace Go.Proofs.YtkldededdgpmbaaGreat
set_option linter.unusedSimpArgs false
set_option linter.unusedVariables false
set_option maxRecDepth 100000
open Go.RX D
/-! ### Sixteen pages at once are mapped as one by one -/
theorem px1 (q : Int) : px 1 q = q / 16 := rfl
namespace Inv
variable {g : Gh} {s : WD}
/-- Whatever a page ends in. -/
theorem end_q (I : Inv g s) {o r q : Int} (hr : g r = some (o, 3, 0)) (hq : 0 ≤ q ∧ q < 65536) (h : (qryV s r false q).2.2.1 = 4) : ∃ f j, j ≤ 3 ∧ EndAt g s o q f j ∧ (entA s.1 (16 * f + px j q % 16)).1 = false := by
  obtain ⟨f, j, hj, he⟩ := I.end_at hr hq
  refine ⟨f, j, hj, he, ?_⟩
  rw [I.qry_of hr hq he] at h
  unfold resE at h
  cases hb : (entA s.1 (16 * f + px j q % 16)).1 with
  | false => rfl
  | true =>
    rw [hb, if_pos rfl] at h
    exact absurd (show (0 : Int) = 4 from h) (by decide)
theorem end_m (I : Inv g s) {o r q : Int} (hr : g r = some (o, 3, 0)) (hq : 0 ≤ q ∧ q < 65536) (h : (qryV s r false q).2.2.1 = 0) : ∃ f j, j ≤ 3 ∧ EndAt g s o q f j ∧ (entA s.1 (16 * f + px j q % 16)).1 = true := by
  obtain ⟨f, j, hj, he⟩ := I.end_at hr hq
  refine ⟨f, j, hj, he, ?_⟩
  rw [I.qry_of hr hq he] at h
  exact resE_ok h
theorem pro_can2 (I : Inv g s) {o r p rt : Int} (hr : g r = some (o, 3, 0)) (hp : 0 ≤ p ∧ p < 65536) (ht : 1 ≤ rt ∧ rt ≤ 7) (h : (qryV s r false p).2.2.1 = 0) (hc : 0 < cntL s.2 0) : proE s o r false p rt = 0 := by
  obtain ⟨f, j, _, he, hb⟩ := I.end_m hr hp h
  exact I.pro_can hr hp ht he hb (.inl hc)
theorem unm_can2 (I : Inv g s) {o r p : Int} (hr : g r = some (o, 3, 0)) (hp : 0 ≤ p ∧ p < 65536) (h : (qryV s r false p).2.2.1 = 0) (hc : 0 < cntL s.2 0) : unmE s o r false p = 0 := by
  obtain ⟨f, j, _, he, hb⟩ := I.end_m hr hp h
  exact I.unm_can hr hp he hb (.inl hc)
end Inv
theorem qry_out (s : WD) (r q : Int) (h : ¬ (0 ≤ q ∧ q < 65536)) : qryV s r false q = (0, 0, 2, ()) := by
  unfold qryV
  rw [if_neg (by decide), if_pos (by omega)]
/-- Both guests have the same pages. -/
structure AgI (g : Gh) (s : WD) (r0 r1 : Int) : Prop where
  inv : Inv g s
  a : g r0 = some (1, 3, 0)
  b : g r1 = some (2, 3, 0)
  ag : ∀ q, qryV s r0 false q = qryV s r1 false q
  len : s.1.length = 640
/-- While the second one's are mapped. -/
structure MapI (g : Gh) (s : WD) (r0 r1 p f rt : Int) (i : Nat) : Prop where
  inv : Inv g s
  a : g r0 = some (1, 3, 0)
  b : g r1 = some (2, 3, 0)
  q0 : ∀ q, 0 ≤ q ∧ q < 65536 → qryV s r0 false q = if px 1 q = px 1 p then (f + q % 16, rt, 0, ()) else (0, 0, 4, ())
  q1 : ∀ q, 0 ≤ q ∧ q < 65536 → qryV s r1 false q = if px 1 q = px 1 p ∧ q < p + i then (f + q % 16, rt, 0, ()) else (0, 0, 4, ())
  en : 1 ≤ i → ∃ f0, EndAt g s 2 p f0 0
  cnt : (if i = 0 then 36 else 33) ≤ cntL s.2 0
  len : s.1.length = 640
theorem begin_large {p f rt : Int} (hp : 0 ≤ p ∧ p < 65536) (h16 : p % 16 = 0 ∧ f % 16 = 0) (hf : 0 ≤ f ∧ f < 4096) (ht : 1 ≤ rt ∧ rt ≤ 7) : lrgE (stB 40) (rtA 40) false p f rt = 0 ∧ ∃ g, MapI g (lrgS (stB 40) 1 (rtA 40) false p f rt) (rtA 40) (rtB 40) p f rt 0 := by
  obtain ⟨_, hB, hA, hne, I, l1, l2, c0, c3, c5, hz⟩ := stB_ok (n := 40) ⟨by decide, by decide⟩
  obtain ⟨g0, g1⟩ := ghB_root 40 hne
  have l1 : (stB 40).1.length = 640 := l1
  generalize ghB 40 = g at *
  generalize stB 40 = s at *
  generalize rtA 40 = r0 at *
  generalize rtB 40 = r1 at *
  have no : ∀ {o r : Int}, g r = some (o, 3, 0) → ∀ q, 0 ≤ q ∧ q < 65536 → qryV s r false q = (0, 0, 4, ()) := fun hr q hq => by
    obtain ⟨E, z⟩ := I.end_root (p := q) hr hq (fun k _ _ => hz _)
    rw [I.qry_of hr hq E, res0 _ _ z]
  obtain ⟨E, z⟩ := I.end_root (p := p) g0 hp (fun k _ _ => hz _)
  have hE := I.lrg_can g0 hp hf ht h16 E (by decide) z (by omega)
  refine ⟨hE, ?_⟩
  obtain ⟨_, _, g', C, hq, _, ⟨f0, j, hj1, he, _, hc⟩, _⟩ := I.large (o := 1) g0 hE
  obtain ⟨_, rfl⟩ := I.end_uniq g0 hp E he
  refine ⟨g', C.inv, C.root.to g0, C.root.to g1, fun q hq2 => ?_, fun q hq2 => ?_, fun h => absurd h (by decide), ?_, C.len.1.trans l1⟩
  · by_cases e : px 1 q = px 1 p
    · rw [if_pos e, (hq q hq2 e).1]
    · rw [if_neg e, I.qry_keep C.inv C.endk C.root g0 (fun hh => e hh.2)]
      exact no g0 q hq2
  · rw [if_neg ?_, I.qry_keep C.inv C.endk C.root g1 (fun hh => absurd hh.1 (by decide))]
    · exact no g1 q hq2
    · rintro ⟨h1, h2⟩
      have h1 : q / 16 = p / 16 := h1
      omega
  · rw [if_pos rfl]
    omega
theorem MapI.map {g : Gh} {s : WD} {r0 r1 p f rt : Int} {i : Nat} (M : MapI g s r0 r1 p f rt i) (hp : 0 ≤ p ∧ p < 65536) (h16 : p % 16 = 0) (hf : 0 ≤ f ∧ f + 16 ≤ 4096) (ht : 1 ≤ rt ∧ rt ≤ 7) (hi : i < 16) :
    mapE s r1 false (p + i) (f + i) rt = 0 ∧ ∃ g', MapI g' (mapS s 2 r1 false (p + i) (f + i) rt) r0 r1 p f rt (i + 1) := by
  have hpi : 0 ≤ p + (i : Int) ∧ p + (i : Int) < 65536 := by omega
  have hs : px 1 (p + (i : Int)) = px 1 p := by
    show (p + (i : Int)) / 16 = p / 16
    omega
  have hq := M.q1 _ hpi
  rw [if_neg (fun h => by have := h.2; omega)] at hq
  obtain ⟨f0, j, hj, he, hz⟩ := M.inv.end_q M.b hpi (by rw [hq])
  have hcnt := M.cnt
  have hj0 : 1 ≤ i → j = 0 := fun h1 => by
    obtain ⟨f1, h1⟩ := M.en h1
    exact (M.inv.end_uniq M.b hpi he (M.inv.end_side h1 hs)).2
  have hE : mapE s r1 false (p + i) (f + i) rt = 0 := M.inv.map_can M.b hpi (by omega) ht he hz (by split at hcnt <;> omega)
  refine ⟨hE, ?_⟩
  obtain ⟨_, g', C, hqn, _, _, ⟨f2, E2⟩, ⟨f3, j3, he3, hc⟩, _⟩ := M.inv.map (o := 2) M.b hE
  obtain ⟨_, rfl⟩ := M.inv.end_uniq M.b hpi he he3
  refine ⟨g', C.inv, C.root.to M.a, C.root.to M.b, fun q hq2 => ?_, fun q hq2 => ?_, fun _ => ⟨f2, C.inv.end_side E2 hs.symm⟩, ?_, C.len.1.trans M.len⟩
  · rw [M.inv.qry_keep C.inv C.endk C.root M.a (fun hh => absurd hh.1 (by decide))]
    exact M.q0 q hq2
  · by_cases e : q = p + (i : Int)
    · subst e
      rw [hqn, if_pos ⟨hs, by omega⟩]
      have : (p + (i : Int)) % 16 = i := by omega
      rw [this]
    · rw [M.inv.qry_keep C.inv C.endk C.root M.b (fun hh => e hh.2), M.q1 q hq2]
      have : (px 1 q = px 1 p ∧ q < p + (i : Int)) ↔ (px 1 q = px 1 p ∧ q < p + ((i + 1 : Nat) : Int)) := by
        constructor
        · rintro ⟨a, b⟩; exact ⟨a, by omega⟩
        · rintro ⟨a, b⟩; exact ⟨a, by omega⟩
      by_cases h : px 1 q = px 1 p ∧ q < p + (i : Int)
      · rw [if_pos h, if_pos (this.1 h)]
      · rw [if_neg h, if_neg (fun hh => h (this.2 hh))]
  · rw [if_neg (by omega)]
    by_cases h0 : i = 0
    · rw [if_pos h0] at hcnt; omega
    · rw [if_neg h0] at hcnt
      have := hj0 (by omega)
      omega
theorem MapI.done {g : Gh} {s : WD} {r0 r1 p f rt : Int} (M : MapI g s r0 r1 p f rt 16) (hp : 0 ≤ p ∧ p < 65536) (h16 : p % 16 = 0) : AgI g s r0 r1 ∧ (∀ q, px 1 q = px 1 p → qryV s r0 false q = (f + q % 16, rt, 0, ())) ∧ 33 ≤ cntL s.2 0 := by
  refine ⟨⟨M.inv, M.a, M.b, fun q => ?_, M.len⟩, fun q hq => ?_, ?_⟩
  · by_cases hq : 0 ≤ q ∧ q < 65536
    · rw [M.q0 q hq, M.q1 q hq]
      by_cases e : px 1 q = px 1 p
      · have e' : q / 16 = p / 16 := e
        rw [if_pos e, if_pos ⟨e, by omega⟩]
      · rw [if_neg e, if_neg (fun h => e h.1)]
    · rw [qry_out _ _ _ hq, qry_out _ _ _ hq]
  · have e' : q / 16 = p / 16 := hq
    rw [M.q0 q (by omega), if_pos hq]
  · have := M.cnt
    rw [if_neg (by decide)] at this
    exact this
/-- Both protect the same page. -/
theorem AgI.protect {g : Gh} {s : WD} {r0 r1 a fr r rt : Int} (A : AgI g s r0 r1) (hm : qryV s r0 false a = (fr, r, 0, ())) (ht : 1 ≤ rt ∧ rt ≤ 7) (hc : 3 ≤ cntL s.2 0) :
    proE s 1 r0 false a rt = 0 ∧ proE (proS s 1 r0 false a rt) 2 r1 false a rt = 0 ∧ ∃ g', AgI g' (proS (proS s 1 r0 false a rt) 2 r1 false a rt) r0 r1 ∧ qryV (proS (proS s 1 r0 false a rt) 2 r1 false a rt) r0 false a = (fr, rt, 0, ()) ∧ cntL s.2 0 ≤ cntL (proS (proS s 1 r0 false a rt) 2 r1 false a rt).2 0 + 2 := by
  have ha := (qry_rng (s := s) (r := r0) (pg := a) (gone := false) (by rw [hm])).2
  have h0 : proE s 1 r0 false a rt = 0 := A.inv.pro_can2 A.a ha ht (by rw [hm]) (by omega)
  obtain ⟨_, g1, C1, _, q1, c1⟩ := A.inv.protect (o := 1) A.a h0
  refine ⟨h0, ?_⟩
  generalize proS s 1 r0 false a rt = s1 at *
  have k0 : ∀ q, q ≠ a → qryV s1 r0 false q = qryV s r0 false q := fun q hq => A.inv.qry_keep C1.inv C1.endk C1.root A.a (fun hh => hq hh.2)
  have k1 : ∀ q, qryV s1 r1 false q = qryV s r1 false q := fun q => A.inv.qry_keep C1.inv C1.endk C1.root A.b (fun hh => absurd hh.1 (by decide))
  have hm1 : qryV s1 r1 false a = (fr, r, 0, ()) := by rw [k1, ← A.ag]; exact hm
  have h1 : proE s1 2 r1 false a rt = 0 := C1.inv.pro_can2 (C1.root.to A.b) ha ht (by rw [hm1]) (by omega)
  obtain ⟨_, g2, C2, _, q2, c2⟩ := C1.inv.protect (o := 2) (C1.root.to A.b) h1
  refine ⟨h1, g2, ⟨C2.inv, C2.root.to (C1.root.to A.a), C2.root.to (C1.root.to A.b), fun q => ?_, C2.len.1.trans (C1.len.1.trans A.len)⟩, ?_, by omega⟩
  · rw [C1.inv.qry_keep C2.inv C2.endk C2.root (C1.root.to A.a) (fun hh => absurd hh.1 (by decide))]
    by_cases e : q = a
    · subst e
      rw [q1, q2, hm, hm1]
    · rw [k0 q e, C1.inv.qry_keep C2.inv C2.endk C2.root (C1.root.to A.b) (fun hh => e hh.2), k1]
      exact A.ag q
  · rw [C1.inv.qry_keep C2.inv C2.endk C2.root (C1.root.to A.a) (fun hh => absurd hh.1 (by decide)), q1, hm]
/-- Both take it away. -/
theorem AgI.unmap {g : Gh} {s : WD} {r0 r1 a fr r : Int} (A : AgI g s r0 r1) (hm : qryV s r0 false a = (fr, r, 0, ())) (hc : 5 ≤ cntL s.2 0) :
    (unmE s 1 r0 false a = 0 ∧ unmF s 1 r0 false a = fr) ∧ (unmE (unmS s 1 r0 false a) 2 r1 false a = 0 ∧ unmF (unmS s 1 r0 false a) 2 r1 false a = fr) ∧ (unmS s 1 r0 false a).1.length = 640 ∧ ∃ g', AgI g' (unmS (unmS s 1 r0 false a) 2 r1 false a) r0 r1 := by
  have ha := (qry_rng (s := s) (r := r0) (pg := a) (gone := false) (by rw [hm])).2
  have h0 : unmE s 1 r0 false a = 0 := A.inv.unm_can2 A.a ha (by rw [hm]) (by omega)
  obtain ⟨g1, C1, q1, _, ⟨f0, j0, hj0, _, _, c1⟩, _⟩ := A.inv.unmap (o := 1) A.a ha h0
  refine ⟨⟨h0, by unfold unmF; rw [if_pos h0, hm]⟩, ?_⟩
  generalize unmS s 1 r0 false a = s1 at *
  have k0 : ∀ q, q ≠ a → qryV s1 r0 false q = qryV s r0 false q := fun q hq => A.inv.qry_keep C1.inv C1.endk C1.root A.a (fun hh => hq hh.2)
  have k1 : ∀ q, qryV s1 r1 false q = qryV s r1 false q := fun q => A.inv.qry_keep C1.inv C1.endk C1.root A.b (fun hh => absurd hh.1 (by decide))
  have hm1 : qryV s1 r1 false a = (fr, r, 0, ()) := by rw [k1, ← A.ag]; exact hm
  have h1 : unmE s1 2 r1 false a = 0 := C1.inv.unm_can2 (C1.root.to A.b) ha (by rw [hm1]) (by omega)
  obtain ⟨g2, C2, q2, _, _, _⟩ := C1.inv.unmap (o := 2) (C1.root.to A.b) ha h1
  refine ⟨⟨h1, by unfold unmF; rw [if_pos h1, hm1]⟩, C1.len.1.trans A.len, g2, C2.inv, C2.root.to (C1.root.to A.a), C2.root.to (C1.root.to A.b), fun q => ?_, C2.len.1.trans (C1.len.1.trans A.len)⟩
  rw [C1.inv.qry_keep C2.inv C2.endk C2.root (C1.root.to A.a) (fun hh => absurd hh.1 (by decide))]
  by_cases e : q = a
  · subst e
    rw [q1, q2]
  · rw [k0 q e, C1.inv.qry_keep C2.inv C2.endk C2.root (C1.root.to A.b) (fun hh => e hh.2), k1]
    exact A.ag q
theorem llarge_at (y : Int) (hy : (Lit.int .u16 y).wf = true) (xa xb xc : Int) (ha : 0 ≤ xa ∧ xa < 256) (hb : 0 ≤ xb ∧ xb < 256) (hc : 0 ≤ xc ∧ xc < 256) {w : World} :
    CallsR Tryz.prog 6 (.el (.one .bool)) [.int .u16 y, .agg ⟨[.int .u8 xa, .int .u8 xb, .int .u8 xc]⟩] w (fun b w' => b = true ∧ Ext w w') := by
  have hy := rng16 hy
  refine rxFn_ok (C := N3) (ann := zlarge_vc_ann) (Eq.mpr (zlarge_vc y xa xb xc w _) ?_)
  have ey : convI .i64 y = y := cv_id (by omega) (by omega)
  have ea : convI .i64 xa = xa := cv_id (by omega) (by omega)
  have eb : convI .i64 xb = xb := cv_id (by omega) (by omega)
  have ec : convI .i64 xc = xc := cv_id (by omega) (by omega)
  have r1 : remI y 16 = y % 16 := rm_id hy.1
  have r2 : remI xb 7 = xb % 7 := rm_id hb.1
  have r3 : remI xc 7 = xc % 7 := rm_id hc.1
  have r4 : remI xc 16 = xc % 16 := rm_id hc.1
  have s1 : subI .i64 y (y % 16) = y - y % 16 := subI_i64 (by omega) (by omega)
  have s2 : mulI .i64 16 xa = 16 * xa := mulI_i64 (by omega) (by omega)
  have s3 : addI .i64 1 (xb % 7) = 1 + xb % 7 := addI_i64 (by omega) (by omega)
  have s4 : addI .i64 1 (xc % 7) = 1 + xc % 7 := addI_i64 (by omega) (by omega)
  obtain ⟨p, hpe⟩ : ∃ p, p = y - y % 16 := ⟨_, rfl⟩
  obtain ⟨f, hfe⟩ : ∃ f, f = 16 * xa := ⟨_, rfl⟩
  obtain ⟨rt, hre⟩ : ∃ rt, rt = 1 + xb % 7 := ⟨_, rfl⟩
  obtain ⟨ot, hoe⟩ : ∃ ot, ot = 1 + xc % 7 := ⟨_, rfl⟩
  obtain ⟨k, hke⟩ : ∃ k, k = xc % 16 := ⟨_, rfl⟩
  have s5 : addI .i64 p k = p + k := addI_i64 (by omega) (by omega)
  have s6 : addI .i64 f k = f + k := addI_i64 (by omega) (by omega)
  refine AlP.go (At.start [] w) fun bx w0 H => begin_at H 40 ⟨by decide, by decide⟩ (fun h => absurd h (by decide)) fun _ Q Q' b b0 b1 c0 c1 w1 few T => ?_
  have S := T.fst.sub (L1 := [(b, wcs2 Q Q' (at0 b0) (at0 b1) (at0 c0) (at0 c1)), (b0, tcs Q 1 (rtA 40) false), (b1, tcs Q 2 (rtB 40) false), (bx, [.int .u8 xa, .int .u8 xb, .int .u8 xc])]) (.cons_cons _ (.cons_cons _ (.cons_cons _ (.cons _ (.cons _ (.refl _))))))
  clear T H
  obtain ⟨_, hB, hA, _, _, l1, _⟩ := stB_ok (n := 40) ⟨by decide, by decide⟩
  have hrA : 0 ≤ rtA 40 ∧ rtA 40 < 4096 := by omega
  have hrB : 0 ≤ rtB 40 ∧ rtB 40 < 4096 := by omega
  have few2 : ∀ s : WD, s.1.length = 640 → Few Q s := fun s h => by
    obtain ⟨f1, f2⟩ := few
    exact ⟨by omega, by omega⟩
  clear few hB hA l1
  obtain ⟨hE, g0, M0⟩ := begin_large (p := p) (f := f) (rt := rt) (by omega) (by omega) (by omega) (by omega)
  refine ⟨fun _ => rfl, fun _ => rfl, fun _ => ⟨rfl, by decide, by decide⟩, S.ldAA 0 rfl rfl ⟨fun _ => rfl, fun _ => rfl, fun _ => ⟨rfl, by decide, by decide⟩, S.ldAA 0 rfl rfl (brP_neg rfl ⟨⟨rfl, by decide, by decide⟩, S.ldA 3 rfl rfl ⟨⟨rfl, by decide, by decide⟩, S.ldA 3 rfl rfl ⟨⟨rfl, by decide, by decide⟩, S.ldA 3 rfl rfl ⟨⟨rfl, by decide, by decide⟩, S.ldA 3 rfl rfl ⟨rfl, rfl, ⟨rfl, by decide, by decide⟩, S.ldAA 0 rfl rfl ?_⟩⟩⟩⟩⟩)⟩⟩
  rw [ey, ea, eb, ec, r1, r2, r3, r4, s1, s2, s3, s4, ← hpe, ← hfe, ← hre, ← hoe, ← hke, s5, s6]
  generalize stB 40 = st at *
  generalize rtA 40 = ra at *
  generalize rtB 40 = rb at *
  refine S.large 1 rfl p f rt fun w2 S => ?_
  rw [hE]
  generalize lrgS st 1 ra false p f rt = s0 at *
  have hp : 0 ≤ p ∧ p < 65536 := by omega
  have h16 : p % 16 = 0 := by omega
  refine ⟨fun q v w' => ∃ (i : Nat) (g : Gh) (s : WD), v.1 = (i : Int) ∧ q + i = 16 ∧ MapI g s ra rb p f rt i ∧ SAt Q [] [] w w' s [(b, wcs2 Q Q' (at0 b0) (at0 b1) (at0 c0) (at0 c1)), (b0, tcs Q 1 ra false), (b1, tcs Q 2 rb false), (bx, [.int .u8 xa, .int .u8 xb, .int .u8 xc])], ⟨16, fun w3 h3 => ⟨0, g0, s0, rfl, rfl, M0, S.ext h3⟩⟩, ?_⟩
  clear S M0 hE
  rintro q ⟨v, u⟩ w3 ⟨i, g, s, e, hq, M, S⟩
  dsimp only at e ⊢
  subst e
  refine brP_intro (fun d => ?_) (fun d => ?_)
  · have hi : i < 16 := by simp at d; omega
    refine ⟨rfl, rfl, ⟨rfl, by decide, by decide⟩, S.ldAA 0 rfl rfl ?_⟩
    rw [show addI .i64 p (i : Int) = p + (i : Int) from addI_i64 (by omega) (by omega), show addI .i64 f (i : Int) = f + (i : Int) from addI_i64 (by omega) (by omega)]
    obtain ⟨hE, g', M'⟩ := M.map hp h16 (by omega) (by omega) hi
    refine S.map 2 rfl _ _ _ fun w4 S => ?_
    rw [hE]
    exact brP_neg rfl fun w5 h5 => ⟨q - 1, by omega, i + 1, g', _, by rw [addI_i64 (by omega) (by omega)]; omega, by omega, M', S.ext h5⟩
  · have hi : i = 16 := by simp at d; omega
    subst hi
    obtain ⟨A, hm, hcn⟩ := M.done hp h16
    clear M
    have hmk := hm (p + k) (by
      show (p + k) / 16 = p / 16
      omega)
    have e16 : (p + k) % 16 = k := by omega
    rw [e16] at hmk
    obtain ⟨hE1, hE2, g2, A2, hm2, hc2⟩ := A.protect (rt := ot) hmk (by omega) (by omega)
    refine ⟨rfl, rfl, ⟨rfl, by decide, by decide⟩, S.ldAA 0 rfl rfl (S.protect 1 rfl _ _ fun w4 S => ⟨rfl, rfl, ⟨rfl, by decide, by decide⟩, S.ldAA 0 rfl rfl (S.protect 2 rfl _ _ fun w5 S => ?_)⟩)⟩
    rw [hE1, hE2]
    generalize proS (proS s 1 ra false (p + k) ot) 2 rb false (p + k) ot = s2 at *
    let R : WD → World → Prop := fun s w' => SAt Q [] [] w w' s [(b, wcs2 Q Q' (at0 b0) (at0 b1) (at0 c0) (at0 c1)), (b0, tcs Q 1 ra false), (b1, tcs Q 2 rb false), (bx, [.int .u8 xa, .int .u8 xb, .int .u8 xc])]
    refine ⟨fun q v w' => (q = 2 ∧ v.1 = 0 ∧ R s2 w') ∨ (q = 1 ∧ v.1 = 1 ∧ ∃ g s, AgI g s ra rb ∧ R s w') ∨ (q = 0 ∧ v.1 = 2 ∧ ∃ s, R s w'), ⟨2, fun w6 h6 => .inl ⟨rfl, rfl, S.ext h6⟩⟩, ?_⟩
    clear S
    have look : ∀ {rd : Int} {s : WD} {g : Gh} {w' : World} {X : World → Prop}, AgI g s ra rb → R s w' → (∀ w', R s w' → X w') →
        (∃ I : Nat → Int × Unit → World → Prop, (∃ n, ∀ w1, Ext w' w1 → I n (-1, ()) w1) ∧ ∀ n1 (s1 : Int × Unit) w1, I n1 s1 w1 → brP (decide (s1.1 < 17))
          (true = true ∧ true = true ∧ ((addP (at0 b) 2).isSome = true ∧ (0 : Int) ≤ 0 ∧ (0 : Int) < ((2 : Nat) : Int)) ∧ LdP w1 none (addP (addP (at0 b) 2) 0) (.one .ptr) fun x13 =>
            CaP Tryz.prog 12 (.tup [.one (.int .i64), .one (.int .i64), .one (.int .i64)]) [.pointer x13, .int .i64 (addI .i64 p s1.1)] w1 fun x14 w2 =>
              true = true ∧ true = true ∧ ((addP (at0 b) 2).isSome = true ∧ (0 : Int) ≤ 1 ∧ (1 : Int) < ((2 : Nat) : Int)) ∧ LdP w2 none (addP (addP (at0 b) 2) 1) (.one .ptr) fun x =>
                CaP Tryz.prog 12 (.tup [.one (.int .i64), .one (.int .i64), .one (.int .i64)]) [.pointer x, .int .i64 (addI .i64 p s1.1)] w2 fun x w2 =>
                  brP (x14.1 != x.1 || x14.2.1 != x.2.1 || x14.2.2.1 != x.2.2.1) (EnP w2 fun w1 => false = true ∧ Ext w w1) (∀ w3, Ext w2 w3 → ∃ n', n' < n1 ∧ I n' (addI .i64 s1.1 1, ()) w3))
          (X w1)) := by
      intro rd s g w' X A S hX
      refine ⟨fun q v w' => ∃ i : Int, v.1 = i ∧ (q : Int) + i = 17 ∧ -1 ≤ i ∧ R s w', ⟨18, fun w1 h1 => ⟨-1, rfl, rfl, Int.le_refl _, S.ext h1⟩⟩, ?_⟩
      rintro q ⟨v, u⟩ w1 ⟨i, e, hq, h1, S⟩
      have e : v = i := e
      subst e
      refine brP_intro (fun d => ?_) (fun d => hX w1 S)
      have d : v < 17 := by simpa using d
      dsimp only
      rw [show addI .i64 p v = p + v from addI_i64 (by omega) (by omega)]
      refine ⟨rfl, rfl, ⟨rfl, by decide, by decide⟩, S.ldAA 0 rfl rfl (S.query 1 rfl _ fun w4 S => ⟨rfl, rfl, ⟨rfl, by decide, by decide⟩, S.ldAA 0 rfl rfl (S.query 2 rfl _ fun w5 S => ?_)⟩)⟩
      rw [A.ag]
      refine brP_neg (by simp) fun w6 h6 => ⟨q - 1, by omega, v + 1, ?_, by omega, by omega, S.ext h6⟩
      exact addI_i64 (by omega) (by omega)
    rintro q ⟨v, u⟩ w6 (⟨rfl, e, S⟩ | ⟨rfl, e, g, s, A, S⟩ | ⟨rfl, e, s, S⟩)
    · obtain rfl : v = 0 := e
      refine brP_pos rfl (look (rd := 0) A2 S fun w7 S => brP_pos rfl ?_)
      obtain ⟨⟨u1, u2⟩, ⟨u3, u4⟩, ul, g3, A3⟩ := A2.unmap hm2 (by omega)
      refine ⟨rfl, rfl, ⟨rfl, by decide, by decide⟩, SAt.ldAA 0 S rfl rfl (SAt.unmap S (few2 _ A2.len) 1 rfl hrA _ fun w8 S => ⟨rfl, rfl, ⟨rfl, by decide, by decide⟩, S.ldAA 0 rfl rfl (S.unmap (few2 _ ul) 2 rfl hrB _ fun w9 S => ?_)⟩)⟩
      rw [u1, u2, u3, u4]
      exact brP_neg (by simp) fun w10 h10 => ⟨1, by decide, .inr (.inl ⟨rfl, rfl, g3, _, A3, S.ext h10⟩)⟩
    · obtain rfl : v = 1 := e
      exact brP_pos rfl (look (rd := 1) A S fun w7 S => brP_neg rfl fun w8 h8 => ⟨0, by decide, .inr (.inr ⟨rfl, rfl, s, SAt.ext S h8⟩)⟩)
    · obtain rfl : v = 2 := e
      exact brP_neg rfl (brP_pos rfl (fin_npt (SAt.exts S)))
theorem llarge_row (y : Int) (hy : (Lit.int .u16 y).wf = true) (v : ScsT [.int .u8, .int .u8, .int .u8]) (hv : okScs [.int .u8, .int .u8, .int .u8] v) {w : World} :
    CallsR Tryz.prog 6 (.el (.one .bool)) [.int .u16 y, .agg ⟨scsEmb _ v⟩] w (fun b w' => b = true ∧ Ext w w') := by
  obtain ⟨xa, xb, xc, xu⟩ := v
  exact llarge_at y hy xa xb xc (rng8 hv.1) (rng8 hv.2.1) (rng8 hv.2.2.1)
end Go.Proofs.YtkldededdgpmbaaGreat
namespace Go.Proofs.YtkldededdgpmbaaGreat
set_option linter.unusedSimpArgs false
set_option linter.unusedVariables false
set_option maxRecDepth 100000
open Go.RX
def zfails2_vc_ann : Nat → Slots := (fun | 5 => [(7, Go.RX.El.one (Go.RX.Sc.int Go.IntKind.i64))] | 30 => [(15, Go.RX.El.one (Go.RX.Sc.int Go.IntKind.i64))] | 1000015 => [(25, .one .bool), (12, Go.RX.El.one (Go.RX.Sc.int Go.IntKind.i64))] | 1000025 => [(27, .one .bool)] | _ => [])
theorem zfails2_vc (n : Int) (p : Option Addr) (m c : Nat) (w : World) (Post : Bool → World → Prop) : (rxFn N3 zfails2_vc_ann 8 [.int .u8 n, .slice p m c] w Post) = (
 CaP Tryz.prog 9 (Sh.tup [El.one Sc.ptr, El.one Sc.bool]) [Value.int IntKind.i64 (addI IntKind.i64 1 (remI (convI IntKind.i64 n) 20))] w fun (x : Option Addr × Bool × Unit) (w2 : World) =>
  brP (!x.snd.fst) (EnP w2 fun (w1 : World) => Post false w1)
   (∃ (I : Nat → Int × Unit → World → Prop),
    (∃ (n : Nat), ∀ (w1 : World), Ext w2 w1 → I n (0, Unit.unit) w1) ∧
     ∀ (n : Nat) (s : Int × Unit) (w1 : World),
      I n s w1 →
       brP (decide (s.fst < (↑m : Int)) && decide (s.fst < 40))
        ((p.isSome = true ∧ 0 ≤ s.fst ∧ s.fst < (↑m : Int)) ∧
         LdP w1 none (addP p (Int.toNat s.fst * 5)) (El.agg [Sc.int IntKind.i64, Sc.int IntKind.i64, Sc.int IntKind.i64, Sc.int IntKind.i64, Sc.int IntKind.i64]) fun (x_1 : Int × Int × Int × Int × Int × Unit) =>
          AlP w1 { toList := [Value.int IntKind.i64 0, Value.int IntKind.i64 0, Value.int IntKind.i64 0, Value.int IntKind.i64 0, Value.int IntKind.i64 0] } 27 fun (b : Nat) (w2 : World) =>
           StP w2 (some { block := b, off := 0 }) [Value.int IntKind.i64 x_1.fst, Value.int IntKind.i64 x_1.snd.fst, Value.int IntKind.i64 x_1.snd.snd.fst, Value.int IntKind.i64 x_1.snd.snd.snd.fst, Value.int IntKind.i64 x_1.snd.snd.snd.snd.fst]
            fun (w2 : World) =>
            true = true ∧
             LdP w2 none (addP (some { block := b, off := 0 }) 1) (El.one (Sc.int IntKind.i64)) fun (x_2 : Int) =>
              x.fst.isSome = true ∧
               x.fst.isSome = true ∧
                ((addP x.fst 2).isSome = true ∧ 0 ≤ andI IntKind.i64 x_2 1 ∧ andI IntKind.i64 x_2 1 < (↑2 : Int)) ∧
                 LdP w2 none (addP (addP x.fst 2) ((andI IntKind.i64 x_2 1).toNat * 1)) (El.one Sc.ptr) fun (x_3 : Option Addr) =>
                  ((!x_3.isNone) = true → true = true) ∧
                   LdP w2 (some !x_3.isNone) (addP (some { block := b, off := 0 }) 0) (El.one (Sc.int IntKind.i64)) fun (x_4 : Int) =>
                    brP (x_3.isNone || x_4 == 4) (∀ (w3 : World), Ext w2 w3 → ∃ (n' : Nat), n' < n ∧ I n' (addI IntKind.i64 s.fst 1, Unit.unit) w3)
                     (x.fst.isSome = true ∧
                      x.fst.isSome = true ∧
                       LdP w2 none (addP x.fst 0) (El.one Sc.ptr) fun (x_5 : Option Addr) =>
                        CaP Tryz.prog 28 (Sh.el (El.one Sc.ptr)) [Value.pointer x_5] w2 fun (x_6 : Option Addr) (w2 : World) =>
                         x.fst.isSome = true ∧
                          x.fst.isSome = true ∧
                           LdP w2 none (addP x.fst 1) (El.one Sc.ptr) fun (x_7 : Option Addr) =>
                            CaP Tryz.prog 29 (Sh.el (El.one Sc.ptr)) [Value.pointer x_7] w2 fun (x_8 : Option Addr) (w2 : World) =>
                             brP (x_6.isNone || x_8.isNone) (EnP w2 fun (w1 : World) => Post false w1)
                              (∃ (J : Int × Unit → World → Prop),
                               (true = true ∧
                                 LdP w2 none (addP (some { block := b, off := 0 }) 0) (El.one (Sc.int IntKind.i64)) fun (x : Int) =>
                                  brP (x == 0)
                                   (true = true ∧
                                    LdP w2 none (addP (some { block := b, off := 0 }) 2) (El.one (Sc.int IntKind.i64)) fun (x : Int) =>
                                     true = true ∧
                                      LdP w2 none (addP (some { block := b, off := 0 }) 3) (El.one (Sc.int IntKind.i64)) fun (x_9 : Int) =>
                                       true = true ∧
                                        LdP w2 none (addP (some { block := b, off := 0 }) 4) (El.one (Sc.int IntKind.i64)) fun (x_10 : Int) =>
                                         CaP Tryz.prog 20 (Sh.el (El.one (Sc.int IntKind.i64))) [Value.pointer x_3, Value.int IntKind.i64 x, Value.int IntKind.i64 x_9, Value.int IntKind.i64 x_10] w2 fun (x : Int) (w2 : World) => J (x, Unit.unit) w2)
                                   (brP (x == 1)
                                    (true = true ∧
                                     LdP w2 none (addP (some { block := b, off := 0 }) 2) (El.one (Sc.int IntKind.i64)) fun (x : Int) =>
                                      true = true ∧
                                       LdP w2 none (addP (some { block := b, off := 0 }) 3) (El.one (Sc.int IntKind.i64)) fun (x_9 : Int) =>
                                        true = true ∧
                                         LdP w2 none (addP (some { block := b, off := 0 }) 4) (El.one (Sc.int IntKind.i64)) fun (x_10 : Int) =>
                                          CaP Tryz.prog 21 (Sh.el (El.one (Sc.int IntKind.i64))) [Value.pointer x_3, Value.int IntKind.i64 x, Value.int IntKind.i64 x_9, Value.int IntKind.i64 x_10] w2 fun (x : Int) (w2 : World) => J (x, Unit.unit) w2)
                                    (brP (x == 2)
                                     (true = true ∧
                                      LdP w2 none (addP (some { block := b, off := 0 }) 2) (El.one (Sc.int IntKind.i64)) fun (x : Int) =>
                                       CaP Tryz.prog 22 (Sh.tup [El.one (Sc.int IntKind.i64), El.one (Sc.int IntKind.i64)]) [Value.pointer x_3, Value.int IntKind.i64 x] w2 fun (x : Int × Int × Unit) (w2 : World) => J (x.snd.fst, Unit.unit) w2)
                                     (brP (x == 3)
                                      (true = true ∧
                                       LdP w2 none (addP (some { block := b, off := 0 }) 2) (El.one (Sc.int IntKind.i64)) fun (x : Int) =>
                                        true = true ∧
                                         LdP w2 none (addP (some { block := b, off := 0 }) 4) (El.one (Sc.int IntKind.i64)) fun (x_9 : Int) =>
                                          CaP Tryz.prog 23 (Sh.el (El.one (Sc.int IntKind.i64))) [Value.pointer x_3, Value.int IntKind.i64 x, Value.int IntKind.i64 x_9] w2 fun (x : Int) (w2 : World) => J (x, Unit.unit) w2)
                                      (J (0, Unit.unit) w2))))) ∧
                                ∀ (s_1 : Int × Unit) (w1 : World),
                                 J s_1 w1 →
                                  ∃ (J : Unit → World → Prop),
                                   (∃ (x_9 : Int),
                                     ((s_1.fst != 0) = true → QCalls Tryz.prog 31 [Value.pointer x_6] w1 (Value.int IntKind.i64 x_9)) ∧
                                      ((s_1.fst != 0) = true → x.fst.isSome = true) ∧
                                       ((s_1.fst != 0) = true → x.fst.isSome = true) ∧
                                        LdP w1 (some (s_1.fst != 0)) (addP x.fst 0) (El.one Sc.ptr) fun (x_10 : Option Addr) =>
                                         ((s_1.fst != 0) = true → x.fst.isSome = true) ∧
                                          ((s_1.fst != 0) = true → x.fst.isSome = true) ∧
                                           LdP w1 (some (s_1.fst != 0)) (addP x.fst 0) (El.one Sc.ptr) fun (x_11 : Option Addr) =>
                                            brP (s_1.fst != 0)
                                             (CaP Tryz.prog 25 (Sh.el (El.one Sc.slice)) [Value.pointer x_6, Value.int IntKind.i64 0, Value.int IntKind.i64 x_9] w1 fun (x_12 : Option Addr × Nat × Nat) (w2 : World) =>
                                              ((s_1.fst != 0) = true → rdAt w2 (addP x.fst 0) (El.one Sc.ptr) x_11) ∧
                                               True ∧
                                                True ∧
                                                 ((s_1.fst != 0) = true → rdAt w2 (addP x.fst 0) (El.one Sc.ptr) x_10) ∧
                                                  True ∧
                                                   True ∧
                                                    ∃ (x : Int),
                                                     QCalls Tryz.prog 31 [Value.pointer x_11] w2 (Value.int IntKind.i64 x) ∧
                                                      CaP Tryz.prog 25 (Sh.el (El.one Sc.slice)) [Value.pointer x_10, Value.int IntKind.i64 0, Value.int IntKind.i64 x] w2 fun (x : Option Addr × Nat × Nat) (w2 : World) =>
                                                       ∃ (x_13 : Bool),
                                                        QCalls Tryz.prog 30 [Value.slice x_12.fst x_12.snd.fst x_12.snd.snd, Value.slice x.fst x.snd.fst x.snd.snd] w2 (Value.bool x_13) ∧
                                                         brP (!x_13) (EnP w2 fun (w1 : World) => Post false w1) (J Unit.unit w2))
                                             (((s_1.fst != 0) = true → rdAt w1 (addP x.fst 0) (El.one Sc.ptr) x_11) ∧ True ∧ True ∧ ((s_1.fst != 0) = true → rdAt w1 (addP x.fst 0) (El.one Sc.ptr) x_10) ∧ True ∧ True ∧ J Unit.unit w1)) ∧
                                    ∀ (s_2 : Unit) (w1 : World),
                                     J s_2 w1 →
                                      ((s_1.fst == 12) = true → x.fst.isSome = true) ∧
                                       ((s_1.fst == 12) = true → x.fst.isSome = true) ∧
                                        LdP w1 (some (s_1.fst == 12)) (addP x.fst 1) (El.one Sc.ptr) fun (x_9 : Option Addr) =>
                                         ∃ (x_10 : Int),
                                          ((s_1.fst == 12) = true → QCalls Tryz.prog 26 [Value.pointer x_9, Value.int IntKind.i64 0] w1 (Value.int IntKind.i64 x_10)) ∧
                                           ((!(s_1.fst == 12 && decide (x_10 > 3))) = true → true = true) ∧
                                            LdP w1 (some !(s_1.fst == 12 && decide (x_10 > 3))) (addP (some { block := b, off := 0 }) 0) (El.one (Sc.int IntKind.i64)) fun (x_11 : Int) =>
                                             ∃ (x_12 : Int),
                                              ((!(s_1.fst == 12 && decide (x_10 > 3)) && x_11 != 2) = true → QCalls Tryz.prog 26 [Value.pointer x_8, Value.int IntKind.i64 5] w1 (Value.int IntKind.i64 x_12)) ∧
                                               ((!(s_1.fst == 12 && decide (x_10 > 3)) && x_11 != 2) = true → x.fst.isSome = true) ∧
                                                ((!(s_1.fst == 12 && decide (x_10 > 3)) && x_11 != 2) = true → x.fst.isSome = true) ∧
                                                 LdP w1 (some (!(s_1.fst == 12 && decide (x_10 > 3)) && x_11 != 2)) (addP x.fst 1) (El.one Sc.ptr) fun (x_13 : Option Addr) =>
                                                  ∃ (x_14 : Int),
                                                   ((!(s_1.fst == 12 && decide (x_10 > 3)) && x_11 != 2) = true → QCalls Tryz.prog 26 [Value.pointer x_13, Value.int IntKind.i64 5] w1 (Value.int IntKind.i64 x_14)) ∧
                                                    brP (s_1.fst == 12 && decide (x_10 > 3) || x_11 != 2 && x_12 != x_14) (EnP w1 fun (w1 : World) => Post false w1)
                                                     (∃ (I_1 : Nat → Int × Unit → World → Prop),
                                                      (∃ (n : Nat), ∀ (w1_1 : World), Ext w1 w1_1 → I_1 n (0, Unit.unit) w1_1) ∧
                                                       ∀ (n_1 : Nat) (s_3 : Int × Unit) (w1 : World),
                                                        I_1 n_1 s_3 w1 →
                                                         ∃ (x_15 : Int),
                                                          QCalls Tryz.prog 32 [Value.pointer x_8] w1 (Value.int IntKind.i64 x_15) ∧
                                                           brP (decide (s_3.fst < x_15))
                                                            (∃ (x_16 : (Int × Int × Int × Int × Unit) × Bool × Unit),
                                                             QCalls Tryz.prog 33 [Value.pointer x_8, Value.int IntKind.i64 s_3.fst] w1
                                                               (Value.tuple
                                                                {
                                                                 toList :=
                                                                  [Value.agg
                                                                    { toList := [Value.int IntKind.i64 x_16.fst.fst, Value.int IntKind.i64 x_16.fst.snd.fst, Value.int IntKind.i64 x_16.fst.snd.snd.fst, Value.int IntKind.i64 x_16.fst.snd.snd.snd.fst] },
                                                                   Value.bool x_16.snd.fst] }) ∧
                                                              AlP w1 { toList := [Value.int IntKind.i64 0, Value.int IntKind.i64 0, Value.int IntKind.i64 0, Value.int IntKind.i64 0] } 68 fun (b : Nat) (w2 : World) =>
                                                               StP w2 (some { block := b, off := 0 })
                                                                [Value.int IntKind.i64 x_16.fst.fst, Value.int IntKind.i64 x_16.fst.snd.fst, Value.int IntKind.i64 x_16.fst.snd.snd.fst, Value.int IntKind.i64 x_16.fst.snd.snd.snd.fst]
                                                                fun (w2 : World) =>
                                                                x.fst.isSome = true ∧
                                                                 x.fst.isSome = true ∧
                                                                  LdP w2 none (addP x.fst 1) (El.one Sc.ptr) fun (x : Option Addr) =>
                                                                   ∃ (x_17 : (Int × Int × Int × Int × Unit) × Bool × Unit),
                                                                    QCalls Tryz.prog 33 [Value.pointer x, Value.int IntKind.i64 s_3.fst] w2
                                                                      (Value.tuple
                                                                       {
                                                                        toList :=
                                                                         [Value.agg
                                                                           {
                                                                            toList :=
                                                                             [Value.int IntKind.i64 x_17.fst.fst, Value.int IntKind.i64 x_17.fst.snd.fst, Value.int IntKind.i64 x_17.fst.snd.snd.fst, Value.int IntKind.i64 x_17.fst.snd.snd.snd.fst] },
                                                                          Value.bool x_17.snd.fst] }) ∧
                                                                     AlP w2 { toList := [Value.int IntKind.i64 0, Value.int IntKind.i64 0, Value.int IntKind.i64 0, Value.int IntKind.i64 0] } 68 fun (b_1 : Nat) (w2 : World) =>
                                                                      StP w2 (some { block := b_1, off := 0 })
                                                                       [Value.int IntKind.i64 x_17.fst.fst, Value.int IntKind.i64 x_17.fst.snd.fst, Value.int IntKind.i64 x_17.fst.snd.snd.fst, Value.int IntKind.i64 x_17.fst.snd.snd.snd.fst]
                                                                       fun (w2 : World) =>
                                                                       LdP w2 (some (s_1.fst != 0)) (some { block := b, off := 0 }) (El.agg [Sc.int IntKind.i64, Sc.int IntKind.i64, Sc.int IntKind.i64, Sc.int IntKind.i64])
                                                                        fun (x : Int × Int × Int × Int × Unit) =>
                                                                        LdP w2 (some (s_1.fst != 0)) (some { block := b_1, off := 0 }) (El.agg [Sc.int IntKind.i64, Sc.int IntKind.i64, Sc.int IntKind.i64, Sc.int IntKind.i64])
                                                                         fun (x_18 : Int × Int × Int × Int × Unit) =>
                                                                         brP (s_1.fst != 0 && !(x.fst == x_18.fst && (x.snd.fst == x_18.snd.fst && (x.snd.snd.fst == x_18.snd.snd.fst && (x.snd.snd.snd.fst == x_18.snd.snd.snd.fst && true)))))
                                                                          (EnP w2 fun (w1 : World) => Post false w1) (∀ (w3 : World), Ext w2 w3 → ∃ (n' : Nat), n' < n_1 ∧ I_1 n' (addI IntKind.i64 s_3.fst 1, Unit.unit) w3))
                                                            (∀ (w3 : World), Ext w1 w3 → ∃ (n' : Nat), n' < n ∧ I n' (addI IntKind.i64 s.fst 1, Unit.unit) w3)))))
        (CaP Tryz.prog 19 (Sh.el (El.one Sc.bool)) [] w1 fun (x : Bool) (w2 : World) => EnP w2 fun (w1 : World) => Post x w1))) := by kernel_rfl
end Go.Proofs.YtkldededdgpmbaaGreat
namespace Go.Proofs.YtkldededdgpmbaaGreat
set_option linter.unusedSimpArgs false
set_option linter.unusedVariables false
set_option maxRecDepth 100000
open Go.RX D
/-! ### What a call with an error leaves alone -/
theorem take_c5 (ds : List DT) (o : Int) : cntL (takeL ds 3 o) 5 = cntL ds 5 := by
  unfold takeL
  cases hf : freeI ds with
  | none => rfl
  | some n =>
    dsimp only
    unfold freeI at hf
    rw [List.findIdx?_eq_some_iff_getElem] at hf
    obtain ⟨h1, h2, _⟩ := hf
    have hget : ds[n]? = some ds[n] := List.getElem?_eq_getElem h1
    have h2 : ds[n].1 = 0 := by simpa using h2
    generalize ds[n] = d at hget h2
    rw [chL_in (by omega)]
    show cntL (if (turnG 3 o (ds.getD n zD)).2 = 0 then ds.set n (turnG 3 o (ds.getD n zD)).1 else ds) 5 = _
    have hg : ds.getD n zD = d := by rw [List.getD_eq_getElem?_getD, hget]; rfl
    rw [hg]
    split
    · rename_i he
      have hk : (turnG 3 o d).1.1 = 3 := by
        show nextK _ _ _ _ 3 o = 3
        unfold nextK
        exact if_pos he
      have := cnt_set (d' := (turnG 3 o d).1) hget 5
      rw [hk, h2] at this
      simpa using this
    · rfl
theorem down_c5 (o pg : Int) : ∀ (n : Nat) (x : WD × PT), cntL (downS o pg n x).1.2 5 = cntL x.1.2 5
  | 0, x => rfl
  | n + 1, x => (down_c5 o pg n _).trans (take_c5 _ _)
theorem put_c5 {s : WD} {o r pg lv : Int} {e : ET} : cntL (putS s o r pg lv e).2 5 = cntL s.2 5 := by
  unfold putS
  split
  · exact down_c5 _ _ _ _
  · rfl
theorem map_c5 {s : WD} {o r pg f rt : Int} {gone : Bool} : cntL (mapS s o r gone pg f rt).2 5 = cntL s.2 5 := by
  unfold mapS
  split
  · rfl
  · split
    · exact put_c5
    · rfl
theorem lrg_c5 {s : WD} {o r pg f rt : Int} {gone : Bool} : cntL (lrgS s o r gone pg f rt).2 5 = cntL s.2 5 := by
  unfold lrgS
  split
  · rfl
  · split
    · split
      · rfl
      · exact put_c5
    · rfl
theorem spl_c5 {s : WD} {o r pg : Int} : cntL (splS s o r pg).2 5 = cntL s.2 5 := by
  unfold splS
  split
  · rfl
  · split
    · exact take_c5 _ _
    · exact take_c5 _ _
theorem pro_c5 {s : WD} {o r pg rt : Int} {gone : Bool} : cntL (proS s o r gone pg rt).2 5 = cntL s.2 5 := by
  unfold proS
  split
  · rfl
  · split
    · split
      · split
        · rfl
        · split
          · exact spl_c5
          · exact spl_c5
      · rfl
    · rfl
theorem rgt_12 {pg f rt : Int} (h : rgtE pg f rt = 12) : False := by
  unfold rgtE at h
  split at h
  · cases h
  · split at h <;> cases h
theorem put_12 {s : WD} {r pg lv : Int} (hl : 0 ≤ lv) (h : putE s r pg lv = 12) : cntL s.2 0 ≤ 3 := by
  unfold putE at h
  split at h
  · cases h
  · split at h
    · rename_i hc
      have := endX_lv s.1 r pg
      omega
    · cases h
theorem map_12 {s : WD} {r pg f rt : Int} {gone : Bool} (h : mapE s r gone pg f rt = 12) : cntL s.2 0 ≤ 3 := by
  unfold mapE at h
  split at h
  · cases h
  · split at h
    · exact put_12 (by decide) h
    · exact (rgt_12 h).elim
theorem lrg_12 {s : WD} {r pg f rt : Int} {gone : Bool} (h : lrgE s r gone pg f rt = 12) : cntL s.2 0 ≤ 3 := by
  unfold lrgE at h
  split at h
  · cases h
  · split at h
    · split at h
      · cases h
      · exact put_12 (by decide) h
    · exact (rgt_12 h).elim
theorem spl_12 {g : Gh} {s : WD} (I : Inv g s) {o r pg : Int} (ho : 1 ≤ o ∧ o ≤ 16) (h : splE s o r pg = 12) : cntL s.2 0 ≤ 3 := by
  unfold splE at h
  split at h
  · cases h
  · rcases Nat.eq_zero_or_pos (cntL s.2 0) with e | e
    · omega
    · rw [I.tk_can ho e] at h; cases h
theorem unm_12 {g : Gh} {s : WD} (I : Inv g s) {o r pg : Int} {gone : Bool} (ho : 1 ≤ o ∧ o ≤ 16) (h : unmE s o r gone pg = 12) : cntL s.2 0 ≤ 3 := by
  unfold unmE at h
  split at h
  · exact spl_12 I ho h
  · exfalso
    unfold qryV at h
    split at h
    · cases h
    · split at h
      · cases h
      · split at h <;> cases h
theorem pro_12 {g : Gh} {s : WD} (I : Inv g s) {o r pg rt : Int} {gone : Bool} (ho : 1 ≤ o ∧ o ≤ 16) (h : proE s o r gone pg rt = 12) : cntL s.2 0 ≤ 3 := by
  unfold proE at h
  split at h
  · cases h
  · split at h
    · split at h
      · split at h
        · cases h
        · exact spl_12 I ho h
      · cases h
    · exact (rgt_12 h).elim
theorem and_1 (x : Int) : andI .i64 x 1 = x % 2 := by
  have e : andI .i64 x 1 = IntKind.i64.wrap (((BitVec.ofInt 64 x) &&& (BitVec.ofInt 64 1)).toNat : Int) := rfl
  have e2 : ((BitVec.ofInt 64 x) &&& (BitVec.ofInt 64 1)).toNat = (x % 2).toNat := by
    rw [BitVec.toNat_and, BitVec.toNat_ofInt, BitVec.toNat_ofInt]
    have : (1 % ((2 ^ 64 : Nat) : Int)).toNat = 1 := by decide
    rw [this, Nat.and_one_is_mod]
    have h2 : ((2 ^ 64 : Nat) : Int) = 18446744073709551616 := by decide
    rw [h2]
    omega
  have e3 : (((x % 2).toNat : Nat) : Int) = x % 2 := by omega
  rw [e, e2, e3]
  exact wrap_i64_id (by omega) (by omega)
section
variable {D G : List Nat} {w0 w w' : World} {L : List (Nat × List Value)}
theorem _root_.Go.RX.AtD.gotC (H : AtD D G w0 w L) (h : Ext w w') {e : El} {r : Option Addr × Nat × Nat} {xs : List e.T} (ho : Own w w' e r xs) (hx : xs ≠ []) :
    ∃ b c rest, r = (some ⟨b, 0, none⟩, xs.length, c) ∧ xs.length ≤ c ∧ AtD D G w0 w' ((b, flat e xs ++ rest) :: L) := by
  have h2 := ho.2.1
  obtain ⟨b, c, rest, rfl, H2⟩ := H.got h ho hx
  exact ⟨b, c, rest, rfl, h2, H2⟩
end
theorem cut_all (ws : List Int) (h : 0 < ws.length) : cutL ws 0 (ws.length : Int) = ws := by
  unfold cutL
  rw [if_neg (by omega)]
  simp
section
variable {Q : Sys} {D G : List Nat} {w0 w : World} {s : WD} {L0 : List (Nat × List Value)}
namespace SAt
theorem mcopy (S : SAt Q D G w0 w s L0) (hc : Few Q s) {K : Option Addr → World → Prop}
    (k : ∀ bc bs cap rest ca la w2, s.1.length ≤ cap → SAt Q D G w0 w2 s ((bc, mcs bs s.1.length cap ca la) :: (bs, flat eW s.1 ++ rest) :: L0) → K (some ⟨bc, 0, none⟩) w2) :
    CaP Tryz.prog 28 (.el (.one .ptr)) [.pointer (some ⟨Q.bm, 0, none⟩)] w K := by
  refine S.go fun w1 S => rxFn_ok (C := N0) (ann := fun _ => []) (Eq.mpr (mcopy_vc _ w1 K) ?_)
  have h0 := S.pos
  refine ⟨_, S.mlen, brP_neg (by simp; intro e; rw [e] at h0; simp at h0) ?_⟩
  obtain ⟨ca, la, hm⟩ := S.mem
  refine ⟨rfl, LdP.of ((some ⟨Q.bw, 0, none⟩, s.1.length, Q.c), ca, la, ()) (elAt_rd hm rfl) (S.al fun bc w2 S => S.stAll 0 rfl rfl rfl fun w3 S => ⟨_, S.mlen, ?_⟩)⟩
  refine S.go fun w4 S => rxFn_ok (C := N0) (ann := fun _ => []) (Eq.mpr (mwords_vc _ 0 _ w4 _) ?_)
  obtain ⟨h1, h2, h3, h4, ca2, la2, H⟩ := S
  refine brP_neg rfl ⟨rfl, rfl, LdP.atA 0 H rfl rfl fun w5 h5 => (cut_ok ((H.ext h5).get (i := 1) rfl) rfl hc.1 hc.2 0 _).mono fun x w6 hx => ?_⟩
  obtain ⟨ho, hx⟩ := hx
  rw [cut_all s.1 h1] at ho
  obtain ⟨bs, cap, rest, rfl, hcap, H6⟩ := (H.ext h5).gotC hx ho (fun e => by rw [e] at h1; exact absurd h1 (by decide))
  refine EnP.go H6 fun w7 H7 => ?_
  have S : SAt Q D G w0 w7 s ((bs, flat eW s.1 ++ rest) :: (bc, [.slice (some ⟨Q.bw, 0, none⟩) s.1.length Q.c, .int .i64 ca, .int .i64 la]) :: L0) :=
    ⟨h1, h2, h3, h4, ca2, la2, H7.perm (List.perm_middle (l₁ := [_, _, _, _]))⟩
  refine ⟨rfl, rfl, ?_⟩
  rw [addP_B]
  refine S.stOneA 1 rfl rfl rfl fun w8 S => S.en fun w9 S => k bc bs cap rest ca la w9 hcap (S.perm (.swap _ _ _))
theorem pcopy (S : SAt Q D G w0 w s L0) {K : Option Addr → World → Prop}
    (k : ∀ bp' bf' c' rest' w2, SAt Q D G w0 w2 s ((bp', [.slice (some ⟨bf', 0, none⟩) s.2.length c']) :: (bf', flat eD s.2 ++ rest') :: L0) → K (some ⟨bp', 0, none⟩) w2) :
    CaP Tryz.prog 29 (.el (.one .ptr)) [.pointer (some ⟨Q.bp, 0, none⟩)] w K := by
  refine S.go fun w1 S => ?_
  obtain ⟨h1, h2, h3, h4, ca, la, H⟩ := S
  refine copy_at H (H.get (i := 3) rfl) (H.get (i := 2) rfl) rfl h2 h3 fun bp' bf' c' rest' w2 H => k bp' bf' c' rest' w2 ⟨h1, h2, h3, h4, ca, la, H.perm ?_⟩
  exact List.perm_append_comm (l₁ := [_, _, _, _]) (l₂ := [(bp', _), (bf', _)]) |>.append_right L0
/-- Words and frames are copied. -/
theorem copies (S : SAt Q D G w0 w s L0) (hc : Few Q s) {K1 : Option Addr → World → Prop}
    (k : ∀ bc w2, (∀ {K2 : Option Addr → World → Prop}, (∀ Q2 w3, Q2.bm = bc → Few Q2 s → Two Q Q2 D G w0 w3 s s L0 → K2 (some ⟨Q2.bp, 0, none⟩) w3) → CaP Tryz.prog 29 (.el (.one .ptr)) [.pointer (some ⟨Q.bp, 0, none⟩)] w2 K2) → (∃ L1, SAt Q D G w0 w2 s (L1 ++ L0)) → K1 (some ⟨bc, 0, none⟩) w2) :
    CaP Tryz.prog 28 (.el (.one .ptr)) [.pointer (some ⟨Q.bm, 0, none⟩)] w K1 := by
  refine S.mcopy hc fun bc bs cap rest ca la w2 hcap S => k bc w2 (fun {K2} k2 => S.pcopy fun bp' bf' c' rest' w3 S => ?_) ⟨[_, _], S⟩
  refine k2 ⟨bc, bs, bf', bp', cap, c', rest, rest'⟩ w3 rfl ⟨hcap, hc.2⟩ ⟨⟨ca, la, S.perm ?_⟩, S.pos, S.fpos, S.le, S.okw⟩
  have e : Sys.L ⟨bc, bs, bf', bp', cap, c', rest, rest'⟩ ca la s L0 = [(bc, mcs bs s.1.length cap ca la), (bs, flat eW s.1 ++ rest)] ++ ([(bf', flat eD s.2 ++ rest'), (bp', [.slice (some ⟨bf', 0, none⟩) s.2.length c'])] ++ L0) := rfl
  rw [e, ← List.append_assoc]
  refine List.Perm.trans (List.Perm.append_right L0 List.perm_append_comm) ?_
  exact .swap _ _ _
end SAt
end
/-- A guest's tables, if there are any. -/
def Wh (Q : Sys) (BL : List (Nat × List Value)) (g : Gh) (t : Option Addr) : Prop := t = none ∨ ∃ (k bt : Nat) (o r : Int), t = at0 bt ∧ BL[k]? = some (bt, tcs Q o r false) ∧ g r = some (o, 3, 0) ∧ 0 ≤ r ∧ r < 4096
theorem Wh.chg {Q : Sys} {BL : List (Nat × List Value)} {g g' : Gh} {t : Option Addr} (h : Wh Q BL g t) (k : RootK g g') : Wh Q BL g' t := by
  rcases h with h | ⟨a, b, o, r, h1, h2, h3, h4⟩
  · exact .inl h
  · exact .inr ⟨a, b, o, r, h1, h2, k.to h3, h4⟩
/-- What comes of a call. -/
structure After (g : Gh) (s0 s : WD) (e kind : Int) : Prop where
  inv : Inv g s
  err : e ≠ 0 → s = s0
  few : e = 12 → cntL s.2 0 ≤ 3
  ret : kind ≠ 2 → cntL s.2 5 = cntL s0.2 5
  len : s.1.length = s0.1.length ∧ s.2.length = s0.2.length
theorem aft_map {g : Gh} {s : WD} (I : Inv g s) {o r : Int} (hr : g r = some (o, 3, 0)) (p f t kind : Int) : ∃ g', After g' s (mapS s o r false p f t) (mapE s r false p f t) kind ∧ RootK g g' := by
  obtain ⟨g', C, _⟩ := I.mapC hr p f t
  exact ⟨g', ⟨C.inv, map_err, fun h => by rw [map_err (by rw [h]; decide)]; exact map_12 h, fun _ => map_c5, C.len⟩, C.root⟩
theorem aft_lrg {g : Gh} {s : WD} (I : Inv g s) {o r : Int} (hr : g r = some (o, 3, 0)) (p f t kind : Int) : ∃ g', After g' s (lrgS s o r false p f t) (lrgE s r false p f t) kind ∧ RootK g g' := by
  obtain ⟨g', C, _⟩ := I.lrgC hr p f t
  exact ⟨g', ⟨C.inv, lrg_err, fun h => by rw [lrg_err (by rw [h]; decide)]; exact lrg_12 h, fun _ => lrg_c5, C.len⟩, C.root⟩
theorem aft_unm {g : Gh} {s : WD} (I : Inv g s) {o r : Int} (hr : g r = some (o, 3, 0)) (p : Int) {kind : Int} (hk : kind = 2) : ∃ g', After g' s (unmS s o r false p) (unmE s o r false p) kind ∧ RootK g g' := by
  obtain ⟨g', C, _⟩ := I.unmC hr p
  have ho := (I.kd hr).2.2.2
  exact ⟨g', ⟨C.inv, unm_err, fun h => by rw [unm_err (by rw [h]; decide)]; exact unm_12 I ⟨ho.1, ho.2.1⟩ h, fun h => absurd hk h, C.len⟩, C.root⟩
theorem aft_pro {g : Gh} {s : WD} (I : Inv g s) {o r : Int} (hr : g r = some (o, 3, 0)) (p t kind : Int) : ∃ g', After g' s (proS s o r false p t) (proE s o r false p t) kind ∧ RootK g g' := by
  obtain ⟨g', C, _⟩ := I.proC hr p t
  have ho := (I.kd hr).2.2.2
  exact ⟨g', ⟨C.inv, pro_err, fun h => by rw [pro_err (by rw [h]; decide)]; exact pro_12 I ⟨ho.1, ho.2.1⟩ h, fun _ => pro_c5, C.len⟩, C.root⟩
theorem begin_any {w0 w : World} {L : List (Nat × List Value)} (H : At [] w0 w L) (n : Nat) (hn : 1 ≤ n ∧ n ≤ 200) {K : Option Addr × Bool × Unit → World → Prop}
    (k : ∀ Q Q' b b0 t1 u0 u1 BL g s w1, Few Q s → s.1.length = 16 * n → s.2.length = n → Inv g s → BL[0]? = some (b, wcs2 Q Q' (at0 b0) t1 u0 u1) → Wh Q BL g (at0 b0) → Wh Q BL g t1 → SAt Q [] [] w0 w1 s BL → K (at0 b, true, ()) w1) :
    CaP Tryz.prog 9 (.tup [.one .ptr, .one .bool]) [.int .i64 (n : Int)] w K := by
  refine begin_at H n hn (fun h1 Q Q' b b0 c0 c1 w1 few T => ?_) (fun h2 Q Q' b b0 b1 c0 c1 w1 few T => ?_)
  · obtain ⟨_, p2, p3, I, l1, l2, _⟩ := stA_ok (n := n) ⟨hn.1, by omega⟩
    refine k Q Q' b b0 none (at0 c0) (at0 c1) [(b, wcs2 Q Q' (at0 b0) none (at0 c0) (at0 c1)), (b0, tcs Q 1 (rtA n) false)] _ _ w1 few l1 l2 I rfl (.inr ⟨1, b0, 1, rtA n, rfl, rfl, setG_self _ _ _, p2, by omega⟩) (.inl rfl) (T.fst.sub (.cons_cons _ (.cons_cons _ (List.nil_sublist _))))
  · obtain ⟨_, hB, hA, hne, I, l1, l2, _⟩ := stB_ok (n := n) ⟨h2, by omega⟩
    obtain ⟨g0, g1⟩ := ghB_root n hne
    refine k Q Q' b b0 (at0 b1) (at0 c0) (at0 c1) [(b, wcs2 Q Q' (at0 b0) (at0 b1) (at0 c0) (at0 c1)), (b0, tcs Q 1 (rtA n) false), (b1, tcs Q 2 (rtB n) false)] _ _ w1 few l1 l2 I rfl (.inr ⟨1, b0, 1, rtA n, rfl, rfl, g0, hA.1, by omega⟩) (.inr ⟨2, b1, 2, rtB n, rfl, rfl, g1, hB.1, by omega⟩) (T.fst.sub (.cons_cons _ (.cons_cons _ (.cons_cons _ (List.nil_sublist _)))))
theorem words_q {p q : Option Addr} {c d : Nat} {w : World} {xs ys : List Int} (hx : Sl w eW p xs) (hy : Sl w eW q ys) (hb : xs.length < 4611686018427387904) :
    QCalls Tryz.prog 30 [.slice p xs.length c, .slice q ys.length d] w (.bool (decide (xs = ys))) :=
  QCalls.of (s := .el (.one .bool)) fun w' h' => words_ok (hx.ext h') rfl (hy.ext h') rfl hb
theorem lfails_row (y : Int) (hy : (Lit.int .u8 y).wf = true) (p : Option Addr) (m c : Nat) (xs : List (ScsT sOp)) (hm : m = xs.length) (hmx : m ≤ maxLen) {w : World} (hx : Sl w (.agg sOp) p xs) (hxw : ∀ x ∈ xs, okScs sOp x) :
    CallsR Tryz.prog 8 (.el (.one .bool)) [.int .u8 y, .slice p m c] w (fun b w' => b = true ∧ Ext w w') := by
  refine rxFn_ok (C := N3) (ann := zfails2_vc_ann) (Eq.mpr (zfails2_vc y p m c w _) ?_)
  have hy := rng8 hy
  have e0 : addI .i64 1 (remI (convI .i64 y) 20) = ((1 + (y % 20).toNat : Nat) : Int) := by
    rw [cv_id (x := y) (by omega) (by omega), rm_id hy.1, addI_i64 (by omega) (by omega)]
    omega
  rw [e0]
  obtain ⟨n, hn⟩ : ∃ n, n = 1 + (y % 20).toNat := ⟨_, rfl⟩
  rw [← hn]
  have hn : 1 ≤ n ∧ n ≤ 20 := by omega
  refine begin_any (At.start [] w) n ⟨hn.1, by omega⟩ fun Q Q' b b0 t1 u0 u1 BL g0 s0 w1 few l1 l2 I0 hb W0 W1 S => brP_neg rfl ?_
  have few2 : ∀ s : WD, s.1.length = 16 * n → Few Q s := fun s h => by
    obtain ⟨f1, f2⟩ := few
    exact ⟨by omega, by omega⟩
  refine ⟨fun k v w' => ∃ (i : Nat) (g : Gh) (s : WD), v.1 = (i : Int) ∧ k + i = m ∧ Inv g s ∧ Wh Q BL g (at0 b0) ∧ Wh Q BL g t1 ∧ s.1.length = 16 * n ∧ s.2.length = n ∧ SAt Q [] [] w w' s BL, ⟨m, fun w3 h3 => ⟨0, g0, s0, rfl, rfl, I0, W0, W1, l1, l2, S.ext h3⟩⟩, ?_⟩
  clear S I0 W0 W1 l1 l2 few
  rintro k ⟨v, u⟩ w3 ⟨i, g, s, e, hk, I, W0, W1, l1, l2, S⟩
  dsimp only at e ⊢
  subst e
  refine brP_intro (fun cc => ?_) (fun cc => fin_npt S.exts)
  have hi : i < m ∧ i < 40 := by
    simp only [Bool.and_eq_true, decide_eq_true_eq] at cc
    omega
  have next : ∀ {g' : Gh} {s' : WD} {w' : World}, Inv g' s' → RootK g g' → s'.1.length = 16 * n → s'.2.length = n → SAt Q [] [] w w' s' BL → ∀ w3, Ext w' w3 → ∃ n', n' < k ∧ ∃ (j : Nat) (g : Gh) (s : WD), addI .i64 (i : Int) 1 = (j : Int) ∧ n' + j = m ∧ Inv g s ∧ Wh Q BL g (at0 b0) ∧ Wh Q BL g t1 ∧ s.1.length = 16 * n ∧ s.2.length = n ∧ SAt Q [] [] w w3 s BL :=
    fun {g' s' w'} I' R l1' l2' S' w3 h3 => ⟨k - 1, by omega, i + 1, g', s', by rw [addI_i64 (by omega) (by omega)]; omega, by omega, I', W0.chg R, W1.chg R, l1', l2', S'.ext h3⟩
  refine S.opv hx hm hi.1 fun o1 o2 o3 o4 o5 ho bo w4 S => ⟨rfl, S.ldA 0 rfl rfl ⟨rfl, rfl, ?_⟩⟩
  obtain ⟨op, hop⟩ : ∃ op : List Value, op = [.int .i64 o1, .int .i64 o2, .int .i64 o3, .int .i64 o4, .int .i64 o5] := ⟨_, rfl⟩
  have hb1 : ∀ x : Nat × List Value, (x :: BL)[1]? = some (b, wcs2 Q Q' (at0 b0) t1 u0 u1) := fun x => hb
  have h2 := and_1 o2
  obtain ⟨t, ht, hW⟩ : ∃ t, rdAt w4 (addP (addP (at0 b) 2) ((andI .i64 o2 1).toNat * 1)) (.one .ptr) t ∧ Wh Q BL g t := by
    rw [h2, addP_B, addP_B]
    have hblk := S.get (hb1 _)
    have h3 : o2 % 2 = 0 ∨ o2 % 2 = 1 := by omega
    rcases h3 with h3 | h3
    · rw [h3]
      exact ⟨_, elAt_rd (el := .one .ptr) hblk rfl, W0⟩
    · rw [h3]
      exact ⟨_, elAt_rd (el := .one .ptr) hblk rfl, W1⟩
  refine ⟨⟨rfl, by rw [h2]; omega, by rw [h2]; show o2 % 2 < 2; omega⟩, LdP.of t ht ⟨fun _ => rfl, S.ldA 0 rfl rfl (brP_intro (fun c1 => next I (.refl _) l1 l2 S.tail) (fun c1 => ?_))⟩⟩
  obtain ⟨k0, bt, o, r, rfl, hk0, hr, hr0⟩ : ∃ (k bt : Nat) (o r : Int), t = at0 bt ∧ BL[k]? = some (bt, tcs Q o r false) ∧ g r = some (o, 3, 0) ∧ 0 ≤ r ∧ r < 4096 := by
    rcases hW with rfl | h
    · simp at c1
    · exact h
  clear ht c1
  refine ⟨rfl, rfl, S.ldA 1 (hb1 _) rfl (S.copies (few2 _ l1) fun bc w5 kk ⟨L1, S5⟩ => ⟨rfl, rfl, S5.ldA (L1.length + 1) (by rw [List.getElem?_append_right (by omega)]; simpa using hb) rfl (kk fun Q2 w6 e2 f2 T => brP_neg rfl ?_)⟩)⟩
  clear S S5 kk
  subst e2
  refine ⟨fun v w' => ∃ g' s', After g' s s' v.1 o1 ∧ RootK g g' ∧ Two Q Q2 [] [] w w' s' s ((bo, [.int .i64 o1, .int .i64 o2, .int .i64 o3, .int .i64 o4, .int .i64 o5]) :: BL), ?_, ?_⟩
  · obtain ⟨⟨ca, la, S⟩, T2⟩ := T
    have hk4 : (Q2.L ca la s ((bo, [.int .i64 o1, .int .i64 o2, .int .i64 o3, .int .i64 o4, .int .i64 o5]) :: BL))[k0 + 5]? = some (bt, tcs Q o r false) := by
      simpa [Sys.L] using hk0
    refine ⟨rfl, S.ldA 4 rfl rfl (brP_intro (fun c1 => ⟨rfl, S.ldA 4 rfl rfl ⟨rfl, S.ldA 4 rfl rfl ⟨rfl, S.ldA 4 rfl rfl (S.map (k0 + 5) hk4 _ _ _ fun w7 S => ?_)⟩⟩⟩) (fun c1 => brP_intro (fun c2 => ⟨rfl, S.ldA 4 rfl rfl ⟨rfl, S.ldA 4 rfl rfl ⟨rfl, S.ldA 4 rfl rfl (S.large (k0 + 5) hk4 _ _ _ fun w7 S => ?_)⟩⟩⟩) (fun c2 =>
      brP_intro (fun c3 => ⟨rfl, S.ldA 4 rfl rfl (S.unmap (few2 _ l1) (k0 + 5) hk4 hr0 _ fun w7 S => ?_)⟩) (fun c3 => brP_intro (fun c4 => ⟨rfl, S.ldA 4 rfl rfl ⟨rfl, S.ldA 4 rfl rfl (S.protect (k0 + 5) hk4 _ _ fun w7 S => ?_)⟩⟩) (fun c4 => ⟨g, s, ⟨I, fun h => absurd rfl h, fun h => absurd h (by decide), fun _ => rfl, rfl, rfl⟩, .refl _, ⟨ca, la, S⟩, T2⟩)))))⟩
    · obtain ⟨g', A, R⟩ := aft_map I hr o3 o4 o5 o1
      exact ⟨g', _, A, R, ⟨ca, la, S⟩, T2⟩
    · obtain ⟨g', A, R⟩ := aft_lrg I hr o3 o4 o5 o1
      exact ⟨g', _, A, R, ⟨ca, la, S⟩, T2⟩
    · obtain ⟨g', A, R⟩ := aft_unm I hr o3 (kind := o1) (by simpa using c3)
      exact ⟨g', _, A, R, ⟨ca, la, S⟩, T2⟩
    · obtain ⟨g', A, R⟩ := aft_pro I hr o3 o5 o1
      exact ⟨g', _, A, R, ⟨ca, la, S⟩, T2⟩
  clear T hop op
  rintro ⟨er, u2⟩ w7 ⟨g', s', A, R, T⟩
  dsimp only at A ⊢
  have l1' := A.len.1.trans l1
  have l2' := A.len.2.trans l2
  let OB : List (Nat × List Value) := (bo, [.int .i64 o1, .int .i64 o2, .int .i64 o3, .int .i64 o4, .int .i64 o5]) :: BL
  have rdM : ∀ {w' : World} {rows : List (Nat × List Value)}, SAt Q [] [] w w' s' (OB ++ rows) → rdAt w' (addP (at0 b) 0) (.one .ptr) (at0 Q.bm) := fun {w' rows} S => by
    rw [addP_B]
    refine elAt_rd (S.get (i := 1) (l := wcs2 Q Q' (at0 b0) t1 u0 u1) ?_) rfl
    show (BL ++ rows)[0]? = _
    rw [List.getElem?_append_left (List.getElem?_eq_some_iff.1 hb).1]
    exact hb
  refine ⟨fun _ w' => Two Q Q2 [] [] w w' s' s OB, ?_, ?_⟩
  · refine ⟨_, fun _ => T.snd.mlen, fun _ => rfl, fun _ => rfl, T.fst.ldA 1 (hb1 _) rfl ⟨fun _ => rfl, fun _ => rfl, T.fst.ldA 1 (hb1 _) rfl (brP_intro (fun ce => ?_) (fun ce => ?_))⟩⟩
    · have ce : er ≠ 0 := by simpa using ce
      have hs : s' = s := A.err ce
      have h0 : 0 < s.1.length := by omega
      obtain ⟨⟨ca, la, S2⟩, T2⟩ := T.swap
      refine S2.words f2 0 _ fun x12 rows w8 S2 hr12 => ?_
      rw [cut_all s.1 h0] at hr12
      have T : Two Q Q2 [] [] w w8 s' s (OB ++ rows) := Two.swap ⟨⟨ca, la, S2⟩, T2⟩
      refine ⟨fun _ => rdM T.fst, trivial, trivial, fun _ => rdM T.fst, trivial, trivial, _, T.fst.mlen, ?_⟩
      obtain ⟨⟨ca, la, S⟩, T2⟩ := T
      refine S.words (few2 _ l1') 0 _ fun x rows2 w9 S hr9 => ?_
      rw [cut_all s'.1 (by omega)] at hr9
      obtain ⟨xp, xn, xc⟩ := x
      obtain ⟨zp, zn, zc⟩ := x12
      have e1 : xn = s'.1.length := hr9.1
      have e3 : zn = s.1.length := hr12.1
      subst e1; subst e3
      have T : Two Q Q2 [] [] w w9 s' s (OB ++ rows ++ rows2) := ⟨⟨ca, la, S⟩, T2⟩
      refine ⟨_, words_q (T.fst.sl hr12 (fun y hy => by simp [hy])) (T.fst.sl hr9 (fun y hy => by simp [hy])) (by omega), brP_neg (by simp [hs]) (T.sub ((List.sublist_append_left _ _).trans (List.sublist_append_left _ _)))⟩
    · have h0 : ∀ {X : Prop}, (er != 0) = true → X := fun h => by rw [ce] at h; cases h
      exact ⟨h0, trivial, trivial, h0, trivial, trivial, T⟩
  clear T
  rintro _ w8 T
  refine ⟨fun _ => rfl, fun _ => rfl, T.fst.ldA 1 (hb1 _) rfl ⟨_, fun _ => T.fst.cnt 0, fun _ => rfl, T.fst.ldA 0 rfl rfl ⟨_, fun _ => T.snd.cnt 5, fun _ => rfl, fun _ => rfl, T.fst.ldA 1 (hb1 _) rfl ⟨_, fun _ => T.fst.cnt 5, brP_neg ?_ ?_⟩⟩⟩⟩
  · have q1 : (er == 12 && decide (((cntL s'.2 0 : Nat) : Int) > 3)) = false := by
      by_cases h : er = 12
      · have := A.few h
        simp; intro _; omega
      · simp [h]
    have q2 : (o1 != 2 && ((cntL s.2 5 : Nat) : Int) != ((cntL s'.2 5 : Nat) : Int)) = false := by
      by_cases h : o1 = 2
      · simp [h]
      · rw [A.ret h]; simp
    rw [q1, q2]; rfl
  refine ⟨fun q v w' => ∃ t : Nat, v.1 = (t : Int) ∧ q + t = n ∧ Two Q Q2 [] [] w w' s' s OB, ⟨n, fun w9 h9 => ⟨0, rfl, by omega, T.ext h9⟩⟩, ?_⟩
  clear T
  rintro q ⟨v, u3⟩ w9 ⟨t, e, hq, T⟩
  dsimp only at e ⊢
  subst e
  refine ⟨_, T.snd.plen, brP_intro (fun d => ?_) (fun d => next A.inv R l1' l2' T.fst.tail)⟩
  have ht : t < n := by simp at d; omega
  refine ⟨(ofV s.2 t, ofB s.2 t, ()), T.snd.ofq t, ?_⟩
  obtain ⟨⟨ca, la, S⟩, T2⟩ := T
  have hb6 : ∀ x : Nat × List Value, (x :: Q2.L ca la s OB)[6]? = some (b, wcs2 Q Q' (at0 b0) t1 u0 u1) := fun x => by
    simpa [Sys.L, OB] using hb
  refine S.al fun bz w10 S => S.stAll 0 rfl rfl rfl fun w11 S => ⟨rfl, rfl, S.ldA 6 (hb6 _) rfl ⟨(ofV s'.2 t, ofB s'.2 t, ()), S.ofq t, S.al fun bz2 w12 S => S.stAll 0 rfl rfl rfl fun w13 S => S.ld 1 rfl rfl (S.ld 0 rfl rfl (brP_neg ?_ fun w14 h14 => ⟨q - 1, by omega, t + 1, by rw [addI_i64 (by omega) (by omega)]; omega, by omega, ⟨ca, la, S.tail.tail.ext h14⟩, T2⟩))⟩⟩
  by_cases h : er = 0
  · subst h; rfl
  · rw [A.err h]; simp
end Go.Proofs.YtkldededdgpmbaaGreat
