import Derived.Test.YtkldededdgpmbaaMD
import Derived.Test.YtkldededdgpmbaaME
namespace Go.Proofs.Ytkldededdgpmbaa
set_option linter.unusedSimpArgs false
set_option linter.unusedVariables false
set_option maxRecDepth 100000
open Go.RX
noncomputable def N2 : Cfg Try.prog := { N0 with quiet := [] }
end Go.Proofs.Ytkldededdgpmbaa
namespace Go.Proofs.Ytkldededdgpmbaa
set_option linter.unusedSimpArgs false
set_option linter.unusedVariables false
set_option maxRecDepth 100000
open Go.RX
noncomputable def N3 : Cfg Try.prog := { N0 with quiet := [13, 16, 17, 48, 35, 37] }
theorem zknown_vc (w : World) (Post : Bool → World → Prop) : (rxFn N3 (fun _ => []) 15 [] w Post) = (
 CaP Try.prog 4 (Sh.tup [El.one Sc.ptr, El.one (Sc.int IntKind.i64)]) [Value.int IntKind.i64 160] w fun (x : Option Addr × Int × Unit) (w2 : World) =>
  CaP Try.prog 5 (Sh.tup [El.one Sc.ptr, El.one (Sc.int IntKind.i64)]) [Value.int IntKind.i64 10] w2 fun (x_1 : Option Addr × Int × Unit) (w2 : World) =>
   brP (x.snd.fst != 0 || x_1.snd.fst != 0 || x.fst.isNone || x_1.fst.isNone) (EnP w2 fun (w1 : World) => Post false w1)
    (CaP Try.prog 6 (Sh.tup [El.one Sc.ptr, El.one (Sc.int IntKind.i64)]) [Value.pointer x.fst, Value.pointer x_1.fst, Value.int IntKind.i64 1] w2 fun (x_2 : Option Addr × Int × Unit) (w2 : World) =>
     brP (x_2.snd.fst != 0 || x_2.fst.isNone) (EnP w2 fun (w1 : World) => Post false w1)
      (CaP Try.prog 9 (Sh.el (El.one (Sc.int IntKind.i64))) [Value.pointer x_2.fst, Value.int IntKind.i64 4660, Value.int IntKind.i64 5, Value.int IntKind.i64 3] w2 fun (x_3 : Int) (w2 : World) =>
       CaP Try.prog 9 (Sh.el (El.one (Sc.int IntKind.i64))) [Value.pointer x_2.fst, Value.int IntKind.i64 4660, Value.int IntKind.i64 6, Value.int IntKind.i64 3] w2 fun (x_4 : Int) (w2 : World) =>
        CaP Try.prog 10 (Sh.el (El.one (Sc.int IntKind.i64))) [Value.pointer x_2.fst, Value.int IntKind.i64 4672, Value.int IntKind.i64 32, Value.int IntKind.i64 1] w2 fun (x_5 : Int) (w2 : World) =>
         CaP Try.prog 8 (Sh.tup [El.one (Sc.int IntKind.i64), El.one (Sc.int IntKind.i64), El.one (Sc.int IntKind.i64)]) [Value.pointer x_2.fst, Value.int IntKind.i64 4679] w2 fun (x_6 : Int × Int × Int × Unit) (w2 : World) =>
          CaP Try.prog 14 (Sh.el (El.one Sc.slice)) [Value.pointer x_2.fst] w2 fun (x_7 : Option Addr × Nat × Nat) (w2 : World) =>
           CaP Try.prog 11 (Sh.el (El.one (Sc.int IntKind.i64))) [Value.pointer x_2.fst, Value.int IntKind.i64 4679, Value.int IntKind.i64 7] w2 fun (x_8 : Int) (w2 : World) =>
            CaP Try.prog 14 (Sh.el (El.one Sc.slice)) [Value.pointer x_2.fst] w2 fun (x_9 : Option Addr × Nat × Nat) (w2 : World) =>
             CaP Try.prog 7 (Sh.tup [El.one (Sc.int IntKind.i64), El.one (Sc.int IntKind.i64)]) [Value.pointer x_2.fst, Value.int IntKind.i64 4660] w2 fun (x_10 : Int × Int × Unit) (w2 : World) =>
              CaP Try.prog 7 (Sh.tup [El.one (Sc.int IntKind.i64), El.one (Sc.int IntKind.i64)]) [Value.pointer x_2.fst, Value.int IntKind.i64 4660] w2 fun (x_11 : Int × Int × Unit) (w2 : World) =>
               ∃ (x_12 : (Int × Int × Int × Int × Unit) × Bool × Unit),
                QCalls Try.prog 35 [Value.pointer x_1.fst, Value.int IntKind.i64 3] w2
                  (Value.tuple
                   {
                    toList :=
                     [Value.agg { toList := [Value.int IntKind.i64 x_12.fst.fst, Value.int IntKind.i64 x_12.fst.snd.fst, Value.int IntKind.i64 x_12.fst.snd.snd.fst, Value.int IntKind.i64 x_12.fst.snd.snd.snd.fst] }, Value.bool x_12.snd.fst] }) ∧
                 AlP w2 { toList := [Value.int IntKind.i64 0, Value.int IntKind.i64 0, Value.int IntKind.i64 0, Value.int IntKind.i64 0] } 78 fun (b : Nat) (w2 : World) =>
                  StP w2 (some { block := b, off := 0 }) [Value.int IntKind.i64 x_12.fst.fst, Value.int IntKind.i64 x_12.fst.snd.fst, Value.int IntKind.i64 x_12.fst.snd.snd.fst, Value.int IntKind.i64 x_12.fst.snd.snd.snd.fst] fun (w2 : World) =>
                   ∃ (x_13 : Int),
                    QCalls Try.prog 13 [Value.pointer x_2.fst] w2 (Value.int IntKind.i64 x_13) ∧
                     CaP Try.prog 36 (Sh.el (El.agg [Sc.int IntKind.i64, Sc.int IntKind.i64, Sc.int IntKind.i64, Sc.int IntKind.i64])) [Value.pointer x.fst, Value.int IntKind.i64 x_13, Value.int IntKind.i64 4679, Value.int IntKind.i64 4] w2
                      fun (x : Int × Int × Int × Int × Unit) (w2 : World) =>
                      AlP w2 { toList := [Value.int IntKind.i64 0, Value.int IntKind.i64 0, Value.int IntKind.i64 0, Value.int IntKind.i64 0] } 82 fun (b_1 : Nat) (w2 : World) =>
                       StP w2 (some { block := b_1, off := 0 }) [Value.int IntKind.i64 x.fst, Value.int IntKind.i64 x.snd.fst, Value.int IntKind.i64 x.snd.snd.fst, Value.int IntKind.i64 x.snd.snd.snd.fst] fun (w2 : World) =>
                        CaP Try.prog 12 (Sh.el (El.one Sc.slice)) [Value.pointer x_2.fst] w2 fun (x : Option Addr × Nat × Nat) (w2 : World) =>
                         brP (x_3 == 0 && x_4 == 5 && x_5 == 0 && x_6.fst == 39 && x_6.snd.fst == 1 && x_6.snd.snd.fst == 0)
                          (AlP w2 { toList := [Value.int IntKind.i64 0, Value.int IntKind.i64 1, Value.int IntKind.i64 2, Value.int IntKind.i64 3] } 3 fun (b_2 : Nat) (w2 : World) =>
                           ∃ (x_14 : Bool),
                            QCalls Try.prog 37 [Value.slice x_7.fst x_7.snd.fst x_7.snd.snd, Value.slice (some { block := b_2, off := 0 }) 4 4] w2 (Value.bool x_14) ∧
                             ((x_14 && x_8 == 0 && (↑x_9.snd.fst : Int) == 5 && x_10.fst == 5 && x_10.snd.fst == 0 && x_11.snd.fst == 4) = true → true = true) ∧
                              LdP w2 (some (x_14 && x_8 == 0 && (↑x_9.snd.fst : Int) == 5 && x_10.fst == 5 && x_10.snd.fst == 0 && x_11.snd.fst == 4)) (addP (some { block := b, off := 0 }) 0) (El.one (Sc.int IntKind.i64)) fun (x_15 : Int) =>
                               LdP w2 (some (x_14 && x_8 == 0 && (↑x_9.snd.fst : Int) == 5 && x_10.fst == 5 && x_10.snd.fst == 0 && x_11.snd.fst == 4 && x_15 == 5)) (some { block := b_1, off := 0 })
                                (El.agg [Sc.int IntKind.i64, Sc.int IntKind.i64, Sc.int IntKind.i64, Sc.int IntKind.i64]) fun (x_16 : Int × Int × Int × Int × Unit) =>
                                ∃ (x_17 : Int),
                                 ((x_14 && x_8 == 0 && (↑x_9.snd.fst : Int) == 5 && x_10.fst == 5 && x_10.snd.fst == 0 && x_11.snd.fst == 4 && x_15 == 5 &&
                                      (x_16.fst == 39 && (x_16.snd.fst == 7 && (x_16.snd.snd.fst == 0 && (x_16.snd.snd.snd.fst == 0 && true)))) &&
                                     (↑x.snd.fst : Int) == 4) =
                                    true →
                                   QCalls Try.prog 13 [Value.pointer x_2.fst] w2 (Value.int IntKind.i64 x_17)) ∧
                                  brP
                                   (x_14 && x_8 == 0 && (↑x_9.snd.fst : Int) == 5 && x_10.fst == 5 && x_10.snd.fst == 0 && x_11.snd.fst == 4 && x_15 == 5 &&
                                      (x_16.fst == 39 && (x_16.snd.fst == 7 && (x_16.snd.snd.fst == 0 && (x_16.snd.snd.snd.fst == 0 && true)))) &&
                                     (↑x.snd.fst : Int) == 4 &&
                                    x_17 == -1)
                                   (CaP Try.prog 9 (Sh.el (El.one (Sc.int IntKind.i64))) [Value.pointer x_2.fst, Value.int IntKind.i64 0, Value.int IntKind.i64 0, Value.int IntKind.i64 1] w2 fun (x : Int) (w2 : World) =>
                                    EnP w2 fun (w1 : World) => Post (x == 6) w1)
                                   (EnP w2 fun (w1 : World) => Post false w1))
                          ((false = true → true = true) ∧
                           LdP w2 (some false) (addP (some { block := b, off := 0 }) 0) (El.one (Sc.int IntKind.i64)) fun (x : Int) =>
                            LdP w2 (some false) (some { block := b_1, off := 0 }) (El.agg [Sc.int IntKind.i64, Sc.int IntKind.i64, Sc.int IntKind.i64, Sc.int IntKind.i64]) fun (x : Int × Int × Int × Int × Unit) =>
                             ∃ (x : Int), (false = true → QCalls Try.prog 13 [Value.pointer x_2.fst] w2 (Value.int IntKind.i64 x)) ∧ EnP w2 fun (w1 : World) => Post false w1)))) := by kernel_rfl
theorem znil_vc (pg n : Int) (w : World) (Post : Bool → World → Prop) : (rxFn N3 (fun _ => []) 3 [.int .i64 pg, .int .u8 n] w Post) = (
 AlP w { toList := [Value.pointer none, Value.pointer none, Value.int IntKind.i64 0, Value.int IntKind.i64 0, Value.bool false] } 26 fun (b : Nat) (w2 : World) =>
  CaP Try.prog 4 (Sh.tup [El.one Sc.ptr, El.one (Sc.int IntKind.i64)]) [Value.int IntKind.i64 (addI IntKind.i64 15 (mulI IntKind.i64 16 (convI IntKind.i64 n)))] w2 fun (x : Option Addr × Int × Unit) (w2 : World) =>
   CaP Try.prog 5 (Sh.tup [El.one Sc.ptr, El.one (Sc.int IntKind.i64)]) [Value.int IntKind.i64 (addI IntKind.i64 1 (convI IntKind.i64 n))] w2 fun (x_1 : Option Addr × Int × Unit) (w2 : World) =>
    CaP Try.prog 6 (Sh.tup [El.one Sc.ptr, El.one (Sc.int IntKind.i64)]) [Value.pointer x.fst, Value.pointer x_1.fst, Value.int IntKind.i64 1] w2 fun (x_2 : Option Addr × Int × Unit) (w2 : World) =>
     CaP Try.prog 6 (Sh.tup [El.one Sc.ptr, El.one (Sc.int IntKind.i64)]) [Value.pointer none, Value.pointer x_1.fst, Value.int IntKind.i64 1] w2 fun (x_3 : Option Addr × Int × Unit) (w2 : World) =>
      CaP Try.prog 6 (Sh.tup [El.one Sc.ptr, El.one (Sc.int IntKind.i64)]) [Value.pointer x.fst, Value.pointer none, Value.int IntKind.i64 1] w2 fun (x : Option Addr × Int × Unit) (w2 : World) =>
       CaP Try.prog 7 (Sh.tup [El.one (Sc.int IntKind.i64), El.one (Sc.int IntKind.i64)]) [Value.pointer none, Value.int IntKind.i64 pg] w2 fun (x_4 : Int × Int × Unit) (w2 : World) =>
        CaP Try.prog 8 (Sh.tup [El.one (Sc.int IntKind.i64), El.one (Sc.int IntKind.i64), El.one (Sc.int IntKind.i64)]) [Value.pointer (some { block := b, off := 0 }), Value.int IntKind.i64 pg] w2 fun (x_5 : Int × Int × Int × Unit) (w2 : World) =>
         brP (x_2.snd.fst == 1 && x_3.snd.fst == 1 && x.snd.fst == 1 && x_4.snd.fst == 10 && x_5.snd.snd.fst == 10)
          (CaP Try.prog 9 (Sh.el (El.one (Sc.int IntKind.i64))) [Value.pointer none, Value.int IntKind.i64 pg, Value.int IntKind.i64 1, Value.int IntKind.i64 1] w2 fun (x : Int) (w2 : World) =>
           brP (x == 10)
            (CaP Try.prog 10 (Sh.el (El.one (Sc.int IntKind.i64))) [Value.pointer (some { block := b, off := 0 }), Value.int IntKind.i64 pg, Value.int IntKind.i64 16, Value.int IntKind.i64 1] w2 fun (x : Int) (w2 : World) =>
             brP (x == 10)
              (CaP Try.prog 11 (Sh.el (El.one (Sc.int IntKind.i64))) [Value.pointer none, Value.int IntKind.i64 pg, Value.int IntKind.i64 1] w2 fun (x : Int) (w2 : World) =>
               brP (x == 10)
                (CaP Try.prog 12 (Sh.el (El.one Sc.slice)) [Value.pointer none] w2 fun (x : Option Addr × Nat × Nat) (w2 : World) =>
                 ∃ (x_6 : Int),
                  (((↑x.snd.fst : Int) == 0) = true → QCalls Try.prog 13 [Value.pointer none] w2 (Value.int IntKind.i64 x_6)) ∧
                   ∃ (x_7 : Int),
                    (((↑x.snd.fst : Int) == 0 && x_6 == -1) = true → QCalls Try.prog 13 [Value.pointer (some { block := b, off := 0 })] w2 (Value.int IntKind.i64 x_7)) ∧
                     brP ((↑x.snd.fst : Int) == 0 && x_6 == -1 && x_7 == -1)
                      (CaP Try.prog 14 (Sh.el (El.one Sc.slice)) [Value.pointer (some { block := b, off := 0 })] w2 fun (x : Option Addr × Nat × Nat) (w2 : World) =>
                       brP ((↑x.snd.fst : Int) == 0) (CaP Try.prog 15 (Sh.el (El.one Sc.bool)) [] w2 fun (x : Bool) (w2 : World) => EnP w2 fun (w1 : World) => Post x w1) (EnP w2 fun (w1 : World) => Post false w1))
                      (EnP w2 fun (w1 : World) => Post false w1))
                (∃ (x : Int),
                 (false = true → QCalls Try.prog 13 [Value.pointer none] w2 (Value.int IntKind.i64 x)) ∧
                  ∃ (x : Int), (false = true → QCalls Try.prog 13 [Value.pointer (some { block := b, off := 0 })] w2 (Value.int IntKind.i64 x)) ∧ EnP w2 fun (w1 : World) => Post false w1))
              (∃ (x : Int),
               (false = true → QCalls Try.prog 13 [Value.pointer none] w2 (Value.int IntKind.i64 x)) ∧
                ∃ (x : Int), (false = true → QCalls Try.prog 13 [Value.pointer (some { block := b, off := 0 })] w2 (Value.int IntKind.i64 x)) ∧ EnP w2 fun (w1 : World) => Post false w1))
            (∃ (x : Int),
             (false = true → QCalls Try.prog 13 [Value.pointer none] w2 (Value.int IntKind.i64 x)) ∧
              ∃ (x : Int), (false = true → QCalls Try.prog 13 [Value.pointer (some { block := b, off := 0 })] w2 (Value.int IntKind.i64 x)) ∧ EnP w2 fun (w1 : World) => Post false w1))
          (∃ (x : Int),
           (false = true → QCalls Try.prog 13 [Value.pointer none] w2 (Value.int IntKind.i64 x)) ∧
            ∃ (x : Int), (false = true → QCalls Try.prog 13 [Value.pointer (some { block := b, off := 0 })] w2 (Value.int IntKind.i64 x)) ∧ EnP w2 fun (w1 : World) => Post false w1)) := by kernel_rfl
end Go.Proofs.Ytkldededdgpmbaa
namespace Go.Proofs.Ytkldededdgpmbaa
set_option linter.unusedSimpArgs false
set_option linter.unusedVariables false
set_option maxRecDepth 100000
open Go.RX D
/-! ### The laws' calls; what must come of fixed calls -/
section
variable {w0 w : World}
theorem wall_any {bm bw n c : Nat} {ca la : Int} {ws : List Int} {rest : List Value} {L0 : List (Nat × List Value)} (H : At [] w0 w ((bm, mcs bw n c ca la) :: (bw, flat eW ws ++ rest) :: L0)) (hn : n = ws.length) (h0 : 0 < n) (hW : okW ws) (f p t : Int) {K : FT → World → Prop}
    (k : ∀ ca' w1, At [] w0 w1 ((bm, mcs bw n c ca' la) :: (bw, flat eW ws ++ rest) :: L0) → K (allS ws f p t) w1) :
    CaP Try.prog 36 (.el (.agg sF)) [.pointer (some ⟨bm, 0, none⟩), .int .i64 f, .int .i64 p, .int .i64 t] w K := by
  refine CaP.go H fun w1 H => rxFnR_ok (C := M1) (ann := wall_vc_ann) (Eq.mpr (wall_vc _ f p t w1 K) ?_)
  refine AlP.go H fun b w2 H => wnew_at H f p t (fun hb w3 H => ?_) fun hb bk w3 H => ?_
  · have e : allS ws f p t = (0, 0, 0, 1, ()) := if_pos hb
    rw [e] at k
    exact brP_pos rfl (StP.all 0 H rfl rfl rfl fun w4 H => EnP.go H fun w5 H => LdP.at 0 H rfl rfl (k ca w5 (H.sub (List.sublist_cons_self _ _))))
  have e : allS ws f p t = (itS ws f p t 4).2.2 := if_neg (by rw [hb]; decide)
  rw [e] at k
  refine brP_neg rfl ⟨fun q _ w' => ∃ (i : Nat) (Ls : List (Nat × List Value)) (s : Option Addr × Nat × Nat) (xs : List Int) (ca' : Int), q + i = 4 ∧ i ≤ 3 ∧ (itS ws f p t i).2.1 ≠ -1 ∧ xs.length = i ∧ PIn Ls s xs ∧
      At [] w0 w' ((bk, wcs (itS ws f p t i).1 p t (itS ws f p t i).2.1 (itS ws f p t i).2.2 s) :: (bm, mcs bw n c ca' la) :: (bw, flat eW ws ++ rest) :: (Ls ++ ((b, [.int .i64 0, .int .i64 0, .int .i64 0, .int .i64 0]) :: L0))), ⟨4, fun w4 h4 => ⟨0, [], (none, 0, 0), [], ca, rfl, by decide, (show (3 : Int) ≠ -1 by decide), rfl, .inl ⟨rfl, rfl, rfl⟩, (H.ext h4).perm ?_⟩⟩, ?_⟩
  · exact .cons _ (List.perm_append_comm (l₁ := [(bm, mcs bw n c ca la), (bw, flat eW ws ++ rest)]) (l₂ := [(b, [.int .i64 0, .int .i64 0, .int .i64 0, .int .i64 0])]) |>.append_right L0)
  clear H
  rintro q u w4 ⟨i, Ls, s, xs, ca', hq, hi3, hl, hxl, hP, H⟩
  dsimp only
  refine wstep_at H hP (by omega) hn h0 hW hl fun w5 Ls' s' hP' H => ?_
  have es : stepS ws p t ((itS ws f p t i).1, (itS ws f p t i).2.1, (itS ws f p t i).2.2) = itS ws f p t (i + 1) := rfl
  rw [es] at H ⊢
  by_cases hd : (itS ws f p t (i + 1)).2.1 = -1
  · have e4 : itS ws f p t 4 = itS ws f p t (i + 1) := by
      have := it_stop hd (4 - (i + 1))
      rw [show i + 1 + (4 - (i + 1)) = 4 by omega] at this
      exact this
    rw [e4] at k
    generalize itS ws f p t (i + 1) = y at H hd k
    obtain ⟨y0, y1, ⟨y2, y3, y4, y5, yu⟩⟩ := y
    refine brP_neg (by rw [hd]; rfl) ⟨rfl, rfl, LdP.atA (x := (y2, y3, y4, y5, ())) 0 H rfl rfl ?_⟩
    have H := H.perm (L' := (b, [.int .i64 0, .int .i64 0, .int .i64 0, .int .i64 0]) :: ((bk, wcs y0 p t y1 (y2, y3, y4, y5, ()) s') :: (bm, mcs bw n c (upM ws (atI (itS ws f p t i).1 p (itS ws f p t i).2.1) ca') la) :: (bw, flat eW ws ++ rest) :: (Ls' ++ L0))) (by
      refine (List.perm_middle (l₁ := [(bk, wcs y0 p t y1 (y2, y3, y4, y5, ()) s'), (bm, mcs bw n c (upM ws (atI (itS ws f p t i).1 p (itS ws f p t i).2.1) ca') la), (bw, flat eW ws ++ rest)] ++ Ls') (a := (b, [.int .i64 0, .int .i64 0, .int .i64 0, .int .i64 0])) (l₂ := L0)).symm)
    refine StP.all 0 H rfl rfl rfl fun w6 H => EnP.go H fun w7 H => LdP.at 0 H rfl rfl (k (upM ws (atI (itS ws f p t i).1 p (itS ws f p t i).2.1) ca') w7 ?_)
    have H := (H.sub (List.sublist_cons_self _ _)).sub (List.sublist_cons_self _ _)
    exact H.sub (.cons_cons _ (.cons_cons _ (List.sublist_append_right _ _)))
  · have hlv := (it_lv ws f p t (i + 1)).resolve_left hd
    refine brP_pos (by simp [hd]) fun w6 h6 => ⟨q - 1, by omega, i + 1, Ls', s', xs ++ [(itS ws f p t i).1], _, by omega, hlv.2, hd, by rw [List.length_append, hxl]; rfl, hP', H.ext h6⟩
theorem wall_any2 {bm bw n c : Nat} {ca la : Int} {ws : List Int} {rest : List Value} {L : List (Nat × List Value)} (H : At [] w0 w L) (j jw : Nat) (hm : L[j]? = some (bm, mcs bw n c ca la)) (hw : L[jw]? = some (bw, flat eW ws ++ rest)) (hj : j ≠ jw) (hn : n = ws.length) (h0 : 0 < n) (hW : okW ws) (f p t : Int) {K : FT → World → Prop}
    (k : ∀ ca' w1, At [] w0 w1 (L.set j (bm, mcs bw n c ca' la)) → K (allS ws f p t) w1) :
    CaP Try.prog 36 (.el (.agg sF)) [.pointer (some ⟨bm, 0, none⟩), .int .i64 f, .int .i64 p, .int .i64 t] w K := by
  obtain ⟨L2, q1, q2⟩ := front2 hm hw hj
  exact wall_any (H.perm q1.symm) hn h0 hW f p t fun ca' w1 H => k ca' w1 (H.perm (q2 _))
end
section
variable {Q : Sys} {D G : List Nat} {w0 w : World} {s : WD} {L0 : List (Nat × List Value)} {bt : Nat} {o r : Int} {gone : Bool}

abbrev sys0 (bm bw bf bp n m : Nat) : Sys := { bm := bm, bw := bw, bf := bf, bp := bp, c := n, cp := m, rw := [], rf := [] }
theorem SAt.mk0 {bm bw bf bp n m : Nat} (hn : 1 ≤ n) (hm : 1 ≤ m ∧ m ≤ 4096) (H : AtD D G w0 w ((bp, [.slice (some ⟨bf, 0, none⟩) m m]) :: (bf, flat eD (List.replicate m zD) ++ []) :: (bm, mcs bw n n 0 0) :: (bw, flat eW (List.replicate n 0) ++ []) :: L0)) :
    SAt (sys0 bm bw bf bp n m) D G w0 w (fresh n m) L0 := by
  refine ⟨by show 0 < (List.replicate n (0 : Int)).length; simp; omega, by show 0 < (List.replicate m zD).length; simp; omega, by show (List.replicate m zD).length ≤ 4096; simp; omega, ?_, 0, 0, ?_⟩
  · intro v hv
    have : v = 0 := List.eq_of_mem_replicate hv
    subst this; decide
  · have H2 := H.perm (L' := (bm, mcs bw n n 0 0) :: (bw, flat eW (List.replicate n 0) ++ []) :: (bf, flat eD (List.replicate m zD) ++ []) :: (bp, [.slice (some ⟨bf, 0, none⟩) m m]) :: L0) ?_
    · show AtD D G w0 w ((bm, mcs bw (List.replicate n (0 : Int)).length n 0 0) :: (bw, _) :: (bf, _) :: (bp, [.slice (some ⟨bf, 0, none⟩) (List.replicate m zD).length m]) :: L0)
      rw [List.length_replicate, List.length_replicate]
      exact H2
    · refine List.Perm.trans ?_ (List.perm_append_comm (l₁ := [(bm, mcs bw n n 0 0), (bw, flat eW (List.replicate n 0) ++ [])]) (l₂ := [(bp, [.slice (some ⟨bf, 0, none⟩) m m]), (bf, flat eD (List.replicate m zD) ++ [])]) |>.append_right L0)
      exact .cons _ (.cons _ (.swap _ _ _))
namespace SAt
theorem ofq (S : SAt Q D G w0 w s L0) (f : Int) : QCalls Try.prog 35 [.pointer (some ⟨Q.bp, 0, none⟩), .int .i64 f] w ((Sh.tup [eD, .one .bool]).emb (ofV s.2 f, ofB s.2 f, ())) := by
  obtain ⟨h1, h2, h3, h4, ca, la, H⟩ := S
  exact of_q H 3 2 rfl rfl rfl f
theorem wall (S : SAt Q [] [] w0 w s L0) (f p t : Int) {K : FT → World → Prop} (k : ∀ w1, SAt Q [] [] w0 w1 s L0 → K (allS s.1 f p t) w1) :
    CaP Try.prog 36 (.el (.agg sF)) [.pointer (some ⟨Q.bm, 0, none⟩), .int .i64 f, .int .i64 p, .int .i64 t] w K := by
  obtain ⟨h1, h2, h3, h4, ca, la, H⟩ := S
  exact wall_any2 H 0 1 rfl rfl (by decide) rfl h1 h4 f p t fun ca' w1 H => k w1 ⟨h1, h2, h3, h4, ca', la, H⟩
end SAt
end
/-! The fixed calls. -/
def kA : WD := tkS (fresh 160 10) 1 (fun _ => 0)
def kB : WD := mapS kA 1 0 false 4660 5 3
def kC : WD := lrgS kB 1 0 false 4672 32 1
def kD : WD := proS kC 1 0 false 4679 7
def kE : WD := unmS kD 1 0 false 4660
theorem kA_F : tkF (fresh 160 10) 1 = 0 := by decide +kernel
theorem kA_E : tkE (fresh 160 10) 1 = 0 := by decide +kernel
theorem k1 : mapE kA 0 false 4660 5 3 = 0 := by decide +kernel
theorem k2 : mapE kB 0 false 4660 6 3 = 5 := by decide +kernel
theorem k2S : mapS kB 1 0 false 4660 6 3 = kB := by decide +kernel
theorem k3 : lrgE kB 0 false 4672 32 1 = 0 := by decide +kernel
theorem k4 : qryV kC 0 false 4679 = (39, 1, 0, ()) := by decide +kernel
theorem k5 : allS2 kC 0 false = [0, 1, 2, 3] := by decide +kernel
theorem k6 : proE kC 1 0 false 4679 7 = 0 := by decide +kernel
theorem k7 : (allS2 kD 0 false).length = 5 := by decide +kernel
theorem k8 : unmE kD 1 0 false 4660 = 0 ∧ unmF kD 1 0 false 4660 = 5 := by decide +kernel
theorem k9 : unmE kE 1 0 false 4660 = 4 := by decide +kernel
theorem k9S : unmS kE 1 0 false 4660 = kE := by decide +kernel
theorem k10 : (ofV kE.2 3).1 = 5 := by decide +kernel
theorem k11 : allS kE.1 0 4679 4 = (39, 7, 0, 0, ()) := by decide +kernel
theorem k12 : (allS2 kE 0 false).length = 4 := by decide +kernel
theorem kD_len : kD.1.length = 160 := by decide +kernel
theorem kE_len : kE.1.length = 160 := by decide +kernel
end Go.Proofs.Ytkldededdgpmbaa
namespace Go.Proofs.Ytkldededdgpmbaa
set_option linter.unusedSimpArgs false
set_option linter.unusedVariables false
set_option maxRecDepth 100000
open Go.RX D
theorem SAt.sl {Q : Sys} {D G : List Nat} {w0 w : World} {s : WD} {L0 rows : List (Nat × List Value)} {e : El} {x : Option Addr × Nat × Nat} {xs : List e.T} (S : SAt Q D G w0 w s L0) (hr : RowIn e rows x xs) (hm : ∀ y ∈ rows, y ∈ L0) : Sl w e x.1 xs := by
  obtain ⟨g1, g2, g3, g4, ca, la, H⟩ := S
  refine hr.sl H fun y hy => ?_
  show y ∈ _ :: _ :: _ :: _ :: L0
  simp [hm y hy]
theorem Sl.row {w : World} {b : Nat} {xs : List Int} {rest : List Value} (h : Blk w b (flat eN xs ++ rest)) : Sl w eN (some ⟨b, 0, none⟩) xs := by
  refine Sl.of_blk h ?_
  rw [List.take_append_of_le_length (by rw [flat_length]; exact Nat.le_refl _), List.take_of_length_le (by rw [flat_length]; exact Nat.le_refl _)]
theorem ints_q {p q : Option Addr} {c d : Nat} {w : World} {xs ys : List Int} (hx : Sl w eN p xs) (hy : Sl w eN q ys) (hb : xs.length < 4611686018427387904) :
    QCalls Try.prog 37 [.slice p xs.length c, .slice q ys.length d] w (.bool (decide (xs = ys))) :=
  QCalls.of (s := .el (.one .bool)) fun w' h' => ints_ok (hx.ext h') rfl (hy.ext h') rfl hb
theorem known_ok (w : World) : CallsR Try.prog 15 (.el (.one .bool)) [] w (fun b w' => b = true ∧ Ext w w') := by
  refine rxFn_ok (C := N3) (ann := fun _ => []) (Eq.mpr (zknown_vc w _) ?_)
  refine mnew_at (n := 160) (At.start [] w) ⟨by decide, by decide⟩ fun bm bw w1 H => pnew_at H 10 (fun h => absurd h (by decide)) fun _ _ bp bf w2 H => brP_neg rfl ?_
  have S : SAt (sys0 bm bw bf bp 160 10) [] [] w w2 (fresh 160 10) [] := SAt.mk0 (by decide) ⟨by decide, by decide⟩ H
  have hr : (0 : Int) ≤ 0 ∧ (0 : Int) < 4096 := ⟨by decide, by decide⟩
  refine S.new 1 (fun h => absurd h (by decide)) (fun _ h => absurd kA_E h) fun _ _ bt w3 S => brP_neg rfl ?_
  rw [kA_F] at S
  have S : SAt (sys0 bm bw bf bp 160 10) [] [] w w3 kA [(bt, tcs (sys0 bm bw bf bp 160 10) 1 0 false)] := S
  refine S.map 0 rfl 4660 5 3 fun w4 S => ?_
  have S : SAt (sys0 bm bw bf bp 160 10) [] [] w w4 kB [(bt, tcs (sys0 bm bw bf bp 160 10) 1 0 false)] := S
  refine S.map 0 rfl 4660 6 3 fun w5 S => ?_
  rw [k2S] at S
  refine S.large 0 rfl 4672 32 1 fun w6 S => ?_
  have S : SAt (sys0 bm bw bf bp 160 10) [] [] w w6 kC [(bt, tcs (sys0 bm bw bf bp 160 10) 1 0 false)] := S
  refine S.query 0 rfl 4679 fun w7 S => S.all 0 rfl hr fun x7 rows7 w8 S hr7 => S.protect 0 rfl 4679 7 fun w9 S => ?_
  have S : SAt (sys0 bm bw bf bp 160 10) [] [] w w9 kD ((bt, tcs (sys0 bm bw bf bp 160 10) 1 0 false) :: rows7) := S
  have fD : Few (sys0 bm bw bf bp 160 10) kD := by unfold Few; rw [kD_len]; exact ⟨Nat.le_refl _, by decide⟩
  have fE : Few (sys0 bm bw bf bp 160 10) kE := by unfold Few; rw [kE_len]; exact ⟨Nat.le_refl _, by decide⟩
  refine S.all 0 rfl hr fun x9 rows9 w10 S hr9 => S.unmap fD 0 rfl hr 4660 fun w11 S => ?_
  have S : SAt (sys0 bm bw bf bp 160 10) [] [] w w11 kE ((bt, tcs (sys0 bm bw bf bp 160 10) 1 0 false) :: (rows7 ++ rows9)) := S
  refine S.unmap fE 0 rfl hr 4660 fun w12 S => ?_
  rw [k9S] at S
  refine ⟨(ofV kE.2 3, ofB kE.2 3, ()), S.ofq 3, S.al fun b w13 S => S.stAll 0 rfl rfl rfl fun w14 S => ⟨_, S.root 1 rfl, S.wall 0 4679 4 fun w15 S => S.al fun b1 w16 S => S.stAll 0 rfl rfl rfl fun w17 S => S.drop 2 rfl hr fun x rows w18 S hrow => ?_⟩⟩
  obtain ⟨x7p, x7n, x7c⟩ := x7
  obtain ⟨x9p, x9n, x9c⟩ := x9
  obtain ⟨xp, xn, xc⟩ := x
  have h7 : x7n = (allS2 kC 0 false).length := hr7.1
  have h9 : x9n = (allS2 kD 0 false).length := hr9.1
  have h0 : xn = (allS2 kE 0 false).length := hrow.1
  rw [k7] at h9
  rw [k12] at h0
  rw [k5] at h7 hr7
  have h7' : x7n = 4 := h7
  subst h7'; subst h9; subst h0
  have e1 : mapE (tkS (fresh 160 10) 1 fun _ => 0) 0 false 4660 5 3 = 0 := k1
  dsimp only
  refine brP_pos (by rw [k1, k2, k3, k4]; rfl) (S.al fun b2 w19 S => ⟨true, ?_, fun _ => rfl, ?_⟩)
  · have hx := S.sl hr7 (fun y hy => by simp [hy])
    have hy : Sl w19 eN (some ⟨b2, 0, none⟩) [0, 1, 2, 3] := Sl.row (rest := []) (S.get (i := 0) rfl)
    have := ints_q (c := x7c) (d := 4) hx hy (by decide)
    exact this
  · refine S.ldA 2 rfl rfl (S.ld 1 rfl rfl ⟨-1, fun _ => S.root 3 rfl, brP_pos ?_ (S.map 3 rfl 0 0 1 fun w20 S => S.en fun w21 S => ⟨rfl, ?_⟩)⟩)
    · rw [k6, k8.1, k8.2, k9, k10, k11]; rfl
    · obtain ⟨g1, g2, g3, g4, ca, la, H⟩ := S
      exact H.all
end Go.Proofs.Ytkldededdgpmbaa
namespace Go.Proofs.Ytkldededdgpmbaa
set_option linter.unusedSimpArgs false
set_option linter.unusedVariables false
set_option maxRecDepth 100000
open Go.RX D
/-! ### Tables that are not there -/
theorem nrng8 {x : Int} (h : (Lit.int .u8 x).wf = true) : 0 ≤ x ∧ x < 256 := by
  simp [Lit.wf, IntKind.min, IntKind.max, IntKind.bits, IntKind.signed] at h
  omega
def NilT (w : World) (p : Option Addr) : Prop := p = none ∨ ∃ b l, p = some ⟨b, 0, none⟩ ∧ Blk w b (.pointer none :: l)
theorem NilT.ext {w w' : World} {p : Option Addr} (h : NilT w p) (e : Ext w w') : NilT w' p := by
  rcases h with h | ⟨b, l, h1, h2⟩
  · exact .inl h
  · exact .inr ⟨b, l, h1, h2.ext e⟩
section
variable {w : World} {p : Option Addr}
theorem state_nil (h : NilT w p) : QCalls Try.prog 25 [.pointer p] w (.int .i64 10) := by
  refine QCalls.of (s := .el (.one (.int .i64))) fun w' h' => rxFn_ok (C := N0) (ann := fun _ => []) (Eq.mpr (tstate_vc _ w' _) ?_)
  rcases h.ext h' with rfl | ⟨b, l, rfl, hb⟩
  · exact ⟨fun h => by simp at h, fun h => by simp at h, none, fun h => by simp at h, brP_pos rfl fun w1 h1 => ⟨rfl, h1⟩⟩
  · exact ⟨fun _ => rfl, fun _ => rfl, LdP.of none (by rw [addP_B]; exact hb.rd1 rfl) (brP_pos rfl fun w1 h1 => ⟨rfl, h1⟩)⟩
theorem root_nil (h : NilT w p) : QCalls Try.prog 13 [.pointer p] w (.int .i64 (-1)) := by
  refine QCalls.of (s := .el (.one (.int .i64))) fun w' h' => rxFn_ok (C := N0) (ann := fun _ => []) (Eq.mpr (troot_vc _ w' _) ?_)
  exact ⟨10, state_nil (h.ext h'), brP_pos rfl fun w1 h1 => ⟨rfl, h1⟩⟩
theorem query_nil (h : NilT w p) (pg : Int) : CallsR Try.prog 8 (.tup [.one (.int .i64), .one (.int .i64), .one (.int .i64)]) [.pointer p, .int .i64 pg] w (fun x w' => x = (0, 0, 10, ()) ∧ Ext w w') :=
  rxFn_ok (C := N0) (ann := fun _ => []) (Eq.mpr (tquery_vc _ pg w _) ⟨10, state_nil h, brP_pos rfl fun w1 h1 => ⟨rfl, h1⟩⟩)
theorem unmap_nil (h : NilT w p) (pg : Int) : CallsR Try.prog 7 (.tup [.one (.int .i64), .one (.int .i64)]) [.pointer p, .int .i64 pg] w (fun x w' => x = (0, 10, ()) ∧ Ext w w') := by
  refine rxFn_ok (C := N0) (ann := fun _ => []) (Eq.mpr (tunmap_vc _ pg w _) ?_)
  refine fun w1 h1 => (query_nil (h.ext h1) pg).mono fun x w2 ⟨e, h2⟩ => ?_
  subst e
  exact brP_pos rfl fun w3 h3 => ⟨rfl, (h1.trans h2).trans h3⟩
theorem map_nil (h : NilT w p) (pg f r : Int) : CallsR Try.prog 9 (.el (.one (.int .i64))) [.pointer p, .int .i64 pg, .int .i64 f, .int .i64 r] w (fun x w' => x = 10 ∧ Ext w w') :=
  rxFn_ok (C := N0) (ann := fun _ => []) (Eq.mpr (tmap_vc _ pg f r w _) ⟨10, state_nil h, brP_pos rfl fun w1 h1 => ⟨rfl, h1⟩⟩)
theorem large_nil (h : NilT w p) (pg f r : Int) : CallsR Try.prog 10 (.el (.one (.int .i64))) [.pointer p, .int .i64 pg, .int .i64 f, .int .i64 r] w (fun x w' => x = 10 ∧ Ext w w') :=
  rxFn_ok (C := N0) (ann := fun _ => []) (Eq.mpr (tlarge_vc _ pg f r w _) ⟨10, state_nil h, brP_pos rfl fun w1 h1 => ⟨rfl, h1⟩⟩)
theorem protect_nil (h : NilT w p) (pg r : Int) : CallsR Try.prog 11 (.el (.one (.int .i64))) [.pointer p, .int .i64 pg, .int .i64 r] w (fun x w' => x = 10 ∧ Ext w w') :=
  rxFn_ok (C := N0) (ann := fun _ => []) (Eq.mpr (tprot_vc _ pg r w _) ⟨10, state_nil h, brP_pos rfl fun w1 h1 => ⟨rfl, h1⟩⟩)
theorem all_nil (h : NilT w p) : CallsR Try.prog 14 (.el (.one .slice)) [.pointer p] w (fun x w' => x = (none, 0, 0) ∧ Ext w w') :=
  rxFn_ok (C := N0) (ann := tall_vc_ann) (Eq.mpr (tall_vc _ w _) ⟨10, state_nil h, brP_pos rfl fun w1 h1 => ⟨rfl, h1⟩⟩)
theorem drop_nil (h : NilT w p) : CallsR Try.prog 12 (.el (.one .slice)) [.pointer p] w (fun x w' => x = (none, 0, 0) ∧ Ext w w') :=
  rxFn_ok (C := N0) (ann := tdrop_vc_ann) (Eq.mpr (tdrop_vc _ w _) ⟨10, state_nil h, brP_pos rfl fun w1 h1 => ⟨rfl, h1⟩⟩)
theorem mlen_nil (w : World) : QCalls Try.prog 16 [.pointer none] w (.int .i64 0) :=
  QCalls.of (s := .el (.one (.int .i64))) fun w' _ => rxFn_ok (C := M0) (ann := fun _ => []) (Eq.mpr (mlen_vc _ w' _) (brP_pos rfl fun w1 h1 => ⟨rfl, h1⟩))
theorem plen_nil (w : World) : QCalls Try.prog 17 [.pointer none] w (.int .i64 0) := QCalls.of (s := .el (.one (.int .i64))) fun w' _ => len_nil w'
end
theorem lnil_row (x : Int) (_ : (Lit.int .i64 x).wf = true) (y : Int) (hy : (Lit.int .u8 y).wf = true) {w : World} :
    CallsR Try.prog 3 (.el (.one .bool)) [.int .i64 x, .int .u8 y] w (fun b w' => b = true ∧ Ext w w') := by
  refine rxFn_ok (C := N3) (ann := fun _ => []) (Eq.mpr (znil_vc x y w _) ?_)
  have hy := nrng8 hy
  have ec : convI .i64 y = y := wrap_i64_id (by omega) (by omega)
  obtain ⟨n, rfl⟩ := Int.eq_ofNat_of_zero_le hy.1
  have e1 : addI .i64 15 (mulI .i64 16 (n : Int)) = ((15 + 16 * n : Nat) : Int) := by rw [mulI_i64 (by omega) (by omega), addI_i64 (by omega) (by omega)]; omega
  have e2 : addI .i64 1 (n : Int) = ((1 + n : Nat) : Int) := by rw [addI_i64 (by omega) (by omega)]; omega
  rw [ec, e1, e2]
  refine AlP.go (At.start [] w) fun b w1 H => mnew_at H ⟨by omega, by omega⟩ fun bm bw w2 H => pnew_at H ((1 + n : Nat) : Int) (fun h => by omega) fun _ _ bp bf w3 H => ?_
  have hl1 : ∀ {w' : World} {L : List (Nat × List Value)}, At [] w w' ((bp, [.slice (some ⟨bf, 0, none⟩) ((1 + n : Nat) : Int).toNat ((1 + n : Nat) : Int).toNat]) :: L) → QCalls Try.prog 17 [.pointer (some ⟨bp, 0, none⟩)] w' (.int .i64 ((1 + n : Nat) : Int)) := fun H => len_q H 0 rfl
  have hl2 : ∀ {w' : World} {a c : Nat × List Value} {L : List (Nat × List Value)}, At [] w w' (a :: c :: (bm, mcs bw (15 + 16 * n) (15 + 16 * n) 0 0) :: L) → QCalls Try.prog 16 [.pointer (some ⟨bm, 0, none⟩)] w' (.int .i64 ((15 + 16 * n : Nat) : Int)) := fun H => QCalls.of (s := .el (.one (.int .i64))) fun w' h' => mlen_ok ((H.get (i := 2) rfl).ext h')
  have em : mulI .i64 16 ((1 + n : Nat) : Int) = ((16 + 16 * n : Nat) : Int) := by rw [mulI_i64 (by omega) (by omega)]; omega
  have c1 : (((15 + 16 * n : Nat) : Int) == 0) = false := by rw [beq_eq_false_iff_ne]; omega
  have c2 : (((1 + n : Nat) : Int) == 0) = false := by rw [beq_eq_false_iff_ne]; omega
  have f1 : ∀ {w' : World}, At [] w w' ((bp, [.slice (some ⟨bf, 0, none⟩) ((1 + n : Nat) : Int).toNat ((1 + n : Nat) : Int).toNat]) :: (bf, flat eD (List.replicate ((1 + n : Nat) : Int).toNat zD) ++ []) :: (bm, mcs bw (15 + 16 * n) (15 + 16 * n) 0 0) :: (bw, flat eW (List.replicate (15 + 16 * n) 0) ++ []) :: (b, [.pointer none, .pointer none, .int .i64 0, .int .i64 0, .bool false]) :: []) →
      CallsR Try.prog 6 (.tup [.one .ptr, .one (.int .i64)]) [.pointer (some ⟨bm, 0, none⟩), .pointer (some ⟨bp, 0, none⟩), .int .i64 1] w' (fun x w'' => x = (none, 1, ()) ∧ Ext w' w'') := fun H => by
    refine rxFn_ok (C := N0) (ann := fun _ => []) (Eq.mpr (tnew_vc _ _ 1 _ _) ?_)
    refine ⟨_, hl2 H, _, fun _ => hl1 H, _, fun _ => hl2 H, _, fun _ => hl1 H, ?_⟩
    rw [em, c1, c2]
    exact brP_pos (by simp) fun w4 h4 => ⟨rfl, h4⟩
  have f2 : ∀ (q : Option Addr) (w' : World), CallsR Try.prog 6 (.tup [.one .ptr, .one (.int .i64)]) [.pointer none, .pointer q, .int .i64 1] w' (fun x w'' => x = (none, 1, ()) ∧ Ext w' w'') := fun q w' => by
    refine rxFn_ok (C := N0) (ann := fun _ => []) (Eq.mpr (tnew_vc _ _ 1 w' _) ?_)
    exact ⟨0, mlen_nil w', 0, fun h => by simp at h, 0, fun h => by simp at h, 0, fun h => by simp at h, brP_pos rfl fun w4 h4 => ⟨rfl, h4⟩⟩
  have f3 : ∀ {w' : World}, At [] w w' ((bp, [.slice (some ⟨bf, 0, none⟩) ((1 + n : Nat) : Int).toNat ((1 + n : Nat) : Int).toNat]) :: (bf, flat eD (List.replicate ((1 + n : Nat) : Int).toNat zD) ++ []) :: (bm, mcs bw (15 + 16 * n) (15 + 16 * n) 0 0) :: (bw, flat eW (List.replicate (15 + 16 * n) 0) ++ []) :: (b, [.pointer none, .pointer none, .int .i64 0, .int .i64 0, .bool false]) :: []) →
      CallsR Try.prog 6 (.tup [.one .ptr, .one (.int .i64)]) [.pointer (some ⟨bm, 0, none⟩), .pointer none, .int .i64 1] w' (fun x w'' => x = (none, 1, ()) ∧ Ext w' w'') := fun {w'} H => by
    refine rxFn_ok (C := N0) (ann := fun _ => []) (Eq.mpr (tnew_vc _ _ 1 _ _) ?_)
    refine ⟨_, hl2 H, _, fun _ => plen_nil w', 0, fun h => by simp [c1] at h, 0, fun h => by simp [c1] at h, ?_⟩
    rw [c1]
    exact brP_pos rfl fun w4 h4 => ⟨rfl, h4⟩
  have hz : ∀ {w' : World}, At [] w w' ((bp, [.slice (some ⟨bf, 0, none⟩) ((1 + n : Nat) : Int).toNat ((1 + n : Nat) : Int).toNat]) :: (bf, flat eD (List.replicate ((1 + n : Nat) : Int).toNat zD) ++ []) :: (bm, mcs bw (15 + 16 * n) (15 + 16 * n) 0 0) :: (bw, flat eW (List.replicate (15 + 16 * n) 0) ++ []) :: (b, [.pointer none, .pointer none, .int .i64 0, .int .i64 0, .bool false]) :: []) → NilT w' (some ⟨b, 0, none⟩) := fun H => .inr ⟨b, _, rfl, H.get (i := 4) rfl⟩
  have h0 : ∀ w' : World, NilT w' none := fun _ => .inl rfl
  refine CaP.val H (s := .tup [.one .ptr, .one (.int .i64)]) (none, 1, ()) (fun w4 H => f1 H) fun w4 H => ?_
  refine CaP.val H (s := .tup [.one .ptr, .one (.int .i64)]) (none, 1, ()) (fun w5 H => f2 _ w5) fun w5 H => ?_
  refine CaP.val H (s := .tup [.one .ptr, .one (.int .i64)]) (none, 1, ()) (fun w6 H => f3 H) fun w6 H => ?_
  refine CaP.val H (s := .tup [.one (.int .i64), .one (.int .i64)]) (0, 10, ()) (fun w7 H => unmap_nil (h0 w7) x) fun w7 H => ?_
  refine CaP.val H (s := .tup [.one (.int .i64), .one (.int .i64), .one (.int .i64)]) (0, 0, 10, ()) (fun w8 H => query_nil (hz H) x) fun w8 H => brP_pos rfl ?_
  refine CaP.val H (s := .el (.one (.int .i64))) 10 (fun w9 H => map_nil (h0 w9) x 1 1) fun w9 H => brP_pos rfl ?_
  refine CaP.val H (s := .el (.one (.int .i64))) 10 (fun w10 H => large_nil (hz H) x 16 1) fun w10 H => brP_pos rfl ?_
  refine CaP.val H (s := .el (.one (.int .i64))) 10 (fun w11 H => protect_nil (h0 w11) x 1) fun w11 H => brP_pos rfl ?_
  refine CaP.val H (s := .el (.one .slice)) (none, 0, 0) (fun w12 H => drop_nil (h0 w12)) fun w12 H => ⟨_, fun _ => root_nil (h0 _), _, fun _ => root_nil (hz H), brP_pos rfl ?_⟩
  refine CaP.val H (s := .el (.one .slice)) (none, 0, 0) (fun w13 H => all_nil (hz H)) fun w13 H => brP_pos rfl ?_
  exact CaP.val H (s := .el (.one .bool)) true (fun w14 _ => known_ok w14) fun w14 H => EnP.go H fun w15 H => ⟨rfl, H.all⟩
end Go.Proofs.Ytkldededdgpmbaa
