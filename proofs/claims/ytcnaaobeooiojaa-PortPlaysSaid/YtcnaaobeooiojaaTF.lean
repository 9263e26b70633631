import Derived.Test.YtcnaaobeooiojaaTE
namespace Go.Proofs.Ytcnaaobeooiojaa
set_option linter.unusedSimpArgs false
set_option linter.unusedVariables false
open Go.RX
def prTail (xr : Option Addr) (n : Nat) (s : Int × Unit) (I : Nat → Int × Unit → World → Prop) (Post : Bool → World → Prop) (w2 : World) : Prop :=
 (∃ (I_1 : Nat → Int × Unit → World → Prop),
  (∃ (n : Nat), ∀ (w1 : World), Ext w2 w1 → I_1 n (1, Unit.unit) w1) ∧
   ∀ (n_1 : Nat) (s_1 : Int × Unit) (w1 : World),
    I_1 n_1 s_1 w1 →
     brP (decide (s_1.fst < 17))
      (∃ (I : Nat → Int × Unit → World → Prop),
       (∃ (n : Nat), ∀ (w1_1 : World), Ext w1 w1_1 → I n (0, Unit.unit) w1_1) ∧
        ∀ (n : Nat) (s : Int × Unit) (w1 : World),
         I n s w1 →
          brP (decide (s.fst < 4))
           (∃ (x_6 : (Int × Int × Int × Bool × Bool × Unit) × Bool × Unit),
            QCalls Try.prog 30 [Value.pointer xr, Value.int IntKind.i64 s_1.fst, Value.int IntKind.i64 s.fst] w1
              (Value.tuple
               {
                toList :=
                 [Value.agg
                   { toList := [Value.int IntKind.i64 x_6.fst.fst, Value.int IntKind.i64 x_6.fst.snd.fst, Value.int IntKind.i64 x_6.fst.snd.snd.fst, Value.bool x_6.fst.snd.snd.snd.fst, Value.bool x_6.fst.snd.snd.snd.snd.fst] },
                  Value.bool x_6.snd.fst] }) ∧
             AlP w1 { toList := [Value.int IntKind.i64 0, Value.int IntKind.i64 0, Value.int IntKind.i64 0, Value.bool false, Value.bool false] } 45 fun (b : Nat) (w2 : World) =>
              StP w2 (some { block := b, off := 0 })
               [Value.int IntKind.i64 x_6.fst.fst, Value.int IntKind.i64 x_6.fst.snd.fst, Value.int IntKind.i64 x_6.fst.snd.snd.fst, Value.bool x_6.fst.snd.snd.snd.fst, Value.bool x_6.fst.snd.snd.snd.snd.fst] fun (w2 : World) =>
               ((!!x_6.snd.fst) = true → true = true) ∧
                LdP w2 (some !!x_6.snd.fst) (addP (some { block := b, off := 0 }) 0) (El.one (Sc.int IntKind.i64)) fun (x_7 : Int) =>
                 brP (!x_6.snd.fst || x_7 == 1)
                  (true = true ∧
                   LdP w2 none (addP (some { block := b, off := 0 }) 2) (El.one (Sc.int IntKind.i64)) fun (x : Int) =>
                    ((!x != 0 && x_6.snd.fst) = true → true = true) ∧
                     LdP w2 (some (!x != 0 && x_6.snd.fst)) (addP (some { block := b, off := 0 }) 1) (El.one (Sc.int IntKind.i64)) fun (x_8 : Int) =>
                      brP (x != 0 || x_6.snd.fst && x_8 == s_1.fst) (EnP w2 fun (w1 : World) => Post false w1) (∀ (w3 : World), Ext w2 w3 → ∃ (n' : Nat), n' < n ∧ I n' (addI IntKind.i64 s.fst 1, Unit.unit) w3))
                  (true = true ∧
                   LdP w2 none (addP (some { block := b, off := 0 }) 1) (El.one (Sc.int IntKind.i64)) fun (x_8 : Int) =>
                    true = true ∧
                     LdP w2 none (addP (some { block := b, off := 0 }) 2) (El.one (Sc.int IntKind.i64)) fun (x_9 : Int) =>
                      ∃ (x_10 : (Int × Int × Int × Bool × Bool × Unit) × Bool × Unit),
                       QCalls Try.prog 30 [Value.pointer xr, Value.int IntKind.i64 x_8, Value.int IntKind.i64 x_9] w2
                         (Value.tuple
                          {
                           toList :=
                            [Value.agg
                              {
                               toList :=
                                [Value.int IntKind.i64 x_10.fst.fst, Value.int IntKind.i64 x_10.fst.snd.fst, Value.int IntKind.i64 x_10.fst.snd.snd.fst, Value.bool x_10.fst.snd.snd.snd.fst,
                                 Value.bool x_10.fst.snd.snd.snd.snd.fst] },
                             Value.bool x_10.snd.fst] }) ∧
                        AlP w2 { toList := [Value.int IntKind.i64 0, Value.int IntKind.i64 0, Value.int IntKind.i64 0, Value.bool false, Value.bool false] } 45 fun (b_1 : Nat) (w2 : World) =>
                         StP w2 (some { block := b_1, off := 0 })
                          [Value.int IntKind.i64 x_10.fst.fst, Value.int IntKind.i64 x_10.fst.snd.fst, Value.int IntKind.i64 x_10.fst.snd.snd.fst, Value.bool x_10.fst.snd.snd.snd.fst, Value.bool x_10.fst.snd.snd.snd.snd.fst]
                          fun (w2 : World) =>
                          ((!!x_10.snd.fst) = true → true = true) ∧
                           LdP w2 (some !!x_10.snd.fst) (addP (some { block := b_1, off := 0 }) 0) (El.one (Sc.int IntKind.i64)) fun (x_11 : Int) =>
                            ((!(!x_10.snd.fst || x_11 != 2)) = true → true = true) ∧
                             LdP w2 (some !(!x_10.snd.fst || x_11 != 2)) (addP (some { block := b_1, off := 0 }) 1) (El.one (Sc.int IntKind.i64)) fun (x_12 : Int) =>
                              ((!(!x_10.snd.fst || x_11 != 2 || x_12 != s_1.fst)) = true → true = true) ∧
                               LdP w2 (some !(!x_10.snd.fst || x_11 != 2 || x_12 != s_1.fst)) (addP (some { block := b_1, off := 0 }) 2) (El.one (Sc.int IntKind.i64)) fun (x_13 : Int) =>
                                ((!(!x_10.snd.fst || x_11 != 2 || x_12 != s_1.fst || x_13 != s.fst)) = true → true = true) ∧
                                 LdP w2 (some !(!x_10.snd.fst || x_11 != 2 || x_12 != s_1.fst || x_13 != s.fst)) (addP (some { block := b, off := 0 }) 1) (El.one (Sc.int IntKind.i64)) fun (x_14 : Int) =>
                                  ∃ (x_15 : Bool),
                                   ((!(!x_10.snd.fst || x_11 != 2 || x_12 != s_1.fst || x_13 != s.fst)) = true →
                                     QCalls Try.prog 28 [Value.pointer xr, Value.int IntKind.i64 s_1.fst, Value.int IntKind.i64 x_14] w2 (Value.bool x_15)) ∧
                                    brP (!x_10.snd.fst || x_11 != 2 || x_12 != s_1.fst || x_13 != s.fst || !x_15) (EnP w2 fun (w1 : World) => Post false w1)
                                     (∀ (w3 : World), Ext w2 w3 → ∃ (n' : Nat), n' < n ∧ I n' (addI IntKind.i64 s.fst 1, Unit.unit) w3)))
           (∀ (w3 : World), Ext w1 w3 → ∃ (n' : Nat), n' < n_1 ∧ I_1 n' (addI IntKind.i64 s_1.fst 1, Unit.unit) w3))
      (∀ (w3 : World), Ext w1 w3 → ∃ (n' : Nat), n' < n ∧ I n' (addI IntKind.i64 s.fst 1, Unit.unit) w3))
theorem ofS_in {room : Int} {ps : List PT} {g i : Int} (h : inR room g i = true) : ofS room ps g i = if gp ps g i = zP then (zP, false) else (gp ps g i, true) := by
  unfold ofS
  rw [atX_eq h]
  by_cases e : gp ps g i = zP
  · rw [if_pos e, if_pos e]
  · rw [if_neg e, if_neg e]; rfl
theorem prTail_ok {w w2 : World} {bp b : Nat} {cs : List Value} {n : Nat} {si : Int} {ps : List PT} {I : Nat → Int × Unit → World → Prop} {Post : Bool → World → Prop} (hT : okT 4 ps)
    (H : At [] w w2 [(b, cs), (bp, pcs 4 ps)]) (hI : ∀ w3, At [] w w3 [(b, cs), (bp, pcs 4 ps)] → ∃ n', n' < n ∧ I n' (addI .i64 si 1, ()) w3) :
    prTail (some ⟨bp, 0, none⟩) n (si, ()) I Post w2 := by
  refine ⟨fun n s w' => 1 ≤ s.1 ∧ s.1 ≤ 17 ∧ (n : Int) + s.1 = 17 ∧ At [] w w' [(b, cs), (bp, pcs 4 ps)], ⟨16, fun w5 h5 => ⟨by decide, by decide, by decide, H.ext h5⟩⟩, ?_⟩
  clear H
  rintro n1 ⟨g, u⟩ w5 ⟨hg1, hg2, hn, H⟩
  simp only at hg1 hg2 hn
  dsimp only
  refine brP_intro (fun c5 => ?_) (fun c5 => fun w6 h6 => hI w6 (H.ext h6))
  have hg17 : g < 17 := by simpa using c5
  refine ⟨fun n1 s w' => ∃ k : Nat, s.1 = k ∧ n1 + k = 4 ∧ At [] w w' [(b, cs), (bp, pcs 4 ps)], ⟨4, fun w6 h6 => ⟨0, rfl, rfl, H.ext h6⟩⟩, ?_⟩
  clear H
  rintro n2 ⟨k', u⟩ w6 ⟨k, hk, hn1, H⟩
  simp only at hk
  subst hk
  dsimp only
  refine brP_intro (fun c6 => ?_) (fun c6 => fun w7 h7 => ⟨n1 - 1, by omega, by rw [addI_i64 (by omega) (by omega)]; omega, by rw [addI_i64 (by omega) (by omega)]; omega, by rw [addI_i64 (by omega) (by omega)]; omega, H.ext h7⟩)
  have hk4 : k < 4 := by simp at c6; omega
  have hin : inR 4 g k = true := inR_iff.2 ⟨by omega, by omega, by omega⟩
  have next : ∀ (L : List (Nat × List Value)) w9, At [] w w9 (L ++ [(b, cs), (bp, pcs 4 ps)]) → ∀ (w3 : World), Ext w9 w3 → ∃ (n' : Nat), n' < n2 ∧ ∃ k_1 : Nat, addI .i64 (k : Int) 1 = k_1 ∧ n' + k_1 = 4 ∧ At [] w w3 [(b, cs), (bp, pcs 4 ps)] := fun L w9 H w10 h10 =>
    ⟨n2 - 1, by omega, k + 1, by rw [addI_i64 (by omega) (by omega)]; rfl, by omega, (H.sub (List.sublist_append_right L _)).ext h10⟩
  refine ⟨_, pof_q H 1 rfl hT.tookS g k, ?_⟩
  rw [ofS_in hin]
  by_cases e : gp ps g k = zP
  · rw [if_pos e]
    refine AlP.go H fun bb w7 H => StP.all 0 H rfl rfl rfl fun w8 H => ⟨fun c => by simp at c, LdP.atA 0 H rfl rfl (brP_pos rfl ⟨rfl, LdP.atA 0 H rfl rfl ⟨fun c => by simp at c, LdP.atA 0 H rfl rfl (brP_neg rfl ?_)⟩⟩)⟩
    exact next [_] w8 H
  · rw [if_neg e]
    rcases hT.inv g k hin with z | ⟨z1, z2, z3, z4⟩ | ⟨z1, z2, z3, z4, z5, z6⟩
    · exact absurd z e
    · generalize hx : gp ps g k = x at z1 z2 z3 z4
      obtain ⟨x1, x2, x3, x4, x5, xu⟩ := x
      simp only at z1 z2 z3 z4
      subst z1; subst z4
      refine AlP.go H fun bb w7 H => StP.all 0 H rfl rfl rfl fun w8 H => ⟨fun c => rfl, LdP.atA 0 H rfl rfl (brP_pos rfl ⟨rfl, LdP.atA 0 H rfl rfl ⟨fun c => rfl, LdP.atA 0 H rfl rfl (brP_neg ?_ ?_)⟩⟩)⟩
      · simp [z3]
      · exact next [_] w8 H
    · have hE : Ed 4 ps g (gp ps g k).2.1 := ⟨k, hin, e, rfl⟩
      have hgI : gI g = true := gI_iff.2 (by omega)
      have hlk : linkS 4 ps g (gp ps g k).2.1 = true := linkS_iff.2 ⟨hgI, gI_iff.2 (hE.rng hT).2.1, .fwd .refl hE⟩
      generalize hx : gp ps g k = x at z1 z2 z3 z4 z5 z6 hlk
      obtain ⟨x1, x2, x3, x4, x5, xu⟩ := x
      simp only at z1 z2 z3 z4 z5 z6 hlk
      subst z1
      refine AlP.go H fun bb w7 H => StP.all 0 H rfl rfl rfl fun w8 H => ⟨fun c => rfl, LdP.atA 0 H rfl rfl (brP_neg rfl ⟨rfl, LdP.atA 0 H rfl rfl ⟨rfl, LdP.atA 0 H rfl rfl ?_⟩⟩)⟩
      refine ⟨_, pof_q H 2 rfl hT.tookS x2 x3, ?_⟩
      have e2 : gp ps x2 x3 ≠ zP := fun e3 => by rw [e3] at z4; exact absurd z4 (by decide)
      rw [ofS_in z3, if_neg e2]
      generalize hy : gp ps x2 x3 = y at z4 z5 z6
      obtain ⟨y1, y2, y3, y4, y5, yu⟩ := y
      simp only at z4 z5 z6
      subst z4; subst z5; subst z6
      refine AlP.go H fun b3 w9 H => StP.all 0 H rfl rfl rfl fun w10 H => ⟨fun c => rfl, LdP.atA 0 H rfl rfl ⟨fun c => rfl, LdP.atA 0 H rfl rfl ⟨fun c => rfl, LdP.atA 0 H rfl rfl ⟨fun c => rfl, LdP.atA 1 H rfl rfl ⟨true, fun _ => plinked_q H 3 rfl hT _ _ hlk, brP_neg (by simp) ?_⟩⟩⟩⟩⟩
      exact next [_, _] w10 H
theorem tpeer_row (p : Option Addr) (m c : Nat) (xs : List (ScsT opT)) (hm : m = xs.length) (hmx : m ≤ maxLen) {w : World} (hx : Sl w (.agg opT) p xs) (_ : ∀ x ∈ xs, okScs opT x) :
    CallsR Try.prog 4 (.el (.one .bool)) [.slice p m c] w (fun b w' => b = true ∧ Ext w w') := by
  refine rxFn_ok (C := R2) (ann := tpeer_vc_ann) (Eq.mpr (tpeer_vc p m c w _) ?_)
  have H := At.start [] w
  refine pnewp_at H 4 (fun h => absurd h (by decide)) fun _ _ bp w2 H => brP_neg rfl ?_
  refine ⟨fun q s w' => ∃ (i : Nat) (ps : List PT), s.1 = i ∧ q + i = 80 ∧ okT 4 ps ∧ At [] w w' [(bp, pcs 4 ps)], ⟨80, fun w3 h3 => ⟨0, k0, rfl, rfl, okT_zero (by decide) (by decide), H.ext h3⟩⟩, ?_⟩
  clear H
  rintro q ⟨i', u⟩ w3 ⟨i, ps, hi, hq, hT, H⟩
  simp only at hi
  subst hi
  dsimp only
  refine brP_intro (fun c2 => ?_) (fun c2 => CaP.val H (s := .el (.one .bool)) true (fun w3 H => tknown_ok w3) fun w4 H => EnP.go H fun w5 H => ⟨rfl, H.all⟩)
  have him : i < m ∧ i < 80 := by simp only [Bool.and_eq_true, decide_eq_true_eq] at c2; omega
  have hxi : xs[i]? = some xs[i] := List.getElem?_eq_getElem (by omega)
  generalize xs[i] = o at hxi
  obtain ⟨ok, oa, ob, oc, od, ou⟩ := o
  have hs := hx.ext H.all
  have ixx : p.isSome = true ∧ 0 ≤ (i : Int) ∧ (i : Int) < (m : Int) := ⟨(hs i _ hxi).1, by omega, by omega⟩
  have e5 : addI .i64 (i : Int) 1 = ((i + 1 : Nat) : Int) := by rw [addI_i64 (by omega) (by omega)]; rfl
  have tl : ∀ (bb : Nat) (ps : List PT) (cs : List Value) (w9 : World), okT 4 ps → At [] w w9 [(bb, cs), (bp, pcs 4 ps)] →
      prTail (some ⟨bp, 0, none⟩) q ((i : Int), ()) (fun q s w' => ∃ (i : Nat) (ps : List PT), s.1 = i ∧ q + i = 80 ∧ okT 4 ps ∧ At [] w w' [(bp, pcs 4 ps)]) (fun b w' => b = true ∧ Ext w w') w9 := fun bb ps cs w9 hT H =>
    prTail_ok hT H fun w10 H => ⟨q - 1, by omega, i + 1, ps, e5, by omega, hT, H.sub (List.sublist_cons_self _ _)⟩
  refine ⟨ixx, LdP.of (ok, oa, ob, oc, od, ()) (hs i _ hxi).2 (AlP.go H fun bb w4 H => StP.all 0 H rfl rfl rfl fun w5 H => ⟨rfl, LdP.atA 0 H rfl rfl (brP_intro (fun c3 => ?_) (fun c3 => ?_))⟩)⟩
  · refine ⟨rfl, LdP.atA 0 H rfl rfl ⟨rfl, LdP.atA 0 H rfl rfl (popen_at H 1 rfl hT.tookS _ _ fun w6 H => ?_)⟩⟩
    exact tl _ _ _ w6 (hT.openS _ _) H
  refine brP_intro (fun c4 => ?_) (fun c4 => ?_)
  · refine ⟨rfl, LdP.atA 0 H rfl rfl ⟨rfl, LdP.atA 0 H rfl rfl ⟨rfl, LdP.atA 0 H rfl rfl (pbind_at H 1 rfl hT.tookS _ _ _ fun w6 H => ?_)⟩⟩⟩
    exact tl _ _ _ w6 (hT.bindS _ _ _) H
  refine brP_intro (fun c5 => ?_) (fun c5 => ?_)
  · refine ⟨rfl, LdP.atA 0 H rfl rfl ⟨rfl, LdP.atA 0 H rfl rfl (psend_at H 1 rfl hT _ _ fun w6 H => ?_)⟩⟩
    exact tl _ _ _ w6 (hT.sendS _ _) H
  refine brP_intro (fun c6 => ?_) (fun c6 => ?_)
  · refine ⟨rfl, LdP.atA 0 H rfl rfl ⟨rfl, LdP.atA 0 H rfl rfl (pclose_at H 1 rfl hT _ _ fun w6 H => ?_)⟩⟩
    exact tl _ _ _ w6 (hT.closeS _ _) H
  refine brP_intro (fun c7 => ?_) (fun c7 => ?_)
  · refine ⟨rfl, LdP.atA 0 H rfl rfl (pdrop_at H 1 rfl hT _ fun w6 H => ?_)⟩
    exact tl _ _ _ w6 (dropS_ok hT _) H
  exact tl _ _ _ w5 hT H
end Go.Proofs.Ytcnaaobeooiojaa
