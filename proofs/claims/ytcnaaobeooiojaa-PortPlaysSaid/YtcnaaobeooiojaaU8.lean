import Derived.Test.YtcnaaobeooiojaaU7
namespace Go.Proofs.Ytcnaaobeooiojaa
set_option linter.unusedSimpArgs false
set_option linter.unusedVariables false
open Go.RX
def ptTail (n : Int) (n_1 : Nat) (xq xr : Option Addr) (b : Nat) (s : Int × Unit) (I : Nat → Int × Unit → World → Prop) (Post : Bool → World → Prop) (w2 : World) : Prop :=
 (true = true ∧
  LdP w2 none (addP (some { block := b, off := 0 }) 1) (El.one (Sc.int IntKind.i64)) fun (x_10 : Int) =>
   true = true ∧
    LdP w2 none (addP (some { block := b, off := 0 }) 1) (El.one (Sc.int IntKind.i64)) fun (x_11 : Int) =>
     CaP Try.prog 26 (Sh.el (El.one Sc.slice)) [Value.pointer xq, Value.int IntKind.i64 x_10] w2 fun (x_12 : Option Addr × Nat × Nat) (w2 : World) =>
      rdAt w2 (addP (some { block := b, off := 0 }) 1) (El.one (Sc.int IntKind.i64)) x_11 ∧
       True ∧
        CaP Try.prog 27 (Sh.el (El.one Sc.slice)) [Value.pointer xr, Value.int IntKind.i64 x_11] w2 fun (x_13 : Option Addr × Nat × Nat) (w2 : World) =>
         CaP Try.prog 25 (Sh.el (El.one Sc.bool)) [Value.slice x_12.fst x_12.snd.fst x_12.snd.snd, Value.slice x_13.fst x_13.snd.fst x_13.snd.snd] w2 fun (x_14 : Bool) (w2 : World) =>
          ((!!x_14) = true → true = true) ∧
           LdP w2 (some !!x_14) (addP (some { block := b, off := 0 }) 1) (El.one (Sc.int IntKind.i64)) fun (x_15 : Int) =>
            ((!!x_14) = true → true = true) ∧
             LdP w2 (some !!x_14) (addP (some { block := b, off := 0 }) 2) (El.one (Sc.int IntKind.i64)) fun (x_16 : Int) =>
              ∃ (x_17 : Bool),
               ((!!x_14) = true → QCalls Try.prog 28 [Value.pointer xq, Value.int IntKind.i64 x_15, Value.int IntKind.i64 x_16] w2 (Value.bool x_17)) ∧
                ((!!x_14) = true → true = true) ∧
                 LdP w2 (some !!x_14) (addP (some { block := b, off := 0 }) 1) (El.one (Sc.int IntKind.i64)) fun (x_18 : Int) =>
                  ((!!x_14) = true → true = true) ∧
                   LdP w2 (some !!x_14) (addP (some { block := b, off := 0 }) 2) (El.one (Sc.int IntKind.i64)) fun (x_19 : Int) =>
                    ∃ (x_20 : Bool),
                     ((!!x_14) = true → QCalls Try.prog 29 [Value.pointer xr, Value.int IntKind.i64 x_18, Value.int IntKind.i64 x_19] w2 (Value.bool x_20)) ∧
                      brP (!x_14 || !x_17 == x_20) (EnP w2 fun (w1 : World) => Post false w1)
                       (∃ (I_1 : Nat → Int × Unit → World → Prop),
                        (∃ (n : Nat), ∀ (w1 : World), Ext w2 w1 → I_1 n (0, Unit.unit) w1) ∧
                         ∀ (n_2 : Nat) (s_1 : Int × Unit) (w1 : World),
                          I_1 n_2 s_1 w1 →
                           brP (decide (s_1.fst < 18))
                            (∃ (I : Nat → Int × Unit → World → Prop),
                             (∃ (n : Nat), ∀ (w1_1 : World), Ext w1 w1_1 → I n (-1, Unit.unit) w1_1) ∧
                              ∀ (n_3 : Nat) (s : Int × Unit) (w1 : World),
                               I n_3 s w1 →
                                brP (decide (s.fst ≤ n))
                                 (∃ (x_21 : (Int × Int × Int × Bool × Bool × Unit) × Bool × Unit),
                                  QCalls Try.prog 30 [Value.pointer xq, Value.int IntKind.i64 s_1.fst, Value.int IntKind.i64 s.fst] w1
                                    (Value.tuple
                                     {
                                      toList :=
                                       [Value.agg
                                         {
                                          toList :=
                                           [Value.int IntKind.i64 x_21.fst.fst, Value.int IntKind.i64 x_21.fst.snd.fst, Value.int IntKind.i64 x_21.fst.snd.snd.fst, Value.bool x_21.fst.snd.snd.snd.fst,
                                            Value.bool x_21.fst.snd.snd.snd.snd.fst] },
                                        Value.bool x_21.snd.fst] }) ∧
                                   AlP w1 { toList := [Value.int IntKind.i64 0, Value.int IntKind.i64 0, Value.int IntKind.i64 0, Value.bool false, Value.bool false] } 45 fun (b : Nat) (w2 : World) =>
                                    StP w2 (some { block := b, off := 0 })
                                     [Value.int IntKind.i64 x_21.fst.fst, Value.int IntKind.i64 x_21.fst.snd.fst, Value.int IntKind.i64 x_21.fst.snd.snd.fst, Value.bool x_21.fst.snd.snd.snd.fst,
                                      Value.bool x_21.fst.snd.snd.snd.snd.fst]
                                     fun (w2 : World) =>
                                     ∃ (x : (Int × Int × Int × Bool × Bool × Unit) × Bool × Unit),
                                      QCalls Try.prog 31 [Value.pointer xr, Value.int IntKind.i64 s_1.fst, Value.int IntKind.i64 s.fst] w2
                                        (Value.tuple
                                         {
                                          toList :=
                                           [Value.agg
                                             {
                                              toList :=
                                               [Value.int IntKind.i64 x.fst.fst, Value.int IntKind.i64 x.fst.snd.fst, Value.int IntKind.i64 x.fst.snd.snd.fst, Value.bool x.fst.snd.snd.snd.fst,
                                                Value.bool x.fst.snd.snd.snd.snd.fst] },
                                            Value.bool x.snd.fst] }) ∧
                                       AlP w2 { toList := [Value.int IntKind.i64 0, Value.int IntKind.i64 0, Value.int IntKind.i64 0, Value.bool false, Value.bool false] } 48 fun (b_1 : Nat) (w2 : World) =>
                                        StP w2 (some { block := b_1, off := 0 })
                                         [Value.int IntKind.i64 x.fst.fst, Value.int IntKind.i64 x.fst.snd.fst, Value.int IntKind.i64 x.fst.snd.snd.fst, Value.bool x.fst.snd.snd.snd.fst, Value.bool x.fst.snd.snd.snd.snd.fst]
                                         fun (w2 : World) =>
                                         LdP w2 none (some { block := b, off := 0 }) (El.agg [Sc.int IntKind.i64, Sc.int IntKind.i64, Sc.int IntKind.i64, Sc.bool, Sc.bool])
                                          fun (x_22 : Int × Int × Int × Bool × Bool × Unit) =>
                                          ∃ (x_23 : Int × Int × Int × Bool × Bool × Unit),
                                           QCalls Try.prog 32
                                             [Value.agg
                                               {
                                                toList :=
                                                 [Value.int IntKind.i64 x_22.fst, Value.int IntKind.i64 x_22.snd.fst, Value.int IntKind.i64 x_22.snd.snd.fst, Value.bool x_22.snd.snd.snd.fst,
                                                  Value.bool x_22.snd.snd.snd.snd.fst] }]
                                             w2
                                             (Value.agg
                                              {
                                               toList :=
                                                [Value.int IntKind.i64 x_23.fst, Value.int IntKind.i64 x_23.snd.fst, Value.int IntKind.i64 x_23.snd.snd.fst, Value.bool x_23.snd.snd.snd.fst,
                                                 Value.bool x_23.snd.snd.snd.snd.fst] }) ∧
                                            LdP w2 none (some { block := b_1, off := 0 }) (El.agg [Sc.int IntKind.i64, Sc.int IntKind.i64, Sc.int IntKind.i64, Sc.bool, Sc.bool])
                                             fun (x_24 : Int × Int × Int × Bool × Bool × Unit) =>
                                             brP
                                              (!(x_23.fst == x_24.fst &&
                                                 (x_23.snd.fst == x_24.snd.fst &&
                                                  (x_23.snd.snd.fst == x_24.snd.snd.fst && (x_23.snd.snd.snd.fst == x_24.snd.snd.snd.fst && (x_23.snd.snd.snd.snd.fst == x_24.snd.snd.snd.snd.fst && true))))) ||
                                               !x_21.snd.fst == x.snd.fst)
                                              (EnP w2 fun (w1 : World) => Post false w1) (∀ (w3 : World), Ext w2 w3 → ∃ (n' : Nat), n' < n_3 ∧ I n' (addI IntKind.i64 s.fst 1, Unit.unit) w3))
                                 (∀ (w3 : World), Ext w1 w3 → ∃ (n' : Nat), n' < n_2 ∧ I_1 n' (addI IntKind.i64 s_1.fst 1, Unit.unit) w3))
                            (∀ (w3 : World), Ext w1 w3 → ∃ (n' : Nat), n' < n_1 ∧ I n' (addI IntKind.i64 s.fst 1, Unit.unit) w3)))
theorem pend_le {room : Int} {ps : List PT} (hs : okS room ps) (g : Int) : (pendL room ps g).length ≤ 32 := by
  have h1 : (pendL room ps g).length ≤ room.toNat := pendI_len (ps := ps) g room.toNat
  have := hs.hi
  omega
theorem ptTail_ok {w w2 : World} {n : Int} {n_1 : Nat} {bq bp bl c b : Nat} {rb : Nat → Nat} {rest : List Value} {ps : List PT} {si xk xa xb xp : Int} {xo : Bool} {I : Nat → Int × Unit → World → Prop} {Post : Bool → World → Prop} (hT : okT n ps)
    (H : At [] w w2 ([(b, [.int .i64 xk, .int .i64 xa, .int .i64 xb, .int .i64 xp, .bool xo]), (bq, pcs n ps)] ++ uL bp bl c rb rest n ps))
    (hI : ∀ w3, At [] w w3 ([(b, [.int .i64 xk, .int .i64 xa, .int .i64 xb, .int .i64 xp, .bool xo]), (bq, pcs n ps)] ++ uL bp bl c rb rest n ps) → ∃ n', n' < n_1 ∧ I n' (addI .i64 si 1, ()) w3) :
    ptTail n n_1 (some ⟨bq, 0, none⟩) (some ⟨bp, 0, none⟩) b (si, ()) I Post w2 := by
  have hs := hT.tookS
  have hlo := hs.lo
  have hhi := hs.hi
  have f2 : ∀ {w2 : World} {L : List (Nat × List Value)} {y : Int} {o : Nat}, At [] w w2 ((b, [.int .i64 xk, .int .i64 xa, .int .i64 xb, .int .i64 xp, .bool xo]) :: L) → elAt [.int .i64 xk, .int .i64 xa, .int .i64 xb, .int .i64 xp, .bool xo] (0 + o) (.one (.int .i64)) = some y → rdAt w2 (addP (some ⟨b, 0, none⟩) o) (.one (.int .i64)) y := fun H e => by
    rw [addP_B]; exact elAt_rd (H.get (i := 0) rfl) e
  refine ⟨rfl, LdP.atA 0 H rfl rfl ⟨rfl, LdP.atA 0 H rfl rfl ?_⟩⟩
  refine ppend_at H 1 rfl hs xa fun r rows w3 H hr => ?_
  have H : At [] w w3 ((b, [.int .i64 xk, .int .i64 xa, .int .i64 xb, .int .i64 xp, .bool xo]) :: (bq, pcs n ps) :: (uL bp bl c rb rest n ps ++ rows)) := H
  refine ⟨f2 H rfl, trivial, ?_⟩
  have H := H.perm (L' := ([(b, [.int .i64 xk, .int .i64 xa, .int .i64 xb, .int .i64 xp, .bool xo]), (bq, pcs n ps)] ++ rows) ++ uL bp bl c rb rest n ps) (by
    refine .cons _ (.cons _ ?_)
    exact List.perm_append_comm)
  refine upend_at H hT xa fun r2 rows2 w4 H hr2 => ?_
  have H := H.perm (L' := (([(b, [.int .i64 xk, .int .i64 xa, .int .i64 xb, .int .i64 xp, .bool xo]), (bq, pcs n ps)] ++ uL bp bl c rb rest n ps) ++ rows) ++ rows2) (by
    refine List.Perm.trans ?_ (List.Perm.append_right (uL bp bl c rb rest n ps) (List.perm_append_comm (l₁ := [(b, [.int .i64 xk, .int .i64 xa, .int .i64 xb, .int .i64 xp, .bool xo]), (bq, pcs n ps)] ++ rows) (l₂ := rows2)))
    rw [List.append_assoc, List.append_assoc, List.append_assoc, List.append_assoc]
    refine List.Perm.append_left [(b, _), (bq, _)] ?_
    refine (List.perm_append_comm (l₁ := uL bp bl c rb rest n ps) (l₂ := rows ++ rows2)).trans ?_
    rw [List.append_assoc])
  have hl := pend_le hs xa
  refine CaP.val H (s := .el (.one .bool)) true (fun w8 H => (ints_ok (hr.sl H (fun x hx => List.mem_append_left _ (List.mem_append_right _ hx))) hr.1 (hr2.sl H (fun x hx => List.mem_append_right _ hx)) hr2.1 (by rw [hr.1]; omega)).mono fun b w' h => ⟨h.1.trans (by simp), h.2⟩) fun w5 H => ?_
  have H := H.sub (L' := [(b, [.int .i64 xk, .int .i64 xa, .int .i64 xb, .int .i64 xp, .bool xo]), (bq, pcs n ps)] ++ uL bp bl c rb rest n ps) ((List.sublist_append_left _ _).trans (List.sublist_append_left _ _))
  refine ⟨fun _ => rfl, LdP.atA 0 H rfl rfl ⟨fun _ => rfl, LdP.atA 0 H rfl rfl ⟨linkS n ps xa xb, fun _ => plinked_q H 1 rfl hT xa xb rfl, fun _ => rfl, LdP.atA 0 H rfl rfl ⟨fun _ => rfl, LdP.atA 0 H rfl rfl ⟨linkS n ps xa xb, fun _ => ulinked_q (ubOf H) hT xa xb, brP_neg (by simp) ?_⟩⟩⟩⟩⟩
  refine ⟨fun q s w' => ∃ g : Nat, s.1 = g ∧ q + g = 18 ∧ At [] w w' ([(b, [.int .i64 xk, .int .i64 xa, .int .i64 xb, .int .i64 xp, .bool xo]), (bq, pcs n ps)] ++ uL bp bl c rb rest n ps), ⟨18, fun w6 h6 => ⟨0, rfl, rfl, H.ext h6⟩⟩, ?_⟩
  clear H
  rintro q ⟨g', u⟩ w6 ⟨g, hg, hq, H⟩
  simp only at hg
  subst hg
  dsimp only
  refine brP_intro (fun c1 => ?_) (fun c1 w7 h7 => hI w7 (H.ext h7))
  have hg18 : g < 18 := by simp at c1; omega
  refine ⟨fun q s w' => -1 ≤ s.1 ∧ s.1 ≤ n + 1 ∧ (q : Int) + s.1 = n + 1 ∧ At [] w w' ([(b, [.int .i64 xk, .int .i64 xa, .int .i64 xb, .int .i64 xp, .bool xo]), (bq, pcs n ps)] ++ uL bp bl c rb rest n ps), ⟨(n + 2).toNat, fun w7 h7 => ⟨by decide, by omega, by omega, H.ext h7⟩⟩, ?_⟩
  clear H
  rintro q2 ⟨k, u⟩ w7 ⟨hk1, hk2, hq2, H⟩
  simp only at hk1 hk2 hq2
  dsimp only
  refine brP_intro (fun c2 => ?_) (fun c2 w8 h8 => ⟨q - 1, by omega, g + 1, by rw [addI_i64 (by omega) (by omega)]; rfl, by omega, H.ext h8⟩)
  have hkn : k ≤ n := by simpa using c2
  refine ⟨_, pof_q H 1 rfl hs g k, AlP.go H fun b1 w8 H => StP.all 0 H rfl rfl rfl fun w9 H => ?_⟩
  have H : At [] w w9 ((b1, scsEmb sQ (ofS n ps g k).1) :: ([(b, [.int .i64 xk, .int .i64 xa, .int .i64 xb, .int .i64 xp, .bool xo]), (bq, pcs n ps)] ++ uL bp bl c rb rest n ps)) := H
  refine ⟨_, uof_q (ubOf (A := (b1, scsEmb sQ (ofS n ps g k).1) :: [(b, [.int .i64 xk, .int .i64 xa, .int .i64 xb, .int .i64 xp, .bool xo]), (bq, pcs n ps)]) H) hT g k, AlP.go H fun b3 w10 H => StP.all 0 H rfl rfl rfl fun w11 H => LdP.at 1 H rfl rfl ⟨(ofS n ps g k).1, QCalls.of (s := .el eQ) fun w' h' => uplain_ok (ofS n ps g k).1 w', LdP.at 0 H rfl rfl (brP_neg ?_ fun w12 h12 => ⟨q2 - 1, by omega, ?_⟩)⟩⟩
  · simp
  · have H := (H.sub (List.sublist_cons_self _ _)).sub (List.sublist_cons_self _ _)
    refine ⟨?_, ?_, ?_, H.ext h12⟩ <;> (rw [addI_i64 (by omega) (by omega)]; omega)
theorem tplay_row (n : Int) (_ : (Lit.int .i64 n).wf = true) (p : Option Addr) (m c : Nat) (xs : List (ScsT opT)) (hm : m = xs.length) (hmx : m ≤ maxLen) {w : World} (hx : Sl w (.agg opT) p xs) (_ : ∀ x ∈ xs, okScs opT x) :
    CallsR Try.prog 3 (.el (.one .bool)) [.int .i64 n, .slice p m c] w (fun b w' => b = true ∧ Ext w w') := by
  refine rxFn_ok (C := R2) (ann := tplay_vc_ann) (Eq.mpr (tplay_vc n p m c w _) ?_)
  have H := At.start [] w
  have fin : ∀ w1, Ext w w1 → CaP Try.prog 33 (.el (.one .bool)) [] w1 fun (x : Bool) (w2 : World) => EnP w2 fun (w1 : World) => x = true ∧ Ext w w1 := fun w1 h1 =>
    CaP.val (H.ext h1) (s := .el (.one .bool)) true (fun w3 H => tknown_ok w3) fun w4 H => EnP.go H fun w5 H => ⟨rfl, H.all⟩
  refine pnewp_at H n (fun hb w1 H => ?_) fun g1 g2 bq w1 H => ?_
  · refine unew_at H n (fun _ rp w2 H => ?_) fun g1 g2 => absurd hb (by omega)
    refine brP_neg rfl ⟨fun _ s w' => Ext w w', ⟨0, fun w3 h3 => H.all.trans h3⟩, ?_⟩
    rintro q ⟨i, u⟩ w3 h2
    dsimp only
    refine brP_neg (by simp) (fin w3 h2)
  refine unew_at H n (fun hb => absurd hb (by omega)) fun _ _ bp bl cc rb rest w2 H => brP_neg rfl ?_
  refine ⟨fun q s w' => ∃ (i : Nat) (ps : List PT), s.1 = i ∧ q + i = 80 ∧ okT n ps ∧ At [] w w' ([(bq, pcs n ps)] ++ uL bp bl cc rb rest n ps), ⟨80, fun w3 h3 => ⟨0, k0, rfl, rfl, okT_zero g1 g2, H.ext h3⟩⟩, ?_⟩
  clear H
  rintro q ⟨i', u⟩ w3 ⟨i, ps, hi, hq, hT, H⟩
  simp only at hi
  subst hi
  dsimp only
  refine brP_intro (fun c2 => ?_) (fun c2 => fin w3 H.all)
  have him : i < m ∧ i < 80 := by simp only [Bool.and_eq_true, decide_eq_true_eq] at c2; omega
  have hxi : xs[i]? = some xs[i] := List.getElem?_eq_getElem (by omega)
  generalize xs[i] = o at hxi
  obtain ⟨ok, oa, ob, oc, od, ou⟩ := o
  have hs := hx.ext H.all
  have ixx : p.isSome = true ∧ 0 ≤ (i : Int) ∧ (i : Int) < (m : Int) := ⟨(hs i _ hxi).1, by omega, by omega⟩
  have e5 : addI .i64 (i : Int) 1 = ((i + 1 : Nat) : Int) := by rw [addI_i64 (by omega) (by omega)]; rfl
  refine ⟨ixx, LdP.of (ok, oa, ob, oc, od, ()) (hs i _ hxi).2 (AlP.go H fun bb w4 H => StP.all 0 H rfl rfl rfl fun w5 H => ⟨rfl, LdP.atA 0 H rfl rfl ?_⟩)⟩
  have H0 : At [] w w5 ([(bb, [.int .i64 ok, .int .i64 oa, .int .i64 ob, .int .i64 oc, .bool od]), (bq, pcs n ps)] ++ uL bp bl cc rb rest n ps) := H
  clear H
  have tl : ∀ (ps : List PT) (w9 : World), okT n ps → At [] w w9 ([(bb, [.int .i64 ok, .int .i64 oa, .int .i64 ob, .int .i64 oc, .bool od]), (bq, pcs n ps)] ++ uL bp bl cc rb rest n ps) →
      ptTail n q (some ⟨bq, 0, none⟩) (some ⟨bp, 0, none⟩) bb ((i : Int), ()) (fun q s w' => ∃ (i : Nat) (ps : List PT), s.1 = i ∧ q + i = 80 ∧ okT n ps ∧ At [] w w' ([(bq, pcs n ps)] ++ uL bp bl cc rb rest n ps)) (fun b w' => b = true ∧ Ext w w') w9 := fun ps w9 hT H =>
    ptTail_ok hT H fun w10 H => ⟨q - 1, by omega, i + 1, ps, e5, by omega, hT, H.sub (List.sublist_cons_self _ _)⟩
  have f2 : ∀ {w2 : World} {L : List (Nat × List Value)} {s : Sc} {y : s.T} {o : Nat}, At [] w w2 ((bb, [.int .i64 ok, .int .i64 oa, .int .i64 ob, .int .i64 oc, .bool od]) :: L) → elAt [.int .i64 ok, .int .i64 oa, .int .i64 ob, .int .i64 oc, .bool od] (0 + o) (.one s) = some y → rdAt w2 (addP (some ⟨bb, 0, none⟩) o) (.one s) y := fun H e => by
    rw [addP_B]; exact elAt_rd (H.get (i := 0) rfl) e
  refine brP_intro (fun c3 => ?_) (fun c3 => ?_)
  · refine ⟨rfl, LdP.atA 0 H0 rfl rfl ⟨rfl, LdP.atA 0 H0 rfl rfl (popen_at H0 1 rfl hT.tookS oa ob fun w6 H => ⟨rfl, LdP.atA 0 H rfl rfl ⟨rfl, LdP.atA 0 H rfl rfl ?_⟩⟩)⟩⟩
    have H : At [] w w6 ([(bb, [.int .i64 ok, .int .i64 oa, .int .i64 ob, .int .i64 oc, .bool od]), (bq, pcs n (openS n ps oa ob).2)] ++ uL bp bl cc rb rest n ps) := H
    refine uopen_at H hT oa ob fun w7 H => brP_neg (by simp) ?_
    exact tl _ w7 (hT.openS _ _) H
  refine brP_intro (fun c4 => ?_) (fun c4 => ?_)
  · refine ⟨rfl, LdP.atA 0 H0 rfl rfl ⟨rfl, LdP.atA 0 H0 rfl rfl ⟨rfl, LdP.atA 0 H0 rfl rfl (pbind_at H0 1 rfl hT.tookS oa ob oc fun w6 H => ⟨rfl, LdP.atA 0 H rfl rfl ⟨rfl, LdP.atA 0 H rfl rfl ⟨rfl, LdP.atA 0 H rfl rfl ?_⟩⟩⟩)⟩⟩⟩
    have H : At [] w w6 ([(bb, [.int .i64 ok, .int .i64 oa, .int .i64 ob, .int .i64 oc, .bool od]), (bq, pcs n (bindS n ps oa ob oc).2)] ++ uL bp bl cc rb rest n ps) := H
    refine ubind_at H hT oa ob oc fun w7 H => brP_neg (by simp) ?_
    exact tl _ w7 (hT.bindS _ _ _) H
  refine brP_intro (fun c5 => ?_) (fun c5 => ?_)
  · refine ⟨rfl, LdP.atA 0 H0 rfl rfl ⟨rfl, LdP.atA 0 H0 rfl rfl ⟨rfl, LdP.atA 0 H0 rfl rfl ⟨rfl, LdP.atA 0 H0 rfl rfl (psend_at H0 1 rfl hT oa oc fun w6 H => ⟨f2 H rfl, trivial, f2 H rfl, trivial, ?_⟩)⟩⟩⟩⟩
    have H : At [] w w6 ([(bb, [.int .i64 ok, .int .i64 oa, .int .i64 ob, .int .i64 oc, .bool od]), (bq, pcs n (sendS n ps oa oc).2)] ++ uL bp bl cc rb rest n ps) := H
    refine usend_at H hT oa oc fun w7 H => brP_neg (by simp) ?_
    exact tl _ w7 (hT.sendS _ _) H
  refine brP_intro (fun c6 => ?_) (fun c6 => ?_)
  · refine ⟨rfl, LdP.atA 0 H0 rfl rfl ⟨rfl, LdP.atA 0 H0 rfl rfl ⟨rfl, LdP.atA 0 H0 rfl rfl ⟨rfl, LdP.atA 0 H0 rfl rfl ⟨rfl, LdP.atA 0 H0 rfl rfl ⟨rfl, LdP.atA 0 H0 rfl rfl (pmask_at H0 1 rfl hT.tookS oa oc od fun w6 H => ⟨f2 H rfl, trivial, f2 H rfl, trivial, f2 H rfl, trivial, ?_⟩)⟩⟩⟩⟩⟩⟩
    have H : At [] w w6 ([(bb, [.int .i64 ok, .int .i64 oa, .int .i64 ob, .int .i64 oc, .bool od]), (bq, pcs n (maskS n ps oa oc od).2)] ++ uL bp bl cc rb rest n ps) := H
    refine umask_at H hT oa oc od fun w7 H => brP_neg (by simp) ?_
    exact tl _ w7 (hT.maskS _ _ _) H
  refine brP_intro (fun c7 => ?_) (fun c7 => ?_)
  · refine ⟨rfl, LdP.atA 0 H0 rfl rfl (ptake_at H0 1 rfl hT.tookS oa fun w6 H => ⟨rfl, LdP.atA 0 H rfl rfl ?_⟩)⟩
    have H : At [] w w6 ([(bb, [.int .i64 ok, .int .i64 oa, .int .i64 ob, .int .i64 oc, .bool od]), (bq, pcs n (takeS n ps oa).2)] ++ uL bp bl cc rb rest n ps) := H
    refine utake_at H hT oa fun w7 H => brP_neg (by simp) ?_
    exact tl _ w7 (hT.takeS _) H
  refine brP_intro (fun c8 => ?_) (fun c8 => ?_)
  · refine ⟨rfl, LdP.atA 0 H0 rfl rfl ⟨rfl, LdP.atA 0 H0 rfl rfl ⟨rfl, LdP.atA 0 H0 rfl rfl ⟨rfl, LdP.atA 0 H0 rfl rfl (pclose_at H0 1 rfl hT oa oc fun w6 H => ⟨f2 H rfl, trivial, f2 H rfl, trivial, ?_⟩)⟩⟩⟩⟩
    have H : At [] w w6 ([(bb, [.int .i64 ok, .int .i64 oa, .int .i64 ob, .int .i64 oc, .bool od]), (bq, pcs n (closeS n ps oa oc).2)] ++ uL bp bl cc rb rest n ps) := H
    refine uclose_at H hT oa oc fun w7 H => brP_neg (by simp) ?_
    exact tl _ w7 (hT.closeS _ _) H
  · refine ⟨rfl, LdP.atA 0 H0 rfl rfl ⟨rfl, LdP.atA 0 H0 rfl rfl (pdrop_at H0 1 rfl hT oa fun w6 H => ⟨f2 H rfl, trivial, ?_⟩)⟩⟩
    have H : At [] w w6 ([(bb, [.int .i64 ok, .int .i64 oa, .int .i64 ob, .int .i64 oc, .bool od]), (bq, pcs n (dropS n ps oa).2)] ++ uL bp bl cc rb rest n ps) := H
    refine udrop_at H hT oa fun w7 H => brP_neg (by simp) ?_
    exact tl _ w7 (dropS_ok hT _) H
end Go.Proofs.Ytcnaaobeooiojaa
