import Derived.Test.YtogndkmclingeaaOF
namespace Go.Proofs.Ytogndkmclingeaa
set_option linter.unusedSimpArgs false
set_option linter.unusedVariables false
open Go.RX
theorem pplain_vc (k o r e : Int) (w : World) (Post : Int × Int × Int × Int × Unit → World → Prop) : (rxFnR E0 (fun _ => []) 25 [.agg ⟨[.int .i64 k, .int .i64 o, .int .i64 r, .int .i64 e]⟩] w Post) = (
 AlP w { toList := [Value.int IntKind.i64 k, Value.int IntKind.i64 o, Value.int IntKind.i64 r, Value.int IntKind.i64 e] } 33 fun (b : Nat) (w2 : World) =>
  AlP w2 { toList := [Value.int IntKind.i64 0, Value.int IntKind.i64 0, Value.int IntKind.i64 0, Value.int IntKind.i64 0] } 52 fun (b_1 : Nat) (w2 : World) =>
   true = true ∧
    LdP w2 none (addP (some { block := b, off := 0 }) 0) (El.one (Sc.int IntKind.i64)) fun (x : Int) =>
     true = true ∧
      LdP w2 none (addP (some { block := b, off := 0 }) 1) (El.one (Sc.int IntKind.i64)) fun (x_1 : Int) =>
       true = true ∧
        LdP w2 none (addP (some { block := b, off := 0 }) 2) (El.one (Sc.int IntKind.i64)) fun (x_2 : Int) =>
         true = true ∧
          LdP w2 none (addP (some { block := b, off := 0 }) 3) (El.one (Sc.int IntKind.i64)) fun (x_3 : Int) =>
           StP w2 (some { block := b_1, off := 0 }) [Value.int IntKind.i64 x, Value.int IntKind.i64 x_1, Value.int IntKind.i64 x_2, Value.int IntKind.i64 x_3] fun (w2 : World) =>
            EnP w2 fun (w1 : World) =>
             LdP w1 none (some { block := b_1, off := 0 }) (El.agg [Sc.int IntKind.i64, Sc.int IntKind.i64, Sc.int IntKind.i64, Sc.int IntKind.i64]) fun (x : Int × Int × Int × Int × Unit) =>
              Post (x.fst, x.snd.fst, x.snd.snd.fst, x.snd.snd.snd.fst, Unit.unit) w1) := by kernel_rfl
theorem pplain_ok (d : DT) (w : World) : CallsR Try.prog 25 (.el eD) [.agg ⟨scsEmb sD d⟩] w (fun v w' => v = d ∧ Ext w w') := by
  obtain ⟨k, o, r, e, u⟩ := d
  refine rxFnR_ok (C := E0) (ann := fun _ => []) (Eq.mpr (pplain_vc k o r e w _) ?_)
  have H := At.start [] w
  repeat' (first
    | exact Go.RX.AtD.all H
    | exact And.intro (by first | rfl | decide +kernel) (Go.RX.AtD.all H)
    | refine And.intro (by first | exact rfl | exact trivial | exact fun _ => rfl | exact fun _ => trivial | exact ⟨rfl, by decide, by decide⟩ | exact ⟨by decide, by decide⟩ | decide +kernel | exact fun _ => by decide | exact fun _ => ⟨rfl, by decide, by decide⟩ | (dsimp only [List.length_cons, List.length_nil]; exact ⟨rfl, by decide, by decide⟩)) ?_
    | refine LdP.atA 0 H rfl rfl ?_
    | refine LdP.atA 1 H rfl rfl ?_
    | refine LdP.at 0 H rfl rfl ?_
    | refine LdP.at 1 H rfl rfl ?_
    | refine AlP.go H fun b w1 H => ?_
    | refine StP.all 0 H rfl rfl rfl fun w1 H => ?_
    | refine StP.all 1 H rfl rfl rfl fun w1 H => ?_
    | refine StP.oneA 0 H rfl rfl rfl fun w1 H => ?_
    | refine StP.oneA 1 H rfl rfl rfl fun w1 H => ?_
    | refine StP.one 0 H rfl rfl rfl fun w1 H => ?_
    | refine StP.one 1 H rfl rfl rfl fun w1 H => ?_
    | with_reducible refine EnP.go H fun w1 H => ?_
    | refine shr_go ?_
    | refine brP_pos (by assumption) ?_
    | refine brP_neg (by assumption) ?_
    | refine brP_intro (fun c => ?_) (fun c => ?_))
def plTail (n : Int) (n_1 : Nat) (sp xr : Option Addr) (si : Int) (b : Nat) (I : Nat → Option Addr × Int × Unit → World → Prop) (Post : Bool → World → Prop) (w2 : World) : Prop :=
 (∃ (I_1 : Nat → Int × Unit → World → Prop),
  (∃ (n : Nat), ∀ (w1 : World), Ext w2 w1 → I_1 n (-1, Unit.unit) w1) ∧
   ∀ (n_2 : Nat) (s_1 : Int × Unit) (w1 : World),
    I_1 n_2 s_1 w1 →
     brP (decide (s_1.fst ≤ n))
      (∃ (x : (Int × Int × Int × Int × Unit) × Bool × Unit),
       QCalls Try.prog 12 [Value.pointer sp, Value.int IntKind.i64 s_1.fst] w1
         (Value.tuple
          {
           toList :=
            [Value.agg { toList := [Value.int IntKind.i64 x.fst.fst, Value.int IntKind.i64 x.fst.snd.fst, Value.int IntKind.i64 x.fst.snd.snd.fst, Value.int IntKind.i64 x.fst.snd.snd.snd.fst] }, Value.bool x.snd.fst] }) ∧
        AlP w1 { toList := [Value.int IntKind.i64 0, Value.int IntKind.i64 0, Value.int IntKind.i64 0, Value.int IntKind.i64 0] } 33 fun (b : Nat) (w2 : World) =>
         StP w2 (some { block := b, off := 0 }) [Value.int IntKind.i64 x.fst.fst, Value.int IntKind.i64 x.fst.snd.fst, Value.int IntKind.i64 x.fst.snd.snd.fst, Value.int IntKind.i64 x.fst.snd.snd.snd.fst] fun (w2 : World) =>
          LdP w2 (some (!!x.snd.fst == (decide (s_1.fst ≥ 0) && decide (s_1.fst < n)) && x.snd.fst)) (some { block := b, off := 0 }) (El.agg [Sc.int IntKind.i64, Sc.int IntKind.i64, Sc.int IntKind.i64, Sc.int IntKind.i64])
           fun (x_6 : Int × Int × Int × Int × Unit) =>
           ∃ (x_7 : Int × Int × Int × Int × Unit),
            ((!!x.snd.fst == (decide (s_1.fst ≥ 0) && decide (s_1.fst < n)) && x.snd.fst) = true →
              QCalls Try.prog 25 [Value.agg { toList := [Value.int IntKind.i64 x_6.fst, Value.int IntKind.i64 x_6.snd.fst, Value.int IntKind.i64 x_6.snd.snd.fst, Value.int IntKind.i64 x_6.snd.snd.snd.fst] }] w2
               (Value.agg { toList := [Value.int IntKind.i64 x_7.fst, Value.int IntKind.i64 x_7.snd.fst, Value.int IntKind.i64 x_7.snd.snd.fst, Value.int IntKind.i64 x_7.snd.snd.snd.fst] })) ∧
             ((!!x.snd.fst == (decide (s_1.fst ≥ 0) && decide (s_1.fst < n)) && x.snd.fst) = true → xr.isSome = true) ∧
              ((!!x.snd.fst == (decide (s_1.fst ≥ 0) && decide (s_1.fst < n)) && x.snd.fst) = true → xr.isSome = true) ∧
               LdP w2 (some (!!x.snd.fst == (decide (s_1.fst ≥ 0) && decide (s_1.fst < n)) && x.snd.fst)) (addP xr 0) (El.one Sc.slice) fun (x_8 : Option Addr × Nat × Nat) =>
                ((!!x.snd.fst == (decide (s_1.fst ≥ 0) && decide (s_1.fst < n)) && x.snd.fst) = true → x_8.fst.isSome = true ∧ 0 ≤ s_1.fst ∧ s_1.fst < (↑x_8.snd.fst : Int)) ∧
                 LdP w2 (some (!!x.snd.fst == (decide (s_1.fst ≥ 0) && decide (s_1.fst < n)) && x.snd.fst)) (addP x_8.fst (Int.toNat s_1.fst * 4))
                  (El.agg [Sc.int IntKind.i64, Sc.int IntKind.i64, Sc.int IntKind.i64, Sc.int IntKind.i64]) fun (x_9 : Int × Int × Int × Int × Unit) =>
                  LdP w2
                   (some
                    (!(!x.snd.fst == (decide (s_1.fst ≥ 0) && decide (s_1.fst < n)) ||
                       x.snd.fst && !(x_7.fst == x_9.fst && (x_7.snd.fst == x_9.snd.fst && (x_7.snd.snd.fst == x_9.snd.snd.fst && (x_7.snd.snd.snd.fst == x_9.snd.snd.snd.fst && true))))) &&
                     !x.snd.fst))
                   (some { block := b, off := 0 }) (El.agg [Sc.int IntKind.i64, Sc.int IntKind.i64, Sc.int IntKind.i64, Sc.int IntKind.i64]) fun (x_10 : Int × Int × Int × Int × Unit) =>
                   brP
                    (!x.snd.fst == (decide (s_1.fst ≥ 0) && decide (s_1.fst < n)) ||
                      x.snd.fst && !(x_7.fst == x_9.fst && (x_7.snd.fst == x_9.snd.fst && (x_7.snd.snd.fst == x_9.snd.snd.fst && (x_7.snd.snd.snd.fst == x_9.snd.snd.snd.fst && true)))) ||
                     !x.snd.fst && !(x_10.fst == 0 && (x_10.snd.fst == 0 && (x_10.snd.snd.fst == 0 && (x_10.snd.snd.snd.fst == 0 && true)))))
                    (EnP w2 fun (w1 : World) => Post false w1) (∀ (w3 : World), Ext w2 w3 → ∃ (n' : Nat), n' < n_2 ∧ I_1 n' (addI IntKind.i64 s_1.fst 1, Unit.unit) w3))
      (true = true ∧
       LdP w1 none (addP (some { block := b, off := 0 }) 2) (El.one (Sc.int IntKind.i64)) fun (x : Int) =>
        ∃ (x_6 : Int),
         QCalls Try.prog 10 [Value.pointer sp, Value.int IntKind.i64 x] w1 (Value.int IntKind.i64 x_6) ∧
          true = true ∧
           LdP w1 none (addP (some { block := b, off := 0 }) 2) (El.one (Sc.int IntKind.i64)) fun (x : Int) =>
            ∃ (x_7 : Int),
             QCalls Try.prog 26 [Value.pointer xr, Value.int IntKind.i64 x] w1 (Value.int IntKind.i64 x_7) ∧
              ((!x_6 != x_7) = true → true = true) ∧
               LdP w1 (some !x_6 != x_7) (addP (some { block := b, off := 0 }) 3) (El.one (Sc.int IntKind.i64)) fun (x : Int) =>
                ((!x_6 != x_7) = true → true = true) ∧
                 LdP w1 (some !x_6 != x_7) (addP (some { block := b, off := 0 }) 3) (El.one (Sc.int IntKind.i64)) fun (x_8 : Int) =>
                  brP (x_6 != x_7)
                   (((!x_6 != x_7) = true → rdAt w1 (addP (some { block := b, off := 0 }) 3) (El.one (Sc.int IntKind.i64)) x_8) ∧
                    True ∧
                     ∃ (x : Int),
                      (false = true → QCalls Try.prog 18 [Value.pointer sp] w1 (Value.int IntKind.i64 x)) ∧
                       (false = true → xr.isSome = true) ∧
                        (false = true → xr.isSome = true) ∧ LdP w1 (some false) (addP xr 0) (El.one Sc.slice) fun (x : Option Addr × Nat × Nat) => EnP w1 fun (w1 : World) => Post false w1)
                   (CaP Try.prog 16 (Sh.el (El.one Sc.slice)) [Value.pointer sp, Value.int IntKind.i64 x] w1 fun (x : Option Addr × Nat × Nat) (w2 : World) =>
                    ((!x_6 != x_7) = true → rdAt w2 (addP (some { block := b, off := 0 }) 3) (El.one (Sc.int IntKind.i64)) x_8) ∧
                     True ∧
                      CaP Try.prog 28 (Sh.el (El.one Sc.slice)) [Value.pointer xr, Value.int IntKind.i64 x_8] w2 fun (x_9 : Option Addr × Nat × Nat) (w2 : World) =>
                       CaP Try.prog 27 (Sh.el (El.one Sc.bool)) [Value.slice x.fst x.snd.fst x.snd.snd, Value.slice x_9.fst x_9.snd.fst x_9.snd.snd] w2 fun (x : Bool) (w2 : World) =>
                        ∃ (x_10 : Int),
                         ((!!x) = true → QCalls Try.prog 18 [Value.pointer sp] w2 (Value.int IntKind.i64 x_10)) ∧
                          ((!!x) = true → xr.isSome = true) ∧
                           ((!!x) = true → xr.isSome = true) ∧
                            LdP w2 (some !!x) (addP xr 0) (El.one Sc.slice) fun (x_11 : Option Addr × Nat × Nat) =>
                             brP (!x || x_10 != (↑x_11.snd.fst : Int)) (EnP w2 fun (w1 : World) => Post false w1)
                              (∀ (w3 : World), Ext w2 w3 → ∃ (n' : Nat), n' < n_1 ∧ I n' (sp, addI IntKind.i64 si 1, Unit.unit) w3))))
theorem of_out {ds : List DT} {f : Int} (h : ofB ds f = false) : ofV ds f = zD := by
  unfold ofB at h
  unfold ofV
  rw [Bool.not_eq_false'] at h
  rw [if_pos (of_decide_eq_true h)]
theorem of_in {ds : List DT} {f : Int} (h : ofB ds f = true) : 0 ≤ f ∧ f < ds.length ∧ ds[f.toNat]? = some (ofV ds f) := by
  unfold ofB at h
  have h' : ¬ (f < 0 ∨ f ≥ ds.length) := by simpa using h
  refine ⟨by omega, by omega, ?_⟩
  unfold ofV
  rw [if_neg h']
  have : f.toNat < ds.length := by omega
  rw [List.getD_eq_getElem?_getD, List.getElem?_eq_getElem this]; rfl
theorem tail_ok {w w2 : World} {n : Int} {n_1 : Nat} {bp bf rp rf b c c' : Nat} {si xk xf xt xo xb : Int} {ds : List DT} {rest rest' : List Value} {I : Nat → Option Addr × Int × Unit → World → Prop} {Post : Bool → World → Prop}
    (H : At [] w w2 [(b, [.int .i64 xk, .int .i64 xf, .int .i64 xt, .int .i64 xo, .int .i64 xb]), (bp, [.slice (some ⟨bf, 0, none⟩) n.toNat c]), (bf, flat eD ds ++ rest), (rp, [.slice (some ⟨rf, 0, none⟩) n.toNat c']), (rf, flat eD ds ++ rest')])
    (hn : 1 ≤ n ∧ n ≤ 300) (hd : ds.length = n.toNat)
    (hI : ∀ w3, At [] w w3 [(b, [.int .i64 xk, .int .i64 xf, .int .i64 xt, .int .i64 xo, .int .i64 xb]), (bp, [.slice (some ⟨bf, 0, none⟩) n.toNat c]), (bf, flat eD ds ++ rest), (rp, [.slice (some ⟨rf, 0, none⟩) n.toNat c']), (rf, flat eD ds ++ rest')] → ∃ n', n' < n_1 ∧ I n' (some ⟨bp, 0, none⟩, addI .i64 si 1, ()) w3) :
    plTail n n_1 (some ⟨bp, 0, none⟩) (some ⟨rp, 0, none⟩) si b I Post w2 := by
  refine ⟨fun q s w' => -1 ≤ s.1 ∧ s.1 ≤ n + 1 ∧ q + s.1 = n + 1 ∧ At [] w w' [(b, [.int .i64 xk, .int .i64 xf, .int .i64 xt, .int .i64 xo, .int .i64 xb]), (bp, [.slice (some ⟨bf, 0, none⟩) n.toNat c]), (bf, flat eD ds ++ rest), (rp, [.slice (some ⟨rf, 0, none⟩) n.toNat c']), (rf, flat eD ds ++ rest')], ⟨(n + 2).toNat, fun w3 h3 => ⟨by decide, by omega, by omega, H.ext h3⟩⟩, ?_⟩
  clear H
  rintro q ⟨k, u⟩ w3 ⟨h1, h2, h3, H⟩
  simp only at h1 h2 h3
  dsimp only
  refine brP_intro (fun c1 => ?_) (fun c1 => ?_)
  · have hk : k ≤ n := by simpa using c1
    have e1 : (decide (k ≥ 0) && decide (k < n)) = ofB ds k := by
      unfold ofB
      rw [hd]
      rw [Bool.eq_iff_iff]
      simp only [Bool.and_eq_true, decide_eq_true_eq, Bool.not_eq_true', decide_eq_false_iff_not]
      omega
    refine ⟨(ofV ds k, ofB ds k, ()), of_q H 1 2 rfl rfl hd.symm k, AlP.go H fun b2 w4 H => StP.all 0 H rfl rfl rfl fun w5 H => ?_⟩
    dsimp only
    rw [e1]
    cases hb : ofB ds k with
    | true =>
      obtain ⟨hi1, hi2, hi3⟩ := of_in hb
      refine LdP.at 0 H rfl rfl ⟨ofV ds k, fun _ => QCalls.of (s := .el eD) fun w' h' => pplain_ok (ofV ds k) w', fun _ => rfl, fun _ => rfl, LdP.atA 4 H rfl rfl ⟨fun _ => ⟨rfl, hi1, by show k < ((n.toNat : Nat) : Int); omega⟩, LdP.of (ofV ds k) ?_ ?_⟩⟩
      · exact rd_flat (H.get (i := 5) rfl) hi3
      · refine LdP.at 0 H rfl rfl (brP_neg (by simp) fun w6 h6 => ⟨q - 1, by omega, ?_⟩)
        have H := H.sub (List.sublist_cons_self _ _)
        refine ⟨?_, ?_, ?_, H.ext h6⟩ <;> (rw [addI_i64 (by omega) (by omega)]; omega)
    | false =>
      have hz := of_out hb
      rw [hz] at H
      refine LdP.at 0 H rfl rfl ⟨zD, fun c => by simp at c, fun c => by simp at c, fun c => by simp at c, LdP.atA 4 H rfl rfl ⟨fun c => by simp at c, ⟨zD, fun c => by simp at c, ?_⟩⟩⟩
      refine LdP.at 0 H rfl rfl (brP_neg (by rfl) fun w6 h6 => ⟨q - 1, by omega, ?_⟩)
      have H := H.sub (List.sublist_cons_self _ _)
      refine ⟨?_, ?_, ?_, H.ext h6⟩ <;> (rw [addI_i64 (by omega) (by omega)]; omega)
  · refine ⟨rfl, LdP.atA 0 H rfl rfl ⟨_, count_q H 1 2 rfl rfl hd.symm (by omega) xt, rfl, LdP.atA 0 H rfl rfl ⟨_, rcount_q H 3 4 rfl rfl hd.symm (by omega) xt, fun _ => rfl, LdP.atA 0 H rfl rfl ⟨fun _ => rfl, LdP.atA 0 H rfl rfl (brP_neg (by simp) ?_)⟩⟩⟩⟩
    refine owned_at H 1 2 rfl rfl hd.symm (by omega) xo fun r rows w4 H hr => ⟨fun _ => ?_, trivial, ?_⟩
    · rw [addP_B]; exact elAt_rd (H.get (i := 0) rfl) rfl
    refine rowned_at H 3 4 rfl rfl hd.symm (by omega) xo fun r2 rows2 w5 H hr2 => ?_
    have hl := own_len ds xo
    refine CaP.val H (s := .el (.one .bool)) true (fun w8 H => (ints_ok (hr.sl H (fun x hx => List.mem_append_left _ (List.mem_append_right _ hx))) hr.1 (hr2.sl H (fun x hx => List.mem_append_right _ hx)) hr2.1 (by rw [hr.1]; simp only [List.length_map]; omega)).mono fun b w' h => ⟨h.1.trans (by simp), h.2⟩) fun w8 H => ?_
    refine ⟨_, fun _ => len_q H 1 rfl, fun _ => rfl, fun _ => rfl, LdP.atA 3 H rfl rfl (brP_neg (by simp) fun w9 h9 => ?_)⟩
    exact hI w9 ((H.sub (by rw [List.append_assoc]; exact List.sublist_append_left _ _)).ext h9)
end Go.Proofs.Ytogndkmclingeaa
