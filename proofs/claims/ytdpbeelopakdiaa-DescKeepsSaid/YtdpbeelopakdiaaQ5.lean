import Derived.Test.YtdpbeelopakdiaaQ4
namespace Go.Proofs.Ytdpbeelopakdiaa
set_option linter.unusedSimpArgs false
set_option linter.unusedVariables false
open Go.RX
theorem drpack_ok (k o r e : Int) (w : World) : CallsR Try.prog 9 (.tup [.one (.int .u64), .one (.int .i64)]) [.agg ⟨[.int .i64 k, .int .i64 o, .int .i64 r, .int .i64 e]⟩] w (fun v w' => v = (packW k o r e, packE k o r e, ()) ∧ Ext w w') := by
  refine rxFn_ok (C := D2) (ann := fun _ => []) (Eq.mpr (drpack_vc k o r e w _) ?_)
  have H := At.start [] w
  repeat' (first
    | exact Go.RX.At.all H
    | exact And.intro (by first | rfl | decide +kernel) (Go.RX.At.all H)
    | refine And.intro (by first | exact rfl | exact trivial | exact fun _ => rfl | exact fun _ => trivial | exact ⟨rfl, by decide, by decide⟩ | exact ⟨by decide, by decide⟩ | decide +kernel | exact fun _ => ⟨rfl, by decide, by decide⟩ | (dsimp only [List.length_cons, List.length_nil]; exact ⟨rfl, by decide, by decide⟩)) ?_
    | refine LdP.atA 0 H rfl rfl ?_
    | refine LdP.at 0 H rfl rfl ?_
    | refine AlP.go H fun b w1 H => ?_
    | refine StP.all 0 H rfl rfl rfl fun w1 H => ?_
    | refine StP.oneA 0 H rfl rfl rfl fun w1 H => ?_
    | refine StP.one 0 H rfl rfl rfl fun w1 H => ?_
    | with_reducible refine EnP.go H fun w1 H => ?_
    | refine shr_go ?_
    | refine brP_pos (by assumption) ?_
    | refine brP_neg (by assumption) ?_
    | refine brP_intro (fun c => ?_) (fun c => ?_))
  all_goals
    refine And.intro ?_ H.all
    simp only [Bool.or_eq_true, Bool.or_eq_false_iff, Bool.and_eq_true, Bool.and_eq_false_iff, beq_iff_eq, beq_eq_false_iff_ne, bne_iff_ne, bne_eq_false_iff_eq, decide_eq_true_eq, decide_eq_false_iff_not, Bool.false_eq_true, Bool.true_eq_false, Bool.not_eq_true', Bool.not_eq_false', and_true, true_and, and_false, false_and, or_true, true_or, or_false, false_or, ne_eq, not_true_eq_false, not_false_eq_true, false_iff, iff_false, true_iff, iff_true] at *
  · simp [packW, packE, *]
  · have hr : rightD k o r e = true := by assumption
    have hp : rightP k o r e := of_decide_eq_true hr
    unfold rightP at hp
    unfold packW packE
    rw [if_pos hr, if_pos hr]
    simp only [addI, mulI, convI, wrap_u64, Prod.mk.injEq, and_true]
    omega
/-! ### A word's descriptor -/
def fK (N : Nat) : Int := ((N % 16 : Nat) : Int)
def fO (N : Nat) : Int := ((N / 16 % 256 : Nat) : Int)
def fR (N : Nat) : Int := ((N / 4096 % 65536 : Nat) : Int)
def fS (N : Nat) : Int := ((N / 268435456 % 16 : Nat) : Int)
def fE (N : Nat) : Int := ((N / 4294967296 % 4294967296 : Nat) : Int)
def parD (N : Nat) : Bool := decide (fS N = 0) && rightD (fK N) (fO N) (fR N) (fE N)
def parV (N : Nat) : Int × Int × Int × Int × Unit := if parD N = true then (fK N, fO N, fR N, fE N, ()) else (0, 0, 0, 0, ())
theorem split_word5 (v : BitVec 64) : (splitB v 0 [4, 8, 16, 4, 32]).getD [] = [getB v 0 4, getB v 4 8, getB v 12 16, getB v 28 4, getB v 32 32] := by
  simp only [splitB]
  rw [if_pos (by decide), if_pos (by decide), if_pos (by decide), if_pos (by decide), if_pos (by decide)]
  rfl
theorem getK (v : BitVec 64) : U (getB v 0 4) = fK v.toNat := by rw [U_eq (get_num 1 16 (by decide) rfl rfl), Nat.div_one]; rfl
theorem getO (v : BitVec 64) : U (getB v 4 8) = fO v.toNat := U_eq (get_num 16 256 (by decide) rfl rfl)
theorem getR (v : BitVec 64) : U (getB v 12 16) = fR v.toNat := U_eq (get_num 4096 65536 (by decide) rfl (by decide))
theorem getS (v : BitVec 64) : U (getB v 28 4) = fS v.toNat := U_eq (get_num 268435456 16 (by decide) (by decide) rfl)
theorem getE (v : BitVec 64) : U (getB v 32 32) = fE v.toNat := U_eq (get_num 4294967296 4294967296 (by decide) (by decide) (by decide))
theorem cI64 {x : Int} (h : 0 ≤ x) (h' : x < 4294967296) : convI .i64 x = x := wrap_i64_id (by omega) (by omega)
theorem cK (N : Nat) : convI .i64 (fK N) = fK N := cI64 (by unfold fK; omega) (by unfold fK; omega)
theorem cO (N : Nat) : convI .i64 (fO N) = fO N := cI64 (by unfold fO; omega) (by unfold fO; omega)
theorem cR (N : Nat) : convI .i64 (fR N) = fR N := cI64 (by unfold fR; omega) (by unfold fR; omega)
theorem cE (N : Nat) : convI .i64 (fE N) = fE N := cI64 (by unfold fE; omega) (by unfold fE; omega)
theorem split5 {w : World} {b c : Nat} {rest : List Value} (v : BitVec 64) (h : Blk w b (flat eI [4, 8, 16, 4, 32] ++ rest)) : CallsR Try.prog 24 (.el (.one .slice)) [.int .u64 (U v), .slice (some ⟨b, 0, none⟩) 5 c] w
    (fun r w' => Own w w' eU r [fK v.toNat, fO v.toNat, fR v.toNat, fS v.toNat, fE v.toNat] ∧ Ext w w') := by
  refine (split_ok (v := v) (p := some ⟨b, 0, none⟩) (n := 5) (c := c) (xs := [4, 8, 16, 4, 32]) (Sl.of_blk h rfl) rfl (by decide)).mono fun r w' ⟨ho, hx⟩ => ⟨?_, hx⟩
  rw [split_word5] at ho
  have e : embU [getB v 0 4, getB v 4 8, getB v 12 16, getB v 28 4, getB v 32 32] = [fK v.toNat, fO v.toNat, fR v.toNat, fS v.toNat, fE v.toNat] := by
    show [U (getB v 0 4), U (getB v 4 8), U (getB v 12 16), U (getB v 28 4), U (getB v 32 32)] = _
    rw [getK, getO, getR, getS, getE]
  rw [e] at ho
  exact ho
theorem dparse_ok (v : BitVec 64) (w : World) : CallsR Try.prog 11 (.tup [.agg [.int .i64, .int .i64, .int .i64, .int .i64], .one .bool]) [.int .u64 (U v)] w (fun x w' => x = (parV v.toNat, parD v.toNat, ()) ∧ Ext w w') := by
  refine rxFnR_ok (C := D2) (ann := fun _ => []) (Eq.mpr (dparse_vc (U v) w _) ?_)
  have H := At.start [] w
  repeat' (first
    | exact Go.RX.At.all H
    | exact And.intro (by first | rfl | decide +kernel) (Go.RX.At.all H)
    | refine And.intro (by first | exact rfl | exact trivial | exact fun _ => rfl | exact fun _ => trivial | exact ⟨rfl, by decide, by decide⟩ | exact ⟨by decide, by decide⟩ | decide +kernel | exact fun _ => ⟨rfl, by decide, by decide⟩ | (dsimp only [List.length_cons, List.length_nil]; exact ⟨rfl, by decide, by decide⟩)) ?_
    | refine LdP.atA 0 H rfl rfl ?_
    | refine LdP.at 0 H rfl rfl ?_
    | refine AlP.go H fun b w1 H => ?_
    | refine StP.all 0 H rfl rfl rfl fun w1 H => ?_
    | refine StP.oneA 0 H rfl rfl rfl fun w1 H => ?_
    | refine StP.one 0 H rfl rfl rfl fun w1 H => ?_
    | with_reducible refine EnP.go H fun w1 H => ?_
    | refine shr_go ?_
    | refine brP_pos (by assumption) ?_
    | refine brP_neg (by assumption) ?_
    | refine brP_intro (fun c => ?_) (fun c => ?_))
  refine CaP.row (e := eI) (xs := [4, 8, 16, 4, 32]) H (by simp) (fun w' _ => sizes_ok w') fun b c rest w3 H => ?_
  refine CaP.row (e := eU) (xs := [fK v.toNat, fO v.toNat, fR v.toNat, fS v.toNat, fE v.toNat]) H (by simp) (fun w' H => split5 v (H.get (i := 0) rfl)) fun b c rest w3 H => ?_
  repeat' (first
    | exact Go.RX.At.all H
    | exact And.intro (by first | rfl | decide +kernel) (Go.RX.At.all H)
    | refine And.intro (by first | exact rfl | exact trivial | exact fun _ => rfl | exact fun _ => trivial | exact ⟨rfl, by decide, by decide⟩ | exact ⟨by decide, by decide⟩ | decide +kernel | exact fun _ => ⟨rfl, by decide, by decide⟩ | (dsimp only [List.length_cons, List.length_nil]; exact ⟨rfl, by decide, by decide⟩)) ?_
    | refine LdP.atA 0 H rfl rfl ?_
    | refine LdP.atA 1 H rfl rfl ?_
    | refine LdP.atA 2 H rfl rfl ?_
    | refine LdP.atA 3 H rfl rfl ?_
    | refine LdP.atA 4 H rfl rfl ?_
    | refine LdP.at 0 H rfl rfl ?_
    | refine LdP.at 1 H rfl rfl ?_
    | refine LdP.at 2 H rfl rfl ?_
    | refine LdP.at 3 H rfl rfl ?_
    | refine LdP.at 4 H rfl rfl ?_
    | refine AlP.go H fun b w1 H => ?_
    | refine StP.all 0 H rfl rfl rfl fun w1 H => ?_
    | refine StP.all 1 H rfl rfl rfl fun w1 H => ?_
    | refine StP.all 2 H rfl rfl rfl fun w1 H => ?_
    | refine StP.all 3 H rfl rfl rfl fun w1 H => ?_
    | refine StP.all 4 H rfl rfl rfl fun w1 H => ?_
    | refine StP.oneA 0 H rfl rfl rfl fun w1 H => ?_
    | refine StP.oneA 1 H rfl rfl rfl fun w1 H => ?_
    | refine StP.oneA 2 H rfl rfl rfl fun w1 H => ?_
    | refine StP.oneA 3 H rfl rfl rfl fun w1 H => ?_
    | refine StP.oneA 4 H rfl rfl rfl fun w1 H => ?_
    | refine StP.one 0 H rfl rfl rfl fun w1 H => ?_
    | refine StP.one 1 H rfl rfl rfl fun w1 H => ?_
    | refine StP.one 2 H rfl rfl rfl fun w1 H => ?_
    | refine StP.one 3 H rfl rfl rfl fun w1 H => ?_
    | refine StP.one 4 H rfl rfl rfl fun w1 H => ?_
    | with_reducible refine EnP.go H fun w1 H => ?_
    | refine shr_go ?_
    | refine brP_pos (by assumption) ?_
    | refine brP_neg (by assumption) ?_
    | refine brP_intro (fun c => ?_) (fun c => ?_))
  all_goals
    refine And.intro ?_ H.all
    simp only [Bool.or_eq_true, Bool.or_eq_false_iff, Bool.and_eq_true, Bool.and_eq_false_iff, beq_iff_eq, beq_eq_false_iff_ne, bne_iff_ne, bne_eq_false_iff_eq, decide_eq_true_eq, decide_eq_false_iff_not, Bool.false_eq_true, Bool.true_eq_false, Bool.not_eq_true', Bool.not_eq_false', and_true, true_and, and_false, false_and, or_true, true_or, or_false, false_or, ne_eq, not_true_eq_false, not_false_eq_true, false_iff, iff_false, true_iff, iff_true, cK, cO, cR, cE] at *
  · have : parD v.toNat = false := by
      unfold parD
      rw [Bool.and_eq_false_iff, decide_eq_false_iff_not]
      rcases c with c | c
      · exact .inl (by omega)
      · exact .inr c
    unfold parV
    rw [this, if_neg (by decide)]
  · have : parD v.toNat = true := by
      unfold parD
      rw [Bool.and_eq_true, decide_eq_true_eq]
      exact ⟨by have h0 : 0 ≤ fS v.toNat := by (unfold fS; omega)
                omega, c.2⟩
    unfold parV
    rw [this, if_pos rfl]
theorem drparse_vc (v : Int) (w : World) (Post : (Int × Int × Int × Int × Unit) × Bool × Unit → World → Prop) : (rxFnR D2 (fun _ => []) 12 [.int .u64 v] w Post) = (
 AlP w { toList := [Value.int IntKind.i64 0, Value.int IntKind.i64 0, Value.int IntKind.i64 0, Value.int IntKind.i64 0] } 29 fun (b : Nat) (w2 : World) =>
  U (B v) = v ∧
   ∀ (x : Int),
    x = U (getB (B v) 0 4) →
     ∀ (x_1 : Int),
      x_1 = convI IntKind.i64 x →
       U (B v) = v ∧
        ∀ (x : Int),
         x = U (getB (B v) 4 8) →
          ∀ (x_2 : Int),
           x_2 = convI IntKind.i64 x →
            U (B v) = v ∧
             ∀ (x : Int),
              x = U (getB (B v) 12 16) →
               ∀ (x_3 : Int),
                x_3 = convI IntKind.i64 x →
                 U (B v) = v ∧
                  ∀ (x : Int),
                   x = U (getB (B v) 32 32) →
                    ∀ (x_4 : Int),
                     x_4 = convI IntKind.i64 x →
                      AlP w2 { toList := [Value.int IntKind.i64 0, Value.int IntKind.i64 0, Value.int IntKind.i64 0, Value.int IntKind.i64 0] } 29 fun (b_1 : Nat) (w2 : World) =>
                       StP w2 (some { block := b_1, off := 0 }) [Value.int IntKind.i64 x_1, Value.int IntKind.i64 x_2, Value.int IntKind.i64 x_3, Value.int IntKind.i64 x_4] fun (w2 : World) =>
                        LdP w2 none (some { block := b_1, off := 0 }) (El.agg [Sc.int IntKind.i64, Sc.int IntKind.i64, Sc.int IntKind.i64, Sc.int IntKind.i64]) fun (x : Int × Int × Int × Int × Unit) =>
                         CaP Try.prog 9 (Sh.tup [El.one (Sc.int IntKind.u64), El.one (Sc.int IntKind.i64)])
                          [Value.agg { toList := [Value.int IntKind.i64 x.fst, Value.int IntKind.i64 x.snd.fst, Value.int IntKind.i64 x.snd.snd.fst, Value.int IntKind.i64 x.snd.snd.snd.fst] }] w2 fun (x : Int × Int × Unit) (w2 : World) =>
                          brP (x.snd.fst != 0 || x.fst != v)
                           (StP w2 (some { block := b, off := 0 }) [Value.int IntKind.i64 0, Value.int IntKind.i64 0, Value.int IntKind.i64 0, Value.int IntKind.i64 0] fun (w2 : World) =>
                            EnP w2 fun (w1 : World) =>
                             LdP w1 none (some { block := b, off := 0 }) (El.agg [Sc.int IntKind.i64, Sc.int IntKind.i64, Sc.int IntKind.i64, Sc.int IntKind.i64]) fun (x : Int × Int × Int × Int × Unit) =>
                              Post ((x.fst, x.snd.fst, x.snd.snd.fst, x.snd.snd.snd.fst, Unit.unit), false, Unit.unit) w1)
                           (LdP w2 none (some { block := b_1, off := 0 }) (El.agg [Sc.int IntKind.i64, Sc.int IntKind.i64, Sc.int IntKind.i64, Sc.int IntKind.i64]) fun (x : Int × Int × Int × Int × Unit) =>
                            StP w2 (some { block := b, off := 0 }) [Value.int IntKind.i64 x.fst, Value.int IntKind.i64 x.snd.fst, Value.int IntKind.i64 x.snd.snd.fst, Value.int IntKind.i64 x.snd.snd.snd.fst] fun (w2 : World) =>
                             EnP w2 fun (w1 : World) =>
                              LdP w1 none (some { block := b, off := 0 }) (El.agg [Sc.int IntKind.i64, Sc.int IntKind.i64, Sc.int IntKind.i64, Sc.int IntKind.i64]) fun (x : Int × Int × Int × Int × Unit) =>
                               Post ((x.fst, x.snd.fst, x.snd.snd.fst, x.snd.snd.snd.fst, Unit.unit), true, Unit.unit) w1)) := by kernel_rfl
theorem drparse_ok (v : BitVec 64) (w : World) : CallsR Try.prog 12 (.tup [.agg [.int .i64, .int .i64, .int .i64, .int .i64], .one .bool]) [.int .u64 (U v)] w (fun x w' => x = (parV v.toNat, parD v.toNat, ()) ∧ Ext w w') := by
  refine rxFnR_ok (C := D2) (ann := fun _ => []) (Eq.mpr (drparse_vc (U v) w _) ?_)
  have H := At.start [] w
  simp only [B_U, getK, getO, getR, getE]
  repeat' (first
    | exact Go.RX.At.all H
    | exact And.intro (by first | rfl | decide +kernel) (Go.RX.At.all H)
    | refine And.intro (by first | exact rfl | exact trivial | exact fun _ => rfl | exact fun _ => trivial | exact ⟨rfl, by decide, by decide⟩ | exact ⟨by decide, by decide⟩ | decide +kernel | exact fun _ => ⟨rfl, by decide, by decide⟩ | (dsimp only [List.length_cons, List.length_nil]; exact ⟨rfl, by decide, by decide⟩)) ?_
    | refine LdP.atA 0 H rfl rfl ?_
    | refine LdP.atA 1 H rfl rfl ?_
    | refine LdP.at 0 H rfl rfl ?_
    | refine LdP.at 1 H rfl rfl ?_
    | refine AlP.go H fun b w1 H => ?_
    | refine StP.all 0 H rfl rfl rfl fun w1 H => ?_
    | refine StP.all 1 H rfl rfl rfl fun w1 H => ?_
    | refine StP.oneA 0 H rfl rfl rfl fun w1 H => ?_
    | refine StP.oneA 1 H rfl rfl rfl fun w1 H => ?_
    | refine StP.one 0 H rfl rfl rfl fun w1 H => ?_
    | refine StP.one 1 H rfl rfl rfl fun w1 H => ?_
    | with_reducible refine EnP.go H fun w1 H => ?_
    | refine shr_go ?_
    | refine brP_pos (by assumption) ?_
    | refine brP_neg (by assumption) ?_
    | refine brP_intro (fun c => ?_) (fun c => ?_))
  simp only [cK, cO, cR, cE]
  refine CaP.quiet H (fun w' => drpack_ok _ _ _ _ w') fun x w1 hx H => ?_
  subst hx
  have hN : (U v : Int) = (v.toNat : Nat) := rfl
  have hlt := v.isLt
  have key : (packW (fK v.toNat) (fO v.toNat) (fR v.toNat) (fE v.toNat) = U v ∧ rightD (fK v.toNat) (fO v.toNat) (fR v.toNat) (fE v.toNat) = true) ↔ parD v.toNat = true := by
    unfold parD packW
    rw [Bool.and_eq_true, decide_eq_true_eq, hN]
    constructor
    · rintro ⟨h1, h2⟩
      rw [if_pos h2] at h1
      refine ⟨?_, h2⟩
      unfold fK fO fR fE at h1
      unfold fS
      omega
    · rintro ⟨h1, h2⟩
      rw [if_pos h2]
      refine ⟨?_, h2⟩
      unfold fS at h1
      unfold fK fO fR fE
      omega
  repeat' (first
    | exact Go.RX.At.all H
    | exact And.intro (by first | rfl | decide +kernel) (Go.RX.At.all H)
    | refine And.intro (by first | exact rfl | exact trivial | exact fun _ => rfl | exact fun _ => trivial | exact ⟨rfl, by decide, by decide⟩ | exact ⟨by decide, by decide⟩ | decide +kernel | exact fun _ => ⟨rfl, by decide, by decide⟩ | (dsimp only [List.length_cons, List.length_nil]; exact ⟨rfl, by decide, by decide⟩)) ?_
    | refine LdP.atA 0 H rfl rfl ?_
    | refine LdP.atA 1 H rfl rfl ?_
    | refine LdP.at 0 H rfl rfl ?_
    | refine LdP.at 1 H rfl rfl ?_
    | refine AlP.go H fun b w1 H => ?_
    | refine StP.all 0 H rfl rfl rfl fun w1 H => ?_
    | refine StP.all 1 H rfl rfl rfl fun w1 H => ?_
    | refine StP.oneA 0 H rfl rfl rfl fun w1 H => ?_
    | refine StP.oneA 1 H rfl rfl rfl fun w1 H => ?_
    | refine StP.one 0 H rfl rfl rfl fun w1 H => ?_
    | refine StP.one 1 H rfl rfl rfl fun w1 H => ?_
    | with_reducible refine EnP.go H fun w1 H => ?_
    | refine shr_go ?_
    | refine brP_pos (by assumption) ?_
    | refine brP_neg (by assumption) ?_
    | refine brP_intro (fun c => ?_) (fun c => ?_))
  all_goals
    refine And.intro ?_ H.all
    simp only [Bool.or_eq_true, Bool.or_eq_false_iff, Bool.and_eq_true, Bool.and_eq_false_iff, beq_iff_eq, beq_eq_false_iff_ne, bne_iff_ne, bne_eq_false_iff_eq, decide_eq_true_eq, decide_eq_false_iff_not, Bool.false_eq_true, Bool.true_eq_false, Bool.not_eq_true', Bool.not_eq_false', and_true, true_and, and_false, false_and, or_true, true_or, or_false, false_or, ne_eq, not_true_eq_false, not_false_eq_true, false_iff, iff_false, true_iff, iff_true, cK, cO, cR, cE] at *
  · have : parD v.toNat = false := by
      rw [Bool.eq_false_iff]
      intro hd
      obtain ⟨h1, h2⟩ := key.2 hd
      rcases c with c | c
      · exact c (by unfold packE; rw [if_pos h2])
      · exact c h1
    unfold parV
    rw [this, if_neg (by decide)]
  · have : parD v.toNat = true := by
      refine key.1 ⟨c.2, ?_⟩
      have h1 := c.1
      unfold packE at h1
      split at h1
      · assumption
      · omega
    unfold parV
    rw [this, if_pos rfl]
/-! ### Names -/
def nameS (a : Int) : ByteArray := if a = 0 then ⟨#[102, 114, 101, 101]⟩ else if a = 1 then ⟨#[99, 97, 99, 104, 101, 100]⟩ else if a = 2 then ⟨#[109, 111, 110, 105, 116, 111, 114]⟩ else if a = 3 then ⟨#[116, 97, 98, 108, 101]⟩ else if a = 4 then ⟨#[103, 117, 101, 115, 116]⟩ else if a = 5 then ⟨#[114, 101, 116, 105, 114, 101, 100]⟩ else ⟨#[]⟩
theorem name_vc (a : Int) (w : World) (Post : ByteArray → World → Prop) : (rxFn D2 (fun _ => []) 15 [.int .i64 a] w Post) = (
 AlP w
  {
   toList :=
    [Value.string { data := { toList := [] } }, Value.string { data := { toList := [] } }, Value.string { data := { toList := [] } }, Value.string { data := { toList := [] } }, Value.string { data := { toList := [] } },
     Value.string { data := { toList := [] } }] }
  61 fun (b : Nat) (w2 : World) =>
  StP w2 (some { block := b, off := 0 })
   [Value.string { data := { toList := [102, 114, 101, 101] } }, Value.string { data := { toList := [99, 97, 99, 104, 101, 100] } }, Value.string { data := { toList := [109, 111, 110, 105, 116, 111, 114] } },
    Value.string { data := { toList := [116, 97, 98, 108, 101] } }, Value.string { data := { toList := [103, 117, 101, 115, 116] } }, Value.string { data := { toList := [114, 101, 116, 105, 114, 101, 100] } }]
   fun (w2 : World) =>
   brP (decide (a < 0) || decide (a ≥ 6)) (EnP w2 fun (w1 : World) => Post { data := { toList := [] } } w1)
    ((true = true ∧ 0 ≤ a ∧ a < (↑6 : Int)) ∧ LdP w2 none (addP (some { block := b, off := 0 }) (a.toNat * 1)) (El.one Sc.str) fun (x : ByteArray) => EnP w2 fun (w1 : World) => Post x w1)) := by kernel_rfl
theorem rname_vc (a : Int) (w : World) (Post : ByteArray → World → Prop) : (rxFn D2 (fun _ => []) 16 [.int .i64 a] w Post) = (
 True ∧
  brP (!(decide (a ≥ 0) && decide (a ≤ 5))) (EnP w fun (w1 : World) => Post { data := { toList := [] } } w1)
   (AlP w
    {
     toList :=
      [Value.string { data := { toList := [102, 114, 101, 101] } }, Value.string { data := { toList := [99, 97, 99, 104, 101, 100] } }, Value.string { data := { toList := [109, 111, 110, 105, 116, 111, 114] } },
       Value.string { data := { toList := [116, 97, 98, 108, 101] } }, Value.string { data := { toList := [103, 117, 101, 115, 116] } }, Value.string { data := { toList := [114, 101, 116, 105, 114, 101, 100] } }] }
    9 fun (b : Nat) (w2 : World) => (true = true ∧ 0 ≤ a ∧ a < (↑6 : Int)) ∧ LdP w2 none (addP (some { block := b, off := 0 }) (a.toNat * 1)) (El.one Sc.str) fun (x : ByteArray) => EnP w2 fun (w1 : World) => Post x w1)) := by kernel_rfl
theorem name_ok (a : Int) (w : World) : CallsR Try.prog 15 (.el (.one .str)) [.int .i64 a] w (fun x w' => x = nameS a ∧ Ext w w') := by
  refine rxFn_ok (C := D2) (ann := fun _ => []) (Eq.mpr (name_vc a w _) ?_)
  have H := At.start [] w
  repeat' (first
    | exact Go.RX.At.all H
    | exact And.intro (by first | rfl | decide +kernel) (Go.RX.At.all H)
    | refine And.intro (by first | exact rfl | exact trivial | exact fun _ => rfl | exact fun _ => trivial | exact ⟨rfl, by decide, by decide⟩ | exact ⟨by decide, by decide⟩ | decide +kernel | exact fun _ => ⟨rfl, by decide, by decide⟩ | (dsimp only [List.length_cons, List.length_nil]; exact ⟨rfl, by decide, by decide⟩)) ?_
    | refine LdP.atA 0 H rfl rfl ?_
    | refine LdP.at 0 H rfl rfl ?_
    | refine AlP.go H fun b w1 H => ?_
    | refine StP.all 0 H rfl rfl rfl fun w1 H => ?_
    | refine StP.oneA 0 H rfl rfl rfl fun w1 H => ?_
    | refine StP.one 0 H rfl rfl rfl fun w1 H => ?_
    | with_reducible refine EnP.go H fun w1 H => ?_
    | refine shr_go ?_
    | refine brP_pos (by assumption) ?_
    | refine brP_neg (by assumption) ?_
    | refine brP_intro (fun c => ?_) (fun c => ?_))
  · refine And.intro ?_ H.all
    simp only [Bool.or_eq_true, Bool.or_eq_false_iff, Bool.and_eq_true, Bool.and_eq_false_iff, beq_iff_eq, beq_eq_false_iff_ne, bne_iff_ne, bne_eq_false_iff_eq, decide_eq_true_eq, decide_eq_false_iff_not, Bool.false_eq_true, Bool.true_eq_false, Bool.not_eq_true', Bool.not_eq_false', and_true, true_and, and_false, false_and, or_true, true_or, or_false, false_or, ne_eq, not_true_eq_false, not_false_eq_true, false_iff, iff_false, true_iff, iff_true] at *
    unfold nameS
    rw [if_neg (by omega), if_neg (by omega), if_neg (by omega), if_neg (by omega), if_neg (by omega), if_neg (by omega)]
  · simp only [Bool.or_eq_true, Bool.or_eq_false_iff, Bool.and_eq_true, Bool.and_eq_false_iff, beq_iff_eq, beq_eq_false_iff_ne, bne_iff_ne, bne_eq_false_iff_eq, decide_eq_true_eq, decide_eq_false_iff_not, Bool.false_eq_true, Bool.true_eq_false, Bool.not_eq_true', Bool.not_eq_false', and_true, true_and, and_false, false_and, or_true, true_or, or_false, false_or, ne_eq, not_true_eq_false, not_false_eq_true, false_iff, iff_false, true_iff, iff_true] at *
    have h : a = 0 ∨ a = 1 ∨ a = 2 ∨ a = 3 ∨ a = 4 ∨ a = 5 := by omega
    rcases h with rfl | rfl | rfl | rfl | rfl | rfl
    all_goals
      repeat' (first
        | exact Go.RX.At.all H
        | exact And.intro (by first | rfl | decide +kernel) (Go.RX.At.all H)
        | refine And.intro (by first | exact rfl | exact trivial | exact fun _ => rfl | exact fun _ => trivial | exact ⟨rfl, by decide, by decide⟩ | exact ⟨by decide, by decide⟩ | decide +kernel | exact fun _ => ⟨rfl, by decide, by decide⟩ | (dsimp only [List.length_cons, List.length_nil]; exact ⟨rfl, by decide, by decide⟩)) ?_
        | refine LdP.atA 0 H rfl rfl ?_
        | refine LdP.at 0 H rfl rfl ?_
        | refine AlP.go H fun b w1 H => ?_
        | refine StP.all 0 H rfl rfl rfl fun w1 H => ?_
        | refine StP.oneA 0 H rfl rfl rfl fun w1 H => ?_
        | refine StP.one 0 H rfl rfl rfl fun w1 H => ?_
        | with_reducible refine EnP.go H fun w1 H => ?_
        | refine shr_go ?_
        | refine brP_pos (by assumption) ?_
        | refine brP_neg (by assumption) ?_
        | refine brP_intro (fun c => ?_) (fun c => ?_))
theorem rname_ok (a : Int) (w : World) : CallsR Try.prog 16 (.el (.one .str)) [.int .i64 a] w (fun x w' => x = nameS a ∧ Ext w w') := by
  refine rxFn_ok (C := D2) (ann := fun _ => []) (Eq.mpr (rname_vc a w _) ?_)
  have H := At.start [] w
  repeat' (first
    | exact Go.RX.At.all H
    | exact And.intro (by first | rfl | decide +kernel) (Go.RX.At.all H)
    | refine And.intro (by first | exact rfl | exact trivial | exact fun _ => rfl | exact fun _ => trivial | exact ⟨rfl, by decide, by decide⟩ | exact ⟨by decide, by decide⟩ | decide +kernel | exact fun _ => ⟨rfl, by decide, by decide⟩ | (dsimp only [List.length_cons, List.length_nil]; exact ⟨rfl, by decide, by decide⟩)) ?_
    | refine LdP.atA 0 H rfl rfl ?_
    | refine LdP.at 0 H rfl rfl ?_
    | refine AlP.go H fun b w1 H => ?_
    | refine StP.all 0 H rfl rfl rfl fun w1 H => ?_
    | refine StP.oneA 0 H rfl rfl rfl fun w1 H => ?_
    | refine StP.one 0 H rfl rfl rfl fun w1 H => ?_
    | with_reducible refine EnP.go H fun w1 H => ?_
    | refine shr_go ?_
    | refine brP_pos (by assumption) ?_
    | refine brP_neg (by assumption) ?_
    | refine brP_intro (fun c => ?_) (fun c => ?_))
  · refine And.intro ?_ H.all
    simp only [Bool.or_eq_true, Bool.or_eq_false_iff, Bool.and_eq_true, Bool.and_eq_false_iff, beq_iff_eq, beq_eq_false_iff_ne, bne_iff_ne, bne_eq_false_iff_eq, decide_eq_true_eq, decide_eq_false_iff_not, Bool.false_eq_true, Bool.true_eq_false, Bool.not_eq_true', Bool.not_eq_false', and_true, true_and, and_false, false_and, or_true, true_or, or_false, false_or, ne_eq, not_true_eq_false, not_false_eq_true, false_iff, iff_false, true_iff, iff_true] at *
    unfold nameS
    rw [if_neg (by omega), if_neg (by omega), if_neg (by omega), if_neg (by omega), if_neg (by omega), if_neg (by omega)]
  · simp only [Bool.or_eq_true, Bool.or_eq_false_iff, Bool.and_eq_true, Bool.and_eq_false_iff, beq_iff_eq, beq_eq_false_iff_ne, bne_iff_ne, bne_eq_false_iff_eq, decide_eq_true_eq, decide_eq_false_iff_not, Bool.false_eq_true, Bool.true_eq_false, Bool.not_eq_true', Bool.not_eq_false', and_true, true_and, and_false, false_and, or_true, true_or, or_false, false_or, ne_eq, not_true_eq_false, not_false_eq_true, false_iff, iff_false, true_iff, iff_true] at *
    have h : a = 0 ∨ a = 1 ∨ a = 2 ∨ a = 3 ∨ a = 4 ∨ a = 5 := by omega
    rcases h with rfl | rfl | rfl | rfl | rfl | rfl
    all_goals
      repeat' (first
        | exact Go.RX.At.all H
        | exact And.intro (by first | rfl | decide +kernel) (Go.RX.At.all H)
        | refine And.intro (by first | exact rfl | exact trivial | exact fun _ => rfl | exact fun _ => trivial | exact ⟨rfl, by decide, by decide⟩ | exact ⟨by decide, by decide⟩ | decide +kernel | exact fun _ => ⟨rfl, by decide, by decide⟩ | (dsimp only [List.length_cons, List.length_nil]; exact ⟨rfl, by decide, by decide⟩)) ?_
        | refine LdP.atA 0 H rfl rfl ?_
        | refine LdP.at 0 H rfl rfl ?_
        | refine AlP.go H fun b w1 H => ?_
        | refine StP.all 0 H rfl rfl rfl fun w1 H => ?_
        | refine StP.oneA 0 H rfl rfl rfl fun w1 H => ?_
        | refine StP.one 0 H rfl rfl rfl fun w1 H => ?_
        | with_reducible refine EnP.go H fun w1 H => ?_
        | refine shr_go ?_
        | refine brP_pos (by assumption) ?_
        | refine brP_neg (by assumption) ?_
        | refine brP_intro (fun c => ?_) (fun c => ?_))
end Go.Proofs.Ytdpbeelopakdiaa
