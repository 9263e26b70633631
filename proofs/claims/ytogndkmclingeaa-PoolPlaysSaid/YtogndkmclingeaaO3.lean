import Derived.Test.YtogndkmclingeaaO2
namespace Go.Proofs.Ytogndkmclingeaa
set_option linter.unusedSimpArgs false
set_option linter.unusedVariables false
open Go.RX
/-! ### A frame's descriptor is changed -/
def turnG (k o : Int) (d : DT) : DT × Int := ((nextK d.1 d.2.1 d.2.2.1 d.2.2.2.1 k o, nextO d.1 d.2.1 d.2.2.1 d.2.2.2.1 k o, 0, 0, ()), nextE d.1 d.2.1 d.2.2.1 d.2.2.2.1 k o)
def refG (x : Int) (d : DT) : DT × Int := (refV d.1 d.2.1 d.2.2.1 d.2.2.2.1 x, refE d.1 d.2.1 d.2.2.1 d.2.2.2.1 x)
def chE (ds : List DT) (f : Int) (g : DT → DT × Int) : Int := if ds.length = 0 then 10 else if f < 0 ∨ f ≥ ds.length then 2 else (g (ds.getD f.toNat zD)).2
def chL (ds : List DT) (f : Int) (g : DT → DT × Int) : List DT := if f < 0 ∨ f ≥ ds.length then ds else if (g (ds.getD f.toNat zD)).2 = 0 then ds.set f.toNat (g (ds.getD f.toNat zD)).1 else ds
theorem chE_empty {ds : List DT} (h : ds.length = 0) (f : Int) (g : DT → DT × Int) : chE ds f g = 10 := if_pos h
theorem chL_empty {ds : List DT} (h : ds.length = 0) (f : Int) (g : DT → DT × Int) : chL ds f g = ds := if_pos (by omega)
theorem chE_out {ds : List DT} (h : ds.length ≠ 0) {f : Int} (h1 : f < 0 ∨ f ≥ ds.length) (g : DT → DT × Int) : chE ds f g = 2 := by unfold chE; rw [if_neg h, if_pos h1]
theorem chL_out {ds : List DT} {f : Int} (h1 : f < 0 ∨ f ≥ ds.length) (g : DT → DT × Int) : chL ds f g = ds := if_pos h1
theorem chE_in {ds : List DT} {f : Int} (h1 : 0 ≤ f ∧ f < ds.length) (g : DT → DT × Int) : chE ds f g = (g (ds.getD f.toNat zD)).2 := by unfold chE; rw [if_neg (by omega), if_neg (by omega)]
theorem chL_in {ds : List DT} {f : Int} (h1 : 0 ≤ f ∧ f < ds.length) (g : DT → DT × Int) : chL ds f g = if (g (ds.getD f.toNat zD)).2 = 0 then ds.set f.toNat (g (ds.getD f.toNat zD)).1 else ds := by unfold chL; rw [if_neg (by omega)]
theorem chL_len (ds : List DT) (f : Int) (g : DT → DT × Int) : (chL ds f g).length = ds.length := by
  unfold chL; split
  · rfl
  · split
    · simp
    · rfl
theorem turn1_ok {w : World} {kc oc : Nat} {k o : Int} (hk : Blk w kc [.int .i64 k]) (ho : Blk w oc [.int .i64 o]) (d : DT) : CallsR Try.prog 31 (.tup [eD, .one (.int .i64)]) [.agg ⟨scsEmb sD d⟩, .pointer (some ⟨kc, 0, none⟩), .pointer (some ⟨oc, 0, none⟩)] w
    (fun v w' => v = ((turnG k o d).1, (turnG k o d).2, ()) ∧ Ext w w') := by
  obtain ⟨a, b, c, e, u⟩ := d
  refine rxFnR_ok (C := E0) (ann := fun _ => []) (Eq.mpr (turn1_vc a b c e _ _ w _) ?_)
  have H := At.start [] w
  repeat' (first
    | refine LdP.old H hk (by simp) rfl ?_
    | refine LdP.old H ho (by simp) rfl ?_
    | exact Go.RX.AtD.all H
    | exact And.intro (by first | rfl | decide +kernel) (Go.RX.AtD.all H)
    | refine And.intro (by first | exact rfl | exact trivial | exact fun _ => rfl | exact fun _ => trivial | exact ⟨rfl, by decide, by decide⟩ | exact ⟨by decide, by decide⟩ | decide +kernel | exact fun _ => by decide | exact fun _ => ⟨rfl, by decide, by decide⟩ | (dsimp only [List.length_cons, List.length_nil]; exact ⟨rfl, by decide, by decide⟩)) ?_
    | refine LdP.atA 0 H rfl rfl ?_
    | refine LdP.atA 1 H rfl rfl ?_
    | refine LdP.at 0 H rfl rfl ?_
    | refine LdP.at 1 H rfl rfl ?_
    | refine AlP.go H fun b w1 H => ?_
    | refine StP.all 0 H rfl rfl rfl fun w1 H => ?_
    | refine StP.all 1 H rfl rfl rfl fun w1 H => ?_
    | refine StP.oneA 0 H rfl rfl rfl fun w1 H => ?_
    | refine StP.oneA 1 H rfl rfl rfl fun w1 H => ?_
    | refine StP.one 0 H rfl rfl rfl fun w1 H => ?_
    | refine StP.one 1 H rfl rfl rfl fun w1 H => ?_
    | with_reducible refine EnP.go H fun w1 H => ?_
    | refine shr_go ?_
    | refine brP_pos (by assumption) ?_
    | refine brP_neg (by assumption) ?_
    | refine brP_intro (fun c => ?_) (fun c => ?_))
theorem ref1_ok {w : World} {kc : Nat} {k : Int} (hk : Blk w kc [.int .i64 k]) (hi : -9223372036854775808 ≤ k ∧ k < 9223372036854775808) (d : DT) : CallsR Try.prog 33 (.tup [eD, .one (.int .i64)]) [.agg ⟨scsEmb sD d⟩, .pointer (some ⟨kc, 0, none⟩)] w
    (fun v w' => v = ((refG k d).1, (refG k d).2, ()) ∧ Ext w w') := by
  obtain ⟨a, b, c, e, u⟩ := d
  refine rxFnR_ok (C := E0) (ann := fun _ => []) (Eq.mpr (ref1_vc a b c e _ w _) ?_)
  have H := At.start [] w
  repeat' (first
    | refine LdP.old H hk (by simp) rfl ?_
    | refine And.intro hi ?_
    | exact Go.RX.AtD.all H
    | exact And.intro (by first | rfl | decide +kernel) (Go.RX.AtD.all H)
    | refine And.intro (by first | exact rfl | exact trivial | exact fun _ => rfl | exact fun _ => trivial | exact ⟨rfl, by decide, by decide⟩ | exact ⟨by decide, by decide⟩ | decide +kernel | exact fun _ => by decide | exact fun _ => ⟨rfl, by decide, by decide⟩ | (dsimp only [List.length_cons, List.length_nil]; exact ⟨rfl, by decide, by decide⟩)) ?_
    | refine LdP.atA 0 H rfl rfl ?_
    | refine LdP.atA 1 H rfl rfl ?_
    | refine LdP.at 0 H rfl rfl ?_
    | refine LdP.at 1 H rfl rfl ?_
    | refine AlP.go H fun b w1 H => ?_
    | refine StP.all 0 H rfl rfl rfl fun w1 H => ?_
    | refine StP.all 1 H rfl rfl rfl fun w1 H => ?_
    | refine StP.oneA 0 H rfl rfl rfl fun w1 H => ?_
    | refine StP.oneA 1 H rfl rfl rfl fun w1 H => ?_
    | refine StP.one 0 H rfl rfl rfl fun w1 H => ?_
    | refine StP.one 1 H rfl rfl rfl fun w1 H => ?_
    | with_reducible refine EnP.go H fun w1 H => ?_
    | refine shr_go ?_
    | refine brP_pos (by assumption) ?_
    | refine brP_neg (by assumption) ?_
    | refine brP_intro (fun c => ?_) (fun c => ?_))
theorem changeT_ok {w : World} {bp bf c kc oc : Nat} {k o : Int} {ds : List DT} {rest : List Value} (hp : Blk w bp [.slice (some ⟨bf, 0, none⟩) ds.length c]) (hf : Blk w bf (flat eD ds ++ rest)) (hne : bp ≠ bf) (hlen : ds.length ≤ 4096) (hk : Blk w kc [.int .i64 k]) (ho : Blk w oc [.int .i64 o]) (hkb : kc ≠ bf) (hob : oc ≠ bf) (f : Int) :
    CallsR Try.prog 30 (.el (.one (.int .i64))) [.pointer (some ⟨bp, 0, none⟩), .int .i64 f, .func (.func 31) #[] #[.pointer (some ⟨kc, 0, none⟩), .pointer (some ⟨oc, 0, none⟩)]] w
      (fun e w' => e = chE ds f (turnG k o) ∧ Blk w' bf (flat eD (chL ds f (turnG k o)) ++ rest) ∧ Fr [bf] w w') := by
  refine rxFn_ok (C := E0) (ann := fun _ => []) (Eq.mpr (change_vc _ f _ _ w _) ?_)
  have H := At.start1 hf
  have hp' : bp ∉ [bf] := by simpa using hne
  refine ⟨(ds.length : Int), QCalls.of (s := .el (.one (.int .i64))) fun w' h => len_ok (hp.ext h), brP_intro (fun c0 => EnP.go H fun w1 H => ?_) (fun c0 => ⟨fun _ => rfl, fun _ => rfl, LdP.oldA H hp hp' rfl (brP_intro (fun c1 => EnP.go H fun w1 H => ?_) (fun c1 => ?_))⟩)⟩
  · have h0 : ds.length = 0 := by simp only [beq_iff_eq] at c0; omega
    exact ⟨(chE_empty h0 f _).symm, by rw [chL_empty h0]; exact H.get (i := 0) rfl, H.fr⟩
  · have h0 : ds.length ≠ 0 := by simp only [beq_eq_false_iff_ne, ne_eq] at c0; omega
    have h1 : f < 0 ∨ f ≥ ds.length := by simpa using c1
    exact ⟨(chE_out h0 h1 _).symm, by rw [chL_out h1]; exact H.get (i := 0) rfl, H.fr⟩
  · have h0 : ds.length ≠ 0 := by simp only [beq_eq_false_iff_ne, ne_eq] at c0; omega
    have h1 : 0 ≤ f ∧ f < ds.length := by simp only [Bool.or_eq_false_iff, decide_eq_false_iff_not] at c1; omega
    have hlt : f.toNat < ds.length := by omega
    have hget : ds[f.toNat]? = some ds[f.toNat] := List.getElem?_eq_getElem hlt
    have hgd : ds.getD f.toNat zD = ds[f.toNat] := by rw [List.getD_eq_getElem?_getD, hget]; rfl
    have hE := chE_in h1 (turnG k o)
    have hL := chL_in h1 (turnG k o)
    rw [hgd] at hE hL
    generalize hd : ds[f.toNat] = d at *
    refine ⟨rfl, rfl, LdP.oldA H hp hp' rfl ⟨⟨rfl, h1.1, h1.2⟩, LdP.of d (rd_flat (H.get (i := 0) rfl) hget) ?_⟩⟩
    refine CaP.val H (s := .tup [eD, .one (.int .i64)]) (((turnG k o) d).1, ((turnG k o) d).2, ()) (fun w1 H => turn1_ok (H.old hk (by simpa using hkb)) (H.old ho (by simpa using hob)) d) fun w1 H => ?_
    refine AlP.go H fun b w2 H => StP.all 0 H rfl rfl rfl fun w2 H => brP_intro (fun c2 => ⟨rfl, rfl, LdP.oldA H hp hp' rfl (LdP.at 0 H rfl rfl ⟨⟨rfl, h1.1, h1.2⟩, ?_⟩)⟩) (fun c2 => EnP.go H fun w3 H => ?_)
    · have c2' : ((turnG k o) d).2 = 0 := by simpa using c2
      refine StP.flat (e := eD) 1 H (xs := ds) (rest := rest) ((turnG k o) d).1 rfl rfl rfl hlt fun w3 H => EnP.go H fun w4 H => ?_
      exact ⟨hE.symm, by rw [hL, if_pos c2']; exact H.get (i := 1) rfl, H.fr⟩
    · have c2' : ¬ ((turnG k o) d).2 = 0 := by simpa using c2
      exact ⟨hE.symm, by rw [hL, if_neg c2']; exact H.get (i := 1) rfl, H.fr⟩
theorem changeR_ok {w : World} {bp bf c kc : Nat} {k : Int} {ds : List DT} {rest : List Value} (hp : Blk w bp [.slice (some ⟨bf, 0, none⟩) ds.length c]) (hf : Blk w bf (flat eD ds ++ rest)) (hne : bp ≠ bf) (hlen : ds.length ≤ 4096) (hk : Blk w kc [.int .i64 k]) (hkb : kc ≠ bf) (hi : -9223372036854775808 ≤ k ∧ k < 9223372036854775808) (f : Int) :
    CallsR Try.prog 30 (.el (.one (.int .i64))) [.pointer (some ⟨bp, 0, none⟩), .int .i64 f, .func (.func 33) #[] #[.pointer (some ⟨kc, 0, none⟩)]] w
      (fun e w' => e = chE ds f (refG k) ∧ Blk w' bf (flat eD (chL ds f (refG k)) ++ rest) ∧ Fr [bf] w w') := by
  refine rxFn_ok (C := E0) (ann := fun _ => []) (Eq.mpr (change_vc2 _ f _ w _) ?_)
  have H := At.start1 hf
  have hp' : bp ∉ [bf] := by simpa using hne
  refine ⟨(ds.length : Int), QCalls.of (s := .el (.one (.int .i64))) fun w' h => len_ok (hp.ext h), brP_intro (fun c0 => EnP.go H fun w1 H => ?_) (fun c0 => ⟨fun _ => rfl, fun _ => rfl, LdP.oldA H hp hp' rfl (brP_intro (fun c1 => EnP.go H fun w1 H => ?_) (fun c1 => ?_))⟩)⟩
  · have h0 : ds.length = 0 := by simp only [beq_iff_eq] at c0; omega
    exact ⟨(chE_empty h0 f _).symm, by rw [chL_empty h0]; exact H.get (i := 0) rfl, H.fr⟩
  · have h0 : ds.length ≠ 0 := by simp only [beq_eq_false_iff_ne, ne_eq] at c0; omega
    have h1 : f < 0 ∨ f ≥ ds.length := by simpa using c1
    exact ⟨(chE_out h0 h1 _).symm, by rw [chL_out h1]; exact H.get (i := 0) rfl, H.fr⟩
  · have h0 : ds.length ≠ 0 := by simp only [beq_eq_false_iff_ne, ne_eq] at c0; omega
    have h1 : 0 ≤ f ∧ f < ds.length := by simp only [Bool.or_eq_false_iff, decide_eq_false_iff_not] at c1; omega
    have hlt : f.toNat < ds.length := by omega
    have hget : ds[f.toNat]? = some ds[f.toNat] := List.getElem?_eq_getElem hlt
    have hgd : ds.getD f.toNat zD = ds[f.toNat] := by rw [List.getD_eq_getElem?_getD, hget]; rfl
    have hE := chE_in h1 (refG k)
    have hL := chL_in h1 (refG k)
    rw [hgd] at hE hL
    generalize hd : ds[f.toNat] = d at *
    refine ⟨rfl, rfl, LdP.oldA H hp hp' rfl ⟨⟨rfl, h1.1, h1.2⟩, LdP.of d (rd_flat (H.get (i := 0) rfl) hget) ?_⟩⟩
    refine CaP.val H (s := .tup [eD, .one (.int .i64)]) (((refG k) d).1, ((refG k) d).2, ()) (fun w1 H => ref1_ok (H.old hk (by simpa using hkb)) hi d) fun w1 H => ?_
    refine AlP.go H fun b w2 H => StP.all 0 H rfl rfl rfl fun w2 H => brP_intro (fun c2 => ⟨rfl, rfl, LdP.oldA H hp hp' rfl (LdP.at 0 H rfl rfl ⟨⟨rfl, h1.1, h1.2⟩, ?_⟩)⟩) (fun c2 => EnP.go H fun w3 H => ?_)
    · have c2' : ((refG k) d).2 = 0 := by simpa using c2
      refine StP.flat (e := eD) 1 H (xs := ds) (rest := rest) ((refG k) d).1 rfl rfl rfl hlt fun w3 H => EnP.go H fun w4 H => ?_
      exact ⟨hE.symm, by rw [hL, if_pos c2']; exact H.get (i := 1) rfl, H.fr⟩
    · have c2' : ¬ ((refG k) d).2 = 0 := by simpa using c2
      exact ⟨hE.symm, by rw [hL, if_neg c2']; exact H.get (i := 1) rfl, H.fr⟩
theorem turn_ok {w : World} {bp bf c : Nat} {ds : List DT} {rest : List Value} (hp : Blk w bp [.slice (some ⟨bf, 0, none⟩) ds.length c]) (hf : Blk w bf (flat eD ds ++ rest)) (hne : bp ≠ bf) (hlen : ds.length ≤ 4096) (f k o : Int) :
    CallsR Try.prog 14 (.el (.one (.int .i64))) [.pointer (some ⟨bp, 0, none⟩), .int .i64 f, .int .i64 k, .int .i64 o] w (fun e w' => e = chE ds f (turnG k o) ∧ Blk w' bf (flat eD (chL ds f (turnG k o)) ++ rest) ∧ Fr [bf] w w') := by
  refine rxFn_ok (C := E0) (ann := fun _ => []) (Eq.mpr (turn_vc _ f k o w _) ?_)
  have H := At.start1 hf
  have hp' : bp ∉ [bf] := by simpa using hne
  refine AlP.go H fun kc w1 H => AlP.go H fun oc w2 H => ?_
  refine CaP.mod1 H 2 rfl (fun w3 H => changeT_ok (H.old hp hp') (H.get (i := 2) rfl) hne hlen (H.get (i := 1) rfl) (H.get (i := 0) rfl) (H.ne (i := 1) (j := 2) rfl rfl (by decide)) (H.ne (i := 0) (j := 2) rfl rfl (by decide)) f) fun w3 H => EnP.go H fun w4 H => ?_
  exact ⟨rfl, H.get (i := 2) rfl, H.fr⟩
theorem pref_ok {w : World} {bp bf c : Nat} {ds : List DT} {rest : List Value} (hp : Blk w bp [.slice (some ⟨bf, 0, none⟩) ds.length c]) (hf : Blk w bf (flat eD ds ++ rest)) (hne : bp ≠ bf) (hlen : ds.length ≤ 4096) (f x : Int) (hi : -9223372036854775808 ≤ x ∧ x < 9223372036854775808) :
    CallsR Try.prog 15 (.el (.one (.int .i64))) [.pointer (some ⟨bp, 0, none⟩), .int .i64 f, .int .i64 x] w (fun e w' => e = chE ds f (refG x) ∧ Blk w' bf (flat eD (chL ds f (refG x)) ++ rest) ∧ Fr [bf] w w') := by
  refine rxFn_ok (C := E0) (ann := fun _ => []) (Eq.mpr (pref_vc _ f x w _) ?_)
  have H := At.start1 hf
  have hp' : bp ∉ [bf] := by simpa using hne
  refine AlP.go H fun kc w1 H => ?_
  refine CaP.mod1 H 1 rfl (fun w3 H => changeR_ok (H.old hp hp') (H.get (i := 1) rfl) hne hlen (H.get (i := 0) rfl) (H.ne (i := 0) (j := 1) rfl rfl (by decide)) hi f) fun w3 H => EnP.go H fun w4 H => ?_
  exact ⟨rfl, H.get (i := 1) rfl, H.fr⟩
theorem give_ok {w : World} {bp bf c : Nat} {ds : List DT} {rest : List Value} (hp : Blk w bp [.slice (some ⟨bf, 0, none⟩) ds.length c]) (hf : Blk w bf (flat eD ds ++ rest)) (hne : bp ≠ bf) (hlen : ds.length ≤ 4096) (f : Int) :
    CallsR Try.prog 13 (.el (.one (.int .i64))) [.pointer (some ⟨bp, 0, none⟩), .int .i64 f] w (fun e w' => e = chE ds f (turnG 0 0) ∧ Blk w' bf (flat eD (chL ds f (turnG 0 0)) ++ rest) ∧ Fr [bf] w w') := by
  refine rxFn_ok (C := E0) (ann := fun _ => []) (Eq.mpr (give_vc _ f w _) ?_)
  have H := At.start1 hf
  have hp' : bp ∉ [bf] := by simpa using hne
  refine CaP.mod1 H 0 rfl (fun w3 H => turn_ok (H.old hp hp') (H.get (i := 0) rfl) hne hlen f 0 0) fun w3 H => EnP.go H fun w4 H => ?_
  exact ⟨rfl, H.get (i := 0) rfl, H.fr⟩
/-- A frame's descriptor. -/
def ofV (ds : List DT) (f : Int) : DT := if f < 0 ∨ f ≥ ds.length then zD else ds.getD f.toNat zD
def ofB (ds : List DT) (f : Int) : Bool := !(decide (f < 0 ∨ f ≥ ds.length))
theorem pof_ok {w : World} {bp bf c : Nat} {ds : List DT} {rest : List Value} (hp : Blk w bp [.slice (some ⟨bf, 0, none⟩) ds.length c]) (hf : Blk w bf (flat eD ds ++ rest)) (f : Int) :
    CallsR Try.prog 12 (.tup [eD, .one .bool]) [.pointer (some ⟨bp, 0, none⟩), .int .i64 f] w (fun v w' => v = (ofV ds f, ofB ds f, ()) ∧ Ext w w') := by
  refine rxFnR_ok (C := E0) (ann := fun _ => []) (Eq.mpr (pof_vc _ f w _) ?_)
  have H := At.start [] w
  refine AlP.go H fun b w1 H => ⟨(ds.length : Int), fun _ => QCalls.of (s := .el (.one (.int .i64))) fun w' h => len_ok ((H.old hp (by simp)).ext h), brP_intro (fun c1 => ?_) (fun c1 => ?_)⟩
  · have h1 : f < 0 ∨ f ≥ ds.length := by simpa using c1
    have e1 : ofV ds f = zD := if_pos h1
    have e2 : ofB ds f = false := by unfold ofB; simp [h1]
    rw [e1, e2]
    repeat' (first
      | exact Go.RX.AtD.all H
      | exact And.intro (by first | rfl | decide +kernel) (Go.RX.AtD.all H)
      | refine And.intro (by first | exact rfl | exact trivial | exact fun _ => rfl | exact fun _ => trivial | exact ⟨rfl, by decide, by decide⟩ | exact ⟨by decide, by decide⟩ | decide +kernel | exact fun _ => by decide | exact fun _ => ⟨rfl, by decide, by decide⟩ | (dsimp only [List.length_cons, List.length_nil]; exact ⟨rfl, by decide, by decide⟩)) ?_
      | refine LdP.atA 0 H rfl rfl ?_
      | refine LdP.at 0 H rfl rfl ?_
      | refine AlP.go H fun b w1 H => ?_
      | refine StP.all 0 H rfl rfl rfl fun w1 H => ?_
      | refine StP.oneA 0 H rfl rfl rfl fun w1 H => ?_
      | refine StP.one 0 H rfl rfl rfl fun w1 H => ?_
      | with_reducible refine EnP.go H fun w1 H => ?_
      | refine shr_go ?_
      | refine brP_pos (by assumption) ?_
      | refine brP_neg (by assumption) ?_
      | refine brP_intro (fun c => ?_) (fun c => ?_))
  · have h1 : ¬ (f < 0 ∨ f ≥ ds.length) := by
      simp only [Bool.or_eq_false_iff, decide_eq_false_iff_not] at c1
      rintro (h | h)
      · exact c1.1 h
      · exact c1.2 h
    have hlt : f.toNat < ds.length := by omega
    have hget : ds[f.toNat]? = some ds[f.toNat] := List.getElem?_eq_getElem hlt
    have hgd : ds.getD f.toNat zD = ds[f.toNat] := by rw [List.getD_eq_getElem?_getD, hget]; rfl
    have e1 : ofV ds f = ds[f.toNat] := by unfold ofV; rw [if_neg h1, hgd]
    have e2 : ofB ds f = true := by unfold ofB; simp [h1]
    rw [e1, e2]
    refine ⟨rfl, rfl, LdP.oldA H hp (by simp) rfl ⟨⟨rfl, Int.not_lt.1 (fun h => h1 (.inl h)), Int.not_le.1 (fun h => h1 (.inr h))⟩, LdP.of ds[f.toNat] (rd_flat (H.old hf (by simp)) hget) ?_⟩⟩
    repeat' (first
      | exact Go.RX.AtD.all H
      | exact And.intro (by first | rfl | decide +kernel) (Go.RX.AtD.all H)
      | refine And.intro (by first | exact rfl | exact trivial | exact fun _ => rfl | exact fun _ => trivial | exact ⟨rfl, by decide, by decide⟩ | exact ⟨by decide, by decide⟩ | decide +kernel | exact fun _ => by decide | exact fun _ => ⟨rfl, by decide, by decide⟩ | (dsimp only [List.length_cons, List.length_nil]; exact ⟨rfl, by decide, by decide⟩)) ?_
      | refine LdP.atA 0 H rfl rfl ?_
      | refine LdP.at 0 H rfl rfl ?_
      | refine AlP.go H fun b w1 H => ?_
      | refine StP.all 0 H rfl rfl rfl fun w1 H => ?_
      | refine StP.oneA 0 H rfl rfl rfl fun w1 H => ?_
      | refine StP.one 0 H rfl rfl rfl fun w1 H => ?_
      | with_reducible refine EnP.go H fun w1 H => ?_
      | refine shr_go ?_
      | refine brP_pos (by assumption) ?_
      | refine brP_neg (by assumption) ?_
      | refine brP_intro (fun c => ?_) (fun c => ?_))
end Go.Proofs.Ytogndkmclingeaa
