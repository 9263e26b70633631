import Derived.Test.YtogndkmclingeaaO9
namespace Go.Proofs.Ytogndkmclingeaa
set_option linter.unusedSimpArgs false
set_option linter.unusedVariables false
open Go.RX
/-! ### A pool that is not there -/
/-- It has no frames: no pool, or one that New did not give. -/
inductive NoP (w : World) : Option Addr → Prop
  | nil : NoP w none
  | zero (bp : Nat) : Blk w bp [.slice none 0 0] → NoP w (some ⟨bp, 0, none⟩)
theorem NoP.ext {w w' : World} {p : Option Addr} (h : NoP w p) (k : Ext w w') : NoP w' p := by
  cases h with
  | nil => exact .nil
  | zero bp h => exact .zero bp (h.ext k)
theorem NoP.len {w : World} {p : Option Addr} (h : NoP w p) : QCalls Try.prog 18 [.pointer p] w (.int .i64 0) := by
  cases h with
  | nil => exact QCalls.of (s := .el (.one (.int .i64))) fun w' h => len_nil w'
  | zero bp hb => exact QCalls.of (s := .el (.one (.int .i64))) fun w' h => len_ok (hb.ext h)
theorem noTake {w : World} {p : Option Addr} (hp : NoP w p) (k o : Int) : CallsR Try.prog 11 (.tup [.one (.int .i64), .one (.int .i64)]) [.pointer p, .int .i64 k, .int .i64 o] w (fun v w' => v = (0, 10, ()) ∧ Ext w w') := by
  refine rxFnR_ok (C := E0) (ann := take_vc_ann) (Eq.mpr (take_vc _ k o w _) ?_)
  have H := At.start [] w
  refine AlP.go H fun b w1 H => AlP.go H fun b1 w2 H => AlP.go H fun b2 w3 H => AlP.go H fun b3 w4 H => AlP.go H fun b4 w5 H => LdP.at 4 H rfl rfl ⟨0, (hp.ext H.all).len, brP_pos rfl ?_⟩
  repeat' (first
    | exact Go.RX.AtD.all H
    | exact And.intro (by first | rfl | decide +kernel) (Go.RX.AtD.all H)
    | refine And.intro (by first | exact rfl | exact trivial | exact fun _ => rfl | exact fun _ => trivial | exact ⟨rfl, by decide, by decide⟩ | exact ⟨by decide, by decide⟩ | decide +kernel | exact fun _ => by decide | exact fun _ => ⟨rfl, by decide, by decide⟩ | (dsimp only [List.length_cons, List.length_nil]; exact ⟨rfl, by decide, by decide⟩)) ?_
    | refine LdP.atA 0 H rfl rfl ?_
    | refine LdP.atA 1 H rfl rfl ?_
    | refine LdP.at 0 H rfl rfl ?_
    | refine LdP.at 1 H rfl rfl ?_
    | refine AlP.go H fun b w1 H => ?_
    | refine StP.all 0 H rfl rfl rfl fun w1 H => ?_
    | refine StP.all 1 H rfl rfl rfl fun w1 H => ?_
    | refine StP.oneA 0 H rfl rfl rfl fun w1 H => ?_
    | refine StP.oneA 1 H rfl rfl rfl fun w1 H => ?_
    | refine StP.one 0 H rfl rfl rfl fun w1 H => ?_
    | refine StP.one 1 H rfl rfl rfl fun w1 H => ?_
    | with_reducible refine EnP.go H fun w1 H => ?_
    | refine shr_go ?_
    | refine brP_pos (by assumption) ?_
    | refine brP_neg (by assumption) ?_
    | refine brP_intro (fun c => ?_) (fun c => ?_))
theorem noChT {w : World} {p : Option Addr} (hp : NoP w p) (f : Int) (c d : Option Addr) : CallsR Try.prog 30 (.el (.one (.int .i64))) [.pointer p, .int .i64 f, .func (.func 31) #[] #[.pointer c, .pointer d]] w (fun v w' => v = 10 ∧ Ext w w') := by
  refine rxFn_ok (C := E0) (ann := fun _ => []) (Eq.mpr (change_vc _ f c d w _) ?_)
  have H := At.start [] w
  refine ⟨0, hp.len, brP_pos rfl ?_⟩
  repeat' (first
    | exact Go.RX.AtD.all H
    | exact And.intro (by first | rfl | decide +kernel) (Go.RX.AtD.all H)
    | refine And.intro (by first | exact rfl | exact trivial | exact fun _ => rfl | exact fun _ => trivial | exact ⟨rfl, by decide, by decide⟩ | exact ⟨by decide, by decide⟩ | decide +kernel | exact fun _ => by decide | exact fun _ => ⟨rfl, by decide, by decide⟩ | (dsimp only [List.length_cons, List.length_nil]; exact ⟨rfl, by decide, by decide⟩)) ?_
    | refine LdP.atA 0 H rfl rfl ?_
    | refine LdP.atA 1 H rfl rfl ?_
    | refine LdP.at 0 H rfl rfl ?_
    | refine LdP.at 1 H rfl rfl ?_
    | refine AlP.go H fun b w1 H => ?_
    | refine StP.all 0 H rfl rfl rfl fun w1 H => ?_
    | refine StP.all 1 H rfl rfl rfl fun w1 H => ?_
    | refine StP.oneA 0 H rfl rfl rfl fun w1 H => ?_
    | refine StP.oneA 1 H rfl rfl rfl fun w1 H => ?_
    | refine StP.one 0 H rfl rfl rfl fun w1 H => ?_
    | refine StP.one 1 H rfl rfl rfl fun w1 H => ?_
    | with_reducible refine EnP.go H fun w1 H => ?_
    | refine shr_go ?_
    | refine brP_pos (by assumption) ?_
    | refine brP_neg (by assumption) ?_
    | refine brP_intro (fun c => ?_) (fun c => ?_))
theorem noChR {w : World} {p : Option Addr} (hp : NoP w p) (f : Int) (c : Option Addr) : CallsR Try.prog 30 (.el (.one (.int .i64))) [.pointer p, .int .i64 f, .func (.func 33) #[] #[.pointer c]] w (fun v w' => v = 10 ∧ Ext w w') := by
  refine rxFn_ok (C := E0) (ann := fun _ => []) (Eq.mpr (change_vc2 _ f c w _) ?_)
  have H := At.start [] w
  refine ⟨0, hp.len, brP_pos rfl ?_⟩
  repeat' (first
    | exact Go.RX.AtD.all H
    | exact And.intro (by first | rfl | decide +kernel) (Go.RX.AtD.all H)
    | refine And.intro (by first | exact rfl | exact trivial | exact fun _ => rfl | exact fun _ => trivial | exact ⟨rfl, by decide, by decide⟩ | exact ⟨by decide, by decide⟩ | decide +kernel | exact fun _ => by decide | exact fun _ => ⟨rfl, by decide, by decide⟩ | (dsimp only [List.length_cons, List.length_nil]; exact ⟨rfl, by decide, by decide⟩)) ?_
    | refine LdP.atA 0 H rfl rfl ?_
    | refine LdP.atA 1 H rfl rfl ?_
    | refine LdP.at 0 H rfl rfl ?_
    | refine LdP.at 1 H rfl rfl ?_
    | refine AlP.go H fun b w1 H => ?_
    | refine StP.all 0 H rfl rfl rfl fun w1 H => ?_
    | refine StP.all 1 H rfl rfl rfl fun w1 H => ?_
    | refine StP.oneA 0 H rfl rfl rfl fun w1 H => ?_
    | refine StP.oneA 1 H rfl rfl rfl fun w1 H => ?_
    | refine StP.one 0 H rfl rfl rfl fun w1 H => ?_
    | refine StP.one 1 H rfl rfl rfl fun w1 H => ?_
    | with_reducible refine EnP.go H fun w1 H => ?_
    | refine shr_go ?_
    | refine brP_pos (by assumption) ?_
    | refine brP_neg (by assumption) ?_
    | refine brP_intro (fun c => ?_) (fun c => ?_))
theorem noTurn {w : World} {p : Option Addr} (hp : NoP w p) (f k o : Int) : CallsR Try.prog 14 (.el (.one (.int .i64))) [.pointer p, .int .i64 f, .int .i64 k, .int .i64 o] w (fun v w' => v = 10 ∧ Ext w w') := by
  refine rxFn_ok (C := E0) (ann := fun _ => []) (Eq.mpr (turn_vc _ f k o w _) ?_)
  have H := At.start [] w
  refine AlP.go H fun b w1 H => AlP.go H fun b w2 H => CaP.val H (s := .el (.one (.int .i64))) (10 : Int) (fun w3 H => noChT (hp.ext H.all) f _ _) fun w4 H => ?_
  repeat' (first
    | exact Go.RX.AtD.all H
    | exact And.intro (by first | rfl | decide +kernel) (Go.RX.AtD.all H)
    | refine And.intro (by first | exact rfl | exact trivial | exact fun _ => rfl | exact fun _ => trivial | exact ⟨rfl, by decide, by decide⟩ | exact ⟨by decide, by decide⟩ | decide +kernel | exact fun _ => by decide | exact fun _ => ⟨rfl, by decide, by decide⟩ | (dsimp only [List.length_cons, List.length_nil]; exact ⟨rfl, by decide, by decide⟩)) ?_
    | refine LdP.atA 0 H rfl rfl ?_
    | refine LdP.atA 1 H rfl rfl ?_
    | refine LdP.at 0 H rfl rfl ?_
    | refine LdP.at 1 H rfl rfl ?_
    | refine AlP.go H fun b w1 H => ?_
    | refine StP.all 0 H rfl rfl rfl fun w1 H => ?_
    | refine StP.all 1 H rfl rfl rfl fun w1 H => ?_
    | refine StP.oneA 0 H rfl rfl rfl fun w1 H => ?_
    | refine StP.oneA 1 H rfl rfl rfl fun w1 H => ?_
    | refine StP.one 0 H rfl rfl rfl fun w1 H => ?_
    | refine StP.one 1 H rfl rfl rfl fun w1 H => ?_
    | with_reducible refine EnP.go H fun w1 H => ?_
    | refine shr_go ?_
    | refine brP_pos (by assumption) ?_
    | refine brP_neg (by assumption) ?_
    | refine brP_intro (fun c => ?_) (fun c => ?_))
theorem noRef {w : World} {p : Option Addr} (hp : NoP w p) (f x : Int) : CallsR Try.prog 15 (.el (.one (.int .i64))) [.pointer p, .int .i64 f, .int .i64 x] w (fun v w' => v = 10 ∧ Ext w w') := by
  refine rxFn_ok (C := E0) (ann := fun _ => []) (Eq.mpr (pref_vc _ f x w _) ?_)
  have H := At.start [] w
  refine AlP.go H fun b w1 H => CaP.val H (s := .el (.one (.int .i64))) (10 : Int) (fun w3 H => noChR (hp.ext H.all) f _) fun w4 H => ?_
  repeat' (first
    | exact Go.RX.AtD.all H
    | exact And.intro (by first | rfl | decide +kernel) (Go.RX.AtD.all H)
    | refine And.intro (by first | exact rfl | exact trivial | exact fun _ => rfl | exact fun _ => trivial | exact ⟨rfl, by decide, by decide⟩ | exact ⟨by decide, by decide⟩ | decide +kernel | exact fun _ => by decide | exact fun _ => ⟨rfl, by decide, by decide⟩ | (dsimp only [List.length_cons, List.length_nil]; exact ⟨rfl, by decide, by decide⟩)) ?_
    | refine LdP.atA 0 H rfl rfl ?_
    | refine LdP.atA 1 H rfl rfl ?_
    | refine LdP.at 0 H rfl rfl ?_
    | refine LdP.at 1 H rfl rfl ?_
    | refine AlP.go H fun b w1 H => ?_
    | refine StP.all 0 H rfl rfl rfl fun w1 H => ?_
    | refine StP.all 1 H rfl rfl rfl fun w1 H => ?_
    | refine StP.oneA 0 H rfl rfl rfl fun w1 H => ?_
    | refine StP.oneA 1 H rfl rfl rfl fun w1 H => ?_
    | refine StP.one 0 H rfl rfl rfl fun w1 H => ?_
    | refine StP.one 1 H rfl rfl rfl fun w1 H => ?_
    | with_reducible refine EnP.go H fun w1 H => ?_
    | refine shr_go ?_
    | refine brP_pos (by assumption) ?_
    | refine brP_neg (by assumption) ?_
    | refine brP_intro (fun c => ?_) (fun c => ?_))
theorem noGive {w : World} {p : Option Addr} (hp : NoP w p) (f : Int) : CallsR Try.prog 13 (.el (.one (.int .i64))) [.pointer p, .int .i64 f] w (fun v w' => v = 10 ∧ Ext w w') := by
  refine rxFn_ok (C := E0) (ann := fun _ => []) (Eq.mpr (give_vc _ f w _) ?_)
  have H := At.start [] w
  refine CaP.val H (s := .el (.one (.int .i64))) (10 : Int) (fun w3 H => noTurn (hp.ext H.all) f 0 0) fun w4 H => ?_
  repeat' (first
    | exact Go.RX.AtD.all H
    | exact And.intro (by first | rfl | decide +kernel) (Go.RX.AtD.all H)
    | refine And.intro (by first | exact rfl | exact trivial | exact fun _ => rfl | exact fun _ => trivial | exact ⟨rfl, by decide, by decide⟩ | exact ⟨by decide, by decide⟩ | decide +kernel | exact fun _ => by decide | exact fun _ => ⟨rfl, by decide, by decide⟩ | (dsimp only [List.length_cons, List.length_nil]; exact ⟨rfl, by decide, by decide⟩)) ?_
    | refine LdP.atA 0 H rfl rfl ?_
    | refine LdP.atA 1 H rfl rfl ?_
    | refine LdP.at 0 H rfl rfl ?_
    | refine LdP.at 1 H rfl rfl ?_
    | refine AlP.go H fun b w1 H => ?_
    | refine StP.all 0 H rfl rfl rfl fun w1 H => ?_
    | refine StP.all 1 H rfl rfl rfl fun w1 H => ?_
    | refine StP.oneA 0 H rfl rfl rfl fun w1 H => ?_
    | refine StP.oneA 1 H rfl rfl rfl fun w1 H => ?_
    | refine StP.one 0 H rfl rfl rfl fun w1 H => ?_
    | refine StP.one 1 H rfl rfl rfl fun w1 H => ?_
    | with_reducible refine EnP.go H fun w1 H => ?_
    | refine shr_go ?_
    | refine brP_pos (by assumption) ?_
    | refine brP_neg (by assumption) ?_
    | refine brP_intro (fun c => ?_) (fun c => ?_))
theorem noOf {w : World} {p : Option Addr} (hp : NoP w p) (f : Int) : CallsR Try.prog 12 (.tup [eD, .one .bool]) [.pointer p, .int .i64 f] w (fun v w' => v = (zD, false, ()) ∧ Ext w w') := by
  refine rxFnR_ok (C := E0) (ann := fun _ => []) (Eq.mpr (pof_vc _ f w _) ?_)
  have H := At.start [] w
  refine AlP.go H fun b w1 H => ⟨0, fun _ => (hp.ext H.all).len, brP_pos ?_ ?_⟩
  · simp only [Bool.or_eq_true, decide_eq_true_eq]; omega
  repeat' (first
    | exact Go.RX.AtD.all H
    | exact And.intro (by first | rfl | decide +kernel) (Go.RX.AtD.all H)
    | refine And.intro (by first | exact rfl | exact trivial | exact fun _ => rfl | exact fun _ => trivial | exact ⟨rfl, by decide, by decide⟩ | exact ⟨by decide, by decide⟩ | decide +kernel | exact fun _ => by decide | exact fun _ => ⟨rfl, by decide, by decide⟩ | (dsimp only [List.length_cons, List.length_nil]; exact ⟨rfl, by decide, by decide⟩)) ?_
    | refine LdP.atA 0 H rfl rfl ?_
    | refine LdP.atA 1 H rfl rfl ?_
    | refine LdP.at 0 H rfl rfl ?_
    | refine LdP.at 1 H rfl rfl ?_
    | refine AlP.go H fun b w1 H => ?_
    | refine StP.all 0 H rfl rfl rfl fun w1 H => ?_
    | refine StP.all 1 H rfl rfl rfl fun w1 H => ?_
    | refine StP.oneA 0 H rfl rfl rfl fun w1 H => ?_
    | refine StP.oneA 1 H rfl rfl rfl fun w1 H => ?_
    | refine StP.one 0 H rfl rfl rfl fun w1 H => ?_
    | refine StP.one 1 H rfl rfl rfl fun w1 H => ?_
    | with_reducible refine EnP.go H fun w1 H => ?_
    | refine shr_go ?_
    | refine brP_pos (by assumption) ?_
    | refine brP_neg (by assumption) ?_
    | refine brP_intro (fun c => ?_) (fun c => ?_))
theorem noCopy {w : World} {p : Option Addr} (hp : NoP w p) : CallsR Try.prog 24 (.el (.one .ptr)) [.pointer p] w (fun x w' => x = none ∧ Ext w w') := by
  refine rxFn_ok (C := E0) (ann := fun _ => []) (Eq.mpr (copy_vc _ w _) ?_)
  exact ⟨0, hp.len, brP_pos rfl fun w1 h1 => ⟨rfl, h1⟩⟩
theorem no_it {p : Option Addr} {pc : Nat} {ic : Option Addr} : ItOk Try.prog 42 (fun y => [.func (.yield y) #[] #[], .pointer (some ⟨pc, 0, none⟩), .pointer ic]) 0 (fun _ => none) (fun w => Blk w pc [.pointer p] ∧ NoP w p) := by
  intro y w J Dn hJ hD hS hskip hyield h0
  have key : CallsR Try.prog 42 (shF E1 42) [.func (.yield y) #[] #[], .pointer (some ⟨pc, 0, none⟩), .pointer ic] w (fun _ w' => J 0 w' ∨ Dn w') := by
    refine rxFn_ok (C := E1) (ann := such1_vc_ann) (Eq.mpr (such1_vc y _ _ w _) ?_)
    obtain ⟨s1, s2⟩ := hS 0 w h0
    refine LdP.of _ (s1.rd1 rfl) ?_
    cases s2 with
    | nil => exact brP_pos rfl fun w1 h1 => .inl (hJ _ _ _ h0 h1)
    | zero bp hb =>
      refine brP_neg rfl (LdP.of _ (s1.rd1 rfl) ⟨rfl, rfl, LdP.of (none, 0, 0) (by rw [addP_B]; exact hb.rd1 rfl) ?_⟩)
      refine ⟨fun n s w' => s.1 = 0 ∧ J 0 w', ⟨0, fun w1 h1 => ⟨rfl, hJ _ _ _ h0 h1⟩⟩, ?_⟩
      rintro n ⟨i, u⟩ w1 ⟨hi, hj⟩
      simp only at hi
      subst hi
      exact brP_neg rfl fun w2 h2 => .inl (hJ _ _ _ hj h2)
  exact Calls.mono key fun e w' ⟨x, he, hj⟩ => ⟨_, he, hj⟩
theorem noCount {w : World} {p : Option Addr} (hp : NoP w p) (v : Int) : CallsR Try.prog 10 (.el (.one (.int .i64))) [.pointer p, .int .i64 v] w (fun x w' => x = 0 ∧ Ext w w') := by
  refine rxFnR_ok (C := E0) (ann := count_vc_ann) (Eq.mpr (count_vc _ v w _) ?_)
  have H := At.start [] w
  refine AlP.go H fun b w1 H => StP.all 0 H rfl rfl rfl fun w2 H => of_at H _ v fun pc ic kc w3 H => ?_
  refine RnP.go H (no_it (p := p) (pc := pc) (ic := some ⟨ic, 0, none⟩)) (fun _ => [(ic, [.func (.func 39) #[] #[.pointer (some ⟨kc, 0, none⟩)]]), (pc, [.pointer p]), (kc, [.int .i64 v]), (b, [.int .i64 0])])
    (fun _ _ => False) rfl ?_ ?_ ?_ ?_ ?_ ?_
  · exact fun D' i w' H => ⟨H.get (i := 1) rfl, hp.ext H.all⟩
  · exact fun _ hi => absurd hi (by omega)
  · exact fun _ _ hi => absurd hi (by omega)
  · exact fun _ _ hi => absurd hi (by omega)
  · intro r rec w4 hr
    exact rxAfter.none hr fun w5 H => LdP.at 3 H rfl rfl (ClP.go H fun w6 H => ⟨rfl, H.all⟩)
  · exact fun j L' r rec w4 hq _ => hq.elim
theorem noOwned {w : World} {p : Option Addr} (hp : NoP w p) (v : Int) : CallsR Try.prog 16 (.el (.one .slice)) [.pointer p, .int .i64 v] w (fun x w' => x = (none, 0, 0) ∧ Ext w w') := by
  refine rxFnR_ok (C := E0) (ann := owned_vc_ann) (Eq.mpr (owned_vc _ v w _) ?_)
  have H := At.start [] w
  refine AlP.go H fun kc w1 H => AlP.go H fun b w2 H => such_at H _ _ fun pc ic w3 H => ?_
  refine RnP.go H (no_it (p := p) (pc := pc) (ic := some ⟨ic, 0, none⟩)) (fun _ => [(ic, [.func (.func 36) #[] #[.pointer (some ⟨kc, 0, none⟩)]]), (pc, [.pointer p]), (b, [.slice none 0 0]), (kc, [.int .i64 v])])
    (fun _ _ => False) rfl ?_ ?_ ?_ ?_ ?_ ?_
  · exact fun D' i w' H => ⟨H.get (i := 1) rfl, hp.ext H.all⟩
  · exact fun _ hi => absurd hi (by omega)
  · exact fun _ _ hi => absurd hi (by omega)
  · exact fun _ _ hi => absurd hi (by omega)
  · intro r rec w4 hr
    exact rxAfter.none hr fun w5 H => LdP.at 2 H rfl rfl (ClP.go H fun w6 H => ⟨rfl, H.all⟩)
  · exact fun j L' r rec w4 hq _ => hq.elim
theorem pnil_row (f : Int) (_ : (Lit.int .i64 f).wf = true) (w : World) : CallsR Try.prog 8 (.el (.one .bool)) [.int .i64 f] w (fun b w' => b = true ∧ Ext w w') := by
  refine rxFn_ok (C := E3) (ann := fun _ => []) (Eq.mpr (pnil_vc f w _) ?_)
  have H := At.start [] w
  refine AlP.go H fun b w1 H => CaP.val H (s := .tup [.one (.int .i64), .one (.int .i64)]) ((0, 10, ()) : Int × Int × Unit) (fun w2 H => noTake .nil 4 1) fun w2 H => ?_
  refine CaP.val H (s := .tup [.one (.int .i64), .one (.int .i64)]) ((0, 10, ()) : Int × Int × Unit) (fun w2 H => noTake (.zero b (H.get (i := 0) rfl)) 4 1) fun w2 H => ?_
  refine ⟨(zD, false, ()), QCalls.of (s := .tup [eD, .one .bool]) (fun w' h => noOf .nil f), ?_⟩
  refine AlP.go H fun b1 w3 H => StP.all 0 H rfl rfl rfl fun w4 H => brP_pos rfl ?_
  refine CaP.val H (s := .el (.one (.int .i64))) (10 : Int) (fun w3 H => noGive .nil f) fun w4 H => brP_pos rfl ?_
  refine CaP.val H (s := .el (.one (.int .i64))) (10 : Int) (fun w3 H => noTurn (.zero b (H.get (i := 1) rfl)) f 0 0) fun w4 H => brP_pos rfl ?_
  refine CaP.val H (s := .el (.one (.int .i64))) (10 : Int) (fun w3 H => noRef .nil f 1) fun w4 H => ?_
  refine ⟨0, fun _ => QCalls.of (s := .el (.one (.int .i64))) (fun w' h => noCount .nil 0), brP_pos rfl ?_⟩
  refine CaP.val H (s := .el (.one .slice)) ((none, 0, 0) : Option Addr × Nat × Nat) (fun w3 H => noOwned (.zero b (H.get (i := 1) rfl)) 0) fun w4 H => ?_
  refine ⟨0, fun _ => NoP.nil.len, brP_pos rfl ?_⟩
  refine CaP.val H (s := .el (.one .ptr)) (none : Option Addr) (fun w3 H => noCopy .nil) fun w4 H => brP_pos rfl ?_
  refine CaP.val H (s := .el (.one .ptr)) (none : Option Addr) (fun w3 H => noCopy (.zero b (H.get (i := 1) rfl))) fun w4 H => brP_pos rfl ?_
  exact CaP.val H (s := .el (.one .bool)) true (fun w3 H => pknown_ok w3) fun w4 H => EnP.go H fun w5 H => ⟨rfl, H.all⟩
end Go.Proofs.Ytogndkmclingeaa
