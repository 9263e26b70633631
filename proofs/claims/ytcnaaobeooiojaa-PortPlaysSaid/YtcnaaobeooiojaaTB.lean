import Derived.Test.YtcnaaobeooiojaaTA
namespace Go.Proofs.Ytcnaaobeooiojaa
set_option linter.unusedSimpArgs false
set_option linter.unusedVariables false
open Go.RX
theorem tnil_vc2 (n : Int) (w : World) (Post : Bool → World → Prop) : (rxFn R2 (fun _ => []) 7 [.int .i64 n] w Post) = (
 AlP w
  ⟨pcs 0 k0⟩
  63 fun (b : Nat) (w2 : World) =>
  CaP Try.prog 11 (Sh.tup [El.one (Sc.int IntKind.i64), El.one (Sc.int IntKind.i64)]) [Value.pointer none, Value.int IntKind.i64 1, Value.int IntKind.i64 2] w2 fun (x : Int × Int × Unit) (w2 : World) =>
   CaP Try.prog 11 (Sh.tup [El.one (Sc.int IntKind.i64), El.one (Sc.int IntKind.i64)]) [Value.pointer (some { block := b, off := 0 }), Value.int IntKind.i64 1, Value.int IntKind.i64 2] w2 fun (x_1 : Int × Int × Unit) (w2 : World) =>
    CaP Try.prog 13 (Sh.tup [El.one (Sc.int IntKind.i64), El.one (Sc.int IntKind.i64)]) [Value.pointer none, Value.int IntKind.i64 1, Value.int IntKind.i64 2, Value.int IntKind.i64 0] w2 fun (x_2 : Int × Int × Unit) (w2 : World) =>
     CaP Try.prog 19 (Sh.tup [El.one (Sc.int IntKind.i64), El.one Sc.bool]) [Value.pointer (some { block := b, off := 0 }), Value.int IntKind.i64 1] w2 fun (x_3 : Int × Bool × Unit) (w2 : World) =>
      ∃ (x_4 : (Int × Int × Int × Bool × Bool × Unit) × Bool × Unit),
       QCalls Try.prog 30 [Value.pointer none, Value.int IntKind.i64 1, Value.int IntKind.i64 n] w2
         (Value.tuple
          {
           toList :=
            [Value.agg { toList := [Value.int IntKind.i64 x_4.fst.fst, Value.int IntKind.i64 x_4.fst.snd.fst, Value.int IntKind.i64 x_4.fst.snd.snd.fst, Value.bool x_4.fst.snd.snd.snd.fst, Value.bool x_4.fst.snd.snd.snd.snd.fst] },
             Value.bool x_4.snd.fst] }) ∧
        AlP w2 { toList := [Value.int IntKind.i64 0, Value.int IntKind.i64 0, Value.int IntKind.i64 0, Value.bool false, Value.bool false] } 45 fun (b_1 : Nat) (w2 : World) =>
         StP w2 (some { block := b_1, off := 0 }) [Value.int IntKind.i64 x_4.fst.fst, Value.int IntKind.i64 x_4.fst.snd.fst, Value.int IntKind.i64 x_4.fst.snd.snd.fst, Value.bool x_4.fst.snd.snd.snd.fst, Value.bool x_4.fst.snd.snd.snd.snd.fst]
          fun (w2 : World) =>
          brP (x.snd.fst == 10 && x_1.snd.fst == 10 && x_2.snd.fst == 10 && !x_3.snd.fst && !x_4.snd.fst)
           (CaP Try.prog 15 (Sh.el (El.one (Sc.int IntKind.i64))) [Value.pointer none, Value.int IntKind.i64 1, Value.int IntKind.i64 n] w2 fun (x : Int) (w2 : World) =>
            brP (x == 10)
             (CaP Try.prog 17 (Sh.el (El.one (Sc.int IntKind.i64))) [Value.pointer (some { block := b, off := 0 }), Value.int IntKind.i64 1, Value.int IntKind.i64 n, Value.bool true] w2 fun (x : Int) (w2 : World) =>
              brP (x == 10)
               (CaP Try.prog 21 (Sh.el (El.one (Sc.int IntKind.i64))) [Value.pointer none, Value.int IntKind.i64 1, Value.int IntKind.i64 n] w2 fun (x : Int) (w2 : World) =>
                brP (x == 10)
                 (CaP Try.prog 23 (Sh.el (El.one (Sc.int IntKind.i64))) [Value.pointer none, Value.int IntKind.i64 n] w2 fun (x : Int) (w2 : World) =>
                  brP (x == 0)
                   (CaP Try.prog 26 (Sh.el (El.one Sc.slice)) [Value.pointer (some { block := b, off := 0 }), Value.int IntKind.i64 1] w2 fun (x : Option Addr × Nat × Nat) (w2 : World) =>
                    ∃ (x_5 : Bool),
                     (((↑x.snd.fst : Int) == 0) = true → QCalls Try.prog 28 [Value.pointer none, Value.int IntKind.i64 1, Value.int IntKind.i64 1] w2 (Value.bool x_5)) ∧
                      ∃ (x_6 : Bool),
                       (((↑x.snd.fst : Int) == 0 && !x_5) = true → QCalls Try.prog 28 [Value.pointer (some { block := b, off := 0 }), Value.int IntKind.i64 1, Value.int IntKind.i64 1] w2 (Value.bool x_6)) ∧
                        brP ((↑x.snd.fst : Int) == 0 && !x_5 && !x_6) (CaP Try.prog 33 (Sh.el (El.one Sc.bool)) [] w2 fun (x : Bool) (w2 : World) => EnP w2 fun (w1 : World) => Post x w1) (EnP w2 fun (w1 : World) => Post false w1))
                   (∃ (x : Bool),
                    (false = true → QCalls Try.prog 28 [Value.pointer none, Value.int IntKind.i64 1, Value.int IntKind.i64 1] w2 (Value.bool x)) ∧
                     ∃ (x : Bool), (false = true → QCalls Try.prog 28 [Value.pointer (some { block := b, off := 0 }), Value.int IntKind.i64 1, Value.int IntKind.i64 1] w2 (Value.bool x)) ∧ EnP w2 fun (w1 : World) => Post false w1))
                 (∃ (x : Bool),
                  (false = true → QCalls Try.prog 28 [Value.pointer none, Value.int IntKind.i64 1, Value.int IntKind.i64 1] w2 (Value.bool x)) ∧
                   ∃ (x : Bool), (false = true → QCalls Try.prog 28 [Value.pointer (some { block := b, off := 0 }), Value.int IntKind.i64 1, Value.int IntKind.i64 1] w2 (Value.bool x)) ∧ EnP w2 fun (w1 : World) => Post false w1))
               (∃ (x : Bool),
                (false = true → QCalls Try.prog 28 [Value.pointer none, Value.int IntKind.i64 1, Value.int IntKind.i64 1] w2 (Value.bool x)) ∧
                 ∃ (x : Bool), (false = true → QCalls Try.prog 28 [Value.pointer (some { block := b, off := 0 }), Value.int IntKind.i64 1, Value.int IntKind.i64 1] w2 (Value.bool x)) ∧ EnP w2 fun (w1 : World) => Post false w1))
             (∃ (x : Bool),
              (false = true → QCalls Try.prog 28 [Value.pointer none, Value.int IntKind.i64 1, Value.int IntKind.i64 1] w2 (Value.bool x)) ∧
               ∃ (x : Bool), (false = true → QCalls Try.prog 28 [Value.pointer (some { block := b, off := 0 }), Value.int IntKind.i64 1, Value.int IntKind.i64 1] w2 (Value.bool x)) ∧ EnP w2 fun (w1 : World) => Post false w1))
           (∃ (x : Bool),
            (false = true → QCalls Try.prog 28 [Value.pointer none, Value.int IntKind.i64 1, Value.int IntKind.i64 1] w2 (Value.bool x)) ∧
             ∃ (x : Bool), (false = true → QCalls Try.prog 28 [Value.pointer (some { block := b, off := 0 }), Value.int IntKind.i64 1, Value.int IntKind.i64 1] w2 (Value.bool x)) ∧ EnP w2 fun (w1 : World) => Post false w1)) := by kernel_rfl

/-- Ports that are not there. -/
inductive NoQ (w : World) : Option Addr → Prop
  | nil : NoQ w none
  | zero (bp : Nat) (h : Blk w bp (pcs 0 k0)) : NoQ w (some ⟨bp, 0, none⟩)
theorem NoQ.ext {w w' : World} {p : Option Addr} (h : NoQ w p) (k : Ext w w') : NoQ w' p := by
  cases h with
  | nil => exact .nil
  | zero bp h => exact .zero bp (h.ext k)
section
variable {w : World} {p : Option Addr}
theorem noThere (hp : NoQ w p) : CallsR Try.prog 40 (.el (.one .bool)) [.pointer p] w (fun x w' => x = false ∧ Ext w w') := by
  cases hp with
  | nil => exact there_nil w
  | zero bp h => exact there_zero h List.length_replicate
theorem noThere_q (hp : NoQ w p) : QCalls Try.prog 40 [.pointer p] w (.bool false) := QCalls.of (s := .el (.one .bool)) fun w' h' => noThere (hp.ext h')
theorem noAt (hp : NoQ w p) (g i : Int) : CallsR Try.prog 38 (.el (.one .ptr)) [.pointer p, .int .i64 g, .int .i64 i] w (fun x w' => x = none ∧ Ext w w') := by
  refine rxFn_ok (C := R1) (ann := fun _ => []) (Eq.mpr (at_vc _ g i w _) ?_)
  exact ⟨false, noThere_q hp, fun _ => trivial, fun h => by simp at h, fun h => by simp at h, (0 : Int), fun h => by simp at h, brP_pos rfl fun w1 h1 => ⟨rfl, h1⟩⟩
theorem noAt_q (hp : NoQ w p) (g i : Int) : QCalls Try.prog 38 [.pointer p, .int .i64 g, .int .i64 i] w (.pointer none) := QCalls.of (s := .el (.one .ptr)) fun w' h' => noAt (hp.ext h') g i
theorem noTwo_q (hp : NoQ w p) (g i : Int) : QCalls Try.prog 34 [.pointer p, .int .i64 g, .int .i64 i] w (.int .i64 10) := QCalls.of (s := .el (.one (.int .i64))) fun w' h' => by
  refine rxFn_ok (C := R1) (ann := fun _ => []) (Eq.mpr (two_vc _ g i w' _) ?_)
  exact ⟨false, noThere_q (hp.ext h'), brP_pos rfl fun w1 h1 => ⟨rfl, h1⟩⟩
theorem noMiss_q (hp : NoQ w p) : QCalls Try.prog 39 [.pointer p] w (.int .i64 10) := QCalls.of (s := .el (.one (.int .i64))) fun w' h' => by
  refine rxFn_ok (C := R1) (ann := fun _ => []) (Eq.mpr (miss_vc _ w' _) ?_)
  exact ⟨false, noThere_q (hp.ext h'), brP_pos rfl fun w1 h1 => ⟨rfl, h1⟩⟩
theorem noOpen (hp : NoQ w p) (g r : Int) : CallsR Try.prog 11 (.tup [.one (.int .i64), .one (.int .i64)]) [.pointer p, .int .i64 g, .int .i64 r] w (fun x w' => x = (0, 10, ()) ∧ Ext w w') := by
  refine rxFn_ok (C := R1) (ann := fun _ => []) (Eq.mpr (popen_vc _ g r w _) ?_)
  exact ⟨_, noTwo_q hp g r, brP_pos rfl fun w1 h1 => ⟨rfl, h1⟩⟩
theorem noBind (hp : NoQ w p) (g r i : Int) : CallsR Try.prog 13 (.tup [.one (.int .i64), .one (.int .i64)]) [.pointer p, .int .i64 g, .int .i64 r, .int .i64 i] w (fun x w' => x = (0, 10, ()) ∧ Ext w w') := by
  refine rxFn_ok (C := R1) (ann := fun _ => []) (Eq.mpr (pbind_vc _ g r i w _) ?_)
  exact ⟨_, noTwo_q hp g r, brP_pos rfl fun w1 h1 => ⟨rfl, h1⟩⟩
theorem noSend (hp : NoQ w p) (g i : Int) : CallsR Try.prog 15 (.el (.one (.int .i64))) [.pointer p, .int .i64 g, .int .i64 i] w (fun x w' => x = 10 ∧ Ext w w') := by
  refine rxFn_ok (C := R1) (ann := fun _ => []) (Eq.mpr (psend_vc _ g i w _) ?_)
  exact ⟨none, noAt_q hp g i, brP_pos rfl ⟨_, noMiss_q hp, fun w1 h1 => ⟨rfl, h1⟩⟩⟩
theorem noMask (hp : NoQ w p) (g i : Int) (b : Bool) : CallsR Try.prog 17 (.el (.one (.int .i64))) [.pointer p, .int .i64 g, .int .i64 i, .bool b] w (fun x w' => x = 10 ∧ Ext w w') := by
  refine rxFn_ok (C := R1) (ann := fun _ => []) (Eq.mpr (pmask_vc _ g i b w _) ?_)
  exact ⟨none, noAt_q hp g i, brP_pos rfl ⟨_, noMiss_q hp, fun w1 h1 => ⟨rfl, h1⟩⟩⟩
theorem noClose (hp : NoQ w p) (g i : Int) : CallsR Try.prog 21 (.el (.one (.int .i64))) [.pointer p, .int .i64 g, .int .i64 i] w (fun x w' => x = 10 ∧ Ext w w') := by
  refine rxFn_ok (C := R1) (ann := fun _ => []) (Eq.mpr (pclose_vc _ g i w _) ?_)
  exact ⟨none, noAt_q hp g i, brP_pos rfl ⟨_, noMiss_q hp, fun w1 h1 => ⟨rfl, h1⟩⟩⟩
theorem noDrop (hp : NoQ w p) (g : Int) : CallsR Try.prog 23 (.el (.one (.int .i64))) [.pointer p, .int .i64 g] w (fun x w' => x = 0 ∧ Ext w w') := by
  refine rxFn_ok (C := R1) (ann := pdrop_vc_ann) (Eq.mpr (pdrop_vc _ g w _) ?_)
  exact ⟨false, noThere_q hp, fun _ => trivial, brP_pos rfl fun w1 h1 => ⟨rfl, h1⟩⟩
theorem noPend (hp : NoQ w p) (g : Int) : CallsR Try.prog 26 (.el (.one .slice)) [.pointer p, .int .i64 g] w (fun x w' => x = (none, 0, 0) ∧ Ext w w') := by
  refine rxFn_ok (C := R1) (ann := ppend_vc_ann) (Eq.mpr (ppend_vc _ g w _) ?_)
  exact ⟨false, noThere_q hp, brP_pos rfl fun w1 h1 => ⟨rfl, h1⟩⟩
theorem noTake (hp : NoQ w p) (g : Int) : CallsR Try.prog 19 (.tup [.one (.int .i64), .one .bool]) [.pointer p, .int .i64 g] w (fun x w' => x = (0, false, ()) ∧ Ext w w') := by
  refine rxFn_ok (C := R1) (ann := fun _ => []) (Eq.mpr (ptake_vc _ g w _) ?_)
  have H := At.start [] w
  exact CaP.val H (s := .el (.one .slice)) (none, 0, 0) (fun w1 H => noPend (hp.ext H.all) g) fun w2 H => brP_pos rfl (EnP.go H fun w3 H => ⟨rfl, H.all⟩)
theorem noOf_q (hp : NoQ w p) (g i : Int) : QCalls Try.prog 30 [.pointer p, .int .i64 g, .int .i64 i] w ((Sh.tup [eQ, .one .bool]).emb (zP, false, ())) := QCalls.of (s := .tup [eQ, .one .bool]) fun w' h' => by
  refine rxFnR_ok (C := R1) (ann := fun _ => []) (Eq.mpr (pofp_vc _ g i w' _) ?_)
  have H := At.start [] w'
  refine AlP.go H fun b w2 H => ⟨none, noAt_q ((hp.ext h').ext H.all) g i, brP_pos rfl (StP.all 0 H rfl rfl rfl fun w3 H => EnP.go H fun w4 H => LdP.at 0 H rfl rfl ⟨rfl, H.all⟩)⟩
theorem noLinked_q (hp : NoQ w p) (a b : Int) : QCalls Try.prog 28 [.pointer p, .int .i64 a, .int .i64 b] w (.bool false) := QCalls.of (s := .el (.one .bool)) fun w' h' => by
  refine rxFn_ok (C := R1) (ann := plinked_vc_ann) (Eq.mpr (plinked_vc _ a b w' _) ?_)
  exact ⟨false, noThere_q (hp.ext h'), fun _ => trivial, fun _ => trivial, brP_pos rfl fun w1 h1 => ⟨rfl, h1⟩⟩
end
theorem tnil_row (n : Int) (_ : (Lit.int .i64 n).wf = true) (w : World) : CallsR Try.prog 7 (.el (.one .bool)) [.int .i64 n] w (fun b w' => b = true ∧ Ext w w') := by
  refine rxFn_ok (C := R2) (ann := fun _ => []) (Eq.mpr (tnil_vc2 n w _) ?_)
  have H := At.start [] w
  refine AlP.go H fun bp w1 H => ?_
  have z : ∀ {w2 : World}, At [] w w2 [(bp, pcs 0 k0)] → NoQ w2 (some ⟨bp, 0, none⟩) := fun H => .zero bp (H.get (i := 0) rfl)
  refine CaP.val H (s := .tup [.one (.int .i64), .one (.int .i64)]) (0, 10, ()) (fun w1 H => noOpen .nil 1 2) fun w2 H => ?_
  refine CaP.val H (s := .tup [.one (.int .i64), .one (.int .i64)]) (0, 10, ()) (fun w1 H => noOpen (z H) 1 2) fun w2 H => ?_
  refine CaP.val H (s := .tup [.one (.int .i64), .one (.int .i64)]) (0, 10, ()) (fun w1 H => noBind .nil 1 2 0) fun w2 H => ?_
  refine CaP.val H (s := .tup [.one (.int .i64), .one .bool]) (0, false, ()) (fun w1 H => noTake (z H) 1) fun w2 H => ?_
  refine ⟨_, noOf_q .nil 1 n, AlP.go H fun b w3 H => StP.all 0 H rfl rfl rfl fun w4 H => brP_pos rfl ?_⟩
  have H := H.sub (List.sublist_cons_self _ _)
  refine CaP.val H (s := .el (.one (.int .i64))) 10 (fun w1 H => noSend .nil 1 n) fun w2 H => brP_pos rfl ?_
  refine CaP.val H (s := .el (.one (.int .i64))) 10 (fun w1 H => noMask (z H) 1 n true) fun w2 H => brP_pos rfl ?_
  refine CaP.val H (s := .el (.one (.int .i64))) 10 (fun w1 H => noClose .nil 1 n) fun w2 H => brP_pos rfl ?_
  refine CaP.val H (s := .el (.one (.int .i64))) 0 (fun w1 H => noDrop .nil n) fun w2 H => brP_pos rfl ?_
  refine CaP.val H (s := .el (.one .slice)) (none, 0, 0) (fun w1 H => noPend (z H) 1) fun w2 H => ?_
  refine ⟨false, fun _ => noLinked_q .nil 1 1, false, fun _ => noLinked_q (z H) 1 1, brP_pos rfl ?_⟩
  exact CaP.val H (s := .el (.one .bool)) true (fun w3 H => tknown_ok w3) fun w4 H => EnP.go H fun w5 H => ⟨rfl, H.all⟩
end Go.Proofs.Ytcnaaobeooiojaa
