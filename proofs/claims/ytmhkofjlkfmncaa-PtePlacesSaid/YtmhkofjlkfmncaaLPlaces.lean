import Derived.Test.YtmhkofjlkfmncaaP6
import Derived.Test.YtmhkofjlkfmncaaLift
namespace Go.Proofs.Ytmhkofjlkfmncaa
open Go.RX
def places_vc_ann : Nat → Slots := (fun _ => [])
theorem places_vc (z x y : Int) (w : World) (Post : Bool → World → Prop) : (rxFn D4 places_vc_ann 4 [.int .i64 z, .int .i64 x, .int .i64 y] w Post) = (
 True ∧
  ∀ (x_1 : Int),
   x_1 = indexI x y →
    True ∧
     ∀ (x_2 : Int),
      x_2 = indexI x y →
       ((x_1 == x_2) = true → True) ∧
        ∀ (x_3 : Int),
         x_3 = atI z x y →
          ((x_1 == x_2) = true → True) ∧
           ∀ (x_4 : Int),
            x_4 = atI z x y →
             ((x_1 == x_2 && x_3 == x_4) = true → True) ∧
              ∀ (x : Int),
               x = spanI y → ((x_1 == x_2 && x_3 == x_4) = true → True) ∧ ∀ (x_5 : Int), x_5 = spanI y → ((x_1 == x_2 && x_3 == x_4 && x == x_5) = true → True) ∧ ∀ (w1 : World), Ext w w1 → Post (x_1 == x_2 && x_3 == x_4 && x == x_5 && true) w1) := by kernel_rfl
theorem places_row (z : Int) (_ : (Lit.int .i64 z).wf = true) (x : Int) (_ : (Lit.int .i64 x).wf = true) (y : Int) (_ : (Lit.int .i64 y).wf = true) (w : World) :
    CallsR Try.prog 4 (.el (.one .bool)) [.int .i64 z, .int .i64 x, .int .i64 y] w (fun b w' => b = true ∧ Ext w w') := by
  refine rxFn_ok (C := D4) (ann := places_vc_ann) (Eq.mpr (places_vc z x y w _) ?_)
  refine ⟨trivial, fun x1 e1 => ⟨trivial, fun x2 e2 => ⟨fun _ => trivial, fun x3 e3 => ⟨fun _ => trivial, fun x4 e4 => ⟨fun _ => trivial, fun x5 e5 => ⟨fun _ => trivial, fun x6 e6 => ⟨fun _ => trivial, fun w1 h1 => ⟨?_, h1⟩⟩⟩⟩⟩⟩⟩⟩
  subst e1; subst e2; subst e3; subst e4; subst e5; subst e6
  simp
end Go.Proofs.Ytmhkofjlkfmncaa
