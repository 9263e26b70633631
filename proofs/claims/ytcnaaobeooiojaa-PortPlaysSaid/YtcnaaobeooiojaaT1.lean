import Derived.Test.YtcnaaobeooiojaaLst
import Derived.Test.YtcnaaobeooiojaaAt
namespace Go.Proofs.Ytcnaaobeooiojaa
set_option linter.unusedSimpArgs false
set_option linter.unusedVariables false
open Go.RX
abbrev sQ : List Sc := [.int .i64, .int .i64, .int .i64, .bool, .bool]
abbrev eQ : El := .agg sQ
abbrev PT : Type := Int × Int × Int × Bool × Bool × Unit
def zP : PT := (0, 0, 0, false, false, ())
def gI (n : Int) : Bool := decide (n ≥ 1) && decide (n ≤ 16)
noncomputable def R0 : Cfg Try.prog := { C3 with share := false }
theorem guest_vc (n : Int) (w : World) (Post : Bool → World → Prop) : (rxFn R0 (fun _ => []) 41 [.int .i64 n] w Post) = (
 EnP w fun (w1 : World) => Post (decide (n ≥ 1) && decide (n ≤ 16)) w1) := by kernel_rfl
theorem rguest_vc (n : Int) (w : World) (Post : Bool → World → Prop) : (rxFn R0 (fun _ => []) 36 [.int .i64 n] w Post) = (
 EnP w fun (w1 : World) => Post (decide (n ≥ 1) && decide (n ≤ 16)) w1) := by kernel_rfl
theorem guest_ok (n : Int) (w : World) : CallsR Try.prog 41 (.el (.one .bool)) [.int .i64 n] w (fun x w' => x = gI n ∧ Ext w w') := by
  refine rxFn_ok (C := R0) (ann := fun _ => []) (Eq.mpr (guest_vc n w _) ?_)
  have H := At.start [] w
  repeat' (first
    | exact Go.RX.AtD.all H
    | exact And.intro (by first | rfl | decide +kernel) (Go.RX.AtD.all H)
    | refine And.intro (by first | exact rfl | exact trivial | exact fun _ => rfl | exact fun _ => trivial | exact ⟨rfl, by decide, by decide⟩ | exact ⟨by decide, by decide⟩ | decide +kernel | exact fun _ => by decide | exact fun _ => ⟨rfl, by decide, by decide⟩ | (dsimp only [List.length_cons, List.length_nil]; exact ⟨rfl, by decide, by decide⟩)) ?_
    | refine LdP.atA 0 H rfl rfl ?_
    | refine LdP.atA 1 H rfl rfl ?_
    | refine LdP.at 0 H rfl rfl ?_
    | refine LdP.at 1 H rfl rfl ?_
    | refine AlP.go H fun b w1 H => ?_
    | refine StP.all 0 H rfl rfl rfl fun w1 H => ?_
    | refine StP.all 1 H rfl rfl rfl fun w1 H => ?_
    | refine StP.oneA 0 H rfl rfl rfl fun w1 H => ?_
    | refine StP.oneA 1 H rfl rfl rfl fun w1 H => ?_
    | refine StP.one 0 H rfl rfl rfl fun w1 H => ?_
    | refine StP.one 1 H rfl rfl rfl fun w1 H => ?_
    | with_reducible refine EnP.go H fun w1 H => ?_
    | refine shr_go ?_
    | refine brP_pos (by assumption) ?_
    | refine brP_neg (by assumption) ?_
    | refine brP_intro (fun c => ?_) (fun c => ?_))
theorem rguest_ok (n : Int) (w : World) : CallsR Try.prog 36 (.el (.one .bool)) [.int .i64 n] w (fun x w' => x = gI n ∧ Ext w w') := by
  refine rxFn_ok (C := R0) (ann := fun _ => []) (Eq.mpr (rguest_vc n w _) ?_)
  have H := At.start [] w
  repeat' (first
    | exact Go.RX.AtD.all H
    | exact And.intro (by first | rfl | decide +kernel) (Go.RX.AtD.all H)
    | refine And.intro (by first | exact rfl | exact trivial | exact fun _ => rfl | exact fun _ => trivial | exact ⟨rfl, by decide, by decide⟩ | exact ⟨by decide, by decide⟩ | decide +kernel | exact fun _ => by decide | exact fun _ => ⟨rfl, by decide, by decide⟩ | (dsimp only [List.length_cons, List.length_nil]; exact ⟨rfl, by decide, by decide⟩)) ?_
    | refine LdP.atA 0 H rfl rfl ?_
    | refine LdP.atA 1 H rfl rfl ?_
    | refine LdP.at 0 H rfl rfl ?_
    | refine LdP.at 1 H rfl rfl ?_
    | refine AlP.go H fun b w1 H => ?_
    | refine StP.all 0 H rfl rfl rfl fun w1 H => ?_
    | refine StP.all 1 H rfl rfl rfl fun w1 H => ?_
    | refine StP.oneA 0 H rfl rfl rfl fun w1 H => ?_
    | refine StP.oneA 1 H rfl rfl rfl fun w1 H => ?_
    | refine StP.one 0 H rfl rfl rfl fun w1 H => ?_
    | refine StP.one 1 H rfl rfl rfl fun w1 H => ?_
    | with_reducible refine EnP.go H fun w1 H => ?_
    | refine shr_go ?_
    | refine brP_pos (by assumption) ?_
    | refine brP_neg (by assumption) ?_
    | refine brP_intro (fun c => ?_) (fun c => ?_))
noncomputable def eGuest : Entry Try.prog where
  f := 41
  fn l := match l with
    | [.int .i64 a] => some (True, .bool (gI a))
    | _ => none
  ok args pre v h hp w := by
    split at h
    · rename_i a
      cases h
      exact entry_of (guest_ok a w)
    · cases h
noncomputable def eRGuest : Entry Try.prog where
  f := 36
  fn l := match l with
    | [.int .i64 a] => some (True, .bool (gI a))
    | _ => none
  ok args pre v h hp w := by
    split at h
    · rename_i a
      cases h
      exact entry_of (rguest_ok a w)
    · cases h
end Go.Proofs.Ytcnaaobeooiojaa
