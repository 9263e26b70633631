import Derived.Test.YtogndkmclingeaaQ5
namespace Go.Proofs.Ytogndkmclingeaa
set_option linter.unusedSimpArgs false
set_option linter.unusedVariables false
open Go.RX
noncomputable def eNext : Entry Try.prog where
  f := 32
  fn l := match l with
    | [.agg ⟨[.int .i64 k, .int .i64 o, .int .i64 r, .int .i64 e]⟩, .int .i64 x, .int .i64 y] => some (True, .tuple ⟨[.agg ⟨[.int .i64 (nextK k o r e x y), .int .i64 (nextO k o r e x y), .int .i64 0, .int .i64 0]⟩, .int .i64 (nextE k o r e x y)]⟩)
    | _ => none
  ok args pre v h hp w := by
    split at h
    · rename_i k o r e x y
      cases h
      exact entry_of (next_ok k o r e x y w)
    · cases h
noncomputable def eRNext : Entry Try.prog where
  f := 37
  fn l := match l with
    | [.agg ⟨[.int .i64 k, .int .i64 o, .int .i64 r, .int .i64 e]⟩, .int .i64 x, .int .i64 y] => some (True, .tuple ⟨[.agg ⟨[.int .i64 (nextK k o r e x y), .int .i64 (nextO k o r e x y), .int .i64 0, .int .i64 0]⟩, .int .i64 (nextE k o r e x y)]⟩)
    | _ => none
  ok args pre v h hp w := by
    split at h
    · rename_i k o r e x y
      cases h
      exact entry_of (rnext_ok k o r e x y w)
    · cases h
noncomputable def eRef : Entry Try.prog where
  f := 34
  fn l := match l with
    | [.agg ⟨[.int .i64 k, .int .i64 o, .int .i64 r, .int .i64 e]⟩, .int .i64 x] => some ((-9223372036854775808 ≤ x ∧ x < 9223372036854775808), .tuple ⟨[.agg ⟨[.int .i64 (refV k o r e x).1, .int .i64 (refV k o r e x).2.1, .int .i64 (refV k o r e x).2.2.1, .int .i64 (refV k o r e x).2.2.2.1]⟩, .int .i64 (refE k o r e x)]⟩)
    | _ => none
  ok args pre v h hp w := by
    split at h
    · rename_i k o r e x
      cases h
      exact entry_of (ref_ok k o r e x hp w)
    · cases h
noncomputable def eRRef : Entry Try.prog where
  f := 38
  fn l := match l with
    | [.agg ⟨[.int .i64 k, .int .i64 o, .int .i64 r, .int .i64 e]⟩, .int .i64 x] => some ((-9223372036854775808 ≤ x ∧ x < 9223372036854775808), .tuple ⟨[.agg ⟨[.int .i64 (refV k o r e x).1, .int .i64 (refV k o r e x).2.1, .int .i64 (refV k o r e x).2.2.1, .int .i64 (refV k o r e x).2.2.2.1]⟩, .int .i64 (refE k o r e x)]⟩)
    | _ => none
  ok args pre v h hp w := by
    split at h
    · rename_i k o r e x
      cases h
      exact entry_of (rref_ok k o r e x hp w)
    · cases h
noncomputable def D3 : Cfg Try.prog := { D0 with share := false, tab := [eCan, eRLeads, eWithin, eRight, eRRight, eNext, eRNext, eRef, eRRef] }
end Go.Proofs.Ytogndkmclingeaa
