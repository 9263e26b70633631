import Derived.Test.YtffnfcokgemgjaaP3
namespace Go.Proofs.Ytffnfcokgemgjaa
set_option linter.unusedSimpArgs false
set_option linter.unusedVariables false
set_option maxRecDepth 100000
open Go.RX
noncomputable def eTable : Entry Try.prog where
  f := 48
  fn l := match l with
    | [.agg ⟨[.bool p, .int .i64 r, .bool l, .int .i64 f]⟩] => some (True, .bool (tableE p r l f))
    | _ => none
  ok args pre v h hp w := by
    split at h
    · rename_i p r l f
      cases h
      exact entry_of (table_ok p r l f w)
    · cases h
noncomputable def eRTable : Entry Try.prog where
  f := 39
  fn l := match l with
    | [.agg ⟨[.bool p, .int .i64 r, .bool l, .int .i64 f]⟩] => some (True, .bool (tableE p r l f))
    | _ => none
  ok args pre v h hp w := by
    split at h
    · rename_i p r l f
      cases h
      exact entry_of (rtable_ok p r l f w)
    · cases h
noncomputable def eAllows : Entry Try.prog where
  f := 68
  fn l := match l with
    | [.agg ⟨[.bool p, .int .i64 r, .bool l, .int .i64 f]⟩, .int .i64 t] => some (True, .bool (allowsE p r l f t))
    | _ => none
  ok args pre v h hp w := by
    split at h
    · rename_i p r l f t
      cases h
      exact entry_of (allows_ok p r l f t w)
    · cases h
noncomputable def eRAllows : Entry Try.prog where
  f := 62
  fn l := match l with
    | [.agg ⟨[.bool p, .int .i64 r, .bool l, .int .i64 f]⟩, .int .i64 t] => some (True, .bool (allowsE p r l f t))
    | _ => none
  ok args pre v h hp w := by
    split at h
    · rename_i p r l f t
      cases h
      exact entry_of (rallows_ok p r l f t w)
    · cases h
noncomputable def eIndex : Entry Try.prog where
  f := 55
  fn l := match l with
    | [.int .i64 x, .int .i64 y] => some (True, .int .i64 (indexI x y))
    | _ => none
  ok args pre v h hp w := by
    split at h
    · rename_i x y
      cases h
      exact entry_of (index_ok x y w)
    · cases h
noncomputable def eRIndex : Entry Try.prog where
  f := 33
  fn l := match l with
    | [.int .i64 x, .int .i64 y] => some (True, .int .i64 (indexI x y))
    | _ => none
  ok args pre v h hp w := by
    split at h
    · rename_i x y
      cases h
      exact entry_of (rindex_ok x y w)
    · cases h
noncomputable def eRPack : Entry Try.prog where
  f := 60
  fn l := match l with
    | [.agg ⟨[.bool p, .int .i64 r, .bool l, .int .i64 f]⟩] => some (True, .tuple ⟨[.int .u64 (pkW p r l f), .int .i64 (pkE p r l f)]⟩)
    | _ => none
  ok args pre v h hp w := by
    split at h
    · rename_i p r l f
      cases h
      exact entry_of (rpack_ok' p r l f w)
    · cases h
noncomputable def eParse : Entry Try.prog where
  f := 29
  fn l := match l with
    | [.int .u64 v] => some (U (B v) = v, .tuple ⟨[.agg ⟨[.bool (prP (B v).toNat), .int .i64 (prR (B v).toNat), .bool (prL (B v).toNat), .int .i64 (prF (B v).toNat)]⟩, .bool (okV (B v).toNat)]⟩)
    | _ => none
  ok args pre v h hp w := by
    split at h
    · rename_i v
      cases h
      have := entry_of (parse_ok (B v) w)
      rw [hp] at this; exact this
    · cases h
noncomputable def D2 : Cfg Try.prog := { D0 with tab := [eFits, eIs, eBit, eOne, eMask, eRGet, eGet, eRight, eRRight, eSpan, eRSpan, eTable, eRTable, eAllows, eRAllows, eIndex, eRIndex, eRPack, eParse] }
end Go.Proofs.Ytffnfcokgemgjaa
