import Derived.Test.YtogndkmclingeaaQ6
import Derived.Test.YtogndkmclingeaaLift
namespace Go.Proofs.Ytogndkmclingeaa
set_option linter.unusedSimpArgs false
set_option linter.unusedVariables false
open Go.RX
noncomputable def D4 : Cfg Try.prog := { D3 with tab := [eCan, eRLeads, eWithin, eRight, eRRight, eNext, eRNext, eRef, eRRef] }
abbrev dS : List Sc := [.int .i64, .int .i64, .int .i64, .int .i64]
abbrev iS : List Sc := [.int .i64, .int .i64]
theorem beq_ba (a : ByteArray) : (a == a) = true := by
  obtain ⟨d⟩ := a
  show (d == d) = true
  simp
end Go.Proofs.Ytogndkmclingeaa
