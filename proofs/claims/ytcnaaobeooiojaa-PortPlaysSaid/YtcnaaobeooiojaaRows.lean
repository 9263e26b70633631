/-
  No cell of these rows narrows 'for every input' (looked for: loops, veiled, ifaces, maps, wideKeys, modest, calm, conditions, laid).
  DERIVED. THE GIVEN ROWS OF THIS SEAT. 6 by the template 'for every input the law returns true; each argument reads behind the call as it read before'; 0 by the template 'total and deterministic' (their statements: YtcnaaobeooiojaaTotals.lean).
  GIVEN WITH THE SEED: the statements are not yours to turn. If you find one false, say at which input.
  Laid BY PROGRAM, IN A SANDBOX (cutbox-rows.mjs): the forced cells as the released guide's own fill.sh prints them over the translation dc8270839cc7f840… (all of the seat's roots in one cut). By AI agents, Wed Nov 11 2026. No macro, syntax, notation, axiom, sorry.
-/
import Derived.Test.YtcnaaobeooiojaaChecked
import GoSem.Claim
import GoSem.ClaimJoined
import GoSem.ClaimMapViews
import Derived.JoinedTies
import Derived.KernelRfl
namespace Go.Proofs.Ytcnaaobeooiojaa
/- THE CELL 'sum', in the pinned program and in every row, IS THE sha256 OF THE DUMP (.gsa) THAT YtcnaaobeooiojaaProg.lean LOADS. Nothing in Lean hashes anything: it is a label: what it is worth is what the hold of that sum in a sandbox is worth. -/
noncomputable def Try.pinned : Pinned := { name := "ytcnaaobeooiojaa", sum := "dc8270839cc7f840d311fe959e4b2f20fad38221bf322b8f2d63c8a289bafbe4", checked := Try.checked }
namespace Rows
def none {H : Type} : Left H := { results := [], args := [] }

/-- 'matryoshkalaw20.PortPlays': WHATEVER THE INPUT: true; the input reads as it did. -/
def portPlaysSpec : ChangeSpec := { name := "portPlays", fn := fun _ => fun
  | [d1, d2] => { results := [.lit (.bool true)], args := [d1, d2] }
  | _ => none }
def portPlaysRow : OpenClaim := { program := "ytcnaaobeooiojaa", sum := "dc8270839cc7f840d311fe959e4b2f20fad38221bf322b8f2d63c8a289bafbe4", func := "matryoshka/matryoshkalaw20.PortPlays", spec := "portPlays", apart := false }
def PortPlaysSaid : Prop := portPlaysRow.holds Try.pinned (OpenSpec.ofChange portPlaysSpec)

/-- ITS FALSE NEIGHBOUR: 'it returns false'. Refute it at one input. -/
def portPlaysWrong : ChangeSpec := { name := "portPlays", fn := fun _ => fun
  | [d1, d2] => { results := [.lit (.bool false)], args := [d1, d2] }
  | _ => none }
def PortPlaysWrongFalsely : Prop := portPlaysRow.holds Try.pinned (OpenSpec.ofChange portPlaysWrong)

/-- 'matryoshkalaw20.PortPeers': WHATEVER THE INPUT: true; the input reads as it did. -/
def portPeersSpec : ChangeSpec := { name := "portPeers", fn := fun _ => fun
  | [d] => { results := [.lit (.bool true)], args := [d] }
  | _ => none }
def portPeersRow : OpenClaim := { program := "ytcnaaobeooiojaa", sum := "dc8270839cc7f840d311fe959e4b2f20fad38221bf322b8f2d63c8a289bafbe4", func := "matryoshka/matryoshkalaw20.PortPeers", spec := "portPeers", apart := false }
def PortPeersSaid : Prop := portPeersRow.holds Try.pinned (OpenSpec.ofChange portPeersSpec)

/-- ITS FALSE NEIGHBOUR: 'it returns false'. Refute it at one input. -/
def portPeersWrong : ChangeSpec := { name := "portPeers", fn := fun _ => fun
  | [d] => { results := [.lit (.bool false)], args := [d] }
  | _ => none }
def PortPeersWrongFalsely : Prop := portPeersRow.holds Try.pinned (OpenSpec.ofChange portPeersWrong)

/-- 'matryoshkalaw20.PortEvents': WHATEVER THE INPUT: true; the input reads as it did. -/
def portEventsSpec : ChangeSpec := { name := "portEvents", fn := fun _ => fun
  | [d] => { results := [.lit (.bool true)], args := [d] }
  | _ => none }
def portEventsRow : OpenClaim := { program := "ytcnaaobeooiojaa", sum := "dc8270839cc7f840d311fe959e4b2f20fad38221bf322b8f2d63c8a289bafbe4", func := "matryoshka/matryoshkalaw20.PortEvents", spec := "portEvents", apart := false }
def PortEventsSaid : Prop := portEventsRow.holds Try.pinned (OpenSpec.ofChange portEventsSpec)

/-- ITS FALSE NEIGHBOUR: 'it returns false'. Refute it at one input. -/
def portEventsWrong : ChangeSpec := { name := "portEvents", fn := fun _ => fun
  | [d] => { results := [.lit (.bool false)], args := [d] }
  | _ => none }
def PortEventsWrongFalsely : Prop := portEventsRow.holds Try.pinned (OpenSpec.ofChange portEventsWrong)

/-- 'matryoshkalaw20.PortDrops': WHATEVER THE INPUT: true; the input reads as it did. -/
def portDropsSpec : ChangeSpec := { name := "portDrops", fn := fun _ => fun
  | [d1, d2] => { results := [.lit (.bool true)], args := [d1, d2] }
  | _ => none }
def portDropsRow : OpenClaim := { program := "ytcnaaobeooiojaa", sum := "dc8270839cc7f840d311fe959e4b2f20fad38221bf322b8f2d63c8a289bafbe4", func := "matryoshka/matryoshkalaw20.PortDrops", spec := "portDrops", apart := false }
def PortDropsSaid : Prop := portDropsRow.holds Try.pinned (OpenSpec.ofChange portDropsSpec)

/-- ITS FALSE NEIGHBOUR: 'it returns false'. Refute it at one input. -/
def portDropsWrong : ChangeSpec := { name := "portDrops", fn := fun _ => fun
  | [d1, d2] => { results := [.lit (.bool false)], args := [d1, d2] }
  | _ => none }
def PortDropsWrongFalsely : Prop := portDropsRow.holds Try.pinned (OpenSpec.ofChange portDropsWrong)

/-- 'matryoshkalaw20.PortNil': WHATEVER THE INPUT: true; the input reads as it did. -/
def portNilSpec : ChangeSpec := { name := "portNil", fn := fun _ => fun
  | [d] => { results := [.lit (.bool true)], args := [d] }
  | _ => none }
def portNilRow : OpenClaim := { program := "ytcnaaobeooiojaa", sum := "dc8270839cc7f840d311fe959e4b2f20fad38221bf322b8f2d63c8a289bafbe4", func := "matryoshka/matryoshkalaw20.PortNil", spec := "portNil", apart := false }
def PortNilSaid : Prop := portNilRow.holds Try.pinned (OpenSpec.ofChange portNilSpec)

/-- ITS FALSE NEIGHBOUR: 'it returns false'. Refute it at one input. -/
def portNilWrong : ChangeSpec := { name := "portNil", fn := fun _ => fun
  | [d] => { results := [.lit (.bool false)], args := [d] }
  | _ => none }
def PortNilWrongFalsely : Prop := portNilRow.holds Try.pinned (OpenSpec.ofChange portNilWrong)

/-- 'matryoshkalaw20.PortFull': WHATEVER THE INPUT: true; the input reads as it did. -/
def portFullSpec : ChangeSpec := { name := "portFull", fn := fun _ => fun
  | [d1, d2, d3] => { results := [.lit (.bool true)], args := [d1, d2, d3] }
  | _ => none }
def portFullRow : OpenClaim := { program := "ytcnaaobeooiojaa", sum := "dc8270839cc7f840d311fe959e4b2f20fad38221bf322b8f2d63c8a289bafbe4", func := "matryoshka/matryoshkalaw20.PortFull", spec := "portFull", apart := false }
def PortFullSaid : Prop := portFullRow.holds Try.pinned (OpenSpec.ofChange portFullSpec)

/-- ITS FALSE NEIGHBOUR: 'it returns false'. Refute it at one input. -/
def portFullWrong : ChangeSpec := { name := "portFull", fn := fun _ => fun
  | [d1, d2, d3] => { results := [.lit (.bool false)], args := [d1, d2, d3] }
  | _ => none }
def PortFullWrongFalsely : Prop := portFullRow.holds Try.pinned (OpenSpec.ofChange portFullWrong)

/- THE SECOND FORM. 'bulk': how many values and letters a reading holds, each counted each time it is reached (what is shared counts as often as it is met; a slice's spare places count too). A statement '..UptoSaid' is the law's where the arguments, and the package variables that the reading takes, are together of bulk at most 1048576: NARROWER than '..Said'. Prove '..Said' where nothing that the law and all that it calls make is longer than what came in: it says more and counts as full. Else prove '..UptoSaid'. A law counts once. -/
mutual
def uptoBulk {H : Type} : DataW H → Nat
  | .lit (.string bytes) => bytes.length + 1
  | .lit _ => 1
  | .nil => 1
  | .ptr d => uptoBulk d + 1
  | .slice elems spare => uptoBulkAll elems + uptoBulkAll spare + 1
  | .agg parts => uptoBulkAll parts + 1
  | .iface _ d => uptoBulk d + 1
  | .map entries => uptoBulkEntries entries + 1
  | .held _ => 1
def uptoBulkAll {H : Type} : List (DataW H) → Nat
  | [] => 0
  | d :: r => uptoBulk d + uptoBulkAll r
def uptoBulkEntries {H : Type} : List (Lit × DataW H) → Nat
  | [] => 0
  | x :: r => uptoBulkEntry x + uptoBulkEntries r
def uptoBulkEntry {H : Type} : Lit × DataW H → Nat
  | (.string bytes, d) => bytes.length + uptoBulk d + 1
  | (_, d) => uptoBulk d + 1
 end
def uptoSmall : (H : Type) → List (DataW H) → Bool := fun _ ds => decide (uptoBulkAll ds ≤ 1048576)
def OpenSpec.upto (s : _root_.Go.ChangeSpec) : _root_.Go.OpenSpec := { _root_.Go.OpenSpec.ofChange s with cond := some uptoSmall }

/-- 'matryoshkalaw20.PortPlays', WHERE WHAT IT READS IS OF BULK AT MOST 1048576: true; the input reads as it did. -/
def portPlaysUptoRow : OpenClaim := { program := "ytcnaaobeooiojaa", sum := "dc8270839cc7f840d311fe959e4b2f20fad38221bf322b8f2d63c8a289bafbe4", func := "matryoshka/matryoshkalaw20.PortPlays", spec := "portPlays", apart := false, narrowed := true }
def PortPlaysUptoSaid : Prop := portPlaysUptoRow.holds Try.pinned (OpenSpec.upto portPlaysSpec)

/-- 'matryoshkalaw20.PortPeers', WHERE WHAT IT READS IS OF BULK AT MOST 1048576: true; the input reads as it did. -/
def portPeersUptoRow : OpenClaim := { program := "ytcnaaobeooiojaa", sum := "dc8270839cc7f840d311fe959e4b2f20fad38221bf322b8f2d63c8a289bafbe4", func := "matryoshka/matryoshkalaw20.PortPeers", spec := "portPeers", apart := false, narrowed := true }
def PortPeersUptoSaid : Prop := portPeersUptoRow.holds Try.pinned (OpenSpec.upto portPeersSpec)

/-- 'matryoshkalaw20.PortEvents', WHERE WHAT IT READS IS OF BULK AT MOST 1048576: true; the input reads as it did. -/
def portEventsUptoRow : OpenClaim := { program := "ytcnaaobeooiojaa", sum := "dc8270839cc7f840d311fe959e4b2f20fad38221bf322b8f2d63c8a289bafbe4", func := "matryoshka/matryoshkalaw20.PortEvents", spec := "portEvents", apart := false, narrowed := true }
def PortEventsUptoSaid : Prop := portEventsUptoRow.holds Try.pinned (OpenSpec.upto portEventsSpec)

/-- 'matryoshkalaw20.PortDrops', WHERE WHAT IT READS IS OF BULK AT MOST 1048576: true; the input reads as it did. -/
def portDropsUptoRow : OpenClaim := { program := "ytcnaaobeooiojaa", sum := "dc8270839cc7f840d311fe959e4b2f20fad38221bf322b8f2d63c8a289bafbe4", func := "matryoshka/matryoshkalaw20.PortDrops", spec := "portDrops", apart := false, narrowed := true }
def PortDropsUptoSaid : Prop := portDropsUptoRow.holds Try.pinned (OpenSpec.upto portDropsSpec)

/-- 'matryoshkalaw20.PortNil', WHERE WHAT IT READS IS OF BULK AT MOST 1048576: true; the input reads as it did. -/
def portNilUptoRow : OpenClaim := { program := "ytcnaaobeooiojaa", sum := "dc8270839cc7f840d311fe959e4b2f20fad38221bf322b8f2d63c8a289bafbe4", func := "matryoshka/matryoshkalaw20.PortNil", spec := "portNil", apart := false, narrowed := true }
def PortNilUptoSaid : Prop := portNilUptoRow.holds Try.pinned (OpenSpec.upto portNilSpec)

/-- 'matryoshkalaw20.PortFull', WHERE WHAT IT READS IS OF BULK AT MOST 1048576: true; the input reads as it did. -/
def portFullUptoRow : OpenClaim := { program := "ytcnaaobeooiojaa", sum := "dc8270839cc7f840d311fe959e4b2f20fad38221bf322b8f2d63c8a289bafbe4", func := "matryoshka/matryoshkalaw20.PortFull", spec := "portFull", apart := false, narrowed := true }
def PortFullUptoSaid : Prop := portFullUptoRow.holds Try.pinned (OpenSpec.upto portFullSpec)

end Rows
end Go.Proofs.Ytcnaaobeooiojaa
