/-
  No cell of these rows narrows 'for every input' (looked for: loops, veiled, ifaces, maps, wideKeys, modest, calm, conditions, laid).
  DERIVED. THE GIVEN ROWS OF THIS SEAT. 12 by the template 'for every input the law returns true; each argument reads behind the call as it read before'; 0 by the template 'total and deterministic' (their statements: YtmmojgopeaelcaaTotals.lean).
  GIVEN WITH THE SEED: the statements are not yours to turn. If you find one false, say at which input.
  Laid BY PROGRAM, IN A SANDBOX (cutbox-rows.mjs): the forced cells as the released guide's own fill.sh prints them over the translation cba763e142ced7cf… (all of the seat's roots in one cut). By AI agents, Wed Nov 11 2026. No macro, syntax, notation, axiom, sorry.
-/
import Derived.Test.YtmmojgopeaelcaaChecked
import GoSem.Claim
import GoSem.ClaimJoined
import GoSem.ClaimMapViews
import Derived.JoinedTies
import Derived.KernelRfl
namespace Go.Proofs.Ytmmojgopeaelcaa
/- THE CELL 'sum', in the pinned program and in every row, IS THE sha256 OF THE DUMP (.gsa) THAT YtmmojgopeaelcaaProg.lean LOADS. Nothing in Lean hashes anything: it is a label: what it is worth is what the hold of that sum in a sandbox is worth. -/
noncomputable def Try.pinned : Pinned := { name := "ytmmojgopeaelcaa", sum := "cba763e142ced7cfd78a22b5f2de668802346f2349e6f52e21dd903cbceeb3d7", checked := Try.checked }
namespace Rows
def none {H : Type} : Left H := { results := [], args := [] }

/-- 'laws.FnExactBusApart': WHATEVER THE INPUT: true; the input reads as it did. -/
def fnExactBusApartSpec : ChangeSpec := { name := "fnExactBusApart", fn := fun _ => fun
  | [d1, d2] => { results := [.lit (.bool true)], args := [d1, d2] }
  | _ => none }
def fnExactBusApartRow : OpenClaim := { program := "ytmmojgopeaelcaa", sum := "cba763e142ced7cfd78a22b5f2de668802346f2349e6f52e21dd903cbceeb3d7", func := "loop.example/crossyard/laws.FnExactBusApart", spec := "fnExactBusApart", unfollowed := true, recurses := true, plainKeys := false, apart := false }
def FnExactBusApartSaid : Prop := fnExactBusApartRow.holds Try.pinned (OpenSpec.ofChange fnExactBusApartSpec)

/-- ITS FALSE NEIGHBOUR: 'it returns false'. Refute it at one input. -/
def fnExactBusApartWrong : ChangeSpec := { name := "fnExactBusApart", fn := fun _ => fun
  | [d1, d2] => { results := [.lit (.bool false)], args := [d1, d2] }
  | _ => none }
def FnExactBusApartWrongFalsely : Prop := fnExactBusApartRow.holds Try.pinned (OpenSpec.ofChange fnExactBusApartWrong)

/-- 'laws.FnExactTrcApart': WHATEVER THE INPUT: true; the input reads as it did. -/
def fnExactTrcApartSpec : ChangeSpec := { name := "fnExactTrcApart", fn := fun _ => fun
  | [d1, d2, d3] => { results := [.lit (.bool true)], args := [d1, d2, d3] }
  | _ => none }
def fnExactTrcApartRow : OpenClaim := { program := "ytmmojgopeaelcaa", sum := "cba763e142ced7cfd78a22b5f2de668802346f2349e6f52e21dd903cbceeb3d7", func := "loop.example/crossyard/laws.FnExactTrcApart", spec := "fnExactTrcApart", unfollowed := true, recurses := true, plainKeys := false, apart := false }
def FnExactTrcApartSaid : Prop := fnExactTrcApartRow.holds Try.pinned (OpenSpec.ofChange fnExactTrcApartSpec)

/-- ITS FALSE NEIGHBOUR: 'it returns false'. Refute it at one input. -/
def fnExactTrcApartWrong : ChangeSpec := { name := "fnExactTrcApart", fn := fun _ => fun
  | [d1, d2, d3] => { results := [.lit (.bool false)], args := [d1, d2, d3] }
  | _ => none }
def FnExactTrcApartWrongFalsely : Prop := fnExactTrcApartRow.holds Try.pinned (OpenSpec.ofChange fnExactTrcApartWrong)

/-- 'laws.FnExactToldOf': WHATEVER THE INPUT: true; the input reads as it did. -/
def fnExactToldOfSpec : ChangeSpec := { name := "fnExactToldOf", fn := fun _ => fun
  | [d1, d2] => { results := [.lit (.bool true)], args := [d1, d2] }
  | _ => none }
def fnExactToldOfRow : OpenClaim := { program := "ytmmojgopeaelcaa", sum := "cba763e142ced7cfd78a22b5f2de668802346f2349e6f52e21dd903cbceeb3d7", func := "loop.example/crossyard/laws.FnExactToldOf", spec := "fnExactToldOf", plainKeys := false, apart := false }
def FnExactToldOfSaid : Prop := fnExactToldOfRow.holds Try.pinned (OpenSpec.ofChange fnExactToldOfSpec)

/-- ITS FALSE NEIGHBOUR: 'it returns false'. Refute it at one input. -/
def fnExactToldOfWrong : ChangeSpec := { name := "fnExactToldOf", fn := fun _ => fun
  | [d1, d2] => { results := [.lit (.bool false)], args := [d1, d2] }
  | _ => none }
def FnExactToldOfWrongFalsely : Prop := fnExactToldOfRow.holds Try.pinned (OpenSpec.ofChange fnExactToldOfWrong)

/-- 'laws.FnExactTrcSame': WHATEVER THE INPUT: true; the input reads as it did. -/
def fnExactTrcSameSpec : ChangeSpec := { name := "fnExactTrcSame", fn := fun _ => fun
  | [d1, d2, d3] => { results := [.lit (.bool true)], args := [d1, d2, d3] }
  | _ => none }
def fnExactTrcSameRow : OpenClaim := { program := "ytmmojgopeaelcaa", sum := "cba763e142ced7cfd78a22b5f2de668802346f2349e6f52e21dd903cbceeb3d7", func := "loop.example/crossyard/laws.FnExactTrcSame", spec := "fnExactTrcSame", unfollowed := true, recurses := true, plainKeys := false, apart := false }
def FnExactTrcSameSaid : Prop := fnExactTrcSameRow.holds Try.pinned (OpenSpec.ofChange fnExactTrcSameSpec)

/-- ITS FALSE NEIGHBOUR: 'it returns false'. Refute it at one input. -/
def fnExactTrcSameWrong : ChangeSpec := { name := "fnExactTrcSame", fn := fun _ => fun
  | [d1, d2, d3] => { results := [.lit (.bool false)], args := [d1, d2, d3] }
  | _ => none }
def FnExactTrcSameWrongFalsely : Prop := fnExactTrcSameRow.holds Try.pinned (OpenSpec.ofChange fnExactTrcSameWrong)

/-- 'laws.FnExactTlmOk': WHATEVER THE INPUT: true; the input reads as it did. -/
def fnExactTlmOkSpec : ChangeSpec := { name := "fnExactTlmOk", fn := fun _ => fun
  | [d1, d2] => { results := [.lit (.bool true)], args := [d1, d2] }
  | _ => none }
def fnExactTlmOkRow : OpenClaim := { program := "ytmmojgopeaelcaa", sum := "cba763e142ced7cfd78a22b5f2de668802346f2349e6f52e21dd903cbceeb3d7", func := "loop.example/crossyard/laws.FnExactTlmOk", spec := "fnExactTlmOk", unfollowed := true, recurses := true, plainKeys := false, apart := false }
def FnExactTlmOkSaid : Prop := fnExactTlmOkRow.holds Try.pinned (OpenSpec.ofChange fnExactTlmOkSpec)

/-- ITS FALSE NEIGHBOUR: 'it returns false'. Refute it at one input. -/
def fnExactTlmOkWrong : ChangeSpec := { name := "fnExactTlmOk", fn := fun _ => fun
  | [d1, d2] => { results := [.lit (.bool false)], args := [d1, d2] }
  | _ => none }
def FnExactTlmOkWrongFalsely : Prop := fnExactTlmOkRow.holds Try.pinned (OpenSpec.ofChange fnExactTlmOkWrong)

/-- 'laws.FnRspOk': WHATEVER THE INPUT: true; the input reads as it did. -/
def fnRspOkSpec : ChangeSpec := { name := "fnRspOk", fn := fun _ => fun
  | [d] => { results := [.lit (.bool true)], args := [d] }
  | _ => none }
def fnRspOkRow : OpenClaim := { program := "ytmmojgopeaelcaa", sum := "cba763e142ced7cfd78a22b5f2de668802346f2349e6f52e21dd903cbceeb3d7", func := "loop.example/crossyard/laws.FnRspOk", spec := "fnRspOk", unfollowed := true, recurses := true, plainKeys := false, apart := false }
def FnRspOkSaid : Prop := fnRspOkRow.holds Try.pinned (OpenSpec.ofChange fnRspOkSpec)

/-- ITS FALSE NEIGHBOUR: 'it returns false'. Refute it at one input. -/
def fnRspOkWrong : ChangeSpec := { name := "fnRspOk", fn := fun _ => fun
  | [d] => { results := [.lit (.bool false)], args := [d] }
  | _ => none }
def FnRspOkWrongFalsely : Prop := fnRspOkRow.holds Try.pinned (OpenSpec.ofChange fnRspOkWrong)

/-- 'laws.FnMemOk': WHATEVER THE INPUT: true; the input reads as it did. -/
def fnMemOkSpec : ChangeSpec := { name := "fnMemOk", fn := fun _ => fun
  | [d] => { results := [.lit (.bool true)], args := [d] }
  | _ => none }
def fnMemOkRow : OpenClaim := { program := "ytmmojgopeaelcaa", sum := "cba763e142ced7cfd78a22b5f2de668802346f2349e6f52e21dd903cbceeb3d7", func := "loop.example/crossyard/laws.FnMemOk", spec := "fnMemOk", unfollowed := true, recurses := true, plainKeys := false, apart := false }
def FnMemOkSaid : Prop := fnMemOkRow.holds Try.pinned (OpenSpec.ofChange fnMemOkSpec)

/-- ITS FALSE NEIGHBOUR: 'it returns false'. Refute it at one input. -/
def fnMemOkWrong : ChangeSpec := { name := "fnMemOk", fn := fun _ => fun
  | [d] => { results := [.lit (.bool false)], args := [d] }
  | _ => none }
def FnMemOkWrongFalsely : Prop := fnMemOkRow.holds Try.pinned (OpenSpec.ofChange fnMemOkWrong)

/-- 'laws.FnInOk': WHATEVER THE INPUT: true; the input reads as it did. -/
def fnInOkSpec : ChangeSpec := { name := "fnInOk", fn := fun _ => fun
  | [d] => { results := [.lit (.bool true)], args := [d] }
  | _ => none }
def fnInOkRow : OpenClaim := { program := "ytmmojgopeaelcaa", sum := "cba763e142ced7cfd78a22b5f2de668802346f2349e6f52e21dd903cbceeb3d7", func := "loop.example/crossyard/laws.FnInOk", spec := "fnInOk", plainKeys := false, apart := false }
def FnInOkSaid : Prop := fnInOkRow.holds Try.pinned (OpenSpec.ofChange fnInOkSpec)

/-- ITS FALSE NEIGHBOUR: 'it returns false'. Refute it at one input. -/
def fnInOkWrong : ChangeSpec := { name := "fnInOk", fn := fun _ => fun
  | [d] => { results := [.lit (.bool false)], args := [d] }
  | _ => none }
def FnInOkWrongFalsely : Prop := fnInOkRow.holds Try.pinned (OpenSpec.ofChange fnInOkWrong)

/-- 'laws.FnReqOk': WHATEVER THE INPUT: true; the input reads as it did. -/
def fnReqOkSpec : ChangeSpec := { name := "fnReqOk", fn := fun _ => fun
  | [d] => { results := [.lit (.bool true)], args := [d] }
  | _ => none }
def fnReqOkRow : OpenClaim := { program := "ytmmojgopeaelcaa", sum := "cba763e142ced7cfd78a22b5f2de668802346f2349e6f52e21dd903cbceeb3d7", func := "loop.example/crossyard/laws.FnReqOk", spec := "fnReqOk", unfollowed := true, recurses := true, plainKeys := false, apart := false }
def FnReqOkSaid : Prop := fnReqOkRow.holds Try.pinned (OpenSpec.ofChange fnReqOkSpec)

/-- ITS FALSE NEIGHBOUR: 'it returns false'. Refute it at one input. -/
def fnReqOkWrong : ChangeSpec := { name := "fnReqOk", fn := fun _ => fun
  | [d] => { results := [.lit (.bool false)], args := [d] }
  | _ => none }
def FnReqOkWrongFalsely : Prop := fnReqOkRow.holds Try.pinned (OpenSpec.ofChange fnReqOkWrong)

/-- 'laws.FnAtmOk': WHATEVER THE INPUT: true; the input reads as it did. -/
def fnAtmOkSpec : ChangeSpec := { name := "fnAtmOk", fn := fun _ => fun
  | [d] => { results := [.lit (.bool true)], args := [d] }
  | _ => none }
def fnAtmOkRow : OpenClaim := { program := "ytmmojgopeaelcaa", sum := "cba763e142ced7cfd78a22b5f2de668802346f2349e6f52e21dd903cbceeb3d7", func := "loop.example/crossyard/laws.FnAtmOk", spec := "fnAtmOk", unfollowed := true, recurses := true, plainKeys := false, apart := false }
def FnAtmOkSaid : Prop := fnAtmOkRow.holds Try.pinned (OpenSpec.ofChange fnAtmOkSpec)

/-- ITS FALSE NEIGHBOUR: 'it returns false'. Refute it at one input. -/
def fnAtmOkWrong : ChangeSpec := { name := "fnAtmOk", fn := fun _ => fun
  | [d] => { results := [.lit (.bool false)], args := [d] }
  | _ => none }
def FnAtmOkWrongFalsely : Prop := fnAtmOkRow.holds Try.pinned (OpenSpec.ofChange fnAtmOkWrong)

/-- 'laws.FnReqSlave': WHATEVER THE INPUT: true; the input reads as it did. -/
def fnReqSlaveSpec : ChangeSpec := { name := "fnReqSlave", fn := fun _ => fun
  | [d] => { results := [.lit (.bool true)], args := [d] }
  | _ => none }
def fnReqSlaveRow : OpenClaim := { program := "ytmmojgopeaelcaa", sum := "cba763e142ced7cfd78a22b5f2de668802346f2349e6f52e21dd903cbceeb3d7", func := "loop.example/crossyard/laws.FnReqSlave", spec := "fnReqSlave", unfollowed := true, recurses := true, plainKeys := false, apart := false }
def FnReqSlaveSaid : Prop := fnReqSlaveRow.holds Try.pinned (OpenSpec.ofChange fnReqSlaveSpec)

/-- ITS FALSE NEIGHBOUR: 'it returns false'. Refute it at one input. -/
def fnReqSlaveWrong : ChangeSpec := { name := "fnReqSlave", fn := fun _ => fun
  | [d] => { results := [.lit (.bool false)], args := [d] }
  | _ => none }
def FnReqSlaveWrongFalsely : Prop := fnReqSlaveRow.holds Try.pinned (OpenSpec.ofChange fnReqSlaveWrong)

/-- 'laws.FnReqSame': WHATEVER THE INPUT: true; the input reads as it did. -/
def fnReqSameSpec : ChangeSpec := { name := "fnReqSame", fn := fun _ => fun
  | [d] => { results := [.lit (.bool true)], args := [d] }
  | _ => none }
def fnReqSameRow : OpenClaim := { program := "ytmmojgopeaelcaa", sum := "cba763e142ced7cfd78a22b5f2de668802346f2349e6f52e21dd903cbceeb3d7", func := "loop.example/crossyard/laws.FnReqSame", spec := "fnReqSame", unfollowed := true, recurses := true, plainKeys := false, apart := false }
def FnReqSameSaid : Prop := fnReqSameRow.holds Try.pinned (OpenSpec.ofChange fnReqSameSpec)

/-- ITS FALSE NEIGHBOUR: 'it returns false'. Refute it at one input. -/
def fnReqSameWrong : ChangeSpec := { name := "fnReqSame", fn := fun _ => fun
  | [d] => { results := [.lit (.bool false)], args := [d] }
  | _ => none }
def FnReqSameWrongFalsely : Prop := fnReqSameRow.holds Try.pinned (OpenSpec.ofChange fnReqSameWrong)

/- THE SECOND FORM. 'bulk': how many values and letters a reading holds, each counted each time it is reached (what is shared counts as often as it is met; a slice's spare places count too). A statement '..UptoSaid' is the law's where the arguments, and the package variables that the reading takes, are together of bulk at most 1048576: NARROWER than '..Said'. Prove '..Said' where nothing that the law and all that it calls make is longer than what came in: it says more and counts as full. Else prove '..UptoSaid'. A law counts once. -/
mutual
def uptoBulk {H : Type} : DataW H → Nat
  | .lit (.string bytes) => bytes.length + 1
  | .lit _ => 1
  | .nil => 1
  | .ptr d => uptoBulk d + 1
  | .slice elems spare => uptoBulkAll elems + uptoBulkAll spare + 1
  | .agg parts => uptoBulkAll parts + 1
  | .iface _ d => uptoBulk d + 1
  | .map entries => uptoBulkEntries entries + 1
  | .held _ => 1
def uptoBulkAll {H : Type} : List (DataW H) → Nat
  | [] => 0
  | d :: r => uptoBulk d + uptoBulkAll r
def uptoBulkEntries {H : Type} : List (Lit × DataW H) → Nat
  | [] => 0
  | x :: r => uptoBulkEntry x + uptoBulkEntries r
def uptoBulkEntry {H : Type} : Lit × DataW H → Nat
  | (.string bytes, d) => bytes.length + uptoBulk d + 1
  | (_, d) => uptoBulk d + 1
 end
def uptoSmall : (H : Type) → List (DataW H) → Bool := fun _ ds => decide (uptoBulkAll ds ≤ 1048576)
def OpenSpec.upto (s : _root_.Go.ChangeSpec) : _root_.Go.OpenSpec := { _root_.Go.OpenSpec.ofChange s with cond := some uptoSmall }

/-- 'laws.FnExactBusApart', WHERE WHAT IT READS IS OF BULK AT MOST 1048576: true; the input reads as it did. -/
def fnExactBusApartUptoRow : OpenClaim := { program := "ytmmojgopeaelcaa", sum := "cba763e142ced7cfd78a22b5f2de668802346f2349e6f52e21dd903cbceeb3d7", func := "loop.example/crossyard/laws.FnExactBusApart", spec := "fnExactBusApart", unfollowed := true, recurses := true, plainKeys := false, apart := false, narrowed := true }
def FnExactBusApartUptoSaid : Prop := fnExactBusApartUptoRow.holds Try.pinned (OpenSpec.upto fnExactBusApartSpec)

/-- 'laws.FnExactTrcApart', WHERE WHAT IT READS IS OF BULK AT MOST 1048576: true; the input reads as it did. -/
def fnExactTrcApartUptoRow : OpenClaim := { program := "ytmmojgopeaelcaa", sum := "cba763e142ced7cfd78a22b5f2de668802346f2349e6f52e21dd903cbceeb3d7", func := "loop.example/crossyard/laws.FnExactTrcApart", spec := "fnExactTrcApart", unfollowed := true, recurses := true, plainKeys := false, apart := false, narrowed := true }
def FnExactTrcApartUptoSaid : Prop := fnExactTrcApartUptoRow.holds Try.pinned (OpenSpec.upto fnExactTrcApartSpec)

/-- 'laws.FnExactToldOf', WHERE WHAT IT READS IS OF BULK AT MOST 1048576: true; the input reads as it did. -/
def fnExactToldOfUptoRow : OpenClaim := { program := "ytmmojgopeaelcaa", sum := "cba763e142ced7cfd78a22b5f2de668802346f2349e6f52e21dd903cbceeb3d7", func := "loop.example/crossyard/laws.FnExactToldOf", spec := "fnExactToldOf", plainKeys := false, apart := false, narrowed := true }
def FnExactToldOfUptoSaid : Prop := fnExactToldOfUptoRow.holds Try.pinned (OpenSpec.upto fnExactToldOfSpec)

/-- 'laws.FnExactTrcSame', WHERE WHAT IT READS IS OF BULK AT MOST 1048576: true; the input reads as it did. -/
def fnExactTrcSameUptoRow : OpenClaim := { program := "ytmmojgopeaelcaa", sum := "cba763e142ced7cfd78a22b5f2de668802346f2349e6f52e21dd903cbceeb3d7", func := "loop.example/crossyard/laws.FnExactTrcSame", spec := "fnExactTrcSame", unfollowed := true, recurses := true, plainKeys := false, apart := false, narrowed := true }
def FnExactTrcSameUptoSaid : Prop := fnExactTrcSameUptoRow.holds Try.pinned (OpenSpec.upto fnExactTrcSameSpec)

/-- 'laws.FnExactTlmOk', WHERE WHAT IT READS IS OF BULK AT MOST 1048576: true; the input reads as it did. -/
def fnExactTlmOkUptoRow : OpenClaim := { program := "ytmmojgopeaelcaa", sum := "cba763e142ced7cfd78a22b5f2de668802346f2349e6f52e21dd903cbceeb3d7", func := "loop.example/crossyard/laws.FnExactTlmOk", spec := "fnExactTlmOk", unfollowed := true, recurses := true, plainKeys := false, apart := false, narrowed := true }
def FnExactTlmOkUptoSaid : Prop := fnExactTlmOkUptoRow.holds Try.pinned (OpenSpec.upto fnExactTlmOkSpec)

/-- 'laws.FnRspOk', WHERE WHAT IT READS IS OF BULK AT MOST 1048576: true; the input reads as it did. -/
def fnRspOkUptoRow : OpenClaim := { program := "ytmmojgopeaelcaa", sum := "cba763e142ced7cfd78a22b5f2de668802346f2349e6f52e21dd903cbceeb3d7", func := "loop.example/crossyard/laws.FnRspOk", spec := "fnRspOk", unfollowed := true, recurses := true, plainKeys := false, apart := false, narrowed := true }
def FnRspOkUptoSaid : Prop := fnRspOkUptoRow.holds Try.pinned (OpenSpec.upto fnRspOkSpec)

/-- 'laws.FnMemOk', WHERE WHAT IT READS IS OF BULK AT MOST 1048576: true; the input reads as it did. -/
def fnMemOkUptoRow : OpenClaim := { program := "ytmmojgopeaelcaa", sum := "cba763e142ced7cfd78a22b5f2de668802346f2349e6f52e21dd903cbceeb3d7", func := "loop.example/crossyard/laws.FnMemOk", spec := "fnMemOk", unfollowed := true, recurses := true, plainKeys := false, apart := false, narrowed := true }
def FnMemOkUptoSaid : Prop := fnMemOkUptoRow.holds Try.pinned (OpenSpec.upto fnMemOkSpec)

/-- 'laws.FnInOk', WHERE WHAT IT READS IS OF BULK AT MOST 1048576: true; the input reads as it did. -/
def fnInOkUptoRow : OpenClaim := { program := "ytmmojgopeaelcaa", sum := "cba763e142ced7cfd78a22b5f2de668802346f2349e6f52e21dd903cbceeb3d7", func := "loop.example/crossyard/laws.FnInOk", spec := "fnInOk", plainKeys := false, apart := false, narrowed := true }
def FnInOkUptoSaid : Prop := fnInOkUptoRow.holds Try.pinned (OpenSpec.upto fnInOkSpec)

/-- 'laws.FnReqOk', WHERE WHAT IT READS IS OF BULK AT MOST 1048576: true; the input reads as it did. -/
def fnReqOkUptoRow : OpenClaim := { program := "ytmmojgopeaelcaa", sum := "cba763e142ced7cfd78a22b5f2de668802346f2349e6f52e21dd903cbceeb3d7", func := "loop.example/crossyard/laws.FnReqOk", spec := "fnReqOk", unfollowed := true, recurses := true, plainKeys := false, apart := false, narrowed := true }
def FnReqOkUptoSaid : Prop := fnReqOkUptoRow.holds Try.pinned (OpenSpec.upto fnReqOkSpec)

/-- 'laws.FnAtmOk', WHERE WHAT IT READS IS OF BULK AT MOST 1048576: true; the input reads as it did. -/
def fnAtmOkUptoRow : OpenClaim := { program := "ytmmojgopeaelcaa", sum := "cba763e142ced7cfd78a22b5f2de668802346f2349e6f52e21dd903cbceeb3d7", func := "loop.example/crossyard/laws.FnAtmOk", spec := "fnAtmOk", unfollowed := true, recurses := true, plainKeys := false, apart := false, narrowed := true }
def FnAtmOkUptoSaid : Prop := fnAtmOkUptoRow.holds Try.pinned (OpenSpec.upto fnAtmOkSpec)

/-- 'laws.FnReqSlave', WHERE WHAT IT READS IS OF BULK AT MOST 1048576: true; the input reads as it did. -/
def fnReqSlaveUptoRow : OpenClaim := { program := "ytmmojgopeaelcaa", sum := "cba763e142ced7cfd78a22b5f2de668802346f2349e6f52e21dd903cbceeb3d7", func := "loop.example/crossyard/laws.FnReqSlave", spec := "fnReqSlave", unfollowed := true, recurses := true, plainKeys := false, apart := false, narrowed := true }
def FnReqSlaveUptoSaid : Prop := fnReqSlaveUptoRow.holds Try.pinned (OpenSpec.upto fnReqSlaveSpec)

/-- 'laws.FnReqSame', WHERE WHAT IT READS IS OF BULK AT MOST 1048576: true; the input reads as it did. -/
def fnReqSameUptoRow : OpenClaim := { program := "ytmmojgopeaelcaa", sum := "cba763e142ced7cfd78a22b5f2de668802346f2349e6f52e21dd903cbceeb3d7", func := "loop.example/crossyard/laws.FnReqSame", spec := "fnReqSame", unfollowed := true, recurses := true, plainKeys := false, apart := false, narrowed := true }
def FnReqSameUptoSaid : Prop := fnReqSameUptoRow.holds Try.pinned (OpenSpec.upto fnReqSameSpec)

end Rows
end Go.Proofs.Ytmmojgopeaelcaa
