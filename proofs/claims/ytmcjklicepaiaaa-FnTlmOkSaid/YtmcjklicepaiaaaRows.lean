/-
  No cell of these rows narrows 'for every input' (looked for: loops, veiled, ifaces, maps, wideKeys, modest, calm, conditions, laid).
  DERIVED. THE GIVEN ROWS OF THIS SEAT. 8 by the template 'for every input the law returns true; each argument reads behind the call as it read before'; 0 by the template 'total and deterministic' (their statements: YtmcjklicepaiaaaTotals.lean).
  GIVEN WITH THE SEED: the statements are not yours to turn. If you find one false, say at which input.
  Laid BY PROGRAM, IN A SANDBOX (cutbox-rows.mjs): the forced cells as the released guide's own fill.sh prints them over the translation 7763df6532e92f7d… (all of the seat's roots in one cut). By AI agents, Wed Nov 11 2026. No macro, syntax, notation, axiom, sorry.
-/
import Derived.Test.YtmcjklicepaiaaaChecked
import GoSem.Claim
import GoSem.ClaimJoined
import GoSem.ClaimMapViews
import Derived.JoinedTies
import Derived.KernelRfl
namespace Go.Proofs.Ytmcjklicepaiaaa
/- THE CELL 'sum', in the pinned program and in every row, IS THE sha256 OF THE DUMP (.gsa) THAT YtmcjklicepaiaaaProg.lean LOADS. Nothing in Lean hashes anything: it is a label: what it is worth is what the hold of that sum in a sandbox is worth. -/
noncomputable def Try.pinned : Pinned := { name := "ytmcjklicepaiaaa", sum := "7763df6532e92f7d9fccc47c4f7fc1b69255b54a9612333a52a2f2a740b3c3fc", checked := Try.checked }
namespace Rows
def none {H : Type} : Left H := { results := [], args := [] }

/-- 'laws.FnMapOnly': WHATEVER THE INPUT: true; the input reads as it did. -/
def fnMapOnlySpec : ChangeSpec := { name := "fnMapOnly", fn := fun _ => fun
  | [d] => { results := [.lit (.bool true)], args := [d] }
  | _ => none }
def fnMapOnlyRow : OpenClaim := { program := "ytmcjklicepaiaaa", sum := "7763df6532e92f7d9fccc47c4f7fc1b69255b54a9612333a52a2f2a740b3c3fc", func := "loop.example/crossyard/laws.FnMapOnly", spec := "fnMapOnly", unfollowed := true, recurses := true, plainKeys := false, apart := false }
def FnMapOnlySaid : Prop := fnMapOnlyRow.holds Try.pinned (OpenSpec.ofChange fnMapOnlySpec)

/-- ITS FALSE NEIGHBOUR: 'it returns false'. Refute it at one input. -/
def fnMapOnlyWrong : ChangeSpec := { name := "fnMapOnly", fn := fun _ => fun
  | [d] => { results := [.lit (.bool false)], args := [d] }
  | _ => none }
def FnMapOnlyWrongFalsely : Prop := fnMapOnlyRow.holds Try.pinned (OpenSpec.ofChange fnMapOnlyWrong)

/-- 'laws.FnBusOk': WHATEVER THE INPUT: true; the input reads as it did. -/
def fnBusOkSpec : ChangeSpec := { name := "fnBusOk", fn := fun _ => fun
  | [d] => { results := [.lit (.bool true)], args := [d] }
  | _ => none }
def fnBusOkRow : OpenClaim := { program := "ytmcjklicepaiaaa", sum := "7763df6532e92f7d9fccc47c4f7fc1b69255b54a9612333a52a2f2a740b3c3fc", func := "loop.example/crossyard/laws.FnBusOk", spec := "fnBusOk", unfollowed := true, recurses := true, plainKeys := false, apart := false }
def FnBusOkSaid : Prop := fnBusOkRow.holds Try.pinned (OpenSpec.ofChange fnBusOkSpec)

/-- ITS FALSE NEIGHBOUR: 'it returns false'. Refute it at one input. -/
def fnBusOkWrong : ChangeSpec := { name := "fnBusOk", fn := fun _ => fun
  | [d] => { results := [.lit (.bool false)], args := [d] }
  | _ => none }
def FnBusOkWrongFalsely : Prop := fnBusOkRow.holds Try.pinned (OpenSpec.ofChange fnBusOkWrong)

/-- 'laws.FnBusApart': WHATEVER THE INPUT: true; the input reads as it did. -/
def fnBusApartSpec : ChangeSpec := { name := "fnBusApart", fn := fun _ => fun
  | [d] => { results := [.lit (.bool true)], args := [d] }
  | _ => none }
def fnBusApartRow : OpenClaim := { program := "ytmcjklicepaiaaa", sum := "7763df6532e92f7d9fccc47c4f7fc1b69255b54a9612333a52a2f2a740b3c3fc", func := "loop.example/crossyard/laws.FnBusApart", spec := "fnBusApart", unfollowed := true, recurses := true, plainKeys := false, apart := false }
def FnBusApartSaid : Prop := fnBusApartRow.holds Try.pinned (OpenSpec.ofChange fnBusApartSpec)

/-- ITS FALSE NEIGHBOUR: 'it returns false'. Refute it at one input. -/
def fnBusApartWrong : ChangeSpec := { name := "fnBusApart", fn := fun _ => fun
  | [d] => { results := [.lit (.bool false)], args := [d] }
  | _ => none }
def FnBusApartWrongFalsely : Prop := fnBusApartRow.holds Try.pinned (OpenSpec.ofChange fnBusApartWrong)

/-- 'laws.FnTrcApart': WHATEVER THE INPUT: true; the input reads as it did. -/
def fnTrcApartSpec : ChangeSpec := { name := "fnTrcApart", fn := fun _ => fun
  | [d] => { results := [.lit (.bool true)], args := [d] }
  | _ => none }
def fnTrcApartRow : OpenClaim := { program := "ytmcjklicepaiaaa", sum := "7763df6532e92f7d9fccc47c4f7fc1b69255b54a9612333a52a2f2a740b3c3fc", func := "loop.example/crossyard/laws.FnTrcApart", spec := "fnTrcApart", unfollowed := true, recurses := true, plainKeys := false, apart := false }
def FnTrcApartSaid : Prop := fnTrcApartRow.holds Try.pinned (OpenSpec.ofChange fnTrcApartSpec)

/-- ITS FALSE NEIGHBOUR: 'it returns false'. Refute it at one input. -/
def fnTrcApartWrong : ChangeSpec := { name := "fnTrcApart", fn := fun _ => fun
  | [d] => { results := [.lit (.bool false)], args := [d] }
  | _ => none }
def FnTrcApartWrongFalsely : Prop := fnTrcApartRow.holds Try.pinned (OpenSpec.ofChange fnTrcApartWrong)

/-- 'laws.FnTrcOf': WHATEVER THE INPUT: true; the input reads as it did. -/
def fnTrcOfSpec : ChangeSpec := { name := "fnTrcOf", fn := fun _ => fun
  | [d] => { results := [.lit (.bool true)], args := [d] }
  | _ => none }
def fnTrcOfRow : OpenClaim := { program := "ytmcjklicepaiaaa", sum := "7763df6532e92f7d9fccc47c4f7fc1b69255b54a9612333a52a2f2a740b3c3fc", func := "loop.example/crossyard/laws.FnTrcOf", spec := "fnTrcOf", plainKeys := false, apart := false }
def FnTrcOfSaid : Prop := fnTrcOfRow.holds Try.pinned (OpenSpec.ofChange fnTrcOfSpec)

/-- ITS FALSE NEIGHBOUR: 'it returns false'. Refute it at one input. -/
def fnTrcOfWrong : ChangeSpec := { name := "fnTrcOf", fn := fun _ => fun
  | [d] => { results := [.lit (.bool false)], args := [d] }
  | _ => none }
def FnTrcOfWrongFalsely : Prop := fnTrcOfRow.holds Try.pinned (OpenSpec.ofChange fnTrcOfWrong)

/-- 'laws.FnToldOf': WHATEVER THE INPUT: true; the input reads as it did. -/
def fnToldOfSpec : ChangeSpec := { name := "fnToldOf", fn := fun _ => fun
  | [d] => { results := [.lit (.bool true)], args := [d] }
  | _ => none }
def fnToldOfRow : OpenClaim := { program := "ytmcjklicepaiaaa", sum := "7763df6532e92f7d9fccc47c4f7fc1b69255b54a9612333a52a2f2a740b3c3fc", func := "loop.example/crossyard/laws.FnToldOf", spec := "fnToldOf", plainKeys := false, apart := false }
def FnToldOfSaid : Prop := fnToldOfRow.holds Try.pinned (OpenSpec.ofChange fnToldOfSpec)

/-- ITS FALSE NEIGHBOUR: 'it returns false'. Refute it at one input. -/
def fnToldOfWrong : ChangeSpec := { name := "fnToldOf", fn := fun _ => fun
  | [d] => { results := [.lit (.bool false)], args := [d] }
  | _ => none }
def FnToldOfWrongFalsely : Prop := fnToldOfRow.holds Try.pinned (OpenSpec.ofChange fnToldOfWrong)

/-- 'laws.FnTlmOk': WHATEVER THE INPUT: true; the input reads as it did. -/
def fnTlmOkSpec : ChangeSpec := { name := "fnTlmOk", fn := fun _ => fun
  | [d] => { results := [.lit (.bool true)], args := [d] }
  | _ => none }
def fnTlmOkRow : OpenClaim := { program := "ytmcjklicepaiaaa", sum := "7763df6532e92f7d9fccc47c4f7fc1b69255b54a9612333a52a2f2a740b3c3fc", func := "loop.example/crossyard/laws.FnTlmOk", spec := "fnTlmOk", unfollowed := true, recurses := true, plainKeys := false, apart := false }
def FnTlmOkSaid : Prop := fnTlmOkRow.holds Try.pinned (OpenSpec.ofChange fnTlmOkSpec)

/-- ITS FALSE NEIGHBOUR: 'it returns false'. Refute it at one input. -/
def fnTlmOkWrong : ChangeSpec := { name := "fnTlmOk", fn := fun _ => fun
  | [d] => { results := [.lit (.bool false)], args := [d] }
  | _ => none }
def FnTlmOkWrongFalsely : Prop := fnTlmOkRow.holds Try.pinned (OpenSpec.ofChange fnTlmOkWrong)

/-- 'laws.FnAtmOrder': WHATEVER THE INPUT: true; the input reads as it did. -/
def fnAtmOrderSpec : ChangeSpec := { name := "fnAtmOrder", fn := fun _ => fun
  | [d] => { results := [.lit (.bool true)], args := [d] }
  | _ => none }
def fnAtmOrderRow : OpenClaim := { program := "ytmcjklicepaiaaa", sum := "7763df6532e92f7d9fccc47c4f7fc1b69255b54a9612333a52a2f2a740b3c3fc", func := "loop.example/crossyard/laws.FnAtmOrder", spec := "fnAtmOrder", unfollowed := true, recurses := true, plainKeys := false, apart := false }
def FnAtmOrderSaid : Prop := fnAtmOrderRow.holds Try.pinned (OpenSpec.ofChange fnAtmOrderSpec)

/-- ITS FALSE NEIGHBOUR: 'it returns false'. Refute it at one input. -/
def fnAtmOrderWrong : ChangeSpec := { name := "fnAtmOrder", fn := fun _ => fun
  | [d] => { results := [.lit (.bool false)], args := [d] }
  | _ => none }
def FnAtmOrderWrongFalsely : Prop := fnAtmOrderRow.holds Try.pinned (OpenSpec.ofChange fnAtmOrderWrong)

/- THE SECOND FORM. 'bulk': how many values and letters a reading holds, each counted each time it is reached (what is shared counts as often as it is met; a slice's spare places count too). A statement '..UptoSaid' is the law's where the arguments, and the package variables that the reading takes, are together of bulk at most 1048576: NARROWER than '..Said'. Prove '..Said' where nothing that the law and all that it calls make is longer than what came in: it says more and counts as full. Else prove '..UptoSaid'. A law counts once. -/
mutual
def uptoBulk {H : Type} : DataW H → Nat
  | .lit (.string bytes) => bytes.length + 1
  | .lit _ => 1
  | .nil => 1
  | .ptr d => uptoBulk d + 1
  | .slice elems spare => uptoBulkAll elems + uptoBulkAll spare + 1
  | .agg parts => uptoBulkAll parts + 1
  | .iface _ d => uptoBulk d + 1
  | .map entries => uptoBulkEntries entries + 1
  | .held _ => 1
def uptoBulkAll {H : Type} : List (DataW H) → Nat
  | [] => 0
  | d :: r => uptoBulk d + uptoBulkAll r
def uptoBulkEntries {H : Type} : List (Lit × DataW H) → Nat
  | [] => 0
  | x :: r => uptoBulkEntry x + uptoBulkEntries r
def uptoBulkEntry {H : Type} : Lit × DataW H → Nat
  | (.string bytes, d) => bytes.length + uptoBulk d + 1
  | (_, d) => uptoBulk d + 1
 end
def uptoSmall : (H : Type) → List (DataW H) → Bool := fun _ ds => decide (uptoBulkAll ds ≤ 1048576)
def OpenSpec.upto (s : _root_.Go.ChangeSpec) : _root_.Go.OpenSpec := { _root_.Go.OpenSpec.ofChange s with cond := some uptoSmall }

/-- 'laws.FnMapOnly', WHERE WHAT IT READS IS OF BULK AT MOST 1048576: true; the input reads as it did. -/
def fnMapOnlyUptoRow : OpenClaim := { program := "ytmcjklicepaiaaa", sum := "7763df6532e92f7d9fccc47c4f7fc1b69255b54a9612333a52a2f2a740b3c3fc", func := "loop.example/crossyard/laws.FnMapOnly", spec := "fnMapOnly", unfollowed := true, recurses := true, plainKeys := false, apart := false, narrowed := true }
def FnMapOnlyUptoSaid : Prop := fnMapOnlyUptoRow.holds Try.pinned (OpenSpec.upto fnMapOnlySpec)

/-- 'laws.FnBusOk', WHERE WHAT IT READS IS OF BULK AT MOST 1048576: true; the input reads as it did. -/
def fnBusOkUptoRow : OpenClaim := { program := "ytmcjklicepaiaaa", sum := "7763df6532e92f7d9fccc47c4f7fc1b69255b54a9612333a52a2f2a740b3c3fc", func := "loop.example/crossyard/laws.FnBusOk", spec := "fnBusOk", unfollowed := true, recurses := true, plainKeys := false, apart := false, narrowed := true }
def FnBusOkUptoSaid : Prop := fnBusOkUptoRow.holds Try.pinned (OpenSpec.upto fnBusOkSpec)

/-- 'laws.FnBusApart', WHERE WHAT IT READS IS OF BULK AT MOST 1048576: true; the input reads as it did. -/
def fnBusApartUptoRow : OpenClaim := { program := "ytmcjklicepaiaaa", sum := "7763df6532e92f7d9fccc47c4f7fc1b69255b54a9612333a52a2f2a740b3c3fc", func := "loop.example/crossyard/laws.FnBusApart", spec := "fnBusApart", unfollowed := true, recurses := true, plainKeys := false, apart := false, narrowed := true }
def FnBusApartUptoSaid : Prop := fnBusApartUptoRow.holds Try.pinned (OpenSpec.upto fnBusApartSpec)

/-- 'laws.FnTrcApart', WHERE WHAT IT READS IS OF BULK AT MOST 1048576: true; the input reads as it did. -/
def fnTrcApartUptoRow : OpenClaim := { program := "ytmcjklicepaiaaa", sum := "7763df6532e92f7d9fccc47c4f7fc1b69255b54a9612333a52a2f2a740b3c3fc", func := "loop.example/crossyard/laws.FnTrcApart", spec := "fnTrcApart", unfollowed := true, recurses := true, plainKeys := false, apart := false, narrowed := true }
def FnTrcApartUptoSaid : Prop := fnTrcApartUptoRow.holds Try.pinned (OpenSpec.upto fnTrcApartSpec)

/-- 'laws.FnTrcOf', WHERE WHAT IT READS IS OF BULK AT MOST 1048576: true; the input reads as it did. -/
def fnTrcOfUptoRow : OpenClaim := { program := "ytmcjklicepaiaaa", sum := "7763df6532e92f7d9fccc47c4f7fc1b69255b54a9612333a52a2f2a740b3c3fc", func := "loop.example/crossyard/laws.FnTrcOf", spec := "fnTrcOf", plainKeys := false, apart := false, narrowed := true }
def FnTrcOfUptoSaid : Prop := fnTrcOfUptoRow.holds Try.pinned (OpenSpec.upto fnTrcOfSpec)

/-- 'laws.FnToldOf', WHERE WHAT IT READS IS OF BULK AT MOST 1048576: true; the input reads as it did. -/
def fnToldOfUptoRow : OpenClaim := { program := "ytmcjklicepaiaaa", sum := "7763df6532e92f7d9fccc47c4f7fc1b69255b54a9612333a52a2f2a740b3c3fc", func := "loop.example/crossyard/laws.FnToldOf", spec := "fnToldOf", plainKeys := false, apart := false, narrowed := true }
def FnToldOfUptoSaid : Prop := fnToldOfUptoRow.holds Try.pinned (OpenSpec.upto fnToldOfSpec)

/-- 'laws.FnTlmOk', WHERE WHAT IT READS IS OF BULK AT MOST 1048576: true; the input reads as it did. -/
def fnTlmOkUptoRow : OpenClaim := { program := "ytmcjklicepaiaaa", sum := "7763df6532e92f7d9fccc47c4f7fc1b69255b54a9612333a52a2f2a740b3c3fc", func := "loop.example/crossyard/laws.FnTlmOk", spec := "fnTlmOk", unfollowed := true, recurses := true, plainKeys := false, apart := false, narrowed := true }
def FnTlmOkUptoSaid : Prop := fnTlmOkUptoRow.holds Try.pinned (OpenSpec.upto fnTlmOkSpec)

/-- 'laws.FnAtmOrder', WHERE WHAT IT READS IS OF BULK AT MOST 1048576: true; the input reads as it did. -/
def fnAtmOrderUptoRow : OpenClaim := { program := "ytmcjklicepaiaaa", sum := "7763df6532e92f7d9fccc47c4f7fc1b69255b54a9612333a52a2f2a740b3c3fc", func := "loop.example/crossyard/laws.FnAtmOrder", spec := "fnAtmOrder", unfollowed := true, recurses := true, plainKeys := false, apart := false, narrowed := true }
def FnAtmOrderUptoSaid : Prop := fnAtmOrderUptoRow.holds Try.pinned (OpenSpec.upto fnAtmOrderSpec)

end Rows
end Go.Proofs.Ytmcjklicepaiaaa
