/-
  No cell of these rows narrows 'for every input' (looked for: loops, veiled, ifaces, maps, wideKeys, modest, calm, conditions, laid).
  DERIVED. THE GIVEN ROWS OF THIS SEAT. 12 by the template 'for every input the law returns true; each argument reads behind the call as it read before'; 0 by the template 'total and deterministic' (their statements: YtjapdkjfnmjicaaTotals.lean).
  GIVEN WITH THE SEED: the statements are not yours to turn. If you find one false, say at which input.
  Laid BY PROGRAM, IN A SANDBOX (cutbox-rows.mjs): the forced cells as the released guide's own fill.sh prints them over the translation bd57f7da573ffd12… (all of the seat's roots in one cut). By AI agents, Wed Nov 11 2026. No macro, syntax, notation, axiom, sorry.
-/
import Derived.Test.YtjapdkjfnmjicaaChecked
import GoSem.Claim
import GoSem.ClaimJoined
import GoSem.ClaimMapViews
import Derived.JoinedTies
import Derived.KernelRfl
namespace Go.Proofs.Ytjapdkjfnmjicaa
/- THE CELL 'sum', in the pinned program and in every row, IS THE sha256 OF THE DUMP (.gsa) THAT YtjapdkjfnmjicaaProg.lean LOADS. Nothing in Lean hashes anything: it is a label: what it is worth is what the hold of that sum in a sandbox is worth. -/
noncomputable def Try.pinned : Pinned := { name := "ytjapdkjfnmjicaa", sum := "bd57f7da573ffd1274c38a2d8a55e91971ce50bd110ed8446dd5a918dbfbabcf", checked := Try.checked }
namespace Rows
def none {H : Type} : Left H := { results := [], args := [] }

/-- 'laws.FnExactAtmOk': WHATEVER THE INPUT: true; the input reads as it did. -/
def fnExactAtmOkSpec : ChangeSpec := { name := "fnExactAtmOk", fn := fun _ => fun
  | [d] => { results := [.lit (.bool true)], args := [d] }
  | _ => none }
def fnExactAtmOkRow : OpenClaim := { program := "ytjapdkjfnmjicaa", sum := "bd57f7da573ffd1274c38a2d8a55e91971ce50bd110ed8446dd5a918dbfbabcf", func := "loop.example/crossyard/laws.FnExactAtmOk", spec := "fnExactAtmOk", unfollowed := true, recurses := true, apart := false }
def FnExactAtmOkSaid : Prop := fnExactAtmOkRow.holds Try.pinned (OpenSpec.ofChange fnExactAtmOkSpec)

/-- ITS FALSE NEIGHBOUR: 'it returns false'. Refute it at one input. -/
def fnExactAtmOkWrong : ChangeSpec := { name := "fnExactAtmOk", fn := fun _ => fun
  | [d] => { results := [.lit (.bool false)], args := [d] }
  | _ => none }
def FnExactAtmOkWrongFalsely : Prop := fnExactAtmOkRow.holds Try.pinned (OpenSpec.ofChange fnExactAtmOkWrong)

/-- 'laws.FnExactAtmNew': WHATEVER THE INPUT: true; the input reads as it did. -/
def fnExactAtmNewSpec : ChangeSpec := { name := "fnExactAtmNew", fn := fun _ => fun
  | [] => { results := [.lit (.bool true)], args := [] }
  | _ => none }
def fnExactAtmNewRow : OpenClaim := { program := "ytjapdkjfnmjicaa", sum := "bd57f7da573ffd1274c38a2d8a55e91971ce50bd110ed8446dd5a918dbfbabcf", func := "loop.example/crossyard/laws.FnExactAtmNew", spec := "fnExactAtmNew", apart := false }
def FnExactAtmNewSaid : Prop := fnExactAtmNewRow.holds Try.pinned (OpenSpec.ofChange fnExactAtmNewSpec)

/-- ITS FALSE NEIGHBOUR: 'it returns false'. Refute it at one input. -/
def fnExactAtmNewWrong : ChangeSpec := { name := "fnExactAtmNew", fn := fun _ => fun
  | [] => { results := [.lit (.bool false)], args := [] }
  | _ => none }
def FnExactAtmNewWrongFalsely : Prop := fnExactAtmNewRow.holds Try.pinned (OpenSpec.ofChange fnExactAtmNewWrong)

/-- 'laws.FnAtmOk': WHATEVER THE INPUT: true; the input reads as it did. -/
def fnAtmOkSpec : ChangeSpec := { name := "fnAtmOk", fn := fun _ => fun
  | [d] => { results := [.lit (.bool true)], args := [d] }
  | _ => none }
def fnAtmOkRow : OpenClaim := { program := "ytjapdkjfnmjicaa", sum := "bd57f7da573ffd1274c38a2d8a55e91971ce50bd110ed8446dd5a918dbfbabcf", func := "loop.example/crossyard/laws.FnAtmOk", spec := "fnAtmOk", unfollowed := true, recurses := true, apart := false }
def FnAtmOkSaid : Prop := fnAtmOkRow.holds Try.pinned (OpenSpec.ofChange fnAtmOkSpec)

/-- ITS FALSE NEIGHBOUR: 'it returns false'. Refute it at one input. -/
def fnAtmOkWrong : ChangeSpec := { name := "fnAtmOk", fn := fun _ => fun
  | [d] => { results := [.lit (.bool false)], args := [d] }
  | _ => none }
def FnAtmOkWrongFalsely : Prop := fnAtmOkRow.holds Try.pinned (OpenSpec.ofChange fnAtmOkWrong)

/-- 'laws.FnExactToldOf': WHATEVER THE INPUT: true; the input reads as it did. -/
def fnExactToldOfSpec : ChangeSpec := { name := "fnExactToldOf", fn := fun _ => fun
  | [d1, d2] => { results := [.lit (.bool true)], args := [d1, d2] }
  | _ => none }
def fnExactToldOfRow : OpenClaim := { program := "ytjapdkjfnmjicaa", sum := "bd57f7da573ffd1274c38a2d8a55e91971ce50bd110ed8446dd5a918dbfbabcf", func := "loop.example/crossyard/laws.FnExactToldOf", spec := "fnExactToldOf", apart := false }
def FnExactToldOfSaid : Prop := fnExactToldOfRow.holds Try.pinned (OpenSpec.ofChange fnExactToldOfSpec)

/-- ITS FALSE NEIGHBOUR: 'it returns false'. Refute it at one input. -/
def fnExactToldOfWrong : ChangeSpec := { name := "fnExactToldOf", fn := fun _ => fun
  | [d1, d2] => { results := [.lit (.bool false)], args := [d1, d2] }
  | _ => none }
def FnExactToldOfWrongFalsely : Prop := fnExactToldOfRow.holds Try.pinned (OpenSpec.ofChange fnExactToldOfWrong)

/-- 'laws.FnBusOk': WHATEVER THE INPUT: true; the input reads as it did. -/
def fnBusOkSpec : ChangeSpec := { name := "fnBusOk", fn := fun _ => fun
  | [d] => { results := [.lit (.bool true)], args := [d] }
  | _ => none }
def fnBusOkRow : OpenClaim := { program := "ytjapdkjfnmjicaa", sum := "bd57f7da573ffd1274c38a2d8a55e91971ce50bd110ed8446dd5a918dbfbabcf", func := "loop.example/crossyard/laws.FnBusOk", spec := "fnBusOk", unfollowed := true, recurses := true, apart := false }
def FnBusOkSaid : Prop := fnBusOkRow.holds Try.pinned (OpenSpec.ofChange fnBusOkSpec)

/-- ITS FALSE NEIGHBOUR: 'it returns false'. Refute it at one input. -/
def fnBusOkWrong : ChangeSpec := { name := "fnBusOk", fn := fun _ => fun
  | [d] => { results := [.lit (.bool false)], args := [d] }
  | _ => none }
def FnBusOkWrongFalsely : Prop := fnBusOkRow.holds Try.pinned (OpenSpec.ofChange fnBusOkWrong)

/-- 'laws.FnExactTlmNew': WHATEVER THE INPUT: true; the input reads as it did. -/
def fnExactTlmNewSpec : ChangeSpec := { name := "fnExactTlmNew", fn := fun _ => fun
  | [] => { results := [.lit (.bool true)], args := [] }
  | _ => none }
def fnExactTlmNewRow : OpenClaim := { program := "ytjapdkjfnmjicaa", sum := "bd57f7da573ffd1274c38a2d8a55e91971ce50bd110ed8446dd5a918dbfbabcf", func := "loop.example/crossyard/laws.FnExactTlmNew", spec := "fnExactTlmNew", apart := false }
def FnExactTlmNewSaid : Prop := fnExactTlmNewRow.holds Try.pinned (OpenSpec.ofChange fnExactTlmNewSpec)

/-- ITS FALSE NEIGHBOUR: 'it returns false'. Refute it at one input. -/
def fnExactTlmNewWrong : ChangeSpec := { name := "fnExactTlmNew", fn := fun _ => fun
  | [] => { results := [.lit (.bool false)], args := [] }
  | _ => none }
def FnExactTlmNewWrongFalsely : Prop := fnExactTlmNewRow.holds Try.pinned (OpenSpec.ofChange fnExactTlmNewWrong)

/-- 'laws.FnReqSame': WHATEVER THE INPUT: true; the input reads as it did. -/
def fnReqSameSpec : ChangeSpec := { name := "fnReqSame", fn := fun _ => fun
  | [d] => { results := [.lit (.bool true)], args := [d] }
  | _ => none }
def fnReqSameRow : OpenClaim := { program := "ytjapdkjfnmjicaa", sum := "bd57f7da573ffd1274c38a2d8a55e91971ce50bd110ed8446dd5a918dbfbabcf", func := "loop.example/crossyard/laws.FnReqSame", spec := "fnReqSame", unfollowed := true, recurses := true, apart := false }
def FnReqSameSaid : Prop := fnReqSameRow.holds Try.pinned (OpenSpec.ofChange fnReqSameSpec)

/-- ITS FALSE NEIGHBOUR: 'it returns false'. Refute it at one input. -/
def fnReqSameWrong : ChangeSpec := { name := "fnReqSame", fn := fun _ => fun
  | [d] => { results := [.lit (.bool false)], args := [d] }
  | _ => none }
def FnReqSameWrongFalsely : Prop := fnReqSameRow.holds Try.pinned (OpenSpec.ofChange fnReqSameWrong)

/-- 'laws.FnMapOnly': WHATEVER THE INPUT: true; the input reads as it did. -/
def fnMapOnlySpec : ChangeSpec := { name := "fnMapOnly", fn := fun _ => fun
  | [d] => { results := [.lit (.bool true)], args := [d] }
  | _ => none }
def fnMapOnlyRow : OpenClaim := { program := "ytjapdkjfnmjicaa", sum := "bd57f7da573ffd1274c38a2d8a55e91971ce50bd110ed8446dd5a918dbfbabcf", func := "loop.example/crossyard/laws.FnMapOnly", spec := "fnMapOnly", unfollowed := true, recurses := true, apart := false }
def FnMapOnlySaid : Prop := fnMapOnlyRow.holds Try.pinned (OpenSpec.ofChange fnMapOnlySpec)

/-- ITS FALSE NEIGHBOUR: 'it returns false'. Refute it at one input. -/
def fnMapOnlyWrong : ChangeSpec := { name := "fnMapOnly", fn := fun _ => fun
  | [d] => { results := [.lit (.bool false)], args := [d] }
  | _ => none }
def FnMapOnlyWrongFalsely : Prop := fnMapOnlyRow.holds Try.pinned (OpenSpec.ofChange fnMapOnlyWrong)

/-- 'laws.FnReqSlave': WHATEVER THE INPUT: true; the input reads as it did. -/
def fnReqSlaveSpec : ChangeSpec := { name := "fnReqSlave", fn := fun _ => fun
  | [d] => { results := [.lit (.bool true)], args := [d] }
  | _ => none }
def fnReqSlaveRow : OpenClaim := { program := "ytjapdkjfnmjicaa", sum := "bd57f7da573ffd1274c38a2d8a55e91971ce50bd110ed8446dd5a918dbfbabcf", func := "loop.example/crossyard/laws.FnReqSlave", spec := "fnReqSlave", unfollowed := true, recurses := true, apart := false }
def FnReqSlaveSaid : Prop := fnReqSlaveRow.holds Try.pinned (OpenSpec.ofChange fnReqSlaveSpec)

/-- ITS FALSE NEIGHBOUR: 'it returns false'. Refute it at one input. -/
def fnReqSlaveWrong : ChangeSpec := { name := "fnReqSlave", fn := fun _ => fun
  | [d] => { results := [.lit (.bool false)], args := [d] }
  | _ => none }
def FnReqSlaveWrongFalsely : Prop := fnReqSlaveRow.holds Try.pinned (OpenSpec.ofChange fnReqSlaveWrong)

/-- 'laws.FnExactReqSlave': WHATEVER THE INPUT: true; the input reads as it did. -/
def fnExactReqSlaveSpec : ChangeSpec := { name := "fnExactReqSlave", fn := fun _ => fun
  | [d1, d2] => { results := [.lit (.bool true)], args := [d1, d2] }
  | _ => none }
def fnExactReqSlaveRow : OpenClaim := { program := "ytjapdkjfnmjicaa", sum := "bd57f7da573ffd1274c38a2d8a55e91971ce50bd110ed8446dd5a918dbfbabcf", func := "loop.example/crossyard/laws.FnExactReqSlave", spec := "fnExactReqSlave", unfollowed := true, recurses := true, apart := false }
def FnExactReqSlaveSaid : Prop := fnExactReqSlaveRow.holds Try.pinned (OpenSpec.ofChange fnExactReqSlaveSpec)

/-- ITS FALSE NEIGHBOUR: 'it returns false'. Refute it at one input. -/
def fnExactReqSlaveWrong : ChangeSpec := { name := "fnExactReqSlave", fn := fun _ => fun
  | [d1, d2] => { results := [.lit (.bool false)], args := [d1, d2] }
  | _ => none }
def FnExactReqSlaveWrongFalsely : Prop := fnExactReqSlaveRow.holds Try.pinned (OpenSpec.ofChange fnExactReqSlaveWrong)

/-- 'laws.FnExactBusOk': WHATEVER THE INPUT: true; the input reads as it did. -/
def fnExactBusOkSpec : ChangeSpec := { name := "fnExactBusOk", fn := fun _ => fun
  | [d] => { results := [.lit (.bool true)], args := [d] }
  | _ => none }
def fnExactBusOkRow : OpenClaim := { program := "ytjapdkjfnmjicaa", sum := "bd57f7da573ffd1274c38a2d8a55e91971ce50bd110ed8446dd5a918dbfbabcf", func := "loop.example/crossyard/laws.FnExactBusOk", spec := "fnExactBusOk", unfollowed := true, recurses := true, apart := false }
def FnExactBusOkSaid : Prop := fnExactBusOkRow.holds Try.pinned (OpenSpec.ofChange fnExactBusOkSpec)

/-- ITS FALSE NEIGHBOUR: 'it returns false'. Refute it at one input. -/
def fnExactBusOkWrong : ChangeSpec := { name := "fnExactBusOk", fn := fun _ => fun
  | [d] => { results := [.lit (.bool false)], args := [d] }
  | _ => none }
def FnExactBusOkWrongFalsely : Prop := fnExactBusOkRow.holds Try.pinned (OpenSpec.ofChange fnExactBusOkWrong)

/-- 'laws.FnBusApart': WHATEVER THE INPUT: true; the input reads as it did. -/
def fnBusApartSpec : ChangeSpec := { name := "fnBusApart", fn := fun _ => fun
  | [d] => { results := [.lit (.bool true)], args := [d] }
  | _ => none }
def fnBusApartRow : OpenClaim := { program := "ytjapdkjfnmjicaa", sum := "bd57f7da573ffd1274c38a2d8a55e91971ce50bd110ed8446dd5a918dbfbabcf", func := "loop.example/crossyard/laws.FnBusApart", spec := "fnBusApart", unfollowed := true, recurses := true, apart := false }
def FnBusApartSaid : Prop := fnBusApartRow.holds Try.pinned (OpenSpec.ofChange fnBusApartSpec)

/-- ITS FALSE NEIGHBOUR: 'it returns false'. Refute it at one input. -/
def fnBusApartWrong : ChangeSpec := { name := "fnBusApart", fn := fun _ => fun
  | [d] => { results := [.lit (.bool false)], args := [d] }
  | _ => none }
def FnBusApartWrongFalsely : Prop := fnBusApartRow.holds Try.pinned (OpenSpec.ofChange fnBusApartWrong)

/- THE SECOND FORM. 'bulk': how many values and letters a reading holds, each counted each time it is reached (what is shared counts as often as it is met; a slice's spare places count too). A statement '..UptoSaid' is the law's where the arguments, and the package variables that the reading takes, are together of bulk at most 1048576: NARROWER than '..Said'. Prove '..Said' where nothing that the law and all that it calls make is longer than what came in: it says more and counts as full. Else prove '..UptoSaid'. A law counts once. -/
mutual
def uptoBulk {H : Type} : DataW H → Nat
  | .lit (.string bytes) => bytes.length + 1
  | .lit _ => 1
  | .nil => 1
  | .ptr d => uptoBulk d + 1
  | .slice elems spare => uptoBulkAll elems + uptoBulkAll spare + 1
  | .agg parts => uptoBulkAll parts + 1
  | .iface _ d => uptoBulk d + 1
  | .map entries => uptoBulkEntries entries + 1
  | .held _ => 1
def uptoBulkAll {H : Type} : List (DataW H) → Nat
  | [] => 0
  | d :: r => uptoBulk d + uptoBulkAll r
def uptoBulkEntries {H : Type} : List (Lit × DataW H) → Nat
  | [] => 0
  | x :: r => uptoBulkEntry x + uptoBulkEntries r
def uptoBulkEntry {H : Type} : Lit × DataW H → Nat
  | (.string bytes, d) => bytes.length + uptoBulk d + 1
  | (_, d) => uptoBulk d + 1
 end
def uptoSmall : (H : Type) → List (DataW H) → Bool := fun _ ds => decide (uptoBulkAll ds ≤ 1048576)
def OpenSpec.upto (s : _root_.Go.ChangeSpec) : _root_.Go.OpenSpec := { _root_.Go.OpenSpec.ofChange s with cond := some uptoSmall }

/-- 'laws.FnExactAtmOk', WHERE WHAT IT READS IS OF BULK AT MOST 1048576: true; the input reads as it did. -/
def fnExactAtmOkUptoRow : OpenClaim := { program := "ytjapdkjfnmjicaa", sum := "bd57f7da573ffd1274c38a2d8a55e91971ce50bd110ed8446dd5a918dbfbabcf", func := "loop.example/crossyard/laws.FnExactAtmOk", spec := "fnExactAtmOk", unfollowed := true, recurses := true, apart := false, narrowed := true }
def FnExactAtmOkUptoSaid : Prop := fnExactAtmOkUptoRow.holds Try.pinned (OpenSpec.upto fnExactAtmOkSpec)

/-- 'laws.FnExactAtmNew', WHERE WHAT IT READS IS OF BULK AT MOST 1048576: true; the input reads as it did. -/
def fnExactAtmNewUptoRow : OpenClaim := { program := "ytjapdkjfnmjicaa", sum := "bd57f7da573ffd1274c38a2d8a55e91971ce50bd110ed8446dd5a918dbfbabcf", func := "loop.example/crossyard/laws.FnExactAtmNew", spec := "fnExactAtmNew", apart := false, narrowed := true }
def FnExactAtmNewUptoSaid : Prop := fnExactAtmNewUptoRow.holds Try.pinned (OpenSpec.upto fnExactAtmNewSpec)

/-- 'laws.FnAtmOk', WHERE WHAT IT READS IS OF BULK AT MOST 1048576: true; the input reads as it did. -/
def fnAtmOkUptoRow : OpenClaim := { program := "ytjapdkjfnmjicaa", sum := "bd57f7da573ffd1274c38a2d8a55e91971ce50bd110ed8446dd5a918dbfbabcf", func := "loop.example/crossyard/laws.FnAtmOk", spec := "fnAtmOk", unfollowed := true, recurses := true, apart := false, narrowed := true }
def FnAtmOkUptoSaid : Prop := fnAtmOkUptoRow.holds Try.pinned (OpenSpec.upto fnAtmOkSpec)

/-- 'laws.FnExactToldOf', WHERE WHAT IT READS IS OF BULK AT MOST 1048576: true; the input reads as it did. -/
def fnExactToldOfUptoRow : OpenClaim := { program := "ytjapdkjfnmjicaa", sum := "bd57f7da573ffd1274c38a2d8a55e91971ce50bd110ed8446dd5a918dbfbabcf", func := "loop.example/crossyard/laws.FnExactToldOf", spec := "fnExactToldOf", apart := false, narrowed := true }
def FnExactToldOfUptoSaid : Prop := fnExactToldOfUptoRow.holds Try.pinned (OpenSpec.upto fnExactToldOfSpec)

/-- 'laws.FnBusOk', WHERE WHAT IT READS IS OF BULK AT MOST 1048576: true; the input reads as it did. -/
def fnBusOkUptoRow : OpenClaim := { program := "ytjapdkjfnmjicaa", sum := "bd57f7da573ffd1274c38a2d8a55e91971ce50bd110ed8446dd5a918dbfbabcf", func := "loop.example/crossyard/laws.FnBusOk", spec := "fnBusOk", unfollowed := true, recurses := true, apart := false, narrowed := true }
def FnBusOkUptoSaid : Prop := fnBusOkUptoRow.holds Try.pinned (OpenSpec.upto fnBusOkSpec)

/-- 'laws.FnExactTlmNew', WHERE WHAT IT READS IS OF BULK AT MOST 1048576: true; the input reads as it did. -/
def fnExactTlmNewUptoRow : OpenClaim := { program := "ytjapdkjfnmjicaa", sum := "bd57f7da573ffd1274c38a2d8a55e91971ce50bd110ed8446dd5a918dbfbabcf", func := "loop.example/crossyard/laws.FnExactTlmNew", spec := "fnExactTlmNew", apart := false, narrowed := true }
def FnExactTlmNewUptoSaid : Prop := fnExactTlmNewUptoRow.holds Try.pinned (OpenSpec.upto fnExactTlmNewSpec)

/-- 'laws.FnReqSame', WHERE WHAT IT READS IS OF BULK AT MOST 1048576: true; the input reads as it did. -/
def fnReqSameUptoRow : OpenClaim := { program := "ytjapdkjfnmjicaa", sum := "bd57f7da573ffd1274c38a2d8a55e91971ce50bd110ed8446dd5a918dbfbabcf", func := "loop.example/crossyard/laws.FnReqSame", spec := "fnReqSame", unfollowed := true, recurses := true, apart := false, narrowed := true }
def FnReqSameUptoSaid : Prop := fnReqSameUptoRow.holds Try.pinned (OpenSpec.upto fnReqSameSpec)

/-- 'laws.FnMapOnly', WHERE WHAT IT READS IS OF BULK AT MOST 1048576: true; the input reads as it did. -/
def fnMapOnlyUptoRow : OpenClaim := { program := "ytjapdkjfnmjicaa", sum := "bd57f7da573ffd1274c38a2d8a55e91971ce50bd110ed8446dd5a918dbfbabcf", func := "loop.example/crossyard/laws.FnMapOnly", spec := "fnMapOnly", unfollowed := true, recurses := true, apart := false, narrowed := true }
def FnMapOnlyUptoSaid : Prop := fnMapOnlyUptoRow.holds Try.pinned (OpenSpec.upto fnMapOnlySpec)

/-- 'laws.FnReqSlave', WHERE WHAT IT READS IS OF BULK AT MOST 1048576: true; the input reads as it did. -/
def fnReqSlaveUptoRow : OpenClaim := { program := "ytjapdkjfnmjicaa", sum := "bd57f7da573ffd1274c38a2d8a55e91971ce50bd110ed8446dd5a918dbfbabcf", func := "loop.example/crossyard/laws.FnReqSlave", spec := "fnReqSlave", unfollowed := true, recurses := true, apart := false, narrowed := true }
def FnReqSlaveUptoSaid : Prop := fnReqSlaveUptoRow.holds Try.pinned (OpenSpec.upto fnReqSlaveSpec)

/-- 'laws.FnExactReqSlave', WHERE WHAT IT READS IS OF BULK AT MOST 1048576: true; the input reads as it did. -/
def fnExactReqSlaveUptoRow : OpenClaim := { program := "ytjapdkjfnmjicaa", sum := "bd57f7da573ffd1274c38a2d8a55e91971ce50bd110ed8446dd5a918dbfbabcf", func := "loop.example/crossyard/laws.FnExactReqSlave", spec := "fnExactReqSlave", unfollowed := true, recurses := true, apart := false, narrowed := true }
def FnExactReqSlaveUptoSaid : Prop := fnExactReqSlaveUptoRow.holds Try.pinned (OpenSpec.upto fnExactReqSlaveSpec)

/-- 'laws.FnExactBusOk', WHERE WHAT IT READS IS OF BULK AT MOST 1048576: true; the input reads as it did. -/
def fnExactBusOkUptoRow : OpenClaim := { program := "ytjapdkjfnmjicaa", sum := "bd57f7da573ffd1274c38a2d8a55e91971ce50bd110ed8446dd5a918dbfbabcf", func := "loop.example/crossyard/laws.FnExactBusOk", spec := "fnExactBusOk", unfollowed := true, recurses := true, apart := false, narrowed := true }
def FnExactBusOkUptoSaid : Prop := fnExactBusOkUptoRow.holds Try.pinned (OpenSpec.upto fnExactBusOkSpec)

/-- 'laws.FnBusApart', WHERE WHAT IT READS IS OF BULK AT MOST 1048576: true; the input reads as it did. -/
def fnBusApartUptoRow : OpenClaim := { program := "ytjapdkjfnmjicaa", sum := "bd57f7da573ffd1274c38a2d8a55e91971ce50bd110ed8446dd5a918dbfbabcf", func := "loop.example/crossyard/laws.FnBusApart", spec := "fnBusApart", unfollowed := true, recurses := true, apart := false, narrowed := true }
def FnBusApartUptoSaid : Prop := fnBusApartUptoRow.holds Try.pinned (OpenSpec.upto fnBusApartSpec)

end Rows
end Go.Proofs.Ytjapdkjfnmjicaa
