/-
  No cell of these rows narrows 'for every input' (looked for: loops, veiled, ifaces, maps, wideKeys, modest, calm, conditions, laid).
  DERIVED. THE GIVEN ROWS OF THIS SEAT. 12 by the template 'for every input the law returns true; each argument reads behind the call as it read before'; 0 by the template 'total and deterministic' (their statements: YtlamjbcacminmaaTotals.lean).
  GIVEN WITH THE SEED: the statements are not yours to turn. If you find one false, say at which input.
  Laid BY PROGRAM, IN A SANDBOX (cutbox-rows.mjs): the forced cells as the released guide's own fill.sh prints them over the translation 644fd1ca9f1fa5c9… (all of the seat's roots in one cut). By AI agents, Wed Nov 11 2026. No macro, syntax, notation, axiom, sorry.
-/
import Derived.Test.YtlamjbcacminmaaChecked
import GoSem.Claim
import GoSem.ClaimJoined
import GoSem.ClaimMapViews
import Derived.JoinedTies
import Derived.KernelRfl
namespace Go.Proofs.Ytlamjbcacminmaa
/- THE CELL 'sum', in the pinned program and in every row, IS THE sha256 OF THE DUMP (.gsa) THAT YtlamjbcacminmaaProg.lean LOADS. Nothing in Lean hashes anything: it is a label: what it is worth is what the hold of that sum in a sandbox is worth. -/
noncomputable def Try.pinned : Pinned := { name := "ytlamjbcacminmaa", sum := "644fd1ca9f1fa5c98c810efca7b261739f9787f31c96df21d5d625c9db9e239e", checked := Try.checked }
namespace Rows
def none {H : Type} : Left H := { results := [], args := [] }

/-- 'laws.FnExactMapOk': WHATEVER THE INPUT: true; the input reads as it did. -/
def fnExactMapOkSpec : ChangeSpec := { name := "fnExactMapOk", fn := fun _ => fun
  | [d] => { results := [.lit (.bool true)], args := [d] }
  | _ => none }
def fnExactMapOkRow : OpenClaim := { program := "ytlamjbcacminmaa", sum := "644fd1ca9f1fa5c98c810efca7b261739f9787f31c96df21d5d625c9db9e239e", func := "loop.example/crossyard/laws.FnExactMapOk", spec := "fnExactMapOk", unfollowed := true, recurses := true, apart := false }
def FnExactMapOkSaid : Prop := fnExactMapOkRow.holds Try.pinned (OpenSpec.ofChange fnExactMapOkSpec)

/-- ITS FALSE NEIGHBOUR: 'it returns false'. Refute it at one input. -/
def fnExactMapOkWrong : ChangeSpec := { name := "fnExactMapOk", fn := fun _ => fun
  | [d] => { results := [.lit (.bool false)], args := [d] }
  | _ => none }
def FnExactMapOkWrongFalsely : Prop := fnExactMapOkRow.holds Try.pinned (OpenSpec.ofChange fnExactMapOkWrong)

/-- 'laws.FnAdrBurst': WHATEVER THE INPUT: true; the input reads as it did. -/
def fnAdrBurstSpec : ChangeSpec := { name := "fnAdrBurst", fn := fun _ => fun
  | [d] => { results := [.lit (.bool true)], args := [d] }
  | _ => none }
def fnAdrBurstRow : OpenClaim := { program := "ytlamjbcacminmaa", sum := "644fd1ca9f1fa5c98c810efca7b261739f9787f31c96df21d5d625c9db9e239e", func := "loop.example/crossyard/laws.FnAdrBurst", spec := "fnAdrBurst", apart := false }
def FnAdrBurstSaid : Prop := fnAdrBurstRow.holds Try.pinned (OpenSpec.ofChange fnAdrBurstSpec)

/-- ITS FALSE NEIGHBOUR: 'it returns false'. Refute it at one input. -/
def fnAdrBurstWrong : ChangeSpec := { name := "fnAdrBurst", fn := fun _ => fun
  | [d] => { results := [.lit (.bool false)], args := [d] }
  | _ => none }
def FnAdrBurstWrongFalsely : Prop := fnAdrBurstRow.holds Try.pinned (OpenSpec.ofChange fnAdrBurstWrong)

/-- 'laws.FnAdrWrap': WHATEVER THE INPUT: true; the input reads as it did. -/
def fnAdrWrapSpec : ChangeSpec := { name := "fnAdrWrap", fn := fun _ => fun
  | [d] => { results := [.lit (.bool true)], args := [d] }
  | _ => none }
def fnAdrWrapRow : OpenClaim := { program := "ytlamjbcacminmaa", sum := "644fd1ca9f1fa5c98c810efca7b261739f9787f31c96df21d5d625c9db9e239e", func := "loop.example/crossyard/laws.FnAdrWrap", spec := "fnAdrWrap", apart := false }
def FnAdrWrapSaid : Prop := fnAdrWrapRow.holds Try.pinned (OpenSpec.ofChange fnAdrWrapSpec)

/-- ITS FALSE NEIGHBOUR: 'it returns false'. Refute it at one input. -/
def fnAdrWrapWrong : ChangeSpec := { name := "fnAdrWrap", fn := fun _ => fun
  | [d] => { results := [.lit (.bool false)], args := [d] }
  | _ => none }
def FnAdrWrapWrongFalsely : Prop := fnAdrWrapRow.holds Try.pinned (OpenSpec.ofChange fnAdrWrapWrong)

/-- 'laws.FnExactTrcOf': WHATEVER THE INPUT: true; the input reads as it did. -/
def fnExactTrcOfSpec : ChangeSpec := { name := "fnExactTrcOf", fn := fun _ => fun
  | [d1, d2] => { results := [.lit (.bool true)], args := [d1, d2] }
  | _ => none }
def fnExactTrcOfRow : OpenClaim := { program := "ytlamjbcacminmaa", sum := "644fd1ca9f1fa5c98c810efca7b261739f9787f31c96df21d5d625c9db9e239e", func := "loop.example/crossyard/laws.FnExactTrcOf", spec := "fnExactTrcOf", apart := false }
def FnExactTrcOfSaid : Prop := fnExactTrcOfRow.holds Try.pinned (OpenSpec.ofChange fnExactTrcOfSpec)

/-- ITS FALSE NEIGHBOUR: 'it returns false'. Refute it at one input. -/
def fnExactTrcOfWrong : ChangeSpec := { name := "fnExactTrcOf", fn := fun _ => fun
  | [d1, d2] => { results := [.lit (.bool false)], args := [d1, d2] }
  | _ => none }
def FnExactTrcOfWrongFalsely : Prop := fnExactTrcOfRow.holds Try.pinned (OpenSpec.ofChange fnExactTrcOfWrong)

/-- 'laws.FnMapOk': WHATEVER THE INPUT: true; the input reads as it did. -/
def fnMapOkSpec : ChangeSpec := { name := "fnMapOk", fn := fun _ => fun
  | [d] => { results := [.lit (.bool true)], args := [d] }
  | _ => none }
def fnMapOkRow : OpenClaim := { program := "ytlamjbcacminmaa", sum := "644fd1ca9f1fa5c98c810efca7b261739f9787f31c96df21d5d625c9db9e239e", func := "loop.example/crossyard/laws.FnMapOk", spec := "fnMapOk", unfollowed := true, recurses := true, apart := false }
def FnMapOkSaid : Prop := fnMapOkRow.holds Try.pinned (OpenSpec.ofChange fnMapOkSpec)

/-- ITS FALSE NEIGHBOUR: 'it returns false'. Refute it at one input. -/
def fnMapOkWrong : ChangeSpec := { name := "fnMapOk", fn := fun _ => fun
  | [d] => { results := [.lit (.bool false)], args := [d] }
  | _ => none }
def FnMapOkWrongFalsely : Prop := fnMapOkRow.holds Try.pinned (OpenSpec.ofChange fnMapOkWrong)

/-- 'laws.FnMemOk': WHATEVER THE INPUT: true; the input reads as it did. -/
def fnMemOkSpec : ChangeSpec := { name := "fnMemOk", fn := fun _ => fun
  | [d] => { results := [.lit (.bool true)], args := [d] }
  | _ => none }
def fnMemOkRow : OpenClaim := { program := "ytlamjbcacminmaa", sum := "644fd1ca9f1fa5c98c810efca7b261739f9787f31c96df21d5d625c9db9e239e", func := "loop.example/crossyard/laws.FnMemOk", spec := "fnMemOk", unfollowed := true, recurses := true, apart := false }
def FnMemOkSaid : Prop := fnMemOkRow.holds Try.pinned (OpenSpec.ofChange fnMemOkSpec)

/-- ITS FALSE NEIGHBOUR: 'it returns false'. Refute it at one input. -/
def fnMemOkWrong : ChangeSpec := { name := "fnMemOk", fn := fun _ => fun
  | [d] => { results := [.lit (.bool false)], args := [d] }
  | _ => none }
def FnMemOkWrongFalsely : Prop := fnMemOkRow.holds Try.pinned (OpenSpec.ofChange fnMemOkWrong)

/-- 'laws.FnInOk': WHATEVER THE INPUT: true; the input reads as it did. -/
def fnInOkSpec : ChangeSpec := { name := "fnInOk", fn := fun _ => fun
  | [d] => { results := [.lit (.bool true)], args := [d] }
  | _ => none }
def fnInOkRow : OpenClaim := { program := "ytlamjbcacminmaa", sum := "644fd1ca9f1fa5c98c810efca7b261739f9787f31c96df21d5d625c9db9e239e", func := "loop.example/crossyard/laws.FnInOk", spec := "fnInOk", apart := false }
def FnInOkSaid : Prop := fnInOkRow.holds Try.pinned (OpenSpec.ofChange fnInOkSpec)

/-- ITS FALSE NEIGHBOUR: 'it returns false'. Refute it at one input. -/
def fnInOkWrong : ChangeSpec := { name := "fnInOk", fn := fun _ => fun
  | [d] => { results := [.lit (.bool false)], args := [d] }
  | _ => none }
def FnInOkWrongFalsely : Prop := fnInOkRow.holds Try.pinned (OpenSpec.ofChange fnInOkWrong)

/-- 'laws.FnExactInAll': WHATEVER THE INPUT: true; the input reads as it did. -/
def fnExactInAllSpec : ChangeSpec := { name := "fnExactInAll", fn := fun _ => fun
  | [] => { results := [.lit (.bool true)], args := [] }
  | _ => none }
def fnExactInAllRow : OpenClaim := { program := "ytlamjbcacminmaa", sum := "644fd1ca9f1fa5c98c810efca7b261739f9787f31c96df21d5d625c9db9e239e", func := "loop.example/crossyard/laws.FnExactInAll", spec := "fnExactInAll", apart := false }
def FnExactInAllSaid : Prop := fnExactInAllRow.holds Try.pinned (OpenSpec.ofChange fnExactInAllSpec)

/-- ITS FALSE NEIGHBOUR: 'it returns false'. Refute it at one input. -/
def fnExactInAllWrong : ChangeSpec := { name := "fnExactInAll", fn := fun _ => fun
  | [] => { results := [.lit (.bool false)], args := [] }
  | _ => none }
def FnExactInAllWrongFalsely : Prop := fnExactInAllRow.holds Try.pinned (OpenSpec.ofChange fnExactInAllWrong)

/-- 'laws.FnMapFind': WHATEVER THE INPUT: true; the input reads as it did. -/
def fnMapFindSpec : ChangeSpec := { name := "fnMapFind", fn := fun _ => fun
  | [d] => { results := [.lit (.bool true)], args := [d] }
  | _ => none }
def fnMapFindRow : OpenClaim := { program := "ytlamjbcacminmaa", sum := "644fd1ca9f1fa5c98c810efca7b261739f9787f31c96df21d5d625c9db9e239e", func := "loop.example/crossyard/laws.FnMapFind", spec := "fnMapFind", unfollowed := true, recurses := true, apart := false }
def FnMapFindSaid : Prop := fnMapFindRow.holds Try.pinned (OpenSpec.ofChange fnMapFindSpec)

/-- ITS FALSE NEIGHBOUR: 'it returns false'. Refute it at one input. -/
def fnMapFindWrong : ChangeSpec := { name := "fnMapFind", fn := fun _ => fun
  | [d] => { results := [.lit (.bool false)], args := [d] }
  | _ => none }
def FnMapFindWrongFalsely : Prop := fnMapFindRow.holds Try.pinned (OpenSpec.ofChange fnMapFindWrong)

/-- 'laws.FnMapLess': WHATEVER THE INPUT: true; the input reads as it did. -/
def fnMapLessSpec : ChangeSpec := { name := "fnMapLess", fn := fun _ => fun
  | [d] => { results := [.lit (.bool true)], args := [d] }
  | _ => none }
def fnMapLessRow : OpenClaim := { program := "ytlamjbcacminmaa", sum := "644fd1ca9f1fa5c98c810efca7b261739f9787f31c96df21d5d625c9db9e239e", func := "loop.example/crossyard/laws.FnMapLess", spec := "fnMapLess", unfollowed := true, recurses := true, apart := false }
def FnMapLessSaid : Prop := fnMapLessRow.holds Try.pinned (OpenSpec.ofChange fnMapLessSpec)

/-- ITS FALSE NEIGHBOUR: 'it returns false'. Refute it at one input. -/
def fnMapLessWrong : ChangeSpec := { name := "fnMapLess", fn := fun _ => fun
  | [d] => { results := [.lit (.bool false)], args := [d] }
  | _ => none }
def FnMapLessWrongFalsely : Prop := fnMapLessRow.holds Try.pinned (OpenSpec.ofChange fnMapLessWrong)

/-- 'laws.FnReqOk': WHATEVER THE INPUT: true; the input reads as it did. -/
def fnReqOkSpec : ChangeSpec := { name := "fnReqOk", fn := fun _ => fun
  | [d] => { results := [.lit (.bool true)], args := [d] }
  | _ => none }
def fnReqOkRow : OpenClaim := { program := "ytlamjbcacminmaa", sum := "644fd1ca9f1fa5c98c810efca7b261739f9787f31c96df21d5d625c9db9e239e", func := "loop.example/crossyard/laws.FnReqOk", spec := "fnReqOk", unfollowed := true, recurses := true, apart := false }
def FnReqOkSaid : Prop := fnReqOkRow.holds Try.pinned (OpenSpec.ofChange fnReqOkSpec)

/-- ITS FALSE NEIGHBOUR: 'it returns false'. Refute it at one input. -/
def fnReqOkWrong : ChangeSpec := { name := "fnReqOk", fn := fun _ => fun
  | [d] => { results := [.lit (.bool false)], args := [d] }
  | _ => none }
def FnReqOkWrongFalsely : Prop := fnReqOkRow.holds Try.pinned (OpenSpec.ofChange fnReqOkWrong)

/-- 'laws.FnExactReqOk': WHATEVER THE INPUT: true; the input reads as it did. -/
def fnExactReqOkSpec : ChangeSpec := { name := "fnExactReqOk", fn := fun _ => fun
  | [d] => { results := [.lit (.bool true)], args := [d] }
  | _ => none }
def fnExactReqOkRow : OpenClaim := { program := "ytlamjbcacminmaa", sum := "644fd1ca9f1fa5c98c810efca7b261739f9787f31c96df21d5d625c9db9e239e", func := "loop.example/crossyard/laws.FnExactReqOk", spec := "fnExactReqOk", unfollowed := true, recurses := true, apart := false }
def FnExactReqOkSaid : Prop := fnExactReqOkRow.holds Try.pinned (OpenSpec.ofChange fnExactReqOkSpec)

/-- ITS FALSE NEIGHBOUR: 'it returns false'. Refute it at one input. -/
def fnExactReqOkWrong : ChangeSpec := { name := "fnExactReqOk", fn := fun _ => fun
  | [d] => { results := [.lit (.bool false)], args := [d] }
  | _ => none }
def FnExactReqOkWrongFalsely : Prop := fnExactReqOkRow.holds Try.pinned (OpenSpec.ofChange fnExactReqOkWrong)

/- THE SECOND FORM. 'bulk': how many values and letters a reading holds, each counted each time it is reached (what is shared counts as often as it is met; a slice's spare places count too). A statement '..UptoSaid' is the law's where the arguments, and the package variables that the reading takes, are together of bulk at most 1048576: NARROWER than '..Said'. Prove '..Said' where nothing that the law and all that it calls make is longer than what came in: it says more and counts as full. Else prove '..UptoSaid'. A law counts once. -/
mutual
def uptoBulk {H : Type} : DataW H → Nat
  | .lit (.string bytes) => bytes.length + 1
  | .lit _ => 1
  | .nil => 1
  | .ptr d => uptoBulk d + 1
  | .slice elems spare => uptoBulkAll elems + uptoBulkAll spare + 1
  | .agg parts => uptoBulkAll parts + 1
  | .iface _ d => uptoBulk d + 1
  | .map entries => uptoBulkEntries entries + 1
  | .held _ => 1
def uptoBulkAll {H : Type} : List (DataW H) → Nat
  | [] => 0
  | d :: r => uptoBulk d + uptoBulkAll r
def uptoBulkEntries {H : Type} : List (Lit × DataW H) → Nat
  | [] => 0
  | x :: r => uptoBulkEntry x + uptoBulkEntries r
def uptoBulkEntry {H : Type} : Lit × DataW H → Nat
  | (.string bytes, d) => bytes.length + uptoBulk d + 1
  | (_, d) => uptoBulk d + 1
 end
def uptoSmall : (H : Type) → List (DataW H) → Bool := fun _ ds => decide (uptoBulkAll ds ≤ 1048576)
def OpenSpec.upto (s : _root_.Go.ChangeSpec) : _root_.Go.OpenSpec := { _root_.Go.OpenSpec.ofChange s with cond := some uptoSmall }

/-- 'laws.FnExactMapOk', WHERE WHAT IT READS IS OF BULK AT MOST 1048576: true; the input reads as it did. -/
def fnExactMapOkUptoRow : OpenClaim := { program := "ytlamjbcacminmaa", sum := "644fd1ca9f1fa5c98c810efca7b261739f9787f31c96df21d5d625c9db9e239e", func := "loop.example/crossyard/laws.FnExactMapOk", spec := "fnExactMapOk", unfollowed := true, recurses := true, apart := false, narrowed := true }
def FnExactMapOkUptoSaid : Prop := fnExactMapOkUptoRow.holds Try.pinned (OpenSpec.upto fnExactMapOkSpec)

/-- 'laws.FnAdrBurst', WHERE WHAT IT READS IS OF BULK AT MOST 1048576: true; the input reads as it did. -/
def fnAdrBurstUptoRow : OpenClaim := { program := "ytlamjbcacminmaa", sum := "644fd1ca9f1fa5c98c810efca7b261739f9787f31c96df21d5d625c9db9e239e", func := "loop.example/crossyard/laws.FnAdrBurst", spec := "fnAdrBurst", apart := false, narrowed := true }
def FnAdrBurstUptoSaid : Prop := fnAdrBurstUptoRow.holds Try.pinned (OpenSpec.upto fnAdrBurstSpec)

/-- 'laws.FnAdrWrap', WHERE WHAT IT READS IS OF BULK AT MOST 1048576: true; the input reads as it did. -/
def fnAdrWrapUptoRow : OpenClaim := { program := "ytlamjbcacminmaa", sum := "644fd1ca9f1fa5c98c810efca7b261739f9787f31c96df21d5d625c9db9e239e", func := "loop.example/crossyard/laws.FnAdrWrap", spec := "fnAdrWrap", apart := false, narrowed := true }
def FnAdrWrapUptoSaid : Prop := fnAdrWrapUptoRow.holds Try.pinned (OpenSpec.upto fnAdrWrapSpec)

/-- 'laws.FnExactTrcOf', WHERE WHAT IT READS IS OF BULK AT MOST 1048576: true; the input reads as it did. -/
def fnExactTrcOfUptoRow : OpenClaim := { program := "ytlamjbcacminmaa", sum := "644fd1ca9f1fa5c98c810efca7b261739f9787f31c96df21d5d625c9db9e239e", func := "loop.example/crossyard/laws.FnExactTrcOf", spec := "fnExactTrcOf", apart := false, narrowed := true }
def FnExactTrcOfUptoSaid : Prop := fnExactTrcOfUptoRow.holds Try.pinned (OpenSpec.upto fnExactTrcOfSpec)

/-- 'laws.FnMapOk', WHERE WHAT IT READS IS OF BULK AT MOST 1048576: true; the input reads as it did. -/
def fnMapOkUptoRow : OpenClaim := { program := "ytlamjbcacminmaa", sum := "644fd1ca9f1fa5c98c810efca7b261739f9787f31c96df21d5d625c9db9e239e", func := "loop.example/crossyard/laws.FnMapOk", spec := "fnMapOk", unfollowed := true, recurses := true, apart := false, narrowed := true }
def FnMapOkUptoSaid : Prop := fnMapOkUptoRow.holds Try.pinned (OpenSpec.upto fnMapOkSpec)

/-- 'laws.FnMemOk', WHERE WHAT IT READS IS OF BULK AT MOST 1048576: true; the input reads as it did. -/
def fnMemOkUptoRow : OpenClaim := { program := "ytlamjbcacminmaa", sum := "644fd1ca9f1fa5c98c810efca7b261739f9787f31c96df21d5d625c9db9e239e", func := "loop.example/crossyard/laws.FnMemOk", spec := "fnMemOk", unfollowed := true, recurses := true, apart := false, narrowed := true }
def FnMemOkUptoSaid : Prop := fnMemOkUptoRow.holds Try.pinned (OpenSpec.upto fnMemOkSpec)

/-- 'laws.FnInOk', WHERE WHAT IT READS IS OF BULK AT MOST 1048576: true; the input reads as it did. -/
def fnInOkUptoRow : OpenClaim := { program := "ytlamjbcacminmaa", sum := "644fd1ca9f1fa5c98c810efca7b261739f9787f31c96df21d5d625c9db9e239e", func := "loop.example/crossyard/laws.FnInOk", spec := "fnInOk", apart := false, narrowed := true }
def FnInOkUptoSaid : Prop := fnInOkUptoRow.holds Try.pinned (OpenSpec.upto fnInOkSpec)

/-- 'laws.FnExactInAll', WHERE WHAT IT READS IS OF BULK AT MOST 1048576: true; the input reads as it did. -/
def fnExactInAllUptoRow : OpenClaim := { program := "ytlamjbcacminmaa", sum := "644fd1ca9f1fa5c98c810efca7b261739f9787f31c96df21d5d625c9db9e239e", func := "loop.example/crossyard/laws.FnExactInAll", spec := "fnExactInAll", apart := false, narrowed := true }
def FnExactInAllUptoSaid : Prop := fnExactInAllUptoRow.holds Try.pinned (OpenSpec.upto fnExactInAllSpec)

/-- 'laws.FnMapFind', WHERE WHAT IT READS IS OF BULK AT MOST 1048576: true; the input reads as it did. -/
def fnMapFindUptoRow : OpenClaim := { program := "ytlamjbcacminmaa", sum := "644fd1ca9f1fa5c98c810efca7b261739f9787f31c96df21d5d625c9db9e239e", func := "loop.example/crossyard/laws.FnMapFind", spec := "fnMapFind", unfollowed := true, recurses := true, apart := false, narrowed := true }
def FnMapFindUptoSaid : Prop := fnMapFindUptoRow.holds Try.pinned (OpenSpec.upto fnMapFindSpec)

/-- 'laws.FnMapLess', WHERE WHAT IT READS IS OF BULK AT MOST 1048576: true; the input reads as it did. -/
def fnMapLessUptoRow : OpenClaim := { program := "ytlamjbcacminmaa", sum := "644fd1ca9f1fa5c98c810efca7b261739f9787f31c96df21d5d625c9db9e239e", func := "loop.example/crossyard/laws.FnMapLess", spec := "fnMapLess", unfollowed := true, recurses := true, apart := false, narrowed := true }
def FnMapLessUptoSaid : Prop := fnMapLessUptoRow.holds Try.pinned (OpenSpec.upto fnMapLessSpec)

/-- 'laws.FnReqOk', WHERE WHAT IT READS IS OF BULK AT MOST 1048576: true; the input reads as it did. -/
def fnReqOkUptoRow : OpenClaim := { program := "ytlamjbcacminmaa", sum := "644fd1ca9f1fa5c98c810efca7b261739f9787f31c96df21d5d625c9db9e239e", func := "loop.example/crossyard/laws.FnReqOk", spec := "fnReqOk", unfollowed := true, recurses := true, apart := false, narrowed := true }
def FnReqOkUptoSaid : Prop := fnReqOkUptoRow.holds Try.pinned (OpenSpec.upto fnReqOkSpec)

/-- 'laws.FnExactReqOk', WHERE WHAT IT READS IS OF BULK AT MOST 1048576: true; the input reads as it did. -/
def fnExactReqOkUptoRow : OpenClaim := { program := "ytlamjbcacminmaa", sum := "644fd1ca9f1fa5c98c810efca7b261739f9787f31c96df21d5d625c9db9e239e", func := "loop.example/crossyard/laws.FnExactReqOk", spec := "fnExactReqOk", unfollowed := true, recurses := true, apart := false, narrowed := true }
def FnExactReqOkUptoSaid : Prop := fnExactReqOkUptoRow.holds Try.pinned (OpenSpec.upto fnExactReqOkSpec)

end Rows
end Go.Proofs.Ytlamjbcacminmaa
