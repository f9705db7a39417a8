/-
  No cell of these rows narrows 'for every input' (looked for: loops, veiled, ifaces, maps, wideKeys, modest, calm, conditions, laid).
  DERIVED. THE GIVEN ROWS OF THIS SEAT. 12 by the template 'for every input the law returns true; each argument reads behind the call as it read before'; 0 by the template 'total and deterministic' (their statements: YtmnjoogaiokhkaaTotals.lean).
  GIVEN WITH THE SEED: the statements are not yours to turn. If you find one false, say at which input.
  Laid BY PROGRAM, IN A SANDBOX (cutbox-rows.mjs): the forced cells as the released guide's own fill.sh prints them over the translation c7336315bd5a49a3… (all of the seat's roots in one cut). By AI agents, Wed Nov 11 2026. No macro, syntax, notation, axiom, sorry.
-/
import Derived.Test.YtmnjoogaiokhkaaChecked
import GoSem.Claim
import GoSem.ClaimJoined
import GoSem.ClaimMapViews
import Derived.JoinedTies
import Derived.KernelRfl
namespace Go.Proofs.Ytmnjoogaiokhkaa
/- THE CELL 'sum', in the pinned program and in every row, IS THE sha256 OF THE DUMP (.gsa) THAT YtmnjoogaiokhkaaProg.lean LOADS. Nothing in Lean hashes anything: it is a label: what it is worth is what the hold of that sum in a sandbox is worth. -/
noncomputable def Try.pinned : Pinned := { name := "ytmnjoogaiokhkaa", sum := "c7336315bd5a49a3ab296fa85287f560cf8d29801a94ba9ffc96e6a1757572bf", checked := Try.checked }
namespace Rows
def none {H : Type} : Left H := { results := [], args := [] }

/-- 'laws.FnExactConstants': WHATEVER THE INPUT: true; the input reads as it did. -/
def fnExactConstantsSpec : ChangeSpec := { name := "fnExactConstants", fn := fun _ => fun
  | [] => { results := [.lit (.bool true)], args := [] }
  | _ => none }
def fnExactConstantsRow : OpenClaim := { program := "ytmnjoogaiokhkaa", sum := "c7336315bd5a49a3ab296fa85287f560cf8d29801a94ba9ffc96e6a1757572bf", func := "loop.example/crossyard/laws.FnExactConstants", spec := "fnExactConstants", apart := false }
def FnExactConstantsSaid : Prop := fnExactConstantsRow.holds Try.pinned (OpenSpec.ofChange fnExactConstantsSpec)

/-- ITS FALSE NEIGHBOUR: 'it returns false'. Refute it at one input. -/
def fnExactConstantsWrong : ChangeSpec := { name := "fnExactConstants", fn := fun _ => fun
  | [] => { results := [.lit (.bool false)], args := [] }
  | _ => none }
def FnExactConstantsWrongFalsely : Prop := fnExactConstantsRow.holds Try.pinned (OpenSpec.ofChange fnExactConstantsWrong)

/-- 'laws.FnExactAdrOk': WHATEVER THE INPUT: true; the input reads as it did. -/
def fnExactAdrOkSpec : ChangeSpec := { name := "fnExactAdrOk", fn := fun _ => fun
  | [d1, d2, d3] => { results := [.lit (.bool true)], args := [d1, d2, d3] }
  | _ => none }
def fnExactAdrOkRow : OpenClaim := { program := "ytmnjoogaiokhkaa", sum := "c7336315bd5a49a3ab296fa85287f560cf8d29801a94ba9ffc96e6a1757572bf", func := "loop.example/crossyard/laws.FnExactAdrOk", spec := "fnExactAdrOk", apart := false }
def FnExactAdrOkSaid : Prop := fnExactAdrOkRow.holds Try.pinned (OpenSpec.ofChange fnExactAdrOkSpec)

/-- ITS FALSE NEIGHBOUR: 'it returns false'. Refute it at one input. -/
def fnExactAdrOkWrong : ChangeSpec := { name := "fnExactAdrOk", fn := fun _ => fun
  | [d1, d2, d3] => { results := [.lit (.bool false)], args := [d1, d2, d3] }
  | _ => none }
def FnExactAdrOkWrongFalsely : Prop := fnExactAdrOkRow.holds Try.pinned (OpenSpec.ofChange fnExactAdrOkWrong)

/-- 'laws.FnExactWrdPut': WHATEVER THE INPUT: true; the input reads as it did. -/
def fnExactWrdPutSpec : ChangeSpec := { name := "fnExactWrdPut", fn := fun _ => fun
  | [d1, d2, d3] => { results := [.lit (.bool true)], args := [d1, d2, d3] }
  | _ => none }
def fnExactWrdPutRow : OpenClaim := { program := "ytmnjoogaiokhkaa", sum := "c7336315bd5a49a3ab296fa85287f560cf8d29801a94ba9ffc96e6a1757572bf", func := "loop.example/crossyard/laws.FnExactWrdPut", spec := "fnExactWrdPut", apart := false }
def FnExactWrdPutSaid : Prop := fnExactWrdPutRow.holds Try.pinned (OpenSpec.ofChange fnExactWrdPutSpec)

/-- ITS FALSE NEIGHBOUR: 'it returns false'. Refute it at one input. -/
def fnExactWrdPutWrong : ChangeSpec := { name := "fnExactWrdPut", fn := fun _ => fun
  | [d1, d2, d3] => { results := [.lit (.bool false)], args := [d1, d2, d3] }
  | _ => none }
def FnExactWrdPutWrongFalsely : Prop := fnExactWrdPutRow.holds Try.pinned (OpenSpec.ofChange fnExactWrdPutWrong)

/-- 'laws.FnExactMemNew': WHATEVER THE INPUT: true; the input reads as it did. -/
def fnExactMemNewSpec : ChangeSpec := { name := "fnExactMemNew", fn := fun _ => fun
  | [] => { results := [.lit (.bool true)], args := [] }
  | _ => none }
def fnExactMemNewRow : OpenClaim := { program := "ytmnjoogaiokhkaa", sum := "c7336315bd5a49a3ab296fa85287f560cf8d29801a94ba9ffc96e6a1757572bf", func := "loop.example/crossyard/laws.FnExactMemNew", spec := "fnExactMemNew", apart := false }
def FnExactMemNewSaid : Prop := fnExactMemNewRow.holds Try.pinned (OpenSpec.ofChange fnExactMemNewSpec)

/-- ITS FALSE NEIGHBOUR: 'it returns false'. Refute it at one input. -/
def fnExactMemNewWrong : ChangeSpec := { name := "fnExactMemNew", fn := fun _ => fun
  | [] => { results := [.lit (.bool false)], args := [] }
  | _ => none }
def FnExactMemNewWrongFalsely : Prop := fnExactMemNewRow.holds Try.pinned (OpenSpec.ofChange fnExactMemNewWrong)

/-- 'laws.FnAdrOk': WHATEVER THE INPUT: true; the input reads as it did. -/
def fnAdrOkSpec : ChangeSpec := { name := "fnAdrOk", fn := fun _ => fun
  | [d] => { results := [.lit (.bool true)], args := [d] }
  | _ => none }
def fnAdrOkRow : OpenClaim := { program := "ytmnjoogaiokhkaa", sum := "c7336315bd5a49a3ab296fa85287f560cf8d29801a94ba9ffc96e6a1757572bf", func := "loop.example/crossyard/laws.FnAdrOk", spec := "fnAdrOk", apart := false }
def FnAdrOkSaid : Prop := fnAdrOkRow.holds Try.pinned (OpenSpec.ofChange fnAdrOkSpec)

/-- ITS FALSE NEIGHBOUR: 'it returns false'. Refute it at one input. -/
def fnAdrOkWrong : ChangeSpec := { name := "fnAdrOk", fn := fun _ => fun
  | [d] => { results := [.lit (.bool false)], args := [d] }
  | _ => none }
def FnAdrOkWrongFalsely : Prop := fnAdrOkRow.holds Try.pinned (OpenSpec.ofChange fnAdrOkWrong)

/-- 'laws.FnWrdPut': WHATEVER THE INPUT: true; the input reads as it did. -/
def fnWrdPutSpec : ChangeSpec := { name := "fnWrdPut", fn := fun _ => fun
  | [d] => { results := [.lit (.bool true)], args := [d] }
  | _ => none }
def fnWrdPutRow : OpenClaim := { program := "ytmnjoogaiokhkaa", sum := "c7336315bd5a49a3ab296fa85287f560cf8d29801a94ba9ffc96e6a1757572bf", func := "loop.example/crossyard/laws.FnWrdPut", spec := "fnWrdPut", apart := false }
def FnWrdPutSaid : Prop := fnWrdPutRow.holds Try.pinned (OpenSpec.ofChange fnWrdPutSpec)

/-- ITS FALSE NEIGHBOUR: 'it returns false'. Refute it at one input. -/
def fnWrdPutWrong : ChangeSpec := { name := "fnWrdPut", fn := fun _ => fun
  | [d] => { results := [.lit (.bool false)], args := [d] }
  | _ => none }
def FnWrdPutWrongFalsely : Prop := fnWrdPutRow.holds Try.pinned (OpenSpec.ofChange fnWrdPutWrong)

/-- 'laws.FnExactInOk': WHATEVER THE INPUT: true; the input reads as it did. -/
def fnExactInOkSpec : ChangeSpec := { name := "fnExactInOk", fn := fun _ => fun
  | [d] => { results := [.lit (.bool true)], args := [d] }
  | _ => none }
def fnExactInOkRow : OpenClaim := { program := "ytmnjoogaiokhkaa", sum := "c7336315bd5a49a3ab296fa85287f560cf8d29801a94ba9ffc96e6a1757572bf", func := "loop.example/crossyard/laws.FnExactInOk", spec := "fnExactInOk", apart := false }
def FnExactInOkSaid : Prop := fnExactInOkRow.holds Try.pinned (OpenSpec.ofChange fnExactInOkSpec)

/-- ITS FALSE NEIGHBOUR: 'it returns false'. Refute it at one input. -/
def fnExactInOkWrong : ChangeSpec := { name := "fnExactInOk", fn := fun _ => fun
  | [d] => { results := [.lit (.bool false)], args := [d] }
  | _ => none }
def FnExactInOkWrongFalsely : Prop := fnExactInOkRow.holds Try.pinned (OpenSpec.ofChange fnExactInOkWrong)

/-- 'laws.FnExactAdrBurst': WHATEVER THE INPUT: true; the input reads as it did. -/
def fnExactAdrBurstSpec : ChangeSpec := { name := "fnExactAdrBurst", fn := fun _ => fun
  | [d1, d2, d3] => { results := [.lit (.bool true)], args := [d1, d2, d3] }
  | _ => none }
def fnExactAdrBurstRow : OpenClaim := { program := "ytmnjoogaiokhkaa", sum := "c7336315bd5a49a3ab296fa85287f560cf8d29801a94ba9ffc96e6a1757572bf", func := "loop.example/crossyard/laws.FnExactAdrBurst", spec := "fnExactAdrBurst", apart := false }
def FnExactAdrBurstSaid : Prop := fnExactAdrBurstRow.holds Try.pinned (OpenSpec.ofChange fnExactAdrBurstSpec)

/-- ITS FALSE NEIGHBOUR: 'it returns false'. Refute it at one input. -/
def fnExactAdrBurstWrong : ChangeSpec := { name := "fnExactAdrBurst", fn := fun _ => fun
  | [d1, d2, d3] => { results := [.lit (.bool false)], args := [d1, d2, d3] }
  | _ => none }
def FnExactAdrBurstWrongFalsely : Prop := fnExactAdrBurstRow.holds Try.pinned (OpenSpec.ofChange fnExactAdrBurstWrong)

/-- 'laws.FnExactMemOk': WHATEVER THE INPUT: true; the input reads as it did. -/
def fnExactMemOkSpec : ChangeSpec := { name := "fnExactMemOk", fn := fun _ => fun
  | [d] => { results := [.lit (.bool true)], args := [d] }
  | _ => none }
def fnExactMemOkRow : OpenClaim := { program := "ytmnjoogaiokhkaa", sum := "c7336315bd5a49a3ab296fa85287f560cf8d29801a94ba9ffc96e6a1757572bf", func := "loop.example/crossyard/laws.FnExactMemOk", spec := "fnExactMemOk", unfollowed := true, recurses := true, apart := false }
def FnExactMemOkSaid : Prop := fnExactMemOkRow.holds Try.pinned (OpenSpec.ofChange fnExactMemOkSpec)

/-- ITS FALSE NEIGHBOUR: 'it returns false'. Refute it at one input. -/
def fnExactMemOkWrong : ChangeSpec := { name := "fnExactMemOk", fn := fun _ => fun
  | [d] => { results := [.lit (.bool false)], args := [d] }
  | _ => none }
def FnExactMemOkWrongFalsely : Prop := fnExactMemOkRow.holds Try.pinned (OpenSpec.ofChange fnExactMemOkWrong)

/-- 'laws.FnRspOk': WHATEVER THE INPUT: true; the input reads as it did. -/
def fnRspOkSpec : ChangeSpec := { name := "fnRspOk", fn := fun _ => fun
  | [d] => { results := [.lit (.bool true)], args := [d] }
  | _ => none }
def fnRspOkRow : OpenClaim := { program := "ytmnjoogaiokhkaa", sum := "c7336315bd5a49a3ab296fa85287f560cf8d29801a94ba9ffc96e6a1757572bf", func := "loop.example/crossyard/laws.FnRspOk", spec := "fnRspOk", unfollowed := true, recurses := true, apart := false }
def FnRspOkSaid : Prop := fnRspOkRow.holds Try.pinned (OpenSpec.ofChange fnRspOkSpec)

/-- ITS FALSE NEIGHBOUR: 'it returns false'. Refute it at one input. -/
def fnRspOkWrong : ChangeSpec := { name := "fnRspOk", fn := fun _ => fun
  | [d] => { results := [.lit (.bool false)], args := [d] }
  | _ => none }
def FnRspOkWrongFalsely : Prop := fnRspOkRow.holds Try.pinned (OpenSpec.ofChange fnRspOkWrong)

/-- 'laws.FnExactRspOk': WHATEVER THE INPUT: true; the input reads as it did. -/
def fnExactRspOkSpec : ChangeSpec := { name := "fnExactRspOk", fn := fun _ => fun
  | [d] => { results := [.lit (.bool true)], args := [d] }
  | _ => none }
def fnExactRspOkRow : OpenClaim := { program := "ytmnjoogaiokhkaa", sum := "c7336315bd5a49a3ab296fa85287f560cf8d29801a94ba9ffc96e6a1757572bf", func := "loop.example/crossyard/laws.FnExactRspOk", spec := "fnExactRspOk", unfollowed := true, recurses := true, apart := false }
def FnExactRspOkSaid : Prop := fnExactRspOkRow.holds Try.pinned (OpenSpec.ofChange fnExactRspOkSpec)

/-- ITS FALSE NEIGHBOUR: 'it returns false'. Refute it at one input. -/
def fnExactRspOkWrong : ChangeSpec := { name := "fnExactRspOk", fn := fun _ => fun
  | [d] => { results := [.lit (.bool false)], args := [d] }
  | _ => none }
def FnExactRspOkWrongFalsely : Prop := fnExactRspOkRow.holds Try.pinned (OpenSpec.ofChange fnExactRspOkWrong)

/-- 'laws.FnExactMapFind': WHATEVER THE INPUT: true; the input reads as it did. -/
def fnExactMapFindSpec : ChangeSpec := { name := "fnExactMapFind", fn := fun _ => fun
  | [d1, d2] => { results := [.lit (.bool true)], args := [d1, d2] }
  | _ => none }
def fnExactMapFindRow : OpenClaim := { program := "ytmnjoogaiokhkaa", sum := "c7336315bd5a49a3ab296fa85287f560cf8d29801a94ba9ffc96e6a1757572bf", func := "loop.example/crossyard/laws.FnExactMapFind", spec := "fnExactMapFind", unfollowed := true, recurses := true, apart := false }
def FnExactMapFindSaid : Prop := fnExactMapFindRow.holds Try.pinned (OpenSpec.ofChange fnExactMapFindSpec)

/-- ITS FALSE NEIGHBOUR: 'it returns false'. Refute it at one input. -/
def fnExactMapFindWrong : ChangeSpec := { name := "fnExactMapFind", fn := fun _ => fun
  | [d1, d2] => { results := [.lit (.bool false)], args := [d1, d2] }
  | _ => none }
def FnExactMapFindWrongFalsely : Prop := fnExactMapFindRow.holds Try.pinned (OpenSpec.ofChange fnExactMapFindWrong)

/- THE SECOND FORM. 'bulk': how many values and letters a reading holds, each counted each time it is reached (what is shared counts as often as it is met; a slice's spare places count too). A statement '..UptoSaid' is the law's where the arguments, and the package variables that the reading takes, are together of bulk at most 1048576: NARROWER than '..Said'. Prove '..Said' where nothing that the law and all that it calls make is longer than what came in: it says more and counts as full. Else prove '..UptoSaid'. A law counts once. -/
mutual
def uptoBulk {H : Type} : DataW H → Nat
  | .lit (.string bytes) => bytes.length + 1
  | .lit _ => 1
  | .nil => 1
  | .ptr d => uptoBulk d + 1
  | .slice elems spare => uptoBulkAll elems + uptoBulkAll spare + 1
  | .agg parts => uptoBulkAll parts + 1
  | .iface _ d => uptoBulk d + 1
  | .map entries => uptoBulkEntries entries + 1
  | .held _ => 1
def uptoBulkAll {H : Type} : List (DataW H) → Nat
  | [] => 0
  | d :: r => uptoBulk d + uptoBulkAll r
def uptoBulkEntries {H : Type} : List (Lit × DataW H) → Nat
  | [] => 0
  | x :: r => uptoBulkEntry x + uptoBulkEntries r
def uptoBulkEntry {H : Type} : Lit × DataW H → Nat
  | (.string bytes, d) => bytes.length + uptoBulk d + 1
  | (_, d) => uptoBulk d + 1
 end
def uptoSmall : (H : Type) → List (DataW H) → Bool := fun _ ds => decide (uptoBulkAll ds ≤ 1048576)
def OpenSpec.upto (s : _root_.Go.ChangeSpec) : _root_.Go.OpenSpec := { _root_.Go.OpenSpec.ofChange s with cond := some uptoSmall }

/-- 'laws.FnExactConstants', WHERE WHAT IT READS IS OF BULK AT MOST 1048576: true; the input reads as it did. -/
def fnExactConstantsUptoRow : OpenClaim := { program := "ytmnjoogaiokhkaa", sum := "c7336315bd5a49a3ab296fa85287f560cf8d29801a94ba9ffc96e6a1757572bf", func := "loop.example/crossyard/laws.FnExactConstants", spec := "fnExactConstants", apart := false, narrowed := true }
def FnExactConstantsUptoSaid : Prop := fnExactConstantsUptoRow.holds Try.pinned (OpenSpec.upto fnExactConstantsSpec)

/-- 'laws.FnExactAdrOk', WHERE WHAT IT READS IS OF BULK AT MOST 1048576: true; the input reads as it did. -/
def fnExactAdrOkUptoRow : OpenClaim := { program := "ytmnjoogaiokhkaa", sum := "c7336315bd5a49a3ab296fa85287f560cf8d29801a94ba9ffc96e6a1757572bf", func := "loop.example/crossyard/laws.FnExactAdrOk", spec := "fnExactAdrOk", apart := false, narrowed := true }
def FnExactAdrOkUptoSaid : Prop := fnExactAdrOkUptoRow.holds Try.pinned (OpenSpec.upto fnExactAdrOkSpec)

/-- 'laws.FnExactWrdPut', WHERE WHAT IT READS IS OF BULK AT MOST 1048576: true; the input reads as it did. -/
def fnExactWrdPutUptoRow : OpenClaim := { program := "ytmnjoogaiokhkaa", sum := "c7336315bd5a49a3ab296fa85287f560cf8d29801a94ba9ffc96e6a1757572bf", func := "loop.example/crossyard/laws.FnExactWrdPut", spec := "fnExactWrdPut", apart := false, narrowed := true }
def FnExactWrdPutUptoSaid : Prop := fnExactWrdPutUptoRow.holds Try.pinned (OpenSpec.upto fnExactWrdPutSpec)

/-- 'laws.FnExactMemNew', WHERE WHAT IT READS IS OF BULK AT MOST 1048576: true; the input reads as it did. -/
def fnExactMemNewUptoRow : OpenClaim := { program := "ytmnjoogaiokhkaa", sum := "c7336315bd5a49a3ab296fa85287f560cf8d29801a94ba9ffc96e6a1757572bf", func := "loop.example/crossyard/laws.FnExactMemNew", spec := "fnExactMemNew", apart := false, narrowed := true }
def FnExactMemNewUptoSaid : Prop := fnExactMemNewUptoRow.holds Try.pinned (OpenSpec.upto fnExactMemNewSpec)

/-- 'laws.FnAdrOk', WHERE WHAT IT READS IS OF BULK AT MOST 1048576: true; the input reads as it did. -/
def fnAdrOkUptoRow : OpenClaim := { program := "ytmnjoogaiokhkaa", sum := "c7336315bd5a49a3ab296fa85287f560cf8d29801a94ba9ffc96e6a1757572bf", func := "loop.example/crossyard/laws.FnAdrOk", spec := "fnAdrOk", apart := false, narrowed := true }
def FnAdrOkUptoSaid : Prop := fnAdrOkUptoRow.holds Try.pinned (OpenSpec.upto fnAdrOkSpec)

/-- 'laws.FnWrdPut', WHERE WHAT IT READS IS OF BULK AT MOST 1048576: true; the input reads as it did. -/
def fnWrdPutUptoRow : OpenClaim := { program := "ytmnjoogaiokhkaa", sum := "c7336315bd5a49a3ab296fa85287f560cf8d29801a94ba9ffc96e6a1757572bf", func := "loop.example/crossyard/laws.FnWrdPut", spec := "fnWrdPut", apart := false, narrowed := true }
def FnWrdPutUptoSaid : Prop := fnWrdPutUptoRow.holds Try.pinned (OpenSpec.upto fnWrdPutSpec)

/-- 'laws.FnExactInOk', WHERE WHAT IT READS IS OF BULK AT MOST 1048576: true; the input reads as it did. -/
def fnExactInOkUptoRow : OpenClaim := { program := "ytmnjoogaiokhkaa", sum := "c7336315bd5a49a3ab296fa85287f560cf8d29801a94ba9ffc96e6a1757572bf", func := "loop.example/crossyard/laws.FnExactInOk", spec := "fnExactInOk", apart := false, narrowed := true }
def FnExactInOkUptoSaid : Prop := fnExactInOkUptoRow.holds Try.pinned (OpenSpec.upto fnExactInOkSpec)

/-- 'laws.FnExactAdrBurst', WHERE WHAT IT READS IS OF BULK AT MOST 1048576: true; the input reads as it did. -/
def fnExactAdrBurstUptoRow : OpenClaim := { program := "ytmnjoogaiokhkaa", sum := "c7336315bd5a49a3ab296fa85287f560cf8d29801a94ba9ffc96e6a1757572bf", func := "loop.example/crossyard/laws.FnExactAdrBurst", spec := "fnExactAdrBurst", apart := false, narrowed := true }
def FnExactAdrBurstUptoSaid : Prop := fnExactAdrBurstUptoRow.holds Try.pinned (OpenSpec.upto fnExactAdrBurstSpec)

/-- 'laws.FnExactMemOk', WHERE WHAT IT READS IS OF BULK AT MOST 1048576: true; the input reads as it did. -/
def fnExactMemOkUptoRow : OpenClaim := { program := "ytmnjoogaiokhkaa", sum := "c7336315bd5a49a3ab296fa85287f560cf8d29801a94ba9ffc96e6a1757572bf", func := "loop.example/crossyard/laws.FnExactMemOk", spec := "fnExactMemOk", unfollowed := true, recurses := true, apart := false, narrowed := true }
def FnExactMemOkUptoSaid : Prop := fnExactMemOkUptoRow.holds Try.pinned (OpenSpec.upto fnExactMemOkSpec)

/-- 'laws.FnRspOk', WHERE WHAT IT READS IS OF BULK AT MOST 1048576: true; the input reads as it did. -/
def fnRspOkUptoRow : OpenClaim := { program := "ytmnjoogaiokhkaa", sum := "c7336315bd5a49a3ab296fa85287f560cf8d29801a94ba9ffc96e6a1757572bf", func := "loop.example/crossyard/laws.FnRspOk", spec := "fnRspOk", unfollowed := true, recurses := true, apart := false, narrowed := true }
def FnRspOkUptoSaid : Prop := fnRspOkUptoRow.holds Try.pinned (OpenSpec.upto fnRspOkSpec)

/-- 'laws.FnExactRspOk', WHERE WHAT IT READS IS OF BULK AT MOST 1048576: true; the input reads as it did. -/
def fnExactRspOkUptoRow : OpenClaim := { program := "ytmnjoogaiokhkaa", sum := "c7336315bd5a49a3ab296fa85287f560cf8d29801a94ba9ffc96e6a1757572bf", func := "loop.example/crossyard/laws.FnExactRspOk", spec := "fnExactRspOk", unfollowed := true, recurses := true, apart := false, narrowed := true }
def FnExactRspOkUptoSaid : Prop := fnExactRspOkUptoRow.holds Try.pinned (OpenSpec.upto fnExactRspOkSpec)

/-- 'laws.FnExactMapFind', WHERE WHAT IT READS IS OF BULK AT MOST 1048576: true; the input reads as it did. -/
def fnExactMapFindUptoRow : OpenClaim := { program := "ytmnjoogaiokhkaa", sum := "c7336315bd5a49a3ab296fa85287f560cf8d29801a94ba9ffc96e6a1757572bf", func := "loop.example/crossyard/laws.FnExactMapFind", spec := "fnExactMapFind", unfollowed := true, recurses := true, apart := false, narrowed := true }
def FnExactMapFindUptoSaid : Prop := fnExactMapFindUptoRow.holds Try.pinned (OpenSpec.upto fnExactMapFindSpec)

end Rows
end Go.Proofs.Ytmnjoogaiokhkaa
