/-
  A statement of a function, by the slot of its test: so that it can be walked in a lemma of its own. No program in sight.
-/
import Derived.Test.YtaeiddoccfaheaaDoorBase
namespace Go.Proofs.YtaeiddoccfaheaaDoor
set_option linter.unusedVariables false
set_option linter.unusedSimpArgs false
open Go

def isTmp (k : Nat) : Operand → Bool
  | .tmp s => s == k
  | _ => false
/-- the first 'if' whose test stands in this slot -/
def condAt (k : Nat) : Code → Option Code
  | .seq a b => match condAt k a with
    | some c => some c
    | none => condAt k b
  | .cond c t e => match isTmp k c with
    | true => some (.cond c t e)
    | false => match condAt k t with
      | some d => some d
      | none => condAt k e
  | .block _ b => condAt k b
  | .loop b => condAt k b
  | .scope b => condAt k b
  | _ => none
def ifAt (k : Nat) (f : Func) : Code := match condAt k (f.body.getD .skip) with
  | some c => c
  | none => .skip
/-- the first block of this number -/
def blkAt (k : Nat) : Code → Option Code
  | .seq a b => match blkAt k a with
    | some c => some c
    | none => blkAt k b
  | .cond _ t e => match blkAt k t with
    | some d => some d
    | none => blkAt k e
  | .block n b => match n == k with
    | true => some (.block n b)
    | false => blkAt k b
  | .loop b => blkAt k b
  | .scope b => blkAt k b
  | _ => none
def blockAt (k : Nat) (f : Func) : Code := match blkAt k (f.body.getD .skip) with
  | some c => c
  | none => .skip

end Go.Proofs.YtaeiddoccfaheaaDoor
