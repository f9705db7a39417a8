/-
  l8Plain: the decimal digits of a number that is not below 0.
-/
import Derived.Test.YtaeiddoccfaheaaDoorProg
import Derived.Test.YtaeiddoccfaheaaDoorBase
import Derived.Lib.ItoaNum
import Derived.Lib.ItoaLen
import Derived.Laws.BytesArg
import Derived.Laws.Concat
import Derived.Deep.QuietTactic
import Derived.BigQuiet
namespace Go.Proofs.YtaeiddoccfaheaaDoor
set_option linter.unusedVariables false
set_option linter.unusedSimpArgs false
open Go.RowKit

/-- one byte, as a text -/
def one (x : Int) : ByteArray := ⟨[UInt8.ofNat x.toNat].toArray⟩
theorem one_size (x : Int) : (one x).size = 1 := rfl
theorem conv_one (w : World) (x : Int) (t : TypeId) :
    (convert 39 9 (.slice (some ⟨w.heap.size, 0, none⟩) 1 1)).run Tryd.prog (w.alloc (.cells #[.int .u8 x] t)) = .ok (.string (one x)) (w.alloc (.cells #[.int .u8 x] t)) := by
  have h := run_convert_bytes_arg (w.alloc (.cells #[.int .u8 x] t)) 39 5 Tryd.underlying39 Tryd.underlying5 w.heap.size 0 1 1 [x] rfl (fun i hi => by
    obtain rfl : i = 0 := by omega
    exact alloc1_new _ _ _ 0 rfl) 9 Tryd.underlying9
  exact h
theorem digit_one (v : Nat) : one (48 + (v : Int)) = ⟨[UInt8.ofNat (48 + v)].toArray⟩ := by
  unfold one
  have : (48 + (v : Int)).toNat = 48 + v := by omega
  rw [this]
theorem digits_len (n : Nat) (hn : n < 9223372036854775808) : (Lib.decDigits n).length ≤ 20 := by
  rw [Lib.decDigits_length]
  exact Lib.nDigits_le20 n (by omega)

set_option maxRecDepth 100000 in
set_option maxHeartbeats 1600000 in
theorem sPlain_any (n : Nat) (hn : n < 9223372036854775808) (w : World) :
    Calls Tryd.prog 25 #[.int .i64 (n : Int)] w fun e w' => e = .returned (.string ⟨(Lib.decDigits n).toArray⟩) ∧ Below w.heap.size w w' := by
  have kc := conv_one
  have ko := one_size
  go_enter Tryd.func25, Tryd.ntmps25
  go_wp2
  go_loopw [0, 3] (fun v o wr => ∃ (k : Nat) (s : ByteArray) (l : List UInt8), k ≤ n ∧ v = .int .i64 (k : Int) ∧ o = .string s ∧ s = ⟨l.toArray⟩ ∧ Lib.decDigits k ++ l = Lib.decDigits n ∧ Below w.heap.size w wr) (fun v _ _ => (intOf v).toNat)
  case atStart => exact ⟨n, _, [], Nat.le_refl _, rfl, rfl, rfl, by simp, Below.refl _ _⟩
  case round =>
    obtain ⟨k, s, l, hk, rfl, rfl, hs, he, hb⟩ := hrel
    have hl20 : l.length ≤ 20 := by
      have h1 := congrArg List.length he
      have h2 := digits_len n hn
      simp at h1
      omega
    have hsz : s.size ≤ 20 := by rw [hs]; exact hl20
    have HS := Lib.hid hs
    have HE := Lib.hid he
    have HB := Lib.hid hb
    clear he hb hs hl20
    by_cases h9 : 9 < k
    · have h9i : (9 : Int) < (k : Int) := by omega
      have hq : ¬ (1 + s.size > 9223372036854775807) := by omega
      go_wp2
      go_roundw
      case rel =>
        refine ⟨k / 10, _, UInt8.ofNat (48 + k % 10) :: l, by omega, ?_, rfl, ?_, ?_, HB.out.trans ((below_alloc _ _).mono HB.out.size)⟩
        · show Value.int _ _ = Value.int _ _
          congr 1
        · rw [HS.out, show (48 + (k : Int) % 10) = 48 + ((k % 10 : Nat) : Int) by omega, digit_one, ByteArray.mk_append_mk]
          rfl
        · rw [← HE.out]
          conv => rhs; rw [Lib.decDigits, dif_neg (by omega)]
          simp
      case measure => simp [intOf]; omega
    · have h9i : ¬ (9 : Int) < (k : Int) := by omega
      have hq : ¬ (1 + s.size > 9223372036854775807) := by omega
      go_wp2
      go_ret
      refine ⟨?_, HB.out.trans ((below_alloc _ _).mono HB.out.size)⟩
      rw [HS.out, digit_one, ByteArray.mk_append_mk, ← HE.out]
      rw [show Lib.decDigits k = [UInt8.ofNat (48 + k)] from by rw [Lib.decDigits, dif_pos (by omega)]]
      rfl

end Go.Proofs.YtaeiddoccfaheaaDoor
