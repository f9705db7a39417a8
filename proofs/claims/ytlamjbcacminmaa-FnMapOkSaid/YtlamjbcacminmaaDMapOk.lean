/-
  What DrawMapOk, DrawMapFind draw: ranges, and an address.
-/
import Derived.Test.YtlamjbcacminmaaProg
import Derived.Test.YtlamjbcacminmaaBase
import Derived.Test.YtlamjbcacminmaaDMap
import Derived.Test.YtlamjbcacminmaaAddr
namespace Go.Proofs.Ytlamjbcacminmaa
set_option linter.unusedVariables false
set_option linter.unusedSimpArgs false
open Go.RowKit

theorem mrRow_reads {w : World} {base : Nat} {v : Value} {l : List MR} (h : MrRow base w v l) : ∃ fp, SlR 4 mrR w l v fp ∧ (∀ b, b ∈ fp → base ≤ b) ∧ fp.Nodup ∧ Free fp w := OwnR.reads MrC_len h

theorem drawMapOk_any (v : Value) (l : List Int) (fp : List Nat) (w : World) (g : ByteS w l v fp) :
    Calls Try.prog 35 #[v] w fun e w' => ∃ (v' : Value) (x : List MR) (fp' : List Nat), e = .returned v' ∧ SlR 4 mrR w' x v' fp' ∧ x.length ≤ 7 ∧ Below w.heap.size w w' := by
  go_enter Try.func35, Try.ntmps35
  go_wp2_with fail
  refine (l20Open_any v l fp w g).mono ?_
  rintro e w1 ⟨rb, fq, rfl, hrb, hfq, h0, b0⟩
  have H0 := Lib.hid h0
  have B0 := Lib.hid b0
  have fl : ∀ b, b ∈ fq → b < w1.heap.size := fun b hb => by have := hfq b hb; have := b0.size; omega
  have FL := Lib.hid fl
  clear h0 b0 fl
  go_wp2_with fail
  refine (l20Map_any rb fq 0 2 (by omega) (by omega) (by omega) _ H0.out FL.out).mono ?_
  rintro e w2 ⟨v2, x, rfl, hr, hx, h2, c2⟩
  obtain ⟨fp2, s2, _⟩ := mrRow_reads hr
  have S2 := Lib.hid s2
  have HB := Lib.hid (((B0.out.chg [rb]).trans' c2).home (fun b hb => by simp at hb; omega))
  clear hr h2 c2 s2
  go_wp2
  go_ret
  exact ⟨v2, x, fp2, rfl, S2.out, hx, HB.out⟩

end Go.Proofs.Ytlamjbcacminmaa
