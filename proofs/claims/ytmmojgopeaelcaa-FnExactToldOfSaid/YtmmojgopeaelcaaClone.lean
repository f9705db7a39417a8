/-
  Copies of slices, without room behind them: slices.Clone, slices.Clip, clone.
-/
import Derived.Test.YtmmojgopeaelcaaProg
import Derived.Test.YtmmojgopeaelcaaTr
import Derived.Test.YtmmojgopeaelcaaOwn2
import Derived.OwnWalk
import Derived.KernelRfl
import Derived.WalkSpells
import Derived.WalkSmall
namespace Go.Proofs.Ytmmojgopeaelcaa
set_option linter.unusedVariables false
set_option linter.unusedSimpArgs false
open Go.RowKit Go.ChangeShapes

theorem SlR.nilF {α : Type} {K : Nat} {c : α → List Value} {w : World} {l : List α} {n cap : Nat} {fp : List Nat} (h : SlR K (flatR c) w l (.slice none n cap) fp) : l = [] ∧ n = 0 := by
  obtain ⟨a, n', cap', e, hn, _, _, ⟨rfl, _⟩ | ⟨b, off, fps, rfl, _⟩⟩ := h
  · simp only [Value.slice.injEq] at e
    obtain ⟨rfl, rfl, rfl⟩ := e
    exact ⟨rfl, hn.symm⟩
  · simp at e

theorem infoCI : (Try.prog.info? 3).map (fun i => (i.zero, i.size, i.bytes)) = some (some (.int .i64 0), 1, 8) := by kernel_rfl

set_option maxRecDepth 100000 in
theorem slCloneI {α : Type} (c : α → List Value) (hk : ∀ x, (c x).length = 1) (v : Value) (l : List α) (fq : List Nat) (hs : l.length ≤ 1048576) (w : World) (g : SlR 1 (flatR c) w l v fq) :
    Calls Try.prog 184 #[v] w fun e w' => ∃ v' fp', e = .returned v' ∧ SlR 1 (flatR c) w' l v' fp' ∧ New fp' w w' ∧ Below w.heap.size w w' := by
  obtain ⟨a, n, cap, rfl, hn, hcap, hmax, hcm, _⟩ := g.openF
  obtain ⟨i0, hi, hz0, hz1, hz2⟩ := info_parts infoCI
  have q0 : ∀ (w : World) (a : Option Addr) (n c n' c' : Nat), (binOp .eql 23 (.slice a n c) (.slice none n' c')).run Try.prog w = .ok (.bool a.isNone) w := fun w a n c n' c' => Lib.run_eql_slice_nil w _ _ a n c n' c' Try.underlying23
  cases a with
  | none =>
    obtain ⟨rfl, rfl⟩ := g.nilF
    clear g hn
    go_enter Try.func184, Try.ntmps184
    go_wp2
    go_ret
    exact ⟨_, [], rfl, ⟨none, 0, 0, rfl, rfl, Nat.le_refl _, by simp, .inl ⟨rfl, rfl⟩⟩, New.nil _ _, Below.refl _ _⟩
  | some A =>
    have hns : n ≤ 2000000 := by have := hn.out; omega
    have G := Lib.hid (SlR.below (flatR_fits hk) g (below_alloc w (.cells #[] 3)))
    have HO : Hid (OwnR 1 c 3 w.heap.size (w.alloc (.cells #[] 3)) (.slice (some ⟨w.heap.size, 0, none⟩) 0 0) []) := Lib.hid (OwnR.lit w #[] 0 [] hk rfl rfl (Nat.le_refl _) (Nat.zero_le _))
    clear g hn
    go_enter Try.func184, Try.ntmps184
    go_wp2_with (at_builtin; refine wpList_append_lit (K := 1) (c := c) (news := l) rfl _ _ 23 3 i0 (.int .i64 0) 8 hk rfl Try.underlying23 hi hz0 hz1 hz2 rfl (by decide) (by decide) rfl rfl HO.out G.out (by simp) hns ?_; intro v' w2 ho hb; have HO2 := Lib.hid ho; have HB2 := Lib.hid ((below_alloc w (.cells #[] 3)).trans (hb.mono (by simp))); clear ho hb)
    go_ret
    obtain ⟨fp', g1, g2, g3, g4⟩ := HO2.out.reads hk
    exact ⟨_, fp', rfl, g1, ⟨g2, g3, g4⟩, HB2.out⟩

theorem slClipI (a : Option Addr) (n c : Nat) (hc : n ≤ c) (hm : c ≤ maxLen) (w : World) :
    Calls Try.prog 183 #[.slice a n c] w fun e w' => e = .returned (.slice a n n) ∧ w = w' := by
  unfold maxLen at hm
  go_enter Try.func183, Try.ntmps183
  go_wp2
  go_ret
  simp

set_option maxRecDepth 100000 in
theorem cloneI {α : Type} (c : α → List Value) (hk : ∀ x, (c x).length = 1) (v : Value) (l : List α) (fq : List Nat) (hs : l.length ≤ 1048576) (w : World) (g : SlR 1 (flatR c) w l v fq) :
    Calls Try.prog 152 #[v] w fun e w' => ∃ v' fp', e = .returned v' ∧ SlR 1 (flatR c) w' l v' fp' ∧ New fp' w w' ∧ Below w.heap.size w w' := by
  obtain ⟨a0, n0, cap0, rfl, _⟩ := g.openF
  have G := Lib.hid g
  clear g
  go_enter Try.func152, Try.ntmps152
  go_wp2_with fail
  refine (slCloneI c hk _ l fq hs _ G.out).mono ?_
  rintro e w1 ⟨v', fp', rfl, g1, n1, b1⟩
  obtain ⟨a, n, cap, rfl, hn, hcap, hmax, hcm, _⟩ := g1.openF
  have G1 := Lib.hid (SlR.clip g1)
  have N1 := Lib.hid n1
  have B1 := Lib.hid b1
  clear g1 n1 b1 hn
  go_wp2_with fail
  refine (slClipI _ _ _ hcap hcm _).mono ?_
  rintro e w2 ⟨rfl, rfl⟩
  go_wp2
  go_ret
  exact ⟨_, fp', rfl, G1.out, N1.out, B1.out⟩

theorem infoCJ : (Try.prog.info? 127).map (fun i => (i.zero, i.size, i.bytes)) = some (some (.agg #[.int .i64 0, .int .i64 0, .int .i64 0, .int .i64 0, .slice none 0 0]), 5, 56) := by kernel_rfl

set_option maxRecDepth 100000 in
theorem slCloneJ {α : Type} (c : α → List Value) (hk : ∀ x, (c x).length = 5) (v : Value) (l : List α) (fq : List Nat) (hs : l.length ≤ 1048576) (w : World) (g : SlR 5 (flatR c) w l v fq) :
    Calls Try.prog 182 #[v] w fun e w' => ∃ v' fp', e = .returned v' ∧ SlR 5 (flatR c) w' l v' fp' ∧ New fp' w w' ∧ Below w.heap.size w w' := by
  obtain ⟨a, n, cap, rfl, hn, hcap, hmax, hcm, _⟩ := g.openF
  obtain ⟨i0, hi, hz0, hz1, hz2⟩ := info_parts infoCJ
  have q0 : ∀ (w : World) (a : Option Addr) (n c n' c' : Nat), (binOp .eql 44 (.slice a n c) (.slice none n' c')).run Try.prog w = .ok (.bool a.isNone) w := fun w a n c n' c' => Lib.run_eql_slice_nil w _ _ a n c n' c' Try.underlying44
  cases a with
  | none =>
    obtain ⟨rfl, rfl⟩ := g.nilF
    clear g hn
    go_enter Try.func182, Try.ntmps182
    go_wp2
    go_ret
    exact ⟨_, [], rfl, ⟨none, 0, 0, rfl, rfl, Nat.le_refl _, by simp, .inl ⟨rfl, rfl⟩⟩, New.nil _ _, Below.refl _ _⟩
  | some A =>
    have hns : n ≤ 2000000 := by have := hn.out; omega
    have G := Lib.hid (SlR.below (flatR_fits hk) g (below_alloc w (.cells #[] 127)))
    have HO : Hid (OwnR 5 c 127 w.heap.size (w.alloc (.cells #[] 127)) (.slice (some ⟨w.heap.size, 0, none⟩) 0 0) []) := Lib.hid (OwnR.lit w #[] 0 [] hk rfl rfl (Nat.le_refl _) (Nat.zero_le _))
    clear g hn
    go_enter Try.func182, Try.ntmps182
    go_wp2_with (at_builtin; refine wpList_append_lit (K := 5) (c := c) (news := l) rfl _ _ 44 127 i0 (.agg #[.int .i64 0, .int .i64 0, .int .i64 0, .int .i64 0, .slice none 0 0]) 56 hk rfl Try.underlying44 hi hz0 hz1 hz2 rfl (by decide) (by decide) rfl rfl HO.out G.out (by simp) hns ?_; intro v' w2 ho hb; have HO2 := Lib.hid ho; have HB2 := Lib.hid ((below_alloc w (.cells #[] 127)).trans (hb.mono (by simp))); clear ho hb)
    go_ret
    obtain ⟨fp', g1, g2, g3, g4⟩ := HO2.out.reads hk
    exact ⟨_, fp', rfl, g1, ⟨g2, g3, g4⟩, HB2.out⟩

theorem slClipJ (a : Option Addr) (n c : Nat) (hc : n ≤ c) (hm : c ≤ maxLen) (w : World) :
    Calls Try.prog 181 #[.slice a n c] w fun e w' => e = .returned (.slice a n n) ∧ w = w' := by
  unfold maxLen at hm
  go_enter Try.func181, Try.ntmps181
  go_wp2
  go_ret
  simp

set_option maxRecDepth 100000 in
theorem cloneJ {α : Type} (c : α → List Value) (hk : ∀ x, (c x).length = 5) (v : Value) (l : List α) (fq : List Nat) (hs : l.length ≤ 1048576) (w : World) (g : SlR 5 (flatR c) w l v fq) :
    Calls Try.prog 151 #[v] w fun e w' => ∃ v' fp', e = .returned v' ∧ SlR 5 (flatR c) w' l v' fp' ∧ New fp' w w' ∧ Below w.heap.size w w' := by
  obtain ⟨a0, n0, cap0, rfl, _⟩ := g.openF
  have G := Lib.hid g
  clear g
  go_enter Try.func151, Try.ntmps151
  go_wp2_with fail
  refine (slCloneJ c hk _ l fq hs _ G.out).mono ?_
  rintro e w1 ⟨v', fp', rfl, g1, n1, b1⟩
  obtain ⟨a, n, cap, rfl, hn, hcap, hmax, hcm, _⟩ := g1.openF
  have G1 := Lib.hid (SlR.clip g1)
  have N1 := Lib.hid n1
  have B1 := Lib.hid b1
  clear g1 n1 b1 hn
  go_wp2_with fail
  refine (slClipJ _ _ _ hcap hcm _).mono ?_
  rintro e w2 ⟨rfl, rfl⟩
  go_wp2
  go_ret
  exact ⟨_, fp', rfl, G1.out, N1.out, B1.out⟩

end Go.Proofs.Ytmmojgopeaelcaa
