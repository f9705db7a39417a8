/-
  crEvents at two lists that are the same.
-/
import Derived.Test.YtmcjklicepaiaaaProg
import Derived.Test.YtmcjklicepaiaaaPk01
import Derived.Test.YtmcjklicepaiaaaPk06
import Derived.Test.YtmcjklicepaiaaaPk05
import Derived.Test.YtmcjklicepaiaaaPk09
import Derived.WalkSmall
namespace Go.Proofs.Ytmcjklicepaiaaa
set_option linter.unusedVariables false
set_option linter.unusedSimpArgs false
open Go.RowKit Go.ChangeShapes Go.WideShapes

set_option maxRecDepth 100000 in
set_option maxHeartbeats 1600000 in
theorem crEvents_same (v1 v2 : Value) (l : List Ev) (fp1 fp2 : List Nat) (w : World) (g1 : SlR 3 evR w l v1 fp1) (g2 : SlR 3 evR w l v2 fp2) :
    Calls Try.prog 29 #[v1, v2] w fun e w' => e = .returned (.bool true) ∧ Below w.heap.size w w' := by
  obtain ⟨a1, n1, c1, rfl, hn1, k1, m1, _, r1⟩ := g1.opened
  obtain ⟨a2, n2, c2, rfl, hn2, k2, m2, _, r2⟩ := g2.opened
  obtain rfl : n2 = n1 := by rw [← hn1.out, ← hn2.out]
  clear g1 g2
  go_enter Try.func29, Try.ntmps29
  go_wp2_with fail
  go_loopw [5] (fun i wr => ∃ k : Nat, k ≤ n2 ∧ i = .int .i64 k ∧ Below w.heap.size w wr) (fun i _ => n2 - (intOf i).toNat)
  case atStart => exact ⟨0, Nat.zero_le _, rfl, Below.refl _ _⟩
  case round =>
    obtain ⟨k, hk, rfl, hb⟩ := hrel
    have HB := Lib.hid hb
    clear hb
    by_cases hlt : k < n2
    · have hlti : (k : Int) < (n2 : Int) := by omega
      obtain ⟨i1, b1, o1, f1, cs1, rfl, _, _, _, ⟨rfl, rfl⟩, e1⟩ := r1 k hlt
      obtain ⟨i2, b2, o2, f2, cs2, rfl, _, _, _, ⟨rfl, rfl⟩, e2⟩ := r2 k hlt
      obtain ⟨y, hy⟩ : ∃ z, z = l[k] := ⟨_, rfl⟩
      have p0 := keep_cell HB.out (e1 0 (by simp))
      have p1 := keep_cell HB.out (e1 1 (by simp))
      have p2 := keep_cell HB.out (e1 2 (by simp))
      have q0 := keep_cell HB.out (e2 0 (by simp))
      have q1 := keep_cell HB.out (e2 1 (by simp))
      have q2 := keep_cell HB.out (e2 2 (by simp))
      simp only [Nat.add_zero, List.getElem_cons_zero, List.getElem_cons_succ] at p0 p1 p2 q0 q1 q2
      rw [← hy] at p0 p1 p2 q0 q1 q2
      clear r1 r2 e1 e2 hy
      go_wp2_with fail
      have hst : ∀ F, F ∈ [FEq (.slice (some ⟨b1, o1, none⟩) n2 c1), FEq (.int .i64 (k : Int)), FEq (.pointer (some ⟨b1, o1 + k * 3, none⟩)), FEq (.agg #[.int .i64 y.kind, .int .i64 y.who, .int .i64 y.n]), FEq (.slice (some ⟨b2, o2, none⟩) n2 c2), FEq (.int .i64 (k : Int)), FEq (.pointer (some ⟨b2, o2 + k * 3, none⟩)), FEq (.agg #[.int .i64 y.kind, .int .i64 y.who, .int .i64 y.n]), FEq (.bool false)] → Stable [] F := by
        simp only [List.forall_mem_cons]
        exact ⟨stEq _ _, stEq _ _, stEq _ _, stEq _ _, stEq _ _, stEq _ _, stEq _ _, stEq _ _, stEq _ _, fun _ h => by simp at h⟩
      refine wp_region_tail (by kernel_rfl) (fun i => ([[], [], [0, 1], [0, 1, 2], [], [], [4, 5], [4, 5, 6], [0, 1, 2, 3, 4, 5, 6, 7]] : List (List Nat)).getD i []) (facts [FEq (.slice (some ⟨b1, o1, none⟩) n2 c1), FEq (.int .i64 (k : Int)), FEq (.pointer (some ⟨b1, o1 + k * 3, none⟩)), FEq (.agg #[.int .i64 y.kind, .int .i64 y.who, .int .i64 y.n]), FEq (.slice (some ⟨b2, o2, none⟩) n2 c2), FEq (.int .i64 (k : Int)), FEq (.pointer (some ⟨b2, o2 + k * 3, none⟩)), FEq (.agg #[.int .i64 y.kind, .int .i64 y.who, .int .i64 y.n]), FEq (.bool false)]) (fun m w' => Below wr.heap.size wr w') 26 9 9 [some 17, some 18, some 19, some 20, some 21, some 22, some 23, some 24, some 25] [] rfl rfl (by decide) rfl rfl (by kernel_rfl) (by kernel_rfl) [] (by kernel_rfl) (fun g b hm v w h => by simp at hm) ?h0 (all_lt (n := 9) ?hop) ?hend
      case h0 => exact (Below.refl _ _).drew
      case hop =>
        refine ⟨⟨⟨⟨⟨⟨⟨⟨⟨trivial, ?_⟩, ?_⟩, ?_⟩, ?_⟩, ?_⟩, ?_⟩, ?_⟩, ?_⟩, ?_⟩
        · refine Owes.mk _ rfl rfl (fun _ _ h => by cases h) fun u m w' hm hI hR => ⟨⟨#[.slice (some ⟨b1, o1, none⟩) n2 c1, undef, undef, undef, undef, undef, undef, undef, undef, undef, undef, undef, undef, undef, undef, undef, undef, undef, undef, undef, undef, undef, undef, undef, undef, undef], []⟩, rfl, fun d hd => by cases hd; exact (by decide : 17 < 26), ?_⟩
          have k0 := keep_cell hI p0
          have k1 := keep_cell hI p1
          have k2 := keep_cell hI p2
          have k3 := keep_cell hI q0
          have k4 := keep_cell hI q1
          have k5 := keep_cell hI q2
          have HI := Lib.hid hI
          clear hI hst hR
          go_wp2
          exact ⟨rfl, _, rfl, rfl, HI.out, fun _ _ h => h⟩
        · refine Owes.mk _ rfl rfl (fun _ _ h => by cases h) fun u m w' hm hI hR => ⟨⟨#[undef, undef, undef, undef, undef, .int .i64 (k : Int), undef, undef, undef, undef, undef, undef, undef, undef, undef, undef, undef, undef, undef, undef, undef, undef, undef, undef, undef, undef], []⟩, rfl, fun d hd => by cases hd; exact (by decide : 18 < 26), ?_⟩
          have k0 := keep_cell hI p0
          have k1 := keep_cell hI p1
          have k2 := keep_cell hI p2
          have k3 := keep_cell hI q0
          have k4 := keep_cell hI q1
          have k5 := keep_cell hI q2
          have HI := Lib.hid hI
          clear hI hst hR
          go_wp2
          exact ⟨rfl, _, rfl, rfl, HI.out, fun _ _ h => h⟩
        · refine Owes.mk _ rfl rfl (fun _ _ h => by cases h) fun u m w' hm hI hR => ⟨⟨#[undef, undef, undef, undef, undef, undef, undef, undef, undef, undef, undef, undef, undef, undef, undef, undef, undef, u 0, u 1, undef, undef, undef, undef, undef, undef, undef], []⟩, rfl, fun d hd => by cases hd; exact (by decide : 19 < 26), ?_⟩
          have e0 : u 0 = _ := hR 0 (by decide)
          have e1 : u 1 = _ := hR 1 (by decide)
          have k0 := keep_cell hI p0
          have k1 := keep_cell hI p1
          have k2 := keep_cell hI p2
          have k3 := keep_cell hI q0
          have k4 := keep_cell hI q1
          have k5 := keep_cell hI q2
          have HI := Lib.hid hI
          clear hI hst hR
          rw [e0, e1]
          clear e0 e1
          go_wp2
          exact ⟨rfl, _, rfl, rfl, HI.out, fun _ _ h => h⟩
        · refine Owes.mk _ rfl rfl (fun _ _ h => by cases h) fun u m w' hm hI hR => ⟨⟨#[undef, undef, undef, undef, undef, undef, undef, undef, undef, undef, undef, undef, undef, undef, undef, undef, undef, undef, undef, u 2, undef, undef, undef, undef, undef, undef], []⟩, rfl, fun d hd => by cases hd; exact (by decide : 20 < 26), ?_⟩
          have e2 : u 2 = _ := hR 2 (by decide)
          have k0 := keep_cell hI p0
          have k1 := keep_cell hI p1
          have k2 := keep_cell hI p2
          have k3 := keep_cell hI q0
          have k4 := keep_cell hI q1
          have k5 := keep_cell hI q2
          have HI := Lib.hid hI
          clear hI hst hR
          rw [e2]
          clear e2
          go_wp2
          exact ⟨rfl, _, rfl, rfl, HI.out, fun _ _ h => h⟩
        · refine Owes.mk _ rfl rfl (fun _ _ h => by cases h) fun u m w' hm hI hR => ⟨⟨#[undef, .slice (some ⟨b2, o2, none⟩) n2 c2, undef, undef, undef, undef, undef, undef, undef, undef, undef, undef, undef, undef, undef, undef, undef, undef, undef, undef, undef, undef, undef, undef, undef, undef], []⟩, rfl, fun d hd => by cases hd; exact (by decide : 21 < 26), ?_⟩
          have k0 := keep_cell hI p0
          have k1 := keep_cell hI p1
          have k2 := keep_cell hI p2
          have k3 := keep_cell hI q0
          have k4 := keep_cell hI q1
          have k5 := keep_cell hI q2
          have HI := Lib.hid hI
          clear hI hst hR
          go_wp2
          exact ⟨rfl, _, rfl, rfl, HI.out, fun _ _ h => h⟩
        · refine Owes.mk _ rfl rfl (fun _ _ h => by cases h) fun u m w' hm hI hR => ⟨⟨#[undef, undef, undef, undef, undef, .int .i64 (k : Int), undef, undef, undef, undef, undef, undef, undef, undef, undef, undef, undef, undef, undef, undef, undef, undef, undef, undef, undef, undef], []⟩, rfl, fun d hd => by cases hd; exact (by decide : 22 < 26), ?_⟩
          have k0 := keep_cell hI p0
          have k1 := keep_cell hI p1
          have k2 := keep_cell hI p2
          have k3 := keep_cell hI q0
          have k4 := keep_cell hI q1
          have k5 := keep_cell hI q2
          have HI := Lib.hid hI
          clear hI hst hR
          go_wp2
          exact ⟨rfl, _, rfl, rfl, HI.out, fun _ _ h => h⟩
        · refine Owes.mk _ rfl rfl (fun _ _ h => by cases h) fun u m w' hm hI hR => ⟨⟨#[undef, undef, undef, undef, undef, undef, undef, undef, undef, undef, undef, undef, undef, undef, undef, undef, undef, undef, undef, undef, undef, u 4, u 5, undef, undef, undef], []⟩, rfl, fun d hd => by cases hd; exact (by decide : 23 < 26), ?_⟩
          have e4 : u 4 = _ := hR 4 (by decide)
          have e5 : u 5 = _ := hR 5 (by decide)
          have k0 := keep_cell hI p0
          have k1 := keep_cell hI p1
          have k2 := keep_cell hI p2
          have k3 := keep_cell hI q0
          have k4 := keep_cell hI q1
          have k5 := keep_cell hI q2
          have HI := Lib.hid hI
          clear hI hst hR
          rw [e4, e5]
          clear e4 e5
          go_wp2
          exact ⟨rfl, _, rfl, rfl, HI.out, fun _ _ h => h⟩
        · refine Owes.mk _ rfl rfl (fun _ _ h => by cases h) fun u m w' hm hI hR => ⟨⟨#[undef, undef, undef, undef, undef, undef, undef, undef, undef, undef, undef, undef, undef, undef, undef, undef, undef, undef, undef, undef, undef, undef, undef, u 6, undef, undef], []⟩, rfl, fun d hd => by cases hd; exact (by decide : 24 < 26), ?_⟩
          have e6 : u 6 = _ := hR 6 (by decide)
          have k0 := keep_cell hI p0
          have k1 := keep_cell hI p1
          have k2 := keep_cell hI p2
          have k3 := keep_cell hI q0
          have k4 := keep_cell hI q1
          have k5 := keep_cell hI q2
          have HI := Lib.hid hI
          clear hI hst hR
          rw [e6]
          clear e6
          go_wp2
          exact ⟨rfl, _, rfl, rfl, HI.out, fun _ _ h => h⟩
        · refine Owes.mk _ rfl rfl (fun _ _ h => by cases h) fun u m w' hm hI hR => ⟨⟨#[undef, undef, undef, undef, undef, undef, undef, undef, undef, undef, undef, undef, undef, undef, undef, undef, undef, undef, undef, undef, u 3, undef, undef, undef, u 7, undef], []⟩, rfl, fun d hd => by cases hd; exact (by decide : 25 < 26), ?_⟩
          have e3 : u 3 = _ := hR 3 (by decide)
          have e7 : u 7 = _ := hR 7 (by decide)
          have k0 := keep_cell hI p0
          have k1 := keep_cell hI p1
          have k2 := keep_cell hI p2
          have k3 := keep_cell hI q0
          have k4 := keep_cell hI q1
          have k5 := keep_cell hI q2
          have HI := Lib.hid hI
          clear hI hst hR
          rw [e3, e7]
          clear e3 e7
          go_wp2
          exact ⟨rfl, _, rfl, rfl, HI.out, fun _ _ h => h⟩
      case hend =>
        intro u w' hI hR
        simp only [setAll, List.set_cons_zero, List.set_cons_succ]
        unfold wpList
        have e8 : u 8 = _ := hR 8 (by decide)
        rw [e8]
        have HBw := Lib.hid (HB.out.trans (hI.mono HB.out.size))
        clear hR hI hst e8 p0 p1 p2 q0 q1 q2
        go_wp2
        go_roundw
        case rel => exact ⟨k + 1, by omega, by go_num, HBw.out⟩
        case measure => simp [intOf]; omega
    · clear r1 r2
      go_wp2
      go_ret
      exact ⟨rfl, HB.out⟩

end Go.Proofs.Ytmcjklicepaiaaa
