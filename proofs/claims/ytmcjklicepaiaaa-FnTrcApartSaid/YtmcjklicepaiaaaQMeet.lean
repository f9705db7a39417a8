/-
  Whether two bursts have an address of both (l9Meet); slices.Index, slices.Contains of ints; isMaster, asks, kind, l9Does.
-/
import Derived.Test.YtmcjklicepaiaaaProg
import Derived.Test.YtmcjklicepaiaaaPk01
import Derived.Test.YtmcjklicepaiaaaQBus
import Derived.Test.YtmcjklicepaiaaaQBusOk
import Derived.Test.YtmcjklicepaiaaaPk06
import Derived.Test.YtmcjklicepaiaaaPk14
import Derived.Test.YtmcjklicepaiaaaPk15
import Derived.Test.YtmcjklicepaiaaaPk08
import Derived.Deep.QuietTactic
import Derived.BigQuiet
import Derived.WalkSmall
import Derived.Deep.Cut
namespace Go.Proofs.Ytmcjklicepaiaaa
set_option linter.unusedVariables false
set_option linter.unusedSimpArgs false
open Go.RowKit

/-- two bursts have an address of both -/
def hits (l m : List Int) : Bool := l.any fun x => m.contains x
theorem hits_yes {l m : List Int} {k j : Nat} (hk : k < l.length) (hj : j < m.length) (e : l[k] = m[j]) : hits l m = true := by
  unfold hits
  rw [List.any_eq_true]
  refine ⟨l[k], List.getElem_mem hk, ?_⟩
  rw [e]
  simp
theorem hits_no {l m : List Int} (h : ∀ k (hk : k < l.length), m.contains l[k] = false) : hits l m = false := by
  unfold hits
  rw [List.any_eq_false]
  intro x hx
  obtain ⟨k, hk, rfl⟩ := List.mem_iff_getElem.1 hx
  rw [h k hk]
  simp
theorem not_contains {m : List Int} {a : Int} (h : ∀ j (hj : j < m.length), a ≠ m[j]) : m.contains a = false := by
  rw [Bool.eq_false_iff]
  intro hc
  rw [List.contains_iff_mem] at hc
  obtain ⟨j, hj, e⟩ := List.mem_iff_getElem.1 hc
  exact h j hj e.symm
def meetB (a b : Req) : Bool := hits (burstOf a) (burstOf b)

set_option maxRecDepth 100000 in
set_option maxHeartbeats 3200000 in
theorem sMeet_any (a b : Req) (va la vb lb : Value) (w : World) :
    Calls Try.prog 117 #[.agg #[.int .i64 a.id, .int .i64 a.kind, .int .i64 a.addr, .int .i64 a.many, .bool a.wrap, va, la], .agg #[.int .i64 b.id, .int .i64 b.kind, .int .i64 b.addr, .int .i64 b.many, .bool b.wrap, vb, lb]] w fun e w' => e = .returned (.bool (meetB a b)) ∧ Below w.heap.size w w' := by
  obtain ⟨w0, hw0⟩ : ∃ w0, w0 = w.alloc (.cells #[.int .i64 a.id, .int .i64 a.kind, .int .i64 a.addr, .int .i64 a.many, .bool a.wrap, va, la] 26) := ⟨_, rfl⟩
  have hb0 : Below w.heap.size w w0 := by rw [hw0]; exact below_alloc _ _
  obtain ⟨w1, hw1⟩ : ∃ w1, w1 = w0.alloc (.cells #[.int .i64 b.id, .int .i64 b.kind, .int .i64 b.addr, .int .i64 b.many, .bool b.wrap, vb, lb] 26) := ⟨_, rfl⟩
  have hb1 : Below w0.heap.size w0 w1 := by rw [hw1]; exact below_alloc _ _
  have B := Lib.hid (hb0.trans (hb1.mono hb0.size))
  have Y2 : w1.cell? ⟨w0.heap.size, 2, none⟩ = some (.int .i64 b.addr) := by rw [hw1]; exact alloc1_new _ _ _ 2 rfl
  have Y3 : w1.cell? ⟨w0.heap.size, 3, none⟩ = some (.int .i64 b.many) := by rw [hw1]; exact alloc1_new _ _ _ 3 rfl
  have Y4 : w1.cell? ⟨w0.heap.size, 4, none⟩ = some (.bool b.wrap) := by rw [hw1]; exact alloc1_new _ _ _ 4 rfl
  have X2 : w1.cell? ⟨w.heap.size, 2, none⟩ = some (.int .i64 a.addr) := keep_cell hb1 (by rw [hw0]; exact alloc1_new _ _ _ 2 rfl)
  have X3 : w1.cell? ⟨w.heap.size, 3, none⟩ = some (.int .i64 a.many) := keep_cell hb1 (by rw [hw0]; exact alloc1_new _ _ _ 3 rfl)
  have X4 : w1.cell? ⟨w.heap.size, 4, none⟩ = some (.bool a.wrap) := keep_cell hb1 (by rw [hw0]; exact alloc1_new _ _ _ 4 rfl)
  have hz : w0.heap.size = w.heap.size + 1 := by rw [hw0]; simp
  clear hb0 hb1
  go_enter Try.func117, Try.ntmps117
  go_upto_region 1 with fail
  rw [← hw0, ← hw1]
  rw [hz] at Y2 Y3 Y4
  clear hw0 hw1 hz
  go_wp2_with fail
  refine (sAdrBurst_any _ _ _ _).mono ?_
  rintro e w2 ⟨v1, f1, rfl, s1, _, b2⟩
  replace Y2 := keep_cell b2 Y2
  replace Y3 := keep_cell b2 Y3
  replace Y4 := keep_cell b2 Y4
  replace B := Lib.hid (B.out.trans (b2.mono B.out.size))
  obtain ⟨l, hl⟩ : ∃ l, l = adrBurst a.addr a.many a.wrap := ⟨_, rfl⟩
  rw [← hl] at s1
  obtain ⟨a1, n1, c1, rfl, hn1, hcap1, hmax1, hcm1, r1⟩ := IntS.opened s1
  have S1 := Lib.hid s1
  clear b2 s1 r1 X2 X3 X4
  go_wp2_with fail
  refine (sAdrBurst_any _ _ _ _).mono ?_
  rintro e w3 ⟨v2, f2, rfl, s2, _, b3⟩
  replace B := Lib.hid (B.out.trans (b3.mono B.out.size))
  obtain ⟨_, _, _, q1, _, _, _, _, r1⟩ := IntS.opened (SlR.below intR_fits S1.out b3)
  simp only [Value.slice.injEq] at q1
  obtain ⟨rfl, rfl, rfl⟩ := q1
  obtain ⟨m, hm⟩ : ∃ m, m = adrBurst b.addr b.many b.wrap := ⟨_, rfl⟩
  rw [← hm] at s2
  obtain ⟨a2, n2, c2, rfl, hn2, hcap2, hmax2, hcm2, r2⟩ := IntS.opened s2
  have HM : Hid (meetB a b = hits l m) := Lib.hid (by rw [hl, hm]; rfl)
  clear b3 s2 S1 Y2 Y3 Y4 hl hm
  go_wp2_with fail
  go_loopw [7] (fun i wr => ∃ k : Nat, k ≤ n1 ∧ i = .int .i64 k ∧ (∀ j (h : j < l.length), j < k → m.contains l[j] = false) ∧ ∃ q, wr = w3.drewN q) (fun i _ => n1 - (intOf i).toNat)
  case atStart => exact ⟨0, Nat.zero_le _, rfl, fun j _ h => absurd h (Nat.not_lt_zero j), 0, rfl⟩
  case round =>
    obtain ⟨k, hk, rfl, hp, q, rfl⟩ := hrel
    have HP := Lib.hid hp
    clear hp
    by_cases hlt : k < n1
    · obtain ⟨i1, b1, o1, rfl, hb1, _, e1⟩ := r1 k hlt
      clear r1
      go_wp2_with fail
      go_loopw [8] (fun i wr => ∃ j : Nat, j ≤ n2 ∧ i = .int .i64 j ∧ (∀ p (h : p < m.length), p < j → l[k] ≠ m[p]) ∧ ∃ q, wr = w3.drewN q) (fun i _ => n2 - (intOf i).toNat)
      case atStart => exact ⟨0, Nat.zero_le _, rfl, fun j _ h => absurd h (Nat.not_lt_zero j), q, rfl⟩
      case round =>
        obtain ⟨j, hj, rfl, hq, q2, rfl⟩ := hrel
        have HQ := Lib.hid hq
        clear hq
        by_cases hjt : j < n2
        · obtain ⟨i2, b2, o2, rfl, hb2, _, e2⟩ := r2 j hjt
          clear r2
          have hkk : (k : Int) < (n1 : Int) := by omega
          have hjj : (j : Int) < (n2 : Int) := by omega
          by_cases he : l[k] = m[j]
          · have he' : (l[k] == m[j]) = true := by simp [he]
            have HE := Lib.hid he
            clear he
            go_wp2_with fail
            go_quiet (fail)
            go_wp2
            go_ret
            exact ⟨ret_bool (HM.out.trans (hits_yes i1 i2 HE.out)).symm, by (try simp only [World.drewN_drewN]); exact below_drewN B.out _⟩
          · have he' : (l[k] == m[j]) = false := by simp [he]
            have HE := Lib.hid he
            clear he
            go_wp2_with fail
            go_quiet (fail)
            go_wp2
            go_roundw
            case rel => exact ⟨j + 1, by omega, by go_num, fun p h hp => (by
              by_cases e : p = j
              · subst e; exact HE.out
              · exact HQ.out p h (by omega)), by (try simp only [World.drewN_drewN]); exact ⟨_, rfl⟩⟩
            case measure => simp [intOf]; omega
        · clear r2
          go_wp2
          go_roundw
          case rel => exact ⟨k + 1, by omega, by go_num, fun p h hp => (by
            by_cases e : p = k
            · subst e; exact not_contains fun x hx => HQ.out x hx (by rw [hn2.out] at hx; omega)
            · exact HP.out p h (by omega)), by (try simp only [World.drewN_drewN]); exact ⟨_, rfl⟩⟩
          case measure => simp [intOf]; omega
    · clear r1 r2
      go_wp2
      go_ret
      exact ⟨ret_bool (HM.out.trans (hits_no fun j h => HP.out j h (by rw [hn1.out] at h; omega))).symm, by (try simp only [World.drewN_drewN]); exact below_drewN B.out _⟩

set_option maxRecDepth 100000 in
theorem index_int (v : Value) (l : List Int) (fp : List Nat) (x : Int) (w : World) (g : SlR 1 intR w l v fp) :
    Calls Try.prog 142 #[v, .int .i64 x] w fun e w' => ∃ z : Int, e = .returned (.int .i64 z) ∧ decide (0 ≤ z) = l.contains x ∧ w' = w := by
  obtain ⟨a, n, c, rfl, hn, hcap, hmax, hcm, r⟩ := IntS.opened g
  clear g
  go_enter Try.func142, Try.ntmps142
  go_wp2_with fail
  go_loopw [8] (fun i wr => ∃ k : Nat, k ≤ n ∧ i = .int .i64 k ∧ (∀ j (h : j < l.length), j < k → x ≠ l[j]) ∧ wr = w) (fun i _ => n - (intOf i).toNat)
  case atStart => exact ⟨0, Nat.zero_le _, rfl, fun j _ h => absurd h (Nat.not_lt_zero j), rfl⟩
  case round =>
    obtain ⟨k, hk, rfl, hp, rfl⟩ := hrel
    have HP := Lib.hid hp
    clear hp
    by_cases hlt : k < n
    · obtain ⟨i1, b1, o1, rfl, hb1, _, e1⟩ := r k hlt
      clear r
      by_cases he : x = l[k]
      · have he' : (x == l[k]) = true := by simp [he]
        have HE := Lib.hid he
        clear he
        go_wp2
        go_ret
        exact ⟨_, rfl, by rw [decide_eq_true (by omega), HE.out]; simp, rfl⟩
      · have he' : (x == l[k]) = false := by simp [he]
        have HE := Lib.hid he
        clear he
        go_wp2
        go_roundw
        case rel => exact ⟨k + 1, by omega, by go_num, fun p h hp => (by
          by_cases e : p = k
          · subst e; exact HE.out
          · exact HP.out p h (by omega)), trivial⟩
        case measure => simp [intOf]; omega
    · clear r
      go_wp2
      go_ret
      exact ⟨_, rfl, by rw [not_contains fun j h => HP.out j h (by rw [hn.out] at h; omega)]; rfl, rfl⟩

theorem contains_int (v : Value) (l : List Int) (fp : List Nat) (x : Int) (w : World) (g : SlR 1 intR w l v fp) :
    Calls Try.prog 116 #[v, .int .i64 x] w fun e w' => e = .returned (.bool (l.contains x)) ∧ w' = w := by
  obtain ⟨a, n, c, rfl, _⟩ := g.form
  have G := Lib.hid g
  clear g
  go_enter Try.func116, Try.ntmps116
  go_wp2_with fail
  refine (index_int _ l fp x _ G.out).mono ?_
  rintro e w' ⟨z, rfl, hz, rfl⟩
  go_wp2
  go_ret
  exact ⟨ret_bool (by simp), rfl⟩

theorem isMaster_any (x : Int) (w : World) : Calls Try.prog 68 #[.int .i64 x] w fun e w' => e = .returned (.bool (inB x 0 2)) ∧ w = w' := by
  go_enter Try.func68, Try.ntmps68
  go_wp2_with fail
  refine (in_any _ _ _ _).mono ?_
  rintro e w' ⟨rfl, rfl⟩
  go_wp2
  go_ret
  exact ⟨rfl, rfl⟩

end Go.Proofs.Ytmcjklicepaiaaa
