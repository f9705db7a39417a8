/-
  Whether a bus may stand so: plain notions; l5Before, l5At; cmp.Compare, cmp.Or, compareJobs; none, id.
-/
import Derived.Test.YtmmojgopeaelcaaProg
import Derived.Test.YtmmojgopeaelcaaJob
import Derived.Test.YtmmojgopeaelcaaRsp
import Derived.Test.YtmmojgopeaelcaaApart
import Derived.Test.YtmmojgopeaelcaaBApart
import Derived.Test.YtmmojgopeaelcaaFacts3
import Derived.Test.YtmmojgopeaelcaaRegion5
namespace Go.Proofs.Ytmmojgopeaelcaa
set_option linter.unusedVariables false
set_option linter.unusedSimpArgs false
open Go.RowKit Go.ChangeShapes

/-- one job stands ahead of another one -/
def jobBefore (a b : Job) : Bool := decide (a.who < b.who) || (a.who == b.who && decide (a.n < b.n))
def isJob (who n : Int) (j : Job) : Bool := j.who == who && j.n == n
def jobAt (l : List Job) (who n : Int) : Int := idxOf (isJob who n) l
def rspNone (r : Rsp) : Bool := r.id == 0 && (r.code == 0 && r.data.length == 0)
def idAt (c : Bus) (who n : Int) : Int := ((((c.progs[who.toNat]?).getD [])[n.toNat]?).map Req.id).getD 0
def cmpI (a b : Int) : Int := if a < b then -1 else if b < a then 1 else 0
def cmpJ (a b : Job) : Int := if cmpI a.who b.who = 0 then cmpI a.n b.n else cmpI a.who b.who
theorem cmpJ_lt (a b : Job) : decide (0 ≤ cmpJ a b) = !jobBefore a b := by
  have : decide (0 ≤ cmpJ a b) = decide (¬ (jobBefore a b = true)) := by
    apply decide_eq_decide.2
    unfold cmpJ cmpI jobBefore
    simp only [Bool.or_eq_true, Bool.and_eq_true, decide_eq_true_eq, beq_iff_eq]
    constructor
    · intro h
      repeat (split at h)
      all_goals omega
    · intro h
      repeat split
      all_goals omega
  rw [this]
  cases jobBefore a b <;> rfl
theorem idAt_at {c : Bus} {k i : Nat} (hk : k < c.progs.length) (hi : i < c.progs[k].length) : idAt c k i = c.progs[k][i].id := by
  unfold idAt
  simp [hk, hi]

set_option maxRecDepth 100000 in
theorem cmp_any (a b : Int) (w : World) : Calls Try.prog 189 #[.int .i64 a, .int .i64 b] w fun e w' => e = .returned (.int .i64 (cmpI a b)) ∧ w' = w := by
  have nan : ∀ (a : Int) (w : World), Calls Try.prog 190 #[.int .i64 a] w fun e w' => e = .returned (.bool false) ∧ w' = w := by
    intro a w
    go_enter Try.func190, Try.ntmps190
    go_wp2
    go_ret
    exact ⟨ret_bool (by simp), rfl⟩
  by_cases h1 : a < b
  · go_enter Try.func189, Try.ntmps189
    go_wp2_with (go_at_call 190; refine (nan _ _).mono ?_; rintro e w' ⟨rfl, rfl⟩)
    go_ret
    exact ⟨ret_int (by unfold cmpI; (repeat split) <;> omega), rfl⟩
  · by_cases h2 : b < a
    · go_enter Try.func189, Try.ntmps189
      go_wp2_with (go_at_call 190; refine (nan _ _).mono ?_; rintro e w' ⟨rfl, rfl⟩)
      go_ret
      exact ⟨ret_int (by unfold cmpI; (repeat split) <;> omega), rfl⟩
    · go_enter Try.func189, Try.ntmps189
      go_wp2_with (go_at_call 190; refine (nan _ _).mono ?_; rintro e w' ⟨rfl, rfl⟩)
      go_ret
      exact ⟨ret_int (by unfold cmpI; (repeat split) <;> omega), rfl⟩

set_option maxRecDepth 100000 in
theorem or_any (b : Nat) (x y : Int) (w : World) (c0 : w.cell? ⟨b, 0, none⟩ = some (.int .i64 x)) (c1 : w.cell? ⟨b, 1, none⟩ = some (.int .i64 y)) :
    Calls Try.prog 188 #[.slice (some ⟨b, 0, none⟩) 2 2] w fun e w' => e = .returned (.int .i64 (if x = 0 then y else x)) ∧ w' = w := by
  go_enter Try.func188, Try.ntmps188
  go_wp2_with fail
  go_loopw [8] (fun i wr => ∃ k : Nat, k ≤ 2 ∧ i = .int .i64 k ∧ (0 < k → x = 0) ∧ (1 < k → y = 0) ∧ wr = w) (fun i _ => 2 - (intOf i).toNat)
  case atStart => exact ⟨0, by omega, rfl, fun h => absurd h (by omega), fun h => absurd h (by omega), rfl⟩
  case round =>
    obtain ⟨k, hk, rfl, h1, h2, rfl⟩ := hrel
    have hkk : k = 0 ∨ k = 1 ∨ k = 2 := by omega
    rcases hkk with rfl | rfl | rfl
    · by_cases hx : x = 0
      · subst hx
        go_wp2
        go_roundw
        case rel => exact ⟨1, by omega, rfl, by simp, by simp, by simp⟩
        case measure => simp [intOf]
      · have hx' : (x != 0) = true := by simpa using hx
        have HX := Lib.hid hx
        clear hx
        go_wp2
        go_ret
        exact ⟨ret_int (by first | rfl | rw [if_neg HX.out]), rfl⟩
    · have hx := h1 (by omega)
      by_cases hy : y = 0
      · subst hy
        go_wp2
        go_roundw
        case rel => exact ⟨2, by omega, rfl, by simp [hx], by simp, by simp⟩
        case measure => simp [intOf]
      · have hy' : (y != 0) = true := by simpa using hy
        have HX := Lib.hid hx
        clear hy hx
        go_wp2
        go_ret
        exact ⟨ret_int (by first | rfl | rw [if_pos HX.out]), rfl⟩
    · have hx := h1 (by omega)
      have hy := h2 (by omega)
      go_wp2
      go_ret
      exact ⟨ret_int (by first | rfl | (rw [if_pos hx, hy]) | simp [hx, hy]), rfl⟩

/-- two jobs handed in by value lie so -/
theorem two_jobs (w : World) (a b : Job) (va vb : Value) {w0 : World} (hw0 : w0 = (w.alloc (.cells #[.int .i64 a.who, .int .i64 a.n, .int .i64 a.rsp.id, .int .i64 a.rsp.code, va] 127)).alloc (.cells #[.int .i64 b.who, .int .i64 b.n, .int .i64 b.rsp.id, .int .i64 b.rsp.code, vb] 127)) :
    Below w.heap.size w w0 ∧ w0.cell? ⟨w.heap.size, 0, none⟩ = some (.int .i64 a.who) ∧ w0.cell? ⟨w.heap.size, 1, none⟩ = some (.int .i64 a.n) ∧ w0.cell? ⟨w.heap.size + 1, 0, none⟩ = some (.int .i64 b.who) ∧ w0.cell? ⟨w.heap.size + 1, 1, none⟩ = some (.int .i64 b.n) := by
  subst hw0
  exact ⟨(below_alloc _ _).trans ((below_alloc _ _).mono (by simp)), alloc_keep (alloc1_new _ _ _ 0 rfl) _, alloc_keep (alloc1_new _ _ _ 1 rfl) _, alloc2_new _ _ _ _ _ 0 rfl, alloc2_new _ _ _ _ _ 1 rfl⟩

def FPair (B : Nat) (x y : Int) : Fact := fun v w => ∃ b, v = .slice (some ⟨b, 0, none⟩) 2 2 ∧ w.cell? ⟨b, 0, none⟩ = some (.int .i64 x) ∧ w.cell? ⟨b, 1, none⟩ = some (.int .i64 y)
theorem stPair (B : Nat) (x y : Int) : Stable [] (FPair B x y) := fun _ _ _ ⟨b, e, h1, h2⟩ hc => ⟨b, e, keep_cell_chg hc h1 (by simp), keep_cell_chg hc h2 (by simp)⟩

set_option maxRecDepth 100000 in
set_option maxHeartbeats 1600000 in
theorem compareJobs_any (a b : Job) (va vb : Value) (w : World) :
    Calls Try.prog 185 #[.agg #[.int .i64 a.who, .int .i64 a.n, .int .i64 a.rsp.id, .int .i64 a.rsp.code, va], .agg #[.int .i64 b.who, .int .i64 b.n, .int .i64 b.rsp.id, .int .i64 b.rsp.code, vb]] w fun e w' => e = .returned (.int .i64 (cmpJ a b)) ∧ Below w.heap.size w w' := by
  obtain ⟨w0, hw0⟩ : ∃ w0, w0 = (w.alloc (.cells #[.int .i64 a.who, .int .i64 a.n, .int .i64 a.rsp.id, .int .i64 a.rsp.code, va] 127)).alloc (.cells #[.int .i64 b.who, .int .i64 b.n, .int .i64 b.rsp.id, .int .i64 b.rsp.code, vb] 127) := ⟨_, rfl⟩
  obtain ⟨hb, a0, a1, b0, b1⟩ := two_jobs w a b va vb hw0
  have B := Lib.hid hb
  clear hb
  go_enter Try.func185, Try.ntmps185
  go_upto_region 1 with fail
  rw [← hw0]
  clear hw0
  have hst : ∀ F, F ∈ [FEq (.pointer (some ⟨w.heap.size, 0, none⟩)), FEq (.int .i64 a.who), FEq (.pointer (some ⟨w.heap.size + 1, 0, none⟩)), FEq (.int .i64 b.who), FEq (.int .i64 (cmpI a.who b.who)), FEq (.pointer (some ⟨w.heap.size, 1, none⟩)), FEq (.int .i64 a.n), FEq (.pointer (some ⟨w.heap.size + 1, 1, none⟩)), FEq (.int .i64 b.n), FEq (.int .i64 (cmpI a.n b.n))] → Stable [] F := by
    simp only [List.forall_mem_cons]
    exact ⟨stEq _ _, stEq _ _, stEq _ _, stEq _ _, stEq _ _, stEq _ _, stEq _ _, stEq _ _, stEq _ _, stEq _ _, fun _ h => by simp at h⟩
  refine wp_region_tail (by kernel_rfl) (fun i => ([[], [0], [], [2], [0, 1, 2, 3], [], [5], [], [7], [0, 1, 2, 3, 4, 5, 6, 7, 8], [0, 1, 2, 3, 4, 5, 6, 7, 8, 9], [0, 1, 2, 3, 4, 5, 6, 7, 8, 9, 10], [0, 1, 2, 3, 4, 5, 6, 7, 8, 9, 10, 11]] : List (List Nat)).getD i []) (facts [FEq (.pointer (some ⟨w.heap.size, 0, none⟩)), FEq (.int .i64 a.who), FEq (.pointer (some ⟨w.heap.size + 1, 0, none⟩)), FEq (.int .i64 b.who), FEq (.int .i64 (cmpI a.who b.who)), FEq (.pointer (some ⟨w.heap.size, 1, none⟩)), FEq (.int .i64 a.n), FEq (.pointer (some ⟨w.heap.size + 1, 1, none⟩)), FEq (.int .i64 b.n), FEq (.int .i64 (cmpI a.n b.n))]) (fun m w' => Below w0.heap.size w0 w') 17 13 10 [some 5, some 6, some 7, some 8, some 9, some 10, some 11, some 12, some 13, some 14] _ rfl rfl (by decide) rfl rfl (by kernel_rfl) (by kernel_rfl) [] (by kernel_rfl) (fun g b hm v w h => by simp at hm) ?h0 (all_lt (n := 10) ?hop) ?hend
  case h0 => exact (Below.refl _ _).drew
  case hop =>
    refine ⟨⟨⟨⟨⟨⟨⟨⟨⟨⟨trivial, ?_⟩, ?_⟩, ?_⟩, ?_⟩, ?_⟩, ?_⟩, ?_⟩, ?_⟩, ?_⟩, ?_⟩
    · refine Owes.mk _ rfl rfl (fun _ _ h => by cases h) fun u m w' hm hI hR => ⟨⟨#[undef, undef, .pointer (some ⟨w.heap.size, 0, none⟩), undef, undef, undef, undef, undef, undef, undef, undef, undef, undef, undef, undef, undef, undef], []⟩, rfl, fun d hd => by cases hd; exact (by decide : 5 < 17), ?_⟩
      have k0 := keep_cell hI a0
      have k1 := keep_cell hI a1
      have k2 := keep_cell hI b0
      have k3 := keep_cell hI b1
      have HI := Lib.hid hI
      clear hI hst hR
      go_wp2
      exact ⟨rfl, _, rfl, rfl, HI.out, fun _ _ h => h⟩
    · refine Owes.mk _ rfl rfl (fun _ _ h => by cases h) fun u m w' hm hI hR => ⟨⟨#[undef, undef, undef, undef, undef, u 0, undef, undef, undef, undef, undef, undef, undef, undef, undef, undef, undef], []⟩, rfl, fun d hd => by cases hd; exact (by decide : 6 < 17), ?_⟩
      have e0 : u 0 = _ := hR 0 (by decide)
      have k0 := keep_cell hI a0
      have k1 := keep_cell hI a1
      have k2 := keep_cell hI b0
      have k3 := keep_cell hI b1
      have HI := Lib.hid hI
      clear hI hst hR
      rw [e0]
      clear e0
      go_wp2
      exact ⟨rfl, _, rfl, rfl, HI.out, fun _ _ h => h⟩
    · refine Owes.mk _ rfl rfl (fun _ _ h => by cases h) fun u m w' hm hI hR => ⟨⟨#[undef, undef, undef, .pointer (some ⟨w.heap.size + 1, 0, none⟩), undef, undef, undef, undef, undef, undef, undef, undef, undef, undef, undef, undef, undef], []⟩, rfl, fun d hd => by cases hd; exact (by decide : 7 < 17), ?_⟩
      have k0 := keep_cell hI a0
      have k1 := keep_cell hI a1
      have k2 := keep_cell hI b0
      have k3 := keep_cell hI b1
      have HI := Lib.hid hI
      clear hI hst hR
      go_wp2
      exact ⟨rfl, _, rfl, rfl, HI.out, fun _ _ h => h⟩
    · refine Owes.mk _ rfl rfl (fun _ _ h => by cases h) fun u m w' hm hI hR => ⟨⟨#[undef, undef, undef, undef, undef, undef, undef, u 2, undef, undef, undef, undef, undef, undef, undef, undef, undef], []⟩, rfl, fun d hd => by cases hd; exact (by decide : 8 < 17), ?_⟩
      have e2 : u 2 = _ := hR 2 (by decide)
      have k0 := keep_cell hI a0
      have k1 := keep_cell hI a1
      have k2 := keep_cell hI b0
      have k3 := keep_cell hI b1
      have HI := Lib.hid hI
      clear hI hst hR
      rw [e2]
      clear e2
      go_wp2
      exact ⟨rfl, _, rfl, rfl, HI.out, fun _ _ h => h⟩
    · refine Owes.mk _ rfl rfl (fun _ _ h => by cases h) fun u m w' hm hI hR => ⟨⟨#[undef, undef, undef, undef, undef, undef, u 1, undef, u 3, undef, undef, undef, undef, undef, undef, undef, undef], []⟩, rfl, fun d hd => by cases hd; exact (by decide : 9 < 17), ?_⟩
      have e1 : u 1 = _ := hR 1 (by decide)
      have e3 : u 3 = _ := hR 3 (by decide)
      have k0 := keep_cell hI a0
      have k1 := keep_cell hI a1
      have k2 := keep_cell hI b0
      have k3 := keep_cell hI b1
      rw [e1, e3]
      clear e1 e3
      have HI := Lib.hid hI
      clear hI hst
      go_wp2_with fail
      refine (cmp_any _ _ _).mono ?_
      rintro e w5 ⟨rfl, rfl⟩
      go_wp2
      exact ⟨rfl, _, rfl, rfl, HI.out, fun _ _ h => h⟩
    · refine Owes.mk _ rfl rfl (fun _ _ h => by cases h) fun u m w' hm hI hR => ⟨⟨#[undef, undef, .pointer (some ⟨w.heap.size, 0, none⟩), undef, undef, undef, undef, undef, undef, undef, undef, undef, undef, undef, undef, undef, undef], []⟩, rfl, fun d hd => by cases hd; exact (by decide : 10 < 17), ?_⟩
      have k0 := keep_cell hI a0
      have k1 := keep_cell hI a1
      have k2 := keep_cell hI b0
      have k3 := keep_cell hI b1
      have HI := Lib.hid hI
      clear hI hst hR
      go_wp2
      exact ⟨rfl, _, rfl, rfl, HI.out, fun _ _ h => h⟩
    · refine Owes.mk _ rfl rfl (fun _ _ h => by cases h) fun u m w' hm hI hR => ⟨⟨#[undef, undef, undef, undef, undef, undef, undef, undef, undef, undef, u 5, undef, undef, undef, undef, undef, undef], []⟩, rfl, fun d hd => by cases hd; exact (by decide : 11 < 17), ?_⟩
      have e5 : u 5 = _ := hR 5 (by decide)
      have k0 := keep_cell hI a0
      have k1 := keep_cell hI a1
      have k2 := keep_cell hI b0
      have k3 := keep_cell hI b1
      have HI := Lib.hid hI
      clear hI hst hR
      rw [e5]
      clear e5
      go_wp2
      exact ⟨rfl, _, rfl, rfl, HI.out, fun _ _ h => h⟩
    · refine Owes.mk _ rfl rfl (fun _ _ h => by cases h) fun u m w' hm hI hR => ⟨⟨#[undef, undef, undef, .pointer (some ⟨w.heap.size + 1, 0, none⟩), undef, undef, undef, undef, undef, undef, undef, undef, undef, undef, undef, undef, undef], []⟩, rfl, fun d hd => by cases hd; exact (by decide : 12 < 17), ?_⟩
      have k0 := keep_cell hI a0
      have k1 := keep_cell hI a1
      have k2 := keep_cell hI b0
      have k3 := keep_cell hI b1
      have HI := Lib.hid hI
      clear hI hst hR
      go_wp2
      exact ⟨rfl, _, rfl, rfl, HI.out, fun _ _ h => h⟩
    · refine Owes.mk _ rfl rfl (fun _ _ h => by cases h) fun u m w' hm hI hR => ⟨⟨#[undef, undef, undef, undef, undef, undef, undef, undef, undef, undef, undef, undef, u 7, undef, undef, undef, undef], []⟩, rfl, fun d hd => by cases hd; exact (by decide : 13 < 17), ?_⟩
      have e7 : u 7 = _ := hR 7 (by decide)
      have k0 := keep_cell hI a0
      have k1 := keep_cell hI a1
      have k2 := keep_cell hI b0
      have k3 := keep_cell hI b1
      have HI := Lib.hid hI
      clear hI hst hR
      rw [e7]
      clear e7
      go_wp2
      exact ⟨rfl, _, rfl, rfl, HI.out, fun _ _ h => h⟩
    · refine Owes.mk _ rfl rfl (fun _ _ h => by cases h) fun u m w' hm hI hR => ⟨⟨#[undef, undef, undef, undef, undef, undef, undef, undef, undef, undef, undef, u 6, undef, u 8, undef, undef, undef], []⟩, rfl, fun d hd => by cases hd; exact (by decide : 14 < 17), ?_⟩
      have e6 : u 6 = _ := hR 6 (by decide)
      have e8 : u 8 = _ := hR 8 (by decide)
      have k0 := keep_cell hI a0
      have k1 := keep_cell hI a1
      have k2 := keep_cell hI b0
      have k3 := keep_cell hI b1
      rw [e6, e8]
      clear e6 e8
      have HI := Lib.hid hI
      clear hI hst
      go_wp2_with fail
      refine (cmp_any _ _ _).mono ?_
      rintro e w5 ⟨rfl, rfl⟩
      go_wp2
      exact ⟨rfl, _, rfl, rfl, HI.out, fun _ _ h => h⟩
  case hend =>
    intro u w' hI hR
    simp only [setAll, List.set_cons_zero, List.set_cons_succ]
    have e4 : u 4 = _ := hR 4 (by decide)
    have e9 : u 9 = _ := hR 9 (by decide)
    rw [e4, e9]
    have HB := Lib.hid (B.out.trans (hI.mono B.out.size))
    clear hR hst hI e4 e9 a0 a1 b0 b1
    obtain ⟨z1, hz1⟩ : ∃ z, cmpI a.who b.who = z := ⟨_, rfl⟩
    obtain ⟨z2, hz2⟩ : ∃ z, cmpI a.n b.n = z := ⟨_, rfl⟩
    rw [hz1, hz2]
    obtain ⟨z3, hz3⟩ : ∃ z, (if z1 = 0 then z2 else z1) = z := ⟨_, rfl⟩
    have Z1 := Lib.hid hz1
    have Z2 := Lib.hid hz2
    have Z3 := Lib.hid hz3
    clear hz1 hz2 hz3
    go_wp2_with fail
    refine (or_any _ z1 z2 _ (alloc1_new _ _ _ 0 rfl) (alloc1_new _ _ _ 1 rfl)).mono ?_
    rw [Z3.out]
    rintro e w5 ⟨rfl, rfl⟩
    go_wp2
    go_ret
    exact ⟨ret_int (by unfold cmpJ; rw [Z1.out, Z2.out, Z3.out]), HB.out.trans ((below_alloc _ _).mono HB.out.size)⟩

theorem none_any (x : Rsp) (v : Value) (fp : List Nat) (w : World) (g : SlR 1 intR w x.data v fp) :
    Calls Try.prog 160 #[.agg #[.int .i64 x.id, .int .i64 x.code, v]] w fun e w' => e = .returned (.bool (rspNone x)) ∧ Below w.heap.size w w' := by
  obtain ⟨a, n, c, rfl, hn, -, -, -, -⟩ := g.opened
  have hb := below_alloc w (.cells #[.int .i64 x.id, .int .i64 x.code, .slice a n c] 75)
  have B := Lib.hid hb
  have HN : Hid ((x.data.length == 0) = ((n : Int) == 0)) := Lib.hid (by rw [hn.out, Bool.eq_iff_iff]; simp)
  obtain ⟨b0, h0⟩ : ∃ z, (x.id == 0) = z := ⟨_, rfl⟩
  obtain ⟨b1, h1⟩ : ∃ z, (x.code == 0) = z := ⟨_, rfl⟩
  obtain ⟨b2, h2⟩ : ∃ z, ((n : Int) == 0) = z := ⟨_, rfl⟩
  have H0 := Lib.hid h0
  have H1 := Lib.hid h1
  have H2 := Lib.hid h2
  clear hb g hn
  cases b0
  case' true => cases b1
  all_goals
    go_enter Try.func160, Try.ntmps160
    go_wp2
    go_ret
    exact ⟨ret_bool (by unfold rspNone; rw [H0.out, H1.out, HN.out, H2.out]; first | rfl | simp), B.out⟩

theorem id_any (c : Bus) (k i : Nat) (hk : k < c.progs.length) (hi : i < c.progs[k].length) (v0 v1 v2 : Value) (fp2 : List Nat) (w : World) (g2 : SlR 1 (slR 7 reqR) w c.progs v2 fp2) :
    Calls Try.prog 161 #[.agg #[v0, v1, v2], .int .i64 k, .int .i64 i] w fun e w' => e = .returned (.int .i64 (idAt c k i)) ∧ Below w.heap.size w w' := by
  have hb := below_alloc w (.cells #[v0, v1, v2] 32)
  obtain ⟨a2, n2, c2, rfl, hn2, -, -, -, r⟩ := (SlR.below (slR_fits reqR_fits) g2 hb).opened
  have hk2 : k < n2 := by rw [← hn2.out]; exact hk
  obtain ⟨_, b1, o1, f1, cs, rfl, hb1, _, _, ⟨y, rfl, hy⟩, e1⟩ := r k hk2
  have c0 := e1 0 (by simp)
  simp only [Nat.mul_one, Nat.add_zero, List.getElem_cons_zero] at c0
  obtain ⟨a3, n3, c3, rfl, hn3, -, -, -, r3⟩ := hy.opened
  have hi2 : i < n3 := by rw [← hn3.out]; exact hi
  obtain ⟨_, b3, o3, f3, cs, rfl, hb3, _, _, ⟨dv, lv, df, lf, rfl, rfl, hd, hl⟩, e3⟩ := r3 i hi2
  have d0 := e3 0 (by simp)
  simp only [Nat.add_zero, List.getElem_cons_zero] at d0
  have hkk : (k : Int) < (n2 : Int) := by omega
  have hii : (i : Int) < (n3 : Int) := by omega
  have HA := Lib.hid (idAt_at hk hi)
  have B := Lib.hid hb
  obtain ⟨z, hz⟩ : ∃ z, c.progs[k][i].id = z := ⟨_, rfl⟩
  rw [hz] at d0 HA
  clear hb g2 r r3 e1 e3 hy hd hl hz
  go_enter Try.func161, Try.ntmps161
  go_wp2
  go_ret
  exact ⟨ret_int HA.out.symm, B.out⟩

set_option maxRecDepth 100000 in
theorem l5Before_any (a b : Job) (va vb : Value) (w : World) :
    Calls Try.prog 157 #[.agg #[.int .i64 a.who, .int .i64 a.n, .int .i64 a.rsp.id, .int .i64 a.rsp.code, va], .agg #[.int .i64 b.who, .int .i64 b.n, .int .i64 b.rsp.id, .int .i64 b.rsp.code, vb]] w fun e w' => e = .returned (.bool (jobBefore a b)) ∧ Below w.heap.size w w' := by
  have hb : Below w.heap.size w ((w.alloc (.cells #[.int .i64 a.who, .int .i64 a.n, .int .i64 a.rsp.id, .int .i64 a.rsp.code, va] 127)).alloc (.cells #[.int .i64 b.who, .int .i64 b.n, .int .i64 b.rsp.id, .int .i64 b.rsp.code, vb] 127)) := (two_jobs w a b va vb rfl).1
  have B := Lib.hid hb
  obtain ⟨p, hp⟩ : ∃ z, decide (a.who < b.who) = z := ⟨_, rfl⟩
  obtain ⟨q, hq⟩ : ∃ z, (a.who == b.who) = z := ⟨_, rfl⟩
  obtain ⟨s, hs⟩ : ∃ z, decide (a.n < b.n) = z := ⟨_, rfl⟩
  have HP := Lib.hid hp
  have HQ := Lib.hid hq
  have HS := Lib.hid hs
  clear hb
  cases p
  case' false => cases q
  all_goals
    go_enter Try.func157, Try.ntmps157
    go_wp2
    go_ret
    exact ⟨ret_bool (by unfold jobBefore; rw [HP.out, HQ.out, HS.out]; first | rfl | simp), B.out⟩

set_option maxRecDepth 100000 in
set_option maxHeartbeats 1600000 in
theorem l5At_any (v : Value) (l : List Job) (fp : List Nat) (who m : Int) (w : World) (g : SlR 5 jobR w l v fp) :
    Calls Try.prog 104 #[v, .int .i64 who, .int .i64 m] w fun e w' => e = .returned (.int .i64 (jobAt l who m)) ∧ w' = w := by
  obtain ⟨a, n, cap, rfl, hn, hcap, hmax, hcm, r⟩ := g.opened
  clear g
  go_enter Try.func104, Try.ntmps104
  go_wp2_with fail
  go_loopw [7] (fun i wr => ∃ k : Nat, k ≤ n ∧ i = .int .i64 k ∧ (∀ j (h : j < l.length), j < k → isJob who m l[j] = false) ∧ wr = w) (fun i _ => n - (intOf i).toNat)
  case atStart => exact ⟨0, Nat.zero_le _, rfl, fun j _ h => absurd h (Nat.not_lt_zero j), rfl⟩
  case round =>
    obtain ⟨k, hk, rfl, hp, rfl⟩ := hrel
    have HP := Lib.hid hp
    clear hp
    by_cases hlt : k < n
    · obtain ⟨i1, b1, o1, f1, cs, rfl, hb1, _, _, ⟨dv, df, rfl, rfl, hd⟩, e1⟩ := r k hlt
      have c0 := e1 0 (by simp)
      have c1 := e1 1 (by simp)
      simp only [Nat.add_zero, List.getElem_cons_zero, List.getElem_cons_succ] at c0 c1
      obtain ⟨p, hp⟩ : ∃ z, (l[k].who == who) = z := ⟨_, rfl⟩
      obtain ⟨q, hq⟩ : ∃ z, (l[k].n == m) = z := ⟨_, rfl⟩
      have HPp := Lib.hid hp
      have HQq := Lib.hid hq
      clear r e1 hd
      cases p
      · go_wp2
        go_roundw
        case rel => exact ⟨k + 1, by omega, by go_num, fun j h hj => (by
          by_cases e' : j = k
          · subst e'; unfold isJob; rw [HPp.out]; rfl
          · exact HP.out j h (by omega)), trivial⟩
        case measure => simp [intOf]; omega
      · cases q
        · go_wp2
          go_roundw
          case rel => exact ⟨k + 1, by omega, by go_num, fun j h hj => (by
            by_cases e' : j = k
            · subst e'; unfold isJob; rw [HPp.out, HQq.out]; rfl
            · exact HP.out j h (by omega)), trivial⟩
          case measure => simp [intOf]; omega
        · go_wp2
          go_ret
          exact ⟨ret_int (idxOf_hit i1 (by unfold isJob; rw [HPp.out, HQq.out]; rfl) (fun j h hj => HP.out j h hj)).symm, rfl⟩
    · clear r
      go_wp2
      go_ret
      exact ⟨ret_int (idxOf_none (fun j h => HP.out j h (by rw [hn.out] at h; omega))).symm, rfl⟩

end Go.Proofs.Ytmmojgopeaelcaa
