/-
  Whether jobs are in order: rise; the program's rising.
-/
import Derived.Test.YtmmojgopeaelcaaTOk1
namespace Go.Proofs.Ytmmojgopeaelcaa
set_option linter.unusedVariables false
set_option linter.unusedSimpArgs false
open Go.RowKit Go.ChangeShapes

/-- the jobs up to one are in order -/
def RiseTo (l : List Job) (m : Nat) : Prop := ∀ k (h : k < l.length), 0 < k → k < m → jobBefore (l[k - 1]'(by omega)) l[k] = true
noncomputable def rise (l : List Job) : Bool := @decide (RiseTo l l.length) (Classical.propDecidable _)
theorem RiseTo.zero (l : List Job) : RiseTo l 0 := fun k _ _ h => absurd h (Nat.not_lt_zero k)
theorem RiseTo.one (l : List Job) : RiseTo l 1 := fun k _ h0 h => absurd h (by omega)
theorem RiseTo.step {l : List Job} {m : Nat} (h : RiseTo l m) (hm : m < l.length) (hb : 0 < m → jobBefore (l[m - 1]'(by omega)) l[m] = true) : RiseTo l (m + 1) := fun k hk h0 h1 => by
  by_cases e : k = m
  · subst e; exact hb h0
  · exact h k hk h0 (by omega)
theorem rise_yes {l : List Job} {m : Nat} (h : RiseTo l m) (hm : l.length ≤ m) : rise l = true := by
  unfold rise; exact @decide_eq_true _ (Classical.propDecidable _) fun k hk h0 _ => h k hk h0 (by omega)
theorem rise_no {l : List Job} {m : Nat} (hm : m < l.length) (h0 : 0 < m) (hb : jobBefore (l[m - 1]'(by omega)) l[m] = false) : rise l = false := by
  unfold rise; exact @decide_eq_false _ (Classical.propDecidable _) fun h => by have := h m hm h0 hm; rw [hb] at this; cases this
theorem rise_at {l : List Job} (h : rise l = true) : RiseTo l l.length := by
  unfold rise at h; exact @of_decide_eq_true _ (Classical.propDecidable _) h

/-- a job's cells -/
def jobCells (w : World) (b o : Nat) (x : Job) (v : Value) : Prop := w.cell? ⟨b, o, none⟩ = some (.int .i64 x.who) ∧ w.cell? ⟨b, o + 1, none⟩ = some (.int .i64 x.n) ∧ w.cell? ⟨b, o + 2, none⟩ = some (.int .i64 x.rsp.id) ∧ w.cell? ⟨b, o + 3, none⟩ = some (.int .i64 x.rsp.code) ∧ w.cell? ⟨b, o + 4, none⟩ = some v

/-- a slice of jobs opened: where it lies, and the cells of each -/
theorem jobs_at {w : World} {l : List Job} {a : Option Addr} {n cap : Nat} {fp : List Nat} (g : SlR 5 jobR w l (.slice a n cap) fp) {k : Nat} (hk : k < l.length) :
    ∃ (b o : Nat) (v : Value) (f : List Nat), a = some ⟨b, o, none⟩ ∧ b < w.heap.size ∧ b ∈ fp ∧ (∀ c, c ∈ f → c ∈ fp) ∧ jobCells w b (o + k * 5) l[k] v ∧ SlR 1 intR w l[k].rsp.data v f := by
  obtain ⟨a', n', cap', e, hn, _, _, _, r⟩ := g.opened
  cases e
  obtain ⟨_, b, o, f, cs, rfl, hb, hf, hff, ⟨dv, df, rfl, rfl, hd⟩, e1⟩ := r k (by rw [← hn.out]; exact hk)
  have c0 := e1 0 (by simp)
  have c1 := e1 1 (by simp)
  have c2 := e1 2 (by simp)
  have c3 := e1 3 (by simp)
  have c4 := e1 4 (by simp)
  simp only [Nat.add_zero, List.getElem_cons_zero, List.getElem_cons_succ] at c0 c1 c2 c3 c4
  exact ⟨b, o, dv, f, rfl, hb, hf, hff, ⟨c0, c1, c2, c3, c4⟩, hd⟩

set_option maxRecDepth 100000 in
set_option maxHeartbeats 3200000 in
theorem rising_any (l : List Job) (v : Value) (fp : List Nat) (w : World) (g : SlR 5 jobR w l v fp) :
    Calls Try.prog 159 #[v] w fun e w' => e = .returned (.bool (rise l)) ∧ Below w.heap.size w w' := by
  obtain ⟨a, n, cap, rfl, hn, hcap, hmax, hcm, r⟩ := g.opened
  clear r
  have G := Lib.hid g
  clear g
  go_enter Try.func159, Try.ntmps159
  go_wp2_with fail
  go_loopw [3] (fun i wr => ∃ mm : Nat, 1 ≤ mm ∧ mm ≤ n + 1 ∧ i = .int .i64 mm ∧ RiseTo l mm ∧ Below w.heap.size w wr) (fun i _ => n + 1 - (intOf i).toNat)
  case atStart => exact ⟨1, by omega, by omega, rfl, RiseTo.one l, Below.refl _ _⟩
  case round =>
    obtain ⟨mm, hk1, hk2, rfl, hr, hb⟩ := hrel
    have HR := Lib.hid hr
    have B := Lib.hid hb
    clear hr
    by_cases hlt : mm < n
    · obtain ⟨k, hk⟩ : ∃ k : Nat, mm = k + 1 := ⟨mm - 1, by omega⟩
      have hL : mm < l.length := by rw [hn.out]; exact hlt
      have hL0 : k < l.length := by omega
      have G2 := Lib.hid (SlR.below jobR_fits G.out hb)
      obtain ⟨lb, lo, pv, pf, rfl, hlb, -, -, ⟨p0, p1, p2, p3, p4⟩, -⟩ := jobs_at G2.out hL0
      obtain ⟨lb', lo', qv, qf, e, -, -, -, ⟨q0, q1, q2, q3, q4⟩, -⟩ := jobs_at G2.out hL
      cases e
      have HB : Hid (l[mm - 1]'(Nat.lt_of_le_of_lt (Nat.sub_le _ _) hL) = l[k]) := Lib.hid (by congr 1; omega)
      obtain ⟨ja, hja⟩ : ∃ z, l[k] = z := ⟨_, rfl⟩
      obtain ⟨jb, hjb⟩ : ∃ z, l[mm] = z := ⟨_, rfl⟩
      rw [hja] at p0 p1 p2 p3 HB
      rw [hjb] at q0 q1 q2 q3
      have HJB := Lib.hid hjb
      have hkk : (mm : Int) < (n : Int) := by omega
      have hkn : (k : Int) < (n : Int) := by omega
      have HKK := Lib.hid hk
      obtain ⟨z, hz⟩ : ∃ z, cmpJ ja jb = z := ⟨_, rfl⟩
      have hz2 : decide (0 ≤ z) = !jobBefore ja jb := by rw [← hz]; exact cmpJ_lt ja jb
      have HZ := Lib.hid hz
      clear hja hjb hz hb
      obtain ⟨s, hs⟩ : ∃ z, jobBefore ja jb = z := ⟨_, rfl⟩
      rw [hs] at hz2
      have HS := Lib.hid hs
      clear hs
      clear hk
      cases s
      all_goals simp only [Bool.not_true, Bool.not_false] at hz2
      · go_upto_region 4 with fail
        have hst : ∀ F, F ∈ [FEq (.slice (some ⟨lb, lo, none⟩) n cap), FEq (.int .i64 (mm : Int)), FEq (.int .i64 (k : Int)), FEq (.pointer (some ⟨lb, lo + k * 5, none⟩)), FEq (.agg #[.int .i64 ja.who, .int .i64 ja.n, .int .i64 ja.rsp.id, .int .i64 ja.rsp.code, pv]), FEq (.slice (some ⟨lb, lo, none⟩) n cap), FEq (.int .i64 (mm : Int)), FEq (.pointer (some ⟨lb, lo + mm * 5, none⟩)), FEq (.agg #[.int .i64 jb.who, .int .i64 jb.n, .int .i64 jb.rsp.id, .int .i64 jb.rsp.code, qv]), FEq (.int .i64 z)] → Stable [] F := by
          simp only [List.forall_mem_cons]
          exact ⟨stEq _ _, stEq _ _, stEq _ _, stEq _ _, stEq _ _, stEq _ _, stEq _ _, stEq _ _, stEq _ _, stEq _ _, fun _ h => by simp at h⟩
        refine wp_region_tail (by kernel_rfl) (fun i => ([[], [], [1], [0, 1, 2], [0, 1, 2, 3], [], [], [5, 6], [5, 6, 7], [0, 1, 2, 3, 4, 5, 6, 7, 8], [0, 1, 2, 3, 4, 5, 6, 7, 8, 9]] : List (List Nat)).getD i []) (facts [FEq (.slice (some ⟨lb, lo, none⟩) n cap), FEq (.int .i64 (mm : Int)), FEq (.int .i64 (k : Int)), FEq (.pointer (some ⟨lb, lo + k * 5, none⟩)), FEq (.agg #[.int .i64 ja.who, .int .i64 ja.n, .int .i64 ja.rsp.id, .int .i64 ja.rsp.code, pv]), FEq (.slice (some ⟨lb, lo, none⟩) n cap), FEq (.int .i64 (mm : Int)), FEq (.pointer (some ⟨lb, lo + mm * 5, none⟩)), FEq (.agg #[.int .i64 jb.who, .int .i64 jb.n, .int .i64 jb.rsp.id, .int .i64 jb.rsp.code, qv]), FEq (.int .i64 z)]) (fun m w' => Below wr.heap.size wr w') 21 11 10 [some 10, some 11, some 12, some 13, some 14, some 15, some 16, some 17, some 18, some 19] _ rfl rfl (by decide) rfl rfl (by kernel_rfl) (by kernel_rfl) [] (by kernel_rfl) (fun g b hm v w h => by simp at hm) ?h0 (all_lt (n := 10) ?hop) ?hend
        case h0 => exact (Below.refl _ _).drew
        case hop =>
          refine ⟨⟨⟨⟨⟨⟨⟨⟨⟨⟨trivial, ?_⟩, ?_⟩, ?_⟩, ?_⟩, ?_⟩, ?_⟩, ?_⟩, ?_⟩, ?_⟩, ?_⟩
          · refine Owes.mk _ rfl rfl (fun _ _ h => by cases h) fun u m w' hm hI hR => ⟨⟨#[.slice (some ⟨lb, lo, none⟩) n cap, undef, undef, undef, undef, undef, undef, undef, undef, undef, undef, undef, undef, undef, undef, undef, undef, undef, undef, undef, undef], []⟩, rfl, fun d hd => by cases hd; exact (by decide : 10 < 21), ?_⟩
            have k0 := keep_cell hI p0
            have k1 := keep_cell hI p1
            have k2 := keep_cell hI p2
            have k3 := keep_cell hI p3
            have k4 := keep_cell hI p4
            have k5 := keep_cell hI q0
            have k6 := keep_cell hI q1
            have k7 := keep_cell hI q2
            have k8 := keep_cell hI q3
            have k9 := keep_cell hI q4
            have HI := Lib.hid hI
            clear hI hst hR
            go_wp2
            exact ⟨rfl, _, rfl, rfl, HI.out, fun _ _ h => h⟩
          · refine Owes.mk _ rfl rfl (fun _ _ h => by cases h) fun u m w' hm hI hR => ⟨⟨#[undef, undef, undef, .int .i64 (mm : Int), undef, undef, undef, undef, undef, undef, undef, undef, undef, undef, undef, undef, undef, undef, undef, undef, undef], []⟩, rfl, fun d hd => by cases hd; exact (by decide : 11 < 21), ?_⟩
            have k0 := keep_cell hI p0
            have k1 := keep_cell hI p1
            have k2 := keep_cell hI p2
            have k3 := keep_cell hI p3
            have k4 := keep_cell hI p4
            have k5 := keep_cell hI q0
            have k6 := keep_cell hI q1
            have k7 := keep_cell hI q2
            have k8 := keep_cell hI q3
            have k9 := keep_cell hI q4
            have HI := Lib.hid hI
            clear hI hst hR
            go_wp2
            exact ⟨rfl, _, rfl, rfl, HI.out, fun _ _ h => h⟩
          · refine Owes.mk _ rfl rfl (fun _ _ h => by cases h) fun u m w' hm hI hR => ⟨⟨#[undef, undef, undef, undef, undef, undef, undef, undef, undef, undef, undef, u 1, undef, undef, undef, undef, undef, undef, undef, undef, undef], []⟩, rfl, fun d hd => by cases hd; exact (by decide : 12 < 21), ?_⟩
            have e1 : u 1 = _ := hR 1 (by decide)
            have k0 := keep_cell hI p0
            have k1 := keep_cell hI p1
            have k2 := keep_cell hI p2
            have k3 := keep_cell hI p3
            have k4 := keep_cell hI p4
            have k5 := keep_cell hI q0
            have k6 := keep_cell hI q1
            have k7 := keep_cell hI q2
            have k8 := keep_cell hI q3
            have k9 := keep_cell hI q4
            rw [e1]
            clear e1
            have HI := Lib.hid hI
            clear hI hst hR
            go_wp2
            exact ⟨rfl, _, rfl, (by have := HKK.out; subst this; show _ = _; go_num), HI.out, fun _ _ h => h⟩
          · refine Owes.mk _ rfl rfl (fun _ _ h => by cases h) fun u m w' hm hI hR => ⟨⟨#[undef, undef, undef, undef, undef, undef, undef, undef, undef, undef, u 0, undef, u 2, undef, undef, undef, undef, undef, undef, undef, undef], []⟩, rfl, fun d hd => by cases hd; exact (by decide : 13 < 21), ?_⟩
            have e0 : u 0 = _ := hR 0 (by decide)
            have e2 : u 2 = _ := hR 2 (by decide)
            have k0 := keep_cell hI p0
            have k1 := keep_cell hI p1
            have k2 := keep_cell hI p2
            have k3 := keep_cell hI p3
            have k4 := keep_cell hI p4
            have k5 := keep_cell hI q0
            have k6 := keep_cell hI q1
            have k7 := keep_cell hI q2
            have k8 := keep_cell hI q3
            have k9 := keep_cell hI q4
            have HI := Lib.hid hI
            clear hI hst hR
            rw [e0, e2]
            clear e0 e2
            go_wp2
            exact ⟨rfl, _, rfl, rfl, HI.out, fun _ _ h => h⟩
          · refine Owes.mk _ rfl rfl (fun _ _ h => by cases h) fun u m w' hm hI hR => ⟨⟨#[undef, undef, undef, undef, undef, undef, undef, undef, undef, undef, undef, undef, undef, u 3, undef, undef, undef, undef, undef, undef, undef], []⟩, rfl, fun d hd => by cases hd; exact (by decide : 14 < 21), ?_⟩
            have e3 : u 3 = _ := hR 3 (by decide)
            have k0 := keep_cell hI p0
            have k1 := keep_cell hI p1
            have k2 := keep_cell hI p2
            have k3 := keep_cell hI p3
            have k4 := keep_cell hI p4
            have k5 := keep_cell hI q0
            have k6 := keep_cell hI q1
            have k7 := keep_cell hI q2
            have k8 := keep_cell hI q3
            have k9 := keep_cell hI q4
            have HI := Lib.hid hI
            clear hI hst hR
            rw [e3]
            clear e3
            go_wp2
            exact ⟨rfl, _, rfl, rfl, HI.out, fun _ _ h => h⟩
          · refine Owes.mk _ rfl rfl (fun _ _ h => by cases h) fun u m w' hm hI hR => ⟨⟨#[.slice (some ⟨lb, lo, none⟩) n cap, undef, undef, undef, undef, undef, undef, undef, undef, undef, undef, undef, undef, undef, undef, undef, undef, undef, undef, undef, undef], []⟩, rfl, fun d hd => by cases hd; exact (by decide : 15 < 21), ?_⟩
            have k0 := keep_cell hI p0
            have k1 := keep_cell hI p1
            have k2 := keep_cell hI p2
            have k3 := keep_cell hI p3
            have k4 := keep_cell hI p4
            have k5 := keep_cell hI q0
            have k6 := keep_cell hI q1
            have k7 := keep_cell hI q2
            have k8 := keep_cell hI q3
            have k9 := keep_cell hI q4
            have HI := Lib.hid hI
            clear hI hst hR
            go_wp2
            exact ⟨rfl, _, rfl, rfl, HI.out, fun _ _ h => h⟩
          · refine Owes.mk _ rfl rfl (fun _ _ h => by cases h) fun u m w' hm hI hR => ⟨⟨#[undef, undef, undef, .int .i64 (mm : Int), undef, undef, undef, undef, undef, undef, undef, undef, undef, undef, undef, undef, undef, undef, undef, undef, undef], []⟩, rfl, fun d hd => by cases hd; exact (by decide : 16 < 21), ?_⟩
            have k0 := keep_cell hI p0
            have k1 := keep_cell hI p1
            have k2 := keep_cell hI p2
            have k3 := keep_cell hI p3
            have k4 := keep_cell hI p4
            have k5 := keep_cell hI q0
            have k6 := keep_cell hI q1
            have k7 := keep_cell hI q2
            have k8 := keep_cell hI q3
            have k9 := keep_cell hI q4
            have HI := Lib.hid hI
            clear hI hst hR
            go_wp2
            exact ⟨rfl, _, rfl, rfl, HI.out, fun _ _ h => h⟩
          · refine Owes.mk _ rfl rfl (fun _ _ h => by cases h) fun u m w' hm hI hR => ⟨⟨#[undef, undef, undef, undef, undef, undef, undef, undef, undef, undef, undef, undef, undef, undef, undef, u 5, u 6, undef, undef, undef, undef], []⟩, rfl, fun d hd => by cases hd; exact (by decide : 17 < 21), ?_⟩
            have e5 : u 5 = _ := hR 5 (by decide)
            have e6 : u 6 = _ := hR 6 (by decide)
            have k0 := keep_cell hI p0
            have k1 := keep_cell hI p1
            have k2 := keep_cell hI p2
            have k3 := keep_cell hI p3
            have k4 := keep_cell hI p4
            have k5 := keep_cell hI q0
            have k6 := keep_cell hI q1
            have k7 := keep_cell hI q2
            have k8 := keep_cell hI q3
            have k9 := keep_cell hI q4
            have HI := Lib.hid hI
            clear hI hst hR
            rw [e5, e6]
            clear e5 e6
            go_wp2
            exact ⟨rfl, _, rfl, rfl, HI.out, fun _ _ h => h⟩
          · refine Owes.mk _ rfl rfl (fun _ _ h => by cases h) fun u m w' hm hI hR => ⟨⟨#[undef, undef, undef, undef, undef, undef, undef, undef, undef, undef, undef, undef, undef, undef, undef, undef, undef, u 7, undef, undef, undef], []⟩, rfl, fun d hd => by cases hd; exact (by decide : 18 < 21), ?_⟩
            have e7 : u 7 = _ := hR 7 (by decide)
            have k0 := keep_cell hI p0
            have k1 := keep_cell hI p1
            have k2 := keep_cell hI p2
            have k3 := keep_cell hI p3
            have k4 := keep_cell hI p4
            have k5 := keep_cell hI q0
            have k6 := keep_cell hI q1
            have k7 := keep_cell hI q2
            have k8 := keep_cell hI q3
            have k9 := keep_cell hI q4
            have HI := Lib.hid hI
            clear hI hst hR
            rw [e7]
            clear e7
            go_wp2
            exact ⟨rfl, _, rfl, rfl, HI.out, fun _ _ h => h⟩
          · refine Owes.mk _ rfl rfl (fun _ _ h => by cases h) fun u m w' hm hI hR => ⟨⟨#[undef, undef, undef, undef, undef, undef, undef, undef, undef, undef, undef, undef, undef, undef, u 4, undef, undef, undef, u 8, undef, undef], []⟩, rfl, fun d hd => by cases hd; exact (by decide : 19 < 21), ?_⟩
            have e4 : u 4 = _ := hR 4 (by decide)
            have e8 : u 8 = _ := hR 8 (by decide)
            have k0 := keep_cell hI p0
            have k1 := keep_cell hI p1
            have k2 := keep_cell hI p2
            have k3 := keep_cell hI p3
            have k4 := keep_cell hI p4
            have k5 := keep_cell hI q0
            have k6 := keep_cell hI q1
            have k7 := keep_cell hI q2
            have k8 := keep_cell hI q3
            have k9 := keep_cell hI q4
            rw [e4, e8]
            clear e4 e8
            have HI := Lib.hid hI
            clear hI hR
            go_wp2_with fail
            refine (compareJobs_any ja jb _ _ _).mono ?_
            rw [HZ.out]
            rintro e w5 ⟨rfl, b5⟩
            have HS5 := Lib.hid (facts_stable hst (b5.chg []))
            have HI5 := Lib.hid (HI.out.trans (b5.mono HI.out.size))
            clear b5 hst
            go_wp2
            exact ⟨rfl, _, rfl, rfl, HI5.out, HS5.out⟩
        case hend =>
          intro u w' hI hR
          simp only [setAll, List.set_cons_zero, List.set_cons_succ]
          have e9 : u 9 = _ := hR 9 (by decide)
          rw [e9]
          have B2 := Lib.hid (B.out.trans (hI.mono B.out.size))
          clear hR hst hI e9 p0 p1 p2 p3 p4 q0 q1 q2 q3 q4
          go_wp2
          go_ret
          exact ⟨ret_bool (rise_no hL (by omega) (by rw [HB.out, HJB.out]; exact HS.out)).symm, B2.out⟩
      · go_upto_region 4 with fail
        have hst : ∀ F, F ∈ [FEq (.slice (some ⟨lb, lo, none⟩) n cap), FEq (.int .i64 (mm : Int)), FEq (.int .i64 (k : Int)), FEq (.pointer (some ⟨lb, lo + k * 5, none⟩)), FEq (.agg #[.int .i64 ja.who, .int .i64 ja.n, .int .i64 ja.rsp.id, .int .i64 ja.rsp.code, pv]), FEq (.slice (some ⟨lb, lo, none⟩) n cap), FEq (.int .i64 (mm : Int)), FEq (.pointer (some ⟨lb, lo + mm * 5, none⟩)), FEq (.agg #[.int .i64 jb.who, .int .i64 jb.n, .int .i64 jb.rsp.id, .int .i64 jb.rsp.code, qv]), FEq (.int .i64 z)] → Stable [] F := by
          simp only [List.forall_mem_cons]
          exact ⟨stEq _ _, stEq _ _, stEq _ _, stEq _ _, stEq _ _, stEq _ _, stEq _ _, stEq _ _, stEq _ _, stEq _ _, fun _ h => by simp at h⟩
        refine wp_region_tail (by kernel_rfl) (fun i => ([[], [], [1], [0, 1, 2], [0, 1, 2, 3], [], [], [5, 6], [5, 6, 7], [0, 1, 2, 3, 4, 5, 6, 7, 8], [0, 1, 2, 3, 4, 5, 6, 7, 8, 9]] : List (List Nat)).getD i []) (facts [FEq (.slice (some ⟨lb, lo, none⟩) n cap), FEq (.int .i64 (mm : Int)), FEq (.int .i64 (k : Int)), FEq (.pointer (some ⟨lb, lo + k * 5, none⟩)), FEq (.agg #[.int .i64 ja.who, .int .i64 ja.n, .int .i64 ja.rsp.id, .int .i64 ja.rsp.code, pv]), FEq (.slice (some ⟨lb, lo, none⟩) n cap), FEq (.int .i64 (mm : Int)), FEq (.pointer (some ⟨lb, lo + mm * 5, none⟩)), FEq (.agg #[.int .i64 jb.who, .int .i64 jb.n, .int .i64 jb.rsp.id, .int .i64 jb.rsp.code, qv]), FEq (.int .i64 z)]) (fun m w' => Below wr.heap.size wr w') 21 11 10 [some 10, some 11, some 12, some 13, some 14, some 15, some 16, some 17, some 18, some 19] _ rfl rfl (by decide) rfl rfl (by kernel_rfl) (by kernel_rfl) [] (by kernel_rfl) (fun g b hm v w h => by simp at hm) ?h0 (all_lt (n := 10) ?hop) ?hend
        case h0 => exact (Below.refl _ _).drew
        case hop =>
          refine ⟨⟨⟨⟨⟨⟨⟨⟨⟨⟨trivial, ?_⟩, ?_⟩, ?_⟩, ?_⟩, ?_⟩, ?_⟩, ?_⟩, ?_⟩, ?_⟩, ?_⟩
          · refine Owes.mk _ rfl rfl (fun _ _ h => by cases h) fun u m w' hm hI hR => ⟨⟨#[.slice (some ⟨lb, lo, none⟩) n cap, undef, undef, undef, undef, undef, undef, undef, undef, undef, undef, undef, undef, undef, undef, undef, undef, undef, undef, undef, undef], []⟩, rfl, fun d hd => by cases hd; exact (by decide : 10 < 21), ?_⟩
            have k0 := keep_cell hI p0
            have k1 := keep_cell hI p1
            have k2 := keep_cell hI p2
            have k3 := keep_cell hI p3
            have k4 := keep_cell hI p4
            have k5 := keep_cell hI q0
            have k6 := keep_cell hI q1
            have k7 := keep_cell hI q2
            have k8 := keep_cell hI q3
            have k9 := keep_cell hI q4
            have HI := Lib.hid hI
            clear hI hst hR
            go_wp2
            exact ⟨rfl, _, rfl, rfl, HI.out, fun _ _ h => h⟩
          · refine Owes.mk _ rfl rfl (fun _ _ h => by cases h) fun u m w' hm hI hR => ⟨⟨#[undef, undef, undef, .int .i64 (mm : Int), undef, undef, undef, undef, undef, undef, undef, undef, undef, undef, undef, undef, undef, undef, undef, undef, undef], []⟩, rfl, fun d hd => by cases hd; exact (by decide : 11 < 21), ?_⟩
            have k0 := keep_cell hI p0
            have k1 := keep_cell hI p1
            have k2 := keep_cell hI p2
            have k3 := keep_cell hI p3
            have k4 := keep_cell hI p4
            have k5 := keep_cell hI q0
            have k6 := keep_cell hI q1
            have k7 := keep_cell hI q2
            have k8 := keep_cell hI q3
            have k9 := keep_cell hI q4
            have HI := Lib.hid hI
            clear hI hst hR
            go_wp2
            exact ⟨rfl, _, rfl, rfl, HI.out, fun _ _ h => h⟩
          · refine Owes.mk _ rfl rfl (fun _ _ h => by cases h) fun u m w' hm hI hR => ⟨⟨#[undef, undef, undef, undef, undef, undef, undef, undef, undef, undef, undef, u 1, undef, undef, undef, undef, undef, undef, undef, undef, undef], []⟩, rfl, fun d hd => by cases hd; exact (by decide : 12 < 21), ?_⟩
            have e1 : u 1 = _ := hR 1 (by decide)
            have k0 := keep_cell hI p0
            have k1 := keep_cell hI p1
            have k2 := keep_cell hI p2
            have k3 := keep_cell hI p3
            have k4 := keep_cell hI p4
            have k5 := keep_cell hI q0
            have k6 := keep_cell hI q1
            have k7 := keep_cell hI q2
            have k8 := keep_cell hI q3
            have k9 := keep_cell hI q4
            rw [e1]
            clear e1
            have HI := Lib.hid hI
            clear hI hst hR
            go_wp2
            exact ⟨rfl, _, rfl, (by have := HKK.out; subst this; show _ = _; go_num), HI.out, fun _ _ h => h⟩
          · refine Owes.mk _ rfl rfl (fun _ _ h => by cases h) fun u m w' hm hI hR => ⟨⟨#[undef, undef, undef, undef, undef, undef, undef, undef, undef, undef, u 0, undef, u 2, undef, undef, undef, undef, undef, undef, undef, undef], []⟩, rfl, fun d hd => by cases hd; exact (by decide : 13 < 21), ?_⟩
            have e0 : u 0 = _ := hR 0 (by decide)
            have e2 : u 2 = _ := hR 2 (by decide)
            have k0 := keep_cell hI p0
            have k1 := keep_cell hI p1
            have k2 := keep_cell hI p2
            have k3 := keep_cell hI p3
            have k4 := keep_cell hI p4
            have k5 := keep_cell hI q0
            have k6 := keep_cell hI q1
            have k7 := keep_cell hI q2
            have k8 := keep_cell hI q3
            have k9 := keep_cell hI q4
            have HI := Lib.hid hI
            clear hI hst hR
            rw [e0, e2]
            clear e0 e2
            go_wp2
            exact ⟨rfl, _, rfl, rfl, HI.out, fun _ _ h => h⟩
          · refine Owes.mk _ rfl rfl (fun _ _ h => by cases h) fun u m w' hm hI hR => ⟨⟨#[undef, undef, undef, undef, undef, undef, undef, undef, undef, undef, undef, undef, undef, u 3, undef, undef, undef, undef, undef, undef, undef], []⟩, rfl, fun d hd => by cases hd; exact (by decide : 14 < 21), ?_⟩
            have e3 : u 3 = _ := hR 3 (by decide)
            have k0 := keep_cell hI p0
            have k1 := keep_cell hI p1
            have k2 := keep_cell hI p2
            have k3 := keep_cell hI p3
            have k4 := keep_cell hI p4
            have k5 := keep_cell hI q0
            have k6 := keep_cell hI q1
            have k7 := keep_cell hI q2
            have k8 := keep_cell hI q3
            have k9 := keep_cell hI q4
            have HI := Lib.hid hI
            clear hI hst hR
            rw [e3]
            clear e3
            go_wp2
            exact ⟨rfl, _, rfl, rfl, HI.out, fun _ _ h => h⟩
          · refine Owes.mk _ rfl rfl (fun _ _ h => by cases h) fun u m w' hm hI hR => ⟨⟨#[.slice (some ⟨lb, lo, none⟩) n cap, undef, undef, undef, undef, undef, undef, undef, undef, undef, undef, undef, undef, undef, undef, undef, undef, undef, undef, undef, undef], []⟩, rfl, fun d hd => by cases hd; exact (by decide : 15 < 21), ?_⟩
            have k0 := keep_cell hI p0
            have k1 := keep_cell hI p1
            have k2 := keep_cell hI p2
            have k3 := keep_cell hI p3
            have k4 := keep_cell hI p4
            have k5 := keep_cell hI q0
            have k6 := keep_cell hI q1
            have k7 := keep_cell hI q2
            have k8 := keep_cell hI q3
            have k9 := keep_cell hI q4
            have HI := Lib.hid hI
            clear hI hst hR
            go_wp2
            exact ⟨rfl, _, rfl, rfl, HI.out, fun _ _ h => h⟩
          · refine Owes.mk _ rfl rfl (fun _ _ h => by cases h) fun u m w' hm hI hR => ⟨⟨#[undef, undef, undef, .int .i64 (mm : Int), undef, undef, undef, undef, undef, undef, undef, undef, undef, undef, undef, undef, undef, undef, undef, undef, undef], []⟩, rfl, fun d hd => by cases hd; exact (by decide : 16 < 21), ?_⟩
            have k0 := keep_cell hI p0
            have k1 := keep_cell hI p1
            have k2 := keep_cell hI p2
            have k3 := keep_cell hI p3
            have k4 := keep_cell hI p4
            have k5 := keep_cell hI q0
            have k6 := keep_cell hI q1
            have k7 := keep_cell hI q2
            have k8 := keep_cell hI q3
            have k9 := keep_cell hI q4
            have HI := Lib.hid hI
            clear hI hst hR
            go_wp2
            exact ⟨rfl, _, rfl, rfl, HI.out, fun _ _ h => h⟩
          · refine Owes.mk _ rfl rfl (fun _ _ h => by cases h) fun u m w' hm hI hR => ⟨⟨#[undef, undef, undef, undef, undef, undef, undef, undef, undef, undef, undef, undef, undef, undef, undef, u 5, u 6, undef, undef, undef, undef], []⟩, rfl, fun d hd => by cases hd; exact (by decide : 17 < 21), ?_⟩
            have e5 : u 5 = _ := hR 5 (by decide)
            have e6 : u 6 = _ := hR 6 (by decide)
            have k0 := keep_cell hI p0
            have k1 := keep_cell hI p1
            have k2 := keep_cell hI p2
            have k3 := keep_cell hI p3
            have k4 := keep_cell hI p4
            have k5 := keep_cell hI q0
            have k6 := keep_cell hI q1
            have k7 := keep_cell hI q2
            have k8 := keep_cell hI q3
            have k9 := keep_cell hI q4
            have HI := Lib.hid hI
            clear hI hst hR
            rw [e5, e6]
            clear e5 e6
            go_wp2
            exact ⟨rfl, _, rfl, rfl, HI.out, fun _ _ h => h⟩
          · refine Owes.mk _ rfl rfl (fun _ _ h => by cases h) fun u m w' hm hI hR => ⟨⟨#[undef, undef, undef, undef, undef, undef, undef, undef, undef, undef, undef, undef, undef, undef, undef, undef, undef, u 7, undef, undef, undef], []⟩, rfl, fun d hd => by cases hd; exact (by decide : 18 < 21), ?_⟩
            have e7 : u 7 = _ := hR 7 (by decide)
            have k0 := keep_cell hI p0
            have k1 := keep_cell hI p1
            have k2 := keep_cell hI p2
            have k3 := keep_cell hI p3
            have k4 := keep_cell hI p4
            have k5 := keep_cell hI q0
            have k6 := keep_cell hI q1
            have k7 := keep_cell hI q2
            have k8 := keep_cell hI q3
            have k9 := keep_cell hI q4
            have HI := Lib.hid hI
            clear hI hst hR
            rw [e7]
            clear e7
            go_wp2
            exact ⟨rfl, _, rfl, rfl, HI.out, fun _ _ h => h⟩
          · refine Owes.mk _ rfl rfl (fun _ _ h => by cases h) fun u m w' hm hI hR => ⟨⟨#[undef, undef, undef, undef, undef, undef, undef, undef, undef, undef, undef, undef, undef, undef, u 4, undef, undef, undef, u 8, undef, undef], []⟩, rfl, fun d hd => by cases hd; exact (by decide : 19 < 21), ?_⟩
            have e4 : u 4 = _ := hR 4 (by decide)
            have e8 : u 8 = _ := hR 8 (by decide)
            have k0 := keep_cell hI p0
            have k1 := keep_cell hI p1
            have k2 := keep_cell hI p2
            have k3 := keep_cell hI p3
            have k4 := keep_cell hI p4
            have k5 := keep_cell hI q0
            have k6 := keep_cell hI q1
            have k7 := keep_cell hI q2
            have k8 := keep_cell hI q3
            have k9 := keep_cell hI q4
            rw [e4, e8]
            clear e4 e8
            have HI := Lib.hid hI
            clear hI hR
            go_wp2_with fail
            refine (compareJobs_any ja jb _ _ _).mono ?_
            rw [HZ.out]
            rintro e w5 ⟨rfl, b5⟩
            have HS5 := Lib.hid (facts_stable hst (b5.chg []))
            have HI5 := Lib.hid (HI.out.trans (b5.mono HI.out.size))
            clear b5 hst
            go_wp2
            exact ⟨rfl, _, rfl, rfl, HI5.out, HS5.out⟩
        case hend =>
          intro u w' hI hR
          simp only [setAll, List.set_cons_zero, List.set_cons_succ]
          have e9 : u 9 = _ := hR 9 (by decide)
          rw [e9]
          have B2 := Lib.hid (B.out.trans (hI.mono B.out.size))
          clear hR hst hI e9 p0 p1 p2 p3 p4 q0 q1 q2 q3 q4
          go_wp2
          go_roundw
          case rel => exact ⟨mm + 1, by omega, by omega, by go_num, HR.out.step hL (fun _ => by rw [HB.out, HJB.out]; exact HS.out), B2.out⟩
          case measure => simp [intOf]; omega
    · go_wp2
      go_ret
      exact ⟨ret_bool (rise_yes HR.out (by rw [hn.out]; omega)).symm, B.out⟩

end Go.Proofs.Ytmmojgopeaelcaa
