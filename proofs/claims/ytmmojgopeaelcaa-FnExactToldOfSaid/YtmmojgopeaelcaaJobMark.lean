/-
  markTlmJobS, heldTlmJobS.
-/
import Derived.Test.YtmmojgopeaelcaaProg
import Derived.Test.YtmmojgopeaelcaaBase
import Derived.Test.YtmmojgopeaelcaaUniMem
import Derived.Test.YtmmojgopeaelcaaJob
import Derived.Test.YtmmojgopeaelcaaFocus
import Derived.WalkSmall
namespace Go.Proofs.Ytmmojgopeaelcaa
set_option linter.unusedVariables false
set_option linter.unusedSimpArgs false
open Go.RowKit

def elm_jobs (k : Int) (x : Job) : Job := ⟨k, k + 1, ⟨k + 1 + 1, k + 1 + 1 + 1, mk_ints (k + 1 + 1 + 1 + 1) x.rsp.data⟩⟩
def ecn_jobs (x : Job) : Int := 4 + cnt_ints x.rsp.data
def mk_jobs (k : Int) (l : List Job) : List Job := mkL elm_jobs ecn_jobs k l
def cnt_jobs (l : List Job) : Int := cntL ecn_jobs l
theorem ecn_jobs_in {x : Job} (h : sm_Job x) : 0 ≤ ecn_jobs x ∧ ecn_jobs x ≤ 1048580 := by
  have := cnt_ints_in (l := x.rsp.data) h
  unfold ecn_jobs
  omega
theorem ecn_jobs_all {l : List Job} (h : sm_jobs l) : ∀ x, x ∈ l → 0 ≤ ecn_jobs x ∧ ecn_jobs x ≤ 1048580 := fun x hx => by
  obtain ⟨j, hj, rfl⟩ := List.mem_iff_getElem.1 hx
  exact ecn_jobs_in (h.2 j hj)
theorem cnt_jobs_in {l : List Job} (h : sm_jobs l) : 0 ≤ cnt_jobs l ∧ cnt_jobs l ≤ 4398046511104 := by
  have := cntL_small (cn := ecn_jobs) (M := 1048580) (by omega) l (ecn_jobs_all h) h.1
  unfold cnt_jobs
  omega
theorem cnt_jobs_take {l : List Job} (h : sm_jobs l) (j : Nat) : 0 ≤ cntL ecn_jobs (l.take j) ∧ cntL ecn_jobs (l.take j) ≤ 4398046511104 := by
  have := cntL_small (cn := ecn_jobs) (M := 1048580) (by omega) (l.take j) (fun x hx => ecn_jobs_all h x (List.mem_of_mem_take hx)) (by have := h.1; rw [List.length_take]; omega)
  omega

set_option maxRecDepth 100000 in
set_option maxHeartbeats 3200000 in
theorem mark_jobs (v : Value) (l : List Job) (fp : List Nat) (k : Int) (h0 : 0 ≤ k) (h1 : k ≤ 72057594037927936) (hs : sm_jobs l) (w : World) (g : SlR 5 jobR w l v fp) (f : Free fp w) (hd : fp.Nodup) :
    Calls Try.prog 28 #[v, .int .i64 k] w fun e w' => e = .returned (.int .i64 (k + cnt_jobs l)) ∧ SlR 5 jobR w' (mk_jobs k l) v fp ∧ Chg fp w w' ∧ Free fp w' := by
  obtain ⟨a, n, cap, rfl, hn, hcap, hmax, hcm, r⟩ := g.opened
  have hns : n ≤ 1048576 := by rw [← hn.out]; exact hs.1
  have HS := Lib.hid hs
  have HD := Lib.hid hd
  have G := Lib.hid g
  have F := Lib.hid f
  clear r g f hs hd
  go_enter Try.func28, Try.ntmps28
  go_wp2
  go_loopw [1, 5] (fun q i wr => ∃ (j : Nat) (t : Int), j ≤ n ∧ i = .int .i64 j ∧ q = .int .i64 t ∧ Hid (t = k + cntL ecn_jobs (l.take j)) ∧ 0 ≤ t ∧ t ≤ 72061992084439040 ∧ SlR 5 jobR wr (mixL elm_jobs ecn_jobs k l j) (.slice a n cap) fp ∧ Chg fp w wr ∧ Free fp wr) (fun _ i _ => n - (intOf i).toNat)
  case atStart => exact ⟨0, k, Nat.zero_le _, rfl, rfl, Lib.hid (by simp [cntL]), h0, by omega, by rw [mixL_zero]; exact G.out, Chg.refl _ _, F.out⟩
  case round =>
    obtain ⟨j, t, hj, rfl, rfl, ht, t0, t1, gi, hc, hf⟩ := hrel
    have GI := Lib.hid gi
    have HC := Lib.hid hc
    have HF := Lib.hid hf
    by_cases hlt : j < n
    · obtain ⟨i1, b1, o1, f1, cs, rfl, hbm, hb1, hbf, hfn, hff, hR, e1, fin⟩ := SlR.focus jobR_fits gi HD.out hlt
      have hin : j < l.length := by rw [hn.out]; exact hlt
      have hR2 : jobR wr l[j] cs f1 := by rw [← mixL_at (mk := elm_jobs) (cn := ecn_jobs) k l j hin i1]; exact hR
      obtain ⟨dv, df0, rfl, rfl, hdv⟩ := hR2
      obtain ⟨da, dn, dc, rfl⟩ := hdv.form
      obtain ⟨y0, c0⟩ : ∃ x, wr.cell? ⟨b1, o1 + j * 5 + 0, none⟩ = some x := ⟨_, e1 0 (by simp)⟩
      obtain ⟨y1, c1⟩ : ∃ x, wr.cell? ⟨b1, o1 + j * 5 + 1, none⟩ = some x := ⟨_, e1 1 (by simp)⟩
      obtain ⟨y2, c2⟩ : ∃ x, wr.cell? ⟨b1, o1 + j * 5 + 2, none⟩ = some x := ⟨_, e1 2 (by simp)⟩
      obtain ⟨y3, c3⟩ : ∃ x, wr.cell? ⟨b1, o1 + j * 5 + 3, none⟩ = some x := ⟨_, e1 3 (by simp)⟩
      have c4 : wr.cell? ⟨b1, o1 + j * 5 + 4, none⟩ = some (.slice da dn dc) := e1 4 (by simp)
      have d0 := hf b1 hbm (o1 + j * 5 + 0)
      have d1 := hf b1 hbm (o1 + j * 5 + 1)
      have d2 := hf b1 hbm (o1 + j * 5 + 2)
      have d3 := hf b1 hbm (o1 + j * 5 + 3)
      simp only [Nat.add_zero] at c0 d0
      have hb := cnt_ints_in (l := l[j].rsp.data) (HS.out.2 j hin)
      obtain ⟨c, hcc⟩ : ∃ c, c = cnt_ints l[j].rsp.data := ⟨_, rfl⟩
      rw [← hcc] at hb
      have lc := hb.1
      have uc := hb.2
      have HCC := Lib.hid hcc
      have W1 : Hid (SlR 1 intR (putCells b1 wr (o1 + j * 5) [.int .i64 t, .int .i64 (t + 1), .int .i64 (t + 1 + 1), .int .i64 (t + 1 + 1 + 1)]) l[j].rsp.data (.slice da dn dc) f1) :=
        Lib.hid (hdv.same intR_fits (fun b hb => putCells_block (fun e => hbf (by rw [← e]; exact hb)) _ _ _) (by rw [putCells_size]; exact Nat.le_refl _))
      have W2 : Hid (Free f1 (putCells b1 wr (o1 + j * 5) [.int .i64 t, .int .i64 (t + 1), .int .i64 (t + 1 + 1), .int .i64 (t + 1 + 1 + 1)])) := Lib.hid (putCells_free _ _ _ (fun b hb => hf b (hff b hb)))
      have FI := Lib.hid fin
      have HB := Lib.hid hbf
      clear gi hc hf hbm hbf hfn hff hR e1 fin hdv hb hcc
      go_wp2_with fail
      refine (mark_ints (.slice da dn dc) l[j].rsp.data f1 (t + 1 + 1 + 1 + 1) (by omega) (by omega) (HS.out.2 j hin) _ W1.out W2.out).mono ?_
      rw [← HCC.out]
      rintro e w2 ⟨rfl, mg, ch, fr⟩
      have FN := Lib.hid (FI.out [.int .i64 t, .int .i64 (t + 1), .int .i64 (t + 1 + 1), .int .i64 (t + 1 + 1 + 1)] w2 (elm_jobs t l[j]) (by simp) ch ⟨.slice da dn dc, f1, rfl, rfl, mg⟩ HF.out fr)
      have hb2 := cnt_jobs_take HS.out (j + 1)
      have ht2 : t + 1 + 1 + 1 + 1 + c = k + cntL ecn_jobs (l.take (j + 1)) := by rw [cntL_next hin, ht.out, HCC.out]; unfold ecn_jobs; omega
      have hb3 : t + 1 + 1 + 1 + 1 + c ≤ 72061992084439040 := by rw [ht2]; omega
      have HT2 := Lib.hid ht2
      clear ch fr mg W1 W2 c0 c1 c2 c3 c4 d0 d1 d2 d3 hb2 ht2
      go_wp2
      go_roundw
      case rel =>
        obtain ⟨q1, q2, q3⟩ := FN.out
        rw [ht.out, mixL_set k l j hin] at q1
        exact ⟨j + 1, t + 1 + 1 + 1 + 1 + c, by omega, by go_num, by go_num, HT2, by omega, hb3, q1, HC.out.trans' q2, q3⟩
      case measure => simp [intOf]; omega
    · clear gi hc hf
      obtain rfl : j = n := by omega
      go_wp2
      go_ret
      exact ⟨ret_int (by unfold cnt_jobs; rw [ht.out, List.take_of_length_le (by rw [hn.out]; exact Nat.le_refl _)]), by unfold mk_jobs; rw [← mixL_all k l j hn.out]; exact GI.out, HC.out, HF.out⟩

set_option maxRecDepth 100000 in
set_option maxHeartbeats 3200000 in
theorem held_jobs (v : Value) (l : List Job) (fp : List Nat) (k : Int) (h0 : 0 ≤ k) (h1 : k ≤ 72057594037927936) (hs : sm_jobs l) (w : World) (g : SlR 5 jobR w (mk_jobs k l) v fp) :
    Calls Try.prog 29 #[v, .int .i64 k] w fun e w' => e = .returned (.int .i64 (k + cnt_jobs l)) ∧ Below w.heap.size w w' := by
  obtain ⟨a, n, cap, rfl, hn, hcap, hmax, hcm, r⟩ := g.opened
  have hnl : l.length = n := by rw [← hn.out]; exact (mkL_len l k).symm
  have hns : n ≤ 1048576 := by rw [← hnl]; exact hs.1
  have HN := Lib.hid hnl
  have HS := Lib.hid hs
  clear g hs hnl
  go_enter Try.func29, Try.ntmps29
  go_wp2
  go_loopw [1, 5] (fun q i wr => ∃ (j : Nat) (t : Int), j ≤ n ∧ i = .int .i64 j ∧ q = .int .i64 t ∧ Hid (t = k + cntL ecn_jobs (l.take j)) ∧ 0 ≤ t ∧ t ≤ 72061992084439040 ∧ Below w.heap.size w wr) (fun _ i _ => n - (intOf i).toNat)
  case atStart => exact ⟨0, k, Nat.zero_le _, rfl, rfl, Lib.hid (by simp [cntL]), h0, by omega, Below.refl _ _⟩
  case round =>
    obtain ⟨j, t, hj, rfl, rfl, ht, t0, t1, hb⟩ := hrel
    have HB := Lib.hid hb
    by_cases hlt : j < n
    · obtain ⟨i1, b1, o1, f1, cs, rfl, hb1, hbm, hff, hR, e1⟩ := r j hlt
      have hin : j < l.length := by rw [HN.out]; exact hlt
      have hR2 : jobR w (elm_jobs t l[j]) cs f1 := by rw [ht.out, ← mkL_at (mk := elm_jobs) (cn := ecn_jobs) l k j hin i1]; exact hR
      obtain ⟨dv, df0, rfl, rfl, hdv⟩ := hR2
      obtain ⟨da, dn, dc, rfl⟩ := hdv.form
      have c0 : wr.cell? ⟨b1, o1 + j * 5 + 0, none⟩ = some (.int .i64 t) := (hb.cell (p := ⟨b1, o1 + j * 5 + 0, none⟩) hb1).trans (e1 0 (by simp))
      have c1 : wr.cell? ⟨b1, o1 + j * 5 + 1, none⟩ = some (.int .i64 (t + 1)) := (hb.cell (p := ⟨b1, o1 + j * 5 + 1, none⟩) hb1).trans (e1 1 (by simp))
      have c2 : wr.cell? ⟨b1, o1 + j * 5 + 2, none⟩ = some (.int .i64 (t + 1 + 1)) := (hb.cell (p := ⟨b1, o1 + j * 5 + 2, none⟩) hb1).trans (e1 2 (by simp))
      have c3 : wr.cell? ⟨b1, o1 + j * 5 + 3, none⟩ = some (.int .i64 (t + 1 + 1 + 1)) := (hb.cell (p := ⟨b1, o1 + j * 5 + 3, none⟩) hb1).trans (e1 3 (by simp))
      have c4 : wr.cell? ⟨b1, o1 + j * 5 + 4, none⟩ = some (.slice da dn dc) := (hb.cell (p := ⟨b1, o1 + j * 5 + 4, none⟩) hb1).trans (e1 4 (by simp))
      simp only [Nat.add_zero] at c0
      have G1 : Hid (SlR 1 intR wr (mk_ints (t + 1 + 1 + 1 + 1) l[j].rsp.data) (.slice da dn dc) f1) := Lib.hid (SlR.below intR_fits hdv hb)
      have hbb := cnt_ints_in (l := l[j].rsp.data) (HS.out.2 j hin)
      obtain ⟨c, hcc⟩ : ∃ c, c = cnt_ints l[j].rsp.data := ⟨_, rfl⟩
      rw [← hcc] at hbb
      have lc := hbb.1
      have uc := hbb.2
      have HCC := Lib.hid hcc
      clear r hb hbm hff hR e1 hdv hbb hcc
      go_wp2_with fail
      refine (held_ints (.slice da dn dc) l[j].rsp.data f1 (t + 1 + 1 + 1 + 1) (by omega) (by omega) (HS.out.2 j hin) _ G1.out).mono ?_
      rw [← HCC.out]
      rintro e w2 ⟨rfl, b2⟩
      have HB2 := Lib.hid (HB.out.trans (b2.mono HB.out.size))
      have hb2 := cnt_jobs_take HS.out (j + 1)
      have ht2 : t + 1 + 1 + 1 + 1 + c = k + cntL ecn_jobs (l.take (j + 1)) := by rw [cntL_next hin, ht.out, HCC.out]; unfold ecn_jobs; omega
      have hb3 : t + 1 + 1 + 1 + 1 + c ≤ 72061992084439040 := by rw [ht2]; omega
      have hneg : decide (t + 1 + 1 + 1 + 1 + c < 0) = false := decide_eq_false (by omega)
      have HT2 := Lib.hid ht2
      clear b2 c0 c1 c2 c3 c4 hb2 ht2
      go_wp2
      go_roundw
      case rel => exact ⟨j + 1, t + 1 + 1 + 1 + 1 + c, by omega, by go_num, by go_num, HT2, by omega, hb3, HB2.out⟩
      case measure => simp [intOf]; omega
    · clear r hb
      obtain rfl : j = n := by omega
      go_wp2
      go_ret
      exact ⟨ret_int (by unfold cnt_jobs; rw [ht.out, List.take_of_length_le (by rw [HN.out]; exact Nat.le_refl _)]), HB.out⟩

end Go.Proofs.Ytmmojgopeaelcaa
