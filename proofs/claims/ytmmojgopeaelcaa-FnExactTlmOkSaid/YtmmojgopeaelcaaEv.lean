/-
  Things that happen, handed in: eqTlmEvent, toTlmEvent, and of slices of them sz.., eq.., to...
-/
import Derived.Test.YtmmojgopeaelcaaProg
import Derived.Test.YtmmojgopeaelcaaBase
import Derived.Test.YtmmojgopeaelcaaUni
import Derived.OwnWalk
import Derived.KernelRfl
import Derived.WalkSmall
import Derived.Deep.QuietTactic
import Derived.BigQuiet
import Derived.StillTailTactics
namespace Go.Proofs.Ytmmojgopeaelcaa
set_option linter.unusedVariables false
set_option linter.unusedSimpArgs false
open Go.RowKit Go.ChangeShapes

structure Ev where
  kind : Int
  who : Int
  n : Int
  deriving DecidableEq

def evR : Pr Ev := fun _ x cs fp => cs = [.int .i64 x.kind, .int .i64 x.who, .int .i64 x.n] ∧ fp = []
theorem evR_fits : Fits 3 evR := ⟨fun h => by rw [h.1]; rfl, fun h b hb => by rw [h.2] at hb; simp at hb, fun h _ _ => h⟩

set_option maxRecDepth 100000 in
theorem opens_Ev : Opens Try.prog 37 evR := fun {H enc w fuel cs x} h => by
  obtain ⟨xs, n, _, _, hl, hx, hf⟩ := DataW.trod_struct Try.underlying37 h
  have hk : Try.prog.cellsOf 37 = 3 := by kernel_rfl
  have k_int : Try.prog.cellsOf 3 = 1 := by kernel_rfl
  rw [hk] at hl
  have hx' : xs.length = 3 := hx
  match cs, hl with
  | [c0, c1, c2], _ =>
    obtain ⟨y0, _, e0, _⟩ := opens_int Try.underlying3 ((hf 0 _ rfl).trans (List.getElem?_eq_getElem (by omega)))
    obtain ⟨y1, _, e1, _⟩ := opens_int Try.underlying3 ((hf 1 _ rfl).trans (List.getElem?_eq_getElem (by omega)))
    obtain ⟨y2, _, e2, _⟩ := opens_int Try.underlying3 ((hf 2 _ rfl).trans (List.getElem?_eq_getElem (by omega)))
    simp [k_int] at e0 e1 e2
    subst e0
    subst e1
    subst e2
    exact ⟨⟨y0, y1, y2⟩, [], rfl, rfl⟩

set_option maxRecDepth 100000 in
set_option maxHeartbeats 3200000 in
theorem eq_Ev (x y : Ev) (w : World) :
    Calls Try.prog 100 #[.agg #[.int .i64 x.kind, .int .i64 x.who, .int .i64 x.n], .agg #[.int .i64 y.kind, .int .i64 y.who, .int .i64 y.n]] w fun e w' => e = .returned (.bool (decide (x = y))) ∧ Below w.heap.size w w' := by
  have hb : Below w.heap.size w ((w.alloc (.cells #[.int .i64 x.kind, .int .i64 x.who, .int .i64 x.n] 39)).alloc (.cells #[.int .i64 y.kind, .int .i64 y.who, .int .i64 y.n] 39)) := ((Below.refl _ _).alloc (Nat.le_refl _) _).alloc (by simp) _
  have B := Lib.hid hb
  have HD := Lib.hid (show decide (x = y) = (decide (x.kind = y.kind) && decide (x.who = y.who) && decide (x.n = y.n)) by cases x; cases y; simp [Bool.and_assoc])
  clear hb 
  cases e0 : decide (x.kind = y.kind)
  case' false =>
    have q0 : (x.kind != y.kind) = true := by simp [of_decide_eq_false e0]
    have E0 := Lib.hid e0
    clear e0
    go_enter Try.func100, Try.ntmps100
    go_wp2
    go_ret
    exact ⟨ret_bool (by rw [HD.out, E0.out]; simp), B.out⟩
  have q0 : (x.kind != y.kind) = false := by simp [of_decide_eq_true e0]
  have E0 := Lib.hid e0
  clear e0
  cases e1 : decide (x.who = y.who)
  case' false =>
    have q1 : (x.who != y.who) = true := by simp [of_decide_eq_false e1]
    have E1 := Lib.hid e1
    clear e1
    go_enter Try.func100, Try.ntmps100
    go_wp2
    go_ret
    exact ⟨ret_bool (by rw [HD.out, E0.out, E1.out]; simp), B.out⟩
  have q1 : (x.who != y.who) = false := by simp [of_decide_eq_true e1]
  have E1 := Lib.hid e1
  clear e1
  cases e2 : decide (x.n = y.n)
  case' false =>
    have q2 : (x.n != y.n) = true := by simp [of_decide_eq_false e2]
    have E2 := Lib.hid e2
    clear e2
    go_enter Try.func100, Try.ntmps100
    go_wp2
    go_ret
    exact ⟨ret_bool (by rw [HD.out, E0.out, E1.out, E2.out]; simp), B.out⟩
  have q2 : (x.n != y.n) = false := by simp [of_decide_eq_true e2]
  have E2 := Lib.hid e2
  clear e2
  go_enter Try.func100, Try.ntmps100
  go_wp2
  go_ret
  exact ⟨ret_bool (by rw [HD.out,E0.out, E1.out, E2.out]; rfl), B.out⟩

set_option maxRecDepth 100000 in
set_option maxHeartbeats 3200000 in
theorem to_Ev (x : Ev) (w : World) :
    Calls Try.prog 21 #[.agg #[.int .i64 x.kind, .int .i64 x.who, .int .i64 x.n]] w fun e w' => e = .returned (.agg #[.int .i64 x.kind, .int .i64 x.who, .int .i64 x.n]) ∧ Below w.heap.size w w' := by
  go_enter Try.func21, Try.ntmps21
  go_wp2
  exact bodyPost_ret (v := .agg #[.int .i64 x.kind, .int .i64 x.who, .int .i64 x.n]) (by simp [results, Try.results21, go_sem]) rfl ⟨rfl, below3 w _ _ _⟩


theorem opens_evs : Opens Try.prog 50 (slR 3 evR) :=
  opens_slice Try.underlying50 (by kernel_rfl) (by decide) opens_Ev evR_fits

def sm_evs (l : List Ev) : Prop := l.length ≤ 1048576

set_option maxRecDepth 100000 in
set_option maxHeartbeats 1600000 in
theorem sz_evs (v : Value) (l : List Ev) (fp : List Nat) (left : Int) (h0 : 0 ≤ left) (h1 : left ≤ 1048576) (w : World) (g : SlR 3 evR w l v fp) :
    Calls Try.prog 30 #[v, .int .i64 left] w (SzP left (sm_evs l) w) := by
  obtain ⟨a, n, cap, rfl, hn, hcap, hmax, hcm, r⟩ := g.opened
  have HN := Lib.hid hn
  clear g r hn
  by_cases h : left < n
  · go_enter Try.func30, Try.ntmps30
    go_wp2
    go_ret
    exact SzP.neg h0 (Below.refl _ _)
  · go_enter Try.func30, Try.ntmps30
    go_wp2
    go_ret
    exact SzP.pos (by omega) (show _ ≤ _ by rw [HN.out.out]; omega) (Below.refl _ _)

set_option maxRecDepth 100000 in
set_option maxHeartbeats 1600000 in
theorem eq_evs (v1 v2 : Value) (l1 l2 : List Ev) (fp1 fp2 : List Nat) (w : World) (g1 : SlR 3 evR w l1 v1 fp1) (g2 : SlR 3 evR w l2 v2 fp2) :
    Calls Try.prog 34 #[v1, v2] w fun e w' => e = .returned (.bool (decide (l1 = l2))) ∧ Below w.heap.size w w' := by
  obtain ⟨a1, n1, c1, rfl, hn1, k1, m1, _, r1⟩ := g1.opened
  obtain ⟨a2, n2, c2, rfl, hn2, k2, m2, _, r2⟩ := g2.opened
  clear g1 g2
  by_cases hL : n2 = n1
  · obtain rfl := hL
    go_enter Try.func34, Try.ntmps34
    go_wp2
    go_loopw [5] (fun i wr => ∃ k : Nat, k ≤ n2 ∧ i = .int .i64 k ∧ l1.take k = l2.take k ∧ Below w.heap.size w wr) (fun i _ => n2 - (intOf i).toNat)
    case atStart => exact ⟨0, Nat.zero_le _, rfl, rfl, Below.refl _ _⟩
    case round =>
      obtain ⟨k, hk, rfl, ht, hb⟩ := hrel
      have HT := Lib.hid ht
      have HB := Lib.hid hb
      clear ht
      by_cases hlt : k < n2
      · obtain ⟨i1, b1, o1, xf, cs1, rfl, hb1, _, _, ⟨rfl, rfl⟩, e1⟩ := r1 k hlt
        obtain ⟨i2, b2, o2, yf, cs2, rfl, hb2, _, _, ⟨rfl, rfl⟩, e2⟩ := r2 k hlt
        have c0 := (hb.cell (p := ⟨b1, o1 + k * 3 + 0, none⟩) hb1).trans (e1 0 (by simp))
        have c1 := (hb.cell (p := ⟨b1, o1 + k * 3 + 1, none⟩) hb1).trans (e1 1 (by simp))
        have c2 := (hb.cell (p := ⟨b1, o1 + k * 3 + 2, none⟩) hb1).trans (e1 2 (by simp))
        have d0 := (hb.cell (p := ⟨b2, o2 + k * 3 + 0, none⟩) hb2).trans (e2 0 (by simp))
        have d1 := (hb.cell (p := ⟨b2, o2 + k * 3 + 1, none⟩) hb2).trans (e2 1 (by simp))
        have d2 := (hb.cell (p := ⟨b2, o2 + k * 3 + 2, none⟩) hb2).trans (e2 2 (by simp))
        simp only [Nat.add_zero, List.getElem_cons_zero, List.getElem_cons_succ] at c0 d0 c1 d1 c2 d2
        have hbd := HB.out.trans (Below.refl _ wr).drew
        clear r1 r2 e1 e2 hb hbd 
        go_wp2_with fail
        go_still_tail 8, (by kernel_rfl)
        change wpList _ _ _ _ _ wr.drew
        clear c0 d0 c1 d1 c2 d2
        go_wp2_with fail
        refine (eq_Ev l1[k] l2[k]   _  ).mono ?_
        rintro e w2 ⟨rfl, b3⟩
        have HB2 := Lib.hid ((HB.out.trans (Below.refl _ _).drew).trans (b3.mono HB.out.size))
        clear b3
        cases hq : decide (l1[k] = l2[k])
        · have HQ := Lib.hid (of_decide_eq_false hq)
          clear hq
          go_wp2
          go_ret
          exact ⟨ret_bool (by simp; intro e; exact HQ.out (by simp [e])), HB2.out⟩
        · have HQ := Lib.hid (of_decide_eq_true hq)
          clear hq
          go_wp2
          go_roundw
          case rel => exact ⟨k + 1, by omega, by go_num, take_succ_eq HT.out i1 i2 HQ.out, HB2.out⟩
          case measure => simp [intOf]; omega
      · clear r1 r2 hb
        go_wp2
        go_ret
        exact ⟨ret_bool (by simp [take_all_eq HT.out hn1.out hn2.out (by omega)]), HB.out⟩
  · clear r1 r2
    have hne : l1 ≠ l2 := fun e => hL (by rw [← hn1.out, ← hn2.out, e])
    have hq : ((n1 : Int) != n2) = true := by simp; omega
    go_enter Try.func34, Try.ntmps34
    go_wp2
    go_ret
    exact ⟨ret_bool (by simp [hne]), Below.refl _ _⟩

theorem info_evs : (Try.prog.info? 39).map (fun i => (i.zero, i.size, i.bytes)) = some (some (.agg #[.int .i64 0, .int .i64 0, .int .i64 0]), 3, 24) := by kernel_rfl

set_option maxRecDepth 100000 in
set_option maxHeartbeats 1600000 in
theorem to_evs (v : Value) (l : List Ev) (fp : List Nat) (hs : sm_evs l) (w : World) (g : SlR 3 evR w l v fp) :
    Calls Try.prog 32 #[v] w fun e w' => ∃ v' fp', e = .returned v' ∧ SlR 3 evR w' l v' fp' ∧ New fp' w w' ∧ Below w.heap.size w w' := by
  obtain ⟨a, n, cap, rfl, hn, hcap, hmax, hcm, r⟩ := g.opened
  have hns : n ≤ 1048576 := by rw [← hn.out]; exact hs
  clear g hs
  obtain ⟨i0, hi, hz0, hz1, hz2⟩ := info_parts info_evs
  go_enter Try.func32, Try.ntmps32
  go_wp2_with (at_make; refine wpList_make_full _ rfl _ _ 53 rfl w.heap.size 39 i0 (.agg #[.int .i64 0, .int .i64 0, .int .i64 0]) 3 Try.underlying53 hi hz0 hz1 _ _ _ _ n rfl rfl rfl rfl (by rw [hz2]; omega) (by unfold maxLen; omega) (Nat.le_refl _) ?_; intro w1 hown hgr)
  go_loopw [4] (fun i wr => ∃ k : Nat, k ≤ n ∧ i = .int .i64 k ∧ Part 3 evR 39 w.heap.size n wr l k ∧ Below w.heap.size w wr) (fun i _ => n - (intOf i).toNat)
  case atStart => exact ⟨0, Nat.zero_le _, rfl, Part.start hown, (Below.refl _ _).grown hgr (Nat.le_refl _) (fun k hk => by simp at hk)⟩
  case round =>
    clear hown hgr
    obtain ⟨k, hk, rfl, hpt, hb⟩ := hrel
    have HP := Lib.hid hpt
    have HB := Lib.hid hb
    clear hpt
    by_cases hlt : k < n
    · obtain ⟨i1, b1, o1, xf, cs, rfl, hb1, _, _, ⟨rfl, rfl⟩, e1⟩ := r k hlt
      have c0 := (hb.cell (p := ⟨b1, o1 + k * 3 + 0, none⟩) hb1).trans (e1 0 (by simp))
      have c1 := (hb.cell (p := ⟨b1, o1 + k * 3 + 1, none⟩) hb1).trans (e1 1 (by simp))
      have c2 := (hb.cell (p := ⟨b1, o1 + k * 3 + 2, none⟩) hb1).trans (e1 2 (by simp))
      simp only [Nat.add_zero, List.getElem_cons_zero, List.getElem_cons_succ] at c0 c1 c2
      clear r e1 hb 
      go_wp2_with fail
      refine (to_Ev l[k] _).mono ?_
      rintro e w2 ⟨rfl, b2⟩
      have HR := Lib.hid (show evR w2 l[k] [.int .i64 l[k].kind, .int .i64 l[k].who, .int .i64 l[k].n] [] from ⟨rfl, rfl⟩)
      have HN := Lib.hid (New.nil wr w2)
      have HB2 := Lib.hid (HB.out.trans (b2.mono HB.out.size))
      have B2 := Lib.hid b2
      have hP2 := HP.out.below evR_fits (by rw [hn.out]; omega) b2
      obtain ⟨x0, d0⟩ := hP2.there (k * 3 + 0) (by omega)
      obtain ⟨x1, d1⟩ := hP2.there (k * 3 + 1) (by omega)
      obtain ⟨x2, d2⟩ := hP2.there (k * 3 + 2) (by omega)
      have f0 := hP2.free (k * 3 + 0)
      have f1 := hP2.free (k * 3 + 1)
      have f2 := hP2.free (k * 3 + 2)
      simp only [Nat.add_zero] at d0 f0
      clear b2 hP2  c0 c1 c2
      go_wp2
      go_roundw
      case rel => exact ⟨k + 1, by omega, by go_num, (by have h := HP.out.step evR_fits hn.out i1 B2.out HR.out HN.out; (try simp only [Nat.mul_one] at h); exact h), (by have h := putCells_below (g := w.heap.size) (Nat.le_refl _) [.int .i64 l[k].kind, .int .i64 l[k].who, .int .i64 l[k].n] _ (k * 3) HB2.out; (try simp only [Nat.mul_one] at h); exact h)⟩
      case measure => simp [intOf]; omega
    · obtain rfl : k = n := by omega
      obtain ⟨fp', g1, n1⟩ := HP.out.done evR_fits (w0 := w) hn.out (by unfold maxLen; omega) (Nat.le_refl _)
      have HG1 := Lib.hid g1
      have HN1 := Lib.hid n1
      clear r hb g1 n1
      go_wp2
      go_ret
      exact ⟨_, fp', rfl, HG1.out, HN1.out, HB.out⟩


end Go.Proofs.Ytmmojgopeaelcaa
