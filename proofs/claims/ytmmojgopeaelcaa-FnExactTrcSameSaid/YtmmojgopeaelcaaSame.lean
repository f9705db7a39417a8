/-
  Whether two lists of what happens are the same but for the order of what is apart: the plain laws; equality of events; l9At, l9Once, l9All, traced.
-/
import Derived.Test.YtmmojgopeaelcaaTrcApart
import Derived.Test.YtmmojgopeaelcaaBApart
import Derived.Laws.StructEq
namespace Go.Proofs.Ytmmojgopeaelcaa
set_option linter.unusedVariables false
set_option linter.unusedSimpArgs false
open Go.RowKit Go.ChangeShapes

def evV (e : Ev) : Value := .agg #[.int .i64 e.kind, .int .i64 e.who, .int .i64 e.n]
def isEv (e x : Ev) : Bool := decide (x = e)
/-- where something stands; -1, if it does not -/
def evAt (l : List Ev) (e : Ev) : Int := idxOf (isEv e) l
/-- nothing twice -/
def onceB (l : List Ev) : Bool := decide (∀ k (h : k < l.length), evAt l l[k] = k)
def tracedB (c : Bus) (l : List Ev) : Bool := busOk c && (decide (l.length ≤ 200) && l.all (evOk c))
def orderB (c : Bus) (a b : List Ev) : Bool := decide (∀ k (h : k < a.length), 0 ≤ evAt b a[k] ∧ ∀ j (h' : j < a.length), j < k → apartB c a[j] a[k] = true ∨ evAt b a[j] ≤ evAt b a[k])
def trcSame (c : Bus) (a b : List Ev) : Bool := tracedB c a && (tracedB c b && (decide (a.length = b.length) && (onceB a && (onceB b && orderB c a b))))

theorem isEv_self (e : Ev) : isEv e e = true := by simp [isEv]
theorem evAt_lo (l : List Ev) (e : Ev) : -1 ≤ evAt l e := idxOf_lo _ _
theorem evAt_at {l : List Ev} {e : Ev} {k : Nat} (h : evAt l e = k) : ∃ hk : k < l.length, l[k] = e := by
  obtain ⟨h1, h2, _⟩ := idxOf_at (k := k) h
  exact ⟨h1, by simpa [isEv] using h2⟩
theorem evAt_mem {l : List Ev} {e : Ev} : 0 ≤ evAt l e ↔ e ∈ l := by
  have h := idxOf_any (isEv e) l
  rw [Bool.eq_iff_iff, decide_eq_true_iff] at h
  unfold evAt
  rw [h, List.any_eq_true]
  constructor
  · rintro ⟨x, hx, e1⟩
    have : x = e := by simpa [isEv] using e1
    exact this ▸ hx
  · intro hm
    exact ⟨e, hm, isEv_self e⟩
theorem evAt_le {l : List Ev} {k : Nat} (h : k < l.length) : evAt l l[k] ≤ k := by
  obtain ⟨i, hi⟩ := Int.eq_ofNat_of_zero_le (evAt_mem.2 (List.getElem_mem h))
  obtain ⟨h1, h2, h3⟩ := idxOf_at (p := isEv l[k]) (k := i) hi
  rw [hi]
  rcases Nat.lt_or_ge k i with h4 | h4
  · have := h3 k h h4
    rw [isEv_self] at this
    simp at this
  · omega
theorem once_nodup {l : List Ev} : onceB l = true ↔ l.Nodup := by
  unfold onceB
  rw [decide_eq_true_iff]
  constructor
  · intro h
    refine List.pairwise_iff_getElem.2 fun i j hi hj hij e => ?_
    have h1 := h j hj
    have h2 := evAt_le hi
    rw [e, h1] at h2
    omega
  · intro h k hk
    obtain ⟨i, hi⟩ := Int.eq_ofNat_of_zero_le (evAt_mem.2 (List.getElem_mem hk))
    obtain ⟨h1, h2⟩ := evAt_at hi
    rw [hi]
    rcases Nat.lt_trichotomy i k with h3 | h3 | h3
    · exact absurd h2 (List.pairwise_iff_getElem.1 h i k h1 hk h3)
    · rw [h3]
    · exact absurd h2.symm (List.pairwise_iff_getElem.1 h k i hk h1 h3)
theorem once_no {l : List Ev} {k : Nat} (h : k < l.length) (hne : evAt l l[k] ≠ k) : onceB l = false := by
  unfold onceB
  exact decide_eq_false fun h' => hne (h' k h)

theorem ev_eq (a b : Ev) (w : World) : (binOp .eql 39 (.agg #[.int .i64 a.kind, .int .i64 a.who, .int .i64 a.n]) (.agg #[.int .i64 b.kind, .int .i64 b.who, .int .i64 b.n])).run Try.prog w = .ok (.bool (decide (a = b))) w := by
  have u3 := Try.underlying3
  have a3 := Try.isAgg3
  have z3 := Try.sizeOf3
  have hS : Try.prog.underlying 39 = some (.struct (Try.prog.fieldsOf 39)) := by kernel_rfl
  have hp : Try.prog.stoodInHeld 39 = false := by kernel_rfl
  rw [run_eql_struct, show (10000 : Nat) = 9999 + 1 from rfl, run_equalIn_agg w 9999 39 _ _ hS hp]
  simp only [Program.fieldsOf, Try.underlying39]
  go_simp
  obtain ⟨a1, a2, a3⟩ := a
  obtain ⟨b1, b2, b3⟩ := b
  by_cases h1 : a1 = b1 <;> by_cases h2 : a2 = b2 <;> by_cases h3 : a3 = b3 <;> simp [h1, h2, h3]

set_option maxRecDepth 100000 in
set_option maxHeartbeats 1600000 in
theorem l9At_any (v : Value) (l : List Ev) (fp : List Nat) (e : Ev) (w : World) (g : SlR 3 evR w l v fp) :
    Calls Try.prog 96 #[v, .agg #[.int .i64 e.kind, .int .i64 e.who, .int .i64 e.n]] w fun e' w' => e' = .returned (.int .i64 (evAt l e)) ∧ Below w.heap.size w w' := by
  obtain ⟨a, n, cap, rfl, hn, hcap, hmax, hcm, r⟩ := g.opened
  have hb := below_alloc w (.cells #[.int .i64 e.kind, .int .i64 e.who, .int .i64 e.n] 39)
  have X0 : (w.alloc (.cells #[.int .i64 e.kind, .int .i64 e.who, .int .i64 e.n] 39)).cell? ⟨w.heap.size, 0, none⟩ = some (.int .i64 e.kind) := alloc1_new _ _ _ 0 rfl
  have X1 : (w.alloc (.cells #[.int .i64 e.kind, .int .i64 e.who, .int .i64 e.n] 39)).cell? ⟨w.heap.size, 1, none⟩ = some (.int .i64 e.who) := alloc1_new _ _ _ 1 rfl
  have X2 : (w.alloc (.cells #[.int .i64 e.kind, .int .i64 e.who, .int .i64 e.n] 39)).cell? ⟨w.heap.size, 2, none⟩ = some (.int .i64 e.n) := alloc1_new _ _ _ 2 rfl
  have B := Lib.hid hb
  clear g hb
  go_enter Try.func96, Try.ntmps96
  go_wp2_with fail
  generalize w.alloc (.cells #[.int .i64 e.kind, .int .i64 e.who, .int .i64 e.n] 39) = w0 at *
  go_loopw [5] (fun i wr => ∃ k : Nat, k ≤ n ∧ i = .int .i64 k ∧ (∀ j (h : j < l.length), j < k → isEv e l[j] = false) ∧ Below w0.heap.size w0 wr) (fun i _ => n - (intOf i).toNat)
  case atStart => exact ⟨0, Nat.zero_le _, rfl, fun j _ h => absurd h (Nat.not_lt_zero j), Below.refl _ _⟩
  case round =>
    obtain ⟨k, hk, rfl, hp, hbel⟩ := hrel
    have HP := Lib.hid hp
    have HB := Lib.hid hbel
    clear hp
    by_cases hlt : k < n
    · obtain ⟨i1, b1, o1, f1, cs, rfl, hb1, _, _, ⟨rfl, rfl⟩, e1⟩ := r k hlt
      have bw := B.out.trans (hbel.mono B.out.size)
      have c0 := keep_cell bw (e1 0 (by simp))
      have c1 := keep_cell bw (e1 1 (by simp))
      have c2 := keep_cell bw (e1 2 (by simp))
      simp only [Nat.add_zero, List.getElem_cons_zero, List.getElem_cons_succ] at c0 c1 c2
      have x0 := keep_cell hbel X0
      have x1 := keep_cell hbel X1
      have x2 := keep_cell hbel X2
      have hE := ev_eq l[k] e
      have hD : decide (l[k] = e) = isEv e l[k] := rfl
      rw [hD] at hE
      have HE := Lib.hid hE
      clear r e1 hbel bw X0 X1 X2 hE hD
      go_wp2_with fail
      have hst : ∀ F, F ∈ [FEq (.slice (some ⟨b1, o1, none⟩) n cap), FEq (.int .i64 (k : Int)), FEq (.pointer (some ⟨b1, o1 + k * 3, none⟩)), FEq (.agg #[.int .i64 l[k].kind, .int .i64 l[k].who, .int .i64 l[k].n]), FEq (.agg #[.int .i64 e.kind, .int .i64 e.who, .int .i64 e.n])] → Stable [] F := by
        simp only [List.forall_mem_cons]
        exact ⟨stEq _ _, stEq _ _, stEq _ _, stEq _ _, stEq _ _, fun _ h => by simp at h⟩
      refine wp_region_tail (by kernel_rfl) (fun i => ([[], [], [0, 1], [0, 1, 2], [], [0, 1, 2, 3, 4]] : List (List Nat)).getD i []) (facts [FEq (.slice (some ⟨b1, o1, none⟩) n cap), FEq (.int .i64 (k : Int)), FEq (.pointer (some ⟨b1, o1 + k * 3, none⟩)), FEq (.agg #[.int .i64 l[k].kind, .int .i64 l[k].who, .int .i64 l[k].n]), FEq (.agg #[.int .i64 e.kind, .int .i64 e.who, .int .i64 e.n])]) (fun m w' => Below wr.heap.size wr w') 19 6 5 [some 12, some 13, some 14, some 15, some 16] _ rfl rfl (by decide) rfl rfl (by kernel_rfl) (by kernel_rfl) [] (by kernel_rfl) (fun g b hm v w h => by simp at hm) ?h0 (all_lt (n := 5) ?hop) ?hend
      case h0 => exact (Below.refl _ _).drew
      case hop =>
        refine ⟨⟨⟨⟨⟨trivial, ?_⟩, ?_⟩, ?_⟩, ?_⟩, ?_⟩
        · refine Owes.mk _ rfl rfl (fun _ _ h => by cases h) fun u m w' hm hI hR => ⟨⟨#[.slice (some ⟨b1, o1, none⟩) n cap, undef, undef, undef, undef, undef, undef, undef, undef, undef, undef, undef, undef, undef, undef, undef, undef, undef, undef], []⟩, rfl, fun d hd => by cases hd; exact (by decide : 12 < 19), ?_⟩
          have k0 := keep_cell hI c0
          have k1 := keep_cell hI c1
          have k2 := keep_cell hI c2
          have k3 := keep_cell hI x0
          have k4 := keep_cell hI x1
          have k5 := keep_cell hI x2
          have HI := Lib.hid hI
          clear hI hst hR
          go_wp2
          exact ⟨rfl, _, rfl, rfl, HI.out, fun _ _ h => h⟩
        · refine Owes.mk _ rfl rfl (fun _ _ h => by cases h) fun u m w' hm hI hR => ⟨⟨#[undef, undef, undef, undef, undef, .int .i64 (k : Int), undef, undef, undef, undef, undef, undef, undef, undef, undef, undef, undef, undef, undef], []⟩, rfl, fun d hd => by cases hd; exact (by decide : 13 < 19), ?_⟩
          have k0 := keep_cell hI c0
          have k1 := keep_cell hI c1
          have k2 := keep_cell hI c2
          have k3 := keep_cell hI x0
          have k4 := keep_cell hI x1
          have k5 := keep_cell hI x2
          have HI := Lib.hid hI
          clear hI hst hR
          go_wp2
          exact ⟨rfl, _, rfl, rfl, HI.out, fun _ _ h => h⟩
        · refine Owes.mk _ rfl rfl (fun _ _ h => by cases h) fun u m w' hm hI hR => ⟨⟨#[undef, undef, undef, undef, undef, undef, undef, undef, undef, undef, undef, undef, u 0, u 1, undef, undef, undef, undef, undef], []⟩, rfl, fun d hd => by cases hd; exact (by decide : 14 < 19), ?_⟩
          have e0 : u 0 = _ := hR 0 (by decide)
          have e1 : u 1 = _ := hR 1 (by decide)
          have k0 := keep_cell hI c0
          have k1 := keep_cell hI c1
          have k2 := keep_cell hI c2
          have k3 := keep_cell hI x0
          have k4 := keep_cell hI x1
          have k5 := keep_cell hI x2
          have HI := Lib.hid hI
          clear hI hst hR
          rw [e0, e1]
          clear e0 e1
          go_wp2
          exact ⟨rfl, _, rfl, rfl, HI.out, fun _ _ h => h⟩
        · refine Owes.mk _ rfl rfl (fun _ _ h => by cases h) fun u m w' hm hI hR => ⟨⟨#[undef, undef, undef, undef, undef, undef, undef, undef, undef, undef, undef, undef, undef, undef, u 2, undef, undef, undef, undef], []⟩, rfl, fun d hd => by cases hd; exact (by decide : 15 < 19), ?_⟩
          have e2 : u 2 = _ := hR 2 (by decide)
          have k0 := keep_cell hI c0
          have k1 := keep_cell hI c1
          have k2 := keep_cell hI c2
          have k3 := keep_cell hI x0
          have k4 := keep_cell hI x1
          have k5 := keep_cell hI x2
          have HI := Lib.hid hI
          clear hI hst hR
          rw [e2]
          clear e2
          go_wp2
          exact ⟨rfl, _, rfl, rfl, HI.out, fun _ _ h => h⟩
        · refine Owes.mk _ rfl rfl (fun _ _ h => by cases h) fun u m w' hm hI hR => ⟨⟨#[undef, undef, undef, .pointer (some ⟨w.heap.size, 0, none⟩), undef, undef, undef, undef, undef, undef, undef, undef, undef, undef, undef, undef, undef, undef, undef], []⟩, rfl, fun d hd => by cases hd; exact (by decide : 16 < 19), ?_⟩
          have k0 := keep_cell hI c0
          have k1 := keep_cell hI c1
          have k2 := keep_cell hI c2
          have k3 := keep_cell hI x0
          have k4 := keep_cell hI x1
          have k5 := keep_cell hI x2
          have HI := Lib.hid hI
          clear hI hst hR
          go_wp2
          exact ⟨rfl, _, rfl, rfl, HI.out, fun _ _ h => h⟩
      case hend =>
        intro u w' hI hR
        simp only [setAll, List.set_cons_zero, List.set_cons_succ]
        have e3 : u 3 = _ := hR 3 (by decide)
        have e4 : u 4 = _ := hR 4 (by decide)
        have e1 : u 1 = _ := hR 1 (by decide)
        rw [e3, e4]
        have HB2 := Lib.hid (HB.out.trans (hI.mono HB.out.size))
        clear hR hst hI e3 e4 e1 c0 c1 c2 x0 x1 x2
        have hE := HE.out
        cases hq : isEv e l[k]
        · have HQ := Lib.hid hq
          rw [hq] at hE
          clear hq
          go_wp2
          go_roundw
          case rel => exact ⟨k + 1, by omega, by go_num, fun j h hj => (by
            by_cases e' : j = k
            · subst e'; exact HQ.out
            · exact HP.out j h (by omega)), HB2.out⟩
          case measure => simp [intOf]; omega
        · have HQ := Lib.hid hq
          rw [hq] at hE
          clear hq
          go_wp2
          go_ret
          exact ⟨ret_int (idxOf_hit i1 HQ.out (fun j h hj => HP.out j h hj)).symm, B.out.trans (HB2.out.mono B.out.size)⟩
    · clear r hbel
      go_wp2
      go_ret
      exact ⟨ret_int (idxOf_none (fun j h => HP.out j h (by rw [hn.out] at h; omega))).symm, B.out.trans (HB.out.mono B.out.size)⟩

set_option maxRecDepth 100000 in
set_option maxHeartbeats 1600000 in
theorem l9Once_any (v : Value) (l : List Ev) (fp : List Nat) (w : World) (g : SlR 3 evR w l v fp) :
    Calls Try.prog 95 #[v] w fun e' w' => e' = .returned (.bool (onceB l)) ∧ Below w.heap.size w w' := by
  obtain ⟨a, n, cap, rfl, hn, hcap, hmax, hcm, r⟩ := g.opened
  have G := Lib.hid g
  clear g
  go_enter Try.func95, Try.ntmps95
  go_wp2_with fail
  go_loopw [3] (fun i wr => ∃ k : Nat, k ≤ n ∧ i = .int .i64 k ∧ (∀ j (h : j < l.length), j < k → evAt l l[j] = j) ∧ Below w.heap.size w wr) (fun i _ => n - (intOf i).toNat)
  case atStart => exact ⟨0, Nat.zero_le _, rfl, fun j _ h => absurd h (Nat.not_lt_zero j), Below.refl _ _⟩
  case round =>
    obtain ⟨k, hk, rfl, hp, hbel⟩ := hrel
    have HP := Lib.hid hp
    have HB := Lib.hid hbel
    clear hp
    by_cases hlt : k < n
    · obtain ⟨i1, b1, o1, f1, cs, rfl, hb1, _, _, ⟨rfl, rfl⟩, e1⟩ := r k hlt
      have c0 := keep_cell hbel (e1 0 (by simp))
      have c1 := keep_cell hbel (e1 1 (by simp))
      have c2 := keep_cell hbel (e1 2 (by simp))
      simp only [Nat.add_zero, List.getElem_cons_zero, List.getElem_cons_succ] at c0 c1 c2
      have G1 := Lib.hid (SlR.below evR_fits G.out hbel)
      obtain ⟨z, hz⟩ : ∃ z, evAt l l[k] = z := ⟨_, rfl⟩
      have HZ := Lib.hid hz
      clear r e1 hbel hz
      by_cases hq : z = (k : Int)
      · have hq' : (z != (k : Int)) = false := by simp [hq]
        have HQ := Lib.hid hq
        clear hq
        go_wp2_with fail
        refine (l9At_any _ l fp l[k] _ G1.out).mono ?_
        rw [HZ.out]
        rintro e w2 ⟨rfl, b⟩
        have HB2 := Lib.hid (HB.out.trans (b.mono HB.out.size))
        clear b
        go_wp2
        go_roundw
        case rel => exact ⟨k + 1, by omega, by go_num, fun j h hj => (by
          by_cases e' : j = k
          · subst e'; rw [HZ.out, HQ.out]
          · exact HP.out j h (by omega)), HB2.out⟩
        case measure => simp [intOf]; omega
      · have hq' : (z != (k : Int)) = true := by simp [hq]
        have HQ := Lib.hid hq
        clear hq
        go_wp2_with fail
        refine (l9At_any _ l fp l[k] _ G1.out).mono ?_
        rw [HZ.out]
        rintro e w2 ⟨rfl, b⟩
        have HB2 := Lib.hid (HB.out.trans (b.mono HB.out.size))
        clear b
        go_wp2
        go_ret
        exact ⟨ret_bool (once_no i1 (by rw [HZ.out]; exact HQ.out)).symm, HB2.out⟩
    · clear r hbel
      go_wp2
      go_ret
      exact ⟨ret_bool (by unfold onceB; exact (decide_eq_true fun j h => HP.out j h (by rw [hn.out] at h; omega)).symm), HB.out⟩

end Go.Proofs.Ytmmojgopeaelcaa
