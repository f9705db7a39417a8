/-
 Texts of this claim laid together: MapOk.
-/
import Derived.Test.YtaeiddoccfaheaaGreatProg
import Derived.Test.YtaeiddoccfaheaaGreatPk04
import Derived.Test.YtaeiddoccfaheaaGreatPk05
import Derived.Deep.QuietTactic
import Derived.BigQuiet
import Derived.WalkSmall
set_option linter.unusedVariables false
set_option linter.unusedSimpArgs false
namespace Go.Proofs.YtaeiddoccfaheaaGreat
open Go.RowKit
def meets (r q : MR) : Bool := decide (q.fr <= r.to) && decide (r.fr <= q.to)
theorem mapOk1_any (cb : Nat) (r x : MR) (w : World) (h0 : w.cell? ⟨cb, 0, none⟩ = some (.int .i64 r.fr)) (h1 : w.cell? ⟨cb, 1, none⟩ = some (.int .i64 r.to)) :
 Calls Tryz.prog 92 #[.agg #[.int .i64 x.fr, .int .i64 x.to, .int .i64 x.sl, .bool x.only], .pointer (some ⟨cb, 0, none⟩)] w fun e w' => e = .returned (.bool (meets r x)) ∧ Below w.heap.size w w' := by
 have hlt : cb < w.heap.size := block_of_cell h0
 have HM : Hid (meets r x = (decide (x.fr <= r.to) && decide (r.fr <= x.to))) := Lib.hid rfl
 cases q0 : decide (x.fr <= r.to)
 all_goals cases q1 : decide (r.fr <= x.to)
 all_goals
  have H0 := Lib.hid q0
  have H1 := Lib.hid q1
  go_enter Tryz.func92, Tryz.ntmps92
  go_wp2
  go_ret
  exact ⟨ret_bool (by rw [HM.out, H0.out, H1.out]; rfl), below_alloc _ _⟩
theorem indexMeets (cb : Nat) (y : MR) (v : Value) (l : List MR) (fp : List Nat) (w : World) (hcap0 : w.cell? ⟨cb, 0, none⟩ = some (.int .i64 y.fr)) (hcap1 : w.cell? ⟨cb, 1, none⟩ = some (.int .i64 y.to)) (g : SlR 4 mrR w l v fp) :
 Calls Tryz.prog 106 #[v, .func (.func 92) #[] #[.pointer (some ⟨cb, 0, none⟩)]] w fun e w' => e = .returned (.int .i64 (idxOf (meets y) l)) ∧ Below w.heap.size w w' := by
 obtain ⟨a, n, c, rfl, hn, hcap, hmax, hcm, r⟩ := g.opened
 have G := Lib.hid g
 clear g
 go_enter Tryz.func106, Tryz.ntmps106
 go_wp2_with fail
 go_loopw [8] (fun i wr => ∃ k : Nat, k <= n ∧ i = .int .i64 k ∧ (∀ j (h : j < l.length), j < k -> (meets y) l[j] = false) ∧ Below w.heap.size w wr) (fun i _ => n - (intOf i).toNat)
 case atStart => exact ⟨0, Nat.zero_le _, rfl, fun j _ h => absurd h (Nat.not_lt_zero j), Below.refl _ _⟩
 case round =>
  obtain ⟨k, hk, rfl, hp, hb⟩ := hrel
  have HP := Lib.hid hp
  have HB := Lib.hid hb
  clear hp
  by_cases hlt : k < n
  · obtain ⟨i1, b1, o1, f1, cs, rfl, hb1, hbf, hff, hR, e1⟩ := r k hlt
    have HR := Lib.hid hR
    obtain ⟨rfl, rfl⟩ := hR
    have c0 := (hb.cell (p := ⟨b1, o1 + k * 4 + 0, none⟩) hb1).trans (e1 0 (by simp))
    have c1 := (hb.cell (p := ⟨b1, o1 + k * 4 + 1, none⟩) hb1).trans (e1 1 (by simp))
    have c2 := (hb.cell (p := ⟨b1, o1 + k * 4 + 2, none⟩) hb1).trans (e1 2 (by simp))
    have c3 := (hb.cell (p := ⟨b1, o1 + k * 4 + 3, none⟩) hb1).trans (e1 3 (by simp))
    simp only [Nat.add_zero, List.getElem_cons_zero, List.getElem_cons_succ] at c0 c1 c2 c3
    clear r e1 hb hbf hff
    have hk0 := keep_cell HB.out hcap0
    have hk1 := keep_cell HB.out hcap1
    go_wp2_with fail
    refine (mapOk1_any cb y l[k] _ hk0 hk1).mono ?_
    rintro e w2 ⟨rfl, b2⟩
    have HB2 := Lib.hid (HB.out.trans (b2.mono HB.out.size))
    clear b2 c0 c1 c2 c3
    cases hq : (meets y) l[k]
    · have HQ := Lib.hid hq
      clear hq
      go_wp2
      go_roundw
      case rel => exact ⟨k + 1, by omega, by go_num, fun j h hj => (by
       by_cases e : j = k
       · subst e; exact HQ.out
       · exact HP.out j h (by omega)), HB2.out⟩
      case measure => simp [intOf]; omega
    · have HQ := Lib.hid hq
      clear hq
      go_wp2
      go_ret
      exact ⟨ret_int (idxOf_hit i1 HQ.out (fun j h hj => HP.out j h hj)).symm, HB2.out⟩
  · clear r hb
    go_wp2
    go_ret
    exact ⟨ret_int (idxOf_none (fun j h => HP.out j h (by rw [hn.out] at h; omega))).symm, HB.out⟩
theorem containsMeets (cb : Nat) (y : MR) (v : Value) (l : List MR) (fp : List Nat) (w : World) (hcap0 : w.cell? ⟨cb, 0, none⟩ = some (.int .i64 y.fr)) (hcap1 : w.cell? ⟨cb, 1, none⟩ = some (.int .i64 y.to)) (g : SlR 4 mrR w l v fp) :
 Calls Tryz.prog 91 #[v, .func (.func 92) #[] #[.pointer (some ⟨cb, 0, none⟩)]] w fun e w' => e = .returned (.bool (l.any (meets y))) ∧ Below w.heap.size w w' := by
 go_enter Tryz.func91, Tryz.ntmps91
 go_wp2_with fail
 refine (indexMeets cb y v l fp _ hcap0 hcap1 g).mono ?_
 rintro e w' ⟨rfl, hb⟩
 have HB := Lib.hid hb
 clear hb
 cases hq : decide (0 <= idxOf (meets y) l)
 all_goals
  go_wp2
  go_ret
  exact ⟨ret_bool (by rw [<- idxOf_any, hq]), HB.out⟩
def rowOk (l : List MR) (k : Nat) (h : k < l.length) : Bool := inB l[k].fr 0 63 && (inB l[k].to l[k].fr 63 && (inB l[k].sl 0 2 && !(l.take k).any (meets l[k])))
def mapOk (l : List MR) : Bool := decide (l.length <= 4) && decide (∀ k (h : k < l.length), rowOk l k h = true)
theorem mapOk_no {l : List MR} {k : Nat} (h : k < l.length) (hr : rowOk l k h = false) : mapOk l = false := by
 unfold mapOk
 rw [decide_eq_false (p := ∀ k (h : k < l.length), rowOk l k h = true) (fun hh => by rw [hh k h] at hr; exact absurd hr (by simp))]
 simp
theorem mapOk_yes {l : List MR} (hr : ∀ k (h : k < l.length), rowOk l k h = true) : mapOk l = decide (l.length <= 4) := by
 unfold mapOk
 rw [decide_eq_true (p := ∀ k (h : k < l.length), rowOk l k h = true) hr]
 simp
set_option maxRecDepth 100000 in
set_option maxHeartbeats 1600000 in
theorem iMapOk_any (v : Value) (l : List MR) (fp : List Nat) (w : World) (g : SlR 4 mrR w l v fp) :
 Calls Tryz.prog 59 #[v] w fun e w' => e = .returned (.bool (mapOk l)) ∧ Below w.heap.size w w' := by
 obtain ⟨a, n, c, rfl, hn, hcap, hmax, hcm, r⟩ := g.opened
 have G := Lib.hid g
 clear g
 go_enter Tryz.func59, Tryz.ntmps59
 go_wp2_with fail
 go_loopw [7] (fun i wr => ∃ k : Nat, k <= n ∧ i = .int .i64 k ∧ (∀ j (h : j < l.length), j < k -> rowOk l j h = true) ∧ Below w.heap.size w wr) (fun i _ => n - (intOf i).toNat)
 case atStart => exact ⟨0, Nat.zero_le _, rfl, fun j _ h => absurd h (Nat.not_lt_zero j), Below.refl _ _⟩
 case round =>
  obtain ⟨k, hk, rfl, hp, hb⟩ := hrel
  have HP := Lib.hid hp
  have HB := Lib.hid hb
  clear hp
  by_cases hlt : k < n
  · obtain ⟨i1, b1, o1, f1, cs, rfl, hb1, _, _, ⟨rfl, rfl⟩, e1⟩ := r k hlt
    have c0 := (hb.cell (p := ⟨b1, o1 + k * 4 + 0, none⟩) hb1).trans (e1 0 (by simp))
    have c1 := (hb.cell (p := ⟨b1, o1 + k * 4 + 1, none⟩) hb1).trans (e1 1 (by simp))
    have c2 := (hb.cell (p := ⟨b1, o1 + k * 4 + 2, none⟩) hb1).trans (e1 2 (by simp))
    have c3 := (hb.cell (p := ⟨b1, o1 + k * 4 + 3, none⟩) hb1).trans (e1 3 (by simp))
    simp only [Nat.add_zero, List.getElem_cons_zero, List.getElem_cons_succ] at c0 c1 c2 c3
    clear r e1 hb
    have hba : Below w.heap.size w (wr.alloc (.cells #[.int .i64 l[k].fr, .int .i64 l[k].to, .int .i64 l[k].sl, .bool l[k].only] 97)) := HB.out.alloc HB.out.size _
    obtain ⟨fq, gq, _⟩ := (SlR.below mrR_fits G.out hba).take k hk
    have GQ := Lib.hid gq
    have HBa := Lib.hid hba
    have d0 := Lib.hid (alloc1_new wr #[.int .i64 l[k].fr, .int .i64 l[k].to, .int .i64 l[k].sl, .bool l[k].only] 97 0 rfl)
    have d1 := Lib.hid (alloc1_new wr #[.int .i64 l[k].fr, .int .i64 l[k].to, .int .i64 l[k].sl, .bool l[k].only] 97 1 rfl)
    clear hba gq
    cases p0 : inB l[k].fr 0 63
    · have P0 := Lib.hid p0
      clear p0
      go_wp2_with fail
      refine (in_any _ _ _ _).mono ?_
      rw [P0.out]
      rintro e w' ⟨rfl, rfl⟩
      go_wp2
      go_ret
      exact ⟨ret_bool (mapOk_no i1 (by unfold rowOk; rw [P0.out]; rfl)).symm, HBa.out⟩
    · have P0 := Lib.hid p0
      clear p0
      cases p1 : inB l[k].to l[k].fr 63
      · have P1 := Lib.hid p1
        clear p1
        go_wp2_with fail
        refine (in_any _ _ _ _).mono ?_
        rw [P0.out]
        rintro e w' ⟨rfl, rfl⟩
        go_wp2_with fail
        refine (in_any _ _ _ _).mono ?_
        rw [P1.out]
        rintro e w' ⟨rfl, rfl⟩
        go_wp2
        go_ret
        exact ⟨ret_bool (mapOk_no i1 (by unfold rowOk; rw [P0.out, P1.out]; rfl)).symm, HBa.out⟩
      · have P1 := Lib.hid p1
        clear p1
        cases p2 : inB l[k].sl 0 2
        · have P2 := Lib.hid p2
          clear p2
          go_wp2_with fail
          refine (in_any _ _ _ _).mono ?_
          rw [P0.out]
          rintro e w' ⟨rfl, rfl⟩
          go_wp2_with fail
          refine (in_any _ _ _ _).mono ?_
          rw [P1.out]
          rintro e w' ⟨rfl, rfl⟩
          go_wp2_with fail
          refine (in_any _ _ _ _).mono ?_
          rw [P2.out]
          rintro e w' ⟨rfl, rfl⟩
          go_wp2
          go_ret
          exact ⟨ret_bool (mapOk_no i1 (by unfold rowOk; rw [P0.out, P1.out, P2.out]; rfl)).symm, HBa.out⟩
        · have P2 := Lib.hid p2
          clear p2
          cases p3 : (l.take k).any (meets l[k])
          · have P3 := Lib.hid p3
            clear p3
            go_wp2_with fail
            refine (in_any _ _ _ _).mono ?_
            rw [P0.out]
            rintro e w' ⟨rfl, rfl⟩
            go_wp2_with fail
            refine (in_any _ _ _ _).mono ?_
            rw [P1.out]
            rintro e w' ⟨rfl, rfl⟩
            go_wp2_with fail
            refine (in_any _ _ _ _).mono ?_
            rw [P2.out]
            rintro e w' ⟨rfl, rfl⟩
            go_wp2_with fail
            refine (containsMeets _ l[k] _ (l.take k) fq _ d0.out d1.out GQ.out).mono ?_
            rw [P3.out]
            rintro e w2 ⟨rfl, b2⟩
            have HB2 := Lib.hid (HBa.out.trans (b2.mono HBa.out.size))
            clear b2
            go_wp2
            go_roundw
            case rel => exact ⟨k + 1, by omega, by go_num, fun j h hj => (by
             by_cases e : j = k
             · subst e; unfold rowOk; rw [P0.out, P1.out, P2.out, P3.out]; rfl
             · exact HP.out j h (by omega)), HB2.out⟩
            case measure => simp [intOf]; omega
          · have P3 := Lib.hid p3
            clear p3
            go_wp2_with fail
            refine (in_any _ _ _ _).mono ?_
            rw [P0.out]
            rintro e w' ⟨rfl, rfl⟩
            go_wp2_with fail
            refine (in_any _ _ _ _).mono ?_
            rw [P1.out]
            rintro e w' ⟨rfl, rfl⟩
            go_wp2_with fail
            refine (in_any _ _ _ _).mono ?_
            rw [P2.out]
            rintro e w' ⟨rfl, rfl⟩
            go_wp2_with fail
            refine (containsMeets _ l[k] _ (l.take k) fq _ d0.out d1.out GQ.out).mono ?_
            rw [P3.out]
            rintro e w2 ⟨rfl, b2⟩
            have HB2 := Lib.hid (HBa.out.trans (b2.mono HBa.out.size))
            clear b2
            go_wp2
            go_ret
            exact ⟨ret_bool (mapOk_no i1 (by unfold rowOk; rw [P0.out, P1.out, P2.out, P3.out]; rfl)).symm, HB2.out⟩
  · clear r hb
    go_wp2
    go_ret
    exact ⟨ret_bool (by rw [mapOk_yes (fun j h => HP.out j h (by rw [hn.out] at h; omega)), hn.out]; exact decide_eq_decide.2 (by omega)), HB.out⟩
theorem rowOk_spec {l : List MR} {k : Nat} (h : k < l.length) : rowOk l k h = (inB l[k].fr 0 l[k].to && (!decide (63 < l[k].to) && (inB l[k].sl 0 2 && !(l.take k).any (meets l[k])))) := by
 unfold rowOk inB
 rw [Bool.eq_iff_iff]
 simp only [Bool.and_eq_true, decide_eq_true_eq, Bool.not_eq_true', decide_eq_false_iff_not]
 constructor
 · rintro ⟨⟨h1, h2⟩, ⟨h3, h4⟩, h5⟩
   exact ⟨⟨h1, by omega⟩, by omega, h5⟩
 · rintro ⟨⟨h1, h2⟩, h3, h5⟩
   exact ⟨⟨h1, by omega⟩, ⟨by omega, by omega⟩, h5⟩
set_option maxRecDepth 100000 in
set_option maxHeartbeats 1600000 in
theorem sMapOk_any (v : Value) (l : List MR) (fp : List Nat) (w : World) (g : SlR 4 mrR w l v fp) :
 Calls Tryz.prog 49 #[v] w fun e w' => e = .returned (.bool (mapOk l)) ∧ Below w.heap.size w w' := by
 obtain ⟨a, n, c, rfl, hn, hcap, hmax, hcm, r⟩ := g.opened
 have G := Lib.hid g
 clear g
 by_cases h4 : 4 < n
 · clear r
   go_enter Tryz.func49, Tryz.ntmps49
   go_wp2
   go_ret
   exact ⟨ret_bool (by unfold mapOk; rw [decide_eq_false (p := l.length <= 4) (by rw [hn.out]; omega)]; rfl), Below.refl _ _⟩
 have h4' : decide (4 < (n : Int)) = false := decide_eq_false (by omega)
 go_enter Tryz.func49, Tryz.ntmps49
 go_wp2_with fail
 go_loopw [3] (fun i wr => ∃ k : Nat, k <= n ∧ i = .int .i64 k ∧ (∀ j (h : j < l.length), j < k -> rowOk l j h = true) ∧ Below w.heap.size w wr) (fun i _ => n - (intOf i).toNat)
 case atStart => exact ⟨0, Nat.zero_le _, rfl, fun j _ h => absurd h (Nat.not_lt_zero j), Below.refl _ _⟩
 case round =>
  obtain ⟨k, hk, rfl, hp, hb⟩ := hrel
  have HP := Lib.hid hp
  have HB := Lib.hid hb
  clear hp
  by_cases hlt : k < n
  · obtain ⟨i1, b1, o1, f1, cs, rfl, hb1, _, _, ⟨rfl, rfl⟩, e1⟩ := r k hlt
    have c0 := (hb.cell (p := ⟨b1, o1 + k * 4 + 0, none⟩) hb1).trans (e1 0 (by simp))
    have c1 := (hb.cell (p := ⟨b1, o1 + k * 4 + 1, none⟩) hb1).trans (e1 1 (by simp))
    have c2 := (hb.cell (p := ⟨b1, o1 + k * 4 + 2, none⟩) hb1).trans (e1 2 (by simp))
    have c3 := (hb.cell (p := ⟨b1, o1 + k * 4 + 3, none⟩) hb1).trans (e1 3 (by simp))
    simp only [Nat.add_zero, List.getElem_cons_zero, List.getElem_cons_succ] at c0 c1 c2 c3
    clear e1 hb
    have hba : Below w.heap.size w (wr.alloc (.cells #[.int .i64 l[k].fr, .int .i64 l[k].to, .int .i64 l[k].sl, .bool l[k].only] 97)) := HB.out.alloc HB.out.size _
    have HBa := Lib.hid hba
    have d0 := alloc1_new wr #[.int .i64 l[k].fr, .int .i64 l[k].to, .int .i64 l[k].sl, .bool l[k].only] 97 0 rfl
    have d1 := alloc1_new wr #[.int .i64 l[k].fr, .int .i64 l[k].to, .int .i64 l[k].sl, .bool l[k].only] 97 1 rfl
    clear hba d0 d1
    cases p0 : inB l[k].fr 0 l[k].to
    · have P0 := Lib.hid p0
      clear p0 r
      go_wp2_with fail
      refine (l1In_any _ _ _ _).mono ?_
      rw [P0.out]
      rintro e w' ⟨rfl, rfl⟩
      go_wp2
      go_ret
      exact ⟨ret_bool (mapOk_no i1 (by rw [rowOk_spec, P0.out]; rfl)).symm, HBa.out⟩
    have P0 := Lib.hid p0
    clear p0
    cases p1 : decide (63 < l[k].to)
    case' true =>
     have P1 := Lib.hid p1
     clear r
     go_wp2_with fail
     refine (l1In_any _ _ _ _).mono ?_
     rw [P0.out]
     rintro e w' ⟨rfl, rfl⟩
     go_wp2
     go_ret
     exact ⟨ret_bool (mapOk_no i1 (by rw [rowOk_spec, P0.out, P1.out]; rfl)).symm, HBa.out⟩
    have P1 := Lib.hid p1
    cases p2 : inB l[k].sl 0 2
    · have P2 := Lib.hid p2
      clear p2 r
      go_wp2_with fail
      refine (l1In_any _ _ _ _).mono ?_
      rw [P0.out]
      rintro e w' ⟨rfl, rfl⟩
      go_wp2_with fail
      refine (l1In_any _ _ _ _).mono ?_
      rw [P2.out]
      rintro e w' ⟨rfl, rfl⟩
      go_wp2
      go_ret
      exact ⟨ret_bool (mapOk_no i1 (by rw [rowOk_spec, P0.out, P1.out, P2.out]; rfl)).symm, HBa.out⟩
    have P2 := Lib.hid p2
    clear p2
    go_wp2_with fail
    refine (l1In_any _ _ _ _).mono ?_
    rw [P0.out]
    rintro e w' ⟨rfl, rfl⟩
    go_wp2_with fail
    refine (l1In_any _ _ _ _).mono ?_
    rw [P2.out]
    rintro e w' ⟨rfl, rfl⟩
    go_wp2_with fail
    obtain ⟨W, hW⟩ : ∃ W, W = wr.alloc (.cells #[.int .i64 l[k].fr, .int .i64 l[k].to, .int .i64 l[k].sl, .bool l[k].only] 97) := ⟨_, rfl⟩
    have x0 : W.cell? ⟨wr.heap.size, 0, none⟩ = some (.int .i64 l[k].fr) := by rw [hW]; exact alloc1_new wr _ _ 0 rfl
    have x1 : W.cell? ⟨wr.heap.size, 1, none⟩ = some (.int .i64 l[k].to) := by rw [hW]; exact alloc1_new wr _ _ 1 rfl
    have HBw : Hid (Below w.heap.size w W) := Lib.hid (by rw [hW]; exact HBa.out)
    rw [<- hW]
    clear hW HBa c0 c1 c2 c3
    go_loopw [5] (fun i wr2 => ∃ j : Nat, j <= k ∧ i = .int .i64 j ∧ (∀ q (h : q < l.length), q < j -> meets l[k] l[q] = false) ∧ ∃ m, wr2 = W.drewN m) (fun i _ => k - (intOf i).toNat)
    case atStart => exact ⟨0, Nat.zero_le _, rfl, fun j _ h => absurd h (Nat.not_lt_zero j), 0, rfl⟩
    case round =>
     obtain ⟨j, hj, rfl, hm, m, rfl⟩ := hrel
     have HM := Lib.hid hm
     clear hm
     by_cases hjk : j < k
     · obtain ⟨i2, b2, o2, f2, cs2, e2, hb2, _, _, ⟨rfl, rfl⟩, e3⟩ := r j (by omega)
       obtain ⟨rfl, rfl⟩ : b1 = b2 ∧ o1 = o2 := by simpa using e2
       have y0 := (HBw.out.cell (p := ⟨b1, o1 + j * 4 + 0, none⟩) hb1).trans (e3 0 (by simp))
       have y1 := (HBw.out.cell (p := ⟨b1, o1 + j * 4 + 1, none⟩) hb1).trans (e3 1 (by simp))
       simp only [Nat.add_zero, List.getElem_cons_zero, List.getElem_cons_succ] at y0 y1
       have hjn : (j : Int) < (n : Int) := by omega
       have HE : Hid (meets l[k] l[j] = (decide (l[j].fr <= l[k].to) && decide (l[k].fr <= l[j].to))) := Lib.hid rfl
       clear e3 e2 r
       cases t0 : decide (l[k].fr <= l[j].to)
       case' true =>
        cases t1 : decide (l[j].fr <= l[k].to)
        case' true =>
         have T0 := Lib.hid t0
         have T1 := Lib.hid t1
         go_wp2_with fail
         go_quiet (fail)
         go_wp2
         go_ret
         exact ⟨ret_bool (mapOk_no i1 (by
          rw [rowOk_spec, P0.out, P1.out, P2.out]
          have : (l.take k).any (meets l[k]) = true := List.any_eq_true.2 ⟨l[j], List.mem_take_iff_getElem.2 ⟨j, by omega, rfl⟩, by rw [HE.out, T0.out, T1.out]; rfl⟩
          rw [this]; rfl)).symm, by (try simp only [World.drewN_drewN]); exact below_drewN HBw.out _⟩
        have T1 := Lib.hid t1
       all_goals
        have T0 := Lib.hid t0
        go_wp2_with fail
        go_quiet (fail)
        go_wp2
        go_roundw
        case rel => exact ⟨j + 1, by omega, by go_num, fun q h hq => (by
         by_cases e : q = j
         · subst e; rw [HE.out]; first | rw [T1.out]; rfl | (rw [T0.out]; simp)
         · exact HM.out q h (by omega)), by (try simp only [World.drewN_drewN]); exact ⟨_, rfl⟩⟩
        case measure => simp [intOf]; omega
     · obtain rfl : j = k := by omega
       clear r
       go_wp2
       go_roundw
       case rel => exact ⟨j + 1, by omega, by go_num, fun q h hq => (by
        by_cases e : q = j
        · subst e
          rw [rowOk_spec, P0.out, P1.out, P2.out]
          have : (l.take q).any (meets l[q]) = false := by
           rw [List.any_eq_false]
           intro x hx
           obtain ⟨i, hi, rfl⟩ := List.getElem_of_mem hx
           rw [List.getElem_take]
           have := HM.out i (by simp at hi; omega) (by simp at hi; omega)
           simp [this]
          rw [this]; rfl
        · exact HP.out q h (by omega)), below_drewN HBw.out _⟩
       case measure => simp [intOf]; omega
  · clear r hb
    go_wp2
    go_ret
    exact ⟨ret_bool (by rw [mapOk_yes (fun j h => HP.out j h (by rw [hn.out] at h; omega)), hn.out]; exact (decide_eq_true (by omega)).symm), HB.out⟩
end Go.Proofs.YtaeiddoccfaheaaGreat
