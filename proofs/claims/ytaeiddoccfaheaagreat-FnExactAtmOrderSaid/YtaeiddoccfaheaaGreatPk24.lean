/-
 Texts of this claim laid together: Ev Draw Meet.
-/
import Derived.Test.YtaeiddoccfaheaaGreatProg
import Derived.Test.YtaeiddoccfaheaaGreatPk04
import Derived.Test.YtaeiddoccfaheaaGreatPk09
import Derived.OwnWalk
import Derived.KernelRfl
import Derived.WalkSmall
import Derived.Deep.QuietTactic
import Derived.BigQuiet
import Derived.StillTailTactics
import Derived.Test.YtaeiddoccfaheaaGreatPk22
import Derived.Test.YtaeiddoccfaheaaGreatPk23
import Derived.Test.YtaeiddoccfaheaaGreatPk12
import Derived.Test.YtaeiddoccfaheaaGreatPk13
import Derived.Deep.Cut
set_option linter.unusedVariables false
set_option linter.unusedSimpArgs false
namespace Go.Proofs.YtaeiddoccfaheaaGreat
open Go.RowKit Go.ChangeShapes
structure Ev where
 kind : Int
 who : Int
 n : Int
 deriving DecidableEq
def evR : Pr Ev := fun _ x cs fp => cs = [.int .i64 x.kind, .int .i64 x.who, .int .i64 x.n] ∧ fp = []
theorem evR_fits : Fits 3 evR := ⟨fun h => by rw [h.1]; rfl, fun h b hb => by rw [h.2] at hb; simp at hb, fun h _ _ => h⟩
set_option maxRecDepth 100000 in
theorem opens_Ev : Opens Tryz.prog 74 evR := fun {H enc w fuel cs x} h => by
 obtain ⟨xs, n, _, _, hl, hx, hf⟩ := DataW.trod_struct Tryz.underlying74 h
 have hk : Tryz.prog.cellsOf 74 = 3 := by kernel_rfl
 have k_int : Tryz.prog.cellsOf 3 = 1 := by kernel_rfl
 rw [hk] at hl
 have hx' : xs.length = 3 := hx
 match cs, hl with
 | [c0, c1, c2], _ =>
  obtain ⟨y0, _, e0, _⟩ := opens_int Tryz.underlying3 ((hf 0 _ rfl).trans (List.getElem?_eq_getElem (by omega)))
  obtain ⟨y1, _, e1, _⟩ := opens_int Tryz.underlying3 ((hf 1 _ rfl).trans (List.getElem?_eq_getElem (by omega)))
  obtain ⟨y2, _, e2, _⟩ := opens_int Tryz.underlying3 ((hf 2 _ rfl).trans (List.getElem?_eq_getElem (by omega)))
  simp [k_int] at e0 e1 e2
  subst e0
  subst e1
  subst e2
  exact ⟨⟨y0, y1, y2⟩, [], rfl, rfl⟩
set_option maxRecDepth 100000 in
set_option maxHeartbeats 3200000 in
theorem eq_Ev (x y : Ev) (w : World) :
 Calls Tryz.prog 41 #[.agg #[.int .i64 x.kind, .int .i64 x.who, .int .i64 x.n], .agg #[.int .i64 y.kind, .int .i64 y.who, .int .i64 y.n]] w fun e w' => e = .returned (.bool (decide (x = y))) ∧ Below w.heap.size w w' := by
 have hb : Below w.heap.size w ((w.alloc (.cells #[.int .i64 x.kind, .int .i64 x.who, .int .i64 x.n] 59)).alloc (.cells #[.int .i64 y.kind, .int .i64 y.who, .int .i64 y.n] 59)) := ((Below.refl _ _).alloc (Nat.le_refl _) _).alloc (by simp) _
 have B := Lib.hid hb
 have HD := Lib.hid (show decide (x = y) = (decide (x.kind = y.kind) && decide (x.who = y.who) && decide (x.n = y.n)) by cases x; cases y; simp [Bool.and_assoc])
 clear hb 
 cases e0 : decide (x.kind = y.kind)
 case' false =>
  have q0 : (x.kind != y.kind) = true := by simp [of_decide_eq_false e0]
  have E0 := Lib.hid e0
  clear e0
  go_enter Tryz.func41, Tryz.ntmps41
  go_wp2
  go_ret
  exact ⟨ret_bool (by rw [HD.out, E0.out]; simp), B.out⟩
 have q0 : (x.kind != y.kind) = false := by simp [of_decide_eq_true e0]
 have E0 := Lib.hid e0
 clear e0
 cases e1 : decide (x.who = y.who)
 case' false =>
  have q1 : (x.who != y.who) = true := by simp [of_decide_eq_false e1]
  have E1 := Lib.hid e1
  clear e1
  go_enter Tryz.func41, Tryz.ntmps41
  go_wp2
  go_ret
  exact ⟨ret_bool (by rw [HD.out, E0.out, E1.out]; simp), B.out⟩
 have q1 : (x.who != y.who) = false := by simp [of_decide_eq_true e1]
 have E1 := Lib.hid e1
 clear e1
 cases e2 : decide (x.n = y.n)
 case' false =>
  have q2 : (x.n != y.n) = true := by simp [of_decide_eq_false e2]
  have E2 := Lib.hid e2
  clear e2
  go_enter Tryz.func41, Tryz.ntmps41
  go_wp2
  go_ret
  exact ⟨ret_bool (by rw [HD.out, E0.out, E1.out, E2.out]; simp), B.out⟩
 have q2 : (x.n != y.n) = false := by simp [of_decide_eq_true e2]
 have E2 := Lib.hid e2
 clear e2
 go_enter Tryz.func41, Tryz.ntmps41
 go_wp2
 go_ret
 exact ⟨ret_bool (by rw [HD.out,E0.out, E1.out, E2.out]; rfl), B.out⟩
set_option maxRecDepth 100000 in
set_option maxHeartbeats 3200000 in
theorem to_Ev (x : Ev) (w : World) :
 Calls Tryz.prog 30 #[.agg #[.int .i64 x.kind, .int .i64 x.who, .int .i64 x.n]] w fun e w' => e = .returned (.agg #[.int .i64 x.kind, .int .i64 x.who, .int .i64 x.n]) ∧ Below w.heap.size w w' := by
 go_enter Tryz.func30, Tryz.ntmps30
 go_wp2
 exact bodyPost_ret (v := .agg #[.int .i64 x.kind, .int .i64 x.who, .int .i64 x.n]) (by simp [results, Tryz.results30, go_sem]) rfl ⟨rfl, below3 w _ _ _⟩
theorem opens_evs : Opens Tryz.prog 27 (slR 3 evR) :=
 opens_slice Tryz.underlying27 (by kernel_rfl) (by decide) opens_Ev evR_fits
def sm_evs (l : List Ev) : Prop := l.length <= 1048576
set_option maxRecDepth 100000 in
set_option maxHeartbeats 1600000 in
theorem sz_evs (v : Value) (l : List Ev) (fp : List Nat) (left : Int) (h0 : 0 <= left) (h1 : left <= 1048576) (w : World) (g : SlR 3 evR w l v fp) :
 Calls Tryz.prog 5 #[v, .int .i64 left] w (SzP left (sm_evs l) w) := by
 obtain ⟨a, n, cap, rfl, hn, hcap, hmax, hcm, r⟩ := g.opened
 have HN := Lib.hid hn
 clear g r hn
 by_cases h : left < n
 · go_enter Tryz.func5, Tryz.ntmps5
   go_wp2
   go_ret
   exact SzP.neg h0 (Below.refl _ _)
 · go_enter Tryz.func5, Tryz.ntmps5
   go_wp2
   go_ret
   exact SzP.pos (by omega) (show _ <= _ by rw [HN.out.out]; omega) (Below.refl _ _)
set_option maxRecDepth 100000 in
set_option maxHeartbeats 1600000 in
theorem eq_evs (v1 v2 : Value) (l1 l2 : List Ev) (fp1 fp2 : List Nat) (w : World) (g1 : SlR 3 evR w l1 v1 fp1) (g2 : SlR 3 evR w l2 v2 fp2) :
 Calls Tryz.prog 13 #[v1, v2] w fun e w' => e = .returned (.bool (decide (l1 = l2))) ∧ Below w.heap.size w w' := by
 obtain ⟨a1, n1, c1, rfl, hn1, k1, m1, _, r1⟩ := g1.opened
 obtain ⟨a2, n2, c2, rfl, hn2, k2, m2, _, r2⟩ := g2.opened
 clear g1 g2
 by_cases hL : n2 = n1
 · obtain rfl := hL
   go_enter Tryz.func13, Tryz.ntmps13
   go_wp2
   go_loopw [5] (fun i wr => ∃ k : Nat, k <= n2 ∧ i = .int .i64 k ∧ l1.take k = l2.take k ∧ Below w.heap.size w wr) (fun i _ => n2 - (intOf i).toNat)
   case atStart => exact ⟨0, Nat.zero_le _, rfl, rfl, Below.refl _ _⟩
   case round =>
    obtain ⟨k, hk, rfl, ht, hb⟩ := hrel
    have HT := Lib.hid ht
    have HB := Lib.hid hb
    clear ht
    by_cases hlt : k < n2
    · obtain ⟨i1, b1, o1, xf, cs1, rfl, hb1, _, _, ⟨rfl, rfl⟩, e1⟩ := r1 k hlt
      obtain ⟨i2, b2, o2, yf, cs2, rfl, hb2, _, _, ⟨rfl, rfl⟩, e2⟩ := r2 k hlt
      have c0 := (hb.cell (p := ⟨b1, o1 + k * 3 + 0, none⟩) hb1).trans (e1 0 (by simp))
      have c1 := (hb.cell (p := ⟨b1, o1 + k * 3 + 1, none⟩) hb1).trans (e1 1 (by simp))
      have c2 := (hb.cell (p := ⟨b1, o1 + k * 3 + 2, none⟩) hb1).trans (e1 2 (by simp))
      have d0 := (hb.cell (p := ⟨b2, o2 + k * 3 + 0, none⟩) hb2).trans (e2 0 (by simp))
      have d1 := (hb.cell (p := ⟨b2, o2 + k * 3 + 1, none⟩) hb2).trans (e2 1 (by simp))
      have d2 := (hb.cell (p := ⟨b2, o2 + k * 3 + 2, none⟩) hb2).trans (e2 2 (by simp))
      simp only [Nat.add_zero, List.getElem_cons_zero, List.getElem_cons_succ] at c0 d0 c1 d1 c2 d2
      have hbd := HB.out.trans (Below.refl _ wr).drew
      clear r1 r2 e1 e2 hb hbd 
      go_wp2_with fail
      go_still_tail 8, (by kernel_rfl)
      change wpList _ _ _ _ _ wr.drew
      clear c0 d0 c1 d1 c2 d2
      go_wp2_with fail
      refine (eq_Ev l1[k] l2[k]   _  ).mono ?_
      rintro e w2 ⟨rfl, b3⟩
      have HB2 := Lib.hid ((HB.out.trans (Below.refl _ _).drew).trans (b3.mono HB.out.size))
      clear b3
      cases hq : decide (l1[k] = l2[k])
      · have HQ := Lib.hid (of_decide_eq_false hq)
        clear hq
        go_wp2
        go_ret
        exact ⟨ret_bool (by simp; intro e; exact HQ.out (by simp [e])), HB2.out⟩
      · have HQ := Lib.hid (of_decide_eq_true hq)
        clear hq
        go_wp2
        go_roundw
        case rel => exact ⟨k + 1, by omega, by go_num, take_succ_eq HT.out i1 i2 HQ.out, HB2.out⟩
        case measure => simp [intOf]; omega
    · clear r1 r2 hb
      go_wp2
      go_ret
      exact ⟨ret_bool (by simp [take_all_eq HT.out hn1.out hn2.out (by omega)]), HB.out⟩
 · clear r1 r2
   have hne : l1 ≠ l2 := fun e => hL (by rw [<- hn1.out, <- hn2.out, e])
   have hq : ((n1 : Int) != n2) = true := by simp; omega
   go_enter Tryz.func13, Tryz.ntmps13
   go_wp2
   go_ret
   exact ⟨ret_bool (by simp [hne]), Below.refl _ _⟩
theorem info_evs : (Tryz.prog.info? 59).map (fun i => (i.zero, i.size, i.bytes)) = some (some (.agg #[.int .i64 0, .int .i64 0, .int .i64 0]), 3, 24) := by kernel_rfl
set_option maxRecDepth 100000 in
set_option maxHeartbeats 1600000 in
theorem to_evs (v : Value) (l : List Ev) (fp : List Nat) (hs : sm_evs l) (w : World) (g : SlR 3 evR w l v fp) :
 Calls Tryz.prog 8 #[v] w fun e w' => ∃ v' fp', e = .returned v' ∧ SlR 3 evR w' l v' fp' ∧ New fp' w w' ∧ Below w.heap.size w w' := by
 obtain ⟨a, n, cap, rfl, hn, hcap, hmax, hcm, r⟩ := g.opened
 have hns : n <= 1048576 := by rw [<- hn.out]; exact hs
 clear g hs
 obtain ⟨i0, hi, hz0, hz1, hz2⟩ := info_parts info_evs
 go_enter Tryz.func8, Tryz.ntmps8
 go_wp2_with (at_make; refine wpList_make_full _ rfl _ _ 42 rfl w.heap.size 59 i0 (.agg #[.int .i64 0, .int .i64 0, .int .i64 0]) 3 Tryz.underlying42 hi hz0 hz1 _ _ _ _ n rfl rfl rfl rfl (by rw [hz2]; omega) (by unfold maxLen; omega) (Nat.le_refl _) ?_; intro w1 hown hgr)
 go_loopw [4] (fun i wr => ∃ k : Nat, k <= n ∧ i = .int .i64 k ∧ Part 3 evR 59 w.heap.size n wr l k ∧ Below w.heap.size w wr) (fun i _ => n - (intOf i).toNat)
 case atStart => exact ⟨0, Nat.zero_le _, rfl, Part.start hown, (Below.refl _ _).grown hgr (Nat.le_refl _) (fun k hk => by simp at hk)⟩
 case round =>
  clear hown hgr
  obtain ⟨k, hk, rfl, hpt, hb⟩ := hrel
  have HP := Lib.hid hpt
  have HB := Lib.hid hb
  clear hpt
  by_cases hlt : k < n
  · obtain ⟨i1, b1, o1, xf, cs, rfl, hb1, _, _, ⟨rfl, rfl⟩, e1⟩ := r k hlt
    have c0 := (hb.cell (p := ⟨b1, o1 + k * 3 + 0, none⟩) hb1).trans (e1 0 (by simp))
    have c1 := (hb.cell (p := ⟨b1, o1 + k * 3 + 1, none⟩) hb1).trans (e1 1 (by simp))
    have c2 := (hb.cell (p := ⟨b1, o1 + k * 3 + 2, none⟩) hb1).trans (e1 2 (by simp))
    simp only [Nat.add_zero, List.getElem_cons_zero, List.getElem_cons_succ] at c0 c1 c2
    clear r e1 hb 
    go_wp2_with fail
    refine (to_Ev l[k] _).mono ?_
    rintro e w2 ⟨rfl, b2⟩
    have HR := Lib.hid (show evR w2 l[k] [.int .i64 l[k].kind, .int .i64 l[k].who, .int .i64 l[k].n] [] from ⟨rfl, rfl⟩)
    have HN := Lib.hid (New.nil wr w2)
    have HB2 := Lib.hid (HB.out.trans (b2.mono HB.out.size))
    have B2 := Lib.hid b2
    have hP2 := HP.out.below evR_fits (by rw [hn.out]; omega) b2
    obtain ⟨x0, d0⟩ := hP2.there (k * 3 + 0) (by omega)
    obtain ⟨x1, d1⟩ := hP2.there (k * 3 + 1) (by omega)
    obtain ⟨x2, d2⟩ := hP2.there (k * 3 + 2) (by omega)
    have f0 := hP2.free (k * 3 + 0)
    have f1 := hP2.free (k * 3 + 1)
    have f2 := hP2.free (k * 3 + 2)
    simp only [Nat.add_zero] at d0 f0
    clear b2 hP2  c0 c1 c2
    go_wp2
    go_roundw
    case rel => exact ⟨k + 1, by omega, by go_num, (by have h := HP.out.step evR_fits hn.out i1 B2.out HR.out HN.out; (try simp only [Nat.mul_one] at h); exact h), (by have h := putCells_below (g := w.heap.size) (Nat.le_refl _) [.int .i64 l[k].kind, .int .i64 l[k].who, .int .i64 l[k].n] _ (k * 3) HB2.out; (try simp only [Nat.mul_one] at h); exact h)⟩
    case measure => simp [intOf]; omega
  · obtain rfl : k = n := by omega
    obtain ⟨fp', g1, n1⟩ := HP.out.done evR_fits (w0 := w) hn.out (by unfold maxLen; omega) (Nat.le_refl _)
    have HG1 := Lib.hid g1
    have HN1 := Lib.hid n1
    clear r hb g1 n1
    go_wp2
    go_ret
    exact ⟨_, fp', rfl, HG1.out, HN1.out, HB.out⟩
end Go.Proofs.YtaeiddoccfaheaaGreat
namespace Go.Proofs.YtaeiddoccfaheaaGreat
open Go.RowKit Go.ChangeShapes
def byteR : Pr Int := fun _ x cs fp => cs = [.int .u8 x] ∧ 0 <= x ∧ x <= 255 ∧ fp = []
theorem byteR_fits : Fits 1 byteR := ⟨fun h => by rw [h.1]; rfl, fun h b hb => by rw [h.2.2.2] at hb; simp at hb, fun h _ _ => h⟩
abbrev ByteS := SlR 1 byteR
def RdAt (w : World) (rb : Nat) (fq : List Nat) (N : Int) : Prop :=
 ∃ (l : List Int) (v : Value) (p : Int), w.cell? ⟨rb, 0, none⟩ = some v ∧ ByteS w l v fq ∧ rb ∉ fq ∧ l.length <= 2000 ∧ w.cell? ⟨rb, 1, none⟩ = some (.int .i64 p) ∧ 0 <= p ∧ p <= N ∧ w.frozen? ⟨rb, 1, none⟩ = false
theorem RdAt.lt {w : World} {rb : Nat} {fq : List Nat} {N : Int} (h : RdAt w rb fq N) : rb < w.heap.size := by
 obtain ⟨l, v, p, h0, _⟩ := h
 exact block_of_cell h0
theorem RdAt.chg {w w' : World} {rb : Nat} {fq fp : List Nat} {N : Int} (h : RdAt w rb fq N) (hc : Chg fp w w') (h1 : rb ∉ fp) (h2 : ∀ b, b ∈ fq -> b ∉ fp) : RdAt w' rb fq N := by
 have hlt := h.lt
 obtain ⟨l, v, p, h0, hb, hn, hl, hp, p0, p1, hf⟩ := h
 exact ⟨l, v, p, keep_cell_chg hc h0 h1, hb.chg byteR_fits hc h2, hn, hl, keep_cell_chg hc hp h1, p0, p1, (World.frozen?_of_block (hc.block rb hlt h1)).trans hf⟩
theorem RdAt.below {w w' : World} {rb : Nat} {fq : List Nat} {N : Int} (h : RdAt w rb fq N) (hc : Below w.heap.size w w') : RdAt w' rb fq N :=
 h.chg (hc.chg []) (by simp) (fun _ _ => by simp)
theorem RdAt.mono {w : World} {rb : Nat} {fq : List Nat} {N M : Int} (h : RdAt w rb fq N) (hm : N <= M) : RdAt w rb fq M := by
 obtain ⟨l, v, p, h0, hb, hn, hl, hp, p0, p1, hf⟩ := h
 exact ⟨l, v, p, h0, hb, hn, hl, hp, p0, by omega, hf⟩
end Go.Proofs.YtaeiddoccfaheaaGreat
namespace Go.Proofs.YtaeiddoccfaheaaGreat
open Go.RowKit
theorem not_contains {m : List Int} {a : Int} (h : ∀ j (hj : j < m.length), a ≠ m[j]) : m.contains a = false := by
 rw [Bool.eq_false_iff]
 intro hc
 rw [List.contains_iff_mem] at hc
 obtain ⟨j, hj, e⟩ := List.mem_iff_getElem.1 hc
 exact h j hj e.symm
set_option maxRecDepth 100000 in
theorem index_int (v : Value) (l : List Int) (fp : List Nat) (x : Int) (w : World) (g : SlR 1 intR w l v fp) :
 Calls Tryz.prog 102 #[v, .int .i64 x] w fun e w' => ∃ z : Int, e = .returned (.int .i64 z) ∧ decide (0 <= z) = l.contains x ∧ w' = w := by
 obtain ⟨a, n, c, rfl, hn, hcap, hmax, hcm, r⟩ := IntS.opened g
 clear g
 go_enter Tryz.func102, Tryz.ntmps102
 go_wp2_with fail
 go_loopw [8] (fun i wr => ∃ k : Nat, k <= n ∧ i = .int .i64 k ∧ (∀ j (h : j < l.length), j < k -> x ≠ l[j]) ∧ wr = w) (fun i _ => n - (intOf i).toNat)
 case atStart => exact ⟨0, Nat.zero_le _, rfl, fun j _ h => absurd h (Nat.not_lt_zero j), rfl⟩
 case round =>
  obtain ⟨k, hk, rfl, hp, rfl⟩ := hrel
  have HP := Lib.hid hp
  clear hp
  by_cases hlt : k < n
  · obtain ⟨i1, b1, o1, rfl, hb1, _, e1⟩ := r k hlt
    clear r
    by_cases he : x = l[k]
    · have he' : (x == l[k]) = true := by simp [he]
      have HE := Lib.hid he
      clear he
      go_wp2
      go_ret
      exact ⟨_, rfl, by rw [decide_eq_true (by omega), HE.out]; simp, rfl⟩
    · have he' : (x == l[k]) = false := by simp [he]
      have HE := Lib.hid he
      clear he
      go_wp2
      go_roundw
      case rel => exact ⟨k + 1, by omega, by go_num, fun p h hp => (by
       by_cases e : p = k
       · subst e; exact HE.out
       · exact HP.out p h (by omega)), trivial⟩
      case measure => simp [intOf]; omega
  · clear r
    go_wp2
    go_ret
    exact ⟨_, rfl, by rw [not_contains fun j h => HP.out j h (by rw [hn.out] at h; omega)]; rfl, rfl⟩
theorem contains_int (v : Value) (l : List Int) (fp : List Nat) (x : Int) (w : World) (g : SlR 1 intR w l v fp) :
 Calls Tryz.prog 75 #[v, .int .i64 x] w fun e w' => e = .returned (.bool (l.contains x)) ∧ w' = w := by
 obtain ⟨a, n, c, rfl, _⟩ := g.form
 have G := Lib.hid g
 clear g
 go_enter Tryz.func75, Tryz.ntmps75
 go_wp2_with fail
 refine (index_int _ l fp x _ G.out).mono ?_
 rintro e w' ⟨z, rfl, hz, rfl⟩
 go_wp2
 go_ret
 exact ⟨ret_bool (by simp), rfl⟩
theorem isMaster_any (x : Int) (w : World) : Calls Tryz.prog 70 #[.int .i64 x] w fun e w' => e = .returned (.bool (inB x 0 2)) ∧ w = w' := by
 go_enter Tryz.func70, Tryz.ntmps70
 go_wp2_with fail
 refine (in_any _ _ _ _).mono ?_
 rintro e w' ⟨rfl, rfl⟩
 go_wp2
 go_ret
 exact ⟨rfl, rfl⟩
end Go.Proofs.YtaeiddoccfaheaaGreat
