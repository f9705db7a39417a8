/-
 Texts of this claim laid together: CrAtm Loose OrdN.
-/
import Derived.Test.YtmcjklicepaiaaaProg
import Derived.Test.YtmcjklicepaiaaaPk34
import Derived.Test.YtmcjklicepaiaaaPk39
import Derived.Test.YtmcjklicepaiaaaPk06
set_option linter.unusedVariables false
set_option linter.unusedSimpArgs false
namespace Go.Proofs.Ytmcjklicepaiaaa
open Go.RowKit Go.ChangeShapes Go.WideShapes
set_option maxRecDepth 100000 in
set_option maxHeartbeats 1600000 in
theorem crAtm_same (x : Atm) (v1 u1 v2 u2 : Value) (f1 h1 f2 h2 : List Nat) (w : World) (g1 : SlR 1 intR w x.mem v1 f1) (k1 : SlR 1 intR w x.holds u1 h1) (g2 : SlR 1 intR w x.mem v2 f2) (k2 : SlR 1 intR w x.holds u2 h2) :
 Calls Try.prog 41 #[.agg #[v1, u1], .agg #[v2, u2]] w fun e w' => e = .returned (.bool true) ∧ Below w.heap.size w w' := by
 obtain ⟨a1, n1, c1, rfl⟩ := g1.form
 obtain ⟨a2, n2, c2, rfl⟩ := g2.form
 obtain ⟨d1, m1, e1, rfl⟩ := k1.form
 obtain ⟨d2, m2, e2, rfl⟩ := k2.form
 obtain ⟨w0, hw0⟩ : ∃ w0, w0 = (w.alloc (.cells #[.slice a1 n1 c1, .slice d1 m1 e1] 68)).alloc (.cells #[.slice a2 n2 c2, .slice d2 m2 e2] 68) := ⟨_, rfl⟩
 have hb0 : Below w.heap.size w w0 := by rw [hw0]; exact (below_alloc w _).trans ((below_alloc _ _).mono (by simp))
 have X0 : w0.cell? ⟨w.heap.size, 0, none⟩ = some (.slice a1 n1 c1) := by rw [hw0]; exact alloc_keep (alloc1_new _ _ _ 0 rfl) _
 have X1 : w0.cell? ⟨w.heap.size, 1, none⟩ = some (.slice d1 m1 e1) := by rw [hw0]; exact alloc_keep (alloc1_new _ _ _ 1 rfl) _
 have Y0 : w0.cell? ⟨w.heap.size + 1, 0, none⟩ = some (.slice a2 n2 c2) := by rw [hw0]; exact alloc2_new _ _ _ _ _ 0 rfl
 have Y1 : w0.cell? ⟨w.heap.size + 1, 1, none⟩ = some (.slice d2 m2 e2) := by rw [hw0]; exact alloc2_new _ _ _ _ _ 1 rfl
 have G1 := Lib.hid (SlR.below intR_fits g1 hb0)
 have G2 := Lib.hid (SlR.below intR_fits g2 hb0)
 have K1 := Lib.hid (SlR.below intR_fits k1 hb0)
 have K2 := Lib.hid (SlR.below intR_fits k2 hb0)
 have B := Lib.hid hb0
 clear g1 g2 k1 k2 hb0
 go_enter Try.func41, Try.ntmps41
 go_upto_region 1 with fail
 rw [<- hw0]
 clear hw0
 go_wp2_with fail
 refine (crInts_any _ _ _ _ f1 f2 _ G1.out G2.out).mono ?_
 rw [decide_eq_true rfl]
 rintro e w4 ⟨rfl, nd, hw4⟩
 have b4 : Below w0.heap.size w0 w4 := by subst hw4; exact below_drewN (Below.refl _ _) nd
 have B4 := Lib.hid (B.out.trans (b4.mono B.out.size))
 replace X1 := keep_cell b4 X1
 replace Y1 := keep_cell b4 Y1
 have K14 := Lib.hid (SlR.below intR_fits K1.out b4)
 have K24 := Lib.hid (SlR.below intR_fits K2.out b4)
 clear b4 hw4 X0 Y0 G1 G2 K1 K2 B
 go_wp2_with fail
 refine (crInts_any _ _ _ _ h1 h2 _ K14.out K24.out).mono ?_
 rw [decide_eq_true rfl]
 rintro e w5 ⟨rfl, nd, hw5⟩
 have b5 : Below w4.heap.size w4 w5 := by subst hw5; exact below_drewN (Below.refl _ _) nd
 have B5 := Lib.hid (B4.out.trans (b5.mono B4.out.size))
 clear b5 hw5 X1 Y1 K14 K24 B4
 go_wp2
 go_ret
 exact ⟨rfl, B5.out⟩
end Go.Proofs.Ytmcjklicepaiaaa
namespace Go.Proofs.Ytmcjklicepaiaaa
open Go.RowKit Go.WideShapes
variable {G : Gd} {L : List Nat} {T : Tab} {w w' : World}
def Bl.loose (x : Bl) : Bl := ⟨if x.k = 5 then 6 else x.k, x.lo, x.m, x.M⟩
def Tab.loose (T : Tab) : Tab := fun b => (T b).map Bl.loose
theorem kK_loose (x : Bl) : kK x.loose.k = kK x.k := by
 unfold Bl.loose
 dsimp only
 split
 · next h => rw [h]; rfl
 · rfl
theorem Tab.loose_some {b : Nat} {y : Bl} (h : T.loose b = some y) : ∃ x, T b = some x ∧ y = x.loose := by
 unfold Tab.loose at h
 cases e : T b with
 | none => rw [e] at h; cases h
 | some x => rw [e] at h; exact ⟨x, rfl, (Option.some.inj h).symm⟩
theorem Tab.loose_none {b : Nat} (h : T b = none) : T.loose b = none := by unfold Tab.loose; rw [h]; rfl
theorem Tab.loose_at {b : Nat} {x : Bl} (h : T b = some x) : T.loose b = some x.loose := by unfold Tab.loose; rw [h]; rfl
theorem Fz.loose {fp : List Nat} (h : Fz L T w fp) : Fz L T.loose w fp := fun b hb => ⟨Tab.loose_none (h b hb).1, (h b hb).2⟩
theorem SlA.loose {k : Nat} {a : Option Addr} {n cap : Nat} (h : SlA T k a n cap) (hk : k ≠ 5) : SlA T.loose k a n cap := by
 obtain ⟨h1, h2, h3 | ⟨b, o, x, e, h3, h4, h5, h6⟩⟩ := h
 · exact ⟨h1, h2, .inl h3⟩
 · exact ⟨h1, h2, .inr ⟨b, o, x.loose, e, Tab.loose_at h3, by (show (if x.k = 5 then 6 else x.k) = k; rw [h4, if_neg hk]), h5, h6⟩⟩
theorem SlA.loose5 {a : Option Addr} {n cap : Nat} (h : SlA T 5 a n cap) : SlA T.loose 6 a n cap := by
 obtain ⟨h1, h2, h3 | ⟨b, o, x, e, h3, h4, h5, h6⟩⟩ := h
 · exact ⟨h1, h2, .inl h3⟩
 · exact ⟨h1, h2, .inr ⟨b, o, x.loose, e, Tab.loose_at h3, by (show (if x.k = 5 then 6 else x.k) = 6; rw [if_pos h4]), h5, h6⟩⟩
theorem UnitOk.loose {x : Bl} {cs : List Value} (h : UnitOk G L T w x.k cs) : UnitOk G L T.loose w x.loose.k cs := by
 by_cases e : x.k = 5
 · rw [e] at h
   rw [show x.loose.k = 6 from if_pos e]
   obtain ⟨a, b, c, h, _⟩ := h
   exact ⟨a, b, c, h⟩
 · rw [show x.loose.k = x.k from if_neg e]
   generalize x.k = k at h e
   unfold UnitOk at h ⊢
   split at h
   · exact h
   · obtain ⟨y, fp, hR, hG, hF⟩ := h; exact ⟨y, fp, hR, hG, hF.loose⟩
   · obtain ⟨y, fp, hR, hG, hF⟩ := h; exact ⟨y, fp, hR, hG, hF.loose⟩
   · obtain ⟨a, n, cap, h1, hA, hn⟩ := h; exact ⟨a, n, cap, h1, hA.loose (by decide), hn⟩
   · exact absurd rfl e
   · exact h
   · exact h
theorem TH.loose (h : TH G L T w) : TH G L T.loose w := by
 refine ⟨fun b y hy => ?_, fun c hc => Tab.loose_none (h.rd c hc), h.old, fun b y hy => ?_, fun b y hy => ?_, fun b y hy => ?_, fun b y hy i hi => ?_⟩ <;> obtain ⟨x, hx, rfl⟩ := Tab.loose_some hy
 · exact h.lt b x hx
 · exact h.free b x hx
 · exact h.there b x hx
 · rw [kK_loose]; exact h.fit b x hx
 · obtain ⟨cs, h1, h2, h3⟩ := h.unit b x hx i hi
   refine ⟨cs, by rw [kK_loose]; exact h1, h2.loose, fun j hj => ?_⟩
   rw [kK_loose]
   exact h3 j hj
theorem Step.loose {fq : List Nat} {w0 : World} (h : Step fq (fun _ => none) w0 T w) : Step fq (fun _ => none) w0 T.loose w :=
 ⟨h.os, h.tape, h.output, h.size, h.block, fun b x e => (by cases e), fun b e hb => Tab.loose_none (h.fresh b e hb)⟩
theorem SlT.evs6 {a : Option Addr} {n cap : Nat} (h : SlT T 6 a n) (hT : TH G L T w) (hcap : n <= cap) (hcm : cap <= maxLen) : ∃ l fp, SlR 3 evR w l (.slice a n cap) fp := by
 obtain ⟨l, fp, h1, _⟩ := h.reads (R := evR) (Good := fun _ => True) hT hcap hcm (fun cs _ hU => by
  obtain ⟨a, b, c, rfl⟩ := hU
  exact ⟨⟨a, b, c⟩, [], ⟨rfl, rfl⟩, trivial⟩)
 exact ⟨l, fp, h1⟩
end Go.Proofs.Ytmcjklicepaiaaa
namespace Go.Proofs.Ytmcjklicepaiaaa
open Go.RowKit Go.ChangeShapes Go.WideShapes
def doneTo (c : Bus) (l : List Ev) (k : Nat) : Nat := (ordAll c (l.take k)).2.length
theorem doneTo_zero (c : Bus) (l : List Ev) : doneTo c l 0 = 0 := by unfold doneTo; rw [ordAll_zero]; rfl
theorem doneTo_all (c : Bus) (l : List Ev) {k : Nat} (h : l.length <= k) : doneTo c l k = (ordAll c l).2.length := by unfold doneTo; rw [List.take_of_length_le h]
theorem ordAll_jobs (c : Bus) {l : List Ev} {k : Nat} (h : k < l.length) : (ordAll c (l.take (k + 1))).2 = (ordAll c (l.take k)).2 ∨ (l[k].kind = 2 ∧ ∃ r, (ordAll c (l.take (k + 1))).2 = (ordAll c (l.take k)).2 ++ [⟨l[k].who, l[k].n, r⟩]) := by
 rw [ordAll_succ c h]
 unfold ordStep
 split
 · next q => exact .inr ⟨q.1, _, rfl⟩
 · exact .inl rfl
theorem ordAll_pre1 (c : Bus) {l : List Ev} {k : Nat} (h : k < l.length) : (ordAll c (l.take k)).2 <+: (ordAll c (l.take (k + 1))).2 := by
 rcases ordAll_jobs c h with e | ⟨_, r, e⟩
 · rw [e]; exact List.prefix_refl _
 · rw [e]; exact List.prefix_append _ _
theorem ordAll_preTo (c : Bus) (l : List Ev) (k : Nat) : ∀ j, k + j <= l.length -> (ordAll c (l.take k)).2 <+: (ordAll c (l.take (k + j))).2
 | 0, _ => List.prefix_refl _
 | j + 1, h => (ordAll_preTo c l k j (by omega)).trans (ordAll_pre1 c (k := k + j) (by omega))
theorem ordAll_pre (c : Bus) {l : List Ev} {k : Nat} (h : k <= l.length) : (ordAll c (l.take k)).2 <+: (ordAll c l).2 := by
 have := ordAll_preTo c l k (l.length - k) (by omega)
 rwa [show k + (l.length - k) = l.length by omega, List.take_of_length_le (Nat.le_refl _)] at this
theorem doneTo_go (c : Bus) {l : List Ev} {k m : Nat} (h : k < l.length) (hm : doneTo c l k <= m) : doneTo c l (k + 1) <= m + 1 := by
 unfold doneTo at hm ⊢
 rcases ordAll_jobs c h with e | ⟨_, r, e⟩
 · rw [e]; omega
 · rw [e, List.length_append]; simp; omega
theorem doneTo_stay (c : Bus) {l : List Ev} {k m : Nat} (h : k < l.length) (hm : doneTo c l k <= m) (hn : l[k].kind = 2 -> ∀ (h : m < (ordAll c l).2.length), (ordAll c l).2[m].who = l[k].who -> (ordAll c l).2[m].n = l[k].n -> False) : doneTo c l (k + 1) <= m := by
 unfold doneTo at hm ⊢
 rcases ordAll_jobs c h with e | ⟨hk, r, e⟩
 · rw [e]; exact hm
 · have hl : (ordAll c (l.take (k + 1))).2.length = (ordAll c (l.take k)).2.length + 1 := by rw [e]; simp
   rcases Nat.lt_or_ge (ordAll c (l.take k)).2.length m with h1 | h1
   · omega
   · have he : (ordAll c (l.take k)).2.length = m := by omega
     have hp := ordAll_pre c (show k + 1 <= l.length from h)
     have hlt : m < (ordAll c (l.take (k + 1))).2.length := by omega
     have hlt2 : m < (ordAll c l).2.length := Nat.lt_of_lt_of_le hlt hp.length_le
     have hg : (ordAll c l).2[m] = ⟨l[k].who, l[k].n, r⟩ := by
      rw [<- hp.getElem hlt]
      simp only [e]
      rw [List.getElem_append_right (by omega)]
      simp [he]
     exact (hn hk hlt2 (by rw [hg]) (by rw [hg])).elim
end Go.Proofs.Ytmcjklicepaiaaa
