/-
 Texts of this claim laid together: Lift Focus.
-/
import Derived.Test.YtaeiddoccfaheaaGreatRows
import Derived.Test.YtaeiddoccfaheaaGreatPk04
import Derived.WalkKit
import Derived.ProofKit
import Derived.OpenShut
import Derived.Test.YtaeiddoccfaheaaGreatPk14
set_option linter.unusedVariables false
set_option linter.unusedSimpArgs false
namespace Go.Proofs.YtaeiddoccfaheaaGreat
open Go.ChangeShapes Go.WideShapes Go.ChangeAt Go.RowKit
theorem own : ownKnob Tryz.prog.godebug = none := by kernel_rfl
theorem laidOut : laidOutB Tryz.prog = true := by kernel_rfl
end Go.Proofs.YtaeiddoccfaheaaGreat
namespace Go.Proofs.YtaeiddoccfaheaaGreat
open Go.RowKit
theorem flat_apart {fps : List (List Nat)} (h : fps.flatten.Nodup) {i j : Nat} (hi : i < fps.length) (hj : j < fps.length) (hne : j ≠ i) : ∀ b, b ∈ fps[j] -> b ∉ fps[i] := by
 have h1 : fps.flatten.Pairwise (· ≠ ·) := h
 rw [List.pairwise_flatten] at h1
 have h2 := List.pairwise_iff_getElem.1 h1.2
 intro b hb hb'
 rcases Nat.lt_or_gt_of_ne hne with h3 | h3
 · exact h2 j i hj hi h3 b hb b hb' rfl
 · exact h2 i j hi hj h3 b hb' b hb rfl
theorem flat_once {fps : List (List Nat)} (h : fps.flatten.Nodup) {i : Nat} (hi : i < fps.length) : fps[i].Nodup := by
 have h1 : fps.flatten.Pairwise (· ≠ ·) := h
 rw [List.pairwise_flatten] at h1
 exact h1.1 _ (List.getElem_mem hi)
theorem SlR.focus {α : Type} {K : Nat} {R : Pr α} (F : Fits K R) {w : World} {l : List α} {a : Option Addr} {n cap : Nat} {fp : List Nat} (h : SlR K R w l (.slice a n cap) fp) (hd : fp.Nodup) {i : Nat} (hi : i < n) :
 ∃ (hl : i < l.length) (b off : Nat) (f : List Nat) (cs : List Value), a = some ⟨b, off, none⟩ ∧ b ∈ fp ∧ b < w.heap.size ∧ b ∉ f ∧ f.Nodup ∧ (∀ c, c ∈ f -> c ∈ fp) ∧ R w l[i] cs f ∧ (∀ j (hj : j < cs.length), w.cell? ⟨b, off + i * K + j, none⟩ = some cs[j]) ∧
  ∀ (cs0 : List Value) (w2 : World) (x : α), cs0.length <= cs.length -> Chg f (putCells b w (off + i * K) cs0) w2 -> R w2 x (cs0 ++ cs.drop cs0.length) f -> Free fp w -> Free f w2 -> SlR K R w2 (l.set i x) (.slice a n cap) fp ∧ Chg fp w w2 ∧ Free fp w2 := by
 obtain ⟨a', n', cap', e, hn, hcap, hcm, ⟨rfl, rfl⟩ | ⟨b, off, fps, rfl, hb, rfl, hf, hc⟩⟩ := h
 · simp only [Value.slice.injEq] at e
   obtain ⟨_, rfl, _⟩ := e
   simp at hn
   omega
 · simp only [Value.slice.injEq] at e
   obtain ⟨rfl, rfl, rfl⟩ := e
   have hl : i < l.length := by omega
   have hif : i < fps.length := by omega
   obtain ⟨cs, hR, hcell⟩ := hc i hl hif
   have hbn : b ∉ fps.flatten := (List.nodup_cons.1 hd).1
   have hfl := (List.nodup_cons.1 hd).2
   have hbf : ∀ j (hj : j < fps.length), b ∉ fps[j] := fun j hj hm => hbn (List.mem_flatten.2 ⟨_, List.getElem_mem hj, hm⟩)
   have hlt : ∀ j (hj : j < fps.length), ∀ c, c ∈ fps[j] -> c < w.heap.size := fun j hj c hcm => by
    obtain ⟨cs', hR', _⟩ := hc j (by omega) hj
    exact F.lt hR' c hcm
   have hff : ∀ j (hj : j < fps.length), ∀ c, c ∈ fps[j] -> c ∈ b :: fps.flatten := fun j hj c hcm => List.mem_cons_of_mem _ (List.mem_flatten.2 ⟨_, List.getElem_mem hj, hcm⟩)
   refine ⟨hl, b, off, fps[i], cs, rfl, List.mem_cons_self .., hb, hbf i hif, flat_once hfl hif, hff i hif, hR, hcell, fun cs0 w2 x hlen hg hR2 hfr hfr2 => ?_⟩
   have hK := F.len hR
   have hcp : ∀ (q : Nat), w2.cell? ⟨b, q, none⟩ = (putCells b w (off + i * K) cs0).cell? ⟨b, q, none⟩ := fun q => World.cell?_of_block (hg.block b (by rw [putCells_size]; exact hb) (hbf i hif))
   have hcd : ∀ j (hj : j < fps.length), j ≠ i -> Same fps[j] w w2 := fun j hj hne c hcm => by
    rw [hg.block c (by rw [putCells_size]; exact hlt j hj c hcm) (flat_apart hfl hif hj hne c hcm), putCells_block (fun e => hbf j hj (by rw [<- e]; exact hcm))]
   have hsz : w.heap.size <= w2.heap.size := by have := hg.size; rw [putCells_size] at this; exact this
   have hchg : Chg (b :: fps.flatten) w w2 := (putCells_chg (List.mem_cons_self ..) _ _ _).trans' (hg.mono (hff i hif))
   refine ⟨⟨_, n, cap, rfl, by simpa using hn, hcap, hcm, .inr ⟨b, off, fps, rfl, by omega, rfl, by simpa using hf, fun j h h' => ?_⟩⟩, hchg, fun c hcm o => ?_⟩
   · have hj : j < l.length := by simpa using h
     by_cases hji : j = i
     · subst hji
       refine ⟨cs0 ++ cs.drop cs0.length, by simpa using hR2, fun q hq => ?_⟩
       have hq' : q < cs.length := by simp at hq; omega
       rw [hcp]
       by_cases hq0 : q < cs0.length
       · rw [putCells_in cs0 w (off + j * K) q hq0 (fun q' hq'' => ⟨_, hcell q' (by omega)⟩), List.getElem_append_left hq0]
       · rw [putCells_out _ _ _ _ (.inr (by omega)), hcell q hq', List.getElem_append_right (by omega)]
         simp [show cs0.length + (q - cs0.length) = q by omega]
     · obtain ⟨cs', hR', hcell'⟩ := hc j hj h'
       refine ⟨cs', ?_, fun q hq => ?_⟩
       · have := F.same hR' (hcd j h' hji) hsz
         rw [List.getElem_set_ne (Ne.symm hji)]
         exact this
       · have hl' := F.len hR'
         rw [hcp, putCells_out _ _ _ _ (by
          rcases Nat.lt_or_gt_of_ne hji with h1 | h1
          · left; have : (j + 1) * K <= i * K := Nat.mul_le_mul_right K (by omega); rw [Nat.succ_mul] at this; omega
          · right; have : (i + 1) * K <= j * K := Nat.mul_le_mul_right K (by omega); rw [Nat.succ_mul] at this; omega)]
         exact hcell' q hq
   · rcases List.mem_cons.1 hcm with rfl | hcm
     · have h1 : w2.frozen? ⟨c, o, none⟩ = (putCells c w (off + i * K) cs0).frozen? ⟨c, o, none⟩ := World.frozen?_of_block (hg.block c (by rw [putCells_size]; exact hb) (hbf i hif))
       rw [h1]
       exact putCells_free cs0 _ _ hfr c (List.mem_cons_self ..) o
     · obtain ⟨f, hfm, hcf⟩ := List.mem_flatten.1 hcm
       obtain ⟨j, hj, rfl⟩ := List.mem_iff_getElem.1 hfm
       by_cases hji : j = i
       · subst hji; exact hfr2 c hcf o
       · rw [World.frozen?_of_block (hcd j hj hji c hcf)]
         exact hfr c (List.mem_cons_of_mem _ hcm) o
/-! ### Lists that are marked element by element -/
def cntL {α : Type} (cn : α -> Int) : List α -> Int
 | [] => 0
 | x :: xs => cn x + cntL cn xs
def mkL {α : Type} (mk : Int -> α -> α) (cn : α -> Int) : Int -> List α -> List α
 | _, [] => []
 | k, x :: xs => mk k x :: mkL mk cn (k + cn x) xs
def mixL {α : Type} (mk : Int -> α -> α) (cn : α -> Int) (k : Int) (l : List α) (j : Nat) : List α := mkL mk cn k (l.take j) ++ l.drop j
variable {α : Type} {mk : Int -> α -> α} {cn : α -> Int}
theorem mkL_len (l : List α) : ∀ k, (mkL mk cn k l).length = l.length := by
 induction l with
 | nil => intro k; rfl
 | cons x xs ih => intro k; simp [mkL, ih]
theorem cntL_app (l m : List α) : cntL cn (l ++ m) = cntL cn l + cntL cn m := by
 induction l with
 | nil => simp [cntL]
 | cons x xs ih => simp [cntL, ih, Int.add_assoc]
theorem mkL_app (l m : List α) : ∀ k, mkL mk cn k (l ++ m) = mkL mk cn k l ++ mkL mk cn (k + cntL cn l) m := by
 induction l with
 | nil => intro k; simp [mkL, cntL]
 | cons x xs ih => intro k; simp [mkL, cntL, ih, Int.add_assoc]
theorem cntL_next {l : List α} {j : Nat} (h : j < l.length) : cntL cn (l.take (j + 1)) = cntL cn (l.take j) + cn l[j] := by
 rw [List.take_succ_eq_append_getElem h, cntL_app]; simp [cntL]
theorem cntL_bound {M : Int} (l : List α) (h : ∀ x, x ∈ l -> 0 <= cn x ∧ cn x <= M) : 0 <= cntL cn l ∧ cntL cn l <= l.length * M := by
 induction l with
 | nil => simp [cntL]
 | cons x xs ih =>
  have h1 := h x (List.mem_cons_self ..)
  have h2 := ih fun y hy => h y (List.mem_cons_of_mem _ hy)
  refine ⟨by simp only [cntL]; omega, ?_⟩
  simp only [cntL, List.length_cons, Int.natCast_add, Int.natCast_one, Int.add_mul, Int.one_mul]
  omega
theorem cntL_small {M : Int} (hM : 0 <= M) (l : List α) (h : ∀ x, x ∈ l -> 0 <= cn x ∧ cn x <= M) (hl : l.length <= 1048576) : 0 <= cntL cn l ∧ cntL cn l <= 1048576 * M := by
 obtain ⟨h1, h2⟩ := cntL_bound l h
 refine ⟨h1, Int.le_trans h2 (Int.mul_le_mul_of_nonneg_right (by omega) hM)⟩
theorem mixL_zero (k : Int) (l : List α) : mixL mk cn k l 0 = l := by simp [mixL, mkL]
theorem mixL_all (k : Int) (l : List α) (j : Nat) (h : l.length = j) : mixL mk cn k l j = mkL mk cn k l := by subst h; simp [mixL]
theorem mixL_at (k : Int) (l : List α) (j : Nat) (h : j < l.length) (h' : j < (mixL mk cn k l j).length) : (mixL mk cn k l j)[j] = l[j] := by
 have e : (mixL mk cn k l j)[j]? = some l[j] := by
  unfold mixL
  rw [List.getElem?_append_right (by rw [mkL_len]; simp; omega), mkL_len]
  simp [Nat.min_eq_left (Nat.le_of_lt h), h]
 rw [List.getElem?_eq_getElem h'] at e
 exact Option.some.inj e
theorem mixL_set (k : Int) (l : List α) (j : Nat) (h : j < l.length) : (mixL mk cn k l j).set j (mk (k + cntL cn (l.take j)) l[j]) = mixL mk cn k l (j + 1) := by
 unfold mixL
 have hl : (mkL mk cn k (l.take j)).length = j := by rw [mkL_len]; simp; omega
 rw [List.set_append_right _ _ (by omega), hl, Nat.sub_self, List.drop_eq_getElem_cons h, List.set_cons_zero, List.take_succ_eq_append_getElem h, mkL_app, List.append_assoc]
 rfl
theorem mkL_at (l : List α) : ∀ (k : Int) (j : Nat) (h : j < l.length) (h' : j < (mkL mk cn k l).length), (mkL mk cn k l)[j] = mk (k + cntL cn (l.take j)) l[j] := by
 induction l with
 | nil => intro k j h; simp at h
 | cons x xs ih =>
  intro k j h h'
  cases j with
  | zero => simp [mkL, cntL]
  | succ j =>
   simp only [mkL, List.getElem_cons_succ, List.take_succ_cons, cntL]
   rw [ih _ _ (by simpa using h)]
   congr 1
   omega
end Go.Proofs.YtaeiddoccfaheaaGreat
