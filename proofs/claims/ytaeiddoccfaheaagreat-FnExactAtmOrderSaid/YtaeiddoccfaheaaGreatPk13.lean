/-
 Texts of this claim laid together: Slave DoP.
-/
import Derived.Test.YtaeiddoccfaheaaGreatProg
import Derived.Test.YtaeiddoccfaheaaGreatPk04
import Derived.Test.YtaeiddoccfaheaaGreatPk05
import Derived.Test.YtaeiddoccfaheaaGreatPk06
import Derived.Test.YtaeiddoccfaheaaGreatPk11
import Derived.Test.YtaeiddoccfaheaaGreatPk12
import Derived.WalkSmall
import Derived.Test.YtaeiddoccfaheaaGreatPk07
set_option linter.unusedVariables false
set_option linter.unusedSimpArgs false
namespace Go.Proofs.YtaeiddoccfaheaaGreat
open Go.RowKit
def rix (l : List MR) (a : Int) : Int := idxOf (isIn a) l
theorem rix_lo (l : List MR) (a : Int) : -1 <= rix l a := idxOf_lo _ _
theorem rix_hi {l : List MR} {a : Int} (h : 0 <= rix l a) : (rix l a).toNat < l.length := by
 obtain ⟨k, hk⟩ := Int.eq_ofNat_of_zero_le h
 obtain ⟨h1, _⟩ := idxOf_at (k := k) hk
 rw [hk]; exact h1
def wholeIx (l : List MR) (ads : List Int) : Int := match ads with
 | [] => -1
 | a :: t => if t.all (fun b => rix l b == rix l a) then rix l a else -1
theorem wholeIx_all {l : List MR} {ads : List Int} {z : Int} (h : 0 < ads.length) (hz : ∀ j (hj : j < ads.length), rix l ads[j] = z) : wholeIx l ads = z := by
 match ads, h with
 | a :: t, _ =>
  have h0 : rix l a = z := hz 0 (by simp)
  dsimp only [wholeIx]
  rw [if_pos]
  · exact h0
  · rw [List.all_eq_true]
    intro b hb
    obtain ⟨j, hj, rfl⟩ := List.mem_iff_getElem.1 hb
    have := hz (j + 1) (by simp; omega)
    simp only [List.getElem_cons_succ] at this
    simp [this, h0]
theorem wholeIx_ne {l : List MR} {ads : List Int} {k : Nat} (hk : k < ads.length) (h : rix l ads[k] ≠ rix l (ads[0]'(by omega))) : wholeIx l ads = -1 := by
 match ads, hk with
 | a :: t, hk =>
  dsimp only [wholeIx]
  rw [if_neg]
  intro hh
  rw [List.all_eq_true] at hh
  cases k with
  | zero => exact h rfl
  | succ j =>
   simp only [List.getElem_cons_succ, List.getElem_cons_zero] at h
   have := hh (t[j]'(by simpa using hk)) (List.getElem_mem _)
   exact h (by simpa using this)
theorem wholeIx_neg {l : List MR} {ads : List Int} {k : Nat} (hk : k < ads.length) (h : rix l ads[k] < 0) : wholeIx l ads = -1 := by
 have h1 := rix_lo l ads[k]
 by_cases e : rix l ads[k] = rix l (ads[0]'(by omega))
 · cases ads with
   | nil => simp at hk
   | cons a t =>
    dsimp only [wholeIx]
    split
    · simp only [List.getElem_cons_zero] at e
      omega
    · rfl
 · exact wholeIx_ne hk e
theorem wholeIx_hi {l : List MR} {ads : List Int} (h : 0 <= wholeIx l ads) : (wholeIx l ads).toNat < l.length := by
 unfold wholeIx at *
 split at h
 · omega
 · split at h
   · rename_i hh
     rw [if_pos hh]; exact rix_hi h
   · omega
def burstOf (r : Req) : List Int := adrBurst r.addr r.many r.wrap
theorem adrBurst_len (a m : Int) (wr : Bool) : (adrBurst a m wr).length <= 4 := by
 unfold adrBurst
 split
 · rename_i h
   obtain ⟨_, _, hm, _⟩ := adrOk_true.1 h
   rw [burst_len]; omega
 · simp
theorem burst_any (r : Req) (v0 v1 : Value) (w : World) :
 Calls Tryz.prog 73 #[.agg #[.int .i64 r.id, .int .i64 r.kind, .int .i64 r.addr, .int .i64 r.many, .bool r.wrap, v0, v1]] w fun e w' => ∃ v fp, e = .returned v ∧ IntS w' (burstOf r) v fp ∧ New fp w w' ∧ Below w.heap.size w w' := by
 have HB := Lib.hid (below_alloc w (.cells #[.int .i64 r.id, .int .i64 r.kind, .int .i64 r.addr, .int .i64 r.many, .bool r.wrap, v0, v1] 67))
 go_enter Tryz.func73, Tryz.ntmps73
 go_wp2_with fail
 refine (iAdrBurst_any _ _ _ _).mono ?_
 rintro e w1 ⟨v, fp, rfl, g, n, b⟩
 obtain ⟨a, l, k, rfl⟩ := g.form
 have G := Lib.hid g
 have N := Lib.hid (New.mk (w := w) (fun b hb => by have := n.lo b hb; simp at this; omega) n.once n.free)
 have B := Lib.hid (HB.out.trans (b.mono HB.out.size))
 clear g n b
 go_wp2
 go_ret
 exact ⟨_, fp, rfl, G.out, N.out, B.out⟩
set_option maxRecDepth 100000 in
set_option maxHeartbeats 3200000 in
theorem whole_any (v : Value) (l : List MR) (fp : List Nat) (r : Req) (v0 v1 : Value) (w : World) (g : SlR 4 mrR w l v fp) :
 Calls Tryz.prog 71 #[v, .agg #[.int .i64 r.id, .int .i64 r.kind, .int .i64 r.addr, .int .i64 r.many, .bool r.wrap, v0, v1]] w fun e w' => e = .returned (.int .i64 (wholeIx l (burstOf r))) ∧ Below w.heap.size w w' := by
 have hb := below_alloc w (.cells #[.int .i64 r.id, .int .i64 r.kind, .int .i64 r.addr, .int .i64 r.many, .bool r.wrap, v0, v1] 67)
 have G := Lib.hid (SlR.below mrR_fits g hb)
 have B := Lib.hid hb
 clear g hb
 go_enter Tryz.func71, Tryz.ntmps71
 go_wp2_with fail
 refine (burst_any r _ _ _).mono ?_
 rintro e w1 ⟨bv, bf, rfl, bg, _, b⟩
 replace G := Lib.hid (SlR.below mrR_fits G.out b)
 replace B := Lib.hid (B.out.trans (b.mono B.out.size))
 obtain ⟨ads, hads⟩ : ∃ ads, ads = burstOf r := ⟨_, rfl⟩
 rw [<- hads] at bg
 have HW := Lib.hid (show wholeIx l (burstOf r) = wholeIx l ads by rw [hads])
 obtain ⟨a2, n, c2, rfl, hn, hcap, hmax, hcm, rr⟩ := bg.opened
 have hle : n <= 4 := by rw [<- hn.out, hads]; exact adrBurst_len _ _ _
 clear b bg hads
 go_wp2_with fail
 go_loopw [5, 12] (fun at_ i wr => ∃ (k : Nat) (z : Int), k <= n ∧ i = .int .i64 k ∧ at_ = .int .i64 z ∧ (k = 0 -> z = -1) ∧ (0 < k -> 0 <= z) ∧ (∀ j (h : j < ads.length), j < k -> rix l ads[j] = z) ∧ Below w1.heap.size w1 wr) (fun _ i _ => n - (intOf i).toNat)
 case atStart => exact ⟨0, -1, Nat.zero_le _, rfl, rfl, fun _ => rfl, fun h => absurd h (Nat.lt_irrefl 0), fun j _ h => absurd h (Nat.not_lt_zero j), Below.refl _ _⟩
 case round =>
  obtain ⟨k, z, hk, rfl, rfl, hz0, hz1, hp, hb⟩ := hrel
  have HZ0 := Lib.hid hz0
  have HZ1 := Lib.hid hz1
  have HP := Lib.hid hp
  have HB := Lib.hid hb
  clear hz0 hz1 hp
  by_cases hlt : k < n
  · obtain ⟨i1, b1, o1, rfl, hb1, _, e1⟩ := rr k hlt
    have c0 := (hb.cell (p := ⟨b1, o1 + k, none⟩) hb1).trans e1
    have GA := Lib.hid (SlR.below mrR_fits G.out hb)
    clear rr e1 hb
    go_wp2_with fail
    refine (rangeOf_any _ l fp _ _ GA.out).mono ?_
    rintro e w2 ⟨rfl, b2⟩
    have HB2 := Lib.hid (HB.out.trans (b2.mono HB.out.size))
    have HBw := Lib.hid (B.out.trans (HB2.out.mono B.out.size))
    obtain ⟨q, hq⟩ : ∃ q, q = idxOf (isIn ads[k]) l := ⟨_, rfl⟩
    rw [<- hq]
    have HQ : Hid (rix l ads[k] = q) := Lib.hid hq.symm
    clear b2 hq
    by_cases hneg : q < 0
    · go_wp2
      go_ret
      exact ⟨ret_int (by rw [HW.out]; exact (wholeIx_neg i1 (by rw [HQ.out]; exact hneg)).symm), HBw.out⟩
    · have hpos : 0 <= q := by omega
      have d0 : decide (q < 0) = false := decide_eq_false hneg
      by_cases hk0 : k = 0
      · subst hk0
        go_wp2
        go_roundw
        case rel => exact ⟨1, q, by omega, by go_num, rfl, fun h => absurd h (by omega), fun _ => hpos, fun j h hj => (by
         obtain rfl : j = 0 := by omega
         exact HQ.out), HB2.out⟩
        case measure => simp [intOf]; omega
      · have hkp : 0 < (k : Int) := by omega
        have hkn : 0 < k := by omega
        cases hqz : (q != z)
        · have e : q = z := by simpa using hqz
          have HE := Lib.hid e
          clear e
          go_wp2
          go_roundw
          case rel => exact ⟨k + 1, q, by omega, by go_num, rfl, fun h => absurd h (by omega), fun _ => hpos, fun j h hj => (by
           by_cases e : j = k
           · subst e; exact HQ.out
           · rw [HE.out]; exact HP.out j h (by omega)), HB2.out⟩
          case measure => simp [intOf]; omega
        · have HE := Lib.hid (show q ≠ z by simpa using hqz)
          go_wp2
          go_ret
          exact ⟨ret_int (by rw [HW.out]; exact (wholeIx_ne i1 (by rw [HQ.out, HP.out 0 (by omega) hkn]; exact HE.out)).symm), HBw.out⟩
  · have HBw := Lib.hid (B.out.trans (HB.out.mono B.out.size))
    clear rr hb
    obtain rfl : k = n := by omega
    go_wp2
    go_ret
    exact ⟨ret_int (by
     rw [HW.out]
     by_cases hk0 : k = 0
     · rw [HZ0.out hk0]
       have : ads = [] := List.eq_nil_of_length_eq_zero (by rw [hn.out]; exact hk0)
       rw [this]; rfl
     · exact (wholeIx_all (by rw [hn.out]; omega) (fun j hj => HP.out j hj (by rw [hn.out] at hj; exact hj))).symm), HBw.out⟩
set_option maxRecDepth 100000 in
set_option maxHeartbeats 3200000 in
theorem l1Whole_any (v : Value) (l : List MR) (fp : List Nat) (v2 : Value) (ads : List Int) (fq : List Nat) (hle : ads.length <= 4) (w : World) (g : SlR 4 mrR w l v fp) (h : IntS w ads v2 fq) :
    Calls Tryz.prog 85 #[v, v2] w fun e w' => e = .returned (.int .i64 (wholeIx l ads)) ∧ Below w.heap.size w w' := by
  obtain ⟨a2, n, c2, rfl, hn, hcap, hmax, hcm, rr⟩ := h.opened
  have hle' : n <= 4 := by rw [<- hn.out]; exact hle
  have G := Lib.hid g
  clear g h hle
  by_cases h0 : n = 0
  · subst h0
    have he : ads = [] := List.eq_nil_of_length_eq_zero hn.out
    have HE := Lib.hid he
    clear rr he
    go_enter Tryz.func85, Tryz.ntmps85
    go_wp2
    go_ret
    exact ⟨ret_int (by rw [HE.out]; rfl), Below.refl _ _⟩
  · have hnz : ((n : Int) == 0) = false := by rw [beq_eq_false_iff_ne]; omega
    have hn0 : 0 < n := by omega
    have hn1 : 0 < (n : Int) := by omega
    obtain ⟨i1, b1, o1, rfl, hb1, _, e1⟩ := rr 0 hn0
    simp only [Nat.add_zero] at e1
    obtain ⟨z, hz⟩ : ∃ z, rix l ads[0] = z := ⟨_, rfl⟩
    have HZ := Lib.hid hz
    clear hz
    go_enter Tryz.func85, Tryz.ntmps85
    go_wp2_with fail
    refine (l1Find_any _ l fp _ _ G.out).mono ?_
    rw [show idxOf (isIn ads[0]) l = z from HZ.out]
    rintro e w1 ⟨rfl, m, hw⟩
    have b : Below w.heap.size w w1 := by rw [hw]; exact below_drewN (Below.refl _ _) m
    clear hw
    have B := Lib.hid b
    replace G := Lib.hid (SlR.below mrR_fits G.out b)
    clear b e1
    go_wp2_with fail
    go_loopw [6] (fun i wr => ∃ k : Nat, 1 <= k ∧ k <= n ∧ i = .int .i64 k ∧ (∀ j (h : j < ads.length), j < k -> rix l ads[j] = z) ∧ Below w1.heap.size w1 wr) (fun i _ => n - (intOf i).toNat)
    case atStart => exact ⟨1, by omega, by omega, rfl, fun j _ h => (by obtain rfl : j = 0 := by omega
                                                                        exact HZ.out), Below.refl _ _⟩
    case round =>
      obtain ⟨k, hk1, hk, rfl, hp, hb⟩ := hrel
      have HP := Lib.hid hp
      have HB := Lib.hid hb
      clear hp
      by_cases hlt : k < n
      · obtain ⟨i2, b2, o2, e2, hb2, _, e3⟩ := rr k hlt
        simp only [Option.some.injEq, Addr.mk.injEq, and_true] at e2
        obtain ⟨rfl, rfl⟩ := e2
        have c0 := keep_cell hb (keep_cell B.out e3)
        have GA := Lib.hid (SlR.below mrR_fits G.out hb)
        clear rr e3 hb
        go_wp2_with fail
        refine (l1Find_any _ l fp _ _ GA.out).mono ?_
        rintro e w2 ⟨rfl, m2, hw⟩
        have b2 : Below wr.heap.size wr w2 := by rw [hw]; exact below_drewN (Below.refl _ _) m2
        clear hw
        have HB2 := Lib.hid (HB.out.trans (b2.mono HB.out.size))
        have HBw := Lib.hid (B.out.trans (HB2.out.mono B.out.size))
        obtain ⟨q, hq⟩ : ∃ q, q = idxOf (isIn ads[k]) l := ⟨_, rfl⟩
        rw [<- hq]
        have HQ : Hid (rix l ads[k] = q) := Lib.hid hq.symm
        clear b2 hq
        cases hqz : (q != z)
        · have e : q = z := by simpa using hqz
          have HE := Lib.hid e
          clear e
          go_wp2
          go_roundw
          case rel => exact ⟨k + 1, by omega, by omega, by go_num, fun j h hj => (by
            by_cases e : j = k
            · subst e; rw [HQ.out, HE.out]
            · exact HP.out j h (by omega)), HB2.out⟩
          case measure => simp [intOf]; omega
        · have HE := Lib.hid (show q ≠ z by simpa using hqz)
          go_wp2
          go_ret
          exact ⟨ret_int (wholeIx_ne i2 (by rw [HQ.out, HZ.out]; exact HE.out)).symm, HBw.out⟩
      · have HBw := Lib.hid (B.out.trans (HB.out.mono B.out.size))
        clear rr hb
        obtain rfl : k = n := by omega
        go_wp2
        go_ret
        exact ⟨ret_int (wholeIx_all (by rw [hn.out]; exact hn0) (fun j hj => HP.out j hj (by rw [hn.out] at hj; exact hj))).symm, HBw.out⟩
end Go.Proofs.YtaeiddoccfaheaaGreat
namespace Go.Proofs.YtaeiddoccfaheaaGreat
open Go.RowKit
def getW (m : List Int) (a : Int) : Int := (m[a.toNat]?).getD 0
theorem getW_at {m : List Int} {i : Nat} (h : i < m.length) : getW m i = m[i] := by simp [getW, h]
def l2get (m ads : List Int) : List Int := ads.map (getW m)
theorem l2get_succ (m : List Int) {ads : List Int} {k : Nat} (h : k < ads.length) : l2get m (ads.take (k + 1)) = l2get m (ads.take k) ++ [getW m ads[k]] := by
 unfold l2get
 rw [List.take_succ_eq_append_getElem h, List.map_append]
 rfl
def putTo (m ads data lanes : List Int) : Nat -> List Int
 | 0 => m
 | k + 1 => (putTo m ads data lanes k).set ((ads[k]?).getD 0).toNat (wrdPut (getW (putTo m ads data lanes k) ((ads[k]?).getD 0)) ((data[k]?).getD 0) ((lanes[k]?).getD 0))
theorem putTo_len (m ads data lanes : List Int) : ∀ k, (putTo m ads data lanes k).length = m.length
 | 0 => rfl
 | k + 1 => by rw [putTo, List.length_set]; exact putTo_len m ads data lanes k
theorem putTo_succ {m ads data lanes : List Int} {k i : Nat} (h1 : k < ads.length) (h2 : k < data.length) (h3 : k < lanes.length) (hi : ads[k] = i) (hm : i < m.length) :
 putTo m ads data lanes (k + 1) = (putTo m ads data lanes k).set i (wrdPut ((putTo m ads data lanes k)[i]'(by rw [putTo_len]; exact hm)) data[k] lanes[k]) := by
 have e1 : (ads[k]?).getD 0 = i := by simp [h1, hi]
 have e2 : (data[k]?).getD 0 = data[k] := by simp [h2]
 have e3 : (lanes[k]?).getD 0 = lanes[k] := by simp [h3]
 rw [putTo, e1, e2, e3, getW_at (by rw [putTo_len]; exact hm)]
 rfl
def l2put (m ads data lanes : List Int) : List Int := putTo m ads data lanes ads.length
def frH (ads : List Int) (x : Int) : Int := if x ∈ ads then -1 else x
def freeH (h ads : List Int) : List Int := h.map (frH ads)
def freeTo (h ads : List Int) (k j : Nat) : List Int := h.mapIdx fun i x => frH (if i < k then ads else if i = k then ads.take j else []) x
theorem freeTo_len (h ads : List Int) (k j : Nat) : (freeTo h ads k j).length = h.length := by simp [freeTo]
theorem freeTo_zero (h ads : List Int) : freeTo h ads 0 0 = h := by
 refine List.ext_getElem (by simp [freeTo]) fun i h1 h2 => ?_
 simp [freeTo, frH]
theorem freeTo_at {h ads : List Int} {k j : Nat} (hk : k < h.length) : (freeTo h ads k j)[k]'(by rw [freeTo_len]; exact hk) = frH (ads.take j) h[k] := by simp [freeTo]
theorem freeTo_next (h ads : List Int) (k : Nat) : freeTo h ads k ads.length = freeTo h ads (k + 1) 0 := by
 refine List.ext_getElem (by simp [freeTo]) fun i h1 h2 => ?_
 simp only [freeTo, List.getElem_mapIdx, List.take_length, List.take_zero]
 by_cases e : i < k
 · simp [e, show i < k + 1 by omega]
 · by_cases e2 : i = k
   · simp [e2]
   · simp [e, e2, show ¬ i < k + 1 by omega]
theorem freeTo_all {h ads : List Int} {k : Nat} (hk : h.length <= k) : freeTo h ads k 0 = freeH h ads := by
 refine List.ext_getElem (by simp [freeTo, freeH]) fun i h1 h2 => ?_
 have : i < k := by rw [freeTo_len] at h1; omega
 simp [freeTo, freeH, this]
theorem mem_take_succ {ads : List Int} {j : Nat} {x : Int} (hj : j < ads.length) : x ∈ ads.take (j + 1) ↔ x ∈ ads.take j ∨ x = ads[j] := by
 rw [List.take_succ_eq_append_getElem hj, List.mem_append, List.mem_singleton]
theorem frH_hit {ads : List Int} {j : Nat} {x : Int} (hj : j < ads.length) (h : frH (ads.take j) x = ads[j]) : frH (ads.take (j + 1)) x = -1 := by
 unfold frH at *
 by_cases e : x ∈ ads.take j
 · rw [if_pos ((mem_take_succ hj).2 (.inl e))]
 · rw [if_neg e] at h
   rw [if_pos ((mem_take_succ hj).2 (.inr h))]
theorem frH_miss {ads : List Int} {j : Nat} {x : Int} (hj : j < ads.length) (h : frH (ads.take j) x ≠ ads[j]) : frH (ads.take (j + 1)) x = frH (ads.take j) x := by
 unfold frH at *
 by_cases e : x ∈ ads.take j
 · rw [if_pos ((mem_take_succ hj).2 (.inl e)), if_pos e]
 · rw [if_neg e] at h
   rw [if_neg (fun hm => ((mem_take_succ hj).1 hm).elim e h), if_neg e]
theorem freeTo_set {h ads : List Int} {k j j' : Nat} {z : Int} (hk : k < h.length) (hz : frH (ads.take j') h[k] = z) : freeTo h ads k j' = (freeTo h ads k j).set k z := by
 refine List.ext_getElem (by simp [freeTo]) fun i h1 h2 => ?_
 rw [List.getElem_set]
 by_cases e : k = i
 · subst e
   simp [freeTo, hz]
 · rw [if_neg e]
   simp only [freeTo, List.getElem_mapIdx]
   by_cases e2 : i < k
   · simp [e2]
   · simp [e2, show ¬ i = k by omega]
theorem freeTo_hit {h ads : List Int} {k j : Nat} (hk : k < h.length) (hj : j < ads.length) (he : (freeTo h ads k j)[k]'(by rw [freeTo_len]; exact hk) = ads[j]) : freeTo h ads k (j + 1) = (freeTo h ads k j).set k (-1) := by
 rw [freeTo_at hk] at he
 exact freeTo_set hk (frH_hit hj he)
theorem freeTo_miss {h ads : List Int} {k j : Nat} (hk : k < h.length) (hj : j < ads.length) (he : (freeTo h ads k j)[k]'(by rw [freeTo_len]; exact hk) ≠ ads[j]) : freeTo h ads k (j + 1) = freeTo h ads k j := by
 have h1 := freeTo_at (ads := ads) (j := j) hk
 rw [h1] at he
 rw [freeTo_set (j := j) hk (frH_miss hj he), <- h1]
 exact List.set_getElem_self _
def onlyAt (l : List MR) (k : Int) : Bool := ((l[k.toNat]?).map MR.only).getD false
theorem onlyAt_at {l : List MR} {i : Nat} (h : i < l.length) : onlyAt l i = l[i].only := by simp [onlyAt, h]
structure DoR where
 mem : List Int
 holds : List Int
 code : Int
 data : List Int
def atmDo (l : List MR) (m h : List Int) (who : Int) (r : Req) : DoR :=
 if wholeIx l (burstOf r) < 0 then ⟨m, h, 4, []⟩
 else if writesB r = true ∧ onlyAt l (wholeIx l (burstOf r)) = true then ⟨m, h, 3, []⟩
 else if r.kind = 1 then ⟨m, h, 1, l2get m (burstOf r)⟩
 else if r.kind = 3 then ⟨m, h.set (who * 2 + r.id).toNat r.addr, 2, l2get m (burstOf r)⟩
 else if r.kind = 4 then
  if getW h (who * 2 + r.id) = r.addr then ⟨l2put m (burstOf r) r.data r.lanes, freeH h (burstOf r), 2, []⟩ else ⟨m, h, 1, []⟩
 else ⟨l2put m (burstOf r) r.data r.lanes, freeH h (burstOf r), 1, []⟩
theorem atmDo_mem (l : List MR) (m h : List Int) (who : Int) (r : Req) : (atmDo l m h who r).mem.length = m.length := by
 unfold atmDo
 repeat' split
 all_goals first | rfl | exact putTo_len _ _ _ _ _
theorem atmDo_holds (l : List MR) (m h : List Int) (who : Int) (r : Req) : (atmDo l m h who r).holds.length = h.length := by
 unfold atmDo
 repeat' split
 all_goals first | rfl | simp [freeH]
end Go.Proofs.YtaeiddoccfaheaaGreat
