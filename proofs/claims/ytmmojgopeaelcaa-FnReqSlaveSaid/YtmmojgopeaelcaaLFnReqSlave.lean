/-
  Proved: the Go function laws.FnReqSlave returns true for every code, and the code reads afterwards as before: reqSlave of what is asked is that of each of its addresses, if they are all of one range; else SlvNone.
  Conditions: none.
-/
import Derived.Test.YtmmojgopeaelcaaLift
import Derived.Test.YtmmojgopeaelcaaDReqSlave
import Derived.Test.YtmmojgopeaelcaaSlave
import Derived.Test.YtmmojgopeaelcaaOwn2
import Derived.Test.YtmmojgopeaelcaaCr
import Derived.Test.YtmmojgopeaelcaaFacts
import Derived.Test.YtmmojgopeaelcaaRegion3
import Derived.Deep.QuietTactic
import Derived.BigQuiet
namespace Go.Proofs.Ytmmojgopeaelcaa.fnReqSlave
set_option linter.unusedVariables false
set_option linter.unusedSimpArgs false
open Go.ChangeShapes Go.WideShapes Go.ChangeAt Go.RowKit

/-- how many of these are in a range -/
def cnt (r : MR) (ads : List Int) : Nat := ads.countP fun a => isIn a r
theorem cnt_next {r : MR} {ads : List Int} {j : Nat} (h : j < ads.length) : cnt r (ads.take (j + 1)) = cnt r (ads.take j) + if isIn ads[j] r then 1 else 0 := by
  unfold cnt
  rw [List.take_succ_eq_append_getElem h, List.countP_append]
  simp [List.countP_cons]
theorem cnt_all {r : MR} {ads : List Int} : cnt r ads = ads.length ↔ ∀ a, a ∈ ads → isIn a r = true := by
  unfold cnt
  exact List.countP_eq_length
theorem cnt_le (r : MR) (ads : List Int) : cnt r ads ≤ ads.length := List.countP_le_length
theorem apart {l : List MR} (h : mapOk l = true) {j k : Nat} (hj : j < k) (hk : k < l.length) {a : Int} (ha : isIn a l[k] = true) : isIn a (l[j]'(by omega)) = false := by
  unfold mapOk at h
  rw [Bool.and_eq_true] at h
  have h2 := of_decide_eq_true h.2 k hk
  unfold rowOk at h2
  simp only [Bool.and_eq_true, Bool.not_eq_true', List.any_eq_false] at h2
  have h3 := h2.2.2.2 (l[j]'(by omega)) (by
    have : (l.take k)[j]'(by simp; omega) = l[j]'(by omega) := List.getElem_take
    rw [← this]
    exact List.getElem_mem _)
  unfold meets at h3
  have h4 := inB_true.1 ha
  rw [show isIn a (l[j]'(by omega)) = inB a (l[j]'(by omega)).fr (l[j]'(by omega)).to from rfl, inB_false]
  intro h5
  apply h3
  simp only [Bool.and_eq_true, decide_eq_true_eq]
  omega
/-- in the first range that has an address -/
theorem rix_eq {l : List MR} (h : mapOk l = true) {k : Nat} (hk : k < l.length) {a : Int} (ha : isIn a l[k] = true) : rix l a = k :=
  idxOf_hit hk ha (fun j hj hjk => apart h hjk hk ha)
theorem whole_at {l : List MR} (h : mapOk l = true) {k : Nat} (hk : k < l.length) {ads : List Int} (h0 : 0 < ads.length) (ha : ∀ a, a ∈ ads → isIn a l[k] = true) : wholeIx l ads = k :=
  wholeIx_all h0 (fun j hj => rix_eq h hk (ha _ (List.getElem_mem hj)))
theorem rix_at {l : List MR} {a : Int} {k : Nat} (h : rix l a = k) : ∃ hk : k < l.length, isIn a l[k] = true := by
  obtain ⟨hk, h1, _⟩ := idxOf_at h
  exact ⟨hk, h1⟩
/-- none has all: no range has the whole -/
theorem whole_none {l : List MR} {ads : List Int} (h0 : 0 < ads.length) (hn : ∀ k (hk : k < l.length), cnt l[k] ads ≠ ads.length) : wholeIx l ads < 0 := by
  by_cases h' : wholeIx l ads < 0
  · exact h'
  · exfalso
    have h : 0 ≤ wholeIx l ads := by omega
    obtain ⟨k, hk⟩ := Int.eq_ofNat_of_zero_le h
    have hkl : k < l.length := by have := wholeIx_hi h; rw [hk] at this; simpa using this
    apply hn k hkl
    rw [cnt_all]
    match ads, h0 with
    | a :: t, _ =>
      dsimp only [wholeIx] at hk h
      by_cases hh : (t.all fun b => rix l b == rix l a) = true
      · rw [if_pos hh] at hk
        intro b hb
        have : rix l b = k := by
          rcases List.mem_cons.1 hb with rfl | hb
          · exact hk
          · rw [List.all_eq_true] at hh
            have := hh b hb
            simp at this
            rw [this, hk]
        exact (rix_at this).2
      · rw [if_neg hh] at h; omega
theorem find_of_rix {l : List MR} {a : Int} {k : Nat} (h : rix l a = k) (hk : k < l.length) : mapFind l a = l[k].sl := mapFind_yes h hk

theorem lo2 {l : List MR} {x : Req} (h : mapOk l = true) (h2 : reqOk x = true) : reqSlave l x = slaveOf l x := by unfold reqSlave; rw [h, h2]; rfl
theorem hi2 {l : List MR} {x : Req} (h : ¬ (mapOk l = true ∧ reqOk x = true)) : reqSlave l x = -1 := by
  unfold reqSlave
  rw [if_neg]
  rwa [Bool.and_eq_true]
theorem burst_pos {x : Req} (h : reqOk x = true) : 0 < (burstOf x).length := by
  unfold reqOk at h
  simp only [Bool.and_eq_true] at h
  have h3 := h.2.2.1
  unfold burstOf adrBurst
  rw [if_pos h3]
  have := (adrOk_true.1 h3).2.2.1
  rw [burst_len]
  omega
theorem burst_head {x : Req} (h : reqOk x = true) : x.addr ∈ burstOf x := by
  unfold reqOk at h
  simp only [Bool.and_eq_true] at h
  have h3 := h.2.2.1
  have h4 := (adrOk_true.1 h3).2.2.1
  unfold burstOf adrBurst
  rw [if_pos h3]
  have hl : 0 < (burst x.addr x.many.toNat x.wrap).length := by rw [burst_len]; omega
  have h5 := burst_at x.addr x.many.toNat x.wrap 0 hl
  have h6 : bval x.addr x.many.toNat x.wrap 0 = x.addr := by
    unfold bval
    cases x.wrap <;> simp <;> omega
  have h7 := List.getElem_mem hl
  rw [h5, h6] at h7
  exact h7


set_option maxRecDepth 100000 in
set_option maxHeartbeats 6400000 in
theorem walk (v : Value) (l0 : List Int) (fp0 : List Nat) (w : World) (g : ByteS w l0 v fp0) :
    Calls Try.prog 13 #[v] w fun e w' => e = .returned (.bool true) ∧ Below w.heap.size w w' := by
  obtain ⟨a0, n0, c0, rfl, hn0, hcap0, hmax0, hcm0, _⟩ := g.opened
  have G := Lib.hid g
  clear g
  by_cases hb : 1048576 < n0
  · go_enter Try.func13, Try.ntmps13
    go_wp2
    go_ret
    exact ⟨rfl, Below.refl _ _⟩
  · go_enter Try.func13, Try.ntmps13
    go_wp2_with fail
    refine (drawReqSlave_any _ l0 fp0 w G.out).mono ?_
    rintro e w1 ⟨v0, l, fm, x, v1, v2, fd, fl, rfl, s0, s1, s2, hl7, _, _, b1⟩
    obtain ⟨am, nm, cm, rfl, hnm, hcapm, hmaxm, hcmm, _⟩ := s0.opened
    obtain ⟨a1, n1, c1, rfl⟩ := s1.form
    obtain ⟨a2, n2, c2, rfl⟩ := s2.form
    have ba := below_alloc w1 (.cells #[.int .i64 x.id, .int .i64 x.kind, .int .i64 x.addr, .int .i64 x.many, .bool x.wrap, .slice a1 n1 c1, .slice a2 n2 c2] 91)
    have S0 := Lib.hid (SlR.below mrR_fits s0 ba)
    have S1 := Lib.hid (SlR.below intR_fits s1 ba)
    have S2 := Lib.hid (SlR.below intR_fits s2 ba)
    have B1 := Lib.hid (b1.trans (ba.mono b1.size))
    clear s0 s1 s2 b1 ba hl7
    go_wp2_with fail
    refine (iReqSlave_any _ l fm x _ _ fd fl _ S0.out S1.out S2.out).mono ?_
    obtain ⟨z, hz⟩ : ∃ z, z = reqSlave l x := ⟨_, rfl⟩
    rw [← hz]
    have HZ := Lib.hid hz
    clear hz
    rintro e w2 ⟨rfl, b⟩
    have X0 : w2.cell? ⟨w1.heap.size, 0, none⟩ = some (.int .i64 x.id) := keep_cell b (alloc1_new w1 _ _ 0 rfl)
    have X1 : w2.cell? ⟨w1.heap.size, 1, none⟩ = some (.int .i64 x.kind) := keep_cell b (alloc1_new w1 _ _ 1 rfl)
    have X2 : w2.cell? ⟨w1.heap.size, 2, none⟩ = some (.int .i64 x.addr) := keep_cell b (alloc1_new w1 _ _ 2 rfl)
    have X3 : w2.cell? ⟨w1.heap.size, 3, none⟩ = some (.int .i64 x.many) := keep_cell b (alloc1_new w1 _ _ 3 rfl)
    have X4 : w2.cell? ⟨w1.heap.size, 4, none⟩ = some (.bool x.wrap) := keep_cell b (alloc1_new w1 _ _ 4 rfl)
    have X5 : w2.cell? ⟨w1.heap.size, 5, none⟩ = some (.slice a1 n1 c1) := keep_cell b (alloc1_new w1 _ _ 5 rfl)
    have X6 : w2.cell? ⟨w1.heap.size, 6, none⟩ = some (.slice a2 n2 c2) := keep_cell b (alloc1_new w1 _ _ 6 rfl)
    replace S0 := Lib.hid (SlR.below mrR_fits S0.out b)
    replace S1 := Lib.hid (SlR.below intR_fits S1.out b)
    replace S2 := Lib.hid (SlR.below intR_fits S2.out b)
    replace B1 := Lib.hid (B1.out.trans (b.mono B1.out.size))
    clear b
    go_wp2_with fail
    refine (sReqSlave_any _ l fm x _ _ fd fl _ S0.out S1.out S2.out).mono ?_
    rw [← HZ.out]
    rintro e w3 ⟨rfl, b⟩
    replace X0 := keep_cell b X0
    replace X1 := keep_cell b X1
    replace X2 := keep_cell b X2
    replace X3 := keep_cell b X3
    replace X4 := keep_cell b X4
    replace X5 := keep_cell b X5
    replace X6 := keep_cell b X6
    replace S0 := Lib.hid (SlR.below mrR_fits S0.out b)
    replace S1 := Lib.hid (SlR.below intR_fits S1.out b)
    replace S2 := Lib.hid (SlR.below intR_fits S2.out b)
    replace B1 := Lib.hid (B1.out.trans (b.mono B1.out.size))
    clear b
    have hzz : (z != z) = false := by simp
    go_wp2_with fail
    refine (sMapOk_any _ l fm _ S0.out).mono ?_
    obtain ⟨p, hp⟩ : ∃ p, p = mapOk l := ⟨_, rfl⟩
    obtain ⟨q, hq⟩ : ∃ q, q = reqOk x := ⟨_, rfl⟩
    rw [← hp]
    have HP := Lib.hid hp
    have HQ := Lib.hid hq
    clear hp hq
    rintro e w4 ⟨rfl, b⟩
    replace X0 := keep_cell b X0
    replace X1 := keep_cell b X1
    replace X2 := keep_cell b X2
    replace X3 := keep_cell b X3
    replace X4 := keep_cell b X4
    replace X5 := keep_cell b X5
    replace X6 := keep_cell b X6
    replace S0 := Lib.hid (SlR.below mrR_fits S0.out b)
    replace S1 := Lib.hid (SlR.below intR_fits S1.out b)
    replace S2 := Lib.hid (SlR.below intR_fits S2.out b)
    replace B1 := Lib.hid (B1.out.trans (b.mono B1.out.size))
    clear b
    cases p
    · have HN : Hid (¬ (mapOk l = true ∧ reqOk x = true)) := Lib.hid (fun h => by rw [← HP.out] at h; exact absurd h.1 (by decide))
      obtain rfl : z = -1 := by rw [HZ.out]; exact hi2 HN.out
      go_wp2_with fail
      refine (crOk_any _).mono ?_
      rintro e w6 ⟨rfl, rfl⟩
      go_wp2
      go_ret
      exact ⟨rfl, B1.out⟩
    · go_wp2_with fail
      refine (sReqOk_any x _ _ fd fl _ S1.out S2.out).mono ?_
      rw [← HQ.out]
      rintro e w5 ⟨rfl, b⟩
      replace X0 := keep_cell b X0
      replace X1 := keep_cell b X1
      replace X2 := keep_cell b X2
      replace X3 := keep_cell b X3
      replace X4 := keep_cell b X4
      replace X5 := keep_cell b X5
      replace X6 := keep_cell b X6
      replace S0 := Lib.hid (SlR.below mrR_fits S0.out b)
      replace S1 := Lib.hid (SlR.below intR_fits S1.out b)
      replace S2 := Lib.hid (SlR.below intR_fits S2.out b)
      replace B1 := Lib.hid (B1.out.trans (b.mono B1.out.size))
      clear b
      cases q
      · have HN : Hid (¬ (mapOk l = true ∧ reqOk x = true)) := Lib.hid (fun h => by rw [← HQ.out] at h; exact absurd h.2 (by decide))
        obtain rfl : z = -1 := by rw [HZ.out]; exact hi2 HN.out
        go_wp2_with fail
        refine (crOk_any _).mono ?_
        rintro e w6 ⟨rfl, rfl⟩
        go_wp2
        go_ret
        exact ⟨rfl, B1.out⟩
      · have HM := Lib.hid HP.out.symm
        have HR := Lib.hid HQ.out.symm
        have HS : Hid (z = slaveOf l x) := Lib.hid (by rw [HZ.out]; exact lo2 HM.out HR.out)
        go_wp2_with fail
        refine (iAdrBurst_any x.addr x.many x.wrap _).mono ?_
        rintro e w6 ⟨va, fa, rfl, ga, na, b⟩
        replace X0 := keep_cell b X0
        replace X1 := keep_cell b X1
        replace X2 := keep_cell b X2
        replace X3 := keep_cell b X3
        replace X4 := keep_cell b X4
        replace X5 := keep_cell b X5
        replace X6 := keep_cell b X6
        replace S0 := Lib.hid (SlR.below mrR_fits S0.out b)
        replace S1 := Lib.hid (SlR.below intR_fits S1.out b)
        replace S2 := Lib.hid (SlR.below intR_fits S2.out b)
        replace B1 := Lib.hid (B1.out.trans (b.mono B1.out.size))
        have GA := Lib.hid (show IntS w6 (burstOf x) va fa from ga)
        clear b ga na
        obtain ⟨ads, hads⟩ : ∃ ads, ads = burstOf x := ⟨_, rfl⟩
        rw [← hads] at GA
        have HPOS := Lib.hid (show 0 < ads.length by rw [hads]; exact burst_pos HR.out)
        have HHD := Lib.hid (show x.addr ∈ ads by rw [hads]; exact burst_head HR.out)
        have HW : Hid (wholeIx l (burstOf x) = wholeIx l ads) := Lib.hid (by rw [hads])
        have hn4' : ads.length ≤ 4 := by rw [hads]; exact adrBurst_len _ _ _
        clear hads
        obtain ⟨aa, na, ca, rfl, hna, hcapa, hmaxa, hcma, ra⟩ := IntS.opened GA.out
        obtain ⟨_, _, _, he, _, _, _, _, rm⟩ := S0.out.opened
        simp only [Value.slice.injEq] at he
        obtain ⟨rfl, rfl, rfl⟩ := he
        have hn4 : na ≤ 4 := by rw [← hna.out]; exact hn4'
        clear hn4'
        have RA := Lib.hid ra
        have RM := Lib.hid rm
        clear ra rm
        go_wp2_with fail
        go_loopw [7] (fun i wr => ∃ k : Nat, k ≤ nm ∧ i = .int .i64 k ∧ Below w6.heap.size w6 wr ∧ (∀ j (hj : j < l.length), j < k → cnt l[j] ads ≠ ads.length)) (fun i _ => nm - (intOf i).toNat)
        case atStart => exact ⟨0, Nat.zero_le _, rfl, Below.refl _ _, fun j _ h => absurd h (Nat.not_lt_zero j)⟩
        case round =>
          obtain ⟨k, hk, rfl, hbw, hp⟩ := hrel
          have HPR := Lib.hid hp
          have HBW := Lib.hid hbw
          clear hp hbw
          by_cases hlt : k < nm
          · obtain ⟨i1, b1, o1, f1, cs, rfl, hb1, _, _, ⟨rfl, rfl⟩, e1⟩ := RM.out k hlt
            have d0 := e1 0 (by simp)
            have d1 := e1 1 (by simp)
            have d2 := e1 2 (by simp)
            simp only [Nat.add_zero, List.getElem_cons_zero, List.getElem_cons_succ] at d0 d1 d2
            clear e1
            go_wp2_with fail
            go_loopw [8, 9] (fun c i w' => ∃ j : Nat, j ≤ na ∧ i = .int .i64 j ∧ c = .int .i64 (cnt l[k] (ads.take j) : Nat) ∧ Below w6.heap.size w6 w') (fun _ i _ => na - (intOf i).toNat)
            case atStart => exact ⟨0, Nat.zero_le _, rfl, rfl, HBW.out⟩
            case round =>
              obtain ⟨j, hj, rfl, rfl, hbi⟩ := hrel
              have HBI := Lib.hid hbi
              have e0 := keep_cell hbi d0
              have e1 := keep_cell hbi d1
              have e2 := keep_cell hbi d2
              replace X2 := keep_cell hbi X2
              clear hbi d0 d1 d2
              have hcl : cnt l[k] (ads.take j) ≤ 4 := by
                have h1 := cnt_le l[k] (ads.take j)
                have h2 : (ads.take j).length ≤ 4 := by have h3 := hna.out; have h4 := hn4; simp; omega
                omega
              by_cases hlt2 : j < na
              · obtain ⟨j1, b2, o2, eq2, hb2, _, u⟩ := RA.out j hlt2
                subst eq2
                replace u := keep_cell HBI.out u
                by_cases h1 : l[k].fr ≤ ads[j]
                · by_cases h2 : ads[j] ≤ l[k].to
                  · have HC : Hid (cnt l[k] (ads.take (j + 1)) = cnt l[k] (ads.take j) + 1) := Lib.hid (by rw [cnt_next j1, if_pos (show isIn ads[j] l[k] = true from inB_true.2 ⟨h1, h2⟩)])
                    go_wp2_with fail
                    go_quiet (fail)
                    go_wp2
                    go_roundw
                    case rel => exact ⟨j + 1, by omega, by go_num, by rw [HC.out]; go_num, below_drewN HBI.out _⟩
                    case measure => simp [intOf]; omega
                  · have hd2 : decide (ads[j] ≤ l[k].to) = false := decide_eq_false h2
                    have HC : Hid (cnt l[k] (ads.take (j + 1)) = cnt l[k] (ads.take j)) := Lib.hid (by rw [cnt_next j1, if_neg (by rw [show isIn ads[j] l[k] = inB ads[j] l[k].fr l[k].to from rfl, Bool.not_eq_true, inB_false]; omega)]; rfl)
                    go_wp2_with fail
                    go_quiet (fail)
                    go_wp2
                    go_roundw
                    case rel => exact ⟨j + 1, by omega, by go_num, by rw [HC.out], below_drewN HBI.out _⟩
                    case measure => simp [intOf]; omega
                · have hd1 : decide (l[k].fr ≤ ads[j]) = false := decide_eq_false h1
                  have HC : Hid (cnt l[k] (ads.take (j + 1)) = cnt l[k] (ads.take j)) := Lib.hid (by rw [cnt_next j1, if_neg (by rw [show isIn ads[j] l[k] = inB ads[j] l[k].fr l[k].to from rfl, Bool.not_eq_true, inB_false]; omega)]; rfl)
                  go_wp2_with fail
                  go_quiet (fail)
                  go_wp2
                  go_roundw
                  case rel => exact ⟨j + 1, by omega, by go_num, by rw [HC.out], below_drewN HBI.out _⟩
                  case measure => simp [intOf]; omega
              · have hjn : j = na := by omega
                have HT : Hid (ads.take j = ads) := Lib.hid (List.take_of_length_le (by have := hna.out; omega))
                obtain ⟨m, hm⟩ : ∃ m : Nat, m = cnt l[k] (ads.take j) := ⟨_, rfl⟩
                rw [← hm] at hcl ⊢
                have HMM := Lib.hid hm
                clear hm
                by_cases hme : m = na
                · have hall : ∀ a, a ∈ ads → isIn a l[k] = true := cnt_all.1 (by rw [HT.out] at HMM; rw [← HMM.out, hme]; exact hna.out.symm)
                  have hw := whole_at HM.out i1 HPOS.out hall
                  have HZK : Hid (z = l[k].sl) := Lib.hid (by rw [HS.out]; exact slaveOf_yes (by rw [HW.out]; exact hw) i1)
                  have HFK : Hid (mapFind l x.addr = z) := Lib.hid (by rw [HZK.out]; exact find_of_rix (rix_eq HM.out i1 (hall _ HHD.out)) i1)
                  rw [← HZK.out] at e2
                  have hmi : (m : Int) = (na : Int) := by omega
                  have hzt : (z == z) = true := by simp
                  clear hall hw
                  go_wp2_with fail
                  refine (iMapFind_any _ l fm x.addr _ (SlR.below mrR_fits S0.out HBI.out)).mono ?_
                  rw [HFK.out]
                  rintro e w8 ⟨rfl, b⟩
                  have B8 := Lib.hid (B1.out.trans ((HBI.out.trans (b.mono HBI.out.size)).mono B1.out.size))
                  clear b
                  go_wp2
                  go_ret
                  exact ⟨rfl, B8.out⟩
                · have hmi : ¬ (m : Int) = (na : Int) := by omega
                  have hmb : ((m : Int) == (na : Int)) = false := by simp; omega
                  have HNE : Hid (cnt l[k] ads ≠ ads.length) := Lib.hid (by rw [HT.out] at HMM; rw [← HMM.out, hna.out]; exact hme)
                  go_wp2
                  go_roundw
                  case rel => exact ⟨k + 1, by omega, by go_num, HBI.out, fun j h hj => (by
                    by_cases e : j = k
                    · subst e; exact HNE.out
                    · exact HPR.out j h (by omega))⟩
                  case measure => simp [intOf]; omega
          · have hw := whole_none HPOS.out (fun k hk => HPR.out k hk (by have := hnm.out; omega))
            obtain rfl : z = 3 := by rw [HS.out]; exact slaveOf_no (by rw [HW.out]; exact hw)
            have B8 := Lib.hid (B1.out.trans (HBW.out.mono B1.out.size))
            clear hw
            go_wp2
            go_ret
            exact ⟨rfl, B8.out⟩

set_option maxRecDepth 100000 in
theorem lifted (os : Os) (started : os.Started) (H : Type) (enc : TypeId × Value → H) :
    ReturnsInHanded {} Try.checked os 13 .any (Rows.fnReqSlaveSpec.pre6 enc Try.prog Try.f13 Rows.fnReqSlaveRow.domain false) (Rows.fnReqSlaveSpec.post enc Try.prog Try.f13 false true false false) := by
  refine returnsInHanded_of_change (C := Try.checked) own started (by kernel_rfl) Try.func13
    (ChangeSpec.witness6 (enc := enc) (C := Try.checked) false ⟨#[], #[.slice none 0 0], []⟩ 8 (by kernel_rfl) (by kernel_rfl) (by kernel_rfl) (by kernel_rfl)) ?_
  intro W base args ds gs before hval0 hW hcnd _
  have hval : ∀ (j : Nat) t v, Try.f13.params[j]? = some t → args[j]? = some v → Value.okWide Try.prog W .any base t v := hval0
  have hW' := hW
  obtain ⟨p, q, hA0, hV, rfl, hfz, hnd⟩ := hW
  have hA : DataW.TrodAll enc Try.prog W 0 (fun _ => true) true Try.f13.params.toList args.toList ds p := hA0
  rw [Try.params13] at hA hval
  obtain ⟨v0, vs0, d0, ds0, p0, q0, hargs, rfl, rfl, h0, r0⟩ := trodAll_cons hA
  obtain ⟨rfl, rfl, rfl⟩ := trodAll_nil r0
  obtain rfl : args = #[v0] := by cases args; simp_all
  obtain ⟨rfl, rfl⟩ := trodVars_none hV
  clear hA0 hval0
  simp only [List.append_nil] at hW'
  have hlt0 : ∀ x ∈ p0, x.block < W.heap.size := fun x hx => by simpa using hW'.lt x (by simp [hx])
  have hk0 := h0
  obtain ⟨ad0, len0, cap0, rfl⟩ := okWide_slice Try.underlying73 (hval 0 73 v0 rfl rfl)
  obtain ⟨fuel0, hf0⟩ := h0
  obtain ⟨x0, fp0, y0, e0, g0⟩ := (opens_slice Try.underlying73 (by kernel_rfl) (by decide) (opens_byte Try.underlying5) byteR_fits) hf0
  obtain rfl : .slice ad0 len0 cap0 = y0 := by simpa [Value.cells] using e0
  refine (walk (.slice ad0 len0 cap0) x0 fp0 W g0).mono fun e W' ⟨he, hb⟩ => ?_
  subst he
  exact ⟨_, rfl, _, _, _, [], _, [], hW', (trodAll_cons_mk (shut_bool Try.underlying4 _) trodAll_mk0), (trodAll_cons_mk (Below.trod laidOut (by kernel_rfl) (of_decide_eq_true (by kernel_rfl)) hk0 hb hlt0) trodAll_mk0), rfl, hb.frame _, fun h => by cases h⟩

theorem over : Rows.fnReqSlaveRow.holds Try.pinned (OpenSpec.ofChange Rows.fnReqSlaveSpec) :=
  OpenClaim.holds_of_wide 13 Try.f13 rfl rfl rfl rfl rfl rfl rfl ⟨rfl, rfl, rfl, rfl, rfl⟩ rfl rfl rfl rfl rfl (by kernel_rfl) Try.func13 (by kernel_rfl)
    (of_decide_eq_true (by kernel_rfl)) (by unfold Func.isWrapper; first | (rw [if_pos (by decide +kernel)]; kernel_rfl) | (rw [if_neg (by decide +kernel)]; exact ⟨rfl, rfl⟩))
    (fun os started H enc _ => lifted os started H enc)

theorem proved : Rows.FnReqSlaveSaid :=
  over
#print axioms proved
end Go.Proofs.Ytmmojgopeaelcaa.fnReqSlave