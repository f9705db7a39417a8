/-
  Proved: the Go function laws.FnBusApart returns true for every code, and the code reads afterwards as before: both answer alike whether one of a bus lies apart, and it does where nobody else asks of a store of which it asks.
  Conditions: none.
-/
import Derived.Test.YtmcjklicepaiaaaProg
import Derived.Test.YtmcjklicepaiaaaAdr
import Derived.Test.YtmcjklicepaiaaaBase
import Derived.Deep.QuietTactic
import Derived.BigQuiet
import Derived.Test.YtmcjklicepaiaaaFacts
import Derived.Test.YtmcjklicepaiaaaOwn
import Derived.Test.YtmcjklicepaiaaaDBusOr
import Derived.Test.YtmcjklicepaiaaaBusOk
import Derived.Test.YtmcjklicepaiaaaBus
import Derived.Test.YtmcjklicepaiaaaSlave
import Derived.Test.YtmcjklicepaiaaaRegion6
import Derived.Test.YtmcjklicepaiaaaBApart
import Derived.Test.YtmcjklicepaiaaaLift
namespace Go.Proofs.Ytmcjklicepaiaaa
set_option linter.unusedVariables false
set_option linter.unusedSimpArgs false
open Go.RowKit

theorem crOk_any (w : World) : Calls Try.prog 16 #[] w fun e w' => e = .returned (.bool true) ∧ w = w' := by
  go_enter Try.func16, Try.ntmps16
  go_wp2_with (go_at_call 56; refine (iAdrOk_any _ _ _ _).mono ?_; rintro e w' ⟨rfl, rfl⟩)
  go_ret
  exact ⟨ret_bool (by decide), rfl⟩

end Go.Proofs.Ytmcjklicepaiaaa

namespace Go.Proofs.Ytmcjklicepaiaaa
open Go.RowKit

theorem crIn_any (v : Value) (l : List Int) (fp : List Nat) (x : Int) (w : World) (g : IntS w l v fp) :
    Calls Try.prog 23 #[v, .int .i64 x] w fun e w' => e = .returned (.bool (decide (x ∈ l))) ∧ w' = w := by
  obtain ⟨a, n, cap, rfl, hn, hcap, hmax, hcm, r⟩ := g.opened
  clear g
  go_enter Try.func23, Try.ntmps23
  go_wp2
  go_loop [5] (fun i => ∃ k : Nat, k ≤ n ∧ i = .int .i64 k ∧ ∀ j (h : j < l.length), j < k → l[j] ≠ x) (fun i => n - (intOf i).toNat)
  case atStart => exact ⟨0, Nat.zero_le _, rfl, fun j _ h => absurd h (Nat.not_lt_zero j)⟩
  case round =>
    obtain ⟨k, hk, rfl, hp⟩ := hrel
    have HP := Lib.hid hp
    clear hp
    by_cases hlt : k < n
    · obtain ⟨i1, b1, o1, rfl, hb1, _, e1⟩ := r k hlt
      clear r
      by_cases hq : l[k] = x
      · have hq' : (l[k] == x) = true := by simpa using hq
        have HQ := Lib.hid hq
        clear hq
        go_wp2
        go_ret
        exact ⟨ret_bool (by symm; rw [decide_eq_true_eq]; rw [← HQ.out]; exact List.getElem_mem i1), rfl⟩
      · have hq' : (l[k] == x) = false := by simpa using hq
        have HQ := Lib.hid hq
        clear hq
        go_wp2
        go_round
        case rel => exact ⟨k + 1, by omega, by go_num, fun j h hj => (by
          by_cases e : j = k
          · subst e; exact HQ.out
          · exact HP.out j h (by omega))⟩
        case measure => simp [intOf]; omega
    · clear r
      go_wp2
      go_ret
      exact ⟨ret_bool (by
        symm
        rw [decide_eq_false_iff_not]
        intro hx
        obtain ⟨j, hj, rfl⟩ := List.mem_iff_getElem.1 hx
        exact HP.out j hj (by rw [hn.out] at hj; omega) rfl), rfl⟩

theorem crInts_any (v1 v2 : Value) (l1 l2 : List Int) (fp1 fp2 : List Nat) (w : World) (g1 : IntS w l1 v1 fp1) (g2 : IntS w l2 v2 fp2) :
    Calls Try.prog 94 #[v1, v2] w fun e w' => e = .returned (.bool (decide (l1 = l2))) ∧ ∃ n, w' = w.drewN n := by
  obtain ⟨a1, n1, c1, rfl, hn1, k1, m1, _, r1⟩ := g1.opened
  obtain ⟨a2, n2, c2, rfl, hn2, k2, m2, _, r2⟩ := g2.opened
  clear g1 g2
  by_cases hL : n2 = n1
  · obtain rfl := hL
    go_enter Try.func94, Try.ntmps94
    go_wp2
    go_loopw [5] (fun i wr => ∃ k : Nat, k ≤ n2 ∧ i = .int .i64 k ∧ l1.take k = l2.take k ∧ ∃ m, wr = w.drewN m) (fun i _ => n2 - (intOf i).toNat)
    case atStart => exact ⟨0, Nat.zero_le _, rfl, rfl, 0, rfl⟩
    case round =>
      obtain ⟨k, hk, rfl, ht, m, rfl⟩ := hrel
      have HT := Lib.hid ht
      clear ht
      by_cases hlt : k < n2
      · obtain ⟨i1, b1, o1, rfl, hb1, _, e1⟩ := r1 k hlt
        obtain ⟨i2, b2, o2, rfl, hb2, _, e2⟩ := r2 k hlt
        clear r1 r2
        by_cases hq : l1[k] = l2[k]
        · have hq' : (l1[k] != l2[k]) = false := by simp [hq]
          have HQ := Lib.hid hq
          clear hq
          go_wp2_with fail
          go_quiet (fail)
          go_wp2
          go_roundw
          case rel => exact ⟨k + 1, by omega, by go_num, take_succ_eq HT.out i1 i2 HQ.out, by (try simp only [World.drewN_drewN]); exact ⟨_, rfl⟩⟩
          case measure => simp [intOf]; omega
        · have hq' : (l1[k] != l2[k]) = true := by simp [hq]
          have HQ := Lib.hid hq
          clear hq
          go_wp2_with fail
          go_quiet (fail)
          go_wp2
          go_ret
          exact ⟨ret_bool (by simp; intro e; exact HQ.out (by simp [e])), by (try simp only [World.drewN_drewN]); exact ⟨_, rfl⟩⟩
      · clear r1 r2
        go_wp2
        go_ret
        exact ⟨ret_bool (by simp [take_all_eq HT.out hn1.out hn2.out (by omega)]), m, rfl⟩
  · clear r1 r2
    have hne : l1 ≠ l2 := fun e => hL (by rw [← hn1.out, ← hn2.out, e])
    have hq : ((n1 : Int) != n2) = true := by simp; omega
    go_enter Try.func94, Try.ntmps94
    go_wp2
    go_ret
    exact ⟨ret_bool (by simp [hne]), 0, rfl⟩

end Go.Proofs.Ytmcjklicepaiaaa

namespace Go.Proofs.Ytmcjklicepaiaaa
open Go.RowKit

def FOwn {α : Type} (K : Nat) (c : α → List Value) (e : TypeId) (base : Nat) (l : List α) : Fact := fun v w => OwnR K c e base w v l
theorem stOwn {α : Type} (K : Nat) (c : α → List Value) (e : TypeId) (base : Nat) (l : List α) : Stable [] (FOwn K c e base l) := fun _ _ _ h hc => OwnR.below h hc.below

end Go.Proofs.Ytmcjklicepaiaaa

namespace Go.Proofs.Ytmcjklicepaiaaa
open Go.RowKit Go.ChangeShapes Go.WideShapes

theorem Step.bare {fq : List Nat} {T : Tab} {w w' : World} (s : Step fq (fun _ => none) w T w') : Chg fq w w' := ⟨s.os, s.tape, s.output, s.size, fun k hk hn => s.block k hk hn rfl⟩

/-- a bus that reads so -/
structure BusRd (w : World) (x : Bus) (v0 v1 v2 : Value) : Prop where
  mp : ∃ fp, SlR 4 mrR w x.map v0 fp
  lat : ∃ fp, SlR 1 intR w x.lat v1 fp
  prg : ∃ fp, SlR 1 (slR 7 reqR) w x.progs v2 fp

theorem BusPost.reads {G : Gd} {L0 : List Nat} {rb : Nat} {fq : List Nat} {T0 : Tab} {w w3 w4 : World} {M : Int} {e : Ending} {T : Tab} {lm : List MR} {fm : List Nat} {va la pa : Option Addr} {vn vc ln lc pn pc : Nat} {fp : List Nat}
    (h : BusPost G L0 rb fq T0 w M e w3 T lm fm va vn vc la ln lc pa pn pc) (hc : Chg fp w3 w4) (hq : ∀ b, b ∈ fp → b ∈ L0) : ∃ x : Bus, x.map = lm ∧ BusRd w4 x (.slice va vn vc) (.slice la ln lc) (.slice pa pn pc) := by
  have ht := h.th.chg hc hq
  obtain ⟨ll, fl, hl⟩ := h.lat.t.ints ht h.lat.1 h.lat.2.1
  obtain ⟨pl, fl2, hp, -⟩ := h.prg.t.progs ht h.prg.1 h.prg.2.1
  exact ⟨⟨lm, ll, pl⟩, rfl, ⟨fm, h.mp.same mrR_fits (h.fz.same (Step.of_chg hc) hq) hc.size⟩, ⟨fl, hl⟩, ⟨fl2, hp⟩⟩

set_option maxRecDepth 100000 in
set_option maxHeartbeats 3200000 in
theorem drawBusOk_any (v : Value) (l : List Int) (fp : List Nat) (w : World) (g : ByteS w l v fp) :
    Calls Try.prog 17 #[v] w fun e w' => ∃ (x : Bus) (va la pa : Option Addr) (vn vc ln lc pn pc : Nat), e = .returned (.agg #[.slice va vn vc, .slice la ln lc, .slice pa pn pc]) ∧ BusRd w' x (.slice va vn vc) (.slice la ln lc) (.slice pa pn pc) ∧ x.map.length ≤ 7 ∧ Below w.heap.size w w' := by
  obtain ⟨w1, hw1⟩ : ∃ z, z = w.alloc (.cells #[.slice none 0 0, .slice none 0 0, .slice none 0 0] 38) := ⟨_, rfl⟩
  have b1 : Below w.heap.size w w1 := by rw [hw1]; exact below_alloc _ _
  have z1 : w.heap.size < w1.heap.size := by rw [hw1]; simp
  have r0 : w1.cell? ⟨w.heap.size, 0, none⟩ = some (.slice none 0 0) := by rw [hw1]; exact alloc1_new _ _ _ 0 rfl
  have r1 : w1.cell? ⟨w.heap.size, 1, none⟩ = some (.slice none 0 0) := by rw [hw1]; exact alloc1_new _ _ _ 1 rfl
  have r2 : w1.cell? ⟨w.heap.size, 2, none⟩ = some (.slice none 0 0) := by rw [hw1]; exact alloc1_new _ _ _ 2 rfl
  have rf : ∀ o, w1.frozen? ⟨w.heap.size, o, none⟩ = false := fun o => by rw [hw1]; exact alloc1_free _ _ _ _
  have G := Lib.hid (SlR.below byteR_fits g b1)
  have B := Lib.hid b1
  clear g b1
  go_enter Try.func17, Try.ntmps17
  go_upto_region 1 with fail
  rw [← hw1]
  clear hw1
  go_wp2_with fail
  refine (l20Open_any v l fp _ G.out).mono ?_
  rintro e w2 ⟨rb, fq, rfl, hrb, hfq, h0, b0⟩
  replace r0 := keep_cell b0 r0
  replace r1 := keep_cell b0 r1
  replace r2 := keep_cell b0 r2
  have f0 := keep_free b0 z1 (rf 0)
  have f1 := keep_free b0 z1 (rf 1)
  have f2 := keep_free b0 z1 (rf 2)
  have z2 := b0.size
  have hnr : w.heap.size ∉ [rb] := by simp; omega
  have hto : ∀ c, c ∈ w.heap.size :: rb :: fq → c < w2.heap.size := fun c hc => by
    rcases List.mem_cons.1 hc with rfl | hc
    · omega
    · rcases List.mem_cons.1 hc with rfl | hc
      · exact h0.lt
      · exact h0.old c hc
  have B0 := Lib.hid (B.out.trans (b0.mono B.out.size))
  have H0 := Lib.hid h0
  have HT0 := Lib.hid (TH.empty gFit (w.heap.size :: rb :: fq) w2 hto)
  clear h0 b0 rf hto
  go_wp2_with fail
  refine (l20BusOr_any (w.heap.size :: rb :: fq) rb fq 0 2 (by omega) (by omega) (by omega) _ _ (by simp) (fun b hb => by simp [hb]) H0.out HT0.out).mono ?_
  rintro e w3 ⟨T, lm, fm, va, vn, vc, la, ln, lc, pa, pn, pc, hp, hml⟩
  have c2 := hp.st.bare
  replace r0 := keep_cell_chg c2 r0 hnr
  replace r1 := keep_cell_chg c2 r1 hnr
  replace r2 := keep_cell_chg c2 r2 hnr
  replace f0 := (World.frozen?_of_block (c2.block w.heap.size (by omega) hnr)).trans f0
  replace f1 := (World.frozen?_of_block (c2.block w.heap.size (by omega) hnr)).trans f1
  replace f2 := (World.frozen?_of_block (c2.block w.heap.size (by omega) hnr)).trans f2
  have HB := Lib.hid (((B0.out.chg [rb]).trans' c2).home (fun b hb => by simp at hb; omega))
  have HP := Lib.hid hp
  have HML := Lib.hid hml
  have e0 := hp.ret
  clear hp hml c2 H0 HT0
  rw [e0]
  clear e0
  go_wp2
  have hchg : Chg [w.heap.size] w3 (((w3.setCell ⟨w.heap.size, 0, none⟩ (.slice va vn vc)).setCell ⟨w.heap.size, 1, none⟩ (.slice la ln lc)).setCell ⟨w.heap.size, 2, none⟩ (.slice pa pn pc)) := (store_chg _).trans' ((store_chg _).trans' (store_chg _))
  obtain ⟨x, hx, hr⟩ := HP.out.reads hchg (by simp)
  refine bodyPost_ret (v := .agg #[.slice va vn vc, .slice la ln lc, .slice pa pn pc]) (by simp [results, Try.results17, go_sem, put3_0 _ _ _ r0, put3_1 _ _ _ r1, put3_2 _ _ _ r2]) rfl ?_
  exact ⟨x, va, la, pa, vn, vc, ln, lc, pn, pc, rfl, hr, by rw [hx]; exact HML.out, ((HB.out.chg []).trans hchg).home (fun b hb => by simp at hb; omega)⟩

end Go.Proofs.Ytmcjklicepaiaaa

namespace Go.Proofs.Ytmcjklicepaiaaa
open Go.RowKit Go.ChangeShapes Go.WideShapes

/-- one of a row of requests -/
theorem SlT.req {G : Gd} {L : List Nat} {T : Tab} {w : World} {a : Option Addr} {n i : Nat} (h : SlT T 2 a n) (hi : i < n) (hT : TH G L T w) : ∃ (b off : Nat) (x : Req) (da : Option Addr) (dn dc : Nat) (ea : Option Addr) (en ec : Nat) (fd fl : List Nat), a = some ⟨b, off, none⟩ ∧
    (∀ j (hj : j < ([.int .i64 x.id, .int .i64 x.kind, .int .i64 x.addr, .int .i64 x.many, .bool x.wrap, .slice da dn dc, .slice ea en ec] : List Value).length), w.cell? ⟨b, off + i * 7 + j, none⟩ = some ([.int .i64 x.id, .int .i64 x.kind, .int .i64 x.addr, .int .i64 x.many, .bool x.wrap, .slice da dn dc, .slice ea en ec] : List Value)[j]) ∧ SlR 1 intR w x.data (.slice da dn dc) fd ∧ SlR 1 intR w x.lanes (.slice ea en ec) fl ∧ UnitOk G L T w 2 [.int .i64 x.id, .int .i64 x.kind, .int .i64 x.addr, .int .i64 x.many, .bool x.wrap, .slice da dn dc, .slice ea en ec] := by
  rcases h with rfl | ⟨b, o, y, rfl, hb, hk, hn⟩
  · omega
  · obtain ⟨cs, _, ⟨x, fp, ⟨v0, v1, fd, fl, rfl, rfl, h0, h1⟩, hG, hF⟩, h3⟩ := hT.at' hb hk hn hi
    obtain ⟨da, dn, dc, rfl⟩ := h0.form
    obtain ⟨ea, en, ec, rfl⟩ := h1.form
    exact ⟨b, _, x, da, dn, dc, ea, en, ec, fd, fl, rfl, h3, h0, h1, ⟨x, fd ++ fl, ⟨_, _, fd, fl, rfl, rfl, h0, h1⟩, hG, hF⟩⟩

theorem ask_fit (z : Int) {L : List Nat} {T : Tab} {w : World} : UnitOk gFit L T w 2 [.int .i64 0, .int .i64 1, .int .i64 z, .int .i64 4, .bool false, .slice none 0 0, .slice none 0 0] :=
  ⟨⟨0, 1, z, 4, false, [], []⟩, [], ⟨.slice none 0 0, .slice none 0 0, [], [], rfl, rfl, ⟨none, 0, 0, rfl, rfl, Nat.le_refl _, Nat.zero_le _, .inl ⟨rfl, rfl⟩⟩, ⟨none, 0, 0, rfl, rfl, Nat.le_refl _, Nat.zero_le _, .inl ⟨rfl, rfl⟩⟩⟩, ⟨Int.le_refl _, (show (0 : Int) ≤ 1 by decide), fun _ h1 _ => absurd rfl h1⟩, Fz.nil _ _ _⟩

set_option maxRecDepth 100000 in
set_option maxHeartbeats 6400000 in
theorem l20Apart_any (L0 : List Nat) (rb : Nat) (fq : List Nat) (N : Int) (hN : N ≤ 800000000) (T0 : Tab) (w : World) (hrb : rb ∈ L0) (hfq : ∀ b, b ∈ fq → b ∈ L0) (h : RdAt w rb fq N) (hT : TH gFit L0 T0 w) :
    Calls Try.prog 67 #[.pointer (some ⟨rb, 0, none⟩)] w fun e w' => ∃ T lm fm va vn vc la lc pa pc, BusPost gFit L0 rb fq T0 w (N + 300000) e w' T lm fm va vn vc la 4 lc pa 3 pc ∧ lm.length ≤ 7 := by
  have hlt := h.lt
  have hold := h.old
  obtain ⟨w1, hw1⟩ : ∃ z, z = w.alloc (.cells #[.slice none 0 0, .slice none 0 0, .slice none 0 0] 38) := ⟨_, rfl⟩
  have b1 : Below w.heap.size w w1 := by rw [hw1]; exact below_alloc _ _
  have z1 : w.heap.size < w1.heap.size := by rw [hw1]; simp
  have r0 : ∃ u, w1.cell? ⟨w.heap.size, 0, none⟩ = some u := ⟨_, by rw [hw1]; exact alloc1_new _ _ _ 0 rfl⟩
  have r1 : ∃ u, w1.cell? ⟨w.heap.size, 1, none⟩ = some u := ⟨_, by rw [hw1]; exact alloc1_new _ _ _ 1 rfl⟩
  have r2 : ∃ u, w1.cell? ⟨w.heap.size, 2, none⟩ = some u := ⟨_, by rw [hw1]; exact alloc1_new _ _ _ 2 rfl⟩
  have rf : ∀ o, w1.frozen? ⟨w.heap.size, o, none⟩ = false := fun o => by rw [hw1]; exact alloc1_free _ _ _ _
  have HT1 := Lib.hid (hT.opened b1 (Nat.le_refl _) z1)
  have H1 := Lib.hid (h.below b1)
  have HF : Hid (∀ {w2 : World} {T : Tab} {lm : List MR} {fm : List Nat} {va la pa : Option Addr} {vn vc lc pc : Nat} {e : Ending}, BusPost gFit (w.heap.size :: L0) rb fq T0 w1 (N + 200000) e w2 T lm fm va vn vc la 4 lc pa 3 pc →
      BusC (w2.heap.size :: w.heap.size :: L0) rb w2.heap.size w.heap.size fq w ∧
      BusAt gFit (w2.heap.size :: w.heap.size :: L0) rb w2.heap.size w.heap.size fq T0 w (N + 200000) lm fm (.slice va vn vc) T (w2.alloc (.cells #[.slice va vn vc, .slice la 4 lc, .slice pa 3 pc] 38)) la 4 lc pa 3 pc) := Lib.hid (fun hp => BusAt.start hrb hfq hlt hold b1 z1 (hT.fresh (Nat.le_refl _)) hp r0 r1 r2 rf _)
  have HRB := Lib.hid hrb
  have HFQ := Lib.hid hfq
  clear h hT hrb hfq b1 r0 r1 r2 rf hold
  obtain ⟨i0, ki, kz0, kz1, kz2⟩ := info_parts infoReq
  go_enter Try.func67, Try.ntmps67
  go_upto_region 1 with fail
  rw [← hw1]
  clear hw1
  go_wp2_with fail
  refine (l20Bus_any (w.heap.size :: L0) rb fq N 6 (by omega) (by omega) (by omega) T0 _ (by simp [HRB.out]) (fun b hb => by simp [HFQ.out b hb]) H1.out HT1.out).mono ?_
  rintro e w2 ⟨T, lm, fm, va, vn, vc, la, lc, pa, pc, hp, hml⟩
  obtain ⟨hC, hB⟩ := HF.out hp
  have HC := Lib.hid hC
  have HB := Lib.hid hB
  have HML := Lib.hid hml
  have HHS : Hid (∀ b, b ∈ L0 → b ∈ w2.heap.size :: w.heap.size :: L0) := Lib.hid (fun b hb => by simp [hb])
  have e0 := hp.ret
  clear hp hC hB hml HF H1 HT1
  rw [e0]
  clear e0
  obtain ⟨pb, po, rfl⟩ := HB.out.prg.t.addr (by omega)
  have c0 := HB.out.c0
  have f0 := HB.out.fr 0
  obtain ⟨w3, hw3⟩ : ∃ z, z = w2.alloc (.cells #[.slice va vn vc, .slice la 4 lc, .slice (some ⟨pb, po, none⟩) 3 pc] 38) := ⟨_, rfl⟩
  rw [← hw3] at HB c0 f0
  go_upto_region 2 with fail
  rw [← hw3]
  clear hw3
  generalize hbx : w2.heap.size = bx at *
  generalize hcx : w.heap.size = cx at *
  obtain ⟨L, hL⟩ : ∃ z, z = bx :: cx :: L0 := ⟨_, rfl⟩
  rw [← hL] at HC HB HHS
  clear hL
  have nbx : bx ∉ [rb] := by simpa using HC.out.n1
  have hbl : bx < w3.heap.size := HB.out.th.old bx HC.out.hbx
  have bm := below_alloc w3 (.cells #[.int .i64 0, .int .i64 15, .int .i64 0, .bool false, .int .i64 16, .int .i64 31, .int .i64 1, .bool false, .int .i64 32, .int .i64 47, .int .i64 2, .bool false] 31)
  have hlit : OwnR 4 MrC 31 w3.heap.size (w3.alloc (.cells #[.int .i64 0, .int .i64 15, .int .i64 0, .bool false, .int .i64 16, .int .i64 31, .int .i64 1, .bool false, .int .i64 32, .int .i64 47, .int .i64 2, .bool false] 31)) (.slice (some ⟨w3.heap.size, 0, none⟩) 3 3) ([⟨0, 15, 0, false⟩, ⟨16, 31, 1, false⟩, ⟨32, 47, 2, false⟩] : List MR) := OwnR.lit w3 _ 3 _ MrC_len rfl rfl (Nat.le_refl _) (by decide)
  obtain ⟨fm2, hms, hfm, -⟩ := OwnR.reads MrC_len hlit
  clear hlit
  have hF := Fz.new HB.out.th (bm.chg []) hfm (fun b hb => hms.lt mrR_fits b hb)
  have hB5 := (HB.out.below HC.out bm).setMap HC.out hms hF
  rw [World.setCell_alloc_past _ bx 0 _ hbl] at hB5
  have HB5 := Lib.hid hB5
  clear hB5
  clear HML hms hfm hF bm
  obtain ⟨lm, hlm⟩ : ∃ z : List MR, z = [⟨0, 15, 0, false⟩, ⟨16, 31, 1, false⟩, ⟨32, 47, 2, false⟩] := ⟨_, rfl⟩
  rw [← hlm] at HB5
  have HML : Hid (lm.length ≤ 7) := Lib.hid (by rw [hlm]; decide)
  clear hlm HB
  go_upto_region 3 with fail
  clear c0 f0
  go_wp2_with fail
  go_loopw [4] (fun i wr => ∃ (k : Nat) (T : Tab), k ≤ 3 ∧ i = .int .i64 k ∧ BusAt gFit L rb bx cx fq T0 w (N + 200000 + 10 * (k : Int)) lm fm2 (.slice (some ⟨w3.heap.size, 0, none⟩) 3 3) T wr la 4 lc (some ⟨pb, po, none⟩) 3 pc) (fun i _ => 3 - (intOf i).toNat)
  case atStart => exact ⟨0, T, by omega, rfl, HB5.out.mono (by omega)⟩
  case round =>
    clear HB5
    obtain ⟨k, T, hk, rfl, hba⟩ := hrel
    have HB := Lib.hid hba
    clear hba
    generalize w3.heap.size = mb at *
    have fm := fm2
    by_cases hlt3 : k < 3
    · have hlt3i : (k : Int) < 3 := by omega
      obtain ⟨t8, s8, a8⟩ := HB.out.th.lit0 2 26
      have HB3 := Lib.hid (HB.out.step HC.out t8 s8)
      have HA8 := Lib.hid a8
      clear t8 s8 a8 HB
      go_wp2_with fail
      go_loopw [5, 6] (fun v i wr => ∃ (j : Nat) (T : Tab) (a : Option Addr) (m c : Nat), j ≤ 12 ∧ v = .slice a m c ∧ i = .int .i64 j ∧ BusAt gFit L rb bx cx fq T0 w (N + 200000 + 10 * (k : Int)) lm fm2 (.slice (some ⟨mb, 0, none⟩) 3 3) T wr la 4 lc (some ⟨pb, po, none⟩) 3 pc ∧ SlA T 2 a m c ∧ m ≤ j) (fun _ i _ => 12 - (intOf i).toNat)
      case atStart => exact ⟨0, _, _, 0, 0, by omega, rfl, rfl, HB3.out, HA8.out, by omega⟩
      case round =>
        obtain ⟨j, T, a, m, c, hj, rfl, rfl, hba, ha, hmj⟩ := hrel
        have HB := Lib.hid hba
        have HA := Lib.hid ha
        obtain ⟨ya, yn, yc, y0, hya, hy12, -⟩ := HB.out.prg.t.row hlt3 HB.out.th
        have hyn : yn ≤ 12 := hy12
        have c2 := HB.out.c2
        clear hba ha HB3 HA8 hy12
        by_cases hjy : j < yn
        · have hjyi : (j : Int) < (yn : Int) := by omega
          obtain ⟨qb, qo, x, da, dn, dc, ea, en, ec, fd, fl', rfl, hq, hd, he, hu⟩ := hya.t.req hjy HB.out.th
          have q0 := hq 0 (by simp)
          have q1 := hq 1 (by simp)
          have q2 := hq 2 (by simp)
          have q3 := hq 3 (by simp)
          have q4 := hq 4 (by simp)
          have q5 := hq 5 (by simp)
          have q6 := hq 6 (by simp)
          simp only [Nat.add_zero, List.getElem_cons_zero, List.getElem_cons_succ] at q0 q1 q2 q3 q4 q5 q6
          obtain ⟨w5, hw5⟩ : ∃ z, z = wr.alloc (.cells #[.int .i64 x.id, .int .i64 x.kind, .int .i64 x.addr, .int .i64 x.many, .bool x.wrap, .slice da dn dc, .slice ea en ec] 26) := ⟨_, rfl⟩
          have ba : Below wr.heap.size wr w5 := by rw [hw5]; exact below_alloc _ _
          have k0 : w5.cell? ⟨wr.heap.size, 0, none⟩ = some (.int .i64 x.id) := by rw [hw5]; exact alloc1_new _ _ _ 0 rfl
          have k1 : w5.cell? ⟨wr.heap.size, 1, none⟩ = some (.int .i64 x.kind) := by rw [hw5]; exact alloc1_new _ _ _ 1 rfl
          have k2 : w5.cell? ⟨wr.heap.size, 2, none⟩ = some (.int .i64 x.addr) := by rw [hw5]; exact alloc1_new _ _ _ 2 rfl
          have k3 : w5.cell? ⟨wr.heap.size, 3, none⟩ = some (.int .i64 x.many) := by rw [hw5]; exact alloc1_new _ _ _ 3 rfl
          have k4 : w5.cell? ⟨wr.heap.size, 4, none⟩ = some (.bool x.wrap) := by rw [hw5]; exact alloc1_new _ _ _ 4 rfl
          have k5 : w5.cell? ⟨wr.heap.size, 5, none⟩ = some (.slice da dn dc) := by rw [hw5]; exact alloc1_new _ _ _ 5 rfl
          have k6 : w5.cell? ⟨wr.heap.size, 6, none⟩ = some (.slice ea en ec) := by rw [hw5]; exact alloc1_new _ _ _ 6 rfl
          have HB5 := Lib.hid (HB.out.below HC.out ba)
          have HD := Lib.hid (SlR.below intR_fits hd ba)
          have HE := Lib.hid (SlR.below intR_fits he ba)
          have HU := Lib.hid (hu.step (Step.of_below [] ba) (by simp))
          clear HB hq hd he hu ba
          go_upto_region 11 with fail
          rw [← hw5]
          clear hw5 q0 q1 q2 q3 q4 q5 q6 y0
          generalize wr.heap.size = qx at *
          have HB := HB5
          clear HB5
          replace c2 := HB.out.c2
          have c0 := HB.out.c0
          obtain ⟨s, hs⟩ : ∃ z, reqSlave lm x = z := ⟨_, rfl⟩
          go_wp2_with fail
          refine (sReqSlave_any _ lm fm2 x _ _ fd fl' _ HB.out.mp HD.out HE.out).mono ?_
          rintro e w6 ⟨rfl, b⟩
          rw [hs]
          have HBn := Lib.hid (HB.out.below HC.out b)
          replace HU := Lib.hid (HU.out.step (Step.of_below [] b) (by simp))
          replace HD := Lib.hid (SlR.below intR_fits HD.out b)
          replace HE := Lib.hid (SlR.below intR_fits HE.out b)
          replace k0 := keep_cell b k0
          replace k1 := keep_cell b k1
          replace k2 := keep_cell b k2
          replace k3 := keep_cell b k3
          replace k4 := keep_cell b k4
          replace k5 := keep_cell b k5
          replace k6 := keep_cell b k6
          clear HB b
          have HB := HBn
          clear HBn
          replace c0 := HB.out.c0
          replace c2 := HB.out.c2
          cases qa : (s == 0)
          · cases qb : ((k : Int) == 0)
            · skip
              go_wp2_with fail
              refine (sReqSlave_any _ lm fm2 x _ _ fd fl' _ HB.out.mp HD.out HE.out).mono ?_
              rintro e w7 ⟨rfl, b⟩
              rw [hs]
              have HBn := Lib.hid (HB.out.below HC.out b)
              replace HU := Lib.hid (HU.out.step (Step.of_below [] b) (by simp))
              replace HD := Lib.hid (SlR.below intR_fits HD.out b)
              replace HE := Lib.hid (SlR.below intR_fits HE.out b)
              replace k0 := keep_cell b k0
              replace k1 := keep_cell b k1
              replace k2 := keep_cell b k2
              replace k3 := keep_cell b k3
              replace k4 := keep_cell b k4
              replace k5 := keep_cell b k5
              replace k6 := keep_cell b k6
              clear HB b
              have HB := HBn
              clear HBn
              replace c0 := HB.out.c0
              replace c2 := HB.out.c2
              cases qc : (s != 3)
              · go_wp2
                go_roundw
                case rel => exact ⟨j + 1, T, a, m, c, by omega, rfl, by go_num, HB.out, HA.out, by omega⟩
                case measure => simp [intOf]; omega
              · skip
                have ba := below_alloc w7 (.cells #[.int .i64 x.id, .int .i64 x.kind, .int .i64 x.addr, .int .i64 x.many, .bool x.wrap, .slice da dn dc, .slice ea en ec] 26)
                have HBa := Lib.hid (HB.out.below HC.out ba)
                have HUa : Hid (UnitOk gFit L T (w7.alloc (.cells #[.int .i64 x.id, .int .i64 x.kind, .int .i64 x.addr, .int .i64 x.many, .bool x.wrap, .slice da dn dc, .slice ea en ec] 26)) 2 [.int .i64 x.id, .int .i64 x.kind, .int .i64 x.addr, .int .i64 x.many, .bool x.wrap, .slice da dn dc, .slice ea en ec]) := Lib.hid (HU.out.step (Step.of_below [] ba) (by simp))
                have hcell : ∀ (j : Nat) (hj : j < ([.int .i64 x.id, .int .i64 x.kind, .int .i64 x.addr, .int .i64 x.many, .bool x.wrap, .slice da dn dc, .slice ea en ec] : List Value).length), (w7.alloc (.cells #[.int .i64 x.id, .int .i64 x.kind, .int .i64 x.addr, .int .i64 x.many, .bool x.wrap, .slice da dn dc, .slice ea en ec] 26)).cell? ((⟨w7.heap.size, 0, none⟩ : Addr).add j) = some ([.int .i64 x.id, .int .i64 x.kind, .int .i64 x.addr, .int .i64 x.many, .bool x.wrap, .slice da dn dc, .slice ea en ec] : List Value)[j] := alloc1_news w7 _ _
                clear ba HU HD HE
                go_wp2_with (at_builtin; refine wpList_appendT (k := 2) (cs := [.int .i64 x.id, .int .i64 x.kind, .int .i64 x.addr, .int .i64 x.many, .bool x.wrap, .slice da dn dc, .slice ea en ec]) rfl _ _ 41 26 i0 (.agg #[.int .i64 0, .int .i64 0, .int .i64 0, .int .i64 0, .bool false, .slice none 0 0, .slice none 0 0]) 88 rfl Try.underlying41 ki kz0 kz1 kz2 rfl (by decide) rfl rfl HBa.out.th HA.out rfl HUa.out hcell (by simp [Value.oneCell']) (by omega) ?_; intro ao' cap' T' w8 t8 s8 a8; have HB8 := Lib.hid (HBa.out.step HC.out t8 s8); have A8 := Lib.hid a8; clear t8 s8 a8 hcell HBa HUa)
                go_roundw
                case rel => exact ⟨j + 1, T', ao', (m + 1), cap', by omega, rfl, by go_num, HB8.out, A8.out, by omega⟩
                case measure => simp [intOf]; omega
            · go_wp2
              go_roundw
              case rel => exact ⟨j + 1, T, a, m, c, by omega, rfl, by go_num, HB.out, HA.out, by omega⟩
              case measure => simp [intOf]; omega
          · cases qb : ((k : Int) == 0)
            · go_wp2
              go_roundw
              case rel => exact ⟨j + 1, T, a, m, c, by omega, rfl, by go_num, HB.out, HA.out, by omega⟩
              case measure => simp [intOf]; omega
            · skip
              go_wp2_with fail
              refine (sReqSlave_any _ lm fm2 x _ _ fd fl' _ HB.out.mp HD.out HE.out).mono ?_
              rintro e w7 ⟨rfl, b⟩
              rw [hs]
              have HBn := Lib.hid (HB.out.below HC.out b)
              replace HU := Lib.hid (HU.out.step (Step.of_below [] b) (by simp))
              replace HD := Lib.hid (SlR.below intR_fits HD.out b)
              replace HE := Lib.hid (SlR.below intR_fits HE.out b)
              replace k0 := keep_cell b k0
              replace k1 := keep_cell b k1
              replace k2 := keep_cell b k2
              replace k3 := keep_cell b k3
              replace k4 := keep_cell b k4
              replace k5 := keep_cell b k5
              replace k6 := keep_cell b k6
              clear HB b
              have HB := HBn
              clear HBn
              replace c0 := HB.out.c0
              replace c2 := HB.out.c2
              cases qc : (s != 3)
              · go_wp2
                go_roundw
                case rel => exact ⟨j + 1, T, a, m, c, by omega, rfl, by go_num, HB.out, HA.out, by omega⟩
                case measure => simp [intOf]; omega
              · skip
                have ba := below_alloc w7 (.cells #[.int .i64 x.id, .int .i64 x.kind, .int .i64 x.addr, .int .i64 x.many, .bool x.wrap, .slice da dn dc, .slice ea en ec] 26)
                have HBa := Lib.hid (HB.out.below HC.out ba)
                have HUa : Hid (UnitOk gFit L T (w7.alloc (.cells #[.int .i64 x.id, .int .i64 x.kind, .int .i64 x.addr, .int .i64 x.many, .bool x.wrap, .slice da dn dc, .slice ea en ec] 26)) 2 [.int .i64 x.id, .int .i64 x.kind, .int .i64 x.addr, .int .i64 x.many, .bool x.wrap, .slice da dn dc, .slice ea en ec]) := Lib.hid (HU.out.step (Step.of_below [] ba) (by simp))
                have hcell : ∀ (j : Nat) (hj : j < ([.int .i64 x.id, .int .i64 x.kind, .int .i64 x.addr, .int .i64 x.many, .bool x.wrap, .slice da dn dc, .slice ea en ec] : List Value).length), (w7.alloc (.cells #[.int .i64 x.id, .int .i64 x.kind, .int .i64 x.addr, .int .i64 x.many, .bool x.wrap, .slice da dn dc, .slice ea en ec] 26)).cell? ((⟨w7.heap.size, 0, none⟩ : Addr).add j) = some ([.int .i64 x.id, .int .i64 x.kind, .int .i64 x.addr, .int .i64 x.many, .bool x.wrap, .slice da dn dc, .slice ea en ec] : List Value)[j] := alloc1_news w7 _ _
                clear ba HU HD HE
                go_wp2_with (at_builtin; refine wpList_appendT (k := 2) (cs := [.int .i64 x.id, .int .i64 x.kind, .int .i64 x.addr, .int .i64 x.many, .bool x.wrap, .slice da dn dc, .slice ea en ec]) rfl _ _ 41 26 i0 (.agg #[.int .i64 0, .int .i64 0, .int .i64 0, .int .i64 0, .bool false, .slice none 0 0, .slice none 0 0]) 88 rfl Try.underlying41 ki kz0 kz1 kz2 rfl (by decide) rfl rfl HBa.out.th HA.out rfl HUa.out hcell (by simp [Value.oneCell']) (by omega) ?_; intro ao' cap' T' w8 t8 s8 a8; have HB8 := Lib.hid (HBa.out.step HC.out t8 s8); have A8 := Lib.hid a8; clear t8 s8 a8 hcell HBa HUa)
                go_roundw
                case rel => exact ⟨j + 1, T', ao', (m + 1), cap', by omega, rfl, by go_num, HB8.out, A8.out, by omega⟩
                case measure => simp [intOf]; omega
        · have hjyi : ¬ (j : Int) < (yn : Int) := by omega
          cases qb : ((k : Int) == 0)
          · go_upto_region 15 with fail
            have c2 := HB.out.c2
            obtain ⟨mk, hmk⟩ : ∃ z, z = m := ⟨_, rfl⟩
            obtain ⟨mm, hmm⟩ : ∃ z, z = min mk 12 := ⟨_, rfl⟩
            have HA' := Lib.hid (show SlA T 2 a mk c by rw [hmk]; exact HA.out)
            have hml : mm ≤ mk := by omega
            have hm12 : mm ≤ 12 := by omega
            have HMM := Lib.hid hmm
            have hcp : mm ≤ c := Nat.le_trans hml HA'.out.1
            have hcpi : (mm : Int) ≤ (c : Int) := by omega
            rw [← hmk]
            clear hmm HA hmk
            have hst : ∀ F, F ∈ [FEq (.pointer (some ⟨bx, 2, none⟩)), FEq (.slice (some ⟨pb, po, none⟩) 3 pc), FEq (.int .i64 (k : Int)), FEq (.slice a mk c), FEq (.slice a mk c), FEq (.int .i64 (mk : Int)), FEq (.int .i64 (mm : Int)), FEq (.slice a mm c)] → Stable [] F := by
              simp only [List.forall_mem_cons]
              exact ⟨stEq _ _, stEq _ _, stEq _ _, stEq _ _, stEq _ _, stEq _ _, stEq _ _, stEq _ _, fun _ h => by simp at h⟩
            refine wp_region_tail (by kernel_rfl) (fun i => ([[], [0], [], [], [], [4], [4, 5], [3, 4, 5, 6], [0, 1, 2, 3, 4, 5, 6, 7], [0, 1, 2, 3, 4, 5, 6, 7, 8]] : List (List Nat)).getD i []) (facts [FEq (.pointer (some ⟨bx, 2, none⟩)), FEq (.slice (some ⟨pb, po, none⟩) 3 pc), FEq (.int .i64 (k : Int)), FEq (.slice a mk c), FEq (.slice a mk c), FEq (.int .i64 (mk : Int)), FEq (.int .i64 (mm : Int)), FEq (.slice a mm c)]) (fun m w' => Below wr.heap.size wr w') 75 10 8 [some 65, some 66, some 67, some 68, some 69, some 70, some 71, some 72] _ rfl rfl (by decide) rfl rfl (by kernel_rfl) (by kernel_rfl) [] (by kernel_rfl) (fun g b hm v w h => by simp at hm) ?h0 (all_lt (n := 8) ?hop) ?hend
            case h0 => exact (Below.refl _ _).drew
            case hop =>
              refine ⟨⟨⟨⟨⟨⟨⟨⟨trivial, ?_⟩, ?_⟩, ?_⟩, ?_⟩, ?_⟩, ?_⟩, ?_⟩, ?_⟩
              · refine Owes.mk _ rfl rfl (fun _ _ h => by cases h) fun u m w' hm hI hR => ⟨⟨#[undef, undef, undef, .pointer (some ⟨bx, 0, none⟩), undef, undef, undef, undef, undef, undef, undef, undef, undef, undef, undef, undef, undef, undef, undef, undef, undef, undef, undef, undef, undef, undef, undef, undef, undef, undef, undef, undef, undef, undef, undef, undef, undef, undef, undef, undef, undef, undef, undef, undef, undef, undef, undef, undef, undef, undef, undef, undef, undef, undef, undef, undef, undef, undef, undef, undef, undef, undef, undef, undef, undef, undef, undef, undef, undef, undef, undef, undef, undef, undef, undef], []⟩, rfl, fun d hd => by cases hd; exact (by decide : 65 < 75), ?_⟩
                have k0 := keep_cell hI c2
                have HI := Lib.hid hI
                clear hI hst hR
                go_wp2
                exact ⟨rfl, _, rfl, rfl, HI.out, fun _ _ h => h⟩
              · refine Owes.mk _ rfl rfl (fun _ _ h => by cases h) fun u m w' hm hI hR => ⟨⟨#[undef, undef, undef, undef, undef, undef, undef, undef, undef, undef, undef, undef, undef, undef, undef, undef, undef, undef, undef, undef, undef, undef, undef, undef, undef, undef, undef, undef, undef, undef, undef, undef, undef, undef, undef, undef, undef, undef, undef, undef, undef, undef, undef, undef, undef, undef, undef, undef, undef, undef, undef, undef, undef, undef, undef, undef, undef, undef, undef, undef, undef, undef, undef, undef, undef, u 0, undef, undef, undef, undef, undef, undef, undef, undef, undef], []⟩, rfl, fun d hd => by cases hd; exact (by decide : 66 < 75), ?_⟩
                have e0 : u 0 = _ := hR 0 (by decide)
                have k0 := keep_cell hI c2
                have HI := Lib.hid hI
                clear hI hst hR
                rw [e0]
                clear e0
                go_wp2
                exact ⟨rfl, _, rfl, rfl, HI.out, fun _ _ h => h⟩
              · refine Owes.mk _ rfl rfl (fun _ _ h => by cases h) fun u m w' hm hI hR => ⟨⟨#[undef, undef, undef, undef, .int .i64 (k : Int), undef, undef, undef, undef, undef, undef, undef, undef, undef, undef, undef, undef, undef, undef, undef, undef, undef, undef, undef, undef, undef, undef, undef, undef, undef, undef, undef, undef, undef, undef, undef, undef, undef, undef, undef, undef, undef, undef, undef, undef, undef, undef, undef, undef, undef, undef, undef, undef, undef, undef, undef, undef, undef, undef, undef, undef, undef, undef, undef, undef, undef, undef, undef, undef, undef, undef, undef, undef, undef, undef], []⟩, rfl, fun d hd => by cases hd; exact (by decide : 67 < 75), ?_⟩
                have k0 := keep_cell hI c2
                have HI := Lib.hid hI
                clear hI hst hR
                go_wp2
                exact ⟨rfl, _, rfl, rfl, HI.out, fun _ _ h => h⟩
              · refine Owes.mk _ rfl rfl (fun _ _ h => by cases h) fun u m w' hm hI hR => ⟨⟨#[undef, undef, undef, undef, undef, .slice a mk c, undef, undef, undef, undef, undef, undef, undef, undef, undef, undef, undef, undef, undef, undef, undef, undef, undef, undef, undef, undef, undef, undef, undef, undef, undef, undef, undef, undef, undef, undef, undef, undef, undef, undef, undef, undef, undef, undef, undef, undef, undef, undef, undef, undef, undef, undef, undef, undef, undef, undef, undef, undef, undef, undef, undef, undef, undef, undef, undef, undef, undef, undef, undef, undef, undef, undef, undef, undef, undef], []⟩, rfl, fun d hd => by cases hd; exact (by decide : 68 < 75), ?_⟩
                have k0 := keep_cell hI c2
                have HI := Lib.hid hI
                clear hI hst hR
                go_wp2
                exact ⟨rfl, _, rfl, rfl, HI.out, fun _ _ h => h⟩
              · refine Owes.mk _ rfl rfl (fun _ _ h => by cases h) fun u m w' hm hI hR => ⟨⟨#[undef, undef, undef, undef, undef, .slice a mk c, undef, undef, undef, undef, undef, undef, undef, undef, undef, undef, undef, undef, undef, undef, undef, undef, undef, undef, undef, undef, undef, undef, undef, undef, undef, undef, undef, undef, undef, undef, undef, undef, undef, undef, undef, undef, undef, undef, undef, undef, undef, undef, undef, undef, undef, undef, undef, undef, undef, undef, undef, undef, undef, undef, undef, undef, undef, undef, undef, undef, undef, undef, undef, undef, undef, undef, undef, undef, undef], []⟩, rfl, fun d hd => by cases hd; exact (by decide : 69 < 75), ?_⟩
                have k0 := keep_cell hI c2
                have HI := Lib.hid hI
                clear hI hst hR
                go_wp2
                exact ⟨rfl, _, rfl, rfl, HI.out, fun _ _ h => h⟩
              · refine Owes.mk _ rfl rfl (fun _ _ h => by cases h) fun u m w' hm hI hR => ⟨⟨#[undef, undef, undef, undef, undef, undef, undef, undef, undef, undef, undef, undef, undef, undef, undef, undef, undef, undef, undef, undef, undef, undef, undef, undef, undef, undef, undef, undef, undef, undef, undef, undef, undef, undef, undef, undef, undef, undef, undef, undef, undef, undef, undef, undef, undef, undef, undef, undef, undef, undef, undef, undef, undef, undef, undef, undef, undef, undef, undef, undef, undef, undef, undef, undef, undef, undef, undef, undef, undef, u 4, undef, undef, undef, undef, undef], []⟩, rfl, fun d hd => by cases hd; exact (by decide : 70 < 75), ?_⟩
                have e4 : u 4 = _ := hR 4 (by decide)
                have k0 := keep_cell hI c2
                have HI := Lib.hid hI
                clear hI hst hR
                rw [e4]
                clear e4
                go_wp2
                exact ⟨rfl, _, rfl, rfl, HI.out, fun _ _ h => h⟩
              · refine Owes.mk _ rfl rfl (fun _ _ h => by cases h) fun u m w' hm hI hR => ⟨⟨#[undef, undef, undef, undef, undef, undef, undef, undef, undef, undef, undef, undef, undef, undef, undef, undef, undef, undef, undef, undef, undef, undef, undef, undef, undef, undef, undef, undef, undef, undef, undef, undef, undef, undef, undef, undef, undef, undef, undef, undef, undef, undef, undef, undef, undef, undef, undef, undef, undef, undef, undef, undef, undef, undef, undef, undef, undef, undef, undef, undef, undef, undef, undef, undef, undef, undef, undef, undef, undef, undef, u 5, undef, undef, undef, undef], []⟩, rfl, fun d hd => by cases hd; exact (by decide : 71 < 75), ?_⟩
                have e5 : u 5 = _ := hR 5 (by decide)
                have k0 := keep_cell hI c2
                rw [e5]
                clear e5
                have HI := Lib.hid hI
                clear hI hst hR
                go_wp2
                all_goals exact ⟨rfl, _, rfl, (by show Value.int .i64 _ = Value.int .i64 _; congr 1; have := HMM.out; omega), HI.out, fun _ _ h => h⟩
              · refine Owes.mk _ rfl rfl (fun _ _ h => by cases h) fun u m w' hm hI hR => ⟨⟨#[undef, undef, undef, undef, undef, undef, undef, undef, undef, undef, undef, undef, undef, undef, undef, undef, undef, undef, undef, undef, undef, undef, undef, undef, undef, undef, undef, undef, undef, undef, undef, undef, undef, undef, undef, undef, undef, undef, undef, undef, undef, undef, undef, undef, undef, undef, undef, undef, undef, undef, undef, undef, undef, undef, undef, undef, undef, undef, undef, undef, undef, undef, undef, undef, undef, undef, undef, undef, u 3, undef, undef, u 6, undef, undef, undef], []⟩, rfl, fun d hd => by cases hd; exact (by decide : 72 < 75), ?_⟩
                have e3 : u 3 = _ := hR 3 (by decide)
                have e6 : u 6 = _ := hR 6 (by decide)
                have k0 := keep_cell hI c2
                have HI := Lib.hid hI
                clear hI hst hR
                rw [e3, e6]
                clear e3 e6
                go_wp2
                exact ⟨rfl, _, rfl, rfl, HI.out, fun _ _ h => h⟩
            case hend =>
              intro u w' hI hR
              simp only [setAll, List.set_cons_zero, List.set_cons_succ]
              have e1 : u 1 = _ := hR 1 (by decide)
              have e2 : u 2 = _ := hR 2 (by decide)
              have e7 : u 7 = _ := hR 7 (by decide)
              rw [e1, e2, e7]
              have HB2 := Lib.hid (HB.out.below HC.out hI)
              obtain ⟨⟨uu, cu, -⟩, fu, T9, t9, s9⟩ := HB2.out.th.store HB2.out.prg.t hlt3 rfl (v := .slice a mm c) ⟨a, mm, c, rfl, HA'.out.take hml, hm12⟩
              have HB9 : Hid (BusAt gFit L rb bx cx fq T0 w (N + 200000 + 10 * ((k + 1 : Nat) : Int)) lm fm2 (.slice (some ⟨mb, 0, none⟩) 3 3) T9 _ la 4 lc (some ⟨pb, po, none⟩) 3 pc) := Lib.hid ((HB2.out.step HC.out t9 s9).mono (by omega))
              clear hR hI hst e1 e2 e7 t9 s9 HB2 HB c2
              go_wp2
              go_roundw
              case rel => exact ⟨k + 1, T9, by omega, by go_num, HB9.out⟩
              case measure => simp [intOf]; omega
          · go_wp2_with fail
            refine (pick_any rb fq (N + 200000 + 10 * (k : Int)) 12 (by omega) (by omega) (by omega) _ HB.out.rd).mono ?_
            rintro e w7 ⟨x7, rfl, lo7, hi7, h1, h2⟩
            have HB7 := Lib.hid (HB.out.draw HC.out h2 h1)
            clear h1 h2 HB y0 c2
            have HB := HB7
            clear HB7
            have ba := below_alloc w7 (.cells #[.int .i64 0, .int .i64 1, .int .i64 x7, .int .i64 4, .bool false, .slice none 0 0, .slice none 0 0] 26)
            have HBa := Lib.hid (HB.out.below HC.out ba)
            have HUa : Hid (UnitOk gFit L T (w7.alloc (.cells #[.int .i64 0, .int .i64 1, .int .i64 x7, .int .i64 4, .bool false, .slice none 0 0, .slice none 0 0] 26)) 2 [.int .i64 0, .int .i64 1, .int .i64 x7, .int .i64 4, .bool false, .slice none 0 0, .slice none 0 0]) := Lib.hid (ask_fit x7)
            have hcell : ∀ (j : Nat) (hj : j < ([.int .i64 0, .int .i64 1, .int .i64 x7, .int .i64 4, .bool false, .slice none 0 0, .slice none 0 0] : List Value).length), (w7.alloc (.cells #[.int .i64 0, .int .i64 1, .int .i64 x7, .int .i64 4, .bool false, .slice none 0 0, .slice none 0 0] 26)).cell? ((⟨w7.heap.size, 0, none⟩ : Addr).add j) = some ([.int .i64 0, .int .i64 1, .int .i64 x7, .int .i64 4, .bool false, .slice none 0 0, .slice none 0 0] : List Value)[j] := alloc1_news w7 _ _
            clear ba
            go_upto_region 15 with (at_builtin; refine wpList_appendT (k := 2) (cs := [.int .i64 0, .int .i64 1, .int .i64 x7, .int .i64 4, .bool false, .slice none 0 0, .slice none 0 0]) rfl _ _ 41 26 i0 (.agg #[.int .i64 0, .int .i64 0, .int .i64 0, .int .i64 0, .bool false, .slice none 0 0, .slice none 0 0]) 88 rfl Try.underlying41 ki kz0 kz1 kz2 rfl (by decide) rfl rfl HBa.out.th HA.out rfl HUa.out hcell (by simp [Value.oneCell']) (by omega) ?_; intro ao' cap' T' w8 t8 s8 a8; have HB8 := Lib.hid (HBa.out.step HC.out t8 s8); have A8 := Lib.hid a8; clear t8 s8 a8 hcell HBa HUa)
            clear HB
            have HB := HB8
            clear HB8
            have c2 := HB.out.c2
            obtain ⟨mk, hmk⟩ : ∃ z, z = (m + 1) := ⟨_, rfl⟩
            obtain ⟨mm, hmm⟩ : ∃ z, z = min mk 12 := ⟨_, rfl⟩
            have HA' := Lib.hid (show SlA T' 2 ao' mk cap' by rw [hmk]; exact A8.out)
            have hml : mm ≤ mk := by omega
            have hm12 : mm ≤ 12 := by omega
            have HMM := Lib.hid hmm
            have hcp : mm ≤ cap' := Nat.le_trans hml HA'.out.1
            have hcpi : (mm : Int) ≤ (cap' : Int) := by omega
            rw [← hmk]
            clear hmm A8 hmk
            have hst : ∀ F, F ∈ [FEq (.pointer (some ⟨bx, 2, none⟩)), FEq (.slice (some ⟨pb, po, none⟩) 3 pc), FEq (.int .i64 (k : Int)), FEq (.slice ao' mk cap'), FEq (.slice ao' mk cap'), FEq (.int .i64 (mk : Int)), FEq (.int .i64 (mm : Int)), FEq (.slice ao' mm cap')] → Stable [] F := by
              simp only [List.forall_mem_cons]
              exact ⟨stEq _ _, stEq _ _, stEq _ _, stEq _ _, stEq _ _, stEq _ _, stEq _ _, stEq _ _, fun _ h => by simp at h⟩
            refine wp_region_tail (by kernel_rfl) (fun i => ([[], [0], [], [], [], [4], [4, 5], [3, 4, 5, 6], [0, 1, 2, 3, 4, 5, 6, 7], [0, 1, 2, 3, 4, 5, 6, 7, 8]] : List (List Nat)).getD i []) (facts [FEq (.pointer (some ⟨bx, 2, none⟩)), FEq (.slice (some ⟨pb, po, none⟩) 3 pc), FEq (.int .i64 (k : Int)), FEq (.slice ao' mk cap'), FEq (.slice ao' mk cap'), FEq (.int .i64 (mk : Int)), FEq (.int .i64 (mm : Int)), FEq (.slice ao' mm cap')]) (fun m w' => Below w8.heap.size w8 w') 75 10 8 [some 65, some 66, some 67, some 68, some 69, some 70, some 71, some 72] _ rfl rfl (by decide) rfl rfl (by kernel_rfl) (by kernel_rfl) [] (by kernel_rfl) (fun g b hm v w h => by simp at hm) ?h0 (all_lt (n := 8) ?hop) ?hend
            case h0 => exact (Below.refl _ _).drew
            case hop =>
              refine ⟨⟨⟨⟨⟨⟨⟨⟨trivial, ?_⟩, ?_⟩, ?_⟩, ?_⟩, ?_⟩, ?_⟩, ?_⟩, ?_⟩
              · refine Owes.mk _ rfl rfl (fun _ _ h => by cases h) fun u m w' hm hI hR => ⟨⟨#[undef, undef, undef, .pointer (some ⟨bx, 0, none⟩), undef, undef, undef, undef, undef, undef, undef, undef, undef, undef, undef, undef, undef, undef, undef, undef, undef, undef, undef, undef, undef, undef, undef, undef, undef, undef, undef, undef, undef, undef, undef, undef, undef, undef, undef, undef, undef, undef, undef, undef, undef, undef, undef, undef, undef, undef, undef, undef, undef, undef, undef, undef, undef, undef, undef, undef, undef, undef, undef, undef, undef, undef, undef, undef, undef, undef, undef, undef, undef, undef, undef], []⟩, rfl, fun d hd => by cases hd; exact (by decide : 65 < 75), ?_⟩
                have k0 := keep_cell hI c2
                have HI := Lib.hid hI
                clear hI hst hR
                go_wp2
                exact ⟨rfl, _, rfl, rfl, HI.out, fun _ _ h => h⟩
              · refine Owes.mk _ rfl rfl (fun _ _ h => by cases h) fun u m w' hm hI hR => ⟨⟨#[undef, undef, undef, undef, undef, undef, undef, undef, undef, undef, undef, undef, undef, undef, undef, undef, undef, undef, undef, undef, undef, undef, undef, undef, undef, undef, undef, undef, undef, undef, undef, undef, undef, undef, undef, undef, undef, undef, undef, undef, undef, undef, undef, undef, undef, undef, undef, undef, undef, undef, undef, undef, undef, undef, undef, undef, undef, undef, undef, undef, undef, undef, undef, undef, undef, u 0, undef, undef, undef, undef, undef, undef, undef, undef, undef], []⟩, rfl, fun d hd => by cases hd; exact (by decide : 66 < 75), ?_⟩
                have e0 : u 0 = _ := hR 0 (by decide)
                have k0 := keep_cell hI c2
                have HI := Lib.hid hI
                clear hI hst hR
                rw [e0]
                clear e0
                go_wp2
                exact ⟨rfl, _, rfl, rfl, HI.out, fun _ _ h => h⟩
              · refine Owes.mk _ rfl rfl (fun _ _ h => by cases h) fun u m w' hm hI hR => ⟨⟨#[undef, undef, undef, undef, .int .i64 (k : Int), undef, undef, undef, undef, undef, undef, undef, undef, undef, undef, undef, undef, undef, undef, undef, undef, undef, undef, undef, undef, undef, undef, undef, undef, undef, undef, undef, undef, undef, undef, undef, undef, undef, undef, undef, undef, undef, undef, undef, undef, undef, undef, undef, undef, undef, undef, undef, undef, undef, undef, undef, undef, undef, undef, undef, undef, undef, undef, undef, undef, undef, undef, undef, undef, undef, undef, undef, undef, undef, undef], []⟩, rfl, fun d hd => by cases hd; exact (by decide : 67 < 75), ?_⟩
                have k0 := keep_cell hI c2
                have HI := Lib.hid hI
                clear hI hst hR
                go_wp2
                exact ⟨rfl, _, rfl, rfl, HI.out, fun _ _ h => h⟩
              · refine Owes.mk _ rfl rfl (fun _ _ h => by cases h) fun u m w' hm hI hR => ⟨⟨#[undef, undef, undef, undef, undef, .slice ao' mk cap', undef, undef, undef, undef, undef, undef, undef, undef, undef, undef, undef, undef, undef, undef, undef, undef, undef, undef, undef, undef, undef, undef, undef, undef, undef, undef, undef, undef, undef, undef, undef, undef, undef, undef, undef, undef, undef, undef, undef, undef, undef, undef, undef, undef, undef, undef, undef, undef, undef, undef, undef, undef, undef, undef, undef, undef, undef, undef, undef, undef, undef, undef, undef, undef, undef, undef, undef, undef, undef], []⟩, rfl, fun d hd => by cases hd; exact (by decide : 68 < 75), ?_⟩
                have k0 := keep_cell hI c2
                have HI := Lib.hid hI
                clear hI hst hR
                go_wp2
                exact ⟨rfl, _, rfl, rfl, HI.out, fun _ _ h => h⟩
              · refine Owes.mk _ rfl rfl (fun _ _ h => by cases h) fun u m w' hm hI hR => ⟨⟨#[undef, undef, undef, undef, undef, .slice ao' mk cap', undef, undef, undef, undef, undef, undef, undef, undef, undef, undef, undef, undef, undef, undef, undef, undef, undef, undef, undef, undef, undef, undef, undef, undef, undef, undef, undef, undef, undef, undef, undef, undef, undef, undef, undef, undef, undef, undef, undef, undef, undef, undef, undef, undef, undef, undef, undef, undef, undef, undef, undef, undef, undef, undef, undef, undef, undef, undef, undef, undef, undef, undef, undef, undef, undef, undef, undef, undef, undef], []⟩, rfl, fun d hd => by cases hd; exact (by decide : 69 < 75), ?_⟩
                have k0 := keep_cell hI c2
                have HI := Lib.hid hI
                clear hI hst hR
                go_wp2
                exact ⟨rfl, _, rfl, rfl, HI.out, fun _ _ h => h⟩
              · refine Owes.mk _ rfl rfl (fun _ _ h => by cases h) fun u m w' hm hI hR => ⟨⟨#[undef, undef, undef, undef, undef, undef, undef, undef, undef, undef, undef, undef, undef, undef, undef, undef, undef, undef, undef, undef, undef, undef, undef, undef, undef, undef, undef, undef, undef, undef, undef, undef, undef, undef, undef, undef, undef, undef, undef, undef, undef, undef, undef, undef, undef, undef, undef, undef, undef, undef, undef, undef, undef, undef, undef, undef, undef, undef, undef, undef, undef, undef, undef, undef, undef, undef, undef, undef, undef, u 4, undef, undef, undef, undef, undef], []⟩, rfl, fun d hd => by cases hd; exact (by decide : 70 < 75), ?_⟩
                have e4 : u 4 = _ := hR 4 (by decide)
                have k0 := keep_cell hI c2
                have HI := Lib.hid hI
                clear hI hst hR
                rw [e4]
                clear e4
                go_wp2
                exact ⟨rfl, _, rfl, rfl, HI.out, fun _ _ h => h⟩
              · refine Owes.mk _ rfl rfl (fun _ _ h => by cases h) fun u m w' hm hI hR => ⟨⟨#[undef, undef, undef, undef, undef, undef, undef, undef, undef, undef, undef, undef, undef, undef, undef, undef, undef, undef, undef, undef, undef, undef, undef, undef, undef, undef, undef, undef, undef, undef, undef, undef, undef, undef, undef, undef, undef, undef, undef, undef, undef, undef, undef, undef, undef, undef, undef, undef, undef, undef, undef, undef, undef, undef, undef, undef, undef, undef, undef, undef, undef, undef, undef, undef, undef, undef, undef, undef, undef, undef, u 5, undef, undef, undef, undef], []⟩, rfl, fun d hd => by cases hd; exact (by decide : 71 < 75), ?_⟩
                have e5 : u 5 = _ := hR 5 (by decide)
                have k0 := keep_cell hI c2
                rw [e5]
                clear e5
                have HI := Lib.hid hI
                clear hI hst hR
                go_wp2
                all_goals exact ⟨rfl, _, rfl, (by show Value.int .i64 _ = Value.int .i64 _; congr 1; have := HMM.out; omega), HI.out, fun _ _ h => h⟩
              · refine Owes.mk _ rfl rfl (fun _ _ h => by cases h) fun u m w' hm hI hR => ⟨⟨#[undef, undef, undef, undef, undef, undef, undef, undef, undef, undef, undef, undef, undef, undef, undef, undef, undef, undef, undef, undef, undef, undef, undef, undef, undef, undef, undef, undef, undef, undef, undef, undef, undef, undef, undef, undef, undef, undef, undef, undef, undef, undef, undef, undef, undef, undef, undef, undef, undef, undef, undef, undef, undef, undef, undef, undef, undef, undef, undef, undef, undef, undef, undef, undef, undef, undef, undef, undef, u 3, undef, undef, u 6, undef, undef, undef], []⟩, rfl, fun d hd => by cases hd; exact (by decide : 72 < 75), ?_⟩
                have e3 : u 3 = _ := hR 3 (by decide)
                have e6 : u 6 = _ := hR 6 (by decide)
                have k0 := keep_cell hI c2
                have HI := Lib.hid hI
                clear hI hst hR
                rw [e3, e6]
                clear e3 e6
                go_wp2
                exact ⟨rfl, _, rfl, rfl, HI.out, fun _ _ h => h⟩
            case hend =>
              intro u w' hI hR
              simp only [setAll, List.set_cons_zero, List.set_cons_succ]
              have e1 : u 1 = _ := hR 1 (by decide)
              have e2 : u 2 = _ := hR 2 (by decide)
              have e7 : u 7 = _ := hR 7 (by decide)
              rw [e1, e2, e7]
              have HB2 := Lib.hid (HB.out.below HC.out hI)
              obtain ⟨⟨uu, cu, -⟩, fu, T9, t9, s9⟩ := HB2.out.th.store HB2.out.prg.t hlt3 rfl (v := .slice ao' mm cap') ⟨ao', mm, cap', rfl, HA'.out.take hml, hm12⟩
              have HB9 : Hid (BusAt gFit L rb bx cx fq T0 w (N + 200000 + 10 * ((k + 1 : Nat) : Int)) lm fm2 (.slice (some ⟨mb, 0, none⟩) 3 3) T9 _ la 4 lc (some ⟨pb, po, none⟩) 3 pc) := Lib.hid ((HB2.out.step HC.out t9 s9).mono (by omega))
              clear hR hI hst e1 e2 e7 t9 s9 HB2 HB c2
              go_wp2
              go_roundw
              case rel => exact ⟨k + 1, T9, by omega, by go_num, HB9.out⟩
              case measure => simp [intOf]; omega
    · obtain rfl : k = 3 := by omega
      have c0 := HB.out.c0
      have c1 := HB.out.c1
      have c2 := HB.out.c2
      obtain ⟨u0, r0⟩ := HB.out.r0
      obtain ⟨u1, r1⟩ := HB.out.r1
      obtain ⟨u2, r2⟩ := HB.out.r2
      have f0 := HB.out.fc 0
      have f1 := HB.out.fc 1
      have f2 := HB.out.fc 2
      go_wp2
      refine bodyPost_ret (v := .agg #[.slice (some ⟨mb, 0, none⟩) 3 3, .slice la 4 lc, .slice (some ⟨pb, po, none⟩) 3 pc]) (by simp [results, Try.results67, go_sem, put3_0 _ _ _ r0, put3_1 _ _ _ r1, put3_2 _ _ _ r2]) rfl ?_
      exact ⟨T, lm, fm2, _, _, _, la, lc, _, pc, (HB.out.mono (by omega)).done HC.out HHS.out ((store_chg _).trans' ((store_chg _).trans' (store_chg _))), HML.out⟩

end Go.Proofs.Ytmcjklicepaiaaa

namespace Go.Proofs.Ytmcjklicepaiaaa
open Go.RowKit Go.ChangeShapes Go.WideShapes

set_option maxRecDepth 100000 in
set_option maxHeartbeats 3200000 in
theorem drawBusApart_any (v : Value) (l : List Int) (fp : List Nat) (w : World) (g : ByteS w l v fp) :
    Calls Try.prog 20 #[v] w fun e w' => ∃ (x : Bus) (who : Int) (va la pa : Option Addr) (vn vc ln lc pn pc : Nat), e = .returned (.tuple #[.agg #[.slice va vn vc, .slice la ln lc, .slice pa pn pc], .int .i64 who]) ∧ -1 ≤ who ∧ who ≤ 3 ∧ BusRd w' x (.slice va vn vc) (.slice la ln lc) (.slice pa pn pc) ∧ x.map.length ≤ 7 ∧ Below w.heap.size w w' := by
  obtain ⟨w1, hw1⟩ : ∃ z, z = w.alloc (.cells #[.slice none 0 0, .slice none 0 0, .slice none 0 0] 38) := ⟨_, rfl⟩
  have b1 : Below w.heap.size w w1 := by rw [hw1]; exact below_alloc _ _
  have z1 : w.heap.size < w1.heap.size := by rw [hw1]; simp
  have r0 : w1.cell? ⟨w.heap.size, 0, none⟩ = some (.slice none 0 0) := by rw [hw1]; exact alloc1_new _ _ _ 0 rfl
  have r1 : w1.cell? ⟨w.heap.size, 1, none⟩ = some (.slice none 0 0) := by rw [hw1]; exact alloc1_new _ _ _ 1 rfl
  have r2 : w1.cell? ⟨w.heap.size, 2, none⟩ = some (.slice none 0 0) := by rw [hw1]; exact alloc1_new _ _ _ 2 rfl
  have rf : ∀ o, w1.frozen? ⟨w.heap.size, o, none⟩ = false := fun o => by rw [hw1]; exact alloc1_free _ _ _ _
  have G := Lib.hid (SlR.below byteR_fits g b1)
  have B := Lib.hid b1
  clear g b1
  go_enter Try.func20, Try.ntmps20
  go_upto_region 1 with fail
  rw [← hw1]
  clear hw1
  go_wp2_with fail
  refine (l20Open_any v l fp _ G.out).mono ?_
  rintro e w2 ⟨rb, fq, rfl, hrb, hfq, h0, b0⟩
  replace r0 := keep_cell b0 r0
  replace r1 := keep_cell b0 r1
  replace r2 := keep_cell b0 r2
  have f0 := keep_free b0 z1 (rf 0)
  have f1 := keep_free b0 z1 (rf 1)
  have f2 := keep_free b0 z1 (rf 2)
  have z2 := b0.size
  have hnr : w.heap.size ∉ [rb] := by simp; omega
  have hto : ∀ c, c ∈ w.heap.size :: rb :: fq → c < w2.heap.size := fun c hc => by
    rcases List.mem_cons.1 hc with rfl | hc
    · omega
    · rcases List.mem_cons.1 hc with rfl | hc
      · exact h0.lt
      · exact h0.old c hc
  have B0 := Lib.hid (B.out.trans (b0.mono B.out.size))
  have H0 := Lib.hid h0
  have HT0 := Lib.hid (TH.empty gFit (w.heap.size :: rb :: fq) w2 hto)
  have hrl := h0.lt
  clear h0 b0 rf hto
  go_wp2_with fail
  refine (pick_any rb fq 0 2 (by omega) (by omega) (by omega) _ H0.out).mono ?_
  rintro e w3 ⟨x3, rfl, lo3, hi3, h1, h2⟩
  replace r0 := keep_cell_chg h2 r0 hnr
  replace r1 := keep_cell_chg h2 r1 hnr
  replace r2 := keep_cell_chg h2 r2 hnr
  replace f0 := (World.frozen?_of_block (h2.block w.heap.size (by omega) hnr)).trans f0
  replace f1 := (World.frozen?_of_block (h2.block w.heap.size (by omega) hnr)).trans f1
  replace f2 := (World.frozen?_of_block (h2.block w.heap.size (by omega) hnr)).trans f2
  have z3 := h2.size
  have H3 := Lib.hid h1
  have HT3 := Lib.hid (HT0.out.chg h2 (by simp))
  have B3 := Lib.hid (((B0.out.chg [rb]).trans' h2).home (fun b hb => by simp at hb; omega))
  clear h1 h2 H0 HT0 B0
  cases q3 : (x3 == 0)
  · go_wp2_with fail
    refine (l20BusOr_any (w.heap.size :: rb :: fq) rb fq (0 + 1) 9 (by omega) (by omega) (by omega) _ _ (by simp) (fun b hb => by simp [hb]) H3.out HT3.out).mono ?_
    rintro e w4 ⟨T, lm, fm, va, vn, vc, la, ln, lc, pa, pn, pc, hp, hml⟩
    have hp0 := hp
    have c2 := hp.st.bare
    replace r0 := keep_cell_chg c2 r0 hnr
    replace r1 := keep_cell_chg c2 r1 hnr
    replace r2 := keep_cell_chg c2 r2 hnr
    replace f0 := (World.frozen?_of_block (c2.block w.heap.size (by omega) hnr)).trans f0
    replace f1 := (World.frozen?_of_block (c2.block w.heap.size (by omega) hnr)).trans f1
    replace f2 := (World.frozen?_of_block (c2.block w.heap.size (by omega) hnr)).trans f2
    have z4 := c2.size
    have HB4 := Lib.hid (((B3.out.chg [rb]).trans' c2).home (fun b hb => by simp at hb; omega))
    have HP := Lib.hid hp
    have HML := Lib.hid hml
    have H4 := Lib.hid hp.rd
    have e0 := hp.ret
    clear hp hml c2 H3 HT3 hp0
    rw [e0]
    clear e0
    go_wp2_with fail
    refine (pick_any rb fq _ 5 (by omega) (by omega) (by omega) _ H4.out).mono ?_
    rintro e w5 ⟨x5, rfl, lo5, hi5, h1, h2⟩
    replace r0 := keep_cell_chg h2 r0 hnr
    replace r1 := keep_cell_chg h2 r1 hnr
    replace r2 := keep_cell_chg h2 r2 hnr
    replace f0 := (World.frozen?_of_block (h2.block w.heap.size (by omega) hnr)).trans f0
    replace f1 := (World.frozen?_of_block (h2.block w.heap.size (by omega) hnr)).trans f1
    replace f2 := (World.frozen?_of_block (h2.block w.heap.size (by omega) hnr)).trans f2
    have HB5 := Lib.hid (((HB4.out.chg [rb]).trans' h2).home (fun b hb => by simp at hb; omega))
    have HC5 := Lib.hid h2
    clear h1 h2 H4
    go_wp2
    have hchg : Chg [w.heap.size] w5 (((w5.setCell ⟨w.heap.size, 0, none⟩ (.slice va vn vc)).setCell ⟨w.heap.size, 1, none⟩ (.slice la ln lc)).setCell ⟨w.heap.size, 2, none⟩ (.slice pa pn pc)) := (store_chg _).trans' ((store_chg _).trans' (store_chg _))
    obtain ⟨x, hx, hr⟩ := HP.out.reads (HC5.out.trans hchg) (by simp)
    refine bodyPost_ret (v := .tuple #[.agg #[.slice va vn vc, .slice la ln lc, .slice pa pn pc], .int .i64 (x5 - 1)]) (by simp [results, Try.results20, go_sem, put3_0 _ _ _ r0, put3_1 _ _ _ r1, put3_2 _ _ _ r2]) rfl ?_
    exact ⟨x, x5 - 1, va, la, pa, vn, vc, _, lc, _, pc, rfl, by omega, by omega, hr, by rw [hx]; exact HML.out, ((HB5.out.chg []).trans hchg).home (fun b hb => by simp at hb; omega)⟩
  · go_wp2_with fail
    refine (l20Apart_any (w.heap.size :: rb :: fq) rb fq (0 + 1) (by omega) _ _ (by simp) (fun b hb => by simp [hb]) H3.out HT3.out).mono ?_
    rintro e w4 ⟨T, lm, fm, va, vn, vc, la, lc, pa, pc, hp, hml⟩
    have hp0 := hp
    have c2 := hp.st.bare
    replace r0 := keep_cell_chg c2 r0 hnr
    replace r1 := keep_cell_chg c2 r1 hnr
    replace r2 := keep_cell_chg c2 r2 hnr
    replace f0 := (World.frozen?_of_block (c2.block w.heap.size (by omega) hnr)).trans f0
    replace f1 := (World.frozen?_of_block (c2.block w.heap.size (by omega) hnr)).trans f1
    replace f2 := (World.frozen?_of_block (c2.block w.heap.size (by omega) hnr)).trans f2
    have z4 := c2.size
    have HB4 := Lib.hid (((B3.out.chg [rb]).trans' c2).home (fun b hb => by simp at hb; omega))
    have HP := Lib.hid hp
    have HML := Lib.hid hml
    have H4 := Lib.hid hp.rd
    have e0 := hp.ret
    clear hp hml c2 H3 HT3 hp0
    rw [e0]
    clear e0
    go_wp2_with fail
    refine (pick_any rb fq _ 2 (by omega) (by omega) (by omega) _ H4.out).mono ?_
    rintro e w5 ⟨x5, rfl, lo5, hi5, h1, h2⟩
    replace r0 := keep_cell_chg h2 r0 hnr
    replace r1 := keep_cell_chg h2 r1 hnr
    replace r2 := keep_cell_chg h2 r2 hnr
    replace f0 := (World.frozen?_of_block (h2.block w.heap.size (by omega) hnr)).trans f0
    replace f1 := (World.frozen?_of_block (h2.block w.heap.size (by omega) hnr)).trans f1
    replace f2 := (World.frozen?_of_block (h2.block w.heap.size (by omega) hnr)).trans f2
    have HB5 := Lib.hid (((HB4.out.chg [rb]).trans' h2).home (fun b hb => by simp at hb; omega))
    have HC5 := Lib.hid h2
    clear h1 h2 H4
    go_wp2
    have hchg : Chg [w.heap.size] w5 (((w5.setCell ⟨w.heap.size, 0, none⟩ (.slice va vn vc)).setCell ⟨w.heap.size, 1, none⟩ (.slice la 4 lc)).setCell ⟨w.heap.size, 2, none⟩ (.slice pa 3 pc)) := (store_chg _).trans' ((store_chg _).trans' (store_chg _))
    obtain ⟨x, hx, hr⟩ := HP.out.reads (HC5.out.trans hchg) (by simp)
    refine bodyPost_ret (v := .tuple #[.agg #[.slice va vn vc, .slice la 4 lc, .slice pa 3 pc], .int .i64 (x5)]) (by simp [results, Try.results20, go_sem, put3_0 _ _ _ r0, put3_1 _ _ _ r1, put3_2 _ _ _ r2]) rfl ?_
    exact ⟨x, x5, va, la, pa, vn, vc, _, lc, _, pc, rfl, by omega, by omega, hr, by rw [hx]; exact HML.out, ((HB5.out.chg []).trans hchg).home (fun b hb => by simp at hb; omega)⟩

end Go.Proofs.Ytmcjklicepaiaaa

namespace Go.Proofs.Ytmcjklicepaiaaa
open Go.RowKit Go.ChangeShapes

/-- which stores one asks of, as four marks in a block -/
def OwnB (m : List MR) (P : List Req) (w : World) (q : Nat) : Prop := ∀ s : Nat, s < 4 → w.cell? ⟨q, s, none⟩ = some (.bool (P.any fun x => slaveOf m x == (s : Int)))

theorem own_any (q cb : Nat) (m : List MR) (P : List Req) (mv : Value) (mf : List Nat) (hm : mapOk m = true) (r : Req) (v0 v1 : Value) (w : World) (hown : OwnB m P w q) (hc : w.cell? ⟨cb, 0, none⟩ = some mv) (g : SlR 4 mrR w m mv mf) :
    Calls Try.prog 69 #[.agg #[.int .i64 r.id, .int .i64 r.kind, .int .i64 r.addr, .int .i64 r.many, .bool r.wrap, v0, v1], .pointer (some ⟨q, 0, none⟩), .pointer (some ⟨cb, 0, none⟩)] w fun e w' => e = .returned (.bool (asksOf m P r)) ∧ Below w.heap.size w w' := by
  obtain ⟨a0, n0, c0, rfl⟩ := g.form
  have hb := below_alloc w (.cells #[.int .i64 r.id, .int .i64 r.kind, .int .i64 r.addr, .int .i64 r.many, .bool r.wrap, v0, v1] 26)
  have G := Lib.hid (SlR.below mrR_fits g hb)
  have C := keep_cell hb hc
  have B := Lib.hid hb
  obtain ⟨s, hs⟩ := Int.eq_ofNat_of_zero_le (slaveOf_in (r := r) hm).1
  have hs4 : s < 4 := by have := (slaveOf_in (r := r) hm).2; omega
  have hs4' : (s : Int) < 4 := by omega
  have O := keep_cell hb (hown s hs4)
  have HS := Lib.hid hs
  have HF : Hid (asksOf m P r = P.any fun x => slaveOf m x == (s : Int)) := Lib.hid (by unfold asksOf; rw [hs])
  obtain ⟨bb, hbb⟩ : ∃ z, (P.any fun x => slaveOf m x == (s : Int)) = z := ⟨_, rfl⟩
  rw [hbb] at O HF
  clear hb g hc hown hs hbb
  go_enter Try.func69, Try.ntmps69
  go_wp2_with fail
  refine (slave_any _ m mf r _ _ _ G.out).mono ?_
  rw [HS.out]
  rintro e w1 ⟨rfl, b⟩
  replace O := keep_cell b O
  replace B := Lib.hid (B.out.trans (b.mono B.out.size))
  clear b C
  go_wp2
  go_ret
  exact ⟨ret_bool HF.out.symm, B.out⟩

theorem OwnB.below {m : List MR} {P : List Req} {w w' : World} {q : Nat} (h : OwnB m P w q) (hb : Below w.heap.size w w') : OwnB m P w' q := fun s hs => keep_cell hb (h s hs)
theorem OwnB.mark {m : List MR} {P : List Req} {w : World} {q t s : Nat} (h : OwnB m (P.take t) w q) (ht : t < P.length) (hs : slaveOf m P[t] = (s : Int)) (hs4 : s < 4) : OwnB m (P.take (t + 1)) (w.setCell ⟨q, s, none⟩ (.bool true)) q := by
  intro s' hs'
  rw [List.take_succ_eq_append_getElem ht, List.any_append]
  by_cases e : s = s'
  · subst e
    rw [World.cell?_setCell_same _ _ _ (h s hs4)]
    simp [hs]
  · rw [World.cell?_setCell_other _ _ _ _ (fun e' => e (by injection e'))]
    rw [h s' hs']
    have : (slaveOf m P[t] == (s' : Int)) = false := by rw [hs]; simp; omega
    simp [this]

theorem indexOwn (q cb : Nat) (m : List MR) (P : List Req) (mv : Value) (mf : List Nat) (hm : mapOk m = true) (v : Value) (l : List Req) (fp : List Nat) (w : World) (hcap0 : OwnB m P w q) (hcap1 : w.cell? ⟨cb, 0, none⟩ = some mv) (hcap2 : SlR 4 mrR w m mv mf) (g : SlR 7 reqR w l v fp) :
    Calls Try.prog 110 #[v, .func (.func 69) #[] #[.pointer (some ⟨q, 0, none⟩), .pointer (some ⟨cb, 0, none⟩)]] w fun e w' => e = .returned (.int .i64 (idxOf (asksOf m P) l)) ∧ Below w.heap.size w w' := by
  obtain ⟨a, n, c, rfl, hn, hcap, hmax, hcm, r⟩ := g.opened
  have G := Lib.hid g
  clear g
  go_enter Try.func110, Try.ntmps110
  go_wp2_with fail
  go_loopw [8] (fun i wr => ∃ k : Nat, k ≤ n ∧ i = .int .i64 k ∧ (∀ j (h : j < l.length), j < k → (asksOf m P) l[j] = false) ∧ Below w.heap.size w wr) (fun i _ => n - (intOf i).toNat)
  case atStart => exact ⟨0, Nat.zero_le _, rfl, fun j _ h => absurd h (Nat.not_lt_zero j), Below.refl _ _⟩
  case round =>
    obtain ⟨k, hk, rfl, hp, hb⟩ := hrel
    have HP := Lib.hid hp
    have HB := Lib.hid hb
    clear hp
    by_cases hlt : k < n
    · obtain ⟨i1, b1, o1, f1, cs, rfl, hb1, hbf, hff, hR, e1⟩ := r k hlt
      have HR := Lib.hid hR
      obtain ⟨dv, lv, df, lf, rfl, rfl, hd, hl⟩ := hR
      have c0 := (hb.cell (p := ⟨b1, o1 + k * 7 + 0, none⟩) hb1).trans (e1 0 (by simp))
      have c1 := (hb.cell (p := ⟨b1, o1 + k * 7 + 1, none⟩) hb1).trans (e1 1 (by simp))
      have c2 := (hb.cell (p := ⟨b1, o1 + k * 7 + 2, none⟩) hb1).trans (e1 2 (by simp))
      have c3 := (hb.cell (p := ⟨b1, o1 + k * 7 + 3, none⟩) hb1).trans (e1 3 (by simp))
      have c4 := (hb.cell (p := ⟨b1, o1 + k * 7 + 4, none⟩) hb1).trans (e1 4 (by simp))
      have c5 := (hb.cell (p := ⟨b1, o1 + k * 7 + 5, none⟩) hb1).trans (e1 5 (by simp))
      have c6 := (hb.cell (p := ⟨b1, o1 + k * 7 + 6, none⟩) hb1).trans (e1 6 (by simp))
      simp only [Nat.add_zero, List.getElem_cons_zero, List.getElem_cons_succ] at c0 c1 c2 c3 c4 c5 c6
      clear r e1 hb hbf hff
      have hk0 := Lib.hid (OwnB.below hcap0 HB.out)
      have hk1 := keep_cell HB.out hcap1
      have hk2 := Lib.hid (SlR.below mrR_fits hcap2 HB.out)
      go_wp2_with fail
      refine (own_any q cb m P mv mf hm l[k] _ _ _ hk0.out hk1 hk2.out).mono ?_
      rintro e w2 ⟨rfl, b2⟩
      have HB2 := Lib.hid (HB.out.trans (b2.mono HB.out.size))
      clear b2 c0 c1 c2 c3 c4 c5 c6
      cases hq : (asksOf m P) l[k]
      · have HQ := Lib.hid hq
        clear hq
        go_wp2
        go_roundw
        case rel => exact ⟨k + 1, by omega, by go_num, fun j h hj => (by
          by_cases e : j = k
          · subst e; exact HQ.out
          · exact HP.out j h (by omega)), HB2.out⟩
        case measure => simp [intOf]; omega
      · have HQ := Lib.hid hq
        clear hq
        go_wp2
        go_ret
        exact ⟨ret_int (idxOf_hit i1 HQ.out (fun j h hj => HP.out j h hj)).symm, HB2.out⟩
    · clear r hb
      go_wp2
      go_ret
      exact ⟨ret_int (idxOf_none (fun j h => HP.out j h (by rw [hn.out] at h; omega))).symm, HB.out⟩

theorem containsOwn (q cb : Nat) (m : List MR) (P : List Req) (mv : Value) (mf : List Nat) (hm : mapOk m = true) (v : Value) (l : List Req) (fp : List Nat) (w : World) (hcap0 : OwnB m P w q) (hcap1 : w.cell? ⟨cb, 0, none⟩ = some mv) (hcap2 : SlR 4 mrR w m mv mf) (g : SlR 7 reqR w l v fp) :
    Calls Try.prog 62 #[v, .func (.func 69) #[] #[.pointer (some ⟨q, 0, none⟩), .pointer (some ⟨cb, 0, none⟩)]] w fun e w' => e = .returned (.bool (l.any (asksOf m P))) ∧ Below w.heap.size w w' := by
  go_enter Try.func62, Try.ntmps62
  go_wp2_with fail
  refine (indexOwn q cb m P mv mf hm v l fp _ hcap0 hcap1 hcap2 g).mono ?_
  rintro e w' ⟨rfl, hb⟩
  have HB := Lib.hid hb
  clear hb
  cases hq : decide (0 ≤ idxOf (asksOf m P) l)
  all_goals
    go_wp2
    go_ret
    exact ⟨ret_bool (by rw [← idxOf_any, hq]), HB.out⟩


set_option maxRecDepth 100000 in
set_option maxHeartbeats 6400000 in
theorem iBusApart_any (c : Bus) (v0 v1 v2 : Value) (fp0 fp1 fp2 : List Nat) (who : Int) (w : World) (g0 : SlR 4 mrR w c.map v0 fp0) (g1 : SlR 1 intR w c.lat v1 fp1) (g2 : SlR 1 (slR 7 reqR) w c.progs v2 fp2) :
    Calls Try.prog 21 #[.agg #[v0, v1, v2], .int .i64 who] w fun e w' => e = .returned (.bool (busApart c who)) ∧ Below w.heap.size w w' := by
  obtain ⟨a0, n0, c0, rfl⟩ := g0.form
  have hb := below_alloc w (.cells #[.slice a0 n0 c0, v1, v2] 38)
  have G0 := Lib.hid (SlR.below mrR_fits g0 hb)
  have G1 := Lib.hid (SlR.below intR_fits g1 hb)
  have G2 := Lib.hid (SlR.below (slR_fits reqR_fits) g2 hb)
  have B := Lib.hid hb
  clear hb g0 g1 g2
  cases q0 : busOk c
  · have Q0 := Lib.hid q0
    clear q0
    go_enter Try.func21, Try.ntmps21
    go_wp2_with fail
    refine (iBusOk_any c _ _ _ fp0 fp1 fp2 _ G0.out G1.out G2.out).mono ?_
    rw [Q0.out]
    rintro e w1 ⟨rfl, b⟩
    replace B := Lib.hid (B.out.trans (b.mono B.out.size))
    clear b
    go_wp2
    go_ret
    exact ⟨ret_bool (by unfold busApart; rw [Q0.out]; rfl), B.out⟩
  cases q1 : inB who 0 2
  · have Q0 := Lib.hid q0
    have Q1 := Lib.hid q1
    clear q0 q1
    go_enter Try.func21, Try.ntmps21
    go_wp2_with fail
    refine (iBusOk_any c _ _ _ fp0 fp1 fp2 _ G0.out G1.out G2.out).mono ?_
    rw [Q0.out]
    rintro e w1 ⟨rfl, b⟩
    replace B := Lib.hid (B.out.trans (b.mono B.out.size))
    clear b
    go_wp2_with fail
    refine (isMaster_any _ _).mono ?_
    rw [Q1.out]
    rintro e w2 ⟨rfl, rfl⟩
    go_wp2
    go_ret
    exact ⟨ret_bool (by unfold busApart; rw [Q0.out, Q1.out]; rfl), B.out⟩
  obtain ⟨k0, rfl⟩ := Int.eq_ofNat_of_zero_le (inB_true.1 q1).1
  have hk03 : k0 < 3 := by have := (inB_true.1 q1).2; omega
  have HL := Lib.hid (busOk_progs q0)
  have HM := Lib.hid (busOk_map q0)
  have HP0 : Hid (progAt c k0 = c.progs[k0]'(by rw [HL.out]; exact hk03)) := Lib.hid (progAt_at _)
  have HF : Hid (busApart c k0 = apartAll c k0) := Lib.hid (by unfold busApart; rw [q0, q1]; rfl)
  have Q0 := Lib.hid q0
  have Q1 := Lib.hid q1
  clear q0 q1
  go_enter Try.func21, Try.ntmps21
  go_wp2_with fail
  refine (iBusOk_any c _ _ _ fp0 fp1 fp2 _ G0.out G1.out G2.out).mono ?_
  rw [Q0.out]
  rintro e w1 ⟨rfl, b⟩
  have X0 : w1.cell? ⟨w.heap.size, 0, none⟩ = some (.slice a0 n0 c0) := keep_cell b (alloc1_new w #[.slice a0 n0 c0, v1, v2] 38 0 rfl)
  have X2 : w1.cell? ⟨w.heap.size, 2, none⟩ = some v2 := keep_cell b (alloc1_new w #[.slice a0 n0 c0, v1, v2] 38 2 rfl)
  replace G0 := Lib.hid (SlR.below mrR_fits G0.out b)
  replace G2 := Lib.hid (SlR.below (slR_fits reqR_fits) G2.out b)
  replace B := Lib.hid (B.out.trans (b.mono B.out.size))
  clear b G1
  obtain ⟨a2, n2, c2, rfl, hn2, _, _, _, r⟩ := G2.out.opened
  have hn3 : 3 = n2 := by rw [← hn2.out, HL.out]
  subst hn3
  obtain ⟨i0, b0, o0, f0, cs, rfl, hb0, _, _, ⟨y0, rfl, hy0⟩, e0⟩ := r k0 (by omega)
  have d0 := e0 0 (by simp)
  simp only [Nat.mul_one, Nat.add_zero, List.getElem_cons_zero] at d0
  obtain ⟨P, hP⟩ : ∃ z, progAt c k0 = z := ⟨_, rfl⟩
  have hy1 : SlR 7 reqR w1 P y0 f0 := by rw [← hP, HP0.out]; exact hy0
  clear hy0 HP0
  obtain ⟨a3, n3, c3, rfl, hn3, _, hmx3, _, r3⟩ := hy1.opened
  have hk03' : (k0 : Int) < 3 := by omega
  have HP := Lib.hid hP
  clear e0 hy1 hP
  go_wp2_with fail
  refine (isMaster_any _ _).mono ?_
  rw [Q1.out]
  rintro e w2 ⟨rfl, rfl⟩
  have ba := below_alloc w1 (.cells #[.bool false, .bool false, .bool false, .bool false] 100)
  have x0 := keep_cell ba X0
  have x2 := keep_cell ba X2
  have z0 := keep_cell ba d0
  have BA := Lib.hid ba
  have O0 : Hid (OwnB c.map (P.take 0) (w1.alloc (.cells #[.bool false, .bool false, .bool false, .bool false] 100)) w1.heap.size) := Lib.hid (fun s hs => by
    have h4 : s = 0 ∨ s = 1 ∨ s = 2 ∨ s = 3 := by omega
    rcases h4 with rfl | rfl | rfl | rfl <;> exact alloc1_new _ _ _ _ rfl)
  have F0 : Hid (∀ s : Nat, (w1.alloc (.cells #[.bool false, .bool false, .bool false, .bool false] 100)).frozen? ⟨w1.heap.size, s, none⟩ = false) := Lib.hid (fun s => World.frozen?_alloc_at _ _ _ _ rfl)
  have hzq : w1.heap.size < (w1.alloc (.cells #[.bool false, .bool false, .bool false, .bool false] 100)).heap.size := by simp
  obtain ⟨q, hq⟩ : ∃ q, q = w1.heap.size := ⟨_, rfl⟩
  have HQ := Lib.hid hq
  have HZ := Lib.hid hzq
  clear ba hzq
  go_wp2_with fail
  go_loopw [24] (fun i wr => ∃ t : Nat, t ≤ n3 ∧ i = .int .i64 t ∧ OwnB c.map (P.take t) wr q ∧ (∀ s : Nat, wr.frozen? ⟨q, s, none⟩ = false) ∧ q < wr.heap.size ∧ Below w1.heap.size w1 wr) (fun i _ => n3 - (intOf i).toNat)
  case atStart =>
    subst hq
    exact ⟨0, Nat.zero_le _, rfl, O0.out, F0.out, HZ.out, BA.out⟩
  case round =>
    clear O0 F0 HZ
    obtain ⟨t, ht, rfl, ho, hf, hqz, hbel⟩ := hrel
    have HO := Lib.hid ho
    have HFr := Lib.hid hf
    have HB := Lib.hid hbel
    by_cases htt : t < n3
    · obtain ⟨i5, b5, o5, f5, cs, rfl, hb5, _, _, ⟨dv5, lv5, df5, lf5, rfl, rfl, hd5, hl5⟩, e5⟩ := r3 t htt
      have t0 := keep_cell hbel (e5 0 (by simp))
      have t1 := keep_cell hbel (e5 1 (by simp))
      have t2 := keep_cell hbel (e5 2 (by simp))
      have t3 := keep_cell hbel (e5 3 (by simp))
      have t4 := keep_cell hbel (e5 4 (by simp))
      have t5 := keep_cell hbel (e5 5 (by simp))
      have t6 := keep_cell hbel (e5 6 (by simp))
      simp only [Nat.add_zero, List.getElem_cons_zero, List.getElem_cons_succ] at t0 t1 t2 t3 t4 t5 t6
      have xx := keep_cell hbel X0
      have zx := block_of_cell xx
      obtain ⟨da5, dn5, dc5, rfl⟩ := hd5.form
      obtain ⟨la5, ln5, lc5, rfl⟩ := hl5.form
      have bb := below_alloc wr (.cells #[.int .i64 P[t].id, .int .i64 P[t].kind, .int .i64 P[t].addr, .int .i64 P[t].many, .bool P[t].wrap, .slice da5 dn5 dc5, .slice la5 ln5 lc5] 26)
      have BB := Lib.hid bb
      have M0 := Lib.hid (SlR.below mrR_fits (SlR.below mrR_fits G0.out hbel) bb)
      obtain ⟨s, hs⟩ := Int.eq_ofNat_of_zero_le (slaveOf_in (r := P[t]) HM.out).1
      have hs4 : s < 4 := by have := (slaveOf_in (r := P[t]) HM.out).2; omega
      have hs4' : (s : Int) < 4 := by omega
      have HS := Lib.hid hs
      clear hbel ho hf bb hd5 hl5 e5 r3 hs x0 x2 z0
      go_wp2_with fail
      refine (slave_any _ c.map fp0 P[t] _ _ _ M0.out).mono ?_
      rw [HS.out]
      rintro e w3 ⟨rfl, b⟩
      have b3 := BB.out.trans (b.mono BB.out.size)
      have o3 := OwnB.below HO.out b3
      have os := o3 s hs4
      have fs := keep_free b3 hqz (HFr.out s)
      have O3 := Lib.hid (o3.mark i5 HS.out hs4)
      have F3 : Hid (∀ s' : Nat, (w3.setCell ⟨q, s, none⟩ (.bool true)).frozen? ⟨q, s', none⟩ = false) := Lib.hid (fun s' => by rw [World.frozen?_setCell]; exact keep_free b3 hqz (HFr.out s'))
      have Z3 : q < w3.heap.size := Nat.lt_of_lt_of_le hqz b3.size
      have HB3 := Lib.hid (HB.out.trans (b3.mono HB.out.size))
      obtain ⟨ob, hob⟩ : ∃ z, (P.take t).any (fun x => slaveOf c.map x == (s : Int)) = z := ⟨_, rfl⟩
      rw [hob] at os
      clear b b3 o3 t0 t1 t2 t3 t4 t5 t6 xx zx hob
      subst hq
      go_wp2
      go_roundw
      case rel => exact ⟨t + 1, by omega, by go_num, O3.out, F3.out, by simpa using Z3, HB3.out.setCell (p := ⟨w1.heap.size, s, none⟩) (Nat.le_refl _) _⟩
      case measure => simp [intOf]; omega
    · subst hq
      obtain rfl : t = n3 := by omega
      have hall : P.take t = P := List.take_of_length_le (by rw [hn3.out]; exact Nat.le_refl _)
      rw [hall] at ho
      have HO := Lib.hid ho
      have x0' := keep_cell hbel X0
      have x2' := keep_cell hbel X2
      have G0' := Lib.hid (SlR.below mrR_fits G0.out hbel)
      have rr := (SlR.below (slR_fits reqR_fits) G2.out hbel).opened
      clear r r3 x0 x2 z0 X0 X2 d0 G0 G2 BA hf HO
      have HO := Lib.hid ho
      have HB1 := Lib.hid hbel
      clear ho hbel
      obtain ⟨a2, n2, c2', e2, hn2', _, _, _, r⟩ := rr
      simp only [Value.slice.injEq] at e2
      obtain ⟨rfl, rfl, rfl⟩ := e2
      go_wp2_with fail
      obtain ⟨w4, hw4⟩ : ∃ z, z = wr := ⟨_, rfl⟩
      rw [← hw4] at x0' x2' G0' r HO HB1 hqz ⊢
      clear hw4
      go_loopw [37] (fun i wr => ∃ k : Nat, k ≤ 3 ∧ i = .int .i64 k ∧ (∀ j, j < k → j ≠ k0 → (progAt c j).any (asksOf c.map P) = false) ∧ Below w4.heap.size w4 wr) (fun i _ => 3 - (intOf i).toNat)
      case atStart => exact ⟨0, Nat.zero_le _, rfl, fun j h => absurd h (Nat.not_lt_zero j), Below.refl _ _⟩
      case round =>
        obtain ⟨k, hk, rfl, hp, hb4⟩ := hrel
        have HPr := Lib.hid hp
        have HB := Lib.hid hb4
        by_cases hlt : k < 3
        · have hlt' : (k : Int) < 3 := by omega
          obtain ⟨i1, b1, o1, f1, cs, ea, hb1, _, _, ⟨y1, rfl, hy1⟩, e1⟩ := r k hlt
          simp only [Option.some.injEq, Addr.mk.injEq, and_true] at ea
          obtain ⟨rfl, rfl⟩ := ea
          have d1 := keep_cell hb4 (e1 0 (by simp))
          simp only [Nat.mul_one, Nat.add_zero, List.getElem_cons_zero] at d1
          obtain ⟨a4, n4, c4, rfl⟩ := hy1.form
          have G4 := Lib.hid (SlR.below reqR_fits hy1 hb4)
          have HP1 : Hid (progAt c k = c.progs[k]) := Lib.hid (progAt_at i1)
          have xx := keep_cell hb4 x0'
          have M0 := Lib.hid (SlR.below mrR_fits G0'.out hb4)
          have O4 := Lib.hid (OwnB.below HO.out hb4)
          by_cases hek : k = k0
          · subst hek
            have hne : ((k : Int) != (k : Int)) = false := by simp
            clear r e1 hy1 hb4 hp
            go_wp2
            go_roundw
            case rel => exact ⟨k + 1, by omega, by go_num, fun j h hn => HPr.out j (by omega) hn, HB.out⟩
            case measure => simp [intOf]; omega
          · have hne : ((k : Int) != (k0 : Int)) = true := by simp; omega
            clear r e1 hy1 hb4 hp
            obtain ⟨bb, hbb⟩ : ∃ z, c.progs[k].any (asksOf c.map P) = z := ⟨_, rfl⟩
            have HBB := Lib.hid hbb
            clear hbb
            cases bb
            all_goals
              go_wp2_with fail
              refine (containsOwn w1.heap.size w.heap.size c.map P _ fp0 HM.out _ c.progs[k] f1 _ O4.out xx M0.out G4.out).mono ?_
              rw [HBB.out]
              rintro e w5 ⟨rfl, b⟩
              have HB5 := Lib.hid (HB.out.trans (b.mono HB.out.size))
              clear b
              go_wp2
            · go_roundw
              case rel => exact ⟨k + 1, by omega, by go_num, fun j h hn => (by
                by_cases e : j = k
                · subst e; rw [HP1.out]; exact HBB.out
                · exact HPr.out j (by omega) hn), HB5.out⟩
              case measure => simp [intOf]; omega
            · go_ret
              exact ⟨ret_bool (by rw [HF.out]; exact (apartAll_no hlt hek (by rw [HP.out, HP1.out]; exact HBB.out)).symm), B.out.trans ((HB1.out.trans (HB5.out.mono HB1.out.size)).mono B.out.size)⟩
        · clear r hb4 hp
          go_wp2
          go_ret
          exact ⟨ret_bool (by rw [HF.out]; exact (apartAll_yes fun t h hn => (by rw [HP.out]; exact HPr.out t (by omega) hn)).symm), B.out.trans ((HB1.out.trans (HB.out.mono HB1.out.size)).mono B.out.size)⟩

end Go.Proofs.Ytmcjklicepaiaaa

namespace Go.Proofs.Ytmcjklicepaiaaa.fnBusApart
open Go.ChangeShapes Go.WideShapes Go.ChangeAt Go.RowKit

theorem iReqSlave_ok2 (v : Value) (l : List MR) (fp : List Nat) (r : Req) (v0 v1 : Value) (fp0 fp1 : List Nat) (hm : mapOk l = true) (hr : reqOk r = true) (w : World) (g : SlR 4 mrR w l v fp) (g0 : SlR 1 intR w r.data v0 fp0) (g1 : SlR 1 intR w r.lanes v1 fp1) :
    Calls Try.prog 12 #[v, .agg #[.int .i64 r.id, .int .i64 r.kind, .int .i64 r.addr, .int .i64 r.many, .bool r.wrap, v0, v1]] w fun e w' => e = .returned (.int .i64 (slaveOf l r)) ∧ Below w.heap.size w w' := by
  have := iReqSlave_any v l fp r v0 v1 fp0 fp1 w g g0 g1
  unfold reqSlave at this
  rw [hm, hr] at this
  exact this
theorem ok_progs {x : Bus} (h : busOk x = true) : x.progs.length = 3 := by
  unfold busOk at h
  simp only [Bool.and_eq_true] at h
  exact of_decide_eq_true h.2.2.2.1
/-- of which stores one asks -/
def mine (x : Bus) (k : Nat) (h : k < x.progs.length) : List Int := x.progs[k].map (slaveOf x.map)
theorem any_of_mem {x : Bus} {k k0 j : Nat} (hk : k < x.progs.length) (h0 : k0 < x.progs.length) (hj : j < x.progs[k].length) (hm : slaveOf x.map x.progs[k][j] ∈ mine x k0 h0) : (progAt x k).any (asksOf x.map (progAt x k0)) = true := by
  rw [progAt_at hk, progAt_at h0, List.any_eq_true]
  refine ⟨_, List.getElem_mem hj, ?_⟩
  obtain ⟨q, hq, e⟩ := List.mem_map.1 hm
  obtain ⟨i, hi, rfl⟩ := List.mem_iff_getElem.1 hq
  exact asksOf_yes hi e.symm
theorem any_not_mem {x : Bus} {k k0 : Nat} (hk : k < x.progs.length) (h0 : k0 < x.progs.length) (h : ∀ j (hj : j < x.progs[k].length), slaveOf x.map x.progs[k][j] ∉ mine x k0 h0) : (progAt x k).any (asksOf x.map (progAt x k0)) = false := by
  rw [progAt_at hk, progAt_at h0, List.any_eq_false]
  intro r hr
  obtain ⟨j, hj, rfl⟩ := List.mem_iff_getElem.1 hr
  rw [asksOf_no]
  · simp
  · intro i hi e
    exact h j hj (by rw [e]; exact List.mem_map_of_mem (List.getElem_mem hi))
def FOne (u : Value) : Fact := fun v w => ∃ b : Nat, v = .slice (some ⟨b, 0, none⟩) 1 1 ∧ w.cell? ⟨b, 0, none⟩ = some u
theorem stOne (u : Value) : Stable [] (FOne u) := fun _ _ _ ⟨b, e, h⟩ hc => ⟨b, e, keep_cell_chg hc h (by simp)⟩

set_option maxRecDepth 100000 in
set_option maxHeartbeats 6400000 in
theorem walk (v : Value) (l0 : List Int) (fp0 : List Nat) (w : World) (g : ByteS w l0 v fp0) :
    Calls Try.prog 5 #[v] w fun e w' => e = .returned (.bool true) ∧ Below w.heap.size w w' := by
  obtain ⟨a0, n0, c0, rfl, hn0, hcap0, hmax0, hcm0, _⟩ := g.opened
  obtain ⟨i1, li, lz0, lz1, lz2⟩ := info_parts infoInt
  have G := Lib.hid g
  clear g
  by_cases hb : 1048576 < n0
  · go_enter Try.func5, Try.ntmps5
    go_wp2
    go_ret
    exact ⟨rfl, Below.refl _ _⟩
  · go_enter Try.func5, Try.ntmps5
    go_wp2_with fail
    refine (drawBusApart_any _ l0 fp0 w G.out).mono ?_
    rintro e w1 ⟨x, who, va, la, pa, vn, vc, ln, lc, pn, pc, rfl, hw1, hw2, hr, hml, b1⟩
    obtain ⟨fm, hm⟩ := hr.mp
    obtain ⟨fl, hl⟩ := hr.lat
    obtain ⟨fg, hg⟩ := hr.prg
    have ba := below_alloc w1 (.cells #[.slice va vn vc, .slice la ln lc, .slice pa pn pc] 38)
    have SM := Lib.hid (SlR.below mrR_fits hm ba)
    have SL := Lib.hid (SlR.below intR_fits hl ba)
    have SP := Lib.hid (SlR.below (slR_fits reqR_fits) hg ba)
    have B1 := Lib.hid (b1.trans (ba.mono b1.size))
    clear hr hm hl hg b1 hml ba G
    go_wp2_with fail
    refine (iBusApart_any x _ _ _ fm fl fg who _ SM.out SL.out SP.out).mono ?_
    obtain ⟨b, hbb⟩ : ∃ b, b = busApart x who := ⟨_, rfl⟩
    rw [← hbb]
    have HBB := Lib.hid hbb
    clear hbb
    rintro e w2 ⟨rfl, b2⟩
    have P0 : w2.cell? ⟨w1.heap.size, 0, none⟩ = some (.slice va vn vc) := keep_cell b2 (alloc1_new w1 _ _ 0 rfl)
    have P1 : w2.cell? ⟨w1.heap.size, 1, none⟩ = some (.slice la ln lc) := keep_cell b2 (alloc1_new w1 _ _ 1 rfl)
    have P2 : w2.cell? ⟨w1.heap.size, 2, none⟩ = some (.slice pa pn pc) := keep_cell b2 (alloc1_new w1 _ _ 2 rfl)
    replace SM := Lib.hid (SlR.below mrR_fits SM.out b2)
    replace SL := Lib.hid (SlR.below intR_fits SL.out b2)
    replace SP := Lib.hid (SlR.below (slR_fits reqR_fits) SP.out b2)
    replace B1 := Lib.hid (B1.out.trans (b2.mono B1.out.size))
    clear b2
    generalize w1.heap.size = cx at *
    go_wp2_with fail
    refine (sBusApart_any x _ _ _ fm fl fg who _ SM.out SL.out SP.out).mono ?_
    rw [← HBB.out]
    rintro e w3 ⟨rfl, b3⟩
    replace P0 := keep_cell b3 P0
    replace P1 := keep_cell b3 P1
    replace P2 := keep_cell b3 P2
    replace SM := Lib.hid (SlR.below mrR_fits SM.out b3)
    replace SL := Lib.hid (SlR.below intR_fits SL.out b3)
    replace SP := Lib.hid (SlR.below (slR_fits reqR_fits) SP.out b3)
    replace B1 := Lib.hid (B1.out.trans (b3.mono B1.out.size))
    clear b3
    go_wp2_with fail
    refine (sBusOk_any x _ _ _ fm fl fg _ SM.out SL.out SP.out).mono ?_
    obtain ⟨bo, hbo⟩ : ∃ b, b = busOk x := ⟨_, rfl⟩
    rw [← hbo]
    have HBO := Lib.hid hbo
    clear hbo
    rintro e w4 ⟨rfl, b4⟩
    replace P0 := keep_cell b4 P0
    replace P1 := keep_cell b4 P1
    replace P2 := keep_cell b4 P2
    replace SM := Lib.hid (SlR.below mrR_fits SM.out b4)
    replace SL := Lib.hid (SlR.below intR_fits SL.out b4)
    replace SP := Lib.hid (SlR.below (slR_fits reqR_fits) SP.out b4)
    replace B1 := Lib.hid (B1.out.trans (b4.mono B1.out.size))
    clear b4
    cases bo
    · skip
      have hbf : b = false := by rw [HBB.out]; unfold busApart; rw [← HBO.out]; rfl
      subst hbf
      go_wp2_with fail
      refine (crOk_any _).mono ?_
      rintro e w5 ⟨rfl, rfl⟩
      go_wp2
      go_ret
      exact ⟨rfl, B1.out⟩
    · by_cases hlo : who < 0
      · skip
        have hbf : b = false := by rw [HBB.out]; unfold busApart; rw [inB_false.2 (by omega), Bool.false_and, Bool.and_false]
        subst hbf
        go_wp2_with fail
        refine (crOk_any _).mono ?_
        rintro e w5 ⟨rfl, rfl⟩
        go_wp2
        go_ret
        exact ⟨rfl, B1.out⟩
      · by_cases hhi : 3 ≤ who
        · skip
          have hbf : b = false := by rw [HBB.out]; unfold busApart; rw [inB_false.2 (by omega), Bool.false_and, Bool.and_false]
          subst hbf
          go_wp2_with fail
          refine (crOk_any _).mono ?_
          rintro e w5 ⟨rfl, rfl⟩
          go_wp2
          go_ret
          exact ⟨rfl, B1.out⟩
        · obtain ⟨k0, rfl⟩ := Int.eq_ofNat_of_zero_le (show 0 ≤ who by omega)
          have hk0 : k0 < 3 := by omega
          have HOK : Hid (busOk x = true) := Lib.hid HBO.out.symm
          have HMO := Lib.hid (busOk_map HOK.out)
          have HP3 := Lib.hid (ok_progs HOK.out)
          have hp3 : x.progs.length = 3 := HP3.out
          have hk0x : k0 < x.progs.length := by omega
          have HBA : Hid (b = apartAll x k0) := Lib.hid (by rw [HBB.out]; unfold busApart; rw [HOK.out, inB_true.2 (by omega)]; rfl)
          obtain ⟨pb, po, hpa⟩ : ∃ pb po, pa = some ⟨pb, po, none⟩ := by
            obtain ⟨_, _, _, e, hn, _, _, _, r⟩ := SP.out.opened
            cases e
            obtain ⟨_, b, off, f, cs, rfl, _⟩ := r 0 (by have := hn.out; omega)
            exact ⟨b, off, rfl⟩
          subst hpa
          have hpn3 : 3 = pn := by
            obtain ⟨_, _, _, e, hn, _⟩ := SP.out.opened
            cases e
            rw [← hn.out, hp3]
          subst hpn3
          have hk0i : (k0 : Int) < 3 := by omega
          obtain ⟨pl, hpl⟩ : ∃ z, z = x.progs[k0].length := ⟨_, rfl⟩
          have HO0 : Hid (IntRow w4.heap.size (w4.alloc (.cells #[] 3)) (.slice (some ⟨w4.heap.size, 0, none⟩) 0 0) []) := Lib.hid (OwnR.lit w4 #[] 0 [] IntC_len rfl rfl (Nat.le_refl _) (by decide))
          go_wp2_with fail
          go_loopw [6, 7] (fun v i wr => ∃ (j am nm cm : _), j ≤ pl ∧ v = .slice am nm cm ∧ i = .int .i64 (j : Nat) ∧ IntRow w4.heap.size wr (.slice am nm cm) ((mine x k0 hk0x).take j) ∧ Below w4.heap.size w4 wr) (fun _ i _ => pl - (intOf i).toNat)
          case atStart => exact ⟨0, _, 0, 0, Nat.zero_le _, rfl, rfl, HO0.out, below_alloc _ _⟩
          case round =>
            obtain ⟨j, am, nm, cm, hj, rfl, rfl, hown, hbel⟩ := hrel
            have HO := Lib.hid hown
            have p0 := keep_cell hbel P0
            have p2 := keep_cell hbel P2
            clear hown
            obtain ⟨_, _, _, ep, -, -, -, -, rp⟩ := SP.out.opened
            cases ep
            obtain ⟨_, b5, o5, f5, cs, e5, hb5, hbf, hff, ⟨y, rfl, hy⟩, ec⟩ := rp k0 (by omega)
            cases e5
            have Y0 := ec 0 (by simp)
            simp only [Nat.mul_one, Nat.add_zero, List.getElem_cons_zero] at Y0
            obtain ⟨ya, yn, yc, rfl, hyn, -, -, -, ry⟩ := hy.opened
            have y0 := keep_cell hbel Y0
            by_cases hjy : j < yn
            · skip
              have hjx : j < x.progs[k0].length := by rw [hyn.out]; exact hjy
              obtain ⟨_, qb, qo, f6, cs6, e6, hb6, hbf6, hff6, ⟨v5, v6, fd, fe, rfl, rfl, hd, he⟩, eq⟩ := ry j hjy
              subst e6
              obtain ⟨da, dn, dc, rfl⟩ := hd.form
              obtain ⟨ea, en, ec, rfl⟩ := he.form
              have q0 := keep_cell hbel (eq 0 (by simp))
              have q1 := keep_cell hbel (eq 1 (by simp))
              have q2 := keep_cell hbel (eq 2 (by simp))
              have q3 := keep_cell hbel (eq 3 (by simp))
              have q4 := keep_cell hbel (eq 4 (by simp))
              have q5 := keep_cell hbel (eq 5 (by simp))
              have q6 := keep_cell hbel (eq 6 (by simp))
              simp only [Nat.add_zero, List.getElem_cons_zero, List.getElem_cons_succ] at q0 q1 q2 q3 q4 q5 q6
              have HRO0 := busOk_req HOK.out (k := k0) (i := j) (by omega) hjx
              obtain ⟨s, hs⟩ : ∃ z, slaveOf x.map x.progs[k0][j] = z := ⟨_, rfl⟩
              have HSv0 := Lib.hid hs
              obtain ⟨⟨id, kd, ad, mn, wp, xd, xl⟩, hreq⟩ : ∃ z, x.progs[k0][j] = z := ⟨_, rfl⟩
              rw [hreq] at q0 q1 q2 q3 q4 hd he HRO0 hs
              have HRO := Lib.hid HRO0
              have HSV := Lib.hid hs
              have GD := Lib.hid (SlR.below intR_fits hd hbel)
              have GE := Lib.hid (SlR.below intR_fits he hbel)
              have hji : (j : Int) < (yn : Int) := by omega
              clear eq hd he HRO0 hs hreq
              go_wp2_with fail
              have hst : ∀ F, F ∈ [FEq (.slice am nm cm), FEq (.pointer (some ⟨cx, 0, none⟩)), FEq (.slice va vn vc), FEq (.pointer (some ⟨cx, 2, none⟩)), FEq (.slice (some ⟨pb, po, none⟩) 3 pc), FEq (.int .i64 (k0 : Int)), FEq (.pointer (some ⟨pb, po + k0, none⟩)), FEq (.slice (some ⟨qb, qo, none⟩) yn yc), FEq (.int .i64 (j : Int)), FEq (.pointer (some ⟨qb, qo + j * 7, none⟩)), FEq (.agg #[.int .i64 id, .int .i64 kd, .int .i64 ad, .int .i64 mn, .bool wp, .slice da dn dc, .slice ea en ec]), FEq (.int .i64 s), FOne (.int .i64 s)] → Stable [] F := by
                simp only [List.forall_mem_cons]
                exact ⟨stEq _ _, stEq _ _, stEq _ _, stEq _ _, stEq _ _, stEq _ _, stEq _ _, stEq _ _, stEq _ _, stEq _ _, stEq _ _, stEq _ _, stOne _, fun _ h => by simp at h⟩
              refine wp_region_tail (by kernel_rfl) (fun i => ([[], [], [1], [], [3], [], [3, 4, 5], [3, 4, 5, 6], [], [3, 4, 5, 6, 7, 8], [3, 4, 5, 6, 7, 8, 9], [1, 2, 3, 4, 5, 6, 7, 8, 9, 10], [1, 2, 3, 4, 5, 6, 7, 8, 9, 10, 11], [0, 1, 2, 3, 4, 5, 6, 7, 8, 9, 10, 11, 12], [0, 1, 2, 3, 4, 5, 6, 7, 8, 9, 10, 11, 12, 13]] : List (List Nat)).getD i []) (facts [FEq (.slice am nm cm), FEq (.pointer (some ⟨cx, 0, none⟩)), FEq (.slice va vn vc), FEq (.pointer (some ⟨cx, 2, none⟩)), FEq (.slice (some ⟨pb, po, none⟩) 3 pc), FEq (.int .i64 (k0 : Int)), FEq (.pointer (some ⟨pb, po + k0, none⟩)), FEq (.slice (some ⟨qb, qo, none⟩) yn yc), FEq (.int .i64 (j : Int)), FEq (.pointer (some ⟨qb, qo + j * 7, none⟩)), FEq (.agg #[.int .i64 id, .int .i64 kd, .int .i64 ad, .int .i64 mn, .bool wp, .slice da dn dc, .slice ea en ec]), FEq (.int .i64 s), FOne (.int .i64 s)]) (fun m w' => Below wr.heap.size wr w') 102 15 13 [some 53, some 54, some 55, some 56, some 57, some 58, some 59, some 60, some 61, some 62, some 63, some 64, some 65] _ rfl rfl (by decide) rfl rfl (by kernel_rfl) (by kernel_rfl) [] (by kernel_rfl) (fun g b hm v w h => by simp at hm) ?h0 (all_lt (n := 13) ?hop) ?hend
              case h0 => exact (Below.refl _ _).drew
              case hop =>
                refine ⟨⟨⟨⟨⟨⟨⟨⟨⟨⟨⟨⟨⟨trivial, ?_⟩, ?_⟩, ?_⟩, ?_⟩, ?_⟩, ?_⟩, ?_⟩, ?_⟩, ?_⟩, ?_⟩, ?_⟩, ?_⟩, ?_⟩
                · refine Owes.mk _ rfl rfl (fun _ _ h => by cases h) fun u m w' hm hI hR => ⟨⟨#[undef, undef, undef, undef, undef, undef, .slice am nm cm, undef, undef, undef, undef, undef, undef, undef, undef, undef, undef, undef, undef, undef, undef, undef, undef, undef, undef, undef, undef, undef, undef, undef, undef, undef, undef, undef, undef, undef, undef, undef, undef, undef, undef, undef, undef, undef, undef, undef, undef, undef, undef, undef, undef, undef, undef, undef, undef, undef, undef, undef, undef, undef, undef, undef, undef, undef, undef, undef, undef, undef, undef, undef, undef, undef, undef, undef, undef, undef, undef, undef, undef, undef, undef, undef, undef, undef, undef, undef, undef, undef, undef, undef, undef, undef, undef, undef, undef, undef, undef, undef, undef, undef, undef, undef], []⟩, rfl, fun d hd => by cases hd; exact (by decide : 53 < 102), ?_⟩
                  have k0 := keep_cell hI p0
                  have k1 := keep_cell hI p2
                  have k2 := keep_cell hI y0
                  have k3 := keep_cell hI q0
                  have k4 := keep_cell hI q1
                  have k5 := keep_cell hI q2
                  have k6 := keep_cell hI q3
                  have k7 := keep_cell hI q4
                  have k8 := keep_cell hI q5
                  have k9 := keep_cell hI q6
                  have HI := Lib.hid hI
                  clear hI hst hR
                  go_wp2
                  exact ⟨rfl, _, rfl, rfl, HI.out, fun _ _ h => h⟩
                · refine Owes.mk _ rfl rfl (fun _ _ h => by cases h) fun u m w' hm hI hR => ⟨⟨#[undef, undef, undef, .pointer (some ⟨cx, 0, none⟩), undef, undef, undef, undef, undef, undef, undef, undef, undef, undef, undef, undef, undef, undef, undef, undef, undef, undef, undef, undef, undef, undef, undef, undef, undef, undef, undef, undef, undef, undef, undef, undef, undef, undef, undef, undef, undef, undef, undef, undef, undef, undef, undef, undef, undef, undef, undef, undef, undef, undef, undef, undef, undef, undef, undef, undef, undef, undef, undef, undef, undef, undef, undef, undef, undef, undef, undef, undef, undef, undef, undef, undef, undef, undef, undef, undef, undef, undef, undef, undef, undef, undef, undef, undef, undef, undef, undef, undef, undef, undef, undef, undef, undef, undef, undef, undef, undef, undef], []⟩, rfl, fun d hd => by cases hd; exact (by decide : 54 < 102), ?_⟩
                  have k0 := keep_cell hI p0
                  have k1 := keep_cell hI p2
                  have k2 := keep_cell hI y0
                  have k3 := keep_cell hI q0
                  have k4 := keep_cell hI q1
                  have k5 := keep_cell hI q2
                  have k6 := keep_cell hI q3
                  have k7 := keep_cell hI q4
                  have k8 := keep_cell hI q5
                  have k9 := keep_cell hI q6
                  have HI := Lib.hid hI
                  clear hI hst hR
                  go_wp2
                  exact ⟨rfl, _, rfl, rfl, HI.out, fun _ _ h => h⟩
                · refine Owes.mk _ rfl rfl (fun _ _ h => by cases h) fun u m w' hm hI hR => ⟨⟨#[undef, undef, undef, undef, undef, undef, undef, undef, undef, undef, undef, undef, undef, undef, undef, undef, undef, undef, undef, undef, undef, undef, undef, undef, undef, undef, undef, undef, undef, undef, undef, undef, undef, undef, undef, undef, undef, undef, undef, undef, undef, undef, undef, undef, undef, undef, undef, undef, undef, undef, undef, undef, undef, undef, u 1, undef, undef, undef, undef, undef, undef, undef, undef, undef, undef, undef, undef, undef, undef, undef, undef, undef, undef, undef, undef, undef, undef, undef, undef, undef, undef, undef, undef, undef, undef, undef, undef, undef, undef, undef, undef, undef, undef, undef, undef, undef, undef, undef, undef, undef, undef, undef], []⟩, rfl, fun d hd => by cases hd; exact (by decide : 55 < 102), ?_⟩
                  have e1 : u 1 = _ := hR 1 (by decide)
                  have k0 := keep_cell hI p0
                  have k1 := keep_cell hI p2
                  have k2 := keep_cell hI y0
                  have k3 := keep_cell hI q0
                  have k4 := keep_cell hI q1
                  have k5 := keep_cell hI q2
                  have k6 := keep_cell hI q3
                  have k7 := keep_cell hI q4
                  have k8 := keep_cell hI q5
                  have k9 := keep_cell hI q6
                  have HI := Lib.hid hI
                  clear hI hst hR
                  rw [e1]
                  clear e1
                  go_wp2
                  exact ⟨rfl, _, rfl, rfl, HI.out, fun _ _ h => h⟩
                · refine Owes.mk _ rfl rfl (fun _ _ h => by cases h) fun u m w' hm hI hR => ⟨⟨#[undef, undef, undef, .pointer (some ⟨cx, 0, none⟩), undef, undef, undef, undef, undef, undef, undef, undef, undef, undef, undef, undef, undef, undef, undef, undef, undef, undef, undef, undef, undef, undef, undef, undef, undef, undef, undef, undef, undef, undef, undef, undef, undef, undef, undef, undef, undef, undef, undef, undef, undef, undef, undef, undef, undef, undef, undef, undef, undef, undef, undef, undef, undef, undef, undef, undef, undef, undef, undef, undef, undef, undef, undef, undef, undef, undef, undef, undef, undef, undef, undef, undef, undef, undef, undef, undef, undef, undef, undef, undef, undef, undef, undef, undef, undef, undef, undef, undef, undef, undef, undef, undef, undef, undef, undef, undef, undef, undef], []⟩, rfl, fun d hd => by cases hd; exact (by decide : 56 < 102), ?_⟩
                  have k0 := keep_cell hI p0
                  have k1 := keep_cell hI p2
                  have k2 := keep_cell hI y0
                  have k3 := keep_cell hI q0
                  have k4 := keep_cell hI q1
                  have k5 := keep_cell hI q2
                  have k6 := keep_cell hI q3
                  have k7 := keep_cell hI q4
                  have k8 := keep_cell hI q5
                  have k9 := keep_cell hI q6
                  have HI := Lib.hid hI
                  clear hI hst hR
                  go_wp2
                  exact ⟨rfl, _, rfl, rfl, HI.out, fun _ _ h => h⟩
                · refine Owes.mk _ rfl rfl (fun _ _ h => by cases h) fun u m w' hm hI hR => ⟨⟨#[undef, undef, undef, undef, undef, undef, undef, undef, undef, undef, undef, undef, undef, undef, undef, undef, undef, undef, undef, undef, undef, undef, undef, undef, undef, undef, undef, undef, undef, undef, undef, undef, undef, undef, undef, undef, undef, undef, undef, undef, undef, undef, undef, undef, undef, undef, undef, undef, undef, undef, undef, undef, undef, undef, undef, undef, u 3, undef, undef, undef, undef, undef, undef, undef, undef, undef, undef, undef, undef, undef, undef, undef, undef, undef, undef, undef, undef, undef, undef, undef, undef, undef, undef, undef, undef, undef, undef, undef, undef, undef, undef, undef, undef, undef, undef, undef, undef, undef, undef, undef, undef, undef], []⟩, rfl, fun d hd => by cases hd; exact (by decide : 57 < 102), ?_⟩
                  have e3 : u 3 = _ := hR 3 (by decide)
                  have k0 := keep_cell hI p0
                  have k1 := keep_cell hI p2
                  have k2 := keep_cell hI y0
                  have k3 := keep_cell hI q0
                  have k4 := keep_cell hI q1
                  have k5 := keep_cell hI q2
                  have k6 := keep_cell hI q3
                  have k7 := keep_cell hI q4
                  have k8 := keep_cell hI q5
                  have k9 := keep_cell hI q6
                  have HI := Lib.hid hI
                  clear hI hst hR
                  rw [e3]
                  clear e3
                  go_wp2
                  exact ⟨rfl, _, rfl, rfl, HI.out, fun _ _ h => h⟩
                · refine Owes.mk _ rfl rfl (fun _ _ h => by cases h) fun u m w' hm hI hR => ⟨⟨#[undef, undef, undef, undef, .int .i64 (k0 : Int), undef, undef, undef, undef, undef, undef, undef, undef, undef, undef, undef, undef, undef, undef, undef, undef, undef, undef, undef, undef, undef, undef, undef, undef, undef, undef, undef, undef, undef, undef, undef, undef, undef, undef, undef, undef, undef, undef, undef, undef, undef, undef, undef, undef, undef, undef, undef, undef, undef, undef, undef, undef, undef, undef, undef, undef, undef, undef, undef, undef, undef, undef, undef, undef, undef, undef, undef, undef, undef, undef, undef, undef, undef, undef, undef, undef, undef, undef, undef, undef, undef, undef, undef, undef, undef, undef, undef, undef, undef, undef, undef, undef, undef, undef, undef, undef, undef], []⟩, rfl, fun d hd => by cases hd; exact (by decide : 58 < 102), ?_⟩
                  have k0 := keep_cell hI p0
                  have k1 := keep_cell hI p2
                  have k2 := keep_cell hI y0
                  have k3 := keep_cell hI q0
                  have k4 := keep_cell hI q1
                  have k5 := keep_cell hI q2
                  have k6 := keep_cell hI q3
                  have k7 := keep_cell hI q4
                  have k8 := keep_cell hI q5
                  have k9 := keep_cell hI q6
                  have HI := Lib.hid hI
                  clear hI hst hR
                  go_wp2
                  exact ⟨rfl, _, rfl, rfl, HI.out, fun _ _ h => h⟩
                · refine Owes.mk _ rfl rfl (fun _ _ h => by cases h) fun u m w' hm hI hR => ⟨⟨#[undef, undef, undef, undef, undef, undef, undef, undef, undef, undef, undef, undef, undef, undef, undef, undef, undef, undef, undef, undef, undef, undef, undef, undef, undef, undef, undef, undef, undef, undef, undef, undef, undef, undef, undef, undef, undef, undef, undef, undef, undef, undef, undef, undef, undef, undef, undef, undef, undef, undef, undef, undef, undef, undef, undef, undef, undef, u 4, u 5, undef, undef, undef, undef, undef, undef, undef, undef, undef, undef, undef, undef, undef, undef, undef, undef, undef, undef, undef, undef, undef, undef, undef, undef, undef, undef, undef, undef, undef, undef, undef, undef, undef, undef, undef, undef, undef, undef, undef, undef, undef, undef, undef], []⟩, rfl, fun d hd => by cases hd; exact (by decide : 59 < 102), ?_⟩
                  have e4 : u 4 = _ := hR 4 (by decide)
                  have e5 : u 5 = _ := hR 5 (by decide)
                  have k0 := keep_cell hI p0
                  have k1 := keep_cell hI p2
                  have k2 := keep_cell hI y0
                  have k3 := keep_cell hI q0
                  have k4 := keep_cell hI q1
                  have k5 := keep_cell hI q2
                  have k6 := keep_cell hI q3
                  have k7 := keep_cell hI q4
                  have k8 := keep_cell hI q5
                  have k9 := keep_cell hI q6
                  have HI := Lib.hid hI
                  clear hI hst hR
                  rw [e4, e5]
                  clear e4 e5
                  go_wp2
                  exact ⟨rfl, _, rfl, rfl, HI.out, fun _ _ h => h⟩
                · refine Owes.mk _ rfl rfl (fun _ _ h => by cases h) fun u m w' hm hI hR => ⟨⟨#[undef, undef, undef, undef, undef, undef, undef, undef, undef, undef, undef, undef, undef, undef, undef, undef, undef, undef, undef, undef, undef, undef, undef, undef, undef, undef, undef, undef, undef, undef, undef, undef, undef, undef, undef, undef, undef, undef, undef, undef, undef, undef, undef, undef, undef, undef, undef, undef, undef, undef, undef, undef, undef, undef, undef, undef, undef, undef, undef, u 6, undef, undef, undef, undef, undef, undef, undef, undef, undef, undef, undef, undef, undef, undef, undef, undef, undef, undef, undef, undef, undef, undef, undef, undef, undef, undef, undef, undef, undef, undef, undef, undef, undef, undef, undef, undef, undef, undef, undef, undef, undef, undef], []⟩, rfl, fun d hd => by cases hd; exact (by decide : 60 < 102), ?_⟩
                  have e6 : u 6 = _ := hR 6 (by decide)
                  have k0 := keep_cell hI p0
                  have k1 := keep_cell hI p2
                  have k2 := keep_cell hI y0
                  have k3 := keep_cell hI q0
                  have k4 := keep_cell hI q1
                  have k5 := keep_cell hI q2
                  have k6 := keep_cell hI q3
                  have k7 := keep_cell hI q4
                  have k8 := keep_cell hI q5
                  have k9 := keep_cell hI q6
                  have HI := Lib.hid hI
                  clear hI hst hR
                  rw [e6]
                  clear e6
                  go_wp2
                  exact ⟨rfl, _, rfl, rfl, HI.out, fun _ _ h => h⟩
                · refine Owes.mk _ rfl rfl (fun _ _ h => by cases h) fun u m w' hm hI hR => ⟨⟨#[undef, undef, undef, undef, undef, undef, undef, .int .i64 (j : Int), undef, undef, undef, undef, undef, undef, undef, undef, undef, undef, undef, undef, undef, undef, undef, undef, undef, undef, undef, undef, undef, undef, undef, undef, undef, undef, undef, undef, undef, undef, undef, undef, undef, undef, undef, undef, undef, undef, undef, undef, undef, undef, undef, undef, undef, undef, undef, undef, undef, undef, undef, undef, undef, undef, undef, undef, undef, undef, undef, undef, undef, undef, undef, undef, undef, undef, undef, undef, undef, undef, undef, undef, undef, undef, undef, undef, undef, undef, undef, undef, undef, undef, undef, undef, undef, undef, undef, undef, undef, undef, undef, undef, undef, undef], []⟩, rfl, fun d hd => by cases hd; exact (by decide : 61 < 102), ?_⟩
                  have k0 := keep_cell hI p0
                  have k1 := keep_cell hI p2
                  have k2 := keep_cell hI y0
                  have k3 := keep_cell hI q0
                  have k4 := keep_cell hI q1
                  have k5 := keep_cell hI q2
                  have k6 := keep_cell hI q3
                  have k7 := keep_cell hI q4
                  have k8 := keep_cell hI q5
                  have k9 := keep_cell hI q6
                  have HI := Lib.hid hI
                  clear hI hst hR
                  go_wp2
                  exact ⟨rfl, _, rfl, rfl, HI.out, fun _ _ h => h⟩
                · refine Owes.mk _ rfl rfl (fun _ _ h => by cases h) fun u m w' hm hI hR => ⟨⟨#[undef, undef, undef, undef, undef, undef, undef, undef, undef, undef, undef, undef, undef, undef, undef, undef, undef, undef, undef, undef, undef, undef, undef, undef, undef, undef, undef, undef, undef, undef, undef, undef, undef, undef, undef, undef, undef, undef, undef, undef, undef, undef, undef, undef, undef, undef, undef, undef, undef, undef, undef, undef, undef, undef, undef, undef, undef, undef, undef, undef, u 7, u 8, undef, undef, undef, undef, undef, undef, undef, undef, undef, undef, undef, undef, undef, undef, undef, undef, undef, undef, undef, undef, undef, undef, undef, undef, undef, undef, undef, undef, undef, undef, undef, undef, undef, undef, undef, undef, undef, undef, undef, undef], []⟩, rfl, fun d hd => by cases hd; exact (by decide : 62 < 102), ?_⟩
                  have e7 : u 7 = _ := hR 7 (by decide)
                  have e8 : u 8 = _ := hR 8 (by decide)
                  have k0 := keep_cell hI p0
                  have k1 := keep_cell hI p2
                  have k2 := keep_cell hI y0
                  have k3 := keep_cell hI q0
                  have k4 := keep_cell hI q1
                  have k5 := keep_cell hI q2
                  have k6 := keep_cell hI q3
                  have k7 := keep_cell hI q4
                  have k8 := keep_cell hI q5
                  have k9 := keep_cell hI q6
                  have HI := Lib.hid hI
                  clear hI hst hR
                  rw [e7, e8]
                  clear e7 e8
                  go_wp2
                  exact ⟨rfl, _, rfl, rfl, HI.out, fun _ _ h => h⟩
                · refine Owes.mk _ rfl rfl (fun _ _ h => by cases h) fun u m w' hm hI hR => ⟨⟨#[undef, undef, undef, undef, undef, undef, undef, undef, undef, undef, undef, undef, undef, undef, undef, undef, undef, undef, undef, undef, undef, undef, undef, undef, undef, undef, undef, undef, undef, undef, undef, undef, undef, undef, undef, undef, undef, undef, undef, undef, undef, undef, undef, undef, undef, undef, undef, undef, undef, undef, undef, undef, undef, undef, undef, undef, undef, undef, undef, undef, undef, undef, u 9, undef, undef, undef, undef, undef, undef, undef, undef, undef, undef, undef, undef, undef, undef, undef, undef, undef, undef, undef, undef, undef, undef, undef, undef, undef, undef, undef, undef, undef, undef, undef, undef, undef, undef, undef, undef, undef, undef, undef], []⟩, rfl, fun d hd => by cases hd; exact (by decide : 63 < 102), ?_⟩
                  have e9 : u 9 = _ := hR 9 (by decide)
                  have k0 := keep_cell hI p0
                  have k1 := keep_cell hI p2
                  have k2 := keep_cell hI y0
                  have k3 := keep_cell hI q0
                  have k4 := keep_cell hI q1
                  have k5 := keep_cell hI q2
                  have k6 := keep_cell hI q3
                  have k7 := keep_cell hI q4
                  have k8 := keep_cell hI q5
                  have k9 := keep_cell hI q6
                  have HI := Lib.hid hI
                  clear hI hst hR
                  rw [e9]
                  clear e9
                  go_wp2
                  exact ⟨rfl, _, rfl, rfl, HI.out, fun _ _ h => h⟩
                · refine Owes.mk _ rfl rfl (fun _ _ h => by cases h) fun u m w' hm hI hR => ⟨⟨#[undef, undef, undef, undef, undef, undef, undef, undef, undef, undef, undef, undef, undef, undef, undef, undef, undef, undef, undef, undef, undef, undef, undef, undef, undef, undef, undef, undef, undef, undef, undef, undef, undef, undef, undef, undef, undef, undef, undef, undef, undef, undef, undef, undef, undef, undef, undef, undef, undef, undef, undef, undef, undef, undef, undef, u 2, undef, undef, undef, undef, undef, undef, undef, u 10, undef, undef, undef, undef, undef, undef, undef, undef, undef, undef, undef, undef, undef, undef, undef, undef, undef, undef, undef, undef, undef, undef, undef, undef, undef, undef, undef, undef, undef, undef, undef, undef, undef, undef, undef, undef, undef, undef], []⟩, rfl, fun d hd => by cases hd; exact (by decide : 64 < 102), ?_⟩
                  have e2 : u 2 = _ := hR 2 (by decide)
                  have e10 : u 10 = _ := hR 10 (by decide)
                  have k0 := keep_cell hI p0
                  have k1 := keep_cell hI p2
                  have k2 := keep_cell hI y0
                  have k3 := keep_cell hI q0
                  have k4 := keep_cell hI q1
                  have k5 := keep_cell hI q2
                  have k6 := keep_cell hI q3
                  have k7 := keep_cell hI q4
                  have k8 := keep_cell hI q5
                  have k9 := keep_cell hI q6
                  rw [e2, e10]
                  clear e2 e10
                  have hS := SlR.below intR_fits GD.out hI
                  have hE := SlR.below intR_fits GE.out hI
                  have hM := SlR.below mrR_fits (SlR.below mrR_fits SM.out hbel) hI
                  have HSd := Lib.hid hS
                  have HEd := Lib.hid hE
                  have HMd := Lib.hid hM
                  have HI := Lib.hid hI
                  clear hI hR hS hE hM
                  go_wp2_with fail
                  refine (iReqSlave_ok2 _ x.map fm ⟨id, kd, ad, mn, wp, xd, xl⟩ _ _ fd fe HMO.out HRO.out _ HMd.out HSd.out HEd.out).mono ?_
                  rw [HSV.out]
                  rintro e w5 ⟨rfl, b5⟩
                  have HS5 := Lib.hid (facts_stable hst (b5.chg []))
                  have HI5 := Lib.hid (HI.out.trans (b5.mono HI.out.size))
                  clear b5 hst
                  go_wp2
                  exact ⟨rfl, _, rfl, rfl, HI5.out, HS5.out⟩
                · refine Owes.mk _ rfl rfl (fun _ _ h => by cases h) fun u m w' hm hI hR => ⟨⟨#[undef, undef, undef, undef, undef, undef, undef, undef, undef, undef, undef, undef, undef, undef, undef, undef, undef, undef, undef, undef, undef, undef, undef, undef, undef, undef, undef, undef, undef, undef, undef, undef, undef, undef, undef, undef, undef, undef, undef, undef, undef, undef, undef, undef, undef, undef, undef, undef, undef, undef, undef, undef, undef, undef, undef, undef, undef, undef, undef, undef, undef, undef, undef, undef, u 11, undef, undef, undef, undef, undef, undef, undef, undef, undef, undef, undef, undef, undef, undef, undef, undef, undef, undef, undef, undef, undef, undef, undef, undef, undef, undef, undef, undef, undef, undef, undef, undef, undef, undef, undef, undef, undef], []⟩, rfl, fun d hd => by cases hd; exact (by decide : 65 < 102), ?_⟩
                  have e11 : u 11 = _ := hR 11 (by decide)
                  have k0 := keep_cell hI p0
                  have k1 := keep_cell hI p2
                  have k2 := keep_cell hI y0
                  have k3 := keep_cell hI q0
                  have k4 := keep_cell hI q1
                  have k5 := keep_cell hI q2
                  have k6 := keep_cell hI q3
                  have k7 := keep_cell hI q4
                  have k8 := keep_cell hI q5
                  have k9 := keep_cell hI q6
                  rw [e11]
                  clear e11
                  have ba := below_alloc w' (.cells #[.int .i64 s] 3)
                  have HS8 := Lib.hid (facts_stable hst (ba.chg []))
                  have HB8 := Lib.hid (hI.trans (ba.mono hI.size))
                  clear hI hst hR ba
                  go_wp2
                  exact ⟨rfl, _, rfl, ⟨w'.heap.size, rfl, alloc_new _ _ _⟩, HB8.out, HS8.out⟩
              case hend =>
                intro u w' hI hR
                simp only [setAll, List.set_cons_zero, List.set_cons_succ]
                have e0 : u 0 = _ := hR 0 (by decide)
                obtain ⟨b7, e7, c7⟩ := hR 12 (by decide)
                rw [e0, e7]
                have HOw := Lib.hid (OwnR.below HO.out hI)
                have hbase : w4.heap.size ≤ w'.heap.size := by have := hbel.size; have := hI.size; omega
                have hnews : ∀ (q : Nat) (z : Value), (([s] : List Int).flatMap IntC)[q]? = some z → w'.cell? ((⟨b7, 0, none⟩ : Addr).add q) = some z := fun q z hq => by
                  have hj0 : q = 0 := by have := (List.getElem?_eq_some_iff.1 hq).1; simpa [IntC] using this
                  subst hj0
                  simp [IntC] at hq
                  subst hq
                  exact c7
                have hjp : j < pl := by rw [hpl]; exact hjx
                have hj12 : j < 12 := by have := busOk_len HOK.out hk0x; omega
                have hmlen : j < (mine x k0 hk0x).length := by unfold mine; rw [List.length_map]; exact hjx
                have HT : Hid ((mine x k0 hk0x).take (j + 1) = (mine x k0 hk0x).take j ++ [s]) := Lib.hid (by
                  rw [List.take_succ_eq_append_getElem hmlen, show (mine x k0 hk0x)[j] = s from by rw [← HSv0.out]; simp [mine]])
                have HBl := Lib.hid (hbel.trans (hI.mono hbel.size))
                have hlen : ((mine x k0 hk0x).take j).length ≤ 2000000 := by
                  rw [List.length_take]
                  have := busOk_len HOK.out hk0x
                  omega
                clear hR hst hI e0 e7 c7 p0 p2 q0 q1 q2 q3 q4 q5 q6 y0
                refine wpList_appendB (K := 1) (c := IntC) (l := (mine x k0 hk0x).take j) (news := [s]) (base := w4.heap.size) rfl _ _ 24 3 i1 (.int .i64 0) 8 IntC_len rfl Try.underlying24 li lz0 lz1 lz2 rfl (by decide) (by decide) rfl rfl HOw.out rfl (by decide) hnews (by simp [IntC, Value.oneCell']) hlen (by decide) hbase ?_
                intro v' w8 hown' hgr hblk
                obtain ⟨va', vn', vc', rfl, -⟩ := hown'.slice
                have HO8 := Lib.hid hown'
                have HB8 := Lib.hid (HBl.out.trans (grown_below HOw.out hgr hbase))
                clear hnews hown' hgr hblk HOw HBl
                go_wp2
                go_roundw
                case rel => exact ⟨j + 1, va', vn', vc', by omega, rfl, by go_num, by rw [HT.out]; exact HO8.out, HB8.out⟩
                case measure => simp [intOf]; omega
            · have hjn : x.progs[k0].length ≤ j := by rw [hyn.out]; omega
              have hji : ¬ (j : Int) < (yn : Int) := by omega
              have HMi : Hid ((mine x k0 hk0x).take j = mine x k0 hk0x) := Lib.hid (List.take_of_length_le (by unfold mine; rw [List.length_map]; exact hjn))
              have hO2 := HO.out
              rw [HMi.out] at hO2
              obtain ⟨fmn, hmn, -⟩ := intRow_reads hO2
              have GMn := Lib.hid hmn
              have HBel := Lib.hid hbel
              clear hO2 hmn HO hj hjn
              go_wp2_with fail
              clear y0 p0 p2 hji hjy hbel
              obtain ⟨w8, rfl⟩ : ∃ z, z = wr := ⟨_, rfl⟩
              go_loopw [8] (fun i wq => ∃ k : Nat, k ≤ 3 ∧ i = .int .i64 k ∧ (∀ q, q < k → q ≠ k0 → (progAt x q).any (asksOf x.map (progAt x k0)) = false) ∧ Below w8.heap.size w8 wq) (fun i _ => 3 - (intOf i).toNat)
              case atStart => exact ⟨0, by omega, rfl, fun q hq => absurd hq (Nat.not_lt_zero q), Below.refl _ _⟩
              case round =>
                obtain ⟨k, hk, rfl, hno, hbq⟩ := hrel
                have HNo := Lib.hid hno
                have HBq := Lib.hid hbq
                clear hno hbq
                by_cases hk3 : k < 3
                · have hk3i : (k : Int) < 3 := by omega
                  have hkx : k < x.progs.length := by omega
                  obtain ⟨pk, hpk⟩ : ∃ z, z = x.progs[k].length := ⟨_, rfl⟩
                  go_wp2_with fail
                  go_loopw [9] (fun i wq => ∃ j : Nat, i = .int .i64 j ∧ (k = k0 → j = 0) ∧ j ≤ pk ∧ (∀ q (hq : q < x.progs[k].length), q < j → slaveOf x.map x.progs[k][q] ∉ mine x k0 hk0x) ∧ Below w8.heap.size w8 wq) (fun i _ => pk - (intOf i).toNat)
                  case atStart => exact ⟨0, rfl, fun _ => rfl, Nat.zero_le _, fun q _ h => absurd h (Nat.not_lt_zero q), HBq.out⟩
                  case round =>
                    obtain ⟨j, rfl, hj0, hj, hnm, hbq⟩ := hrel
                    have HNm := Lib.hid hnm
                    have hbel := HBel.out.trans (hbq.mono HBel.out.size)
                    have HBq2 := Lib.hid hbq
                    have GMi := Lib.hid (SlR.below intR_fits GMn.out hbq)
                    have p0 := keep_cell hbel P0
                    have p2 := keep_cell hbel P2
                    clear hnm hbq
                    by_cases hkk : k = k0
                    · have hne : ((k : Int) != (k0 : Int)) = false := by rw [hkk]; simp
                      have HNo2 : Hid (∀ q, q < k + 1 → q ≠ k0 → (progAt x q).any (asksOf x.map (progAt x k0)) = false) := Lib.hid (fun q hq hqk => HNo.out q (by omega) hqk)
                      clear hkk hj0 hbel
                      go_wp2
                      go_roundw
                      case rel => exact ⟨k + 1, by omega, by go_num, HNo2.out, HBq2.out⟩
                      case measure => simp [intOf]; omega
                    · have hne : ((k : Int) != (k0 : Int)) = true := by rw [bne, beq_eq_false_iff_ne.2 (by omega)]; rfl
                      obtain ⟨_, _, _, ep, -, -, -, -, rp⟩ := SP.out.opened
                      cases ep
                      obtain ⟨_, b5, o5, f5, cs, e5, hb5, hbf, hff, ⟨y, rfl, hy⟩, ec⟩ := rp k (by omega)
                      cases e5
                      have Y0 := ec 0 (by simp)
                      simp only [Nat.mul_one, Nat.add_zero, List.getElem_cons_zero] at Y0
                      obtain ⟨ya, yn, yc, rfl, hyn, -, -, -, ry⟩ := hy.opened
                      have y0 := keep_cell hbel Y0
                      by_cases hjy : j < yn
                      · skip
                        have hjx : j < x.progs[k].length := by rw [hyn.out]; exact hjy
                        obtain ⟨_, qb, qo, f6, cs6, e6, hb6, hbf6, hff6, ⟨v5, v6, fd, fe, rfl, rfl, hd, he⟩, eq⟩ := ry j hjy
                        subst e6
                        obtain ⟨da, dn, dc, rfl⟩ := hd.form
                        obtain ⟨ea, en, ec, rfl⟩ := he.form
                        have q0 := keep_cell hbel (eq 0 (by simp))
                        have q1 := keep_cell hbel (eq 1 (by simp))
                        have q2 := keep_cell hbel (eq 2 (by simp))
                        have q3 := keep_cell hbel (eq 3 (by simp))
                        have q4 := keep_cell hbel (eq 4 (by simp))
                        have q5 := keep_cell hbel (eq 5 (by simp))
                        have q6 := keep_cell hbel (eq 6 (by simp))
                        simp only [Nat.add_zero, List.getElem_cons_zero, List.getElem_cons_succ] at q0 q1 q2 q3 q4 q5 q6
                        have HRO0 := busOk_req HOK.out (k := k) (i := j) (by omega) hjx
                        obtain ⟨s, hs⟩ : ∃ z, slaveOf x.map x.progs[k][j] = z := ⟨_, rfl⟩
                        have HSv0 := Lib.hid hs
                        obtain ⟨⟨id, kd, ad, mn, wp, xd, xl⟩, hreq⟩ : ∃ z, x.progs[k][j] = z := ⟨_, rfl⟩
                        rw [hreq] at q0 q1 q2 q3 q4 hd he HRO0 hs
                        have HRO := Lib.hid HRO0
                        have HSV := Lib.hid hs
                        have GD := Lib.hid (SlR.below intR_fits hd hbel)
                        have GE := Lib.hid (SlR.below intR_fits he hbel)
                        have hji : (j : Int) < (yn : Int) := by omega
                        clear eq hd he HRO0 hs hreq
                        have hjp : j < pk := by rw [hpk]; exact hjx
                        have hj12 : j < 12 := by have := busOk_len HOK.out hkx; omega
                        obtain ⟨mi, hmi⟩ : ∃ z, z = mine x k0 hk0x := ⟨_, rfl⟩
                        have HMi2 := Lib.hid hmi
                        have GMj := Lib.hid (show IntS wr mi (.slice am nm cm) fmn by rw [hmi]; exact GMi.out)
                        obtain ⟨bi, hbi⟩ : ∃ z, decide (s ∈ mi) = z := ⟨_, rfl⟩
                        have HBi := Lib.hid hbi
                        clear hbi hmi
                        go_wp2_with fail
                        cases bi
                        · skip
                          have hst : ∀ F, F ∈ [FEq (.slice am nm cm), FEq (.pointer (some ⟨cx, 0, none⟩)), FEq (.slice va vn vc), FEq (.pointer (some ⟨cx, 2, none⟩)), FEq (.slice (some ⟨pb, po, none⟩) 3 pc), FEq (.int .i64 (k : Int)), FEq (.pointer (some ⟨pb, po + k, none⟩)), FEq (.slice (some ⟨qb, qo, none⟩) yn yc), FEq (.int .i64 (j : Int)), FEq (.pointer (some ⟨qb, qo + j * 7, none⟩)), FEq (.agg #[.int .i64 id, .int .i64 kd, .int .i64 ad, .int .i64 mn, .bool wp, .slice da dn dc, .slice ea en ec]), FEq (.int .i64 s), FEq (.bool false)] → Stable [] F := by
                            simp only [List.forall_mem_cons]
                            exact ⟨stEq _ _, stEq _ _, stEq _ _, stEq _ _, stEq _ _, stEq _ _, stEq _ _, stEq _ _, stEq _ _, stEq _ _, stEq _ _, stEq _ _, stEq _ _, fun _ h => by simp at h⟩
                          refine wp_region_tail (by kernel_rfl) (fun i => ([[], [], [1], [], [3], [], [3, 4, 5], [3, 4, 5, 6], [], [3, 4, 5, 6, 7, 8], [3, 4, 5, 6, 7, 8, 9], [1, 2, 3, 4, 5, 6, 7, 8, 9, 10], [0, 1, 2, 3, 4, 5, 6, 7, 8, 9, 10, 11]] : List (List Nat)).getD i []) (facts [FEq (.slice am nm cm), FEq (.pointer (some ⟨cx, 0, none⟩)), FEq (.slice va vn vc), FEq (.pointer (some ⟨cx, 2, none⟩)), FEq (.slice (some ⟨pb, po, none⟩) 3 pc), FEq (.int .i64 (k : Int)), FEq (.pointer (some ⟨pb, po + k, none⟩)), FEq (.slice (some ⟨qb, qo, none⟩) yn yc), FEq (.int .i64 (j : Int)), FEq (.pointer (some ⟨qb, qo + j * 7, none⟩)), FEq (.agg #[.int .i64 id, .int .i64 kd, .int .i64 ad, .int .i64 mn, .bool wp, .slice da dn dc, .slice ea en ec]), FEq (.int .i64 s), FEq (.bool false)]) (fun m w' => Below wr.heap.size wr w') 102 13 13 [some 86, some 87, some 88, some 89, some 90, some 91, some 92, some 93, some 94, some 95, some 96, some 97, some 98] [] rfl rfl (by decide) rfl rfl (by kernel_rfl) (by kernel_rfl) [] (by kernel_rfl) (fun g b hm v w h => by simp at hm) ?h0 (all_lt (n := 13) ?hop) ?hend
                          case h0 => exact (Below.refl _ _).drew
                          case hop =>
                            refine ⟨⟨⟨⟨⟨⟨⟨⟨⟨⟨⟨⟨⟨trivial, ?_⟩, ?_⟩, ?_⟩, ?_⟩, ?_⟩, ?_⟩, ?_⟩, ?_⟩, ?_⟩, ?_⟩, ?_⟩, ?_⟩, ?_⟩
                            · refine Owes.mk _ rfl rfl (fun _ _ h => by cases h) fun u m w' hm hI hR => ⟨⟨#[undef, undef, undef, undef, undef, undef, .slice am nm cm, undef, undef, undef, undef, undef, undef, undef, undef, undef, undef, undef, undef, undef, undef, undef, undef, undef, undef, undef, undef, undef, undef, undef, undef, undef, undef, undef, undef, undef, undef, undef, undef, undef, undef, undef, undef, undef, undef, undef, undef, undef, undef, undef, undef, undef, undef, undef, undef, undef, undef, undef, undef, undef, undef, undef, undef, undef, undef, undef, undef, undef, undef, undef, undef, undef, undef, undef, undef, undef, undef, undef, undef, undef, undef, undef, undef, undef, undef, undef, undef, undef, undef, undef, undef, undef, undef, undef, undef, undef, undef, undef, undef, undef, undef, undef], []⟩, rfl, fun d hd => by cases hd; exact (by decide : 86 < 102), ?_⟩
                              have k0 := keep_cell hI p0
                              have k1 := keep_cell hI p2
                              have k2 := keep_cell hI y0
                              have k3 := keep_cell hI q0
                              have k4 := keep_cell hI q1
                              have k5 := keep_cell hI q2
                              have k6 := keep_cell hI q3
                              have k7 := keep_cell hI q4
                              have k8 := keep_cell hI q5
                              have k9 := keep_cell hI q6
                              have HI := Lib.hid hI
                              clear hI hst hR
                              go_wp2
                              exact ⟨rfl, _, rfl, rfl, HI.out, fun _ _ h => h⟩
                            · refine Owes.mk _ rfl rfl (fun _ _ h => by cases h) fun u m w' hm hI hR => ⟨⟨#[undef, undef, undef, .pointer (some ⟨cx, 0, none⟩), undef, undef, undef, undef, undef, undef, undef, undef, undef, undef, undef, undef, undef, undef, undef, undef, undef, undef, undef, undef, undef, undef, undef, undef, undef, undef, undef, undef, undef, undef, undef, undef, undef, undef, undef, undef, undef, undef, undef, undef, undef, undef, undef, undef, undef, undef, undef, undef, undef, undef, undef, undef, undef, undef, undef, undef, undef, undef, undef, undef, undef, undef, undef, undef, undef, undef, undef, undef, undef, undef, undef, undef, undef, undef, undef, undef, undef, undef, undef, undef, undef, undef, undef, undef, undef, undef, undef, undef, undef, undef, undef, undef, undef, undef, undef, undef, undef, undef], []⟩, rfl, fun d hd => by cases hd; exact (by decide : 87 < 102), ?_⟩
                              have k0 := keep_cell hI p0
                              have k1 := keep_cell hI p2
                              have k2 := keep_cell hI y0
                              have k3 := keep_cell hI q0
                              have k4 := keep_cell hI q1
                              have k5 := keep_cell hI q2
                              have k6 := keep_cell hI q3
                              have k7 := keep_cell hI q4
                              have k8 := keep_cell hI q5
                              have k9 := keep_cell hI q6
                              have HI := Lib.hid hI
                              clear hI hst hR
                              go_wp2
                              exact ⟨rfl, _, rfl, rfl, HI.out, fun _ _ h => h⟩
                            · refine Owes.mk _ rfl rfl (fun _ _ h => by cases h) fun u m w' hm hI hR => ⟨⟨#[undef, undef, undef, undef, undef, undef, undef, undef, undef, undef, undef, undef, undef, undef, undef, undef, undef, undef, undef, undef, undef, undef, undef, undef, undef, undef, undef, undef, undef, undef, undef, undef, undef, undef, undef, undef, undef, undef, undef, undef, undef, undef, undef, undef, undef, undef, undef, undef, undef, undef, undef, undef, undef, undef, undef, undef, undef, undef, undef, undef, undef, undef, undef, undef, undef, undef, undef, undef, undef, undef, undef, undef, undef, undef, undef, undef, undef, undef, undef, undef, undef, undef, undef, undef, undef, undef, undef, u 1, undef, undef, undef, undef, undef, undef, undef, undef, undef, undef, undef, undef, undef, undef], []⟩, rfl, fun d hd => by cases hd; exact (by decide : 88 < 102), ?_⟩
                              have e1 : u 1 = _ := hR 1 (by decide)
                              have k0 := keep_cell hI p0
                              have k1 := keep_cell hI p2
                              have k2 := keep_cell hI y0
                              have k3 := keep_cell hI q0
                              have k4 := keep_cell hI q1
                              have k5 := keep_cell hI q2
                              have k6 := keep_cell hI q3
                              have k7 := keep_cell hI q4
                              have k8 := keep_cell hI q5
                              have k9 := keep_cell hI q6
                              have HI := Lib.hid hI
                              clear hI hst hR
                              rw [e1]
                              clear e1
                              go_wp2
                              exact ⟨rfl, _, rfl, rfl, HI.out, fun _ _ h => h⟩
                            · refine Owes.mk _ rfl rfl (fun _ _ h => by cases h) fun u m w' hm hI hR => ⟨⟨#[undef, undef, undef, .pointer (some ⟨cx, 0, none⟩), undef, undef, undef, undef, undef, undef, undef, undef, undef, undef, undef, undef, undef, undef, undef, undef, undef, undef, undef, undef, undef, undef, undef, undef, undef, undef, undef, undef, undef, undef, undef, undef, undef, undef, undef, undef, undef, undef, undef, undef, undef, undef, undef, undef, undef, undef, undef, undef, undef, undef, undef, undef, undef, undef, undef, undef, undef, undef, undef, undef, undef, undef, undef, undef, undef, undef, undef, undef, undef, undef, undef, undef, undef, undef, undef, undef, undef, undef, undef, undef, undef, undef, undef, undef, undef, undef, undef, undef, undef, undef, undef, undef, undef, undef, undef, undef, undef, undef], []⟩, rfl, fun d hd => by cases hd; exact (by decide : 89 < 102), ?_⟩
                              have k0 := keep_cell hI p0
                              have k1 := keep_cell hI p2
                              have k2 := keep_cell hI y0
                              have k3 := keep_cell hI q0
                              have k4 := keep_cell hI q1
                              have k5 := keep_cell hI q2
                              have k6 := keep_cell hI q3
                              have k7 := keep_cell hI q4
                              have k8 := keep_cell hI q5
                              have k9 := keep_cell hI q6
                              have HI := Lib.hid hI
                              clear hI hst hR
                              go_wp2
                              exact ⟨rfl, _, rfl, rfl, HI.out, fun _ _ h => h⟩
                            · refine Owes.mk _ rfl rfl (fun _ _ h => by cases h) fun u m w' hm hI hR => ⟨⟨#[undef, undef, undef, undef, undef, undef, undef, undef, undef, undef, undef, undef, undef, undef, undef, undef, undef, undef, undef, undef, undef, undef, undef, undef, undef, undef, undef, undef, undef, undef, undef, undef, undef, undef, undef, undef, undef, undef, undef, undef, undef, undef, undef, undef, undef, undef, undef, undef, undef, undef, undef, undef, undef, undef, undef, undef, undef, undef, undef, undef, undef, undef, undef, undef, undef, undef, undef, undef, undef, undef, undef, undef, undef, undef, undef, undef, undef, undef, undef, undef, undef, undef, undef, undef, undef, undef, undef, undef, undef, u 3, undef, undef, undef, undef, undef, undef, undef, undef, undef, undef, undef, undef], []⟩, rfl, fun d hd => by cases hd; exact (by decide : 90 < 102), ?_⟩
                              have e3 : u 3 = _ := hR 3 (by decide)
                              have k0 := keep_cell hI p0
                              have k1 := keep_cell hI p2
                              have k2 := keep_cell hI y0
                              have k3 := keep_cell hI q0
                              have k4 := keep_cell hI q1
                              have k5 := keep_cell hI q2
                              have k6 := keep_cell hI q3
                              have k7 := keep_cell hI q4
                              have k8 := keep_cell hI q5
                              have k9 := keep_cell hI q6
                              have HI := Lib.hid hI
                              clear hI hst hR
                              rw [e3]
                              clear e3
                              go_wp2
                              exact ⟨rfl, _, rfl, rfl, HI.out, fun _ _ h => h⟩
                            · refine Owes.mk _ rfl rfl (fun _ _ h => by cases h) fun u m w' hm hI hR => ⟨⟨#[undef, undef, undef, undef, undef, undef, undef, undef, .int .i64 (k : Int), undef, undef, undef, undef, undef, undef, undef, undef, undef, undef, undef, undef, undef, undef, undef, undef, undef, undef, undef, undef, undef, undef, undef, undef, undef, undef, undef, undef, undef, undef, undef, undef, undef, undef, undef, undef, undef, undef, undef, undef, undef, undef, undef, undef, undef, undef, undef, undef, undef, undef, undef, undef, undef, undef, undef, undef, undef, undef, undef, undef, undef, undef, undef, undef, undef, undef, undef, undef, undef, undef, undef, undef, undef, undef, undef, undef, undef, undef, undef, undef, undef, undef, undef, undef, undef, undef, undef, undef, undef, undef, undef, undef, undef], []⟩, rfl, fun d hd => by cases hd; exact (by decide : 91 < 102), ?_⟩
                              have k0 := keep_cell hI p0
                              have k1 := keep_cell hI p2
                              have k2 := keep_cell hI y0
                              have k3 := keep_cell hI q0
                              have k4 := keep_cell hI q1
                              have k5 := keep_cell hI q2
                              have k6 := keep_cell hI q3
                              have k7 := keep_cell hI q4
                              have k8 := keep_cell hI q5
                              have k9 := keep_cell hI q6
                              have HI := Lib.hid hI
                              clear hI hst hR
                              go_wp2
                              exact ⟨rfl, _, rfl, rfl, HI.out, fun _ _ h => h⟩
                            · refine Owes.mk _ rfl rfl (fun _ _ h => by cases h) fun u m w' hm hI hR => ⟨⟨#[undef, undef, undef, undef, undef, undef, undef, undef, undef, undef, undef, undef, undef, undef, undef, undef, undef, undef, undef, undef, undef, undef, undef, undef, undef, undef, undef, undef, undef, undef, undef, undef, undef, undef, undef, undef, undef, undef, undef, undef, undef, undef, undef, undef, undef, undef, undef, undef, undef, undef, undef, undef, undef, undef, undef, undef, undef, undef, undef, undef, undef, undef, undef, undef, undef, undef, undef, undef, undef, undef, undef, undef, undef, undef, undef, undef, undef, undef, undef, undef, undef, undef, undef, undef, undef, undef, undef, undef, undef, undef, u 4, u 5, undef, undef, undef, undef, undef, undef, undef, undef, undef, undef], []⟩, rfl, fun d hd => by cases hd; exact (by decide : 92 < 102), ?_⟩
                              have e4 : u 4 = _ := hR 4 (by decide)
                              have e5 : u 5 = _ := hR 5 (by decide)
                              have k0 := keep_cell hI p0
                              have k1 := keep_cell hI p2
                              have k2 := keep_cell hI y0
                              have k3 := keep_cell hI q0
                              have k4 := keep_cell hI q1
                              have k5 := keep_cell hI q2
                              have k6 := keep_cell hI q3
                              have k7 := keep_cell hI q4
                              have k8 := keep_cell hI q5
                              have k9 := keep_cell hI q6
                              have HI := Lib.hid hI
                              clear hI hst hR
                              rw [e4, e5]
                              clear e4 e5
                              go_wp2
                              exact ⟨rfl, _, rfl, rfl, HI.out, fun _ _ h => h⟩
                            · refine Owes.mk _ rfl rfl (fun _ _ h => by cases h) fun u m w' hm hI hR => ⟨⟨#[undef, undef, undef, undef, undef, undef, undef, undef, undef, undef, undef, undef, undef, undef, undef, undef, undef, undef, undef, undef, undef, undef, undef, undef, undef, undef, undef, undef, undef, undef, undef, undef, undef, undef, undef, undef, undef, undef, undef, undef, undef, undef, undef, undef, undef, undef, undef, undef, undef, undef, undef, undef, undef, undef, undef, undef, undef, undef, undef, undef, undef, undef, undef, undef, undef, undef, undef, undef, undef, undef, undef, undef, undef, undef, undef, undef, undef, undef, undef, undef, undef, undef, undef, undef, undef, undef, undef, undef, undef, undef, undef, undef, u 6, undef, undef, undef, undef, undef, undef, undef, undef, undef], []⟩, rfl, fun d hd => by cases hd; exact (by decide : 93 < 102), ?_⟩
                              have e6 : u 6 = _ := hR 6 (by decide)
                              have k0 := keep_cell hI p0
                              have k1 := keep_cell hI p2
                              have k2 := keep_cell hI y0
                              have k3 := keep_cell hI q0
                              have k4 := keep_cell hI q1
                              have k5 := keep_cell hI q2
                              have k6 := keep_cell hI q3
                              have k7 := keep_cell hI q4
                              have k8 := keep_cell hI q5
                              have k9 := keep_cell hI q6
                              have HI := Lib.hid hI
                              clear hI hst hR
                              rw [e6]
                              clear e6
                              go_wp2
                              exact ⟨rfl, _, rfl, rfl, HI.out, fun _ _ h => h⟩
                            · refine Owes.mk _ rfl rfl (fun _ _ h => by cases h) fun u m w' hm hI hR => ⟨⟨#[undef, undef, undef, undef, undef, undef, undef, undef, undef, .int .i64 (j : Int), undef, undef, undef, undef, undef, undef, undef, undef, undef, undef, undef, undef, undef, undef, undef, undef, undef, undef, undef, undef, undef, undef, undef, undef, undef, undef, undef, undef, undef, undef, undef, undef, undef, undef, undef, undef, undef, undef, undef, undef, undef, undef, undef, undef, undef, undef, undef, undef, undef, undef, undef, undef, undef, undef, undef, undef, undef, undef, undef, undef, undef, undef, undef, undef, undef, undef, undef, undef, undef, undef, undef, undef, undef, undef, undef, undef, undef, undef, undef, undef, undef, undef, undef, undef, undef, undef, undef, undef, undef, undef, undef, undef], []⟩, rfl, fun d hd => by cases hd; exact (by decide : 94 < 102), ?_⟩
                              have k0 := keep_cell hI p0
                              have k1 := keep_cell hI p2
                              have k2 := keep_cell hI y0
                              have k3 := keep_cell hI q0
                              have k4 := keep_cell hI q1
                              have k5 := keep_cell hI q2
                              have k6 := keep_cell hI q3
                              have k7 := keep_cell hI q4
                              have k8 := keep_cell hI q5
                              have k9 := keep_cell hI q6
                              have HI := Lib.hid hI
                              clear hI hst hR
                              go_wp2
                              exact ⟨rfl, _, rfl, rfl, HI.out, fun _ _ h => h⟩
                            · refine Owes.mk _ rfl rfl (fun _ _ h => by cases h) fun u m w' hm hI hR => ⟨⟨#[undef, undef, undef, undef, undef, undef, undef, undef, undef, undef, undef, undef, undef, undef, undef, undef, undef, undef, undef, undef, undef, undef, undef, undef, undef, undef, undef, undef, undef, undef, undef, undef, undef, undef, undef, undef, undef, undef, undef, undef, undef, undef, undef, undef, undef, undef, undef, undef, undef, undef, undef, undef, undef, undef, undef, undef, undef, undef, undef, undef, undef, undef, undef, undef, undef, undef, undef, undef, undef, undef, undef, undef, undef, undef, undef, undef, undef, undef, undef, undef, undef, undef, undef, undef, undef, undef, undef, undef, undef, undef, undef, undef, undef, u 7, u 8, undef, undef, undef, undef, undef, undef, undef], []⟩, rfl, fun d hd => by cases hd; exact (by decide : 95 < 102), ?_⟩
                              have e7 : u 7 = _ := hR 7 (by decide)
                              have e8 : u 8 = _ := hR 8 (by decide)
                              have k0 := keep_cell hI p0
                              have k1 := keep_cell hI p2
                              have k2 := keep_cell hI y0
                              have k3 := keep_cell hI q0
                              have k4 := keep_cell hI q1
                              have k5 := keep_cell hI q2
                              have k6 := keep_cell hI q3
                              have k7 := keep_cell hI q4
                              have k8 := keep_cell hI q5
                              have k9 := keep_cell hI q6
                              have HI := Lib.hid hI
                              clear hI hst hR
                              rw [e7, e8]
                              clear e7 e8
                              go_wp2
                              exact ⟨rfl, _, rfl, rfl, HI.out, fun _ _ h => h⟩
                            · refine Owes.mk _ rfl rfl (fun _ _ h => by cases h) fun u m w' hm hI hR => ⟨⟨#[undef, undef, undef, undef, undef, undef, undef, undef, undef, undef, undef, undef, undef, undef, undef, undef, undef, undef, undef, undef, undef, undef, undef, undef, undef, undef, undef, undef, undef, undef, undef, undef, undef, undef, undef, undef, undef, undef, undef, undef, undef, undef, undef, undef, undef, undef, undef, undef, undef, undef, undef, undef, undef, undef, undef, undef, undef, undef, undef, undef, undef, undef, undef, undef, undef, undef, undef, undef, undef, undef, undef, undef, undef, undef, undef, undef, undef, undef, undef, undef, undef, undef, undef, undef, undef, undef, undef, undef, undef, undef, undef, undef, undef, undef, undef, u 9, undef, undef, undef, undef, undef, undef], []⟩, rfl, fun d hd => by cases hd; exact (by decide : 96 < 102), ?_⟩
                              have e9 : u 9 = _ := hR 9 (by decide)
                              have k0 := keep_cell hI p0
                              have k1 := keep_cell hI p2
                              have k2 := keep_cell hI y0
                              have k3 := keep_cell hI q0
                              have k4 := keep_cell hI q1
                              have k5 := keep_cell hI q2
                              have k6 := keep_cell hI q3
                              have k7 := keep_cell hI q4
                              have k8 := keep_cell hI q5
                              have k9 := keep_cell hI q6
                              have HI := Lib.hid hI
                              clear hI hst hR
                              rw [e9]
                              clear e9
                              go_wp2
                              exact ⟨rfl, _, rfl, rfl, HI.out, fun _ _ h => h⟩
                            · refine Owes.mk _ rfl rfl (fun _ _ h => by cases h) fun u m w' hm hI hR => ⟨⟨#[undef, undef, undef, undef, undef, undef, undef, undef, undef, undef, undef, undef, undef, undef, undef, undef, undef, undef, undef, undef, undef, undef, undef, undef, undef, undef, undef, undef, undef, undef, undef, undef, undef, undef, undef, undef, undef, undef, undef, undef, undef, undef, undef, undef, undef, undef, undef, undef, undef, undef, undef, undef, undef, undef, undef, undef, undef, undef, undef, undef, undef, undef, undef, undef, undef, undef, undef, undef, undef, undef, undef, undef, undef, undef, undef, undef, undef, undef, undef, undef, undef, undef, undef, undef, undef, undef, undef, undef, u 2, undef, undef, undef, undef, undef, undef, undef, u 10, undef, undef, undef, undef, undef], []⟩, rfl, fun d hd => by cases hd; exact (by decide : 97 < 102), ?_⟩
                              have e2 : u 2 = _ := hR 2 (by decide)
                              have e10 : u 10 = _ := hR 10 (by decide)
                              have k0 := keep_cell hI p0
                              have k1 := keep_cell hI p2
                              have k2 := keep_cell hI y0
                              have k3 := keep_cell hI q0
                              have k4 := keep_cell hI q1
                              have k5 := keep_cell hI q2
                              have k6 := keep_cell hI q3
                              have k7 := keep_cell hI q4
                              have k8 := keep_cell hI q5
                              have k9 := keep_cell hI q6
                              rw [e2, e10]
                              clear e2 e10
                              have hS := SlR.below intR_fits GD.out hI
                              have hE := SlR.below intR_fits GE.out hI
                              have hM := SlR.below mrR_fits (SlR.below mrR_fits SM.out hbel) hI
                              have HSd := Lib.hid hS
                              have HEd := Lib.hid hE
                              have HMd := Lib.hid hM
                              have HI := Lib.hid hI
                              clear hI hR hS hE hM
                              go_wp2_with fail
                              refine (iReqSlave_ok2 _ x.map fm ⟨id, kd, ad, mn, wp, xd, xl⟩ _ _ fd fe HMO.out HRO.out _ HMd.out HSd.out HEd.out).mono ?_
                              rw [HSV.out]
                              rintro e w5 ⟨rfl, b5⟩
                              have HS5 := Lib.hid (facts_stable hst (b5.chg []))
                              have HI5 := Lib.hid (HI.out.trans (b5.mono HI.out.size))
                              clear b5 hst
                              go_wp2
                              exact ⟨rfl, _, rfl, rfl, HI5.out, HS5.out⟩
                            · refine Owes.mk _ rfl rfl (fun _ _ h => by cases h) fun u m w' hm hI hR => ⟨⟨#[undef, undef, undef, undef, undef, undef, undef, undef, undef, undef, undef, undef, undef, undef, undef, undef, undef, undef, undef, undef, undef, undef, undef, undef, undef, undef, undef, undef, undef, undef, undef, undef, undef, undef, undef, undef, undef, undef, undef, undef, undef, undef, undef, undef, undef, undef, undef, undef, undef, undef, undef, undef, undef, undef, undef, undef, undef, undef, undef, undef, undef, undef, undef, undef, undef, undef, undef, undef, undef, undef, undef, undef, undef, undef, undef, undef, undef, undef, undef, undef, undef, undef, undef, undef, undef, undef, u 0, undef, undef, undef, undef, undef, undef, undef, undef, undef, undef, u 11, undef, undef, undef, undef], []⟩, rfl, fun d hd => by cases hd; exact (by decide : 98 < 102), ?_⟩
                              have e0 : u 0 = _ := hR 0 (by decide)
                              have e11 : u 11 = _ := hR 11 (by decide)
                              have k0 := keep_cell hI p0
                              have k1 := keep_cell hI p2
                              have k2 := keep_cell hI y0
                              have k3 := keep_cell hI q0
                              have k4 := keep_cell hI q1
                              have k5 := keep_cell hI q2
                              have k6 := keep_cell hI q3
                              have k7 := keep_cell hI q4
                              have k8 := keep_cell hI q5
                              have k9 := keep_cell hI q6
                              rw [e0, e11]
                              clear e0 e11
                              have hG := SlR.below intR_fits GMj.out hI
                              have HGG := Lib.hid hG
                              have HI := Lib.hid hI
                              clear hI hR hG hst
                              go_wp2_with fail
                              refine (crIn_any _ mi fmn s _ HGG.out).mono ?_
                              rw [HBi.out]
                              rintro e w5 ⟨rfl, rfl⟩
                              go_wp2
                              exact ⟨rfl, _, rfl, rfl, HI.out, fun _ _ h => h⟩
                          case hend =>
                            intro u w' hI hR
                            simp only [setAll, List.set_cons_zero, List.set_cons_succ]
                            unfold wpList
                            have e12 : u 12 = _ := hR 12 (by decide)
                            rw [e12]
                            have HBq3 := Lib.hid (HBq2.out.trans (hI.mono HBq2.out.size))
                            have HNm2 : Hid (∀ q (hq : q < x.progs[k].length), q < j + 1 → slaveOf x.map x.progs[k][q] ∉ mine x k0 hk0x) := Lib.hid (fun q hq hqj => by
                              rcases Nat.lt_or_ge q j with h | h
                              · exact HNm.out q hq h
                              · have e : q = j := by omega
                                have h2 := HSv0.out
                                have h3 := of_decide_eq_false HBi.out
                                subst e
                                rw [h2, ← HMi2.out]
                                exact h3)
                            clear hR hst hI e12 p0 p2 q0 q1 q2 q3 q4 q5 q6 y0 hbel
                            go_wp2
                            go_roundw
                            case rel => exact ⟨j + 1, by go_num, fun h => absurd h hkk, by omega, HNm2.out, HBq3.out⟩
                            case measure => simp [intOf]; omega
                        · skip
                          have hst : ∀ F, F ∈ [FEq (.slice am nm cm), FEq (.pointer (some ⟨cx, 0, none⟩)), FEq (.slice va vn vc), FEq (.pointer (some ⟨cx, 2, none⟩)), FEq (.slice (some ⟨pb, po, none⟩) 3 pc), FEq (.int .i64 (k : Int)), FEq (.pointer (some ⟨pb, po + k, none⟩)), FEq (.slice (some ⟨qb, qo, none⟩) yn yc), FEq (.int .i64 (j : Int)), FEq (.pointer (some ⟨qb, qo + j * 7, none⟩)), FEq (.agg #[.int .i64 id, .int .i64 kd, .int .i64 ad, .int .i64 mn, .bool wp, .slice da dn dc, .slice ea en ec]), FEq (.int .i64 s), FEq (.bool true)] → Stable [] F := by
                            simp only [List.forall_mem_cons]
                            exact ⟨stEq _ _, stEq _ _, stEq _ _, stEq _ _, stEq _ _, stEq _ _, stEq _ _, stEq _ _, stEq _ _, stEq _ _, stEq _ _, stEq _ _, stEq _ _, fun _ h => by simp at h⟩
                          refine wp_region_tail (by kernel_rfl) (fun i => ([[], [], [1], [], [3], [], [3, 4, 5], [3, 4, 5, 6], [], [3, 4, 5, 6, 7, 8], [3, 4, 5, 6, 7, 8, 9], [1, 2, 3, 4, 5, 6, 7, 8, 9, 10], [0, 1, 2, 3, 4, 5, 6, 7, 8, 9, 10, 11]] : List (List Nat)).getD i []) (facts [FEq (.slice am nm cm), FEq (.pointer (some ⟨cx, 0, none⟩)), FEq (.slice va vn vc), FEq (.pointer (some ⟨cx, 2, none⟩)), FEq (.slice (some ⟨pb, po, none⟩) 3 pc), FEq (.int .i64 (k : Int)), FEq (.pointer (some ⟨pb, po + k, none⟩)), FEq (.slice (some ⟨qb, qo, none⟩) yn yc), FEq (.int .i64 (j : Int)), FEq (.pointer (some ⟨qb, qo + j * 7, none⟩)), FEq (.agg #[.int .i64 id, .int .i64 kd, .int .i64 ad, .int .i64 mn, .bool wp, .slice da dn dc, .slice ea en ec]), FEq (.int .i64 s), FEq (.bool true)]) (fun m w' => Below wr.heap.size wr w') 102 13 13 [some 86, some 87, some 88, some 89, some 90, some 91, some 92, some 93, some 94, some 95, some 96, some 97, some 98] [] rfl rfl (by decide) rfl rfl (by kernel_rfl) (by kernel_rfl) [] (by kernel_rfl) (fun g b hm v w h => by simp at hm) ?h0 (all_lt (n := 13) ?hop) ?hend
                          case h0 => exact (Below.refl _ _).drew
                          case hop =>
                            refine ⟨⟨⟨⟨⟨⟨⟨⟨⟨⟨⟨⟨⟨trivial, ?_⟩, ?_⟩, ?_⟩, ?_⟩, ?_⟩, ?_⟩, ?_⟩, ?_⟩, ?_⟩, ?_⟩, ?_⟩, ?_⟩, ?_⟩
                            · refine Owes.mk _ rfl rfl (fun _ _ h => by cases h) fun u m w' hm hI hR => ⟨⟨#[undef, undef, undef, undef, undef, undef, .slice am nm cm, undef, undef, undef, undef, undef, undef, undef, undef, undef, undef, undef, undef, undef, undef, undef, undef, undef, undef, undef, undef, undef, undef, undef, undef, undef, undef, undef, undef, undef, undef, undef, undef, undef, undef, undef, undef, undef, undef, undef, undef, undef, undef, undef, undef, undef, undef, undef, undef, undef, undef, undef, undef, undef, undef, undef, undef, undef, undef, undef, undef, undef, undef, undef, undef, undef, undef, undef, undef, undef, undef, undef, undef, undef, undef, undef, undef, undef, undef, undef, undef, undef, undef, undef, undef, undef, undef, undef, undef, undef, undef, undef, undef, undef, undef, undef], []⟩, rfl, fun d hd => by cases hd; exact (by decide : 86 < 102), ?_⟩
                              have k0 := keep_cell hI p0
                              have k1 := keep_cell hI p2
                              have k2 := keep_cell hI y0
                              have k3 := keep_cell hI q0
                              have k4 := keep_cell hI q1
                              have k5 := keep_cell hI q2
                              have k6 := keep_cell hI q3
                              have k7 := keep_cell hI q4
                              have k8 := keep_cell hI q5
                              have k9 := keep_cell hI q6
                              have HI := Lib.hid hI
                              clear hI hst hR
                              go_wp2
                              exact ⟨rfl, _, rfl, rfl, HI.out, fun _ _ h => h⟩
                            · refine Owes.mk _ rfl rfl (fun _ _ h => by cases h) fun u m w' hm hI hR => ⟨⟨#[undef, undef, undef, .pointer (some ⟨cx, 0, none⟩), undef, undef, undef, undef, undef, undef, undef, undef, undef, undef, undef, undef, undef, undef, undef, undef, undef, undef, undef, undef, undef, undef, undef, undef, undef, undef, undef, undef, undef, undef, undef, undef, undef, undef, undef, undef, undef, undef, undef, undef, undef, undef, undef, undef, undef, undef, undef, undef, undef, undef, undef, undef, undef, undef, undef, undef, undef, undef, undef, undef, undef, undef, undef, undef, undef, undef, undef, undef, undef, undef, undef, undef, undef, undef, undef, undef, undef, undef, undef, undef, undef, undef, undef, undef, undef, undef, undef, undef, undef, undef, undef, undef, undef, undef, undef, undef, undef, undef], []⟩, rfl, fun d hd => by cases hd; exact (by decide : 87 < 102), ?_⟩
                              have k0 := keep_cell hI p0
                              have k1 := keep_cell hI p2
                              have k2 := keep_cell hI y0
                              have k3 := keep_cell hI q0
                              have k4 := keep_cell hI q1
                              have k5 := keep_cell hI q2
                              have k6 := keep_cell hI q3
                              have k7 := keep_cell hI q4
                              have k8 := keep_cell hI q5
                              have k9 := keep_cell hI q6
                              have HI := Lib.hid hI
                              clear hI hst hR
                              go_wp2
                              exact ⟨rfl, _, rfl, rfl, HI.out, fun _ _ h => h⟩
                            · refine Owes.mk _ rfl rfl (fun _ _ h => by cases h) fun u m w' hm hI hR => ⟨⟨#[undef, undef, undef, undef, undef, undef, undef, undef, undef, undef, undef, undef, undef, undef, undef, undef, undef, undef, undef, undef, undef, undef, undef, undef, undef, undef, undef, undef, undef, undef, undef, undef, undef, undef, undef, undef, undef, undef, undef, undef, undef, undef, undef, undef, undef, undef, undef, undef, undef, undef, undef, undef, undef, undef, undef, undef, undef, undef, undef, undef, undef, undef, undef, undef, undef, undef, undef, undef, undef, undef, undef, undef, undef, undef, undef, undef, undef, undef, undef, undef, undef, undef, undef, undef, undef, undef, undef, u 1, undef, undef, undef, undef, undef, undef, undef, undef, undef, undef, undef, undef, undef, undef], []⟩, rfl, fun d hd => by cases hd; exact (by decide : 88 < 102), ?_⟩
                              have e1 : u 1 = _ := hR 1 (by decide)
                              have k0 := keep_cell hI p0
                              have k1 := keep_cell hI p2
                              have k2 := keep_cell hI y0
                              have k3 := keep_cell hI q0
                              have k4 := keep_cell hI q1
                              have k5 := keep_cell hI q2
                              have k6 := keep_cell hI q3
                              have k7 := keep_cell hI q4
                              have k8 := keep_cell hI q5
                              have k9 := keep_cell hI q6
                              have HI := Lib.hid hI
                              clear hI hst hR
                              rw [e1]
                              clear e1
                              go_wp2
                              exact ⟨rfl, _, rfl, rfl, HI.out, fun _ _ h => h⟩
                            · refine Owes.mk _ rfl rfl (fun _ _ h => by cases h) fun u m w' hm hI hR => ⟨⟨#[undef, undef, undef, .pointer (some ⟨cx, 0, none⟩), undef, undef, undef, undef, undef, undef, undef, undef, undef, undef, undef, undef, undef, undef, undef, undef, undef, undef, undef, undef, undef, undef, undef, undef, undef, undef, undef, undef, undef, undef, undef, undef, undef, undef, undef, undef, undef, undef, undef, undef, undef, undef, undef, undef, undef, undef, undef, undef, undef, undef, undef, undef, undef, undef, undef, undef, undef, undef, undef, undef, undef, undef, undef, undef, undef, undef, undef, undef, undef, undef, undef, undef, undef, undef, undef, undef, undef, undef, undef, undef, undef, undef, undef, undef, undef, undef, undef, undef, undef, undef, undef, undef, undef, undef, undef, undef, undef, undef], []⟩, rfl, fun d hd => by cases hd; exact (by decide : 89 < 102), ?_⟩
                              have k0 := keep_cell hI p0
                              have k1 := keep_cell hI p2
                              have k2 := keep_cell hI y0
                              have k3 := keep_cell hI q0
                              have k4 := keep_cell hI q1
                              have k5 := keep_cell hI q2
                              have k6 := keep_cell hI q3
                              have k7 := keep_cell hI q4
                              have k8 := keep_cell hI q5
                              have k9 := keep_cell hI q6
                              have HI := Lib.hid hI
                              clear hI hst hR
                              go_wp2
                              exact ⟨rfl, _, rfl, rfl, HI.out, fun _ _ h => h⟩
                            · refine Owes.mk _ rfl rfl (fun _ _ h => by cases h) fun u m w' hm hI hR => ⟨⟨#[undef, undef, undef, undef, undef, undef, undef, undef, undef, undef, undef, undef, undef, undef, undef, undef, undef, undef, undef, undef, undef, undef, undef, undef, undef, undef, undef, undef, undef, undef, undef, undef, undef, undef, undef, undef, undef, undef, undef, undef, undef, undef, undef, undef, undef, undef, undef, undef, undef, undef, undef, undef, undef, undef, undef, undef, undef, undef, undef, undef, undef, undef, undef, undef, undef, undef, undef, undef, undef, undef, undef, undef, undef, undef, undef, undef, undef, undef, undef, undef, undef, undef, undef, undef, undef, undef, undef, undef, undef, u 3, undef, undef, undef, undef, undef, undef, undef, undef, undef, undef, undef, undef], []⟩, rfl, fun d hd => by cases hd; exact (by decide : 90 < 102), ?_⟩
                              have e3 : u 3 = _ := hR 3 (by decide)
                              have k0 := keep_cell hI p0
                              have k1 := keep_cell hI p2
                              have k2 := keep_cell hI y0
                              have k3 := keep_cell hI q0
                              have k4 := keep_cell hI q1
                              have k5 := keep_cell hI q2
                              have k6 := keep_cell hI q3
                              have k7 := keep_cell hI q4
                              have k8 := keep_cell hI q5
                              have k9 := keep_cell hI q6
                              have HI := Lib.hid hI
                              clear hI hst hR
                              rw [e3]
                              clear e3
                              go_wp2
                              exact ⟨rfl, _, rfl, rfl, HI.out, fun _ _ h => h⟩
                            · refine Owes.mk _ rfl rfl (fun _ _ h => by cases h) fun u m w' hm hI hR => ⟨⟨#[undef, undef, undef, undef, undef, undef, undef, undef, .int .i64 (k : Int), undef, undef, undef, undef, undef, undef, undef, undef, undef, undef, undef, undef, undef, undef, undef, undef, undef, undef, undef, undef, undef, undef, undef, undef, undef, undef, undef, undef, undef, undef, undef, undef, undef, undef, undef, undef, undef, undef, undef, undef, undef, undef, undef, undef, undef, undef, undef, undef, undef, undef, undef, undef, undef, undef, undef, undef, undef, undef, undef, undef, undef, undef, undef, undef, undef, undef, undef, undef, undef, undef, undef, undef, undef, undef, undef, undef, undef, undef, undef, undef, undef, undef, undef, undef, undef, undef, undef, undef, undef, undef, undef, undef, undef], []⟩, rfl, fun d hd => by cases hd; exact (by decide : 91 < 102), ?_⟩
                              have k0 := keep_cell hI p0
                              have k1 := keep_cell hI p2
                              have k2 := keep_cell hI y0
                              have k3 := keep_cell hI q0
                              have k4 := keep_cell hI q1
                              have k5 := keep_cell hI q2
                              have k6 := keep_cell hI q3
                              have k7 := keep_cell hI q4
                              have k8 := keep_cell hI q5
                              have k9 := keep_cell hI q6
                              have HI := Lib.hid hI
                              clear hI hst hR
                              go_wp2
                              exact ⟨rfl, _, rfl, rfl, HI.out, fun _ _ h => h⟩
                            · refine Owes.mk _ rfl rfl (fun _ _ h => by cases h) fun u m w' hm hI hR => ⟨⟨#[undef, undef, undef, undef, undef, undef, undef, undef, undef, undef, undef, undef, undef, undef, undef, undef, undef, undef, undef, undef, undef, undef, undef, undef, undef, undef, undef, undef, undef, undef, undef, undef, undef, undef, undef, undef, undef, undef, undef, undef, undef, undef, undef, undef, undef, undef, undef, undef, undef, undef, undef, undef, undef, undef, undef, undef, undef, undef, undef, undef, undef, undef, undef, undef, undef, undef, undef, undef, undef, undef, undef, undef, undef, undef, undef, undef, undef, undef, undef, undef, undef, undef, undef, undef, undef, undef, undef, undef, undef, undef, u 4, u 5, undef, undef, undef, undef, undef, undef, undef, undef, undef, undef], []⟩, rfl, fun d hd => by cases hd; exact (by decide : 92 < 102), ?_⟩
                              have e4 : u 4 = _ := hR 4 (by decide)
                              have e5 : u 5 = _ := hR 5 (by decide)
                              have k0 := keep_cell hI p0
                              have k1 := keep_cell hI p2
                              have k2 := keep_cell hI y0
                              have k3 := keep_cell hI q0
                              have k4 := keep_cell hI q1
                              have k5 := keep_cell hI q2
                              have k6 := keep_cell hI q3
                              have k7 := keep_cell hI q4
                              have k8 := keep_cell hI q5
                              have k9 := keep_cell hI q6
                              have HI := Lib.hid hI
                              clear hI hst hR
                              rw [e4, e5]
                              clear e4 e5
                              go_wp2
                              exact ⟨rfl, _, rfl, rfl, HI.out, fun _ _ h => h⟩
                            · refine Owes.mk _ rfl rfl (fun _ _ h => by cases h) fun u m w' hm hI hR => ⟨⟨#[undef, undef, undef, undef, undef, undef, undef, undef, undef, undef, undef, undef, undef, undef, undef, undef, undef, undef, undef, undef, undef, undef, undef, undef, undef, undef, undef, undef, undef, undef, undef, undef, undef, undef, undef, undef, undef, undef, undef, undef, undef, undef, undef, undef, undef, undef, undef, undef, undef, undef, undef, undef, undef, undef, undef, undef, undef, undef, undef, undef, undef, undef, undef, undef, undef, undef, undef, undef, undef, undef, undef, undef, undef, undef, undef, undef, undef, undef, undef, undef, undef, undef, undef, undef, undef, undef, undef, undef, undef, undef, undef, undef, u 6, undef, undef, undef, undef, undef, undef, undef, undef, undef], []⟩, rfl, fun d hd => by cases hd; exact (by decide : 93 < 102), ?_⟩
                              have e6 : u 6 = _ := hR 6 (by decide)
                              have k0 := keep_cell hI p0
                              have k1 := keep_cell hI p2
                              have k2 := keep_cell hI y0
                              have k3 := keep_cell hI q0
                              have k4 := keep_cell hI q1
                              have k5 := keep_cell hI q2
                              have k6 := keep_cell hI q3
                              have k7 := keep_cell hI q4
                              have k8 := keep_cell hI q5
                              have k9 := keep_cell hI q6
                              have HI := Lib.hid hI
                              clear hI hst hR
                              rw [e6]
                              clear e6
                              go_wp2
                              exact ⟨rfl, _, rfl, rfl, HI.out, fun _ _ h => h⟩
                            · refine Owes.mk _ rfl rfl (fun _ _ h => by cases h) fun u m w' hm hI hR => ⟨⟨#[undef, undef, undef, undef, undef, undef, undef, undef, undef, .int .i64 (j : Int), undef, undef, undef, undef, undef, undef, undef, undef, undef, undef, undef, undef, undef, undef, undef, undef, undef, undef, undef, undef, undef, undef, undef, undef, undef, undef, undef, undef, undef, undef, undef, undef, undef, undef, undef, undef, undef, undef, undef, undef, undef, undef, undef, undef, undef, undef, undef, undef, undef, undef, undef, undef, undef, undef, undef, undef, undef, undef, undef, undef, undef, undef, undef, undef, undef, undef, undef, undef, undef, undef, undef, undef, undef, undef, undef, undef, undef, undef, undef, undef, undef, undef, undef, undef, undef, undef, undef, undef, undef, undef, undef, undef], []⟩, rfl, fun d hd => by cases hd; exact (by decide : 94 < 102), ?_⟩
                              have k0 := keep_cell hI p0
                              have k1 := keep_cell hI p2
                              have k2 := keep_cell hI y0
                              have k3 := keep_cell hI q0
                              have k4 := keep_cell hI q1
                              have k5 := keep_cell hI q2
                              have k6 := keep_cell hI q3
                              have k7 := keep_cell hI q4
                              have k8 := keep_cell hI q5
                              have k9 := keep_cell hI q6
                              have HI := Lib.hid hI
                              clear hI hst hR
                              go_wp2
                              exact ⟨rfl, _, rfl, rfl, HI.out, fun _ _ h => h⟩
                            · refine Owes.mk _ rfl rfl (fun _ _ h => by cases h) fun u m w' hm hI hR => ⟨⟨#[undef, undef, undef, undef, undef, undef, undef, undef, undef, undef, undef, undef, undef, undef, undef, undef, undef, undef, undef, undef, undef, undef, undef, undef, undef, undef, undef, undef, undef, undef, undef, undef, undef, undef, undef, undef, undef, undef, undef, undef, undef, undef, undef, undef, undef, undef, undef, undef, undef, undef, undef, undef, undef, undef, undef, undef, undef, undef, undef, undef, undef, undef, undef, undef, undef, undef, undef, undef, undef, undef, undef, undef, undef, undef, undef, undef, undef, undef, undef, undef, undef, undef, undef, undef, undef, undef, undef, undef, undef, undef, undef, undef, undef, u 7, u 8, undef, undef, undef, undef, undef, undef, undef], []⟩, rfl, fun d hd => by cases hd; exact (by decide : 95 < 102), ?_⟩
                              have e7 : u 7 = _ := hR 7 (by decide)
                              have e8 : u 8 = _ := hR 8 (by decide)
                              have k0 := keep_cell hI p0
                              have k1 := keep_cell hI p2
                              have k2 := keep_cell hI y0
                              have k3 := keep_cell hI q0
                              have k4 := keep_cell hI q1
                              have k5 := keep_cell hI q2
                              have k6 := keep_cell hI q3
                              have k7 := keep_cell hI q4
                              have k8 := keep_cell hI q5
                              have k9 := keep_cell hI q6
                              have HI := Lib.hid hI
                              clear hI hst hR
                              rw [e7, e8]
                              clear e7 e8
                              go_wp2
                              exact ⟨rfl, _, rfl, rfl, HI.out, fun _ _ h => h⟩
                            · refine Owes.mk _ rfl rfl (fun _ _ h => by cases h) fun u m w' hm hI hR => ⟨⟨#[undef, undef, undef, undef, undef, undef, undef, undef, undef, undef, undef, undef, undef, undef, undef, undef, undef, undef, undef, undef, undef, undef, undef, undef, undef, undef, undef, undef, undef, undef, undef, undef, undef, undef, undef, undef, undef, undef, undef, undef, undef, undef, undef, undef, undef, undef, undef, undef, undef, undef, undef, undef, undef, undef, undef, undef, undef, undef, undef, undef, undef, undef, undef, undef, undef, undef, undef, undef, undef, undef, undef, undef, undef, undef, undef, undef, undef, undef, undef, undef, undef, undef, undef, undef, undef, undef, undef, undef, undef, undef, undef, undef, undef, undef, undef, u 9, undef, undef, undef, undef, undef, undef], []⟩, rfl, fun d hd => by cases hd; exact (by decide : 96 < 102), ?_⟩
                              have e9 : u 9 = _ := hR 9 (by decide)
                              have k0 := keep_cell hI p0
                              have k1 := keep_cell hI p2
                              have k2 := keep_cell hI y0
                              have k3 := keep_cell hI q0
                              have k4 := keep_cell hI q1
                              have k5 := keep_cell hI q2
                              have k6 := keep_cell hI q3
                              have k7 := keep_cell hI q4
                              have k8 := keep_cell hI q5
                              have k9 := keep_cell hI q6
                              have HI := Lib.hid hI
                              clear hI hst hR
                              rw [e9]
                              clear e9
                              go_wp2
                              exact ⟨rfl, _, rfl, rfl, HI.out, fun _ _ h => h⟩
                            · refine Owes.mk _ rfl rfl (fun _ _ h => by cases h) fun u m w' hm hI hR => ⟨⟨#[undef, undef, undef, undef, undef, undef, undef, undef, undef, undef, undef, undef, undef, undef, undef, undef, undef, undef, undef, undef, undef, undef, undef, undef, undef, undef, undef, undef, undef, undef, undef, undef, undef, undef, undef, undef, undef, undef, undef, undef, undef, undef, undef, undef, undef, undef, undef, undef, undef, undef, undef, undef, undef, undef, undef, undef, undef, undef, undef, undef, undef, undef, undef, undef, undef, undef, undef, undef, undef, undef, undef, undef, undef, undef, undef, undef, undef, undef, undef, undef, undef, undef, undef, undef, undef, undef, undef, undef, u 2, undef, undef, undef, undef, undef, undef, undef, u 10, undef, undef, undef, undef, undef], []⟩, rfl, fun d hd => by cases hd; exact (by decide : 97 < 102), ?_⟩
                              have e2 : u 2 = _ := hR 2 (by decide)
                              have e10 : u 10 = _ := hR 10 (by decide)
                              have k0 := keep_cell hI p0
                              have k1 := keep_cell hI p2
                              have k2 := keep_cell hI y0
                              have k3 := keep_cell hI q0
                              have k4 := keep_cell hI q1
                              have k5 := keep_cell hI q2
                              have k6 := keep_cell hI q3
                              have k7 := keep_cell hI q4
                              have k8 := keep_cell hI q5
                              have k9 := keep_cell hI q6
                              rw [e2, e10]
                              clear e2 e10
                              have hS := SlR.below intR_fits GD.out hI
                              have hE := SlR.below intR_fits GE.out hI
                              have hM := SlR.below mrR_fits (SlR.below mrR_fits SM.out hbel) hI
                              have HSd := Lib.hid hS
                              have HEd := Lib.hid hE
                              have HMd := Lib.hid hM
                              have HI := Lib.hid hI
                              clear hI hR hS hE hM
                              go_wp2_with fail
                              refine (iReqSlave_ok2 _ x.map fm ⟨id, kd, ad, mn, wp, xd, xl⟩ _ _ fd fe HMO.out HRO.out _ HMd.out HSd.out HEd.out).mono ?_
                              rw [HSV.out]
                              rintro e w5 ⟨rfl, b5⟩
                              have HS5 := Lib.hid (facts_stable hst (b5.chg []))
                              have HI5 := Lib.hid (HI.out.trans (b5.mono HI.out.size))
                              clear b5 hst
                              go_wp2
                              exact ⟨rfl, _, rfl, rfl, HI5.out, HS5.out⟩
                            · refine Owes.mk _ rfl rfl (fun _ _ h => by cases h) fun u m w' hm hI hR => ⟨⟨#[undef, undef, undef, undef, undef, undef, undef, undef, undef, undef, undef, undef, undef, undef, undef, undef, undef, undef, undef, undef, undef, undef, undef, undef, undef, undef, undef, undef, undef, undef, undef, undef, undef, undef, undef, undef, undef, undef, undef, undef, undef, undef, undef, undef, undef, undef, undef, undef, undef, undef, undef, undef, undef, undef, undef, undef, undef, undef, undef, undef, undef, undef, undef, undef, undef, undef, undef, undef, undef, undef, undef, undef, undef, undef, undef, undef, undef, undef, undef, undef, undef, undef, undef, undef, undef, undef, u 0, undef, undef, undef, undef, undef, undef, undef, undef, undef, undef, u 11, undef, undef, undef, undef], []⟩, rfl, fun d hd => by cases hd; exact (by decide : 98 < 102), ?_⟩
                              have e0 : u 0 = _ := hR 0 (by decide)
                              have e11 : u 11 = _ := hR 11 (by decide)
                              have k0 := keep_cell hI p0
                              have k1 := keep_cell hI p2
                              have k2 := keep_cell hI y0
                              have k3 := keep_cell hI q0
                              have k4 := keep_cell hI q1
                              have k5 := keep_cell hI q2
                              have k6 := keep_cell hI q3
                              have k7 := keep_cell hI q4
                              have k8 := keep_cell hI q5
                              have k9 := keep_cell hI q6
                              rw [e0, e11]
                              clear e0 e11
                              have hG := SlR.below intR_fits GMj.out hI
                              have HGG := Lib.hid hG
                              have HI := Lib.hid hI
                              clear hI hR hG hst
                              go_wp2_with fail
                              refine (crIn_any _ mi fmn s _ HGG.out).mono ?_
                              rw [HBi.out]
                              rintro e w5 ⟨rfl, rfl⟩
                              go_wp2
                              exact ⟨rfl, _, rfl, rfl, HI.out, fun _ _ h => h⟩
                          case hend =>
                            intro u w' hI hR
                            simp only [setAll, List.set_cons_zero, List.set_cons_succ]
                            unfold wpList
                            have e12 : u 12 = _ := hR 12 (by decide)
                            rw [e12]
                            have hbf : b = false := by
                              rw [HBA.out]
                              exact apartAll_no hk3 hkk (any_of_mem hkx hk0x hjx (by rw [HSv0.out, ← HMi2.out]; exact of_decide_eq_true HBi.out))
                            subst hbf
                            have BB := Lib.hid (B1.out.trans ((hbel.trans (hI.mono hbel.size)).mono B1.out.size))
                            clear hR hst hI e12 p0 p2 q0 q1 q2 q3 q4 q5 q6 y0 hbel
                            go_wp2
                            go_ret
                            exact ⟨rfl, BB.out⟩
                      · have hji : ¬ (j : Int) < (yn : Int) := by omega
                        have hjn : x.progs[k].length ≤ j := by rw [hyn.out]; omega
                        have HNo2 : Hid (∀ q, q < k + 1 → q ≠ k0 → (progAt x q).any (asksOf x.map (progAt x k0)) = false) := Lib.hid (fun q hq hqk => by
                          rcases Nat.lt_or_ge q k with h | h
                          · exact HNo.out q h hqk
                          · have e : q = k := by omega
                            subst e
                            exact any_not_mem hkx hk0x (fun i hi => HNm.out i hi (by omega)))
                        clear hbel
                        go_wp2
                        go_roundw
                        case rel => exact ⟨k + 1, by omega, by go_num, HNo2.out, HBq2.out⟩
                        case measure => simp [intOf]; omega
                · have hbt : b = true := by
                    rw [HBA.out]
                    exact apartAll_yes (fun q hq hqk => HNo.out q (by omega) hqk)
                  subst hbt
                  have BB := Lib.hid (B1.out.trans ((HBel.out.trans (HBq.out.mono HBel.out.size)).mono B1.out.size))
                  go_wp2
                  go_ret
                  exact ⟨rfl, BB.out⟩

set_option maxRecDepth 100000 in
theorem lifted (os : Os) (started : os.Started) (H : Type) (enc : TypeId × Value → H) :
    ReturnsInHanded {} Try.checked os 5 .any (Rows.fnBusApartSpec.pre6 enc Try.prog Try.f5 Rows.fnBusApartRow.domain false) (Rows.fnBusApartSpec.post enc Try.prog Try.f5 false true false false) := by
  refine returnsInHanded_of_change (C := Try.checked) own started (by kernel_rfl) Try.func5
    (ChangeSpec.witness6 (enc := enc) (C := Try.checked) false ⟨#[], #[.slice none 0 0], []⟩ 8 (by kernel_rfl) (by kernel_rfl) (by kernel_rfl) (by kernel_rfl)) ?_
  intro W base args ds gs before hval0 hW hcnd _
  have hval : ∀ (j : Nat) t v, Try.f5.params[j]? = some t → args[j]? = some v → Value.okWide Try.prog W .any base t v := hval0
  have hW' := hW
  obtain ⟨p, q, hA0, hV, rfl, hfz, hnd⟩ := hW
  have hA : DataW.TrodAll enc Try.prog W 0 (fun _ => true) true Try.f5.params.toList args.toList ds p := hA0
  rw [Try.params5] at hA hval
  obtain ⟨v0, vs0, d0, ds0, p0, q0, hargs, rfl, rfl, h0, r0⟩ := trodAll_cons hA
  obtain ⟨rfl, rfl, rfl⟩ := trodAll_nil r0
  obtain rfl : args = #[v0] := by cases args; simp_all
  obtain ⟨rfl, rfl⟩ := trodVars_none hV
  clear hA0 hval0
  simp only [List.append_nil] at hW'
  have hlt0 : ∀ x ∈ p0, x.block < W.heap.size := fun x hx => by simpa using hW'.lt x (by simp [hx])
  have hk0 := h0
  obtain ⟨ad0, len0, cap0, rfl⟩ := okWide_slice Try.underlying22 (hval 0 22 v0 rfl rfl)
  obtain ⟨fuel0, hf0⟩ := h0
  obtain ⟨x0, fp0, y0, e0, g0⟩ := (opens_slice Try.underlying22 (by kernel_rfl) (by decide) (opens_byte Try.underlying5) byteR_fits) hf0
  obtain rfl : .slice ad0 len0 cap0 = y0 := by simpa [Value.cells] using e0
  refine (walk (.slice ad0 len0 cap0) x0 fp0 W g0).mono fun e W' ⟨he, hb⟩ => ?_
  subst he
  exact ⟨_, rfl, _, _, _, [], _, [], hW', (trodAll_cons_mk (shut_bool Try.underlying4 _) trodAll_mk0), (trodAll_cons_mk (Below.trod laidOut (by kernel_rfl) (of_decide_eq_true (by kernel_rfl)) hk0 hb hlt0) trodAll_mk0), rfl, hb.frame _, fun h => by cases h⟩

theorem over : Rows.fnBusApartRow.holds Try.pinned (OpenSpec.ofChange Rows.fnBusApartSpec) :=
  OpenClaim.holds_of_wide 5 Try.f5 rfl rfl rfl rfl rfl rfl rfl ⟨rfl, rfl, rfl, rfl, rfl⟩ rfl rfl rfl rfl rfl (by kernel_rfl) Try.func5 (by kernel_rfl)
    (of_decide_eq_true (by kernel_rfl)) (by unfold Func.isWrapper; first | (rw [if_pos (by decide +kernel)]; kernel_rfl) | (rw [if_neg (by decide +kernel)]; exact ⟨rfl, rfl⟩))
    (fun os started H enc _ => lifted os started H enc)

theorem proved : Rows.FnBusApartSaid :=
  over
#print axioms proved
end Go.Proofs.Ytmcjklicepaiaaa.fnBusApart
