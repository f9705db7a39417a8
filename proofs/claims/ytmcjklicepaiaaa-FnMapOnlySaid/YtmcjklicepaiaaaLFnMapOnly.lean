/-
  Proved: the Go function laws.FnMapOnly returns true for every code, and the code reads afterwards as before: with that turned about of all ranges MapFind and ReqSlave are the same.
  Conditions: none.
-/
import Derived.Test.YtmcjklicepaiaaaLift
import Derived.Test.YtmcjklicepaiaaaDReqSlave
import Derived.Test.YtmcjklicepaiaaaSlave
import Derived.Test.YtmcjklicepaiaaaOwn2
import Derived.Test.YtmcjklicepaiaaaCr
import Derived.Test.YtmcjklicepaiaaaFacts
import Derived.Test.YtmcjklicepaiaaaRegion3
namespace Go.Proofs.Ytmcjklicepaiaaa.fnMapOnly
set_option linter.unusedVariables false
set_option linter.unusedSimpArgs false
open Go.ChangeShapes Go.WideShapes Go.ChangeAt Go.RowKit

/-- that turned about -/
def turn (x : MR) : MR := ⟨x.fr, x.to, x.sl, !x.only⟩
theorem idx_turn (l : List MR) (a : Int) : idxOf (isIn a) (l.map turn) = idxOf (isIn a) l := by
  unfold idxOf
  rw [List.findIdx?_map]
  rfl
theorem find_turn (l : List MR) (a : Int) : mapFind (l.map turn) a = mapFind l a := by
  unfold mapFind
  rw [List.find?_map, show (isIn a ∘ turn) = isIn a from rfl]
  cases l.find? (isIn a) <;> rfl
theorem row_turn (l : List MR) (k : Nat) (h : k < (l.map turn).length) (h' : k < l.length) : rowOk (l.map turn) k h = rowOk l k h' := by
  unfold rowOk
  rw [← List.map_take, List.any_map]
  simp only [List.getElem_map]
  rfl
theorem ok_turn (l : List MR) : mapOk (l.map turn) = mapOk l := by
  unfold mapOk
  have h1 : decide ((l.map turn).length ≤ 4) = decide (l.length ≤ 4) := by rw [List.length_map]
  rw [h1]
  congr 1
  apply decide_eq_decide.2
  constructor
  · intro h k hk
    rw [← row_turn l k (by rw [List.length_map]; exact hk) hk]
    exact h k _
  · intro h k hk
    have hk' : k < l.length := by rwa [List.length_map] at hk
    rw [row_turn l k hk hk']
    exact h k hk'
theorem whole_turn (l : List MR) (ads : List Int) : wholeIx (l.map turn) ads = wholeIx l ads := by
  unfold wholeIx rix
  cases ads with
  | nil => rfl
  | cons a t => simp only [idx_turn]
theorem slave_turn (l : List MR) (x : Req) : reqSlave (l.map turn) x = reqSlave l x := by
  have h : slaveOf (l.map turn) x = slaveOf l x := by
    unfold slaveOf
    simp only [whole_turn, List.getElem_map]
    rfl
  unfold reqSlave
  rw [ok_turn, h]

set_option maxRecDepth 100000 in
set_option maxHeartbeats 6400000 in
theorem walk (v : Value) (l0 : List Int) (fp0 : List Nat) (w : World) (g : ByteS w l0 v fp0) :
    Calls Try.prog 3 #[v] w fun e w' => e = .returned (.bool true) ∧ Below w.heap.size w w' := by
  obtain ⟨a0, n0, c0, rfl, hn0, hcap0, hmax0, hcm0, _⟩ := g.opened
  obtain ⟨i0, ki, kz0, kz1, kz2⟩ := info_parts infoMr
  have G := Lib.hid g
  clear g
  by_cases hb : 1048576 < n0
  · go_enter Try.func3, Try.ntmps3
    go_wp2
    go_ret
    exact ⟨rfl, Below.refl _ _⟩
  · go_enter Try.func3, Try.ntmps3
    go_wp2_with fail
    refine (drawReqSlave_any _ l0 fp0 w G.out).mono ?_
    rintro e w1 ⟨v0, l, fm, x, v1, v2, fd, fl, rfl, s0, s1, s2, hl7, _, _, b1⟩
    obtain ⟨am, nm, cm, rfl, hnm, hcapm, hmaxm, hcmm, _⟩ := s0.opened
    obtain ⟨a1, n1, c1, rfl⟩ := s1.form
    obtain ⟨a2, n2, c2, rfl⟩ := s2.form
    have ba := below_alloc w1 (.cells #[.int .i64 x.id, .int .i64 x.kind, .int .i64 x.addr, .int .i64 x.many, .bool x.wrap, .slice a1 n1 c1, .slice a2 n2 c2] 26)
    have S0 := Lib.hid (SlR.below mrR_fits s0 ba)
    have S1 := Lib.hid (SlR.below intR_fits s1 ba)
    have S2 := Lib.hid (SlR.below intR_fits s2 ba)
    have B1 := Lib.hid (b1.trans (ba.mono b1.size))
    have HL7 := Lib.hid hl7
    have hnm7 : nm ≤ 7 := by rw [← hnm.out]; exact hl7
    clear s0 s1 s2 b1 ba hl7
    go_wp2_with fail
    refine (iReqSlave_any _ l fm x _ _ fd fl _ S0.out S1.out S2.out).mono ?_
    obtain ⟨z, hz⟩ : ∃ z, z = reqSlave l x := ⟨_, rfl⟩
    rw [← hz]
    have HZ := Lib.hid hz
    clear hz
    rintro e w2 ⟨rfl, b⟩
    have X0 : w2.cell? ⟨w1.heap.size, 0, none⟩ = some (.int .i64 x.id) := keep_cell b (alloc1_new w1 _ _ 0 rfl)
    have X1 : w2.cell? ⟨w1.heap.size, 1, none⟩ = some (.int .i64 x.kind) := keep_cell b (alloc1_new w1 _ _ 1 rfl)
    have X2 : w2.cell? ⟨w1.heap.size, 2, none⟩ = some (.int .i64 x.addr) := keep_cell b (alloc1_new w1 _ _ 2 rfl)
    have X3 : w2.cell? ⟨w1.heap.size, 3, none⟩ = some (.int .i64 x.many) := keep_cell b (alloc1_new w1 _ _ 3 rfl)
    have X4 : w2.cell? ⟨w1.heap.size, 4, none⟩ = some (.bool x.wrap) := keep_cell b (alloc1_new w1 _ _ 4 rfl)
    have X5 : w2.cell? ⟨w1.heap.size, 5, none⟩ = some (.slice a1 n1 c1) := keep_cell b (alloc1_new w1 _ _ 5 rfl)
    have X6 : w2.cell? ⟨w1.heap.size, 6, none⟩ = some (.slice a2 n2 c2) := keep_cell b (alloc1_new w1 _ _ 6 rfl)
    replace S0 := Lib.hid (SlR.below mrR_fits S0.out b)
    replace S1 := Lib.hid (SlR.below intR_fits S1.out b)
    replace S2 := Lib.hid (SlR.below intR_fits S2.out b)
    replace B1 := Lib.hid (B1.out.trans (b.mono B1.out.size))
    clear b
    go_wp2_with fail
    refine (sReqSlave_any _ l fm x _ _ fd fl _ S0.out S1.out S2.out).mono ?_
    rw [← HZ.out]
    rintro e w3 ⟨rfl, b⟩
    replace X0 := keep_cell b X0
    replace X1 := keep_cell b X1
    replace X2 := keep_cell b X2
    replace X3 := keep_cell b X3
    replace X4 := keep_cell b X4
    replace X5 := keep_cell b X5
    replace X6 := keep_cell b X6
    replace S0 := Lib.hid (SlR.below mrR_fits S0.out b)
    replace S1 := Lib.hid (SlR.below intR_fits S1.out b)
    replace S2 := Lib.hid (SlR.below intR_fits S2.out b)
    replace B1 := Lib.hid (B1.out.trans (b.mono B1.out.size))
    clear b
    have hzz : (z != z) = false := by simp
    have HO0 : Hid (MrRow w3.heap.size (w3.alloc (.cells #[] 31)) (.slice (some ⟨w3.heap.size, 0, none⟩) 0 0) ((l.take 0).map turn)) := Lib.hid (OwnR.lit w3 #[] 0 [] MrC_len rfl rfl (Nat.le_refl _) (by decide))
    have hb3 := below_alloc w3 (.cells #[] 31)
    have HB3 := Lib.hid hb3
    clear hb3
    go_wp2_with fail
    go_loopw [6, 7] (fun o i wr => ∃ (k : Nat), k ≤ nm ∧ i = .int .i64 k ∧ MrRow w3.heap.size wr o ((l.take k).map turn) ∧ Below w3.heap.size w3 wr) (fun _ i _ => nm - (intOf i).toNat)
    case atStart => exact ⟨0, Nat.zero_le _, rfl, HO0.out, HB3.out⟩
    case round =>
      obtain ⟨k, hk, rfl, ho, hbw⟩ := hrel
      have HBW := Lib.hid hbw
      obtain ⟨va, vn, vc, rfl, hvn, hvc, _⟩ := OwnR.slice ho
      have HO := Lib.hid ho
      clear HO0 HB3 ho
      by_cases hlt : k < nm
      · have SR := Lib.hid (SlR.below mrR_fits S0.out hbw)
        obtain ⟨_, _, _, he, _, _, _, _, r⟩ := SR.out.opened
        simp only [Value.slice.injEq] at he
        obtain ⟨rfl, rfl, rfl⟩ := he
        obtain ⟨i1, b1, o1, f1, cs, rfl, hb1, _, _, ⟨rfl, rfl⟩, e1⟩ := r k hlt
        have d0 := e1 0 (by simp)
        have d1 := e1 1 (by simp)
        have d2 := e1 2 (by simp)
        have d3 := e1 3 (by simp)
        simp only [Nat.add_zero, List.getElem_cons_zero, List.getElem_cons_succ] at d0 d1 d2 d3
        have ba := below_alloc wr (.cells #[.int .i64 l[k].fr, .int .i64 l[k].to, .int .i64 l[k].sl, .bool (!l[k].only)] 31)
        have HOa := Lib.hid (OwnR.below HO.out ba)
        have HSZ : Hid ((wr.alloc (.cells #[.int .i64 l[k].fr, .int .i64 l[k].to, .int .i64 l[k].sl, .bool (!l[k].only)] 31)).heap.size = wr.heap.size + 1) := Lib.hid (by simp)
        have HBa := Lib.hid (HBW.out.trans (ba.mono HBW.out.size))
        have hvn20 : ((l.take k).map turn).length ≤ 2000000 := by simp; omega
        have HV := Lib.hid hvn20
        have hNEW : Hid ((l.take (k + 1)).map turn = (l.take k).map turn ++ [turn l[k]]) := Lib.hid (by rw [List.take_succ_eq_append_getElem i1, List.map_append]; rfl)
        clear r e1 ba hvn20 hbw
        go_wp2_with (at_builtin; go_loud (refine wpList_pushR (m := 1) (K := 4) (c := MrC) (l := (l.take k).map turn) (news := [turn l[k]]) (base := w3.heap.size) rfl _ _ 23 31 i0 (.agg #[.int .i64 0, .int .i64 0, .int .i64 0, .bool false]) 32 31 MrC_len rfl Try.underlying23 ki kz0 kz1 kz2 rfl (by decide) (by decide) rfl (by rw [HSZ.out]; rfl) HOa.out rfl rfl (by simp [MrC, turn, Value.oneCell']) HV.out (by decide) HBa.out.size ?_); intro v7 w7 ho7 hb7; have HO7 := Lib.hid ho7; have HB7 := Lib.hid (HBW.out.trans (Below.trans ((below_alloc wr _).mono HBW.out.size) hb7)); clear ho7 hb7)
        go_roundw
        case rel => exact ⟨k + 1, by omega, by go_num, by rw [hNEW.out]; exact HO7.out, HB7.out⟩
        case measure => simp [intOf]; omega
      · have hkn : k = nm := by omega
        have hall : (l.take k).map turn = l.map turn := by rw [List.take_of_length_le (by have := hnm.out; omega)]
        obtain ⟨fo, so, _⟩ := OwnR.reads MrC_len (show MrRow w3.heap.size wr _ (l.map turn) by rw [← hall]; exact HO.out)
        have SO := Lib.hid (show SlR 4 mrR wr (l.map turn) (.slice va vn vc) fo from so)
        have HX : Hid (reqSlave (l.map turn) x = z) := Lib.hid (by rw [slave_turn, HZ.out])
        replace X0 := keep_cell hbw X0
        replace X1 := keep_cell hbw X1
        replace X2 := keep_cell hbw X2
        replace X3 := keep_cell hbw X3
        replace X4 := keep_cell hbw X4
        replace X5 := keep_cell hbw X5
        replace X6 := keep_cell hbw X6
        replace S0 := Lib.hid (SlR.below mrR_fits S0.out hbw)
        replace S1 := Lib.hid (SlR.below intR_fits S1.out hbw)
        replace S2 := Lib.hid (SlR.below intR_fits S2.out hbw)
        replace B1 := Lib.hid (B1.out.trans (hbw.mono B1.out.size))
        clear HO hbw so HBW hall
        go_wp2_with fail
        have hst : ∀ F, F ∈ [FEq (.slice va vn vc), FEq (.agg #[.int .i64 x.id, .int .i64 x.kind, .int .i64 x.addr, .int .i64 x.many, .bool x.wrap, .slice a1 n1 c1, .slice a2 n2 c2]), FEq (.int .i64 z), FEq (.int .i64 z), FEq (.bool true), FEq (.bool true), FEq (.slice va vn vc), FEq (.bool (mapOk l)), FEq (.slice am nm cm), FEq (.bool (mapOk l)), FEq (.bool true), FEq (.bool true), FEq (.bool true), FEq (.slice va vn vc), FEq (.pointer (some ⟨w1.heap.size, 2, none⟩)), FEq (.int .i64 x.addr), FEq (.int .i64 (mapFind l x.addr)), FEq (.slice am nm cm), FEq (.pointer (some ⟨w1.heap.size, 2, none⟩)), FEq (.int .i64 x.addr), FEq (.int .i64 (mapFind l x.addr)), FEq (.bool true), FEq (.bool true), FEq (.bool true), FEq (.bool true), FEq (.bool true), FEq (.bool true)] → Stable [] F := by
          simp only [List.forall_mem_cons]
          exact ⟨stEq _ _, stEq _ _, stEq _ _, stEq _ _, stEq _ _, stEq _ _, stEq _ _, stEq _ _, stEq _ _, stEq _ _, stEq _ _, stEq _ _, stEq _ _, stEq _ _, stEq _ _, stEq _ _, stEq _ _, stEq _ _, stEq _ _, stEq _ _, stEq _ _, stEq _ _, stEq _ _, stEq _ _, stEq _ _, stEq _ _, stEq _ _, fun _ h => by simp at h⟩
        refine wp_region_tail (by kernel_rfl) (fun i => ([[], [], [0, 1], [], [0, 1, 2, 3], [0, 1, 2, 3, 4], [0, 1, 2, 3, 4, 5], [0, 1, 2, 3, 4, 5, 6], [0, 1, 2, 3, 4, 5], [0, 1, 2, 3, 4, 5, 6, 7, 8], [0, 1, 2, 3, 4, 5, 6, 7, 8, 9], [0, 1, 2, 3, 4, 5, 6, 7, 8, 9, 10], [0, 1, 2, 3, 4, 5, 6, 7, 8, 9, 10, 11], [0, 1, 2, 3, 4, 5, 6, 7, 8, 9, 10, 11, 12], [0, 1, 2, 3, 4, 5, 6, 7, 8, 9, 10, 11, 12], [0, 1, 2, 3, 4, 5, 6, 7, 8, 9, 10, 11, 12, 14], [0, 1, 2, 3, 4, 5, 6, 7, 8, 9, 10, 11, 12, 13, 14, 15], [0, 1, 2, 3, 4, 5, 6, 7, 8, 9, 10, 11, 12], [0, 1, 2, 3, 4, 5, 6, 7, 8, 9, 10, 11, 12], [0, 1, 2, 3, 4, 5, 6, 7, 8, 9, 10, 11, 12, 18], [0, 1, 2, 3, 4, 5, 6, 7, 8, 9, 10, 11, 12, 13, 14, 15, 16, 17, 18, 19], [0, 1, 2, 3, 4, 5, 6, 7, 8, 9, 10, 11, 12, 13, 14, 15, 16, 17, 18, 19, 20], [0, 1, 2, 3, 4, 5, 6, 7, 8, 9, 10, 11, 12, 13, 14, 15, 16, 17, 18, 19, 20, 21], [0, 1, 2, 3, 4, 5, 6, 7, 8, 9, 10, 11, 12, 13, 14, 15, 16, 17, 18, 19, 20, 21, 22], [0, 1, 2, 3, 4, 5, 6, 7, 8, 9, 10, 11, 12, 13, 14, 15, 16, 17, 18, 19, 20, 21, 22, 23], [0, 1, 2, 3, 4, 5, 6, 7, 8, 9, 10, 11, 12, 13, 14, 15, 16, 17, 18, 19, 20, 21, 22, 23, 24], [0, 1, 2, 3, 4, 5, 6, 7, 8, 9, 10, 11, 12, 13, 14, 15, 16, 17, 18, 19, 20, 21, 22, 23, 24, 25]] : List (List Nat)).getD i []) (facts [FEq (.slice va vn vc), FEq (.agg #[.int .i64 x.id, .int .i64 x.kind, .int .i64 x.addr, .int .i64 x.many, .bool x.wrap, .slice a1 n1 c1, .slice a2 n2 c2]), FEq (.int .i64 z), FEq (.int .i64 z), FEq (.bool true), FEq (.bool true), FEq (.slice va vn vc), FEq (.bool (mapOk l)), FEq (.slice am nm cm), FEq (.bool (mapOk l)), FEq (.bool true), FEq (.bool true), FEq (.bool true), FEq (.slice va vn vc), FEq (.pointer (some ⟨w1.heap.size, 2, none⟩)), FEq (.int .i64 x.addr), FEq (.int .i64 (mapFind l x.addr)), FEq (.slice am nm cm), FEq (.pointer (some ⟨w1.heap.size, 2, none⟩)), FEq (.int .i64 x.addr), FEq (.int .i64 (mapFind l x.addr)), FEq (.bool true), FEq (.bool true), FEq (.bool true), FEq (.bool true), FEq (.bool true), FEq (.bool true)]) (fun m w' => Below wr.heap.size wr w') 70 27 27 [some 44, some 45, some 46, some 47, some 48, some 49, some 50, some 51, some 52, some 53, some 54, some 55, some 56, some 57, some 58, some 59, some 60, some 61, some 62, some 63, some 64, some 65, some 66, some 67, some 68, some 69, some 2] [] rfl rfl (by decide) rfl rfl (by kernel_rfl) (by kernel_rfl) [(12, true), (23, true), (5, true)] (by kernel_rfl) (fun g b hm v w h => by simp only [List.mem_cons, List.not_mem_nil, or_false, Prod.mk.injEq] at hm; rcases hm with ⟨rfl, rfl⟩ | ⟨rfl, rfl⟩ | ⟨rfl, rfl⟩ <;> exact h) ?h0 (all_lt (n := 27) ?hop) ?hend
        case h0 => exact (Below.refl _ _).drew
        case hop =>
          refine ⟨⟨⟨⟨⟨⟨⟨⟨⟨⟨⟨⟨⟨⟨⟨⟨⟨⟨⟨⟨⟨⟨⟨⟨⟨⟨⟨trivial, ?_⟩, ?_⟩, ?_⟩, ?_⟩, ?_⟩, ?_⟩, ?_⟩, ?_⟩, ?_⟩, ?_⟩, ?_⟩, ?_⟩, ?_⟩, ?_⟩, ?_⟩, ?_⟩, ?_⟩, ?_⟩, ?_⟩, ?_⟩, ?_⟩, ?_⟩, ?_⟩, ?_⟩, ?_⟩, ?_⟩, ?_⟩
          · refine Owes.mk _ rfl rfl (fun _ _ h => by cases h) fun u m w' hm hI hR => ⟨⟨#[undef, undef, undef, undef, undef, undef, .slice va vn vc, undef, undef, undef, undef, undef, undef, undef, undef, undef, undef, undef, undef, undef, undef, undef, undef, undef, undef, undef, undef, undef, undef, undef, undef, undef, undef, undef, undef, undef, undef, undef, undef, undef, undef, undef, undef, undef, undef, undef, undef, undef, undef, undef, undef, undef, undef, undef, undef, undef, undef, undef, undef, undef, undef, undef, undef, undef, undef, undef, undef, undef, undef, undef], []⟩, rfl, fun d hd => by cases hd; exact (by decide : 44 < 70), ?_⟩
            have k0 := keep_cell hI X0
            have k1 := keep_cell hI X1
            have k2 := keep_cell hI X2
            have k3 := keep_cell hI X3
            have k4 := keep_cell hI X4
            have k5 := keep_cell hI X5
            have k6 := keep_cell hI X6
            have HI := Lib.hid hI
            clear hI hst hR
            go_wp2
            exact ⟨rfl, _, rfl, rfl, HI.out, fun _ _ h => h⟩
          · refine Owes.mk _ rfl rfl (fun _ _ h => by cases h) fun u m w' hm hI hR => ⟨⟨#[undef, undef, undef, undef, .pointer (some ⟨w1.heap.size, 0, none⟩), undef, undef, undef, undef, undef, undef, undef, undef, undef, undef, undef, undef, undef, undef, undef, undef, undef, undef, undef, undef, undef, undef, undef, undef, undef, undef, undef, undef, undef, undef, undef, undef, undef, undef, undef, undef, undef, undef, undef, undef, undef, undef, undef, undef, undef, undef, undef, undef, undef, undef, undef, undef, undef, undef, undef, undef, undef, undef, undef, undef, undef, undef, undef, undef, undef], []⟩, rfl, fun d hd => by cases hd; exact (by decide : 45 < 70), ?_⟩
            have k0 := keep_cell hI X0
            have k1 := keep_cell hI X1
            have k2 := keep_cell hI X2
            have k3 := keep_cell hI X3
            have k4 := keep_cell hI X4
            have k5 := keep_cell hI X5
            have k6 := keep_cell hI X6
            have HI := Lib.hid hI
            clear hI hst hR
            go_wp2
            exact ⟨rfl, _, rfl, rfl, HI.out, fun _ _ h => h⟩
          · refine Owes.mk _ rfl rfl (fun _ _ h => by cases h) fun u m w' hm hI hR => ⟨⟨#[undef, undef, undef, undef, undef, undef, undef, undef, undef, undef, undef, undef, undef, undef, undef, undef, undef, undef, undef, undef, undef, undef, undef, undef, undef, undef, undef, undef, undef, undef, undef, undef, undef, undef, undef, undef, undef, undef, undef, undef, undef, undef, undef, undef, u 0, u 1, undef, undef, undef, undef, undef, undef, undef, undef, undef, undef, undef, undef, undef, undef, undef, undef, undef, undef, undef, undef, undef, undef, undef, undef], []⟩, rfl, fun d hd => by cases hd; exact (by decide : 46 < 70), ?_⟩
            have e0 : u 0 = _ := hR 0 (by decide)
            have e1 : u 1 = _ := hR 1 (by decide)
            have k0 := keep_cell hI X0
            have k1 := keep_cell hI X1
            have k2 := keep_cell hI X2
            have k3 := keep_cell hI X3
            have k4 := keep_cell hI X4
            have k5 := keep_cell hI X5
            have k6 := keep_cell hI X6
            rw [e0, e1]
            clear e0 e1
            have HX0 := Lib.hid (SlR.below mrR_fits SO.out hI)
            have HX1 := Lib.hid (SlR.below intR_fits S1.out hI)
            have HX2 := Lib.hid (SlR.below intR_fits S2.out hI)
            go_wp2_with fail
            refine (iReqSlave_any _ (l.map turn) _ x _ _ _ _ _ HX0.out HX1.out HX2.out).mono ?_
            rw [HX.out]
            rintro e w7 ⟨rfl, b7⟩
            have HS := Lib.hid (facts_stable hst (b7.chg []))
            have HI := Lib.hid (hI.trans (b7.mono hI.size))
            clear hI b7 hst hR
            go_wp2
            exact ⟨rfl, _, rfl, rfl, HI.out, HS.out⟩
          · refine Owes.mk _ rfl rfl (fun _ _ h => by cases h) fun u m w' hm hI hR => ⟨⟨#[undef, undef, undef, undef, undef, .int .i64 z, undef, undef, undef, undef, undef, undef, undef, undef, undef, undef, undef, undef, undef, undef, undef, undef, undef, undef, undef, undef, undef, undef, undef, undef, undef, undef, undef, undef, undef, undef, undef, undef, undef, undef, undef, undef, undef, undef, undef, undef, undef, undef, undef, undef, undef, undef, undef, undef, undef, undef, undef, undef, undef, undef, undef, undef, undef, undef, undef, undef, undef, undef, undef, undef], []⟩, rfl, fun d hd => by cases hd; exact (by decide : 47 < 70), ?_⟩
            have k0 := keep_cell hI X0
            have k1 := keep_cell hI X1
            have k2 := keep_cell hI X2
            have k3 := keep_cell hI X3
            have k4 := keep_cell hI X4
            have k5 := keep_cell hI X5
            have k6 := keep_cell hI X6
            have HI := Lib.hid hI
            clear hI hst hR
            go_wp2
            exact ⟨rfl, _, rfl, rfl, HI.out, fun _ _ h => h⟩
          · refine Owes.mk _ rfl rfl (fun _ _ h => by cases h) fun u m w' hm hI hR => ⟨⟨#[undef, undef, undef, undef, undef, undef, undef, undef, undef, undef, undef, undef, undef, undef, undef, undef, undef, undef, undef, undef, undef, undef, undef, undef, undef, undef, undef, undef, undef, undef, undef, undef, undef, undef, undef, undef, undef, undef, undef, undef, undef, undef, undef, undef, undef, undef, u 2, u 3, undef, undef, undef, undef, undef, undef, undef, undef, undef, undef, undef, undef, undef, undef, undef, undef, undef, undef, undef, undef, undef, undef], []⟩, rfl, fun d hd => by cases hd; exact (by decide : 48 < 70), ?_⟩
            have e2 : u 2 = _ := hR 2 (by decide)
            have e3 : u 3 = _ := hR 3 (by decide)
            have k0 := keep_cell hI X0
            have k1 := keep_cell hI X1
            have k2 := keep_cell hI X2
            have k3 := keep_cell hI X3
            have k4 := keep_cell hI X4
            have k5 := keep_cell hI X5
            have k6 := keep_cell hI X6
            rw [e2, e3]
            clear e2 e3
            have HI := Lib.hid hI
            clear hI hst hR
            go_wp2
            exact ⟨rfl, _, rfl, by first | rfl | (show Value.bool _ = Value.bool _; simp), HI.out, fun _ _ h => h⟩
          · refine Owes.mk _ rfl rfl (fun _ _ h => by cases h) fun u m w' hm hI hR => ⟨⟨#[undef, undef, undef, undef, undef, undef, undef, undef, undef, undef, undef, undef, undef, undef, undef, undef, undef, undef, undef, undef, undef, undef, undef, undef, undef, undef, undef, undef, undef, undef, undef, undef, undef, undef, undef, undef, undef, undef, undef, undef, undef, undef, undef, undef, undef, undef, undef, undef, u 4, undef, undef, undef, undef, undef, undef, undef, undef, undef, undef, undef, undef, undef, undef, undef, undef, undef, undef, undef, undef, undef], []⟩, rfl, fun d hd => by cases hd; exact (by decide : 49 < 70), ?_⟩
            have e4 : u 4 = _ := hR 4 (by decide)
            have k0 := keep_cell hI X0
            have k1 := keep_cell hI X1
            have k2 := keep_cell hI X2
            have k3 := keep_cell hI X3
            have k4 := keep_cell hI X4
            have k5 := keep_cell hI X5
            have k6 := keep_cell hI X6
            have HI := Lib.hid hI
            clear hI hst hR
            rw [e4]
            clear e4
            go_wp2
            exact ⟨rfl, _, rfl, rfl, HI.out, fun _ _ h => h⟩
          · refine Owes.mkG _ _ rfl rfl (fun _ _ h => by cases h) fun u m w' hm hI hR => ⟨⟨#[undef, undef, undef, undef, undef, undef, .slice va vn vc, undef, undef, undef, undef, undef, undef, undef, undef, undef, undef, undef, undef, undef, undef, undef, undef, undef, undef, undef, undef, undef, undef, undef, undef, undef, undef, undef, undef, undef, undef, undef, undef, undef, undef, undef, undef, undef, undef, undef, undef, undef, undef, undef, undef, undef, undef, undef, undef, undef, undef, undef, undef, undef, undef, undef, undef, undef, undef, undef, undef, undef, undef, undef], []⟩, rfl, fun d hd => by cases hd; exact (by decide : 50 < 70), ?_⟩
            have k0 := keep_cell hI X0
            have k1 := keep_cell hI X1
            have k2 := keep_cell hI X2
            have k3 := keep_cell hI X3
            have k4 := keep_cell hI X4
            have k5 := keep_cell hI X5
            have k6 := keep_cell hI X6
            have HI := Lib.hid hI
            clear hI hst hR
            go_wp2
            exact ⟨rfl, _, rfl, rfl, HI.out, fun _ _ h => h⟩
          · refine Owes.mkG _ _ rfl rfl (fun _ _ h => by cases h) fun u m w' hm hI hR => ⟨⟨#[undef, undef, undef, undef, undef, undef, undef, undef, undef, undef, undef, undef, undef, undef, undef, undef, undef, undef, undef, undef, undef, undef, undef, undef, undef, undef, undef, undef, undef, undef, undef, undef, undef, undef, undef, undef, undef, undef, undef, undef, undef, undef, undef, undef, undef, undef, undef, undef, undef, undef, u 6, undef, undef, undef, undef, undef, undef, undef, undef, undef, undef, undef, undef, undef, undef, undef, undef, undef, undef, undef], []⟩, rfl, fun d hd => by cases hd; exact (by decide : 51 < 70), ?_⟩
            have e6 : u 6 = _ := hR 6 (by decide)
            have k0 := keep_cell hI X0
            have k1 := keep_cell hI X1
            have k2 := keep_cell hI X2
            have k3 := keep_cell hI X3
            have k4 := keep_cell hI X4
            have k5 := keep_cell hI X5
            have k6 := keep_cell hI X6
            rw [e6]
            clear e6
            have HX0 := Lib.hid (SlR.below mrR_fits SO.out hI)
            go_wp2_with fail
            refine (iMapOk_any _ (l.map turn) _ _ HX0.out).mono ?_
            rw [ok_turn]
            rintro e w7 ⟨rfl, b7⟩
            have HS := Lib.hid (facts_stable hst (b7.chg []))
            have HI := Lib.hid (hI.trans (b7.mono hI.size))
            clear hI b7 hst hR
            go_wp2
            exact ⟨rfl, _, rfl, rfl, HI.out, HS.out⟩
          · refine Owes.mkG _ _ rfl rfl (fun _ _ h => by cases h) fun u m w' hm hI hR => ⟨⟨#[undef, undef, undef, .slice am nm cm, undef, undef, undef, undef, undef, undef, undef, undef, undef, undef, undef, undef, undef, undef, undef, undef, undef, undef, undef, undef, undef, undef, undef, undef, undef, undef, undef, undef, undef, undef, undef, undef, undef, undef, undef, undef, undef, undef, undef, undef, undef, undef, undef, undef, undef, undef, undef, undef, undef, undef, undef, undef, undef, undef, undef, undef, undef, undef, undef, undef, undef, undef, undef, undef, undef, undef], []⟩, rfl, fun d hd => by cases hd; exact (by decide : 52 < 70), ?_⟩
            have k0 := keep_cell hI X0
            have k1 := keep_cell hI X1
            have k2 := keep_cell hI X2
            have k3 := keep_cell hI X3
            have k4 := keep_cell hI X4
            have k5 := keep_cell hI X5
            have k6 := keep_cell hI X6
            have HI := Lib.hid hI
            clear hI hst hR
            go_wp2
            exact ⟨rfl, _, rfl, rfl, HI.out, fun _ _ h => h⟩
          · refine Owes.mkG _ _ rfl rfl (fun _ _ h => by cases h) fun u m w' hm hI hR => ⟨⟨#[undef, undef, undef, undef, undef, undef, undef, undef, undef, undef, undef, undef, undef, undef, undef, undef, undef, undef, undef, undef, undef, undef, undef, undef, undef, undef, undef, undef, undef, undef, undef, undef, undef, undef, undef, undef, undef, undef, undef, undef, undef, undef, undef, undef, undef, undef, undef, undef, undef, undef, undef, undef, u 8, undef, undef, undef, undef, undef, undef, undef, undef, undef, undef, undef, undef, undef, undef, undef, undef, undef], []⟩, rfl, fun d hd => by cases hd; exact (by decide : 53 < 70), ?_⟩
            have e8 : u 8 = _ := hR 8 (by decide)
            have k0 := keep_cell hI X0
            have k1 := keep_cell hI X1
            have k2 := keep_cell hI X2
            have k3 := keep_cell hI X3
            have k4 := keep_cell hI X4
            have k5 := keep_cell hI X5
            have k6 := keep_cell hI X6
            rw [e8]
            clear e8
            have HX0 := Lib.hid (SlR.below mrR_fits S0.out hI)
            go_wp2_with fail
            refine (iMapOk_any _ l _ _ HX0.out).mono ?_
            rintro e w7 ⟨rfl, b7⟩
            have HS := Lib.hid (facts_stable hst (b7.chg []))
            have HI := Lib.hid (hI.trans (b7.mono hI.size))
            clear hI b7 hst hR
            go_wp2
            exact ⟨rfl, _, rfl, rfl, HI.out, HS.out⟩
          · refine Owes.mkG _ _ rfl rfl (fun _ _ h => by cases h) fun u m w' hm hI hR => ⟨⟨#[undef, undef, undef, undef, undef, undef, undef, undef, undef, undef, undef, undef, undef, undef, undef, undef, undef, undef, undef, undef, undef, undef, undef, undef, undef, undef, undef, undef, undef, undef, undef, undef, undef, undef, undef, undef, undef, undef, undef, undef, undef, undef, undef, undef, undef, undef, undef, undef, undef, undef, undef, u 7, undef, u 9, undef, undef, undef, undef, undef, undef, undef, undef, undef, undef, undef, undef, undef, undef, undef, undef], []⟩, rfl, fun d hd => by cases hd; exact (by decide : 54 < 70), ?_⟩
            have e7 : u 7 = _ := hR 7 (by decide)
            have e9 : u 9 = _ := hR 9 (by decide)
            have k0 := keep_cell hI X0
            have k1 := keep_cell hI X1
            have k2 := keep_cell hI X2
            have k3 := keep_cell hI X3
            have k4 := keep_cell hI X4
            have k5 := keep_cell hI X5
            have k6 := keep_cell hI X6
            rw [e7, e9]
            clear e7 e9
            have HI := Lib.hid hI
            clear hI hst hR
            go_wp2
            exact ⟨rfl, _, rfl, by first | rfl | (show Value.bool _ = Value.bool _; simp), HI.out, fun _ _ h => h⟩
          · refine Owes.mk _ rfl rfl (fun _ _ h => by cases h) fun u m w' hm hI hR => ⟨⟨#[undef, undef, undef, undef, undef, undef, undef, undef, undef, undef, undef, undef, undef, undef, undef, undef, undef, undef, undef, undef, undef, undef, undef, undef, undef, undef, undef, undef, undef, undef, undef, undef, undef, undef, undef, undef, undef, undef, undef, undef, undef, undef, undef, undef, undef, undef, undef, undef, undef, u 5, undef, undef, undef, undef, u 10, undef, undef, undef, undef, undef, undef, undef, undef, undef, undef, undef, undef, undef, undef, undef], []⟩, rfl, fun d hd => by cases hd; exact (by decide : 55 < 70), ?_⟩
            have e5 : u 5 = _ := hR 5 (by decide)
            have e10 : u 10 = _ := hR 10 (by decide)
            have k0 := keep_cell hI X0
            have k1 := keep_cell hI X1
            have k2 := keep_cell hI X2
            have k3 := keep_cell hI X3
            have k4 := keep_cell hI X4
            have k5 := keep_cell hI X5
            have k6 := keep_cell hI X6
            have HI := Lib.hid hI
            clear hI hst hR
            rw [e5, e10]
            clear e5 e10
            go_wp2
            exact ⟨rfl, _, rfl, rfl, HI.out, fun _ _ h => h⟩
          · refine Owes.mk _ rfl rfl (fun _ _ h => by cases h) fun u m w' hm hI hR => ⟨⟨#[undef, undef, undef, undef, undef, undef, undef, undef, undef, undef, undef, undef, undef, undef, undef, undef, undef, undef, undef, undef, undef, undef, undef, undef, undef, undef, undef, undef, undef, undef, undef, undef, undef, undef, undef, undef, undef, undef, undef, undef, undef, undef, undef, undef, undef, undef, undef, undef, undef, undef, undef, undef, undef, undef, undef, u 11, undef, undef, undef, undef, undef, undef, undef, undef, undef, undef, undef, undef, undef, undef], []⟩, rfl, fun d hd => by cases hd; exact (by decide : 56 < 70), ?_⟩
            have e11 : u 11 = _ := hR 11 (by decide)
            have k0 := keep_cell hI X0
            have k1 := keep_cell hI X1
            have k2 := keep_cell hI X2
            have k3 := keep_cell hI X3
            have k4 := keep_cell hI X4
            have k5 := keep_cell hI X5
            have k6 := keep_cell hI X6
            have HI := Lib.hid hI
            clear hI hst hR
            rw [e11]
            clear e11
            go_wp2
            exact ⟨rfl, _, rfl, rfl, HI.out, fun _ _ h => h⟩
          · refine Owes.mkG _ _ rfl rfl (fun _ _ h => by cases h) fun u m w' hm hI hR => ⟨⟨#[undef, undef, undef, undef, undef, undef, .slice va vn vc, undef, undef, undef, undef, undef, undef, undef, undef, undef, undef, undef, undef, undef, undef, undef, undef, undef, undef, undef, undef, undef, undef, undef, undef, undef, undef, undef, undef, undef, undef, undef, undef, undef, undef, undef, undef, undef, undef, undef, undef, undef, undef, undef, undef, undef, undef, undef, undef, undef, undef, undef, undef, undef, undef, undef, undef, undef, undef, undef, undef, undef, undef, undef], []⟩, rfl, fun d hd => by cases hd; exact (by decide : 57 < 70), ?_⟩
            have k0 := keep_cell hI X0
            have k1 := keep_cell hI X1
            have k2 := keep_cell hI X2
            have k3 := keep_cell hI X3
            have k4 := keep_cell hI X4
            have k5 := keep_cell hI X5
            have k6 := keep_cell hI X6
            have HI := Lib.hid hI
            clear hI hst hR
            go_wp2
            exact ⟨rfl, _, rfl, rfl, HI.out, fun _ _ h => h⟩
          · refine Owes.mkG _ _ rfl rfl (fun _ _ h => by cases h) fun u m w' hm hI hR => ⟨⟨#[undef, undef, undef, undef, .pointer (some ⟨w1.heap.size, 0, none⟩), undef, undef, undef, undef, undef, undef, undef, undef, undef, undef, undef, undef, undef, undef, undef, undef, undef, undef, undef, undef, undef, undef, undef, undef, undef, undef, undef, undef, undef, undef, undef, undef, undef, undef, undef, undef, undef, undef, undef, undef, undef, undef, undef, undef, undef, undef, undef, undef, undef, undef, undef, undef, undef, undef, undef, undef, undef, undef, undef, undef, undef, undef, undef, undef, undef], []⟩, rfl, fun d hd => by cases hd; exact (by decide : 58 < 70), ?_⟩
            have k0 := keep_cell hI X0
            have k1 := keep_cell hI X1
            have k2 := keep_cell hI X2
            have k3 := keep_cell hI X3
            have k4 := keep_cell hI X4
            have k5 := keep_cell hI X5
            have k6 := keep_cell hI X6
            have HI := Lib.hid hI
            clear hI hst hR
            go_wp2
            exact ⟨rfl, _, rfl, rfl, HI.out, fun _ _ h => h⟩
          · refine Owes.mkG _ _ rfl rfl (fun _ _ h => by cases h) fun u m w' hm hI hR => ⟨⟨#[undef, undef, undef, undef, undef, undef, undef, undef, undef, undef, undef, undef, undef, undef, undef, undef, undef, undef, undef, undef, undef, undef, undef, undef, undef, undef, undef, undef, undef, undef, undef, undef, undef, undef, undef, undef, undef, undef, undef, undef, undef, undef, undef, undef, undef, undef, undef, undef, undef, undef, undef, undef, undef, undef, undef, undef, undef, undef, u 14, undef, undef, undef, undef, undef, undef, undef, undef, undef, undef, undef], []⟩, rfl, fun d hd => by cases hd; exact (by decide : 59 < 70), ?_⟩
            have e14 : u 14 = _ := hR 14 (by decide)
            have k0 := keep_cell hI X0
            have k1 := keep_cell hI X1
            have k2 := keep_cell hI X2
            have k3 := keep_cell hI X3
            have k4 := keep_cell hI X4
            have k5 := keep_cell hI X5
            have k6 := keep_cell hI X6
            have HI := Lib.hid hI
            clear hI hst hR
            rw [e14]
            clear e14
            go_wp2
            exact ⟨rfl, _, rfl, rfl, HI.out, fun _ _ h => h⟩
          · refine Owes.mkG _ _ rfl rfl (fun _ _ h => by cases h) fun u m w' hm hI hR => ⟨⟨#[undef, undef, undef, undef, undef, undef, undef, undef, undef, undef, undef, undef, undef, undef, undef, undef, undef, undef, undef, undef, undef, undef, undef, undef, undef, undef, undef, undef, undef, undef, undef, undef, undef, undef, undef, undef, undef, undef, undef, undef, undef, undef, undef, undef, undef, undef, undef, undef, undef, undef, undef, undef, undef, undef, undef, undef, undef, u 13, undef, u 15, undef, undef, undef, undef, undef, undef, undef, undef, undef, undef], []⟩, rfl, fun d hd => by cases hd; exact (by decide : 60 < 70), ?_⟩
            have e13 : u 13 = _ := hR 13 (by decide)
            have e15 : u 15 = _ := hR 15 (by decide)
            have k0 := keep_cell hI X0
            have k1 := keep_cell hI X1
            have k2 := keep_cell hI X2
            have k3 := keep_cell hI X3
            have k4 := keep_cell hI X4
            have k5 := keep_cell hI X5
            have k6 := keep_cell hI X6
            rw [e13, e15]
            clear e13 e15
            have HX0 := Lib.hid (SlR.below mrR_fits SO.out hI)
            go_wp2_with fail
            refine (iMapFind_any _ (l.map turn) _ x.addr _ HX0.out).mono ?_
            rw [find_turn]
            rintro e w7 ⟨rfl, b7⟩
            have HS := Lib.hid (facts_stable hst (b7.chg []))
            have HI := Lib.hid (hI.trans (b7.mono hI.size))
            clear hI b7 hst hR
            go_wp2
            exact ⟨rfl, _, rfl, rfl, HI.out, HS.out⟩
          · refine Owes.mkG _ _ rfl rfl (fun _ _ h => by cases h) fun u m w' hm hI hR => ⟨⟨#[undef, undef, undef, .slice am nm cm, undef, undef, undef, undef, undef, undef, undef, undef, undef, undef, undef, undef, undef, undef, undef, undef, undef, undef, undef, undef, undef, undef, undef, undef, undef, undef, undef, undef, undef, undef, undef, undef, undef, undef, undef, undef, undef, undef, undef, undef, undef, undef, undef, undef, undef, undef, undef, undef, undef, undef, undef, undef, undef, undef, undef, undef, undef, undef, undef, undef, undef, undef, undef, undef, undef, undef], []⟩, rfl, fun d hd => by cases hd; exact (by decide : 61 < 70), ?_⟩
            have k0 := keep_cell hI X0
            have k1 := keep_cell hI X1
            have k2 := keep_cell hI X2
            have k3 := keep_cell hI X3
            have k4 := keep_cell hI X4
            have k5 := keep_cell hI X5
            have k6 := keep_cell hI X6
            have HI := Lib.hid hI
            clear hI hst hR
            go_wp2
            exact ⟨rfl, _, rfl, rfl, HI.out, fun _ _ h => h⟩
          · refine Owes.mkG _ _ rfl rfl (fun _ _ h => by cases h) fun u m w' hm hI hR => ⟨⟨#[undef, undef, undef, undef, .pointer (some ⟨w1.heap.size, 0, none⟩), undef, undef, undef, undef, undef, undef, undef, undef, undef, undef, undef, undef, undef, undef, undef, undef, undef, undef, undef, undef, undef, undef, undef, undef, undef, undef, undef, undef, undef, undef, undef, undef, undef, undef, undef, undef, undef, undef, undef, undef, undef, undef, undef, undef, undef, undef, undef, undef, undef, undef, undef, undef, undef, undef, undef, undef, undef, undef, undef, undef, undef, undef, undef, undef, undef], []⟩, rfl, fun d hd => by cases hd; exact (by decide : 62 < 70), ?_⟩
            have k0 := keep_cell hI X0
            have k1 := keep_cell hI X1
            have k2 := keep_cell hI X2
            have k3 := keep_cell hI X3
            have k4 := keep_cell hI X4
            have k5 := keep_cell hI X5
            have k6 := keep_cell hI X6
            have HI := Lib.hid hI
            clear hI hst hR
            go_wp2
            exact ⟨rfl, _, rfl, rfl, HI.out, fun _ _ h => h⟩
          · refine Owes.mkG _ _ rfl rfl (fun _ _ h => by cases h) fun u m w' hm hI hR => ⟨⟨#[undef, undef, undef, undef, undef, undef, undef, undef, undef, undef, undef, undef, undef, undef, undef, undef, undef, undef, undef, undef, undef, undef, undef, undef, undef, undef, undef, undef, undef, undef, undef, undef, undef, undef, undef, undef, undef, undef, undef, undef, undef, undef, undef, undef, undef, undef, undef, undef, undef, undef, undef, undef, undef, undef, undef, undef, undef, undef, undef, undef, undef, undef, u 18, undef, undef, undef, undef, undef, undef, undef], []⟩, rfl, fun d hd => by cases hd; exact (by decide : 63 < 70), ?_⟩
            have e18 : u 18 = _ := hR 18 (by decide)
            have k0 := keep_cell hI X0
            have k1 := keep_cell hI X1
            have k2 := keep_cell hI X2
            have k3 := keep_cell hI X3
            have k4 := keep_cell hI X4
            have k5 := keep_cell hI X5
            have k6 := keep_cell hI X6
            have HI := Lib.hid hI
            clear hI hst hR
            rw [e18]
            clear e18
            go_wp2
            exact ⟨rfl, _, rfl, rfl, HI.out, fun _ _ h => h⟩
          · refine Owes.mkG _ _ rfl rfl (fun _ _ h => by cases h) fun u m w' hm hI hR => ⟨⟨#[undef, undef, undef, undef, undef, undef, undef, undef, undef, undef, undef, undef, undef, undef, undef, undef, undef, undef, undef, undef, undef, undef, undef, undef, undef, undef, undef, undef, undef, undef, undef, undef, undef, undef, undef, undef, undef, undef, undef, undef, undef, undef, undef, undef, undef, undef, undef, undef, undef, undef, undef, undef, undef, undef, undef, undef, undef, undef, undef, undef, undef, u 17, undef, u 19, undef, undef, undef, undef, undef, undef], []⟩, rfl, fun d hd => by cases hd; exact (by decide : 64 < 70), ?_⟩
            have e17 : u 17 = _ := hR 17 (by decide)
            have e19 : u 19 = _ := hR 19 (by decide)
            have k0 := keep_cell hI X0
            have k1 := keep_cell hI X1
            have k2 := keep_cell hI X2
            have k3 := keep_cell hI X3
            have k4 := keep_cell hI X4
            have k5 := keep_cell hI X5
            have k6 := keep_cell hI X6
            rw [e17, e19]
            clear e17 e19
            have HX0 := Lib.hid (SlR.below mrR_fits S0.out hI)
            go_wp2_with fail
            refine (iMapFind_any _ l _ x.addr _ HX0.out).mono ?_
            rintro e w7 ⟨rfl, b7⟩
            have HS := Lib.hid (facts_stable hst (b7.chg []))
            have HI := Lib.hid (hI.trans (b7.mono hI.size))
            clear hI b7 hst hR
            go_wp2
            exact ⟨rfl, _, rfl, rfl, HI.out, HS.out⟩
          · refine Owes.mkG _ _ rfl rfl (fun _ _ h => by cases h) fun u m w' hm hI hR => ⟨⟨#[undef, undef, undef, undef, undef, undef, undef, undef, undef, undef, undef, undef, undef, undef, undef, undef, undef, undef, undef, undef, undef, undef, undef, undef, undef, undef, undef, undef, undef, undef, undef, undef, undef, undef, undef, undef, undef, undef, undef, undef, undef, undef, undef, undef, undef, undef, undef, undef, undef, undef, undef, undef, undef, undef, undef, undef, undef, undef, undef, undef, u 16, undef, undef, undef, u 20, undef, undef, undef, undef, undef], []⟩, rfl, fun d hd => by cases hd; exact (by decide : 65 < 70), ?_⟩
            have e16 : u 16 = _ := hR 16 (by decide)
            have e20 : u 20 = _ := hR 20 (by decide)
            have k0 := keep_cell hI X0
            have k1 := keep_cell hI X1
            have k2 := keep_cell hI X2
            have k3 := keep_cell hI X3
            have k4 := keep_cell hI X4
            have k5 := keep_cell hI X5
            have k6 := keep_cell hI X6
            rw [e16, e20]
            clear e16 e20
            have HI := Lib.hid hI
            clear hI hst hR
            go_wp2
            exact ⟨rfl, _, rfl, by first | rfl | (show Value.bool _ = Value.bool _; simp), HI.out, fun _ _ h => h⟩
          · refine Owes.mk _ rfl rfl (fun _ _ h => by cases h) fun u m w' hm hI hR => ⟨⟨#[undef, undef, undef, undef, undef, undef, undef, undef, undef, undef, undef, undef, undef, undef, undef, undef, undef, undef, undef, undef, undef, undef, undef, undef, undef, undef, undef, undef, undef, undef, undef, undef, undef, undef, undef, undef, undef, undef, undef, undef, undef, undef, undef, undef, undef, undef, undef, undef, undef, undef, undef, undef, undef, undef, undef, undef, u 12, undef, undef, undef, undef, undef, undef, undef, undef, u 21, undef, undef, undef, undef], []⟩, rfl, fun d hd => by cases hd; exact (by decide : 66 < 70), ?_⟩
            have e12 : u 12 = _ := hR 12 (by decide)
            have e21 : u 21 = _ := hR 21 (by decide)
            have k0 := keep_cell hI X0
            have k1 := keep_cell hI X1
            have k2 := keep_cell hI X2
            have k3 := keep_cell hI X3
            have k4 := keep_cell hI X4
            have k5 := keep_cell hI X5
            have k6 := keep_cell hI X6
            have HI := Lib.hid hI
            clear hI hst hR
            rw [e12, e21]
            clear e12 e21
            go_wp2
            exact ⟨rfl, _, rfl, rfl, HI.out, fun _ _ h => h⟩
          · refine Owes.mk _ rfl rfl (fun _ _ h => by cases h) fun u m w' hm hI hR => ⟨⟨#[undef, undef, undef, undef, undef, undef, undef, undef, undef, undef, undef, undef, undef, undef, undef, undef, undef, undef, undef, undef, undef, undef, undef, undef, undef, undef, undef, undef, undef, undef, undef, undef, undef, undef, undef, undef, undef, undef, undef, undef, undef, undef, undef, undef, undef, undef, undef, undef, undef, undef, undef, undef, undef, undef, undef, undef, undef, undef, undef, undef, undef, undef, undef, undef, undef, undef, u 22, undef, undef, undef], []⟩, rfl, fun d hd => by cases hd; exact (by decide : 67 < 70), ?_⟩
            have e22 : u 22 = _ := hR 22 (by decide)
            have k0 := keep_cell hI X0
            have k1 := keep_cell hI X1
            have k2 := keep_cell hI X2
            have k3 := keep_cell hI X3
            have k4 := keep_cell hI X4
            have k5 := keep_cell hI X5
            have k6 := keep_cell hI X6
            have HI := Lib.hid hI
            clear hI hst hR
            rw [e22]
            clear e22
            go_wp2
            exact ⟨rfl, _, rfl, rfl, HI.out, fun _ _ h => h⟩
          · refine Owes.mkG _ _ rfl rfl (fun _ _ h => by cases h) fun u m w' hm hI hR => ⟨⟨#[undef, undef, undef, undef, undef, undef, undef, undef, undef, undef, undef, undef, undef, undef, undef, undef, undef, undef, undef, undef, undef, undef, undef, undef, undef, undef, undef, undef, undef, undef, undef, undef, undef, undef, undef, undef, undef, undef, undef, undef, undef, undef, undef, undef, undef, undef, undef, undef, undef, undef, undef, undef, undef, undef, undef, undef, undef, undef, undef, undef, undef, undef, undef, undef, undef, undef, undef, undef, undef, undef], []⟩, rfl, fun d hd => by cases hd; exact (by decide : 68 < 70), ?_⟩
            have k0 := keep_cell hI X0
            have k1 := keep_cell hI X1
            have k2 := keep_cell hI X2
            have k3 := keep_cell hI X3
            have k4 := keep_cell hI X4
            have k5 := keep_cell hI X5
            have k6 := keep_cell hI X6
            go_wp2_with fail
            refine (crOk_any _).mono ?_
            rintro e w7 ⟨rfl, rfl⟩
            have HI := Lib.hid hI
            clear hI hst hR
            go_wp2
            exact ⟨rfl, _, rfl, rfl, HI.out, fun _ _ h => h⟩
          · refine Owes.mk _ rfl rfl (fun _ _ h => by cases h) fun u m w' hm hI hR => ⟨⟨#[undef, undef, undef, undef, undef, undef, undef, undef, undef, undef, undef, undef, undef, undef, undef, undef, undef, undef, undef, undef, undef, undef, undef, undef, undef, undef, undef, undef, undef, undef, undef, undef, undef, undef, undef, undef, undef, undef, undef, undef, undef, undef, undef, undef, undef, undef, undef, undef, undef, undef, undef, undef, undef, undef, undef, undef, undef, undef, undef, undef, undef, undef, undef, undef, undef, undef, undef, u 23, u 24, undef], []⟩, rfl, fun d hd => by cases hd; exact (by decide : 69 < 70), ?_⟩
            have e23 : u 23 = _ := hR 23 (by decide)
            have e24 : u 24 = _ := hR 24 (by decide)
            have k0 := keep_cell hI X0
            have k1 := keep_cell hI X1
            have k2 := keep_cell hI X2
            have k3 := keep_cell hI X3
            have k4 := keep_cell hI X4
            have k5 := keep_cell hI X5
            have k6 := keep_cell hI X6
            have HI := Lib.hid hI
            clear hI hst hR
            rw [e23, e24]
            clear e23 e24
            go_wp2
            exact ⟨rfl, _, rfl, rfl, HI.out, fun _ _ h => h⟩
          · refine Owes.mk _ rfl rfl (fun _ _ h => by cases h) fun u m w' hm hI hR => ⟨⟨#[undef, undef, undef, undef, undef, undef, undef, undef, undef, undef, undef, undef, undef, undef, undef, undef, undef, undef, undef, undef, undef, undef, undef, undef, undef, undef, undef, undef, undef, undef, undef, undef, undef, undef, undef, undef, undef, undef, undef, undef, undef, undef, undef, undef, undef, undef, undef, undef, undef, undef, undef, undef, undef, undef, undef, undef, undef, undef, undef, undef, undef, undef, undef, undef, undef, undef, undef, undef, undef, u 25], []⟩, rfl, fun d hd => by cases hd; exact (by decide : 2 < 70), ?_⟩
            have e25 : u 25 = _ := hR 25 (by decide)
            have k0 := keep_cell hI X0
            have k1 := keep_cell hI X1
            have k2 := keep_cell hI X2
            have k3 := keep_cell hI X3
            have k4 := keep_cell hI X4
            have k5 := keep_cell hI X5
            have k6 := keep_cell hI X6
            have HI := Lib.hid hI
            clear hI hst hR
            rw [e25]
            clear e25
            go_wp2
            exact ⟨rfl, _, rfl, rfl, HI.out, fun _ _ h => h⟩
        case hend =>
          intro u w' hI hR
          simp only [setAll, List.set_cons_zero, List.set_cons_succ]
          unfold wpList
          have HI := Lib.hid (B1.out.trans (hI.mono B1.out.size))
          have e26 : u 26 = .bool true := hR 26 (by decide)
          rw [e26]
          clear hR hst e26 hI
          go_wp2
          go_ret
          exact ⟨rfl, HI.out⟩

set_option maxRecDepth 100000 in
theorem lifted (os : Os) (started : os.Started) (H : Type) (enc : TypeId × Value → H) :
    ReturnsInHanded {} Try.checked os 3 .any (Rows.fnMapOnlySpec.pre6 enc Try.prog Try.f3 Rows.fnMapOnlyRow.domain false) (Rows.fnMapOnlySpec.post enc Try.prog Try.f3 false true false false) := by
  refine returnsInHanded_of_change (C := Try.checked) own started (by kernel_rfl) Try.func3
    (ChangeSpec.witness6 (enc := enc) (C := Try.checked) false ⟨#[], #[.slice none 0 0], []⟩ 8 (by kernel_rfl) (by kernel_rfl) (by kernel_rfl) (by kernel_rfl)) ?_
  intro W base args ds gs before hval0 hW hcnd _
  have hval : ∀ (j : Nat) t v, Try.f3.params[j]? = some t → args[j]? = some v → Value.okWide Try.prog W .any base t v := hval0
  have hW' := hW
  obtain ⟨p, q, hA0, hV, rfl, hfz, hnd⟩ := hW
  have hA : DataW.TrodAll enc Try.prog W 0 (fun _ => true) true Try.f3.params.toList args.toList ds p := hA0
  rw [Try.params3] at hA hval
  obtain ⟨v0, vs0, d0, ds0, p0, q0, hargs, rfl, rfl, h0, r0⟩ := trodAll_cons hA
  obtain ⟨rfl, rfl, rfl⟩ := trodAll_nil r0
  obtain rfl : args = #[v0] := by cases args; simp_all
  obtain ⟨rfl, rfl⟩ := trodVars_none hV
  clear hA0 hval0
  simp only [List.append_nil] at hW'
  have hlt0 : ∀ x ∈ p0, x.block < W.heap.size := fun x hx => by simpa using hW'.lt x (by simp [hx])
  have hk0 := h0
  obtain ⟨ad0, len0, cap0, rfl⟩ := okWide_slice Try.underlying22 (hval 0 22 v0 rfl rfl)
  obtain ⟨fuel0, hf0⟩ := h0
  obtain ⟨x0, fp0, y0, e0, g0⟩ := (opens_slice Try.underlying22 (by kernel_rfl) (by decide) (opens_byte Try.underlying5) byteR_fits) hf0
  obtain rfl : .slice ad0 len0 cap0 = y0 := by simpa [Value.cells] using e0
  refine (walk (.slice ad0 len0 cap0) x0 fp0 W g0).mono fun e W' ⟨he, hb⟩ => ?_
  subst he
  exact ⟨_, rfl, _, _, _, [], _, [], hW', (trodAll_cons_mk (shut_bool Try.underlying4 _) trodAll_mk0), (trodAll_cons_mk (Below.trod laidOut (by kernel_rfl) (of_decide_eq_true (by kernel_rfl)) hk0 hb hlt0) trodAll_mk0), rfl, hb.frame _, fun h => by cases h⟩

theorem over : Rows.fnMapOnlyRow.holds Try.pinned (OpenSpec.ofChange Rows.fnMapOnlySpec) :=
  OpenClaim.holds_of_wide 3 Try.f3 rfl rfl rfl rfl rfl rfl rfl ⟨rfl, rfl, rfl, rfl, rfl⟩ rfl rfl rfl rfl rfl (by kernel_rfl) Try.func3 (by kernel_rfl)
    (of_decide_eq_true (by kernel_rfl)) (by unfold Func.isWrapper; first | (rw [if_pos (by decide +kernel)]; kernel_rfl) | (rw [if_neg (by decide +kernel)]; exact ⟨rfl, rfl⟩))
    (fun os started H enc _ => lifted os started H enc)

theorem proved : Rows.FnMapOnlySaid :=
  over
#print axioms proved
end Go.Proofs.Ytmcjklicepaiaaa.fnMapOnly