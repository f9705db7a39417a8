/-
  The text of what is asked: the reference's ReqText.
-/
import Derived.Test.YtaeiddoccfaheaaDoorRspText
import Derived.Test.YtaeiddoccfaheaaDoorReqOk
import Derived.Test.YtaeiddoccfaheaaDoorDBox
import Derived.Test.YtaeiddoccfaheaaDoorRegion5
import Derived.Deep.DeepCutAuto
namespace Go.Proofs.YtaeiddoccfaheaaDoor
set_option linter.unusedVariables false
set_option linter.unusedSimpArgs false
open Go.RowKit Go.ChangeShapes

/-- the word of what is asked -/
def reqWord (c : Int) : List UInt8 := if c = 1 then [114, 101, 97, 100] else if c = 2 then [119, 114, 105, 116, 101] else if c = 3 then [104, 111, 108, 100] else [116, 114, 121]
def rnd (b : Bool) : List UInt8 := if b = true then [32, 114, 111, 117, 110, 100] else []
def prs (l : List (Int × Int)) : List UInt8 := l.flatMap fun p => tk p.1 ++ tk p.2
def reqHead (x : Req) : List UInt8 := reqWord x.kind ++ tk x.id ++ tk x.addr ++ tk x.many
def reqText (x : Req) : List UInt8 := if reqOk x = true then reqHead x ++ rnd x.wrap ++ prs (x.data.zip x.lanes) else []
theorem reqWord_len (c : Int) : (reqWord c).length ≤ 5 := by
  unfold reqWord
  split
  · decide
  · split
    · decide
    · split <;> decide
theorem rnd_len (b : Bool) : (rnd b).length ≤ 6 := by cases b <;> decide
theorem prs_take {l : List (Int × Int)} {k : Nat} (h : k < l.length) : prs (l.take (k + 1)) = prs (l.take k) ++ (tk l[k].1 ++ tk l[k].2) := by
  unfold prs
  rw [List.take_succ_eq_append_getElem h, List.flatMap_append]
  simp
structure ReqF (x : Req) : Prop where
  id : 0 ≤ x.id ∧ x.id ≤ 1
  kind : 1 ≤ x.kind ∧ x.kind ≤ 4
  addr : 0 ≤ x.addr ∧ x.addr ≤ 63
  many : 1 ≤ x.many ∧ x.many ≤ 4
  len : x.data.length ≤ 4
  lanes : x.lanes.length = x.data.length
  dat : ∀ n, n ∈ x.data → 0 ≤ n ∧ n ≤ 65535
  lan : ∀ n, n ∈ x.lanes → 0 ≤ n ∧ n ≤ 3
theorem allIn_mem {l : List Int} {lo hi : Int} (h : allIn l lo hi = true) : ∀ n, n ∈ l → lo ≤ n ∧ n ≤ hi := fun n hn => by
  obtain ⟨j, hj, rfl⟩ := List.mem_iff_getElem.1 hn
  exact allIn_at h hj
theorem reqOk_facts {x : Req} (h : reqOk x = true) : ReqF x := by
  unfold reqOk at h
  simp only [Bool.and_eq_true, inB_true, beq_iff_eq, adrOk_true] at h
  obtain ⟨h1, h2, ⟨h3, h3', h3'', -⟩, h4, h5, h6, h7, -⟩ := h
  have hm : 1 ≤ x.many ∧ x.many ≤ 4 := by omega
  have hmo : manyOf x ≤ 4 := by unfold manyOf; split <;> omega
  exact ⟨h1, h2, ⟨h3, h3'⟩, hm, by omega, by omega, allIn_mem h6, allIn_mem h7⟩
theorem prs_len (l : List (Int × Int)) (h : ∀ p, p ∈ l → p.1 < 9223372036854775808 ∧ p.2 < 9223372036854775808) : (prs l).length ≤ 42 * l.length := by
  induction l with
  | nil => simp [prs]
  | cons x l ih =>
    have h1 := tk_len x.1 (h x (by simp)).1
    have h3 := tk_len x.2 (h x (by simp)).2
    have h2 := ih (fun n hn => h n (by simp [hn]))
    unfold prs at h2 ⊢
    rw [List.flatMap_cons, List.length_append, List.length_append, List.length_cons]
    omega
theorem head_len {x : Req} (h : ReqF x) : (reqHead x ++ rnd x.wrap).length ≤ 80 := by
  have h1 := reqWord_len x.kind
  have h2 := tk_len x.id (by have := h.id; omega)
  have h3 := tk_len x.addr (by have := h.addr; omega)
  have h4 := tk_len x.many (by have := h.many; omega)
  have h5 := rnd_len x.wrap
  unfold reqHead
  simp only [List.length_append]
  omega

/-- four words, in a block of their own -/
def FWs : Fact := fun v w => ∃ q, v = .slice (some ⟨q, 0, none⟩) 4 4 ∧ ∀ j, j < 4 → w.cell? ⟨q, j, none⟩ = some (.string ⟨(reqWord ((j : Int) + 1)).toArray⟩)
theorem stWs : Stable [] FWs := fun _ _ _ ⟨q, e, h⟩ hc => ⟨q, e, fun j hj => keep_cell_chg hc (h j hj) (by simp)⟩
theorem ws_at {w : World} {t : TypeId} {j : Nat} (hj : j < 4) : (w.alloc (.cells #[.string ⟨#[114, 101, 97, 100]⟩, .string ⟨#[119, 114, 105, 116, 101]⟩, .string ⟨#[104, 111, 108, 100]⟩, .string ⟨#[116, 114, 121]⟩] t)).cell? ⟨w.heap.size, j, none⟩ = some (.string ⟨(reqWord ((j : Int) + 1)).toArray⟩) := by
  have h4 : j = 0 ∨ j = 1 ∨ j = 2 ∨ j = 3 := by omega
  rcases h4 with rfl | rfl | rfl | rfl <;> exact alloc1_new _ _ _ _ rfl
def FWp (k : Nat) : Fact := fun v w => ∃ q, v = .pointer (some ⟨q, k, none⟩) ∧ w.cell? ⟨q, k, none⟩ = some (.string ⟨(reqWord ((k : Int) + 1)).toArray⟩)
theorem stWp (k : Nat) : Stable [] (FWp k) := fun _ _ _ ⟨q, e, h⟩ hc => ⟨q, e, keep_cell_chg hc h (by simp)⟩

/-- a text -/
def FStr (l : List UInt8) (n : Nat) : Fact := fun v _ => ∃ s : ByteArray, v = .string s ∧ s = ⟨l.toArray⟩ ∧ l.length ≤ n
theorem stStr (l : List UInt8) (n : Nat) : Stable [] (FStr l n) := fun _ _ _ h _ => h
theorem str_size {s : ByteArray} {l : List UInt8} (h : s = ⟨l.toArray⟩) : s.size = l.length := by rw [h]; rfl
theorem add_space {s : ByteArray} {l : List UInt8} {n : Nat} (h : s = ⟨l.toArray⟩) (hl : l.length ≤ n) : ∃ t : ByteArray, Value.string (s ++ ⟨#[32]⟩) = .string t ∧ t = ⟨(l ++ [32]).toArray⟩ ∧ (l ++ [32]).length ≤ n + 1 :=
  ⟨_, rfl, by rw [h]; exact ByteArray.mk_append_mk l [32], by simp; omega⟩
theorem add_text {s t : ByteArray} {l m : List UInt8} {n k : Nat} (h : s = ⟨l.toArray⟩) (hl : l.length ≤ n) (g : t = ⟨m.toArray⟩) (hm : m.length ≤ k) : ∃ u : ByteArray, Value.string (s ++ t) = .string u ∧ u = ⟨(l ++ m).toArray⟩ ∧ (l ++ m).length ≤ n + k :=
  ⟨_, rfl, by rw [h, g]; exact ByteArray.mk_append_mk l m, by simp; omega⟩

set_option maxRecDepth 100000 in
set_option maxHeartbeats 12800000 in
theorem sReqText_any (x : Req) (v0 v1 : Value) (fp0 fp1 : List Nat) (w : World) (g0 : SlR 1 intR w x.data v0 fp0) (g1 : SlR 1 intR w x.lanes v1 fp1) :
    Calls Tryd.prog 13 #[.agg #[.int .i64 x.id, .int .i64 x.kind, .int .i64 x.addr, .int .i64 x.many, .bool x.wrap, v0, v1]] w fun e w' => e = .returned (.string ⟨(reqText x).toArray⟩) ∧ Below w.heap.size w w' := by
  obtain ⟨da, dn, dc, rfl, hn, _⟩ := g0.opened
  obtain ⟨la, ln, lc, rfl, hm, _⟩ := g1.opened
  obtain ⟨w0, hw0⟩ : ∃ w0, w0 = w.alloc (.cells #[.int .i64 x.id, .int .i64 x.kind, .int .i64 x.addr, .int .i64 x.many, .bool x.wrap, .slice da dn dc, .slice la ln lc] 35) := ⟨_, rfl⟩
  have hb0 : Below w.heap.size w w0 := by rw [hw0]; exact below_alloc w _
  have cs : ∀ j (hj : j < 7), w0.cell? ⟨w.heap.size, j, none⟩ = some ((#[.int .i64 x.id, .int .i64 x.kind, .int .i64 x.addr, .int .i64 x.many, .bool x.wrap, .slice da dn dc, .slice la ln lc] : Array Value)[j]'hj) := fun j hj => by rw [hw0]; exact alloc1_new _ _ _ j (by simp [show j < 7 from hj])
  have G0 := Lib.hid (SlR.below intR_fits g0 hb0)
  have G1 := Lib.hid (SlR.below intR_fits g1 hb0)
  have B := Lib.hid hb0
  go_enter Tryd.func13, Tryd.ntmps13
  go_upto_region 1 with fail
  rw [← hw0]
  obtain ⟨bx, hbx⟩ : ∃ z, z = w.heap.size := ⟨_, rfl⟩
  rw [← hbx] at cs
  rw [← hbx]
  have CS := Lib.hid cs
  have x0 := cs 0 (by decide)
  have x1 := cs 1 (by decide)
  have x2 := cs 2 (by decide)
  have x3 := cs 3 (by decide)
  have x4 := cs 4 (by decide)
  have x5 := cs 5 (by decide)
  have x6 := cs 6 (by decide)
  simp only [List.getElem_toArray, List.getElem_cons_zero, List.getElem_cons_succ] at x0 x1 x2 x3 x4 x5 x6
  clear hw0 g0 g1 hb0 cs hbx
  go_wp2_with fail
  refine (sReqOk_any x _ _ fp0 fp1 _ G0.out G1.out).mono ?_
  cases q : reqOk x
  · have Q : Hid (reqText x = []) := Lib.hid (by unfold reqText; rw [q]; rfl)
    clear q
    rintro e w2 ⟨rfl, b2⟩
    have B2 := Lib.hid (B.out.trans (b2.mono B.out.size))
    clear b2 x0 x1 x2 x3 x4 x5 x6
    go_wp2
    go_ret
    exact ⟨by rw [Q.out]; rfl, B2.out⟩
  · have RF := reqOk_facts q
    have HF := Lib.hid RF
    have Q : Hid (reqText x = reqHead x ++ rnd x.wrap ++ prs (x.data.zip x.lanes)) := Lib.hid (by unfold reqText; rw [q]; rfl)
    clear q
    rintro e w2 ⟨rfl, b2⟩
    have B2 := Lib.hid (B.out.trans (b2.mono B.out.size))
    have G02 := Lib.hid (SlR.below intR_fits G0.out b2)
    have G12 := Lib.hid (SlR.below intR_fits G1.out b2)
    have CS2 : Hid (∀ j (hj : j < 7), w2.cell? ⟨bx, j, none⟩ = some ((#[.int .i64 x.id, .int .i64 x.kind, .int .i64 x.addr, .int .i64 x.many, .bool x.wrap, .slice da dn dc, .slice la ln lc] : Array Value)[j]'hj)) := Lib.hid fun j hj => keep_cell b2 (CS.out j hj)
    replace x0 := keep_cell b2 x0
    replace x1 := keep_cell b2 x1
    replace x2 := keep_cell b2 x2
    replace x3 := keep_cell b2 x3
    obtain ⟨i, hi⟩ := Int.eq_ofNat_of_zero_le RF.id.1
    obtain ⟨k, hk⟩ := Int.eq_ofNat_of_zero_le (show 0 ≤ x.kind - 1 by have := RF.kind; omega)
    obtain ⟨a, ha⟩ := Int.eq_ofNat_of_zero_le RF.addr.1
    obtain ⟨mq, hmm⟩ := Int.eq_ofNat_of_zero_le (show 0 ≤ x.many by have := RF.many; omega)
    have hk4 : k < 4 := by have := RF.kind; omega
    have hk4i : (k : Int) < 4 := by omega
    have hkx : x.kind = (k : Int) + 1 := by omega
    have hi1 : i ≤ 1 := by have := RF.id; omega
    have ha1 : a ≤ 63 := by have := RF.addr; omega
    have hm1 : mq ≤ 4 := by have := RF.many; omega
    rw [hi] at x0
    rw [hkx] at x1
    rw [ha] at x2
    rw [hmm] at x3
    have HH : Hid (reqWord ((k : Int) + 1) ++ [32] ++ Lib.decDigits i ++ [32] ++ Lib.decDigits a ++ [32] ++ Lib.decDigits mq = reqHead x) := Lib.hid (by
      unfold reqHead tk
      rw [hkx, hi, ha, hmm]
      simp)
    obtain ⟨T5, h5⟩ : ∃ z, z = reqWord ((k : Int) + 1) := ⟨_, rfl⟩
    obtain ⟨T6, h6⟩ : ∃ z, z = T5 ++ [32] := ⟨_, rfl⟩
    obtain ⟨T10, h10⟩ : ∃ z, z = T6 ++ Lib.decDigits i := ⟨_, rfl⟩
    obtain ⟨T11, h11⟩ : ∃ z, z = T10 ++ [32] := ⟨_, rfl⟩
    obtain ⟨T15, h15⟩ : ∃ z, z = T11 ++ Lib.decDigits a := ⟨_, rfl⟩
    obtain ⟨T16, h16⟩ : ∃ z, z = T15 ++ [32] := ⟨_, rfl⟩
    obtain ⟨T20, h20⟩ : ∃ z, z = T16 ++ Lib.decDigits mq := ⟨_, rfl⟩
    have HT20 : Hid (T20 = reqHead x) := Lib.hid (by rw [h20, h16, h15, h11, h10, h6, h5]; exact HH.out)
    have HT5 := Lib.hid h5
    have HT6 := Lib.hid h6
    have HT10 := Lib.hid h10
    have HT11 := Lib.hid h11
    have HT15 := Lib.hid h15
    have HT16 := Lib.hid h16
    have HT20' := Lib.hid h20
    clear h5 h6 h10 h11 h15 h16 h20 HH
    clear b2 x4 x5 x6 G0 G1 B CS RF hi hk ha hmm hkx
    go_upto_region 3 with fail
    have hst : ∀ F, F ∈ [FWs, FEq (.pointer (some ⟨bx, 1, none⟩)), FEq (.int .i64 ((k : Int) + 1)), FEq (.int .i64 (k : Int)), FWp k, FStr T5 5, FStr T6 6, FEq (.pointer (some ⟨bx, 0, none⟩)), FEq (.int .i64 (i : Int)), FStr (Lib.decDigits i) 20, FStr T10 26, FStr T11 27, FEq (.pointer (some ⟨bx, 2, none⟩)), FEq (.int .i64 (a : Int)), FStr (Lib.decDigits a) 20, FStr T15 47, FStr T16 48, FEq (.pointer (some ⟨bx, 3, none⟩)), FEq (.int .i64 (mq : Int)), FStr (Lib.decDigits mq) 20, FStr T20 68, FStr T20 68] → Stable [] F := by
      simp only [List.forall_mem_cons]
      exact ⟨stWs, stEq _ _, stEq _ _, stEq _ _, stWp k, stStr _ _, stStr _ _, stEq _ _, stEq _ _, stStr _ _, stStr _ _, stStr _ _, stEq _ _, stEq _ _, stStr _ _, stStr _ _, stStr _ _, stEq _ _, stEq _ _, stStr _ _, stStr _ _, stStr _ _, fun _ h => by simp at h⟩
    refine wp_region_tail (by kernel_rfl) (fun i => ([[], [], [1], [1, 2], [0, 1, 2, 3], [0, 1, 2, 3, 4], [0, 1, 2, 3, 4, 5], [], [7], [7, 8], [0, 1, 2, 3, 4, 5, 6, 7, 8, 9], [0, 1, 2, 3, 4, 5, 6, 7, 8, 9, 10], [], [12], [7, 8, 9, 12, 13], [0, 1, 2, 3, 4, 5, 6, 7, 8, 9, 10, 11, 12, 13, 14], [0, 1, 2, 3, 4, 5, 6, 7, 8, 9, 10, 11, 12, 13, 14, 15], [], [17], [7, 8, 9, 12, 13, 14, 17, 18], [0, 1, 2, 3, 4, 5, 6, 7, 8, 9, 10, 11, 12, 13, 14, 15, 16, 17, 18, 19], [0, 1, 2, 3, 4, 5, 6, 7, 8, 9, 10, 11, 12, 13, 14, 15, 16, 17, 18, 19, 20]] : List (List Nat)).getD i []) (facts [FWs, FEq (.pointer (some ⟨bx, 1, none⟩)), FEq (.int .i64 ((k : Int) + 1)), FEq (.int .i64 (k : Int)), FWp k, FStr T5 5, FStr T6 6, FEq (.pointer (some ⟨bx, 0, none⟩)), FEq (.int .i64 (i : Int)), FStr (Lib.decDigits i) 20, FStr T10 26, FStr T11 27, FEq (.pointer (some ⟨bx, 2, none⟩)), FEq (.int .i64 (a : Int)), FStr (Lib.decDigits a) 20, FStr T15 47, FStr T16 48, FEq (.pointer (some ⟨bx, 3, none⟩)), FEq (.int .i64 (mq : Int)), FStr (Lib.decDigits mq) 20, FStr T20 68, FStr T20 68]) (fun m w' => Below w2.heap.size w2 w') 58 22 22 [some 8, some 9, some 10, some 11, some 12, some 13, some 14, some 15, some 16, some 17, some 18, some 19, some 20, some 21, some 22, some 23, some 24, some 25, some 26, some 27, some 28, some 3] [] rfl rfl (by decide) rfl rfl (by kernel_rfl) (by kernel_rfl) [] (by kernel_rfl) (fun g b hm v w h => by simp at hm) ?h0 (all_lt (n := 22) ?hop) ?hend
    case h0 => exact (Below.refl _ _).drew
    case hop =>
      refine ⟨⟨⟨⟨⟨⟨⟨⟨⟨⟨⟨⟨⟨⟨⟨⟨⟨⟨⟨⟨⟨⟨trivial, ?_⟩, ?_⟩, ?_⟩, ?_⟩, ?_⟩, ?_⟩, ?_⟩, ?_⟩, ?_⟩, ?_⟩, ?_⟩, ?_⟩, ?_⟩, ?_⟩, ?_⟩, ?_⟩, ?_⟩, ?_⟩, ?_⟩, ?_⟩, ?_⟩, ?_⟩
      · refine Owes.mk _ rfl rfl (fun _ _ h => by cases h) fun u m w' hm hI hR => ⟨⟨#[undef, undef, undef, undef, undef, undef, undef, undef, undef, undef, undef, undef, undef, undef, undef, undef, undef, undef, undef, undef, undef, undef, undef, undef, undef, undef, undef, undef, undef, undef, undef, undef, undef, undef, undef, undef, undef, undef, undef, undef, undef, undef, undef, undef, undef, undef, undef, undef, undef, undef, undef, undef, undef, undef, undef, undef, undef, undef], []⟩, rfl, fun d hd => by cases hd; exact (by decide : 8 < 58), ?_⟩
        have k0 := keep_cell hI x0
        have k1 := keep_cell hI x1
        have k2 := keep_cell hI x2
        have k3 := keep_cell hI x3
        have HI := Lib.hid hI
        have hst' := hst
        have HSt := Lib.hid hst
        clear hI hst hst' hR
        go_wp2
        have ba := below_alloc w' (.cells #[.string ⟨#[114, 101, 97, 100]⟩, .string ⟨#[119, 114, 105, 116, 101]⟩, .string ⟨#[104, 111, 108, 100]⟩, .string ⟨#[116, 114, 121]⟩] 9)
        exact ⟨rfl, _, rfl, ⟨_, rfl, fun j hj => ws_at hj⟩, HI.out.trans (ba.mono HI.out.size), facts_stable HSt.out (ba.chg [])⟩
      · refine Owes.mk _ rfl rfl (fun _ _ h => by cases h) fun u m w' hm hI hR => ⟨⟨#[undef, .pointer (some ⟨bx, 0, none⟩), undef, undef, undef, undef, undef, undef, undef, undef, undef, undef, undef, undef, undef, undef, undef, undef, undef, undef, undef, undef, undef, undef, undef, undef, undef, undef, undef, undef, undef, undef, undef, undef, undef, undef, undef, undef, undef, undef, undef, undef, undef, undef, undef, undef, undef, undef, undef, undef, undef, undef, undef, undef, undef, undef, undef, undef], []⟩, rfl, fun d hd => by cases hd; exact (by decide : 9 < 58), ?_⟩
        have k0 := keep_cell hI x0
        have k1 := keep_cell hI x1
        have k2 := keep_cell hI x2
        have k3 := keep_cell hI x3
        have HI := Lib.hid hI
        clear hI hst hR
        go_wp2
        exact ⟨rfl, _, rfl, rfl, HI.out, fun _ _ h => h⟩
      · refine Owes.mk _ rfl rfl (fun _ _ h => by cases h) fun u m w' hm hI hR => ⟨⟨#[undef, undef, undef, undef, undef, undef, undef, undef, undef, u 1, undef, undef, undef, undef, undef, undef, undef, undef, undef, undef, undef, undef, undef, undef, undef, undef, undef, undef, undef, undef, undef, undef, undef, undef, undef, undef, undef, undef, undef, undef, undef, undef, undef, undef, undef, undef, undef, undef, undef, undef, undef, undef, undef, undef, undef, undef, undef, undef], []⟩, rfl, fun d hd => by cases hd; exact (by decide : 10 < 58), ?_⟩
        have e1 : u 1 = _ := hR 1 (by decide)
        have k0 := keep_cell hI x0
        have k1 := keep_cell hI x1
        have k2 := keep_cell hI x2
        have k3 := keep_cell hI x3
        have HI := Lib.hid hI
        clear hI hst hR
        rw [e1]
        clear e1
        go_wp2
        exact ⟨rfl, _, rfl, rfl, HI.out, fun _ _ h => h⟩
      · refine Owes.mk _ rfl rfl (fun _ _ h => by cases h) fun u m w' hm hI hR => ⟨⟨#[undef, undef, undef, undef, undef, undef, undef, undef, undef, undef, u 2, undef, undef, undef, undef, undef, undef, undef, undef, undef, undef, undef, undef, undef, undef, undef, undef, undef, undef, undef, undef, undef, undef, undef, undef, undef, undef, undef, undef, undef, undef, undef, undef, undef, undef, undef, undef, undef, undef, undef, undef, undef, undef, undef, undef, undef, undef, undef], []⟩, rfl, fun d hd => by cases hd; exact (by decide : 11 < 58), ?_⟩
        have e2 : u 2 = _ := hR 2 (by decide)
        have k0 := keep_cell hI x0
        have k1 := keep_cell hI x1
        have k2 := keep_cell hI x2
        have k3 := keep_cell hI x3
        have HI := Lib.hid hI
        clear hI hst hR
        rw [e2]
        clear e2
        go_wp2
        exact ⟨rfl, _, rfl, rfl, HI.out, fun _ _ h => h⟩
      · refine Owes.mk _ rfl rfl (fun _ _ h => by cases h) fun u m w' hm hI hR => ⟨⟨#[undef, undef, undef, undef, undef, undef, undef, undef, u 0, undef, undef, u 3, undef, undef, undef, undef, undef, undef, undef, undef, undef, undef, undef, undef, undef, undef, undef, undef, undef, undef, undef, undef, undef, undef, undef, undef, undef, undef, undef, undef, undef, undef, undef, undef, undef, undef, undef, undef, undef, undef, undef, undef, undef, undef, undef, undef, undef, undef], []⟩, rfl, fun d hd => by cases hd; exact (by decide : 12 < 58), ?_⟩
        have e3 : u 3 = _ := hR 3 (by decide)
        have k0 := keep_cell hI x0
        have k1 := keep_cell hI x1
        have k2 := keep_cell hI x2
        have k3 := keep_cell hI x3
        rw [e3]
        clear e3
        obtain ⟨q_, e0_, h0_⟩ := hR 0 (by decide)
        rw [e0_]
        have HI := Lib.hid hI
        have HC := Lib.hid (h0_ k hk4)
        clear hI hst hR e0_ h0_
        go_wp2
        exact ⟨rfl, _, rfl, ⟨q_, rfl, HC.out⟩, HI.out, fun _ _ h => h⟩
      · refine Owes.mk _ rfl rfl (fun _ _ h => by cases h) fun u m w' hm hI hR => ⟨⟨#[undef, undef, undef, undef, undef, undef, undef, undef, undef, undef, undef, undef, u 4, undef, undef, undef, undef, undef, undef, undef, undef, undef, undef, undef, undef, undef, undef, undef, undef, undef, undef, undef, undef, undef, undef, undef, undef, undef, undef, undef, undef, undef, undef, undef, undef, undef, undef, undef, undef, undef, undef, undef, undef, undef, undef, undef, undef, undef], []⟩, rfl, fun d hd => by cases hd; exact (by decide : 13 < 58), ?_⟩
        have k0 := keep_cell hI x0
        have k1 := keep_cell hI x1
        have k2 := keep_cell hI x2
        have k3 := keep_cell hI x3
        obtain ⟨q_, e4_, h4_⟩ := hR 4 (by decide)
        rw [e4_]
        have HI := Lib.hid hI
        clear hI hst hR e4_
        go_wp2
        exact ⟨rfl, _, rfl, ⟨_, rfl, by rw [HT5.out], by rw [HT5.out]; exact reqWord_len _⟩, HI.out, fun _ _ h => h⟩
      · refine Owes.mk _ rfl rfl (fun _ _ h => by cases h) fun u m w' hm hI hR => ⟨⟨#[undef, undef, undef, undef, undef, undef, undef, undef, undef, undef, undef, undef, undef, u 5, undef, undef, undef, undef, undef, undef, undef, undef, undef, undef, undef, undef, undef, undef, undef, undef, undef, undef, undef, undef, undef, undef, undef, undef, undef, undef, undef, undef, undef, undef, undef, undef, undef, undef, undef, undef, undef, undef, undef, undef, undef, undef, undef, undef], []⟩, rfl, fun d hd => by cases hd; exact (by decide : 14 < 58), ?_⟩
        have k0 := keep_cell hI x0
        have k1 := keep_cell hI x1
        have k2 := keep_cell hI x2
        have k3 := keep_cell hI x3
        obtain ⟨s_, e_, h_, z_⟩ := hR 5 (by decide)
        have y_ := str_size h_
        have c_ : ¬ (s_.size + 1 > 9223372036854775807) := by omega
        have HS := Lib.hid h_
        have HZ := Lib.hid z_
        rw [e_]
        have HI := Lib.hid hI
        clear hI hst hR e_ h_ z_ y_
        go_wp2
        exact ⟨rfl, _, rfl, by rw [HT6.out]; exact add_space HS.out HZ.out, HI.out, fun _ _ h => h⟩
      · refine Owes.mk _ rfl rfl (fun _ _ h => by cases h) fun u m w' hm hI hR => ⟨⟨#[undef, .pointer (some ⟨bx, 0, none⟩), undef, undef, undef, undef, undef, undef, undef, undef, undef, undef, undef, undef, undef, undef, undef, undef, undef, undef, undef, undef, undef, undef, undef, undef, undef, undef, undef, undef, undef, undef, undef, undef, undef, undef, undef, undef, undef, undef, undef, undef, undef, undef, undef, undef, undef, undef, undef, undef, undef, undef, undef, undef, undef, undef, undef, undef], []⟩, rfl, fun d hd => by cases hd; exact (by decide : 15 < 58), ?_⟩
        have k0 := keep_cell hI x0
        have k1 := keep_cell hI x1
        have k2 := keep_cell hI x2
        have k3 := keep_cell hI x3
        have HI := Lib.hid hI
        clear hI hst hR
        go_wp2
        exact ⟨rfl, _, rfl, rfl, HI.out, fun _ _ h => h⟩
      · refine Owes.mk _ rfl rfl (fun _ _ h => by cases h) fun u m w' hm hI hR => ⟨⟨#[undef, undef, undef, undef, undef, undef, undef, undef, undef, undef, undef, undef, undef, undef, undef, u 7, undef, undef, undef, undef, undef, undef, undef, undef, undef, undef, undef, undef, undef, undef, undef, undef, undef, undef, undef, undef, undef, undef, undef, undef, undef, undef, undef, undef, undef, undef, undef, undef, undef, undef, undef, undef, undef, undef, undef, undef, undef, undef], []⟩, rfl, fun d hd => by cases hd; exact (by decide : 16 < 58), ?_⟩
        have e7 : u 7 = _ := hR 7 (by decide)
        have k0 := keep_cell hI x0
        have k1 := keep_cell hI x1
        have k2 := keep_cell hI x2
        have k3 := keep_cell hI x3
        have HI := Lib.hid hI
        clear hI hst hR
        rw [e7]
        clear e7
        go_wp2
        exact ⟨rfl, _, rfl, rfl, HI.out, fun _ _ h => h⟩
      · refine Owes.mk _ rfl rfl (fun _ _ h => by cases h) fun u m w' hm hI hR => ⟨⟨#[undef, undef, undef, undef, undef, undef, undef, undef, undef, undef, undef, undef, undef, undef, undef, undef, u 8, undef, undef, undef, undef, undef, undef, undef, undef, undef, undef, undef, undef, undef, undef, undef, undef, undef, undef, undef, undef, undef, undef, undef, undef, undef, undef, undef, undef, undef, undef, undef, undef, undef, undef, undef, undef, undef, undef, undef, undef, undef], []⟩, rfl, fun d hd => by cases hd; exact (by decide : 17 < 58), ?_⟩
        have e8 : u 8 = _ := hR 8 (by decide)
        have k0 := keep_cell hI x0
        have k1 := keep_cell hI x1
        have k2 := keep_cell hI x2
        have k3 := keep_cell hI x3
        rw [e8]
        clear e8
        have HI := Lib.hid hI
        have HSt := Lib.hid hst
        clear hI hst hR
        go_wp2_with fail
        refine (sPlain_any i (by omega) _).mono ?_
        rintro e w5 ⟨rfl, b5⟩
        have HS := Lib.hid (facts_stable HSt.out (b5.chg []))
        have HI5 := Lib.hid (HI.out.trans (b5.mono HI.out.size))
        clear b5
        go_wp2
        exact ⟨rfl, _, rfl, ⟨_, rfl, rfl, digits_len i (by omega)⟩, HI5.out, HS.out⟩
      · refine Owes.mk _ rfl rfl (fun _ _ h => by cases h) fun u m w' hm hI hR => ⟨⟨#[undef, undef, undef, undef, undef, undef, undef, undef, undef, undef, undef, undef, undef, undef, u 6, undef, undef, u 9, undef, undef, undef, undef, undef, undef, undef, undef, undef, undef, undef, undef, undef, undef, undef, undef, undef, undef, undef, undef, undef, undef, undef, undef, undef, undef, undef, undef, undef, undef, undef, undef, undef, undef, undef, undef, undef, undef, undef, undef], []⟩, rfl, fun d hd => by cases hd; exact (by decide : 18 < 58), ?_⟩
        have k0 := keep_cell hI x0
        have k1 := keep_cell hI x1
        have k2 := keep_cell hI x2
        have k3 := keep_cell hI x3
        obtain ⟨s_, e_, h_, z_⟩ := hR 6 (by decide)
        obtain ⟨t_, f_, g_, y_⟩ := hR 9 (by decide)
        have y1_ := str_size h_
        have y2_ := str_size g_
        have c_ : ¬ (s_.size + t_.size > 9223372036854775807) := by omega
        have HS := Lib.hid h_
        have HZ := Lib.hid z_
        have HT := Lib.hid g_
        have HY := Lib.hid y_
        rw [e_, f_]
        have HI := Lib.hid hI
        clear hI hst hR e_ f_ h_ g_ z_ y_ y1_ y2_
        go_wp2
        exact ⟨rfl, _, rfl, by rw [HT10.out]; exact add_text HS.out HZ.out HT.out HY.out, HI.out, fun _ _ h => h⟩
      · refine Owes.mk _ rfl rfl (fun _ _ h => by cases h) fun u m w' hm hI hR => ⟨⟨#[undef, undef, undef, undef, undef, undef, undef, undef, undef, undef, undef, undef, undef, undef, undef, undef, undef, undef, u 10, undef, undef, undef, undef, undef, undef, undef, undef, undef, undef, undef, undef, undef, undef, undef, undef, undef, undef, undef, undef, undef, undef, undef, undef, undef, undef, undef, undef, undef, undef, undef, undef, undef, undef, undef, undef, undef, undef, undef], []⟩, rfl, fun d hd => by cases hd; exact (by decide : 19 < 58), ?_⟩
        have k0 := keep_cell hI x0
        have k1 := keep_cell hI x1
        have k2 := keep_cell hI x2
        have k3 := keep_cell hI x3
        obtain ⟨s_, e_, h_, z_⟩ := hR 10 (by decide)
        have y_ := str_size h_
        have c_ : ¬ (s_.size + 1 > 9223372036854775807) := by omega
        have HS := Lib.hid h_
        have HZ := Lib.hid z_
        rw [e_]
        have HI := Lib.hid hI
        clear hI hst hR e_ h_ z_ y_
        go_wp2
        exact ⟨rfl, _, rfl, by rw [HT11.out]; exact add_space HS.out HZ.out, HI.out, fun _ _ h => h⟩
      · refine Owes.mk _ rfl rfl (fun _ _ h => by cases h) fun u m w' hm hI hR => ⟨⟨#[undef, .pointer (some ⟨bx, 0, none⟩), undef, undef, undef, undef, undef, undef, undef, undef, undef, undef, undef, undef, undef, undef, undef, undef, undef, undef, undef, undef, undef, undef, undef, undef, undef, undef, undef, undef, undef, undef, undef, undef, undef, undef, undef, undef, undef, undef, undef, undef, undef, undef, undef, undef, undef, undef, undef, undef, undef, undef, undef, undef, undef, undef, undef, undef], []⟩, rfl, fun d hd => by cases hd; exact (by decide : 20 < 58), ?_⟩
        have k0 := keep_cell hI x0
        have k1 := keep_cell hI x1
        have k2 := keep_cell hI x2
        have k3 := keep_cell hI x3
        have HI := Lib.hid hI
        clear hI hst hR
        go_wp2
        exact ⟨rfl, _, rfl, rfl, HI.out, fun _ _ h => h⟩
      · refine Owes.mk _ rfl rfl (fun _ _ h => by cases h) fun u m w' hm hI hR => ⟨⟨#[undef, undef, undef, undef, undef, undef, undef, undef, undef, undef, undef, undef, undef, undef, undef, undef, undef, undef, undef, undef, u 12, undef, undef, undef, undef, undef, undef, undef, undef, undef, undef, undef, undef, undef, undef, undef, undef, undef, undef, undef, undef, undef, undef, undef, undef, undef, undef, undef, undef, undef, undef, undef, undef, undef, undef, undef, undef, undef], []⟩, rfl, fun d hd => by cases hd; exact (by decide : 21 < 58), ?_⟩
        have e12 : u 12 = _ := hR 12 (by decide)
        have k0 := keep_cell hI x0
        have k1 := keep_cell hI x1
        have k2 := keep_cell hI x2
        have k3 := keep_cell hI x3
        have HI := Lib.hid hI
        clear hI hst hR
        rw [e12]
        clear e12
        go_wp2
        exact ⟨rfl, _, rfl, rfl, HI.out, fun _ _ h => h⟩
      · refine Owes.mk _ rfl rfl (fun _ _ h => by cases h) fun u m w' hm hI hR => ⟨⟨#[undef, undef, undef, undef, undef, undef, undef, undef, undef, undef, undef, undef, undef, undef, undef, undef, undef, undef, undef, undef, undef, u 13, undef, undef, undef, undef, undef, undef, undef, undef, undef, undef, undef, undef, undef, undef, undef, undef, undef, undef, undef, undef, undef, undef, undef, undef, undef, undef, undef, undef, undef, undef, undef, undef, undef, undef, undef, undef], []⟩, rfl, fun d hd => by cases hd; exact (by decide : 22 < 58), ?_⟩
        have e13 : u 13 = _ := hR 13 (by decide)
        have k0 := keep_cell hI x0
        have k1 := keep_cell hI x1
        have k2 := keep_cell hI x2
        have k3 := keep_cell hI x3
        rw [e13]
        clear e13
        have HI := Lib.hid hI
        have HSt := Lib.hid hst
        clear hI hst hR
        go_wp2_with fail
        refine (sPlain_any a (by omega) _).mono ?_
        rintro e w5 ⟨rfl, b5⟩
        have HS := Lib.hid (facts_stable HSt.out (b5.chg []))
        have HI5 := Lib.hid (HI.out.trans (b5.mono HI.out.size))
        clear b5
        go_wp2
        exact ⟨rfl, _, rfl, ⟨_, rfl, rfl, digits_len a (by omega)⟩, HI5.out, HS.out⟩
      · refine Owes.mk _ rfl rfl (fun _ _ h => by cases h) fun u m w' hm hI hR => ⟨⟨#[undef, undef, undef, undef, undef, undef, undef, undef, undef, undef, undef, undef, undef, undef, undef, undef, undef, undef, undef, u 11, undef, undef, u 14, undef, undef, undef, undef, undef, undef, undef, undef, undef, undef, undef, undef, undef, undef, undef, undef, undef, undef, undef, undef, undef, undef, undef, undef, undef, undef, undef, undef, undef, undef, undef, undef, undef, undef, undef], []⟩, rfl, fun d hd => by cases hd; exact (by decide : 23 < 58), ?_⟩
        have k0 := keep_cell hI x0
        have k1 := keep_cell hI x1
        have k2 := keep_cell hI x2
        have k3 := keep_cell hI x3
        obtain ⟨s_, e_, h_, z_⟩ := hR 11 (by decide)
        obtain ⟨t_, f_, g_, y_⟩ := hR 14 (by decide)
        have y1_ := str_size h_
        have y2_ := str_size g_
        have c_ : ¬ (s_.size + t_.size > 9223372036854775807) := by omega
        have HS := Lib.hid h_
        have HZ := Lib.hid z_
        have HT := Lib.hid g_
        have HY := Lib.hid y_
        rw [e_, f_]
        have HI := Lib.hid hI
        clear hI hst hR e_ f_ h_ g_ z_ y_ y1_ y2_
        go_wp2
        exact ⟨rfl, _, rfl, by rw [HT15.out]; exact add_text HS.out HZ.out HT.out HY.out, HI.out, fun _ _ h => h⟩
      · refine Owes.mk _ rfl rfl (fun _ _ h => by cases h) fun u m w' hm hI hR => ⟨⟨#[undef, undef, undef, undef, undef, undef, undef, undef, undef, undef, undef, undef, undef, undef, undef, undef, undef, undef, undef, undef, undef, undef, undef, u 15, undef, undef, undef, undef, undef, undef, undef, undef, undef, undef, undef, undef, undef, undef, undef, undef, undef, undef, undef, undef, undef, undef, undef, undef, undef, undef, undef, undef, undef, undef, undef, undef, undef, undef], []⟩, rfl, fun d hd => by cases hd; exact (by decide : 24 < 58), ?_⟩
        have k0 := keep_cell hI x0
        have k1 := keep_cell hI x1
        have k2 := keep_cell hI x2
        have k3 := keep_cell hI x3
        obtain ⟨s_, e_, h_, z_⟩ := hR 15 (by decide)
        have y_ := str_size h_
        have c_ : ¬ (s_.size + 1 > 9223372036854775807) := by omega
        have HS := Lib.hid h_
        have HZ := Lib.hid z_
        rw [e_]
        have HI := Lib.hid hI
        clear hI hst hR e_ h_ z_ y_
        go_wp2
        exact ⟨rfl, _, rfl, by rw [HT16.out]; exact add_space HS.out HZ.out, HI.out, fun _ _ h => h⟩
      · refine Owes.mk _ rfl rfl (fun _ _ h => by cases h) fun u m w' hm hI hR => ⟨⟨#[undef, .pointer (some ⟨bx, 0, none⟩), undef, undef, undef, undef, undef, undef, undef, undef, undef, undef, undef, undef, undef, undef, undef, undef, undef, undef, undef, undef, undef, undef, undef, undef, undef, undef, undef, undef, undef, undef, undef, undef, undef, undef, undef, undef, undef, undef, undef, undef, undef, undef, undef, undef, undef, undef, undef, undef, undef, undef, undef, undef, undef, undef, undef, undef], []⟩, rfl, fun d hd => by cases hd; exact (by decide : 25 < 58), ?_⟩
        have k0 := keep_cell hI x0
        have k1 := keep_cell hI x1
        have k2 := keep_cell hI x2
        have k3 := keep_cell hI x3
        have HI := Lib.hid hI
        clear hI hst hR
        go_wp2
        exact ⟨rfl, _, rfl, rfl, HI.out, fun _ _ h => h⟩
      · refine Owes.mk _ rfl rfl (fun _ _ h => by cases h) fun u m w' hm hI hR => ⟨⟨#[undef, undef, undef, undef, undef, undef, undef, undef, undef, undef, undef, undef, undef, undef, undef, undef, undef, undef, undef, undef, undef, undef, undef, undef, undef, u 17, undef, undef, undef, undef, undef, undef, undef, undef, undef, undef, undef, undef, undef, undef, undef, undef, undef, undef, undef, undef, undef, undef, undef, undef, undef, undef, undef, undef, undef, undef, undef, undef], []⟩, rfl, fun d hd => by cases hd; exact (by decide : 26 < 58), ?_⟩
        have e17 : u 17 = _ := hR 17 (by decide)
        have k0 := keep_cell hI x0
        have k1 := keep_cell hI x1
        have k2 := keep_cell hI x2
        have k3 := keep_cell hI x3
        have HI := Lib.hid hI
        clear hI hst hR
        rw [e17]
        clear e17
        go_wp2
        exact ⟨rfl, _, rfl, rfl, HI.out, fun _ _ h => h⟩
      · refine Owes.mk _ rfl rfl (fun _ _ h => by cases h) fun u m w' hm hI hR => ⟨⟨#[undef, undef, undef, undef, undef, undef, undef, undef, undef, undef, undef, undef, undef, undef, undef, undef, undef, undef, undef, undef, undef, undef, undef, undef, undef, undef, u 18, undef, undef, undef, undef, undef, undef, undef, undef, undef, undef, undef, undef, undef, undef, undef, undef, undef, undef, undef, undef, undef, undef, undef, undef, undef, undef, undef, undef, undef, undef, undef], []⟩, rfl, fun d hd => by cases hd; exact (by decide : 27 < 58), ?_⟩
        have e18 : u 18 = _ := hR 18 (by decide)
        have k0 := keep_cell hI x0
        have k1 := keep_cell hI x1
        have k2 := keep_cell hI x2
        have k3 := keep_cell hI x3
        rw [e18]
        clear e18
        have HI := Lib.hid hI
        have HSt := Lib.hid hst
        clear hI hst hR
        go_wp2_with fail
        refine (sPlain_any mq (by omega) _).mono ?_
        rintro e w5 ⟨rfl, b5⟩
        have HS := Lib.hid (facts_stable HSt.out (b5.chg []))
        have HI5 := Lib.hid (HI.out.trans (b5.mono HI.out.size))
        clear b5
        go_wp2
        exact ⟨rfl, _, rfl, ⟨_, rfl, rfl, digits_len mq (by omega)⟩, HI5.out, HS.out⟩
      · refine Owes.mk _ rfl rfl (fun _ _ h => by cases h) fun u m w' hm hI hR => ⟨⟨#[undef, undef, undef, undef, undef, undef, undef, undef, undef, undef, undef, undef, undef, undef, undef, undef, undef, undef, undef, undef, undef, undef, undef, undef, u 16, undef, undef, u 19, undef, undef, undef, undef, undef, undef, undef, undef, undef, undef, undef, undef, undef, undef, undef, undef, undef, undef, undef, undef, undef, undef, undef, undef, undef, undef, undef, undef, undef, undef], []⟩, rfl, fun d hd => by cases hd; exact (by decide : 28 < 58), ?_⟩
        have k0 := keep_cell hI x0
        have k1 := keep_cell hI x1
        have k2 := keep_cell hI x2
        have k3 := keep_cell hI x3
        obtain ⟨s_, e_, h_, z_⟩ := hR 16 (by decide)
        obtain ⟨t_, f_, g_, y_⟩ := hR 19 (by decide)
        have y1_ := str_size h_
        have y2_ := str_size g_
        have c_ : ¬ (s_.size + t_.size > 9223372036854775807) := by omega
        have HS := Lib.hid h_
        have HZ := Lib.hid z_
        have HT := Lib.hid g_
        have HY := Lib.hid y_
        rw [e_, f_]
        have HI := Lib.hid hI
        clear hI hst hR e_ f_ h_ g_ z_ y_ y1_ y2_
        go_wp2
        exact ⟨rfl, _, rfl, by rw [HT20'.out]; exact add_text HS.out HZ.out HT.out HY.out, HI.out, fun _ _ h => h⟩
      · refine Owes.mk _ rfl rfl (fun _ _ h => by cases h) fun u m w' hm hI hR => ⟨⟨#[undef, undef, undef, undef, undef, undef, undef, undef, undef, undef, undef, undef, undef, undef, undef, undef, undef, undef, undef, undef, undef, undef, undef, undef, undef, undef, undef, undef, u 20, undef, undef, undef, undef, undef, undef, undef, undef, undef, undef, undef, undef, undef, undef, undef, undef, undef, undef, undef, undef, undef, undef, undef, undef, undef, undef, undef, undef, undef], []⟩, rfl, fun d hd => by cases hd; exact (by decide : 3 < 58), ?_⟩
        have k0 := keep_cell hI x0
        have k1 := keep_cell hI x1
        have k2 := keep_cell hI x2
        have k3 := keep_cell hI x3
        obtain ⟨s_, e_, h_⟩ := hR 20 (by decide)
        rw [e_]
        have HI := Lib.hid hI
        have HS := Lib.hid h_
        clear hI hst hR e_ h_
        go_wp2
        exact ⟨rfl, _, rfl, ⟨_, rfl, HS.out⟩, HI.out, fun _ _ h => h⟩
    case hend =>
      intro u w' hI hR
      simp only [setAll, List.set_cons_zero, List.set_cons_succ]
      unfold wpList
      obtain ⟨s21, e21, h21, z21⟩ := hR 21 (by decide)
      rw [HT20.out] at h21
      rw [e21]
      have HS21 := Lib.hid h21
      have HBw := Lib.hid hI
      clear hR hI hst e21 h21 z21 x0 x1 x2 x3
      have c4 := keep_cell HBw.out (CS2.out 4 (by decide))
      simp only [List.getElem_toArray, List.getElem_cons_zero, List.getElem_cons_succ] at c4
      obtain ⟨bw, hbw⟩ : ∃ z, z = x.wrap := ⟨_, rfl⟩
      rw [← hbw] at c4
      have HBW := Lib.hid hbw
      have z21 : s21.size ≤ 80 := by
        rw [str_size HS21.out]
        have := head_len HF.out
        rw [List.length_append] at this
        omega
      have hc21 : ¬ (s21.size + 6 > 9223372036854775807) := by omega
      clear hbw
      go_upto_if 30 with fail
      go_cut [3] (fun t wc => ∃ s : ByteArray, t = .string s ∧ s = ⟨(reqHead x ++ rnd x.wrap).toArray⟩ ∧ wc = w')
      case first =>
        cases bw
        · go_wp2_with fail
          go_meet
          case rel => exact ⟨_, rfl, by rw [HS21.out, ← HBW.out]; simp [rnd], rfl⟩
        · go_wp2_with fail
          go_meet
          case rel => exact ⟨_, rfl, by rw [HS21.out, ← HBW.out]; exact ByteArray.mk_append_mk (reqHead x) [32, 114, 111, 117, 110, 100], rfl⟩
      case rest =>
        obtain ⟨s3, rfl, hs3, rfl⟩ := hcut
        obtain ⟨T0, hT0⟩ : ∃ z, z = reqHead x ++ rnd x.wrap := ⟨_, rfl⟩
        rw [← hT0] at hs3
        have HS3 := Lib.hid hs3
        have HT0 := Lib.hid hT0
        have HT0L : Hid (T0.length ≤ 80) := Lib.hid (by rw [hT0]; exact head_len HF.out)
        have hzl : (x.data.zip x.lanes).length = dn := by rw [List.length_zip, HF.out.lanes, Nat.min_self]; exact hn.out
        have HZL := Lib.hid hzl
        have hdn4 : dn ≤ 4 := by have := HF.out.len; have := hn.out; omega
        have hln : ln = dn := by have := HF.out.lanes; have := hn.out; have := hm.out; omega
        obtain ⟨W3, hW3⟩ : ∃ z, z = wc := ⟨_, rfl⟩
        rw [← hW3] at HBw
        rw [← hW3]
        have G03 := Lib.hid (SlR.below intR_fits G02.out HBw.out)
        have G13 := Lib.hid (SlR.below intR_fits G12.out HBw.out)
        have C5 := Lib.hid (keep_cell HBw.out (CS2.out 5 (by decide)))
        have C6 := Lib.hid (keep_cell HBw.out (CS2.out 6 (by decide)))
        have B3 := Lib.hid (B2.out.trans (HBw.out.mono B2.out.size))
        clear hs3 hT0 hzl hW3 c4 hc21 z21 HBw HS21 G02 G12 CS2 HBW
        go_wp2_with fail
        go_loopw [3, 4] (fun t i wr => ∃ (k : Nat) (s : ByteArray), k ≤ dn ∧ i = .int .i64 (k : Int) ∧ t = .string s ∧ s = ⟨(T0 ++ prs ((x.data.zip x.lanes).take k)).toArray⟩ ∧ Below W3.heap.size W3 wr) (fun _ i _ => dn - (intOf i).toNat)
        case atStart => exact ⟨0, s3, Nat.zero_le _, rfl, rfl, by rw [HS3.out]; simp [prs], Below.refl _ _⟩
        case round =>
          obtain ⟨k, s, hk, rfl, rfl, hs, hb⟩ := hrel
          obtain ⟨T, hT⟩ : ∃ z, z = T0 ++ prs ((x.data.zip x.lanes).take k) := ⟨_, rfl⟩
          rw [← hT] at hs
          have hTl : T.length ≤ 250 := by
            rw [hT, List.length_append]
            have h1 := prs_len ((x.data.zip x.lanes).take k) (fun p hp => by
              have h2 := List.mem_of_mem_take hp
              have h3 := HF.out.dat _ (List.of_mem_zip (a := p.1) (b := p.2) h2).1
              have h4 := HF.out.lan _ (List.of_mem_zip (a := p.1) (b := p.2) h2).2
              omega)
            have h2 : ((x.data.zip x.lanes).take k).length ≤ 4 := by rw [List.length_take]; omega
            have := HT0L.out
            omega
          have HS := Lib.hid hs
          have HB := Lib.hid hb
          have HT := Lib.hid hT
          have HTL := Lib.hid hTl
          have HSZ : Hid (s.size ≤ 250) := Lib.hid (by rw [str_size hs]; exact hTl)
          have c5 := keep_cell hb C5.out
          have c6 := keep_cell hb C6.out
          simp only [List.getElem_toArray, List.getElem_cons_zero, List.getElem_cons_succ] at c5 c6
          clear hs hb hT hTl
          by_cases hlt : k < dn
          · have hlti : (k : Int) < (dn : Int) := by omega
            have hltl : (k : Int) < (ln : Int) := by omega
            obtain ⟨_, _, _, e, _, _, _, _, r⟩ := G03.out.opened
            cases e
            obtain ⟨_, _, _, e, _, _, _, _, r'⟩ := G13.out.opened
            cases e
            obtain ⟨i1, bd, od, f1, cs1, rfl, hbd, _, _, hR1, e1⟩ := r k hlt
            obtain ⟨rfl, rfl⟩ := hR1
            obtain ⟨i2, bl, ol, f2, cs2, rfl, hbl, _, _, hR2, e2⟩ := r' k (by omega)
            obtain ⟨rfl, rfl⟩ := hR2
            have d1 := (HB.out.cell (p := ⟨bd, od + k * 1 + 0, none⟩) hbd).trans (e1 0 (by simp))
            have d2 := (HB.out.cell (p := ⟨bl, ol + k * 1 + 0, none⟩) hbl).trans (e2 0 (by simp))
            simp only [Nat.mul_one, Nat.add_zero, List.getElem_cons_zero] at d1 d2
            obtain ⟨z1, hz1⟩ : ∃ z, z = x.data[k] := ⟨_, rfl⟩
            obtain ⟨z2, hz2⟩ : ∃ z, z = x.lanes[k] := ⟨_, rfl⟩
            rw [← hz1] at d1
            rw [← hz2] at d2
            have hr1 : 0 ≤ z1 ∧ z1 ≤ 65535 := by rw [hz1]; exact HF.out.dat _ (List.getElem_mem i1)
            have hr2 : 0 ≤ z2 ∧ z2 ≤ 3 := by rw [hz2]; exact HF.out.lan _ (List.getElem_mem i2)
            obtain ⟨n1, rfl⟩ := Int.eq_ofNat_of_zero_le hr1.1
            obtain ⟨n2, rfl⟩ := Int.eq_ofNat_of_zero_le hr2.1
            have hzk : (x.data.zip x.lanes)[k]'(by rw [HZL.out]; exact hlt) = ((n1 : Int), (n2 : Int)) := by rw [List.getElem_zip, ← hz1, ← hz2]
            obtain ⟨U1, hu1⟩ : ∃ z, z = T ++ [32] := ⟨_, rfl⟩
            obtain ⟨U8, hu8⟩ : ∃ z, z = U1 ++ Lib.decDigits n1 := ⟨_, rfl⟩
            obtain ⟨U9, hu9⟩ : ∃ z, z = U8 ++ [32] := ⟨_, rfl⟩
            obtain ⟨U16, hu16⟩ : ∃ z, z = U9 ++ Lib.decDigits n2 := ⟨_, rfl⟩
            have HU : Hid (U16 = T0 ++ prs ((x.data.zip x.lanes).take (k + 1))) := Lib.hid (by
              rw [hu16, hu9, hu8, hu1, HT.out, prs_take (by rw [HZL.out]; exact hlt), hzk]
              simp [tk])
            have HU1 := Lib.hid hu1
            have HU8 := Lib.hid hu8
            have HU9 := Lib.hid hu9
            have HU16 := Lib.hid hu16
            clear e1 e2 hz1 hz2 r r' hzk hu1 hu8 hu9 hu16
            go_wp2_with fail
            have hst : ∀ F, F ∈ [FEq (.string s), FStr U1 251, FEq (.pointer (some ⟨bx, 5, none⟩)), FEq (.slice (some ⟨bd, od, none⟩) dn dc), FEq (.int .i64 (k : Int)), FEq (.pointer (some ⟨bd, od + k, none⟩)), FEq (.int .i64 (n1 : Int)), FStr (Lib.decDigits n1) 20, FStr U8 271, FStr U9 272, FEq (.pointer (some ⟨bx, 6, none⟩)), FEq (.slice (some ⟨bl, ol, none⟩) ln lc), FEq (.int .i64 (k : Int)), FEq (.pointer (some ⟨bl, ol + k, none⟩)), FEq (.int .i64 (n2 : Int)), FStr (Lib.decDigits n2) 20, FStr U16 292, FStr U16 292] → Stable [] F := by
              simp only [List.forall_mem_cons]
              exact ⟨stEq _ _, stStr _ _, stEq _ _, stEq _ _, stEq _ _, stEq _ _, stEq _ _, stStr _ _, stStr _ _, stStr _ _, stEq _ _, stEq _ _, stEq _ _, stEq _ _, stEq _ _, stStr _ _, stStr _ _, stStr _ _, fun _ h => by simp at h⟩
            refine wp_region_tail (by kernel_rfl) (fun i => ([[], [0], [], [2], [], [2, 3, 4], [2, 3, 4, 5], [2, 3, 4, 5, 6], [0, 1, 2, 3, 4, 5, 6, 7], [0, 1, 2, 3, 4, 5, 6, 7, 8], [], [10], [], [10, 11, 12], [10, 11, 12, 13], [2, 3, 4, 5, 6, 7, 10, 11, 12, 13, 14], [0, 1, 2, 3, 4, 5, 6, 7, 8, 9, 10, 11, 12, 13, 14, 15], [0, 1, 2, 3, 4, 5, 6, 7, 8, 9, 10, 11, 12, 13, 14, 15, 16]] : List (List Nat)).getD i []) (facts [FEq (.string s), FStr U1 251, FEq (.pointer (some ⟨bx, 5, none⟩)), FEq (.slice (some ⟨bd, od, none⟩) dn dc), FEq (.int .i64 (k : Int)), FEq (.pointer (some ⟨bd, od + k, none⟩)), FEq (.int .i64 (n1 : Int)), FStr (Lib.decDigits n1) 20, FStr U8 271, FStr U9 272, FEq (.pointer (some ⟨bx, 6, none⟩)), FEq (.slice (some ⟨bl, ol, none⟩) ln lc), FEq (.int .i64 (k : Int)), FEq (.pointer (some ⟨bl, ol + k, none⟩)), FEq (.int .i64 (n2 : Int)), FStr (Lib.decDigits n2) 20, FStr U16 292, FStr U16 292]) (fun m w' => Below wr.heap.size wr w') 58 18 18 [some 40, some 41, some 42, some 43, some 44, some 45, some 46, some 47, some 48, some 49, some 50, some 51, some 52, some 53, some 54, some 55, some 56, some 3] [] rfl rfl (by decide) rfl rfl (by kernel_rfl) (by kernel_rfl) [] (by kernel_rfl) (fun g b hm v w h => by simp at hm) ?h0 (all_lt (n := 18) ?hop) ?hend
            case h0 => exact (Below.refl _ _).drew
            case hop =>
              refine ⟨⟨⟨⟨⟨⟨⟨⟨⟨⟨⟨⟨⟨⟨⟨⟨⟨⟨trivial, ?_⟩, ?_⟩, ?_⟩, ?_⟩, ?_⟩, ?_⟩, ?_⟩, ?_⟩, ?_⟩, ?_⟩, ?_⟩, ?_⟩, ?_⟩, ?_⟩, ?_⟩, ?_⟩, ?_⟩, ?_⟩
              · refine Owes.mk _ rfl rfl (fun _ _ h => by cases h) fun u m w' hm hI hR => ⟨⟨#[undef, undef, undef, .string s, undef, undef, undef, undef, undef, undef, undef, undef, undef, undef, undef, undef, undef, undef, undef, undef, undef, undef, undef, undef, undef, undef, undef, undef, undef, undef, undef, undef, undef, undef, undef, undef, undef, undef, undef, undef, undef, undef, undef, undef, undef, undef, undef, undef, undef, undef, undef, undef, undef, undef, undef, undef, undef, undef], []⟩, rfl, fun d hd => by cases hd; exact (by decide : 40 < 58), ?_⟩
                have k0 := keep_cell hI c5
                have k1 := keep_cell hI c6
                have k2 := keep_cell hI d1
                have k3 := keep_cell hI d2
                have HI := Lib.hid hI
                clear hI hst hR
                go_wp2
                exact ⟨rfl, _, rfl, rfl, HI.out, fun _ _ h => h⟩
              · refine Owes.mk _ rfl rfl (fun _ _ h => by cases h) fun u m w' hm hI hR => ⟨⟨#[undef, undef, undef, undef, undef, undef, undef, undef, undef, undef, undef, undef, undef, undef, undef, undef, undef, undef, undef, undef, undef, undef, undef, undef, undef, undef, undef, undef, undef, undef, undef, undef, undef, undef, undef, undef, undef, undef, undef, undef, u 0, undef, undef, undef, undef, undef, undef, undef, undef, undef, undef, undef, undef, undef, undef, undef, undef, undef], []⟩, rfl, fun d hd => by cases hd; exact (by decide : 41 < 58), ?_⟩
                have e0 : u 0 = _ := hR 0 (by decide)
                have k0 := keep_cell hI c5
                have k1 := keep_cell hI c6
                have k2 := keep_cell hI d1
                have k3 := keep_cell hI d2
                rw [e0]
                clear e0
                have HI := Lib.hid hI
                clear hI hst hR
                have y_ := HSZ.out
                have c_ : ¬ (s.size + 1 > 9223372036854775807) := by omega
                clear y_
                go_wp2
                exact ⟨rfl, _, rfl, by rw [HU1.out]; exact add_space HS.out HTL.out, HI.out, fun _ _ h => h⟩
              · refine Owes.mk _ rfl rfl (fun _ _ h => by cases h) fun u m w' hm hI hR => ⟨⟨#[undef, .pointer (some ⟨bx, 0, none⟩), undef, undef, undef, undef, undef, undef, undef, undef, undef, undef, undef, undef, undef, undef, undef, undef, undef, undef, undef, undef, undef, undef, undef, undef, undef, undef, undef, undef, undef, undef, undef, undef, undef, undef, undef, undef, undef, undef, undef, undef, undef, undef, undef, undef, undef, undef, undef, undef, undef, undef, undef, undef, undef, undef, undef, undef], []⟩, rfl, fun d hd => by cases hd; exact (by decide : 42 < 58), ?_⟩
                have k0 := keep_cell hI c5
                have k1 := keep_cell hI c6
                have k2 := keep_cell hI d1
                have k3 := keep_cell hI d2
                have HI := Lib.hid hI
                clear hI hst hR
                go_wp2
                exact ⟨rfl, _, rfl, rfl, HI.out, fun _ _ h => h⟩
              · refine Owes.mk _ rfl rfl (fun _ _ h => by cases h) fun u m w' hm hI hR => ⟨⟨#[undef, undef, undef, undef, undef, undef, undef, undef, undef, undef, undef, undef, undef, undef, undef, undef, undef, undef, undef, undef, undef, undef, undef, undef, undef, undef, undef, undef, undef, undef, undef, undef, undef, undef, undef, undef, undef, undef, undef, undef, undef, undef, u 2, undef, undef, undef, undef, undef, undef, undef, undef, undef, undef, undef, undef, undef, undef, undef], []⟩, rfl, fun d hd => by cases hd; exact (by decide : 43 < 58), ?_⟩
                have e2 : u 2 = _ := hR 2 (by decide)
                have k0 := keep_cell hI c5
                have k1 := keep_cell hI c6
                have k2 := keep_cell hI d1
                have k3 := keep_cell hI d2
                have HI := Lib.hid hI
                clear hI hst hR
                rw [e2]
                clear e2
                go_wp2
                exact ⟨rfl, _, rfl, rfl, HI.out, fun _ _ h => h⟩
              · refine Owes.mk _ rfl rfl (fun _ _ h => by cases h) fun u m w' hm hI hR => ⟨⟨#[undef, undef, undef, undef, .int .i64 (k : Int), undef, undef, undef, undef, undef, undef, undef, undef, undef, undef, undef, undef, undef, undef, undef, undef, undef, undef, undef, undef, undef, undef, undef, undef, undef, undef, undef, undef, undef, undef, undef, undef, undef, undef, undef, undef, undef, undef, undef, undef, undef, undef, undef, undef, undef, undef, undef, undef, undef, undef, undef, undef, undef], []⟩, rfl, fun d hd => by cases hd; exact (by decide : 44 < 58), ?_⟩
                have k0 := keep_cell hI c5
                have k1 := keep_cell hI c6
                have k2 := keep_cell hI d1
                have k3 := keep_cell hI d2
                have HI := Lib.hid hI
                clear hI hst hR
                go_wp2
                exact ⟨rfl, _, rfl, rfl, HI.out, fun _ _ h => h⟩
              · refine Owes.mk _ rfl rfl (fun _ _ h => by cases h) fun u m w' hm hI hR => ⟨⟨#[undef, undef, undef, undef, undef, undef, undef, undef, undef, undef, undef, undef, undef, undef, undef, undef, undef, undef, undef, undef, undef, undef, undef, undef, undef, undef, undef, undef, undef, undef, undef, undef, undef, undef, undef, undef, undef, undef, undef, undef, undef, undef, undef, u 3, u 4, undef, undef, undef, undef, undef, undef, undef, undef, undef, undef, undef, undef, undef], []⟩, rfl, fun d hd => by cases hd; exact (by decide : 45 < 58), ?_⟩
                have e3 : u 3 = _ := hR 3 (by decide)
                have e4 : u 4 = _ := hR 4 (by decide)
                have k0 := keep_cell hI c5
                have k1 := keep_cell hI c6
                have k2 := keep_cell hI d1
                have k3 := keep_cell hI d2
                have HI := Lib.hid hI
                clear hI hst hR
                rw [e3, e4]
                clear e3 e4
                go_wp2
                exact ⟨rfl, _, rfl, rfl, HI.out, fun _ _ h => h⟩
              · refine Owes.mk _ rfl rfl (fun _ _ h => by cases h) fun u m w' hm hI hR => ⟨⟨#[undef, undef, undef, undef, undef, undef, undef, undef, undef, undef, undef, undef, undef, undef, undef, undef, undef, undef, undef, undef, undef, undef, undef, undef, undef, undef, undef, undef, undef, undef, undef, undef, undef, undef, undef, undef, undef, undef, undef, undef, undef, undef, undef, undef, undef, u 5, undef, undef, undef, undef, undef, undef, undef, undef, undef, undef, undef, undef], []⟩, rfl, fun d hd => by cases hd; exact (by decide : 46 < 58), ?_⟩
                have e5 : u 5 = _ := hR 5 (by decide)
                have k0 := keep_cell hI c5
                have k1 := keep_cell hI c6
                have k2 := keep_cell hI d1
                have k3 := keep_cell hI d2
                have HI := Lib.hid hI
                clear hI hst hR
                rw [e5]
                clear e5
                go_wp2
                exact ⟨rfl, _, rfl, rfl, HI.out, fun _ _ h => h⟩
              · refine Owes.mk _ rfl rfl (fun _ _ h => by cases h) fun u m w' hm hI hR => ⟨⟨#[undef, undef, undef, undef, undef, undef, undef, undef, undef, undef, undef, undef, undef, undef, undef, undef, undef, undef, undef, undef, undef, undef, undef, undef, undef, undef, undef, undef, undef, undef, undef, undef, undef, undef, undef, undef, undef, undef, undef, undef, undef, undef, undef, undef, undef, undef, u 6, undef, undef, undef, undef, undef, undef, undef, undef, undef, undef, undef], []⟩, rfl, fun d hd => by cases hd; exact (by decide : 47 < 58), ?_⟩
                have e6 : u 6 = _ := hR 6 (by decide)
                have k0 := keep_cell hI c5
                have k1 := keep_cell hI c6
                have k2 := keep_cell hI d1
                have k3 := keep_cell hI d2
                rw [e6]
                clear e6
                have HI := Lib.hid hI
                have HSt := Lib.hid hst
                clear hI hst hR
                go_wp2_with fail
                refine (sPlain_any n1 (by omega) _).mono ?_
                rintro e w5 ⟨rfl, b5⟩
                have HSs := Lib.hid (facts_stable HSt.out (b5.chg []))
                have HI5 := Lib.hid (HI.out.trans (b5.mono HI.out.size))
                clear b5
                go_wp2
                exact ⟨rfl, _, rfl, ⟨_, rfl, rfl, digits_len n1 (by omega)⟩, HI5.out, HSs.out⟩
              · refine Owes.mk _ rfl rfl (fun _ _ h => by cases h) fun u m w' hm hI hR => ⟨⟨#[undef, undef, undef, undef, undef, undef, undef, undef, undef, undef, undef, undef, undef, undef, undef, undef, undef, undef, undef, undef, undef, undef, undef, undef, undef, undef, undef, undef, undef, undef, undef, undef, undef, undef, undef, undef, undef, undef, undef, undef, undef, u 1, undef, undef, undef, undef, undef, u 7, undef, undef, undef, undef, undef, undef, undef, undef, undef, undef], []⟩, rfl, fun d hd => by cases hd; exact (by decide : 48 < 58), ?_⟩
                have k0 := keep_cell hI c5
                have k1 := keep_cell hI c6
                have k2 := keep_cell hI d1
                have k3 := keep_cell hI d2
                obtain ⟨s_, e_, h_, z_⟩ := hR 1 (by decide)
                obtain ⟨t_, f_, g_, y_⟩ := hR 7 (by decide)
                have y1_ := str_size h_
                have y2_ := str_size g_
                have c_ : ¬ (s_.size + t_.size > 9223372036854775807) := by omega
                have HSa := Lib.hid h_
                have HZ := Lib.hid z_
                have HT := Lib.hid g_
                have HY := Lib.hid y_
                rw [e_, f_]
                have HI := Lib.hid hI
                clear hI hst hR e_ f_ h_ g_ z_ y_ y1_ y2_
                go_wp2
                exact ⟨rfl, _, rfl, by rw [HU8.out]; exact add_text HSa.out HZ.out HT.out HY.out, HI.out, fun _ _ h => h⟩
              · refine Owes.mk _ rfl rfl (fun _ _ h => by cases h) fun u m w' hm hI hR => ⟨⟨#[undef, undef, undef, undef, undef, undef, undef, undef, undef, undef, undef, undef, undef, undef, undef, undef, undef, undef, undef, undef, undef, undef, undef, undef, undef, undef, undef, undef, undef, undef, undef, undef, undef, undef, undef, undef, undef, undef, undef, undef, undef, undef, undef, undef, undef, undef, undef, undef, u 8, undef, undef, undef, undef, undef, undef, undef, undef, undef], []⟩, rfl, fun d hd => by cases hd; exact (by decide : 49 < 58), ?_⟩
                have k0 := keep_cell hI c5
                have k1 := keep_cell hI c6
                have k2 := keep_cell hI d1
                have k3 := keep_cell hI d2
                obtain ⟨s_, e_, h_, z_⟩ := hR 8 (by decide)
                have y_ := str_size h_
                have c_ : ¬ (s_.size + 1 > 9223372036854775807) := by omega
                have HSa := Lib.hid h_
                have HZ := Lib.hid z_
                rw [e_]
                have HI := Lib.hid hI
                clear hI hst hR e_ h_ z_ y_
                go_wp2
                exact ⟨rfl, _, rfl, by rw [HU9.out]; exact add_space HSa.out HZ.out, HI.out, fun _ _ h => h⟩
              · refine Owes.mk _ rfl rfl (fun _ _ h => by cases h) fun u m w' hm hI hR => ⟨⟨#[undef, .pointer (some ⟨bx, 0, none⟩), undef, undef, undef, undef, undef, undef, undef, undef, undef, undef, undef, undef, undef, undef, undef, undef, undef, undef, undef, undef, undef, undef, undef, undef, undef, undef, undef, undef, undef, undef, undef, undef, undef, undef, undef, undef, undef, undef, undef, undef, undef, undef, undef, undef, undef, undef, undef, undef, undef, undef, undef, undef, undef, undef, undef, undef], []⟩, rfl, fun d hd => by cases hd; exact (by decide : 50 < 58), ?_⟩
                have k0 := keep_cell hI c5
                have k1 := keep_cell hI c6
                have k2 := keep_cell hI d1
                have k3 := keep_cell hI d2
                have HI := Lib.hid hI
                clear hI hst hR
                go_wp2
                exact ⟨rfl, _, rfl, rfl, HI.out, fun _ _ h => h⟩
              · refine Owes.mk _ rfl rfl (fun _ _ h => by cases h) fun u m w' hm hI hR => ⟨⟨#[undef, undef, undef, undef, undef, undef, undef, undef, undef, undef, undef, undef, undef, undef, undef, undef, undef, undef, undef, undef, undef, undef, undef, undef, undef, undef, undef, undef, undef, undef, undef, undef, undef, undef, undef, undef, undef, undef, undef, undef, undef, undef, undef, undef, undef, undef, undef, undef, undef, undef, u 10, undef, undef, undef, undef, undef, undef, undef], []⟩, rfl, fun d hd => by cases hd; exact (by decide : 51 < 58), ?_⟩
                have e10 : u 10 = _ := hR 10 (by decide)
                have k0 := keep_cell hI c5
                have k1 := keep_cell hI c6
                have k2 := keep_cell hI d1
                have k3 := keep_cell hI d2
                have HI := Lib.hid hI
                clear hI hst hR
                rw [e10]
                clear e10
                go_wp2
                exact ⟨rfl, _, rfl, rfl, HI.out, fun _ _ h => h⟩
              · refine Owes.mk _ rfl rfl (fun _ _ h => by cases h) fun u m w' hm hI hR => ⟨⟨#[undef, undef, undef, undef, .int .i64 (k : Int), undef, undef, undef, undef, undef, undef, undef, undef, undef, undef, undef, undef, undef, undef, undef, undef, undef, undef, undef, undef, undef, undef, undef, undef, undef, undef, undef, undef, undef, undef, undef, undef, undef, undef, undef, undef, undef, undef, undef, undef, undef, undef, undef, undef, undef, undef, undef, undef, undef, undef, undef, undef, undef], []⟩, rfl, fun d hd => by cases hd; exact (by decide : 52 < 58), ?_⟩
                have k0 := keep_cell hI c5
                have k1 := keep_cell hI c6
                have k2 := keep_cell hI d1
                have k3 := keep_cell hI d2
                have HI := Lib.hid hI
                clear hI hst hR
                go_wp2
                exact ⟨rfl, _, rfl, rfl, HI.out, fun _ _ h => h⟩
              · refine Owes.mk _ rfl rfl (fun _ _ h => by cases h) fun u m w' hm hI hR => ⟨⟨#[undef, undef, undef, undef, undef, undef, undef, undef, undef, undef, undef, undef, undef, undef, undef, undef, undef, undef, undef, undef, undef, undef, undef, undef, undef, undef, undef, undef, undef, undef, undef, undef, undef, undef, undef, undef, undef, undef, undef, undef, undef, undef, undef, undef, undef, undef, undef, undef, undef, undef, undef, u 11, u 12, undef, undef, undef, undef, undef], []⟩, rfl, fun d hd => by cases hd; exact (by decide : 53 < 58), ?_⟩
                have e11 : u 11 = _ := hR 11 (by decide)
                have e12 : u 12 = _ := hR 12 (by decide)
                have k0 := keep_cell hI c5
                have k1 := keep_cell hI c6
                have k2 := keep_cell hI d1
                have k3 := keep_cell hI d2
                have HI := Lib.hid hI
                clear hI hst hR
                rw [e11, e12]
                clear e11 e12
                go_wp2
                exact ⟨rfl, _, rfl, rfl, HI.out, fun _ _ h => h⟩
              · refine Owes.mk _ rfl rfl (fun _ _ h => by cases h) fun u m w' hm hI hR => ⟨⟨#[undef, undef, undef, undef, undef, undef, undef, undef, undef, undef, undef, undef, undef, undef, undef, undef, undef, undef, undef, undef, undef, undef, undef, undef, undef, undef, undef, undef, undef, undef, undef, undef, undef, undef, undef, undef, undef, undef, undef, undef, undef, undef, undef, undef, undef, undef, undef, undef, undef, undef, undef, undef, undef, u 13, undef, undef, undef, undef], []⟩, rfl, fun d hd => by cases hd; exact (by decide : 54 < 58), ?_⟩
                have e13 : u 13 = _ := hR 13 (by decide)
                have k0 := keep_cell hI c5
                have k1 := keep_cell hI c6
                have k2 := keep_cell hI d1
                have k3 := keep_cell hI d2
                have HI := Lib.hid hI
                clear hI hst hR
                rw [e13]
                clear e13
                go_wp2
                exact ⟨rfl, _, rfl, rfl, HI.out, fun _ _ h => h⟩
              · refine Owes.mk _ rfl rfl (fun _ _ h => by cases h) fun u m w' hm hI hR => ⟨⟨#[undef, undef, undef, undef, undef, undef, undef, undef, undef, undef, undef, undef, undef, undef, undef, undef, undef, undef, undef, undef, undef, undef, undef, undef, undef, undef, undef, undef, undef, undef, undef, undef, undef, undef, undef, undef, undef, undef, undef, undef, undef, undef, undef, undef, undef, undef, undef, undef, undef, undef, undef, undef, undef, undef, u 14, undef, undef, undef], []⟩, rfl, fun d hd => by cases hd; exact (by decide : 55 < 58), ?_⟩
                have e14 : u 14 = _ := hR 14 (by decide)
                have k0 := keep_cell hI c5
                have k1 := keep_cell hI c6
                have k2 := keep_cell hI d1
                have k3 := keep_cell hI d2
                rw [e14]
                clear e14
                have HI := Lib.hid hI
                have HSt := Lib.hid hst
                clear hI hst hR
                go_wp2_with fail
                refine (sPlain_any n2 (by omega) _).mono ?_
                rintro e w5 ⟨rfl, b5⟩
                have HSs := Lib.hid (facts_stable HSt.out (b5.chg []))
                have HI5 := Lib.hid (HI.out.trans (b5.mono HI.out.size))
                clear b5
                go_wp2
                exact ⟨rfl, _, rfl, ⟨_, rfl, rfl, digits_len n2 (by omega)⟩, HI5.out, HSs.out⟩
              · refine Owes.mk _ rfl rfl (fun _ _ h => by cases h) fun u m w' hm hI hR => ⟨⟨#[undef, undef, undef, undef, undef, undef, undef, undef, undef, undef, undef, undef, undef, undef, undef, undef, undef, undef, undef, undef, undef, undef, undef, undef, undef, undef, undef, undef, undef, undef, undef, undef, undef, undef, undef, undef, undef, undef, undef, undef, undef, undef, undef, undef, undef, undef, undef, undef, undef, u 9, undef, undef, undef, undef, undef, u 15, undef, undef], []⟩, rfl, fun d hd => by cases hd; exact (by decide : 56 < 58), ?_⟩
                have k0 := keep_cell hI c5
                have k1 := keep_cell hI c6
                have k2 := keep_cell hI d1
                have k3 := keep_cell hI d2
                obtain ⟨s_, e_, h_, z_⟩ := hR 9 (by decide)
                obtain ⟨t_, f_, g_, y_⟩ := hR 15 (by decide)
                have y1_ := str_size h_
                have y2_ := str_size g_
                have c_ : ¬ (s_.size + t_.size > 9223372036854775807) := by omega
                have HSa := Lib.hid h_
                have HZ := Lib.hid z_
                have HT := Lib.hid g_
                have HY := Lib.hid y_
                rw [e_, f_]
                have HI := Lib.hid hI
                clear hI hst hR e_ f_ h_ g_ z_ y_ y1_ y2_
                go_wp2
                exact ⟨rfl, _, rfl, by rw [HU16.out]; exact add_text HSa.out HZ.out HT.out HY.out, HI.out, fun _ _ h => h⟩
              · refine Owes.mk _ rfl rfl (fun _ _ h => by cases h) fun u m w' hm hI hR => ⟨⟨#[undef, undef, undef, undef, undef, undef, undef, undef, undef, undef, undef, undef, undef, undef, undef, undef, undef, undef, undef, undef, undef, undef, undef, undef, undef, undef, undef, undef, undef, undef, undef, undef, undef, undef, undef, undef, undef, undef, undef, undef, undef, undef, undef, undef, undef, undef, undef, undef, undef, undef, undef, undef, undef, undef, undef, undef, u 16, undef], []⟩, rfl, fun d hd => by cases hd; exact (by decide : 3 < 58), ?_⟩
                have k0 := keep_cell hI c5
                have k1 := keep_cell hI c6
                have k2 := keep_cell hI d1
                have k3 := keep_cell hI d2
                obtain ⟨s_, e_, h_⟩ := hR 16 (by decide)
                rw [e_]
                have HI := Lib.hid hI
                have HSa := Lib.hid h_
                clear hI hst hR e_ h_
                go_wp2
                exact ⟨rfl, _, rfl, ⟨_, rfl, HSa.out⟩, HI.out, fun _ _ h => h⟩
            case hend =>
              intro u w' hI hR
              simp only [setAll, List.set_cons_zero, List.set_cons_succ]
              unfold wpList
              obtain ⟨s17, e17, h17, z17⟩ := hR 17 (by decide)
              rw [HU.out] at h17
              rw [e17]
              have HS17 := Lib.hid h17
              have HBw := Lib.hid (HB.out.trans (hI.mono HB.out.size))
              clear hR hI hst e17 h17 z17 c5 c6 d1 d2
              go_wp2
              go_roundw
              case rel => exact ⟨k + 1, _, by omega, by go_num, rfl, HS17.out, HBw.out⟩
              case measure => simp [intOf]; omega
          · have hnlt : ¬ (k : Int) < (dn : Int) := by omega
            have HKN : Hid (k = (x.data.zip x.lanes).length) := Lib.hid (by rw [HZL.out]; omega)
            go_wp2
            go_ret
            exact ⟨by rw [Q.out, HS.out, HT.out, HT0.out, show (x.data.zip x.lanes).take k = x.data.zip x.lanes from by rw [HKN.out, List.take_length]]; rfl, B3.out.trans (HB.out.mono B3.out.size)⟩

end Go.Proofs.YtaeiddoccfaheaaDoor
