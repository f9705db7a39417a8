/-
 Texts of this claim laid together: BusMark EvMark.
-/
import Derived.Test.YtaeiddoccfaheaaGreatProg
import Derived.Test.YtaeiddoccfaheaaGreatPk04
import Derived.Test.YtaeiddoccfaheaaGreatPk28
import Derived.Test.YtaeiddoccfaheaaGreatPk22
import Derived.Test.YtaeiddoccfaheaaGreatPk48
import Derived.WalkSmall
import Derived.Test.YtaeiddoccfaheaaGreatPk24
import Derived.Test.YtaeiddoccfaheaaGreatPk14
set_option linter.unusedVariables false
set_option linter.unusedSimpArgs false
namespace Go.Proofs.YtaeiddoccfaheaaGreat
open Go.RowKit
theorem all_set {α : Type} {P : α -> Prop} {l : List α} (h : ∀ k (h : k < l.length), P l[k]) (j : Nat) {x : α} (hx : P x) : ∀ k (h : k < (l.set j x).length), P (l.set j x)[k] := by
 intro k hk
 rw [List.getElem_set]
 split
 · exact hx
 · exact h k (by simpa using hk)
set_option maxRecDepth 100000 in
set_option maxHeartbeats 3200000 in
theorem mark_mrs (v : Value) (l : List MR) (fp : List Nat) (k : Int) (h0 : 0 <= k) (h1 : k <= 72057594037927936) (hs : sm_mrs l) (w : World) (g : SlR 4 mrR w l v fp) (f : Free fp w) (hd : fp.Nodup) :
 Calls Tryz.prog 42 #[v, .int .i64 k] w fun e w' => ∃ t : Int, e = .returned (.int .i64 t) ∧ k <= t ∧ t <= k + 4194304 ∧ Chg fp w w' ∧ Free fp w' := by
 obtain ⟨a, n, cap, rfl, hn, hcap, hmax, hcm, r⟩ := g.opened
 have hns : n <= 1048576 := by rw [<- hn.out]; exact hs
 have HD := Lib.hid hd
 have G := Lib.hid g
 have F := Lib.hid f
 clear r g f hs hd
 go_enter Tryz.func42, Tryz.ntmps42
 go_wp2
 go_loopw [1, 5] (fun q i wr => ∃ (j : Nat) (t : Int) (l' : List MR), j <= n ∧ i = .int .i64 j ∧ q = .int .i64 t ∧ k <= t ∧ t <= k + 4 * (j : Int) ∧ SlR 4 mrR wr l' (.slice a n cap) fp ∧ Chg fp w wr ∧ Free fp wr) (fun _ i _ => n - (intOf i).toNat)
 case atStart => exact ⟨0, k, l, Nat.zero_le _, rfl, rfl, Int.le_refl _, by omega, G.out, Chg.refl _ _, F.out⟩
 case round =>
  obtain ⟨j, t, l', hj, rfl, rfl, t0, t1, gi, hc, hf⟩ := hrel
  have HC := Lib.hid hc
  have HF := Lib.hid hf
  by_cases hlt : j < n
  · obtain ⟨i1, b1, o1, f1, cs, rfl, hbm, hb1, hbf, hfn, hff, ⟨rfl, rfl⟩, e1, fin⟩ := SlR.focus mrR_fits gi HD.out hlt
    obtain ⟨y0, c0⟩ : ∃ x, wr.cell? ⟨b1, o1 + j * 4 + 0, none⟩ = some x := ⟨_, e1 0 (by simp)⟩
    obtain ⟨y1, c1⟩ : ∃ x, wr.cell? ⟨b1, o1 + j * 4 + 1, none⟩ = some x := ⟨_, e1 1 (by simp)⟩
    obtain ⟨y2, c2⟩ : ∃ x, wr.cell? ⟨b1, o1 + j * 4 + 2, none⟩ = some x := ⟨_, e1 2 (by simp)⟩
    obtain ⟨y3, c3⟩ : ∃ x, wr.cell? ⟨b1, o1 + j * 4 + 3, none⟩ = some x := ⟨_, e1 3 (by simp)⟩
    have d0 := hf b1 hbm (o1 + j * 4 + 0)
    have d1 := hf b1 hbm (o1 + j * 4 + 1)
    have d2 := hf b1 hbm (o1 + j * 4 + 2)
    have d3 := hf b1 hbm (o1 + j * 4 + 3)
    simp only [Nat.add_zero] at c0 d0
    have FI := Lib.hid fin
    clear gi hc hf hbm hbf hfn hff e1 fin
    go_wp2
    go_roundw
    case rel =>
     obtain ⟨q1, q2, q3⟩ := FI.out [.int .i64 t, .int .i64 (t + 1), .int .i64 (t + 1 + 1), .bool ((t + 1 + 1 + 1) % 3 == 0)] _ ⟨t, t + 1, t + 1 + 1, (t + 1 + 1 + 1) % 3 == 0⟩ (by simp) (Chg.refl _ _) ⟨rfl, rfl⟩ HF.out (fun b hb => by simp at hb)
     exact ⟨j + 1, t + 1 + 1 + 1 + 1, _, by omega, by go_num, by go_num, by omega, by omega, q1, HC.out.trans' q2, q3⟩
    case measure => simp [intOf]; omega
  · clear gi hc hf
    obtain rfl : j = n := by omega
    go_wp2
    go_ret
    exact ⟨t, rfl, t0, by omega, HC.out, HF.out⟩
set_option maxRecDepth 100000 in
set_option maxHeartbeats 3200000 in
theorem mark_reqs (v : Value) (l : List Req) (fp : List Nat) (k : Int) (h0 : 0 <= k) (h1 : k <= 3458764513820540928) (hs : sm_reqs l) (w : World) (g : SlR 7 reqR w l v fp) (f : Free fp w) (hd : fp.Nodup) :
 Calls Tryz.prog 79 #[v, .int .i64 k] w fun e w' => ∃ (t : Int) (l' : List Req), e = .returned (.int .i64 t) ∧ k <= t ∧ t <= k + 2199028498432 ∧ SlR 7 reqR w' l' v fp ∧ sm_reqs l' ∧ Chg fp w w' ∧ Free fp w' := by
 obtain ⟨a, n, cap, rfl, hn, hcap, hmax, hcm, r⟩ := g.opened
 have hns : n <= 1048576 := by rw [<- hn.out]; exact hs.1
 have HD := Lib.hid hd
 have G := Lib.hid g
 have F := Lib.hid f
 have HS := Lib.hid hs
 clear r g f hs hd
 go_enter Tryz.func79, Tryz.ntmps79
 go_wp2
 go_loopw [1, 5] (fun q i wr => ∃ (j : Nat) (t : Int) (l' : List Req), j <= n ∧ i = .int .i64 j ∧ q = .int .i64 t ∧ k <= t ∧ t <= k + 2097157 * (j : Int) ∧ Hid (sm_reqs l') ∧ SlR 7 reqR wr l' (.slice a n cap) fp ∧ Chg fp w wr ∧ Free fp wr) (fun _ i _ => n - (intOf i).toNat)
 case atStart => exact ⟨0, k, l, Nat.zero_le _, rfl, rfl, Int.le_refl _, by omega, HS, G.out, Chg.refl _ _, F.out⟩
 case round =>
  obtain ⟨j, t, l', hj, rfl, rfl, t0, t1, SM, gi, hc, hf⟩ := hrel
  have HC := Lib.hid hc
  have HF := Lib.hid hf
  by_cases hlt : j < n
  · obtain ⟨i1, b1, o1, f1, cs, rfl, hbm, hb1, hbf, hfn, hff, ⟨dv, lv, df, lf, rfl, rfl, hdv, hlv⟩, e1, fin⟩ := SlR.focus reqR_fits gi HD.out hlt
    have hsm := SM.out.2 j i1
    obtain ⟨x, hx⟩ : ∃ z, z = l'[j] := ⟨_, rfl⟩
    rw [<- hx] at hdv hlv hsm
    obtain ⟨da, dn, dc, rfl⟩ := hdv.form
    obtain ⟨la, ln, lc, rfl⟩ := hlv.form
    obtain ⟨y0, c0⟩ : ∃ x, wr.cell? ⟨b1, o1 + j * 7 + 0, none⟩ = some x := ⟨_, e1 0 (by simp)⟩
    obtain ⟨y1, c1⟩ : ∃ x, wr.cell? ⟨b1, o1 + j * 7 + 1, none⟩ = some x := ⟨_, e1 1 (by simp)⟩
    obtain ⟨y2, c2⟩ : ∃ x, wr.cell? ⟨b1, o1 + j * 7 + 2, none⟩ = some x := ⟨_, e1 2 (by simp)⟩
    obtain ⟨y3, c3⟩ : ∃ x, wr.cell? ⟨b1, o1 + j * 7 + 3, none⟩ = some x := ⟨_, e1 3 (by simp)⟩
    obtain ⟨y4, c4⟩ : ∃ x, wr.cell? ⟨b1, o1 + j * 7 + 4, none⟩ = some x := ⟨_, e1 4 (by simp)⟩
    have c5 : wr.cell? ⟨b1, o1 + j * 7 + 5, none⟩ = some (.slice da dn dc) := e1 5 (by simp)
    have c6 : wr.cell? ⟨b1, o1 + j * 7 + 6, none⟩ = some (.slice la ln lc) := e1 6 (by simp)
    have d0 := hf b1 hbm (o1 + j * 7 + 0)
    have d1 := hf b1 hbm (o1 + j * 7 + 1)
    have d2 := hf b1 hbm (o1 + j * 7 + 2)
    have d3 := hf b1 hbm (o1 + j * 7 + 3)
    have d4 := hf b1 hbm (o1 + j * 7 + 4)
    simp only [Nat.add_zero] at c0 d0
    have hb := cnt_ints_in hsm.1
    obtain ⟨c, hcc⟩ : ∃ c, c = cnt_ints x.data := ⟨_, rfl⟩
    rw [<- hcc] at hb
    have lc0 := hb.1
    have uc0 := hb.2
    have HCC := Lib.hid hcc
    have hb' := cnt_ints_in hsm.2
    obtain ⟨c', hcc'⟩ : ∃ c, c = cnt_ints x.lanes := ⟨_, rfl⟩
    rw [<- hcc'] at hb'
    have lc1 := hb'.1
    have uc1 := hb'.2
    have HCC' := Lib.hid hcc'
    obtain ⟨V, hV⟩ : ∃ V : List Value, V = [.int .i64 t, .int .i64 (t + 1), .int .i64 (t + 1 + 1), .int .i64 (t + 1 + 1 + 1), .bool ((t + 1 + 1 + 1 + 1) % 3 == 0)] := ⟨_, rfl⟩
    have hVl : V.length = 5 := by rw [hV]; rfl
    have W1 : Hid (SlR 1 intR (putCells b1 wr (o1 + j * 7) V) x.data (.slice da dn dc) df) := Lib.hid (hdv.same intR_fits (fun b hb => putCells_block (fun e => hbf (by rw [<- e]; simp [hb])) _ _ _) (by rw [putCells_size]; exact Nat.le_refl _))
    have W2 : Hid (SlR 1 intR (putCells b1 wr (o1 + j * 7) V) x.lanes (.slice la ln lc) lf) := Lib.hid (hlv.same intR_fits (fun b hb => putCells_block (fun e => hbf (by rw [<- e]; simp [hb])) _ _ _) (by rw [putCells_size]; exact Nat.le_refl _))
    have F1 : Hid (Free df (putCells b1 wr (o1 + j * 7) V)) := Lib.hid (putCells_free _ _ _ (fun b hb => hf b (hff b (by simp [hb]))))
    have F2 : Hid (Free lf (putCells b1 wr (o1 + j * 7) V)) := Lib.hid (putCells_free _ _ _ (fun b hb => hf b (hff b (by simp [hb]))))
    have C6 : Hid ((putCells b1 wr (o1 + j * 7) V).cell? ⟨b1, o1 + j * 7 + 6, none⟩ = some (.slice la ln lc)) := Lib.hid ((putCells_out _ _ _ _ (.inr (by rw [hVl]; omega))).trans c6)
    have L1 : Hid (∀ b, b ∈ df -> b < (putCells b1 wr (o1 + j * 7) V).heap.size) := Lib.hid (W1.out.lt intR_fits)
    have L2 : Hid (∀ b, b ∈ lf -> b < (putCells b1 wr (o1 + j * 7) V).heap.size) := Lib.hid (W2.out.lt intR_fits)
    rw [hV] at W1 W2 F1 F2 C6 L1 L2
    have DJ : Hid (∀ b, b ∈ lf -> b ∉ df) := Lib.hid (fun b hb hb' => (List.nodup_append.1 hfn).2.2 b hb' b hb rfl)
    have NB : Hid (b1 ∉ df) := Lib.hid (fun hm => hbf (by simp [hm]))
    have FI := Lib.hid fin
    have SMX := Lib.hid hsm
    clear gi hc hf hbm hbf hfn hff e1 fin hdv hlv hb hb' hcc hcc' hx hV hVl hsm
    go_wp2_with fail
    refine (mark_ints (.slice da dn dc) x.data df (t + 1 + 1 + 1 + 1 + 1) (by omega) (by omega) SMX.out.1 _ W1.out F1.out).mono ?_
    rw [<- HCC.out]
    rintro e w2 ⟨rfl, mg, ch, fr⟩
    have c6' := keep_cell_chg ch C6.out NB.out
    have G2 := Lib.hid (W2.out.chg intR_fits ch DJ.out)
    have FR2 := Lib.hid (F2.out.chg L2.out ch DJ.out)
    have MG := Lib.hid mg
    have CH := Lib.hid ch
    have FR := Lib.hid fr
    have DL := Lib.hid (mg.lt intR_fits)
    clear mg ch fr W1 W2 F1 F2 C6 c0 c1 c2 c3 c4 c5 c6 d0 d1 d2 d3 d4
    go_wp2_with fail
    refine (mark_ints (.slice la ln lc) x.lanes lf (t + 1 + 1 + 1 + 1 + 1 + c) (by omega) (by omega) SMX.out.2 _ G2.out FR2.out).mono ?_
    rw [<- HCC'.out]
    rintro e w3 ⟨rfl, mg, ch, fr⟩
    have DJ' : ∀ b, b ∈ df -> b ∉ lf := fun b hb hb' => DJ.out b hb' hb
    have FN := Lib.hid (FI.out [.int .i64 t, .int .i64 (t + 1), .int .i64 (t + 1 + 1), .int .i64 (t + 1 + 1 + 1), .bool ((t + 1 + 1 + 1 + 1) % 3 == 0)] w3 ⟨t, t + 1, t + 1 + 1, t + 1 + 1 + 1, (t + 1 + 1 + 1 + 1) % 3 == 0, mk_ints (t + 1 + 1 + 1 + 1 + 1) x.data, mk_ints (t + 1 + 1 + 1 + 1 + 1 + c) x.lanes⟩ (by simp)
     (CH.out.trans ch) ⟨.slice da dn dc, .slice la ln lc, df, lf, rfl, rfl, MG.out.chg intR_fits ch DJ', mg⟩ HF.out (fun b hb => (List.mem_append.1 hb).elim (FR.out.chg DL.out ch DJ' b) (fr b)))
    have hsx : sm_Req ⟨t, t + 1, t + 1 + 1, t + 1 + 1 + 1, (t + 1 + 1 + 1 + 1) % 3 == 0, mk_ints (t + 1 + 1 + 1 + 1 + 1) x.data, mk_ints (t + 1 + 1 + 1 + 1 + 1 + c) x.lanes⟩ := by
     have h1 := SMX.out.1
     have h2 := SMX.out.2
     unfold sm_ints at h1 h2
     exact ⟨by show (mk_ints _ _).length <= _; simpa [mk_ints, marks] using h1, by show (mk_ints _ _).length <= _; simpa [mk_ints, marks] using h2⟩
    have HSX := Lib.hid hsx
    clear ch fr mg c6' G2 FR2 MG CH FR DL hsx
    go_wp2
    go_roundw
    case rel =>
     obtain ⟨q1, q2, q3⟩ := FN.out
     exact ⟨j + 1, t + 1 + 1 + 1 + 1 + 1 + c + c', _, by omega, by go_num, by go_num, by omega, by omega, Lib.hid ⟨by rw [List.length_set]; exact SM.out.1, all_set SM.out.2 j HSX.out⟩, q1, HC.out.trans' q2, q3⟩
    case measure => simp [intOf]; omega
  · have GI := Lib.hid gi
    clear gi hc hf
    obtain rfl : j = n := by omega
    go_wp2
    go_ret
    exact ⟨t, l', rfl, t0, by omega, GI.out, SM.out, HC.out, HF.out⟩
set_option maxRecDepth 100000 in
set_option maxHeartbeats 3200000 in
theorem mark_reqss (v : Value) (l : List (List Req)) (fp : List Nat) (k : Int) (h0 : 0 <= k) (h1 : k <= 576460752303423488) (hs : sm_reqss l) (w : World) (g : SlR 1 (slR 7 reqR) w l v fp) (f : Free fp w) (hd : fp.Nodup) :
 Calls Tryz.prog 44 #[v, .int .i64 k] w fun e w' => ∃ t : Int, e = .returned (.int .i64 t) ∧ k <= t ∧ t <= k + 2305848507371683840 ∧ Chg fp w w' ∧ Free fp w' := by
 obtain ⟨a, n, cap, rfl, hn, hcap, hmax, hcm, r⟩ := g.opened
 have hns : n <= 1048576 := by rw [<- hn.out]; exact hs.1
 have HD := Lib.hid hd
 have G := Lib.hid g
 have F := Lib.hid f
 have HS := Lib.hid hs
 clear r g f hs hd
 go_enter Tryz.func44, Tryz.ntmps44
 go_wp2
 go_loopw [1, 5] (fun q i wr => ∃ (j : Nat) (t : Int) (l' : List (List Req)), j <= n ∧ i = .int .i64 j ∧ q = .int .i64 t ∧ k <= t ∧ t <= k + 2199028498432 * (j : Int) ∧ Hid (sm_reqss l') ∧ SlR 1 (slR 7 reqR) wr l' (.slice a n cap) fp ∧ Chg fp w wr ∧ Free fp wr) (fun _ i _ => n - (intOf i).toNat)
 case atStart => exact ⟨0, k, l, Nat.zero_le _, rfl, rfl, Int.le_refl _, by omega, HS, G.out, Chg.refl _ _, F.out⟩
 case round =>
  obtain ⟨j, t, l', hj, rfl, rfl, t0, t1, SM, gi, hc, hf⟩ := hrel
  have HC := Lib.hid hc
  have HF := Lib.hid hf
  by_cases hlt : j < n
  · obtain ⟨i1, b1, o1, f1, cs, rfl, hbm, hb1, hbf, hfn, hff, ⟨y, rfl, hy⟩, e1, fin⟩ := SlR.focus (slR_fits reqR_fits) gi HD.out hlt
    obtain ⟨ya, yn, yc, rfl⟩ := hy.form
    have c0 := e1 0 (by simp)
    simp only [Nat.mul_one, Nat.add_zero, List.getElem_cons_zero] at c0
    have FI := Lib.hid fin
    have HY := Lib.hid hy
    have F1 : Hid (Free f1 wr) := Lib.hid (fun b hb => hf b (hff b hb))
    have ON := Lib.hid hfn
    clear gi hc hf hbm hbf hfn hff e1 fin hy
    go_wp2_with fail
    refine (mark_reqs (.slice ya yn yc) l'[j] f1 t (by omega) (by omega) (SM.out.2 j i1) _ HY.out F1.out ON.out).mono ?_
    rintro e w2 ⟨t2, l2, rfl, lo, hi, mg, sm, ch, fr⟩
    have FN := Lib.hid (FI.out [] w2 l2 (by simp) ch ⟨_, rfl, mg⟩ HF.out fr)
    have SM2 := Lib.hid sm
    clear mg sm ch fr c0
    go_wp2
    go_roundw
    case rel =>
     obtain ⟨q1, q2, q3⟩ := FN.out
     exact ⟨j + 1, t2, _, by omega, by go_num, rfl, by omega, by omega, Lib.hid ⟨by rw [List.length_set]; exact SM.out.1, all_set SM.out.2 j SM2.out⟩, q1, HC.out.trans' q2, q3⟩
    case measure => simp [intOf]; omega
  · clear gi hc hf
    obtain rfl : j = n := by omega
    go_wp2
    go_ret
    exact ⟨t, rfl, t0, by omega, HC.out, HF.out⟩
set_option maxRecDepth 100000 in
set_option maxHeartbeats 3200000 in
theorem mark_Bus (x : Bus) (v0 v1 v2 : Value) (fp0 fp1 fp2 : List Nat) (k : Int) (h0 : 0 <= k) (h1 : k <= 1048576) (hs : sm_Bus x) (w : World) (g0 : SlR 4 mrR w x.map v0 fp0) (g1 : SlR 1 intR w x.lat v1 fp1) (g2 : SlR 1 (slR 7 reqR) w x.progs v2 fp2) (f : Free (fp0 ++ fp1 ++ fp2) w) (hd : (fp0 ++ fp1 ++ fp2).Nodup) :
 Calls Tryz.prog 14 #[.agg #[v0, v1, v2], .int .i64 k] w fun e w' => ∃ t : Int, e = .returned (.int .i64 t) ∧ k <= t ∧ t <= 2882303761517117440 ∧ Chg (fp0 ++ fp1 ++ fp2) w w' := by
 have L0 := g0.lt mrR_fits
 have L1 := g1.lt intR_fits
 have L2 := g2.lt (slR_fits reqR_fits)
 have hd2 := List.nodup_append.1 hd
 have hd1 := List.nodup_append.1 hd2.1
 have D01 : Hid (∀ b, b ∈ fp1 -> b ∉ fp0) := Lib.hid (fun b hb hb' => hd1.2.2 b hb' b hb rfl)
 have D02 : Hid (∀ b, b ∈ fp2 -> b ∉ fp0) := Lib.hid (fun b hb hb' => hd2.2.2 b (by simp [hb']) b hb rfl)
 have D12 : Hid (∀ b, b ∈ fp2 -> b ∉ fp1) := Lib.hid (fun b hb hb' => hd2.2.2 b (by simp [hb']) b hb rfl)
 have O0 := Lib.hid hd1.1
 have O2 := Lib.hid hd2.2.1
 obtain ⟨a0, n0, c0, rfl⟩ := g0.form
 obtain ⟨a1, n1, c1, rfl⟩ := g1.form
 obtain ⟨a2, n2, c2, rfl⟩ := g2.form
 have hb := below_alloc w (.cells #[.slice a0 n0 c0, .slice a1 n1 c1, .slice a2 n2 c2] 40)
 have N0 : Hid (w.heap.size ∉ fp0) := Lib.hid (fun hm => by have := L0 _ hm; omega)
 have N1 : Hid (w.heap.size ∉ fp1) := Lib.hid (fun hm => by have := L1 _ hm; omega)
 have M1 : Hid (∀ b, b ∈ fp1 -> b < w.heap.size) := Lib.hid L1
 have M2 : Hid (∀ b, b ∈ fp2 -> b < w.heap.size) := Lib.hid L2
 have G0 := Lib.hid (SlR.below mrR_fits g0 hb)
 have G1 := Lib.hid (SlR.below intR_fits g1 hb)
 have G2 := Lib.hid (SlR.below (slR_fits reqR_fits) g2 hb)
 have F0 : Hid (Free fp0 _) := Lib.hid (Free.below (fun b hm => f b (by simp [hm])) L0 hb)
 have F1 : Hid (Free fp1 _) := Lib.hid (Free.below (fun b hm => f b (by simp [hm])) L1 hb)
 have F2 : Hid (Free fp2 _) := Lib.hid (Free.below (fun b hm => f b (by simp [hm])) L2 hb)
 have K := Lib.hid (hb.chg (fp0 ++ fp1 ++ fp2))
 have HS := Lib.hid hs
 clear g0 g1 g2 f hd hd1 hd2 hs L0 L1 L2 hb
 go_enter Tryz.func14, Tryz.ntmps14
 go_wp2_with fail
 refine (mark_mrs _ x.map fp0 k (by omega) (by omega) HS.out.1 _ G0.out F0.out O0.out).mono ?_
 rintro e w1 ⟨t0, rfl, lo0, hi0, ch, -⟩
 have X1 := keep_cell_chg ch (alloc1_new w _ _ 1 rfl) N0.out
 have X2 := keep_cell_chg ch (alloc1_new w _ _ 2 rfl) N0.out
 have hl1 : ∀ b, b ∈ fp1 -> b < (w.alloc (.cells #[.slice a0 n0 c0, .slice a1 n1 c1, .slice a2 n2 c2] 40)).heap.size := fun b hb => by have := M1.out b hb; simp; omega
 have hl2 : ∀ b, b ∈ fp2 -> b < (w.alloc (.cells #[.slice a0 n0 c0, .slice a1 n1 c1, .slice a2 n2 c2] 40)).heap.size := fun b hb => by have := M2.out b hb; simp; omega
 have G1' := Lib.hid (G1.out.chg intR_fits ch D01.out)
 have G2' := Lib.hid (G2.out.chg (slR_fits reqR_fits) ch D02.out)
 have F1' := Lib.hid (F1.out.chg hl1 ch D01.out)
 have F2' := Lib.hid (F2.out.chg hl2 ch D02.out)
 have K1 := Lib.hid (K.out.trans' (ch.mono (fun b hb => by simp [hb])))
 have M2' : Hid (∀ b, b ∈ fp2 -> b < w1.heap.size) := Lib.hid (fun b hb => Nat.lt_of_lt_of_le (hl2 b hb) ch.size)
 clear ch hl1 hl2 G0 G1 G2 F0 F1 F2 K
 have hb1 := cnt_ints_in HS.out.2.1
 obtain ⟨c, hcc⟩ : ∃ c, c = cnt_ints x.lat := ⟨_, rfl⟩
 rw [<- hcc] at hb1
 have lc0 := hb1.1
 have uc0 := hb1.2
 have HCC := Lib.hid hcc
 clear hb1 hcc
 go_wp2_with fail
 refine (mark_ints _ x.lat fp1 t0 (by omega) (by omega) HS.out.2.1 _ G1'.out F1'.out).mono ?_
 rw [<- HCC.out]
 rintro e w2 ⟨rfl, -, ch, -⟩
 replace X2 := keep_cell_chg ch X2 N1.out
 have G2 := Lib.hid (G2'.out.chg (slR_fits reqR_fits) ch D12.out)
 have F2 := Lib.hid (F2'.out.chg M2'.out ch D12.out)
 have K2 := Lib.hid (K1.out.trans' (ch.mono (fun b hb => by simp [hb])))
 clear ch G1' G2' F1' F2' K1 X1
 go_wp2_with fail
 refine (mark_reqss _ x.progs fp2 (t0 + c) (by omega) (by omega) HS.out.2.2 _ G2.out F2.out O2.out).mono ?_
 rintro e w3 ⟨t, rfl, lo, hi, ch, -⟩
 have K3 := Lib.hid (K2.out.trans' (ch.mono (fun b hb => by simp [hb])))
 clear ch
 go_wp2
 go_ret
 exact ⟨t, rfl, by omega, by omega, K3.out⟩
end Go.Proofs.YtaeiddoccfaheaaGreat
namespace Go.Proofs.YtaeiddoccfaheaaGreat
open Go.RowKit
def EvC (x : Ev) : List Value := [.int .i64 x.kind, .int .i64 x.who, .int .i64 x.n]
theorem EvC_len (x : Ev) : (EvC x).length = 3 := rfl
def el_evs (k : Int) (i : Nat) : Ev := ⟨k + 3 * (i : Int), k + 3 * (i : Int) + 1, k + 3 * (i : Int) + 1 + 1⟩
def mk_evs (k : Int) (l : List Ev) : List Ev := (List.range l.length).map (el_evs k)
def cnt_evs (l : List Ev) : Int := 3 * (l.length : Int)
theorem cnt_evs_in {l : List Ev} (h : sm_evs l) : 0 <= cnt_evs l ∧ cnt_evs l <= 3145728 := by unfold cnt_evs; unfold sm_evs at h; omega
def mix_evs (k : Int) (l : List Ev) (j : Nat) : List Ev := (List.range j).map (el_evs k) ++ l.drop j
theorem mix_evs_zero (k : Int) (l : List Ev) : mix_evs k l 0 = l := by simp [mix_evs]
theorem mix_evs_all (k : Int) (l : List Ev) (j : Nat) (h : l.length = j) : mix_evs k l j = mk_evs k l := by simp [mix_evs, mk_evs, h]
theorem mix_evs_set (k : Int) (l : List Ev) (j : Nat) (h : j < l.length) : (mix_evs k l j).set j (el_evs k j) = mix_evs k l (j + 1) := by
 unfold mix_evs
 rw [List.set_append_right _ _ (by simp), List.drop_eq_getElem_cons h, List.length_map, List.length_range, Nat.sub_self, List.set_cons_zero, List.range_succ, List.map_append, List.append_assoc]
 rfl
set_option maxRecDepth 100000 in
set_option maxHeartbeats 1600000 in
theorem mark_evs (v : Value) (l : List Ev) (fp : List Nat) (k : Int) (h0 : 0 <= k) (h1 : k <= 4611686018427387904) (hs : sm_evs l) (w : World) (g : SlR 3 evR w l v fp) (f : Free fp w) :
 Calls Tryz.prog 15 #[v, .int .i64 k] w fun e w' => e = .returned (.int .i64 (k + cnt_evs l)) ∧ SlR 3 evR w' (mk_evs k l) v fp ∧ Chg fp w w' ∧ Free fp w' := by
 obtain ⟨a, n, cap, rfl, hn, hcap, hmax, hcm, r⟩ := g.opened
 have hns : n <= 1048576 := by rw [<- hn.out]; exact hs
 have G := Lib.hid g
 have F := Lib.hid f
 clear r g f hs
 go_enter Tryz.func15, Tryz.ntmps15
 go_wp2
 go_loopw [1, 5] (fun q i wr => ∃ j : Nat, j <= n ∧ i = .int .i64 j ∧ q = .int .i64 (k + 3 * (j : Int)) ∧ SlR 3 evR wr (mix_evs k l j) (.slice a n cap) fp ∧ Chg fp w wr ∧ Free fp wr) (fun _ i _ => n - (intOf i).toNat)
 case atStart => exact ⟨0, Nat.zero_le _, rfl, by simp, by rw [mix_evs_zero]; exact G.out, Chg.refl _ _, F.out⟩
 case round =>
  obtain ⟨j, hj, rfl, rfl, gi, hc, hf⟩ := hrel
  have GI := Lib.hid gi
  have HC := Lib.hid hc
  have HF := Lib.hid hf
  by_cases hlt : j < n
  · obtain ⟨a', n', cap', e, hn', _, _, _, r⟩ := gi.opened
    simp only [Value.slice.injEq] at e
    obtain ⟨rfl, rfl, rfl⟩ := e
    obtain ⟨i1, b1, o1, f1, cs, rfl, hb1, hbm, _, ⟨rfl, rfl⟩, e1⟩ := r j hlt
    obtain ⟨y0, c0⟩ : ∃ x, wr.cell? ⟨b1, o1 + j * 3 + 0, none⟩ = some x := ⟨_, e1 0 (by simp)⟩
    have d0 := hf b1 hbm (o1 + j * 3 + 0)
    obtain ⟨y1, c1⟩ : ∃ x, wr.cell? ⟨b1, o1 + j * 3 + 1, none⟩ = some x := ⟨_, e1 1 (by simp)⟩
    have d1 := hf b1 hbm (o1 + j * 3 + 1)
    obtain ⟨y2, c2⟩ : ∃ x, wr.cell? ⟨b1, o1 + j * 3 + 2, none⟩ = some x := ⟨_, e1 2 (by simp)⟩
    have d2 := hf b1 hbm (o1 + j * 3 + 2)
    simp only [Nat.add_zero] at c0 d0
    have hin : j < l.length := by rw [hn.out]; exact hlt
    clear r gi hc hf hbm e1
    go_wp2
    go_roundw
    case rel =>
     obtain ⟨t1, t2, t3⟩ := SlR.put EvC_len GI.out rfl hlt (el_evs k j)
     rw [mix_evs_set k l j hin] at t1
     exact ⟨j + 1, by omega, by go_num, by go_num, t1, HC.out.trans' t2, putCells_free (g := b1) (EvC (el_evs k j)) _ (o1 + j * 3) HF.out⟩
    case measure => simp [intOf]; omega
  · clear gi hc hf
    obtain rfl : j = n := by omega
    go_wp2
    go_ret
    exact ⟨ret_int (by unfold cnt_evs; rw [hn.out]), by rw [<- mix_evs_all k l j hn.out]; exact GI.out, HC.out, HF.out⟩
end Go.Proofs.YtaeiddoccfaheaaGreat
