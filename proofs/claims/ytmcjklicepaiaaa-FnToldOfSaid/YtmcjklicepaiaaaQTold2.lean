/-
  What one was told: the reference's ToldOf; copyJobs; the program's ToldOf.
-/
import Derived.Test.YtmcjklicepaiaaaPk26
import Derived.Test.YtmcjklicepaiaaaQFocus
namespace Go.Proofs.Ytmcjklicepaiaaa
set_option linter.unusedVariables false
set_option linter.unusedSimpArgs false
open Go.RowKit Go.ChangeShapes Go.WideShapes

theorem jobR_els {w : World} {x : Job} {cs : List Value} {f : List Nat} (h : jobR w x cs f) : ∃ da dn dc, cs = [.int .i64 x.who, .int .i64 x.n, .int .i64 x.rsp.id, .int .i64 x.rsp.code, .slice da dn dc] ∧ SlR 1 intR w x.rsp.data (.slice da dn dc) f := by
  obtain ⟨dv, df, rfl, rfl, hd⟩ := h
  obtain ⟨da, dn, dc, rfl⟩ := hd.form
  exact ⟨da, dn, dc, rfl, hd⟩

set_option maxRecDepth 100000 in
set_option maxHeartbeats 3200000 in
theorem sToldOf_any (v : Value) (l : List Job) (fp : List Nat) (who : Int) (hs : sm_jobs l) (w : World) (g : SlR 5 jobR w l v fp) :
    Calls Try.prog 34 #[v, .int .i64 who] w fun e w' => ∃ v' fp', e = .returned v' ∧ SlR 5 jobR w' (toldOf l who) v' fp' ∧ New fp' w w' ∧ Below w.heap.size w w' := by
  obtain ⟨a, n, cap, rfl, hn, hcap, hmax, hcm, r⟩ := g.opened
  have hns : n ≤ 1048576 := by rw [← hn.out]; exact hs.1
  have HS := Lib.hid hs
  clear g hs
  obtain ⟨i0, hi, hz0, hz1, hz2⟩ := info_parts info_jobs
  go_enter Try.func34, Try.ntmps34
  go_wp2_with fail
  go_loopw [5, 6] (fun v i wr => ∃ k : Nat, k ≤ n ∧ i = .int .i64 k ∧ OwnE 5 jobR 64 w.heap.size wr v (toldOf (l.take k) who) ∧ Below w.heap.size w wr) (fun _ i _ => n - (intOf i).toNat)
  case atStart => exact ⟨0, Nat.zero_le _, rfl, by simpa [toldOf] using OwnE.lit w (Nat.le_refl _), below_alloc _ _⟩
  case round =>
    obtain ⟨k, hk, rfl, hown, hbel⟩ := hrel
    have hml : (toldOf (l.take k) who).length ≤ 1048576 := by
      have := toldOf_len (l.take k) who
      have := List.length_take_le k l
      omega
    have HO := Lib.hid hown
    have HB := Lib.hid hbel
    clear hown
    by_cases hlt : k < n
    · obtain ⟨i1, b1, o1, f1, cs, rfl, hb1, _, _, hR, e1⟩ := r k hlt
      obtain ⟨da, dn, dc, rfl, hd⟩ := jobR_els hR
      have c0 := (hbel.cell (p := ⟨b1, o1 + k * 5 + 0, none⟩) hb1).trans (e1 0 (by simp))
      have c1 := (hbel.cell (p := ⟨b1, o1 + k * 5 + 1, none⟩) hb1).trans (e1 1 (by simp))
      have c2 := (hbel.cell (p := ⟨b1, o1 + k * 5 + 2, none⟩) hb1).trans (e1 2 (by simp))
      have c3 := (hbel.cell (p := ⟨b1, o1 + k * 5 + 3, none⟩) hb1).trans (e1 3 (by simp))
      have c4 := (hbel.cell (p := ⟨b1, o1 + k * 5 + 4, none⟩) hb1).trans (e1 4 (by simp))
      simp only [Nat.add_zero, List.getElem_cons_zero, List.getElem_cons_succ] at c0 c1 c2 c3 c4
      have GD := Lib.hid (SlR.below intR_fits hd hbel)
      have SD : Hid (l[k].rsp.data.length ≤ 1048576) := Lib.hid (HS.out.2 k i1)
      clear r e1 hbel hd hR
      by_cases hq : l[k].who = who
      · have hq' : (l[k].who == who) = true := by simpa using hq
        have HQ := Lib.hid hq
        clear hq
        go_wp2_with fail
        have hst : ∀ F, F ∈ [FEq (u5), FEq (.slice (some ⟨b1, o1, none⟩) n cap), FEq (.int .i64 (k : Int)), FEq (.pointer (some ⟨b1, o1 + k * 5, none⟩)), FEq (.pointer (some ⟨b1, o1 + k * 5, none⟩)), FEq (.int .i64 l[k].who), FEq (.slice (some ⟨b1, o1, none⟩) n cap), FEq (.int .i64 (k : Int)), FEq (.pointer (some ⟨b1, o1 + k * 5, none⟩)), FEq (.pointer (some ⟨b1, o1 + k * 5 + 1, none⟩)), FEq (.int .i64 l[k].n), FEq (.slice (some ⟨b1, o1, none⟩) n cap), FEq (.int .i64 (k : Int)), FEq (.pointer (some ⟨b1, o1 + k * 5, none⟩)), FEq (.pointer (some ⟨b1, o1 + k * 5 + 2, none⟩)), FEq (.agg #[.int .i64 l[k].rsp.id, .int .i64 l[k].rsp.code, .slice da dn dc]), FRspN wr l[k].rsp, FJobN wr l[k], FEl1 wr jobR l[k]] → Stable [] F := by
          simp only [List.forall_mem_cons]
          exact ⟨stEq _ _, stEq _ _, stEq _ _, stEq _ _, stEq _ _, stEq _ _, stEq _ _, stEq _ _, stEq _ _, stEq _ _, stEq _ _, stEq _ _, stEq _ _, stEq _ _, stEq _ _, stEq _ _, stRspN _ _, stJobN _ _, stEl1 jobR_fits _ _, fun _ h => by simp at h⟩
        refine wp_region_tail (by kernel_rfl) (fun i => ([[], [], [], [1, 2], [1, 2, 3], [1, 2, 3, 4], [], [], [6, 7], [6, 7, 8], [6, 7, 8, 9], [], [], [11, 12], [11, 12, 13], [11, 12, 13, 14], [11, 12, 13, 14, 15], [1, 2, 3, 4, 5, 6, 7, 8, 9, 10, 11, 12, 13, 14, 15, 16], [1, 2, 3, 4, 5, 6, 7, 8, 9, 10, 11, 12, 13, 14, 15, 16, 17], [0, 1, 2, 3, 4, 5, 6, 7, 8, 9, 10, 11, 12, 13, 14, 15, 16, 17, 18], [0, 1, 2, 3, 4, 5, 6, 7, 8, 9, 10, 11, 12, 13, 14, 15, 16, 17, 18, 19]] : List (List Nat)).getD i []) (facts [FEq (u5), FEq (.slice (some ⟨b1, o1, none⟩) n cap), FEq (.int .i64 (k : Int)), FEq (.pointer (some ⟨b1, o1 + k * 5, none⟩)), FEq (.pointer (some ⟨b1, o1 + k * 5, none⟩)), FEq (.int .i64 l[k].who), FEq (.slice (some ⟨b1, o1, none⟩) n cap), FEq (.int .i64 (k : Int)), FEq (.pointer (some ⟨b1, o1 + k * 5, none⟩)), FEq (.pointer (some ⟨b1, o1 + k * 5 + 1, none⟩)), FEq (.int .i64 l[k].n), FEq (.slice (some ⟨b1, o1, none⟩) n cap), FEq (.int .i64 (k : Int)), FEq (.pointer (some ⟨b1, o1 + k * 5, none⟩)), FEq (.pointer (some ⟨b1, o1 + k * 5 + 2, none⟩)), FEq (.agg #[.int .i64 l[k].rsp.id, .int .i64 l[k].rsp.code, .slice da dn dc]), FRspN wr l[k].rsp, FJobN wr l[k], FEl1 wr jobR l[k]]) (fun m w' => Below wr.heap.size wr w') 42 21 19 [some 21, some 22, some 23, some 24, some 25, some 26, some 27, some 28, some 29, some 30, some 31, some 32, some 33, some 34, some 35, some 36, some 37, some 38, some 39] _ rfl rfl (by decide) rfl rfl (by kernel_rfl) (by kernel_rfl) [] (by kernel_rfl) (fun g b hm v w h => by simp at hm) ?h0 (all_lt (n := 19) ?hop) ?hend
        case h0 => exact (Below.refl _ _).drew
        case hop =>
          refine ⟨⟨⟨⟨⟨⟨⟨⟨⟨⟨⟨⟨⟨⟨⟨⟨⟨⟨⟨trivial, ?_⟩, ?_⟩, ?_⟩, ?_⟩, ?_⟩, ?_⟩, ?_⟩, ?_⟩, ?_⟩, ?_⟩, ?_⟩, ?_⟩, ?_⟩, ?_⟩, ?_⟩, ?_⟩, ?_⟩, ?_⟩, ?_⟩
          · refine Owes.mk _ rfl rfl (fun _ _ h => by cases h) fun u m w' hm hI hR => ⟨⟨#[undef, undef, undef, undef, undef, u5, undef, undef, undef, undef, undef, undef, undef, undef, undef, undef, undef, undef, undef, undef, undef, undef, undef, undef, undef, undef, undef, undef, undef, undef, undef, undef, undef, undef, undef, undef, undef, undef, undef, undef, undef, undef], []⟩, rfl, fun d hd => by cases hd; exact (by decide : 21 < 42), ?_⟩
            have k0 := keep_cell hI c0
            have k1 := keep_cell hI c1
            have k2 := keep_cell hI c2
            have k3 := keep_cell hI c3
            have k4 := keep_cell hI c4
            have HI := Lib.hid hI
            clear hI hst hR
            go_wp2
            exact ⟨rfl, _, rfl, rfl, HI.out, fun _ _ h => h⟩
          · refine Owes.mk _ rfl rfl (fun _ _ h => by cases h) fun u m w' hm hI hR => ⟨⟨#[.slice (some ⟨b1, o1, none⟩) n cap, undef, undef, undef, undef, undef, undef, undef, undef, undef, undef, undef, undef, undef, undef, undef, undef, undef, undef, undef, undef, undef, undef, undef, undef, undef, undef, undef, undef, undef, undef, undef, undef, undef, undef, undef, undef, undef, undef, undef, undef, undef], []⟩, rfl, fun d hd => by cases hd; exact (by decide : 22 < 42), ?_⟩
            have k0 := keep_cell hI c0
            have k1 := keep_cell hI c1
            have k2 := keep_cell hI c2
            have k3 := keep_cell hI c3
            have k4 := keep_cell hI c4
            have HI := Lib.hid hI
            clear hI hst hR
            go_wp2
            exact ⟨rfl, _, rfl, rfl, HI.out, fun _ _ h => h⟩
          · refine Owes.mk _ rfl rfl (fun _ _ h => by cases h) fun u m w' hm hI hR => ⟨⟨#[undef, undef, undef, undef, undef, undef, .int .i64 (k : Int), undef, undef, undef, undef, undef, undef, undef, undef, undef, undef, undef, undef, undef, undef, undef, undef, undef, undef, undef, undef, undef, undef, undef, undef, undef, undef, undef, undef, undef, undef, undef, undef, undef, undef, undef], []⟩, rfl, fun d hd => by cases hd; exact (by decide : 23 < 42), ?_⟩
            have k0 := keep_cell hI c0
            have k1 := keep_cell hI c1
            have k2 := keep_cell hI c2
            have k3 := keep_cell hI c3
            have k4 := keep_cell hI c4
            have HI := Lib.hid hI
            clear hI hst hR
            go_wp2
            exact ⟨rfl, _, rfl, rfl, HI.out, fun _ _ h => h⟩
          · refine Owes.mk _ rfl rfl (fun _ _ h => by cases h) fun u m w' hm hI hR => ⟨⟨#[undef, undef, undef, undef, undef, undef, undef, undef, undef, undef, undef, undef, undef, undef, undef, undef, undef, undef, undef, undef, undef, undef, u 1, u 2, undef, undef, undef, undef, undef, undef, undef, undef, undef, undef, undef, undef, undef, undef, undef, undef, undef, undef], []⟩, rfl, fun d hd => by cases hd; exact (by decide : 24 < 42), ?_⟩
            have e1 : u 1 = _ := hR 1 (by decide)
            have e2 : u 2 = _ := hR 2 (by decide)
            have k0 := keep_cell hI c0
            have k1 := keep_cell hI c1
            have k2 := keep_cell hI c2
            have k3 := keep_cell hI c3
            have k4 := keep_cell hI c4
            have HI := Lib.hid hI
            clear hI hst hR
            rw [e1, e2]
            clear e1 e2
            go_wp2
            exact ⟨rfl, _, rfl, rfl, HI.out, fun _ _ h => h⟩
          · refine Owes.mk _ rfl rfl (fun _ _ h => by cases h) fun u m w' hm hI hR => ⟨⟨#[undef, undef, undef, undef, undef, undef, undef, undef, undef, undef, undef, undef, undef, undef, undef, undef, undef, undef, undef, undef, undef, undef, undef, undef, u 3, undef, undef, undef, undef, undef, undef, undef, undef, undef, undef, undef, undef, undef, undef, undef, undef, undef], []⟩, rfl, fun d hd => by cases hd; exact (by decide : 25 < 42), ?_⟩
            have e3 : u 3 = _ := hR 3 (by decide)
            have k0 := keep_cell hI c0
            have k1 := keep_cell hI c1
            have k2 := keep_cell hI c2
            have k3 := keep_cell hI c3
            have k4 := keep_cell hI c4
            have HI := Lib.hid hI
            clear hI hst hR
            rw [e3]
            clear e3
            go_wp2
            exact ⟨rfl, _, rfl, rfl, HI.out, fun _ _ h => h⟩
          · refine Owes.mk _ rfl rfl (fun _ _ h => by cases h) fun u m w' hm hI hR => ⟨⟨#[undef, undef, undef, undef, undef, undef, undef, undef, undef, undef, undef, undef, undef, undef, undef, undef, undef, undef, undef, undef, undef, undef, undef, undef, undef, u 4, undef, undef, undef, undef, undef, undef, undef, undef, undef, undef, undef, undef, undef, undef, undef, undef], []⟩, rfl, fun d hd => by cases hd; exact (by decide : 26 < 42), ?_⟩
            have e4 : u 4 = _ := hR 4 (by decide)
            have k0 := keep_cell hI c0
            have k1 := keep_cell hI c1
            have k2 := keep_cell hI c2
            have k3 := keep_cell hI c3
            have k4 := keep_cell hI c4
            have HI := Lib.hid hI
            clear hI hst hR
            rw [e4]
            clear e4
            go_wp2
            exact ⟨rfl, _, rfl, rfl, HI.out, fun _ _ h => h⟩
          · refine Owes.mk _ rfl rfl (fun _ _ h => by cases h) fun u m w' hm hI hR => ⟨⟨#[.slice (some ⟨b1, o1, none⟩) n cap, undef, undef, undef, undef, undef, undef, undef, undef, undef, undef, undef, undef, undef, undef, undef, undef, undef, undef, undef, undef, undef, undef, undef, undef, undef, undef, undef, undef, undef, undef, undef, undef, undef, undef, undef, undef, undef, undef, undef, undef, undef], []⟩, rfl, fun d hd => by cases hd; exact (by decide : 27 < 42), ?_⟩
            have k0 := keep_cell hI c0
            have k1 := keep_cell hI c1
            have k2 := keep_cell hI c2
            have k3 := keep_cell hI c3
            have k4 := keep_cell hI c4
            have HI := Lib.hid hI
            clear hI hst hR
            go_wp2
            exact ⟨rfl, _, rfl, rfl, HI.out, fun _ _ h => h⟩
          · refine Owes.mk _ rfl rfl (fun _ _ h => by cases h) fun u m w' hm hI hR => ⟨⟨#[undef, undef, undef, undef, undef, undef, .int .i64 (k : Int), undef, undef, undef, undef, undef, undef, undef, undef, undef, undef, undef, undef, undef, undef, undef, undef, undef, undef, undef, undef, undef, undef, undef, undef, undef, undef, undef, undef, undef, undef, undef, undef, undef, undef, undef], []⟩, rfl, fun d hd => by cases hd; exact (by decide : 28 < 42), ?_⟩
            have k0 := keep_cell hI c0
            have k1 := keep_cell hI c1
            have k2 := keep_cell hI c2
            have k3 := keep_cell hI c3
            have k4 := keep_cell hI c4
            have HI := Lib.hid hI
            clear hI hst hR
            go_wp2
            exact ⟨rfl, _, rfl, rfl, HI.out, fun _ _ h => h⟩
          · refine Owes.mk _ rfl rfl (fun _ _ h => by cases h) fun u m w' hm hI hR => ⟨⟨#[undef, undef, undef, undef, undef, undef, undef, undef, undef, undef, undef, undef, undef, undef, undef, undef, undef, undef, undef, undef, undef, undef, undef, undef, undef, undef, undef, u 6, u 7, undef, undef, undef, undef, undef, undef, undef, undef, undef, undef, undef, undef, undef], []⟩, rfl, fun d hd => by cases hd; exact (by decide : 29 < 42), ?_⟩
            have e6 : u 6 = _ := hR 6 (by decide)
            have e7 : u 7 = _ := hR 7 (by decide)
            have k0 := keep_cell hI c0
            have k1 := keep_cell hI c1
            have k2 := keep_cell hI c2
            have k3 := keep_cell hI c3
            have k4 := keep_cell hI c4
            have HI := Lib.hid hI
            clear hI hst hR
            rw [e6, e7]
            clear e6 e7
            go_wp2
            exact ⟨rfl, _, rfl, rfl, HI.out, fun _ _ h => h⟩
          · refine Owes.mk _ rfl rfl (fun _ _ h => by cases h) fun u m w' hm hI hR => ⟨⟨#[undef, undef, undef, undef, undef, undef, undef, undef, undef, undef, undef, undef, undef, undef, undef, undef, undef, undef, undef, undef, undef, undef, undef, undef, undef, undef, undef, undef, undef, u 8, undef, undef, undef, undef, undef, undef, undef, undef, undef, undef, undef, undef], []⟩, rfl, fun d hd => by cases hd; exact (by decide : 30 < 42), ?_⟩
            have e8 : u 8 = _ := hR 8 (by decide)
            have k0 := keep_cell hI c0
            have k1 := keep_cell hI c1
            have k2 := keep_cell hI c2
            have k3 := keep_cell hI c3
            have k4 := keep_cell hI c4
            have HI := Lib.hid hI
            clear hI hst hR
            rw [e8]
            clear e8
            go_wp2
            exact ⟨rfl, _, rfl, rfl, HI.out, fun _ _ h => h⟩
          · refine Owes.mk _ rfl rfl (fun _ _ h => by cases h) fun u m w' hm hI hR => ⟨⟨#[undef, undef, undef, undef, undef, undef, undef, undef, undef, undef, undef, undef, undef, undef, undef, undef, undef, undef, undef, undef, undef, undef, undef, undef, undef, undef, undef, undef, undef, undef, u 9, undef, undef, undef, undef, undef, undef, undef, undef, undef, undef, undef], []⟩, rfl, fun d hd => by cases hd; exact (by decide : 31 < 42), ?_⟩
            have e9 : u 9 = _ := hR 9 (by decide)
            have k0 := keep_cell hI c0
            have k1 := keep_cell hI c1
            have k2 := keep_cell hI c2
            have k3 := keep_cell hI c3
            have k4 := keep_cell hI c4
            have HI := Lib.hid hI
            clear hI hst hR
            rw [e9]
            clear e9
            go_wp2
            exact ⟨rfl, _, rfl, rfl, HI.out, fun _ _ h => h⟩
          · refine Owes.mk _ rfl rfl (fun _ _ h => by cases h) fun u m w' hm hI hR => ⟨⟨#[.slice (some ⟨b1, o1, none⟩) n cap, undef, undef, undef, undef, undef, undef, undef, undef, undef, undef, undef, undef, undef, undef, undef, undef, undef, undef, undef, undef, undef, undef, undef, undef, undef, undef, undef, undef, undef, undef, undef, undef, undef, undef, undef, undef, undef, undef, undef, undef, undef], []⟩, rfl, fun d hd => by cases hd; exact (by decide : 32 < 42), ?_⟩
            have k0 := keep_cell hI c0
            have k1 := keep_cell hI c1
            have k2 := keep_cell hI c2
            have k3 := keep_cell hI c3
            have k4 := keep_cell hI c4
            have HI := Lib.hid hI
            clear hI hst hR
            go_wp2
            exact ⟨rfl, _, rfl, rfl, HI.out, fun _ _ h => h⟩
          · refine Owes.mk _ rfl rfl (fun _ _ h => by cases h) fun u m w' hm hI hR => ⟨⟨#[undef, undef, undef, undef, undef, undef, .int .i64 (k : Int), undef, undef, undef, undef, undef, undef, undef, undef, undef, undef, undef, undef, undef, undef, undef, undef, undef, undef, undef, undef, undef, undef, undef, undef, undef, undef, undef, undef, undef, undef, undef, undef, undef, undef, undef], []⟩, rfl, fun d hd => by cases hd; exact (by decide : 33 < 42), ?_⟩
            have k0 := keep_cell hI c0
            have k1 := keep_cell hI c1
            have k2 := keep_cell hI c2
            have k3 := keep_cell hI c3
            have k4 := keep_cell hI c4
            have HI := Lib.hid hI
            clear hI hst hR
            go_wp2
            exact ⟨rfl, _, rfl, rfl, HI.out, fun _ _ h => h⟩
          · refine Owes.mk _ rfl rfl (fun _ _ h => by cases h) fun u m w' hm hI hR => ⟨⟨#[undef, undef, undef, undef, undef, undef, undef, undef, undef, undef, undef, undef, undef, undef, undef, undef, undef, undef, undef, undef, undef, undef, undef, undef, undef, undef, undef, undef, undef, undef, undef, undef, u 11, u 12, undef, undef, undef, undef, undef, undef, undef, undef], []⟩, rfl, fun d hd => by cases hd; exact (by decide : 34 < 42), ?_⟩
            have e11 : u 11 = _ := hR 11 (by decide)
            have e12 : u 12 = _ := hR 12 (by decide)
            have k0 := keep_cell hI c0
            have k1 := keep_cell hI c1
            have k2 := keep_cell hI c2
            have k3 := keep_cell hI c3
            have k4 := keep_cell hI c4
            have HI := Lib.hid hI
            clear hI hst hR
            rw [e11, e12]
            clear e11 e12
            go_wp2
            exact ⟨rfl, _, rfl, rfl, HI.out, fun _ _ h => h⟩
          · refine Owes.mk _ rfl rfl (fun _ _ h => by cases h) fun u m w' hm hI hR => ⟨⟨#[undef, undef, undef, undef, undef, undef, undef, undef, undef, undef, undef, undef, undef, undef, undef, undef, undef, undef, undef, undef, undef, undef, undef, undef, undef, undef, undef, undef, undef, undef, undef, undef, undef, undef, u 13, undef, undef, undef, undef, undef, undef, undef], []⟩, rfl, fun d hd => by cases hd; exact (by decide : 35 < 42), ?_⟩
            have e13 : u 13 = _ := hR 13 (by decide)
            have k0 := keep_cell hI c0
            have k1 := keep_cell hI c1
            have k2 := keep_cell hI c2
            have k3 := keep_cell hI c3
            have k4 := keep_cell hI c4
            have HI := Lib.hid hI
            clear hI hst hR
            rw [e13]
            clear e13
            go_wp2
            exact ⟨rfl, _, rfl, rfl, HI.out, fun _ _ h => h⟩
          · refine Owes.mk _ rfl rfl (fun _ _ h => by cases h) fun u m w' hm hI hR => ⟨⟨#[undef, undef, undef, undef, undef, undef, undef, undef, undef, undef, undef, undef, undef, undef, undef, undef, undef, undef, undef, undef, undef, undef, undef, undef, undef, undef, undef, undef, undef, undef, undef, undef, undef, undef, undef, u 14, undef, undef, undef, undef, undef, undef], []⟩, rfl, fun d hd => by cases hd; exact (by decide : 36 < 42), ?_⟩
            have e14 : u 14 = _ := hR 14 (by decide)
            have k0 := keep_cell hI c0
            have k1 := keep_cell hI c1
            have k2 := keep_cell hI c2
            have k3 := keep_cell hI c3
            have k4 := keep_cell hI c4
            have HI := Lib.hid hI
            clear hI hst hR
            rw [e14]
            clear e14
            go_wp2
            exact ⟨rfl, _, rfl, rfl, HI.out, fun _ _ h => h⟩
          · refine Owes.mk _ rfl rfl (fun _ _ h => by cases h) fun u m w' hm hI hR => ⟨⟨#[undef, undef, undef, undef, undef, undef, undef, undef, undef, undef, undef, undef, undef, undef, undef, undef, undef, undef, undef, undef, undef, undef, undef, undef, undef, undef, undef, undef, undef, undef, undef, undef, undef, undef, undef, undef, u 15, undef, undef, undef, undef, undef], []⟩, rfl, fun d hd => by cases hd; exact (by decide : 37 < 42), ?_⟩
            have e15 : u 15 = _ := hR 15 (by decide)
            have k0 := keep_cell hI c0
            have k1 := keep_cell hI c1
            have k2 := keep_cell hI c2
            have k3 := keep_cell hI c3
            have k4 := keep_cell hI c4
            rw [e15]
            clear e15
            have GG := Lib.hid (SlR.below intR_fits GD.out hI)
            have HI := Lib.hid hI
            clear hI hR
            go_wp2_with fail
            refine (l5Rsp_any l[k].rsp _ f1 SD.out _ GG.out).mono ?_
            rintro e w7 ⟨v7, f7, rfl, s7, n7, b7⟩
            have HX := Lib.hid s7
            have HN : Hid (New f7 wr w7) := Lib.hid ⟨fun b hb => Nat.le_trans HI.out.size (n7.lo b hb), n7.once, n7.free⟩
            have HS7 := Lib.hid (facts_stable hst (b7.chg []))
            have HI7 := Lib.hid (HI.out.trans (b7.mono HI.out.size))
            clear b7 hst s7 n7
            go_wp2
            exact ⟨rfl, _, rfl, ⟨_, f7, rfl, HX.out, HN.out⟩, HI7.out, HS7.out⟩
          · refine Owes.mk _ rfl rfl (fun _ _ h => by cases h) fun u m w' hm hI hR => ⟨⟨#[undef, undef, undef, undef, undef, undef, undef, undef, undef, undef, undef, undef, undef, undef, undef, undef, undef, undef, undef, undef, undef, undef, undef, undef, undef, undef, u 5, undef, undef, undef, undef, u 10, undef, undef, undef, undef, undef, u 16, undef, undef, undef, undef], []⟩, rfl, fun d hd => by cases hd; exact (by decide : 38 < 42), ?_⟩
            have e5 : u 5 = _ := hR 5 (by decide)
            have e10 : u 10 = _ := hR 10 (by decide)
            have k0 := keep_cell hI c0
            have k1 := keep_cell hI c1
            have k2 := keep_cell hI c2
            have k3 := keep_cell hI c3
            have k4 := keep_cell hI c4
            rw [e5, e10]
            clear e5 e10
            obtain ⟨dv, f, e16, s16, n16⟩ := hR 16 (by decide)
            rw [e16]
            have HX := Lib.hid s16
            have HN := Lib.hid n16
            have HI := Lib.hid hI
            clear hI hst hR e16 s16 n16
            go_wp2
            exact ⟨rfl, _, rfl, ⟨_, f, rfl, HX.out, HN.out⟩, HI.out, fun _ _ h => h⟩
          · refine Owes.mk _ rfl rfl (fun _ _ h => by cases h) fun u m w' hm hI hR => ⟨⟨#[undef, undef, undef, undef, undef, undef, undef, undef, undef, undef, undef, undef, undef, undef, undef, undef, undef, undef, undef, undef, undef, undef, undef, undef, undef, undef, undef, undef, undef, undef, undef, undef, undef, undef, undef, undef, undef, undef, u 17, undef, undef, undef], []⟩, rfl, fun d hd => by cases hd; exact (by decide : 39 < 42), ?_⟩
            have k0 := keep_cell hI c0
            have k1 := keep_cell hI c1
            have k2 := keep_cell hI c2
            have k3 := keep_cell hI c3
            have k4 := keep_cell hI c4
            obtain ⟨dv, f, e17, s17, n17⟩ := hR 17 (by decide)
            rw [e17]
            obtain ⟨ea, en, ec, rfl⟩ := s17.form
            have HI := Lib.hid hI
            have hba := below_alloc w' (.cells #[.int .i64 l[k].who, .int .i64 l[k].n, .int .i64 l[k].rsp.id, .int .i64 l[k].rsp.code, .slice ea en ec] 64)
            have HX := Lib.hid (SlR.below intR_fits s17 hba)
            have HN := Lib.hid (n17.later (s17.lt intR_fits) (hba.chg []))
            have HS8 := Lib.hid (facts_stable hst (hba.chg []))
            have HB8 := Lib.hid (hI.trans (hba.mono hI.size))
            clear hI hst hR e17 s17 n17 hba
            go_wp2
            exact ⟨rfl, _, rfl, ⟨_, _, f, rfl, ⟨_, _, rfl, rfl, HX.out⟩, HN.out, fun b hb => HX.out.lt intR_fits b hb, by simp, rfl, fun j hj => by rw [add_plain, Nat.zero_add]; exact alloc1_new _ _ _ j (by rw [← Array.getElem?_toList]; exact List.getElem?_eq_getElem hj), by simp [Value.oneCell']⟩, HB8.out, HS8.out⟩
        case hend =>
          intro u w' hI hR
          simp only [setAll, List.set_cons_zero, List.set_cons_succ]
          have e0 : u 0 = _ := hR 0 (by decide)
          obtain ⟨A, cs, f, e18, h1, h2, h3, h4, h5, h6, h7⟩ := hR 18 (by decide)
          rw [e0, e18]
          refine wpList_pushP (R := jobR) (K := 5) (W := wr) (l := toldOf (l.take k) who) (x := l[k]) rfl _ _ 56 64 i0 (.agg #[.int .i64 0, .int .i64 0, .int .i64 0, .int .i64 0, .slice none 0 0]) 56 jobR_fits rfl Try.underlying56 hi hz0 hz1 hz2 rfl (by decide) (by decide) rfl rfl HO.out hI h1 h2 h6 h7 (by omega) HB.out.size ?_
          intro v' w6 ho hb hb'
          have HO2 := Lib.hid ho
          have HB2 := Lib.hid (HB.out.trans hb)
          clear hR hst e0 e18 h1 h2 h3 h4 h5 h6 h7 hI ho hb hb' c0 c1 c2 c3 c4
          go_wp2
          go_roundw
          case rel => exact ⟨k + 1, by omega, by go_num, by rw [toldOf_yes i1 HQ.out]; exact HO2.out, HB2.out⟩
          case measure => simp [intOf]; omega
      · have hq' : (l[k].who == who) = false := by simpa using hq
        have HQ := Lib.hid hq
        clear hq
        go_wp2
        go_roundw
        case rel => exact ⟨k + 1, by omega, by go_num, by rw [toldOf_no i1 HQ.out]; exact HO.out, HB.out⟩
        case measure => simp [intOf]; omega
    · obtain rfl : k = n := by omega
      have hall : l.take k = l := List.take_of_length_le (by rw [hn.out]; exact Nat.le_refl _)
      have ho := HO.out
      rw [hall] at ho
      obtain ⟨fp', g1, g2, g3, g4⟩ := ho.reads jobR_fits
      have HG1 := Lib.hid g1
      have HG2 := Lib.hid g2
      have HG3 := Lib.hid g3
      have HG4 := Lib.hid g4
      clear r hbel ho hall g1 g2 g3 g4
      go_wp2
      go_ret
      exact ⟨_, fp', rfl, HG1.out, ⟨HG2.out, HG3.out, HG4.out⟩, HB.out⟩

end Go.Proofs.Ytmcjklicepaiaaa
