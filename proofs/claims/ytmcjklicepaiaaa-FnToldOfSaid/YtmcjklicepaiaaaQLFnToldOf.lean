/-
  Proved: the Go function laws.FnToldOf returns true for all arguments: ToldOf of all, together, is as much as was told, each in its order; and what one was told is what is told of that alone.
  Conditions: none.
-/
import Derived.Test.YtmcjklicepaiaaaPk38
import Derived.Test.YtmcjklicepaiaaaQDToldOf
import Derived.Test.YtmcjklicepaiaaaQCrJobs
import Derived.Test.YtmcjklicepaiaaaQTold4
namespace Go.Proofs.Ytmcjklicepaiaaa
set_option linter.unusedVariables false
set_option linter.unusedSimpArgs false
open Go.RowKit Go.ChangeShapes Go.WideShapes Go.ChangeAt

/-- so much happens of the first who ask -/
def cnt (l : List Job) : Nat → Nat
  | 0 => 0
  | k + 1 => cnt l k + (toldOf l k).length
theorem cnt_le (l : List Job) : ∀ k, cnt l k ≤ k * l.length
  | 0 => by simp [cnt]
  | k + 1 => by
    have h1 := cnt_le l k
    have h2 := toldOf_len l k
    rw [cnt, Nat.succ_mul]
    omega
theorem cnt_all {l : List Job} (h : ∀ x, x ∈ l → 0 ≤ x.who ∧ x.who ≤ 2) : cnt l 3 = l.length := by
  have e : cnt l 3 = (toldOf l 0).length + (toldOf l 1).length + (toldOf l 2).length := by simp [cnt]
  rw [e]
  clear e
  induction l with
  | nil => rfl
  | cons x l ih =>
    have h1 := ih (fun y hy => h y (by simp [hy]))
    have h2 := h x (by simp)
    have h3 : x.who = 0 ∨ x.who = 1 ∨ x.who = 2 := by omega
    unfold toldOf at *
    rcases h3 with e | e | e <;> simp [List.filter_cons, e] <;> omega
theorem toldOf_twice (l : List Job) (who : Int) : toldOf (toldOf l who) who = toldOf l who := by
  unfold toldOf
  rw [List.filter_filter]
  simp
theorem toldOf_who {l : List Job} {who : Int} {k : Nat} (h : k < (toldOf l who).length) : (toldOf l who)[k].who = who := by
  have := List.getElem_mem h
  unfold toldOf at this ⊢
  rw [List.mem_filter] at this
  simpa using this.2

set_option maxRecDepth 100000 in
set_option maxHeartbeats 6400000 in
theorem walk (v : Value) (l0 : List Int) (fp0 : List Nat) (w : World) (g : ByteS w l0 v fp0) :
    Calls Try.prog 8 #[v] w fun e w' => e = .returned (.bool true) ∧ Below w.heap.size w w' := by
  obtain ⟨a0, n0, c0, rfl, hn0, hcap0, hmax0, hcm0, _⟩ := g.opened
  have G := Lib.hid g
  clear g
  by_cases hb : 1048576 < n0
  · go_enter Try.func8, Try.ntmps8
    go_wp2
    go_ret
    exact ⟨rfl, Below.refl _ _⟩
  · go_enter Try.func8, Try.ntmps8
    go_wp2_with fail
    refine (drawToldOf_any _ l0 fp0 w G.out).mono ?_
    rintro e w1 ⟨le, who, vt, fe, rfl, ge, hjf, hlen, b1⟩
    obtain ⟨ea, en, ec, rfl⟩ := ge.form
    have hsm : sm_jobs le := ⟨by omega, fun k hk => by have h' := (hjf _ (List.getElem_mem hk)).2.2.2.2; unfold sm_Job sm_Rsp sm_ints; omega⟩
    have hwho : ∀ x, x ∈ le → 0 ≤ x.who ∧ x.who ≤ 2 := fun x hx => ⟨(hjf x hx).1, (hjf x hx).2.1⟩
    clear hjf
    have hen : le.length = en := by
      have h' := ge
      obtain ⟨_, _, _, e, h2, _⟩ := h'
      cases e; exact h2
    have hen1 : en ≤ 1000 := by omega
    have HE := Lib.hid ge
    have B1 := Lib.hid b1
    have HWHO := Lib.hid hwho
    have HSM := Lib.hid hsm
    have HEN := Lib.hid hen
    have HLEN := Lib.hid hlen
    clear ge b1 hwho hsm hen hlen
    go_wp2_with fail
    refine (iToldOf_any _ le fe who HSM.out _ HE.out).mono ?_
    rintro e w2 ⟨v2, f2, rfl, g2, n2, b2⟩
    obtain ⟨xa, xn, xc, rfl⟩ := g2.form
    have HX := Lib.hid g2
    have HE2 := Lib.hid (SlR.below jobR_fits HE.out b2)
    have B2 := Lib.hid (B1.out.trans (b2.mono B1.out.size))
    clear g2 n2 b2 HE B1
    go_wp2_with fail
    refine (sToldOf_any _ le fe who HSM.out _ HE2.out).mono ?_
    rintro e w3 ⟨v3, f3, rfl, g3, n3, b3⟩
    have HX3 := Lib.hid (SlR.below jobR_fits HX.out b3)
    have HY3 := Lib.hid g3
    have HE3 := Lib.hid (SlR.below jobR_fits HE2.out b3)
    have B3 := Lib.hid (B2.out.trans (b3.mono B2.out.size))
    clear g3 n3 b3 HX HE2 B2
    go_wp2_with fail
    refine (crJobs_same _ _ (toldOf le who) f2 f3 _ HX3.out HY3.out).mono ?_
    rintro e w4 ⟨rfl, b4⟩
    have HX4 := Lib.hid (SlR.below jobR_fits HX3.out b4)
    have HE4 := Lib.hid (SlR.below jobR_fits HE3.out b4)
    have B4 := Lib.hid (B3.out.trans (b4.mono B3.out.size))
    clear b4 HX3 HE3 HY3 B3
    have hxl : (toldOf le who).length = xn := by
      have h' := HX4.out
      obtain ⟨_, _, _, e, h2, _⟩ := h'
      cases e; exact h2
    have hxn : xn ≤ 1000 := by have := toldOf_len le who; have := HLEN.out; omega
    have HXL := Lib.hid hxl
    clear hxl
    go_wp2_with fail
    go_loopw [6, 7] (fun q i wr => ∃ k : Nat, k ≤ 3 ∧ i = .int .i64 k ∧ q = .int .i64 (cnt le k : Nat) ∧ Below w4.heap.size w4 wr) (fun _ i _ => 3 - (intOf i).toNat)
    case atStart => exact ⟨0, by omega, rfl, rfl, Below.refl _ _⟩
    case round =>
      obtain ⟨k, hk, rfl, rfl, hb4⟩ := hrel
      have HB := Lib.hid hb4
      clear hb4
      have hcl : cnt le k ≤ 3000 := by
        have h1 := cnt_le le k
        have h2 := HLEN.out
        have : k * le.length ≤ 3 * 1000 := Nat.mul_le_mul hk h2
        omega
      by_cases hlt : k < 3
      · have hlti : (k : Int) < 3 := by omega
        have HEw := Lib.hid (SlR.below jobR_fits HE4.out HB.out)
        go_wp2_with fail
        refine (iToldOf_any _ le fe (k : Int) HSM.out _ HEw.out).mono ?_
        rintro e w5 ⟨v5, f5, rfl, g5, n5, b5⟩
        obtain ⟨ya, yn, yc, rfl⟩ := g5.form
        have hyl : (toldOf le k).length = yn := by
          have h' := g5
          obtain ⟨_, _, _, e, h2, _⟩ := h'
          cases e; exact h2
        have hyn : yn ≤ 1000 := by have := toldOf_len le k; have := HLEN.out; omega
        have HYL := Lib.hid hyl
        have B5 := Lib.hid (HB.out.trans (b5.mono HB.out.size))
        clear g5 n5 b5 hyl HEw HB
        obtain ⟨ck, hck⟩ : ∃ z, z = cnt le k := ⟨_, rfl⟩
        rw [← hck] at hcl ⊢
        have HCK := Lib.hid hck
        clear hck
        go_wp2
        go_roundw
        case rel => exact ⟨k + 1, by omega, by go_num, by show Value.int _ _ = Value.int _ _; congr 1; rw [cnt, HYL.out, ← HCK.out]; rfl, B5.out⟩
        case measure => simp [intOf]; omega
      · obtain rfl : k = 3 := by omega
        have hall : cnt le 3 = en := by rw [cnt_all HWHO.out, HEN.out]
        obtain ⟨ck, hck⟩ : ∃ z, z = cnt le 3 := ⟨_, rfl⟩
        rw [hall] at hcl ⊢
        have B5 := Lib.hid (B4.out.trans (HB.out.mono B4.out.size))
        have HX5 := Lib.hid (SlR.below jobR_fits HX4.out HB.out)
        clear hall hck HB
        go_wp2_with fail
        go_loopw [8] (fun i wr2 => ∃ j : Nat, j ≤ xn ∧ i = .int .i64 j ∧ wr2 = wr) (fun i _ => xn - (intOf i).toNat)
        case atStart => exact ⟨0, by omega, rfl, rfl⟩
        case round =>
          obtain ⟨j, hj, rfl, rfl⟩ := hrel
          by_cases hltj : j < xn
          · have hltji : (j : Int) < (xn : Int) := by omega
            obtain ⟨_, _, _, e, _, _, _, _, r⟩ := HX5.out.opened
            cases e
            obtain ⟨i1, b1, o1, f1, cs, rfl, _, _, _, ⟨dv1, df1, rfl, rfl, hd1⟩, e1⟩ := r j hltj
            have c1 := e1 0 (by simp)
            simp only [Nat.add_zero, List.getElem_cons_zero, List.getElem_cons_succ] at c1
            rw [toldOf_who i1] at c1
            clear r e1 hd1 i1
            go_wp2
            go_roundw
            case rel => exact ⟨j + 1, by omega, by go_num, trivial⟩
            case measure => simp [intOf]; omega
          · have hsm2 : sm_jobs (toldOf le who) := toldOf_sm HSM.out
            have HSM2 := Lib.hid hsm2
            clear hsm2
            go_wp2_with fail
            refine (iToldOf_any _ (toldOf le who) f2 who HSM2.out _ HX5.out).mono ?_
            rw [toldOf_twice]
            rintro e w7 ⟨v7, f7, rfl, g7, n7, b7⟩
            have HX7 := Lib.hid (SlR.below jobR_fits HX5.out b7)
            have HY7 := Lib.hid g7
            have B7 := Lib.hid (B5.out.trans (b7.mono B5.out.size))
            clear g7 n7 b7
            go_wp2_with fail
            refine (crJobs_same _ _ (toldOf le who) f7 f2 _ HY7.out HX7.out).mono ?_
            rintro e w8 ⟨rfl, b8⟩
            have B8 := Lib.hid (B7.out.trans (b8.mono B7.out.size))
            clear b8
            go_wp2_with fail
            refine (crOk_any _).mono ?_
            rintro e w9 ⟨rfl, rfl⟩
            go_wp2
            go_ret
            exact ⟨rfl, B8.out⟩

namespace fnToldOf
set_option linter.unusedVariables false
set_option linter.unusedSimpArgs false
set_option maxRecDepth 100000 in
theorem lifted (os : Os) (started : os.Started) (H : Type) (enc : TypeId × Value → H) :
    ReturnsInHanded {} Try.checked os 8 .any (Rows.fnToldOfSpec.pre6 enc Try.prog Try.f8 Rows.fnToldOfRow.domain false) (Rows.fnToldOfSpec.post enc Try.prog Try.f8 false true false false) := by
  refine returnsInHanded_of_change (C := Try.checked) own started (by kernel_rfl) Try.func8
    (ChangeSpec.witness6 (enc := enc) (C := Try.checked) false ⟨#[], #[.slice none 0 0], []⟩ 8 (by kernel_rfl) (by kernel_rfl) (by kernel_rfl) (by kernel_rfl)) ?_
  intro W base args ds gs before hval0 hW hcnd _
  have hval : ∀ (j : Nat) t v, Try.f8.params[j]? = some t → args[j]? = some v → Value.okWide Try.prog W .any base t v := hval0
  have hW' := hW
  obtain ⟨p, q, hA0, hV, rfl, hfz, hnd⟩ := hW
  have hA : DataW.TrodAll enc Try.prog W 0 (fun _ => true) true Try.f8.params.toList args.toList ds p := hA0
  rw [Try.params8] at hA hval
  obtain ⟨v0, vs0, d0, ds0, p0, q0, hargs, rfl, rfl, h0, r0⟩ := trodAll_cons hA
  obtain ⟨rfl, rfl, rfl⟩ := trodAll_nil r0
  obtain rfl : args = #[v0] := by cases args; simp_all
  obtain ⟨rfl, rfl⟩ := trodVars_none hV
  clear hA0 hval0
  simp only [List.append_nil] at hW'
  have hlt0 : ∀ x ∈ p0, x.block < W.heap.size := fun x hx => by simpa using hW'.lt x (by simp [hx])
  have hk0 := h0
  obtain ⟨ad0, len0, cap0, rfl⟩ := okWide_slice Try.underlying22 (hval 0 22 v0 rfl rfl)
  obtain ⟨fuel0, hf0⟩ := h0
  obtain ⟨x0, fp0, y0, e0, g0⟩ := (opens_slice Try.underlying22 (by kernel_rfl) (by decide) (opens_byte Try.underlying5) byteR_fits) hf0
  obtain rfl : .slice ad0 len0 cap0 = y0 := by simpa [Value.cells] using e0
  refine (walk (.slice ad0 len0 cap0) x0 fp0 W g0).mono fun e W' ⟨he, hb⟩ => ?_
  subst he
  exact ⟨_, rfl, _, _, _, [], _, [], hW', (trodAll_cons_mk (shut_bool Try.underlying4 _) trodAll_mk0), (trodAll_cons_mk (Below.trod laidOut (by kernel_rfl) (of_decide_eq_true (by kernel_rfl)) hk0 hb hlt0) trodAll_mk0), rfl, hb.frame _, fun h => by cases h⟩

theorem over : Rows.fnToldOfRow.holds Try.pinned (OpenSpec.ofChange Rows.fnToldOfSpec) :=
  OpenClaim.holds_of_wide 8 Try.f8 rfl rfl rfl rfl rfl rfl rfl ⟨rfl, rfl, rfl, rfl, rfl⟩ rfl rfl rfl rfl rfl (by kernel_rfl) Try.func8 (by kernel_rfl)
    (of_decide_eq_true (by kernel_rfl)) (by unfold Func.isWrapper; first | (rw [if_pos (by decide +kernel)]; kernel_rfl) | (rw [if_neg (by decide +kernel)]; exact ⟨rfl, rfl⟩))
    (fun os started H enc _ => lifted os started H enc)

theorem proved : Rows.FnToldOfSaid :=
  over
#print axioms proved
end fnToldOf
end Go.Proofs.Ytmcjklicepaiaaa
