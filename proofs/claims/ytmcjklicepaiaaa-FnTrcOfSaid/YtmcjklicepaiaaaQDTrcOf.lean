/-
  What DrawTrcOf draws: things that happen, each of one of those who ask, and a number.
-/
import Derived.Test.YtmcjklicepaiaaaPk37
namespace Go.Proofs.Ytmcjklicepaiaaa
set_option linter.unusedVariables false
set_option linter.unusedSimpArgs false
open Go.RowKit Go.ChangeShapes Go.WideShapes

/-- what was not told of, and is no reader's, stays -/
theorem Step.home {rb : Nat} {T' : Tab} {w0 w w' : World} (h : Step [rb] (fun _ => none) w T' w') (hb : Below w0.heap.size w0 w) (hr : w0.heap.size ≤ rb) : Below w0.heap.size w0 w' :=
  ((hb.chg [rb]).trans' ⟨h.os, h.tape, h.output, h.size, fun k hk hn => h.block k hk hn rfl⟩).home (fun c hc => by simp at hc; omega)

set_option maxRecDepth 100000 in
set_option maxHeartbeats 3200000 in
theorem drawTrcOf_any (v : Value) (l : List Int) (fp : List Nat) (w : World) (g : ByteS w l v fp) :
    Calls Try.prog 27 #[v] w fun e w' => ∃ (le : List Ev) (who : Int) (ea : Option Addr) (en ec : Nat) (fe : List Nat), e = .returned (.tuple #[.slice ea en ec, .int .i64 who]) ∧ SlR 3 evR w' le (.slice ea en ec) fe ∧ (∀ x, x ∈ le → 0 ≤ x.who ∧ x.who ≤ 2) ∧ le.length ≤ 1000 ∧ Below w.heap.size w w' := by
  go_enter Try.func27, Try.ntmps27
  have G := Lib.hid g
  clear g
  go_wp2_with fail
  refine (l20Open_any v l fp _ G.out).mono ?_
  rintro e w2 ⟨rb, fq, rfl, hrb, hfq, h0, b0⟩
  have hto : ∀ c, c ∈ rb :: fq → c < w2.heap.size := fun c hc => by
    rcases List.mem_cons.1 hc with rfl | hc
    · exact h0.lt
    · exact h0.old c hc
  have H0 := Lib.hid h0
  have B0 := Lib.hid b0
  have HT0 := Lib.hid (TH.empty gFit (rb :: fq) w2 hto)
  clear h0 b0 hto
  go_wp2_with fail
  refine (l20Tlm_b (rb :: fq) rb fq 0 60 (by omega) (by omega) (by omega) _ _ (by simp) (fun b hb => by simp [hb]) H0.out HT0.out).mono ?_
  rintro e w3 ⟨T, lm, fm, va, vn, vc, la, lc, pa, pc, ms, hs, qs, lx, ly, lz, v0, v1, v2, v3, v4, v5, ea, en, ec, rfl, th, st, rd, bv, hla, hlm, hev, hen, hlen, hjf, k0, k1, k2, k3, k4, k5⟩
  obtain ⟨_, _, _, rfl⟩ := k0.form
  obtain ⟨_, _, _, rfl⟩ := k1.form
  obtain ⟨_, _, _, rfl⟩ := k2.form
  obtain ⟨_, _, _, rfl⟩ := k3.form
  obtain ⟨_, _, _, rfl⟩ := k4.form
  obtain ⟨_, _, _, rfl⟩ := k5.form
  have HTH := Lib.hid th
  have HEV := Lib.hid hev
  have RD := Lib.hid rd
  have HB := Lib.hid (st.home B0.out hrb)
  clear th st rd bv hla hlm hev hlen hjf k0 k1 k2 k3 k4 k5 HT0 H0
  go_wp2_with fail
  refine (pick_any rb fq (0 + 300000) 5 (by omega) (by omega) (by omega) _ ((RD.out.below (below_alloc _ _)).below (below_alloc _ _))).mono ?_
  rintro e w5 ⟨x5, rfl, lo5, hi5, h1, h2⟩
  have ht := ((HTH.out.below (below_alloc _ _)).below (below_alloc _ _)).chg h2 (by simp)
  obtain ⟨le, fe, ge, hgd⟩ := HEV.out.t.evs ht HEV.out.1 HEV.out.2.1
  have hel : le.length ≤ 1000 := by
    have h' := ge
    obtain ⟨_, _, _, e, h2, _⟩ := h'
    cases e
    omega
  have HE := Lib.hid ge
  have HGD := Lib.hid hgd
  have HEL := Lib.hid hel
  have HB5 := Lib.hid ((((HB.out.trans ((below_alloc _ _).mono HB.out.size)).trans ((below_alloc _ _).mono (Nat.le_trans HB.out.size (by simp)))).chg [rb]).trans' h2 |>.home (fun c hc => by simp at hc; omega))
  clear ht ge hgd hel h1 h2 HTH HEV RD HB
  go_wp2
  exact bodyPost_ret (v := .tuple #[.slice ea en ec, .int .i64 (x5 - 1)]) (by simp [results, Try.results27, go_sem]) rfl ⟨le, x5 - 1, ea, en, ec, fe, rfl, HE.out, HGD.out, HEL.out, HB5.out⟩

end Go.Proofs.Ytmcjklicepaiaaa
