/-
  What DrawTrcApart draws: a bus, and two things that happen.
-/
import Derived.Test.YtmcjklicepaiaaaPk37
import Derived.Test.YtmcjklicepaiaaaQDBusOk
import Derived.Deep.DeepCutAuto
namespace Go.Proofs.Ytmcjklicepaiaaa
set_option linter.unusedVariables false
set_option linter.unusedSimpArgs false
/-- what waits for what -/
def tbDrawTrcApart10 : List (List Nat) := [[], [], [], [0], [0, 1, 3], [0, 1, 2, 3, 4]]
open Go.RowKit Go.ChangeShapes Go.WideShapes

/-- what was not told of, and is no reader's, stays -/
theorem Step.home {rb : Nat} {T' : Tab} {w0 w w' : World} (h : Step [rb] (fun _ => none) w T' w') (hb : Below w0.heap.size w0 w) (hr : w0.heap.size ≤ rb) : Below w0.heap.size w0 w' :=
  ((hb.chg [rb]).trans' ⟨h.os, h.tape, h.output, h.size, fun k hk hn => h.block k hk hn rfl⟩).home (fun c hc => by simp at hc; omega)

/-- something that happens, in a box -/
structure EvBox (b : Nat) (x : Ev) (w : World) : Prop where
  c0 : w.cell? ⟨b, 0, none⟩ = some (.int .i64 x.kind)
  c1 : w.cell? ⟨b, 1, none⟩ = some (.int .i64 x.who)
  c2 : w.cell? ⟨b, 2, none⟩ = some (.int .i64 x.n)
  fr : ∀ o, w.frozen? ⟨b, o, none⟩ = false
theorem EvBox.chg {b : Nat} {x : Ev} {w w' : World} {fp : List Nat} (h : EvBox b x w) (hc : Chg fp w w') (hn : b ∉ fp) : EvBox b x w' :=
  ⟨keep_cell_chg hc h.c0 hn, keep_cell_chg hc h.c1 hn, keep_cell_chg hc h.c2 hn, fun o => (World.frozen?_of_block (hc.block b (block_of_cell h.c0) hn)).trans (h.fr o)⟩
theorem EvBox.set {b : Nat} {x y : Ev} {w w' : World} (h : EvBox b x w) (e : w' = ((w.setCell ⟨b, 0, none⟩ (.int .i64 y.kind)).setCell ⟨b, 1, none⟩ (.int .i64 y.who)).setCell ⟨b, 2, none⟩ (.int .i64 y.n)) : EvBox b y w' := by
  subst e
  obtain ⟨t0, t1, t2, -⟩ := fin3 (.int .i64 y.kind) (.int .i64 y.who) (.int .i64 y.n) h.c0 h.c1 h.c2
  exact ⟨t0, t1, t2, fun o => by simp only [World.frozen?_setCell]; exact h.fr o⟩

/-- how DrawTrcApart stands: the boxes of the bus and of both; the boxes of what it hands back -/
structure ApS (G : Gd) (L : List Nat) (rb : Nat) (fq : List Nat) (rc cb ab bb : Nat) (ws : World) (M : Int) (T : Tab) (lm : List MR) (fm : List Nat) (va : Option Addr) (vn vc : Nat) (la : Option Addr) (ln lc : Nat) (pa : Option Addr) (pn pc : Nat) (a b : Ev) (w : World) : Prop where
  th : TH G L T w
  rd : RdAt w rb fq M
  c0 : w.cell? ⟨cb, 0, none⟩ = some (.slice va vn vc)
  c1 : w.cell? ⟨cb, 1, none⟩ = some (.slice la ln lc)
  c2 : w.cell? ⟨cb, 2, none⟩ = some (.slice pa pn pc)
  fc : ∀ o, w.frozen? ⟨cb, o, none⟩ = false
  ea : EvBox ab a w
  eb : EvBox bb b w
  q0 : RoomAt rc 3 w
  q1 : RoomAt (rc + 1) 3 w
  q2 : RoomAt (rc + 1 + 1) 3 w
  mp : SlR 4 mrR w lm (.slice va vn vc) fm
  fz : Fz L T w fm
  lat : SlA T 1 la ln lc
  prg : SlA T 4 pa pn pc
  hm : lm.length ≤ 7
  st : Step [rb] (fun _ => none) ws T w
structure ApC (L : List Nat) (rb : Nat) (fq : List Nat) (rc cb ab bb : Nat) (ws : World) : Prop where
  hrb : rb ∈ L
  hfq : ∀ b, b ∈ fq → b ∈ L
  hcb : cb ∈ L
  hab : ab ∈ L
  hbb : bb ∈ L
  hrc : ∀ b, b ∈ [rc, rc + 1, rc + 1 + 1] → b ∈ L
  l0 : ws.heap.size ≤ cb
  l1 : rc + 2 < rb
  l2 : ∀ b, b ∈ fq → b < rb
  l3 : rb < cb
  l4 : cb < ab
  l5 : ab < bb

variable {G : Gd} {L fq fm : List Nat} {rb rc cb ab bb : Nat} {ws w w' : World} {M M' : Int} {T T' : Tab} {lm : List MR} {va la pa : Option Addr} {vn vc ln lc pn pc : Nat} {a b y : Ev}

theorem ApS.draw (C : ApC L rb fq rc cb ab bb ws) (h : ApS G L rb fq rc cb ab bb ws M T lm fm va vn vc la ln lc pa pn pc a b w) (hc : Chg [rb] w w') (hr : RdAt w' rb fq M') : ApS G L rb fq rc cb ab bb ws M' T lm fm va vn vc la ln lc pa pn pc a b w' := by
  obtain ⟨C1, C2, C3, C4, C5, C6, l0, l1, l2, l3, l4, l5⟩ := C
  have q : ∀ b, b ∈ [rb] → b ∈ L := by simpa using C1
  have nc : cb ∉ [rb] := by simp; omega
  have s := Step.of_chg (T := T) hc
  exact ⟨h.th.chg hc q, hr, keep_cell_chg hc h.c0 nc, keep_cell_chg hc h.c1 nc, keep_cell_chg hc h.c2 nc, fun o => (World.frozen?_of_block (hc.block cb (block_of_cell h.c0) nc)).trans (h.fc o), h.ea.chg hc (by simp; omega), h.eb.chg hc (by simp; omega), h.q0.chg hc (by simp; omega), h.q1.chg hc (by simp; omega), h.q2.chg hc (by simp; omega),
    h.mp.same mrR_fits (h.fz.same s q) hc.size, h.fz.step s, h.lat, h.prg, h.hm, h.st.trans s⟩
theorem ApS.setA (C : ApC L rb fq rc cb ab bb ws) (h : ApS G L rb fq rc cb ab bb ws M T lm fm va vn vc la ln lc pa pn pc a b w) (e : w' = ((w.setCell ⟨ab, 0, none⟩ (.int .i64 y.kind)).setCell ⟨ab, 1, none⟩ (.int .i64 y.who)).setCell ⟨ab, 2, none⟩ (.int .i64 y.n)) : ApS G L rb fq rc cb ab bb ws M T lm fm va vn vc la ln lc pa pn pc y b w' := by
  obtain ⟨C1, C2, C3, C4, C5, C6, l0, l1, l2, l3, l4, l5⟩ := C
  have hc : Chg [ab] w w' := by rw [e]; exact chg3 ab w _ _ _
  have q : ∀ b, b ∈ [ab] → b ∈ L := by simpa using C4
  have nc : cb ∉ [ab] := by simp; omega
  have s := Step.of_chg (T := T) hc
  exact ⟨h.th.chg hc q, h.rd.chg hc (by simp; omega) (fun b hb hm => by have := l2 b hb; simp at hm; omega), keep_cell_chg hc h.c0 nc, keep_cell_chg hc h.c1 nc, keep_cell_chg hc h.c2 nc, fun o => (World.frozen?_of_block (hc.block cb (block_of_cell h.c0) nc)).trans (h.fc o), h.ea.set e, h.eb.chg hc (by simp; omega), h.q0.chg hc (by simp; omega), h.q1.chg hc (by simp; omega), h.q2.chg hc (by simp; omega),
    h.mp.same mrR_fits (h.fz.same s q) hc.size, h.fz.step s, h.lat, h.prg, h.hm, h.st.later hc (fun c hm => by simp at hm; omega)⟩
theorem ApS.setB (C : ApC L rb fq rc cb ab bb ws) (h : ApS G L rb fq rc cb ab bb ws M T lm fm va vn vc la ln lc pa pn pc a b w) (e : w' = ((w.setCell ⟨bb, 0, none⟩ (.int .i64 y.kind)).setCell ⟨bb, 1, none⟩ (.int .i64 y.who)).setCell ⟨bb, 2, none⟩ (.int .i64 y.n)) : ApS G L rb fq rc cb ab bb ws M T lm fm va vn vc la ln lc pa pn pc a y w' := by
  obtain ⟨C1, C2, C3, C4, C5, C6, l0, l1, l2, l3, l4, l5⟩ := C
  have hc : Chg [bb] w w' := by rw [e]; exact chg3 bb w _ _ _
  have q : ∀ b, b ∈ [bb] → b ∈ L := by simpa using C5
  have nc : cb ∉ [bb] := by simp; omega
  have s := Step.of_chg (T := T) hc
  exact ⟨h.th.chg hc q, h.rd.chg hc (by simp; omega) (fun b hb hm => by have := l2 b hb; simp at hm; omega), keep_cell_chg hc h.c0 nc, keep_cell_chg hc h.c1 nc, keep_cell_chg hc h.c2 nc, fun o => (World.frozen?_of_block (hc.block cb (block_of_cell h.c0) nc)).trans (h.fc o), h.ea.chg hc (by simp; omega), h.eb.set e, h.q0.chg hc (by simp; omega), h.q1.chg hc (by simp; omega), h.q2.chg hc (by simp; omega),
    h.mp.same mrR_fits (h.fz.same s q) hc.size, h.fz.step s, h.lat, h.prg, h.hm, h.st.later hc (fun c hm => by simp at hm; omega)⟩
theorem ApS.mono (h : ApS G L rb fq rc cb ab bb ws M T lm fm va vn vc la ln lc pa pn pc a b w) (hm : M ≤ M') : ApS G L rb fq rc cb ab bb ws M' T lm fm va vn vc la ln lc pa pn pc a b w := { h with rd := h.rd.mono hm }
theorem ApS.any (h : ApS gFit L rb fq rc cb ab bb ws M T lm fm va vn vc la ln lc pa pn pc a b w) : ApS gAny L rb fq rc cb ab bb ws M T lm fm va vn vc la ln lc pa pn pc a b w :=
  { h with th := h.th.weaken (fun _ _ => trivial) (by decide) }
/-- another bus -/
theorem ApS.bus (C : ApC L rb fq rc cb ab bb ws) (h : ApS gFit L rb fq rc cb ab bb ws M T lm fm va vn vc la ln lc pa pn pc a b w) {e : Ending} {lm' : List MR} {fm' : List Nat} {va' la' pa' : Option Addr} {vn' vc' ln' lc' pn' pc' : Nat} (hp : BusPost gAny L rb fq T w M' e w' T' lm' fm' va' vn' vc' la' ln' lc' pa' pn' pc') (hm : lm'.length ≤ 7) {w2 : World}
    (e2 : w2 = ((w'.setCell ⟨cb, 0, none⟩ (.slice va' vn' vc')).setCell ⟨cb, 1, none⟩ (.slice la' ln' lc')).setCell ⟨cb, 2, none⟩ (.slice pa' pn' pc')) : ApS gAny L rb fq rc cb ab bb ws M' T' lm' fm' va' vn' vc' la' ln' lc' pa' pn' pc' a b w2 := by
  obtain ⟨C1, C2, C3, C4, C5, C6, l0, l1, l2, l3, l4, l5⟩ := C
  have hc : Chg [cb] w' w2 := by rw [e2]; exact chg3 cb w' _ _ _
  have q : ∀ b, b ∈ [cb] → b ∈ L := by simpa using C3
  have s1 := hp.st
  have tl : ∀ c, c ∈ L → T c = none := h.th.rd
  have n0 : ∀ c, c ≠ rb → c ∉ [rb] := fun c hc => by simpa using hc
  have box : ∀ {c : Nat} {x : Ev}, c ∈ L → c ≠ rb → c ≠ cb → EvBox c x w → EvBox c x w2 := fun {c x} hm hr hn E =>
    EvBox.chg ⟨s1.cell E.c0 (n0 c hr) (tl c hm), s1.cell E.c1 (n0 c hr) (tl c hm), s1.cell E.c2 (n0 c hr) (tl c hm), fun o => (World.frozen?_of_block (s1.block c (block_of_cell E.c0) (n0 c hr) (tl c hm))).trans (E.fr o)⟩ hc (by simpa using hn)
  have room : ∀ {c : Nat}, c ∈ L → c ≠ rb → c ≠ cb → RoomAt c 3 w → RoomAt c 3 w2 := fun {c} hm hr hn R =>
    RoomAt.chg ⟨Nat.lt_of_lt_of_le R.1 s1.size, fun j hj => (R.2.1 j hj).imp fun u hu => s1.cell hu (n0 c hr) (tl c hm), fun o => (World.frozen?_of_block (s1.block c R.1 (n0 c hr) (tl c hm))).trans (R.2.2 o)⟩ hc (by simpa using hn)
  have d0 := s1.cell h.c0 (n0 cb (by omega)) (tl cb C3)
  have d1 := s1.cell h.c1 (n0 cb (by omega)) (tl cb C3)
  have d2 := s1.cell h.c2 (n0 cb (by omega)) (tl cb C3)
  obtain ⟨t0, t1, t2, -⟩ := fin3 (.slice va' vn' vc') (.slice la' ln' lc') (.slice pa' pn' pc') d0 d1 d2
  refine ⟨hp.th.chg hc q, hp.rd.chg hc (by simp; omega) (fun b hb hm => by have := l2 b hb; simp at hm; omega), by rw [e2]; exact t0, by rw [e2]; exact t1, by rw [e2]; exact t2, fun o => (by rw [e2]; simp only [World.frozen?_setCell]; exact (World.frozen?_of_block (s1.block cb (block_of_cell h.c0) (n0 cb (by omega)) (tl cb C3))).trans (h.fc o)),
    box C4 (by omega) (by omega) h.ea, box C5 (by omega) (by omega) h.eb, room (C6 _ (by simp)) (by omega) (by omega) h.q0, room (C6 _ (by simp)) (by omega) (by omega) h.q1, room (C6 _ (by simp)) (by omega) (by omega) h.q2,
    hp.mp.same mrR_fits (hp.fz.same (Step.of_chg hc) q) hc.size, hp.fz.step (Step.of_chg hc), hp.lat, hp.prg, hm, (h.st.trans s1).later hc (fun c hm => by simp at hm; omega)⟩

set_option maxRecDepth 100000 in
set_option maxHeartbeats 12800000 in
theorem drawTrcApart_any (v : Value) (l : List Int) (fp : List Nat) (w : World) (g : ByteS w l v fp) :
    Calls Try.prog 24 #[v] w fun e w' => ∃ (x : Bus) (va la pa : Option Addr) (vn vc ln lc pn pc : Nat) (a b : Ev), e = .returned (.tuple #[.agg #[.slice va vn vc, .slice la ln lc, .slice pa pn pc], .agg #[.int .i64 a.kind, .int .i64 a.who, .int .i64 a.n], .agg #[.int .i64 b.kind, .int .i64 b.who, .int .i64 b.n]]) ∧ BusRd w' x (.slice va vn vc) (.slice la ln lc) (.slice pa pn pc) ∧ x.map.length ≤ 7 ∧ Below w.heap.size w w' := by
  obtain ⟨w1, hw1⟩ : ∃ z, z = ((w.alloc (.cells #[.slice none 0 0, .slice none 0 0, .slice none 0 0] 38)).alloc (.cells #[.int .i64 0, .int .i64 0, .int .i64 0] 47)).alloc (.cells #[.int .i64 0, .int .i64 0, .int .i64 0] 47) := ⟨_, rfl⟩
  have b1 : Below w.heap.size w w1 := by rw [hw1]; exact below3 w _ _ _
  have z1 : w1.heap.size = w.heap.size + 1 + 1 + 1 := by rw [hw1]; simp
  have q0 : RoomAt w.heap.size 3 w1 := by rw [hw1]; exact ((room_alloc rfl (by simp)).below (below_alloc _ _)).below (below_alloc _ _)
  have q1 : RoomAt (w.heap.size + 1) 3 w1 := by rw [hw1]; exact (room_alloc (by simp) (by simp)).below (below_alloc _ _)
  have q2 : RoomAt (w.heap.size + 1 + 1) 3 w1 := by rw [hw1]; exact room_alloc (by simp) (by simp)
  have G := Lib.hid (SlR.below byteR_fits g b1)
  have B := Lib.hid b1
  have Q0 := Lib.hid q0
  have Q1 := Lib.hid q1
  have Q2 := Lib.hid q2
  have Z1 := Lib.hid z1
  clear g b1 q0 q1 q2 z1
  go_enter Try.func24, Try.ntmps24
  go_upto_region 1 with fail
  rw [← hw1]
  clear hw1
  obtain ⟨rc, hrc⟩ : ∃ z, z = w.heap.size := ⟨_, rfl⟩
  rw [← hrc] at Q0 Q1 Q2
  rw [← hrc]
  have HRC := Lib.hid hrc
  clear hrc
  go_wp2_with fail
  refine (l20Open_any v l fp _ G.out).mono ?_
  rintro e w2 ⟨rb, fq, rfl, hrb, hfq, h0, b0⟩
  have hlt0 := h0.lt
  have hto : ∀ c, c ∈ [rc, rc + 1, rc + 1 + 1] ++ (rb :: fq) → c < w2.heap.size := fun c hc => by
    have := b0.size
    have := Z1.out
    have := HRC.out
    simp only [List.mem_append, List.mem_cons, List.not_mem_nil, or_false] at hc
    rcases hc with (rfl | rfl | rfl) | rfl | hc
    · omega
    · omega
    · omega
    · omega
    · exact h0.old c hc
  have H0 := Lib.hid h0
  have B0 := Lib.hid (B.out.trans (b0.mono B.out.size))
  have HT0 := Lib.hid (TH.empty gFit ([rc, rc + 1, rc + 1 + 1] ++ (rb :: fq)) w2 hto)
  have Q02 := Lib.hid (Q0.out.below b0)
  have Q12 := Lib.hid (Q1.out.below b0)
  have Q22 := Lib.hid (Q2.out.below b0)
  have HRB : Hid (rc + 2 < rb) := Lib.hid (by have := Z1.out; have := HRC.out; omega)
  have HFQ : Hid (∀ b, b ∈ fq → b < rb) := Lib.hid (fun b hb => by have := hfq b hb; omega)
  have HLT := Lib.hid hlt0
  clear h0 b0 hto hrb hfq Q0 Q1 Q2 G B Z1 hlt0
  go_wp2_with fail
  refine (l20Tlm_b ([rc, rc + 1, rc + 1 + 1] ++ (rb :: fq)) rb fq 0 60 (by omega) (by omega) (by omega) _ _ (by simp) (fun b hb => by simp [hb]) H0.out HT0.out).mono ?_
  rintro e w3 ⟨T, lm, fm, va, vn, vc, la, lc, pa, pc, ms, hs, qs, lx, ly, lz, v0, v1, v2, v3, v4, v5, ea, en, ec, rfl, th, st, rd, bv, hla, hlm, hev, hen, hlen, hjf, k0, k1, k2, k3, k4, k5⟩
  obtain ⟨_, _, _, rfl⟩ := k0.form
  obtain ⟨_, _, _, rfl⟩ := k1.form
  obtain ⟨_, _, _, rfl⟩ := k2.form
  obtain ⟨_, _, _, rfl⟩ := k3.form
  obtain ⟨_, _, _, rfl⟩ := k4.form
  obtain ⟨_, _, _, rfl⟩ := k5.form
  have HTH := Lib.hid th
  have ST := Lib.hid st
  have BV := Lib.hid bv
  have HLA := Lib.hid hla
  have HLM := Lib.hid hlm
  have HEV := Lib.hid hev
  have HLEN := Lib.hid hlen
  have RD := Lib.hid rd
  have K2 := Lib.hid k2
  have K3 := Lib.hid k3
  have K4 := Lib.hid k4
  have HEN := Lib.hid hen
  clear th st rd bv hla hlm hev hlen hjf k0 k1 k2 k3 k4 k5 HT0 H0 hen
  rename_i a0 n0 c0 a1 n1 c1 a2 n2 c2 a3 n3 c3 a4 n4 c4 a5 n5 c5
  obtain ⟨w4, hw4⟩ : ∃ z, z = (w3.alloc (.cells #[.slice va vn vc, .slice la 4 lc, .slice pa 3 pc] 38)).alloc (.cells #[.slice a0 n0 c0, .slice a1 n1 c1, .slice a2 n2 c2, .slice a3 n3 c3, .slice a4 n4 c4, .slice a5 n5 c5] 70) := ⟨_, rfl⟩
  have b4 : Below w3.heap.size w3 w4 := by rw [hw4]; exact (below_alloc _ _).trans ((below_alloc _ _).mono (by simp))
  have z4 : w4.heap.size = w3.heap.size + 1 + 1 := by rw [hw4]; simp
  have cbs : ∀ j (hj : j < 3), w4.cell? ⟨w3.heap.size, j, none⟩ = some ((#[.slice va vn vc, .slice la 4 lc, .slice pa 3 pc] : Array Value)[j]'hj) := fun j hj => by rw [hw4]; exact alloc_keep (alloc1_new _ _ _ j (by simp [show j < 3 from hj])) _
  have sbs : ∀ j (hj : j < 6), w4.cell? ⟨w3.heap.size + 1, j, none⟩ = some ((#[.slice a0 n0 c0, .slice a1 n1 c1, .slice a2 n2 c2, .slice a3 n3 c3, .slice a4 n4 c4, .slice a5 n5 c5] : Array Value)[j]'hj) := fun j hj => by rw [hw4]; exact alloc2_new _ _ _ _ _ j (by simp [show j < 6 from hj])
  have cfs : ∀ o, w4.frozen? ⟨w3.heap.size, o, none⟩ = false := fun o => by rw [hw4]; exact keep_free (below_alloc _ _) (by simp) (alloc1_free _ _ _ _)
  go_upto_region 3 with fail
  rw [← hw4]
  clear hw4
  have hrl := HLT.out
  have zz := ST.out.size
  obtain ⟨cb, hcb⟩ : ∃ z, z = w3.heap.size := ⟨_, rfl⟩
  rw [← hcb] at cbs sbs cfs z4
  rw [← hcb]
  obtain ⟨L0, hL0⟩ : ∃ z, z = [rc, rc + 1, rc + 1 + 1] ++ (rb :: fq) := ⟨_, rfl⟩
  rw [← hL0] at HTH BV
  have hrbL : rb ∈ L0 := by rw [hL0]; simp
  have nC : cb ∉ [rb] := by simp; omega
  have nS : cb + 1 ∉ [rb] := by simp; omega
  have th4 : TH gFit (cb :: L0) T w4 := HTH.out.opened b4 (by omega) (by omega)
  have hcbs := cbs
  have hsbs := sbs
  have u0 := cbs 0 (by decide)
  have u1 := cbs 1 (by decide)
  have u2 := cbs 2 (by decide)
  have s0 := sbs 0 (by decide)
  have s1 := sbs 1 (by decide)
  have s2 := sbs 2 (by decide)
  have s3 := sbs 3 (by decide)
  have s4 := sbs 4 (by decide)
  have s5 := sbs 5 (by decide)
  simp only [List.getElem_toArray, List.getElem_cons_zero, List.getElem_cons_succ] at u0 u1 u2 s0 s1 s2 s3 s4 s5
  obtain ⟨fa, k2, n2lo⟩ := K2.out
  obtain ⟨fx, k3, n3lo⟩ := K3.out
  obtain ⟨fy, k4, n4lo⟩ := K4.out
  have na : rb ∉ fa := fun hm => by have := n2lo rb hm; omega
  have nx : rb ∉ fx := fun hm => by have := n3lo rb hm; omega
  have ny : rb ∉ fy := fun hm => by have := n4lo rb hm; omega
  have G2 := Lib.hid (SlR.below intR_fits k2 b4)
  have G3 := Lib.hid (SlR.below jobR_fits k3 b4)
  have G4 := Lib.hid (SlR.below jobR_fits k4 b4)
  have RD4 := Lib.hid (RD.out.below b4)
  have TH4 := Lib.hid th4
  have CBS := Lib.hid hcbs
  have SBS := Lib.hid hsbs
  have CFS := Lib.hid cfs
  have B4 := Lib.hid b4
  have Z4 := Lib.hid z4
  have HCB := Lib.hid hcb
  have NA := Lib.hid na
  have NX := Lib.hid nx
  have NY := Lib.hid ny
  have HL0 := Lib.hid hL0
  have FQ4 : Hid (∀ b, b ∈ fq → b < w4.heap.size) := Lib.hid (fun b hb => by have := HFQ.out b hb; omega)
  clear cbs sbs hcbs hsbs cfs b4 z4 hcb th4 k2 k3 k4 n2lo n3lo n4lo na nx ny K2 K3 K4 RD hL0
  go_wp2_with fail
  refine (l20TlmEvent_b rb fq (0 + 300000) (by omega) _ _ _ _ _ _ _ _ _ qs lx ly fa fx fy HLEN.out.2.2.1 HLEN.out.2.2.2.1 HLEN.out.2.2.2.2.1 _ RD4.out FQ4.out ⟨⟨_, _, _, rfl⟩, ⟨_, _, _, rfl⟩, ⟨_, _, _, rfl⟩, ⟨_, _, _, rfl⟩, ⟨_, _, _, rfl⟩, ⟨_, _, _, rfl⟩⟩ G2.out G3.out G4.out NA.out NX.out NY.out).mono ?_
  rintro e w5 ⟨ka, wa, na, rfl, h1, h2⟩
  obtain ⟨w6, hw6⟩ : ∃ z, z = w5.alloc (.cells #[.int .i64 ka, .int .i64 wa, .int .i64 na] 47) := ⟨_, rfl⟩
  have b6 : Below w5.heap.size w5 w6 := by rw [hw6]; exact below_alloc _ _
  have z6 : w6.heap.size = w5.heap.size + 1 := by rw [hw6]; simp
  have ea6 : EvBox w5.heap.size ⟨ka, wa, na⟩ w6 := by rw [hw6]; exact ⟨alloc1_new _ _ _ 0 rfl, alloc1_new _ _ _ 1 rfl, alloc1_new _ _ _ 2 rfl, fun o => alloc1_free _ _ _ _⟩
  go_upto_region 4 with fail
  rw [← hw6]
  clear hw6
  have hc6 : Chg [rb] w4 w6 := h2.trans' (b6.chg _)
  replace u0 := keep_cell_chg hc6 u0 nC
  replace u1 := keep_cell_chg hc6 u1 nC
  replace u2 := keep_cell_chg hc6 u2 nC
  replace s0 := keep_cell_chg hc6 s0 nS
  replace s1 := keep_cell_chg hc6 s1 nS
  replace s2 := keep_cell_chg hc6 s2 nS
  replace s3 := keep_cell_chg hc6 s3 nS
  replace s4 := keep_cell_chg hc6 s4 nS
  replace s5 := keep_cell_chg hc6 s5 nS
  obtain ⟨ab, hab⟩ : ∃ z, z = w5.heap.size := ⟨_, rfl⟩
  have z45 := h2.size
  have th5 := TH4.out.chg h2 (fun c hc => by simp at hc; subst hc; exact List.mem_cons_of_mem _ hrbL)
  have th6 : TH gFit (ab :: cb :: L0) T w6 := th5.opened b6 (by omega) (by omega)
  have NAb : Hid (cb < ab) := Lib.hid (by have := Z4.out; omega)
  rw [← hab] at ea6 z6
  rw [← hab]
  have HE6 := Lib.hid ea6
  have TH6 := Lib.hid th6
  have C6 := Lib.hid hc6
  have RD6 := Lib.hid (h1.below b6)
  have G26 := Lib.hid (G2.out.chg intR_fits hc6 (fun c hm e => NA.out (by simp at e; exact e ▸ hm)))
  have G36 := Lib.hid (G3.out.chg jobR_fits hc6 (fun c hm e => NX.out (by simp at e; exact e ▸ hm)))
  have G46 := Lib.hid (G4.out.chg jobR_fits hc6 (fun c hm e => NY.out (by simp at e; exact e ▸ hm)))
  have FQ6 : Hid (∀ b, b ∈ fq → b < w6.heap.size) := Lib.hid (fun b hb => Nat.lt_of_lt_of_le (FQ4.out b hb) C6.out.size)
  have Z6 := Lib.hid z6
  clear h1 h2 b6 z6 ea6 hc6 th5 th6 hab G2 G3 G4 RD4 FQ4 TH4 z45
  go_wp2_with fail
  refine (l20TlmEvent_b rb fq (0 + 300000 + 20) (by omega) _ _ _ _ _ _ _ _ _ qs lx ly fa fx fy HLEN.out.2.2.1 HLEN.out.2.2.2.1 HLEN.out.2.2.2.2.1 _ RD6.out FQ6.out ⟨⟨_, _, _, rfl⟩, ⟨_, _, _, rfl⟩, ⟨_, _, _, rfl⟩, ⟨_, _, _, rfl⟩, ⟨_, _, _, rfl⟩, ⟨_, _, _, rfl⟩⟩ G26.out G36.out G46.out NA.out NX.out NY.out).mono ?_
  rintro e w7 ⟨kb, wb, nb, rfl, h1, h2⟩
  obtain ⟨w8, hw8⟩ : ∃ z, z = w7.alloc (.cells #[.int .i64 kb, .int .i64 wb, .int .i64 nb] 47) := ⟨_, rfl⟩
  have b8 : Below w7.heap.size w7 w8 := by rw [hw8]; exact below_alloc _ _
  have z8 : w8.heap.size = w7.heap.size + 1 := by rw [hw8]; simp
  have eb8 : EvBox w7.heap.size ⟨kb, wb, nb⟩ w8 := by rw [hw8]; exact ⟨alloc1_new _ _ _ 0 rfl, alloc1_new _ _ _ 1 rfl, alloc1_new _ _ _ 2 rfl, fun o => alloc1_free _ _ _ _⟩
  go_upto_region 5 with fail
  rw [← hw8]
  clear hw8
  have hc8 : Chg [rb] w6 w8 := h2.trans' (b8.chg _)
  obtain ⟨bb, hbb⟩ : ∃ z, z = w7.heap.size := ⟨_, rfl⟩
  have z67 := h2.size
  have th7 := TH6.out.chg h2 (fun c hc => by simp at hc; subst hc; exact List.mem_cons_of_mem _ (List.mem_cons_of_mem _ hrbL))
  obtain ⟨L, hL⟩ : ∃ z, z = bb :: ab :: cb :: L0 := ⟨_, rfl⟩
  have th8 : TH gFit L T w8 := by rw [hL]; exact th7.opened b8 (by omega) (by omega)
  have hc38 : Chg [rb] w3 w8 := ((B4.out.chg [rb]).trans' C6.out).trans' hc8
  have s38 := Step.of_chg (T := T) hc38
  have hr0 : ∀ c, c ∈ [rc, rc + 1, rc + 1 + 1] → c ∈ L0 := fun c hc => by rw [HL0.out]; exact List.mem_append_left _ hc
  have hq0 : ∀ c, c ∈ fq → c ∈ L0 := fun c hc => by rw [HL0.out]; simp [hc]
  have hls : L0.length = L0.length := rfl
  have AC : Hid (ApC L rb fq rc cb ab bb w2) := Lib.hid (by
    have e1 := HRB.out
    have e2 := HFQ.out
    have e3 := NAb.out
    have e4 := Z6.out
    have e5 := HCB.out
    subst hL
    exact ⟨by simp [hrbL], fun b hb => by simp [hq0 b hb], by simp, by simp, by simp, fun b hb => by simp only [List.mem_cons]; exact .inr (.inr (.inr (hr0 b hb))), by omega, e1, e2, by omega, e3, by omega⟩)
  have nq : ∀ c, c ∈ [rc, rc + 1, rc + 1 + 1] → c ∉ [rb] := fun c hc => by have := HRB.out; simp at hc ⊢; omega
  have sq := ST.out.bare.trans' hc38
  have AS : Hid (ApS gFit L rb fq rc cb ab bb w2 (0 + 300000 + 20 + 20) T lm fm va vn vc la 4 lc pa 3 pc ⟨ka, wa, na⟩ ⟨kb, wb, nb⟩ w8) := Lib.hid (by
    have hfz : Fz L T w8 fm := fun b hb => by
      obtain ⟨g1, g2, g3⟩ := BV.out.fz b hb
      have e3 := NAb.out
      have e4 := Z6.out
      have e5 := HCB.out
      have e6 := hc38.size
      refine ⟨g1, ?_, by omega⟩
      rw [hL]
      simp only [List.mem_cons, not_or]
      exact ⟨by omega, by omega, by omega, g2⟩
    refine ⟨th8, h1.below b8, keep_cell_chg hc8 u0 nC, keep_cell_chg hc8 u1 nC, keep_cell_chg hc8 u2 nC, fun o => ?_, HE6.out.chg hc8 (by have := NAb.out; have := HCB.out; simp; omega), by rw [hbb]; exact eb8, Q02.out.chg sq (nq _ (by simp)), Q12.out.chg sq (nq _ (by simp)), Q22.out.chg sq (nq _ (by simp)), BV.out.mp.same mrR_fits (BV.out.fz.same s38 (fun c hc => by simp at hc; subst hc; exact hrbL)) hc38.size, hfz, HLA.out, BV.out.prg, HLM.out, ST.out.trans s38⟩
    exact (World.frozen?_of_block ((C6.out.trans' hc8).block cb (by have := Z4.out; omega) nC)).trans (CFS.out o))
  rw [← hbb]
  clear h1 h2 b8 z8 eb8 hc8 hbb z67 th7 th8 hc38 s38 hr0 hq0 hls nq sq u0 u1 u2 s0 s1 s2 s3 s4 s5 hL hrbL hrl zz nC nS TH6 C6 RD6 G26 G36 G46 FQ6 Z6 HE6 B4 Z4 HCB CBS SBS CFS BV HTH ST HLA HLM HL0 NA NX NY NAb
  go_cut [34] (fun t34 wc => ∃ b34 : Bool, t34 = .bool b34 ∧ (b34 = true → 1 < en) ∧ ApS gFit L rb fq rc cb ab bb w2 300041 T lm fm va vn vc la 4 lc pa 3 pc ⟨ka, wa, na⟩ ⟨kb, wb, nb⟩ wc)
  case first =>
    by_cases h1 : 1 < en
    · have h1i : (1 : Int) < (en : Int) := by omega
      go_wp2_with fail
      refine (pick_any rb fq (0 + 300000 + 20 + 20) 3 (by omega) (by omega) (by omega) _ AS.out.rd).mono ?_
      rintro e w9 ⟨x9, rfl, lo9, hi9, g1, g2⟩
      have AS9 := Lib.hid (AS.out.draw AC.out g2 g1)
      clear g1 g2
      go_wp2_with fail
      go_meet
      case rel => exact ⟨_, rfl, fun _ => h1, AS9.out.mono (by omega)⟩
    · have h1i : ¬ (1 : Int) < (en : Int) := by omega
      go_wp2_with fail
      go_meet
      case rel => exact ⟨false, rfl, (fun h => by cases h), AS.out.mono (by omega)⟩
  case rest =>
    obtain ⟨b34, rfl, hb34, hs⟩ := hcut
    have HB34 := Lib.hid hb34
    have AS1 := Lib.hid hs
    clear hb34 hs AS
    go_upto_if 34 with fail
    go_cut [] (fun wc => ∃ a b, ApS gFit L rb fq rc cb ab bb w2 300043 T lm fm va vn vc la 4 lc pa 3 pc a b wc)
    case first =>
      cases b34
      · go_wp2_with fail
        go_meet
        case rel => exact ⟨_, _, AS1.out.mono (by omega)⟩
      · have h1 : 1 < en := HB34.out rfl
        have h1i : (1 : Int) < (en : Int) := by omega
        have hen := HEN.out
        go_wp2_with fail
        refine (pick_any rb fq 300041 (en : Int) (by omega) (by omega) (by omega) _ AS1.out.rd).mono ?_
        rintro e w9 ⟨x9, rfl, lo9, hi9, g1, g2⟩
        have hs9 := AS1.out.draw AC.out g2 g1
        obtain ⟨i9, rfl⟩ := Int.eq_ofNat_of_zero_le lo9
        have hi9n : i9 < en := by omega
        obtain ⟨le, fe, ge, -⟩ := HEV.out.t.evs hs9.th HEV.out.1 HEV.out.2.1
        obtain ⟨_, _, _, e, _, _, _, _, r9⟩ := ge.opened
        cases e
        obtain ⟨j1, be, oe, f1, cs1, rfl, _, _, _, ⟨rfl, rfl⟩, e1⟩ := r9 i9 hi9n
        obtain ⟨y9, hy9⟩ : ∃ z, z = le[i9] := ⟨_, rfl⟩
        have p0 := e1 0 (by simp)
        have p1 := e1 1 (by simp)
        have p2 := e1 2 (by simp)
        simp only [Nat.add_zero, List.getElem_cons_zero, List.getElem_cons_succ] at p0 p1 p2
        rw [← hy9] at p0 p1 p2
        have AS9 := Lib.hid hs9
        clear r9 e1 hy9 j1 ge g1 g2 hs9 lo9 hi9
        have t0 := AS9.out.ea.c0
        have t1 := AS9.out.ea.c1
        have t2 := AS9.out.ea.c2
        have f0 := AS9.out.ea.fr 0
        have f1 := AS9.out.ea.fr 1
        have f2 := AS9.out.ea.fr 2
        go_upto_region 7 with fail
        have AS10 := Lib.hid (AS9.out.setA (y := y9) AC.out rfl)
        clear t0 t1 t2 f0 f1 f2 p0 p1 p2 AS9
        go_wp2_with fail
        refine (pick_any rb fq (300041 + 1) (en : Int) (by omega) (by omega) (by omega) _ AS10.out.rd).mono ?_
        rintro e w10 ⟨x10, rfl, lo10, hi10, g1, g2⟩
        have hs10 := AS10.out.draw AC.out g2 g1
        obtain ⟨i10, rfl⟩ := Int.eq_ofNat_of_zero_le lo10
        have hi10n : i10 < en := by omega
        obtain ⟨le, fe, ge, -⟩ := HEV.out.t.evs hs10.th HEV.out.1 HEV.out.2.1
        obtain ⟨_, _, _, e, _, _, _, _, r9⟩ := ge.opened
        cases e
        obtain ⟨j1, be2, oe2, f1, cs1, e, _, _, _, ⟨rfl, rfl⟩, e1⟩ := r9 i10 hi10n
        cases e
        obtain ⟨y10, hy10⟩ : ∃ z, z = le[i10] := ⟨_, rfl⟩
        have p0 := e1 0 (by simp)
        have p1 := e1 1 (by simp)
        have p2 := e1 2 (by simp)
        simp only [Nat.add_zero, List.getElem_cons_zero, List.getElem_cons_succ] at p0 p1 p2
        rw [← hy10] at p0 p1 p2
        have AS11 := Lib.hid hs10
        clear r9 e1 hy10 j1 ge g1 g2 hs10 lo10 hi10
        have t0 := AS11.out.eb.c0
        have t1 := AS11.out.eb.c1
        have t2 := AS11.out.eb.c2
        have f0 := AS11.out.eb.fr 0
        have f1 := AS11.out.eb.fr 1
        have f2 := AS11.out.eb.fr 2
        go_wp2_with fail
        go_meet
        case rel => exact ⟨_, _, (AS11.out.setB (y := y10) AC.out rfl).mono (by omega)⟩
    case rest =>
      obtain ⟨a, b, hs⟩ := hcut
      have AS2 := Lib.hid hs
      clear hs AS1 HB34 HEV
      go_wp2_with fail
      refine (odd_any rb fq 300043 16 (by omega) (by omega) (by omega) _ AS2.out.rd).mono ?_
      rintro e w9 ⟨⟨b50, rfl⟩, g1, g2⟩
      have AS3 := Lib.hid (AS2.out.draw AC.out g2 g1)
      clear g1 g2 AS2
      go_upto_if 50 with fail
      go_cut [] (fun wc => ∃ M T lm fm va vn vc la ln lc pa pn pc, ApS gAny L rb fq rc cb ab bb w2 M T lm fm va vn vc la ln lc pa pn pc a b wc)
      case first =>
        cases b50
        · go_wp2_with fail
          go_meet
          case rel => exact ⟨_, _, _, _, _, _, _, _, _, _, _, _, _, AS3.out.any⟩
        · go_wp2_with fail
          refine (l20BusOr_any L rb fq (300043 + 1) 1 (by omega) (by omega) (by omega) _ _ AC.out.hrb AC.out.hfq AS3.out.rd AS3.out.th).mono ?_
          rintro e w10 ⟨T', lm', fm', va', vn', vc', la', ln', lc', pa', pn', pc', hp, hml⟩
          have e0 := hp.ret
          have HP := Lib.hid hp
          have HML := Lib.hid hml
          have tl := AS3.out.th.rd cb AC.out.hcb
          have nC : cb ∉ [rb] := by have := AC.out.l3; simp; omega
          have t0 := hp.st.cell AS3.out.c0 nC tl
          have t1 := hp.st.cell AS3.out.c1 nC tl
          have t2 := hp.st.cell AS3.out.c2 nC tl
          have ff : ∀ o, w10.frozen? ⟨cb, o, none⟩ = false := fun o => (World.frozen?_of_block (hp.st.block cb (block_of_cell AS3.out.c0) nC tl)).trans (AS3.out.fc o)
          have f0 := ff 0
          have f1 := ff 1
          have f2 := ff 2
          rw [e0]
          clear hp hml e0 ff tl nC
          go_wp2_with fail
          go_meet
          case rel => exact ⟨_, _, _, _, _, _, _, _, _, _, _, _, _, AS3.out.bus AC.out HP.out HML.out rfl⟩
      case rest =>
        obtain ⟨M, T', lm', fm', va', vn', vc', la', ln', lc', pa', pn', pc', hs⟩ := hcut
        have AS4 := Lib.hid hs
        clear hs AS3
        have c0 := AS4.out.c0
        have c1 := AS4.out.c1
        have c2 := AS4.out.c2
        have a0 := AS4.out.ea.c0
        have a1 := AS4.out.ea.c1
        have a2 := AS4.out.ea.c2
        have b0 := AS4.out.eb.c0
        have b1 := AS4.out.eb.c1
        have b2 := AS4.out.eb.c2
        have Q0 := AS4.out.q0
        have Q1 := AS4.out.q1
        have Q2 := AS4.out.q2
        have nc : cb ∉ [rc, rc + 1, rc + 1 + 1] := by have := AC.out.l1; have := AC.out.l3; simp; omega
        have na : ab ∉ [rc, rc + 1, rc + 1 + 1] := by have := AC.out.l1; have := AC.out.l3; have := AC.out.l4; simp; omega
        have nb : bb ∉ [rc, rc + 1, rc + 1 + 1] := by have := AC.out.l1; have := AC.out.l3; have := AC.out.l4; have := AC.out.l5; simp; omega
        go_upto_region 10 with fail
        have hst : ∀ F, F ∈ [FEq (.agg #[.slice va' vn' vc', .slice la' ln' lc', .slice pa' pn' pc']), FEq (.agg #[.int .i64 a.kind, .int .i64 a.who, .int .i64 a.n]), FEq (.agg #[.int .i64 b.kind, .int .i64 b.who, .int .i64 b.n]), FCs rc [.slice va' vn' vc', .slice la' ln' lc', .slice pa' pn' pc'], FCs (rc + 1) [.int .i64 a.kind, .int .i64 a.who, .int .i64 a.n], FCs (rc + 1 + 1) [.int .i64 b.kind, .int .i64 b.who, .int .i64 b.n]] → Stable [] F := by
          simp only [List.forall_mem_cons]
          exact ⟨stEq _ _, stEq _ _, stEq _ _, stCs _ _, stCs _ _, stCs _ _, fun _ h => by simp at h⟩
        refine wp_region_tail (by kernel_rfl) (fun i => (tbDrawTrcApart10 : List (List Nat)).getD i []) (facts [FEq (.agg #[.slice va' vn' vc', .slice la' ln' lc', .slice pa' pn' pc']), FEq (.agg #[.int .i64 a.kind, .int .i64 a.who, .int .i64 a.n]), FEq (.agg #[.int .i64 b.kind, .int .i64 b.who, .int .i64 b.n]), FCs rc [.slice va' vn' vc', .slice la' ln' lc', .slice pa' pn' pc'], FCs (rc + 1) [.int .i64 a.kind, .int .i64 a.who, .int .i64 a.n], FCs (rc + 1 + 1) [.int .i64 b.kind, .int .i64 b.who, .int .i64 b.n]]) (fun m w' => Chg [rc, rc + 1, rc + 1 + 1] wc w' ∧ (RoomAt rc 3 w' ∧ RoomAt (rc + 1) 3 w' ∧ RoomAt (rc + 1 + 1) 3 w')) 56 6 6 [some 53, some 54, some 55, none, none, none] [] rfl rfl (by decide) rfl rfl (by kernel_rfl) (by kernel_rfl) [] (by kernel_rfl) (fun g b hm v w h => by simp at hm) ?h0 (all_lt (n := 6) ?hop) ?hend
        case h0 => exact ⟨(Chg.refl _ _).drewN 1, ⟨Q0, Q1, Q2⟩⟩
        case hop =>
          refine ⟨⟨⟨⟨⟨⟨trivial, ?_⟩, ?_⟩, ?_⟩, ?_⟩, ?_⟩, ?_⟩
          · refine Owes.q 56 (fun u => [(6, .pointer (some ⟨cb, 0, none⟩))]) fun u w' hI hR => ?_; dsimp only [frm, List.foldl, List.replicate, List.set]; obtain ⟨_, hI⟩ := hI; have k0 := keep_cell_chg hI.1 c0 nc; have k1 := keep_cell_chg hI.1 c1 nc; have k2 := keep_cell_chg hI.1 c2 nc; clear hI hst hR; go_wp2; exact ⟨rfl, _, rfl, rfl, rfl⟩
          · refine Owes.q 56 (fun u => [(9, .pointer (some ⟨ab, 0, none⟩))]) fun u w' hI hR => ?_; dsimp only [frm, List.foldl, List.replicate, List.set]; obtain ⟨_, hI⟩ := hI; have k3 := keep_cell_chg hI.1 a0 na; have k4 := keep_cell_chg hI.1 a1 na; have k5 := keep_cell_chg hI.1 a2 na; clear hI hst hR; go_wp2; exact ⟨rfl, _, rfl, rfl, rfl⟩
          · refine Owes.q 56 (fun u => [(10, .pointer (some ⟨bb, 0, none⟩))]) fun u w' hI hR => ?_; dsimp only [frm, List.foldl, List.replicate, List.set]; obtain ⟨_, hI⟩ := hI; have k6 := keep_cell_chg hI.1 b0 nb; have k7 := keep_cell_chg hI.1 b1 nb; have k8 := keep_cell_chg hI.1 b2 nb; clear hI hst hR; go_wp2; exact ⟨rfl, _, rfl, rfl, rfl⟩
          · refine Owes.mk _ rfl rfl (fun _ _ h => by cases h) fun u m w' hm hI hR => ⟨⟨(frm 56 [(2, .pointer (some ⟨rc, 0, none⟩)), (53, u 0)]).toArray, []⟩, rfl, fun d hd => (by cases hd), ?_⟩
            dsimp only [frm, List.foldl, List.replicate, List.set]
            have e0 : u 0 = _ := hR 0 (by decide)
            have k0 := keep_cell_chg hI.1 c0 nc
            have k1 := keep_cell_chg hI.1 c1 nc
            have k2 := keep_cell_chg hI.1 c2 nc
            have k3 := keep_cell_chg hI.1 a0 na
            have k4 := keep_cell_chg hI.1 a1 na
            have k5 := keep_cell_chg hI.1 a2 na
            have k6 := keep_cell_chg hI.1 b0 nb
            have k7 := keep_cell_chg hI.1 b1 nb
            have k8 := keep_cell_chg hI.1 b2 nb
            rw [e0]
            clear e0
            obtain ⟨hc, hr0, hr1, hr2⟩ := hI
            obtain ⟨y0, p0⟩ := hr0.2.1 0 (by omega)
            obtain ⟨y1, p1⟩ := hr0.2.1 1 (by omega)
            obtain ⟨y2, p2⟩ := hr0.2.1 2 (by omega)
            have f0 := hr0.2.2 0
            have f1 := hr0.2.2 1
            have f2 := hr0.2.2 2
            have HCh := Lib.hid hc
            have HR0 := Lib.hid hr0
            have HR1 := Lib.hid hr1
            have HR2 := Lib.hid hr2
            clear hc hr0 hr1 hr2 hR hst
            go_wp2
            have c3 := chg3 (rc) w' (.slice va' vn' vc') (.slice la' ln' lc') (.slice pa' pn' pc')
            exact ⟨rfl, undef, rfl, FCs.three (v := undef) p0 p1 p2, ⟨HCh.out.trans' (c3.mono (by simp)), ((HR0.out.set (by omega)).set (by omega)).set (by omega), HR1.out.chg c3 (by simp only [List.mem_singleton]; omega), HR2.out.chg c3 (by simp only [List.mem_singleton]; omega)⟩, fun j_ x_ h => by match j_, h with | 0, h => exact h | 1, h => exact h | 2, h => exact h | 3, _ => exact FCs.three (v := undef) p0 p1 p2 | 4, h => exact fun q_ hq_ => keep_cell_chg c3 (h q_ hq_) (by simp only [List.mem_singleton]; omega) | 5, h => exact fun q_ hq_ => keep_cell_chg c3 (h q_ hq_) (by simp only [List.mem_singleton]; omega) | (j_+6), _ => trivial⟩
          · refine Owes.mk _ rfl rfl (fun _ _ h => by cases h) fun u m w' hm hI hR => ⟨⟨(frm 56 [(3, .pointer (some ⟨rc + 1, 0, none⟩)), (54, u 1)]).toArray, []⟩, rfl, fun d hd => (by cases hd), ?_⟩
            dsimp only [frm, List.foldl, List.replicate, List.set]
            have e1 : u 1 = _ := hR 1 (by decide)
            have k0 := keep_cell_chg hI.1 c0 nc
            have k1 := keep_cell_chg hI.1 c1 nc
            have k2 := keep_cell_chg hI.1 c2 nc
            have k3 := keep_cell_chg hI.1 a0 na
            have k4 := keep_cell_chg hI.1 a1 na
            have k5 := keep_cell_chg hI.1 a2 na
            have k6 := keep_cell_chg hI.1 b0 nb
            have k7 := keep_cell_chg hI.1 b1 nb
            have k8 := keep_cell_chg hI.1 b2 nb
            rw [e1]
            clear e1
            obtain ⟨hc, hr0, hr1, hr2⟩ := hI
            obtain ⟨y0, p0⟩ := hr1.2.1 0 (by omega)
            obtain ⟨y1, p1⟩ := hr1.2.1 1 (by omega)
            obtain ⟨y2, p2⟩ := hr1.2.1 2 (by omega)
            have f0 := hr1.2.2 0
            have f1 := hr1.2.2 1
            have f2 := hr1.2.2 2
            have HCh := Lib.hid hc
            have HR0 := Lib.hid hr0
            have HR1 := Lib.hid hr1
            have HR2 := Lib.hid hr2
            clear hc hr0 hr1 hr2 hR hst
            go_wp2
            have c3 := chg3 (rc + 1) w' (.int .i64 a.kind) (.int .i64 a.who) (.int .i64 a.n)
            exact ⟨rfl, undef, rfl, FCs.three (v := undef) p0 p1 p2, ⟨HCh.out.trans' (c3.mono (by simp)), HR0.out.chg c3 (by simp only [List.mem_singleton]; omega), ((HR1.out.set (by omega)).set (by omega)).set (by omega), HR2.out.chg c3 (by simp only [List.mem_singleton]; omega)⟩, fun j_ x_ h => by match j_, h with | 0, h => exact h | 1, h => exact h | 2, h => exact h | 3, h => exact fun q_ hq_ => keep_cell_chg c3 (h q_ hq_) (by simp only [List.mem_singleton]; omega) | 4, _ => exact FCs.three (v := undef) p0 p1 p2 | 5, h => exact fun q_ hq_ => keep_cell_chg c3 (h q_ hq_) (by simp only [List.mem_singleton]; omega) | (j_+6), _ => trivial⟩
          · refine Owes.mk _ rfl rfl (fun _ _ h => by cases h) fun u m w' hm hI hR => ⟨⟨(frm 56 [(4, .pointer (some ⟨rc + 1 + 1, 0, none⟩)), (55, u 2)]).toArray, []⟩, rfl, fun d hd => (by cases hd), ?_⟩
            dsimp only [frm, List.foldl, List.replicate, List.set]
            have e2 : u 2 = _ := hR 2 (by decide)
            have k0 := keep_cell_chg hI.1 c0 nc
            have k1 := keep_cell_chg hI.1 c1 nc
            have k2 := keep_cell_chg hI.1 c2 nc
            have k3 := keep_cell_chg hI.1 a0 na
            have k4 := keep_cell_chg hI.1 a1 na
            have k5 := keep_cell_chg hI.1 a2 na
            have k6 := keep_cell_chg hI.1 b0 nb
            have k7 := keep_cell_chg hI.1 b1 nb
            have k8 := keep_cell_chg hI.1 b2 nb
            rw [e2]
            clear e2
            obtain ⟨hc, hr0, hr1, hr2⟩ := hI
            obtain ⟨y0, p0⟩ := hr2.2.1 0 (by omega)
            obtain ⟨y1, p1⟩ := hr2.2.1 1 (by omega)
            obtain ⟨y2, p2⟩ := hr2.2.1 2 (by omega)
            have f0 := hr2.2.2 0
            have f1 := hr2.2.2 1
            have f2 := hr2.2.2 2
            have HCh := Lib.hid hc
            have HR0 := Lib.hid hr0
            have HR1 := Lib.hid hr1
            have HR2 := Lib.hid hr2
            clear hc hr0 hr1 hr2 hR hst
            go_wp2
            have c3 := chg3 (rc + 1 + 1) w' (.int .i64 b.kind) (.int .i64 b.who) (.int .i64 b.n)
            exact ⟨rfl, undef, rfl, FCs.three (v := undef) p0 p1 p2, ⟨HCh.out.trans' (c3.mono (by simp)), HR0.out.chg c3 (by simp only [List.mem_singleton]; omega), HR1.out.chg c3 (by simp only [List.mem_singleton]; omega), ((HR2.out.set (by omega)).set (by omega)).set (by omega)⟩, fun j_ x_ h => by match j_, h with | 0, h => exact h | 1, h => exact h | 2, h => exact h | 3, h => exact fun q_ hq_ => keep_cell_chg c3 (h q_ hq_) (by simp only [List.mem_singleton]; omega) | 4, h => exact fun q_ hq_ => keep_cell_chg c3 (h q_ hq_) (by simp only [List.mem_singleton]; omega) | 5, _ => exact FCs.three (v := undef) p0 p1 p2 | (j_+6), _ => trivial⟩
        case hend =>
          intro u w' hI hR
          simp only [setAll, List.set_cons_zero, List.set_cons_succ]
          unfold wpList
          obtain ⟨hc, -, -, -⟩ := hI
          have h3 := (hR 3 (by decide) : FCs _ _ _ _)
          have h4 := (hR 4 (by decide) : FCs _ _ _ _)
          have h5 := (hR 5 (by decide) : FCs _ _ _ _)
          have x0 := h3 0 (by simp)
          have x1 := h3 1 (by simp)
          have x2 := h3 2 (by simp)
          have y0 := h4 0 (by simp)
          have y1 := h4 1 (by simp)
          have y2 := h4 2 (by simp)
          have z0 := h5 0 (by simp)
          have z1 := h5 1 (by simp)
          have z2 := h5 2 (by simp)
          simp only [List.getElem_cons_zero, List.getElem_cons_succ] at x0 x1 x2 y0 y1 y2 z0 z1 z2
          have HC := Lib.hid hc
          clear hR hst hc h3 h4 h5 c0 c1 c2 a0 a1 a2 b0 b1 b2 Q0 Q1 Q2 nc na nb
          go_wp2
          have th := AS4.out.th.chg HC.out AC.out.hrc
          obtain ⟨ll, fl, hl⟩ := AS4.out.lat.t.ints th AS4.out.lat.1 AS4.out.lat.2.1
          obtain ⟨pl, fl2, hp, -⟩ := AS4.out.prg.t.progs th AS4.out.prg.1 AS4.out.prg.2.1
          have hb := AS4.out.st.home B0.out (by have := HRB.out; have := HRC.out; omega)
          exact bodyPost_ret (v := .tuple #[.agg #[.slice va' vn' vc', .slice la' ln' lc', .slice pa' pn' pc'], .agg #[.int .i64 a.kind, .int .i64 a.who, .int .i64 a.n], .agg #[.int .i64 b.kind, .int .i64 b.who, .int .i64 b.n]]) (by simp [results, Try.results24, go_sem, x0, x1, x2, y0, y1, y2, z0, z1, z2]) rfl
            ⟨⟨lm', ll, pl⟩, _, _, _, _, _, _, _, _, _, a, b, rfl, ⟨⟨fm', AS4.out.mp.same mrR_fits (AS4.out.fz.same (Step.of_chg HC.out) AC.out.hrc) HC.out.size⟩, ⟨fl, hl⟩, ⟨fl2, hp⟩⟩, AS4.out.hm, ((hb.chg []).trans HC.out).home (fun c hc => by have := HRC.out; simp at hc; omega)⟩

end Go.Proofs.Ytmcjklicepaiaaa
