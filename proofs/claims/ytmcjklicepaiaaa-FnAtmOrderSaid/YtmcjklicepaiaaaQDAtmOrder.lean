/-
 What DrawAtmOrder draws: a bus, and what happens.
-/
import Derived.Test.YtmcjklicepaiaaaPk32
import Derived.Test.YtmcjklicepaiaaaPk36
import Derived.Test.YtmcjklicepaiaaaPk44
import Derived.Deep.DeepCutAuto
set_option linter.unusedVariables false
set_option linter.unusedSimpArgs false
namespace Go.Proofs.Ytmcjklicepaiaaa
open Go.RowKit Go.ChangeShapes Go.WideShapes
theorem Step.home {rb : Nat} {T' : Tab} {w0 w w' : World} (h : Step [rb] (fun _ => none) w T' w') (hb : Below w0.heap.size w0 w) (hr : w0.heap.size <= rb) : Below w0.heap.size w0 w' :=
 ((hb.chg [rb]).trans' ⟨h.os, h.tape, h.output, h.size, fun k hk hn => h.block k hk hn rfl⟩).home (fun c hc => by simp at hc; omega)
structure AoS (G : Gd) (L : List Nat) (rb : Nat) (fq : List Nat) (rc cb : Nat) (ws : World) (M : Int) (T : Tab) (lm : List MR) (fm : List Nat) (va : Option Addr) (vn vc : Nat) (la : Option Addr) (ln lc : Nat) (pa : Option Addr) (pn pc : Nat) (ea : Option Addr) (en ec : Nat) (w : World) : Prop where
 th : TH G L T w
 rd : RdAt w rb fq M
 c0 : w.cell? ⟨cb, 0, none⟩ = some (.slice va vn vc)
 c1 : w.cell? ⟨cb, 1, none⟩ = some (.slice la ln lc)
 c2 : w.cell? ⟨cb, 2, none⟩ = some (.slice pa pn pc)
 fc : ∀ o, w.frozen? ⟨cb, o, none⟩ = false
 q0 : RoomAt rc 3 w
 mp : SlR 4 mrR w lm (.slice va vn vc) fm
 fz : Fz L T w fm
 lat : SlA T 1 la ln lc
 prg : SlA T 4 pa pn pc
 ev : SlA T 6 ea en ec
 st : Step [rb] (fun _ => none) ws T w
structure AoC (L : List Nat) (rb : Nat) (fq : List Nat) (rc cb : Nat) (ws : World) : Prop where
 hrb : rb ∈ L
 hfq : ∀ b, b ∈ fq -> b ∈ L
 hcb : cb ∈ L
 hrc : rc ∈ L
 l0 : ws.heap.size <= cb
 l1 : rc < rb
 l2 : ∀ b, b ∈ fq -> b < rb
 l3 : rb < cb
def lenV : Value -> Nat
 | .slice _ n _ => n
 | _ => 0
variable {G : Gd} {L fq fm : List Nat} {rb rc cb : Nat} {ws w w' : World} {M M' : Int} {T T' : Tab} {lm : List MR} {va la pa ea ea' : Option Addr} {vn vc ln lc pn pc en ec en' ec' : Nat}
theorem AoS.draw (C : AoC L rb fq rc cb ws) (h : AoS G L rb fq rc cb ws M T lm fm va vn vc la ln lc pa pn pc ea en ec w) (hc : Chg [rb] w w') (hr : RdAt w' rb fq M') : AoS G L rb fq rc cb ws M' T lm fm va vn vc la ln lc pa pn pc ea en ec w' := by
 obtain ⟨C1, C2, C3, C4, l0, l1, l2, l3⟩ := C
 have q : ∀ b, b ∈ [rb] -> b ∈ L := by simpa using C1
 have nc : cb ∉ [rb] := by simp; omega
 have s := Step.of_chg (T := T) hc
 exact ⟨h.th.chg hc q, hr, keep_cell_chg hc h.c0 nc, keep_cell_chg hc h.c1 nc, keep_cell_chg hc h.c2 nc, fun o => (World.frozen?_of_block (hc.block cb (block_of_cell h.c0) nc)).trans (h.fc o), h.q0.chg hc (by simp; omega),
  h.mp.same mrR_fits (h.fz.same s q) hc.size, h.fz.step s, h.lat, h.prg, h.ev, h.st.trans s⟩
theorem AoS.below (C : AoC L rb fq rc cb ws) (h : AoS G L rb fq rc cb ws M T lm fm va vn vc la ln lc pa pn pc ea en ec w) (hb : Below w.heap.size w w') : AoS G L rb fq rc cb ws M T lm fm va vn vc la ln lc pa pn pc ea en ec w' := h.draw C (hb.chg [rb]) (h.rd.below hb)
theorem AoS.push (C : AoC L rb fq rc cb ws) (h : AoS G L rb fq rc cb ws M T lm fm va vn vc la ln lc pa pn pc ea en ec w) (ht : TH G L T' w') (s : Step [] T w T' w') (ha : SlA T' 6 ea' en' ec') : AoS G L rb fq rc cb ws M T' lm fm va vn vc la ln lc pa pn pc ea' en' ec' w' := by
 obtain ⟨C1, C2, C3, C4, l0, l1, l2, l3⟩ := C
 have tc := h.th.rd cb C3
 have tr := h.th.rd rc C4
 exact ⟨ht, h.rd.step s (h.th.rd rb C1) (fun b hb => h.th.rd b (C2 b hb)) rfl, s.cell h.c0 (by simp) tc, s.cell h.c1 (by simp) tc, s.cell h.c2 (by simp) tc, fun o => (World.frozen?_of_block (s.block cb (block_of_cell h.c0) (by simp) tc)).trans (h.fc o),
  ⟨Nat.lt_of_lt_of_le h.q0.1 s.size, fun j hj => (h.q0.2.1 j hj).imp fun u hu => s.cell hu (by simp) tr, fun o => (World.frozen?_of_block (s.block rc h.q0.1 (by simp) tr)).trans (h.q0.2.2 o)⟩,
  h.mp.same mrR_fits (h.fz.same s (by simp)) s.size, h.fz.step s, h.lat.ext s.ext, h.prg.ext s.ext, ha, h.st.trans (s.mono (by simp))⟩
theorem AoS.mono (h : AoS G L rb fq rc cb ws M T lm fm va vn vc la ln lc pa pn pc ea en ec w) (hm : M <= M') : AoS G L rb fq rc cb ws M' T lm fm va vn vc la ln lc pa pn pc ea en ec w := { h with rd := h.rd.mono hm }
theorem AoS.any (h : AoS gFit L rb fq rc cb ws M T lm fm va vn vc la ln lc pa pn pc ea en ec w) : AoS gAny L rb fq rc cb ws M T lm fm va vn vc la ln lc pa pn pc ea en ec w :=
 { h with th := h.th.weaken (fun _ _ => trivial) (by decide) }
theorem AoS.bus (C : AoC L rb fq rc cb ws) (h : AoS gFit L rb fq rc cb ws M T lm fm va vn vc la ln lc pa pn pc ea en ec w) {e : Ending} {lm' : List MR} {fm' : List Nat} {va' la' pa' : Option Addr} {vn' vc' ln' lc' pn' pc' : Nat} (hp : BusPost gAny L rb fq T w M' e w' T' lm' fm' va' vn' vc' la' ln' lc' pa' pn' pc') {w2 : World}
 (e2 : w2 = ((w'.setCell ⟨cb, 0, none⟩ (.slice va' vn' vc')).setCell ⟨cb, 1, none⟩ (.slice la' ln' lc')).setCell ⟨cb, 2, none⟩ (.slice pa' pn' pc')) : AoS gAny L rb fq rc cb ws M' T' lm' fm' va' vn' vc' la' ln' lc' pa' pn' pc' ea en ec w2 := by
 obtain ⟨C1, C2, C3, C4, l0, l1, l2, l3⟩ := C
 have hc : Chg [cb] w' w2 := by rw [e2]; exact chg3 cb w' _ _ _
 have q : ∀ b, b ∈ [cb] -> b ∈ L := by simpa using C3
 have s1 := hp.st
 have tl : ∀ c, c ∈ L -> T c = none := h.th.rd
 have n0 : ∀ c, c ≠ rb -> c ∉ [rb] := fun c hc => by simpa using hc
 have room : ∀ {c : Nat}, c ∈ L -> c ≠ rb -> c ≠ cb -> RoomAt c 3 w -> RoomAt c 3 w2 := fun {c} hm hr hn R =>
  RoomAt.chg ⟨Nat.lt_of_lt_of_le R.1 s1.size, fun j hj => (R.2.1 j hj).imp fun u hu => s1.cell hu (n0 c hr) (tl c hm), fun o => (World.frozen?_of_block (s1.block c R.1 (n0 c hr) (tl c hm))).trans (R.2.2 o)⟩ hc (by simpa using hn)
 have d0 := s1.cell h.c0 (n0 cb (by omega)) (tl cb C3)
 have d1 := s1.cell h.c1 (n0 cb (by omega)) (tl cb C3)
 have d2 := s1.cell h.c2 (n0 cb (by omega)) (tl cb C3)
 obtain ⟨t0, t1, t2, -⟩ := fin3 (.slice va' vn' vc') (.slice la' ln' lc') (.slice pa' pn' pc') d0 d1 d2
 refine ⟨hp.th.chg hc q, hp.rd.chg hc (by simp; omega) (fun b hb hm => by have := l2 b hb; simp at hm; omega), by rw [e2]; exact t0, by rw [e2]; exact t1, by rw [e2]; exact t2, fun o => (by rw [e2]; simp only [World.frozen?_setCell]; exact (World.frozen?_of_block (s1.block cb (block_of_cell h.c0) (n0 cb (by omega)) (tl cb C3))).trans (h.fc o)),
  room C4 (by omega) (by omega) h.q0,
  hp.mp.same mrR_fits (hp.fz.same (Step.of_chg hc) q) hc.size, hp.fz.step (Step.of_chg hc), hp.lat, hp.prg, h.ev.ext s1.ext, (h.st.trans s1).later hc (fun c hm => by simp at hm; omega)⟩
set_option maxRecDepth 100000 in
set_option maxHeartbeats 12800000 in
theorem drawAtmOrder_any (v : Value) (l : List Int) (fp : List Nat) (w : World) (g : ByteS w l v fp) :
    Calls Try.prog 38 #[v] w fun e w' => ∃ (x : Bus) (va la pa : Option Addr) (vn vc ln lc pn pc : Nat) (le : List Ev) (ea : Option Addr) (en ec : Nat) (fe : List Nat), e = .returned (.tuple #[.agg #[.slice va vn vc, .slice la ln lc, .slice pa pn pc], .slice ea en ec]) ∧ BusRd w' x (.slice va vn vc) (.slice la ln lc) (.slice pa pn pc) ∧ SlR 3 evR w' le (.slice ea en ec) fe ∧ en <= 2000 ∧ Below w.heap.size w w' := by
  obtain ⟨i0, ki, kz0, kz1, kz2⟩ := info_parts infoEv
  obtain ⟨w1, hw1⟩ : ∃ z, z = w.alloc (.cells #[.slice none 0 0, .slice none 0 0, .slice none 0 0] 38) := ⟨_, rfl⟩
  have b1 : Below w.heap.size w w1 := by rw [hw1]; exact below_alloc _ _
  have z1 : w1.heap.size = w.heap.size + 1 := by rw [hw1]; simp
  have q0 : RoomAt w.heap.size 3 w1 := by rw [hw1]; exact room_alloc rfl (by simp)
  have G := Lib.hid (SlR.below byteR_fits g b1)
  have B := Lib.hid b1
  have Q0 := Lib.hid q0
  have Z1 := Lib.hid z1
  clear g b1 q0 z1
  go_enter Try.func38, Try.ntmps38
  go_upto_region 1 with fail
  rw [<- hw1]
  clear hw1
  obtain ⟨rc, hrc⟩ : ∃ z, z = w.heap.size := ⟨_, rfl⟩
  rw [<- hrc] at Q0
  rw [<- hrc]
  have HRC := Lib.hid hrc
  clear hrc
  go_wp2_with fail
  refine (l20Open_any v l fp _ G.out).mono ?_
  rintro e w2 ⟨rb, fq, rfl, hrb, hfq, h0, b0⟩
  have hlt0 := h0.lt
  have hto : ∀ c, c ∈ rc :: rb :: fq -> c < w2.heap.size := fun c hc => by
    have := b0.size
    have := Z1.out
    have := HRC.out
    simp only [List.mem_cons] at hc
    rcases hc with rfl | rfl | hc
    · omega
    · omega
    · exact h0.old c hc
  have H0 := Lib.hid h0
  have B0 := Lib.hid (B.out.trans (b0.mono B.out.size))
  have HT0 := Lib.hid (TH.empty gFit (rc :: rb :: fq) w2 hto)
  have Q02 := Lib.hid (Q0.out.below b0)
  have HRB : Hid (rc < rb) := Lib.hid (by have := Z1.out; have := HRC.out; omega)
  have HFQ : Hid (∀ b, b ∈ fq -> b < rb) := Lib.hid (fun b hb => by have := hfq b hb; omega)
  have HLT := Lib.hid hlt0
  clear h0 b0 hto hrb hfq Q0 G B Z1 hlt0
  go_wp2_with fail
  refine (l20Tlm_b (rc :: rb :: fq) rb fq 0 70 (by omega) (by omega) (by omega) _ _ (by simp) (fun b hb => by simp [hb]) H0.out HT0.out).mono ?_
  rintro e w3 ⟨T, lm, fm, va, vn, vc, la, lc, pa, pc, ms, hs, qs, lx, ly, lz, v0, v1, v2, v3, v4, v5, ea, en, ec, rfl, th, st, rd, bv, hla, hlm, hev, hen, hlen, hjf, k0, k1, k2, k3, k4, k5⟩
  obtain ⟨_, _, _, rfl⟩ := k0.form
  obtain ⟨_, _, _, rfl⟩ := k1.form
  obtain ⟨_, _, _, rfl⟩ := k2.form
  obtain ⟨_, _, _, rfl⟩ := k3.form
  obtain ⟨_, _, _, rfl⟩ := k4.form
  obtain ⟨_, _, _, rfl⟩ := k5.form
  rename_i a0 n0 c0 a1 n1 c1 a2 n2 c2 a3 n3 c3 a4 n4 c4 a5 n5 c5
  obtain ⟨w4, hw4⟩ : ∃ z, z = (w3.alloc (.cells #[.slice va vn vc, .slice la 4 lc, .slice pa 3 pc] 38)).alloc (.cells #[.slice a0 n0 c0, .slice a1 n1 c1, .slice a2 n2 c2, .slice a3 n3 c3, .slice a4 n4 c4, .slice a5 n5 c5] 70) := ⟨_, rfl⟩
  have b4 : Below w3.heap.size w3 w4 := by rw [hw4]; exact (below_alloc _ _).trans ((below_alloc _ _).mono (by simp))
  have z4 : w4.heap.size = w3.heap.size + 1 + 1 := by rw [hw4]; simp
  have cbs : ∀ j (hj : j < 3), w4.cell? ⟨w3.heap.size, j, none⟩ = some ((#[.slice va vn vc, .slice la 4 lc, .slice pa 3 pc] : Array Value)[j]'hj) := fun j hj => by rw [hw4]; exact alloc_keep (alloc1_new _ _ _ j (by simp [show j < 3 from hj])) _
  have cfs : ∀ o, w4.frozen? ⟨w3.heap.size, o, none⟩ = false := fun o => by rw [hw4]; exact keep_free (below_alloc _ _) (by simp) (alloc1_free _ _ _ _)
  have hrl := HLT.out
  have zz := st.size
  have hcq : Chg [rb] w2 w4 := (st.bare.trans' (b4.chg [rb]))
  have AC : Hid (AoC (w3.heap.size :: rc :: rb :: fq) rb fq rc w3.heap.size w2) := Lib.hid ⟨by simp, fun b hb => by simp [hb], by simp, by simp, zz, HRB.out, HFQ.out, by omega⟩
  have AS : Hid (AoS gFit (w3.heap.size :: rc :: rb :: fq) rb fq rc w3.heap.size w2 (0 + 300000) T.loose lm fm va vn vc la 4 lc pa 3 pc ea en ec w4) := Lib.hid
    ⟨(th.opened b4 (by omega) (by omega)).loose, rd.below b4, cbs 0 (by decide), cbs 1 (by decide), cbs 2 (by decide), cfs, Q02.out.chg hcq (by have := HRB.out; simp; omega), SlR.below mrR_fits bv.mp b4, fun b hb => by
        obtain ⟨g1, g2, g3⟩ := bv.fz b hb
        refine ⟨Tab.loose_none g1, ?_, by omega⟩
        simp only [List.mem_cons, not_or] at g2 ⊢
        exact ⟨by omega, g2⟩, hla.loose (by decide), bv.prg.loose (by decide), hev.loose5, (st.trans (Step.of_below [rb] b4)).loose⟩
  have HEN := Lib.hid hen
  clear th st rd bv hla hlm hev hlen hjf k0 k1 k2 k3 k4 k5 HT0 H0 b4 z4 cbs cfs hrl zz hcq Q02
  go_upto_region 3 with fail
  rw [<- hw4]
  clear hw4
  obtain ⟨cb, hcb⟩ : ∃ z, z = w3.heap.size := ⟨_, rfl⟩
  rw [<- hcb] at AC AS
  rw [<- hcb]
  obtain ⟨L, hL⟩ : ∃ z, z = cb :: rc :: rb :: fq := ⟨_, rfl⟩
  rw [<- hL] at AC AS
  clear hcb hL
  go_wp2_with fail
  refine (odd_any rb fq (0 + 300000) 9 (by omega) (by omega) (by omega) _ AS.out.rd).mono ?_
  rintro e w5 ⟨⟨b17, rfl⟩, g1, g2⟩
  have AS1 := Lib.hid (AS.out.draw AC.out g2 g1)
  clear g1 g2 AS
  go_upto_if 17 with fail
  go_cut [7] (fun v7 wc => ∃ ea en ec T, v7 = .slice ea en ec ∧ en <= 1500 ∧ AoS gFit L rb fq rc cb w2 300010 T lm fm va vn vc la 4 lc pa 3 pc ea en ec wc)
  case first =>
    cases b17
    · go_wp2_with fail
      go_meet
      case rel => exact ⟨ea, en, ec, _, rfl, by have := HEN.out; omega, AS1.out.mono (by omega)⟩
    · go_wp2_with fail
      refine (pick_any rb fq (0 + 300000 + 1) 5 (by omega) (by omega) (by omega) _ AS1.out.rd).mono ?_
      rintro e w6 ⟨x6, rfl, lo6, hi6, g1, g2⟩
      have AS2 := Lib.hid (AS1.out.draw AC.out g2 g1)
      clear g1 g2
      go_wp2_with fail
      refine (pick_any rb fq (0 + 300000 + 1 + 1) 9 (by omega) (by omega) (by omega) _ AS2.out.rd).mono ?_
      rintro e w7 ⟨x7, rfl, lo7, hi7, g1, g2⟩
      have AS3 := Lib.hid ((AS2.out.draw AC.out g2 g1).below AC.out (below_alloc _ (.cells #[.int .i64 2, .int .i64 (x6 - 1), .int .i64 (x7 - 1)] 47)))
      have hcell : ∀ j (hj : j < 3), (w7.alloc (.cells #[.int .i64 2, .int .i64 (x6 - 1), .int .i64 (x7 - 1)] 47)).cell? (Addr.add ⟨w7.heap.size, 0, none⟩ j) = some ([.int .i64 2, .int .i64 (x6 - 1), .int .i64 (x7 - 1)][j]'hj) := fun j hj => by
        rw [add_plain, Nat.zero_add]
        exact alloc1_new _ _ _ j (by rw [<- Array.getElem?_toList]; exact List.getElem?_eq_getElem hj)
      have hne : en <= 2000000 := by have := HEN.out; omega
      clear g1 g2
      go_wp2_with (at_builtin; refine wpList_appendT (k := 6) (cs := [.int .i64 2, .int .i64 (x6 - 1), .int .i64 (x7 - 1)]) rfl _ _ 51 47 i0 (.agg #[.int .i64 0, .int .i64 0, .int .i64 0]) 24 rfl Try.underlying51 ki kz0 kz1 kz2 rfl (by decide) rfl rfl AS3.out.th AS3.out.ev rfl ⟨2, x6 - 1, x7 - 1, rfl⟩ hcell (by simp [Value.oneCell']) hne ?_; intro ao' cap' T2 w10 t2 st2 a2; have AS4 := Lib.hid (AS3.out.push AC.out t2 st2 a2); clear t2 st2 a2 hcell AS3)
      go_meet
      case rel => exact ⟨ao', en + 1, cap', _, rfl, by have := HEN.out; omega, AS4.out.mono (by omega)⟩
  case rest =>
    obtain ⟨ea, en, ec, T, rfl, hen, hs⟩ := hcut
    have AS2 := Lib.hid hs
    have HEN2 := Lib.hid hen
    clear hs hen AS1 HEN
    go_wp2_with fail
    refine (odd_any rb fq 300010 30 (by omega) (by omega) (by omega) _ AS2.out.rd).mono ?_
    rintro e w9 ⟨⟨b29, rfl⟩, g1, g2⟩
    have AS3 := Lib.hid (AS2.out.draw AC.out g2 g1)
    clear g1 g2 AS2
    go_upto_if 29 with fail
    go_cut [7] (fun v7 wc => ∃ ea en ec T, v7 = .slice ea en ec ∧ en <= 1500 ∧ AoS gFit L rb fq rc cb w2 300011 T lm fm va vn vc la 4 lc pa 3 pc ea en ec wc)
    case first =>
      cases b29
      · go_wp2_with fail
        go_meet
        case rel => exact ⟨ea, en, ec, _, rfl, HEN2.out, AS3.out.mono (by omega)⟩
      · go_wp2_with fail
        go_loopw [7] (fun v7 wr => ∃ ea en ec T, v7 = .slice ea en ec ∧ en <= 1500 ∧ AoS gFit L rb fq rc cb w2 300011 T lm fm va vn vc la 4 lc pa 3 pc ea en ec wr) (fun v7 _ => 109 - lenV v7)
        case atStart => exact ⟨ea, en, ec, _, rfl, HEN2.out, AS3.out.mono (by omega)⟩
        case round =>
          obtain ⟨ea, en, ec, T, rfl, hen, hs⟩ := hrel
          have AS4 := Lib.hid hs
          have HEN4 := Lib.hid hen
          clear hs hen AS3 HEN2
          by_cases hlt : en <= 108
          · have hlti : (en : Int) <= 108 := by omega
            have AS5 := Lib.hid (AS4.out.below AC.out (below_alloc _ (.cells #[.int .i64 1, .int .i64 0, .int .i64 0] 47)))
            have hcell : ∀ j (hj : j < 3), (wr.alloc (.cells #[.int .i64 1, .int .i64 0, .int .i64 0] 47)).cell? (Addr.add ⟨wr.heap.size, 0, none⟩ j) = some ([.int .i64 1, .int .i64 0, .int .i64 0][j]'hj) := fun j hj => by
              rw [add_plain, Nat.zero_add]
              exact alloc1_new _ _ _ j (by rw [<- Array.getElem?_toList]; exact List.getElem?_eq_getElem hj)
            have hne : en <= 2000000 := by omega
            go_wp2_with (at_builtin; refine wpList_appendT (k := 6) (cs := [.int .i64 1, .int .i64 0, .int .i64 0]) rfl _ _ 51 47 i0 (.agg #[.int .i64 0, .int .i64 0, .int .i64 0]) 24 rfl Try.underlying51 ki kz0 kz1 kz2 rfl (by decide) rfl rfl AS5.out.th AS5.out.ev rfl ⟨1, 0, 0, rfl⟩ hcell (by simp [Value.oneCell']) hne ?_; intro ao' cap' T2 w10 t2 st2 a2; have AS6 := Lib.hid (AS5.out.push AC.out t2 st2 a2); clear t2 st2 a2 hcell AS5)
            go_roundw
            case rel => exact ⟨ao', en + 1, cap', _, rfl, by omega, AS6.out⟩
            case measure => simp only [lenV]; omega
          · have hlti : ¬ (en : Int) <= 108 := by omega
            go_wp2_with fail
            go_meet
            case rel => exact ⟨ea, en, ec, _, rfl, HEN4.out, AS4.out⟩
    case rest =>
      obtain ⟨ea, en, ec, T, rfl, hen, hs⟩ := hcut
      have AS4 := Lib.hid hs
      have HEN4 := Lib.hid hen
      clear hs hen AS3 HEN2
      go_wp2_with fail
      refine (odd_any rb fq 300011 12 (by omega) (by omega) (by omega) _ AS4.out.rd).mono ?_
      rintro e w9 ⟨⟨b38, rfl⟩, g1, g2⟩
      have AS5 := Lib.hid (AS4.out.draw AC.out g2 g1)
      clear g1 g2 AS4
      go_upto_if 38 with fail
      go_cut [] (fun wc => ∃ M T lm fm va vn vc la ln lc pa pn pc, AoS gAny L rb fq rc cb w2 M T lm fm va vn vc la ln lc pa pn pc ea en ec wc)
      case first =>
        cases b38
        · go_wp2_with fail
          go_meet
          case rel => exact ⟨_, _, _, _, _, _, _, _, _, _, _, _, _, AS5.out.any⟩
        · go_wp2_with fail
          refine (l20BusOr_any L rb fq (300011 + 1) 1 (by omega) (by omega) (by omega) _ _ AC.out.hrb AC.out.hfq AS5.out.rd AS5.out.th).mono ?_
          rintro e w10 ⟨T', lm', fm', va', vn', vc', la', ln', lc', pa', pn', pc', hp, hml⟩
          have e0 := hp.ret
          have HP := Lib.hid hp
          have tl := AS5.out.th.rd cb AC.out.hcb
          have nC : cb ∉ [rb] := by have := AC.out.l3; simp; omega
          have t0 := hp.st.cell AS5.out.c0 nC tl
          have t1 := hp.st.cell AS5.out.c1 nC tl
          have t2 := hp.st.cell AS5.out.c2 nC tl
          have ff : ∀ o, w10.frozen? ⟨cb, o, none⟩ = false := fun o => (World.frozen?_of_block (hp.st.block cb (block_of_cell AS5.out.c0) nC tl)).trans (AS5.out.fc o)
          have f0 := ff 0
          have f1 := ff 1
          have f2 := ff 2
          rw [e0]
          clear hp hml e0 ff tl nC
          go_wp2_with fail
          go_meet
          case rel => exact ⟨_, _, _, _, _, _, _, _, _, _, _, _, _, AS5.out.bus AC.out HP.out rfl⟩
      case rest =>
        obtain ⟨M, T', lm', fm', va', vn', vc', la', ln', lc', pa', pn', pc', hs⟩ := hcut
        have AS6 := Lib.hid hs
        clear hs AS5
        have c0 := AS6.out.c0
        have c1 := AS6.out.c1
        have c2 := AS6.out.c2
        obtain ⟨y0, p0⟩ := AS6.out.q0.2.1 0 (by omega)
        obtain ⟨y1, p1⟩ := AS6.out.q0.2.1 1 (by omega)
        obtain ⟨y2, p2⟩ := AS6.out.q0.2.1 2 (by omega)
        have f0 := AS6.out.q0.2.2 0
        have f1 := AS6.out.q0.2.2 1
        have f2 := AS6.out.q0.2.2 2
        obtain ⟨t0, t1, t2, -⟩ := fin3 (.slice va' vn' vc') (.slice la' ln' lc') (.slice pa' pn' pc') p0 p1 p2
        go_wp2
        have hc := chg3 rc wc (.slice va' vn' vc') (.slice la' ln' lc') (.slice pa' pn' pc')
        have hcL : ∀ b, b ∈ [rc] -> b ∈ L := by simpa using AC.out.hrc
        have th := AS6.out.th.chg hc hcL
        obtain ⟨ll, fl, hl⟩ := AS6.out.lat.t.ints th AS6.out.lat.1 AS6.out.lat.2.1
        obtain ⟨pl, fl2, hp, -⟩ := AS6.out.prg.t.progs th AS6.out.prg.1 AS6.out.prg.2.1
        obtain ⟨le, fe, he⟩ := AS6.out.ev.t.evs6 th AS6.out.ev.1 AS6.out.ev.2.1
        have hb := AS6.out.st.home B0.out (by have := HRB.out; have := HRC.out; omega)
        exact bodyPost_ret (v := .tuple #[.agg #[.slice va' vn' vc', .slice la' ln' lc', .slice pa' pn' pc'], .slice ea en ec]) (by simp [results, Try.results38, go_sem, t0, t1, t2]) rfl
          ⟨⟨lm', ll, pl⟩, _, _, _, _, _, _, _, _, _, le, _, _, _, fe, rfl, ⟨⟨fm', AS6.out.mp.same mrR_fits (AS6.out.fz.same (Step.of_chg hc) hcL) hc.size⟩, ⟨fl, hl⟩, ⟨fl2, hp⟩⟩, he, by have := HEN4.out; omega, ((hb.chg [rc]).trans' hc).home (fun c hc => by have := HRC.out; simp at hc; omega)⟩
end Go.Proofs.Ytmcjklicepaiaaa
