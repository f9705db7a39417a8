/-
 Texts of this claim laid together: TS2 BusAt2.
-/
import Derived.Test.YtmcjklicepaiaaaPk09
import Derived.Test.YtmcjklicepaiaaaPk15
import Derived.Test.YtmcjklicepaiaaaPk16
set_option linter.unusedVariables false
set_option linter.unusedSimpArgs false
namespace Go.Proofs.Ytmcjklicepaiaaa
open Go.RowKit Go.WideShapes
variable {G : Gd} {L : List Nat} {T T' : Tab} {w w' : World} {fm fw fh fa : List Nat} {lm : List MR} {vm vl vw vh va : Value} {pa : Option Addr} {pc m : Nat}
structure BusV (G : Gd) (L : List Nat) (lm : List MR) (vm vl : Value) (fm : List Nat) (pa : Option Addr) (pc : Nat) (T : Tab) (w : World) : Prop where
 mp : SlR 4 mrR w lm vm fm
 fz : Fz L T w fm
 prg : SlA T 4 pa 3 pc
 vl : ∃ a n c, vl = .slice a n c
theorem BusV.step {fq : List Nat} (h : BusV G L lm vm vl fm pa pc T w) (s : Step fq T w T' w') (hq : ∀ b, b ∈ fq -> b ∈ L) : BusV G L lm vm vl fm pa pc T' w' :=
 ⟨h.mp.same mrR_fits (h.fz.same s hq) s.size, h.fz.step s, h.prg.ext s.ext, h.vl⟩
structure TlmV (L : List Nat) (vw vh va : Value) (fw fh fa : List Nat) (m : Nat) (T : Tab) (w : World) (ms hs qs : List Int) (xa : Option Addr) (xn xc : Nat) (ya : Option Addr) (yn yc : Nat) (za : Option Addr) (zn zc : Nat) : Prop where
 lm : ms.length = 64
 lh : hs.length = 6
 la : qs.length = 3
 mem : SlR 1 intR w ms vw fw
 hol : SlR 1 intR w hs vh fh
 ask : SlR 1 intR w qs va fa
 fr : Free (fw ++ fh ++ fa) w
 wt : SlA T 3 xa xn xc
 dn : SlA T 3 ya yn yc
 td : SlA T 3 za zn zc
 nx : xn <= m
 ny : yn <= m
 nz : zn <= m
structure TlmC (L fw fh fa : List Nat) : Prop where
 inL : ∀ b, b ∈ fw ++ fh ++ fa -> b ∈ L
 wh : ∀ b, b ∈ fw -> b ∉ fh
 wa : ∀ b, b ∈ fw -> b ∉ fa
 ha : ∀ b, b ∈ fh -> b ∉ fa
variable {ms hs qs ms' hs' qs' : List Int} {xa ya za : Option Addr} {xn xc yn yc zn zc : Nat}
theorem TlmV.step {fq : List Nat} (C : TlmC L fw fh fa) (h : TlmV L vw vh va fw fh fa m T w ms hs qs xa xn xc ya yn yc za zn zc) (hT : TH G L T w) (s : Step fq T w T' w') (hq : ∀ b, b ∈ fq -> b ∉ fw ++ fh ++ fa) : TlmV L vw vh va fw fh fa m T' w' ms hs qs xa xn xc ya yn yc za zn zc := by
 have hs' : Same (fw ++ fh ++ fa) w w' := fun b hb => s.block b (hT.old b (C.inL b hb)) (fun hm => hq b hm hb) (hT.rd b (C.inL b hb))
 exact ⟨h.lm, h.lh, h.la, h.mem.same intR_fits (hs'.mono (fun b hb => by simp [hb])) s.size, h.hol.same intR_fits (hs'.mono (fun b hb => by simp [hb])) s.size, h.ask.same intR_fits (hs'.mono (fun b hb => by simp [hb])) s.size, h.fr.same hs', h.wt.ext s.ext, h.dn.ext s.ext, h.td.ext s.ext, h.nx, h.ny, h.nz⟩
theorem TlmV.mono {m' : Nat} (h : TlmV L vw vh va fw fh fa m T w ms hs qs xa xn xc ya yn yc za zn zc) (hm : m <= m') : TlmV L vw vh va fw fh fa m' T w ms hs qs xa xn xc ya yn yc za zn zc :=
 { h with nx := Nat.le_trans h.nx hm, ny := Nat.le_trans h.ny hm, nz := Nat.le_trans h.nz hm }
theorem TlmV.chg {fq : List Nat} (h : TlmV L vw vh va fw fh fa m T w ms hs qs xa xn xc ya yn yc za zn zc) (hc : Chg fq w w') (hq : ∀ b, b ∈ fw ++ fh ++ fa -> b ∉ fq) : TlmV L vw vh va fw fh fa m T w' ms hs qs xa xn xc ya yn yc za zn zc := by
 have hl : ∀ b, b ∈ fw ++ fh ++ fa -> b < w.heap.size := fun b hb => by
  simp only [List.mem_append] at hb
  rcases hb with (hb | hb) | hb
  · exact h.mem.lt intR_fits b hb
  · exact h.hol.lt intR_fits b hb
  · exact h.ask.lt intR_fits b hb
 exact ⟨h.lm, h.lh, h.la, h.mem.chg intR_fits hc (fun b hb => hq b (by simp [hb])), h.hol.chg intR_fits hc (fun b hb => hq b (by simp [hb])), h.ask.chg intR_fits hc (fun b hb => hq b (by simp [hb])), h.fr.chg hl hc hq, h.wt, h.dn, h.td, h.nx, h.ny, h.nz⟩
theorem atmDo_data (l : List MR) (m h : List Int) (who : Int) (r : Req) : (atmDo l m h who r).data.length <= 4 := by
 have hb : (burstOf r).length <= 4 := adrBurst_len _ _ _
 unfold atmDo
 repeat' split
 all_goals first | exact Nat.zero_le _ | (simp only [l2get, List.length_map]; exact hb)
theorem SlT.req2 {n i : Nat} {a : Option Addr} (h : SlT T 2 a n) (hi : i < n) (hT : TH G L T w) : ∃ (b off : Nat) (x : Req) (da : Option Addr) (dn dc : Nat) (ea : Option Addr) (en ec : Nat) (fd fl : List Nat), a = some ⟨b, off, none⟩ ∧
 (∀ j (hj : j < ([.int .i64 x.id, .int .i64 x.kind, .int .i64 x.addr, .int .i64 x.many, .bool x.wrap, .slice da dn dc, .slice ea en ec] : List Value).length), w.cell? ⟨b, off + i * 7 + j, none⟩ = some ([.int .i64 x.id, .int .i64 x.kind, .int .i64 x.addr, .int .i64 x.many, .bool x.wrap, .slice da dn dc, .slice ea en ec] : List Value)[j]) ∧ SlR 1 intR w x.data (.slice da dn dc) fd ∧ SlR 1 intR w x.lanes (.slice ea en ec) fl ∧ G.ok x ∧ Fz L T w (fd ++ fl) := by
 rcases h with rfl | ⟨b, o, y, rfl, hb, hk, hn⟩
 · omega
 · obtain ⟨cs, _, ⟨x, fp, ⟨v0, v1, fd, fl, rfl, rfl, h0, h1⟩, hG, hF⟩, h3⟩ := hT.at' hb hk hn hi
   obtain ⟨da, dn, dc, rfl⟩ := h0.form
   obtain ⟨ea, en, ec, rfl⟩ := h1.form
   exact ⟨b, _, x, da, dn, dc, ea, en, ec, fd, fl, rfl, h3, h0, h1, hG, hF⟩
def bx (b : Nat) : List Nat := [b, b + 1, b + 1 + 1, b + 1 + 1 + 1]
theorem bx_lo {b c : Nat} (h : c ∈ bx b) : b <= c ∧ c < b + 1 + 1 + 1 + 1 := by simp [bx] at h; omega
structure StB (G : Gd) (L : List Nat) (b : Nat) (T0 : Tab) (w0 : World) (lm : List MR) (vm vl : Value) (fm : List Nat) (pa : Option Addr) (pc : Nat) (vw vh va : Value) (fw fh fa : List Nat) (m : Nat) (kd wo nn : Int) (T : Tab) (w : World) (ms hs qs : List Int) (xa : Option Addr) (xn xc : Nat) (ya : Option Addr) (yn yc : Nat) (za : Option Addr) (zn zc : Nat) : Prop where
 th : TH G (bx b ++ L) T w
 st : Step (fw ++ fh ++ fa) T0 w0 T w
 bv : BusV G (bx b ++ L) lm vm vl fm pa pc T w
 tv : TlmV L vw vh va fw fh fa m T w ms hs qs xa xn xc ya yn yc za zn zc
 b0 : w.cell? ⟨b, 0, none⟩ = some vm
 b1 : w.cell? ⟨b, 1, none⟩ = some vl
 b2 : w.cell? ⟨b, 2, none⟩ = some (.slice pa 3 pc)
 s0 : w.cell? ⟨b + 1, 0, none⟩ = some vw
 s1 : w.cell? ⟨b + 1, 1, none⟩ = some vh
 s2 : w.cell? ⟨b + 1, 2, none⟩ = some va
 s3 : w.cell? ⟨b + 1, 3, none⟩ = some (.slice xa xn xc)
 s4 : w.cell? ⟨b + 1, 4, none⟩ = some (.slice ya yn yc)
 s5 : w.cell? ⟨b + 1, 5, none⟩ = some (.slice za zn zc)
 e0 : w.cell? ⟨b + 1 + 1, 0, none⟩ = some (.int .i64 kd)
 e1 : w.cell? ⟨b + 1 + 1, 1, none⟩ = some (.int .i64 wo)
 e2 : w.cell? ⟨b + 1 + 1, 2, none⟩ = some (.int .i64 nn)
 fs : ∀ o, w.frozen? ⟨b + 1, o, none⟩ = false
 rs : RoomAt (b + 1 + 1 + 1) 6 w
structure StC (L : List Nat) (b : Nat) (w0 : World) (fm fw fh fa : List Nat) : Prop where
 eb : b = w0.heap.size
 c : TlmC L fw fh fa
 lw : ∀ c, c ∈ fw ++ fh ++ fa -> c < b
 lm : ∀ c, c ∈ fm -> c < b
variable {b : Nat} {T0 : Tab} {w0 : World} {kd wo nn : Int} {xa' ya' za' : Option Addr} {xn' xc' yn' yc' zn' zc' : Nat}
theorem StB.move {fq : List Nat} (C : StC L b w0 fm fw fh fa) (h : StB G L b T0 w0 lm vm vl fm pa pc vw vh va fw fh fa m kd wo nn T w ms hs qs xa xn xc ya yn yc za zn zc) (t : TH G (bx b ++ L) T' w') (s : Step fq T w T' w') (hq : ∀ c, c ∈ fq -> c ∈ fw ++ fh ++ fa) (tv : TlmV L vw vh va fw fh fa m T' w' ms' hs' qs' xa xn xc ya yn yc za zn zc) :
 StB G L b T0 w0 lm vm vl fm pa pc vw vh va fw fh fa m kd wo nn T' w' ms' hs' qs' xa xn xc ya yn yc za zn zc := by
 have n : ∀ c, b <= c -> c ∉ fq := fun c hc hm => by have := C.lw c (hq c hm); omega
 have r : ∀ c, c ∈ bx b -> T c = none := fun c hc => h.th.rd c (by simp [hc])
 have hL : ∀ c, c ∈ fq -> c ∈ bx b ++ L := fun c hm => by simp [C.c.inL c (hq c hm)]
 have k : ∀ {c j : Nat} {v : Value}, c ∈ bx b -> w.cell? ⟨c, j, none⟩ = some v -> w'.cell? ⟨c, j, none⟩ = some v := fun hc hv => s.cell hv (n _ (bx_lo hc).1) (r _ hc)
 have f : ∀ {c : Nat}, c ∈ bx b -> w'.heap[c]? = w.heap[c]? := fun {c} hc => s.block c (h.th.old c (by simp [hc])) (n _ (bx_lo hc).1) (r _ hc)
 refine ⟨t, h.st.trans (s.mono hq), h.bv.step s hL, tv, k (by simp [bx]) h.b0, k (by simp [bx]) h.b1, k (by simp [bx]) h.b2, k (by simp [bx]) h.s0, k (by simp [bx]) h.s1, k (by simp [bx]) h.s2, k (by simp [bx]) h.s3, k (by simp [bx]) h.s4, k (by simp [bx]) h.s5, k (by simp [bx]) h.e0, k (by simp [bx]) h.e1, k (by simp [bx]) h.e2,
  fun o => (World.frozen?_of_block (f (by simp [bx]))).trans (h.fs o), ⟨Nat.lt_of_lt_of_le h.rs.1 s.size, fun j hj => (h.rs.2.1 j hj).imp fun u e => k (by simp [bx]) e, fun o => (World.frozen?_of_block (f (by simp [bx]))).trans (h.rs.2.2 o)⟩⟩
theorem StB.step (C : StC L b w0 fm fw fh fa) (h : StB G L b T0 w0 lm vm vl fm pa pc vw vh va fw fh fa m kd wo nn T w ms hs qs xa xn xc ya yn yc za zn zc) (t : TH G (bx b ++ L) T' w') (s : Step [] T w T' w') :
 StB G L b T0 w0 lm vm vl fm pa pc vw vh va fw fh fa m kd wo nn T' w' ms hs qs xa xn xc ya yn yc za zn zc :=
 h.move C t s (by simp) (TlmV.step (L := L) C.c h.tv (h.th.closed (by simp_all)) s (by simp))
theorem StB.below (C : StC L b w0 fm fw fh fa) (h : StB G L b T0 w0 lm vm vl fm pa pc vw vh va fw fh fa m kd wo nn T w ms hs qs xa xn xc ya yn yc za zn zc) (hb : Below w.heap.size w w') :
 StB G L b T0 w0 lm vm vl fm pa pc vw vh va fw fh fa m kd wo nn T w' ms hs qs xa xn xc ya yn yc za zn zc := h.step C (h.th.below hb) (Step.of_below [] hb)
theorem StB.turn {fq : List Nat} (C : StC L b w0 fm fw fh fa) (h : StB G L b T0 w0 lm vm vl fm pa pc vw vh va fw fh fa m kd wo nn T w ms hs qs xa xn xc ya yn yc za zn zc) (hc : Chg fq w w') (hq : ∀ c, c ∈ fq -> c ∈ fw ++ fh ++ fa) (lm' : ms'.length = 64) (lh' : hs'.length = 6) (la' : qs'.length = 3) (g1 : SlR 1 intR w' ms' vw fw) (g2 : SlR 1 intR w' hs' vh fh) (g3 : SlR 1 intR w' qs' va fa) (fr : Free (fw ++ fh ++ fa) w') :
 StB G L b T0 w0 lm vm vl fm pa pc vw vh va fw fh fa m kd wo nn T w' ms' hs' qs' xa xn xc ya yn yc za zn zc :=
 h.move C (h.th.chg hc (fun c hm => by simp [C.c.inL c (hq c hm)])) (Step.of_chg hc) hq ⟨lm', lh', la', g1, g2, g3, fr, h.tv.wt, h.tv.dn, h.tv.td, h.tv.nx, h.tv.ny, h.tv.nz⟩
theorem StB.box (C : StC L b w0 fm fw fh fa) (h : StB G L b T0 w0 lm vm vl fm pa pc vw vh va fw fh fa m kd wo nn T w ms hs qs xa xn xc ya yn yc za zn zc) (hc : Chg [b + 1] w w') (s0 : w'.cell? ⟨b + 1, 0, none⟩ = some vw) (s1 : w'.cell? ⟨b + 1, 1, none⟩ = some vh) (s2 : w'.cell? ⟨b + 1, 2, none⟩ = some va)
 (s3 : w'.cell? ⟨b + 1, 3, none⟩ = some (.slice xa' xn' xc')) (s4 : w'.cell? ⟨b + 1, 4, none⟩ = some (.slice ya' yn' yc')) (s5 : w'.cell? ⟨b + 1, 5, none⟩ = some (.slice za' zn' zc')) (fs : ∀ o, w'.frozen? ⟨b + 1, o, none⟩ = false) (hx : SlA T 3 xa' xn' xc') (hy : SlA T 3 ya' yn' yc') (hz : SlA T 3 za' zn' zc') {m' : Nat} (h1 : xn' <= m') (h2 : yn' <= m') (h3 : zn' <= m') :
 StB G L b T0 w0 lm vm vl fm pa pc vw vh va fw fh fa m' kd wo nn T w' ms hs qs xa' xn' xc' ya' yn' yc' za' zn' zc' := by
 have hL : ∀ c, c ∈ [b + 1] -> c ∈ bx b ++ L := fun c hm => by simp at hm; subst hm; simp [bx]
 have n : ∀ c, c ∈ fw ++ fh ++ fa -> c ∉ [b + 1] := fun c hm e => by have := C.lw c hm; simp at e; omega
 have nb : ∀ c, c ≠ b + 1 -> c ∉ [b + 1] := fun c hn hm => hn (by simpa using hm)
 have tv := h.tv.chg hc n
 exact ⟨h.th.chg hc hL, h.st.later hc (fun c hm => by have := C.eb; simp at hm; omega), h.bv.step (Step.of_chg hc) hL, ⟨tv.lm, tv.lh, tv.la, tv.mem, tv.hol, tv.ask, tv.fr, hx, hy, hz, h1, h2, h3⟩, keep_cell_chg hc h.b0 (nb _ (by omega)), keep_cell_chg hc h.b1 (nb _ (by omega)), keep_cell_chg hc h.b2 (nb _ (by omega)), s0, s1, s2, s3, s4, s5,
  keep_cell_chg hc h.e0 (nb _ (by omega)), keep_cell_chg hc h.e1 (nb _ (by omega)), keep_cell_chg hc h.e2 (nb _ (by omega)), fs, h.rs.chg hc (nb _ (by omega))⟩
def StPost (G : Gd) (L : List Nat) (T0 : Tab) (w0 : World) (lm : List MR) (vm vl : Value) (fm : List Nat) (pa : Option Addr) (pc : Nat) (vw vh va : Value) (fw fh fa : List Nat) (m : Nat) (wo : Int) (e : Ending) (w : World) : Prop :=
 ∃ T ms hs qs xa xn xc ya yn yc za zn zc ok, e = .returned (.tuple #[.agg #[vw, vh, va, .slice xa xn xc, .slice ya yn yc, .slice za zn zc], .bool ok]) ∧ TH G L T w ∧ Step (fw ++ fh ++ fa) T0 w0 T w ∧ BusV G L lm vm vl fm pa pc T w ∧ TlmV L vw vh va fw fh fa (m + 1) T w ms hs qs xa xn xc ya yn yc za zn zc ∧ (ok = true -> 0 <= wo ∧ wo <= 2)
theorem StB.done {ok : Bool} (C : StC L b w0 fm fw fh fa) (h : StB G L b T0 w0 lm vm vl fm pa pc vw vh va fw fh fa (m + 1) kd wo nn T w ms hs qs xa xn xc ya yn yc za zn zc) (hc : Chg [b + 1 + 1 + 1] w w') (hok : ok = true -> 0 <= wo ∧ wo <= 2) :
 StPost G L T0 w0 lm vm vl fm pa pc vw vh va fw fh fa m wo (.returned (.tuple #[.agg #[vw, vh, va, .slice xa xn xc, .slice ya yn yc, .slice za zn zc], .bool ok])) w' := by
 have hL : ∀ c, c ∈ [b + 1 + 1 + 1] -> c ∈ bx b ++ L := fun c hm => by simp at hm; subst hm; simp [bx]
 have n : ∀ c, c ∈ fw ++ fh ++ fa -> c ∉ [b + 1 + 1 + 1] := fun c hm e => by have := C.lw c hm; simp at e; omega
 have bv := h.bv.step (Step.of_chg (T := T) hc) hL
 exact ⟨T, ms, hs, qs, xa, xn, xc, ya, yn, yc, za, zn, zc, ok, rfl, (h.th.chg hc hL).closed (by simp_all), h.st.later hc (fun c hm => by have := C.eb; simp at hm; omega), ⟨bv.mp, bv.fz.closed (by simp_all), bv.prg, bv.vl⟩, h.tv.chg hc n, hok⟩
theorem StB.mono {m' : Nat} (h : StB G L b T0 w0 lm vm vl fm pa pc vw vh va fw fh fa m kd wo nn T w ms hs qs xa xn xc ya yn yc za zn zc) (hm : m <= m') : StB G L b T0 w0 lm vm vl fm pa pc vw vh va fw fh fa m' kd wo nn T w ms hs qs xa xn xc ya yn yc za zn zc :=
 { h with tv := h.tv.mono hm }
theorem TlmV.re {L' : List Nat} (h : TlmV L vw vh va fw fh fa m T w ms hs qs xa xn xc ya yn yc za zn zc) : TlmV L' vw vh va fw fh fa m T w ms hs qs xa xn xc ya yn yc za zn zc :=
 ⟨h.lm, h.lh, h.la, h.mem, h.hol, h.ask, h.fr, h.wt, h.dn, h.td, h.nx, h.ny, h.nz⟩
theorem StB.open1 {q : Nat} (C : StC L b w0 fm fw fh fa) (h : StB G L b T0 w0 lm vm vl fm pa pc vw vh va fw fh fa m kd wo nn T w ms hs qs xa xn xc ya yn yc za zn zc) (hb : Below w.heap.size w w') (h1 : w.heap.size <= q) (h2 : q < w'.heap.size) :
 StB G (q :: L) b T0 w0 lm vm vl fm pa pc vw vh va fw fh fa m kd wo nn T w' ms hs qs xa xn xc ya yn yc za zn zc := by
 have h' := h.below C hb
 refine ⟨(h.th.opened hb h1 h2).closed (by simp; exact fun c hc => by rcases hc with hc | rfl | hc <;> simp [*]), h'.st, ⟨h'.bv.mp, fun d hd => ?_, h'.bv.prg, h'.bv.vl⟩, h'.tv.re, h'.b0, h'.b1, h'.b2, h'.s0, h'.s1, h'.s2, h'.s3, h'.s4, h'.s5, h'.e0, h'.e1, h'.e2, h'.fs, h'.rs⟩
 obtain ⟨g1, g2, g3⟩ := h.bv.fz d hd
 refine ⟨g1, ?_, Nat.lt_of_lt_of_le g3 hb.size⟩
 simp only [List.mem_append, List.mem_cons, not_or] at g2 ⊢
 exact ⟨g2.1, by omega, g2.2⟩
theorem StB.shut {Lx : List Nat} (h : StB G Lx b T0 w0 lm vm vl fm pa pc vw vh va fw fh fa m kd wo nn T w ms hs qs xa xn xc ya yn yc za zn zc) (hs' : ∀ c, c ∈ L -> c ∈ Lx) :
 StB G L b T0 w0 lm vm vl fm pa pc vw vh va fw fh fa m kd wo nn T w ms hs qs xa xn xc ya yn yc za zn zc := by
 have k : ∀ c, c ∈ bx b ++ L -> c ∈ bx b ++ Lx := fun c hc => by
  rcases List.mem_append.1 hc with hc | hc
  · simp [hc]
  · simp [hs' c hc]
 exact ⟨h.th.closed k, h.st, ⟨h.bv.mp, h.bv.fz.closed k, h.bv.prg, h.bv.vl⟩, h.tv.re, h.b0, h.b1, h.b2, h.s0, h.s1, h.s2, h.s3, h.s4, h.s5, h.e0, h.e1, h.e2, h.fs, h.rs⟩
theorem StB.far {q : Nat} (C : StC L b w0 fm fw fh fa) (h : StB G L b T0 w0 lm vm vl fm pa pc vw vh va fw fh fa m kd wo nn T w ms hs qs xa xn xc ya yn yc za zn zc) (hc : Chg [q] w w') (hq : q ∈ L) (hq2 : b + 1 + 1 + 1 < q) :
 StB G L b T0 w0 lm vm vl fm pa pc vw vh va fw fh fa m kd wo nn T w' ms hs qs xa xn xc ya yn yc za zn zc := by
 have hL : ∀ c, c ∈ [q] -> c ∈ bx b ++ L := fun c hm => by simp at hm; subst hm; simp [hq]
 have n : ∀ c, c ∈ fw ++ fh ++ fa -> c ∉ [q] := fun c hm e => by have := C.lw c hm; simp at e; omega
 have nb : ∀ c, c <= b + 1 + 1 + 1 -> c ∉ [q] := fun c hn hm => by simp at hm; omega
 exact ⟨h.th.chg hc hL, h.st.later hc (fun c hm => by have := C.eb; simp at hm; omega), h.bv.step (Step.of_chg hc) hL, h.tv.chg hc n, keep_cell_chg hc h.b0 (nb _ (by omega)), keep_cell_chg hc h.b1 (nb _ (by omega)), keep_cell_chg hc h.b2 (nb _ (by omega)), keep_cell_chg hc h.s0 (nb _ (by omega)), keep_cell_chg hc h.s1 (nb _ (by omega)), keep_cell_chg hc h.s2 (nb _ (by omega)), keep_cell_chg hc h.s3 (nb _ (by omega)), keep_cell_chg hc h.s4 (nb _ (by omega)), keep_cell_chg hc h.s5 (nb _ (by omega)),
  keep_cell_chg hc h.e0 (nb _ (by omega)), keep_cell_chg hc h.e1 (nb _ (by omega)), keep_cell_chg hc h.e2 (nb _ (by omega)), fun o => (World.frozen?_of_block (hc.block (b + 1) (block_of_cell h.s0) (nb _ (by omega)))).trans (h.fs o), h.rs.chg hc (nb _ (by omega))⟩
end Go.Proofs.Ytmcjklicepaiaaa
namespace Go.Proofs.Ytmcjklicepaiaaa
open Go.RowKit Go.WideShapes
variable {L0 fq fm : List Nat} {rb : Nat} {T0 T : Tab} {w w1 w2 : World} {M : Int} {lm : List MR} {va la pa : Option Addr} {vn vc ln lc pn pc : Nat} {G G' : Gd}
theorem BusPost.weaken {e : Ending} (h : BusPost G L0 rb fq T0 w M e w2 T lm fm va vn vc la ln lc pa pn pc) (hG : ∀ x, G.ok x -> G'.ok x) (hcp : G.cap <= G'.cap) : BusPost G' L0 rb fq T0 w M e w2 T lm fm va vn vc la ln lc pa pn pc :=
 ⟨h.ret, h.th.weaken hG hcp, h.st, h.rd, h.mp, h.fz, h.lat, h.prg⟩
theorem BusAt.weaken {bx cx : Nat} {vm : Value} (h : BusAt G L0 rb bx cx fq T0 w M lm fm vm T w2 la ln lc pa pn pc) (hG : ∀ x, G.ok x -> G'.ok x) (hcp : G.cap <= G'.cap) : BusAt G' L0 rb bx cx fq T0 w M lm fm vm T w2 la ln lc pa pn pc :=
 ⟨h.th.weaken hG hcp, h.st, h.rd, h.mp, h.fz, h.lat, h.prg, h.c0, h.c1, h.c2, h.fr, h.r0, h.r1, h.r2, h.fc⟩
theorem BusAt.start {e : Ending} (hrb : rb ∈ L0) (hfq : ∀ b, b ∈ fq -> b ∈ L0) (hlt : rb < w.heap.size) (hold : ∀ b, b ∈ fq -> b < w.heap.size) (b1 : Below w.heap.size w w1) (z1 : w.heap.size < w1.heap.size) (ht : T0 w.heap.size = none)
 (hp : BusPost G (w.heap.size :: L0) rb fq T0 w1 M e w2 T lm fm va vn vc la ln lc pa pn pc) (r0 : ∃ u, w1.cell? ⟨w.heap.size, 0, none⟩ = some u) (r1 : ∃ u, w1.cell? ⟨w.heap.size, 1, none⟩ = some u) (r2 : ∃ u, w1.cell? ⟨w.heap.size, 2, none⟩ = some u) (rf : ∀ o, w1.frozen? ⟨w.heap.size, o, none⟩ = false) (t : TypeId) :
 BusC (w2.heap.size :: w.heap.size :: L0) rb w2.heap.size w.heap.size fq w ∧
 BusAt G (w2.heap.size :: w.heap.size :: L0) rb w2.heap.size w.heap.size fq T0 w M lm fm (.slice va vn vc) T (w2.alloc (.cells #[.slice va vn vc, .slice la ln lc, .slice pa pn pc] t)) la ln lc pa pn pc := by
 have z2 := hp.st.size
 have bb := below_alloc w2 (.cells #[.slice va vn vc, .slice la ln lc, .slice pa pn pc] t)
 have hnr : w.heap.size ∉ [rb] := by simp; omega
 have hnb : w.heap.size ≠ rb := by omega
 refine ⟨⟨by simp [hrb], by simp, by simp, fun b hb => by simp [hfq b hb], by omega, hnb, by omega, fun hm => by have := hold _ hm; omega, fun hm => by have := hold _ hm; omega, by omega, Nat.le_refl _⟩,
  ⟨hp.th.opened bb (Nat.le_refl _) (by simp), ((Step.of_chg (b1.chg [rb])).trans hp.st).trans (Step.of_chg (bb.chg [rb])), hp.rd.below bb, hp.mp.below mrR_fits bb, fun b hb => ?_, hp.lat, hp.prg, alloc1_new _ _ _ 0 rfl, alloc1_new _ _ _ 1 rfl, alloc1_new _ _ _ 2 rfl, fun o => alloc1_free _ _ _ _,
   r0.imp fun u hu => alloc_keep (hp.st.cell hu hnr ht) _, r1.imp fun u hu => alloc_keep (hp.st.cell hu hnr ht) _, r2.imp fun u hu => alloc_keep (hp.st.cell hu hnr ht) _,
   fun o => keep_free bb (show w.heap.size < w2.heap.size by omega) ((World.frozen?_of_block (hp.st.block w.heap.size z1 hnr ht)).trans (rf o))⟩⟩
 obtain ⟨g1, g2, g3⟩ := hp.fz b hb
 exact ⟨g1, by simp only [List.mem_cons, not_or] at g2 ⊢; exact ⟨by omega, g2⟩, by simp; omega⟩
theorem SlT.addr {k n : Nat} {a : Option Addr} (h : SlT T k a n) (hn : 0 < n) : ∃ b off, a = some ⟨b, off, none⟩ := by
 rcases h with rfl | ⟨b, o, x, rfl, _⟩
 · omega
 · exact ⟨b, _, rfl⟩
theorem SlA.tail {k n cap b off : Nat} (h : SlA T k (some ⟨b, off, none⟩) n cap) (hn : 1 < cap) (h0 : 0 < n) (hk : kK k = 1) : SlA T k (some ⟨b, off + 1, none⟩) (n - 1) (cap - 1) := by
 obtain ⟨h1, h2, ⟨h3, _⟩ | ⟨b', o, x, e, g1, g2, g3, g4⟩⟩ := h
 · cases h3
 · cases e
   refine ⟨by omega, by omega, .inr ⟨b, o + 1, x, ?_, g1, g2, by omega, ?_⟩⟩
   · rw [hk]
     simp only [Nat.mul_one, Nat.add_assoc]
   · rw [hk] at g4 ⊢
     simp only [Nat.mul_one] at g4 ⊢
     omega
theorem SlT.row {n i : Nat} {b off : Nat} (h : SlT T 4 (some ⟨b, off, none⟩) n) (hi : i < n) (hT : TH G L0 T w) : ∃ a nn cc, w.cell? ⟨b, off + i, none⟩ = some (.slice a nn cc) ∧ SlA T 2 a nn cc ∧ nn <= G.cap ∧ T b ≠ none := by
 rcases h with rfl | ⟨b', o, x, e, hb, hk, hn⟩
 · omega
 · cases e
   obtain ⟨cs, _, ⟨a, nn, cc, rfl, hA, hc⟩, h3⟩ := hT.at' hb hk hn hi
   have := h3 0 (by simp)
   simp only [Nat.add_zero, List.getElem_cons_zero, kK, Nat.mul_one] at this
   refine ⟨a, nn, cc, ?_, hA, hc, by rw [hb]; simp⟩
   rw [show kK 4 = 1 from rfl, Nat.mul_one]
   exact this
theorem BusAt.move {L fq fm : List Nat} {rb bx cx : Nat} {T0 T T' : Tab} {w0 w w' : World} {M M' : Int} {lm : List MR} {vm : Value} {la pa : Option Addr} {ln lc pn pc : Nat} (C : BusC L rb bx cx fq w0) (h : BusAt G L rb bx cx fq T0 w0 M lm fm vm T w la ln lc pa pn pc) (t : TH G L T' w') (s : Step [rb] T w T' w') (hr : RdAt w' rb fq M') : BusAt G L rb bx cx fq T0 w0 M' lm fm vm T' w' la ln lc pa pn pc := by
 have tb := h.th.rd bx C.hbx
 have tc := h.th.rd cx C.hcx
 have q : ∀ b, b ∈ [rb] -> b ∈ L := by simpa using C.hrb
 have n1 : bx ∉ [rb] := by simpa using C.n1
 have n2 : cx ∉ [rb] := by simpa using C.n2
 exact ⟨t, h.st.trans s, hr, h.mp.same mrR_fits (h.fz.same s q) s.size, h.fz.step s, h.lat.ext s.ext, h.prg.ext s.ext, s.cell h.c0 n1 tb, s.cell h.c1 n1 tb, s.cell h.c2 n1 tb,
  fun o => (World.frozen?_of_block (s.block bx (block_of_cell h.c0) n1 tb)).trans (h.fr o), h.r0.imp fun u e => s.cell e n2 tc, h.r1.imp fun u e => s.cell e n2 tc, h.r2.imp fun u e => s.cell e n2 tc,
  fun o => (World.frozen?_of_block (s.block cx (h.th.old cx C.hcx) n2 tc)).trans (h.fc o)⟩
def OrI (L : List Nat) (rb : Nat) (fq : List Nat) (T : Tab) (w5 : World) (nn : Nat) (base : Int) (ls : Nat -> Bool) (u : Nat -> Value) (m : Nat) (w : World) : Prop :=
 RdAt w rb fq (base + 3000 * m) ∧
 (ls 9 = false -> Chg [rb] w5 w ∧
  (ls 7 = true -> ∃ (x : Req) (da : Option Addr) (dn dc : Nat) (ea : Option Addr) (en ec : Nat), u 7 = .agg #[.int .i64 x.id, .int .i64 x.kind, .int .i64 x.addr, .int .i64 x.many, .bool x.wrap, .slice da dn dc, .slice ea en ec] ∧ UnitOk gAny L T w 2 [.int .i64 x.id, .int .i64 x.kind, .int .i64 x.addr, .int .i64 x.many, .bool x.wrap, .slice da dn dc, .slice ea en ec]) ∧
  (ls 8 = true -> ∃ (b : Nat) (x : Req) (da : Option Addr) (dn dc : Nat) (ea : Option Addr) (en ec : Nat), u 8 = .slice (some ⟨b, 0, none⟩) 1 1 ∧ UnitOk gAny L T w 2 [.int .i64 x.id, .int .i64 x.kind, .int .i64 x.addr, .int .i64 x.many, .bool x.wrap, .slice da dn dc, .slice ea en ec] ∧
   ∀ j (hj : j < ([.int .i64 x.id, .int .i64 x.kind, .int .i64 x.addr, .int .i64 x.many, .bool x.wrap, .slice da dn dc, .slice ea en ec] : List Value).length), w.cell? ((⟨b, 0, none⟩ : Addr).add j) = some ([.int .i64 x.id, .int .i64 x.kind, .int .i64 x.addr, .int .i64 x.many, .bool x.wrap, .slice da dn dc, .slice ea en ec] : List Value)[j])) ∧
 (ls 9 = true -> ∃ (ao' : Option Addr) (cap' : Nat) (T' : Tab), u 9 = .slice ao' (nn + 1) cap' ∧ TH gAny L T' w ∧ Step [rb] T w5 T' w ∧ SlA T' 2 ao' (nn + 1) cap')
variable {L : List Nat} {T' : Tab} {w5 w' : World} {nn m : Nat} {base : Int} {ls : Nat -> Bool} {u : Nat -> Value}
theorem OrI.cell (h : OrI L rb fq T w5 nn base ls u m w) {bx j : Nat} {v : Value} (hc : w5.cell? ⟨bx, j, none⟩ = some v) (n : bx ∉ [rb]) (t : T bx = none) : w.cell? ⟨bx, j, none⟩ = some v := by
 cases e : ls 9 with
 | false => exact keep_cell_chg (h.2.1 e).1 hc n
 | true =>
  obtain ⟨_, _, T', _, _, s, _⟩ := h.2.2 e
  exact s.cell hc n t
theorem OrI.next {i : Nat} {v : Value} (h7 : 7 ≠ i) (h8 : 8 ≠ i) (h9 : 9 ≠ i) (h : OrI L rb fq T w5 nn base ls u m w) : OrI L rb fq T w5 nn base (fun j => decide (j = i) || ls j) (fun j => if j = i then v else u j) (m + 1) w := by
 refine ⟨h.1.mono (by omega), fun e => ?_, fun e => ?_⟩
 · simp only [h7, h8, h9, if_false, decide_false, Bool.false_or] at e ⊢; exact h.2.1 e
 · simp only [h9, if_false, decide_false, Bool.false_or] at e ⊢; exact h.2.2 e
theorem OrI.seven (h : OrI L rb fq T w5 nn base ls u m w) (l8 : ls 8 = false) (l9 : ls 9 = false) (hc : Chg [rb] w w') (hr : RdAt w' rb fq (base + 3000 * m + 2000)) {x : Req} {da : Option Addr} {dn dc : Nat} {ea : Option Addr} {en ec : Nat} (hU : UnitOk gAny L T w' 2 [.int .i64 x.id, .int .i64 x.kind, .int .i64 x.addr, .int .i64 x.many, .bool x.wrap, .slice da dn dc, .slice ea en ec]) :
 OrI L rb fq T w5 nn base (fun j => decide (j = 7) || ls j) (fun j => if j = 7 then .agg #[.int .i64 x.id, .int .i64 x.kind, .int .i64 x.addr, .int .i64 x.many, .bool x.wrap, .slice da dn dc, .slice ea en ec] else u j) (m + 1) w' := by
 refine ⟨hr.mono (by omega), fun _ => ⟨(h.2.1 l9).1.trans' hc, fun _ => ⟨x, da, dn, dc, ea, en, ec, rfl, hU⟩, fun e => ?_⟩, fun e => ?_⟩
 · have e' : ls 8 = true := e
   rw [l8] at e'; cases e'
 · have e' : ls 9 = true := e
   rw [l9] at e'; cases e'
theorem OrI.eight (h : OrI L rb fq T w5 nn base ls u m w) (l9 : ls 9 = false) {x : Req} {da : Option Addr} {dn dc : Nat} {ea : Option Addr} {en ec : Nat} {t : TypeId} (hU : UnitOk gAny L T w 2 [.int .i64 x.id, .int .i64 x.kind, .int .i64 x.addr, .int .i64 x.many, .bool x.wrap, .slice da dn dc, .slice ea en ec]) :
 OrI L rb fq T w5 nn base (fun j => decide (j = 8) || ls j) (fun j => if j = 8 then .slice (some ⟨w.heap.size, 0, none⟩) 1 1 else u j) (m + 1) (w.alloc (.cells #[.int .i64 x.id, .int .i64 x.kind, .int .i64 x.addr, .int .i64 x.many, .bool x.wrap, .slice da dn dc, .slice ea en ec] t)) := by
 have ba := below_alloc w (.cells #[.int .i64 x.id, .int .i64 x.kind, .int .i64 x.addr, .int .i64 x.many, .bool x.wrap, .slice da dn dc, .slice ea en ec] t)
 refine ⟨(h.1.below ba).mono (by omega), fun _ => ⟨(h.2.1 l9).1.trans' (ba.chg _), fun e => ?_, fun _ => ⟨w.heap.size, x, da, dn, dc, ea, en, ec, rfl, hU.step (Step.of_below [] ba) (by simp), fun j hj => ?_⟩⟩, fun e => ?_⟩
 · obtain ⟨y, q1, q2, q3, q4, q5, q6, e7, hV⟩ := (h.2.1 l9).2.1 e
   exact ⟨y, q1, q2, q3, q4, q5, q6, e7, hV.step (Step.of_below [] ba) (by simp)⟩
 · rw [add_plain, Nat.zero_add]
   exact alloc1_new w _ _ j (by rw [List.getElem?_toArray]; exact List.getElem?_eq_getElem hj)
 · have e' : ls 9 = true := e
   rw [l9] at e'; cases e'
theorem OrI.nine (h : OrI L rb fq T w5 nn base ls u m w) (l9 : ls 9 = false) (hL : rb ∈ L) (hq : ∀ b, b ∈ fq -> b ∈ L) (ht : TH gAny L T w) (t : TH gAny L T' w') (s : Step [] T w T' w') {ao' : Option Addr} {cap' : Nat} (hA : SlA T' 2 ao' (nn + 1) cap') :
 OrI L rb fq T w5 nn base (fun j => decide (j = 9) || ls j) (fun j => if j = 9 then .slice ao' (nn + 1) cap' else u j) (m + 1) w' := by
 refine ⟨(h.1.step s (ht.rd rb hL) (fun b hb => ht.rd b (hq b hb)) rfl).mono (by omega), fun e => ?_, fun _ => ⟨ao', cap', T', rfl, t, (Step.of_chg (h.2.1 l9).1).trans (s.mono (by simp)), hA⟩⟩
 simp at e
theorem OrI.start (h : RdAt w rb fq base) (hl : ∀ i, ls i = false) : OrI L rb fq T w nn base ls u 0 w.drew :=
 ⟨(h.below (Below.refl _ _).drew).mono (by omega), fun _ => ⟨(Chg.refl _ _).drewN 1, fun e => (by rw [hl] at e; cases e), fun e => (by rw [hl] at e; cases e)⟩, fun e => by rw [hl] at e; cases e⟩
end Go.Proofs.Ytmcjklicepaiaaa
