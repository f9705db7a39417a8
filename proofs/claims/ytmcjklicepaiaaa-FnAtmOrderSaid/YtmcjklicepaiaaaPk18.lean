/-
 Texts of this claim laid together: TL Region7.
-/
import Derived.Test.YtmcjklicepaiaaaPk17
import Derived.Test.YtmcjklicepaiaaaPk07
set_option linter.unusedVariables false
set_option linter.unusedSimpArgs false
namespace Go.Proofs.Ytmcjklicepaiaaa
open Go.RowKit Go.WideShapes
variable {G : Gd} {L : List Nat} {T T' : Tab} {w w' : World} {fm fw fh fa : List Nat} {lm : List MR} {vm vl vw vh va : Value} {pa la : Option Addr} {pc lc m : Nat}
theorem SlT.jobsF {a : Option Addr} {n cap : Nat} (h : SlT T 3 a n) (hT : TH G L T w) (hcap : n <= cap) (hcm : cap <= maxLen) : ∃ l fp, SlR 5 jobR w l (.slice a n cap) fp ∧ (∀ x, x ∈ l -> jobFine x) ∧ (∀ c, c ∈ fp -> c ∉ L) ∧ l.length = n := by
 rcases h with rfl | ⟨b, o, x, rfl, hb, hk, hn⟩
 · exact ⟨[], [], ⟨a, 0, cap, rfl, rfl, hcap, hcm, .inl ⟨rfl, rfl⟩⟩, by simp, by simp, rfl⟩
 · have main : ∀ q, q <= n -> ∃ (l : List Job) (fps : List (List Nat)), l.length = q ∧ fps.length = q ∧ (∀ x, x ∈ l -> jobFine x) ∧ (∀ f, f ∈ fps -> ∀ c, c ∈ f -> c ∉ L) ∧ ∀ i (h : i < l.length) (h' : i < fps.length), ∃ cs, jobR w l[i] cs fps[i] ∧ ∀ j (hj : j < cs.length), w.cell? ⟨b, x.lo + o * kK 3 + i * kK 3 + j, none⟩ = some cs[j] := by
    intro q
    induction q with
    | zero => exact fun _ => ⟨[], [], rfl, rfl, by simp, by simp, fun i h => absurd h (by simp)⟩
    | succ q ih =>
     intro hq
     obtain ⟨l, fps, h1, h2, h3, hF, h4⟩ := ih (by omega)
     obtain ⟨cs, g1, ⟨y, fp, hR, hy, hz⟩, g3⟩ := hT.at' hb hk hn (show q < n by omega)
     refine ⟨l ++ [y], fps ++ [fp], by simp [h1], by simp [h2], fun z hz => ?_, fun f hf c hc => ?_, fun i h h' => ?_⟩
     · rcases List.mem_append.1 hz with hz | hz
       · exact h3 z hz
       · rw [List.mem_singleton] at hz; subst hz; exact hy
     · rcases List.mem_append.1 hf with hf | hf
       · exact hF f hf c hc
       · rw [List.mem_singleton] at hf; subst hf; exact (hz c hc).2.1
     · by_cases hiq : i < q
       · obtain ⟨cs', hR', hc'⟩ := h4 i (by omega) (by omega)
         exact ⟨cs', by rw [List.getElem_append_left (by omega), List.getElem_append_left (by omega)]; exact hR', hc'⟩
       · have hi' : i = q := by simp [h1] at h; omega
         subst hi'
         refine ⟨cs, ?_, g3⟩
         rw [List.getElem_append_right (by omega), List.getElem_append_right (by omega)]
         simpa [h1, h2] using hR
   obtain ⟨l, fps, h1, h2, h3, hF, h4⟩ := main n (Nat.le_refl _)
   refine ⟨l, b :: fps.flatten, ⟨_, n, cap, rfl, h1, hcap, hcm, .inr ⟨b, _, fps, rfl, hT.lt b x hb, rfl, by omega, h4⟩⟩, h3, fun c hc hm => ?_, h1⟩
   rcases List.mem_cons.1 hc with rfl | hc
   · rw [hT.rd c hm] at hb; cases hb
   · obtain ⟨f, hf, hcf⟩ := List.mem_flatten.1 hc
     exact hF f hf c hcf hm
theorem Step.drop {fp fq : List Nat} (h : Step fp T w T' w') (hs : ∀ b, b ∈ fp -> b < w.heap.size -> b ∈ fq) : Step fq T w T' w' :=
 ⟨h.os, h.tape, h.output, h.size, fun b hb hn ht => h.block b hb (fun hm => hn (hs b hm hb)) ht, h.ext, h.fresh⟩
theorem RdAt.move {rb : Nat} {fq fp : List Nat} {N : Int} (h : RdAt w rb fq N) (s : Step fp T w T' w') (h1 : T rb = none) (h2 : ∀ b, b ∈ fq -> T b = none) (h3 : rb ∉ fp) (h4 : ∀ b, b ∈ fq -> b ∉ fp) : RdAt w' rb fq N := by
 have hlt := h.lt
 obtain ⟨l, v, p, h0, hb, hn, hl, hp, p0, p1, hf⟩ := h
 have e : w'.heap[rb]? = w.heap[rb]? := s.block rb hlt h3 h1
 exact ⟨l, v, p, s.cell h0 h3 h1, hb.same byteR_fits (fun b hbb => s.block b (hb.lt byteR_fits b hbb) (h4 b hbb) (h2 b hbb)) s.size, hn, hl, s.cell hp h3 h1, p0, p1, (World.frozen?_of_block e).trans hf⟩
variable {rb rc cb sb : Nat} {fq : List Nat} {T0 : Tab} {w0 : World} {M M' : Int} {ms hs qs ms' hs' qs' : List Int} {xa ya za ea xa' ya' za' ea' : Option Addr} {xn xc yn yc zn zc en ec xn' xc' yn' yc' zn' zc' en' ec' : Nat}
structure RunC (L : List Nat) (rb rc cb sb : Nat) (fq : List Nat) (w0 : World) (fw fh fa : List Nat) : Prop where
 c : TlmC L fw fh fa
 hrb : rb ∈ L
 hfq : ∀ b, b ∈ fq -> b ∈ L
 hrc : rc ∈ L
 hrs : rc + 1 ∈ L
 hcb : cb ∈ L
 hsb : sb ∈ L
 lo : w0.heap.size <= rc
 l1 : rc + 1 < cb
 l2 : cb < sb
 lt : rb < rc
 lq : ∀ b, b ∈ fq -> b < rc
 lw : ∀ b, b ∈ fw ++ fh ++ fa -> cb < b ∧ b < sb
structure RunB (G : Gd) (L : List Nat) (rb rc cb sb : Nat) (fq : List Nat) (T0 : Tab) (w0 : World) (M : Int) (lm : List MR) (vm : Value) (fm : List Nat) (la : Option Addr) (lc : Nat) (pa : Option Addr) (pc : Nat) (vw vh va : Value) (fw fh fa : List Nat) (m : Nat) (T : Tab) (w : World) (ms hs qs : List Int) (xa : Option Addr) (xn xc : Nat) (ya : Option Addr) (yn yc : Nat) (za : Option Addr) (zn zc : Nat) (ea : Option Addr) (en ec : Nat) : Prop where
 th : TH G L T w
 st : Step [rb] T0 w0 T w
 rd : RdAt w rb fq M
 bv : BusV G L lm vm (.slice la 4 lc) fm pa pc T w
 lat : SlA T 1 la 4 lc
 tv : TlmV L vw vh va fw fh fa m T w ms hs qs xa xn xc ya yn yc za zn zc
 ev : SlA T 5 ea en ec
 ne : en <= m
 b0 : w.cell? ⟨cb, 0, none⟩ = some vm
 b1 : w.cell? ⟨cb, 1, none⟩ = some (.slice la 4 lc)
 b2 : w.cell? ⟨cb, 2, none⟩ = some (.slice pa 3 pc)
 s0 : w.cell? ⟨sb, 0, none⟩ = some vw
 s1 : w.cell? ⟨sb, 1, none⟩ = some vh
 s2 : w.cell? ⟨sb, 2, none⟩ = some va
 s3 : w.cell? ⟨sb, 3, none⟩ = some (.slice xa xn xc)
 s4 : w.cell? ⟨sb, 4, none⟩ = some (.slice ya yn yc)
 s5 : w.cell? ⟨sb, 5, none⟩ = some (.slice za zn zc)
 fs : ∀ o, w.frozen? ⟨sb, o, none⟩ = false
 q0 : RoomAt rc 3 w
 q1 : RoomAt (rc + 1) 6 w
theorem RunB.move {fp : List Nat} (C : RunC L rb rc cb sb fq w0 fw fh fa) (h : RunB G L rb rc cb sb fq T0 w0 M lm vm fm la lc pa pc vw vh va fw fh fa m T w ms hs qs xa xn xc ya yn yc za zn zc ea en ec) (t : TH G L T' w') (s : Step fp T w T' w') (hp : ∀ c, c ∈ fp -> c = rb ∨ c ∈ fw ++ fh ++ fa) (rd : RdAt w' rb fq M') {m' : Nat} (hm : m <= m') (tv : TlmV L vw vh va fw fh fa m' T' w' ms' hs' qs' xa xn xc ya yn yc za zn zc) :
    RunB G L rb rc cb sb fq T0 w0 M' lm vm fm la lc pa pc vw vh va fw fh fa m' T' w' ms' hs' qs' xa xn xc ya yn yc za zn zc ea en ec := by
  have hL : ∀ c, c ∈ fp -> c ∈ L := fun c hc => by
    rcases hp c hc with rfl | hc
    · exact C.hrb
    · exact C.c.inL c hc
  have n : ∀ c, c ≠ rb -> c ∉ fw ++ fh ++ fa -> c ∉ fp := fun c h1 h2 hm => (hp c hm).elim h1 h2
  have lt := C.lt
  have l1 := C.l1
  have l2 := C.l2
  have nc : cb ∉ fp := n _ (by omega) (fun hm => by have := C.lw _ hm; omega)
  have ns : sb ∉ fp := n _ (by omega) (fun hm => by have := C.lw _ hm; omega)
  have n0 : rc ∉ fp := n _ (by omega) (fun hm => by have := C.lw _ hm; omega)
  have n1 : rc + 1 ∉ fp := n _ (by omega) (fun hm => by have := C.lw _ hm; omega)
  have tc := h.th.rd cb C.hcb
  have ts := h.th.rd sb C.hsb
  have rm : ∀ {c k : Nat}, c ∈ L -> c ∉ fp -> RoomAt c k w -> RoomAt c k w' := fun {c k} hc hn hr => ⟨Nat.lt_of_lt_of_le hr.1 s.size, fun j hj => (hr.2.1 j hj).imp fun u e => s.cell e hn (h.th.rd c hc), fun o => (World.frozen?_of_block (s.block c hr.1 hn (h.th.rd c hc))).trans (hr.2.2 o)⟩
  exact ⟨t, ((h.st.mono (fq := rb :: fp) (fun c hc => by simp at hc; simp [hc])).trans (s.mono (fun c hc => by simp [hc]))).drop (fun c hc hl => by
      rcases List.mem_cons.1 hc with rfl | hc
      · simp
      · rcases hp c hc with rfl | hc
        · simp
        · have := C.lw c hc; have := C.lo; omega), rd, h.bv.step s hL, h.lat.ext s.ext, tv, h.ev.ext s.ext, Nat.le_trans h.ne hm, s.cell h.b0 nc tc, s.cell h.b1 nc tc, s.cell h.b2 nc tc, s.cell h.s0 ns ts, s.cell h.s1 ns ts, s.cell h.s2 ns ts, s.cell h.s3 ns ts, s.cell h.s4 ns ts, s.cell h.s5 ns ts,
    fun o => (World.frozen?_of_block (s.block sb (block_of_cell h.s0) ns ts)).trans (h.fs o), rm C.hrc n0 h.q0, rm C.hrs n1 h.q1⟩
theorem RunB.below (C : RunC L rb rc cb sb fq w0 fw fh fa) (h : RunB G L rb rc cb sb fq T0 w0 M lm vm fm la lc pa pc vw vh va fw fh fa m T w ms hs qs xa xn xc ya yn yc za zn zc ea en ec) (hb : Below w.heap.size w w') :
 RunB G L rb rc cb sb fq T0 w0 M lm vm fm la lc pa pc vw vh va fw fh fa m T w' ms hs qs xa xn xc ya yn yc za zn zc ea en ec :=
 h.move C (h.th.below hb) (Step.of_below [] hb) (by simp) (h.rd.below hb) (Nat.le_refl _) (h.tv.chg (hb.chg []) (by simp))
theorem RunB.draw (C : RunC L rb rc cb sb fq w0 fw fh fa) (h : RunB G L rb rc cb sb fq T0 w0 M lm vm fm la lc pa pc vw vh va fw fh fa m T w ms hs qs xa xn xc ya yn yc za zn zc ea en ec) (hc : Chg [rb] w w') (hr : RdAt w' rb fq M') :
 RunB G L rb rc cb sb fq T0 w0 M' lm vm fm la lc pa pc vw vh va fw fh fa m T w' ms hs qs xa xn xc ya yn yc za zn zc ea en ec :=
 h.move C (h.th.chg hc (by simpa using C.hrb)) (Step.of_chg hc) (fun c hc => .inl (by simpa using hc)) hr (Nat.le_refl _) (h.tv.chg hc (fun c hm e => by have := C.lw c hm; have := C.lt; have := C.l1; simp at e; omega))
theorem RunB.push (C : RunC L rb rc cb sb fq w0 fw fh fa) (h : RunB G L rb rc cb sb fq T0 w0 M lm vm fm la lc pa pc vw vh va fw fh fa m T w ms hs qs xa xn xc ya yn yc za zn zc ea en ec) (t : TH G L T' w') (s : Step [] T w T' w') (hA : SlA T' 5 ea' en' ec') (hn : en' <= m) :
 RunB G L rb rc cb sb fq T0 w0 M lm vm fm la lc pa pc vw vh va fw fh fa m T' w' ms hs qs xa xn xc ya yn yc za zn zc ea' en' ec' :=
 { h.move C t s (by simp) (h.rd.move s (h.th.rd rb C.hrb) (fun b hb => h.th.rd b (C.hfq b hb)) (by simp) (by simp)) (Nat.le_refl _) (TlmV.step C.c h.tv h.th s (by simp)) with ev := hA, ne := hn }
theorem RunB.mono (h : RunB G L rb rc cb sb fq T0 w0 M lm vm fm la lc pa pc vw vh va fw fh fa m T w ms hs qs xa xn xc ya yn yc za zn zc ea en ec) (hm : M <= M') :
 RunB G L rb rc cb sb fq T0 w0 M' lm vm fm la lc pa pc vw vh va fw fh fa m T w ms hs qs xa xn xc ya yn yc za zn zc ea en ec := { h with rd := h.rd.mono hm }
theorem RunB.box (C : RunC L rb rc cb sb fq w0 fw fh fa) (h : RunB G L rb rc cb sb fq T0 w0 M lm vm fm la lc pa pc vw vh va fw fh fa m T w ms hs qs xa xn xc ya yn yc za zn zc ea en ec) (hc : Chg [sb] w w') (s0 : w'.cell? ⟨sb, 0, none⟩ = some vw) (s1 : w'.cell? ⟨sb, 1, none⟩ = some vh) (s2 : w'.cell? ⟨sb, 2, none⟩ = some va)
 (s3 : w'.cell? ⟨sb, 3, none⟩ = some (.slice xa' xn' xc')) (s4 : w'.cell? ⟨sb, 4, none⟩ = some (.slice ya' yn' yc')) (s5 : w'.cell? ⟨sb, 5, none⟩ = some (.slice za' zn' zc')) (hx : SlA T 3 xa' xn' xc') (hy : SlA T 3 ya' yn' yc') (hz : SlA T 3 za' zn' zc') (h1 : xn' <= m) (h2 : yn' <= m) (h3 : zn' <= m) (fs : ∀ o, w'.frozen? ⟨sb, o, none⟩ = false) :
 RunB G L rb rc cb sb fq T0 w0 M lm vm fm la lc pa pc vw vh va fw fh fa m T w' ms hs qs xa' xn' xc' ya' yn' yc' za' zn' zc' ea en ec := by
 have hL : ∀ c, c ∈ [sb] -> c ∈ L := by simpa using C.hsb
 have lo := C.lo
 have l1 := C.l1
 have l2 := C.l2
 have lt := C.lt
 have n : ∀ c, c ∈ fw ++ fh ++ fa -> c ∉ [sb] := fun c hm e => by have := C.lw c hm; simp at e; omega
 have nb : ∀ c, c < sb -> c ∉ [sb] := fun c hn hm => by simp at hm; omega
 have tv := h.tv.chg hc n
 exact ⟨h.th.chg hc hL, h.st.later hc (fun c hm => by simp at hm; omega), h.rd.chg hc (nb _ (by omega)) (fun c hm => nb _ (by have := C.lq c hm; omega)), h.bv.step (Step.of_chg hc) hL, h.lat, ⟨tv.lm, tv.lh, tv.la, tv.mem, tv.hol, tv.ask, tv.fr, hx, hy, hz, h1, h2, h3⟩, h.ev, h.ne,
  keep_cell_chg hc h.b0 (nb _ (by omega)), keep_cell_chg hc h.b1 (nb _ (by omega)), keep_cell_chg hc h.b2 (nb _ (by omega)), s0, s1, s2, s3, s4, s5, fs, h.q0.chg hc (nb _ (by omega)), h.q1.chg hc (nb _ (by omega))⟩
theorem RunB.stepped {ok : Bool} {wo : Int} (C : RunC L rb rc cb sb fq w0 fw fh fa) (h : RunB G L rb rc cb sb fq T0 w0 M lm vm fm la lc pa pc vw vh va fw fh fa m T w ms hs qs xa xn xc ya yn yc za zn zc ea en ec) (t : TH G L T' w') (s : Step (fw ++ fh ++ fa) T w T' w') (tv : TlmV L vw vh va fw fh fa (m + 1) T' w' ms' hs' qs' xa' xn' xc' ya' yn' yc' za' zn' zc') :
 RunB G L rb rc cb sb fq T0 w0 M lm vm fm la lc pa pc vw vh va fw fh fa (m + 1) T' w' ms' hs' qs' xa xn xc ya yn yc za zn zc ea en ec :=
 h.move C t s (fun c hc => .inr hc) (h.rd.move s (h.th.rd rb C.hrb) (fun b hb => h.th.rd b (C.hfq b hb)) (fun hm => by have := C.lw rb hm; have := C.lt; have := C.l1; omega) (fun b hb hm => by have := C.lw b hm; have := C.lq b hb; have := C.l1; omega)) (Nat.le_succ _)
  ⟨tv.lm, tv.lh, tv.la, tv.mem, tv.hol, tv.ask, tv.fr, h.tv.wt.ext s.ext, h.tv.dn.ext s.ext, h.tv.td.ext s.ext, Nat.le_succ_of_le h.tv.nx, Nat.le_succ_of_le h.tv.ny, Nat.le_succ_of_le h.tv.nz⟩
end Go.Proofs.Ytmcjklicepaiaaa
namespace Go.Proofs.Ytmcjklicepaiaaa
open Go
variable {P : Program} {ops : Array Oper} {Q : Exit -> Act -> World -> Prop}
def Owes7 (P : Program) (ops : Array Oper) (Q : Exit -> Act -> World -> Prop) (T : Nat -> List Nat) (R : Nat -> Value -> World -> Prop) (I : (Nat -> Bool) -> (Nat -> Value) -> Nat -> World -> Prop) (a0 : Act) (i : Nat) : Prop :=
 ∀ o, ops[i]? = some o -> ∀ (u : Nat -> Value) (m : Nat) (w : World), m < ops.size -> ∀ ls : Nat -> Bool, I ls u m w -> ls i = false -> (∀ k, ls k = true -> ∀ j, j ∈ T k -> ls j = true) -> (∀ j, j ∈ T i -> ls j = true) -> (∀ j, j ∈ T i -> R j (u j) w) -> ∀ a : Act, (∀ x, x ∈ o.op.operands -> a.eval x = rho ops a0 u i x) ->
  o.wp P a w (fun a' w' => ∃ v, a' = a.put o.dst v ∧ R i v w' ∧ I (fun j => decide (j = i) || ls j) (fun j => if j = i then v else u j) (m + 1) w' ∧ ∀ j x, j ≠ i -> i ∉ T j -> R j x w -> R j x w') Q
theorem Owes7.mk {T : Nat -> List Nat} {R : Nat -> Value -> World -> Prop} {I : (Nat -> Bool) -> (Nat -> Value) -> Nat -> World -> Prop} {a0 : Act} {i : Nat} (o : Oper) (ho : ops[i]? = some o) (hg : o.guard = none) (hs : ∀ cs b, o.op ≠ .select cs b)
 (h : ∀ (u : Nat -> Value) (m : Nat) (w : World), m < ops.size -> ∀ ls : Nat -> Bool, I ls u m w -> ls i = false -> (∀ k, ls k = true -> ∀ j, j ∈ T k -> ls j = true) -> (∀ j, j ∈ T i -> ls j = true) -> (∀ j, j ∈ T i -> R j (u j) w) -> ∃ a1 : Act, o.op.operands.toList.map (rho ops a0 u i) = o.op.operands.toList.map a1.eval ∧ (∀ d, o.dst = some d -> d < a1.tmps.size) ∧
  wpList P #[] (Via a1 o (fun v w' => R i v w' ∧ I (fun j => decide (j = i) || ls j) (fun j => if j = i then v else u j) (m + 1) w' ∧ ∀ j x, j ≠ i -> i ∉ T j -> R j x w -> R j x w')) [o] a1 w) : Owes7 P ops Q T R I a0 i := by
 intro o' ho' u m w hm ls hI hli hld hlT hR a hev
 obtain rfl : o' = o := Option.some.inj (ho'.symm.trans ho)
 obtain ⟨a1, h1, h2, h3⟩ := h u m w hm ls hI hli hld hlT hR
 have h1' : ∀ x, x ∈ o'.op.operands -> rho ops a0 u i x = a1.eval x := fun x hx => List.map_inj_left.1 h1 x (by simpa using hx)
 exact wp_via hg hs (fun x hx => (hev x hx).trans (h1' x hx)) h2 h3
theorem region_tail7_gen {Goal : Prop} {a0 : Act} {wI : World} (hX : ∀ J : Array Bool -> Act -> World -> Prop,
      (∀ (i : Nat) (o : Oper), ops[i]? = some o -> ∀ e : Edge, e ∈ o.after -> Region.binds .any e = true -> e.on < i) ->
      (∀ (listed : Array Bool) (a : Act) (w : World) (i : Nat) (o : Oper), ops[i]? = some o -> listed.size = ops.size -> listed.getD i true = false -> (∀ e : Edge, e ∈ o.after -> Region.binds .any e = true -> listed.getD e.on false = true) -> J listed a w ->
        wpOp P ops Q i (fun a' w' => J (listed.setIfInBounds i true) a' w') a w) ->
      (∀ (listed : Array Bool) (a : Act) (w : World), listed.size = ops.size -> (∀ i, i < ops.size -> listed.getD i false = true) -> J listed a w -> Q .normal a w) -> J (Array.replicate ops.size false) a0 wI -> Goal)
    (T : Nat -> List Nat) (R : Nat -> Value -> World -> Prop) (I : (Nat -> Bool) -> (Nat -> Value) -> Nat -> World -> Prop) (size k : Nat) (hk : k <= ops.size)
    (hsize : a0.tmps.size = size) (hok : okRegionG ops T size = true) (htl : okTail ops T k = true) (hgd : ∀ i o g b, i < k -> ops[i]? = some o -> o.guard = some (g, b) -> ∀ v w, R g v w -> v = .bool b) (h0 : ∀ ls u, (∀ i, ls i = false) -> I ls u 0 wI) (hop : ∀ i, i < k -> Owes7 P ops Q T R I a0 i)
    (hend : ∀ (ls : Nat -> Bool) (u : Nat -> Value) (w' : World), (∀ i, i < k -> ls i = true) -> I ls u k w' -> (∀ i, i < k -> R i (u i) w') -> wpOps P ops Q (List.range' k (ops.size - k)) (fill ops u (fun _ => true) a0 k) w') : Goal := by
  have at' := fun {i o} (ho : ops[i]? = some o) => okRegionG_at hok ho
  have hdst : ∀ i d, dstOf ops i = some d -> d < a0.tmps.size := by
    intro i d hd
    cases ho : ops[i]? with
    | none => simp [dstOf, ho] at hd
    | some o => rw [hsize]; exact (at' ho).dst d (by simpa [dstOf, ho] using hd)
  -- all of the open part is done: the count
  have full : ∀ (listed : Array Bool) (m : Nat), listed.size = ops.size -> m + listed.toList.count false = ops.size -> (∀ i, k <= i -> listed.getD i false = false) -> (∀ i, i < k -> listed.getD i false = true) -> m = k := by
    intro listed m hsz hcnt hno hyes
    have e : listed.toList = List.replicate k true ++ List.replicate (ops.size - k) false := by
      refine List.ext_getElem (by simp; omega) fun i h1 h2 => ?_
      have hi : i < listed.size := by simpa using h1
      by_cases hik : i < k
      · have := hyes i hik
        rw [Array.getD, dif_pos hi] at this
        rw [List.getElem_append_left (by simpa using hik)]
        simpa using this
      · have := hno i (by omega)
        rw [Array.getD, dif_pos hi] at this
        rw [List.getElem_append_right (by simp; omega)]
        simpa using this
    rw [e, List.count_append, List.count_replicate, List.count_replicate] at hcnt
    simp at hcnt
    omega
  refine hX (fun listed a w => (∃ (u : Nat -> Value) (m : Nat), (∀ i, k <= i -> listed.getD i false = false) ∧ m + listed.toList.count false = ops.size ∧ a = fill ops u (fun i => listed.getD i false) a0 ops.size ∧
      (∀ i, i < ops.size -> listed.getD i false = true -> ∀ j, j ∈ T i -> listed.getD j false = true) ∧ (∀ i, i < ops.size -> listed.getD i false = true -> R i (u i) w) ∧ I (fun i => listed.getD i false) u m w) ∨
      ∃ q, k <= q ∧ q <= ops.size ∧ (∀ i, i < ops.size -> listed.getD i false = decide (i < q)) ∧ wpOps P ops Q (List.range' q (ops.size - q)) a w)
    (fun i o ho => (at' ho).back) ?_ ?_ ?_
  · intro listed a w i o ho hsz hli hdeps hJ
    have hi : i < ops.size := (Array.getElem?_eq_some_iff.1 ho).1
    have hil : i < listed.size := by omega
    have A := at' ho
    have hset : ∀ j, (listed.setIfInBounds i true).getD j false = (listed.getD j false || (j == i)) := by
      intro j
      by_cases hji : j = i
      · subst hji; simp [hil]
      · simp [Array.getD_eq_getD_getElem?, Array.getElem?_setIfInBounds_ne (Ne.symm hji), hji]
    have hlf : listed.getD i false = false := by
      rw [Array.getD, dif_pos hil] at hli ⊢; exact hli
    have goOn : ∀ q, q = i -> k <= q -> (∀ j, j < ops.size -> listed.getD j false = decide (j < q)) -> wpOps P ops Q (List.range' q (ops.size - q)) a w -> wpOp P ops Q i (fun a' w' => (∃ (u : Nat -> Value) (m : Nat), (∀ i_1, k <= i_1 -> (listed.setIfInBounds i true).getD i_1 false = false) ∧ m + (listed.setIfInBounds i true).toList.count false = ops.size ∧ a' = fill ops u (fun j => (listed.setIfInBounds i true).getD j false) a0 ops.size ∧
      (∀ i_1, i_1 < ops.size -> (listed.setIfInBounds i true).getD i_1 false = true -> ∀ j, j ∈ T i_1 -> (listed.setIfInBounds i true).getD j false = true) ∧ (∀ i_1, i_1 < ops.size -> (listed.setIfInBounds i true).getD i_1 false = true -> R i_1 (u i_1) w') ∧ I (fun j => (listed.setIfInBounds i true).getD j false) u m w') ∨
      ∃ q, k <= q ∧ q <= ops.size ∧ (∀ j, j < ops.size -> (listed.setIfInBounds i true).getD j false = decide (j < q)) ∧ wpOps P ops Q (List.range' q (ops.size - q)) a' w') a w := by
      intro q hq hkq hl hw
      subst hq
      rw [show ops.size - q = (ops.size - (q + 1)) + 1 by omega, List.range'_succ, wpOps_cons] at hw
      refine wpOp_mono (fun a' w' h => .inr ⟨q + 1, by omega, by omega, fun j hj => ?_, h⟩) hw
      rw [hset, hl j hj, Bool.eq_iff_iff]
      simp
      omega
    have hdown' : ∀ j, j < i -> k <= i -> (∀ e : Edge, e ∈ o.after -> Region.binds .any e = true -> ∀ q, q ∈ T e.on -> listed.getD q false = true) -> listed.getD j false = true := by
      intro j hj hki hd
      obtain ⟨_, e, he, hb, h⟩ := A.anc j (okTail_at htl hi hki hj)
      rcases h with h | h
      · rw [<- h]; exact hdeps e he hb
      · exact hd e he hb j h
    rcases hJ with ⟨u, m, hno, hcnt, ha, hdown, hR, hI⟩ | ⟨q, hkq, hqn, hl, hw⟩
    rotate_left
    · -- behind the open part
      have hiq : q <= i := by
        rcases Nat.lt_or_ge i q with h | h
        · have := hl i hi; rw [hlf] at this; simp at this; omega
        · exact h
      have : ∀ j, j < i -> listed.getD j false = true := fun j hj => hdown' j hj (by omega) fun e he hb p hp => by
        have h1 := A.back e he hb
        have h2 := hdeps e he hb
        rw [hl e.on (by omega)] at h2
        have h3 : e.on < q := of_decide_eq_true h2
        obtain ⟨oo, hoo⟩ : ∃ oo, ops[e.on]? = some oo := ⟨_, Array.getElem?_eq_getElem (by omega)⟩
        have h4 := ((at' hoo).anc p hp).1
        rw [hl p (by omega)]
        exact decide_eq_true (by omega)
      have hqi : q = i := by
        rcases Nat.lt_or_ge q i with h | h
        · have h1 := this q h
          rw [hl q (by omega)] at h1
          have := of_decide_eq_true h1
          omega
        · omega
      exact goOn q hqi hkq hl hw
    by_cases hik : k <= i
    · -- the first one behind the open part
      have hall : ∀ j, j < i -> listed.getD j false = true := fun j hj => hdown' j hj hik fun e he hb p hp => hdown e.on (by have := A.back e he hb; omega) (hdeps e he hb) p hp
      have hki : k = i := by
        rcases Nat.lt_or_ge k i with h | h
        · have h1 := hall k h
          rw [hno k (Nat.le_refl _)] at h1
          simp at h1
        · omega
      have hyes : ∀ j, j < k -> listed.getD j false = true := fun j hj => hall j (by omega)
      obtain rfl := full listed m hsz hcnt hno hyes
      have hw := hend _ u w (fun j hj => hyes j hj) hI (fun j hj => hR j (by omega) (hyes j hj))
      rw [<- fill_upto u (fun i => listed.getD i false) a0 m (fun j hj => hno j hj) hyes ops.size hk, <- ha] at hw
      exact goOn m hki (Nat.le_refl _) (fun j hj => by
        by_cases h1 : j < m
        · rw [hyes j h1]; exact (decide_eq_true h1).symm
        · rw [hno j (by omega)]; exact (decide_eq_false h1).symm) hw
    have hlf' : listed[i] = false := by rw [Array.getD, dif_pos hil] at hlf; exact hlf
    have hT : ∀ j, j ∈ T i -> listed.getD j false = true := by
      intro j hj
      obtain ⟨_, e, he, hb, h⟩ := A.anc j hj
      have h1 := hdeps e he hb
      rcases h with h | h
      · rw [<- h]; exact h1
      · exact hdown e.on (by have := A.back e he hb; omega) h1 j h
    have hwr : ∀ t, t ∈ tmpsOf o ++ o.dst.toList -> ∀ j, j < ops.size -> dstOf ops j = some t -> i < j -> listed.getD j false = false := by
      intro t ht j hj hdj hij
      rcases Bool.eq_false_or_eq_true (listed.getD j false) with h | h
      · have := hdown j hj h i (((A.order t ht j hj (by omega) hdj).2 hij))
        rw [hlf] at this; simp at this
      · exact h
    have hev : ∀ x, x ∈ o.op.operands -> a.eval x = rho ops a0 u i x := by
      intro x hx
      subst ha
      cases x with
      | tmp t =>
        have ht : t ∈ tmpsOf o ++ o.dst.toList := List.mem_append_left _ (List.mem_filterMap.2 ⟨.tmp t, by simpa using hx, rfl⟩)
        rw [fill_eval u _ a0 hdst]
        have e : lastW ops (fun i => listed.getD i false) t ops.size = lastW ops (fun _ => true) t i := by
          rw [lastW_stop _ t i ops.size (by omega)]
          · exact lastW_congr _ _ t i fun j hj hdj => hT j ((A.order t ht j (by omega) (by omega) hdj).1 hj)
          · intro j h1 h2 hdj
            by_cases hji : j = i
            · subst hji; exact hlf
            · exact hwr t ht j h2 hdj (by omega)
        rw [e]; rfl
      | const v => rfl
      | global g => rfl
      | func f => rfl
    have hmem0 : false ∈ listed.toList := by rw [<- hlf']; exact Array.getElem_mem_toList _
    have hpos := List.count_pos_iff.2 hmem0
    have hw := hop i (by omega) o ho u m w (by omega) _ hI hlf (fun k hk j hj => hdown k (by
        rcases Nat.lt_or_ge k ops.size with h | h
        · exact h
        · rw [Array.getD, dif_neg (by omega)] at hk; simp at hk) hk j hj) hT (fun j hj => hR j (by have := (A.anc j hj).1; omega) (hT j hj)) a hev
    unfold wpOp
    rw [ho]
    have hwant : Region.wanted o (yielded ops a.tmps) = true := by
      rcases A.guard with hg | ⟨g, b, d, hg, hgT, hgd1, hds, hon⟩
      · simp [Region.wanted, hg]
      · have hgl := hT g hgT
        have hgi : g < i := (A.anc g hgT).1
        have hv : u g = .bool b := hgd i o g b (by omega) ho hg _ _ (hR g (by omega) hgl)
        have he := fill_eval (ops := ops) u (fun i => listed.getD i false) a0 hdst d ops.size
        rw [lastW_only hgd1 hgl ops.size (by omega) hon, <- ha] at he
        simp only [hv] at he
        have hy : yielded ops a.tmps g = some b := by
          unfold yielded
          unfold dstOf at hgd1
          cases hog : ops[g]? with
          | none => rw [hog] at hgd1; simp at hgd1
          | some og =>
            rw [hog] at hgd1
            simp only [Option.bind_some] at hgd1
            simp only [Act.eval, Array.getD_eq_getD_getElem?] at he
            simp [hgd1]
            cases hx : a.tmps[d]? with
            | none => rw [hx] at he; simp [undef] at he
            | some y => rw [hx] at he; simp at he; subst he; rfl
        simp [Region.wanted, hg, hy]
    simp only [hwant, if_true]
    refine .inl (Oper.wp_mono (fun a' w' h => ?_) hw)
    obtain ⟨v, rfl, hRi, hI', hst⟩ := h
    refine .inl ⟨fun j => if j = i then v else u j, m + 1, fun j hj => by rw [hset, hno j hj]; simp; omega, ?_, ?_, ?_, ?_, ?_⟩
    · rw [Array.toList_setIfInBounds, List.count_set (by simpa using hil)]
      have hmem : false ∈ listed.toList := by rw [<- hlf']; exact Array.getElem_mem_toList _
      have hp := List.count_pos_iff.2 hmem
      rw [if_pos (by simp [hlf']), if_neg (by simp)]
      omega
    · have hd : dstOf ops i = o.dst := by simp [dstOf, ho]
      rw [show (fun i_1 => (listed.setIfInBounds i true).getD i_1 false) = (fun j => (listed.getD j false || (j == i))) from funext hset]
      rw [fill_put u (fun i => listed.getD i false) a0 i v hlf ops.size hi, hd, ha]
      intro j d hij hLj hdi hdj
      have hjs : j < ops.size := by
        rcases Nat.lt_or_ge j ops.size with h | h
        · exact h
        · rw [Array.getD, dif_neg (by omega)] at hLj; simp at hLj
      rw [hd] at hdi
      have := hwr d (List.mem_append_right _ (by simp [hdi])) j hjs hdj hij
      rw [this] at hLj; simp at hLj
    · intro k hk hlk j hj
      rw [hset] at hlk ⊢
      rcases Bool.or_eq_true _ _ ▸ hlk with h | h
      · rw [hdown k hk h j hj]; rfl
      · obtain rfl : k = i := by simpa using h
        rw [hT j hj]; rfl
    · intro k hk hlk
      rw [hset] at hlk
      by_cases hki : k = i
      · subst hki; simpa using hRi
      · simp only [hki, if_false]
        have hlk' : listed.getD k false = true := by simpa [hki] using hlk
        refine hst k _ hki (fun hm => ?_) (hR k hk hlk')
        have := hdown k hk hlk' i hm
        rw [hlf] at this; cases this
    · rw [show (fun j => (listed.setIfInBounds i true).getD j false) = (fun j => decide (j = i) || listed.getD j false) from funext fun j => by rw [hset, Bool.or_comm]; rfl]
      exact hI'
  · intro listed a w hsz hall hJ
    rcases hJ with ⟨u, m, hno, hcnt, ha, hdown, hR, hI⟩ | ⟨q, hkq, hqn, hl, hw⟩
    · have hkn : k = ops.size := by
        rcases Nat.lt_or_ge k ops.size with h | h
        · have h1 := hall k h
          rw [hno k (Nat.le_refl _)] at h1
          simp at h1
        · omega
      have hyes : ∀ j, j < k -> listed.getD j false = true := fun j hj => hall j (by omega)
      obtain rfl := full listed m hsz hcnt hno hyes
      have hw := hend _ u w (fun j hj => hyes j hj) hI (fun j hj => hR j (by omega) (hyes j hj))
      rw [<- fill_upto u (fun i => listed.getD i false) a0 m (fun j hj => hno j hj) hyes ops.size hk, <- ha, show ops.size - m = 0 by omega] at hw
      exact hw
    · have hqn' : q = ops.size := by
        rcases Nat.lt_or_ge q ops.size with h | h
        · have h1 := hall q h
          rw [hl q h] at h1
          have := of_decide_eq_true h1
          omega
        · omega
      rw [hqn', Nat.sub_self] at hw
      exact hw
  · have hrep : ∀ i, (Array.replicate ops.size false).getD i false = false := by
      intro i
      by_cases h : i < ops.size <;> simp [Array.getD, h]
    refine .inl ⟨fun _ => undef, 0, fun i _ => hrep i, by simp, ?_, fun i _ h => by rw [hrep] at h; simp at h, fun i _ h => by rw [hrep] at h; simp at h, h0 _ _ hrep⟩
    have : ∀ n, fill ops (fun _ => undef) (fun i => (Array.replicate ops.size false).getD i false) a0 n = a0 := by
      intro n
      induction n with
      | zero => rfl
      | succ n ih => unfold fill; rw [hrep, ih]; simp
    exact (this _).symm
theorem wp_region_tail7 {id : Nat} {L : List Value} {df : List Deferred} {w : World} (hm : P.follows .mixedOrders = true) (T : Nat -> List Nat) (R : Nat -> Value -> World -> Prop) (I : (Nat -> Bool) -> (Nat -> Value) -> Nat -> World -> Prop) (size n k : Nat) (ds : List (Option Tmp)) (tl : List Oper)
 (hsize : L.length = size) (hn : ops.size = n) (hk : k <= n) (hd : (ops.toList.take k).map (·.dst) = ds) (htl : ops.toList.drop k = tl) (hok : okRegionG ops T size = true) (hot : okTail ops T k = true) (G : List (Nat × Bool)) (hG : okGuards ops k G = true) (hGR : ∀ g b, (g, b) ∈ G -> ∀ v w, R g v w -> v = .bool b) (h0 : ∀ ls u, (∀ i, ls i = false) -> I ls u 0 w.drew) (hop : ∀ i, i < k -> Owes7 P ops Q T R I ⟨L.toArray, df⟩ i)
 (hend : ∀ (ls : Nat -> Bool) (u : Nat -> Value) (w' : World), (∀ i, i < k -> ls i = true) -> I ls u k w' -> (∀ i, i < k -> R i (u i) w') -> wpList P ops Q tl ⟨(setAll ds u 0 L).toArray, df⟩ w') :
 (Code.region id ops true).wp P Q ⟨L.toArray, df⟩ w := by
 subst hn
 refine region_tail7_gen (wI := w.drew) (fun J h1 h2 h3 h4 => wp_region_any hm (wpAny_inv J h1 h2 h3 ops.size _ _ _ (by simp) (by simp) h4)) T R I size k hk (by simpa using hsize) hok hot (fun i o g b hi ho hg => hGR g b (okGuards_at hG hi ho hg)) h0 hop fun ls u w' hls hI hR => ?_
 rw [fill_setAll_take hd u hk]
 have h := hend ls u w' hls hI hR
 have e := wpOps_eq_wpList (P := P) (ops := ops) (Q := Q) tl k (fun j => by rw [<- htl]; simp)
 have hl : tl.length = ops.size - k := by rw [<- htl]; simp
 rw [hl] at e
 rw [e]
 exact h
theorem keep7 {T : Nat -> List Nat} {R : Nat -> Value -> World -> Prop} {i : Nat} {w w' : World} (h : ∀ j x, R j x w -> R j x w') : ∀ j x, j ≠ i -> i ∉ T j -> R j x w -> R j x w' := fun j x _ _ hx => h j x hx
end Go.Proofs.Ytmcjklicepaiaaa
