/-
 Texts of this claim laid together: TH.
-/
import Derived.Test.YtaeiddoccfaheaaGreatPk31
import Derived.Test.YtaeiddoccfaheaaGreatPk10
import Derived.Test.YtaeiddoccfaheaaGreatPk30
import Derived.Test.YtaeiddoccfaheaaGreatPk24
import Derived.ArgAppend
import Derived.Deep.Upon
import Derived.Deep.MidRow
set_option linter.unusedVariables false
set_option linter.unusedSimpArgs false
namespace Go.Proofs.YtaeiddoccfaheaaGreat
open Go.RowKit Go.WideShapes
structure Bl where
 k : Nat
 lo : Nat
 m : Nat
 M : Nat
abbrev Tab := Nat -> Option Bl
def kK : Nat -> Nat
 | 2 => 7
 | 3 => 5
 | 5 => 3
 | 6 => 3
 | _ => 1
def Fz (L : List Nat) (T : Tab) (w : World) (fp : List Nat) : Prop := ∀ b, b ∈ fp -> T b = none ∧ b ∉ L ∧ b < w.heap.size
def SlT (T : Tab) (k : Nat) (a : Option Addr) (n : Nat) : Prop := n = 0 ∨ ∃ b o x, a = some ⟨b, x.lo + o * kK k, none⟩ ∧ T b = some x ∧ x.k = k ∧ o + n <= x.m
def SlA (T : Tab) (k : Nat) (a : Option Addr) (n cap : Nat) : Prop := n <= cap ∧ cap <= maxLen ∧ ((a = none ∧ n = 0 ∧ cap = 0) ∨ ∃ b o x, a = some ⟨b, x.lo + o * kK k, none⟩ ∧ T b = some x ∧ x.k = k ∧ o + n <= x.m ∧ (o + cap) * kK k <= x.M)
theorem SlA.t {T : Tab} {k : Nat} {a : Option Addr} {n cap : Nat} (h : SlA T k a n cap) : SlT T k a n := by
 obtain ⟨_, _, ⟨_, rfl, _⟩ | ⟨b, o, x, h1, h2, h3, h4, _⟩⟩ := h
 · exact .inl rfl
 · exact .inr ⟨b, o, x, h1, h2, h3, h4⟩
theorem SlA.take {T : Tab} {k : Nat} {a : Option Addr} {n cap m : Nat} (h : SlA T k a n cap) (hm : m <= n) : SlA T k a m cap := by
 obtain ⟨h1, h2, ⟨rfl, rfl, rfl⟩ | ⟨b, o, x, e, h3, h4, h5, h6⟩⟩ := h
 · exact ⟨by omega, h2, .inl ⟨rfl, by omega, rfl⟩⟩
 · exact ⟨by omega, h2, .inr ⟨b, o, x, e, h3, h4, by omega, h6⟩⟩
theorem SlT.take {T : Tab} {k : Nat} {a : Option Addr} {n m : Nat} (h : SlT T k a n) (hm : m <= n) : SlT T k a m := by
 rcases h with rfl | ⟨b, o, x, e, h3, h4, h5⟩
 · exact .inl (by omega)
 · exact .inr ⟨b, o, x, e, h3, h4, by omega⟩
theorem SlA.nil (T : Tab) (k : Nat) : SlA T k none 0 0 := ⟨Nat.le_refl _, Nat.zero_le _, .inl ⟨rfl, rfl, rfl⟩⟩
def reqFit (x : Req) : Prop := 0 <= x.id ∧ x.id <= 1 ∧ (adrOk x.addr x.many x.wrap = true -> x.kind ≠ 1 -> x.kind ≠ 3 -> (x.data.length : Int) = x.many ∧ (x.lanes.length : Int) = x.many)
def jobFine (x : Job) : Prop := 0 <= x.who ∧ x.who <= 2 ∧ 0 <= x.n ∧ x.n <= 1000000 ∧ x.rsp.data.length <= 4
structure Gd where
 ok : Req -> Prop
 cap : Nat
variable {G : Gd} {L : List Nat} {T T' T'' : Tab} {w w' w'' : World}
def UnitOk (G : Gd) (L : List Nat) (T : Tab) (w : World) (k : Nat) (cs : List Value) : Prop :=
 match k with
 | 1 => ∃ z : Int, cs = [.int .i64 z]
 | 2 => ∃ (x : Req) (fp : List Nat), reqR w x cs fp ∧ G.ok x ∧ Fz L T w fp
 | 3 => ∃ (x : Job) (fp : List Nat), jobR w x cs fp ∧ jobFine x ∧ Fz L T w fp
 | 4 => ∃ (a : Option Addr) (n cap : Nat), cs = [.slice a n cap] ∧ SlA T 2 a n cap ∧ n <= G.cap
 | 5 => ∃ a b c : Int, cs = [.int .i64 a, .int .i64 b, .int .i64 c] ∧ 0 <= b ∧ b <= 2
 | 6 => ∃ a b c : Int, cs = [.int .i64 a, .int .i64 b, .int .i64 c]
 | _ => False
def Ext (T T' : Tab) : Prop := ∀ b x, T b = some x -> ∃ m, x.m <= m ∧ T' b = some ⟨x.k, x.lo, m, x.M⟩
theorem Ext.refl (T : Tab) : Ext T T := fun b x h => ⟨x.m, Nat.le_refl _, h⟩
theorem Ext.trans (h : Ext T T') (g : Ext T' T'') : Ext T T'' := fun b x e => by
 obtain ⟨m, hm, e1⟩ := h b x e
 obtain ⟨m', hm', e2⟩ := g b _ e1
 exact ⟨m', Nat.le_trans hm hm', e2⟩
theorem SlT.ext {k : Nat} {a : Option Addr} {n : Nat} (h : SlT T k a n) (g : Ext T T') : SlT T' k a n := by
 rcases h with rfl | ⟨b, o, x, e, h1, h2, h3⟩
 · exact .inl rfl
 · obtain ⟨m, hm, e1⟩ := g b x h1
   exact .inr ⟨b, o, ⟨x.k, x.lo, m, x.M⟩, e, e1, h2, Nat.le_trans h3 hm⟩
theorem SlA.ext {k : Nat} {a : Option Addr} {n cap : Nat} (h : SlA T k a n cap) (g : Ext T T') : SlA T' k a n cap := by
 obtain ⟨h1, h2, ⟨rfl, rfl, rfl⟩ | ⟨b, o, x, e, h3, h4, h5, h6⟩⟩ := h
 · exact ⟨h1, h2, .inl ⟨rfl, rfl, rfl⟩⟩
 · obtain ⟨m, hm, e1⟩ := g b x h3
   exact ⟨h1, h2, .inr ⟨b, o, ⟨x.k, x.lo, m, x.M⟩, e, e1, h4, Nat.le_trans h5 hm, h6⟩⟩
structure Step (fq : List Nat) (T : Tab) (w : World) (T' : Tab) (w' : World) : Prop where
 os : w'.os = w.os
 tape : w'.tape = w.tape
 output : w'.output = w.output
 size : w.heap.size <= w'.heap.size
 block : ∀ b, b < w.heap.size -> b ∉ fq -> T b = none -> w'.heap[b]? = w.heap[b]?
 ext : Ext T T'
 fresh : ∀ b, T b = none -> b < w.heap.size -> T' b = none
theorem Step.refl (fq : List Nat) (T : Tab) (w : World) : Step fq T w T w := ⟨rfl, rfl, rfl, Nat.le_refl _, fun _ _ _ _ => rfl, Ext.refl T, fun _ h _ => h⟩
theorem Step.trans {fq : List Nat} (h : Step fq T w T' w') (g : Step fq T' w' T'' w'') : Step fq T w T'' w'' :=
 ⟨g.os.trans h.os, g.tape.trans h.tape, g.output.trans h.output, Nat.le_trans h.size g.size, fun b hb hn ht => (g.block b (Nat.lt_of_lt_of_le hb h.size) hn (h.fresh b ht hb)).trans (h.block b hb hn ht), h.ext.trans g.ext,
  fun b ht hb => g.fresh b (h.fresh b ht hb) (Nat.lt_of_lt_of_le hb h.size)⟩
theorem Step.mono {fp fq : List Nat} (h : Step fp T w T' w') (hs : ∀ b, b ∈ fp -> b ∈ fq) : Step fq T w T' w' := ⟨h.os, h.tape, h.output, h.size, fun b hb hn => h.block b hb fun hm => hn (hs b hm), h.ext, h.fresh⟩
theorem Step.of_chg {fq : List Nat} (h : Chg fq w w') : Step fq T w T w' := ⟨h.os, h.tape, h.output, h.size, fun b hb hn _ => h.block b hb hn, Ext.refl T, fun _ h _ => h⟩
theorem Step.of_below (fq : List Nat) (h : Below w.heap.size w w') : Step fq T w T w' := Step.of_chg (h.chg fq)
theorem Step.same {fq fp : List Nat} (h : Step fq T w T' w') (hp : ∀ b, b ∈ fp -> b < w.heap.size ∧ b ∉ fq ∧ T b = none) : Same fp w w' := fun b hb => h.block b (hp b hb).1 (hp b hb).2.1 (hp b hb).2.2
theorem Step.cell {fq : List Nat} (h : Step fq T w T' w') {b o : Nat} {v : Value} (hc : w.cell? ⟨b, o, none⟩ = some v) (hn : b ∉ fq) (ht : T b = none) : w'.cell? ⟨b, o, none⟩ = some v :=
 (World.cell?_of_block (h.block b (block_of_cell hc) hn ht)).trans hc
theorem Fz.step {fq fp : List Nat} (h : Fz L T w fp) (s : Step fq T w T' w') : Fz L T' w' fp := fun b hb => by
 obtain ⟨h1, h2, h3⟩ := h b hb
 exact ⟨s.fresh b h1 h3, h2, Nat.lt_of_lt_of_le h3 s.size⟩
theorem Fz.closed {L' fp : List Nat} (h : Fz L T w fp) (hs : ∀ b, b ∈ L' -> b ∈ L) : Fz L' T w fp := fun d hd => ⟨(h d hd).1, fun hm => (h d hd).2.1 (hs d hm), (h d hd).2.2⟩
theorem Fz.same {fq fp : List Nat} (h : Fz L T w fp) (s : Step fq T w T' w') (hq : ∀ b, b ∈ fq -> b ∈ L) : Same fp w w' := fun b hb => by
 obtain ⟨h1, h2, h3⟩ := h b hb
 exact s.block b h3 (fun hm => h2 (hq b hm)) h1
theorem Fz.app {fp fq : List Nat} (h : Fz L T w fp) (g : Fz L T w fq) : Fz L T w (fp ++ fq) := fun b hb => (List.mem_append.1 hb).elim (h b) (g b)
theorem Fz.nil (L : List Nat) (T : Tab) (w : World) : Fz L T w [] := fun b hb => by simp at hb
theorem UnitOk.step {k : Nat} {cs : List Value} {fq : List Nat} (h : UnitOk G L T w k cs) (s : Step fq T w T' w') (hq : ∀ b, b ∈ fq -> b ∈ L) : UnitOk G L T' w' k cs := by
 unfold UnitOk at h ⊢
 split at h
 · exact h
 · obtain ⟨x, fp, hR, hG, hF⟩ := h
   exact ⟨x, fp, reqR_fits.same hR (hF.same s hq) s.size, hG, hF.step s⟩
 · obtain ⟨x, fp, hR, hG, hF⟩ := h
   exact ⟨x, fp, jobR_fits.same hR (hF.same s hq) s.size, hG, hF.step s⟩
 · obtain ⟨a, n, cap, rfl, hA, hn⟩ := h
   exact ⟨a, n, cap, rfl, hA.ext s.ext, hn⟩
 · exact h
 · exact h
 · exact h
structure TH (G : Gd) (L : List Nat) (T : Tab) (w : World) : Prop where
 lt : ∀ b x, T b = some x -> b < w.heap.size
 rd : ∀ c, c ∈ L -> T c = none
 old : ∀ c, c ∈ L -> c < w.heap.size
 free : ∀ b x, T b = some x -> ∀ o, w.frozen? ⟨b, o, none⟩ = false
 there : ∀ b x, T b = some x -> ∀ j, j < x.M -> (w.cell? ⟨b, x.lo + j, none⟩).isSome = true
 fit : ∀ b x, T b = some x -> x.m * kK x.k <= x.M
 unit : ∀ b x, T b = some x -> ∀ i, i < x.m -> ∃ cs, cs.length = kK x.k ∧ UnitOk G L T w x.k cs ∧ ∀ j (hj : j < cs.length), w.cell? ⟨b, x.lo + i * kK x.k + j, none⟩ = some cs[j]
theorem TH.chg {fq : List Nat} (h : TH G L T w) (hc : Chg fq w w') (hq : ∀ b, b ∈ fq -> b ∈ L) : TH G L T w' := by
 have hs : ∀ b x, T b = some x -> w'.heap[b]? = w.heap[b]? := fun b x e => hc.block b (h.lt b x e) (fun hm => by rw [h.rd b (hq b hm)] at e; cases e)
 refine ⟨fun b x e => Nat.lt_of_lt_of_le (h.lt b x e) hc.size, h.rd, fun c hm => Nat.lt_of_lt_of_le (h.old c hm) hc.size, fun b x e o => (World.frozen?_of_block (hs b x e)).trans (h.free b x e o), fun b x e j hj => ?_, h.fit, fun b x e i hi => ?_⟩
 · rw [World.cell?_of_block (hs b x e)]; exact h.there b x e j hj
 · obtain ⟨cs, h1, h2, h3⟩ := h.unit b x e i hi
   exact ⟨cs, h1, h2.step (Step.of_chg hc) hq, fun j hj => (World.cell?_of_block (hs b x e)).trans (h3 j hj)⟩
theorem TH.below (h : TH G L T w) (hb : Below w.heap.size w w') : TH G L T w' := h.chg (hb.chg []) (fun b hb => by simp at hb)
theorem TH.opened {b : Nat} (h : TH G L T w) (hb : Below w.heap.size w w') (hl : w.heap.size <= b) (hl' : b < w'.heap.size) : TH G (b :: L) T w' := by
 have h' := h.below hb
 refine ⟨h'.lt, fun c hc => ?_, fun c hc => ?_, h'.free, h'.there, h'.fit, fun c x e i hi => ?_⟩
 · rcases List.mem_cons.1 hc with rfl | hc
   · cases e : T c with
     | none => rfl
     | some x => have := h.lt c x e; omega
   · exact h.rd c hc
 · rcases List.mem_cons.1 hc with rfl | hc
   · exact hl'
   · exact h'.old c hc
 · obtain ⟨cs, h1, h2, h3⟩ := h.unit c x e i hi
   obtain ⟨cs', h1', h2', h3'⟩ := h'.unit c x e i hi
   have hF : ∀ fp, Fz L T w fp -> Fz (b :: L) T w' fp := fun fp hf d hd => by
    obtain ⟨g1, g2, g3⟩ := hf d hd
    refine ⟨g1, ?_, Nat.lt_of_lt_of_le g3 hb.size⟩
    simp only [List.mem_cons, not_or]
    exact ⟨by omega, g2⟩
   refine ⟨cs, h1, ?_, fun j hj => (World.cell?_of_block (hb.block c (h.lt c x e))).trans (h3 j hj)⟩
   unfold UnitOk at h2 ⊢
   split at h2
   · exact h2
   · obtain ⟨y, fp, hR, hg, hf⟩ := h2; exact ⟨y, fp, reqR_fits.below hR hb, hg, hF fp hf⟩
   · obtain ⟨y, fp, hR, hg, hf⟩ := h2; exact ⟨y, fp, jobR_fits.below hR hb, hg, hF fp hf⟩
   · exact h2
   · exact h2
   · exact h2
   · exact h2
theorem TH.closed {L' : List Nat} (h : TH G L T w) (hs : ∀ b, b ∈ L' -> b ∈ L) : TH G L' T w := by
 refine ⟨h.lt, fun c hc => h.rd c (hs c hc), fun c hc => h.old c (hs c hc), h.free, h.there, h.fit, fun c x e i hi => ?_⟩
 obtain ⟨cs, h1, h2, h3⟩ := h.unit c x e i hi
 have hF : ∀ fp, Fz L T w fp -> Fz L' T w fp := fun fp hf d hd => ⟨(hf d hd).1, fun hm => (hf d hd).2.1 (hs d hm), (hf d hd).2.2⟩
 refine ⟨cs, h1, ?_, h3⟩
 unfold UnitOk at h2 ⊢
 split at h2
 · exact h2
 · obtain ⟨y, fp, hR, hg, hf⟩ := h2; exact ⟨y, fp, hR, hg, hF fp hf⟩
 · obtain ⟨y, fp, hR, hg, hf⟩ := h2; exact ⟨y, fp, hR, hg, hF fp hf⟩
 · exact h2
 · exact h2
 · exact h2
 · exact h2
def Tab.put (T : Tab) (b : Nat) (x : Bl) : Tab := fun c => if c = b then some x else T c
theorem Tab.put_self (T : Tab) (b : Nat) (x : Bl) : T.put b x b = some x := by simp [Tab.put]
theorem Tab.put_other (T : Tab) {b c : Nat} (x : Bl) (h : c ≠ b) : T.put b x c = T c := by simp [Tab.put, h]
theorem setCells_size (b : Nat) : ∀ (vs : List Value) (o : Nat) (w : World), (w.setCells b o vs).heap.size = w.heap.size
 | [], _, _ => rfl
 | v :: r, o, w => by rw [World.setCells, setCells_size b r]; simp
theorem setCells_tape (b : Nat) : ∀ (vs : List Value) (o : Nat) (w : World), (w.setCells b o vs).tape = w.tape
 | [], _, _ => rfl
 | v :: r, o, w => by rw [World.setCells, setCells_tape b r]; rfl
theorem TH.put {b q : Nat} {x : Bl} {cs : List Value} (h : TH G L T w) (hb : T b = some x) (hq : q <= x.m) (hl : cs.length = kK x.k) (hU : UnitOk G L T w x.k cs) (hM : (q + 1) * kK x.k <= x.M) :
    let T' := T.put b ⟨x.k, x.lo, max x.m (q + 1), x.M⟩
    TH G L T' (w.setCells b (x.lo + q * kK x.k) cs) ∧ Step [] T w T' (w.setCells b (x.lo + q * kK x.k) cs) := by
  intro T'
  have hbl := h.lt b x hb
  have hsz : (w.setCells b (x.lo + q * kK x.k) cs).heap.size = w.heap.size := setCells_size _ _ _ _
  have hS : Step [] T w T' (w.setCells b (x.lo + q * kK x.k) cs) := by
    refine ⟨World.os_setCells _ _ _ _, setCells_tape _ _ _ _, World.output_setCells _ _ _ _, by omega, fun c hc _ ht => World.heap_setCells_other _ _ _ _ hc (fun e => by subst e; rw [hb] at ht; cases ht), fun c y hc => ?_, fun c hc _ => ?_⟩
    · by_cases e : c = b
      · subst e
        rw [hb] at hc
        cases hc
        exact ⟨_, Nat.le_max_left _ _, Tab.put_self ..⟩
      · exact ⟨y.m, Nat.le_refl _, (Tab.put_other _ _ e).trans hc⟩
    · have e : c ≠ b := fun e => by subst e; rw [hb] at hc; cases hc
      exact (Tab.put_other _ _ e).trans hc
  have hso : ∀ c, c ≠ b -> c < w.heap.size -> (w.setCells b (x.lo + q * kK x.k) cs).heap[c]? = w.heap[c]? := fun c hc hl => World.heap_setCells_other _ _ _ _ hl hc
  have hthere : ∀ j, j < cs.length -> (w.cell? ⟨b, x.lo + q * kK x.k + j, none⟩).isSome = true := fun j hj => by
    have := h.there b x hb (q * kK x.k + j) (by rw [Nat.succ_mul] at hM; omega)
    rwa [<- Nat.add_assoc] at this
  refine ⟨⟨fun c y hc => ?_, fun c hm => ?_, fun c hm => by rw [hsz]; exact h.old c hm, fun c y hc o => ?_, fun c y hc j hj => ?_, fun c y hc => ?_, fun c y hc i hi => ?_⟩, hS⟩
  · by_cases e : c = b
    · subst e; omega
    · rw [hsz]; exact h.lt c y ((Tab.put_other _ _ e).symm.trans hc)
  · have e : c ≠ b := fun e => by subst e; have := h.rd c hm; rw [hb] at this; cases this
    exact (Tab.put_other _ _ e).trans (h.rd c hm)
  · rw [World.frozen?_setCells]
    by_cases e : c = b
    · subst e; exact h.free c x hb o
    · exact h.free c y ((Tab.put_other _ _ e).symm.trans hc) o
  · have key : ∀ z : Bl, T c = some z -> z.M = y.M -> z.lo = y.lo -> ((w.setCells b (x.lo + q * kK x.k) cs).cell? ⟨c, y.lo + j, none⟩).isSome = true := fun z hz hM' hlo => World.isSome_setCells b cs _ w _ (by rw [<- hlo]; exact h.there c z hz j (by omega))
    by_cases e : c = b
    · subst e
      rw [show T' c = _ from Tab.put_self ..] at hc
      cases hc
      exact key x hb rfl rfl
    · exact key y ((Tab.put_other _ _ e).symm.trans hc) rfl rfl
  · by_cases e : c = b
    · subst e
      rw [show T' c = _ from Tab.put_self ..] at hc
      cases hc
      have := h.fit c x hb
      show max x.m (q + 1) * kK x.k <= x.M
      rcases Nat.le_total x.m (q + 1) with hle | hle
      · rw [Nat.max_eq_right hle]; exact hM
      · rw [Nat.max_eq_left hle]; exact this
    · exact h.fit c y ((Tab.put_other _ _ e).symm.trans hc)
  · by_cases e : c = b
    · subst e
      rw [show T' c = _ from Tab.put_self ..] at hc
      cases hc
      by_cases hiq : i = q
      · subst hiq
        exact ⟨cs, hl, hU.step hS (by simp), fun j hj => World.cell?_setCells_in c cs _ w hthere j hj⟩
      · have hi' : i < max x.m (q + 1) := hi
        have him : i < x.m := by rcases Nat.le_total x.m (q + 1) with hle | hle
                                 · rw [Nat.max_eq_right hle] at hi'; omega
                                 · rw [Nat.max_eq_left hle] at hi'; exact hi'
        obtain ⟨ds, h1, h2, h3⟩ := h.unit c x hb i him
        refine ⟨ds, h1, h2.step hS (by simp), fun j hj => ?_⟩
        rw [<- h3 j hj]
        refine World.cell?_setCells_out c cs _ w _ (fun _ _ => ?_)
        show x.lo + i * kK x.k + j < x.lo + q * kK x.k ∨ x.lo + q * kK x.k + cs.length <= x.lo + i * kK x.k + j
        rcases Nat.lt_or_ge i q with hlt | hge
        · have := Nat.mul_le_mul_right (kK x.k) (show i + 1 <= q by omega)
          rw [Nat.succ_mul] at this
          omega
        · have := Nat.mul_le_mul_right (kK x.k) (show q + 1 <= i by omega)
          rw [Nat.succ_mul] at this
          omega
    · have hc' := (Tab.put_other T _ e).symm.trans hc
      obtain ⟨ds, h1, h2, h3⟩ := h.unit c y hc' i hi
      exact ⟨ds, h1, h2.step hS (by simp), fun j hj => (World.cell?_of_block (hso c e (h.lt c y hc'))).trans (h3 j hj)⟩
theorem TH.at' {k : Nat} {b o : Nat} {x : Bl} {n : Nat} (h : TH G L T w) (hb : T b = some x) (hk : x.k = k) (hn : o + n <= x.m) {i : Nat} (hi : i < n) : ∃ cs, cs.length = kK k ∧ UnitOk G L T w k cs ∧ ∀ j (hj : j < cs.length), w.cell? ⟨b, x.lo + o * kK k + i * kK k + j, none⟩ = some cs[j] := by
 subst hk
 obtain ⟨cs, h1, h2, h3⟩ := h.unit b x hb (o + i) (by omega)
 refine ⟨cs, h1, h2, fun j hj => ?_⟩
 rw [<- h3 j hj, Nat.add_mul]
 congr 2
 omega
theorem SlT.reads {α : Type} {k : Nat} {R : Pr α} {Good : α -> Prop} {a : Option Addr} {n cap : Nat} (h : SlT T k a n) (hT : TH G L T w) (hcap : n <= cap) (hcm : cap <= maxLen) (hU : ∀ cs, cs.length = kK k -> UnitOk G L T w k cs -> ∃ x fp, R w x cs fp ∧ Good x) :
 ∃ l fp, SlR (kK k) R w l (.slice a n cap) fp ∧ ∀ x, x ∈ l -> Good x := by
 rcases h with rfl | ⟨b, o, x, rfl, hb, hk, hn⟩
 · exact ⟨[], [], ⟨a, 0, cap, rfl, rfl, hcap, hcm, .inl ⟨rfl, rfl⟩⟩, by simp⟩
 · have main : ∀ q, q <= n -> ∃ (l : List α) (fps : List (List Nat)), l.length = q ∧ fps.length = q ∧ (∀ x, x ∈ l -> Good x) ∧ ∀ i (h : i < l.length) (h' : i < fps.length), ∃ cs, R w l[i] cs fps[i] ∧ ∀ j (hj : j < cs.length), w.cell? ⟨b, x.lo + o * kK k + i * kK k + j, none⟩ = some cs[j] := by
    intro q
    induction q with
    | zero => exact fun _ => ⟨[], [], rfl, rfl, by simp, fun i h => absurd h (by simp)⟩
    | succ q ih =>
     intro hq
     obtain ⟨l, fps, h1, h2, h3, h4⟩ := ih (by omega)
     obtain ⟨cs, g1, g2, g3⟩ := hT.at' hb hk hn (show q < n by omega)
     obtain ⟨y, fp, hR, hy⟩ := hU cs g1 g2
     refine ⟨l ++ [y], fps ++ [fp], by simp [h1], by simp [h2], fun z hz => ?_, fun i h h' => ?_⟩
     · rcases List.mem_append.1 hz with hz | hz
       · exact h3 z hz
       · rw [List.mem_singleton] at hz; subst hz; exact hy
     · by_cases hiq : i < q
       · obtain ⟨cs', hR', hc'⟩ := h4 i (by omega) (by omega)
         exact ⟨cs', by rw [List.getElem_append_left (by omega), List.getElem_append_left (by omega)]; exact hR', hc'⟩
       · have hi' : i = q := by simp [h1] at h; omega
         subst hi'
         refine ⟨cs, ?_, g3⟩
         rw [List.getElem_append_right (by omega), List.getElem_append_right (by omega)]
         simpa [h1, h2] using hR
   obtain ⟨l, fps, h1, h2, h3, h4⟩ := main n (Nat.le_refl _)
   exact ⟨l, b :: fps.flatten, ⟨_, n, cap, rfl, h1, hcap, hcm, .inr ⟨b, _, fps, rfl, hT.lt b x hb, rfl, by omega, h4⟩⟩, h3⟩
theorem SlT.reqs {a : Option Addr} {n cap : Nat} (h : SlT T 2 a n) (hT : TH G L T w) (hcap : n <= cap) (hcm : cap <= maxLen) : ∃ l fp, SlR 7 reqR w l (.slice a n cap) fp ∧ ∀ x, x ∈ l -> G.ok x :=
 h.reads (R := reqR) (Good := G.ok) hT hcap hcm (fun cs _ hU => by
  obtain ⟨x, fp, hR, hG, _⟩ := hU
  exact ⟨x, fp, hR, hG⟩)
theorem SlT.jobs {a : Option Addr} {n cap : Nat} (h : SlT T 3 a n) (hT : TH G L T w) (hcap : n <= cap) (hcm : cap <= maxLen) : ∃ l fp, SlR 5 jobR w l (.slice a n cap) fp ∧ ∀ x, x ∈ l -> jobFine x :=
 h.reads (R := jobR) (Good := jobFine) hT hcap hcm (fun cs _ hU => by
  obtain ⟨x, fp, hR, hG, _⟩ := hU
  exact ⟨x, fp, hR, hG⟩)
theorem SlT.progs {a : Option Addr} {n cap : Nat} (h : SlT T 4 a n) (hT : TH G L T w) (hcap : n <= cap) (hcm : cap <= maxLen) : ∃ l fp, SlR 1 (slR 7 reqR) w l (.slice a n cap) fp ∧ ∀ p, p ∈ l -> p.length <= G.cap ∧ ∀ x, x ∈ p -> G.ok x :=
 h.reads (R := slR 7 reqR) (Good := fun p => p.length <= G.cap ∧ ∀ x, x ∈ p -> G.ok x) hT hcap hcm (fun cs _ hU => by
  obtain ⟨a', n', cap', rfl, hA, hn⟩ := hU
  obtain ⟨l, fp, hs, hg⟩ := hA.t.reqs hT hA.1 hA.2.1
  have hs' := hs
  obtain ⟨_, n'', _, e, hl, _⟩ := hs'
  cases e
  exact ⟨l, fp, ⟨_, rfl, hs⟩, by omega, hg⟩)
end Go.Proofs.YtaeiddoccfaheaaGreat
