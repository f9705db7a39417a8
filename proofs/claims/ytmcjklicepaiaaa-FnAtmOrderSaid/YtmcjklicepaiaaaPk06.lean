/-
 Texts of this claim laid together: Draw THop.
-/
import Derived.Test.YtmcjklicepaiaaaProg
import Derived.Test.YtmcjklicepaiaaaPk01
import Derived.Deep.QuietTactic
import Derived.BigQuiet
import Derived.WalkSmall
import Derived.Test.YtmcjklicepaiaaaPk05
set_option linter.unusedVariables false
set_option linter.unusedSimpArgs false
namespace Go.Proofs.Ytmcjklicepaiaaa
open Go.RowKit Go.ChangeShapes
def byteR : Pr Int := fun _ x cs fp => cs = [.int .u8 x] ∧ 0 <= x ∧ x <= 255 ∧ fp = []
theorem byteR_fits : Fits 1 byteR := ⟨fun h => by rw [h.1]; rfl, fun h b hb => by rw [h.2.2.2] at hb; simp at hb, fun h _ _ => h⟩
abbrev ByteS := SlR 1 byteR
theorem opens_byte {P : Program} {t : TypeId} (ht : P.underlying t = some (.int .u8)) : Opens P t byteR := fun h => by
 obtain ⟨n, hcs, _, hw⟩ := DataW.trod_int ht h
 have hb : 0 <= n ∧ n <= 255 := by simpa [Lit.wf, IntKind.min, IntKind.max, IntKind.signed, IntKind.bits] using hw
 exact ⟨n, [], hcs, hb.1, hb.2, rfl⟩
def RdAt (w : World) (rb : Nat) (fq : List Nat) (N : Int) : Prop :=
 ∃ (l : List Int) (v : Value) (p : Int), w.cell? ⟨rb, 0, none⟩ = some v ∧ ByteS w l v fq ∧ rb ∉ fq ∧ l.length <= 2000 ∧ w.cell? ⟨rb, 1, none⟩ = some (.int .i64 p) ∧ 0 <= p ∧ p <= N ∧ w.frozen? ⟨rb, 1, none⟩ = false
theorem RdAt.lt {w : World} {rb : Nat} {fq : List Nat} {N : Int} (h : RdAt w rb fq N) : rb < w.heap.size := by
 obtain ⟨l, v, p, h0, _⟩ := h
 exact block_of_cell h0
theorem RdAt.chg {w w' : World} {rb : Nat} {fq fp : List Nat} {N : Int} (h : RdAt w rb fq N) (hc : Chg fp w w') (h1 : rb ∉ fp) (h2 : ∀ b, b ∈ fq -> b ∉ fp) : RdAt w' rb fq N := by
 have hlt := h.lt
 obtain ⟨l, v, p, h0, hb, hn, hl, hp, p0, p1, hf⟩ := h
 exact ⟨l, v, p, keep_cell_chg hc h0 h1, hb.chg byteR_fits hc h2, hn, hl, keep_cell_chg hc hp h1, p0, p1, (World.frozen?_of_block (hc.block rb hlt h1)).trans hf⟩
theorem RdAt.below {w w' : World} {rb : Nat} {fq : List Nat} {N : Int} (h : RdAt w rb fq N) (hc : Below w.heap.size w w') : RdAt w' rb fq N :=
 h.chg (hc.chg []) (by simp) (fun _ _ => by simp)
theorem RdAt.low {w w' : World} {rb : Nat} {fq : List Nat} {N : Int} {B : Nat} (h : RdAt w rb fq N) (hb : Below B w w') (h1 : rb < B) (h2 : ∀ b, b ∈ fq -> b < B) : RdAt w' rb fq N := by
 obtain ⟨l, v, p, h0, hs, hn, hl, hp, p0, p1, hf⟩ := h
 have e : w'.heap[rb]? = w.heap[rb]? := hb.block rb h1
 exact ⟨l, v, p, (World.cell?_of_block e).trans h0, hs.same byteR_fits (fun b hb' => hb.block b (h2 b hb')) hb.size, hn, hl, (World.cell?_of_block e).trans hp, p0, p1, (World.frozen?_of_block e).trans hf⟩
theorem RdAt.mono {w : World} {rb : Nat} {fq : List Nat} {N M : Int} (h : RdAt w rb fq N) (hm : N <= M) : RdAt w rb fq M := by
 obtain ⟨l, v, p, h0, hb, hn, hl, hp, p0, p1, hf⟩ := h
 exact ⟨l, v, p, h0, hb, hn, hl, hp, p0, by omega, hf⟩
theorem bits_xor_nat (a b : Nat) (ha : a < 2 ^ 63) (hb : b < 2 ^ 63) : bits .xor .i64 (a : Int) (b : Int) = ((a ^^^ b : Nat) : Int) := by
 have hx : a ^^^ b < 2 ^ 63 := Nat.xor_lt_two_pow ha hb
 have e : ∀ c : Nat, c < 2 ^ 63 -> (BitVec.ofInt 64 (c : Int)).toNat = c := fun c hc => by
  rw [BitVec.ofInt_natCast, BitVec.toNat_ofNat]; exact Nat.mod_eq_of_lt (by omega)
 show IntKind.i64.wrap ((BitVec.ofInt 64 (a : Int) ^^^ BitVec.ofInt 64 (b : Int)).toNat : Int) = _
 rw [BitVec.toNat_xor, e a ha, e b hb, IntKind.wrap_i64]
 omega
theorem xor_pos (a b : Int) (ha : 0 <= a) (ha' : a <= 4611686018427387904) (hb : 0 <= b) (hb' : b <= 4611686018427387904) : 0 <= bits .xor .i64 a b := by
 obtain ⟨n, rfl⟩ := Int.eq_ofNat_of_zero_le ha
 obtain ⟨m, rfl⟩ := Int.eq_ofNat_of_zero_le hb
 rw [bits_xor_nat n m (by omega) (by omega)]
 omega
theorem pick_any (rb : Nat) (fq : List Nat) (N n : Int) (hn : 1 <= n) (hn' : n <= 1000000) (hN : N <= 1000000000) (w : World) (h : RdAt w rb fq N) :
 Calls Try.prog 66 #[.pointer (some ⟨rb, 0, none⟩), .int .i64 n] w fun e w' => ∃ x : Int, e = .returned (.int .i64 x) ∧ 0 <= x ∧ x < n ∧ RdAt w' rb fq (N + 1) ∧ Chg [rb] w w' := by
 have hlt := h.lt
 obtain ⟨l, v, p, h0, hb, hnf, hl, hp, p0, p1, hf⟩ := h
 -- behind the store
 have hC : Chg [rb] w (w.setCell ⟨rb, 1, none⟩ (.int .i64 (p + 1))) := ⟨rfl, rfl, rfl, by simp, fun k _ hk => Below.heap_setCell _ _ _ _ (fun e => hk (by simp [e]))⟩
 have hb' := hb.chg byteR_fits hC (fun b hb e => hnf (by simp at e; rwa [<- e]))
 have hR : RdAt (w.setCell ⟨rb, 1, none⟩ (.int .i64 (p + 1))) rb fq (N + 1) :=
  ⟨l, v, p + 1, (World.cell?_setCell_other _ _ _ _ (by simp)).trans h0, hb', hnf, hl, World.cell?_setCell_same _ _ _ hp, by omega, by omega, (World.frozen?_setCell _ _ _ _).trans hf⟩
 obtain ⟨a, len, cap, rfl, hlen, hcap, hmax, hcm, r⟩ := hb'.opened
 have hlen' : len <= 2000 := by rw [<- hlen.out]; exact hl
 have HC := Lib.hid hC
 have HR := Lib.hid hR
 clear hC hR hb hb' hnf hl
 have hx : ¬ n < 1 := by omega
 by_cases hz : len = 0
 · subst hz
   clear r
   go_enter Try.func66, Try.ntmps66
   go_wp2
   go_ret
   exact ⟨0, rfl, by omega, by omega, HR.out, HC.out⟩
 · by_cases hk : p < len
   · obtain ⟨q, rfl⟩ := Int.eq_ofNat_of_zero_le p0
     obtain ⟨i1, b1, o1, f1, cs1, rfl, hb1, _, _, ⟨rfl, x0, x1, rfl⟩, e1⟩ := r q (by omega)
     have e1' := e1 0 (by simp)
     simp only [Nat.mul_one, Nat.add_zero, List.getElem_cons_zero] at e1'
     clear r e1
     go_enter Try.func66, Try.ntmps66
     go_wp2
     go_ret
     exact ⟨l[q] % n, rfl, Int.emod_nonneg _ (by omega), Int.emod_lt_of_pos _ (by omega), HR.out, HC.out⟩
   · obtain ⟨q, rfl⟩ := Int.eq_ofNat_of_zero_le p0
     have j1 : q % len < len := Nat.mod_lt _ (by omega)
     have j2 : (q * 7 + 3) % len < len := Nat.mod_lt _ (by omega)
     obtain ⟨i1, b1, o1, f1, cs1, rfl, hb1, _, _, ⟨rfl, x0, x1, rfl⟩, e1⟩ := r _ j1
     obtain ⟨i2, b2, o2, f2, cs2, hab, hb2, _, _, ⟨rfl, y0, y1, rfl⟩, e2⟩ := r _ j2
     simp only [Option.some.injEq, Addr.mk.injEq, and_true] at hab
     obtain ⟨rfl, rfl⟩ := hab
     have e1' := e1 0 (by simp)
     have e2' := e2 0 (by simp)
     simp only [Nat.mul_one, Nat.add_zero, List.getElem_cons_zero] at e1' e2'
     clear r e1 e2
     have k1 : (q : Int) % len < len := Int.emod_lt_of_pos _ (by omega)
     have k2 : ((q : Int) * 7 + 3) % len < len := Int.emod_lt_of_pos _ (by omega)
     have k3 : 0 <= (q : Int) % len := Int.emod_nonneg _ (by omega)
     have k4 : 0 <= ((q : Int) * 7 + 3) % len := Int.emod_nonneg _ (by omega)
     have hz' : ((len : Int) == 0) = false := by simpa using hz
     have hd0 : 0 <= (q : Int) / len := by apply Int.ediv_nonneg <;> omega
     have hd1 : (q : Int) / len <= q := Int.ediv_le_self _ (by omega)
     go_enter Try.func66, Try.ntmps66
     go_wp2_with fail
     go_quiet (fail)
     go_wp2_with fail
     go_ret
     refine ⟨_, rfl, ?_, ?_, ?_, ?_⟩
     · first
        | exact Int.emod_nonneg _ (by omega)
        | exact Int.tmod_nonneg _ (xor_pos _ _ (by omega) (by omega) (by omega) (by omega))
     · first
        | exact Int.emod_lt_of_pos _ (by omega)
        | exact Int.tmod_lt_of_pos _ (by omega)
     · obtain ⟨l', v', p', s0, s1, s2, s3, s4, s5, s6, s7⟩ := HR.out
       exact ⟨l', v', p', s0, s1.same byteR_fits (fun _ _ => rfl) (Nat.le_refl _), s2, s3, s4, s5, s6, s7⟩
     · exact HC.out.drewN _
theorem odd_any (rb : Nat) (fq : List Nat) (N n : Int) (hn : 1 <= n) (hn' : n <= 1000000) (hN : N <= 1000000000) (w : World) (h : RdAt w rb fq N) :
 Calls Try.prog 73 #[.pointer (some ⟨rb, 0, none⟩), .int .i64 n] w fun e w' => RetBool e ∧ RdAt w' rb fq (N + 1) ∧ Chg [rb] w w' := by
 have H := Lib.hid h
 clear h
 by_cases h9 : n < 9000
 · go_enter Try.func73, Try.ntmps73
   go_wp2_with fail
   refine (pick_any rb fq N n hn hn' hN _ H.out).mono ?_
   rintro e w' ⟨x, rfl, x0, x1, h1, h2⟩
   have H1 := Lib.hid h1
   have H2 := Lib.hid h2
   clear h1 h2
   go_wp2
   go_ret
   exact ⟨⟨_, rfl⟩, H1.out, H2.out⟩
 · go_enter Try.func73, Try.ntmps73
   go_wp2
   go_ret
   exact ⟨⟨_, rfl⟩, H.out.mono (by omega), Chg.refl _ _⟩
theorem l20Open_any (v : Value) (l : List Int) (fq : List Nat) (w : World) (g : ByteS w l v fq) :
 Calls Try.prog 43 #[v] w fun e w' => ∃ (rb : Nat) (fp : List Nat), e = .returned (.pointer (some ⟨rb, 0, none⟩)) ∧ w.heap.size <= rb ∧ (∀ b, b ∈ fp -> b < w.heap.size) ∧ RdAt w' rb fp 0 ∧ Below w.heap.size w w' := by
 have fl := g.lt byteR_fits
 obtain ⟨a, len, cap, rfl, hlen, hcap, hmax, hcm, r⟩ := g.opened
 have G := Lib.hid g
 have FL := Lib.hid fl
 clear g r fl
 by_cases h : 2000 < len
 all_goals
  go_enter Try.func43, Try.ntmps43
  go_wp2
  go_ret
 · obtain ⟨fp, hs, hsub⟩ := G.out.take 2000 (by omega)
   refine ⟨w.heap.size, fp, rfl, Nat.le_refl _, fun b hb => FL.out b (hsub b hb), ?_, below_alloc _ _⟩
   refine ⟨l.take 2000, .slice a 2000 cap, 0, ?_, hs.alloc byteR_fits _, fun hm => by have := FL.out _ (hsub _ hm); omega, by simp; omega, ?_, by omega, by omega, ?_⟩
   · rw [World.cell?_alloc_at _ _ _ _ rfl]; rfl
   · rw [World.cell?_alloc_at _ _ _ _ rfl]; rfl
   · exact World.frozen?_alloc_at _ _ _ _ rfl
 · refine ⟨w.heap.size, fq, rfl, Nat.le_refl _, FL.out, ?_, below_alloc _ _⟩
   refine ⟨l, .slice a len cap, 0, ?_, G.out.alloc byteR_fits _, fun hm => by have := FL.out _ hm; omega, by rw [hlen.out]; omega, ?_, by omega, by omega, ?_⟩
   · rw [World.cell?_alloc_at _ _ _ _ rfl]; rfl
   · rw [World.cell?_alloc_at _ _ _ _ rfl]; rfl
   · exact World.frozen?_alloc_at _ _ _ _ rfl
end Go.Proofs.Ytmcjklicepaiaaa
namespace Go.Proofs.Ytmcjklicepaiaaa
open Go.RowKit Go.WideShapes
variable {G : Gd} {rb : Nat} {L : List Nat} {T T' T'' : Tab} {w w' w'' : World}
theorem wpList_appendT {P : Program} {ops : Array Oper} {rest : List Oper} {o : Oper} {a : Act} {Q : Exit -> Act -> World -> Prop} {k n cap c2 : Nat} {ao : Option Addr} {A : Addr} {cs : List Value}
    (hgd : o.guard = none) (s y : Operand) (t e : TypeId) (i : TypeInfo) (z : Value) (bytes : Nat)
    (ho : o.op = .call { callee := .builtin .append, args := #[s, y], argTypes := #[t, t] })
    (ht : P.underlying t = some (.slice e)) (hi : P.info? e = some i) (hz : i.zero = some z) (hsize : i.size = kK k) (hby : i.bytes = bytes) (hzs : z.cells.size = kK k) (hb8 : bytes <= 128)
    (hs : a.eval s = .slice ao n cap) (hy : a.eval y = .slice (some A) 1 c2) (hT : TH G L T w) (hA : SlA T k ao n cap) (hl : cs.length = kK k) (hU : UnitOk G L T w k cs) (hcell : ∀ j (hj : j < cs.length), w.cell? (A.add j) = some cs[j]) (h1 : ∀ u ∈ cs, u.oneCell' = true) (hn : n <= 2000000)
    (h : ∀ ao' cap' T' w', TH G L T' w' -> Step [] T w T' w' -> SlA T' k ao' (n + 1) cap' -> wpList P ops Q rest (a.put o.dst (.slice ao' (n + 1) cap')) w') :
    wpList P ops Q (o :: rest) a w := by
  have hkp := kK_pos k
  have hbb : (n + 1) * bytes <= 2000001 * 128 := Nat.mul_le_mul (by omega) hb8
  have hmx : n + 1 <= maxLen := by unfold maxLen; omega
  have hnews : ∀ j u, cs[j]? = some u -> w.cell? (A.add j) = some u := fun j u hj => by
    obtain ⟨hj1, hj2⟩ := List.getElem?_eq_some_iff.1 hj
    rw [<- hj2]; exact hcell j hj1
  -- what a new block holds, after it has grown
  have grown : ∀ (olds : List Value) (v' : Value) (w' : World), olds.length = n * kK k -> (∀ q, q < n -> ∃ ds : List Value, ds.length = kK k ∧ UnitOk G L T w k ds ∧ ∀ j (hj : j < ds.length), olds[q * kK k + j]? = some ds[j]) -> w'.ownsRow w.heap.size e (kK k) v' (n + 1) (olds ++ cs) -> w.grownBy w' none ->
      ∃ ao' cap' T', v' = .slice ao' (n + 1) cap' ∧ TH G L T' w' ∧ Step [] T w T' w' ∧ SlA T' k ao' (n + 1) cap' := by
    intro olds v' w' hlo hun hown hgr
    have hbel := below_of_grown hgr
    obtain ⟨hlen, ⟨_, h0⟩ | ⟨g, cap', cur, rfl, hb, hg, hnc, hcm, hcs, htake⟩⟩ := hown
    · omega
    · have hgl : g < w'.heap.size := by
        rcases Nat.lt_or_ge g w'.heap.size with h | h
        · exact h
        · simp [Array.getElem?_eq_none h] at hg
      have hcur : ∀ j, j < (n + 1) * kK k -> w'.cell? ⟨g, j, none⟩ = (olds ++ cs)[j]? := fun j hj => by
        rw [cell_of_row w' g _ cur e (0, 0) hg, <- htake, List.getElem?_take, if_pos hj]
        simp
      obtain ⟨h1', h2'⟩ := hT.adopt (w' := w') (fq := []) (b := g) (x := ⟨k, 0, n + 1, cap' * kK k⟩) (hbel.chg []) (by simp) hb hgl (fun o => frozen_of_row w' g o cur e hg) (fun j hj => by
          show (w'.cell? ⟨g, 0 + j, none⟩).isSome = true
          have hj' : j < cap' * kK k := hj
          rw [cell_of_row w' g _ cur e (0, 0) hg, Nat.zero_add]
          simp [hcs, hj']) (Nat.mul_le_mul_right _ hnc) (fun q hq => by
          have hq' : q < n + 1 := hq
          by_cases e' : q < n
          · obtain ⟨ds, g1, g2, g3⟩ := hun q e'
            refine ⟨ds, g1, g2, fun j hj => ?_⟩
            have hlt : q * kK k + j < n * kK k := by
              have := Nat.mul_le_mul_right (kK k) (show q + 1 <= n by omega)
              rw [Nat.succ_mul] at this
              omega
            show w'.cell? ⟨g, 0 + q * kK k + j, none⟩ = _
            rw [Nat.zero_add, hcur _ (by rw [Nat.succ_mul]; omega), List.getElem?_append_left (by omega)]
            exact g3 j hj
          · obtain rfl : q = n := by omega
            refine ⟨cs, hl, hU, fun j hj => ?_⟩
            show w'.cell? ⟨g, 0 + q * kK k + j, none⟩ = _
            rw [Nat.zero_add, hcur _ (by rw [Nat.succ_mul]; omega), List.getElem?_append_right (by omega), hlo, Nat.add_sub_cancel_left]
            exact List.getElem?_eq_getElem hj)
      exact ⟨_, _, _, rfl, h1', h2', hnc, hcm, .inr ⟨g, 0, _, by simp, Tab.put_self .., rfl, by simp, by simp⟩⟩
  obtain ⟨hnc, hcm, ⟨rfl, rfl, rfl⟩ | ⟨b, of, x, rfl, hb, hk, hnm, hM⟩⟩ := hA
  · refine wpList_append_grows w hgd s y t ho e i z (kK k) bytes ht hi hz hsize hby hzs hkp none 0 0 [] hs (fun _ => ⟨rfl, rfl⟩) (by simp) (fun b hb => by cases hb) A 1 c2 cs hy (by omega) hnews h1 (by omega) hmx (by omega) (fun v' w' hown hgr => ?_)
    obtain ⟨ao', cap', T', rfl, g1, g2, g3⟩ := grown [] v' w' (by simp) (fun q hq => absurd hq (by omega)) hown hgr
    exact h ao' cap' T' w' g1 g2 g3
  · subst hk
    obtain ⟨olds, holds⟩ : ∃ l : List Value, l = (List.range (n * kK x.k)).map fun j => (w.cell? ⟨b, x.lo + of * kK x.k + j, none⟩).getD (.bool false) := ⟨_, rfl⟩
    have hlo : olds.length = n * kK x.k := by rw [holds]; simp
    have hfit := hT.fit b x hb
    have hin : ∀ j, j < n * kK x.k -> (w.cell? ⟨b, x.lo + of * kK x.k + j, none⟩).isSome = true := fun j hj => by
      have := hT.there b x hb (of * kK x.k + j) (by
        have := Nat.mul_le_mul_right (kK x.k) hnm
        rw [Nat.add_mul] at this
        omega)
      rwa [<- Nat.add_assoc] at this
    have hval : ∀ j, j < n * kK x.k -> olds[j]? = w.cell? ⟨b, x.lo + of * kK x.k + j, none⟩ := fun j hj => by
      obtain ⟨u, hu⟩ := Option.isSome_iff_exists.1 (hin j hj)
      rw [holds]
      simp [hj, hu]
    refine wpList_append_arg w hgd s y t ho e i z (kK x.k) bytes ht hi hz hsize hby hzs hkp b (x.lo + of * kK x.k) n cap olds hs hlo (fun j u hj => ?_) A 1 c2 cs hy (by omega) hnews h1 (fun hroom j hj => ?_) hmx (by omega) (fun hroom => ?_) (fun hfull v' w' hown hgr => ?_)
    · have hj1 : j < n * kK x.k := by have := (List.getElem?_eq_some_iff.1 hj).1; omega
      rw [<- hval j hj1]; exact hj
    · refine ⟨?_, hT.free b x hb _⟩
      have := hT.there b x hb ((of + n) * kK x.k + j) (by
        have := Nat.mul_le_mul_right (kK x.k) (show of + n + 1 <= of + cap by omega)
        rw [Nat.succ_mul] at this
        omega)
      rwa [Nat.add_mul, <- Nat.add_assoc, <- Nat.add_assoc] at this
    · have hM' : (of + n + 1) * kK x.k <= x.M := Nat.le_trans (Nat.mul_le_mul_right _ (by omega)) hM
      obtain ⟨g1, g2⟩ := hT.put (q := of + n) hb hnm hl hU hM'
      have e1 : x.lo + of * kK x.k + n * kK x.k = x.lo + (of + n) * kK x.k := by rw [Nat.add_mul]; omega
      rw [e1]
      exact h _ _ _ _ g1 g2 ⟨hroom, hcm, .inr ⟨b, of, ⟨x.k, x.lo, max x.m (of + n + 1), x.M⟩, rfl, Tab.put_self .., rfl, Nat.le_max_right _ _, hM⟩⟩
    · obtain ⟨ao', cap', T', rfl, g1, g2, g3⟩ := grown olds v' w' hlo (fun q hq => by
        obtain ⟨ds, d1, d2, d3⟩ := hT.at' hb rfl hnm hq
        refine ⟨ds, d1, d2, fun j hj => ?_⟩
        have hlt : q * kK x.k + j < n * kK x.k := by
          have := Nat.mul_le_mul_right (kK x.k) (show q + 1 <= n by omega)
          rw [Nat.succ_mul] at this
          omega
        rw [hval _ hlt, <- d3 j hj]
        congr 2
        omega) hown hgr
      exact h ao' cap' T' w' g1 g2 g3
theorem TH.store {k n i : Nat} {b off : Nat} {v : Value} (h : TH G L T w) (hS : SlT T k (some ⟨b, off, none⟩) n) (hi : i < n) (hk : kK k = 1) (hU : UnitOk G L T w k [v]) :
 (∃ u, w.cell? ⟨b, off + i, none⟩ = some u ∧ UnitOk G L T w k [u]) ∧ w.frozen? ⟨b, off + i, none⟩ = false ∧ ∃ T', TH G L T' (w.setCell ⟨b, off + i, none⟩ v) ∧ Step [] T w T' (w.setCell ⟨b, off + i, none⟩ v) := by
 rcases hS with rfl | ⟨b', o, x, e, hb, rfl, hn⟩
 · omega
 · cases e
   obtain ⟨cs, h1, h2, h3⟩ := h.at' hb rfl hn hi
   rw [hk] at h1
   obtain ⟨u, rfl⟩ : ∃ u, cs = [u] := by
    cases cs with
    | nil => simp at h1
    | cons u r => cases r with
     | nil => exact ⟨u, rfl⟩
     | cons _ _ => simp at h1
   have h30 := h3 0 (by simp)
   simp only [Nat.add_zero, List.getElem_cons_zero, hk, Nat.mul_one] at h30
   have hM : (o + i + 1) * kK x.k <= x.M := Nat.le_trans (Nat.mul_le_mul_right _ (by omega)) (h.fit b x hb)
   obtain ⟨g1, g2⟩ := h.put (q := o + i) (cs := [v]) hb (by omega) (by rw [hk]; rfl) hU hM
   rw [hk, Nat.mul_one] at g1 g2
   rw [hk, Nat.mul_one]
   rw [<- Nat.add_assoc] at g1 g2
   exact ⟨⟨u, h30, h2⟩, h.free b x hb _, _, g1, g2⟩
theorem RdAt.step {fq fp : List Nat} {N : Int} (h : RdAt w rb fq N) (s : Step fp T w T' w') (h1 : T rb = none) (h2 : ∀ b, b ∈ fq -> T b = none) (h3 : fp = []) : RdAt w' rb fq N := by
 subst h3
 have hlt := h.lt
 obtain ⟨l, v, p, h0, hb, hn, hl, hp, p0, p1, hf⟩ := h
 have e : w'.heap[rb]? = w.heap[rb]? := s.block rb hlt (by simp) h1
 exact ⟨l, v, p, s.cell h0 (by simp) h1, hb.same byteR_fits (fun b hbb => s.block b (hb.lt byteR_fits b hbb) (by simp) (h2 b hbb)) s.size, hn, hl, s.cell hp (by simp) h1, p0, p1, (World.frozen?_of_block e).trans hf⟩
theorem RdAt.old {fq : List Nat} {N : Int} (h : RdAt w rb fq N) : ∀ b, b ∈ fq -> b < w.heap.size := by
 obtain ⟨l, v, p, h0, hb, _⟩ := h
 exact hb.lt byteR_fits
theorem Fz.new {fp fq : List Nat} (h : TH G L T w) (hc : Chg fq w w') (hn : ∀ b, b ∈ fp -> w.heap.size <= b) (hlt : ∀ b, b ∈ fp -> b < w'.heap.size) : Fz L T w' fp := fun b hb => by
 refine ⟨?_, fun hm => by have := hn b hb; have := h.old b hm; omega, hlt b hb⟩
 cases e : T b with
 | none => rfl
 | some x => have := h.lt b x e; have := hn b hb; omega
theorem TH.fresh (h : TH G L T w) {b : Nat} (hb : w.heap.size <= b) : T b = none := by
 cases e : T b with
 | none => rfl
 | some x => have := h.lt b x e; omega
end Go.Proofs.Ytmcjklicepaiaaa
