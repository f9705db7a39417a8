/-
 Texts of this claim laid together: IDoP Meet.
-/
import Derived.Test.YtmcjklicepaiaaaPk15
import Derived.Test.YtmcjklicepaiaaaProg
import Derived.Test.YtmcjklicepaiaaaPk01
import Derived.Test.YtmcjklicepaiaaaPk35
import Derived.Test.YtmcjklicepaiaaaPk36
import Derived.Test.YtmcjklicepaiaaaPk05
import Derived.Test.YtmcjklicepaiaaaPk11
import Derived.Test.YtmcjklicepaiaaaPk12
import Derived.Test.YtmcjklicepaiaaaPk06
import Derived.Deep.QuietTactic
import Derived.BigQuiet
import Derived.WalkSmall
import Derived.Deep.Cut
set_option linter.unusedVariables false
set_option linter.unusedSimpArgs false
namespace Go.Proofs.Ytmcjklicepaiaaa
open Go.RowKit Go.ChangeShapes Go.WideShapes
structure ReqF (x : Req) : Prop where
 id : 0 <= x.id ∧ x.id <= 1
 kind : 1 <= x.kind ∧ x.kind <= 4
 addr : 0 <= x.addr ∧ x.addr <= 63
 many : 1 <= x.many ∧ x.many <= 4
 len : x.data.length <= 4
 lanes : x.lanes.length = x.data.length
 dat : ∀ n, n ∈ x.data -> 0 <= n ∧ n <= 65535
 lan : ∀ n, n ∈ x.lanes -> 0 <= n ∧ n <= 3
theorem allIn_mem {l : List Int} {lo hi : Int} (h : allIn l lo hi = true) : ∀ n, n ∈ l -> lo <= n ∧ n <= hi := fun n hn => by
 obtain ⟨j, hj, rfl⟩ := List.mem_iff_getElem.1 hn
 exact allIn_at h hj
theorem reqOk_facts {x : Req} (h : reqOk x = true) : ReqF x := by
 unfold reqOk at h
 simp only [Bool.and_eq_true, inB_true, beq_iff_eq, adrOk_true] at h
 obtain ⟨h1, h2, ⟨h3, h3', h3'', -⟩, h4, h5, h6, h7, -⟩ := h
 have hm : 1 <= x.many ∧ x.many <= 4 := by omega
 have hmo : manyOf x <= 4 := by unfold manyOf; split <;> omega
 exact ⟨h1, h2, ⟨h3, h3'⟩, hm, by omega, by omega, allIn_mem h6, allIn_mem h7⟩
structure IW (b sb : Nat) (w0 : World) (l : List MR) (r : Req) (vm vw vh v0 v1 : Value) (fm fw fh f0 f1 : List Nat) (ms hs : List Int) (w : World) : Prop where
 s0 : w.cell? ⟨sb, 0, none⟩ = some vw
 s1 : w.cell? ⟨sb, 1, none⟩ = some vh
 k0 : w.cell? ⟨b, 0, none⟩ = some (.int .i64 r.id)
 k1 : w.cell? ⟨b, 1, none⟩ = some (.int .i64 r.kind)
 k2 : w.cell? ⟨b, 2, none⟩ = some (.int .i64 r.addr)
 k3 : w.cell? ⟨b, 3, none⟩ = some (.int .i64 r.many)
 k4 : w.cell? ⟨b, 4, none⟩ = some (.bool r.wrap)
 k5 : w.cell? ⟨b, 5, none⟩ = some v0
 k6 : w.cell? ⟨b, 6, none⟩ = some v1
 q : RoomAt (b + 1) 3 w
 mp : SlR 4 mrR w l vm fm
 mem : SlR 1 intR w ms vw fw
 hol : SlR 1 intR w hs vh fh
 dat : SlR 1 intR w r.data v0 f0
 lan : SlR 1 intR w r.lanes v1 f1
 fr : Free (fw ++ fh) w
 chg : Chg (fw ++ fh) w0 w
 size : b + 1 + 1 <= w.heap.size
structure IC (b sb : Nat) (w0 : World) (fm fw fh f0 f1 : List Nat) : Prop where
 eb : b = w0.heap.size
 lw : ∀ c, c ∈ fw ++ fh -> c < b
 lm : ∀ c, c ∈ fm -> c < b
 l0 : ∀ c, c ∈ f0 -> c < b
 l1 : ∀ c, c ∈ f1 -> c < b
 dj : ∀ c, c ∈ fw -> c ∉ fh
 nm : ∀ c, c ∈ fm -> c ∉ fw ++ fh
 n0 : ∀ c, c ∈ f0 -> c ∉ fw ++ fh
 n1 : ∀ c, c ∈ f1 -> c ∉ fw ++ fh
 sl : sb < b
 sn : sb ∉ fw ++ fh
variable {b sb X : Nat} {w0 w w' : World} {l : List MR} {r : Req} {vm vw vh v0 v1 : Value} {fm fw fh f0 f1 : List Nat} {ms hs ms' hs' : List Int}
theorem IW.turn (C : IC b sb w0 fm fw fh f0 f1) (h : IW b sb w0 l r vm vw vh v0 v1 fm fw fh f0 f1 ms hs w) {fp : List Nat} (hc : Chg fp w w') (hp : ∀ c, c ∈ fp -> c ∈ fw ++ fh ∨ b + 1 < c) (gm : SlR 1 intR w' ms' vw fw) (gh : SlR 1 intR w' hs' vh fh) (fr : Free (fw ++ fh) w') : IW b sb w0 l r vm vw vh v0 v1 fm fw fh f0 f1 ms' hs' w' := by
 have nb : ∀ c, b <= c -> c <= b + 1 -> c ∉ fp := fun c h1 h2 hm => by
  rcases hp c hm with h3 | h3
  · have := C.lw c h3; omega
  · omega
 have nl : ∀ fq : List Nat, (∀ c, c ∈ fq -> c < b) -> (∀ c, c ∈ fq -> c ∉ fw ++ fh) -> ∀ c, c ∈ fq -> c ∉ fp := fun fq h1 h2 c hm hn => by
  rcases hp c hn with h3 | h3
  · exact h2 c hm h3
  · have := h1 c hm; omega
 have n0 := nb b (Nat.le_refl _) (by omega)
 have ns : sb ∉ fp := fun hm => by
  rcases hp sb hm with h3 | h3
  · exact C.sn h3
  · have := C.sl; omega
 exact ⟨keep_cell_chg hc h.s0 ns, keep_cell_chg hc h.s1 ns, keep_cell_chg hc h.k0 n0, keep_cell_chg hc h.k1 n0, keep_cell_chg hc h.k2 n0, keep_cell_chg hc h.k3 n0, keep_cell_chg hc h.k4 n0, keep_cell_chg hc h.k5 n0, keep_cell_chg hc h.k6 n0,
  h.q.chg hc (nb _ (by omega) (by omega)), h.mp.chg mrR_fits hc (nl _ C.lm C.nm), gm, gh, h.dat.chg intR_fits hc (nl _ C.l0 C.n0), h.lan.chg intR_fits hc (nl _ C.l1 C.n1), fr,
  (h.chg.trans hc).drop (fun c hm hl => by
   rcases List.mem_append.1 hm with hm | hm
   · exact hm
   · rcases hp c hm with h3 | h3
     · exact h3
     · have := C.eb; omega), Nat.le_trans h.size hc.size⟩
theorem IW.far (C : IC b sb w0 fm fw fh f0 f1) (h : IW b sb w0 l r vm vw vh v0 v1 fm fw fh f0 f1 ms hs w) {fp : List Nat} (hc : Chg fp w w') (hp : ∀ c, c ∈ fp -> b + 1 < c) : IW b sb w0 l r vm vw vh v0 v1 fm fw fh f0 f1 ms hs w' := by
 have n : ∀ c, c ∈ fw ++ fh -> c ∉ fp := fun c hm hn => by have := C.lw c hm; have := hp c hn; omega
 have z := h.size
 exact h.turn C hc (fun c hm => .inr (hp c hm)) (h.mem.chg intR_fits hc (fun c hm => n c (by simp [hm]))) (h.hol.chg intR_fits hc (fun c hm => n c (by simp [hm]))) (h.fr.chg (fun c hm => by have := C.lw c hm; omega) hc n)
theorem IW.below (C : IC b sb w0 fm fw fh f0 f1) (h : IW b sb w0 l r vm vw vh v0 v1 fm fw fh f0 f1 ms hs w) (hb : Below w.heap.size w w') : IW b sb w0 l r vm vw vh v0 v1 fm fw fh f0 f1 ms hs w' := h.far C (hb.chg []) (by simp)
theorem IW.setMem (C : IC b sb w0 fm fw fh f0 f1) (h : IW b sb w0 l r vm vw vh v0 v1 fm fw fh f0 f1 ms hs w) {B off n cap i : Nat} (e : vw = .slice (some ⟨B, off, none⟩) n cap) (hi : i < n) (x : Int) : IW b sb w0 l r vm vw vh v0 v1 fm fw fh f0 f1 (ms.set i x) hs (w.setCell ⟨B, off + i, none⟩ (.int .i64 x)) := by
 have hm := h.mem
 rw [e] at hm
 obtain ⟨g1, g2, g3⟩ := IntS.set hm rfl hi x
 exact h.turn C g2 (fun c hc => .inl (by simp [hc])) (by rw [e]; exact g1) (h.hol.chg intR_fits g2 (fun c hc hn => C.dj c hn hc)) (fun c hc o => (World.frozen?_setCell ..).trans (h.fr c hc o))
theorem IW.setHol (C : IC b sb w0 fm fw fh f0 f1) (h : IW b sb w0 l r vm vw vh v0 v1 fm fw fh f0 f1 ms hs w) {B off n cap i : Nat} (e : vh = .slice (some ⟨B, off, none⟩) n cap) (hi : i < n) (x : Int) : IW b sb w0 l r vm vw vh v0 v1 fm fw fh f0 f1 ms (hs.set i x) (w.setCell ⟨B, off + i, none⟩ (.int .i64 x)) := by
 have hm := h.hol
 rw [e] at hm
 obtain ⟨g1, g2, g3⟩ := IntS.set hm rfl hi x
 exact h.turn C g2 (fun c hc => .inl (by simp [hc])) (h.mem.chg intR_fits g2 (fun c hc hn => C.dj c hc hn)) (by rw [e]; exact g1) (fun c hc o => (World.frozen?_setCell ..).trans (h.fr c hc o))
def IPost (w0 : World) (vw vh : Value) (fw fh : List Nat) (id : Int) (R : DoR) (e : Ending) (w : World) : Prop :=
 ∃ dv fd, e = .returned (.agg #[.int .i64 id, .int .i64 R.code, dv]) ∧ SlR 1 intR w R.mem vw fw ∧ SlR 1 intR w R.holds vh fh ∧ SlR 1 intR w R.data dv fd ∧ New fd w0 w ∧ Chg (fw ++ fh) w0 w ∧ Free (fw ++ fh) w
theorem IW.done {R : DoR} {id : Int} {dv : Value} {fd : List Nat} {w1 : World} (C : IC b sb w0 fm fw fh f0 f1) (h : IW b sb w0 l r vm vw vh v0 v1 fm fw fh f0 f1 R.mem R.holds w) (hd : SlR 1 intR w R.data dv fd) (hn : New fd w0 w) (hf : ∀ c, c ∈ fd -> b + 1 < c)
 (hc : Chg [b + 1] w w1) : IPost w0 vw vh fw fh id R (.returned (.agg #[.int .i64 id, .int .i64 R.code, dv])) w1 := by
 have n : ∀ c, c ∈ fw ++ fh -> c ∉ [b + 1] := fun c hm hx => by
  have := C.lw c hm
  simp at hx
  omega
 have nd : ∀ c, c ∈ fd -> c ∉ [b + 1] := fun c hm hx => by
  have := hf c hm
  simp at hx
  omega
 have z := h.size
 exact ⟨dv, fd, rfl, h.mem.chg intR_fits hc (fun c hm => n c (by simp [hm])), h.hol.chg intR_fits hc (fun c hm => n c (by simp [hm])), hd.chg intR_fits hc nd, ⟨hn.lo, hn.once, hn.free.chg (hd.lt intR_fits) hc nd⟩,
  (h.chg.trans hc).drop (fun c hm hl => by
   rcases List.mem_append.1 hm with hm | hm
   · exact hm
   · have := C.eb
     simp at hm
     omega), h.fr.chg (fun c hm => by have := C.lw c hm; omega) hc n⟩
def rdw (m ads : List Int) (n k : Nat) : List Int := l2get m (ads.take k) ++ List.replicate (n - k) 0
theorem rdw_zero (m ads : List Int) (n : Nat) : rdw m ads n 0 = List.replicate n 0 := by simp [rdw, l2get]
theorem rdw_all {m ads : List Int} {n k : Nat} (h : ads.length = n) (hk : n <= k) : rdw m ads n k = l2get m ads := by
 unfold rdw
 rw [List.take_of_length_le (by omega), show n - k = 0 by omega]
 simp
theorem rdw_len {m ads : List Int} {n k : Nat} (h : ads.length = n) (hk : k <= n) : (rdw m ads n k).length = n := by
 unfold rdw l2get
 simp
 omega
theorem rdw_set {m ads : List Int} {n k : Nat} (h : ads.length = n) (hk : k < n) : (rdw m ads n k).set k (getW m (ads[k]'(by omega))) = rdw m ads n (k + 1) := by
 have hl : (l2get m (ads.take k)).length = k := by unfold l2get; simp; omega
 unfold rdw
 rw [List.set_append_right _ _ (by omega), hl, Nat.sub_self, show n - k = (n - (k + 1)) + 1 by omega, List.replicate_succ, List.set_cons_zero, l2get_succ m (by omega)]
 simp
theorem getD_in {l : List Int} {lo hi : Int} (h : ∀ n, n ∈ l -> lo <= n ∧ n <= hi) (h0 : lo <= 0 ∧ 0 <= hi) (k : Nat) : lo <= (l[k]?).getD 0 ∧ (l[k]?).getD 0 <= hi := by
 cases e : l[k]? with
 | none => exact h0
 | some x => exact h x (List.mem_of_getElem? e)
theorem putTo_in {ms ads data lanes : List Int} (hm : ∀ n, n ∈ ms -> 0 <= n ∧ n <= 65535) (hd : ∀ n, n ∈ data -> 0 <= n ∧ n <= 65535) (hl : ∀ n, n ∈ lanes -> 0 <= n ∧ n <= 3) : ∀ k n, n ∈ putTo ms ads data lanes k -> 0 <= n ∧ n <= 65535
 | 0, n, hn => hm n hn
 | k + 1, n, hn => by
  have ih := putTo_in (ads := ads) hm hd hl k
  rw [putTo] at hn
  rcases List.mem_or_eq_of_mem_set hn with h | h
  · exact ih n h
  · have e1 := getD_in hd (by omega) k
    have e2 := getD_in hl (by omega) k
    have e3 : 0 <= getW (putTo ms ads data lanes k) ((ads[k]?).getD 0) ∧ getW (putTo ms ads data lanes k) ((ads[k]?).getD 0) <= 65535 := getD_in ih (by omega) _
    rw [h, wrdPut_ok _ _ _ e3 e1 e2]
    exact putW_word _ _ _ e3 e1
theorem freeTo_step {h ads : List Int} {k : Nat} (hk : k < h.length) : freeTo h ads (k + 1) 0 = (freeTo h ads k 0).set k (frH ads (h[k])) := by
 rw [<- freeTo_next]
 exact freeTo_set hk (by rw [List.take_length])
theorem freeTo_here {h ads : List Int} {k : Nat} (hk : k < h.length) : (freeTo h ads k 0)[k]'(by rw [freeTo_len]; exact hk) = h[k] := by
 rw [freeTo_at hk]
 simp [frH]
theorem freeTo_stay {h ads : List Int} {k : Nat} (hk : k < h.length) (hc : ads.contains h[k] = false) : freeTo h ads (k + 1) 0 = freeTo h ads k 0 := by
 rw [freeTo_step hk]
 have e : frH ads h[k] = (freeTo h ads k 0)[k]'(by rw [freeTo_len]; exact hk) := by
  rw [freeTo_here hk]
  unfold frH
  rw [if_neg (by simpa using hc)]
 rw [e]
 exact List.set_getElem_self _
theorem reqOk_len {x : Req} (h : reqOk x = true) (hw : writesB x = true) : (x.data.length : Int) = x.many ∧ (x.lanes.length : Int) = x.many := by
 unfold reqOk manyOf at h
 rw [hw] at h
 simp only [Bool.and_eq_true, beq_iff_eq, if_true] at h
 exact ⟨h.2.2.2.1, h.2.2.2.2.1⟩
end Go.Proofs.Ytmcjklicepaiaaa
namespace Go.Proofs.Ytmcjklicepaiaaa
open Go.RowKit
theorem not_contains {m : List Int} {a : Int} (h : ∀ j (hj : j < m.length), a ≠ m[j]) : m.contains a = false := by
 rw [Bool.eq_false_iff]
 intro hc
 rw [List.contains_iff_mem] at hc
 obtain ⟨j, hj, e⟩ := List.mem_iff_getElem.1 hc
 exact h j hj e.symm
set_option maxRecDepth 100000 in
theorem index_int (v : Value) (l : List Int) (fp : List Nat) (x : Int) (w : World) (g : SlR 1 intR w l v fp) :
 Calls Try.prog 142 #[v, .int .i64 x] w fun e w' => ∃ z : Int, e = .returned (.int .i64 z) ∧ decide (0 <= z) = l.contains x ∧ w' = w := by
 obtain ⟨a, n, c, rfl, hn, hcap, hmax, hcm, r⟩ := IntS.opened g
 clear g
 go_enter Try.func142, Try.ntmps142
 go_wp2_with fail
 go_loopw [8] (fun i wr => ∃ k : Nat, k <= n ∧ i = .int .i64 k ∧ (∀ j (h : j < l.length), j < k -> x ≠ l[j]) ∧ wr = w) (fun i _ => n - (intOf i).toNat)
 case atStart => exact ⟨0, Nat.zero_le _, rfl, fun j _ h => absurd h (Nat.not_lt_zero j), rfl⟩
 case round =>
  obtain ⟨k, hk, rfl, hp, rfl⟩ := hrel
  have HP := Lib.hid hp
  clear hp
  by_cases hlt : k < n
  · obtain ⟨i1, b1, o1, rfl, hb1, _, e1⟩ := r k hlt
    clear r
    by_cases he : x = l[k]
    · have he' : (x == l[k]) = true := by simp [he]
      have HE := Lib.hid he
      clear he
      go_wp2
      go_ret
      exact ⟨_, rfl, by rw [decide_eq_true (by omega), HE.out]; simp, rfl⟩
    · have he' : (x == l[k]) = false := by simp [he]
      have HE := Lib.hid he
      clear he
      go_wp2
      go_roundw
      case rel => exact ⟨k + 1, by omega, by go_num, fun p h hp => (by
       by_cases e : p = k
       · subst e; exact HE.out
       · exact HP.out p h (by omega)), trivial⟩
      case measure => simp [intOf]; omega
  · clear r
    go_wp2
    go_ret
    exact ⟨_, rfl, by rw [not_contains fun j h => HP.out j h (by rw [hn.out] at h; omega)]; rfl, rfl⟩
theorem contains_int (v : Value) (l : List Int) (fp : List Nat) (x : Int) (w : World) (g : SlR 1 intR w l v fp) :
 Calls Try.prog 116 #[v, .int .i64 x] w fun e w' => e = .returned (.bool (l.contains x)) ∧ w' = w := by
 obtain ⟨a, n, c, rfl, _⟩ := g.form
 have G := Lib.hid g
 clear g
 go_enter Try.func116, Try.ntmps116
 go_wp2_with fail
 refine (index_int _ l fp x _ G.out).mono ?_
 rintro e w' ⟨z, rfl, hz, rfl⟩
 go_wp2
 go_ret
 exact ⟨ret_bool (by simp), rfl⟩
theorem isMaster_any (x : Int) (w : World) : Calls Try.prog 68 #[.int .i64 x] w fun e w' => e = .returned (.bool (inB x 0 2)) ∧ w = w' := by
 go_enter Try.func68, Try.ntmps68
 go_wp2_with fail
 refine (in_any _ _ _ _).mono ?_
 rintro e w' ⟨rfl, rfl⟩
 go_wp2
 go_ret
 exact ⟨rfl, rfl⟩
end Go.Proofs.Ytmcjklicepaiaaa
