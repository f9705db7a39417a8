/-
 Texts of this claim laid together: IDoP MapTo.
-/
import Derived.Test.YtaeiddoccfaheaaGreatPk19
import Derived.Test.YtaeiddoccfaheaaGreatProg
import Derived.Test.YtaeiddoccfaheaaGreatPk04
import Derived.Test.YtaeiddoccfaheaaGreatPk05
import Derived.OwnWalk
import Derived.StillTailTactics
import Derived.WalkSmall
import Derived.KernelRfl
set_option linter.unusedVariables false
set_option linter.unusedSimpArgs false
namespace Go.Proofs.YtaeiddoccfaheaaGreat
open Go.RowKit Go.ChangeShapes Go.WideShapes
structure ReqF (x : Req) : Prop where
 id : 0 <= x.id ∧ x.id <= 1
 kind : 1 <= x.kind ∧ x.kind <= 4
 addr : 0 <= x.addr ∧ x.addr <= 63
 many : 1 <= x.many ∧ x.many <= 4
 len : x.data.length <= 4
 lanes : x.lanes.length = x.data.length
 dat : ∀ n, n ∈ x.data -> 0 <= n ∧ n <= 65535
 lan : ∀ n, n ∈ x.lanes -> 0 <= n ∧ n <= 3
theorem allIn_mem {l : List Int} {lo hi : Int} (h : allIn l lo hi = true) : ∀ n, n ∈ l -> lo <= n ∧ n <= hi := fun n hn => by
 obtain ⟨j, hj, rfl⟩ := List.mem_iff_getElem.1 hn
 exact allIn_at h hj
theorem reqOk_facts {x : Req} (h : reqOk x = true) : ReqF x := by
 unfold reqOk at h
 simp only [Bool.and_eq_true, inB_true, beq_iff_eq, adrOk_true] at h
 obtain ⟨h1, h2, ⟨h3, h3', h3'', -⟩, h4, h5, h6, h7, -⟩ := h
 have hm : 1 <= x.many ∧ x.many <= 4 := by omega
 have hmo : manyOf x <= 4 := by unfold manyOf; split <;> omega
 exact ⟨h1, h2, ⟨h3, h3'⟩, hm, by omega, by omega, allIn_mem h6, allIn_mem h7⟩
structure IW (b sb : Nat) (w0 : World) (l : List MR) (r : Req) (vm vw vh v0 v1 : Value) (fm fw fh f0 f1 : List Nat) (ms hs : List Int) (w : World) : Prop where
 s0 : w.cell? ⟨sb, 0, none⟩ = some vw
 s1 : w.cell? ⟨sb, 1, none⟩ = some vh
 k0 : w.cell? ⟨b, 0, none⟩ = some (.int .i64 r.id)
 k1 : w.cell? ⟨b, 1, none⟩ = some (.int .i64 r.kind)
 k2 : w.cell? ⟨b, 2, none⟩ = some (.int .i64 r.addr)
 k3 : w.cell? ⟨b, 3, none⟩ = some (.int .i64 r.many)
 k4 : w.cell? ⟨b, 4, none⟩ = some (.bool r.wrap)
 k5 : w.cell? ⟨b, 5, none⟩ = some v0
 k6 : w.cell? ⟨b, 6, none⟩ = some v1
 q : RoomAt (b + 1) 3 w
 mp : SlR 4 mrR w l vm fm
 mem : SlR 1 intR w ms vw fw
 hol : SlR 1 intR w hs vh fh
 dat : SlR 1 intR w r.data v0 f0
 lan : SlR 1 intR w r.lanes v1 f1
 fr : Free (fw ++ fh) w
 chg : Chg (fw ++ fh) w0 w
 size : b + 1 + 1 <= w.heap.size
structure IC (b sb : Nat) (w0 : World) (fm fw fh f0 f1 : List Nat) : Prop where
 eb : b = w0.heap.size
 lw : ∀ c, c ∈ fw ++ fh -> c < b
 lm : ∀ c, c ∈ fm -> c < b
 l0 : ∀ c, c ∈ f0 -> c < b
 l1 : ∀ c, c ∈ f1 -> c < b
 dj : ∀ c, c ∈ fw -> c ∉ fh
 nm : ∀ c, c ∈ fm -> c ∉ fw ++ fh
 n0 : ∀ c, c ∈ f0 -> c ∉ fw ++ fh
 n1 : ∀ c, c ∈ f1 -> c ∉ fw ++ fh
 sl : sb < b
 sn : sb ∉ fw ++ fh
variable {b sb X : Nat} {w0 w w' : World} {l : List MR} {r : Req} {vm vw vh v0 v1 : Value} {fm fw fh f0 f1 : List Nat} {ms hs ms' hs' : List Int}
theorem IW.turn (C : IC b sb w0 fm fw fh f0 f1) (h : IW b sb w0 l r vm vw vh v0 v1 fm fw fh f0 f1 ms hs w) {fp : List Nat} (hc : Chg fp w w') (hp : ∀ c, c ∈ fp -> c ∈ fw ++ fh ∨ b + 1 < c) (gm : SlR 1 intR w' ms' vw fw) (gh : SlR 1 intR w' hs' vh fh) (fr : Free (fw ++ fh) w') : IW b sb w0 l r vm vw vh v0 v1 fm fw fh f0 f1 ms' hs' w' := by
 have nb : ∀ c, b <= c -> c <= b + 1 -> c ∉ fp := fun c h1 h2 hm => by
  rcases hp c hm with h3 | h3
  · have := C.lw c h3; omega
  · omega
 have nl : ∀ fq : List Nat, (∀ c, c ∈ fq -> c < b) -> (∀ c, c ∈ fq -> c ∉ fw ++ fh) -> ∀ c, c ∈ fq -> c ∉ fp := fun fq h1 h2 c hm hn => by
  rcases hp c hn with h3 | h3
  · exact h2 c hm h3
  · have := h1 c hm; omega
 have n0 := nb b (Nat.le_refl _) (by omega)
 have ns : sb ∉ fp := fun hm => by
  rcases hp sb hm with h3 | h3
  · exact C.sn h3
  · have := C.sl; omega
 exact ⟨keep_cell_chg hc h.s0 ns, keep_cell_chg hc h.s1 ns, keep_cell_chg hc h.k0 n0, keep_cell_chg hc h.k1 n0, keep_cell_chg hc h.k2 n0, keep_cell_chg hc h.k3 n0, keep_cell_chg hc h.k4 n0, keep_cell_chg hc h.k5 n0, keep_cell_chg hc h.k6 n0,
  h.q.chg hc (nb _ (by omega) (by omega)), h.mp.chg mrR_fits hc (nl _ C.lm C.nm), gm, gh, h.dat.chg intR_fits hc (nl _ C.l0 C.n0), h.lan.chg intR_fits hc (nl _ C.l1 C.n1), fr,
  (h.chg.trans hc).drop (fun c hm hl => by
   rcases List.mem_append.1 hm with hm | hm
   · exact hm
   · rcases hp c hm with h3 | h3
     · exact h3
     · have := C.eb; omega), Nat.le_trans h.size hc.size⟩
theorem IW.far (C : IC b sb w0 fm fw fh f0 f1) (h : IW b sb w0 l r vm vw vh v0 v1 fm fw fh f0 f1 ms hs w) {fp : List Nat} (hc : Chg fp w w') (hp : ∀ c, c ∈ fp -> b + 1 < c) : IW b sb w0 l r vm vw vh v0 v1 fm fw fh f0 f1 ms hs w' := by
 have n : ∀ c, c ∈ fw ++ fh -> c ∉ fp := fun c hm hn => by have := C.lw c hm; have := hp c hn; omega
 have z := h.size
 exact h.turn C hc (fun c hm => .inr (hp c hm)) (h.mem.chg intR_fits hc (fun c hm => n c (by simp [hm]))) (h.hol.chg intR_fits hc (fun c hm => n c (by simp [hm]))) (h.fr.chg (fun c hm => by have := C.lw c hm; omega) hc n)
theorem IW.below (C : IC b sb w0 fm fw fh f0 f1) (h : IW b sb w0 l r vm vw vh v0 v1 fm fw fh f0 f1 ms hs w) (hb : Below w.heap.size w w') : IW b sb w0 l r vm vw vh v0 v1 fm fw fh f0 f1 ms hs w' := h.far C (hb.chg []) (by simp)
theorem IW.setMem (C : IC b sb w0 fm fw fh f0 f1) (h : IW b sb w0 l r vm vw vh v0 v1 fm fw fh f0 f1 ms hs w) {B off n cap i : Nat} (e : vw = .slice (some ⟨B, off, none⟩) n cap) (hi : i < n) (x : Int) : IW b sb w0 l r vm vw vh v0 v1 fm fw fh f0 f1 (ms.set i x) hs (w.setCell ⟨B, off + i, none⟩ (.int .i64 x)) := by
 have hm := h.mem
 rw [e] at hm
 obtain ⟨g1, g2, g3⟩ := IntS.set hm rfl hi x
 exact h.turn C g2 (fun c hc => .inl (by simp [hc])) (by rw [e]; exact g1) (h.hol.chg intR_fits g2 (fun c hc hn => C.dj c hn hc)) (fun c hc o => (World.frozen?_setCell ..).trans (h.fr c hc o))
theorem IW.setHol (C : IC b sb w0 fm fw fh f0 f1) (h : IW b sb w0 l r vm vw vh v0 v1 fm fw fh f0 f1 ms hs w) {B off n cap i : Nat} (e : vh = .slice (some ⟨B, off, none⟩) n cap) (hi : i < n) (x : Int) : IW b sb w0 l r vm vw vh v0 v1 fm fw fh f0 f1 ms (hs.set i x) (w.setCell ⟨B, off + i, none⟩ (.int .i64 x)) := by
 have hm := h.hol
 rw [e] at hm
 obtain ⟨g1, g2, g3⟩ := IntS.set hm rfl hi x
 exact h.turn C g2 (fun c hc => .inl (by simp [hc])) (h.mem.chg intR_fits g2 (fun c hc hn => C.dj c hc hn)) (by rw [e]; exact g1) (fun c hc o => (World.frozen?_setCell ..).trans (h.fr c hc o))
def IPost (w0 : World) (vw vh : Value) (fw fh : List Nat) (id : Int) (R : DoR) (e : Ending) (w : World) : Prop :=
 ∃ dv fd, e = .returned (.agg #[.int .i64 id, .int .i64 R.code, dv]) ∧ SlR 1 intR w R.mem vw fw ∧ SlR 1 intR w R.holds vh fh ∧ SlR 1 intR w R.data dv fd ∧ New fd w0 w ∧ Chg (fw ++ fh) w0 w ∧ Free (fw ++ fh) w
theorem IW.done {R : DoR} {id : Int} {dv : Value} {fd : List Nat} {w1 : World} (C : IC b sb w0 fm fw fh f0 f1) (h : IW b sb w0 l r vm vw vh v0 v1 fm fw fh f0 f1 R.mem R.holds w) (hd : SlR 1 intR w R.data dv fd) (hn : New fd w0 w) (hf : ∀ c, c ∈ fd -> b + 1 < c)
 (hc : Chg [b + 1] w w1) : IPost w0 vw vh fw fh id R (.returned (.agg #[.int .i64 id, .int .i64 R.code, dv])) w1 := by
 have n : ∀ c, c ∈ fw ++ fh -> c ∉ [b + 1] := fun c hm hx => by
  have := C.lw c hm
  simp at hx
  omega
 have nd : ∀ c, c ∈ fd -> c ∉ [b + 1] := fun c hm hx => by
  have := hf c hm
  simp at hx
  omega
 have z := h.size
 exact ⟨dv, fd, rfl, h.mem.chg intR_fits hc (fun c hm => n c (by simp [hm])), h.hol.chg intR_fits hc (fun c hm => n c (by simp [hm])), hd.chg intR_fits hc nd, ⟨hn.lo, hn.once, hn.free.chg (hd.lt intR_fits) hc nd⟩,
  (h.chg.trans hc).drop (fun c hm hl => by
   rcases List.mem_append.1 hm with hm | hm
   · exact hm
   · have := C.eb
     simp at hm
     omega), h.fr.chg (fun c hm => by have := C.lw c hm; omega) hc n⟩
def rdw (m ads : List Int) (n k : Nat) : List Int := l2get m (ads.take k) ++ List.replicate (n - k) 0
theorem rdw_zero (m ads : List Int) (n : Nat) : rdw m ads n 0 = List.replicate n 0 := by simp [rdw, l2get]
theorem rdw_all {m ads : List Int} {n k : Nat} (h : ads.length = n) (hk : n <= k) : rdw m ads n k = l2get m ads := by
 unfold rdw
 rw [List.take_of_length_le (by omega), show n - k = 0 by omega]
 simp
theorem rdw_len {m ads : List Int} {n k : Nat} (h : ads.length = n) (hk : k <= n) : (rdw m ads n k).length = n := by
 unfold rdw l2get
 simp
 omega
theorem rdw_set {m ads : List Int} {n k : Nat} (h : ads.length = n) (hk : k < n) : (rdw m ads n k).set k (getW m (ads[k]'(by omega))) = rdw m ads n (k + 1) := by
 have hl : (l2get m (ads.take k)).length = k := by unfold l2get; simp; omega
 unfold rdw
 rw [List.set_append_right _ _ (by omega), hl, Nat.sub_self, show n - k = (n - (k + 1)) + 1 by omega, List.replicate_succ, List.set_cons_zero, l2get_succ m (by omega)]
 simp
theorem getD_in {l : List Int} {lo hi : Int} (h : ∀ n, n ∈ l -> lo <= n ∧ n <= hi) (h0 : lo <= 0 ∧ 0 <= hi) (k : Nat) : lo <= (l[k]?).getD 0 ∧ (l[k]?).getD 0 <= hi := by
 cases e : l[k]? with
 | none => exact h0
 | some x => exact h x (List.mem_of_getElem? e)
theorem putTo_in {ms ads data lanes : List Int} (hm : ∀ n, n ∈ ms -> 0 <= n ∧ n <= 65535) (hd : ∀ n, n ∈ data -> 0 <= n ∧ n <= 65535) (hl : ∀ n, n ∈ lanes -> 0 <= n ∧ n <= 3) : ∀ k n, n ∈ putTo ms ads data lanes k -> 0 <= n ∧ n <= 65535
 | 0, n, hn => hm n hn
 | k + 1, n, hn => by
  have ih := putTo_in (ads := ads) hm hd hl k
  rw [putTo] at hn
  rcases List.mem_or_eq_of_mem_set hn with h | h
  · exact ih n h
  · have e1 := getD_in hd (by omega) k
    have e2 := getD_in hl (by omega) k
    have e3 : 0 <= getW (putTo ms ads data lanes k) ((ads[k]?).getD 0) ∧ getW (putTo ms ads data lanes k) ((ads[k]?).getD 0) <= 65535 := getD_in ih (by omega) _
    rw [h, wrdPut_ok _ _ _ e3 e1 e2]
    exact putW_word _ _ _ e3 e1
theorem freeTo_step {h ads : List Int} {k : Nat} (hk : k < h.length) : freeTo h ads (k + 1) 0 = (freeTo h ads k 0).set k (frH ads (h[k])) := by
 rw [<- freeTo_next]
 exact freeTo_set hk (by rw [List.take_length])
theorem freeTo_here {h ads : List Int} {k : Nat} (hk : k < h.length) : (freeTo h ads k 0)[k]'(by rw [freeTo_len]; exact hk) = h[k] := by
 rw [freeTo_at hk]
 simp [frH]
theorem freeTo_stay {h ads : List Int} {k : Nat} (hk : k < h.length) (hc : ads.contains h[k] = false) : freeTo h ads (k + 1) 0 = freeTo h ads k 0 := by
 rw [freeTo_step hk]
 have e : frH ads h[k] = (freeTo h ads k 0)[k]'(by rw [freeTo_len]; exact hk) := by
  rw [freeTo_here hk]
  unfold frH
  rw [if_neg (by simpa using hc)]
 rw [e]
 exact List.set_getElem_self _
theorem reqOk_len {x : Req} (h : reqOk x = true) (hw : writesB x = true) : (x.data.length : Int) = x.many ∧ (x.lanes.length : Int) = x.many := by
 unfold reqOk manyOf at h
 rw [hw] at h
 simp only [Bool.and_eq_true, beq_iff_eq, if_true] at h
 exact ⟨h.2.2.2.1, h.2.2.2.2.1⟩
end Go.Proofs.YtaeiddoccfaheaaGreat
namespace Go.Proofs.YtaeiddoccfaheaaGreat
open Go.RowKit Go.ChangeShapes
def MrC (x : MR) : List Value := [.int .i64 x.fr, .int .i64 x.to, .int .i64 x.sl, .bool x.only]
theorem MrC_len (x : MR) : (MrC x).length = 4 := rfl
theorem toMr_any (x : MR) (w : World) :
 Calls Tryz.prog 57 #[.agg #[.int .i64 x.fr, .int .i64 x.to, .int .i64 x.sl, .bool x.only]] w fun e w' => e = .returned (.agg #[.int .i64 x.fr, .int .i64 x.to, .int .i64 x.sl, .bool x.only]) ∧ Below w.heap.size w w' := by
 go_enter Tryz.func57, Tryz.ntmps57
 go_wp2
 exact bodyPost_ret (v := .agg #[.int .i64 x.fr, .int .i64 x.to, .int .i64 x.sl, .bool x.only]) (by simp [results, Tryz.results57, go_sem]) rfl ⟨rfl, below3 w _ _ _⟩
theorem eqMr_any (x y : MR) (w : World) :
 Calls Tryz.prog 77 #[.agg #[.int .i64 x.fr, .int .i64 x.to, .int .i64 x.sl, .bool x.only], .agg #[.int .i64 y.fr, .int .i64 y.to, .int .i64 y.sl, .bool y.only]] w fun e w' => e = .returned (.bool (decide (x = y))) ∧ Below w.heap.size w w' := by
 have hb : Below w.heap.size w ((w.alloc (.cells #[.int .i64 x.fr, .int .i64 x.to, .int .i64 x.sl, .bool x.only] 97)).alloc (.cells #[.int .i64 y.fr, .int .i64 y.to, .int .i64 y.sl, .bool y.only] 97)) := ((Below.refl _ _).alloc (Nat.le_refl _) _).alloc (by simp) _
 have HB := Lib.hid hb
 have hd : decide (x = y) = (decide (x.fr = y.fr) && decide (x.to = y.to) && decide (x.sl = y.sl) && decide (x.only = y.only)) := by
  cases x; cases y; simp [Bool.and_assoc]
 have HD := Lib.hid hd
 clear hd hb
 by_cases h0 : x.fr = y.fr
 case' neg =>
  have q0 : (x.fr != y.fr) = true := by simp [h0]
  have H0 := Lib.hid h0
  clear h0
  go_enter Tryz.func77, Tryz.ntmps77
  go_wp2
  go_ret
  exact ⟨ret_bool (by rw [HD.out, decide_eq_false H0.out]; simp), HB.out⟩
 have q0 : (x.fr != y.fr) = false := by simp [h0]
 have H0 := Lib.hid h0
 clear h0
 by_cases h1 : x.to = y.to
 case' neg =>
  have q1 : (x.to != y.to) = true := by simp [h1]
  have H1 := Lib.hid h1
  clear h1
  go_enter Tryz.func77, Tryz.ntmps77
  go_wp2
  go_ret
  exact ⟨ret_bool (by rw [HD.out, decide_eq_false H1.out]; simp), HB.out⟩
 have q1 : (x.to != y.to) = false := by simp [h1]
 have H1 := Lib.hid h1
 clear h1
 by_cases h2 : x.sl = y.sl
 case' neg =>
  have q2 : (x.sl != y.sl) = true := by simp [h2]
  have H2 := Lib.hid h2
  clear h2
  go_enter Tryz.func77, Tryz.ntmps77
  go_wp2
  go_ret
  exact ⟨ret_bool (by rw [HD.out, decide_eq_false H2.out]; simp), HB.out⟩
 have q2 : (x.sl != y.sl) = false := by simp [h2]
 have H2 := Lib.hid h2
 clear h2
 by_cases h3 : x.only = y.only
 case' neg =>
  have q3 : (!x.only == y.only) = true := by simp [h3]
  have H3 := Lib.hid h3
  clear h3
  go_enter Tryz.func77, Tryz.ntmps77
  go_wp2
  go_ret
  exact ⟨ret_bool (by rw [HD.out, decide_eq_false H3.out]; simp), HB.out⟩
 have q3 : (!x.only == y.only) = false := by simp [h3]
 have H3 := Lib.hid h3
 clear h3
 go_enter Tryz.func77, Tryz.ntmps77
 go_wp2
 go_ret
 exact ⟨ret_bool (by rw [HD.out, decide_eq_true H0.out, decide_eq_true H1.out, decide_eq_true H2.out, decide_eq_true H3.out]; rfl), HB.out⟩
theorem szMrS_any (v : Value) (l : List MR) (fp : List Nat) (left : Int) (h0 : 0 <= left) (h1 : left <= 1048576) (w : World) (hv : SlR 4 mrR w l v fp) :
 Calls Tryz.prog 20 #[v, .int .i64 left] w fun e w' => e = .returned (.int .i64 (szR left l.length)) ∧ w = w' := by
 obtain ⟨a, n, cap, rfl, hn, hcap, hmax, _, _⟩ := hv.opened
 rw [hn.out]
 clear hn hv
 by_cases h : left < n
 all_goals
  go_enter Tryz.func20, Tryz.ntmps20
  go_wp2
  go_ret
  refine ⟨ret_int ?_, rfl⟩
  unfold szR
  first | rw [if_pos (by omega)] | rw [if_neg (by omega)]
theorem infoMr : (Tryz.prog.info? 97).map (fun i => (i.zero, i.size, i.bytes)) = some (some (.agg #[.int .i64 0, .int .i64 0, .int .i64 0, .bool false]), 4, 32) := by kernel_rfl
theorem toMrS_any (v : Value) (l : List MR) (fp : List Nat) (hs : l.length <= 1048576) (w : World) (g : SlR 4 mrR w l v fp) :
 Calls Tryz.prog 27 #[v] w fun e w' => ∃ v' fp', e = .returned v' ∧ SlR 4 mrR w' l v' fp' ∧ New fp' w w' ∧ Below w.heap.size w w' := by
 obtain ⟨a, n, cap, rfl, hn, hcap, hmax, hcm, r⟩ := g.opened
 have G := Lib.hid g
 have hns : n <= 1048576 := by rw [<- hn.out]; exact hs
 clear g hs
 obtain ⟨i0, hi, hz0, hz1, hz2⟩ := info_parts infoMr
 go_enter Tryz.func27, Tryz.ntmps27
 go_wp2_with (at_make; refine wpList_make_full _ rfl _ _ 37 rfl w.heap.size 97 i0 (.agg #[.int .i64 0, .int .i64 0, .int .i64 0, .bool false]) 4 Tryz.underlying37 hi hz0 hz1 _ _ _ _ n rfl rfl rfl rfl (by rw [hz2]; omega) (by unfold maxLen; omega) (Nat.le_refl _) ?_; intro w1 hown hgr)
 go_loopw [4] (fun i wr => ∃ (k : Nat) (xs : List Value), k <= n ∧ i = .int .i64 k ∧ wr.ownsRow w.heap.size 97 4 (.slice (some ⟨w.heap.size, 0, none⟩) n n) n xs ∧ (∀ i (hi : i < l.length), i < k -> ∀ j (hj : j < (MrC l[i]).length), xs[i * 4 + j]? = some (MrC l[i])[j]) ∧ Below w.heap.size w wr) (fun i _ => n - (intOf i).toNat)
 case atStart => exact ⟨0, _, Nat.zero_le _, rfl, hown, fun i _ h => absurd h (Nat.not_lt_zero i), (Below.refl _ _).grown hgr (Nat.le_refl _) (fun k hk => by simp at hk)⟩
 case round =>
  clear hown hgr
  obtain ⟨k, xs, hk, rfl, hown, hdone, hbel⟩ := hrel
  have HO := Lib.hid hown
  have HD := Lib.hid hdone
  have HB := Lib.hid hbel
  by_cases hlt : k < n
  · obtain ⟨i1, b1, o1, f1, cs, rfl, hb1, _, _, ⟨rfl, rfl⟩, e1⟩ := r k hlt
    have hlx := hown.1
    have c0 := (hbel.cell (p := ⟨b1, o1 + k * 4 + 0, none⟩) hb1).trans (e1 0 (by simp))
    have c1 := (hbel.cell (p := ⟨b1, o1 + k * 4 + 1, none⟩) hb1).trans (e1 1 (by simp))
    have c2 := (hbel.cell (p := ⟨b1, o1 + k * 4 + 2, none⟩) hb1).trans (e1 2 (by simp))
    have c3 := (hbel.cell (p := ⟨b1, o1 + k * 4 + 3, none⟩) hb1).trans (e1 3 (by simp))
    simp only [Nat.add_zero, List.getElem_cons_zero, List.getElem_cons_succ] at c0 c1 c2 c3
    clear r e1 hown hdone
    go_wp2_with fail
    refine (toMr_any l[k] _).mono ?_
    rintro e w2 ⟨rfl, b2⟩
    have HB2 := Lib.hid (hbel.trans (b2.mono hbel.size))
    have hgl : w.heap.size < wr.heap.size := HO.out.lt _ rfl |>.2
    have hO2 : w2.ownsRow w.heap.size 97 4 (.slice (some ⟨w.heap.size, 0, none⟩) n n) n xs := HO.out.kept (row := none) ⟨b2.os, b2.tape, b2.output, b2.size, fun q hq _ => b2.block q hq⟩ (.inr (by simp [Value.ownBlock]))
    obtain ⟨x0, d0⟩ : ∃ x, w2.cell? ⟨w.heap.size, k * 4 + 0, none⟩ = some x := ⟨_, by rw [hO2.cellAt (k * 4 + 0) (by omega)]; exact List.getElem?_eq_getElem (by omega)⟩
    obtain ⟨x1, d1⟩ : ∃ x, w2.cell? ⟨w.heap.size, k * 4 + 1, none⟩ = some x := ⟨_, by rw [hO2.cellAt (k * 4 + 1) (by omega)]; exact List.getElem?_eq_getElem (by omega)⟩
    obtain ⟨x2, d2⟩ : ∃ x, w2.cell? ⟨w.heap.size, k * 4 + 2, none⟩ = some x := ⟨_, by rw [hO2.cellAt (k * 4 + 2) (by omega)]; exact List.getElem?_eq_getElem (by omega)⟩
    obtain ⟨x3, d3⟩ : ∃ x, w2.cell? ⟨w.heap.size, k * 4 + 3, none⟩ = some x := ⟨_, by rw [hO2.cellAt (k * 4 + 3) (by omega)]; exact List.getElem?_eq_getElem (by omega)⟩
    have f0 := hO2.frozenAt (k * 4 + 0)
    have f1 := hO2.frozenAt (k * 4 + 1)
    have f2 := hO2.frozenAt (k * 4 + 2)
    have f3 := hO2.frozenAt (k * 4 + 3)
    simp only [Nat.add_zero] at d0 f0
    have HO2 := Lib.hid hO2
    have HL := Lib.hid hlx
    clear b2 hO2 hbel hlx c0 c1 c2 c3
    go_wp2
    go_roundw
    case rel =>
     have hs := ((((HO2.out.stored (k * 4 + 0) (.int .i64 l[k].fr)).1.stored (k * 4 + 1) (.int .i64 l[k].to)).1.stored (k * 4 + 2) (.int .i64 l[k].sl)).1.stored (k * 4 + 3) (.bool l[k].only)).1
     exact ⟨k + 1, putRow xs (k * 4) (MrC l[k]), by omega, by go_num, hs, row_done MrC_len hn.out HL.out i1 HD.out, (((HB2.out.setCell (Nat.le_refl _) _).setCell (Nat.le_refl _) _).setCell (Nat.le_refl _) _).setCell (Nat.le_refl _) _⟩
    case measure => simp [intOf]; omega
  · obtain rfl : k = n := by omega
    obtain ⟨fp', g1, g2, g3, g4⟩ := SlR.of_owns hown hn.out MrC_len (fun i hi j hj => hdone i hi (by rw [hn.out] at hi; exact hi) j hj)
    have HG1 := Lib.hid (show SlR 4 mrR wr l _ fp' from g1)
    have HG2 := Lib.hid g2
    have HG3 := Lib.hid g3
    have HG4 := Lib.hid g4
    clear r hown hdone hbel g1 g2 g3 g4
    go_wp2
    go_ret
    exact ⟨_, fp', rfl, HG1.out, ⟨HG2.out, HG3.out, HG4.out⟩, HB.out⟩
end Go.Proofs.YtaeiddoccfaheaaGreat
