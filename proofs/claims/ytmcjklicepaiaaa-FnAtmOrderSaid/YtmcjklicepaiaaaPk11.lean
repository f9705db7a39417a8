/-
 Texts of this claim laid together: ReqOk Push Burst.
-/
import Derived.Test.YtmcjklicepaiaaaProg
import Derived.Test.YtmcjklicepaiaaaPk01
import Derived.Test.YtmcjklicepaiaaaPk04
import Derived.WalkSmall
import Derived.OwnWalk
import Derived.RegionTactic
import Derived.ChangeAlike
set_option linter.unusedVariables false
set_option linter.unusedSimpArgs false
namespace Go.Proofs.Ytmcjklicepaiaaa
open Go.RowKit
def writesB (x : Req) : Bool := x.kind == 2 || x.kind == 4
def manyOf (x : Req) : Int := if writesB x then x.many else 0
def reqOk (x : Req) : Bool :=
 inB x.id 0 1 && (inB x.kind 1 4 && (adrOk x.addr x.many x.wrap && (((x.data.length : Int) == manyOf x) && (((x.lanes.length : Int) == manyOf x) && (allIn x.data 0 65535 && (allIn x.lanes 0 3 && (x.kind == 1 || x.kind == 2 || x.many == 1)))))))
def noLane (n : Int) : Bool := !inB n 0 3
theorem noLane_any (n : Int) (w : World) : Calls Try.prog 100 #[.int .i64 n] w fun e w' => e = .returned (.bool (noLane n)) ∧ Below w.heap.size w w' := by
 go_enter Try.func100, Try.ntmps100
 go_wp2_with fail
 refine (in_any _ _ _ _).mono ?_
 rintro e w' ⟨rfl, rfl⟩
 go_wp2
 go_ret
 exact ⟨rfl, Below.refl _ _⟩
theorem indexLane  (v : Value) (l : List Int) (fp : List Nat) (w : World)  (g : SlR 1 intR w l v fp) :
 Calls Try.prog 108 #[v, .func (.func 100) #[] #[]] w fun e w' => e = .returned (.int .i64 (idxOf noLane l)) ∧ Below w.heap.size w w' := by
 obtain ⟨a, n, c, rfl, hn, hcap, hmax, hcm, r⟩ := g.opened
 have G := Lib.hid g
 clear g
 go_enter Try.func108, Try.ntmps108
 go_wp2_with fail
 go_loopw [8] (fun i wr => ∃ k : Nat, k <= n ∧ i = .int .i64 k ∧ (∀ j (h : j < l.length), j < k -> noLane l[j] = false) ∧ Below w.heap.size w wr) (fun i _ => n - (intOf i).toNat)
 case atStart => exact ⟨0, Nat.zero_le _, rfl, fun j _ h => absurd h (Nat.not_lt_zero j), Below.refl _ _⟩
 case round =>
  obtain ⟨k, hk, rfl, hp, hb⟩ := hrel
  have HP := Lib.hid hp
  have HB := Lib.hid hb
  clear hp
  by_cases hlt : k < n
  · obtain ⟨i1, b1, o1, f1, cs, rfl, hb1, hbf, hff, hR, e1⟩ := r k hlt
    have HR := Lib.hid hR
    obtain ⟨rfl, rfl⟩ := hR
    have c0 := (hb.cell (p := ⟨b1, o1 + k * 1 + 0, none⟩) hb1).trans (e1 0 (by simp))
    simp only [Nat.mul_one, Nat.add_zero, List.getElem_cons_zero] at c0
    clear r e1 hb hbf hff
    go_wp2_with fail
    refine (noLane_any l[k] _).mono ?_
    rintro e w2 ⟨rfl, b2⟩
    have HB2 := Lib.hid (HB.out.trans (b2.mono HB.out.size))
    clear b2 c0
    cases hq : noLane l[k]
    · have HQ := Lib.hid hq
      clear hq
      go_wp2
      go_roundw
      case rel => exact ⟨k + 1, by omega, by go_num, fun j h hj => (by
       by_cases e : j = k
       · subst e; exact HQ.out
       · exact HP.out j h (by omega)), HB2.out⟩
      case measure => simp [intOf]; omega
    · have HQ := Lib.hid hq
      clear hq
      go_wp2
      go_ret
      exact ⟨ret_int (idxOf_hit i1 HQ.out (fun j h hj => HP.out j h hj)).symm, HB2.out⟩
  · clear r hb
    go_wp2
    go_ret
    exact ⟨ret_int (idxOf_none (fun j h => HP.out j h (by rw [hn.out] at h; omega))).symm, HB.out⟩
theorem containsLane  (v : Value) (l : List Int) (fp : List Nat) (w : World)  (g : SlR 1 intR w l v fp) :
 Calls Try.prog 58 #[v, .func (.func 100) #[] #[]] w fun e w' => e = .returned (.bool (l.any noLane)) ∧ Below w.heap.size w w' := by
 go_enter Try.func58, Try.ntmps58
 go_wp2_with fail
 refine (indexLane  v l fp _  g).mono ?_
 rintro e w' ⟨rfl, hb⟩
 have HB := Lib.hid hb
 clear hb
 cases hq : decide (0 <= idxOf noLane l)
 all_goals
  go_wp2
  go_ret
  exact ⟨ret_bool (by rw [<- idxOf_any, hq]), HB.out⟩
theorem lanes_eq (l : List Int) : l.any noLane = !allIn l 0 3 := by
 unfold allIn
 rw [List.all_eq_not_any_not]
 simp only [Bool.not_not]
 rfl
theorem writes_any (x : Req) (v0 v1 : Value) (w : World) :
 Calls Try.prog 98 #[.agg #[.int .i64 x.id, .int .i64 x.kind, .int .i64 x.addr, .int .i64 x.many, .bool x.wrap, v0, v1]] w fun e w' => e = .returned (.bool (writesB x)) ∧ Below w.heap.size w w' := by
 have HB := Lib.hid (below_alloc w (.cells #[.int .i64 x.id, .int .i64 x.kind, .int .i64 x.addr, .int .i64 x.many, .bool x.wrap, v0, v1] 26))
 have HW : Hid (writesB x = (x.kind == 2 || x.kind == 4)) := Lib.hid rfl
 cases q2 : x.kind == 2
 all_goals cases q4 : x.kind == 4
 all_goals
  have Q2 := Lib.hid q2
  have Q4 := Lib.hid q4
  go_enter Try.func98, Try.ntmps98
  go_wp2
  go_ret
  exact ⟨ret_bool (by rw [HW.out, Q2.out, Q4.out]; rfl), HB.out⟩
theorem l3Writes_any (x : Req) (v0 v1 : Value) (w : World) :
 Calls Try.prog 103 #[.agg #[.int .i64 x.id, .int .i64 x.kind, .int .i64 x.addr, .int .i64 x.many, .bool x.wrap, v0, v1]] w fun e w' => e = .returned (.bool (writesB x)) ∧ Below w.heap.size w w' := by
 have HB := Lib.hid (below_alloc w (.cells #[.int .i64 x.id, .int .i64 x.kind, .int .i64 x.addr, .int .i64 x.many, .bool x.wrap, v0, v1] 26))
 have HW : Hid (writesB x = (x.kind == 2 || x.kind == 4)) := Lib.hid rfl
 cases q2 : x.kind == 2
 all_goals cases q4 : x.kind == 4
 all_goals
  have Q2 := Lib.hid q2
  have Q4 := Lib.hid q4
  go_enter Try.func103, Try.ntmps103
  go_wp2
  go_ret
  exact ⟨ret_bool (by rw [HW.out, Q2.out, Q4.out]; rfl), HB.out⟩
theorem reqOk_of {x : Req} {n0 n1 : Nat} {m : Int} (h0 : x.data.length = n0) (h1 : x.lanes.length = n1) (hm : manyOf x = m) :
 reqOk x = (inB x.id 0 1 && (inB x.kind 1 4 && (adrOk x.addr x.many x.wrap && (((n0 : Int) == m) && (((n1 : Int) == m) && (allIn x.data 0 65535 && (allIn x.lanes 0 3 && (x.kind == 1 || x.kind == 2 || x.many == 1)))))))) := by
 subst h0 h1 hm; rfl
set_option maxRecDepth 100000 in
set_option maxHeartbeats 6400000 in
theorem iReqOk_any (x : Req) (v0 v1 : Value) (fp0 fp1 : List Nat) (w : World) (g0 : SlR 1 intR w x.data v0 fp0) (g1 : SlR 1 intR w x.lanes v1 fp1) :
 Calls Try.prog 46 #[.agg #[.int .i64 x.id, .int .i64 x.kind, .int .i64 x.addr, .int .i64 x.many, .bool x.wrap, v0, v1]] w fun e w' => e = .returned (.bool (reqOk x)) ∧ Below w.heap.size w w' := by
 obtain ⟨id, kind, addr, many, wrap, data, lanes⟩ := x
 have hb := below_alloc w (.cells #[.int .i64 id, .int .i64 kind, .int .i64 addr, .int .i64 many, .bool wrap, v0, v1] 26)
 have G0 := Lib.hid (SlR.below intR_fits g0 hb)
 have G1 := Lib.hid (SlR.below intR_fits g1 hb)
 have B := Lib.hid hb
 obtain ⟨a0, n0, c0, rfl, hn0, _, _, _, _⟩ := g0.opened
 obtain ⟨a1, n1, c1, rfl, hn1, _, _, _, _⟩ := g1.opened
 have HO := Lib.hid (fun m => reqOk_of (x := ⟨id, kind, addr, many, wrap, data, lanes⟩) (m := m) hn0.out hn1.out)
 dsimp only at G0 G1
 clear hb g0 g1 hn0 hn1
 have HBox : Hid (∀ j v, (#[.int .i64 id, .int .i64 kind, .int .i64 addr, .int .i64 many, .bool wrap, .slice a0 n0 c0, .slice a1 n1 c1] : Array Value)[j]? = some v -> (w.alloc (.cells #[.int .i64 id, .int .i64 kind, .int .i64 addr, .int .i64 many, .bool wrap, .slice a0 n0 c0, .slice a1 n1 c1] 26)).cell? ⟨w.heap.size, j, none⟩ = some v) := Lib.hid (fun j v h => alloc1_new w _ _ j h)
 cases qw : writesB ⟨id, kind, addr, many, wrap, data, lanes⟩
 all_goals
  have HM : Hid (∃ m : Int, manyOf ⟨id, kind, addr, many, wrap, data, lanes⟩ = m ∧ m = if writesB ⟨id, kind, addr, many, wrap, data, lanes⟩ then many else 0) := Lib.hid ⟨_, rfl, rfl⟩
  obtain ⟨m, hm, hm'⟩ := HM.out
  rw [qw] at hm'
  simp only [if_true, Bool.false_eq_true, if_false] at hm'
  have QW := Lib.hid qw
  have HO2 := Lib.hid (HO.out m hm)
  clear hm qw HM HO
 case' false =>
  subst hm'
  by_cases e0 : n0 = 0
  case' neg => have q0 : ((n0 : Int) == 0) = false := by simpa using e0
  case' pos =>
   obtain rfl := e0
   by_cases e1 : n1 = 0
   case' neg => have q1 : ((n1 : Int) == 0) = false := by simpa using e1
   case' pos => obtain rfl := e1
 case' true =>
  obtain rfl : many = m := hm'.symm
  by_cases e0 : many = n0
  case' neg => have q0 : ((n0 : Int) == many) = false := by simpa using fun h => e0 h.symm
  case' pos =>
   obtain rfl := e0
   by_cases e1 : n1 = n0
   case' neg => have q1 : ((n1 : Int) == (n0 : Int)) = false := by rw [beq_eq_false_iff_ne]; omega
   case' pos => obtain rfl := e1
 all_goals (try have E0 := Lib.hid e0; clear e0)
 all_goals (try have E1 := Lib.hid e1; clear e1)
 all_goals
  go_enter Try.func46, Try.ntmps46
  go_wp2_with fail
  refine (writes_any ⟨id, kind, addr, _, wrap, data, lanes⟩ _ _ _).mono ?_
  rw [QW.out]
  rintro e w1 ⟨rfl, b⟩
  replace G0 := Lib.hid (SlR.below intR_fits G0.out b)
  replace G1 := Lib.hid (SlR.below intR_fits G1.out b)
  have X0 := keep_cell b (HBox.out 0 _ rfl)
  have X1 := keep_cell b (HBox.out 1 _ rfl)
  have X2 := keep_cell b (HBox.out 2 _ rfl)
  have X3 := keep_cell b (HBox.out 3 _ rfl)
  have X4 := keep_cell b (HBox.out 4 _ rfl)
  have X5 := keep_cell b (HBox.out 5 _ rfl)
  have X6 := keep_cell b (HBox.out 6 _ rfl)
  replace B := Lib.hid (B.out.trans (b.mono B.out.size))
  clear b HBox
  go_wp2_with (first
   | (go_at_call 52; refine (in_any _ _ _ _).mono ?_; rintro e w' ⟨rfl, rfl⟩)
   | (go_at_call 56; refine (iAdrOk_any _ _ _ _).mono ?_; rintro e w' ⟨rfl, rfl⟩)
   | (go_at_call 99; refine (areWords_any _ data fp0 _ G0.out).mono ?_; rintro e w2 ⟨rfl, b⟩; rw [wordsB_eq]; replace G1 := Lib.hid (SlR.below intR_fits G1.out b); replace X1 := keep_cell b X1; replace X3 := keep_cell b X3; replace X6 := keep_cell b X6; replace B := Lib.hid (B.out.trans (b.mono B.out.size)); clear b)
   | (go_at_call 58; refine (containsLane _ lanes fp1 _ G1.out).mono ?_; rintro e w2 ⟨rfl, b⟩; rw [lanes_eq]; replace X1 := keep_cell b X1; replace X3 := keep_cell b X3; replace B := Lib.hid (B.out.trans (b.mono B.out.size)); clear b))
  all_goals go_ret
  all_goals refine ⟨ret_bool ?_, B.out⟩
  all_goals rw [HO2.out]
  all_goals first | (simp [*]; done) | (simp [*] at *; omega) | trace_state
theorem reqOk_spec {x : Req} {n0 n1 : Nat} (h0 : x.data.length = n0) (h1 : x.lanes.length = n1) :
 reqOk x = (inB x.id 0 1 && (inB x.kind 1 4 && (adrOk x.addr x.many x.wrap && (!(decide (3 <= x.kind) && (x.many != 1)) &&
  (if writesB x then ((n0 : Int) == x.many) && (((n1 : Int) == x.many) && (allIn x.data 0 65535 && allIn x.lanes 0 3)) else ((n0 : Int) == 0) && ((n1 : Int) == 0)))))) := by
 rw [reqOk_of h0 h1 rfl]
 obtain ⟨id, kind, addr, many, wrap, data, lanes⟩ := x
 unfold manyOf writesB
 dsimp only
 cases inB id 0 1
 · simp
 cases hk : inB kind 1 4
 · simp
 have hk' := inB_true.1 hk
 cases adrOk addr many wrap
 · simp
 simp only [Bool.true_and]
 have hkind : kind = 1 ∨ kind = 2 ∨ kind = 3 ∨ kind = 4 := by omega
 have hd0 : n0 = 0 -> allIn data 0 65535 = true := fun h => by
  have : data = [] := List.eq_nil_of_length_eq_zero (by simpa [h] using h0)
  subst this; rfl
 have hl0 : n1 = 0 -> allIn lanes 0 3 = true := fun h => by
  have : lanes = [] := List.eq_nil_of_length_eq_zero (by simpa [h] using h1)
  subst this; rfl
 rcases hkind with rfl | rfl | rfl | rfl
 all_goals cases hM : (many == 1)
 all_goals cases hA : ((n0 : Int) == 0)
 all_goals cases hB : ((n1 : Int) == 0)
 all_goals (try have hd1 := hd0 (by have := eq_of_beq hA; omega))
 all_goals (try have hl1 := hl0 (by have := eq_of_beq hB; omega))
 all_goals (simp only [bne, hM]; simp [*]; done)
set_option maxRecDepth 100000 in
set_option maxHeartbeats 6400000 in
theorem sReqOk_any (x : Req) (v0 v1 : Value) (fp0 fp1 : List Nat) (w : World) (g0 : SlR 1 intR w x.data v0 fp0) (g1 : SlR 1 intR w x.lanes v1 fp1) :
    Calls Try.prog 49 #[.agg #[.int .i64 x.id, .int .i64 x.kind, .int .i64 x.addr, .int .i64 x.many, .bool x.wrap, v0, v1]] w fun e w' => e = .returned (.bool (reqOk x)) ∧ Below w.heap.size w w' := by
  obtain ⟨id, kind, addr, many, wrap, data, lanes⟩ := x
  have hb := below_alloc w (.cells #[.int .i64 id, .int .i64 kind, .int .i64 addr, .int .i64 many, .bool wrap, v0, v1] 26)
  have G0 := Lib.hid (SlR.below intR_fits g0 hb)
  have G1 := Lib.hid (SlR.below intR_fits g1 hb)
  have B := Lib.hid hb
  obtain ⟨a0, n0, c0, rfl, hn0, _, _, _, _⟩ := g0.opened
  obtain ⟨a1, n1, c1, rfl, hn1, _, _, _, _⟩ := g1.opened
  have HO := Lib.hid (reqOk_spec (x := ⟨id, kind, addr, many, wrap, data, lanes⟩) hn0.out hn1.out)
  dsimp only at G0 G1
  clear hb g0 g1 hn0 hn1
  have HBox : Hid (∀ j v, (#[.int .i64 id, .int .i64 kind, .int .i64 addr, .int .i64 many, .bool wrap, .slice a0 n0 c0, .slice a1 n1 c1] : Array Value)[j]? = some v -> (w.alloc (.cells #[.int .i64 id, .int .i64 kind, .int .i64 addr, .int .i64 many, .bool wrap, .slice a0 n0 c0, .slice a1 n1 c1] 26)).cell? ⟨w.heap.size, j, none⟩ = some v) := Lib.hid (fun j v h => alloc1_new w _ _ j h)
  cases qw : writesB ⟨id, kind, addr, many, wrap, data, lanes⟩
  case' false =>
    have QW := Lib.hid qw
    clear qw
    by_cases e0 : n0 = 0
    case' neg => have q0 : ((n0 : Int) == 0) = false := by simpa using e0
    case' pos =>
      obtain rfl := e0
      by_cases e1 : n1 = 0
      case' neg => have q1 : ((n1 : Int) == 0) = false := by simpa using e1
      case' pos => obtain rfl := e1
  case' true =>
    have QW := Lib.hid qw
    clear qw
    by_cases e0 : many = n0
    case' neg => have q0 : ((n0 : Int) == many) = false := by simpa using fun h => e0 h.symm
    case' pos =>
      obtain rfl := e0
      by_cases e1 : n1 = n0
      case' neg => have q1 : ((n1 : Int) == (n0 : Int)) = false := by rw [beq_eq_false_iff_ne]; omega
      case' pos => obtain rfl := e1
  all_goals (try have E0 := Lib.hid e0; clear e0)
  all_goals (try have E1 := Lib.hid e1; clear e1)
  all_goals
    go_enter Try.func49, Try.ntmps49
    go_wp2_with (first
      | (go_at_call 70; refine (l1In_any _ _ _ _).mono ?_; rintro e w' ⟨rfl, rfl⟩)
      | (go_at_call 102; refine (sAdrOk_any _ _ _ _).mono ?_; rintro e w' ⟨rfl, rfl⟩)
      | (go_at_call 103; refine (l3Writes_any ⟨id, kind, addr, _, wrap, data, lanes⟩ _ _ _).mono ?_; rw [QW.out]; rintro e w1 ⟨rfl, b⟩; replace G0 := Lib.hid (SlR.below intR_fits G0.out b); replace G1 := Lib.hid (SlR.below intR_fits G1.out b); have X3 := keep_cell b (HBox.out 3 _ rfl); have X5 := keep_cell b (HBox.out 5 _ rfl); have X6 := keep_cell b (HBox.out 6 _ rfl); replace B := Lib.hid (B.out.trans (b.mono B.out.size)); clear b)
      | (go_at_call 64; first
          | ((with_reducible refine (l3All_any _ data fp0 0 65535 _ G0.out).mono ?_); rintro e w2 ⟨rfl, rfl⟩)
          | ((with_reducible refine (l3All_any _ lanes fp1 0 3 _ G1.out).mono ?_); rintro e w2 ⟨rfl, rfl⟩)))
    all_goals go_ret
    all_goals refine ⟨ret_bool ?_, B.out⟩
    all_goals rw [HO.out, QW.out]
    all_goals clear HBox G0 G1 B
    all_goals (try simp only [Bool.not_eq_true', Bool.not_eq_false'] at *)
    all_goals (try have hk' := decide_eq_false (show ¬ 3 <= kind by omega))
    all_goals first | (simp [*]; done) | trace_state
end Go.Proofs.Ytmcjklicepaiaaa
namespace Go.Proofs.Ytmcjklicepaiaaa
open Go.RowKit Go.WideShapes
variable {P : Program}
theorem wpList_push {ops : Array Oper} {rest : List Oper} {o : Oper} {a : Act} {Q : Exit -> Act -> World -> Prop} {w : World} {W : World} {base n : Nat} {v : Value} {xs : List Value} {news : List Value}
 (hgd : o.guard = none) (s x : Operand) (t e : TypeId) (i : TypeInfo) (z : Value) (size bytes : Nat) (T : TypeId)
 (ho : o.op = .call { callee := .builtin .append, args := #[s, x], argTypes := #[t, t] })
 (ht : P.underlying t = some (.slice e)) (hi : P.info? e = some i) (hz : i.zero = some z) (hsize : i.size = size) (hby : i.bytes = bytes) (hzs : z.cells.size = size) (hsz : 0 < size) (hb8 : bytes <= 64)
 (hs : a.eval s = v) (hx : a.eval x = .slice (some ⟨w.heap.size, 0, none⟩) 1 1) (hown : w.ownsRow base e size v n xs) (hl : news.length = size) (h1 : ∀ u ∈ news, u.oneCell' = true)
 (hn : n <= 2000000) (hbel : Below W.heap.size W w) (hW : W.heap.size <= base) (hbase : base <= w.heap.size)
 (h : ∀ v' w', w'.ownsRow base e size v' (n + 1) (xs ++ news) -> Below W.heap.size W w' -> w.heap.size <= w'.heap.size -> w.grownBy w' v.ownBlock -> wpList P ops Q rest (a.put o.dst v') w') :
 wpList P ops Q (o :: rest) a (w.alloc (.cells news.toArray T)) := by
 refine wpList_append_own _ hgd s x t ho base e i z size bytes ht hi hz hsize hby hzs hsz v n xs hs (hown.alloc _) ⟨w.heap.size, 0, none⟩ 1 1 news hx (by simpa using hl) ?_ h1 (by unfold maxLen; omega) ?_ (by simp; omega) ?_
 · intro j u hj
   rw [add_plain, Nat.zero_add]
   exact alloc1_new w _ _ j (by simpa using hj)
 · have : (n + 1) * bytes <= 2000001 * 64 := Nat.mul_le_mul (by omega) hb8
   omega
 · intro v' w' hown' hgr _
   have hz1 : w.heap.size <= w'.heap.size := by have := hgr.size; simp at this; omega
   have hg' : w.grownBy w' v.ownBlock := ⟨hgr.os, hgr.tape, hgr.output, hz1, fun k hk hne => (hgr.block k (by simp; omega) hne).trans (Below.heap_alloc _ _ _ hk)⟩
   exact h v' w' hown' (hbel.grown hg' hbel.size (fun k hk => by have := (hown.lt k hk).1; omega)) hz1 hg'
end Go.Proofs.Ytmcjklicepaiaaa
namespace Go.Proofs.Ytmcjklicepaiaaa
open Go.RowKit
def bval (a m : Int) (wr : Bool) (i : Nat) : Int := if wr then a - a % m + (a + i) % m else a + i
def burst (a : Int) (m : Nat) (wr : Bool) : List Int := (List.range m).map fun (i : Nat) => bval a m wr i
def adrBurst (a m : Int) (wr : Bool) : List Int := if adrOk a m wr then burst a m.toNat wr else []
def bpart (a : Int) (m : Nat) (wr : Bool) (k : Nat) : List Int := (List.range m).map fun (i : Nat) => if i < k then bval a m wr i else 0
theorem bpart_len (a : Int) (m : Nat) (wr : Bool) (k : Nat) : (bpart a m wr k).length = m := by simp [bpart]
theorem bpart_zero (a : Int) (m : Nat) (wr : Bool) : bpart a m wr 0 = List.replicate m 0 := by
 apply List.ext_getElem
 · simp [bpart]
 · intro i h1 h2; simp [bpart]
theorem bpart_all (a : Int) (m : Nat) (wr : Bool) (k : Nat) (h : m <= k) : bpart a m wr k = burst a m wr := by
 unfold bpart burst
 apply List.map_congr_left
 intro i hi
 have := List.mem_range.1 hi
 rw [if_pos (by omega)]
theorem bpart_set (a : Int) (m : Nat) (wr : Bool) (k : Nat) (x : Int) (hx : bval a m wr k = x) : (bpart a m wr k).set k x = bpart a m wr (k + 1) := by
 subst hx
 apply List.ext_getElem
 · simp [bpart]
 · intro i h1 h2
   rw [List.getElem_set]
   simp only [bpart, List.getElem_map, List.getElem_range]
   by_cases e : k = i
   · subst e; simp
   · rw [if_neg e]
     by_cases h : i < k
     · rw [if_pos h, if_pos (by omega)]
     · rw [if_neg h, if_neg (by omega)]
theorem iAdrBurst_false (a : Int) (m : Nat) (h : adrOk a m false = true) (w : World) :
 Calls Try.prog 141 #[.int .i64 a, .int .i64 m, .bool false] w fun e w' => ∃ v fp, e = .returned v ∧ IntS w' (burst a m false) v fp ∧ New fp w w' ∧ Below w.heap.size w w' := by
 obtain ⟨i0, hi, hz0, hz1, hz2⟩ := info_parts infoInt
 obtain ⟨a0, a1, hm, _⟩ := adrOk_true.1 h
 have H := Lib.hid h
 clear h
 have hm4 : m <= 4 := by omega
 have hm1 : 1 <= m := by omega
 have q0 : 0 <= a % (m : Int) := Int.emod_nonneg _ (by omega)
 have q1 : a % (m : Int) < m := Int.emod_lt_of_pos _ (by omega)
 go_enter Try.func141, Try.ntmps141
 go_wp2_with fail
 refine (iAdrOk_any _ _ _ _).mono ?_
 rw [H.out]
 rintro e w' ⟨rfl, rfl⟩
 go_wp2_with (at_make; refine wpList_make_full _ rfl _ _ 24 rfl w.heap.size 3 i0 (.int .i64 0) 1 Try.underlying24 hi hz0 hz1 _ _ _ _ m rfl rfl rfl rfl (by rw [hz2]; omega) (by unfold maxLen; omega) (Nat.le_refl _) ?_; intro w1 hown hgr)
 go_loopw [18] (fun i wr => ∃ k : Nat, k <= m ∧ i = .int .i64 k ∧ wr.ownsRow w.heap.size 3 1 (.slice (some ⟨w.heap.size, 0, none⟩) m m) m ((bpart a m false k).map (Value.int .i64)) ∧ Below w.heap.size w wr) (fun i _ => m - (intOf i).toNat)
 case atStart => exact ⟨0, Nat.zero_le _, rfl, by rw [bpart_zero, List.map_replicate, <- toList_madeCells_one, <- Nat.mul_one m]; simpa [Value.cells] using hown, (Below.refl _ _).grown hgr (Nat.le_refl _) (fun k hk => by simp at hk)⟩
 case round =>
  clear hown hgr
  obtain ⟨k, hk, rfl, hown, hbel⟩ := hrel
  by_cases hlt : k < m
  · obtain ⟨x, d1⟩ : ∃ x, wr.cell? ⟨w.heap.size, k, none⟩ = some x := ⟨_, by rw [hown.cellAt k (by omega)]; exact List.getElem?_eq_getElem (by rw [List.length_map, bpart_len]; exact hlt)⟩
    have d2 := hown.frozenAt k
    have HO := Lib.hid hown
    have HB := Lib.hid hbel
    clear hown hbel
    go_wp2
    go_roundw
    case rel =>
     have hs := (HO.out.stored k (.int .i64 (a + k))).1
     rw [<- List.map_set, bpart_set a m false k (a + k) (by simp [bval])] at hs
     exact ⟨k + 1, by omega, by go_num, hs, HB.out.setCell (Nat.le_refl _) _⟩
    case measure => simp [intOf]; omega
  · have HB := Lib.hid hbel
    rw [bpart_all a m false k (by omega)] at hown
    obtain ⟨fp', g1, g2, g3, g4⟩ := IntS.of_owns hown
    have HG1 := Lib.hid g1
    have HG2 := Lib.hid g2
    have HG3 := Lib.hid g3
    have HG4 := Lib.hid g4
    clear hbel hown g1 g2 g3 g4
    go_wp2
    go_ret
    exact ⟨_, fp', rfl, HG1.out, ⟨HG2.out, HG3.out, HG4.out⟩, HB.out⟩
theorem iAdrBurst_true (a : Int) (m : Nat) (h : adrOk a m true = true) (w : World) :
 Calls Try.prog 141 #[.int .i64 a, .int .i64 m, .bool true] w fun e w' => ∃ v fp, e = .returned v ∧ IntS w' (burst a m true) v fp ∧ New fp w w' ∧ Below w.heap.size w w' := by
 obtain ⟨i0, hi, hz0, hz1, hz2⟩ := info_parts infoInt
 obtain ⟨a0, a1, hm, _⟩ := adrOk_true.1 h
 have H := Lib.hid h
 clear h
 have hm4 : m <= 4 := by omega
 have hm1 : 1 <= m := by omega
 have q0 : 0 <= a % (m : Int) := Int.emod_nonneg _ (by omega)
 have q1 : a % (m : Int) < m := Int.emod_lt_of_pos _ (by omega)
 go_enter Try.func141, Try.ntmps141
 go_wp2_with fail
 refine (iAdrOk_any _ _ _ _).mono ?_
 rw [H.out]
 rintro e w' ⟨rfl, rfl⟩
 go_wp2_with (at_make; refine wpList_make_full _ rfl _ _ 24 rfl w.heap.size 3 i0 (.int .i64 0) 1 Try.underlying24 hi hz0 hz1 _ _ _ _ m rfl rfl rfl rfl (by rw [hz2]; omega) (by unfold maxLen; omega) (Nat.le_refl _) ?_; intro w1 hown hgr)
 go_loopw [18] (fun i wr => ∃ k : Nat, k <= m ∧ i = .int .i64 k ∧ wr.ownsRow w.heap.size 3 1 (.slice (some ⟨w.heap.size, 0, none⟩) m m) m ((bpart a m true k).map (Value.int .i64)) ∧ Below w.heap.size w wr) (fun i _ => m - (intOf i).toNat)
 case atStart => exact ⟨0, Nat.zero_le _, rfl, by rw [bpart_zero, List.map_replicate, <- toList_madeCells_one, <- Nat.mul_one m]; simpa [Value.cells] using hown, (Below.refl _ _).grown hgr (Nat.le_refl _) (fun k hk => by simp at hk)⟩
 case round =>
  clear hown hgr
  obtain ⟨k, hk, rfl, hown, hbel⟩ := hrel
  by_cases hlt : k < m
  · obtain ⟨x, d1⟩ : ∃ x, wr.cell? ⟨w.heap.size, k, none⟩ = some x := ⟨_, by rw [hown.cellAt k (by omega)]; exact List.getElem?_eq_getElem (by rw [List.length_map, bpart_len]; exact hlt)⟩
    have d2 := hown.frozenAt k
    have HO := Lib.hid hown
    have HB := Lib.hid hbel
    clear hown hbel
    have q2 : 0 <= (a + k) % (m : Int) := Int.emod_nonneg _ (by omega)
    have q3 : (a + k) % (m : Int) < m := Int.emod_lt_of_pos _ (by omega)
    go_wp2
    go_region
    all_goals go_wp2
    go_roundw
    case rel =>
     have hs := ((HO.out.stored k (.int .i64 (a + k))).1.stored k (.int .i64 (a - a % m + (a + k) % m))).1
     rw [List.set_set, <- List.map_set, bpart_set a m true k (a - a % m + (a + k) % m) (by simp [bval])] at hs
     exact ⟨k + 1, by omega, by go_num, hs, ((HB.out.setCell (Nat.le_refl _) _).setCell (Nat.le_refl _) _).drew⟩
    case measure => simp [intOf]; omega
  · have HB := Lib.hid hbel
    rw [bpart_all a m true k (by omega)] at hown
    obtain ⟨fp', g1, g2, g3, g4⟩ := IntS.of_owns hown
    have HG1 := Lib.hid g1
    have HG2 := Lib.hid g2
    have HG3 := Lib.hid g3
    have HG4 := Lib.hid g4
    clear hbel hown g1 g2 g3 g4
    go_wp2
    go_ret
    exact ⟨_, fp', rfl, HG1.out, ⟨HG2.out, HG3.out, HG4.out⟩, HB.out⟩
theorem iAdrBurst_no (a m : Int) (wr : Bool) (h : adrOk a m wr = false) (w : World) :
 Calls Try.prog 141 #[.int .i64 a, .int .i64 m, .bool wr] w fun e w' => e = .returned (.slice none 0 0) ∧ w = w' := by
 have H := Lib.hid h
 clear h
 go_enter Try.func141, Try.ntmps141
 go_wp2_with fail
 refine (iAdrOk_any _ _ _ _).mono ?_
 rw [H.out]
 rintro e w' ⟨rfl, rfl⟩
 go_wp2
 go_ret
 exact ⟨rfl, rfl⟩
theorem iAdrBurst_any (a m : Int) (wr : Bool) (w : World) :
 Calls Try.prog 141 #[.int .i64 a, .int .i64 m, .bool wr] w fun e w' => ∃ v fp, e = .returned v ∧ IntS w' (adrBurst a m wr) v fp ∧ New fp w w' ∧ Below w.heap.size w w' := by
 cases h : adrOk a m wr
 · refine (iAdrBurst_no a m wr h w).mono ?_
   rintro e w' ⟨rfl, rfl⟩
   exact ⟨_, [], rfl, by unfold adrBurst; rw [if_neg (by simp [h])]; exact ⟨none, 0, 0, rfl, rfl, Nat.le_refl _, by simp, .inl ⟨rfl, rfl⟩⟩, New.nil _ _, Below.refl _ _⟩
 · obtain ⟨_, _, hm, _⟩ := adrOk_true.1 h
   obtain ⟨n, rfl⟩ := Int.eq_ofNat_of_zero_le (show 0 <= m by omega)
   have e : adrBurst a n wr = burst a n wr := by unfold adrBurst; rw [if_pos h]; rfl
   rw [e]
   cases wr
   · exact iAdrBurst_false a n h w
   · exact iAdrBurst_true a n h w
theorem sval (a m : Int) (k : Nat) (wr : Bool) : (if wr then a - a % m + ((a - (a - a % m)) + k) % m else a + k) = bval a m wr k := by
 unfold bval
 cases wr
 · rfl
 · simp only [if_true]
   have : (a - (a - a % m) + (k : Int)) % m = (a + k) % m := by
    rw [show a - (a - a % m) + (k : Int) = a % m + k by omega, Int.emod_add_emod]
   rw [this]
theorem burst_succ (a : Int) (m k : Nat) (wr : Bool) : ((List.range k).map fun (i : Nat) => bval a m wr i) ++ [bval a m wr k] = (List.range (k + 1)).map fun (i : Nat) => bval a m wr i := by
 simp [List.range_succ]
theorem sAdrBurst_false (a : Int) (m : Nat) (h : adrOk a m false = true) (w : World) :
 Calls Try.prog 51 #[.int .i64 a, .int .i64 m, .bool false] w fun e w' => ∃ v fp, e = .returned v ∧ IntS w' (burst a m false) v fp ∧ New fp w w' ∧ Below w.heap.size w w' := by
 obtain ⟨i0, hi, hz0, hz1, hz2⟩ := info_parts infoInt
 obtain ⟨a0, a1, hm, _⟩ := adrOk_true.1 h
 have H := Lib.hid h
 clear h
 have hm4 : m <= 4 := by omega
 have hm1 : 1 <= m := by omega
 have q0 : 0 <= a % (m : Int) := Int.emod_nonneg _ (by omega)
 have q1 : a % (m : Int) < m := Int.emod_lt_of_pos _ (by omega)
 go_enter Try.func51, Try.ntmps51
 go_wp2_with fail
 refine (sAdrOk_any _ _ _ _).mono ?_
 rw [H.out]
 rintro e w' ⟨rfl, rfl⟩
 go_wp2_with fail
 go_loopw [7, 9] (fun v i wr => ∃ k : Nat, k <= m ∧ i = .int .i64 k ∧ wr.ownsRow w.heap.size 3 1 v k (((List.range k).map fun (i : Nat) => bval a m false i).map (Value.int .i64)) ∧ Below w.heap.size w wr) (fun _ i _ => m - (intOf i).toNat)
 case atStart => exact ⟨0, Nat.zero_le _, rfl, World.ownsRow_lit w #[] 0 (Nat.le_refl _) (by simp) rfl, below_alloc _ _⟩
 case round =>
  obtain ⟨k, hk, rfl, hown, hbel⟩ := hrel
  have HO := Lib.hid hown
  have HB := Lib.hid hbel
  clear hown hbel
  by_cases hlt : k < m
  · have q2 : 0 <= (a - (a - a % m) + k) % (m : Int) := Int.emod_nonneg _ (by omega)
    have q3 : (a - (a - a % m) + k) % (m : Int) < m := Int.emod_lt_of_pos _ (by omega)
    go_wp2_with (at_builtin; refine wpList_push rfl _ _ 24 3 i0 (.int .i64 0) 1 8 3 rfl Try.underlying24 hi hz0 hz1 hz2 rfl (by decide) (by decide) rfl rfl HO.out (news := [.int .i64 (a + k)]) rfl (by simp [Value.oneCell']) (by omega) HB.out (Nat.le_refl _) HB.out.size ?_; intro v' w1 hown' hbel' hsz' _; have HO' := Lib.hid hown'; have HB' := Lib.hid hbel'; clear hown' hbel')
    go_roundw
    case rel =>
     have e := sval a m k false
     simp only [if_false, Bool.false_eq_true] at e
     have ho := HO'.out
     rw [e, show ∀ l : List Int, l.map (Value.int .i64) ++ [.int .i64 (bval a m false k)] = (l ++ [bval a m false k]).map (Value.int .i64) from fun l => by simp, burst_succ] at ho
     exact ⟨k + 1, by omega, by go_num, ho, HB'.out⟩
    case measure => simp [intOf]; omega
  · obtain rfl : k = m := by omega
    obtain ⟨fp', g1, g2, g3, g4⟩ := IntS.of_owns HO.out
    have HG1 := Lib.hid g1
    have HG2 := Lib.hid g2
    have HG3 := Lib.hid g3
    have HG4 := Lib.hid g4
    clear g1 g2 g3 g4
    go_wp2
    go_ret
    exact ⟨_, fp', rfl, HG1.out, ⟨HG2.out, HG3.out, HG4.out⟩, HB.out⟩
theorem sAdrBurst_true (a : Int) (m : Nat) (h : adrOk a m true = true) (w : World) :
 Calls Try.prog 51 #[.int .i64 a, .int .i64 m, .bool true] w fun e w' => ∃ v fp, e = .returned v ∧ IntS w' (burst a m true) v fp ∧ New fp w w' ∧ Below w.heap.size w w' := by
 obtain ⟨i0, hi, hz0, hz1, hz2⟩ := info_parts infoInt
 obtain ⟨a0, a1, hm, _⟩ := adrOk_true.1 h
 have H := Lib.hid h
 clear h
 have hm4 : m <= 4 := by omega
 have hm1 : 1 <= m := by omega
 have q0 : 0 <= a % (m : Int) := Int.emod_nonneg _ (by omega)
 have q1 : a % (m : Int) < m := Int.emod_lt_of_pos _ (by omega)
 go_enter Try.func51, Try.ntmps51
 go_wp2_with fail
 refine (sAdrOk_any _ _ _ _).mono ?_
 rw [H.out]
 rintro e w' ⟨rfl, rfl⟩
 go_wp2_with fail
 go_loopw [7, 9] (fun v i wr => ∃ k : Nat, k <= m ∧ i = .int .i64 k ∧ wr.ownsRow w.heap.size 3 1 v k (((List.range k).map fun (i : Nat) => bval a m true i).map (Value.int .i64)) ∧ Below w.heap.size w wr) (fun _ i _ => m - (intOf i).toNat)
 case atStart => exact ⟨0, Nat.zero_le _, rfl, World.ownsRow_lit w #[] 0 (Nat.le_refl _) (by simp) rfl, below_alloc _ _⟩
 case round =>
  obtain ⟨k, hk, rfl, hown, hbel⟩ := hrel
  have HO := Lib.hid hown
  have HB := Lib.hid hbel
  clear hown hbel
  by_cases hlt : k < m
  · have q2 : 0 <= (a - (a - a % m) + k) % (m : Int) := Int.emod_nonneg _ (by omega)
    have q3 : (a - (a - a % m) + k) % (m : Int) < m := Int.emod_lt_of_pos _ (by omega)
    go_wp2_with (at_builtin; refine wpList_push rfl _ _ 24 3 i0 (.int .i64 0) 1 8 3 rfl Try.underlying24 hi hz0 hz1 hz2 rfl (by decide) (by decide) rfl rfl HO.out (news := [.int .i64 (a - a % m + (a - (a - a % m) + k) % m)]) rfl (by simp [Value.oneCell']) (by omega) HB.out (Nat.le_refl _) HB.out.size ?_; intro v' w1 hown' hbel' hsz' _; have HO' := Lib.hid hown'; have HB' := Lib.hid hbel'; clear hown' hbel')
    go_roundw
    case rel =>
     have e := sval a m k true
     simp only [if_true] at e
     have ho := HO'.out
     rw [e, show ∀ l : List Int, l.map (Value.int .i64) ++ [.int .i64 (bval a m true k)] = (l ++ [bval a m true k]).map (Value.int .i64) from fun l => by simp, burst_succ] at ho
     exact ⟨k + 1, by omega, by go_num, ho, HB'.out⟩
    case measure => simp [intOf]; omega
  · obtain rfl : k = m := by omega
    obtain ⟨fp', g1, g2, g3, g4⟩ := IntS.of_owns HO.out
    have HG1 := Lib.hid g1
    have HG2 := Lib.hid g2
    have HG3 := Lib.hid g3
    have HG4 := Lib.hid g4
    clear g1 g2 g3 g4
    go_wp2
    go_ret
    exact ⟨_, fp', rfl, HG1.out, ⟨HG2.out, HG3.out, HG4.out⟩, HB.out⟩
theorem sAdrBurst_no (a m : Int) (wr : Bool) (h : adrOk a m wr = false) (w : World) :
 Calls Try.prog 51 #[.int .i64 a, .int .i64 m, .bool wr] w fun e w' => ∃ v fp, e = .returned v ∧ IntS w' [] v fp ∧ New fp w w' ∧ Below w.heap.size w w' := by
 have H := Lib.hid h
 clear h
 go_enter Try.func51, Try.ntmps51
 go_wp2_with fail
 refine (sAdrOk_any _ _ _ _).mono ?_
 rw [H.out]
 rintro e w' ⟨rfl, rfl⟩
 go_wp2
 go_ret
 exact ⟨_, [], rfl, ⟨_, 0, 0, rfl, rfl, Nat.le_refl _, by simp, .inl ⟨rfl, rfl⟩⟩, New.nil _ _, below_alloc _ _⟩
theorem sAdrBurst_any (a m : Int) (wr : Bool) (w : World) :
 Calls Try.prog 51 #[.int .i64 a, .int .i64 m, .bool wr] w fun e w' => ∃ v fp, e = .returned v ∧ IntS w' (adrBurst a m wr) v fp ∧ New fp w w' ∧ Below w.heap.size w w' := by
 cases h : adrOk a m wr
 · have e : adrBurst a m wr = [] := by unfold adrBurst; rw [if_neg (by simp [h])]
   rw [e]
   exact sAdrBurst_no a m wr h w
 · obtain ⟨_, _, hm, _⟩ := adrOk_true.1 h
   obtain ⟨n, rfl⟩ := Int.eq_ofNat_of_zero_le (show 0 <= m by omega)
   have e : adrBurst a n wr = burst a n wr := by unfold adrBurst; rw [if_pos h]; rfl
   rw [e]
   cases wr
   · exact sAdrBurst_false a n h w
   · exact sAdrBurst_true a n h w
theorem bval_in (a : Int) (m : Nat) (wr : Bool) (h : adrOk a m wr = true) (i : Nat) (hi : i < m) : 0 <= bval a m wr i ∧ bval a m wr i <= 63 := by
 obtain ⟨a0, a1, hm, hw⟩ := adrOk_true.1 h
 unfold bval
 cases wr
 · simp only [Bool.false_eq_true, if_false, false_or] at hw ⊢
   omega
 · simp only [if_true]
   have hm' : m = 1 ∨ m = 2 ∨ m = 4 := by omega
   rcases hm' with rfl | rfl | rfl <;> simp <;> omega
theorem burst_at (a : Int) (m : Nat) (wr : Bool) (i : Nat) (hi : i < (burst a m wr).length) : (burst a m wr)[i] = bval a m wr i := by simp [burst]
theorem burst_len (a : Int) (m : Nat) (wr : Bool) : (burst a m wr).length = m := by simp [burst]
end Go.Proofs.Ytmcjklicepaiaaa
