/-
 Texts of this claim laid together: ReqOk Push.
-/
import Derived.Test.YtaeiddoccfaheaaGreatProg
import Derived.Test.YtaeiddoccfaheaaGreatPk04
import Derived.Test.YtaeiddoccfaheaaGreatPk05
import Derived.Test.YtaeiddoccfaheaaGreatPk07
import Derived.Test.YtaeiddoccfaheaaGreatPk10
import Derived.WalkSmall
import Derived.OwnWalk
set_option linter.unusedVariables false
set_option linter.unusedSimpArgs false
namespace Go.Proofs.YtaeiddoccfaheaaGreat
open Go.RowKit
def writesB (x : Req) : Bool := x.kind == 2 || x.kind == 4
def manyOf (x : Req) : Int := if writesB x then x.many else 0
def reqOk (x : Req) : Bool :=
 inB x.id 0 1 && (inB x.kind 1 4 && (adrOk x.addr x.many x.wrap && (((x.data.length : Int) == manyOf x) && (((x.lanes.length : Int) == manyOf x) && (allIn x.data 0 65535 && (allIn x.lanes 0 3 && (x.kind == 1 || x.kind == 2 || x.many == 1)))))))
def noLane (n : Int) : Bool := !inB n 0 3
theorem noLane_any (n : Int) (w : World) : Calls Tryz.prog 98 #[.int .i64 n] w fun e w' => e = .returned (.bool (noLane n)) ∧ Below w.heap.size w w' := by
 go_enter Tryz.func98, Tryz.ntmps98
 go_wp2_with fail
 refine (in_any _ _ _ _).mono ?_
 rintro e w' ⟨rfl, rfl⟩
 go_wp2
 go_ret
 exact ⟨rfl, Below.refl _ _⟩
theorem indexLane  (v : Value) (l : List Int) (fp : List Nat) (w : World)  (g : SlR 1 intR w l v fp) :
 Calls Tryz.prog 93 #[v, .func (.func 98) #[] #[]] w fun e w' => e = .returned (.int .i64 (idxOf noLane l)) ∧ Below w.heap.size w w' := by
 obtain ⟨a, n, c, rfl, hn, hcap, hmax, hcm, r⟩ := g.opened
 have G := Lib.hid g
 clear g
 go_enter Tryz.func93, Tryz.ntmps93
 go_wp2_with fail
 go_loopw [8] (fun i wr => ∃ k : Nat, k <= n ∧ i = .int .i64 k ∧ (∀ j (h : j < l.length), j < k -> noLane l[j] = false) ∧ Below w.heap.size w wr) (fun i _ => n - (intOf i).toNat)
 case atStart => exact ⟨0, Nat.zero_le _, rfl, fun j _ h => absurd h (Nat.not_lt_zero j), Below.refl _ _⟩
 case round =>
  obtain ⟨k, hk, rfl, hp, hb⟩ := hrel
  have HP := Lib.hid hp
  have HB := Lib.hid hb
  clear hp
  by_cases hlt : k < n
  · obtain ⟨i1, b1, o1, f1, cs, rfl, hb1, hbf, hff, hR, e1⟩ := r k hlt
    have HR := Lib.hid hR
    obtain ⟨rfl, rfl⟩ := hR
    have c0 := (hb.cell (p := ⟨b1, o1 + k * 1 + 0, none⟩) hb1).trans (e1 0 (by simp))
    simp only [Nat.mul_one, Nat.add_zero, List.getElem_cons_zero] at c0
    clear r e1 hb hbf hff
    go_wp2_with fail
    refine (noLane_any l[k] _).mono ?_
    rintro e w2 ⟨rfl, b2⟩
    have HB2 := Lib.hid (HB.out.trans (b2.mono HB.out.size))
    clear b2 c0
    cases hq : noLane l[k]
    · have HQ := Lib.hid hq
      clear hq
      go_wp2
      go_roundw
      case rel => exact ⟨k + 1, by omega, by go_num, fun j h hj => (by
       by_cases e : j = k
       · subst e; exact HQ.out
       · exact HP.out j h (by omega)), HB2.out⟩
      case measure => simp [intOf]; omega
    · have HQ := Lib.hid hq
      clear hq
      go_wp2
      go_ret
      exact ⟨ret_int (idxOf_hit i1 HQ.out (fun j h hj => HP.out j h hj)).symm, HB2.out⟩
  · clear r hb
    go_wp2
    go_ret
    exact ⟨ret_int (idxOf_none (fun j h => HP.out j h (by rw [hn.out] at h; omega))).symm, HB.out⟩
theorem containsLane  (v : Value) (l : List Int) (fp : List Nat) (w : World)  (g : SlR 1 intR w l v fp) :
 Calls Tryz.prog 60 #[v, .func (.func 98) #[] #[]] w fun e w' => e = .returned (.bool (l.any noLane)) ∧ Below w.heap.size w w' := by
 go_enter Tryz.func60, Tryz.ntmps60
 go_wp2_with fail
 refine (indexLane  v l fp _  g).mono ?_
 rintro e w' ⟨rfl, hb⟩
 have HB := Lib.hid hb
 clear hb
 cases hq : decide (0 <= idxOf noLane l)
 all_goals
  go_wp2
  go_ret
  exact ⟨ret_bool (by rw [<- idxOf_any, hq]), HB.out⟩
theorem lanes_eq (l : List Int) : l.any noLane = !allIn l 0 3 := by
 unfold allIn
 rw [List.all_eq_not_any_not]
 simp only [Bool.not_not]
 rfl
theorem writes_any (x : Req) (v0 v1 : Value) (w : World) :
 Calls Tryz.prog 72 #[.agg #[.int .i64 x.id, .int .i64 x.kind, .int .i64 x.addr, .int .i64 x.many, .bool x.wrap, v0, v1]] w fun e w' => e = .returned (.bool (writesB x)) ∧ Below w.heap.size w w' := by
 have HB := Lib.hid (below_alloc w (.cells #[.int .i64 x.id, .int .i64 x.kind, .int .i64 x.addr, .int .i64 x.many, .bool x.wrap, v0, v1] 67))
 have HW : Hid (writesB x = (x.kind == 2 || x.kind == 4)) := Lib.hid rfl
 cases q2 : x.kind == 2
 all_goals cases q4 : x.kind == 4
 all_goals
  have Q2 := Lib.hid q2
  have Q4 := Lib.hid q4
  go_enter Tryz.func72, Tryz.ntmps72
  go_wp2
  go_ret
  exact ⟨ret_bool (by rw [HW.out, Q2.out, Q4.out]; rfl), HB.out⟩
theorem l3Writes_any (x : Req) (v0 v1 : Value) (w : World) :
 Calls Tryz.prog 83 #[.agg #[.int .i64 x.id, .int .i64 x.kind, .int .i64 x.addr, .int .i64 x.many, .bool x.wrap, v0, v1]] w fun e w' => e = .returned (.bool (writesB x)) ∧ Below w.heap.size w w' := by
 have HB := Lib.hid (below_alloc w (.cells #[.int .i64 x.id, .int .i64 x.kind, .int .i64 x.addr, .int .i64 x.many, .bool x.wrap, v0, v1] 67))
 have HW : Hid (writesB x = (x.kind == 2 || x.kind == 4)) := Lib.hid rfl
 cases q2 : x.kind == 2
 all_goals cases q4 : x.kind == 4
 all_goals
  have Q2 := Lib.hid q2
  have Q4 := Lib.hid q4
  go_enter Tryz.func83, Tryz.ntmps83
  go_wp2
  go_ret
  exact ⟨ret_bool (by rw [HW.out, Q2.out, Q4.out]; rfl), HB.out⟩
theorem reqOk_of {x : Req} {n0 n1 : Nat} {m : Int} (h0 : x.data.length = n0) (h1 : x.lanes.length = n1) (hm : manyOf x = m) :
 reqOk x = (inB x.id 0 1 && (inB x.kind 1 4 && (adrOk x.addr x.many x.wrap && (((n0 : Int) == m) && (((n1 : Int) == m) && (allIn x.data 0 65535 && (allIn x.lanes 0 3 && (x.kind == 1 || x.kind == 2 || x.many == 1)))))))) := by
 subst h0 h1 hm; rfl
set_option maxRecDepth 100000 in
set_option maxHeartbeats 6400000 in
theorem iReqOk_any (x : Req) (v0 v1 : Value) (fp0 fp1 : List Nat) (w : World) (g0 : SlR 1 intR w x.data v0 fp0) (g1 : SlR 1 intR w x.lanes v1 fp1) :
 Calls Tryz.prog 67 #[.agg #[.int .i64 x.id, .int .i64 x.kind, .int .i64 x.addr, .int .i64 x.many, .bool x.wrap, v0, v1]] w fun e w' => e = .returned (.bool (reqOk x)) ∧ Below w.heap.size w w' := by
 obtain ⟨id, kind, addr, many, wrap, data, lanes⟩ := x
 have hb := below_alloc w (.cells #[.int .i64 id, .int .i64 kind, .int .i64 addr, .int .i64 many, .bool wrap, v0, v1] 67)
 have G0 := Lib.hid (SlR.below intR_fits g0 hb)
 have G1 := Lib.hid (SlR.below intR_fits g1 hb)
 have B := Lib.hid hb
 obtain ⟨a0, n0, c0, rfl, hn0, _, _, _, _⟩ := g0.opened
 obtain ⟨a1, n1, c1, rfl, hn1, _, _, _, _⟩ := g1.opened
 have HO := Lib.hid (fun m => reqOk_of (x := ⟨id, kind, addr, many, wrap, data, lanes⟩) (m := m) hn0.out hn1.out)
 dsimp only at G0 G1
 clear hb g0 g1 hn0 hn1
 have HBox : Hid (∀ j v, (#[.int .i64 id, .int .i64 kind, .int .i64 addr, .int .i64 many, .bool wrap, .slice a0 n0 c0, .slice a1 n1 c1] : Array Value)[j]? = some v -> (w.alloc (.cells #[.int .i64 id, .int .i64 kind, .int .i64 addr, .int .i64 many, .bool wrap, .slice a0 n0 c0, .slice a1 n1 c1] 67)).cell? ⟨w.heap.size, j, none⟩ = some v) := Lib.hid (fun j v h => alloc1_new w _ _ j h)
 cases qw : writesB ⟨id, kind, addr, many, wrap, data, lanes⟩
 all_goals
  have HM : Hid (∃ m : Int, manyOf ⟨id, kind, addr, many, wrap, data, lanes⟩ = m ∧ m = if writesB ⟨id, kind, addr, many, wrap, data, lanes⟩ then many else 0) := Lib.hid ⟨_, rfl, rfl⟩
  obtain ⟨m, hm, hm'⟩ := HM.out
  rw [qw] at hm'
  simp only [if_true, Bool.false_eq_true, if_false] at hm'
  have QW := Lib.hid qw
  have HO2 := Lib.hid (HO.out m hm)
  clear hm qw HM HO
 case' false =>
  subst hm'
  by_cases e0 : n0 = 0
  case' neg => have q0 : ((n0 : Int) == 0) = false := by simpa using e0
  case' pos =>
   obtain rfl := e0
   by_cases e1 : n1 = 0
   case' neg => have q1 : ((n1 : Int) == 0) = false := by simpa using e1
   case' pos => obtain rfl := e1
 case' true =>
  obtain rfl : many = m := hm'.symm
  by_cases e0 : many = n0
  case' neg => have q0 : ((n0 : Int) == many) = false := by simpa using fun h => e0 h.symm
  case' pos =>
   obtain rfl := e0
   by_cases e1 : n1 = n0
   case' neg => have q1 : ((n1 : Int) == (n0 : Int)) = false := by rw [beq_eq_false_iff_ne]; omega
   case' pos => obtain rfl := e1
 all_goals (try have E0 := Lib.hid e0; clear e0)
 all_goals (try have E1 := Lib.hid e1; clear e1)
 all_goals
  go_enter Tryz.func67, Tryz.ntmps67
  go_wp2_with fail
  refine (writes_any ⟨id, kind, addr, _, wrap, data, lanes⟩ _ _ _).mono ?_
  rw [QW.out]
  rintro e w1 ⟨rfl, b⟩
  replace G0 := Lib.hid (SlR.below intR_fits G0.out b)
  replace G1 := Lib.hid (SlR.below intR_fits G1.out b)
  have X0 := keep_cell b (HBox.out 0 _ rfl)
  have X1 := keep_cell b (HBox.out 1 _ rfl)
  have X2 := keep_cell b (HBox.out 2 _ rfl)
  have X3 := keep_cell b (HBox.out 3 _ rfl)
  have X4 := keep_cell b (HBox.out 4 _ rfl)
  have X5 := keep_cell b (HBox.out 5 _ rfl)
  have X6 := keep_cell b (HBox.out 6 _ rfl)
  replace B := Lib.hid (B.out.trans (b.mono B.out.size))
  clear b HBox
  go_wp2_with (first
   | (go_at_call 62; refine (in_any _ _ _ _).mono ?_; rintro e w' ⟨rfl, rfl⟩)
   | (go_at_call 96; refine (iAdrOk_any _ _ _ _).mono ?_; rintro e w' ⟨rfl, rfl⟩)
   | (go_at_call 97; refine (areWords_any _ data fp0 _ G0.out).mono ?_; rintro e w2 ⟨rfl, b⟩; rw [wordsB_eq]; replace G1 := Lib.hid (SlR.below intR_fits G1.out b); replace X1 := keep_cell b X1; replace X3 := keep_cell b X3; replace X6 := keep_cell b X6; replace B := Lib.hid (B.out.trans (b.mono B.out.size)); clear b)
   | (go_at_call 60; refine (containsLane _ lanes fp1 _ G1.out).mono ?_; rintro e w2 ⟨rfl, b⟩; rw [lanes_eq]; replace X1 := keep_cell b X1; replace X3 := keep_cell b X3; replace B := Lib.hid (B.out.trans (b.mono B.out.size)); clear b))
  all_goals go_ret
  all_goals refine ⟨ret_bool ?_, B.out⟩
  all_goals rw [HO2.out]
  all_goals first | (simp [*]; done) | (simp [*] at *; omega) | trace_state
theorem reqOk_spec {x : Req} {n0 n1 : Nat} (h0 : x.data.length = n0) (h1 : x.lanes.length = n1) :
 reqOk x = (inB x.id 0 1 && (inB x.kind 1 4 && (adrOk x.addr x.many x.wrap && (!(decide (3 <= x.kind) && (x.many != 1)) &&
  (if writesB x then ((n0 : Int) == x.many) && (((n1 : Int) == x.many) && (allIn x.data 0 65535 && allIn x.lanes 0 3)) else ((n0 : Int) == 0) && ((n1 : Int) == 0)))))) := by
 rw [reqOk_of h0 h1 rfl]
 obtain ⟨id, kind, addr, many, wrap, data, lanes⟩ := x
 unfold manyOf writesB
 dsimp only
 cases inB id 0 1
 · simp
 cases hk : inB kind 1 4
 · simp
 have hk' := inB_true.1 hk
 cases adrOk addr many wrap
 · simp
 simp only [Bool.true_and]
 have hkind : kind = 1 ∨ kind = 2 ∨ kind = 3 ∨ kind = 4 := by omega
 have hd0 : n0 = 0 -> allIn data 0 65535 = true := fun h => by
  have : data = [] := List.eq_nil_of_length_eq_zero (by simpa [h] using h0)
  subst this; rfl
 have hl0 : n1 = 0 -> allIn lanes 0 3 = true := fun h => by
  have : lanes = [] := List.eq_nil_of_length_eq_zero (by simpa [h] using h1)
  subst this; rfl
 rcases hkind with rfl | rfl | rfl | rfl
 all_goals cases hM : (many == 1)
 all_goals cases hA : ((n0 : Int) == 0)
 all_goals cases hB : ((n1 : Int) == 0)
 all_goals (try have hd1 := hd0 (by have := eq_of_beq hA; omega))
 all_goals (try have hl1 := hl0 (by have := eq_of_beq hB; omega))
 all_goals (simp only [bne, hM]; simp [*]; done)
set_option maxRecDepth 100000 in
set_option maxHeartbeats 6400000 in
theorem sReqOk_any (x : Req) (v0 v1 : Value) (fp0 fp1 : List Nat) (w : World) (g0 : SlR 1 intR w x.data v0 fp0) (g1 : SlR 1 intR w x.lanes v1 fp1) :
    Calls Tryz.prog 54 #[.agg #[.int .i64 x.id, .int .i64 x.kind, .int .i64 x.addr, .int .i64 x.many, .bool x.wrap, v0, v1]] w fun e w' => e = .returned (.bool (reqOk x)) ∧ Below w.heap.size w w' := by
  obtain ⟨id, kind, addr, many, wrap, data, lanes⟩ := x
  have hb := below_alloc w (.cells #[.int .i64 id, .int .i64 kind, .int .i64 addr, .int .i64 many, .bool wrap, v0, v1] 67)
  have G0 := Lib.hid (SlR.below intR_fits g0 hb)
  have G1 := Lib.hid (SlR.below intR_fits g1 hb)
  have B := Lib.hid hb
  obtain ⟨a0, n0, c0, rfl, hn0, _, _, _, _⟩ := g0.opened
  obtain ⟨a1, n1, c1, rfl, hn1, _, _, _, _⟩ := g1.opened
  have HO := Lib.hid (reqOk_spec (x := ⟨id, kind, addr, many, wrap, data, lanes⟩) hn0.out hn1.out)
  dsimp only at G0 G1
  clear hb g0 g1 hn0 hn1
  have HBox : Hid (∀ j v, (#[.int .i64 id, .int .i64 kind, .int .i64 addr, .int .i64 many, .bool wrap, .slice a0 n0 c0, .slice a1 n1 c1] : Array Value)[j]? = some v -> (w.alloc (.cells #[.int .i64 id, .int .i64 kind, .int .i64 addr, .int .i64 many, .bool wrap, .slice a0 n0 c0, .slice a1 n1 c1] 67)).cell? ⟨w.heap.size, j, none⟩ = some v) := Lib.hid (fun j v h => alloc1_new w _ _ j h)
  cases qw : writesB ⟨id, kind, addr, many, wrap, data, lanes⟩
  case' false =>
    have QW := Lib.hid qw
    clear qw
    by_cases e0 : n0 = 0
    case' neg => have q0 : ((n0 : Int) == 0) = false := by simpa using e0
    case' pos =>
      obtain rfl := e0
      by_cases e1 : n1 = 0
      case' neg => have q1 : ((n1 : Int) == 0) = false := by simpa using e1
      case' pos => obtain rfl := e1
  case' true =>
    have QW := Lib.hid qw
    clear qw
    by_cases e0 : many = n0
    case' neg => have q0 : ((n0 : Int) == many) = false := by simpa using fun h => e0 h.symm
    case' pos =>
      obtain rfl := e0
      by_cases e1 : n1 = n0
      case' neg => have q1 : ((n1 : Int) == (n0 : Int)) = false := by rw [beq_eq_false_iff_ne]; omega
      case' pos => obtain rfl := e1
  all_goals (try have E0 := Lib.hid e0; clear e0)
  all_goals (try have E1 := Lib.hid e1; clear e1)
  all_goals
    go_enter Tryz.func54, Tryz.ntmps54
    go_wp2_with (first
      | (go_at_call 25; refine (l1In_any _ _ _ _).mono ?_; rintro e w' ⟨rfl, rfl⟩)
      | (go_at_call 82; refine (sAdrOk_any _ _ _ _).mono ?_; rintro e w' ⟨rfl, rfl⟩)
      | (go_at_call 83; refine (l3Writes_any ⟨id, kind, addr, _, wrap, data, lanes⟩ _ _ _).mono ?_; rw [QW.out]; rintro e w1 ⟨rfl, b⟩; replace G0 := Lib.hid (SlR.below intR_fits G0.out b); replace G1 := Lib.hid (SlR.below intR_fits G1.out b); have X3 := keep_cell b (HBox.out 3 _ rfl); have X5 := keep_cell b (HBox.out 5 _ rfl); have X6 := keep_cell b (HBox.out 6 _ rfl); replace B := Lib.hid (B.out.trans (b.mono B.out.size)); clear b)
      | (go_at_call 50; first
          | ((with_reducible refine (l3All_any _ data fp0 0 65535 _ G0.out).mono ?_); rintro e w2 ⟨rfl, rfl⟩)
          | ((with_reducible refine (l3All_any _ lanes fp1 0 3 _ G1.out).mono ?_); rintro e w2 ⟨rfl, rfl⟩)))
    all_goals go_ret
    all_goals refine ⟨ret_bool ?_, B.out⟩
    all_goals rw [HO.out, QW.out]
    all_goals clear HBox G0 G1 B
    all_goals (try simp only [Bool.not_eq_true', Bool.not_eq_false'] at *)
    all_goals (try have hk' := decide_eq_false (show ¬ 3 <= kind by omega))
    all_goals first | (simp [*]; done) | trace_state
end Go.Proofs.YtaeiddoccfaheaaGreat
namespace Go.Proofs.YtaeiddoccfaheaaGreat
open Go.RowKit Go.WideShapes
variable {P : Program}
theorem wpList_push {ops : Array Oper} {rest : List Oper} {o : Oper} {a : Act} {Q : Exit -> Act -> World -> Prop} {w : World} {W : World} {base n : Nat} {v : Value} {xs : List Value} {news : List Value}
 (hgd : o.guard = none) (s x : Operand) (t e : TypeId) (i : TypeInfo) (z : Value) (size bytes : Nat) (T : TypeId)
 (ho : o.op = .call { callee := .builtin .append, args := #[s, x], argTypes := #[t, t] })
 (ht : P.underlying t = some (.slice e)) (hi : P.info? e = some i) (hz : i.zero = some z) (hsize : i.size = size) (hby : i.bytes = bytes) (hzs : z.cells.size = size) (hsz : 0 < size) (hb8 : bytes <= 64)
 (hs : a.eval s = v) (hx : a.eval x = .slice (some ⟨w.heap.size, 0, none⟩) 1 1) (hown : w.ownsRow base e size v n xs) (hl : news.length = size) (h1 : ∀ u ∈ news, u.oneCell' = true)
 (hn : n <= 2000000) (hbel : Below W.heap.size W w) (hW : W.heap.size <= base) (hbase : base <= w.heap.size)
 (h : ∀ v' w', w'.ownsRow base e size v' (n + 1) (xs ++ news) -> Below W.heap.size W w' -> w.heap.size <= w'.heap.size -> w.grownBy w' v.ownBlock -> wpList P ops Q rest (a.put o.dst v') w') :
 wpList P ops Q (o :: rest) a (w.alloc (.cells news.toArray T)) := by
 refine wpList_append_own _ hgd s x t ho base e i z size bytes ht hi hz hsize hby hzs hsz v n xs hs (hown.alloc _) ⟨w.heap.size, 0, none⟩ 1 1 news hx (by simpa using hl) ?_ h1 (by unfold maxLen; omega) ?_ (by simp; omega) ?_
 · intro j u hj
   rw [add_plain, Nat.zero_add]
   exact alloc1_new w _ _ j (by simpa using hj)
 · have : (n + 1) * bytes <= 2000001 * 64 := Nat.mul_le_mul (by omega) hb8
   omega
 · intro v' w' hown' hgr _
   have hz1 : w.heap.size <= w'.heap.size := by have := hgr.size; simp at this; omega
   have hg' : w.grownBy w' v.ownBlock := ⟨hgr.os, hgr.tape, hgr.output, hz1, fun k hk hne => (hgr.block k (by simp; omega) hne).trans (Below.heap_alloc _ _ _ hk)⟩
   exact h v' w' hown' (hbel.grown hg' hbel.size (fun k hk => by have := (hown.lt k hk).1; omega)) hz1 hg'
end Go.Proofs.YtaeiddoccfaheaaGreat
