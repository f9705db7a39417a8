/-
 Texts of this claim laid together: AtmOk Facts3 Apart OrdP OwnQ.
-/
import Derived.Test.YtmcjklicepaiaaaProg
import Derived.Test.YtmcjklicepaiaaaPk01
import Derived.Test.YtmcjklicepaiaaaPk04
import Derived.Test.YtmcjklicepaiaaaPk16
import Derived.WalkSmall
import Derived.Test.YtmcjklicepaiaaaPk03
import Derived.Test.YtmcjklicepaiaaaPk37
import Derived.Test.YtmcjklicepaiaaaPk07
import Derived.StillTailTactics
import Derived.Test.YtmcjklicepaiaaaPk24
import Derived.Test.YtmcjklicepaiaaaPk21
set_option linter.unusedVariables false
set_option linter.unusedSimpArgs false
namespace Go.Proofs.Ytmcjklicepaiaaa
open Go.RowKit
def atmOk (x : Atm) : Bool := memOk x.mem && (decide (x.holds.length = 6) && allIn x.holds (-1) 63)
def noHold (n : Int) : Bool := !inB n (-1) 63
theorem noHold_any (n : Int) (w : World) : Calls Try.prog 96 #[.int .i64 n] w fun e w' => e = .returned (.bool (noHold n)) ∧ Below w.heap.size w w' := by
 go_enter Try.func96, Try.ntmps96
 go_wp2_with fail
 refine (in_any _ _ _ _).mono ?_
 rintro e w' ⟨rfl, rfl⟩
 go_wp2
 go_ret
 exact ⟨rfl, Below.refl _ _⟩
theorem indexHold  (v : Value) (l : List Int) (fp : List Nat) (w : World)  (g : SlR 1 intR w l v fp) :
 Calls Try.prog 108 #[v, .func (.func 96) #[] #[]] w fun e w' => e = .returned (.int .i64 (idxOf noHold l)) ∧ Below w.heap.size w w' := by
 obtain ⟨a, n, c, rfl, hn, hcap, hmax, hcm, r⟩ := g.opened
 have G := Lib.hid g
 clear g
 go_enter Try.func108, Try.ntmps108
 go_wp2_with fail
 go_loopw [8] (fun i wr => ∃ k : Nat, k <= n ∧ i = .int .i64 k ∧ (∀ j (h : j < l.length), j < k -> noHold l[j] = false) ∧ Below w.heap.size w wr) (fun i _ => n - (intOf i).toNat)
 case atStart => exact ⟨0, Nat.zero_le _, rfl, fun j _ h => absurd h (Nat.not_lt_zero j), Below.refl _ _⟩
 case round =>
  obtain ⟨k, hk, rfl, hp, hb⟩ := hrel
  have HP := Lib.hid hp
  have HB := Lib.hid hb
  clear hp
  by_cases hlt : k < n
  · obtain ⟨i1, b1, o1, f1, cs, rfl, hb1, hbf, hff, hR, e1⟩ := r k hlt
    have HR := Lib.hid hR
    obtain ⟨rfl, rfl⟩ := hR
    have c0 := (hb.cell (p := ⟨b1, o1 + k * 1 + 0, none⟩) hb1).trans (e1 0 (by simp))
    simp only [Nat.mul_one, Nat.add_zero, List.getElem_cons_zero] at c0
    clear r e1 hb hbf hff
    go_wp2_with fail
    refine (noHold_any l[k] _).mono ?_
    rintro e w2 ⟨rfl, b2⟩
    have HB2 := Lib.hid (HB.out.trans (b2.mono HB.out.size))
    clear b2 c0
    cases hq : noHold l[k]
    · have HQ := Lib.hid hq
      clear hq
      go_wp2
      go_roundw
      case rel => exact ⟨k + 1, by omega, by go_num, fun j h hj => (by
       by_cases e : j = k
       · subst e; exact HQ.out
       · exact HP.out j h (by omega)), HB2.out⟩
      case measure => simp [intOf]; omega
    · have HQ := Lib.hid hq
      clear hq
      go_wp2
      go_ret
      exact ⟨ret_int (idxOf_hit i1 HQ.out (fun j h hj => HP.out j h hj)).symm, HB2.out⟩
  · clear r hb
    go_wp2
    go_ret
    exact ⟨ret_int (idxOf_none (fun j h => HP.out j h (by rw [hn.out] at h; omega))).symm, HB.out⟩
theorem containsHold  (v : Value) (l : List Int) (fp : List Nat) (w : World)  (g : SlR 1 intR w l v fp) :
 Calls Try.prog 58 #[v, .func (.func 96) #[] #[]] w fun e w' => e = .returned (.bool (l.any noHold)) ∧ Below w.heap.size w w' := by
 go_enter Try.func58, Try.ntmps58
 go_wp2_with fail
 refine (indexHold  v l fp _  g).mono ?_
 rintro e w' ⟨rfl, hb⟩
 have HB := Lib.hid hb
 clear hb
 cases hq : decide (0 <= idxOf noHold l)
 all_goals
  go_wp2
  go_ret
  exact ⟨ret_bool (by rw [<- idxOf_any, hq]), HB.out⟩
theorem holds_eq (l : List Int) : l.any noHold = !allIn l (-1) 63 := by
 unfold allIn
 rw [List.all_eq_not_any_not]
 simp only [Bool.not_not]
 rfl
theorem sAtmOk_any (x : Atm) (v0 v1 : Value) (fp0 fp1 : List Nat) (w : World) (g0 : SlR 1 intR w x.mem v0 fp0) (g1 : SlR 1 intR w x.holds v1 fp1) :
 Calls Try.prog 84 #[.agg #[v0, v1]] w fun e w' => e = .returned (.bool (atmOk x)) ∧ Below w.heap.size w w' := by
 have hb := below_alloc w (.cells #[v0, v1] 68)
 have G0 := Lib.hid (SlR.below intR_fits g0 hb)
 have G1 := Lib.hid (SlR.below intR_fits g1 hb)
 have B := Lib.hid hb
 obtain ⟨a1, n1, c1, rfl, hn1, _, _, _, _⟩ := g1.opened
 have HN := Lib.hid (show decide (x.holds.length = 6) = ((n1 : Int) == 6) by rw [hn1.out, Bool.eq_iff_iff]; simp; omega)
 clear hb g0 g1 hn1
 cases q0 : memOk x.mem
 all_goals cases q1 : ((n1 : Int) == 6)
 all_goals
  have Q0 := Lib.hid q0
  have Q1 := Lib.hid q1
  clear q0
  go_enter Try.func84, Try.ntmps84
  go_wp2_with (first
   | (go_at_call 126; refine (sMemOk_any _ x.mem fp0 _ G0.out).mono ?_; rw [Q0.out]; rintro e w2 ⟨rfl, b⟩; replace G1 := Lib.hid (SlR.below intR_fits G1.out b); have X1 := keep_cell b (alloc1_new w _ _ 1 rfl); replace B := Lib.hid (B.out.trans (b.mono B.out.size)); clear b)
   | (go_at_call 64; refine (l3All_any _ x.holds fp1 _ _ _ G1.out).mono ?_; rintro e w2 ⟨rfl, rfl⟩))
  all_goals go_ret
  all_goals refine ⟨ret_bool ?_, B.out⟩
  all_goals unfold atmOk
  all_goals rw [HN.out, Q0.out, Q1.out]
  all_goals (simp; done)
theorem iAtmOk_any (x : Atm) (v0 v1 : Value) (fp0 fp1 : List Nat) (w : World) (g0 : SlR 1 intR w x.mem v0 fp0) (g1 : SlR 1 intR w x.holds v1 fp1) :
 Calls Try.prog 42 #[.agg #[v0, v1]] w fun e w' => e = .returned (.bool (atmOk x)) ∧ Below w.heap.size w w' := by
 have hb := below_alloc w (.cells #[v0, v1] 68)
 have G0 := Lib.hid (SlR.below intR_fits g0 hb)
 have G1 := Lib.hid (SlR.below intR_fits g1 hb)
 have B := Lib.hid hb
 obtain ⟨a1, n1, c1, rfl, hn1, _, _, _, _⟩ := g1.opened
 have HN := Lib.hid (show decide (x.holds.length = 6) = ((n1 : Int) == 6) by rw [hn1.out, Bool.eq_iff_iff]; simp; omega)
 clear hb g0 g1 hn1
 cases q0 : memOk x.mem
 all_goals cases q1 : ((n1 : Int) == 6)
 all_goals cases q2 : allIn x.holds (-1) 63
 all_goals
  have Q0 := Lib.hid q0
  have Q1 := Lib.hid q1
  have Q2 := Lib.hid q2
  clear q0 q2
  go_enter Try.func42, Try.ntmps42
  go_wp2_with (first
   | (go_at_call 95; refine (iMemOk_any _ x.mem fp0 _ G0.out).mono ?_; rw [Q0.out]; rintro e w2 ⟨rfl, b⟩; replace G1 := Lib.hid (SlR.below intR_fits G1.out b); have X1 := keep_cell b (alloc1_new w _ _ 1 rfl); replace B := Lib.hid (B.out.trans (b.mono B.out.size)); clear b)
   | (go_at_call 58; refine (containsHold _ x.holds fp1 _ G1.out).mono ?_; rw [holds_eq, Q2.out]; rintro e w2 ⟨rfl, b⟩; replace B := Lib.hid (B.out.trans (b.mono B.out.size)); clear b))
  all_goals go_ret
  all_goals refine ⟨ret_bool ?_, B.out⟩
  all_goals unfold atmOk
  all_goals rw [HN.out, Q0.out, Q1.out, Q2.out]
  all_goals rfl
end Go.Proofs.Ytmcjklicepaiaaa
namespace Go.Proofs.Ytmcjklicepaiaaa
open Go.RowKit
end Go.Proofs.Ytmcjklicepaiaaa
namespace Go.Proofs.Ytmcjklicepaiaaa
open Go.RowKit Go.ChangeShapes
def asksB (c : Bus) (who n : Int) : Bool := inB who 0 2 && inB n 0 ((((c.progs[who.toNat]?).getD []).length : Int) - 1)
def reqAt (c : Bus) (e : Ev) : Option Req := (c.progs[e.who.toNat]?).bind fun p => p[e.n.toNat]?
theorem busOk_progs {c : Bus} (h : busOk c = true) : c.progs.length = 3 := by
 unfold busOk at h
 simp only [Bool.and_eq_true, decide_eq_true_eq] at h
 omega
theorem asks_at {c : Bus} {who n : Int} (hl : c.progs.length = 3) (h : asksB c who n = true) : ∃ (k i : Nat) (hk : k < c.progs.length) (_ : i < c.progs[k].length), who = k ∧ n = i := by
 unfold asksB at h
 simp only [Bool.and_eq_true] at h
 obtain ⟨h1, h2⟩ := h
 have h1 := inB_true.1 h1
 have h2 := inB_true.1 h2
 obtain ⟨k, rfl⟩ := Int.eq_ofNat_of_zero_le h1.1
 obtain ⟨i, rfl⟩ := Int.eq_ofNat_of_zero_le h2.1
 have hk : k < c.progs.length := by omega
 refine ⟨k, i, hk, ?_, rfl, rfl⟩
 have e : (c.progs[((k : Nat) : Int).toNat]?).getD [] = c.progs[k] := by simp [hk]
 rw [e] at h2
 omega
theorem asks_of {c : Bus} {k : Nat} (n : Int) (hl : c.progs.length = 3) (hk : k < c.progs.length) : asksB c k n = inB n 0 ((c.progs[k].length : Int) - 1) := by
 unfold asksB
 have e : (c.progs[((k : Nat) : Int).toNat]?).getD [] = c.progs[k] := by simp [hk]
 rw [e, inB_true.2 (by omega : (0:Int) <= k ∧ (k:Int) <= 2)]
 rfl
theorem asks_no {c : Bus} {who : Int} (n : Int) (h : inB who 0 2 = false) : asksB c who n = false := by
 unfold asksB
 rw [h]
 rfl
theorem reqAt_at {c : Bus} {kd : Int} {k i : Nat} (hk : k < c.progs.length) (hi : i < c.progs[k].length) : reqAt c ⟨kd, k, i⟩ = some c.progs[k][i] := by
 unfold reqAt
 simp [hk, hi]
set_option maxRecDepth 100000 in
theorem iAsks_any (c : Bus) (who n : Int) (v0 v1 v2 : Value) (fp2 : List Nat) (hl : c.progs.length = 3) (w : World) (g2 : SlR 1 (slR 7 reqR) w c.progs v2 fp2) :
 Calls Try.prog 89 #[.agg #[v0, v1, v2], .int .i64 who, .int .i64 n] w fun e w' => e = .returned (.bool (asksB c who n)) ∧ Below w.heap.size w w' := by
 have hb := below_alloc w (.cells #[v0, v1, v2] 38)
 have B := Lib.hid hb
 cases q0 : inB who 0 2
 · have Q0 := Lib.hid q0
   clear q0
   go_enter Try.func89, Try.ntmps89
   go_wp2_with fail
   refine (isMaster_any _ _).mono ?_
   rw [Q0.out]
   rintro e w' ⟨rfl, rfl⟩
   go_wp2
   go_ret
   exact ⟨ret_bool (asks_no n Q0.out).symm, B.out⟩
 · have h := inB_true.1 q0
   have Q0 := Lib.hid q0
   obtain ⟨k, rfl⟩ := Int.eq_ofNat_of_zero_le h.1
   have hk : k < c.progs.length := by omega
   obtain ⟨a2, n2, c2, rfl, hn2, _, _, _, r⟩ := (SlR.below (slR_fits reqR_fits) g2 hb).opened
   have hn3 : 3 = n2 := by rw [<- hn2.out, hl]
   subst hn3
   obtain ⟨i1, b1, o1, f1, cs, rfl, hb1, _, _, ⟨y, rfl, hy⟩, e1⟩ := r k (by omega)
   have c0 := e1 0 (by simp)
   simp only [Nat.mul_one, Nat.add_zero, List.getElem_cons_zero] at c0
   obtain ⟨a3, n3, c3, rfl, hn3, _, hm3, hcm3, _⟩ := hy.opened
   have HA := Lib.hid (asks_of n hl hk)
   rw [hn3.out] at HA
   have hk3 : (k : Int) < 3 := by omega
   clear q0 h r e1 g2 hb hy
   go_enter Try.func89, Try.ntmps89
   go_wp2_with fail
   refine (isMaster_any _ _).mono ?_
   rw [Q0.out]
   rintro e w' ⟨rfl, rfl⟩
   go_wp2_with fail
   refine (in_any _ _ _ _).mono ?_
   rintro e w' ⟨rfl, rfl⟩
   go_wp2
   go_ret
   exact ⟨ret_bool HA.out.symm, B.out⟩
theorem l1In_v {a b c : Int} {x : Bool} (h : inB a b c = x) (w : World) :
 Calls Try.prog 70 #[.int .i64 a, .int .i64 b, .int .i64 c] w fun e w' => e = .returned (.bool x) ∧ w' = w := by
 rw [<- h]; exact l1In_q a b c w
end Go.Proofs.Ytmcjklicepaiaaa
namespace Go.Proofs.Ytmcjklicepaiaaa
open Go.RowKit Go.ChangeShapes Go.WideShapes
def ordDo (c : Bus) (s : Atm × List Job) (e : Ev) (r : Req) : Atm × List Job :=
 (⟨(atmDo c.map s.1.mem s.1.holds e.who r).mem, (atmDo c.map s.1.mem s.1.holds e.who r).holds⟩, s.2 ++ [⟨e.who, e.n, ⟨r.id, (atmDo c.map s.1.mem s.1.holds e.who r).code, (atmDo c.map s.1.mem s.1.holds e.who r).data⟩⟩])
def ordStep (c : Bus) (s : Atm × List Job) (e : Ev) : Atm × List Job :=
 if e.kind = 2 ∧ asksB c e.who e.n = true then ordDo c s e ((reqAt c e).getD ⟨0, 0, 0, 0, false, [], []⟩) else s
def ordAll (c : Bus) (l : List Ev) : Atm × List Job := l.foldl (ordStep c) (atmNew, [])
def atmOrder (c : Bus) (l : List Ev) : Atm × List Job := if busOk c = true ∧ l.length <= 108 then ordAll c l else (⟨[], []⟩, [])
theorem ordAll_zero (c : Bus) (l : List Ev) : ordAll c (l.take 0) = (atmNew, []) := by simp [ordAll]
theorem ordAll_succ (c : Bus) {l : List Ev} {k : Nat} (h : k < l.length) : ordAll c (l.take (k + 1)) = ordStep c (ordAll c (l.take k)) l[k] := by
 unfold ordAll
 rw [List.take_succ_eq_append_getElem h, List.foldl_append]
 rfl
theorem ordStep_no {c : Bus} {s : Atm × List Job} {e : Ev} (h : ¬ (e.kind = 2 ∧ asksB c e.who e.n = true)) : ordStep c s e = s := if_neg h
theorem ordStep_yes {c : Bus} {s : Atm × List Job} {e : Ev} {k i : Nat} (h : e.kind = 2 ∧ asksB c e.who e.n = true) (hk : k < c.progs.length) (hi : i < c.progs[k].length) (ew : e.who = k) (en : e.n = i) : ordStep c s e = ordDo c s e c.progs[k][i] := by
 obtain ⟨kd, wh, n⟩ := e
 obtain rfl : wh = k := ew
 obtain rfl : n = i := en
 unfold ordStep
 rw [if_pos h, reqAt_at hk hi]
 rfl
theorem busOk_all {c : Bus} (h : busOk c = true) : c.progs.all progOk = true := by
 unfold busOk at h
 simp only [Bool.and_eq_true, decide_eq_true_eq] at h
 exact h.2.2.2.2
theorem busOk_mp {c : Bus} (h : busOk c = true) : mapOk c.map = true := by
 unfold busOk at h
 simp only [Bool.and_eq_true, decide_eq_true_eq] at h
 exact h.1
theorem busOk_rq {c : Bus} (h : busOk c = true) {k i : Nat} (hk : k < c.progs.length) (hi : i < c.progs[k].length) : reqOk c.progs[k][i] = true := by
 have h1 := List.all_eq_true.1 (busOk_all h) c.progs[k] (List.getElem_mem hk)
 unfold progOk at h1
 simp only [Bool.and_eq_true, decide_eq_true_eq] at h1
 exact List.all_eq_true.1 h1.2 _ (List.getElem_mem hi)
structure OrdOk (s : Atm × List Job) (k : Nat) : Prop where
 ml : s.1.mem.length = 64
 hl : s.1.holds.length = 6
 mw : ∀ n, n ∈ s.1.mem -> 0 <= n ∧ n <= 65535
 hw : ∀ n, n ∈ s.1.holds -> -1 <= n ∧ n <= 63
 jl : s.2.length <= k
 jd : ∀ j, j ∈ s.2 -> j.rsp.data.length <= 4
theorem allIn_of {l : List Int} {lo hi : Int} (h : ∀ n, n ∈ l -> lo <= n ∧ n <= hi) : allIn l lo hi = true := allIn_yes fun j hj => inB_true.2 (h _ (List.getElem_mem hj))
theorem OrdOk.ok {s : Atm × List Job} {k : Nat} (h : OrdOk s k) : atmOk s.1 = true := by
 unfold atmOk
 rw [memOk_at h.ml, allIn_of h.mw, allIn_of h.hw, h.hl]
 rfl
theorem OrdOk.new : OrdOk (atmNew, []) 0 :=
 ⟨by simp [atmNew], by simp [atmNew], fun n hn => by have := List.eq_of_mem_replicate hn; omega, fun n hn => by have := List.eq_of_mem_replicate hn; omega, Nat.le_refl _, fun j hj => by simp at hj⟩
theorem burstOf_len4 {r : Req} (h : ReqF r) : (burstOf r).length <= 4 := by
 cases e : adrOk r.addr r.many r.wrap
 · unfold burstOf adrBurst
   rw [if_neg (by simp [e])]
   simp
 · have := burstOf_len e
   have := h.many
   omega
theorem atmDo_data4 {l : List MR} {m h : List Int} {who : Int} {r : Req} (hr : ReqF r) : (atmDo l m h who r).data.length <= 4 := by
 have := burstOf_len4 hr
 unfold atmDo
 repeat' split
 all_goals first | (simp [l2get]; done) | (simp [l2get]; omega)
theorem atmDo_words {l : List MR} {m h : List Int} {who : Int} {r : Req} (hr : ReqF r) (hm : ∀ n, n ∈ m -> 0 <= n ∧ n <= 65535) : ∀ n, n ∈ (atmDo l m h who r).mem -> 0 <= n ∧ n <= 65535 := by
 unfold atmDo
 repeat' split
 all_goals first | exact hm | exact putTo_in hm hr.dat hr.lan _
theorem freeH_in {h ads : List Int} (hh : ∀ n, n ∈ h -> -1 <= n ∧ n <= 63) : ∀ n, n ∈ freeH h ads -> -1 <= n ∧ n <= 63 := fun n hn => by
 obtain ⟨x, hx, rfl⟩ := List.mem_map.1 hn
 unfold frH
 split
 · omega
 · exact hh x hx
theorem atmDo_held {l : List MR} {m h : List Int} {who : Int} {r : Req} (hr : ReqF r) (hh : ∀ n, n ∈ h -> -1 <= n ∧ n <= 63) : ∀ n, n ∈ (atmDo l m h who r).holds -> -1 <= n ∧ n <= 63 := by
 unfold atmDo
 repeat' split
 all_goals first | exact hh | exact freeH_in hh | skip
 intro n hn
 rcases List.mem_or_eq_of_mem_set hn with e | e
 · exact hh n e
 · have := hr.addr; omega
theorem OrdOk.do {c : Bus} {s : Atm × List Job} {k : Nat} {e : Ev} {r : Req} (h : OrdOk s k) (hr : ReqF r) : OrdOk (ordDo c s e r) (k + 1) :=
 ⟨(atmDo_mem ..).trans h.ml, (atmDo_holds ..).trans h.hl, atmDo_words hr h.mw, atmDo_held hr h.hw, by have := h.jl; simp [ordDo]; omega, fun j hj => by
  rcases List.mem_append.1 hj with hj | hj
  · exact h.jd j hj
  · obtain rfl := List.mem_singleton.1 hj
    exact atmDo_data4 hr⟩
theorem OrdOk.more {s : Atm × List Job} {k : Nat} (h : OrdOk s k) : OrdOk s (k + 1) := ⟨h.ml, h.hl, h.mw, h.hw, Nat.le_succ_of_le h.jl, h.jd⟩
theorem ordStep_ok {c : Bus} {s : Atm × List Job} {k : Nat} {e : Ev} (hb : busOk c = true) (h : OrdOk s k) : OrdOk (ordStep c s e) (k + 1) := by
 by_cases q : e.kind = 2 ∧ asksB c e.who e.n = true
 · obtain ⟨i, j, hi, hj, ew, en⟩ := asks_at (busOk_progs hb) q.2
   rw [ordStep_yes q hi hj ew en]
   exact h.do (reqOk_facts (busOk_rq hb hi hj))
 · rw [ordStep_no q]
   exact h.more
theorem ordAll_ok {c : Bus} (hb : busOk c = true) (l : List Ev) : ∀ k, k <= l.length -> OrdOk (ordAll c (l.take k)) k
 | 0, _ => by rw [ordAll_zero]; exact OrdOk.new
 | k + 1, h => by rw [ordAll_succ c (by omega)]; exact ordStep_ok hb (ordAll_ok hb l k (by omega))
end Go.Proofs.Ytmcjklicepaiaaa
namespace Go.Proofs.Ytmcjklicepaiaaa
open Go.RowKit Go.WideShapes
variable {α : Type} {K : Nat} {R : Pr α} {e : TypeId} {w w' : World} {base : Nat} {v : Value} {l : List α}
theorem OwnP.chg (F : Fits K R) {fq : List Nat} {rows : List (CellsK K)} {fps : List (List Nat)} (h : OwnP K R e base w v l rows fps) (hc : Chg fq w w') (hf : ∀ b, b ∈ fq -> v.ownBlock ≠ some b ∧ b ∉ fps.flatten) : OwnP K R e base w' v l rows fps := by
 have hd : ∀ b, b ∈ fps.flatten -> b ∉ fq := fun b hb hm => (hf b hm).2 hb
 refine ⟨?_, h.len, h.lenf, fun i h0 h1 h2 => F.chg (h.els i h0 h1 h2) hc fun b hb => hd b (List.mem_flatten.2 ⟨_, List.getElem_mem h2, hb⟩), h.lo, h.once, h.free.chg (h.lt F) hc hd, h.apart⟩
 rcases h.own.2 with ⟨q, h0⟩ | ⟨g, cap, cur, q, hg, r⟩
 · exact ⟨h.own.1, .inl ⟨q, h0⟩⟩
 · have hgl : g < w.heap.size := by
    rcases Nat.lt_or_ge g w.heap.size with hh | hh
    · exact hh
    · have := r.1; simp [Array.getElem?_eq_none hh] at this
   exact ⟨h.own.1, .inr ⟨g, cap, cur, q, hg, (hc.block g hgl (fun hm => (hf g hm).1 (by rw [q]; rfl))).trans r.1, r.2⟩⟩
theorem OwnP.ltBlock {rows : List (CellsK K)} {fps : List (List Nat)} (h : OwnP K R e base w v l rows fps) : ∀ b, v.ownBlock = some b -> b < w.heap.size := fun b hb => (World.ownsRow.lt h.own b hb).2
theorem wpList_pushQ {P : Program} {ops : Array Oper} {rest : List Oper} {o : Oper} {a : Act} {Q : Exit -> Act -> World -> Prop} {c2 : Nat} {A : Addr} {x : α} {cs : List Value} {f : List Nat} {rows : List (CellsK K)} {fps : List (List Nat)}
 (hgd : o.guard = none) (s y : Operand) (t e : TypeId) (i : TypeInfo) (z : Value) (bytes : Nat) (F : Fits K R)
 (ho : o.op = .call { callee := .builtin .append, args := #[s, y], argTypes := #[t, t] })
 (ht : P.underlying t = some (.slice e)) (hi : P.info? e = some i) (hz : i.zero = some z) (hsize : i.size = K) (hby : i.bytes = bytes) (hzs : z.cells.size = K) (hsz : 0 < K) (hb8 : bytes <= 128)
 (hs : a.eval s = v) (hy : a.eval y = .slice (some A) 1 c2) (hp : OwnP K R e base w v l rows fps) (hR : R w x cs f) (hlo : ∀ b, b ∈ f -> base <= b) (h1f : f.Nodup) (hff : Free f w) (hap : ∀ b, b ∈ f -> v.ownBlock ≠ some b ∧ b ∉ fps.flatten) (hcell : ∀ j (hj : j < cs.length), w.cell? (A.add j) = some cs[j]) (h1 : ∀ u ∈ cs, u.oneCell' = true)
 (hn : l.length <= 2000000) (hbw : base <= w.heap.size)
 (h : ∀ v' w' rows', OwnP K R e base w' v' (l ++ [x]) rows' (fps ++ [f]) -> Below base w w' -> (∀ b, b < w.heap.size -> v.ownBlock ≠ some b -> w'.heap[b]? = w.heap[b]?) -> (v'.ownBlock = v.ownBlock ∨ v'.ownBlock = some w.heap.size) -> wpList P ops Q rest (a.put o.dst v') w') :
 wpList P ops Q (o :: rest) a w := by
 have hlen := hp.len
 have hlenf := hp.lenf
 have hcl := F.len hR
 refine wpList_appendB (c := cellsK) (news := [⟨cs, hcl⟩]) hgd s y t e i z bytes cellsK_len ho ht hi hz hsize hby hzs hsz hb8 hs hy hp.own rfl (by decide) ?_ (oneCells_flat h1) (by omega) (by omega) hbw ?_
 · intro j u hj
   simp only [List.flatMap_cons, List.flatMap_nil, List.append_nil] at hj
   obtain ⟨hj1, hj2⟩ := List.getElem?_eq_some_iff.1 hj
   rw [<- hj2]
   exact hcell j hj1
 · intro v' w' ho' hgr hblk
   have hbel : Below base w w' := grown_below hp.own hgr hbw
   have hkeep : ∀ b, b < w.heap.size -> v.ownBlock ≠ some b -> w'.heap[b]? = w.heap[b]? := fun b hb hne => hgr.block b hb (fun q => hne q.symm)
   have hflt : ∀ b, b ∈ f -> b < w.heap.size := F.lt hR
   have hplt : ∀ b, b ∈ fps.flatten -> b < w.heap.size := hp.lt F
   have hpo : ∀ b, b ∈ fps.flatten -> v.ownBlock ≠ some b := fun b hb q => hp.apart b q hb
   refine h v' w' (rows ++ [⟨cs, hcl⟩]) ⟨ho', by simp [hlen], by simp [hlenf], fun j h0 h2 h3 => ?_, ?_, ?_, ?_, ?_⟩ hbel hkeep hblk
   · by_cases hj : j < l.length
     · rw [List.getElem_append_left hj, List.getElem_append_left (by omega : j < rows.length), List.getElem_append_left (by omega : j < fps.length)]
       have hm : ∀ b, b ∈ fps[j] -> b ∈ fps.flatten := fun b hb => List.mem_flatten.2 ⟨_, List.getElem_mem _, hb⟩
       exact F.same (hp.els j hj (by omega) (by omega)) (fun b hb => hkeep b (hplt b (hm b hb)) (hpo b (hm b hb))) hgr.size
     · obtain rfl : j = l.length := by simp at h0; omega
       rw [List.getElem_append_right (by omega), List.getElem_append_right (by omega), List.getElem_append_right (by omega)]
       simp only [Nat.sub_self, hlen, hlenf, List.getElem_cons_zero]
       exact F.same hR (fun b hb => hkeep b (hflt b hb) (hap b hb).1) hgr.size
   · intro b hb
     simp only [List.flatten_append, List.mem_append, List.flatten_cons, List.flatten_nil, List.append_nil] at hb
     exact hb.elim (hp.lo b) (hlo b)
   · simp only [List.flatten_append, List.flatten_cons, List.flatten_nil, List.append_nil]
     exact nodup_app hp.once h1f fun b hb hb' => (hap b hb').2 hb
   · simp only [List.flatten_append, List.flatten_cons, List.flatten_nil, List.append_nil]
     exact (hp.free.same fun b hb => hkeep b (hplt b hb) (hpo b hb)).app (hff.same fun b hb => hkeep b (hflt b hb) (hap b hb).1)
   · intro b hb hm
     simp only [List.flatten_append, List.mem_append, List.flatten_cons, List.flatten_nil, List.append_nil] at hm
     rcases hblk with q | q
     · rw [q] at hb
       rcases hm with hm | hm
       · exact hpo b hm hb
       · exact (hap b hm).1 hb
     · rw [hb] at q
       obtain rfl : b = w.heap.size := Option.some.inj q
       rcases hm with hm | hm
       · have := hplt _ hm; omega
       · have := hflt _ hm; omega
end Go.Proofs.Ytmcjklicepaiaaa
