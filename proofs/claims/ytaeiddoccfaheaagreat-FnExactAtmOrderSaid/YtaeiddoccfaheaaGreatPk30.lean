/-
 Texts of this claim laid together: AtmOk Facts3 Apart Rsp UniRsp Job.
-/
import Derived.Test.YtaeiddoccfaheaaGreatProg
import Derived.Test.YtaeiddoccfaheaaGreatPk04
import Derived.Test.YtaeiddoccfaheaaGreatPk05
import Derived.Test.YtaeiddoccfaheaaGreatPk07
import Derived.Test.YtaeiddoccfaheaaGreatPk28
import Derived.WalkSmall
import Derived.Test.YtaeiddoccfaheaaGreatPk16
import Derived.Test.YtaeiddoccfaheaaGreatPk25
import Derived.Test.YtaeiddoccfaheaaGreatPk24
import Derived.Test.YtaeiddoccfaheaaGreatPk02
import Derived.StillTailTactics
import Derived.Test.YtaeiddoccfaheaaGreatPk08
import Derived.KernelRfl
import Derived.Test.YtaeiddoccfaheaaGreatPk09
import Derived.OwnWalk
import Derived.Deep.QuietTactic
import Derived.BigQuiet
set_option linter.unusedVariables false
set_option linter.unusedSimpArgs false
namespace Go.Proofs.YtaeiddoccfaheaaGreat
open Go.RowKit
def atmOk (x : Atm) : Bool := memOk x.mem && (decide (x.holds.length = 6) && allIn x.holds (-1) 63)
theorem sAtmOk_any (x : Atm) (v0 v1 : Value) (fp0 fp1 : List Nat) (w : World) (g0 : SlR 1 intR w x.mem v0 fp0) (g1 : SlR 1 intR w x.holds v1 fp1) :
 Calls Tryz.prog 53 #[.agg #[v0, v1]] w fun e w' => e = .returned (.bool (atmOk x)) ∧ Below w.heap.size w w' := by
 have hb := below_alloc w (.cells #[v0, v1] 33)
 have G0 := Lib.hid (SlR.below intR_fits g0 hb)
 have G1 := Lib.hid (SlR.below intR_fits g1 hb)
 have B := Lib.hid hb
 obtain ⟨a1, n1, c1, rfl, hn1, _, _, _, _⟩ := g1.opened
 have HN := Lib.hid (show decide (x.holds.length = 6) = ((n1 : Int) == 6) by rw [hn1.out, Bool.eq_iff_iff]; simp; omega)
 clear hb g0 g1 hn1
 cases q0 : memOk x.mem
 all_goals cases q1 : ((n1 : Int) == 6)
 all_goals
  have Q0 := Lib.hid q0
  have Q1 := Lib.hid q1
  clear q0
  go_enter Tryz.func53, Tryz.ntmps53
  go_wp2_with (first
   | (go_at_call 81; refine (sMemOk_any _ x.mem fp0 _ G0.out).mono ?_; rw [Q0.out]; rintro e w2 ⟨rfl, b⟩; replace G1 := Lib.hid (SlR.below intR_fits G1.out b); have X1 := keep_cell b (alloc1_new w _ _ 1 rfl); replace B := Lib.hid (B.out.trans (b.mono B.out.size)); clear b)
   | (go_at_call 50; refine (l3All_any _ x.holds fp1 _ _ _ G1.out).mono ?_; rintro e w2 ⟨rfl, rfl⟩))
  all_goals go_ret
  all_goals refine ⟨ret_bool ?_, B.out⟩
  all_goals unfold atmOk
  all_goals rw [HN.out, Q0.out, Q1.out]
  all_goals (simp; done)
end Go.Proofs.YtaeiddoccfaheaaGreat
namespace Go.Proofs.YtaeiddoccfaheaaGreat
open Go.RowKit
end Go.Proofs.YtaeiddoccfaheaaGreat
namespace Go.Proofs.YtaeiddoccfaheaaGreat
open Go.RowKit Go.ChangeShapes
def asksB (c : Bus) (who n : Int) : Bool := inB who 0 2 && inB n 0 ((((c.progs[who.toNat]?).getD []).length : Int) - 1)
def reqAt (c : Bus) (e : Ev) : Option Req := (c.progs[e.who.toNat]?).bind fun p => p[e.n.toNat]?
theorem busOk_progs {c : Bus} (h : busOk c = true) : c.progs.length = 3 := by
 unfold busOk at h
 simp only [Bool.and_eq_true, decide_eq_true_eq] at h
 omega
theorem asks_at {c : Bus} {who n : Int} (hl : c.progs.length = 3) (h : asksB c who n = true) : ∃ (k i : Nat) (hk : k < c.progs.length) (_ : i < c.progs[k].length), who = k ∧ n = i := by
 unfold asksB at h
 simp only [Bool.and_eq_true] at h
 obtain ⟨h1, h2⟩ := h
 have h1 := inB_true.1 h1
 have h2 := inB_true.1 h2
 obtain ⟨k, rfl⟩ := Int.eq_ofNat_of_zero_le h1.1
 obtain ⟨i, rfl⟩ := Int.eq_ofNat_of_zero_le h2.1
 have hk : k < c.progs.length := by omega
 refine ⟨k, i, hk, ?_, rfl, rfl⟩
 have e : (c.progs[((k : Nat) : Int).toNat]?).getD [] = c.progs[k] := by simp [hk]
 rw [e] at h2
 omega
theorem asks_of {c : Bus} {k : Nat} (n : Int) (hl : c.progs.length = 3) (hk : k < c.progs.length) : asksB c k n = inB n 0 ((c.progs[k].length : Int) - 1) := by
 unfold asksB
 have e : (c.progs[((k : Nat) : Int).toNat]?).getD [] = c.progs[k] := by simp [hk]
 rw [e, inB_true.2 (by omega : (0:Int) <= k ∧ (k:Int) <= 2)]
 rfl
theorem asks_no {c : Bus} {who : Int} (n : Int) (h : inB who 0 2 = false) : asksB c who n = false := by
 unfold asksB
 rw [h]
 rfl
theorem reqAt_at {c : Bus} {kd : Int} {k i : Nat} (hk : k < c.progs.length) (hi : i < c.progs[k].length) : reqAt c ⟨kd, k, i⟩ = some c.progs[k][i] := by
 unfold reqAt
 simp [hk, hi]
set_option maxRecDepth 100000 in
theorem iAsks_any (c : Bus) (who n : Int) (v0 v1 v2 : Value) (fp2 : List Nat) (hl : c.progs.length = 3) (w : World) (g2 : SlR 1 (slR 7 reqR) w c.progs v2 fp2) :
 Calls Tryz.prog 33 #[.agg #[v0, v1, v2], .int .i64 who, .int .i64 n] w fun e w' => e = .returned (.bool (asksB c who n)) ∧ Below w.heap.size w w' := by
 have hb := below_alloc w (.cells #[v0, v1, v2] 40)
 have B := Lib.hid hb
 cases q0 : inB who 0 2
 · have Q0 := Lib.hid q0
   clear q0
   go_enter Tryz.func33, Tryz.ntmps33
   go_wp2_with fail
   refine (isMaster_any _ _).mono ?_
   rw [Q0.out]
   rintro e w' ⟨rfl, rfl⟩
   go_wp2
   go_ret
   exact ⟨ret_bool (asks_no n Q0.out).symm, B.out⟩
 · have h := inB_true.1 q0
   have Q0 := Lib.hid q0
   obtain ⟨k, rfl⟩ := Int.eq_ofNat_of_zero_le h.1
   have hk : k < c.progs.length := by omega
   obtain ⟨a2, n2, c2, rfl, hn2, _, _, _, r⟩ := (SlR.below (slR_fits reqR_fits) g2 hb).opened
   have hn3 : 3 = n2 := by rw [<- hn2.out, hl]
   subst hn3
   obtain ⟨i1, b1, o1, f1, cs, rfl, hb1, _, _, ⟨y, rfl, hy⟩, e1⟩ := r k (by omega)
   have c0 := e1 0 (by simp)
   simp only [Nat.mul_one, Nat.add_zero, List.getElem_cons_zero] at c0
   obtain ⟨a3, n3, c3, rfl, hn3, _, hm3, hcm3, _⟩ := hy.opened
   have HA := Lib.hid (asks_of n hl hk)
   rw [hn3.out] at HA
   have hk3 : (k : Int) < 3 := by omega
   clear q0 h r e1 g2 hb hy
   go_enter Tryz.func33, Tryz.ntmps33
   go_wp2_with fail
   refine (isMaster_any _ _).mono ?_
   rw [Q0.out]
   rintro e w' ⟨rfl, rfl⟩
   go_wp2_with fail
   refine (in_any _ _ _ _).mono ?_
   rintro e w' ⟨rfl, rfl⟩
   go_wp2
   go_ret
   exact ⟨ret_bool HA.out.symm, B.out⟩
theorem l1In_v {a b c : Int} {x : Bool} (h : inB a b c = x) (w : World) :
 Calls Tryz.prog 25 #[.int .i64 a, .int .i64 b, .int .i64 c] w fun e w' => e = .returned (.bool x) ∧ w' = w := by
 rw [<- h]; exact l1In_q a b c w
end Go.Proofs.YtaeiddoccfaheaaGreat
namespace Go.Proofs.YtaeiddoccfaheaaGreat
open Go.RowKit Go.ChangeShapes
structure Rsp where
 id : Int
 code : Int
 data : List Int
 deriving DecidableEq
theorem eqRsp_any (x y : Rsp) (v1 v2 : Value) (fp1 fp2 : List Nat) (w : World) (g1 : IntS w x.data v1 fp1) (g2 : IntS w y.data v2 fp2) :
 Calls Tryz.prog 76 #[.agg #[.int .i64 x.id, .int .i64 x.code, v1], .agg #[.int .i64 y.id, .int .i64 y.code, v2]] w fun e w' => e = .returned (.bool (decide (x = y))) ∧ Below w.heap.size w w' := by
 have G1 := Lib.hid g1
 have G2 := Lib.hid g2
 clear g1 g2
 have hb : Below w.heap.size w ((w.alloc (.cells #[.int .i64 x.id, .int .i64 x.code, v1] 63)).alloc (.cells #[.int .i64 y.id, .int .i64 y.code, v2] 63)) := ((Below.refl _ _).alloc (Nat.le_refl _) _).alloc (by simp) _
 have HB := Lib.hid hb
 clear hb
 have hd : decide (x = y) = (decide (x.id = y.id) && decide (x.code = y.code) && decide (x.data = y.data)) := by
  cases x; cases y; simp [Bool.and_assoc]
 have HD := Lib.hid hd
 clear hd
 by_cases h1 : x.id = y.id
 · by_cases h2 : x.code = y.code
   · have q1 : (x.id != y.id) = false := by simp [h1]
     have q2 : (x.code != y.code) = false := by simp [h2]
     have H1 := Lib.hid h1
     have H2 := Lib.hid h2
     clear h1 h2
     cases hq : decide (x.data = y.data)
     all_goals
      go_enter Tryz.func76, Tryz.ntmps76
      go_wp2_with fail
      refine (eqIntS_any v1 v2 _ _ fp1 fp2 _ (SlR.below intR_fits G1.out HB.out) (SlR.below intR_fits G2.out HB.out)).mono ?_
      rw [hq]
      rintro e w' ⟨rfl, n, rfl⟩
      go_wp2
      go_ret
      exact ⟨ret_bool (by rw [HD.out, hq, decide_eq_true H1.out, decide_eq_true H2.out]; rfl), below_drewN HB.out _⟩
   · have q1 : (x.id != y.id) = false := by simp [h1]
     have q2 : (x.code != y.code) = true := by simp [h2]
     have H2 := Lib.hid h2
     clear h1 h2
     go_enter Tryz.func76, Tryz.ntmps76
     go_wp2
     go_ret
     exact ⟨ret_bool (by rw [HD.out, decide_eq_false H2.out]; simp), HB.out⟩
 · have q1 : (x.id != y.id) = true := by simp [h1]
   have H1 := Lib.hid h1
   clear h1
   go_enter Tryz.func76, Tryz.ntmps76
   go_wp2
   go_ret
   exact ⟨ret_bool (by rw [HD.out, decide_eq_false H1.out]; simp), HB.out⟩
end Go.Proofs.YtaeiddoccfaheaaGreat
namespace Go.Proofs.YtaeiddoccfaheaaGreat
open Go.RowKit
def sm_Rsp (x : Rsp) : Prop := sm_ints x.data
theorem eq_Rsp (x y : Rsp) (v1 v2 : Value) (fp1 fp2 : List Nat) (w : World) (g1 : SlR 1 intR w x.data v1 fp1) (g2 : SlR 1 intR w y.data v2 fp2) :
 Calls Tryz.prog 76 #[.agg #[.int .i64 x.id, .int .i64 x.code, v1], .agg #[.int .i64 y.id, .int .i64 y.code, v2]] w fun e w' => e = .returned (.bool (decide (x = y))) ∧ Below w.heap.size w w' := eqRsp_any x y v1 v2 fp1 fp2 w g1 g2
end Go.Proofs.YtaeiddoccfaheaaGreat
namespace Go.Proofs.YtaeiddoccfaheaaGreat
open Go.RowKit Go.ChangeShapes
structure Job where
 who : Int
 n : Int
 rsp : Rsp
 deriving DecidableEq
def jobR : Pr Job := fun w x cs fp => ∃ (v0 : Value) (fp0 : List Nat), cs = [.int .i64 x.who, .int .i64 x.n, .int .i64 x.rsp.id, .int .i64 x.rsp.code, v0] ∧ fp = fp0 ∧ SlR 1 intR w x.rsp.data v0 fp0
theorem jobR_fits : Fits 5 jobR := by
 refine ⟨fun ⟨v0, fp0, e, e2, g0⟩ => by rw [e]; rfl, fun ⟨v0, fp0, e, e2, g0⟩ b hb => ?_, fun ⟨v0, fp0, e, e2, g0⟩ hs hz => ⟨v0, fp0, e, e2, g0.same intR_fits (hs.mono (fun b hb => by rw [e2]; simp [hb])) hz⟩⟩
 rw [e2] at hb
 · exact g0.lt intR_fits b hb
def sm_Job (x : Job) : Prop := sm_Rsp x.rsp
set_option maxRecDepth 100000 in
set_option maxHeartbeats 3200000 in
theorem eq_Job (x y : Job) (v0 u0 : Value) (fp0 fq0 : List Nat) (w : World) (g0 : SlR 1 intR w x.rsp.data v0 fp0) (k0 : SlR 1 intR w y.rsp.data u0 fq0) :
 Calls Tryz.prog 38 #[.agg #[.int .i64 x.who, .int .i64 x.n, .int .i64 x.rsp.id, .int .i64 x.rsp.code, v0], .agg #[.int .i64 y.who, .int .i64 y.n, .int .i64 y.rsp.id, .int .i64 y.rsp.code, u0]] w fun e w' => e = .returned (.bool (decide (x = y))) ∧ Below w.heap.size w w' := by
 have hb : Below w.heap.size w ((w.alloc (.cells #[.int .i64 x.who, .int .i64 x.n, .int .i64 x.rsp.id, .int .i64 x.rsp.code, v0] 69)).alloc (.cells #[.int .i64 y.who, .int .i64 y.n, .int .i64 y.rsp.id, .int .i64 y.rsp.code, u0] 69)) := ((Below.refl _ _).alloc (Nat.le_refl _) _).alloc (by simp) _
 have G0 := Lib.hid (SlR.below intR_fits g0 hb)
 have K0 := Lib.hid (SlR.below intR_fits k0 hb)
 have B := Lib.hid hb
 have HD := Lib.hid (show decide (x = y) = (decide (x.who = y.who) && decide (x.n = y.n) && decide (x.rsp = y.rsp)) by cases x; cases y; simp [Bool.and_assoc])
 clear hb g0 k0
 cases e0 : decide (x.who = y.who)
 case' false =>
  have q0 : (x.who != y.who) = true := by simp [of_decide_eq_false e0]
  have E0 := Lib.hid e0
  clear e0
  go_enter Tryz.func38, Tryz.ntmps38
  go_wp2
  go_ret
  exact ⟨ret_bool (by rw [HD.out, E0.out]; simp), B.out⟩
 have q0 : (x.who != y.who) = false := by simp [of_decide_eq_true e0]
 have E0 := Lib.hid e0
 clear e0
 cases e1 : decide (x.n = y.n)
 case' false =>
  have q1 : (x.n != y.n) = true := by simp [of_decide_eq_false e1]
  have E1 := Lib.hid e1
  clear e1
  go_enter Tryz.func38, Tryz.ntmps38
  go_wp2
  go_ret
  exact ⟨ret_bool (by rw [HD.out, E0.out, E1.out]; simp), B.out⟩
 have q1 : (x.n != y.n) = false := by simp [of_decide_eq_true e1]
 have E1 := Lib.hid e1
 clear e1
 go_enter Tryz.func38, Tryz.ntmps38
 go_wp2_with fail
 refine (eq_Rsp x.rsp y.rsp _ _ fp0 fq0 _ G0.out K0.out).mono ?_
 rintro e w1 ⟨rfl, b⟩
 replace B := Lib.hid (B.out.trans (b.mono B.out.size))
 clear b G0 K0
 cases e2 : decide (x.rsp = y.rsp)
 case' false =>
  have E2 := Lib.hid e2
  clear e2 
  go_wp2
  go_ret
  exact ⟨ret_bool (by rw [HD.out, E0.out, E1.out, E2.out]; simp), B.out⟩
 have E2 := Lib.hid e2
 clear e2
 go_wp2
 go_ret
 exact ⟨ret_bool (by rw [HD.out,E0.out, E1.out, E2.out]; rfl), B.out⟩
def sm_jobs (l : List Job) : Prop := l.length <= 1048576 ∧ ∀ k (h : k < l.length), sm_Job l[k]
set_option maxRecDepth 100000 in
set_option maxHeartbeats 1600000 in
theorem eq_jobs (v1 v2 : Value) (l1 l2 : List Job) (fp1 fp2 : List Nat) (w : World) (g1 : SlR 5 jobR w l1 v1 fp1) (g2 : SlR 5 jobR w l2 v2 fp2) :
 Calls Tryz.prog 11 #[v1, v2] w fun e w' => e = .returned (.bool (decide (l1 = l2))) ∧ Below w.heap.size w w' := by
 obtain ⟨a1, n1, c1, rfl, hn1, k1, m1, _, r1⟩ := g1.opened
 obtain ⟨a2, n2, c2, rfl, hn2, k2, m2, _, r2⟩ := g2.opened
 clear g1 g2
 by_cases hL : n2 = n1
 · obtain rfl := hL
   go_enter Tryz.func11, Tryz.ntmps11
   go_wp2
   go_loopw [5] (fun i wr => ∃ k : Nat, k <= n2 ∧ i = .int .i64 k ∧ l1.take k = l2.take k ∧ Below w.heap.size w wr) (fun i _ => n2 - (intOf i).toNat)
   case atStart => exact ⟨0, Nat.zero_le _, rfl, rfl, Below.refl _ _⟩
   case round =>
    obtain ⟨k, hk, rfl, ht, hb⟩ := hrel
    have HT := Lib.hid ht
    have HB := Lib.hid hb
    clear ht
    by_cases hlt : k < n2
    · obtain ⟨i1, b1, o1, xf, cs1, rfl, hb1, _, _, ⟨xv0, xp0, rfl, rfl, xg0⟩, e1⟩ := r1 k hlt
      obtain ⟨i2, b2, o2, yf, cs2, rfl, hb2, _, _, ⟨yv0, yp0, rfl, rfl, yg0⟩, e2⟩ := r2 k hlt
      have c0 := (hb.cell (p := ⟨b1, o1 + k * 5 + 0, none⟩) hb1).trans (e1 0 (by simp))
      have c1 := (hb.cell (p := ⟨b1, o1 + k * 5 + 1, none⟩) hb1).trans (e1 1 (by simp))
      have c2 := (hb.cell (p := ⟨b1, o1 + k * 5 + 2, none⟩) hb1).trans (e1 2 (by simp))
      have c3 := (hb.cell (p := ⟨b1, o1 + k * 5 + 3, none⟩) hb1).trans (e1 3 (by simp))
      have c4 := (hb.cell (p := ⟨b1, o1 + k * 5 + 4, none⟩) hb1).trans (e1 4 (by simp))
      have d0 := (hb.cell (p := ⟨b2, o2 + k * 5 + 0, none⟩) hb2).trans (e2 0 (by simp))
      have d1 := (hb.cell (p := ⟨b2, o2 + k * 5 + 1, none⟩) hb2).trans (e2 1 (by simp))
      have d2 := (hb.cell (p := ⟨b2, o2 + k * 5 + 2, none⟩) hb2).trans (e2 2 (by simp))
      have d3 := (hb.cell (p := ⟨b2, o2 + k * 5 + 3, none⟩) hb2).trans (e2 3 (by simp))
      have d4 := (hb.cell (p := ⟨b2, o2 + k * 5 + 4, none⟩) hb2).trans (e2 4 (by simp))
      simp only [Nat.add_zero, List.getElem_cons_zero, List.getElem_cons_succ] at c0 d0 c1 d1 c2 d2 c3 d3 c4 d4
      have hbd := HB.out.trans (Below.refl _ wr).drew
      have G0 := Lib.hid (SlR.below intR_fits xg0 hbd)
      have K0 := Lib.hid (SlR.below intR_fits yg0 hbd)
      clear r1 r2 e1 e2 hb hbd xg0 yg0
      go_wp2_with fail
      go_still_tail 8, (by kernel_rfl)
      change wpList _ _ _ _ _ wr.drew
      clear c0 d0 c1 d1 c2 d2 c3 d3 c4 d4
      go_wp2_with fail
      refine (eq_Job l1[k] l2[k] _ _ xf yf _ G0.out K0.out).mono ?_
      rintro e w2 ⟨rfl, b3⟩
      have HB2 := Lib.hid ((HB.out.trans (Below.refl _ _).drew).trans (b3.mono HB.out.size))
      clear b3
      cases hq : decide (l1[k] = l2[k])
      · have HQ := Lib.hid (of_decide_eq_false hq)
        clear hq
        go_wp2
        go_ret
        exact ⟨ret_bool (by simp; intro e; exact HQ.out (by simp [e])), HB2.out⟩
      · have HQ := Lib.hid (of_decide_eq_true hq)
        clear hq
        go_wp2
        go_roundw
        case rel => exact ⟨k + 1, by omega, by go_num, take_succ_eq HT.out i1 i2 HQ.out, HB2.out⟩
        case measure => simp [intOf]; omega
    · clear r1 r2 hb
      go_wp2
      go_ret
      exact ⟨ret_bool (by simp [take_all_eq HT.out hn1.out hn2.out (by omega)]), HB.out⟩
 · clear r1 r2
   have hne : l1 ≠ l2 := fun e => hL (by rw [<- hn1.out, <- hn2.out, e])
   have hq : ((n1 : Int) != n2) = true := by simp; omega
   go_enter Tryz.func11, Tryz.ntmps11
   go_wp2
   go_ret
   exact ⟨ret_bool (by simp [hne]), Below.refl _ _⟩
theorem info_jobs : (Tryz.prog.info? 69).map (fun i => (i.zero, i.size, i.bytes)) = some (some (.agg #[.int .i64 0, .int .i64 0, .int .i64 0, .int .i64 0, .slice none 0 0]), 5, 56) := by kernel_rfl
end Go.Proofs.YtaeiddoccfaheaaGreat
