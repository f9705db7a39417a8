/-
 Texts of this claim laid together: Own2 Clone Facts2 Told OrdP.
-/
import Derived.Test.YtaeiddoccfaheaaGreatPk15
import Derived.Test.YtaeiddoccfaheaaGreatProg
import Derived.Test.YtaeiddoccfaheaaGreatPk31
import Derived.OwnWalk
import Derived.KernelRfl
import Derived.WalkSpells
import Derived.WalkSmall
import Derived.Test.YtaeiddoccfaheaaGreatPk16
import Derived.Test.YtaeiddoccfaheaaGreatPk03
import Derived.Test.YtaeiddoccfaheaaGreatPk30
import Derived.Test.YtaeiddoccfaheaaGreatPk02
import Derived.Test.YtaeiddoccfaheaaGreatPk25
import Derived.StillTailTactics
import Derived.Deep.QuietTactic
import Derived.BigQuiet
import Derived.Deep.Cut
import Derived.Test.YtaeiddoccfaheaaGreatPk20
import Derived.Test.YtaeiddoccfaheaaGreatPk29
set_option linter.unusedVariables false
set_option linter.unusedSimpArgs false
namespace Go.Proofs.YtaeiddoccfaheaaGreat
open Go.RowKit Go.WideShapes
variable {α : Type} {K : Nat} {c : α -> List Value} {e : TypeId} {w w' : World} {base : Nat} {v : Value} {l : List α}
theorem wpList_append_no {P : Program} {ops : Array Oper} {rest : List Oper} {o : Oper} {a : Act} {Q : Exit -> Act -> World -> Prop} {n cap c2 : Nat} {A : Option Addr} {B : Addr}
 (hgd : o.guard = none) (s x : Operand) (t e : TypeId) (i : TypeInfo)
 (ho : o.op = .call { callee := .builtin .append, args := #[s, x], argTypes := #[t, t] })
 (ht : P.underlying t = some (.slice e)) (hi : P.info? e = some i)
 (hs : a.eval s = .slice (some B) n cap) (hx : a.eval x = .slice A 0 c2) (hn : n <= cap)
 (h : wpList P ops Q rest (a.put o.dst (.slice (some B) n cap)) w) :
 wpList P ops Q (o :: rest) a w := by
 refine wpList_plain hgd fun K' hK' => ?_
 have hr : (Builtin.append_ #[t, t] o.type #[.slice (some B) n cap, .slice A 0 c2]).run P w = .ok (.slice (some B) n cap) w := by
  cases A <;> simp [Builtin.append_, run_underlying ht, sizeOf, typeInfo, hi, Builtin.lenOf, Builtin.firstCells, hn, storeCells, loadCells, loadCellsFrom]
 unfold Oper.wp execOp
 simp only [ho, resolve, invoke, builtin, Sem.run_bind, Sem.run_pure, Result.andThen_ok, List.map_toArray, List.map_cons, List.map_nil, hs, hx, hr]
 exact hK' _ _ h
theorem wpList_append_lit {P : Program} {ops : Array Oper} {rest : List Oper} {o : Oper} {a : Act} {Q : Exit -> Act -> World -> Prop} {m c2 g : Nat} {news : List α} {A : Option Addr} {fq : List Nat}
 (hgd : o.guard = none) (s x : Operand) (t e : TypeId) (i : TypeInfo) (z : Value) (bytes : Nat) (hk : ∀ x, (c x).length = K)
 (ho : o.op = .call { callee := .builtin .append, args := #[s, x], argTypes := #[t, t] })
 (ht : P.underlying t = some (.slice e)) (hi : P.info? e = some i) (hz : i.zero = some z) (hsize : i.size = K) (hby : i.bytes = bytes) (hzs : z.cells.size = K) (hK0 : 0 < K) (hb8 : bytes <= 128)
 (hs : a.eval s = .slice (some ⟨g, 0, none⟩) 0 0) (hx : a.eval x = .slice A m c2) (hown : OwnR K c e base w (.slice (some ⟨g, 0, none⟩) 0 0) []) (hl : SlR K (fun _ x cs fp => cs = c x ∧ fp = []) w news (.slice A m c2) fq) (hbase : base <= w.heap.size)
 (hmm : m <= 2000000)
 (h : ∀ v' w', OwnR K c e base w' v' news -> Below w.heap.size w w' -> wpList P ops Q rest (a.put o.dst v') w') :
 wpList P ops Q (o :: rest) a w := by
 have hlen : news.length = m := by
  obtain ⟨a', n', c', e1, hn, _⟩ := hl
  simp only [Value.slice.injEq] at e1
  rw [hn, e1.2.1]
 by_cases h0 : m = 0
 · subst h0
   obtain rfl : news = [] := List.eq_nil_of_length_eq_zero hlen
   exact wpList_append_no hgd s x t e i ho ht hi hs hx (Nat.le_refl _) (h _ _ hown (Below.refl _ _))
 · have hne : news ≠ [] := fun e => h0 (by rw [<- hlen, e]; rfl)
   have h2 := hl
   obtain ⟨a', n', c', e1, hn, _, _, ⟨rfl, _⟩ | ⟨b, off, fps, rfl, _⟩⟩ := hl
   · exact absurd rfl hne
   · simp only [Value.slice.injEq] at e1
     obtain ⟨rfl, rfl, rfl⟩ := e1
     exact wpList_append_empty hgd s x t e i z bytes hk ho ht hi hz hsize hby hzs hb8 hs hx hlen (by omega) (SlR.flat_cells hk hK0 h2) hmm (fun v' w' ho' hb' => h v' w' (OwnR.lower ho' hbase) hb')
end Go.Proofs.YtaeiddoccfaheaaGreat
namespace Go.Proofs.YtaeiddoccfaheaaGreat
open Go.RowKit Go.ChangeShapes
theorem slClipJ (a : Option Addr) (n c : Nat) (hc : n <= c) (hm : c <= maxLen) (w : World) :
 Calls Tryz.prog 35 #[.slice a n c] w fun e w' => e = .returned (.slice a n n) ∧ w = w' := by
 unfold maxLen at hm
 go_enter Tryz.func35, Tryz.ntmps35
 go_wp2
 go_ret
 simp
end Go.Proofs.YtaeiddoccfaheaaGreat
namespace Go.Proofs.YtaeiddoccfaheaaGreat
open Go.RowKit
end Go.Proofs.YtaeiddoccfaheaaGreat
namespace Go.Proofs.YtaeiddoccfaheaaGreat
open Go.RowKit Go.ChangeShapes
end Go.Proofs.YtaeiddoccfaheaaGreat
namespace Go.Proofs.YtaeiddoccfaheaaGreat
open Go.RowKit Go.ChangeShapes Go.WideShapes
def ordDo (c : Bus) (s : Atm × List Job) (e : Ev) (r : Req) : Atm × List Job :=
 (⟨(atmDo c.map s.1.mem s.1.holds e.who r).mem, (atmDo c.map s.1.mem s.1.holds e.who r).holds⟩, s.2 ++ [⟨e.who, e.n, ⟨r.id, (atmDo c.map s.1.mem s.1.holds e.who r).code, (atmDo c.map s.1.mem s.1.holds e.who r).data⟩⟩])
def ordStep (c : Bus) (s : Atm × List Job) (e : Ev) : Atm × List Job :=
 if e.kind = 2 ∧ asksB c e.who e.n = true then ordDo c s e ((reqAt c e).getD ⟨0, 0, 0, 0, false, [], []⟩) else s
def ordAll (c : Bus) (l : List Ev) : Atm × List Job := l.foldl (ordStep c) (atmNew, [])
def atmOrder (c : Bus) (l : List Ev) : Atm × List Job := if busOk c = true ∧ l.length <= 108 then ordAll c l else (⟨[], []⟩, [])
theorem ordAll_zero (c : Bus) (l : List Ev) : ordAll c (l.take 0) = (atmNew, []) := by simp [ordAll]
theorem ordAll_succ (c : Bus) {l : List Ev} {k : Nat} (h : k < l.length) : ordAll c (l.take (k + 1)) = ordStep c (ordAll c (l.take k)) l[k] := by
 unfold ordAll
 rw [List.take_succ_eq_append_getElem h, List.foldl_append]
 rfl
theorem ordStep_no {c : Bus} {s : Atm × List Job} {e : Ev} (h : ¬ (e.kind = 2 ∧ asksB c e.who e.n = true)) : ordStep c s e = s := if_neg h
theorem ordStep_yes {c : Bus} {s : Atm × List Job} {e : Ev} {k i : Nat} (h : e.kind = 2 ∧ asksB c e.who e.n = true) (hk : k < c.progs.length) (hi : i < c.progs[k].length) (ew : e.who = k) (en : e.n = i) : ordStep c s e = ordDo c s e c.progs[k][i] := by
 obtain ⟨kd, wh, n⟩ := e
 obtain rfl : wh = k := ew
 obtain rfl : n = i := en
 unfold ordStep
 rw [if_pos h, reqAt_at hk hi]
 rfl
theorem busOk_all {c : Bus} (h : busOk c = true) : c.progs.all progOk = true := by
 unfold busOk at h
 simp only [Bool.and_eq_true, decide_eq_true_eq] at h
 exact h.2.2.2.2
theorem busOk_mp {c : Bus} (h : busOk c = true) : mapOk c.map = true := by
 unfold busOk at h
 simp only [Bool.and_eq_true, decide_eq_true_eq] at h
 exact h.1
theorem busOk_rq {c : Bus} (h : busOk c = true) {k i : Nat} (hk : k < c.progs.length) (hi : i < c.progs[k].length) : reqOk c.progs[k][i] = true := by
 have h1 := List.all_eq_true.1 (busOk_all h) c.progs[k] (List.getElem_mem hk)
 unfold progOk at h1
 simp only [Bool.and_eq_true, decide_eq_true_eq] at h1
 exact List.all_eq_true.1 h1.2 _ (List.getElem_mem hi)
structure OrdOk (s : Atm × List Job) (k : Nat) : Prop where
 ml : s.1.mem.length = 64
 hl : s.1.holds.length = 6
 mw : ∀ n, n ∈ s.1.mem -> 0 <= n ∧ n <= 65535
 hw : ∀ n, n ∈ s.1.holds -> -1 <= n ∧ n <= 63
 jl : s.2.length <= k
 jd : ∀ j, j ∈ s.2 -> j.rsp.data.length <= 4
theorem allIn_of {l : List Int} {lo hi : Int} (h : ∀ n, n ∈ l -> lo <= n ∧ n <= hi) : allIn l lo hi = true := allIn_yes fun j hj => inB_true.2 (h _ (List.getElem_mem hj))
theorem OrdOk.ok {s : Atm × List Job} {k : Nat} (h : OrdOk s k) : atmOk s.1 = true := by
 unfold atmOk
 rw [memOk_at h.ml, allIn_of h.mw, allIn_of h.hw, h.hl]
 rfl
theorem OrdOk.new : OrdOk (atmNew, []) 0 :=
 ⟨by simp [atmNew], by simp [atmNew], fun n hn => by have := List.eq_of_mem_replicate hn; omega, fun n hn => by have := List.eq_of_mem_replicate hn; omega, Nat.le_refl _, fun j hj => by simp at hj⟩
theorem burstOf_len4 {r : Req} (h : ReqF r) : (burstOf r).length <= 4 := by
 cases e : adrOk r.addr r.many r.wrap
 · unfold burstOf adrBurst
   rw [if_neg (by simp [e])]
   simp
 · have := burstOf_len e
   have := h.many
   omega
theorem atmDo_data4 {l : List MR} {m h : List Int} {who : Int} {r : Req} (hr : ReqF r) : (atmDo l m h who r).data.length <= 4 := by
 have := burstOf_len4 hr
 unfold atmDo
 repeat' split
 all_goals first | (simp [l2get]; done) | (simp [l2get]; omega)
theorem atmDo_words {l : List MR} {m h : List Int} {who : Int} {r : Req} (hr : ReqF r) (hm : ∀ n, n ∈ m -> 0 <= n ∧ n <= 65535) : ∀ n, n ∈ (atmDo l m h who r).mem -> 0 <= n ∧ n <= 65535 := by
 unfold atmDo
 repeat' split
 all_goals first | exact hm | exact putTo_in hm hr.dat hr.lan _
theorem freeH_in {h ads : List Int} (hh : ∀ n, n ∈ h -> -1 <= n ∧ n <= 63) : ∀ n, n ∈ freeH h ads -> -1 <= n ∧ n <= 63 := fun n hn => by
 obtain ⟨x, hx, rfl⟩ := List.mem_map.1 hn
 unfold frH
 split
 · omega
 · exact hh x hx
theorem atmDo_held {l : List MR} {m h : List Int} {who : Int} {r : Req} (hr : ReqF r) (hh : ∀ n, n ∈ h -> -1 <= n ∧ n <= 63) : ∀ n, n ∈ (atmDo l m h who r).holds -> -1 <= n ∧ n <= 63 := by
 unfold atmDo
 repeat' split
 all_goals first | exact hh | exact freeH_in hh | skip
 intro n hn
 rcases List.mem_or_eq_of_mem_set hn with e | e
 · exact hh n e
 · have := hr.addr; omega
theorem OrdOk.do {c : Bus} {s : Atm × List Job} {k : Nat} {e : Ev} {r : Req} (h : OrdOk s k) (hr : ReqF r) : OrdOk (ordDo c s e r) (k + 1) :=
 ⟨(atmDo_mem ..).trans h.ml, (atmDo_holds ..).trans h.hl, atmDo_words hr h.mw, atmDo_held hr h.hw, by have := h.jl; simp [ordDo]; omega, fun j hj => by
  rcases List.mem_append.1 hj with hj | hj
  · exact h.jd j hj
  · obtain rfl := List.mem_singleton.1 hj
    exact atmDo_data4 hr⟩
theorem OrdOk.more {s : Atm × List Job} {k : Nat} (h : OrdOk s k) : OrdOk s (k + 1) := ⟨h.ml, h.hl, h.mw, h.hw, Nat.le_succ_of_le h.jl, h.jd⟩
theorem ordStep_ok {c : Bus} {s : Atm × List Job} {k : Nat} {e : Ev} (hb : busOk c = true) (h : OrdOk s k) : OrdOk (ordStep c s e) (k + 1) := by
 by_cases q : e.kind = 2 ∧ asksB c e.who e.n = true
 · obtain ⟨i, j, hi, hj, ew, en⟩ := asks_at (busOk_progs hb) q.2
   rw [ordStep_yes q hi hj ew en]
   exact h.do (reqOk_facts (busOk_rq hb hi hj))
 · rw [ordStep_no q]
   exact h.more
theorem ordAll_ok {c : Bus} (hb : busOk c = true) (l : List Ev) : ∀ k, k <= l.length -> OrdOk (ordAll c (l.take k)) k
 | 0, _ => by rw [ordAll_zero]; exact OrdOk.new
 | k + 1, h => by rw [ordAll_succ c (by omega)]; exact ordStep_ok hb (ordAll_ok hb l k (by omega))
end Go.Proofs.YtaeiddoccfaheaaGreat
