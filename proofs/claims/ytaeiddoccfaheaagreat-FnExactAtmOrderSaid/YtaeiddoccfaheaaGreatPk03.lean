/-
 Texts of this claim laid together: Frm.
-/
import Derived.Test.YtaeiddoccfaheaaGreatPk02
set_option linter.unusedVariables false
set_option linter.unusedSimpArgs false
namespace Go.Proofs.YtaeiddoccfaheaaGreat
open Go
def frm (n : Nat) (l : List (Nat × Value)) : List Value := l.foldl (fun L p => L.set p.1 p.2) (List.replicate n undef)
theorem frm_len (n : Nat) (l : List (Nat × Value)) : (frm n l).length = n := by
 unfold frm
 have : ∀ (l : List (Nat × Value)) (L : List Value), (l.foldl (fun L p => L.set p.1 p.2) L).length = L.length := by
  intro l
  induction l with
  | nil => intro L; rfl
  | cons p l ih => intro L; rw [List.foldl_cons, ih]; simp
 rw [this]; simp
theorem frm_lt {n d : Nat} {l : List (Nat × Value)} (h : d < n) : d < (frm n l).toArray.size := by
 rw [List.size_toArray, frm_len]; exact h
variable {P : Program} {ops : Array Oper} {Q : Exit -> Act -> World -> Prop}
theorem Owes.q {T : Nat -> List Nat} {R : Nat -> Value -> World -> Prop} {I : Nat -> World -> Prop} {a0 : Act} {i : Nat} {o : Oper} (n : Nat) (l : (Nat -> Value) -> List (Nat × Value))
 (h : ∀ (u : Nat -> Value) (w : World), (∃ m, I m w) -> (∀ j, j ∈ T i -> R j (u j) w) -> wpList P #[] (Via ⟨(frm n (l u)).toArray, []⟩ o (fun v w' => R i v w' ∧ w' = w)) [o] ⟨(frm n (l u)).toArray, []⟩ w)
 (ho : ops[i]? = some o := by exact rfl) (hg : o.guard = none := by exact rfl) (hs : ∀ cs b, o.op ≠ .select cs b := by exact fun _ _ h => by cases h) (hI1 : ∀ m w, I m w -> I (m + 1) w := by exact fun _ _ h => h) (hd : ∀ d, o.dst = some d -> d < n := by exact fun d e => by cases e; decide)
 (he : ∀ u, o.op.operands.toList.map (rho ops a0 u i) = o.op.operands.toList.map (Act.eval ⟨(frm n (l u)).toArray, []⟩) := by exact fun _ => rfl) : Owes P ops Q T R I a0 i := by
 intro o' ho' u m w hm hI hR a hev
 obtain rfl : o' = o := Option.some.inj (ho'.symm.trans ho)
 have h1' : ∀ x, x ∈ o'.op.operands -> rho ops a0 u i x = (Act.mk (frm n (l u)).toArray []).eval x := fun x hx => List.map_inj_left.1 (he u) x (by simpa using hx)
 refine Oper.wp_mono (fun a' w' h3 => ?_) (wp_via (a1 := ⟨(frm n (l u)).toArray, []⟩) hg hs (fun x hx => (hev x hx).trans (h1' x hx)) (fun d e => frm_lt (hd d e)) (h u w ⟨m, hI⟩ hR))
 obtain ⟨v, e, hRv, rfl⟩ := h3
 exact ⟨v, e, hRv, hI1 m _ hI, fun _ _ hx => hx⟩
end Go.Proofs.YtaeiddoccfaheaaGreat
