/-
  Whether a bus may stand so, in plain terms: as the reference looks at it, and as the program does.
-/
import Derived.Test.YtmmojgopeaelcaaTOk4
import Derived.Test.YtmmojgopeaelcaaTlm
import Derived.Test.YtmmojgopeaelcaaAtmOk
import Derived.Test.YtmmojgopeaelcaaBusOk
namespace Go.Proofs.Ytmmojgopeaelcaa
set_option linter.unusedVariables false
set_option linter.unusedSimpArgs false
open Go.RowKit Go.ChangeShapes

theorem any_false_iff {α : Type} {p : α → Bool} {l : List α} : l.any p = false ↔ ∀ x, x ∈ l → p x = false := by
  rw [List.any_eq_false]
  exact ⟨fun h x hx => by simpa using h x hx, fun h x hx => by simp [h x hx]⟩

theorem fresh_iff (l : List Job) : fresh l = true ↔ l.Pairwise (fun x y => isJob y.who y.n x = false) := by
  rw [List.pairwise_iff_getElem]
  constructor
  · intro h i j hi hj hij
    have := fresh_at h j hj hj
    rw [any_false_iff] at this
    exact this _ (List.mem_take_iff_getElem.2 ⟨i, by omega, rfl⟩)
  · intro h
    refine fresh_yes (m := l.length) (fun k hk _ => ?_) (Nat.le_refl _)
    rw [any_false_iff]
    intro x hx
    obtain ⟨i, hi, rfl⟩ := List.mem_take_iff_getElem.1 hx
    exact h i k (by omega) hk (by omega)

theorem before_trans {a b c : Job} (h : jobBefore a b = true) (g : jobBefore b c = true) : jobBefore a c = true := by
  unfold jobBefore at *
  simp only [Bool.or_eq_true, Bool.and_eq_true, decide_eq_true_eq, beq_iff_eq] at *
  omega
theorem before_not {a b : Job} (h : jobBefore a b = true) : isJob b.who b.n a = false := by
  cases q : isJob b.who b.n a with
  | false => rfl
  | true =>
    unfold isJob at q
    unfold jobBefore at h
    simp only [Bool.or_eq_true, Bool.and_eq_true, decide_eq_true_eq, beq_iff_eq] at h q
    omega

theorem rise_fresh {l : List Job} (h : rise l = true) : fresh l = true := by
  rw [fresh_iff, List.pairwise_iff_getElem]
  have hr := rise_at h
  have key : ∀ d i j (hi : i < l.length) (hj : j < l.length), j = i + d + 1 → jobBefore l[i] l[j] = true := by
    intro d
    induction d with
    | zero =>
      intro i j hi hj e
      have := hr j hj (by omega) hj
      have e2 : l[j - 1]'(by omega) = l[i] := by congr 1; omega
      rw [e2] at this; exact this
    | succ d ih =>
      intro i j hi hj e
      have h1 := ih i (j - 1) hi (by omega) (by omega)
      exact before_trans h1 (hr j hj (by omega) hj)
  intro i j hi hj hij
  exact before_not (key (j - i - 1) i j hi hj (by omega))

/-- no job of b is one of a -/
def noneIn (b a : List Job) : Bool := b.all fun j => !a.any (isJob j.who j.n)
theorem noneIn_iff (b a : List Job) : noneIn b a = true ↔ ∀ x, x ∈ a → ∀ y, y ∈ b → isJob y.who y.n x = false := by
  unfold noneIn
  rw [List.all_eq_true]
  constructor
  · intro h x hx y hy
    have := h y hy
    rw [Bool.not_eq_true', any_false_iff] at this
    exact this x hx
  · intro h y hy
    rw [Bool.not_eq_true', any_false_iff]
    exact fun x hx => h x hx y hy

theorem fresh_app (a b : List Job) : fresh (a ++ b) = (fresh a && (fresh b && noneIn b a)) := by
  rw [Bool.eq_iff_iff]
  simp only [Bool.and_eq_true, fresh_iff, noneIn_iff, List.pairwise_append]

theorem noneIn_app (c a b : List Job) : noneIn c (a ++ b) = (noneIn c a && noneIn c b) := by
  rw [Bool.eq_iff_iff]
  simp only [Bool.and_eq_true, noneIn_iff, List.mem_append]
  exact ⟨fun h => ⟨fun x hx => h x (.inl hx), fun x hx => h x (.inr hx)⟩, fun ⟨h1, h2⟩ x hx => hx.elim (h1 x) (h2 x)⟩

/-- so many of each was asked, and no more than there is -/
def askIn (c : Bus) (asked : List Int) : Bool := (List.range 3).all fun k => inB ((asked[k]?).getD 0) 0 (((c.progs[k]?).getD []).length)
/-- the rest, once what was asked is ok: as the reference looks at it -/
noncomputable def tlmJobs (c : Bus) (x : Tlm) : Bool :=
  jobsOk c x.asked x.wait false && (jobsOk c x.asked x.done true && (toldOk c x.asked x.told && (((x.wait.length : Int) + x.done.length + x.told.length == x.asked.sum) && ((noneIn x.told x.wait && noneIn x.told x.done) && noneIn x.done x.wait))))
/-- a bus may stand so -/
noncomputable def tlmOk (c : Bus) (x : Tlm) : Bool := busOk c && (atmOk x.atm && (decide (x.asked.length = 3) && (askIn c x.asked && tlmJobs c x)))

/-- as the program looks at it -/
noncomputable def tlmJobsI (c : Bus) (x : Tlm) : Bool :=
  x.wait.all (jobGood c x.asked false) && (x.done.all (jobGood c x.asked true) && (x.told.all (jobGood c x.asked true) && (fresh (x.wait ++ x.done ++ x.told) && ((x.wait.length : Int) + x.done.length + x.told.length == x.asked.sum))))

theorem tlmJobs_eq (c : Bus) (x : Tlm) : tlmJobs c x = (rise x.wait && (rise x.done && tlmJobsI c x)) := by
  unfold tlmJobs tlmJobsI jobsOk toldOk
  cases h1 : rise x.wait with
  | false => simp
  | true =>
    cases h2 : rise x.done with
    | false => simp
    | true =>
      rw [fresh_app, fresh_app, rise_fresh h1, rise_fresh h2, noneIn_app]
      rw [Bool.eq_iff_iff]
      simp only [Bool.and_eq_true]
      constructor
      · rintro ⟨⟨a, -⟩, ⟨b, -⟩, ⟨d, e⟩, f, ⟨g, h⟩, i⟩
        exact ⟨trivial, trivial, a, b, d, ⟨⟨trivial, trivial, i⟩, e, g, h⟩, f⟩
      · rintro ⟨-, -, a, b, d, ⟨⟨-, -, i⟩, e, g, h⟩, f⟩
        exact ⟨⟨a, trivial⟩, ⟨b, trivial⟩, ⟨d, e⟩, f, ⟨g, h⟩, i⟩

theorem askIn_ok {c : Bus} {asked : List Int} (hb : busOk c = true) (hl : asked.length = 3) (h : askIn c asked = true) : AskOk c asked := by
  have hp := busOk_progs hb
  refine ⟨hl, hp, fun k hk hk' => ?_⟩
  unfold askIn at h
  rw [List.all_eq_true] at h
  have h1 := inB_true.1 (h k (List.mem_range.2 (by omega)))
  simp only [hk, hk', getElem?_pos, Option.getD_some] at h1
  refine ⟨h1.1, h1.2, ?_⟩
  unfold busOk at hb
  simp only [Bool.and_eq_true, List.all_eq_true] at hb
  have := hb.2.2.2.2 c.progs[k] (List.getElem_mem hk')
  unfold progOk at this
  simp only [Bool.and_eq_true, decide_eq_true_eq] at this
  exact this.1

end Go.Proofs.Ytmmojgopeaelcaa
