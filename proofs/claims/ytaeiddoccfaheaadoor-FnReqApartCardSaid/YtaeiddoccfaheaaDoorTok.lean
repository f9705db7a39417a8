/-
  Texts whose words are told apart by single spaces: what they are made of. No program in sight.
-/
import Derived.Test.YtaeiddoccfaheaaDoorText
namespace Go.Proofs.YtaeiddoccfaheaaDoor
set_option linter.unusedVariables false
set_option linter.unusedSimpArgs false

/-- words, each behind a space -/
def sp (ts : List (List UInt8)) : List UInt8 := ts.flatMap fun t => 32 :: t
theorem sp_cons (t : List UInt8) (ts : List (List UInt8)) : sp (t :: ts) = 32 :: (t ++ sp ts) := by simp [sp]
theorem split32 : ∀ (a b x y : List UInt8), (32 : UInt8) ∉ a → (32 : UInt8) ∉ b → a ++ 32 :: x = b ++ 32 :: y → a = b ∧ x = y
  | [], [], _, _, _, _, h => by simpa using h
  | [], c :: b, _, _, _, hb, h => by simp at h; exact absurd h.1.symm (by intro e; exact hb (by simp [e]))
  | c :: a, [], _, _, ha, _, h => by simp at h; exact absurd h.1 (by intro e; exact ha (by simp [e]))
  | c :: a, d :: b, x, y, ha, hb, h => by
    simp only [List.cons_append, List.cons.injEq] at h
    obtain ⟨h1, h2⟩ := split32 a b x y (fun m => ha (by simp [m])) (fun m => hb (by simp [m])) h.2
    exact ⟨by rw [h.1, h1], h2⟩
theorem sp_inj : ∀ (ts us : List (List UInt8)) (a b : List UInt8), (32 : UInt8) ∉ a → (32 : UInt8) ∉ b → (∀ t, t ∈ ts → (32 : UInt8) ∉ t) → (∀ t, t ∈ us → (32 : UInt8) ∉ t) → a ++ sp ts = b ++ sp us → a = b ∧ ts = us
  | [], [], a, b, _, _, _, _, h => by simpa [sp] using h
  | [], u :: us, a, b, ha, _, _, _, h => by
    rw [sp_cons] at h
    simp only [sp, List.flatMap_nil, List.append_nil] at h
    exact absurd (show (32 : UInt8) ∈ a by rw [h]; simp) ha
  | t :: ts, [], a, b, _, hb, _, _, h => by
    rw [sp_cons] at h
    simp only [sp, List.flatMap_nil, List.append_nil] at h
    exact absurd (show (32 : UInt8) ∈ b by rw [← h]; simp) hb
  | t :: ts, u :: us, a, b, ha, hb, ht, hu, h => by
    rw [sp_cons, sp_cons] at h
    obtain ⟨e1, e2⟩ := split32 a b _ _ ha hb h
    obtain ⟨e3, e4⟩ := sp_inj ts us t u (ht t (by simp)) (hu u (by simp)) (fun x hx => ht x (by simp [hx])) (fun x hx => hu x (by simp [hx])) e2
    exact ⟨e1, by rw [e3, e4]⟩

theorem digits_range (n : Nat) : ∀ c, c ∈ Lib.decDigits n → 48 ≤ c.toNat ∧ c.toNat ≤ 57 := by
  induction n using Nat.strongRecOn with
  | ind n ih =>
    intro c hc
    rw [Lib.decDigits] at hc
    split at hc
    · simp only [List.mem_singleton] at hc
      subst hc
      rw [UInt8.toNat_ofNat']
      omega
    · rw [List.mem_append] at hc
      rcases hc with hc | hc
      · exact ih (n / 10) (by omega) c hc
      · simp only [List.mem_singleton] at hc
        subst hc
        rw [UInt8.toNat_ofNat']
        omega
theorem digits_no (n : Nat) : (32 : UInt8) ∉ Lib.decDigits n := fun h => by
  have := digits_range n 32 h
  revert this
  decide
/-- what digits say -/
def valOf (l : List UInt8) : Nat := l.foldl (fun a c => 10 * a + (c.toNat - 48)) 0
theorem val_digits (n : Nat) : valOf (Lib.decDigits n) = n := by
  induction n using Nat.strongRecOn with
  | ind n ih =>
    rw [Lib.decDigits]
    split
    · unfold valOf
      simp only [List.foldl_cons, List.foldl_nil, UInt8.toNat_ofNat']
      omega
    · have h1 := ih (n / 10) (by omega)
      unfold valOf at h1 ⊢
      rw [List.foldl_append, h1]
      simp only [List.foldl_cons, List.foldl_nil, UInt8.toNat_ofNat']
      omega
theorem digits_inj {m n : Nat} (h : Lib.decDigits m = Lib.decDigits n) : m = n := by
  rw [← val_digits m, h, val_digits]
theorem num_inj {m n : Int} (hm : 0 ≤ m) (hn : 0 ≤ n) (h : Lib.decDigits m.toNat = Lib.decDigits n.toNat) : m = n := by
  have := digits_inj h
  omega
theorem nums_inj {l m : List Int} (hl : ∀ n, n ∈ l → 0 ≤ n) (hm : ∀ n, n ∈ m → 0 ≤ n) (h : l.map (fun n => Lib.decDigits n.toNat) = m.map fun n => Lib.decDigits n.toNat) : l = m := by
  induction l generalizing m with
  | nil => cases m with
    | nil => rfl
    | cons y m => simp at h
  | cons x l ih => cases m with
    | nil => simp at h
    | cons y m =>
      simp only [List.map_cons, List.cons.injEq] at h
      rw [num_inj (hl x (by simp)) (hm y (by simp)) h.1, ih (fun n hn => hl n (by simp [hn])) (fun n hn => hm n (by simp [hn])) h.2]
theorem tks_sp (l : List Int) : l.flatMap tk = sp (l.map fun n => Lib.decDigits n.toNat) := by
  unfold sp tk
  rw [List.flatMap_map]
theorem map_no (l : List Int) : ∀ t, t ∈ l.map (fun n => Lib.decDigits n.toNat) → (32 : UInt8) ∉ t := fun t ht => by
  obtain ⟨n, _, rfl⟩ := List.mem_map.1 ht
  exact digits_no _

end Go.Proofs.YtaeiddoccfaheaaDoor
