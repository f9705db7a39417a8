/-
  Texts: join (the program's), one word and numbers.
-/
import Derived.Test.YtaeiddoccfaheaaDoorShelf
import Derived.Test.YtaeiddoccfaheaaDoorPlain
import Derived.Lib.OthersKept
import Derived.Lib.AppendIntMem
import Derived.WalkSmall
import Derived.Deep.Cut
namespace Go.Proofs.YtaeiddoccfaheaaDoor
set_option linter.unusedVariables false
set_option linter.unusedSimpArgs false
open Go.RowKit

/-- a number behind a space -/
def tk (n : Int) : List UInt8 := 32 :: Lib.decDigits n.toNat
theorem tk_len (n : Int) (h1 : n < 9223372036854775808) : (tk n).length ≤ 21 := by
  have := digits_len n.toNat (by omega)
  simp [tk]; omega
theorem tks_len (l : List Int) (h : ∀ n, n ∈ l → n < 9223372036854775808) : (l.flatMap tk).length ≤ 21 * l.length := by
  induction l with
  | nil => simp
  | cons x l ih =>
    have h1 := tk_len x (h x (by simp))
    have h2 := ih (fun n hn => h n (by simp [hn]))
    rw [List.flatMap_cons, List.length_append, List.length_cons]
    omega
theorem itoa_pos {n : Int} (h : 0 ≤ n) : Lib.itoa n = Lib.decDigits n.toNat := by
  unfold Lib.itoa
  rw [if_neg (by omega)]
theorem tks_take {l : List Int} {k : Nat} (h : k < l.length) : (l.take (k + 1)).flatMap tk = (l.take k).flatMap tk ++ tk l[k] := by
  rw [List.take_succ_eq_append_getElem h, List.flatMap_append]
  simp

/-- the table that the library reads -/
def Pow (w : World) : Prop := Lib.TabIs Tryd.prog w "internal/strconv.uint64pow10" .u64 Lib.pow10Tab
theorem Pow.below {w w' : World} (h : Pow w) (hb : Below w.heap.size w w') : Pow w' := by
  unfold Pow Lib.TabIs World.var? at h ⊢
  have hg : Tryd.prog.globalNamed "internal/strconv.uint64pow10" = some 2 := by kernel_rfl
  rw [hg] at h ⊢
  simp only [Option.bind_some] at h ⊢
  have hlt : 2 < w.heap.size := by
    rcases Nat.lt_or_ge 2 w.heap.size with h' | h'
    · exact h'
    · rw [Array.getElem?_eq_none h'] at h; cases h
  rw [hb.block 2 hlt]
  exact h
theorem bld_keep {T e : TypeId} {B b : Nat} {bs : List Value} {w w' : World} (h : Lib.IsBuilderF T e B b bs w) (hb : Below w.heap.size w w') : Lib.IsBuilderF T e B b bs w' := by
  have one : ∀ p, Lib.BuilderAtF T e B b p bs w → Lib.BuilderAtF T e B b p bs w' := fun p h => by
    have hlt := h.lt
    obtain ⟨hB, v, hb', hown, hne⟩ := h
    exact ⟨hB, v, (hb.block b hlt).trans hb', hown.kept (row := none) ⟨hb.os, hb.tape, hb.output, hb.size, fun k hk _ => hb.block k hk⟩ (by cases hv : v.ownBlock <;> simp), hne⟩
  exact h.elim (fun x => .inl (one _ x)) (fun x => .inr (one _ x))

set_option maxRecDepth 100000 in
set_option maxHeartbeats 3200000 in
theorem join_any (s : ByteArray) (wl : List UInt8) (hs : s = ⟨wl.toArray⟩) (hwl : wl.length ≤ 100) (v : Value) (l : List Int) (fp : List Nat) (hl : l.length ≤ 1000) (hr : ∀ n, n ∈ l → 0 ≤ n ∧ n ≤ 9223372036854775807) (w : World) (hp : Pow w) (g : SlR 1 intR w l v fp) :
    Calls Tryd.prog 28 #[.string s, v] w fun e w' => e = .returned (.string ⟨(wl ++ l.flatMap tk).toArray⟩) ∧ Below w.heap.size w w' := by
  obtain ⟨a, n, c, rfl, hn, hcap, hmax, hcm, r⟩ := g.opened
  have hz : s.size = wl.length := by rw [hs]; rfl
  have hfs : Lib.IsBuilderF 62 5 w.heap.size w.heap.size [] (w.alloc (.cells #[.pointer none, .slice none 0 0] 62)) := Lib.IsBuilderF.of (Lib.fresh_isBuilder _ _ w)
  obtain ⟨w1, hw1⟩ : ∃ z, z = w.alloc (.cells #[.pointer none, .slice none 0 0] 62) := ⟨_, rfl⟩
  have b1 : Below w.heap.size w w1 := by rw [hw1]; exact below_alloc _ _
  rw [← hw1] at hfs
  have HS := Lib.hid hs
  have HP := Lib.hid hp
  have HR := Lib.hid hr
  have HF := Lib.hid hfs
  have B1 := Lib.hid b1
  have HZ := Lib.hid hz
  have R := Lib.hid r
  have hnl : n ≤ 1000 := by have := hn.out; omega
  clear g hs hp hr hfs b1 hz r
  go_enter Tryd.func28, Tryd.ntmps28
  go_upto_region 2 with fail
  rw [← hw1]
  clear hw1
  go_wp2_with fail
  refine (Tryd.Builder_WriteString_k w.heap.size w.heap.size [] s w1 HF.out (by have := HZ.out; simp; omega) B1.out.size).mono ?_
  rintro e w2 ⟨rfl, h2, b2, -⟩
  have H2 : Hid (Lib.IsBuilderF 62 5 w.heap.size w.heap.size (Lib.byteCells (wl ++ (l.take 0).flatMap tk)) w2) := Lib.hid (by
    rw [HS.out, Lib.strCells_toArray] at h2
    rw [List.take_zero, List.flatMap_nil, List.append_nil]
    exact Or.inr h2)
  have B2 := Lib.hid (B1.out.trans b2)
  clear h2 b2 HF B1
  go_wp2_with fail
  go_loopw [12] (fun i wr => ∃ k : Nat, k ≤ n ∧ i = .int .i64 (k : Int) ∧ Lib.IsBuilderF 62 5 w.heap.size w.heap.size (Lib.byteCells (wl ++ (l.take k).flatMap tk)) wr ∧ Below w.heap.size w wr) (fun i _ => n - (intOf i).toNat)
  case atStart => exact ⟨0, Nat.zero_le _, rfl, H2.out, B2.out⟩
  case round =>
    obtain ⟨k, hk, rfl, h3, b3⟩ := hrel
    have H3 := Lib.hid h3
    have B3 := Lib.hid b3
    clear h3 b3
    by_cases hlt : k < n
    · have hlti : (k : Int) < (n : Int) := by omega
      obtain ⟨i1, bb, bo, f1, cs1, rfl, hbb, _, _, hR1, e1⟩ := R.out k hlt
      obtain ⟨rfl, rfl⟩ := hR1
      have c1 := (B3.out.cell (p := ⟨bb, bo + k * 1 + 0, none⟩) hbb).trans (e1 0 (by simp))
      simp only [Nat.mul_one, Nat.add_zero, List.getElem_cons_zero] at c1
      obtain ⟨z, hz⟩ : ∃ z, z = l[k] := ⟨_, rfl⟩
      rw [← hz] at c1
      have hz01 : 0 ≤ z ∧ z ≤ 9223372036854775807 := by rw [hz]; exact HR.out _ (List.getElem_mem i1)
      have HZk := Lib.hid hz
      have IK := Lib.hid i1
      clear e1 hz
      go_wp2_with fail
      refine (Tryd.strconv_Itoa z (by omega) hz01.2 _ (HP.out.below (B3.out))).mono ?_
      rintro e w4 ⟨rfl, k4, os4, hw4⟩
      have b4 : Below wr.heap.size wr w4 := by rw [hw4]; exact Lib.below_grow _ _ (Nat.le_refl _) _ _
      have H4 := Lib.hid (bld_keep H3.out b4)
      have B4 := Lib.hid (B3.out.trans (b4.mono B3.out.size))
      obtain ⟨t, ht⟩ : ∃ t : ByteArray, t = ⟨(Lib.itoa z).toArray⟩ := ⟨_, rfl⟩
      rw [← ht]
      have hts : t.size ≤ 20 := by
        rw [ht, itoa_pos hz01.1]
        exact digits_len z.toNat (by omega)
      have HT := Lib.hid ht
      clear b4 hw4 ht H3 B3 c1
      have hq : ¬ (1 + t.size > 9223372036854775807) := by omega
      have hal : (wl ++ (l.take k).flatMap tk).length ≤ 30000 := by
        have h1 := tks_len (l.take k) (fun q hq' => by have := (HR.out q (List.mem_of_mem_take hq')).2; omega)
        have h2 : (l.take k).length ≤ 1000 := by rw [List.length_take]; omega
        rw [List.length_append]
        omega
      have hz5 : ((⟨#[32]⟩ : ByteArray) ++ t).size ≤ 21 := by
        rw [ByteArray.size_append']
        show 1 + t.size ≤ 21
        omega
      go_wp2_with fail
      refine (Tryd.Builder_WriteString_k w.heap.size w.heap.size (Lib.byteCells (wl ++ (l.take k).flatMap tk)) _ w4 H4.out (by rw [Lib.byteCells_length]; omega) B4.out.size).mono ?_
      rintro e w5 ⟨rfl, h5, b5, -⟩
      have H5 : Hid (Lib.IsBuilderF 62 5 w.heap.size w.heap.size (Lib.byteCells (wl ++ (l.take (k + 1)).flatMap tk)) w5) := Lib.hid (by
        have e5 : Lib.byteCells (wl ++ (l.take k).flatMap tk) ++ Lib.strCells (⟨#[32]⟩ ++ t) = Lib.byteCells (wl ++ (l.take (k + 1)).flatMap tk) := by
          rw [tks_take IK.out, HT.out, itoa_pos hz01.1, ← HZk.out, ← List.append_assoc, Lib.byteCells_append (wl ++ (l.take k).flatMap tk)]
          congr 1
        rw [e5] at h5
        exact Or.inr h5)
      have B5 := Lib.hid (B4.out.trans b5)
      clear h5 b5 H4 B4
      go_wp2
      go_roundw
      case rel => exact ⟨k + 1, by omega, by go_num, H5.out, B5.out⟩
      case measure => simp [intOf]; omega
    · have hnlt : ¬ (k : Int) < (n : Int) := by omega
      have hkn : k = l.length := by have := hn.out; omega
      go_wp2_with fail
      refine (Tryd.Builder_String_any_k w.heap.size w.heap.size (wl ++ (l.take k).flatMap tk) _ H3.out B3.out.size).mono ?_
      rintro e w4 ⟨rfl, -, b4, -⟩
      have B4 := Lib.hid (B3.out.trans b4)
      rw [show l.take k = l from by rw [hkn, List.take_length]]
      clear b4 B3 H3 hkn
      go_wp2
      go_ret
      exact ⟨rfl, B4.out⟩

end Go.Proofs.YtaeiddoccfaheaaDoor
