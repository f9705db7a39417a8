/-
  Several new slices together.
-/
import Derived.Test.YtaeiddoccfaheaaDoorProg
import Derived.Test.YtaeiddoccfaheaaDoorBase
namespace Go.Proofs.YtaeiddoccfaheaaDoor
set_option linter.unusedVariables false
set_option linter.unusedSimpArgs false

theorem nodup_app {p q : List Nat} (h1 : p.Nodup) (h2 : q.Nodup) (h : ∀ b, b ∈ p → b ∉ q) : (p ++ q).Nodup :=
  List.nodup_append.2 ⟨h1, h2, fun a ha b hb e => h a ha (e ▸ hb)⟩
theorem Free.app {p q : List Nat} {w : World} (h1 : Free p w) (h2 : Free q w) : Free (p ++ q) w := fun b hb => (List.mem_append.1 hb).elim (h1 b) (h2 b)
theorem all_app {p q : List Nat} {T : Nat → Prop} (h1 : ∀ b, b ∈ p → T b) (h2 : ∀ b, b ∈ q → T b) : ∀ b, b ∈ p ++ q → T b := fun b hb => (List.mem_append.1 hb).elim (h1 b) (h2 b)
end Go.Proofs.YtaeiddoccfaheaaDoor
