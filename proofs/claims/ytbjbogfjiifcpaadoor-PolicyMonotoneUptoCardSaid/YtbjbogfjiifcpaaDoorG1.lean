/- What the program's variables hold when a call begins. -/
import Derived.Test.YtbjbogfjiifcpaaDoorF
import Derived.Test.YtbjbogfjiifcpaaDoorK
import Derived.Shelf.Vars
namespace Go.Proofs.YtbjbogfjiifcpaaDoor
open Go.RowKit
theorem gl_of {W : World} (hsh : W.ShapedOpen Tryd.prog) : Gl En (base0 W) := by
  obtain ⟨m, hm⟩ := cell_of_shapedOpen_int (P := Tryd.prog) (g := 0) (t := 3) (zero := #[.int .i64 0]) hsh (of_decide_eq_true (by kernel_rfl)) (by kernel_rfl) rfl (by kernel_rfl) (by kernel_rfl) Tryd.underlying3
  intro g v hg
  have hg' : (if g = 0 then some (V.pp 1 false (.opq isI64)) else none) = some v := hg
  split at hg'
  · rename_i e
    subst e
    cases hg'
    refine ⟨trivial, ?_⟩
    simp only [rd]
    have hlt : 0 < W.heap.size := by
      rcases Nat.eq_zero_or_pos W.heap.size with h | h
      · simp [World.cell?, Array.getElem?_eq_none (show W.heap.size ≤ 0 by omega)] at hm
      · exact h
    refine ⟨0, 0, [.int .i64 m], rfl, hlt, (show (0 : Nat) ∉ ([] : List Nat) from List.not_mem_nil), ?_, one_shape rfl, ⟨m, rfl⟩, rfl, ?_⟩
    rotate_left
    · intros; intro _ _; intros; assumption
    intro j u hj
    match j, hj with
    | 0, hj => cases hj; exact hm
  · cases hg'
end Go.Proofs.YtbjbogfjiifcpaaDoor
