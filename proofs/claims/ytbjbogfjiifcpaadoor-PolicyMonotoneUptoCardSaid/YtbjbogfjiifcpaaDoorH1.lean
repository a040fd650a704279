/- What callers must know of small functions. -/
import Derived.Test.YtbjbogfjiifcpaaDoorM
import Derived.Test.YtbjbogfjiifcpaaDoorL0
import Derived.KernelRfl
namespace Go.Proofs.YtbjbogfjiifcpaaDoor
open Go.RowKit
theorem cut_lt {s : List UInt8} {b : UInt8} (h : (strings_Cut s [b]).2.2 = true) (h0 : ¬ s = []) : (strings_Cut s [b]).2.1.length + 1 ≤ s.length := by
  have hl : 0 < s.length := List.length_pos_iff.2 h0
  unfold strings_Cut Go.Lib.cut at *
  split
  · simp only [List.length_drop, List.length_cons, List.length_nil]; omega
  · rename_i hn; rw [if_neg hn] at h; cases h
theorem polValid_len {p : S_api_Policy} (h : policy_Valid p = true) : p.Rules.length ≤ 20 := by
  unfold policy_Valid at h
  have := (ifT h).1
  simp at this
  omega
theorem refValid_len {p : S_api_Policy} (h : specieref46_Valid p = true) : p.Rules.length ≤ 20 := by
  unfold specieref46_Valid at h
  have := (ifF h).1
  simp at this
  omega
end Go.Proofs.YtbjbogfjiifcpaaDoor
