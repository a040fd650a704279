import Derived.Test.YtcbdmoihobdjaaaB8
namespace Go.Proofs.Ytcbdmoihobdjaaa
open Go.RowKit
section
variable {P : Program} {K : Value → World → Prop} {F : Fm} {o : Oper} {c : Cx} {w : World}
def ResIs (P : Program) (F : Fm) (w : World) : ResultVar → Value → Prop
 | .tmp t, v => F t = v
 | .cell t T, v => ∃ a, F t = .pointer (some a) ∧ (loadVar T a).run P w = .ok v w
theorem res_cell {α : Type} {r : Rep α} {t T b : Nat} {d : α} (hT : TyOk P T r) (hv : Var c b r d) (hx : F t = .pointer (some ⟨b, 0, none⟩)) : ∃ v, ResIs P F c.w (.cell t T) v ∧ r.val c v d := by
 obtain ⟨cs, h1, h2⟩ := var_part hv (Sub.self r)
 exact ⟨_, ⟨_, hx, run_loadVar_at hT h2 h1⟩, ⟨_, h2, rfl⟩⟩
section
variable {fn : Func} {n : Nat} {a : Act} {r1 r2 r3 r4 : ResultVar} {v1 v2 v3 v4 : Value}
def oneResult (tmps : Array Value) : ResultVar → Sem Value
 | .tmp t => pure (tmps.getD t undef)
 | .cell a t => do loadVar t (← asAddr (tmps.getD a undef))
theorem results_eq (fn : Func) (tmps : Array Value) : results fn tmps = (do
  let vs ← fn.results.mapM (oneResult tmps)
  pure (if h : vs.size = 1 then vs[0] else .tuple vs)) := by
 have e : oneResult tmps = (fun
  | .tmp t => pure (tmps.getD t undef)
  | .cell a t => do loadVar t (← asAddr (tmps.getD a undef))) := by funext r; cases r <;> rfl
 rw [e]; rfl
theorem resIs_run (hf : Fr n F a) {r : ResultVar} {v : Value} (h : ResIs P F w r v) : (oneResult a.tmps r).run P w = .ok v w := by
 cases r with
 | tmp t => simp only [oneResult, Sem.run_pure]; rw [hf.slot]; exact congrArg (Result.ok · w) h
 | cell t T =>
  obtain ⟨ad, h1, h2⟩ := h
  simp only [oneResult, hf.slot, h1, asAddr, Sem.run_bind, Sem.run_pure, Result.andThen_ok]
  exact h2
end
end
end Go.Proofs.Ytcbdmoihobdjaaa
