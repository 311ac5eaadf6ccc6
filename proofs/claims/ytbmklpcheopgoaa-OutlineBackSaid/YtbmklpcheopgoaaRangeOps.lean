/- Laws for the walks of functions that range over functions: how such a function ends, and a yield that is called in a region that draws its order. Any program. -/
import Derived.Test.YtbmklpcheopgoaaIt
import Derived.OrdersIn
import Derived.OwnWalkIn
import Derived.TacticsInMore
import Derived.Outline
import Derived.Deep.Draws
import Derived.RangeFuncLeaves
import Derived.Test.YtbmklpcheopgoaaOps
namespace Go.Proofs.YtbmklpcheopgoaaIt
open Go Go.RowKit

theorem leaves_collected {F : Fence} {n : Nat} {P : Program} {fn : Func} {tmps : Array Value} {R : Ending → World → Prop} {D : Nat} {V : World} (hd : V.heap[D]? = some (.deferred (some [])))
    (h : ∀ V', Chg (fun b => b = D) V V' → ∃ v, (results fn tmps).run P V' = .ok v V' ∧ R (.returned v) V') : LeavesInM F n P fn tmps R [{ target := .collected D, args := #[] }] .returning V := by
  obtain ⟨v, hv, hr⟩ := h _ (Chg.putSelf V D _)
  refine ⟨by simp, .inl ⟨D, _, rfl, run_takeDeferred hd, ?_⟩⟩
  exact ⟨v, hv, hr⟩

theorem op_yield {F : Fence} {n : Nat} {P : Program} {o : Oper} {a : Act} {w : World} {K : Act → World → Prop} {Q : Exit → Act → World → Prop} {x : Operand} {args : Array Operand} {ts : Array TypeId} {l : Nat} {R : Ending → World → Prop}
    (ho : o.op = .call { callee := .value x, args := args, argTypes := ts }) (hx : a.eval x = .func (.yield l) #[] #[])
    {vs : Array Value} (hvs : args.map a.eval = vs) (hY : YieldAt F (n - 1) P l vs w R) (hF : F.depth = none) (hfn : ∀ f, F.fn f) (h : ∀ e w', R e w' → ∃ v, e = .returned v ∧ K (a.put o.dst v) w') : Oper.wpIn F n P o a w K Q := by
  subst hvs
  obtain ⟨fn, tmps, assign, body, hy, hR⟩ := hY
  have hargs : (args.map a.eval) = (args.map a.eval) := rfl
  unfold Oper.wpIn
  refine ⟨fun f _ => hfn f, ?_⟩
  rw [Oper.semAt_plain F _ _ (by rw [ho]; intro c hc'; cases hc')]
  simp only [execOp, ho, resolve, hx]
  simp [go_sem, invoke, hy, Result.andThen, Sem.run_bind]
  refine ⟨fun hh => (by rw [hF] at hh; cases hh), RoundIn.mono hR fun e w' hr => ?_⟩
  obtain ⟨v, rfl, hk⟩ := h _ _ hr
  exact hk

theorem run_app {P : Program} {o : Oper} {ρ : Operand → Value} {s x : Operand} {t : TypeId} {v y v1 : Value} {W w1 : World} (ho : o.op = .call { callee := .builtin .append, args := #[s, x], argTypes := #[t, t] }) (hs : ρ s = v) (hx : ρ x = y)
    (hr : (Builtin.append_ #[t, t] o.type #[v, y]).run P W = .ok v1 w1) : (execOp ρ o).run P W = .ok (.value v1) w1 := by
  simp only [execOp, ho, resolve, invoke, builtin, Sem.run_bind, Sem.run_pure, Result.andThen_ok, List.map_toArray, List.map_cons, List.map_nil, hs, hx, hr]
end Go.Proofs.YtbmklpcheopgoaaIt
