/- What the Go functions of this seat compute, as Lean functions, each with the proof that the call answers so; made by a program of this session. -/
import Derived.Test.YtbmklpcheopgoaaHx0
namespace Go.Proofs.Ytbmklpcheopgoaa.H
open Go.RowKit Go.Proofs.YtbmklpcheopgoaaW.PrintWords Go.Proofs.YtbmklpcheopgoaaW.PrintLast Go.Proofs.YtbmklpcheopgoaaW.PrintMore
attribute [local go_sem] max2_int min2_int max_two min_two max_three min_three max_four min_four   -- for this text's walks alone
set_option linter.unusedVariables false
set_option linter.unusedSimpArgs false

/-! ### outline_at: function 56 -/
def outline_at.f (a0 : Int) (a1 : Int) (a2 : Int) (a3 : Int) : Option (Int) := some ((wrap64 ((wrap64 ((wrap64 ((wrap64 ((wrap64 ((wrap64 (8 - a0)) * (wrap64 (8 - a0)))) * a1)) + (wrap64 ((wrap64 ((wrap64 (2 * a0)) * (wrap64 (8 - a0)))) * a2)))) + (wrap64 ((wrap64 (a0 * a0)) * a3)))) + 32)) / 64)
set_option maxHeartbeats 8000000 in
set_option maxRecDepth 100000 in
theorem outline_at.calls (a0 : Int) (a1 : Int) (a2 : Int) (a3 : Int) (r : Int) (w : World) (h : outline_at.f a0 a1 a2 a3 = some r) :
    Calls Try.prog 56 #[.int .i64 a0, .int .i64 a1, .int .i64 a2, .int .i64 a3] w fun e w' => e = .returned (.int .i64 r) ∧ Drawn0 w w' := by
  have H : (some ((wrap64 ((wrap64 ((wrap64 ((wrap64 ((wrap64 ((wrap64 (8 - a0)) * (wrap64 (8 - a0)))) * a1)) + (wrap64 ((wrap64 ((wrap64 (2 * a0)) * (wrap64 (8 - a0)))) * a2)))) + (wrap64 ((wrap64 (a0 * a0)) * a3)))) + 32)) / 64)) = some r := h
  clear h
  obtain rfl := Option.some.inj H
  go_enter Try.func56, Try.ntmps56
  go_wp2
  go_ret
  exact ⟨by first | rfl | (simp; done) | (simp [*]; done), by repeat (first | exact Drawn0.refl _ | apply Drawn0.step)⟩

end Go.Proofs.Ytbmklpcheopgoaa.H
