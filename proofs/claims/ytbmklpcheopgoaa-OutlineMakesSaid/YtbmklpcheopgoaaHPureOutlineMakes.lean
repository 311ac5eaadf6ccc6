/- What is left of the statement OutlineMakes. -/
import Derived.Test.YtbmklpcheopgoaaHx18
import Derived.Test.YtbmklpcheopgoaaOpens
import Derived.Test.YtbmklpcheopgoaaOutR
namespace Go.Proofs.Ytbmklpcheopgoaa.Pure
open Go.RowKit Go.Proofs.Ytbmklpcheopgoaa.H Go.Proofs.YtbmklpcheopgoaaOpen Go.Proofs.YtbmklpcheopgoaaW.PrintWords Go.Proofs.YtbmklpcheopgoaaW.PrintLast
open Go.Proofs.Ytbmklpcheopgoaa.Out
theorem OutlineMakes : ∀ (l0_0 : List (S33)) (l0_1 : List Int) (a1 : Int) (a2 : Int), (l0_0.length ≤ 9223372036854775807 ∧ ∀ x_ ∈ l0_0, (InK .i64 x_.f0 ∧ InK .i64 x_.f1 ∧ True)) ∧ (l0_1.length ≤ 9223372036854775807 ∧ ∀ x_ ∈ l0_1, InK .i64 x_) → InK .i64 a1 → InK .i64 a2 → ∃ k, fleuronlaw03_OutlineMakes.f k l0_0 l0_1 a1 a2 = some true := by
  intro pts es x y hp hx hy
  refine ⟨5001, ?_⟩
  unfold fleuronlaw03_OutlineMakes.f
  by_cases hb : fleuronref03_Big.f pts es = some true
  · rw [hb]; rfl
  obtain ⟨hb, hn, he⟩ := big_f pts es hb
  have hr := revA_len pts es
  rw [hb, Option.bind_some, if_neg (by decide), fleuronlaw03_drawn.f, Option.bind_some, if_pos rfl, moved_f pts es x y 5001 (by omega) (by omega) (by omega), Option.bind_some, refMoved_f pts es x y 5001 (by omega) (by omega) (by omega), Option.bind_some]
  simp only []
  rw [same_f (pts.map (mvW x y)) es 5001 (by simp; omega) (by omega) (by simp; omega) (by omega), Option.bind_some, if_pos rfl, reversed_f pts es (by omega) (by omega), Option.bind_some, refReversed_f pts es 5001 (by omega) (by omega) (by omega), Option.bind_some]
  simp only []
  rw [same_f (revA pts es) es 5001 (by omega) (by omega) (by omega) (by omega)]
  rfl

end Go.Proofs.Ytbmklpcheopgoaa.Pure
