/- What is left of the statement OutlineTurns. -/
import Derived.Test.YtbmklpcheopgoaaHx23
import Derived.Test.YtbmklpcheopgoaaOpens
import Derived.Test.YtbmklpcheopgoaaOutB
namespace Go.Proofs.Ytbmklpcheopgoaa.Pure
open Go.RowKit Go.Proofs.Ytbmklpcheopgoaa.H Go.Proofs.YtbmklpcheopgoaaOpen Go.Proofs.YtbmklpcheopgoaaW.PrintWords Go.Proofs.YtbmklpcheopgoaaW.PrintLast
open Go.Proofs.Ytbmklpcheopgoaa.Out
theorem OutlineTurns : ∀ (l0_0 : List (S33)) (l0_1 : List Int) (a1 : Int) (a2 : Int), (l0_0.length ≤ 9223372036854775807 ∧ ∀ x_ ∈ l0_0, (InK .i64 x_.f0 ∧ InK .i64 x_.f1 ∧ True)) ∧ (l0_1.length ≤ 9223372036854775807 ∧ ∀ x_ ∈ l0_1, InK .i64 x_) → InK .i64 a1 → InK .i64 a2 → ∃ k, fleuronlaw03_OutlineTurns.f k l0_0 l0_1 a1 a2 = some true := by
  intro pts es x y hp hx hy
  refine ⟨5001, ?_⟩
  unfold fleuronlaw03_OutlineTurns.f
  by_cases hb : fleuronref03_Big.f pts es = some true
  · rw [hb]; rfl
  obtain ⟨hb, hn, he⟩ := big_f pts es hb
  have hr := revA_len pts es
  have hback : (pts.map (mvW x y)).map (mvW (wrap64 (-x)) (wrap64 (-y))) = pts := by
    rw [List.map_map]
    have e : ∀ p ∈ pts, (mvW (wrap64 (-x)) (wrap64 (-y)) ∘ mvW x y) p = p := fun p h => by
      have hh := hp.1.2 p h
      have b0 := hh.1.i64
      have b1 := hh.2.1.i64
      exact mvW_back x y p (W_in _ b0.1 b0.2) (W_in _ b1.1 b1.2)
    exact (List.map_congr_left e).trans (List.map_id' pts)
  rw [hb, Option.bind_some, if_neg (by decide), reversed_f pts es (by omega) (by omega), Option.bind_some, moved_f pts es x y 5001 (by omega) (by omega) (by omega), Option.bind_some]
  simp only [Option.bind_some, reversed_f (revA pts es) es (by omega) (by omega), revA_revA, same_f pts es 5001 (by omega) (by omega) (by omega) (by omega), if_true,
    area_f (revA pts es) es (by omega), area_f pts es (by omega), area_rev, moved_f (pts.map (mvW x y)) es (wrap64 (-x)) (wrap64 (-y)) 5001 (by simp; omega) (by omega) (by simp; omega), hback, Bool.not_true]
  rw [fleuronlaw03_OutlineTurns.j0, if_neg (by decide)]
  simp only [fleuronlaw03_drawn.f, Option.bind_some, if_true, area_f (pts.map (mvW x y)) es (by simp; omega), area_f pts es (by omega), area_moved, right_f (revA pts es) es 5000 (by omega) (by omega) (by omega), right_f pts es 5000 (by omega) (by omega) (by omega), right_rev, BEq.rfl]

end Go.Proofs.Ytbmklpcheopgoaa.Pure
