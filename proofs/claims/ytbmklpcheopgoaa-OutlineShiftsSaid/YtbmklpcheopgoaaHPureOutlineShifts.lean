/- What is left of the statement OutlineShifts. -/
import Derived.Test.YtbmklpcheopgoaaHx25
import Derived.Test.YtbmklpcheopgoaaOpens
import Derived.Test.YtbmklpcheopgoaaOutD
namespace Go.Proofs.Ytbmklpcheopgoaa.Pure
open Go.RowKit Go.Proofs.Ytbmklpcheopgoaa.H Go.Proofs.YtbmklpcheopgoaaOpen Go.Proofs.YtbmklpcheopgoaaW.PrintWords Go.Proofs.YtbmklpcheopgoaaW.PrintLast
open Go.Proofs.Ytbmklpcheopgoaa.Out Go.Proofs.YtbmklpcheopgoaaIt Go.Proofs.YtbmklpcheopgoaaW.PrintMore
section
variable {x y : Int} (hx : -1000000 ≤ x ∧ x ≤ 1000000) (hy : -1000000 ≤ y ∧ y ≤ 1000000) (L : List (List S52)) (hn : L.length ≤ 40) (hle : ∀ l ∈ L, l.length ≤ 4000) (hB : ∀ l ∈ L, ∀ p ∈ l, inB (-16384) 16384 (-16384) 16384 p)
include hx hy hn hle hB
theorem shifts_l1 (i : Nat) (hi : i < L.length) (N : Nat) (h : ∀ k', N ≤ k' → fleuronlaw03_OutlineShifts.l0 k' x y L (L.map (·.map (shP x y))) ((i + 1 : Nat) : Int) = some true) : ∀ m k j, L[i].length = j + m → N + m < k → fleuronlaw03_OutlineShifts.l1 k x y L (L.map (·.map (shP x y))) (i : Int) (j : Int) = some true := by
  have hli := hle _ (List.getElem_mem hi)
  have e1 : rd_L9 (L.map (·.map (shP x y))) (i : Int) = L[i].map (shP x y) := by rw [rdL_get _ i (by simpa using hi)]; simp
  intro m
  induction m with
  | zero =>
    intro k j h1 h2
    obtain ⟨k, rfl⟩ : ∃ j, k = j + 1 := ⟨k - 1, by omega⟩
    rw [fleuronlaw03_OutlineShifts.l1, if_pos (by omega), if_pos (by omega), rdL_get L i hi, if_neg (by omega), W_in ((i : Int) + 1) (by omega) (by omega)]
    exact h k (by omega)
  | succ m ih =>
    intro k j h1 h2
    obtain ⟨k, rfl⟩ : ∃ j, k = j + 1 := ⟨k - 1, by omega⟩
    have hj : j < L[i].length := by omega
    obtain ⟨b1, b2, b3, b4⟩ := hB _ (List.getElem_mem hi) _ (List.getElem_mem hj)
    rw [fleuronlaw03_OutlineShifts.l1, if_pos (by omega), if_pos (by omega), rdL_get L i hi, if_pos (by omega), if_pos (by simp; omega), if_pos (by omega), e1, if_pos (by simp; omega), rdP_map _ _ j hj, rdP_get _ j hj, W_in ((j : Int) + 1) (by omega) (by omega), W_in (L[i][j].f0 + x) (by omega) (by omega), W_in (L[i][j].f1 + y) (by omega) (by omega), if_neg (by simp [shP])]
    exact ih k (j + 1) (by omega) (by omega)
set_option maxRecDepth 10000 in
theorem shifts_l0 : ∀ m k i, L.length = i + m → m * 4002 < k → fleuronlaw03_OutlineShifts.l0 k x y L (L.map (·.map (shP x y))) (i : Int) = some true := by
  intro m
  induction m with
  | zero =>
    intro k i h1 h2
    obtain ⟨k, rfl⟩ : ∃ j, k = j + 1 := ⟨k - 1, by omega⟩
    rw [fleuronlaw03_OutlineShifts.l0, if_neg (by omega)]
    rfl
  | succ m ih =>
    intro k i h1 h2
    obtain ⟨k, rfl⟩ : ∃ j, k = j + 1 := ⟨k - 1, by omega⟩
    have hi : i < L.length := by omega
    have hli := hle _ (List.getElem_mem hi)
    have e1 : rd_L9 (L.map (·.map (shP x y))) (i : Int) = L[i].map (shP x y) := by rw [rdL_get _ i (by simpa using hi)]; simp
    rw [fleuronlaw03_OutlineShifts.l0, if_pos (by omega), if_pos (by omega), if_pos (by simp; omega), e1, rdL_get L i hi, List.length_map, if_pos rfl]
    exact shifts_l1 hx hy L hn hle hB i hi (m * 4002 + 1) (fun k' hk' => ih k' (i + 1) (by omega) (by omega)) L[i].length k 0 (by omega) (by omega)
end
theorem shifts_else (k : Nat) (x y : Int) (pts : List S33) (es : List Int) : fleuronlaw03_OutlineShifts.j0 (k + 1) x y true pts es = some true := rfl
theorem OutlineShifts : ∀ (l0_0 : List (S33)) (l0_1 : List Int) (a1 : Int) (a2 : Int), (l0_0.length ≤ 9223372036854775807 ∧ ∀ x_ ∈ l0_0, (InK .i64 x_.f0 ∧ InK .i64 x_.f1 ∧ True)) ∧ (l0_1.length ≤ 9223372036854775807 ∧ ∀ x_ ∈ l0_1, InK .i64 x_) → InK .i64 a1 → InK .i64 a2 → ∃ k, fleuronlaw03_OutlineShifts.f k l0_0 l0_1 a1 a2 = some true := by
  intro pts es x y hp hx hy
  by_cases hlen : pts.length ≤ 200 ∧ es.length ≤ 40
  · refine ⟨200000, ?_⟩
    unfold fleuronlaw03_OutlineShifts.f
    rw [right_f pts es 200000 (by omega) (by omega) (by omega), Option.bind_some]
    by_cases hr : rightB pts es = true
    · rw [if_pos hr]
      by_cases c1 : x > 1000000
      · rw [if_pos c1]; exact shifts_else _ _ _ _ _
      rw [if_neg c1]
      by_cases c2 : x < -1000000
      · rw [if_pos c2]; exact shifts_else _ _ _ _ _
      rw [if_neg c2]
      by_cases c3 : y > 1000000
      · rw [if_pos c3]; exact shifts_else _ _ _ _ _
      rw [if_neg c3]
      by_cases c4 : y < -1000000
      · rw [decide_eq_true c4]; exact shifts_else _ _ _ _ _
      rw [decide_eq_false c4]
      obtain ⟨hn, he, hok, -⟩ := rightB_iff pts es hr
      have hx' : -1000000 ≤ x ∧ x ≤ 1000000 := by omega
      have hy' : -1000000 ≤ y ∧ y ≤ 1000000 := by omega
      have hK := right_cuts pts es hr
      have hb : pts.map (gP x y) = (pts.map (gP 0 0)).map (shP x y) := by
        rw [List.map_map]
        refine List.map_congr_left fun p h => ?_
        show gP x y p = shP x y (gP 0 0 p)
        rw [gP_small p x y (hok p h) hx' hy', gP_small p 0 0 (hok p h) (by omega) (by omega)]
        simp [shP]
      have hin : ∀ p ∈ pts.map (gP 0 0), inB (-16384) 16384 (-16384) 16384 p := by
        intro q hq
        obtain ⟨p, h, rfl⟩ := List.mem_map.1 hq
        have := ptOk_le p (hok p h)
        rw [gP_small p 0 0 (hok p h) (by omega) (by omega)]
        unfold inB
        simp
        omega
      have hlL : (linesA (pts.map (gP 0 0)) (pts.map (·.f2)) es).length = es.length := by rw [linesA_len, List.length_map, hK]
      rw [fleuronlaw03_OutlineShifts.j0, if_neg (by decide), grid_f pts es 0 0 _ (by omega) (by omega), Option.bind_some, grid_f pts es x y _ (by omega) (by omega), Option.bind_some, lines_f _ _ _ (by simp; omega) (by omega) (by simp), Option.bind_some, lines_f _ _ _ (by simp; omega) (by omega) (by simp), Option.bind_some, hb, linesA_sh hx' hy' _ _ _ hin]
      generalize hL : linesA (pts.map (gP 0 0)) (pts.map (·.f2)) es = L at *
      rw [if_pos (by omega), fleuronlaw03_OutlineShifts.j1, if_neg (by simp)]
      refine shifts_l0 hx' hy' L (by omega) (fun l hl => ?_) (fun l hl p hp => ?_) L.length _ 0 (by omega) (by omega)
      · subst hL; exact linesA_le _ _ _ (by simp; omega) l hl
      · subst hL; exact linesA_in _ _ _ hin l hl p hp
    · rw [if_neg hr]; exact shifts_else _ _ _ _ _
  · refine ⟨2, ?_⟩
    unfold fleuronlaw03_OutlineShifts.f outline_Right.f
    have e : (if (pts.length : Int) > 200 then outline_Right.j0 2 true pts es else outline_Right.j0 2 (decide ((es.length : Int) > 40)) pts es) = some false := by
      by_cases h1 : (pts.length : Int) > 200
      · rw [if_pos h1]; rfl
      · rw [if_neg h1, decide_eq_true (by omega)]; rfl
    rw [e]
    exact shifts_else 1 x y pts es

end Go.Proofs.Ytbmklpcheopgoaa.Pure
