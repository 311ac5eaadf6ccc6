/- What is left of the statement OutlineParts. -/
import Derived.Test.YtbmklpcheopgoaaHx29
import Derived.Test.YtbmklpcheopgoaaOpens
import Derived.Test.YtbmklpcheopgoaaOutC
namespace Go.Proofs.Ytbmklpcheopgoaa.Pure
open Go.RowKit Go.Proofs.Ytbmklpcheopgoaa.H Go.Proofs.YtbmklpcheopgoaaOpen Go.Proofs.YtbmklpcheopgoaaW.PrintWords Go.Proofs.YtbmklpcheopgoaaW.PrintLast
open Go.Proofs.Ytbmklpcheopgoaa.Out Go.Proofs.YtbmklpcheopgoaaIt Go.Proofs.YtbmklpcheopgoaaW.PrintMore
theorem told_f (pts : List S33) (es : List Int) (hn : pts.length ≤ 1000000) (he : es.length ≤ 1000000) : fleuronlaw03_told.f pts es = some ((cutsL es pts.length).map (contourOf pts), true) := by
  unfold fleuronlaw03_told.f
  rw [if_pos ⟨hn, he⟩]
  unfold toldK
  rw [List.take_length]
theorem line_alone (pts : List S33) (c : Int × Int) (x y : Int) (h2 : c.2.toNat ≤ pts.length) : contourLines ((contourOf pts c).map (gP x y)) ((contourOf pts c).map (·.f2)) 0 (contourOf pts c).length = contourLines (pts.map (gP x y)) (pts.map (·.f2)) c.1.toNat c.2.toNat := by
  have hl := contour_len pts c h2
  unfold contourLines
  rw [List.drop_zero, List.drop_zero, Nat.sub_zero, List.take_of_length_le (by simp), List.take_of_length_le (by simp), hl]
  unfold contourOf
  simp only [List.map_take, List.map_drop]
theorem parts_l0 (pts : List S33) (es : List Int) (hr : rightB pts es = true) : ∀ (m k i : Nat), (cutsL es pts.length).length = i + m → m + 10000 < k →
    fleuronlaw03_OutlineParts.l0 k (linesA (pts.map (gP 0 0)) (pts.map (·.f2)) es) ((cutsL es pts.length).map (contourOf pts)) (i : Int) pts es = some true := by
  obtain ⟨hn, he, -, -⟩ := rightB_iff pts es hr
  have hK := right_cuts pts es hr
  intro m
  induction m with
  | zero =>
    intro k i h1 h2
    obtain ⟨k, rfl⟩ : ∃ j, k = j + 1 := ⟨k - 1, by omega⟩
    rw [fleuronlaw03_OutlineParts.l0, if_neg (by simp; omega)]
    simp [fleuronlaw03_drawn.f, hK]
  | succ m ih =>
    intro k i h1 h2
    obtain ⟨k, rfl⟩ : ∃ j, k = j + 1 := ⟨k - 1, by omega⟩
    have hi : i < (cutsL es pts.length).length := by omega
    generalize hc : (cutsL es pts.length)[i] = c
    have hcm : c ∈ cutsL es pts.length := hc ▸ List.getElem_mem hi
    obtain ⟨c1, c2, c3⟩ := cut_mem es pts.length c hcm
    have hl := contour_len pts c (by omega)
    have e1 : rd_L3 ((cutsL es pts.length).map (contourOf pts)) (i : Int) = contourOf pts c := by simp [rd_L3, hi, hc]
    have e2 : rd_L9 (linesA (pts.map (gP 0 0)) (pts.map (·.f2)) es) (i : Int) = contourLines (pts.map (gP 0 0)) (pts.map (·.f2)) c.1.toNat c.2.toNat := by simp [rd_L9, linesA, hi, hc]
    have e3 : linesA ((contourOf pts c).map (gP 0 0)) ((contourOf pts c).map (·.f2)) [wrap64 ((((contourOf pts c).map (gP 0 0)).length : Int) - 1)] = [contourLines (pts.map (gP 0 0)) (pts.map (·.f2)) c.1.toNat c.2.toNat] := by
      rw [← line_alone pts c 0 0 (by omega), List.length_map, W_in _ (by omega) (by omega)]
      unfold linesA cutsL cutsF
      rw [List.length_map, if_neg (by omega)]
      simp [cutsF]
    rw [fleuronlaw03_OutlineParts.l0, if_pos (by simp; omega), if_pos (by omega), e1, grid_f (contourOf pts c) [] 0 0 k (by omega) (by omega), Option.bind_some]
    simp only []
    rw [lines_f _ _ _ (by simp; omega) (by simp) (by simp), Option.bind_some, e3, if_pos (by simp), if_pos (by simp), if_pos (by rw [linesA_len, List.length_map]; omega), e2]
    have e4 : rd_L9 [contourLines (pts.map (gP 0 0)) (pts.map (·.f2)) c.1.toNat c.2.toNat] 0 = contourLines (pts.map (gP 0 0)) (pts.map (·.f2)) c.1.toNat c.2.toNat := rfl
    have hll := contourLines_len (pts.map (gP 0 0)) (pts.map (·.f2)) c.1.toNat c.2.toNat
    rw [e4, samePts_f _ k (by omega) (by omega), Option.bind_some, if_pos rfl, W_in ((i : Int) + 1) (by omega) (by omega)]
    exact ih k (i + 1) (by omega) (by omega)
theorem OutlineParts : ∀ (l0_0 : List (S33)) (l0_1 : List Int), (l0_0.length ≤ 9223372036854775807 ∧ ∀ x_ ∈ l0_0, (InK .i64 x_.f0 ∧ InK .i64 x_.f1 ∧ True)) ∧ (l0_1.length ≤ 9223372036854775807 ∧ ∀ x_ ∈ l0_1, InK .i64 x_) → ∃ k, fleuronlaw03_OutlineParts.f k l0_0 l0_1 = some true := by
  intro pts es hp
  by_cases hlen : pts.length ≤ 200 ∧ es.length ≤ 40
  · refine ⟨20001, ?_⟩
    unfold fleuronlaw03_OutlineParts.f
    rw [right_f pts es 20001 (by omega) (by omega) (by omega), Option.bind_some]
    by_cases hr : rightB pts es = true
    · rw [if_pos hr, grid_f pts es 0 0 20001 (by omega) (by omega), Option.bind_some, lines_f _ _ _ (by simp; omega) (by omega) (by simp), Option.bind_some, told_f pts es (by omega) (by omega), Option.bind_some, if_pos rfl, fleuronlaw03_OutlineParts.j0, if_neg (by simp [linesA_len])]
      have hK := right_cuts pts es hr
      exact parts_l0 pts es hr (cutsL es pts.length).length 20000 0 (by omega) (by omega)
    · rw [if_neg hr]; rfl
  · refine ⟨1, ?_⟩
    unfold fleuronlaw03_OutlineParts.f outline_Right.f
    have e : (if (pts.length : Int) > 200 then outline_Right.j0 1 true pts es else outline_Right.j0 1 (decide ((es.length : Int) > 40)) pts es) = some false := by
      by_cases h1 : (pts.length : Int) > 200
      · rw [if_pos h1]; rfl
      · rw [if_neg h1, decide_eq_true (by omega)]; rfl
    rw [e]; rfl

end Go.Proofs.Ytbmklpcheopgoaa.Pure
