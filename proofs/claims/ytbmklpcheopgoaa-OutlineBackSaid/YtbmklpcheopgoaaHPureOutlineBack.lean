/- What is left of the statement OutlineBack. -/
import Derived.Test.YtbmklpcheopgoaaHx28
import Derived.Test.YtbmklpcheopgoaaOpens
import Derived.Test.YtbmklpcheopgoaaOutX
namespace Go.Proofs.Ytbmklpcheopgoaa.Pure
open Go.RowKit Go.Proofs.Ytbmklpcheopgoaa.H Go.Proofs.YtbmklpcheopgoaaOpen Go.Proofs.YtbmklpcheopgoaaW.PrintWords Go.Proofs.YtbmklpcheopgoaaW.PrintLast
open Go.Proofs.Ytbmklpcheopgoaa.Out Go.Proofs.YtbmklpcheopgoaaIt Go.Proofs.YtbmklpcheopgoaaW.PrintMore
theorem told_f (pts : List S33) (es : List Int) (hn : pts.length ≤ 1000000) (he : es.length ≤ 1000000) : fleuronlaw03_told.f pts es = some ((cutsL es pts.length).map (contourOf pts), true) := by
  unfold fleuronlaw03_told.f
  rw [if_pos ⟨hn, he⟩]
  unfold toldK
  rw [List.take_length]
theorem line_of (pts : List S33) (c : Int × Int) (h2 : c.2.toNat ≤ pts.length) : contourLines (pts.map (gP 0 0)) (pts.map (·.f2)) c.1.toNat c.2.toNat = lineOf (contourOf pts c) := by
  have hl := contour_len pts c h2
  unfold contourLines lineOf
  rw [hl]
  unfold contourOf
  simp only [List.map_take, List.map_drop]
section
variable (L M : List (List S52)) (hn : L.length ≤ 40) (hlen : M.length = L.length) (hle : ∀ l ∈ L, l.length ≤ 4000)
  (hi : ∀ i (h : i < L.length) (h' : i < M.length), M[i].length = L[i].length ∧ ∀ k, k < L[i].length → M[i][k]? = L[i][(L[i].length - k) % L[i].length]?)
include hn hlen hle hi
theorem back_l2 (i : Nat) (h : i < L.length) (N : Nat) (hN : ∀ k', N ≤ k' → fleuronlaw03_OutlineBack.l1 k' L M ((i + 1 : Nat) : Int) = some true) : ∀ m k j, L[i].length = j + m → N + m < k → fleuronlaw03_OutlineBack.l2 k L M (i : Int) (L[i].length : Int) (j : Int) = some true := by
  have hli := hle _ (List.getElem_mem h)
  have hMi : i < M.length := by omega
  obtain ⟨e1, e2⟩ := hi i h hMi
  intro m
  induction m with
  | zero =>
    intro k j h1 h2
    obtain ⟨k, rfl⟩ : ∃ j, k = j + 1 := ⟨k - 1, by omega⟩
    rw [fleuronlaw03_OutlineBack.l2, if_neg (by omega), W_in ((i : Int) + 1) (by omega) (by omega)]
    exact hN k (by omega)
  | succ m ih =>
    intro k j h1 h2
    obtain ⟨k, rfl⟩ : ∃ j, k = j + 1 := ⟨k - 1, by omega⟩
    have hj : j < L[i].length := by omega
    have hm : (L[i].length - j) % L[i].length < L[i].length := Nat.mod_lt _ (by omega)
    have ht : Int.tmod ((L[i].length : Int) - (j : Int)) (L[i].length : Int) = (((L[i].length - j) % L[i].length : Nat) : Int) := by
      rw [show (L[i].length : Int) - (j : Int) = ((L[i].length - j : Nat) : Int) by omega]; rfl
    have hk := e2 j hj
    rw [List.getElem?_eq_getElem hm, List.getElem?_eq_getElem (by omega)] at hk
    have hk : M[i][j]'(by omega) = L[i][(L[i].length - j) % L[i].length] := by simpa using hk
    rw [fleuronlaw03_OutlineBack.l2, if_pos (by omega), if_pos (by omega), if_pos (by omega), if_pos (by omega), rdL_get M i hMi, if_pos (by omega), if_pos (by omega), if_neg (by omega), W_in ((L[i].length : Int) - (j : Int)) (by omega) (by omega), ht, if_pos (by omega), rdL_get L i h, if_pos (by omega), rdP_get _ _ hm, rdP_get _ j (by omega), hk, if_neg (by simp), W_in ((j : Int) + 1) (by omega) (by omega)]
    exact ih k (j + 1) (by omega) (by omega)
set_option maxRecDepth 10000 in
theorem back_l1 : ∀ m k i, L.length = i + m → m * 4002 < k → fleuronlaw03_OutlineBack.l1 k L M (i : Int) = some true := by
  intro m
  induction m with
  | zero =>
    intro k i h1 h2
    obtain ⟨k, rfl⟩ : ∃ j, k = j + 1 := ⟨k - 1, by omega⟩
    rw [fleuronlaw03_OutlineBack.l1, if_neg (by omega)]
    rfl
  | succ m ih =>
    intro k i h1 h2
    obtain ⟨k, rfl⟩ : ∃ j, k = j + 1 := ⟨k - 1, by omega⟩
    have h : i < L.length := by omega
    have hMi : i < M.length := by omega
    have hli := hle _ (List.getElem_mem h)
    obtain ⟨e1, -⟩ := hi i h hMi
    rw [fleuronlaw03_OutlineBack.l1, if_pos (by omega), if_pos (by omega), if_pos (by omega), rdL_get M i hMi, rdL_get L i h, if_pos (by omega)]
    exact back_l2 L M hn hlen hle hi i h (m * 4002 + 1) (fun k' hk' => ih k' (i + 1) (by omega) (by omega)) L[i].length k 0 (by omega) (by omega)
end
set_option maxRecDepth 10000 in
theorem back_l0 (pts : List S33) (es : List Int) (hr : rightB pts es = true) : ∀ m k i, (cutsL es pts.length).length = i + m → m + 200000 < k → (∀ c ∈ (cutsL es pts.length).take i, ∃ a r, contourOf pts c = a :: r ∧ a.f2 = true) → fleuronlaw03_OutlineBack.l0 k ((cutsL es pts.length).map (contourOf pts)) true (i : Int) pts es = some true := by
  obtain ⟨hn, he, hok, -⟩ := rightB_iff pts es hr
  have hK := right_cuts pts es hr
  have hrl := revA_len pts es
  intro m
  induction m with
  | zero =>
    intro k i h1 h2 h3
    obtain ⟨k, rfl⟩ : ∃ j, k = j + 1 := ⟨k - 1, by omega⟩
    rw [List.take_of_length_le (by omega)] at h3
    have hLl : (linesA (pts.map (gP 0 0)) (pts.map (·.f2)) es).length = es.length := by rw [linesA_len, List.length_map, hK]
    have hMl : (linesA ((revA pts es).map (gP 0 0)) ((revA pts es).map (·.f2)) es).length = es.length := by rw [linesA_len, List.length_map, hrl, hK]
    rw [fleuronlaw03_OutlineBack.l0, if_neg (by simp; omega), grid_f pts es 0 0 k (by omega) (by omega), Option.bind_some, reversed_f pts es (by omega) (by omega), Option.bind_some]
    simp only []
    rw [grid_f (revA pts es) es 0 0 k (by omega) (by omega), Option.bind_some]
    simp only []
    rw [lines_f _ _ _ (by simp; omega) (by omega) (by simp), Option.bind_some, lines_f _ _ _ (by simp; omega) (by omega) (by simp), Option.bind_some, if_pos trivial, if_pos (by omega)]
    obtain ⟨k, rfl⟩ : ∃ j, k = j + 1 := ⟨k - 1, by omega⟩
    rw [fleuronlaw03_OutlineBack.j1, if_neg (by simp; omega)]
    refine back_l1 _ _ (by omega) (by omega) (fun l hl => linesA_le _ _ _ (by simp; omega) l hl) (fun i h h' => ?_) (linesA (pts.map (gP 0 0)) (pts.map (·.f2)) es).length k 0 (by omega) (by omega)
    have hic : i < (cutsL es pts.length).length := by omega
    generalize hc : (cutsL es pts.length)[i] = c
    have hcm : c ∈ cutsL es pts.length := hc ▸ List.getElem_mem hic
    obtain ⟨c1, c2, c3⟩ := cut_mem es pts.length c hcm
    obtain ⟨a, r, hcr, ha⟩ := h3 c hcm
    have e1 : (linesA (pts.map (gP 0 0)) (pts.map (·.f2)) es)[i] = lineOf (a :: r) := by
      rw [← hcr, ← line_of pts c (by omega)]; simp [linesA, hc]
    have e2 : (linesA ((revA pts es).map (gP 0 0)) ((revA pts es).map (·.f2)) es)[i] = lineOf (segRev (a :: r)) := by
      rw [← hcr, ← contour_rev pts es c hcm, ← line_of (revA pts es) c (by omega)]; simp [linesA, hrl, hc]
    rw [e1, e2]
    exact line_back a r ha (fun p h => by rw [← hcr] at h; exact hok p (List.mem_of_mem_drop (List.mem_of_mem_take h)))
  | succ m ih =>
    intro k i h1 h2 h3
    obtain ⟨k, rfl⟩ : ∃ j, k = j + 1 := ⟨k - 1, by omega⟩
    have hi : i < (cutsL es pts.length).length := by omega
    generalize hc : (cutsL es pts.length)[i] = c
    have hcm : c ∈ cutsL es pts.length := hc ▸ List.getElem_mem hi
    obtain ⟨c1, c2, c3⟩ := cut_mem es pts.length c hcm
    have hl := contour_len pts c (by omega)
    have e1 : rd_L3 ((cutsL es pts.length).map (contourOf pts)) (i : Int) = contourOf pts c := by simp [rd_L3, hi, hc]
    rw [fleuronlaw03_OutlineBack.l0, if_pos (by simp; omega), if_pos (by omega), e1, if_neg (by omega), if_pos (by omega)]
    by_cases hon : (rd_T33 (contourOf pts c) 0).f2 = true
    · rw [if_pos hon, W_in ((i : Int) + 1) (by omega) (by omega)]
      refine ih k (i + 1) (by omega) (by omega) (fun d hd => ?_)
      rw [List.take_add_one, List.getElem?_eq_getElem hi, hc] at hd
      rcases List.mem_append.1 hd with hd | hd
      · exact h3 d hd
      · have : d = c := by simpa using hd
        subst this
        cases hcc : contourOf pts d with
        | nil => rw [hcc] at hl; simp at hl; omega
        | cons a r => rw [hcc] at hon; exact ⟨a, r, rfl, hon⟩
    · rw [if_neg hon, fleuronlaw03_drawn.f, Option.bind_some, if_pos rfl, decide_eq_true (by omega)]
theorem OutlineBack : ∀ (l0_0 : List (S33)) (l0_1 : List Int), (l0_0.length ≤ 9223372036854775807 ∧ ∀ x_ ∈ l0_0, (InK .i64 x_.f0 ∧ InK .i64 x_.f1 ∧ True)) ∧ (l0_1.length ≤ 9223372036854775807 ∧ ∀ x_ ∈ l0_1, InK .i64 x_) → ∃ k, fleuronlaw03_OutlineBack.f k l0_0 l0_1 = some true := by
  intro pts es hp
  by_cases hlen : pts.length ≤ 200 ∧ es.length ≤ 40
  · refine ⟨400001, ?_⟩
    unfold fleuronlaw03_OutlineBack.f
    rw [right_f pts es 400001 (by omega) (by omega) (by omega), Option.bind_some]
    by_cases hr : rightB pts es = true
    · have hK := right_cuts pts es hr
      rw [if_pos hr, told_f pts es (by omega) (by omega), Option.bind_some]
      exact back_l0 pts es hr (cutsL es pts.length).length 400001 0 (by omega) (by omega) (fun c h => by simp at h)
    · rw [if_neg hr]; rfl
  · refine ⟨1, ?_⟩
    unfold fleuronlaw03_OutlineBack.f outline_Right.f
    have e : (if (pts.length : Int) > 200 then outline_Right.j0 1 true pts es else outline_Right.j0 1 (decide ((es.length : Int) > 40)) pts es) = some false := by
      by_cases h1 : (pts.length : Int) > 200
      · rw [if_pos h1]; rfl
      · rw [if_neg h1, decide_eq_true (by omega)]; rfl
    rw [e]; rfl

end Go.Proofs.Ytbmklpcheopgoaa.Pure
