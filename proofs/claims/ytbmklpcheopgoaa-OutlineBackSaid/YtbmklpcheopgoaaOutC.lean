/- Plain facts of grid, told, Lines and SamePts of outlines that may be: how many cuts, how long the lines are. No program in sight. -/
import Derived.Test.YtbmklpcheopgoaaOutA
import Derived.Test.YtbmklpcheopgoaaOutK
import Derived.Test.YtbmklpcheopgoaaHx12
import Derived.Test.YtbmklpcheopgoaaHx24
import Derived.Test.YtbmklpcheopgoaaHx13
namespace Go.Proofs.Ytbmklpcheopgoaa.Out
open Go Go.RowKit Go.Proofs.Ytbmklpcheopgoaa.H Go.Proofs.YtbmklpcheopgoaaIt Go.Proofs.YtbmklpcheopgoaaOpen Go.Proofs.YtbmklpcheopgoaaW.PrintWords Go.Proofs.YtbmklpcheopgoaaW.PrintLast Go.Proofs.YtbmklpcheopgoaaW.PrintMore

/-! grid -/
def gP (x y : Int) (p : S33) : S52 := ⟨wrap64 (p.f0 + x), wrap64 (p.f1 + y)⟩
theorem grid_l0 (pts : List S33) (es : List Int) (x y : Int) (hn : pts.length ≤ 1000000) : ∀ (m k i : Nat) (a : List S52) (b : List Bool), pts.length = i + m → m < k → a.length = i → b.length = i → fleuronlaw03_grid.l0 k x y a b (i : Int) pts es = some (a ++ (pts.drop i).map (gP x y), b ++ (pts.drop i).map (·.f2)) := by
  intro m
  induction m with
  | zero =>
    intro k i a b h1 h2 h3 h4
    obtain ⟨k, rfl⟩ : ∃ j, k = j + 1 := ⟨k - 1, by omega⟩
    rw [fleuronlaw03_grid.l0, if_neg (by omega), List.drop_of_length_le (by omega)]
    simp
  | succ m ih =>
    intro k i a b h1 h2 h3 h4
    obtain ⟨k, rfl⟩ : ∃ j, k = j + 1 := ⟨k - 1, by omega⟩
    have hi : i < pts.length := by omega
    rw [fleuronlaw03_grid.l0, if_pos (by omega), if_pos (by omega), if_pos (by omega), if_pos (by omega), rdS_get pts i hi, W_in ((i : Int) + 1) (by omega) (by omega)]
    have := ih k (i + 1) (a ++ [gP x y pts[i]]) (b ++ [pts[i].f2]) (by omega) (by omega) (by simp; omega) (by simp; omega)
    rw [List.drop_eq_getElem_cons hi, List.map_cons, List.map_cons]
    rw [List.append_assoc, List.append_assoc] at this
    exact this
theorem grid_f (pts : List S33) (es : List Int) (x y : Int) (k : Nat) (hn : pts.length ≤ 1000000) (hk : pts.length < k) : fleuronlaw03_grid.f k pts es x y = some (pts.map (gP x y), pts.map (·.f2)) := by
  unfold fleuronlaw03_grid.f
  have := grid_l0 pts es x y hn pts.length k 0 [] [] (by omega) hk rfl rfl
  simpa using this

/-! cuts of an outline that may be -/
theorem ends_cuts : ∀ (es : List Int) (last n : Int), endsOk last es n = true → (cutsF (last + 1) es n).length = es.length
  | [], _, _, _ => rfl
  | e :: es, last, n, h => by
    unfold endsOk at h
    by_cases h1 : e < last + 2
    · rw [if_pos h1] at h; cases h
    · rw [if_neg h1] at h
      by_cases h2 : e ≥ n
      · rw [if_pos h2] at h; cases h
      · rw [if_neg h2] at h
        unfold cutsF
        rw [if_neg (by omega), List.length_cons, List.length_cons, ends_cuts es e n h]
theorem rightB_iff (pts : List S33) (es : List Int) (h : rightB pts es = true) : pts.length ≤ 200 ∧ es.length ≤ 40 ∧ (∀ p ∈ pts, ptOk p = true) ∧ endsOk (-1) es pts.length = true := by
  simpa [rightB, Bool.and_eq_true, List.all_eq_true, and_assoc] using h
theorem right_cuts (pts : List S33) (es : List Int) (h : rightB pts es = true) : (cutsL es pts.length).length = es.length := ends_cuts es (-1) pts.length (rightB_iff pts es h).2.2.2
theorem ptOk_le (p : S33) (h : ptOk p = true) : -16384 ≤ p.f0 ∧ p.f0 ≤ 16384 ∧ -16384 ≤ p.f1 ∧ p.f1 ≤ 16384 := by
  simp only [ptOk, Bool.and_eq_true, Bool.not_eq_true', decide_eq_false_iff_not] at h
  obtain ⟨h1, h2⟩ := h
  unfold mx at h1
  unfold mn at h2
  split at h1 <;> split at h2 <;> omega
theorem gP_small (p : S33) (x y : Int) (h : ptOk p = true) (hx : -1000000 ≤ x ∧ x ≤ 1000000) (hy : -1000000 ≤ y ∧ y ≤ 1000000) : gP x y p = ⟨p.f0 + x, p.f1 + y⟩ := by
  have := ptOk_le p h
  unfold gP
  rw [W_in _ (by omega) (by omega), W_in _ (by omega) (by omega)]

/-! lengths -/
theorem rowGo_len (l : List S101) : ∀ (f i : Nat) (out : List S52), (rowGo l f i out).length ≤ out.length + 8 * f
  | 0, i, out => by simp [rowGo]
  | f + 1, i, out => by
    unfold rowGo
    split
    · split
      · have := rowGo_len l f (i + 1) (out ++ [(rd_T101 l ((i + 1) % l.length : Nat)).f0])
        simp at this ⊢
        omega
      · have := rowGo_len l f (i + 2) (out ++ curveK l i 8)
        rw [List.length_append, curveK_len] at this
        omega
    · omega
theorem rowL_len (l : List S101) : (rowL l).length ≤ 8 * l.length + 1 := by
  unfold rowL rowAll
  have := rowGo_len l l.length 0 [(rd_T101 l (0 : Nat)).f0]
  simp at this ⊢
  omega
theorem contourLines_len (pts : List S52) (on : List Bool) (s t : Nat) : (contourLines pts on s t).length ≤ 16 * (t - s) + 1 := by
  unfold contourLines
  have h1 := rowL_len (ringFin (ringSt ((pts.drop s).take (t - s)) ((on.drop s).take (t - s)) (t - s)))
  rw [ringFin_len] at h1
  have h2 := ringSt_len ((pts.drop s).take (t - s)) ((on.drop s).take (t - s)) (t - s)
  omega

/-! Lines, told, SamePts -/
def linesA (pts : List S52) (on : List Bool) (es : List Int) : List (List S52) := (cutsL es pts.length).map fun c => contourLines pts on c.1.toNat c.2.toNat
theorem lines_f (pts : List S52) (on : List Bool) (es : List Int) (hn : pts.length ≤ 1000000) (he : es.length ≤ 1000000) (ho : on.length = pts.length) : outline_Lines.f pts on es = some (linesA pts on es) := by
  unfold outline_Lines.f
  rw [if_pos ho, if_pos ⟨hn, he⟩]
  unfold linesK linesA
  rw [List.take_length]
theorem linesA_len (pts : List S52) (on : List Bool) (es : List Int) : (linesA pts on es).length = (cutsL es pts.length).length := by simp [linesA]
theorem rdP_get (l : List S52) (i : Nat) (h : i < l.length) : rd_T52 l (i : Int) = l[i] := by simp [rd_T52, h]
theorem samePts_l0 (a : List S52) (hn : a.length ≤ 1000000) : ∀ (m k i : Nat), a.length = i + m → m < k → fleuronref03_SamePts.l0 k a a (i : Int) = some true := by
  intro m
  induction m with
  | zero =>
    intro k i h1 h2
    obtain ⟨k, rfl⟩ : ∃ j, k = j + 1 := ⟨k - 1, by omega⟩
    rw [fleuronref03_SamePts.l0, if_neg (by omega)]
  | succ m ih =>
    intro k i h1 h2
    obtain ⟨k, rfl⟩ : ∃ j, k = j + 1 := ⟨k - 1, by omega⟩
    rw [fleuronref03_SamePts.l0, if_pos (by omega), if_pos (by omega), if_pos (by omega), W_in ((i : Int) + 1) (by omega) (by omega)]
    simp only [BEq.rfl, Bool.not_true, Bool.or_self, Bool.false_eq_true, if_false]
    exact ih k (i + 1) (by omega) (by omega)
theorem samePts_f (a : List S52) (k : Nat) (hn : a.length ≤ 1000000) (hk : a.length < k) : fleuronref03_SamePts.f k a a = some true := by
  unfold fleuronref03_SamePts.f
  rw [if_pos rfl]
  exact samePts_l0 a hn a.length k 0 (by omega) hk
end Go.Proofs.Ytbmklpcheopgoaa.Out
