/- Plain facts of a contour turned. No program in sight. -/
import Derived.Test.YtbmklpcheopgoaaOutB
import Derived.Test.YtbmklpcheopgoaaOutK
namespace Go.Proofs.Ytbmklpcheopgoaa.Out
open Go Go.RowKit Go.Proofs.Ytbmklpcheopgoaa.H Go.Proofs.YtbmklpcheopgoaaIt Go.Proofs.YtbmklpcheopgoaaOpen Go.Proofs.YtbmklpcheopgoaaW.PrintWords Go.Proofs.YtbmklpcheopgoaaW.PrintLast Go.Proofs.YtbmklpcheopgoaaW.PrintMore

/-! a contour turned -/
def segRev (c : List S33) : List S33 := match c with | [] => [] | a :: r => a :: r.reverse
theorem segRev_len (c : List S33) : (segRev c).length = c.length := by cases c <;> simp [segRev]
theorem segRev_get (c : List S33) (i : Nat) (hi : i < c.length) : (segRev c)[i]? = c[if i = 0 then 0 else c.length - i]? := by
  cases c with
  | nil => simp at hi
  | cons a r =>
    cases i with
    | zero => simp [segRev]
    | succ i =>
      simp only [List.length_cons] at hi
      rw [if_neg (by omega), segRev, List.getElem?_cons_succ, List.getElem?_reverse (by omega), List.length_cons, show r.length + 1 - (i + 1) = (r.length - 1 - i) + 1 by omega, List.getElem?_cons_succ]
theorem contour_get (pts : List S33) (c : Int × Int) (i : Nat) : (contourOf pts c)[i]? = if i < c.2.toNat - c.1.toNat then pts[c.1.toNat + i]? else none := by
  unfold contourOf
  by_cases h : i < c.2.toNat - c.1.toNat
  · rw [if_pos h, List.getElem?_take_of_lt h, List.getElem?_drop]
  · rw [if_neg h, List.getElem?_eq_none (by simp; omega)]
theorem contour_rev (pts : List S33) (es : List Int) (c : Int × Int) (h : c ∈ cutsL es pts.length) : contourOf (revA pts es) c = segRev (contourOf pts c) := by
  obtain ⟨m1, m2, m3⟩ := cut_mem es _ c h
  have hl := contour_len pts c (by omega)
  refine List.ext_getElem? fun i => ?_
  rw [contour_get]
  by_cases hi : i < c.2.toNat - c.1.toNat
  · rw [if_pos hi, segRev_get _ _ (by omega), revA_get, contour_get, hl, sig_cut es 0 pts.length c h (c.1.toNat + i) (by omega) (by omega)]
    by_cases h0 : i = 0
    · subst h0; rw [if_pos (by omega), if_pos rfl, if_pos (by omega)]
    · rw [if_neg (by omega), if_neg h0, if_pos (by omega)]; congr 1; omega
  · rw [if_neg hi, List.getElem?_eq_none (by rw [segRev_len]; omega)]
theorem contour_map (f : S33 → S33) (pts : List S33) (c : Int × Int) : contourOf (pts.map f) c = (contourOf pts c).map f := by
  unfold contourOf
  rw [← List.map_drop, ← List.map_take]

end Go.Proofs.Ytbmklpcheopgoaa.Out
