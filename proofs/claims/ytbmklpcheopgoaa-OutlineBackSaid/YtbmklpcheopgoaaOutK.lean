/- How long a contour is, and where its cut lies. No program in sight. -/
import Derived.Test.YtbmklpcheopgoaaContours
namespace Go.Proofs.Ytbmklpcheopgoaa.Out
open Go Go.RowKit Go.Proofs.Ytbmklpcheopgoaa.H Go.Proofs.YtbmklpcheopgoaaIt Go.Proofs.YtbmklpcheopgoaaW.PrintWords

theorem contour_len (pts : List S33) (c : Int × Int) (h : c.2.toNat ≤ pts.length) : (contourOf pts c).length = c.2.toNat - c.1.toNat := by
  unfold contourOf
  rw [List.length_take, List.length_drop]; omega
theorem cut_mem (es : List Int) (n : Nat) (c : Int × Int) (h : c ∈ cutsL es n) : 0 ≤ c.1 ∧ c.1 < c.2 ∧ c.2 ≤ n := by
  obtain ⟨k, hk⟩ := List.mem_iff_getElem?.1 h
  exact cutsF_mem es n 0 k c hk
theorem cutsF_len : ∀ (es : List Int) (n b : Int), (cutsF b es n).length ≤ es.length
  | [], _, _ => by simp [cutsF]
  | e :: es, n, b => by
    unfold cutsF
    split
    · simp
    · have := cutsF_len es n (e + 1)
      simp only [List.length_cons]
      omega
end Go.Proofs.Ytbmklpcheopgoaa.Out
