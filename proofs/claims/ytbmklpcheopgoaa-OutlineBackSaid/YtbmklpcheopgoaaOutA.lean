/- Plain facts of the printed functions Right and Moved of outlines, and of wrapped sums. No program in sight. -/
import Derived.Test.YtbmklpcheopgoaaHx5
import Derived.Test.YtbmklpcheopgoaaHx7
import Derived.Test.YtbmklpcheopgoaaOpens
namespace Go.Proofs.Ytbmklpcheopgoaa.Out
open Go Go.RowKit Go.Proofs.Ytbmklpcheopgoaa.H Go.Proofs.YtbmklpcheopgoaaOpen Go.Proofs.YtbmklpcheopgoaaW.PrintWords Go.Proofs.YtbmklpcheopgoaaW.PrintLast Go.Proofs.YtbmklpcheopgoaaW.PrintMore

theorem W_W (x : Int) : wrap64 (wrap64 x) = wrap64 x := by unfold wrap64; omega
theorem W_addl (x y : Int) : wrap64 (wrap64 x + y) = wrap64 (x + y) := by unfold wrap64; omega
theorem W_addr (x y : Int) : wrap64 (x + wrap64 y) = wrap64 (x + y) := by unfold wrap64; omega
theorem W_subl (x y : Int) : wrap64 (wrap64 x - y) = wrap64 (x - y) := by unfold wrap64; omega
theorem W_subr (x y : Int) : wrap64 (x - wrap64 y) = wrap64 (x - y) := by unfold wrap64; omega
theorem W_neg (x : Int) : wrap64 (-(wrap64 x)) = wrap64 (-x) := by unfold wrap64; omega
theorem W_in (x : Int) (h0 : -9223372036854775808 ≤ x) (h1 : x ≤ 9223372036854775807) : wrap64 x = x := by unfold wrap64; omega
theorem W_k (x : Int) : ∃ k, wrap64 x = x + 18446744073709551616 * k := ⟨-((x + 9223372036854775808) / 18446744073709551616), by unfold wrap64; omega⟩
theorem W_M (x k : Int) : wrap64 (x + 18446744073709551616 * k) = wrap64 x := by unfold wrap64; omega
theorem W_mul (x y : Int) : wrap64 (wrap64 x * wrap64 y) = wrap64 (x * y) := by
  obtain ⟨k, hk⟩ := W_k x
  obtain ⟨l, hl⟩ := W_k y
  rw [hk, hl, show (x + 18446744073709551616 * k) * (y + 18446744073709551616 * l) = x * y + 18446744073709551616 * (k * y + x * l + 18446744073709551616 * k * l) by grind, W_M]
theorem W_eq_add {a b c d : Int} (h : wrap64 a = wrap64 b) (h' : wrap64 c = wrap64 d) : wrap64 (a + c) = wrap64 (b + d) := by rw [← W_addl, ← W_addr, h, h', W_addl, W_addr]
theorem W_eq_sub {a b c d : Int} (h : wrap64 a = wrap64 b) (h' : wrap64 c = wrap64 d) : wrap64 (a - c) = wrap64 (b - d) := by rw [← W_subl, ← W_subr, h, h', W_subl, W_subr]
theorem W_eq_mul {a b c d : Int} (h : wrap64 a = wrap64 b) (h' : wrap64 c = wrap64 d) : wrap64 (a * c) = wrap64 (b * d) := by rw [← W_mul, h, h', W_mul]

theorem rdS_mid (l1 l2 : List S33) (p : S33) : rd_T33 (l1 ++ p :: l2) (l1.length : Int) = p := by simp [rd_T33]
theorem set_mid {α : Type} (l1 l2 : List α) (p q : α) : (l1 ++ p :: l2).set l1.length q = l1 ++ q :: l2 := by simp
theorem rdS_get (l : List S33) (i : Nat) (h : i < l.length) : rd_T33 l (i : Int) = l[i] := by simp [rd_T33, h]
theorem rd_get (l : List Int) (i : Nat) (h : i < l.length) : rd l (i : Int) = l[i] := by simp [rd, h]

/-! Right -/
def ptOk (p : S33) : Bool := !(decide (mx p.f0 p.f1 > 16384)) && !(decide (mn p.f0 p.f1 < -16384))
def endsOk : Int → List Int → Int → Bool
  | last, [], n => last == n - 1
  | last, e :: es, n => if e < last + 2 then false else if e ≥ n then false else endsOk e es n
def rightB (pts : List S33) (es : List Int) : Bool := decide (pts.length ≤ 200) && decide (es.length ≤ 40) && (pts.all ptOk && endsOk (-1) es pts.length)
theorem right_l1 (pts : List S33) (es : List Int) (hn : pts.length ≤ 1000000) (he : es.length ≤ 1000000) : ∀ (m k i : Nat) (last : Int), es.length = i + m → m < k → -1 ≤ last → last ≤ 1000000 →
    outline_Right.l1 k last es (es.length : Int) (i : Int) pts es = some (endsOk last (es.drop i) pts.length) := by
  intro m
  induction m with
  | zero =>
    intro k i last h1 h2 h3 h4
    obtain ⟨k, rfl⟩ : ∃ j, k = j + 1 := ⟨k - 1, by omega⟩
    rw [outline_Right.l1, if_neg (by omega), List.drop_of_length_le (by omega)]
    rw [W_in ((pts.length : Int) - 1) (by omega) (by omega)]
    rfl
  | succ m ih =>
    intro k i last h1 h2 h3 h4
    obtain ⟨k, rfl⟩ : ∃ j, k = j + 1 := ⟨k - 1, by omega⟩
    have hi : i < es.length := by omega
    rw [outline_Right.l1, if_pos (by omega), if_pos (by omega), if_pos (by omega), rd_get es i hi, List.drop_eq_getElem_cons hi, endsOk, W_in (last + 2) (by omega) (by omega), W_in ((i : Int) + 1) (by omega) (by omega)]
    by_cases c1 : es[i] < last + 2
    · rw [if_pos c1, if_pos c1]
    · rw [if_neg c1, if_neg c1]
      by_cases c2 : es[i] ≥ (pts.length : Int)
      · rw [if_pos c2, if_pos c2]
      · rw [if_neg c2, if_neg c2]
        exact ih k (i + 1) es[i] (by omega) (by omega) (by omega) (by omega)
theorem right_l0 (pts : List S33) (es : List Int) (hn : pts.length ≤ 1000000) (he : es.length ≤ 1000000) : ∀ (m k i : Nat), pts.length = i + m → m + es.length + 1 < k →
    outline_Right.l0 k pts (pts.length : Int) (i : Int) pts es = some ((pts.drop i).all ptOk && endsOk (-1) es pts.length) := by
  intro m
  induction m with
  | zero =>
    intro k i h1 h2
    obtain ⟨k, rfl⟩ : ∃ j, k = j + 1 := ⟨k - 1, by omega⟩
    rw [outline_Right.l0, if_neg (by omega), List.drop_of_length_le (by omega)]
    have := right_l1 pts es hn he es.length k 0 (-1) (by omega) (by omega) (by omega) (by omega)
    simpa using this
  | succ m ih =>
    intro k i h1 h2
    obtain ⟨k, rfl⟩ : ∃ j, k = j + 1 := ⟨k - 1, by omega⟩
    have hi : i < pts.length := by omega
    rw [outline_Right.l0, if_pos (by omega), if_pos (by omega), if_pos (by omega), rdS_get pts i hi, List.drop_eq_getElem_cons hi, List.all_cons, W_in ((i : Int) + 1) (by omega) (by omega)]
    by_cases c1 : mx pts[i].f0 pts[i].f1 > 16384
    · rw [if_pos c1]; simp [ptOk, c1]
    · rw [if_neg c1]
      by_cases c2 : mn pts[i].f0 pts[i].f1 < -16384
      · rw [if_pos c2]; simp [ptOk, c2]
      · rw [if_neg c2]
        have e : ptOk pts[i] = true := by simp only [ptOk, decide_eq_false c1, decide_eq_false c2]; rfl
        rw [e, Bool.true_and]
        exact ih k (i + 1) (by omega) (by omega)
theorem right_f (pts : List S33) (es : List Int) (k : Nat) (hn : pts.length ≤ 1000000) (he : es.length ≤ 1000000) (hk : pts.length + es.length + 3 ≤ k) : outline_Right.f k pts es = some (rightB pts es) := by
  obtain ⟨k, rfl⟩ : ∃ j, k = j + 1 := ⟨k - 1, by omega⟩
  unfold outline_Right.f rightB
  by_cases h1 : (pts.length : Int) > 200
  · rw [if_pos h1, outline_Right.j0, if_pos rfl, decide_eq_false (show ¬ pts.length ≤ 200 by omega)]; rfl
  · rw [if_neg h1, outline_Right.j0, decide_eq_true (show pts.length ≤ 200 by omega)]
    by_cases h2 : (es.length : Int) > 40
    · rw [if_pos (decide_eq_true h2), decide_eq_false (show ¬ es.length ≤ 40 by omega)]; rfl
    · rw [if_neg (by simpa using h2), decide_eq_true (show es.length ≤ 40 by omega)]
      have := right_l0 pts es hn he pts.length k 0 (by omega) (by omega)
      simpa using this

/-! Moved -/
def mvW (x y : Int) (p : S33) : S33 := ⟨wrap64 (p.f0 + x), wrap64 (p.f1 + y), p.f2⟩
theorem moved_l0 (x y : Int) (es : List Int) : ∀ (l2 l1 : List S33) (k : Nat) (n : Int), n = (l1 ++ l2).length → l2.length < k → l1.length + l2.length ≤ 1000000 → outline_Moved.l0 k x y n (l1.length : Int) (l1 ++ l2) es = some (l1 ++ l2.map (mvW x y), es) := by
  intro l2
  induction l2 with
  | nil =>
    intro l1 k n hn h1 h2
    obtain ⟨k, rfl⟩ : ∃ j, k = j + 1 := ⟨k - 1, by omega⟩
    rw [outline_Moved.l0, if_neg (by subst hn; simp)]
    simp
  | cons p l2 ih =>
    intro l1 k n hn h1 h2
    simp only [List.length_cons] at h1 h2
    obtain ⟨k, rfl⟩ : ∃ j, k = j + 1 := ⟨k - 1, by omega⟩
    rw [outline_Moved.l0, if_pos (by subst hn; simp; omega), if_pos (by omega), if_pos (by simp; omega), Option.bind_some]
    simp only [Int.toNat_natCast, rdS_mid, set_mid, W_in ((l1.length : Int) + 1) (by omega) (by omega)]
    have := ih (l1 ++ [mvW x y p]) k n (by subst hn; simp) (by omega) (by simp; omega)
    simpa [mvW] using this
theorem clone_f (pts : List S33) (es : List Int) (hn : pts.length ≤ 1000000) (he : es.length ≤ 1000000) : outline_clone.f pts es = some (pts, es) := by
  unfold outline_clone.f
  rw [if_pos (by simp; omega), if_pos (by simp; omega)]
  simp
theorem moved_f (pts : List S33) (es : List Int) (x y : Int) (k : Nat) (hn : pts.length ≤ 1000000) (he : es.length ≤ 1000000) (hk : pts.length < k) : outline_Moved.f k pts es x y = some (pts.map (mvW x y), es) := by
  unfold outline_Moved.f
  rw [clone_f pts es hn he, Option.bind_some]
  exact moved_l0 x y es pts [] k _ (by simp) hk (by simpa using hn)
theorem mvW_back (x y : Int) (p : S33) (h0 : wrap64 p.f0 = p.f0) (h1 : wrap64 p.f1 = p.f1) : mvW (wrap64 (-x)) (wrap64 (-y)) (mvW x y p) = p := by
  obtain ⟨a, b, c⟩ := p
  have e0 : wrap64 (wrap64 (a + x) + wrap64 (-x)) = a := by rw [W_addl, W_addr, show a + x + -x = a by omega]; exact h0
  have e1 : wrap64 (wrap64 (b + y) + wrap64 (-y)) = b := by rw [W_addl, W_addr, show b + y + -y = b by omega]; exact h1
  simp only [mvW, e0, e1]

end Go.Proofs.Ytbmklpcheopgoaa.Out
