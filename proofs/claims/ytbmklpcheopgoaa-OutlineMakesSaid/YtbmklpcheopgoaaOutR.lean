/- Plain facts of the reference's Cuts, Moved, Reversed: they are the program's. No program in sight. -/
import Derived.Test.YtbmklpcheopgoaaOutB
import Derived.Test.YtbmklpcheopgoaaHx15
import Derived.Test.YtbmklpcheopgoaaHx3
import Derived.Test.YtbmklpcheopgoaaHx16
import Derived.Test.YtbmklpcheopgoaaHx17
namespace Go.Proofs.Ytbmklpcheopgoaa.Out
open Go Go.RowKit Go.Proofs.Ytbmklpcheopgoaa.H Go.Proofs.YtbmklpcheopgoaaIt Go.Proofs.YtbmklpcheopgoaaOpen Go.Proofs.YtbmklpcheopgoaaW.PrintWords Go.Proofs.YtbmklpcheopgoaaW.PrintLast Go.Proofs.YtbmklpcheopgoaaW.PrintMore

/-! Same -/
theorem samePoints_l0 (a : List S33) (hn : a.length ≤ 1000000) : ∀ (m k i : Nat), a.length = i + m → m < k → fleuronref03_SamePoints.l0 k a a (i : Int) = some true := by
  intro m
  induction m with
  | zero =>
    intro k i h1 h2
    obtain ⟨k, rfl⟩ : ∃ j, k = j + 1 := ⟨k - 1, by omega⟩
    rw [fleuronref03_SamePoints.l0, if_neg (by omega)]
  | succ m ih =>
    intro k i h1 h2
    obtain ⟨k, rfl⟩ : ∃ j, k = j + 1 := ⟨k - 1, by omega⟩
    rw [fleuronref03_SamePoints.l0, if_pos (by omega), if_pos (by omega), if_pos (by omega), W_in ((i : Int) + 1) (by omega) (by omega)]
    simp only [BEq.rfl, Bool.not_true, Bool.or_self, Bool.false_eq_true, if_false]
    exact ih k (i + 1) (by omega) (by omega)
theorem sameInts_l0 (a : List Int) (hn : a.length ≤ 1000000) : ∀ (m k i : Nat), a.length = i + m → m < k → fleuronref03_SameInts.l0 k a a (i : Int) = some true := by
  intro m
  induction m with
  | zero =>
    intro k i h1 h2
    obtain ⟨k, rfl⟩ : ∃ j, k = j + 1 := ⟨k - 1, by omega⟩
    rw [fleuronref03_SameInts.l0, if_neg (by omega)]
  | succ m ih =>
    intro k i h1 h2
    obtain ⟨k, rfl⟩ : ∃ j, k = j + 1 := ⟨k - 1, by omega⟩
    rw [fleuronref03_SameInts.l0, if_pos (by omega), if_pos (by omega), if_pos (by omega), if_pos rfl, W_in ((i : Int) + 1) (by omega) (by omega)]
    exact ih k (i + 1) (by omega) (by omega)
theorem same_f (a : List S33) (e : List Int) (k : Nat) (hn : a.length ≤ 1000000) (he : e.length ≤ 1000000) (hk : a.length < k) (hk' : e.length < k) : fleuronref03_Same.f k a e a e = some true := by
  unfold fleuronref03_Same.f fleuronref03_SamePoints.f
  rw [if_pos rfl]
  have h1 := samePoints_l0 a hn a.length k 0 (by omega) hk
  have h2 := sameInts_l0 e he e.length k 0 (by omega) hk'
  rw [show ((0 : Nat) : Int) = 0 from rfl] at h1 h2
  rw [h1, Option.bind_some, if_pos rfl]
  unfold fleuronref03_SameInts.f
  rw [if_pos rfl, h2]
  rfl
theorem big_f (pts : List S33) (es : List Int) (h : ¬ fleuronref03_Big.f pts es = some true) : fleuronref03_Big.f pts es = some false ∧ pts.length ≤ 1500 ∧ es.length ≤ 300 := by
  unfold fleuronref03_Big.f at h ⊢
  by_cases h1 : (pts.length : Int) > 1500
  · rw [if_pos h1] at h; exact absurd rfl h
  · rw [if_neg h1] at h ⊢
    by_cases h2 : (es.length : Int) > 300
    · rw [decide_eq_true h2] at h; exact absurd rfl h
    · rw [decide_eq_false h2]; exact ⟨rfl, by omega, by omega⟩

def cN (c : Int × Int) : S64 := ⟨c.1, c.2 - 1⟩
theorem refCuts_l0 (es : List Int) (n : Int) (hn : n ≤ 1000000) (he : es.length ≤ 1000000) : ∀ (m k i : Nat) (last : Int) (out : List S64), es.length = i + m → m < k → -1 ≤ last → last ≤ 1000000 → out.length ≤ i →
    fleuronref03_Cuts.l0 k es n out last (i : Int) = some (out ++ (cutsF (last + 1) (es.drop i) n).map cN) := by
  intro m
  induction m with
  | zero =>
    intro k i last out h1 h2 h3 h4 h5
    obtain ⟨k, rfl⟩ : ∃ j, k = j + 1 := ⟨k - 1, by omega⟩
    rw [fleuronref03_Cuts.l0, if_neg (by omega), List.drop_of_length_le (by omega)]
    simp [cutsF]
  | succ m ih =>
    intro k i last out h1 h2 h3 h4 h5
    obtain ⟨k, rfl⟩ : ∃ j, k = j + 1 := ⟨k - 1, by omega⟩
    have hi : i < es.length := by omega
    rw [fleuronref03_Cuts.l0, if_pos (by omega), if_pos (by omega), rd_get es i hi, List.drop_eq_getElem_cons hi, cutsF]
    by_cases c1 : es[i] ≤ last
    · rw [if_pos c1, if_pos (by omega)]; simp
    · rw [if_neg c1]
      by_cases c2 : es[i] ≥ n
      · rw [if_pos c2, if_pos (by omega)]; simp
      · rw [if_neg c2, if_pos (show out.length < 8796093022208 by omega), if_neg (show ¬ (es[i] < last + 1 ∨ n ≤ es[i]) by omega), W_in (last + 1) (by omega) (by omega), W_in ((i : Int) + 1) (by omega) (by omega)]
        have := ih k (i + 1) es[i] (out ++ [⟨last + 1, es[i]⟩]) (by omega) (by omega) (by omega) (by omega) (by simp; omega)
        rw [List.append_assoc] at this
        have e : cN (last + 1, es[i] + 1) = ⟨last + 1, es[i]⟩ := by unfold cN; congr 1; dsimp only; omega
        rw [List.map_cons, e]
        exact this
theorem refCuts_f (es : List Int) (n : Int) (k : Nat) (hn : n ≤ 1000000) (he : es.length ≤ 1000000) (hk : es.length < k) : fleuronref03_Cuts.f k es n = some ((cutsL es n).map cN) := by
  unfold fleuronref03_Cuts.f
  have := refCuts_l0 es n hn he es.length k 0 (-1) [] (by omega) hk (by omega) (by omega) (by simp)
  simpa [cutsL] using this

theorem copied_f (pts : List S33) (es : List Int) (hn : pts.length ≤ 1000000) (he : es.length ≤ 1000000) : fleuronref03_copied.f pts es = some (pts, es) := by
  unfold fleuronref03_copied.f
  simp only [Option.bind_some]
  rw [if_pos (by simp; omega), if_pos (by simp; omega)]
  simp
theorem refMoved_l0 (x y : Int) (es : List Int) : ∀ (l2 l1 : List S33) (k : Nat), l2.length < k → l1.length + l2.length ≤ 1000000 → fleuronref03_Moved.l0 k x y (l1.length : Int) (l1 ++ l2) es = some (l1 ++ l2.map (mvW x y), es) := by
  intro l2
  induction l2 with
  | nil =>
    intro l1 k h1 h2
    obtain ⟨k, rfl⟩ : ∃ j, k = j + 1 := ⟨k - 1, by omega⟩
    rw [fleuronref03_Moved.l0, if_neg (by simp)]
    simp
  | cons p l2 ih =>
    intro l1 k h1 h2
    simp only [List.length_cons] at h1 h2
    obtain ⟨k, rfl⟩ : ∃ j, k = j + 1 := ⟨k - 1, by omega⟩
    rw [fleuronref03_Moved.l0, if_pos (by simp; omega), if_pos (by omega), Option.bind_some]
    simp only [Int.toNat_natCast, rdS_mid, set_mid, W_in ((l1.length : Int) + 1) (by omega) (by omega)]
    have := ih (l1 ++ [mvW x y p]) k (by omega) (by simp; omega)
    simpa [mvW] using this
theorem refMoved_f (pts : List S33) (es : List Int) (x y : Int) (k : Nat) (hn : pts.length ≤ 1000000) (he : es.length ≤ 1000000) (hk : pts.length < k) : fleuronref03_Moved.f k pts es x y = some (pts.map (mvW x y), es) := by
  unfold fleuronref03_Moved.f
  rw [copied_f pts es hn he, Option.bind_some]
  exact refMoved_l0 x y es pts [] k hk (by simpa using hn)

theorem rdC_mid (l1 l2 : List S64) (p : S64) : rd_T64 (l1 ++ p :: l2) (l1.length : Int) = p := by simp [rd_T64]
theorem refRev_l1 (X : List S64) (j : Nat) (hj : j < X.length) (s e n : Nat) (o : List S33) (oes qes : List Int) (hX : rd_T64 X (j : Int) = ⟨s, e⟩) (hXn : X.length ≤ 1000000) (hse : s ≤ e) (hen : e < n) (hn : n ≤ 1000000) (ho : o.length = n) :
    ∀ (m k i : Nat) (q : List S33), e + 1 = i + m → s < i → m < k → q.length = n → ∃ q', q'.length = n ∧ (∀ t, q'[t]? = if i ≤ t ∧ t ≤ e then o[s + e + 1 - t]? else q[t]?) ∧
      fleuronref03_Reversed.l1 k X (j : Int) (i : Int) o oes q qes = fleuronref03_Reversed.l0 (k - m - 1) X ((j : Int) + 1) o oes q' qes := by
  intro m
  induction m with
  | zero =>
    intro k i q h1 h2 h3 h4
    obtain ⟨k, rfl⟩ : ∃ j, k = j + 1 := ⟨k - 1, by omega⟩
    refine ⟨q, h4, fun t => by rw [if_neg (by omega)], ?_⟩
    rw [fleuronref03_Reversed.l1, if_pos (by omega), if_pos (by omega), hX]
    dsimp only
    rw [if_neg (by omega), W_in ((j : Int) + 1) (by omega) (by omega)]
    rfl
  | succ m ih =>
    intro k i q h1 h2 h3 h4
    obtain ⟨k, rfl⟩ : ∃ j, k = j + 1 := ⟨k - 1, by omega⟩
    have hlt : s + e + 1 - i < o.length := by omega
    have p1 : (i : Int) ≤ (e : Int) := by omega
    have p5 : (i : Int) < (q.length : Int) := by omega
    have pj : (0 : Int) ≤ (j : Int) := Int.natCast_nonneg j
    have pj2 : (j : Int) < (X.length : Int) := Int.ofNat_lt.2 hj
    have pk : k + 1 - (m + 1) - 1 = k - m - 1 := by omega
    obtain ⟨q', a1, a2, a3⟩ := ih k (i + 1) (q.set i o[s + e + 1 - i]) (by omega) (by omega) (by omega) (by simpa using h4)
    refine ⟨q', a1, fun t => ?_, ?_⟩
    · rw [a2 t]
      by_cases c : i = t
      · subst c
        rw [if_neg (by omega), if_pos (by omega), List.getElem?_set, if_pos rfl, if_pos (by omega), List.getElem?_eq_getElem hlt]
      · by_cases c2 : i + 1 ≤ t ∧ t ≤ e
        · rw [if_pos c2, if_pos (by omega)]
        · rw [if_neg c2, if_neg (by omega), List.getElem?_set_ne c]
    · have eta : (⟨o[s + e + 1 - i].f0, o[s + e + 1 - i].f1, o[s + e + 1 - i].f2⟩ : S33) = o[s + e + 1 - i] := rfl
      rw [pk, ← a3]
      clear a1 a2 a3 ih
      have u1 : -9223372036854775808 ≤ (i : Int) + 1 ∧ (i : Int) + 1 ≤ 9223372036854775807 := by omega
      have u2 : -9223372036854775808 ≤ (e : Int) + (s : Int) ∧ (e : Int) + (s : Int) ≤ 9223372036854775807 := by omega
      have u3 : -9223372036854775808 ≤ (e : Int) + (s : Int) + 1 ∧ (e : Int) + (s : Int) + 1 ≤ 9223372036854775807 := by omega
      have u4 : -9223372036854775808 ≤ (e : Int) + (s : Int) + 1 - (i : Int) ∧ (e : Int) + (s : Int) + 1 - (i : Int) ≤ 9223372036854775807 := by omega
      have u5 : (e : Int) + (s : Int) + 1 - (i : Int) = ((s + e + 1 - i : Nat) : Int) := by omega
      have p6 : wrap64 ((i : Int) + 1) = (i : Int) + 1 := W_in _ u1.1 u1.2
      have w1 : wrap64 (wrap64 (wrap64 ((e : Int) + (s : Int)) + 1) - (i : Int)) = ((s + e + 1 - i : Nat) : Int) := by
        rw [W_in _ u2.1 u2.2, W_in _ u3.1 u3.2, W_in _ u4.1 u4.2, u5]
      rw [fleuronref03_Reversed.l1, if_pos pj, if_pos pj2, hX]
      dsimp only
      rw [w1, if_pos p1, if_pos (Int.natCast_nonneg _), if_pos (Int.ofNat_lt.2 hlt), if_pos (Int.natCast_nonneg _), if_pos p5, p6, rdS_get o _ hlt, Int.toNat_natCast, eta]
      exact rfl
theorem refRev_l0 (n : Nat) (hn : n ≤ 1000000) (o : List S33) (oes qes : List Int) (ho : o.length = n) : ∀ (es : List Int) (b k : Nat) (pre : List S64) (q : List S33), pre.length + es.length ≤ 1000000 → 2 * es.length + (n - b) + 2 < k → q.length = n → (∀ i, b ≤ i → q[i]? = o[i]?) →
    ∃ r, (∀ i, r[i]? = if i < b then q[i]? else o[sig es b n i]?) ∧ fleuronref03_Reversed.l0 k (pre ++ (cutsF b es n).map cN) (pre.length : Int) o oes q qes = some (r, qes) := by
  intro es
  induction es with
  | nil =>
    intro b k pre q h1 h2 h3 h4
    obtain ⟨k, rfl⟩ : ∃ j, k = j + 1 := ⟨k - 1, by omega⟩
    refine ⟨q, fun i => ?_, ?_⟩
    · by_cases c : i < b
      · rw [if_pos c]
      · rw [if_neg c]; exact h4 i (by omega)
    · rw [fleuronref03_Reversed.l0, if_neg (by simp [cutsF])]
  | cons e es ih =>
    intro b k pre q h1 h2 h3 h4
    obtain ⟨k, rfl⟩ : ∃ j, k = j + 1 := ⟨k - 1, by omega⟩
    simp only [List.length_cons] at h1 h2
    by_cases c : e < b ∨ (n : Int) ≤ e
    · refine ⟨q, fun i => ?_, ?_⟩
      · by_cases c2 : i < b
        · rw [if_pos c2]
        · rw [if_neg c2, sig, if_pos c]; exact h4 i (by omega)
      · rw [fleuronref03_Reversed.l0, if_neg (by rw [cutsF, if_pos c]; simp)]
    · obtain ⟨E, rfl⟩ : ∃ E : Nat, e = E := ⟨e.toNat, by omega⟩
      have hc : (cutsF b ((E : Int) :: es) n).map cN = ⟨(b : Int), (E : Int)⟩ :: (cutsF ((E + 1 : Nat) : Int) es n).map cN := by
        rw [cutsF, if_neg c, List.map_cons]
        congr 1
        unfold cN
        congr 1
        dsimp only
        omega
      rw [hc]
      have hlen := cutsF_len es (n : Int) ((E + 1 : Nat) : Int)
      have hlen2 := cutsF_len es (n : Int) ((E : Int) + 1)
      obtain ⟨q', a1, a2, a3⟩ := refRev_l1 (pre ++ ⟨(b : Int), (E : Int)⟩ :: (cutsF ((E + 1 : Nat) : Int) es n).map cN) pre.length (by simp) b E n o oes qes (rdC_mid _ _ _) (by simp; omega) (by omega) (by omega) hn ho (E - b) k (b + 1) q (by omega) (by omega) (by omega) h3
      obtain ⟨r, b1, b2⟩ := ih (E + 1) (k - (E - b) - 1) (pre ++ [⟨(b : Int), (E : Int)⟩]) q' (by simp; omega) (by omega) a1 (fun i hi => by rw [a2 i, if_neg (by omega)]; exact h4 i (by omega))
      refine ⟨r, fun i => ?_, ?_⟩
      · rw [b1 i, sig, if_neg c]
        simp only [Int.toNat_natCast]
        by_cases c1 : i < E + 1
        · rw [if_pos c1, a2 i]
          by_cases c2 : i < b
          · rw [if_neg (show ¬ (b + 1 ≤ i ∧ i ≤ E) by omega), if_pos c2]
          · rw [if_neg c2]
            by_cases c3 : i ≤ b
            · rw [if_neg (show ¬ (b + 1 ≤ i ∧ i ≤ E) by omega), if_pos (show i ≤ E by omega), if_pos c3]; exact h4 i (by omega)
            · rw [if_pos (show b + 1 ≤ i ∧ i ≤ E by omega), if_pos (show i ≤ E by omega), if_neg c3]; congr 1
        · rw [if_neg c1, if_neg (show ¬ i < b by omega), if_neg (show ¬ i ≤ E by omega)]
      · rw [fleuronref03_Reversed.l0, if_pos (by simp; omega), if_pos (by omega), rdC_mid]
        dsimp only
        rw [W_in ((b : Int) + 1) (by omega) (by omega)]
        refine a3.trans ?_
        have e1 : pre ++ (⟨(b : Int), (E : Int)⟩ : S64) :: (cutsF ((E + 1 : Nat) : Int) es n).map cN = (pre ++ [⟨(b : Int), (E : Int)⟩]) ++ (cutsF ((E + 1 : Nat) : Int) es n).map cN := by simp
        rw [e1]
        simpa using b2
theorem refReversed_f (pts : List S33) (es : List Int) (k : Nat) (hn : pts.length ≤ 1000000) (he : es.length ≤ 1000000) (hk : 2 * es.length + pts.length + 2 < k) : fleuronref03_Reversed.f k pts es = some (revA pts es, es) := by
  unfold fleuronref03_Reversed.f
  rw [copied_f pts es hn he, Option.bind_some, refCuts_f es pts.length k (by omega) he (by omega), Option.bind_some]
  obtain ⟨r, h1, h2⟩ := refRev_l0 pts.length hn pts es es rfl es 0 k [] pts (by simpa using he) (by omega) rfl (fun _ _ => rfl)
  have e : r = revA pts es := List.ext_getElem? fun i => by rw [h1 i, if_neg (by omega), revA_get]
  subst e
  exact h2
end Go.Proofs.Ytbmklpcheopgoaa.Out
