/- Plain facts of Reversed: where a point goes. No program in sight. -/
import Derived.Test.YtbmklpcheopgoaaOutA
import Derived.Test.YtbmklpcheopgoaaOutK
import Derived.Test.YtbmklpcheopgoaaHx8
namespace Go.Proofs.Ytbmklpcheopgoaa.Out
open Go Go.RowKit Go.Proofs.Ytbmklpcheopgoaa.H Go.Proofs.YtbmklpcheopgoaaIt Go.Proofs.YtbmklpcheopgoaaOpen Go.Proofs.YtbmklpcheopgoaaW.PrintWords Go.Proofs.YtbmklpcheopgoaaW.PrintLast Go.Proofs.YtbmklpcheopgoaaW.PrintMore

/-! where a point goes -/
def sig : List Int → Nat → Nat → Nat → Nat
  | [], _, _, i => i
  | e :: es, b, n, i => if e < b ∨ (n : Int) ≤ e then i else if i ≤ e.toNat then (if i ≤ b then i else b + (e.toNat + 1) - i) else sig es (e.toNat + 1) n i
theorem sig_low : ∀ (es : List Int) (b n i : Nat), i ≤ b → sig es b n i = i
  | [], _, _, _, _ => rfl
  | e :: es, b, n, i, h => by
    unfold sig
    split
    · rfl
    · split
      · rfl
      · omega
theorem sig_ge : ∀ (es : List Int) (b n i : Nat), b ≤ i → b ≤ sig es b n i
  | [], _, _, _, h => h
  | e :: es, b, n, i, h => by
    unfold sig
    split
    · exact h
    · split
      · split <;> omega
      · have := sig_ge es (e.toNat + 1) n i (by omega); omega
theorem sig_lt : ∀ (es : List Int) (b n i : Nat), i < n → sig es b n i < n
  | [], _, _, _, h => h
  | e :: es, b, n, i, h => by
    unfold sig
    split
    · exact h
    · split
      · split <;> omega
      · exact sig_lt es (e.toNat + 1) n i h
theorem sig_sig : ∀ (es : List Int) (b n i : Nat), sig es b n (sig es b n i) = i
  | [], _, _, _ => rfl
  | e :: es, b, n, i => by
    by_cases h : e < b ∨ (n : Int) ≤ e
    · simp [sig, h]
    · by_cases h1 : i ≤ e.toNat
      · by_cases h2 : i ≤ b
        · simp [sig, h, h1, h2]
        · have e1 : sig (e :: es) b n i = b + (e.toNat + 1) - i := by simp [sig, h, h1, h2]
          have e2 : b + (e.toNat + 1) - i ≤ e.toNat := by omega
          have e3 : ¬ b + (e.toNat + 1) - i ≤ b := by omega
          rw [e1]
          simp [sig, h, e2, e3]
          omega
      · have e1 : sig (e :: es) b n i = sig es (e.toNat + 1) n i := by simp [sig, h, h1]
        have e2 : ¬ sig es (e.toNat + 1) n i ≤ e.toNat := by have := sig_ge es (e.toNat + 1) n i (by omega); omega
        rw [e1]
        have e3 : sig (e :: es) b n (sig es (e.toNat + 1) n i) = sig es (e.toNat + 1) n (sig es (e.toNat + 1) n i) := by
          rw [show sig (e :: es) b n (sig es (e.toNat + 1) n i) = if e < b ∨ (n : Int) ≤ e then sig es (e.toNat + 1) n i else if sig es (e.toNat + 1) n i ≤ e.toNat then (if sig es (e.toNat + 1) n i ≤ b then sig es (e.toNat + 1) n i else b + (e.toNat + 1) - sig es (e.toNat + 1) n i) else sig es (e.toNat + 1) n (sig es (e.toNat + 1) n i) from rfl, if_neg h, if_neg e2]
        rw [e3, sig_sig es (e.toNat + 1) n i]
theorem sig_cut : ∀ (es : List Int) (b n : Nat) (c : Int × Int), c ∈ cutsF b es n → ∀ i : Nat, c.1.toNat ≤ i → i < c.2.toNat → sig es b n i = if i = c.1.toNat then i else c.1.toNat + c.2.toNat - i
  | [], _, _, _, h, _, _, _ => by simp [cutsF] at h
  | e :: es, b, n, c, h, i, h0, h1 => by
    unfold cutsF at h
    by_cases hh : e < b ∨ (n : Int) ≤ e
    · rw [if_pos hh] at h; cases h
    · rw [if_neg hh] at h
      rcases List.mem_cons.1 h with rfl | h
      · simp only at h0 h1 ⊢
        simp only [sig, if_neg hh]
        rw [if_pos (by omega)]
        by_cases h2 : i ≤ b
        · rw [if_pos h2, if_pos (by omega)]
        · rw [if_neg h2, if_neg (by omega)]; omega
      · obtain ⟨k, hk⟩ := List.mem_iff_getElem?.1 h
        obtain ⟨m1, m2, m3⟩ := cutsF_mem es n (e + 1) k c hk
        have ee : e + 1 = ((e.toNat + 1 : Nat) : Int) := by omega
        rw [ee] at h
        have := sig_cut es (e.toNat + 1) n c h i h0 h1
        simp only [sig, if_neg hh]
        rw [if_neg (by omega)]
        exact this

theorem swapAt_get (l : List S33) (a b : Nat) (ha : a < l.length) (hb : b < l.length) (i : Nat) : (swapAt l a b)[i]? = if i = b then l[a]? else if i = a then l[b]? else l[i]? := by
  unfold swapAt
  rw [rdS_get l a ha, rdS_get l b hb, List.getElem?_set, List.getElem?_set, List.length_set]
  by_cases h1 : b = i
  · subst h1; rw [if_pos rfl, if_pos hb, if_pos rfl, List.getElem?_eq_getElem ha]
  · rw [if_neg h1, if_neg (show ¬ i = b from fun e => h1 e.symm)]
    by_cases h2 : a = i
    · subst h2; rw [if_pos rfl, if_pos ha, if_pos rfl, List.getElem?_eq_getElem hb]
    · rw [if_neg h2, if_neg (show ¬ i = a from fun e => h2 e.symm)]
theorem revK_get (l : List S33) (s t : Nat) (hst : s < t) (ht : t ≤ l.length) : ∀ (m : Nat), m ≤ (t - s - 1) / 2 → ∀ i, (revK l s t m)[i]? = l[if (s < i ∧ i ≤ s + m) ∨ (t - m ≤ i ∧ i < t) then s + t - i else i]? := by
  intro m
  induction m with
  | zero => intro _ i; rw [if_neg (by omega)]; rfl
  | succ m ih =>
    intro hm i
    have hl := revK_len l s t m
    rw [revK_succ, swapAt_get _ _ _ (by omega) (by omega), ih (by omega), ih (by omega), ih (by omega)]
    by_cases h1 : i = s + (t - s - 1 - m)
    · rw [if_pos h1, if_neg (by omega), if_pos (by omega)]; congr 1; omega
    · rw [if_neg h1]
      by_cases h2 : i = s + (1 + m)
      · rw [if_pos h2, if_neg (by omega), if_pos (by omega)]; congr 1; omega
      · rw [if_neg h2]
        by_cases h3 : (s < i ∧ i ≤ s + m) ∨ (t - m ≤ i ∧ i < t)
        · rw [if_pos h3, if_pos (by omega)]
        · rw [if_neg h3, if_neg (by omega)]
theorem revC_get (l : List S33) (c : Int × Int) (hst : c.1.toNat < c.2.toNat) (ht : c.2.toNat ≤ l.length) (i : Nat) : (revC l c)[i]? = l[if c.1.toNat < i ∧ i < c.2.toNat then c.1.toNat + c.2.toNat - i else i]? := by
  unfold revC
  rw [revK_get l _ _ hst ht _ (Nat.le_refl _)]
  by_cases h : c.1.toNat < i ∧ i < c.2.toNat
  · rw [if_pos h]
    by_cases h1 : (c.1.toNat < i ∧ i ≤ c.1.toNat + (c.2.toNat - c.1.toNat - 1) / 2) ∨ (c.2.toNat - (c.2.toNat - c.1.toNat - 1) / 2 ≤ i ∧ i < c.2.toNat)
    · rw [if_pos h1]
    · rw [if_neg h1]; congr 1; omega
  · rw [if_neg h, if_neg (by omega)]
theorem revC_len (l : List S33) (c : Int × Int) : (revC l c).length = l.length := revK_len _ _ _ _
theorem foldC_get : ∀ (es : List Int) (b n : Nat) (l : List S33), l.length = n → ∀ i, ((cutsF b es n).foldl revC l)[i]? = l[sig es b n i]?
  | [], _, _, _, _, _ => rfl
  | e :: es, b, n, l, hl, i => by
    unfold cutsF sig
    by_cases h : e < b ∨ (n : Int) ≤ e
    · rw [if_pos h, if_pos h]; rfl
    · rw [if_neg h, if_neg h, List.foldl_cons]
      have ee : e + 1 = ((e.toNat + 1 : Nat) : Int) := by omega
      have h1 := foldC_get es (e.toNat + 1) n (revC l (b, e + 1)) (by rw [revC_len]; exact hl) i
      rw [← ee] at h1
      rw [h1, revC_get l (b, e + 1) (by simp; omega) (by simp; omega)]
      simp only [Int.toNat_natCast, show (e + 1).toNat = e.toNat + 1 by omega]
      by_cases h2 : i ≤ e.toNat
      · rw [sig_low es _ n i (by omega), if_pos h2]
        by_cases h3 : i ≤ b
        · rw [if_neg (by omega), if_pos h3]
        · rw [if_pos (by omega), if_neg h3]
      · have := sig_ge es (e.toNat + 1) n i (by omega)
        rw [if_neg (by omega), if_neg h2]
/-- The outline turned, in one word. -/
def revA (pts : List S33) (es : List Int) : List S33 := revL pts es (cutsL es pts.length).length
theorem revA_get (pts : List S33) (es : List Int) (i : Nat) : (revA pts es)[i]? = pts[sig es 0 pts.length i]? := by
  unfold revA revL cutsL
  rw [List.take_length]
  exact foldC_get es 0 pts.length pts rfl i
theorem revA_len (pts : List S33) (es : List Int) : (revA pts es).length = pts.length := revL_len _ _ _
theorem revA_revA (pts : List S33) (es : List Int) : revA (revA pts es) es = pts := by
  refine List.ext_getElem? fun i => ?_
  rw [revA_get, revA_get, revA_len, sig_sig]
theorem reversed_f (pts : List S33) (es : List Int) (hn : pts.length ≤ 1000000) (he : es.length ≤ 1000000) : outline_Reversed.f pts es = some (revA pts es, es) := by
  unfold outline_Reversed.f
  rw [if_pos ⟨hn, he⟩]
  rfl
theorem revA_all (pts : List S33) (es : List Int) (p : S33 → Bool) : (revA pts es).all p = pts.all p := by
  have h : ∀ l : List S33, l.all p = true → (revA l es).all p = true := by
    intro l hl
    rw [List.all_eq_true] at hl ⊢
    intro x hx
    obtain ⟨i, hi⟩ := List.mem_iff_getElem?.1 hx
    rw [revA_get] at hi
    exact hl x (List.mem_of_getElem? hi)
  cases h1 : pts.all p with
  | true => exact h _ h1
  | false =>
    cases h2 : (revA pts es).all p with
    | false => rfl
    | true =>
      have := h _ h2
      rw [revA_revA, h1] at this
      cases this
theorem right_rev (pts : List S33) (es : List Int) : rightB (revA pts es) es = rightB pts es := by
  unfold rightB
  rw [revA_len, revA_all]

end Go.Proofs.Ytbmklpcheopgoaa.Out
