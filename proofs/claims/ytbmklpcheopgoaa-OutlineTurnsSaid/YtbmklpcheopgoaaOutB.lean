/- Plain facts of Reversed and Area of outlines: where a point goes, and what the area of a contour turned or moved is. No program in sight. -/
import Derived.Test.YtbmklpcheopgoaaOutA
import Derived.Test.YtbmklpcheopgoaaHx8
import Derived.Test.YtbmklpcheopgoaaHx6
namespace Go.Proofs.Ytbmklpcheopgoaa.Out
open Go Go.RowKit Go.Proofs.Ytbmklpcheopgoaa.H Go.Proofs.YtbmklpcheopgoaaIt Go.Proofs.YtbmklpcheopgoaaOpen Go.Proofs.YtbmklpcheopgoaaW.PrintWords Go.Proofs.YtbmklpcheopgoaaW.PrintLast Go.Proofs.YtbmklpcheopgoaaW.PrintMore

/-! where a point goes -/
def sig : List Int → Nat → Nat → Nat → Nat
  | [], _, _, i => i
  | e :: es, b, n, i => if e < b ∨ (n : Int) ≤ e then i else if i ≤ e.toNat then (if i ≤ b then i else b + (e.toNat + 1) - i) else sig es (e.toNat + 1) n i
theorem sig_low : ∀ (es : List Int) (b n i : Nat), i ≤ b → sig es b n i = i
  | [], _, _, _, _ => rfl
  | e :: es, b, n, i, h => by
    unfold sig
    split
    · rfl
    · split
      · rfl
      · omega
theorem sig_ge : ∀ (es : List Int) (b n i : Nat), b ≤ i → b ≤ sig es b n i
  | [], _, _, _, h => h
  | e :: es, b, n, i, h => by
    unfold sig
    split
    · exact h
    · split
      · split <;> omega
      · have := sig_ge es (e.toNat + 1) n i (by omega); omega
theorem sig_lt : ∀ (es : List Int) (b n i : Nat), i < n → sig es b n i < n
  | [], _, _, _, h => h
  | e :: es, b, n, i, h => by
    unfold sig
    split
    · exact h
    · split
      · split <;> omega
      · exact sig_lt es (e.toNat + 1) n i h
theorem sig_sig : ∀ (es : List Int) (b n i : Nat), sig es b n (sig es b n i) = i
  | [], _, _, _ => rfl
  | e :: es, b, n, i => by
    by_cases h : e < b ∨ (n : Int) ≤ e
    · simp [sig, h]
    · by_cases h1 : i ≤ e.toNat
      · by_cases h2 : i ≤ b
        · simp [sig, h, h1, h2]
        · have e1 : sig (e :: es) b n i = b + (e.toNat + 1) - i := by simp [sig, h, h1, h2]
          have e2 : b + (e.toNat + 1) - i ≤ e.toNat := by omega
          have e3 : ¬ b + (e.toNat + 1) - i ≤ b := by omega
          rw [e1]
          simp [sig, h, e2, e3]
          omega
      · have e1 : sig (e :: es) b n i = sig es (e.toNat + 1) n i := by simp [sig, h, h1]
        have e2 : ¬ sig es (e.toNat + 1) n i ≤ e.toNat := by have := sig_ge es (e.toNat + 1) n i (by omega); omega
        rw [e1]
        have e3 : sig (e :: es) b n (sig es (e.toNat + 1) n i) = sig es (e.toNat + 1) n (sig es (e.toNat + 1) n i) := by
          rw [show sig (e :: es) b n (sig es (e.toNat + 1) n i) = if e < b ∨ (n : Int) ≤ e then sig es (e.toNat + 1) n i else if sig es (e.toNat + 1) n i ≤ e.toNat then (if sig es (e.toNat + 1) n i ≤ b then sig es (e.toNat + 1) n i else b + (e.toNat + 1) - sig es (e.toNat + 1) n i) else sig es (e.toNat + 1) n (sig es (e.toNat + 1) n i) from rfl, if_neg h, if_neg e2]
        rw [e3, sig_sig es (e.toNat + 1) n i]
theorem sig_cut : ∀ (es : List Int) (b n : Nat) (c : Int × Int), c ∈ cutsF b es n → ∀ i : Nat, c.1.toNat ≤ i → i < c.2.toNat → sig es b n i = if i = c.1.toNat then i else c.1.toNat + c.2.toNat - i
  | [], _, _, _, h, _, _, _ => by simp [cutsF] at h
  | e :: es, b, n, c, h, i, h0, h1 => by
    unfold cutsF at h
    by_cases hh : e < b ∨ (n : Int) ≤ e
    · rw [if_pos hh] at h; cases h
    · rw [if_neg hh] at h
      rcases List.mem_cons.1 h with rfl | h
      · simp only at h0 h1 ⊢
        simp only [sig, if_neg hh]
        rw [if_pos (by omega)]
        by_cases h2 : i ≤ b
        · rw [if_pos h2, if_pos (by omega)]
        · rw [if_neg h2, if_neg (by omega)]; omega
      · obtain ⟨k, hk⟩ := List.mem_iff_getElem?.1 h
        obtain ⟨m1, m2, m3⟩ := cutsF_mem es n (e + 1) k c hk
        have ee : e + 1 = ((e.toNat + 1 : Nat) : Int) := by omega
        rw [ee] at h
        have := sig_cut es (e.toNat + 1) n c h i h0 h1
        simp only [sig, if_neg hh]
        rw [if_neg (by omega)]
        exact this

theorem swapAt_get (l : List S33) (a b : Nat) (ha : a < l.length) (hb : b < l.length) (i : Nat) : (swapAt l a b)[i]? = if i = b then l[a]? else if i = a then l[b]? else l[i]? := by
  unfold swapAt
  rw [rdS_get l a ha, rdS_get l b hb, List.getElem?_set, List.getElem?_set, List.length_set]
  by_cases h1 : b = i
  · subst h1; rw [if_pos rfl, if_pos hb, if_pos rfl, List.getElem?_eq_getElem ha]
  · rw [if_neg h1, if_neg (show ¬ i = b from fun e => h1 e.symm)]
    by_cases h2 : a = i
    · subst h2; rw [if_pos rfl, if_pos ha, if_pos rfl, List.getElem?_eq_getElem hb]
    · rw [if_neg h2, if_neg (show ¬ i = a from fun e => h2 e.symm)]
theorem revK_get (l : List S33) (s t : Nat) (hst : s < t) (ht : t ≤ l.length) : ∀ (m : Nat), m ≤ (t - s - 1) / 2 → ∀ i, (revK l s t m)[i]? = l[if (s < i ∧ i ≤ s + m) ∨ (t - m ≤ i ∧ i < t) then s + t - i else i]? := by
  intro m
  induction m with
  | zero => intro _ i; rw [if_neg (by omega)]; rfl
  | succ m ih =>
    intro hm i
    have hl := revK_len l s t m
    rw [revK_succ, swapAt_get _ _ _ (by omega) (by omega), ih (by omega), ih (by omega), ih (by omega)]
    by_cases h1 : i = s + (t - s - 1 - m)
    · rw [if_pos h1, if_neg (by omega), if_pos (by omega)]; congr 1; omega
    · rw [if_neg h1]
      by_cases h2 : i = s + (1 + m)
      · rw [if_pos h2, if_neg (by omega), if_pos (by omega)]; congr 1; omega
      · rw [if_neg h2]
        by_cases h3 : (s < i ∧ i ≤ s + m) ∨ (t - m ≤ i ∧ i < t)
        · rw [if_pos h3, if_pos (by omega)]
        · rw [if_neg h3, if_neg (by omega)]
theorem revC_get (l : List S33) (c : Int × Int) (hst : c.1.toNat < c.2.toNat) (ht : c.2.toNat ≤ l.length) (i : Nat) : (revC l c)[i]? = l[if c.1.toNat < i ∧ i < c.2.toNat then c.1.toNat + c.2.toNat - i else i]? := by
  unfold revC
  rw [revK_get l _ _ hst ht _ (Nat.le_refl _)]
  by_cases h : c.1.toNat < i ∧ i < c.2.toNat
  · rw [if_pos h]
    by_cases h1 : (c.1.toNat < i ∧ i ≤ c.1.toNat + (c.2.toNat - c.1.toNat - 1) / 2) ∨ (c.2.toNat - (c.2.toNat - c.1.toNat - 1) / 2 ≤ i ∧ i < c.2.toNat)
    · rw [if_pos h1]
    · rw [if_neg h1]; congr 1; omega
  · rw [if_neg h, if_neg (by omega)]
theorem revC_len (l : List S33) (c : Int × Int) : (revC l c).length = l.length := revK_len _ _ _ _
theorem foldC_get : ∀ (es : List Int) (b n : Nat) (l : List S33), l.length = n → ∀ i, ((cutsF b es n).foldl revC l)[i]? = l[sig es b n i]?
  | [], _, _, _, _, _ => rfl
  | e :: es, b, n, l, hl, i => by
    unfold cutsF sig
    by_cases h : e < b ∨ (n : Int) ≤ e
    · rw [if_pos h, if_pos h]; rfl
    · rw [if_neg h, if_neg h, List.foldl_cons]
      have ee : e + 1 = ((e.toNat + 1 : Nat) : Int) := by omega
      have h1 := foldC_get es (e.toNat + 1) n (revC l (b, e + 1)) (by rw [revC_len]; exact hl) i
      rw [← ee] at h1
      rw [h1, revC_get l (b, e + 1) (by simp; omega) (by simp; omega)]
      simp only [Int.toNat_natCast, show (e + 1).toNat = e.toNat + 1 by omega]
      by_cases h2 : i ≤ e.toNat
      · rw [sig_low es _ n i (by omega), if_pos h2]
        by_cases h3 : i ≤ b
        · rw [if_neg (by omega), if_pos h3]
        · rw [if_pos (by omega), if_neg h3]
      · have := sig_ge es (e.toNat + 1) n i (by omega)
        rw [if_neg (by omega), if_neg h2]
/-- The outline turned, in one word. -/
def revA (pts : List S33) (es : List Int) : List S33 := revL pts es (cutsL es pts.length).length
theorem revA_get (pts : List S33) (es : List Int) (i : Nat) : (revA pts es)[i]? = pts[sig es 0 pts.length i]? := by
  unfold revA revL cutsL
  rw [List.take_length]
  exact foldC_get es 0 pts.length pts rfl i
theorem revA_len (pts : List S33) (es : List Int) : (revA pts es).length = pts.length := revL_len _ _ _
theorem revA_revA (pts : List S33) (es : List Int) : revA (revA pts es) es = pts := by
  refine List.ext_getElem? fun i => ?_
  rw [revA_get, revA_get, revA_len, sig_sig]
theorem reversed_f (pts : List S33) (es : List Int) (hn : pts.length ≤ 1000000) (he : es.length ≤ 1000000) : outline_Reversed.f pts es = some (revA pts es, es) := by
  unfold outline_Reversed.f
  rw [if_pos ⟨hn, he⟩]
  rfl
theorem revA_all (pts : List S33) (es : List Int) (p : S33 → Bool) : (revA pts es).all p = pts.all p := by
  have h : ∀ l : List S33, l.all p = true → (revA l es).all p = true := by
    intro l hl
    rw [List.all_eq_true] at hl ⊢
    intro x hx
    obtain ⟨i, hi⟩ := List.mem_iff_getElem?.1 hx
    rw [revA_get] at hi
    exact hl x (List.mem_of_getElem? hi)
  cases h1 : pts.all p with
  | true => exact h _ h1
  | false =>
    cases h2 : (revA pts es).all p with
    | false => rfl
    | true =>
      have := h _ h2
      rw [revA_revA, h1] at this
      cases this
theorem right_rev (pts : List S33) (es : List Int) : rightB (revA pts es) es = rightB pts es := by
  unfold rightB
  rw [revA_len, revA_all]

/-! a contour turned -/
def segRev (c : List S33) : List S33 := match c with | [] => [] | a :: r => a :: r.reverse
theorem segRev_len (c : List S33) : (segRev c).length = c.length := by cases c <;> simp [segRev]
theorem segRev_get (c : List S33) (i : Nat) (hi : i < c.length) : (segRev c)[i]? = c[if i = 0 then 0 else c.length - i]? := by
  cases c with
  | nil => simp at hi
  | cons a r =>
    cases i with
    | zero => simp [segRev]
    | succ i =>
      simp only [List.length_cons] at hi
      rw [if_neg (by omega), segRev, List.getElem?_cons_succ, List.getElem?_reverse (by omega), List.length_cons, show r.length + 1 - (i + 1) = (r.length - 1 - i) + 1 by omega, List.getElem?_cons_succ]
theorem contour_get (pts : List S33) (c : Int × Int) (i : Nat) : (contourOf pts c)[i]? = if i < c.2.toNat - c.1.toNat then pts[c.1.toNat + i]? else none := by
  unfold contourOf
  by_cases h : i < c.2.toNat - c.1.toNat
  · rw [if_pos h, List.getElem?_take_of_lt h, List.getElem?_drop]
  · rw [if_neg h, List.getElem?_eq_none (by simp; omega)]
theorem contour_len (pts : List S33) (c : Int × Int) (h : c.2.toNat ≤ pts.length) : (contourOf pts c).length = c.2.toNat - c.1.toNat := by
  unfold contourOf
  rw [List.length_take, List.length_drop]; omega
theorem cut_mem (es : List Int) (n : Nat) (c : Int × Int) (h : c ∈ cutsL es n) : 0 ≤ c.1 ∧ c.1 < c.2 ∧ c.2 ≤ n := by
  obtain ⟨k, hk⟩ := List.mem_iff_getElem?.1 h
  exact cutsF_mem es n 0 k c hk
theorem contour_rev (pts : List S33) (es : List Int) (c : Int × Int) (h : c ∈ cutsL es pts.length) : contourOf (revA pts es) c = segRev (contourOf pts c) := by
  obtain ⟨m1, m2, m3⟩ := cut_mem es _ c h
  have hl := contour_len pts c (by omega)
  refine List.ext_getElem? fun i => ?_
  rw [contour_get]
  by_cases hi : i < c.2.toNat - c.1.toNat
  · rw [if_pos hi, segRev_get _ _ (by omega), revA_get, contour_get, hl, sig_cut es 0 pts.length c h (c.1.toNat + i) (by omega) (by omega)]
    by_cases h0 : i = 0
    · subst h0; rw [if_pos (by omega), if_pos rfl, if_pos (by omega)]
    · rw [if_neg (by omega), if_neg h0, if_pos (by omega)]; congr 1; omega
  · rw [if_neg hi, List.getElem?_eq_none (by rw [segRev_len]; omega)]
theorem contour_map (f : S33 → S33) (pts : List S33) (c : Int × Int) : contourOf (pts.map f) c = (contourOf pts c).map f := by
  unfold contourOf
  rw [← List.map_drop, ← List.map_take]

/-! Area -/
def crossX (a b : S33) : Int := a.f0 * b.f1 - b.f0 * a.f1
def path : S33 → List S33 → Int
  | _, [] => 0
  | a, b :: r => crossX a b + path b r
def lastP : S33 → List S33 → S33
  | a, [] => a
  | _, b :: r => lastP b r
def cyc : List S33 → Int
  | [] => 0
  | a :: r => crossX (lastP a r) a + path a r
theorem path_snoc : ∀ (l : List S33) (a z : S33), path a (l ++ [z]) = path a l + crossX (lastP a l) z
  | [], a, z => by simp [path, lastP]
  | b :: l, a, z => by simp only [List.cons_append, path, lastP, path_snoc l b z]; omega
theorem lastP_snoc : ∀ (l : List S33) (a z : S33), lastP a (l ++ [z]) = z
  | [], _, _ => rfl
  | b :: l, _, z => lastP_snoc l b z
theorem crossX_swap (a b : S33) : crossX a b = - crossX b a := by unfold crossX; omega
theorem path_rev : ∀ (r : List S33) (a b : S33), path a r.reverse + crossX (lastP a r.reverse) b = -(path b r + crossX (lastP b r) a)
  | [], a, b => by simp only [List.reverse_nil, path, lastP]; have := crossX_swap a b; omega
  | h :: r, a, b => by
    rw [List.reverse_cons, path_snoc, lastP_snoc]
    have h1 := path_rev r a h
    have h2 := crossX_swap h b
    simp only [path, lastP]
    omega
theorem cyc_rev (c : List S33) : cyc (segRev c) = - cyc c := by
  cases c with
  | nil => rfl
  | cons a r =>
    have := path_rev r a a
    simp only [segRev, cyc]
    omega
theorem lastP_map (f : S33 → S33) : ∀ (r : List S33) (a : S33), lastP (f a) (r.map f) = f (lastP a r)
  | [], _ => rfl
  | b :: r, _ => lastP_map f r b
def mvE (x y : Int) (p : S33) : S33 := ⟨p.f0 + x, p.f1 + y, p.f2⟩
theorem cross_mv (x y : Int) (a b : S33) : crossX (mvE x y a) (mvE x y b) = crossX a b + (y * (a.f0 - b.f0) + x * (b.f1 - a.f1)) := by simp only [crossX, mvE]; grind
theorem path_mv (x y : Int) : ∀ (r : List S33) (a : S33), path (mvE x y a) (r.map (mvE x y)) = path a r + (y * (a.f0 - (lastP a r).f0) + x * ((lastP a r).f1 - a.f1))
  | [], a => by simp [path, lastP]
  | b :: r, a => by
    simp only [List.map_cons, path, lastP, path_mv x y r b, cross_mv]
    grind
theorem cyc_mv (x y : Int) (c : List S33) : cyc (c.map (mvE x y)) = cyc c := by
  cases c with
  | nil => rfl
  | cons a r =>
    simp only [List.map_cons, cyc, lastP_map, path_mv, cross_mv]
    grind
def eqv (p q : S33) : Prop := wrap64 p.f0 = wrap64 q.f0 ∧ wrap64 p.f1 = wrap64 q.f1
theorem cross_eqv {a a' b b' : S33} (h : eqv a a') (h' : eqv b b') : wrap64 (crossX a b) = wrap64 (crossX a' b') := W_eq_sub (W_eq_mul h.1 h'.2) (W_eq_mul h'.1 h.2)
theorem path_eqv (f g : S33 → S33) (hfg : ∀ p, eqv (f p) (g p)) : ∀ (r : List S33) (a : S33), wrap64 (path (f a) (r.map f)) = wrap64 (path (g a) (r.map g))
  | [], _ => rfl
  | b :: r, a => W_eq_add (cross_eqv (hfg a) (hfg b)) (path_eqv f g hfg r b)
theorem cyc_eqv (f g : S33 → S33) (hfg : ∀ p, eqv (f p) (g p)) (c : List S33) : wrap64 (cyc (c.map f)) = wrap64 (cyc (c.map g)) := by
  cases c with
  | nil => rfl
  | cons a r =>
    simp only [List.map_cons, cyc, lastP_map]
    exact W_eq_add (cross_eqv (hfg _) (hfg _)) (path_eqv f g hfg r a)
theorem cyc_mvW (x y : Int) (c : List S33) : wrap64 (cyc (c.map (mvW x y))) = wrap64 (cyc c) := by
  rw [cyc_eqv (mvW x y) (mvE x y) (fun p => ⟨W_W _, W_W _⟩), cyc_mv]

theorem areaK_fold (c : List S33) (n : Int) : ∀ k, k ≤ c.length → areaK c n k = (c.take k).foldl areaStep (n, rd_T33 c (c.length - 1))
  | 0, _ => rfl
  | k + 1, h => by
    rw [areaK_succ, areaK_fold c n k (by omega), List.take_add_one, List.getElem?_eq_getElem (show k < c.length by omega), rdS_get c k (by omega)]
    simp only [Option.toList_some, List.foldl_append, List.foldl_cons, List.foldl_nil]
theorem step_fold : ∀ (c : List S33) (n : Int) (a : S33), wrap64 n = n → (c.foldl areaStep (n, a)).1 = wrap64 (n + path a c)
  | [], n, a, h => by simp only [List.foldl_nil, path, Int.add_zero]; exact h.symm
  | b :: c, n, a, h => by
    have e : wrap64 (n + wrap64 (wrap64 (a.f0 * b.f1) - wrap64 (b.f0 * a.f1))) = wrap64 (n + crossX a b) := by rw [W_addr, ← W_addr, W_subl, W_subr, W_addr]; rfl
    simp only [List.foldl_cons, areaStep]
    rw [e, step_fold c _ b (W_W _), W_addl, path, Int.add_assoc]
theorem lastP_get : ∀ (r : List S33) (a : S33), (a :: r)[r.length]? = some (lastP a r)
  | [], _ => rfl
  | b :: r, a => by simpa [lastP] using lastP_get r b
theorem areaRow_eq (c : List S33) (n : Int) (h : wrap64 n = n) : areaRow c n = wrap64 (n + cyc c) := by
  unfold areaRow
  rw [areaK_fold c n _ (Nat.le_refl _), List.take_length, step_fold _ _ _ h]
  cases c with
  | nil => simp [path, cyc]
  | cons a r =>
    have e : rd_T33 (a :: r) (((a :: r).length : Int) - 1) = lastP a r := by
      have h1 := lastP_get r a
      unfold rd_T33
      rw [show (((a :: r).length : Int) - 1).toNat = r.length by simp, List.getD_eq_getElem?_getD, h1]
      rfl
    rw [e]
    simp only [path, cyc]
theorem areaF_eq (pts : List S33) : ∀ (cs : List (Int × Int)) (n : Int), wrap64 n = n → cs.foldl (fun n c => areaRow (contourOf pts c) n) n = wrap64 (n + (cs.map fun c => cyc (contourOf pts c)).sum)
  | [], n, h => by simp only [List.foldl_nil, List.map_nil, List.sum_nil, Int.add_zero]; exact h.symm
  | c :: cs, n, h => by
    rw [List.foldl_cons, areaF_eq pts cs _ (by rw [areaRow_eq _ _ h]; exact W_W _), areaRow_eq _ _ h, W_addl, List.map_cons, List.sum_cons, Int.add_assoc]
def areaA (pts : List S33) (es : List Int) : Int := wrap64 ((cutsL es pts.length).map fun c => cyc (contourOf pts c)).sum
theorem area_f (pts : List S33) (es : List Int) (hn : pts.length ≤ 1000000) : outline_Area.f pts es = some (areaA pts es) := by
  unfold outline_Area.f
  rw [if_pos hn]
  unfold areaL areaA
  rw [List.take_length, areaF_eq pts _ 0 (by unfold wrap64; omega), Int.zero_add]
theorem sum_neg {α : Type} (f g : α → Int) : ∀ l : List α, (∀ c ∈ l, f c = - g c) → (l.map f).sum = -(l.map g).sum
  | [], _ => rfl
  | a :: l, h => by
    have := sum_neg f g l (fun c hc => h c (List.mem_cons_of_mem _ hc))
    have h2 := h a List.mem_cons_self
    simp only [List.map_cons, List.sum_cons]
    omega
theorem sum_W {α : Type} (f g : α → Int) : ∀ l : List α, (∀ c ∈ l, wrap64 (f c) = wrap64 (g c)) → wrap64 (l.map f).sum = wrap64 (l.map g).sum
  | [], _ => rfl
  | a :: l, h => by
    simp only [List.map_cons, List.sum_cons]
    exact W_eq_add (h a List.mem_cons_self) (sum_W f g l (fun c hc => h c (List.mem_cons_of_mem _ hc)))
theorem area_rev (pts : List S33) (es : List Int) : areaA (revA pts es) es = wrap64 (-(areaA pts es)) := by
  unfold areaA
  rw [revA_len, W_neg, sum_neg (fun c => cyc (contourOf (revA pts es) c)) (fun c => cyc (contourOf pts c)) _ (fun c hc => by rw [contour_rev pts es c hc, cyc_rev])]
theorem area_moved (pts : List S33) (es : List Int) (x y : Int) : areaA (pts.map (mvW x y)) es = areaA pts es := by
  unfold areaA
  rw [List.length_map]
  exact sum_W _ _ _ (fun c hc => by rw [contour_map, cyc_mvW])
end Go.Proofs.Ytbmklpcheopgoaa.Out
