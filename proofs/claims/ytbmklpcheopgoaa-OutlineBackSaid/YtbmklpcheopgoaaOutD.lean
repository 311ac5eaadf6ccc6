/- Plain facts of Lines: the lines of a contour that is moved, and where they lie. No program in sight. -/
import Derived.Test.YtbmklpcheopgoaaOutC
namespace Go.Proofs.Ytbmklpcheopgoaa.Out
open Go Go.RowKit Go.Proofs.Ytbmklpcheopgoaa.H Go.Proofs.YtbmklpcheopgoaaIt Go.Proofs.YtbmklpcheopgoaaOpen Go.Proofs.YtbmklpcheopgoaaW.PrintWords Go.Proofs.YtbmklpcheopgoaaW.PrintLast Go.Proofs.YtbmklpcheopgoaaW.PrintMore

def shP (x y : Int) (p : S52) : S52 := ⟨p.f0 + x, p.f1 + y⟩
def shT (x y : Int) (t : S101) : S101 := ⟨shP x y t.f0, t.f1⟩
def inB (a b c d : Int) (p : S52) : Prop := a ≤ p.f0 ∧ p.f0 ≤ b ∧ c ≤ p.f1 ∧ p.f1 ≤ d
def big (a b : Int) : Prop := -16384 ≤ a ∧ b ≤ 16384
theorem rdP_map (f : S52 → S52) (l : List S52) (i : Nat) (h : i < l.length) : rd_T52 (l.map f) (i : Int) = f (rd_T52 l i) := by simp [rd_T52, h]
theorem rdT_map (f : S101 → S101) (l : List S101) (i : Nat) (h : i < l.length) : rd_T101 (l.map f) (i : Int) = f (rd_T101 l i) := by simp [rd_T101, h]
theorem rdP_mem (l : List S52) (i : Nat) (h : i < l.length) : rd_T52 l (i : Int) ∈ l := by rw [rdP_get l i h]; exact List.getElem_mem h
theorem rdT_mem (l : List S101) (i : Nat) (h : i < l.length) : rd_T101 l (i : Int) ∈ l := by simp [rd_T101, h]

/-! the ring -/
theorem mid_sh (p q x : Int) (hp : -16384 ≤ p ∧ p ≤ 16384) (hq : -16384 ≤ q ∧ q ≤ 16384) (hx : -1000000 ≤ x ∧ x ≤ 1000000) : wrap64 (p + x + (q + x)) / 2 = wrap64 (p + q) / 2 + x := by
  rw [W_in _ (by omega) (by omega), W_in _ (by omega) (by omega)]; omega
section
variable {x y : Int} (hx : -1000000 ≤ x ∧ x ≤ 1000000) (hy : -1000000 ≤ y ∧ y ≤ 1000000)
include hx hy
theorem ringStep_sh (pts : List S52) (on : List Bool) (hp : ∀ p ∈ pts, inB (-16384) 16384 (-16384) 16384 p) (st : List S101 × Int) (i : Nat) (hi : i < pts.length) :
    ringStep (pts.map (shP x y)) on (st.1.map (shT x y), st.2) i = ((ringStep pts on st i).1.map (shT x y), (ringStep pts on st i).2) := by
  have hb : (i + (pts.length - 1)) % pts.length < pts.length := Nat.mod_lt _ (by omega)
  have h1 := hp _ (rdP_mem pts i hi)
  have h2 := hp _ (rdP_mem pts _ hb)
  unfold ringStep
  dsimp only
  rw [List.length_map, rdP_map _ _ _ hi, rdP_map _ _ _ hb]
  generalize rd_T52 pts ((i + (pts.length - 1)) % pts.length : Nat) = q at *
  generalize rd_T52 pts (i : Nat) = p at *
  have e1 := mid_sh p.f0 q.f0 x ⟨h1.1, h1.2.1⟩ ⟨h2.1, h2.2.1⟩ hx
  have e2 := mid_sh p.f1 q.f1 y ⟨h1.2.2.1, h1.2.2.2⟩ ⟨h2.2.2.1, h2.2.2.2⟩ hy
  by_cases hc : rdOf false on (i : Nat) = false ∧ rdOf false on ((i + (pts.length - 1)) % pts.length : Nat) = false
  · rw [if_pos hc, if_pos hc]
    simp [shT, shP, e1, e2]
  · rw [if_neg hc, if_neg hc]
    simp [shT]
theorem ring_sh (pts : List S52) (on : List Bool) (hp : ∀ p ∈ pts, inB (-16384) 16384 (-16384) 16384 p) : ∀ k, k ≤ pts.length → ringSt (pts.map (shP x y)) on k = ((ringSt pts on k).1.map (shT x y), (ringSt pts on k).2)
  | 0, _ => rfl
  | k + 1, h => by rw [ringSt_succ, ringSt_succ, ring_sh pts on hp k (by omega), ringStep_sh hx hy pts on hp _ k (by omega)]
end
theorem ringFin_map (f : S101 → S101) (l : List S101) (s : Int) : ringFin (l.map f, s) = (ringFin (l, s)).map f := by simp [ringFin]
theorem ring_in {a b c d : Int} (ha : big a b) (hc : big c d) (pts : List S52) (on : List Bool) (hp : ∀ p ∈ pts, inB a b c d p) : ∀ k, k ≤ pts.length → ∀ t ∈ (ringSt pts on k).1, inB a b c d t.f0
  | 0, _, t, h => by simp [ringSt] at h
  | k + 1, hk, t, h => by
    have hb : (k + (pts.length - 1)) % pts.length < pts.length := Nat.mod_lt _ (by omega)
    have h1 := hp _ (rdP_mem pts k (by omega))
    have h2 := hp _ (rdP_mem pts _ hb)
    have ih := ring_in ha hc pts on hp k (by omega)
    rw [ringSt_succ] at h
    unfold ringStep at h
    dsimp only at h
    generalize rd_T52 pts ((k + (pts.length - 1)) % pts.length : Nat) = q at *
    generalize rd_T52 pts (k : Nat) = p at *
    obtain ⟨a1, a2, a3, a4⟩ := h1
    obtain ⟨b1, b2, b3, b4⟩ := h2
    obtain ⟨ha1, ha2⟩ := ha
    obtain ⟨hc1, hc2⟩ := hc
    have hm : inB a b c d ⟨wrap64 (p.f0 + q.f0) / 2, wrap64 (p.f1 + q.f1) / 2⟩ := by
      unfold inB
      rw [W_in _ (by omega) (by omega), W_in _ (by omega) (by omega)]
      dsimp only
      omega
    split at h
    · simp only [List.mem_append, List.mem_singleton] at h
      rcases h with (h | rfl) | rfl
      · exact ih t h
      · exact hm
      · exact ⟨a1, a2, a3, a4⟩
    · simp only [List.mem_append, List.mem_singleton] at h
      rcases h with h | rfl
      · exact ih t h
      · exact ⟨a1, a2, a3, a4⟩
theorem ringFin_mem (st : List S101 × Int) (t : S101) (h : t ∈ ringFin st) : t ∈ st.1 := by
  unfold ringFin at h
  rcases List.mem_append.1 h with h | h
  · exact List.mem_of_mem_drop h
  · exact List.mem_of_mem_take h
theorem ringSt_pos (pts : List S52) (on : List Bool) (k : Nat) (h : 0 < k) : 0 < (ringFin (ringSt pts on k)).length := by rw [ringFin_len]; have := ringSt_ge pts on k; omega

/-! the curve -/
theorem at_1 (a c b : Int) (ha : -4000000 ≤ a ∧ a ≤ 4000000) (hc : -4000000 ≤ c ∧ c ≤ 4000000) (hb : -4000000 ≤ b ∧ b ≤ 4000000) : atV ((1 : Nat) : Int) a c b = (49 * a + 14 * c + 1 * b + 32) / 64 := by
  simp only [atV, outline_at.f, Option.getD_some]
  rw [show wrap64 (8 - ((1 : Nat) : Int)) = 7 by unfold wrap64; omega, show wrap64 ((7 : Int) * 7) = 49 by unfold wrap64; omega, show wrap64 (2 * ((1 : Nat) : Int)) = 2 by unfold wrap64; omega, show wrap64 ((2 : Int) * 7) = 14 by unfold wrap64; omega, show wrap64 (((1 : Nat) : Int) * ((1 : Nat) : Int)) = 1 by unfold wrap64; omega]
  rw [W_in (49 * a) (by omega) (by omega), W_in (14 * c) (by omega) (by omega), W_in (1 * b) (by omega) (by omega), W_in (49 * a + 14 * c) (by omega) (by omega), W_in (49 * a + 14 * c + 1 * b) (by omega) (by omega), W_in (49 * a + 14 * c + 1 * b + 32) (by omega) (by omega)]
theorem at_2 (a c b : Int) (ha : -4000000 ≤ a ∧ a ≤ 4000000) (hc : -4000000 ≤ c ∧ c ≤ 4000000) (hb : -4000000 ≤ b ∧ b ≤ 4000000) : atV ((2 : Nat) : Int) a c b = (36 * a + 24 * c + 4 * b + 32) / 64 := by
  simp only [atV, outline_at.f, Option.getD_some]
  rw [show wrap64 (8 - ((2 : Nat) : Int)) = 6 by unfold wrap64; omega, show wrap64 ((6 : Int) * 6) = 36 by unfold wrap64; omega, show wrap64 (2 * ((2 : Nat) : Int)) = 4 by unfold wrap64; omega, show wrap64 ((4 : Int) * 6) = 24 by unfold wrap64; omega, show wrap64 (((2 : Nat) : Int) * ((2 : Nat) : Int)) = 4 by unfold wrap64; omega]
  rw [W_in (36 * a) (by omega) (by omega), W_in (24 * c) (by omega) (by omega), W_in (4 * b) (by omega) (by omega), W_in (36 * a + 24 * c) (by omega) (by omega), W_in (36 * a + 24 * c + 4 * b) (by omega) (by omega), W_in (36 * a + 24 * c + 4 * b + 32) (by omega) (by omega)]
theorem at_3 (a c b : Int) (ha : -4000000 ≤ a ∧ a ≤ 4000000) (hc : -4000000 ≤ c ∧ c ≤ 4000000) (hb : -4000000 ≤ b ∧ b ≤ 4000000) : atV ((3 : Nat) : Int) a c b = (25 * a + 30 * c + 9 * b + 32) / 64 := by
  simp only [atV, outline_at.f, Option.getD_some]
  rw [show wrap64 (8 - ((3 : Nat) : Int)) = 5 by unfold wrap64; omega, show wrap64 ((5 : Int) * 5) = 25 by unfold wrap64; omega, show wrap64 (2 * ((3 : Nat) : Int)) = 6 by unfold wrap64; omega, show wrap64 ((6 : Int) * 5) = 30 by unfold wrap64; omega, show wrap64 (((3 : Nat) : Int) * ((3 : Nat) : Int)) = 9 by unfold wrap64; omega]
  rw [W_in (25 * a) (by omega) (by omega), W_in (30 * c) (by omega) (by omega), W_in (9 * b) (by omega) (by omega), W_in (25 * a + 30 * c) (by omega) (by omega), W_in (25 * a + 30 * c + 9 * b) (by omega) (by omega), W_in (25 * a + 30 * c + 9 * b + 32) (by omega) (by omega)]
theorem at_4 (a c b : Int) (ha : -4000000 ≤ a ∧ a ≤ 4000000) (hc : -4000000 ≤ c ∧ c ≤ 4000000) (hb : -4000000 ≤ b ∧ b ≤ 4000000) : atV ((4 : Nat) : Int) a c b = (16 * a + 32 * c + 16 * b + 32) / 64 := by
  simp only [atV, outline_at.f, Option.getD_some]
  rw [show wrap64 (8 - ((4 : Nat) : Int)) = 4 by unfold wrap64; omega, show wrap64 ((4 : Int) * 4) = 16 by unfold wrap64; omega, show wrap64 (2 * ((4 : Nat) : Int)) = 8 by unfold wrap64; omega, show wrap64 ((8 : Int) * 4) = 32 by unfold wrap64; omega, show wrap64 (((4 : Nat) : Int) * ((4 : Nat) : Int)) = 16 by unfold wrap64; omega]
  rw [W_in (16 * a) (by omega) (by omega), W_in (32 * c) (by omega) (by omega), W_in (16 * b) (by omega) (by omega), W_in (16 * a + 32 * c) (by omega) (by omega), W_in (16 * a + 32 * c + 16 * b) (by omega) (by omega), W_in (16 * a + 32 * c + 16 * b + 32) (by omega) (by omega)]
theorem at_5 (a c b : Int) (ha : -4000000 ≤ a ∧ a ≤ 4000000) (hc : -4000000 ≤ c ∧ c ≤ 4000000) (hb : -4000000 ≤ b ∧ b ≤ 4000000) : atV ((5 : Nat) : Int) a c b = (9 * a + 30 * c + 25 * b + 32) / 64 := by
  simp only [atV, outline_at.f, Option.getD_some]
  rw [show wrap64 (8 - ((5 : Nat) : Int)) = 3 by unfold wrap64; omega, show wrap64 ((3 : Int) * 3) = 9 by unfold wrap64; omega, show wrap64 (2 * ((5 : Nat) : Int)) = 10 by unfold wrap64; omega, show wrap64 ((10 : Int) * 3) = 30 by unfold wrap64; omega, show wrap64 (((5 : Nat) : Int) * ((5 : Nat) : Int)) = 25 by unfold wrap64; omega]
  rw [W_in (9 * a) (by omega) (by omega), W_in (30 * c) (by omega) (by omega), W_in (25 * b) (by omega) (by omega), W_in (9 * a + 30 * c) (by omega) (by omega), W_in (9 * a + 30 * c + 25 * b) (by omega) (by omega), W_in (9 * a + 30 * c + 25 * b + 32) (by omega) (by omega)]
theorem at_6 (a c b : Int) (ha : -4000000 ≤ a ∧ a ≤ 4000000) (hc : -4000000 ≤ c ∧ c ≤ 4000000) (hb : -4000000 ≤ b ∧ b ≤ 4000000) : atV ((6 : Nat) : Int) a c b = (4 * a + 24 * c + 36 * b + 32) / 64 := by
  simp only [atV, outline_at.f, Option.getD_some]
  rw [show wrap64 (8 - ((6 : Nat) : Int)) = 2 by unfold wrap64; omega, show wrap64 ((2 : Int) * 2) = 4 by unfold wrap64; omega, show wrap64 (2 * ((6 : Nat) : Int)) = 12 by unfold wrap64; omega, show wrap64 ((12 : Int) * 2) = 24 by unfold wrap64; omega, show wrap64 (((6 : Nat) : Int) * ((6 : Nat) : Int)) = 36 by unfold wrap64; omega]
  rw [W_in (4 * a) (by omega) (by omega), W_in (24 * c) (by omega) (by omega), W_in (36 * b) (by omega) (by omega), W_in (4 * a + 24 * c) (by omega) (by omega), W_in (4 * a + 24 * c + 36 * b) (by omega) (by omega), W_in (4 * a + 24 * c + 36 * b + 32) (by omega) (by omega)]
theorem at_7 (a c b : Int) (ha : -4000000 ≤ a ∧ a ≤ 4000000) (hc : -4000000 ≤ c ∧ c ≤ 4000000) (hb : -4000000 ≤ b ∧ b ≤ 4000000) : atV ((7 : Nat) : Int) a c b = (1 * a + 14 * c + 49 * b + 32) / 64 := by
  simp only [atV, outline_at.f, Option.getD_some]
  rw [show wrap64 (8 - ((7 : Nat) : Int)) = 1 by unfold wrap64; omega, show wrap64 ((1 : Int) * 1) = 1 by unfold wrap64; omega, show wrap64 (2 * ((7 : Nat) : Int)) = 14 by unfold wrap64; omega, show wrap64 ((14 : Int) * 1) = 14 by unfold wrap64; omega, show wrap64 (((7 : Nat) : Int) * ((7 : Nat) : Int)) = 49 by unfold wrap64; omega]
  rw [W_in (1 * a) (by omega) (by omega), W_in (14 * c) (by omega) (by omega), W_in (49 * b) (by omega) (by omega), W_in (1 * a + 14 * c) (by omega) (by omega), W_in (1 * a + 14 * c + 49 * b) (by omega) (by omega), W_in (1 * a + 14 * c + 49 * b + 32) (by omega) (by omega)]
theorem at_8 (a c b : Int) (ha : -4000000 ≤ a ∧ a ≤ 4000000) (hc : -4000000 ≤ c ∧ c ≤ 4000000) (hb : -4000000 ≤ b ∧ b ≤ 4000000) : atV ((8 : Nat) : Int) a c b = (0 * a + 0 * c + 64 * b + 32) / 64 := by
  simp only [atV, outline_at.f, Option.getD_some]
  rw [show wrap64 (8 - ((8 : Nat) : Int)) = 0 by unfold wrap64; omega, show wrap64 ((0 : Int) * 0) = 0 by unfold wrap64; omega, show wrap64 (2 * ((8 : Nat) : Int)) = 16 by unfold wrap64; omega, show wrap64 ((16 : Int) * 0) = 0 by unfold wrap64; omega, show wrap64 (((8 : Nat) : Int) * ((8 : Nat) : Int)) = 64 by unfold wrap64; omega]
  rw [W_in (0 * a) (by omega) (by omega), W_in (0 * c) (by omega) (by omega), W_in (64 * b) (by omega) (by omega), W_in (0 * a + 0 * c) (by omega) (by omega), W_in (0 * a + 0 * c + 64 * b) (by omega) (by omega), W_in (0 * a + 0 * c + 64 * b + 32) (by omega) (by omega)]
theorem at_sh (j : Nat) (h1 : 1 ≤ j) (h8 : j ≤ 8) (a c b x : Int) (ha : -16384 ≤ a ∧ a ≤ 16384) (hc : -16384 ≤ c ∧ c ≤ 16384) (hb : -16384 ≤ b ∧ b ≤ 16384) (hx : -1000000 ≤ x ∧ x ≤ 1000000) : atV (j : Int) (a + x) (c + x) (b + x) = atV (j : Int) a c b + x := by
  rcases (show j = 1 ∨ j = 2 ∨ j = 3 ∨ j = 4 ∨ j = 5 ∨ j = 6 ∨ j = 7 ∨ j = 8 by omega) with rfl | rfl | rfl | rfl | rfl | rfl | rfl | rfl
  · rw [at_1 _ _ _ (by omega) (by omega) (by omega), at_1 _ _ _ (by omega) (by omega) (by omega)]; omega
  · rw [at_2 _ _ _ (by omega) (by omega) (by omega), at_2 _ _ _ (by omega) (by omega) (by omega)]; omega
  · rw [at_3 _ _ _ (by omega) (by omega) (by omega), at_3 _ _ _ (by omega) (by omega) (by omega)]; omega
  · rw [at_4 _ _ _ (by omega) (by omega) (by omega), at_4 _ _ _ (by omega) (by omega) (by omega)]; omega
  · rw [at_5 _ _ _ (by omega) (by omega) (by omega), at_5 _ _ _ (by omega) (by omega) (by omega)]; omega
  · rw [at_6 _ _ _ (by omega) (by omega) (by omega), at_6 _ _ _ (by omega) (by omega) (by omega)]; omega
  · rw [at_7 _ _ _ (by omega) (by omega) (by omega), at_7 _ _ _ (by omega) (by omega) (by omega)]; omega
  · rw [at_8 _ _ _ (by omega) (by omega) (by omega), at_8 _ _ _ (by omega) (by omega) (by omega)]; omega
theorem at_in (j : Nat) (h1 : 1 ≤ j) (h8 : j ≤ 8) (a c b l h : Int) (hl : big l h) (ha : l ≤ a ∧ a ≤ h) (hc : l ≤ c ∧ c ≤ h) (hb : l ≤ b ∧ b ≤ h) : l ≤ atV (j : Int) a c b ∧ atV (j : Int) a c b ≤ h := by
  obtain ⟨l1, l2⟩ := hl
  rcases (show j = 1 ∨ j = 2 ∨ j = 3 ∨ j = 4 ∨ j = 5 ∨ j = 6 ∨ j = 7 ∨ j = 8 by omega) with rfl | rfl | rfl | rfl | rfl | rfl | rfl | rfl
  · rw [at_1 _ _ _ (by omega) (by omega) (by omega)]; omega
  · rw [at_2 _ _ _ (by omega) (by omega) (by omega)]; omega
  · rw [at_3 _ _ _ (by omega) (by omega) (by omega)]; omega
  · rw [at_4 _ _ _ (by omega) (by omega) (by omega)]; omega
  · rw [at_5 _ _ _ (by omega) (by omega) (by omega)]; omega
  · rw [at_6 _ _ _ (by omega) (by omega) (by omega)]; omega
  · rw [at_7 _ _ _ (by omega) (by omega) (by omega)]; omega
  · rw [at_8 _ _ _ (by omega) (by omega) (by omega)]; omega

/-! the row -/
theorem curveAt_sh {x y : Int} (hx : -1000000 ≤ x ∧ x ≤ 1000000) (hy : -1000000 ≤ y ∧ y ≤ 1000000) (l : List S101) (hl : ∀ t ∈ l, inB (-16384) 16384 (-16384) 16384 t.f0) (i j : Nat) (hi : i < l.length) (h1 : 1 ≤ j) (h8 : j ≤ 8) : curveAt (l.map (shT x y)) i j = shP x y (curveAt l i j) := by
  have m1 : (i + 1) % l.length < l.length := Nat.mod_lt _ (by omega)
  have m2 : (i + 2) % l.length < l.length := Nat.mod_lt _ (by omega)
  unfold curveAt
  dsimp only
  rw [List.length_map, rdT_map _ _ _ hi, rdT_map _ _ _ m1, rdT_map _ _ _ m2]
  have a0 := hl _ (rdT_mem l i hi)
  have a1 := hl _ (rdT_mem l _ m1)
  have a2 := hl _ (rdT_mem l _ m2)
  simp only [shT, shP]
  rw [at_sh j h1 h8 _ _ _ x ⟨a0.1, a0.2.1⟩ ⟨a1.1, a1.2.1⟩ ⟨a2.1, a2.2.1⟩ hx, at_sh j h1 h8 _ _ _ y ⟨a0.2.2.1, a0.2.2.2⟩ ⟨a1.2.2.1, a1.2.2.2⟩ ⟨a2.2.2.1, a2.2.2.2⟩ hy]
theorem curveAt_in {a b c d : Int} (ha : big a b) (hc : big c d) (l : List S101) (hl : ∀ t ∈ l, inB a b c d t.f0) (i j : Nat) (hi : i < l.length) (h1 : 1 ≤ j) (h8 : j ≤ 8) : inB a b c d (curveAt l i j) := by
  have m1 : (i + 1) % l.length < l.length := Nat.mod_lt _ (by omega)
  have m2 : (i + 2) % l.length < l.length := Nat.mod_lt _ (by omega)
  have a0 := hl _ (rdT_mem l i hi)
  have a1 := hl _ (rdT_mem l _ m1)
  have a2 := hl _ (rdT_mem l _ m2)
  have e1 := at_in j h1 h8 _ _ _ a b ha ⟨a0.1, a0.2.1⟩ ⟨a1.1, a1.2.1⟩ ⟨a2.1, a2.2.1⟩
  have e2 := at_in j h1 h8 _ _ _ c d hc ⟨a0.2.2.1, a0.2.2.2⟩ ⟨a1.2.2.1, a1.2.2.2⟩ ⟨a2.2.2.1, a2.2.2.2⟩
  exact ⟨e1.1, e1.2, e2.1, e2.2⟩
theorem curveK_sh {x y : Int} (hx : -1000000 ≤ x ∧ x ≤ 1000000) (hy : -1000000 ≤ y ∧ y ≤ 1000000) (l : List S101) (hl : ∀ t ∈ l, inB (-16384) 16384 (-16384) 16384 t.f0) (i : Nat) (hi : i < l.length) : curveK (l.map (shT x y)) i 8 = (curveK l i 8).map (shP x y) := by
  unfold curveK
  rw [List.map_map]
  refine List.map_congr_left fun j hj => ?_
  have hj := List.mem_range.1 hj
  exact curveAt_sh hx hy l hl i (1 + j) hi (by omega) (by omega)
theorem rowGo_sh {x y : Int} (hx : -1000000 ≤ x ∧ x ≤ 1000000) (hy : -1000000 ≤ y ∧ y ≤ 1000000) (l : List S101) (hl : ∀ t ∈ l, inB (-16384) 16384 (-16384) 16384 t.f0) : ∀ (f i : Nat) (out : List S52), rowGo (l.map (shT x y)) f i (out.map (shP x y)) = (rowGo l f i out).map (shP x y)
  | 0, _, _ => rfl
  | f + 1, i, out => by
    unfold rowGo
    rw [List.length_map]
    by_cases hi : i < l.length
    · have m1 : (i + 1) % l.length < l.length := Nat.mod_lt _ (by omega)
      rw [if_pos hi, if_pos hi, rdT_map _ _ _ m1]
      by_cases hc : (rd_T101 l ((i + 1) % l.length : Nat)).f1 = true
      · rw [if_pos hc, if_pos (show (shT x y (rd_T101 l ((i + 1) % l.length : Nat))).f1 = true from hc), ← rowGo_sh hx hy l hl f (i + 1)]
        simp [shT]
      · rw [if_neg hc, if_neg (show ¬ (shT x y (rd_T101 l ((i + 1) % l.length : Nat))).f1 = true from hc), ← rowGo_sh hx hy l hl f (i + 2), curveK_sh hx hy l hl i hi, List.map_append]
    · rw [if_neg hi, if_neg hi]
theorem rowL_sh {x y : Int} (hx : -1000000 ≤ x ∧ x ≤ 1000000) (hy : -1000000 ≤ y ∧ y ≤ 1000000) (l : List S101) (hl : ∀ t ∈ l, inB (-16384) 16384 (-16384) 16384 t.f0) (h0 : 0 < l.length) : rowL (l.map (shT x y)) = (rowL l).map (shP x y) := by
  have e : rowAll (l.map (shT x y)) = (rowAll l).map (shP x y) := by
    unfold rowAll
    rw [rdT_map _ _ 0 h0, List.length_map]
    exact rowGo_sh hx hy l hl l.length 0 [(rd_T101 l (0 : Nat)).f0]
  unfold rowL
  rw [e, List.length_map, List.map_take]
theorem rowGo_in {a b c d : Int} (ha : big a b) (hc : big c d) (l : List S101) (hl : ∀ t ∈ l, inB a b c d t.f0) : ∀ (f i : Nat) (out : List S52), (∀ p ∈ out, inB a b c d p) → ∀ p ∈ rowGo l f i out, inB a b c d p
  | 0, _, _, ho, p, h => ho p h
  | f + 1, i, out, ho, p, h => by
    unfold rowGo at h
    by_cases hi : i < l.length
    · have m1 : (i + 1) % l.length < l.length := Nat.mod_lt _ (by omega)
      rw [if_pos hi] at h
      split at h
      · refine rowGo_in ha hc l hl f (i + 1) _ (fun q hq => ?_) p h
        rcases List.mem_append.1 hq with hq | hq
        · exact ho q hq
        · rw [List.mem_singleton.1 hq]; exact hl _ (rdT_mem l _ m1)
      · refine rowGo_in ha hc l hl f (i + 2) _ (fun q hq => ?_) p h
        rcases List.mem_append.1 hq with hq | hq
        · exact ho q hq
        · unfold curveK at hq
          obtain ⟨j, hj, rfl⟩ := List.mem_map.1 hq
          have hj := List.mem_range.1 hj
          exact curveAt_in ha hc l hl i (1 + j) hi (by omega) (by omega)
    · rw [if_neg hi] at h; exact ho p h
theorem rowL_in {a b c d : Int} (ha : big a b) (hc : big c d) (l : List S101) (hl : ∀ t ∈ l, inB a b c d t.f0) (h0 : 0 < l.length) (p : S52) (h : p ∈ rowL l) : inB a b c d p := by
  unfold rowL rowAll at h
  refine rowGo_in ha hc l hl l.length 0 _ (fun q hq => ?_) p (List.mem_of_mem_take h)
  rw [List.mem_singleton.1 hq]
  exact hl _ (rdT_mem l 0 h0)

/-! the lines -/
theorem contourLines_sh {x y : Int} (hx : -1000000 ≤ x ∧ x ≤ 1000000) (hy : -1000000 ≤ y ∧ y ≤ 1000000) (pts : List S52) (on : List Bool) (hp : ∀ p ∈ pts, inB (-16384) 16384 (-16384) 16384 p) (s t : Nat) (hst : s < t) (ht : t ≤ pts.length) : contourLines (pts.map (shP x y)) on s t = (contourLines pts on s t).map (shP x y) := by
  unfold contourLines
  have hp' : ∀ p ∈ (pts.drop s).take (t - s), inB (-16384) 16384 (-16384) 16384 p := fun p h => hp p (List.mem_of_mem_drop (List.mem_of_mem_take h))
  have hl : t - s ≤ ((pts.drop s).take (t - s)).length := by simp; omega
  rw [← List.map_drop, ← List.map_take, ring_sh hx hy _ _ hp' _ hl, ringFin_map]
  refine rowL_sh hx hy _ (fun q hq => ring_in ⟨by omega, by omega⟩ ⟨by omega, by omega⟩ _ _ hp' _ hl q (ringFin_mem _ _ hq)) (ringSt_pos _ _ _ (by omega))
theorem contourLines_in {a b c d : Int} (ha : big a b) (hc : big c d) (pts : List S52) (on : List Bool) (s t : Nat) (hst : s < t) (ht : t ≤ pts.length) (hp : ∀ p ∈ (pts.drop s).take (t - s), inB a b c d p) (p : S52) (h : p ∈ contourLines pts on s t) : inB a b c d p := by
  unfold contourLines at h
  have hl : t - s ≤ ((pts.drop s).take (t - s)).length := by simp; omega
  exact rowL_in ha hc _ (fun q hq => ring_in ha hc _ _ hp _ hl q (ringFin_mem _ _ hq)) (ringSt_pos _ _ _ (by omega)) p h
theorem linesA_sh {x y : Int} (hx : -1000000 ≤ x ∧ x ≤ 1000000) (hy : -1000000 ≤ y ∧ y ≤ 1000000) (pts : List S52) (on : List Bool) (es : List Int) (hp : ∀ p ∈ pts, inB (-16384) 16384 (-16384) 16384 p) : linesA (pts.map (shP x y)) on es = (linesA pts on es).map (·.map (shP x y)) := by
  unfold linesA
  rw [List.length_map, List.map_map]
  refine List.map_congr_left fun c hc => ?_
  obtain ⟨m1, m2, m3⟩ := cut_mem es pts.length c hc
  exact contourLines_sh hx hy pts on hp _ _ (by omega) (by omega)
theorem linesA_in (pts : List S52) (on : List Bool) (es : List Int) (hp : ∀ p ∈ pts, inB (-16384) 16384 (-16384) 16384 p) (l : List S52) (hl : l ∈ linesA pts on es) (p : S52) (h : p ∈ l) : inB (-16384) 16384 (-16384) 16384 p := by
  unfold linesA at hl
  obtain ⟨c, hc, rfl⟩ := List.mem_map.1 hl
  obtain ⟨m1, m2, m3⟩ := cut_mem es pts.length c hc
  exact contourLines_in ⟨by omega, by omega⟩ ⟨by omega, by omega⟩ pts on _ _ (by omega) (by omega) (fun q hq => hp q (List.mem_of_mem_drop (List.mem_of_mem_take hq))) p h
theorem linesA_le (pts : List S52) (on : List Bool) (es : List Int) (hn : pts.length ≤ 200) (l : List S52) (hl : l ∈ linesA pts on es) : l.length ≤ 4000 := by
  unfold linesA at hl
  obtain ⟨c, hc, rfl⟩ := List.mem_map.1 hl
  obtain ⟨m1, m2, m3⟩ := cut_mem es pts.length c hc
  have := contourLines_len pts on c.1.toNat c.2.toNat
  omega
theorem rdL_get (L : List (List S52)) (i : Nat) (h : i < L.length) : rd_L9 L (i : Int) = L[i] := by simp [rd_L9, h]
end Go.Proofs.Ytbmklpcheopgoaa.Out
