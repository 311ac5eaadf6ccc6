/- Plain facts of the lines of a contour that goes the other way round, its first point on the curve. No program in sight. -/
import Derived.Test.YtbmklpcheopgoaaOutD
import Derived.Test.YtbmklpcheopgoaaOutE
namespace Go.Proofs.Ytbmklpcheopgoaa.Out
open Go Go.RowKit Go.Proofs.Ytbmklpcheopgoaa.H Go.Proofs.YtbmklpcheopgoaaIt Go.Proofs.YtbmklpcheopgoaaOpen Go.Proofs.YtbmklpcheopgoaaW.PrintWords Go.Proofs.YtbmklpcheopgoaaW.PrintLast Go.Proofs.YtbmklpcheopgoaaW.PrintMore

def curve7 (a c b : S101) : List S52 := (List.range 7).map fun j => ⟨atV ((1 + j : Nat) : Int) a.f0.f0 c.f0.f0 b.f0.f0, atV ((1 + j : Nat) : Int) a.f0.f1 c.f0.f1 b.f0.f1⟩
/-- The points of a row of turns from its first to its last, both on the curve. -/
def walk : List S101 → List S52
  | [] => []
  | [a] => [a.f0]
  | [a, c] => if c.f1 = true then [a.f0, c.f0] else [a.f0]
  | a :: c :: b :: r => if c.f1 = true then a.f0 :: walk (c :: b :: r) else a.f0 :: (curve7 a c b ++ walk (b :: r))
def small (l : List S101) : Prop := ∀ t ∈ l, inB (-16384) 16384 (-16384) 16384 t.f0
theorem at_flip (j : Nat) (h : j < 7) (a c b : Int) (ha : -16384 ≤ a ∧ a ≤ 16384) (hc : -16384 ≤ c ∧ c ≤ 16384) (hb : -16384 ≤ b ∧ b ≤ 16384) : atV ((1 + j : Nat) : Int) b c a = atV ((1 + (6 - j) : Nat) : Int) a c b := by
  rcases (show j = 0 ∨ j = 1 ∨ j = 2 ∨ j = 3 ∨ j = 4 ∨ j = 5 ∨ j = 6 by omega) with rfl | rfl | rfl | rfl | rfl | rfl | rfl
  · rw [at_1 _ _ _ (by omega) (by omega) (by omega), at_7 _ _ _ (by omega) (by omega) (by omega)]; omega
  · rw [at_2 _ _ _ (by omega) (by omega) (by omega), at_6 _ _ _ (by omega) (by omega) (by omega)]; omega
  · rw [at_3 _ _ _ (by omega) (by omega) (by omega), at_5 _ _ _ (by omega) (by omega) (by omega)]; omega
  · rw [at_4 _ _ _ (by omega) (by omega) (by omega), at_4 _ _ _ (by omega) (by omega) (by omega)]; omega
  · rw [at_5 _ _ _ (by omega) (by omega) (by omega), at_3 _ _ _ (by omega) (by omega) (by omega)]; omega
  · rw [at_6 _ _ _ (by omega) (by omega) (by omega), at_2 _ _ _ (by omega) (by omega) (by omega)]; omega
  · rw [at_7 _ _ _ (by omega) (by omega) (by omega), at_1 _ _ _ (by omega) (by omega) (by omega)]; omega
theorem curve7_flip (a c b : S101) (ha : inB (-16384) 16384 (-16384) 16384 a.f0) (hc : inB (-16384) 16384 (-16384) 16384 c.f0) (hb : inB (-16384) 16384 (-16384) 16384 b.f0) : curve7 b c a = (curve7 a c b).reverse := by
  unfold curve7
  refine List.ext_getElem (by simp) fun j h1 h2 => ?_
  have hj : j < 7 := by simpa using h1
  rw [List.getElem_reverse]
  simp only [List.getElem_map, List.getElem_range, List.length_map, List.length_range]
  rw [at_flip j hj _ _ _ ⟨ha.1, ha.2.1⟩ ⟨hc.1, hc.2.1⟩ ⟨hb.1, hb.2.1⟩, at_flip j hj _ _ _ ⟨ha.2.2.1, ha.2.2.2⟩ ⟨hc.2.2.1, hc.2.2.2⟩ ⟨hb.2.2.1, hb.2.2.2⟩]
theorem walk_on (a c : S101) (r : List S101) (h : c.f1 = true) : walk (a :: c :: r) = a.f0 :: walk (c :: r) := by
  cases r with
  | nil => simp [walk, h]
  | cons b r => simp [walk, h]
theorem walk_off (a c b : S101) (r : List S101) (h : c.f1 = false) : walk (a :: c :: b :: r) = a.f0 :: (curve7 a c b ++ walk (b :: r)) := by simp [walk, h]
theorem walk_head (a : S101) (r : List S101) : walk (a :: r) = a.f0 :: (walk (a :: r)).tail := by
  cases r with
  | nil => rfl
  | cons c r =>
    cases hc : c.f1 with
    | true => rw [walk_on a c r hc]; rfl
    | false =>
      cases r with
      | nil => simp [walk, hc]
      | cons b r => rw [walk_off a c b r hc]; rfl
theorem walk_cut (b : S101) (hb : b.f1 = true) (ys : List S101) : ∀ xs : List S101, walk (xs ++ b :: ys) = walk (xs ++ [b]) ++ (walk (b :: ys)).tail
  | [] => walk_head b ys
  | [a] => by
    show walk (a :: b :: ys) = walk [a, b] ++ _
    rw [walk_on a b ys hb, walk_on a b [] hb, walk_head b ys]
    rfl
  | a :: c :: xs => by
    cases hc : c.f1 with
    | true =>
      show walk (a :: c :: (xs ++ b :: ys)) = walk (a :: c :: (xs ++ [b])) ++ _
      rw [walk_on _ _ _ hc, walk_on _ _ _ hc, ← List.cons_append, walk_cut b hb ys (c :: xs)]
      rfl
    | false =>
      cases xs with
      | nil =>
        show walk (a :: c :: b :: ys) = walk (a :: c :: b :: []) ++ _
        rw [walk_off _ _ _ _ hc, walk_off _ _ _ _ hc, walk_head b ys]
        simp [walk]
      | cons d xs =>
        show walk (a :: c :: d :: (xs ++ b :: ys)) = walk (a :: c :: d :: (xs ++ [b])) ++ _
        have ih := walk_cut b hb ys (d :: xs)
        simp only [List.cons_append] at ih
        rw [walk_off _ _ _ _ hc, walk_off _ _ _ _ hc, ih]
        simp
/-- A row of turns that begins and ends on the curve, no two off side by side. -/
inductive ClosW : List S101 → Prop
  | one (a : S101) (h : a.f1 = true) : ClosW [a]
  | on (a c : S101) (r : List S101) (ha : a.f1 = true) (hc : c.f1 = true) (h : ClosW (c :: r)) : ClosW (a :: c :: r)
  | off (a c b : S101) (r : List S101) (ha : a.f1 = true) (hc : c.f1 = false) (h : ClosW (b :: r)) : ClosW (a :: c :: b :: r)
theorem ClosW.head {a : S101} {r : List S101} (h : ClosW (a :: r)) : a.f1 = true := by
  cases h <;> assumption
theorem walk_rev {q : List S101} (h : ClosW q) : small q → walk q.reverse = (walk q).reverse := by
  induction h with
  | one a h => intro _; rfl
  | on a c r ha hc h ih =>
    intro hs
    have ih := ih (fun t ht => hs t (List.mem_cons_of_mem _ ht))
    rw [walk_on a c r hc, List.reverse_cons, List.reverse_cons, List.append_assoc, List.reverse_cons, ← ih, List.reverse_cons]
    show walk (r.reverse ++ c :: [a]) = _
    rw [walk_cut c hc [a] r.reverse, walk_on c a [] ha]
    rfl
  | off a c b r ha hc h ih =>
    intro hs
    have ih := ih (fun t ht => hs t (List.mem_cons_of_mem _ (List.mem_cons_of_mem _ ht)))
    have hb := h.head
    rw [walk_off a c b r hc, List.reverse_cons, List.reverse_cons, List.reverse_cons, List.reverse_cons, List.reverse_append, ← ih, List.reverse_cons, List.append_assoc, List.append_assoc]
    show walk (r.reverse ++ b :: [c, a]) = _
    rw [walk_cut b hb [c, a] r.reverse, walk_off b c a [] hc, curve7_flip a c b (hs a (by simp)) (hs c (by simp)) (hs b (by simp))]
    simp [walk]
theorem at_end (a c b : Int) (ha : -16384 ≤ a ∧ a ≤ 16384) (hc : -16384 ≤ c ∧ c ≤ 16384) (hb : -16384 ≤ b ∧ b ≤ 16384) : atV ((8 : Nat) : Int) a c b = b := by
  rw [at_8 _ _ _ (by omega) (by omega) (by omega)]; omega
theorem rd_closed (l : List S101) (z : S101) (hz : l[0]? = some z) (j : Nat) (hj : j ≤ l.length) (p : S101) (r : List S101) (h : (l ++ [z]).drop j = p :: r) : rd_T101 l ((j % l.length : Nat) : Int) = p := by
  have e : (l ++ [z])[j]? = some p := by rw [← List.head?_drop, h]; rfl
  by_cases c : j = l.length
  · subst c
    rw [Nat.mod_self]
    simp at e
    subst e
    simp [rd_T101, hz]
  · rw [Nat.mod_eq_of_lt (by omega)]
    rw [List.getElem?_append_left (by omega)] at e
    simp [rd_T101, e]
theorem drop_next {α : Type} {l : List α} {i : Nat} {a : α} {r : List α} (h : l.drop i = a :: r) : l.drop (i + 1) = r := by
  rw [← List.drop_drop, h]; rfl
theorem rowGo_walk (l : List S101) (z : S101) (hz : l[0]? = some z) (hs : small (l ++ [z])) : ∀ (f i : Nat) (o : List S52) (p : S101) (r : List S101), l.length ≤ i + f → i ≤ l.length → (l ++ [z]).drop i = p :: r → ClosW (p :: r) → rowGo l f i (o ++ [p.f0]) = o ++ walk (p :: r)
  | 0, i, o, p, r, h1, h2, h3, h4 => by
    have e : (l ++ [z]).drop i = [z] := by rw [show i = l.length by omega]; simp
    rw [e] at h3
    injection h3 with q1 q2
    subst q1; subst q2
    rfl
  | f + 1, i, o, p, r, h1, h2, h3, h4 => by
    unfold rowGo
    by_cases hi : i < l.length
    · rw [if_pos hi]
      have hn := drop_next h3
      cases h4 with
      | one a h =>
        have := congrArg List.length h3
        simp at this
        omega
      | on a c r ha hc h =>
        rw [rd_closed l z hz (i + 1) (by omega) c r hn, if_pos hc, rowGo_walk l z hz hs f (i + 1) (o ++ [p.f0]) c r (by omega) (by omega) hn h, walk_on p c r hc]
        simp
      | off a c b r ha hc h =>
        have hn2 := drop_next hn
        have hi2 : i + 2 ≤ l.length := by
          have := congrArg List.length hn2
          simp at this
          omega
        have m0 : p ∈ l ++ [z] := List.mem_of_mem_drop (by rw [h3]; simp)
        have m1 : c ∈ l ++ [z] := List.mem_of_mem_drop (by rw [hn]; simp)
        have m2 : b ∈ l ++ [z] := List.mem_of_mem_drop (by rw [hn2]; simp)
        have s0 := hs p m0
        have s1 := hs c m1
        have s2 := hs b m2
        have r0 : rd_T101 l (i : Int) = p := by have := rd_closed l z hz i h2 p _ h3; rwa [Nat.mod_eq_of_lt hi] at this
        have r1 := rd_closed l z hz (i + 1) (by omega) c _ hn
        have r2 := rd_closed l z hz (i + 2) hi2 b r hn2
        have hcv : curveK l i 8 = curve7 p c b ++ [b.f0] := by
          rw [curveK_succ l i 7]
          congr 1
          · unfold curveK curve7 curveAt
            dsimp only
            rw [r0, r1, r2]
          · unfold curveAt
            dsimp only
            rw [r0, r1, r2, at_end _ _ _ ⟨s0.1, s0.2.1⟩ ⟨s1.1, s1.2.1⟩ ⟨s2.1, s2.2.1⟩, at_end _ _ _ ⟨s0.2.2.1, s0.2.2.2⟩ ⟨s1.2.2.1, s1.2.2.2⟩ ⟨s2.2.2.1, s2.2.2.2⟩]
        rw [r1, if_neg (by rw [hc]; decide), hcv, ← List.append_assoc, rowGo_walk l z hz hs f (i + 2) (o ++ [p.f0] ++ curve7 p c b) b r (by omega) hi2 hn2 h, walk_off p c b r hc]
        simp
    · have e : (l ++ [z]).drop i = [z] := by rw [show i = l.length by omega]; simp
      rw [e] at h3
      injection h3 with q1 q2
      subst q1; subst q2
      rw [if_neg hi]
      rfl
/-! the ring as a list with midpoints filled in -/
def mid2 (a b : S101) : List S101 := if b.f1 = false ∧ a.f1 = false then [⟨⟨wrap64 (b.f0.f0 + a.f0.f0) / 2, wrap64 (b.f0.f1 + a.f0.f1) / 2⟩, true⟩] else []
def fill : S101 → List S101 → List S101
  | _, [] => []
  | p, b :: r => mid2 p b ++ b :: fill b r
theorem mid2_even (a b : S101) : mid2 a b = mid2 b a := by
  unfold mid2
  rw [Int.add_comm b.f0.f0, Int.add_comm b.f0.f1]
  by_cases h : b.f1 = false ∧ a.f1 = false
  · rw [if_pos h, if_pos ⟨h.2, h.1⟩]
  · rw [if_neg h, if_neg (fun q => h ⟨q.2, q.1⟩)]
theorem mid2_rev (a b : S101) : (mid2 a b).reverse = mid2 a b := by
  unfold mid2; split <;> rfl
theorem mid2_on (a b : S101) (h : a.f1 = true ∨ b.f1 = true) : mid2 a b = [] := by
  unfold mid2
  rw [if_neg]
  rintro ⟨h1, h2⟩
  rcases h with h | h
  · rw [h] at h2; cases h2
  · rw [h] at h1; cases h1
theorem fill_snoc : ∀ (r : List S101) (p b a : S101), fill p (r ++ [b, a]) = fill p (r ++ [b]) ++ mid2 b a ++ [a]
  | [], p, b, a => by simp [fill]
  | c :: r, p, b, a => by
    show mid2 p c ++ c :: fill c (r ++ [b, a]) = mid2 p c ++ c :: fill c (r ++ [b]) ++ mid2 b a ++ [a]
    rw [fill_snoc r c b a]
    simp
def fillG : List S101 → List S101
  | [] => []
  | a :: r => a :: fill a r
theorem fillG_snoc (r : List S101) (b a : S101) : fillG (r ++ [b, a]) = fillG (r ++ [b]) ++ mid2 b a ++ [a] := by
  cases r with
  | nil => simp [fillG, fill]
  | cons c r => simp [fillG, fill_snoc r c b a]
theorem fillG_rev : ∀ q : List S101, fillG q.reverse = (fillG q).reverse
  | [] => rfl
  | [a] => rfl
  | a :: b :: r => by
    have ih := fillG_rev (b :: r)
    rw [List.reverse_cons, List.reverse_cons, List.append_assoc]
    show fillG (r.reverse ++ [b, a]) = _
    rw [fillG_snoc, ← List.reverse_cons, ih]
    simp [fillG, fill, mid2_rev, mid2_even b a]
theorem fill_clos : ∀ (n : Nat) (t : List S101) (p z : S101), t.length ≤ n → p.f1 = true → z.f1 = true → ClosW (p :: fill p (t ++ [z]))
  | n, [], p, z, _, hp, hz => by
    show ClosW (p :: (mid2 p z ++ [z]))
    rw [mid2_on p z (.inl hp)]
    exact .on p z [] hp hz (.one z hz)
  | 0, b :: t, _, _, h, _, _ => by simp at h
  | n + 1, b :: t, p, z, h, hp, hz => by
    simp only [List.length_cons] at h
    show ClosW (p :: (mid2 p b ++ b :: fill b (t ++ [z])))
    rw [mid2_on p b (.inl hp)]
    cases hb : b.f1 with
    | true => exact .on p b _ hp hb (fill_clos n t b z (by omega) hb hz)
    | false =>
      cases t with
      | nil =>
        show ClosW (p :: b :: (mid2 b z ++ [z]))
        rw [mid2_on b z (.inr hz)]
        exact .off p b z [] hp hb (.one z hz)
      | cons d t =>
        show ClosW (p :: b :: (mid2 b d ++ d :: fill d (t ++ [z])))
        simp only [List.length_cons] at h
        cases hd : d.f1 with
        | true =>
          rw [mid2_on b d (.inr hd)]
          exact .off p b d _ hp hb (fill_clos n t d z (by omega) hd hz)
        | false =>
          have hm : ∃ m : S101, m.f1 = true ∧ mid2 b d = [m] := by unfold mid2; rw [if_pos ⟨hd, hb⟩]; exact ⟨_, rfl, rfl⟩
          obtain ⟨m, m1, m2⟩ := hm
          rw [m2]
          have ih := fill_clos n (d :: t) m z (by simp; omega) m1 hz
          have e : fill m ((d :: t) ++ [z]) = d :: fill d (t ++ [z]) := by show mid2 m d ++ d :: fill d (t ++ [z]) = _; rw [mid2_on m d (.inl m1)]; rfl
          rw [e] at ih
          exact .off p b m _ hp hb ih
theorem ring_fill (pts : List S52) (on : List Bool) (T : List S101) (hT : T.length = pts.length) (hTj : ∀ j : Nat, j < pts.length → rd_T101 T (j : Int) = ⟨rd_T52 pts (j : Int), rdOf false on (j : Int)⟩) : ∀ (l2 l1 : List S101), T = l1 ++ l2 → (ringSt pts on T.length).1 = (ringSt pts on l1.length).1 ++ fill (rd_T101 T ((l1.length + (pts.length - 1)) % pts.length : Nat)) l2
  | [], l1, h => by rw [show T.length = l1.length by rw [h]; simp]; simp [fill]
  | b :: l2, l1, h => by
    have hlt : l1.length < T.length := by rw [h]; simp
    have hb : rd_T101 T (l1.length : Nat) = b := by simp [rd_T101, h]
    have hn : ((l1 ++ [b]).length + (pts.length - 1)) % pts.length = l1.length := by
      rw [List.length_append, List.length_singleton, show l1.length + 1 + (pts.length - 1) = l1.length + pts.length by omega, Nat.add_mod_right, Nat.mod_eq_of_lt (by omega)]
    have ih := ring_fill pts on T hT hTj l2 (l1 ++ [b]) (by rw [h]; simp)
    rw [hn, hb] at ih
    have hbq := hTj l1.length (by omega)
    rw [hb] at hbq
    have hpq := hTj ((l1.length + (pts.length - 1)) % pts.length) (Nat.mod_lt _ (by omega))
    rw [ih, List.length_append, List.length_singleton, ringSt_succ, fill, hpq]
    unfold ringStep mid2
    dsimp only
    rw [hbq]
    dsimp only
    by_cases c : rdOf false on (l1.length : Nat) = false ∧ rdOf false on ((l1.length + (pts.length - 1)) % pts.length : Nat) = false
    · rw [if_pos c, if_pos c]; simp
    · rw [if_neg c, if_neg c]; simp
theorem ring_start0 (pts : List S52) (on : List Bool) (h : rdOf false on 0 = true) : ∀ k, (ringSt pts on (k + 1)).2 = 0
  | 0 => by
    rw [ringSt_succ]
    unfold ringStep
    dsimp only
    simp [ringSt, h]
  | k + 1 => by
    have ih := ring_start0 pts on h k
    rw [ringSt_succ]
    unfold ringStep
    dsimp only
    rw [ih, if_neg (by simp)]
theorem fill_end (z : S101) (hz : z.f1 = true) : ∀ (r : List S101) (p : S101), fill p (r ++ [z]) = fill p r ++ [z]
  | [], p => by simp [fill, mid2_on p z (.inr hz)]
  | b :: r, p => by
    show mid2 p b ++ b :: fill b (r ++ [z]) = mid2 p b ++ b :: fill b r ++ [z]
    rw [fill_end z hz r b]
    simp
def turnsOf (pts : List S52) (on : List Bool) : List S101 := (List.range pts.length).map fun j : Nat => ⟨rd_T52 pts (j : Int), rdOf false on (j : Int)⟩
theorem turnsOf_len (pts : List S52) (on : List Bool) : (turnsOf pts on).length = pts.length := by simp [turnsOf]
theorem turnsOf_rd (pts : List S52) (on : List Bool) (j : Nat) (h : j < pts.length) : rd_T101 (turnsOf pts on) (j : Int) = ⟨rd_T52 pts (j : Int), rdOf false on (j : Int)⟩ := by simp [rd_T101, turnsOf, h]
/-- The row of a contour whose first point is on the curve, still closed: the walk over its turns, filled in. -/
theorem rowAll_walk (pts : List S52) (on : List Bool) (hp : ∀ p ∈ pts, inB (-16384) 16384 (-16384) 16384 p) (T0 : S101) (R : List S101) (hT : turnsOf pts on = T0 :: R) (hon : T0.f1 = true) :
    rowAll (ringFin (ringSt pts on pts.length)) = walk (fillG (T0 :: (R ++ [T0]))) ∧ small (fillG (T0 :: (R ++ [T0]))) ∧ ClosW (fillG (T0 :: (R ++ [T0]))) := by
  have hlen : (T0 :: R).length = pts.length := by rw [← hT]; exact turnsOf_len pts on
  have hpos : 0 < pts.length := by rw [← hlen]; simp
  have h0 : rdOf false on 0 = true := by
    have := turnsOf_rd pts on 0 hpos
    rw [hT] at this
    have e : rd_T101 (T0 :: R) ((0 : Nat) : Int) = T0 := rfl
    rw [e] at this
    rw [this] at hon
    exact hon
  have hring := ring_fill pts on (T0 :: R) hlen (fun j h => by rw [← hT]; exact turnsOf_rd pts on j h) (T0 :: R) [] rfl
  rw [hlen] at hring
  have hs0 : (ringSt pts on pts.length).2 = 0 := by
    obtain ⟨k, hk⟩ : ∃ k, pts.length = k + 1 := ⟨pts.length - 1, by omega⟩
    rw [hk]; exact ring_start0 pts on h0 k
  have hx : (ringSt pts on pts.length).1 = T0 :: fill T0 R := by
    rw [hring, fill, mid2_on _ T0 (.inr hon)]; simp [ringSt]
  have hfin : ringFin (ringSt pts on pts.length) = T0 :: fill T0 R := by
    have e : ringSt pts on pts.length = (T0 :: fill T0 R, ((0 : Nat) : Int)) := Prod.ext hx hs0
    rw [e, ringFin_nat]; simp
  have hG : fillG (T0 :: (R ++ [T0])) = (T0 :: fill T0 R) ++ [T0] := by
    show T0 :: fill T0 (R ++ [T0]) = _
    rw [fill_end T0 hon]; rfl
  have hsm : small (T0 :: fill T0 R) := fun t ht => ring_in ⟨by omega, by omega⟩ ⟨by omega, by omega⟩ pts on hp _ (Nat.le_refl _) t (by rw [hx]; exact ht)
  have hsm2 : small ((T0 :: fill T0 R) ++ [T0]) := by
    intro t ht
    rcases List.mem_append.1 ht with h | h
    · exact hsm t h
    · rw [List.mem_singleton.1 h]; exact hsm T0 (by simp)
  have hcl : ClosW (fillG (T0 :: (R ++ [T0]))) := fill_clos R.length R T0 T0 (Nat.le_refl _) hon hon
  refine ⟨?_, by rw [hG]; exact hsm2, hcl⟩
  rw [hfin, hG]
  rw [hG] at hcl
  unfold rowAll
  exact rowGo_walk (T0 :: fill T0 R) T0 rfl hsm2 _ 0 [] T0 (fill T0 R ++ [T0]) (by omega) (by omega) rfl hcl
theorem take_rev {α : Type} (W : List α) (n : Nat) (hn : W.length = n + 1) (he : W[0]? = W[n]?) (k : Nat) (hk : k < n) : (W.reverse.take n)[k]? = (W.take n)[(n - k) % n]? := by
  rw [List.getElem?_take_of_lt hk, List.getElem?_reverse (by omega), hn, List.getElem?_take_of_lt (Nat.mod_lt _ (by omega))]
  by_cases h : k = 0
  · subst h
    rw [show (n - 0) % n = 0 from Nat.mod_self n, he]
    congr 1
  · rw [Nat.mod_eq_of_lt (by omega)]
    congr 1
theorem turnsOf_map (c : List S33) : turnsOf (c.map (gP 0 0)) (c.map (·.f2)) = c.map fun p => ⟨gP 0 0 p, p.f2⟩ := by
  refine List.ext_getElem (by simp [turnsOf]) fun j h1 h2 => ?_
  have hj : j < c.length := by simpa using h2
  simp [turnsOf, rd_T52, rdOf, hj]
theorem walk_ends (q : List S101) (hc : ClosW q) (hs : small q) (hr : q.reverse = q ∨ q.head? = q.getLast?) : (walk q)[0]? = (walk q)[(walk q).length - 1]? := by
  have h := walk_rev hc hs
  have e : ∀ l : List S101, (walk l)[0]? = l.head?.map (·.f0) := by
    intro l
    cases l with
    | nil => rfl
    | cons a r => rw [walk_head a r]; rfl
  have h1 : (walk q)[(walk q).length - 1]? = (walk q).reverse[0]? := by
    cases hw : walk q with
    | nil => rfl
    | cons a r => rw [List.getElem?_reverse (by simp)]; rfl
  rw [h1, ← h, e, e, List.head?_reverse]
  rcases hr with hr | hr
  · rw [← List.head?_reverse, hr]
  · rw [hr]
/-- The lines of a contour alone, on the grid. -/
def lineOf (c : List S33) : List S52 := rowL (ringFin (ringSt (c.map (gP 0 0)) (c.map (·.f2)) c.length))
theorem line_back (a : S33) (r : List S33) (ha : a.f2 = true) (hp : ∀ p ∈ a :: r, ptOk p = true) :
    (lineOf (segRev (a :: r))).length = (lineOf (a :: r)).length ∧ ∀ k, k < (lineOf (a :: r)).length → (lineOf (segRev (a :: r)))[k]? = (lineOf (a :: r))[((lineOf (a :: r)).length - k) % (lineOf (a :: r)).length]? := by
  have hin : ∀ c : List S33, (∀ p ∈ c, ptOk p = true) → ∀ q ∈ c.map (gP 0 0), inB (-16384) 16384 (-16384) 16384 q := by
    intro c hc q hq
    obtain ⟨p, h, rfl⟩ := List.mem_map.1 hq
    have := ptOk_le p (hc p h)
    rw [gP_small p 0 0 (hc p h) (by omega) (by omega)]
    unfold inB
    simp
    omega
  have h1 := rowAll_walk ((a :: r).map (gP 0 0)) ((a :: r).map (·.f2)) (hin _ hp) ⟨gP 0 0 a, a.f2⟩ (r.map fun p => ⟨gP 0 0 p, p.f2⟩) (by rw [turnsOf_map]; rfl) ha
  have h2 := rowAll_walk ((segRev (a :: r)).map (gP 0 0)) ((segRev (a :: r)).map (·.f2)) (hin _ (fun p h => hp p (by simpa [segRev] using h))) ⟨gP 0 0 a, a.f2⟩ (r.reverse.map fun p => ⟨gP 0 0 p, p.f2⟩) (by rw [turnsOf_map]; rfl) ha
  rw [List.length_map] at h1 h2
  generalize (⟨gP 0 0 a, a.f2⟩ : S101) = T0 at *
  rw [List.map_reverse] at h2
  generalize hR : (r.map fun p => (⟨gP 0 0 p, p.f2⟩ : S101)) = R at *
  have hq : T0 :: (R.reverse ++ [T0]) = (T0 :: (R ++ [T0])).reverse := by simp
  rw [hq, fillG_rev] at h2
  obtain ⟨w1, s1, c1⟩ := h1
  obtain ⟨w2, s2, c2⟩ := h2
  rw [walk_rev c1 s1] at w2
  have hh : (fillG (T0 :: (R ++ [T0]))).head? = (fillG (T0 :: (R ++ [T0]))).getLast? := by
    have : (fillG (T0 :: (R ++ [T0]))).getLast? = (fillG (T0 :: (R ++ [T0]))).reverse.head? := by simp
    rw [this, ← fillG_rev, ← hq]
    rfl
  have he := walk_ends _ c1 s1 (.inr hh)
  unfold lineOf rowL
  rw [w1, w2]
  have hpos : 0 < (walk (fillG (T0 :: (R ++ [T0])))).length := by
    show 0 < (walk (T0 :: fill T0 (R ++ [T0]))).length
    rw [walk_head]; simp
  generalize walk (fillG (T0 :: (R ++ [T0]))) = W at *
  refine ⟨by simp, fun k hk => ?_⟩
  have hl : (W.take (W.length - 1)).length = W.length - 1 := by simp
  rw [hl] at hk ⊢
  rw [List.length_reverse]
  exact take_rev W (W.length - 1) (by omega) he k hk
end Go.Proofs.Ytbmklpcheopgoaa.Out
