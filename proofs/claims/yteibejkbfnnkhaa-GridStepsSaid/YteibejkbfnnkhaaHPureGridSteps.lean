/- What is left of the statement GridSteps, over numbers alone: what a small number scaled comes to. No condition. -/
import Derived.Test.YteibejkbfnnkhaaHx9
import Derived.Test.YteibejkbfnnkhaaOpens
import Derived.IntWalk
import Derived.Laws.BitsLemmas
import Derived.Laws.Bits64
import Derived.Laws.BitsAllLaws
namespace Go.Proofs.Yteibejkbfnnkhaa.Pure
open Go.RowKit Go.Proofs.Yteibejkbfnnkhaa.H Go.Proofs.YteibejkbfnnkhaaOpen Go.Proofs.YteibejkbfnnkhaaW.PrintWords Go.Proofs.YteibejkbfnnkhaaW.PrintLast

theorem ediv_ediv' (a b c : Int) (h : 0 ≤ b) : a / b / c = a / (b * c) := by
  rw [Int.ediv_ediv, if_neg (by omega)]; simp
theorem u64w (x : Int) (h0 : 0 ≤ x) (h1 : x < 9223372036854775808) : IntKind.u64.wrap x = x := by rw [IntKind.wrap_u64]; omega
theorem u64wraps (n : Int) (h₀ : 0 ≤ n) (h₁ : n < 2 ^ 64) : IntKind.u64.wrap n = n := by rw [IntKind.wrap_u64]; omega
theorem w64 (x : Int) (h0 : -9223372036854775808 ≤ x) (h1 : x ≤ 9223372036854775807) : wrap64 x = x := by unfold wrap64; omega
theorem and32 (x : Int) (h0 : 0 ≤ x) (h1 : x < 4294967296) : Go.bits .and .u64 x 4294967295 = x := by
  have := bits_mask .u64 64 (by decide) u64wraps 32 (by decide) x h0 (by omega)
  have e : ((2 : Int) ^ 32 - 1) = 4294967295 := by decide
  rw [e] at this
  rw [this]
  have e2 : ((2 : Int) ^ 32) = 4294967296 := by decide
  rw [e2]
  omega

theorem mag_eq (a : Int) (h0 : -1000000000000 ≤ a) (h1 : a ≤ 1000000000000) : ratio_magnitude.f a = some (if a < 0 then -a else a) := by
  unfold ratio_magnitude.f
  by_cases h : a < 0
  · rw [if_pos h, if_pos h]
    have : IntKind.u64.wrap (-(IntKind.u64.wrap a)) = -a := by rw [IntKind.wrap_u64, IntKind.wrap_u64]; omega
    rw [this]
  · rw [if_neg h, if_neg h, u64w a (by omega) (by omega)]

theorem mul64_eq (a b : Int) (ha : 0 ≤ a) (hb : 0 ≤ b) (ha1 : a < 4294967296) (hb1 : b < 4294967296) (hab : a * b < 9223372036854775808) : bits_Mul64.f a b = some (0, a * b) := by
  have hp : 0 ≤ a * b := Int.mul_nonneg ha hb
  unfold bits_Mul64.f
  have ea : a / 4294967296 = 0 := by omega
  have eb : b / 4294967296 = 0 := by omega
  rw [ea, eb, and32 a ha ha1, and32 b hb hb1]
  generalize hz : a * b = p at *
  have e1 : p / 4294967296 < 4294967296 := by omega
  have e2 : 0 ≤ p / 4294967296 := by omega
  rw [u64w p hp hab]
  simp only [Int.zero_mul, Int.mul_zero]
  have z : IntKind.u64.wrap 0 = 0 := by decide
  have e3 : p / 4294967296 / 4294967296 = 0 := by omega
  simp only [z, Int.zero_add, u64w (p / 4294967296) e2 (by omega), and32 _ e2 e1, Int.add_zero, e3]

theorem mulr_eq (a b : Int) (ha : -1000000000 ≤ a) (ha' : a ≤ 1000000000) (hb : 0 ≤ b) (hb' : b ≤ 1000000) : ratio_mul.f a b = some (decide (a < 0), 0, (if a < 0 then -a else a) * b) := by
  unfold ratio_mul.f ratio_times.f
  rw [mag_eq a (by omega) (by omega), mag_eq b (by omega) (by omega)]
  have hb0 : ¬ b < 0 := by omega
  simp only [Option.bind_some, if_neg hb0]
  have hx0 : 0 ≤ (if a < 0 then -a else a) := by split <;> omega
  have hx1 : (if a < 0 then -a else a) ≤ 1000000000 := by split <;> omega
  generalize (if a < 0 then -a else a) = x at *
  have hxb : x * b ≤ 1000000000 * 1000000 := Int.mul_le_mul hx1 hb' hb (by omega)
  rw [mul64_eq x b hx0 hb (by omega) (by omega) (by omega)]
  have hd : decide (b < 0) = false := decide_eq_false hb0
  simp [hd]

theorem plus_eq (a b : Int) (ha : 0 ≤ a) (hb : 0 ≤ b) (ha1 : a < 4611686018427387904) (hb1 : b < 4611686018427387904) : ratio_wide_plus.f 0 a 0 b = some (0, a + b) := by
  unfold ratio_wide_plus.f two64
  rw [if_pos ⟨⟨by omega, ha, by omega, hb⟩, by omega, by omega⟩]
  have e1 : (0 + 0 + (a + b) / 18446744073709551616) % 18446744073709551616 = 0 := by omega
  have e2 : (a + b) % 18446744073709551616 = a + b := by omega
  rw [e1, e2]

theorem less_eq (a b : Int) (ha : 0 ≤ a) (hb : 0 ≤ b) (hab : b ≤ a) (ha1 : a < 4611686018427387904) : ratio_wide_less.f 0 a 0 b = some (0, a - b) := by
  unfold ratio_wide_less.f two64s
  rw [if_pos ⟨⟨by omega, ha, by omega, hb⟩, by omega, by omega⟩]
  rw [if_neg (by omega)]
  have e2 : (a - b) % 18446744073709551616 = a - b := by omega
  rw [e2]
  rfl

theorem cmp_eq (a b : Int) : ∃ c, ratio_wide_cmp.f 0 a 0 b = some c ∧ (0 ≤ c ↔ b ≤ a) := by
  unfold ratio_wide_cmp.f cmp_Compare_uint64.f cmp_isNaN_uint64.f
  simp only [if_true, Option.bind_some, bne_self_eq_false, Bool.false_eq_true, if_false]
  by_cases h : a < b
  · rw [if_pos h]; exact ⟨_, rfl, by omega⟩
  · rw [if_neg h]
    by_cases h2 : a > b
    · rw [if_pos h2]; exact ⟨_, rfl, by omega⟩
    · rw [if_neg h2]; exact ⟨_, rfl, by omega⟩

theorem add_eq (s : Bool) (a b : Int) (ha : 0 ≤ a) (hb : 0 ≤ b) (ha1 : a < 4611686018427387904) (hb1 : b < 4611686018427387904) :
    ratio_signed_add.f s 0 a false 0 b = some (if s = true then (if b ≤ a then (true, 0, a - b) else (false, 0, b - a)) else (false, 0, a + b)) := by
  unfold ratio_signed_add.f
  cases s with
  | false =>
    rw [if_pos (by rfl), plus_eq a b ha hb ha1 hb1]
    rfl
  | true =>
    rw [if_neg (by decide), if_pos rfl]
    obtain ⟨c, hc, hi⟩ := cmp_eq a b
    rw [hc]
    simp only [Option.bind_some]
    by_cases h : b ≤ a
    · rw [if_pos (show c ≥ 0 from hi.2 h), if_pos h, less_eq a b ha hb h ha1]; rfl
    · rw [if_neg (show ¬ c ≥ 0 from fun h' => h (hi.1 h')), if_neg h, less_eq b a hb ha (by omega) hb1]; rfl

theorem by_eq (k : Nat) (a d : Int) (ha : 0 ≤ a) (hd : 0 < d) (ha1 : a < 9223372036854775808) (hd1 : d < 9223372036854775808) : ratio_wide_by.f k 0 a d = some (0, a / d, a % d) := by
  unfold ratio_wide_by.f bits_Div64.f
  have e0 : Int.tmod 0 d = 0 := by simp
  have e1 : Int.tdiv 0 d = 0 := by simp
  rw [if_neg (by omega), e0, e1, if_neg (by omega), if_neg (by omega), if_pos rfl]
  have e2 : IntKind.u64.wrap (Int.tdiv a d) = a / d := IntWalk.u64_quo a d ⟨ha, by omega, by omega⟩
  have e3 : Int.tmod a d = a % d := Int.tmod_eq_emod_of_nonneg ha
  have z : IntKind.u64.wrap 0 = 0 := by decide
  rw [e2, e3, z]
  rfl

/-- down a by d, where there is a sign. -/
def sq (s : Bool) (a d : Int) : Int := if s = true then -((a + d - 1) / d) else a / d

theorem floor_eq (k : Nat) (hk : 4 ≤ k) (s : Bool) (a d : Int) (ha : 0 ≤ a) (hd : 0 < d) (ha1 : a < 1000000000000000000) (hd1 : d < 1000000000000000000) : ratio_floor.f k s 0 a d = some (sq s a d, true) := by
  obtain ⟨k, rfl⟩ : ∃ m, k = m + 2 := ⟨k - 2, by omega⟩
  have hq0 : 0 ≤ a / d := Int.ediv_nonneg ha (by omega)
  have hq1 : a / d ≤ a := Int.ediv_le_self _ ha
  unfold ratio_floor.f
  rw [by_eq _ a d ha hd (by omega) (by omega)]
  simp only [Option.bind_some]
  cases s with
  | false =>
    rw [if_neg (by decide)]
    simp only [ratio_floor.j0, ratio_floor.j1]
    rw [if_neg (by decide), if_pos trivial, if_neg (by decide), if_pos (by omega), w64 _ (by omega) (by omega)]
    rfl
  | true =>
    rw [if_pos rfl]
    simp only [ratio_floor.j0]
    by_cases hr : a % d = 0
    · have hb : (a % d != 0) = false := by rw [hr]; rfl
      rw [hb, if_neg (by decide)]
      simp only [ratio_floor.j1]
      rw [if_pos trivial, if_pos trivial, if_pos (by omega)]
      have e1 : wrap64 (IntKind.u64.wrap (-(a / d))) = -(a / d) := by unfold wrap64; rw [IntKind.wrap_u64]; omega
      have e2 : (a + d - 1) / d = a / d := by
        have h1 : a = d * (a / d) := by have := Int.emod_add_mul_ediv a d; omega
        generalize a / d = q at *
        subst h1
        have : d * q + d - 1 = (d - 1) + d * q := by omega
        rw [this, Int.add_mul_ediv_left _ _ (by omega), Int.ediv_eq_zero_of_lt (by omega) (by omega), Int.zero_add]
      rw [e1]
      simp [sq, e2]
    · have hb : (a % d != 0) = true := by simp [hr]
      have hq2 : a / d ≤ a := hq1
      rw [hb, if_pos rfl, plus_eq (a / d) 1 hq0 (by omega) (by omega) (by omega)]
      simp only [Option.bind_some, ratio_floor.j1]
      rw [if_pos trivial, if_pos trivial, if_pos (by omega)]
      have e1 : wrap64 (IntKind.u64.wrap (-(a / d + 1))) = -(a / d + 1) := by unfold wrap64; rw [IntKind.wrap_u64]; omega
      have e2 : (a + d - 1) / d = a / d + 1 := by
        have h0 := Int.emod_nonneg a (show d ≠ 0 by omega)
        have h3 := Int.emod_lt_of_pos a hd
        have h1 : a = d * (a / d) + a % d := by have := Int.emod_add_mul_ediv a d; omega
        generalize a / d = q at *
        generalize a % d = r at *
        subst h1
        have : d * q + r + d - 1 = (r - 1) + d * (q + 1) := by rw [Int.mul_add]; omega
        rw [this, Int.add_mul_ediv_left _ _ (by omega), Int.ediv_eq_zero_of_lt (by omega) (by omega), Int.zero_add]
      rw [e1]
      simp [sq, e2]

/-- a small number, halved: floor of (2 a + d) by 2 d, with a's sign. -/
theorem half_eq (k : Nat) (hk : 6 ≤ k) (s : Bool) (a d : Int) (ha : 0 ≤ a) (hd : 0 < d) (ha1 : a < 100000000000000000) (hd1 : d < 100000000000000000) :
    ratio_half.f k s 0 a d = some ((2 * (if s = true then -a else a) + d) / (2 * d), true) := by
  obtain ⟨k, rfl⟩ : ∃ m, k = m + 1 := ⟨k - 1, by omega⟩
  unfold ratio_half.f
  rw [plus_eq a a ha ha (by omega) (by omega)]
  simp only [Option.bind_some]
  rw [add_eq s (a + a) d (by omega) (by omega) (by omega) (by omega)]
  simp only [Option.bind_some]
  have key : ∀ (t : Bool) (m : Int), 0 ≤ m → m < 1000000000000000000 →
      (ratio_wide_by.f (k + 1) 0 m 2).bind (fun bt145 => (if t = true then (ratio_half.j0 (k + 1) d (bt145.2.2 != 0) t 0 m bt145.1 bt145.2.1) else (ratio_half.j0 (k + 1) d false t 0 m bt145.1 bt145.2.1)))
        = some ((if t = true then -m else m) / (2 * d), true) := by
    intro t m hm hm1
    rw [by_eq _ m 2 hm (by omega) (by omega) (by omega)]
    simp only [Option.bind_some]
    have h2 : m / 2 / d = m / (2 * d) := ediv_ediv' m _ _ (by omega)
    cases t with
    | false =>
      rw [if_neg (by decide)]
      simp only [ratio_half.j0]
      rw [if_neg (by decide), floor_eq k (by omega) false (m / 2) d (by omega) hd (by omega) (by omega)]
      simp [sq, h2]
    | true =>
      rw [if_pos rfl]
      simp only [ratio_half.j0]
      have hfin : ∀ q, q = (m + 1) / 2 → sq true q d = -m / (2 * d) := by
        intro q hq
        have h3 : (q + d - 1) / d = (m + 2 * d - 1) / (2 * d) := by
          have : q + d - 1 = (m + 2 * d - 1) / 2 := by omega
          rw [this]
          exact ediv_ediv' _ _ _ (by omega)
        have h4 : -m / (2 * d) = -((m + 2 * d - 1) / (2 * d)) := by
          have hp : 0 < 2 * d := by omega
          have e1 := Int.emod_add_mul_ediv (m + 2 * d - 1) (2 * d)
          have e2 := Int.emod_nonneg (m + 2 * d - 1) (show 2 * d ≠ 0 by omega)
          have e3 := Int.emod_lt_of_pos (m + 2 * d - 1) hp
          generalize (m + 2 * d - 1) / (2 * d) = z at *
          generalize (m + 2 * d - 1) % (2 * d) = r at *
          have e4 : -m = (2 * d - 1 - r) + 2 * d * (-z) := by rw [Int.mul_neg]; omega
          rw [e4, Int.add_mul_ediv_left _ _ (by omega), Int.ediv_eq_zero_of_lt (by omega) (by omega), Int.zero_add]
        simp only [sq, if_true]
        rw [h3, h4]
      by_cases hr : m % 2 = 0
      · have hb : (m % 2 != 0) = false := by rw [hr]; rfl
        rw [hb, if_neg (by decide), floor_eq k (by omega) true (m / 2) d (by omega) hd (by omega) (by omega)]
        simp only [Option.bind_some, if_true]
        rw [hfin _ (by omega)]
      · have hb : (m % 2 != 0) = true := by simp; omega
        rw [hb, if_pos rfl, plus_eq (m / 2) 1 (by omega) (by omega) (by omega) (by omega)]
        simp only [Option.bind_some]
        rw [floor_eq k (by omega) true (m / 2 + 1) d (by omega) hd (by omega) (by omega)]
        simp only [Option.bind_some, if_true]
        rw [hfin _ (by omega)]
  cases s with
  | false =>
    simp only [Bool.false_eq_true, if_false]
    have := key false (a + a + d) (by omega) (by omega)
    simp only [Bool.false_eq_true, if_false] at this
    rw [this]
    have e : 2 * a + d = a + a + d := by omega
    rw [e]
  | true =>
    simp only [if_true]
    by_cases h : d ≤ a + a
    · rw [if_pos h]
      have := key true (a + a - d) (by omega) (by omega)
      simp only [if_true] at this ⊢
      rw [this]
      have e : 2 * -a + d = -(a + a - d) := by omega
      rw [e]
    · rw [if_neg h]
      have := key false (d - (a + a)) (by omega) (by omega)
      simp only [Bool.false_eq_true, if_false] at this ⊢
      rw [this]
      have e : 2 * -a + d = d - (a + a) := by omega
      rw [e]

theorem scale_eq (k : Nat) (hk : 6 ≤ k) (u px n : Int) (hu : 0 < u) (hu1 : u ≤ 100000) (hp : 0 ≤ px) (hp1 : px ≤ 10000) (hn : -1000000 ≤ n) (hn1 : n ≤ 1000000) : grid_Scale.f k u px n = some ((2 * (n * (px * 64)) + u) / (2 * u)) := by
  unfold grid_Scale.f ratio_Scale.f
  rw [w64 (px * 64) (by omega) (by omega), if_neg (by omega), mulr_eq n (px * 64) (by omega) (by omega) (by omega) (by omega)]
  simp only [Option.bind_some]
  rw [mag_eq u (by omega) (by omega), if_neg (show ¬ u < 0 by omega)]
  simp only [Option.bind_some]
  have hd : decide (u < 0) = false := decide_eq_false (by omega)
  have hx0 : 0 ≤ (if n < 0 then -n else n) := by split <;> omega
  have hx1 : (if n < 0 then -n else n) ≤ 1000000 := by split <;> omega
  have hm0 : 0 ≤ (if n < 0 then -n else n) * (px * 64) := Int.mul_nonneg hx0 (by omega)
  have hm1 : (if n < 0 then -n else n) * (px * 64) ≤ 1000000 * 640000 := Int.mul_le_mul hx1 (by omega) (by omega) (by omega)
  rw [hd, Bool.bne_false, half_eq k hk _ _ u hm0 hu (by omega) (by omega)]
  simp only [Option.bind_some, if_true]
  congr 1
  by_cases h : n < 0
  · have e : decide (n < 0) = true := decide_eq_true h
    rw [e, if_pos rfl, if_pos h, Int.neg_mul, Int.neg_neg]
  · have e : decide (n < 0) = false := decide_eq_false h
    rw [e, if_neg (by decide), if_neg h]

/-- The number that scale_eq tells. -/
def sc (u px n : Int) : Int := (2 * (n * (px * 64)) + u) / (2 * u)
theorem sc_bd (u px n : Int) (hu : 0 < u) : -u ≤ 2 * (n * (px * 64) - sc u px n * u) ∧ 2 * (n * (px * 64) - sc u px n * u) < u := by
  unfold sc
  have e1 := Int.emod_add_mul_ediv (2 * (n * (px * 64)) + u) (2 * u)
  have e2 := Int.emod_nonneg (2 * (n * (px * 64)) + u) (show 2 * u ≠ 0 by omega)
  have e3 := Int.emod_lt_of_pos (2 * (n * (px * 64)) + u) (show 0 < 2 * u by omega)
  generalize (2 * (n * (px * 64)) + u) / (2 * u) = q at *
  generalize (2 * (n * (px * 64)) + u) % (2 * u) = r at *
  generalize n * (px * 64) = m at *
  have e4 : 2 * u * q = 2 * (q * u) := by rw [Int.mul_assoc, Int.mul_comm u q]
  rw [e4] at e1
  generalize q * u = z at *
  omega
theorem sc_mono (u px a b : Int) (hu : 0 < u) (hp : 0 ≤ px) (h : a ≤ b) : sc u px a ≤ sc u px b := by
  unfold sc
  refine Int.ediv_le_ediv (by omega) ?_
  have := Int.mul_le_mul_of_nonneg_right h (show 0 ≤ px * 64 by omega)
  omega
theorem sc_em (u px a : Int) (hu : 0 < u) : sc u px (a + u) = sc u px a + px * 64 := by
  unfold sc
  have e : 2 * ((a + u) * (px * 64)) + u = 2 * (a * (px * 64)) + u + 2 * u * (px * 64) := by
    rw [Int.add_mul, Int.mul_add, Int.mul_assoc 2 u]; omega
  rw [e, Int.add_mul_ediv_left _ _ (by omega)]
theorem sc_le (u px n : Int) (hu : 0 < u) (hp : 0 ≤ px) (hp1 : px ≤ 200) (hn : -20500 ≤ n) (hn1 : n ≤ 20500) : -1000000000 ≤ sc u px n ∧ sc u px n ≤ 1000000000 := by
  have hm : -(20500 * 12800) ≤ n * (px * 64) ∧ n * (px * 64) ≤ 20500 * 12800 := by
    constructor
    · have h1 : (-20500) * (px * 64) ≤ n * (px * 64) := Int.mul_le_mul_of_nonneg_right hn (by omega)
      omega
    · have h1 : n * (px * 64) ≤ 20500 * (px * 64) := Int.mul_le_mul_of_nonneg_right hn1 (by omega)
      omega
  unfold sc
  generalize n * (px * 64) = m at *
  constructor
  · refine (Int.le_ediv_iff_mul_le (by omega)).2 ?_
    have : (-1000000000) * (2 * u) ≤ (-1000000000) * 2 := by omega
    omega
  · refine Int.le_of_lt_add_one ((Int.ediv_lt_iff_lt_mul (by omega)).2 ?_)
    have : (1000000000 + 1) * (2 * u) = 2000000002 * u := by omega
    omega

theorem tmod_bd (a n : Int) (h : 0 < n) : -n < Int.tmod a n ∧ Int.tmod a n < n := by
  rcases Int.lt_or_le a 0 with h0 | h0
  · have e : Int.tmod a n = -((-a) % n) := by rw [← Int.tmod_eq_emod_of_nonneg (by omega), Int.neg_tmod, Int.neg_neg]
    have h1 := Int.emod_nonneg (-a) (show n ≠ 0 by omega)
    have h2 := Int.emod_lt_of_pos (-a) h
    omega
  · rw [Int.tmod_eq_emod_of_nonneg h0]
    have h1 := Int.emod_nonneg a (show n ≠ 0 by omega)
    have h2 := Int.emod_lt_of_pos a h
    omega
theorem InK_u16 {n : Int} (h : InK .u16 n) : 0 ≤ n ∧ n ≤ 65535 := bounds_u16 h
theorem InK_i16 {n : Int} (h : InK .i16 n) : -32768 ≤ n ∧ n ≤ 32767 := bounds_i16 h

theorem GridSteps : ∀ (a0 : Int) (a1 : Int) (a2_0 : Int) (a2_1 : Int), InK .u16 a0 → InK .u16 a1 → InK .i16 a2_0 ∧ InK .i16 a2_1 → ∃ k, fleuronlaw21_GridSteps.f k a0 a1 a2_0 a2_1 = some true := by
  rintro a0 a1 a2 a3 h0 h1 ⟨h2, h3⟩
  have h0 := InK_u16 h0
  have h1 := InK_u16 h1
  have h2 := InK_i16 h2
  have h3 := InK_i16 h3
  refine ⟨6, ?_⟩
  unfold fleuronlaw21_GridSteps.f
  have hsh : fleuronlaw21_shown.f 6 = some true := by
    unfold fleuronlaw21_shown.f
    rw [scale_eq 6 (by omega) 1000 10 500 (by omega) (by omega) (by omega) (by omega) (by omega) (by omega)]
    simp only [Option.bind_some]
    rw [if_pos (by decide), scale_eq 6 (by omega) 1000 1 (-8) (by omega) (by omega) (by omega) (by omega) (by omega) (by omega)]
    simp only [Option.bind_some]
    rw [if_pos (by decide), scale_eq 6 (by omega) 1000 1 8 (by omega) (by omega) (by omega) (by omega) (by omega) (by omega)]
    decide
  rw [hsh]
  have eu : wrap64 (16 + Int.tmod (wrap64 a0) 4081) = 16 + a0 % 4081 := by rw [w64 a0 (by omega) (by omega), Int.tmod_eq_emod_of_nonneg (by omega), w64 _ (by omega) (by omega)]
  have ep : wrap64 (1 + Int.tmod (wrap64 a1) 200) = 1 + a1 % 200 := by rw [w64 a1 (by omega) (by omega), Int.tmod_eq_emod_of_nonneg (by omega), w64 _ (by omega) (by omega)]
  have ea : wrap64 a2 = a2 := w64 a2 (by omega) (by omega)
  have eb : wrap64 a3 = a3 := w64 a3 (by omega) (by omega)
  rw [eu, ep, ea, eb]
  have hu1 : 16 ≤ 16 + a0 % 4081 := by omega
  have hu2 : 16 + a0 % 4081 ≤ 4096 := by omega
  have hp1 : 1 ≤ 1 + a1 % 200 := by omega
  have hp2 : 1 + a1 % 200 ≤ 200 := by omega
  have ha : -16384 ≤ Int.tmod a2 16385 ∧ Int.tmod a2 16385 ≤ 16384 := by have := tmod_bd a2 16385 (by omega); omega
  have hb : -16384 ≤ Int.tmod a3 16385 ∧ Int.tmod a3 16385 ≤ 16384 := by have := tmod_bd a3 16385 (by omega); omega
  generalize 16 + a0 % 4081 = u at *
  generalize 1 + a1 % 200 = p at *
  generalize Int.tmod a2 16385 = a at *
  generalize Int.tmod a3 16385 = b at *
  have hau : wrap64 (a + u) = a + u := w64 _ (by omega) (by omega)
  rw [hau, scale_eq 6 (by omega) u p a (by omega) (by omega) (by omega) (by omega) (by omega) (by omega), scale_eq 6 (by omega) u p b (by omega) (by omega) (by omega) (by omega) (by omega) (by omega),
    scale_eq 6 (by omega) u p (a + u) (by omega) (by omega) (by omega) (by omega) (by omega) (by omega), scale_eq 6 (by omega) u p 0 (by omega) (by omega) (by omega) (by omega) (by omega) (by omega)]
  simp only [Option.bind_some, if_true]
  have s1 := sc_em u p a (by omega)
  have s2 := sc_bd u p a (by omega)
  have s3 := sc_le u p a (by omega) (by omega) (by omega) (by omega) (by omega)
  have s4 := sc_mono u p a b (by omega) (by omega)
  unfold sc at s1 s2 s3 s4
  have z0 : (2 * (0 * (p * 64)) + u) / (2 * u) = 0 := by rw [Int.zero_mul]; exact Int.ediv_eq_zero_of_lt (by omega) (by omega)
  rw [z0, s1]
  generalize (2 * (a * (p * 64)) + u) / (2 * u) = x at *
  generalize (2 * (b * (p * 64)) + u) / (2 * u) = y at *
  have w1 : wrap64 (64 * p) = 64 * p := w64 _ (by omega) (by omega)
  have w2 : wrap64 (x + 64 * p) = x + 64 * p := w64 _ (by omega) (by omega)
  have w3 : wrap64 (a * 64) = a * 64 := w64 _ (by omega) (by omega)
  have hm : a * 64 * p = a * (p * 64) := by rw [Int.mul_assoc, Int.mul_comm 64 p]
  have hmb : -(20500 * 12800) ≤ a * (p * 64) ∧ a * (p * 64) ≤ 20500 * 12800 := by
    constructor
    · have h1 : (-20500) * (p * 64) ≤ a * (p * 64) := Int.mul_le_mul_of_nonneg_right (by omega) (by omega)
      omega
    · have h1 : a * (p * 64) ≤ 20500 * (p * 64) := Int.mul_le_mul_of_nonneg_right (by omega) (by omega)
      omega
  generalize hM : a * (p * 64) = m at *
  generalize hZ : x * u = z at *
  have w4 : wrap64 m = m := w64 _ (by omega) (by omega)
  have w5 : wrap64 z = z := w64 _ (by omega) (by omega)
  have w6 : wrap64 (m - z) = m - z := w64 _ (by omega) (by omega)
  have w7 : wrap64 (2 * (m - z)) = 2 * (m - z) := w64 _ (by omega) (by omega)
  have w8 : wrap64 (-u) = -u := w64 _ (by omega) (by omega)
  rw [w1, w2, w3, hm, w4, w5, w6, w7, w8, if_pos (by omega)]
  by_cases hab : a > b
  · rw [if_pos hab, if_pos (by omega), decide_eq_true (by omega), if_pos (by omega)]
  · rw [if_neg hab, if_pos (s4 (by omega)), if_pos (by omega), decide_eq_true (by omega), if_pos (by omega)]

end Go.Proofs.Yteibejkbfnnkhaa.Pure
