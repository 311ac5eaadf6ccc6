/- What the Go functions of this seat compute, as Lean functions, each with the proof that the call answers so; made by a program of this session. -/
import Derived.Test.YtbmklpcheopgoaaHx0
import Derived.Test.YtbmklpcheopgoaaHx10
import Derived.Test.YtbmklpcheopgoaaHx11
import Derived.WalkKit
import Derived.Lib.Hide
import Derived.WalkSpells
import Derived.Test.YtbmklpcheopgoaaContours
import Derived.Test.YtbmklpcheopgoaaCallOps
namespace Go.Proofs.Ytbmklpcheopgoaa.H
open Go.RowKit Go.Proofs.YtbmklpcheopgoaaW.PrintWords Go.Proofs.YtbmklpcheopgoaaW.PrintLast Go.Proofs.YtbmklpcheopgoaaW.PrintMore
attribute [local go_sem] max2_int min2_int max_two min_two max_three min_three max_four min_four   -- for this text's walks alone
set_option linter.unusedVariables false
set_option linter.unusedSimpArgs false

/-! ### outline_Lines: function 32 -/
open Go.Proofs.YtbmklpcheopgoaaOps Go.Proofs.YtbmklpcheopgoaaIt Go.Proofs.YtbmklpcheopgoaaBlks Go.Proofs.YtbmklpcheopgoaaFlat Go.Proofs.YtbmklpcheopgoaaCallOps Go.Shelf
attribute [local go_sem] Oper.semAt_some wide_depth wide_fn World.cell?_alloc_some
theorem lines_info : (Try.prog.info? 42).map (fun i => (i.zero, i.size, i.bytes)) = some (some (.slice none 0 0), Kd.sz (Kd.slice 52 k52), 24) := by kernel_rfl
theorem lines_cuts_len (es : List Int) (n : Int) : ∀ b, (cutsF b es n).length ≤ es.length := by
  induction es with
  | nil => intro b; simp [cutsF]
  | cons e es ih =>
    intro b
    unfold cutsF
    split
    · simp
    · simp [ih (e + 1)]
theorem ringStep_ge (pts : List S52) (on : List Bool) (st : List S101 × Int) (i : Nat) : st.1.length + 1 ≤ (ringStep pts on st i).1.length := by
  unfold ringStep
  dsimp only
  split <;> simp
theorem ringSt_ge (pts : List S52) (on : List Bool) (k : Nat) : k ≤ (ringSt pts on k).1.length := by
  induction k with
  | zero => omega
  | succ k ih => rw [ringSt_succ]; have := ringStep_ge pts on (ringSt pts on k) k; omega
theorem ringFin_len (pts : List S52) (on : List Bool) (k : Nat) : (ringFin (ringSt pts on k)).length = (ringSt pts on k).1.length := by
  have := ringSt_at pts on k
  unfold ringFin
  rw [List.length_append, List.length_drop, List.length_take]
  omega
/-- The lines of the contour from place s up to t. -/
def contourLines (pts : List S52) (on : List Bool) (s t : Nat) : List S52 := rowL (ringFin (ringSt ((pts.drop s).take (t - s)) ((on.drop s).take (t - s)) (t - s)))
def linesK (pts : List S52) (on : List Bool) (es : List Int) (k : Nat) : List (List S52) := ((cutsL es pts.length).take k).map fun c => contourLines pts on c.1.toNat c.2.toNat
theorem linesK_len (pts : List S52) (on : List Bool) (es : List Int) (k : Nat) (h : k ≤ (cutsL es pts.length).length) : (linesK pts on es k).length = k := by simp [linesK, h]
structure LinesReg6 where
  mk ::
  b0 : Bool
  b1 : Bool
  b2 : Bool
  b3 : Bool
  b4 : Bool
  b5 : Bool
  b6 : Bool
  b7 : Bool
  b8 : Bool
  b9 : Bool
  b10 : Bool
  b11 : Bool
  b12 : Bool
  b13 : Bool
  b14 : Bool
  b15 : Bool
  b16 : Bool
  b17 : Bool
  b18 : Bool
  b19 : Bool
  b20 : Bool
  b21 : Bool
  VR : Value
  VQ : Value
  gH : Nat
  V1 : Value
set_option maxRecDepth 100000 in
set_option maxHeartbeats 4000000 in
theorem lines_calls (A0 A1 A2 : Option Addr) (c0 c1 c2 : Nat) (pts : List S52) (on : List Bool) (es : List Int) (w : World) (hp : Kd.C k52 w A0 pts.length pts) (hc0 : pts.length ≤ c0) (ho : Kd.C Kd.bool w A1 on.length on) (hc1 : on.length ≤ c1) (hes : (Kd.int .i64).C w A2 es.length es) (hc2 : es.length ≤ c2) (hlim : pts.length ≤ 1000000) (hlime : es.length ≤ 1000000) (hon : on.length = pts.length) :
    Calls Try.prog 32 #[.slice A0 pts.length c0, .slice A1 on.length c1, .slice A2 es.length c2] w fun e w' => ∃ v0 : Value, e = .returned v0 ∧ Kd.S (Kd.slice 52 k52) 42 w' w.heap.size (fun _ => True) v0 (linesK pts on es (cutsL es pts.length).length) ∧ Below w.heap.size w w' := by
  have hne : (((on.length : Nat) : Int) != ((pts.length : Nat) : Int)) = false := by simp [hon]
  refine (callsIn_wide (n := 0)).1 (callsIn_of_wp_marks Try.func32 rfl trivial ?_ rfl)
  simp only [Try.ntmps32, List.size_toArray, List.length_cons, List.length_nil, Nat.reduceAdd, Nat.reduceSub, Array.replicate_succ, Array.replicate_zero, List.push_toArray, List.append_toArray, List.nil_append, List.cons_append]
  have HON := Lib.hid hon
  clear hon
  gi_wp2
  refine CallsIn.mono (cuts_calls 0 _ _ _ _ _) ?_
  rintro e w' ⟨rfl, rfl⟩
  gi_wp2
  generalize hV : World.alloc (World.alloc (World.alloc (World.alloc (World.alloc w _) _) _) _) _ = V
  have hVs : V.heap.size = w.heap.size + 1 + 1 + 1 + 1 + 1 := by rw [← hV]; simp
  have hbw : Below w.heap.size w V := by rw [← hV]; exact (((((Below.refl _ w).alloc (Nat.le_refl _) _).alloc (by simp) _).alloc (by simp; omega) _).alloc (by simp; omega) _).alloc (by simp; omega) _
  have hB : Blks [(w.heap.size + 1 + 1 + 1 + 1, .cells #[.int .i64 pts.length] 3 (0, 0)), (w.heap.size + 1 + 1 + 1, .cells #[.slice A2 es.length c2] 23 (0, 0)), (w.heap.size + 1 + 1, .cells #[.slice none 0 0] 45 (0, 0)), (w.heap.size + 1, .cells #[.slice A1 on.length c1] 43 (0, 0)), (w.heap.size, .cells #[.slice A0 pts.length c0] 42 (0, 0))] V := by
    rw [← hV]; exact (((((Blks.nil w).alloc _).alloc_at _ (by simp)).alloc_at _ (by simp)).alloc_at _ (by simp)).alloc_at _ (by simp)
  clear hV
  have hit := cuts_it V A2 c2 es pts.length (by omega) (w.heap.size + 1 + 1 + 1) (w.heap.size + 1 + 1 + 1 + 1) (hB.cell 1 rfl 0) (hB.cell 0 rfl 0) (Kd.C_below hes hbw)
  refine range_outer hit (by rfl) (fun args w => by simp [go_sem])
    (fun k own V' => own (w.heap.size + 1 + 1) ∧ (∀ b, own b → b = w.heap.size + 1 + 1 ∨ V.heap.size ≤ b) ∧ (∃ v, Blks [(w.heap.size + 1 + 1, .cells #[v] 45 (0, 0)), (w.heap.size + 1, .cells #[.slice A1 on.length c1] 43 (0, 0)), (w.heap.size, .cells #[.slice A0 pts.length c0] 42 (0, 0))] V' ∧
        Kd.S (Kd.slice 52 k52) 42 V' w.heap.size (fun b => own b ∧ b ≠ w.heap.size + 1 + 1) v (linesK pts on es k)) ∧ Below w.heap.size w V' ∧ V.heap.size ≤ V'.heap.size)
    (fun c k own V' => False)
    (fun b => b = w.heap.size + 1 + 1) ?_ ?_ ?_ ?_ ?_
    (fun k own a' V' => ∃ (c : Int × Int) (X : Nat), (cutsL es pts.length)[k]? = some c ∧ a' = ⟨#[.slice A0 pts.length c0, .slice A1 on.length c1, .slice A2 es.length c2, .pointer (some ⟨w.heap.size, 0, none⟩), .pointer (some ⟨w.heap.size + 1, 0, none⟩), undef, .slice none 0 0, .pointer (some ⟨w.heap.size + 1 + 1, 0, none⟩), undef, .pointer (some ⟨X, 0, none⟩), .slice A1 on.length c1, .int .i64 on.length, .slice A0 pts.length c0, .int .i64 pts.length, .bool false, .slice A2 es.length c2, .slice A0 pts.length c0, .int .i64 pts.length, .func (.func 55) #[] #[.pointer (some ⟨w.heap.size + 1 + 1 + 1, 0, none⟩), .pointer (some ⟨w.heap.size + 1 + 1 + 1 + 1, 0, none⟩)], .int .i64 k, .agg #[.int .i64 c.1, .int .i64 c.2], undef, undef, undef, undef, undef, undef, undef, undef, undef, undef, undef, undef, undef, undef, undef, undef, undef, undef, undef, undef, undef, undef], []⟩ ∧ V.heap.size ≤ X ∧ Blks [(X, .cells #[.int .i64 c.1, .int .i64 c.2] 64 (0, 0))] V') ?_ ?_ ?_ ?_ ?_
  · rintro k own Va Vb ⟨h1, h2, ⟨v, h3, h4⟩, h5, h6⟩ hc
    refine ⟨h1, h2, ⟨v, h3.chg hc ?_, S_chg h4 hc (fun k hk hs => hs.2 hk.1)⟩, h5.trans (hc.below (Nat.le_trans (by omega) h5.size) (fun i hi h => by omega)), Nat.le_trans h6 hc.size⟩
    intro b hb hs
    simp at hb
    omega
  · rintro c k own V1 V2 h hc
    exact h
  · rintro k W args ⟨c, _, rfl⟩
    rfl
  · rintro b rfl
    refine ⟨by omega, fun hr => ?_⟩
    rcases hr with ⟨h0, ad, rfl, hr⟩ | hr | hr
    · obtain ⟨ad', e, hx⟩ := Kd.at_int hes 0 (by omega) (by omega)
      cases e
      have := World.block_lt_of_cell? w _ hx
      rw [add_block] at this
      omega
    · omega
    · omega
  · exact ⟨rfl, fun b hb => .inl hb, ⟨_, (hB.tail).tail, Kd.S_nil _ _ _ _ _⟩, hbw, Nat.le_refl _⟩
  · rintro lc k own a' Va o o' hlc ⟨c, X, q1, q2, q3, q4⟩ ho hcells
    exact ⟨c, X, q1, q2, q3, q4.put_ (by simp [Obj.isCells]) ho hcells⟩
  · rintro lc n k own args Va hlc ⟨h1, h2, ⟨v, h3, h4⟩, h5, h6⟩ how hlt hno hk ⟨c, hkc, rfl⟩ _
    generalize hQ : Exit.then _ _ = Q0
    gi_wp2
    subst hQ
    show ∃ own', _
    exact ⟨own, GrowG.refl _ _ _, fun b hb => Nat.lt_of_lt_of_le (how b hb) (by simp), (Chg.refl _ _).alloc _, ⟨h1, h2, ⟨v, (h3.alloc _).tail, S_chg h4 ((Chg.refl (fun _ => False) _).alloc _) (fun _ _ => id)⟩, h5.alloc h5.size _, by simp; omega⟩, c, Va.heap.size, hkc, rfl, h6, (Blks.nil _).alloc _⟩
  · rintro lc n k own a' Va hlc ⟨h1, h2, ⟨v, h3, h4⟩, h5, h6⟩ how ⟨rl, hrl⟩ hno hk ⟨c, X, hkc, rfl, hX, hBX⟩
    obtain ⟨m1, m2, m3⟩ := cutsF_mem es pts.length 0 k c hkc
    have hnext : linesK pts on es (k + 1) = linesK pts on es k ++ [contourLines pts on c.1.toNat c.2.toNat] := by simp [linesK, List.take_add_one, hkc]
    obtain ⟨s, hs⟩ : ∃ s : Nat, c.1 = s := ⟨c.1.toNat, by omega⟩
    obtain ⟨t, ht⟩ : ∃ t : Nat, c.2 = t := ⟨c.2.toNat, by omega⟩
    have hlk := linesK_len pts on es k (by omega)
    obtain ⟨Av, cv, rfl⟩ := Kd.S_slice h4
    rw [hlk] at h3 h4
    rw [hs, ht] at hBX hnext m2
    rw [ht] at m3
    rw [hs, ht]
    simp only [Int.toNat_natCast] at hnext
    have hst : s < t := by omega
    have htn : t ≤ pts.length := by omega
    have hton : t ≤ on.length := by rw [HON.out]; exact htn
    clear hs ht m1 m2 m3 hkc
    obtain ⟨ad0, rfl⟩ : ∃ ad, A0 = some ad := by obtain ⟨ad, h, _⟩ := hp.2.2 (by omega); exact ⟨ad, h⟩
    obtain ⟨ad1, rfl⟩ : ∃ ad, A1 = some ad := by obtain ⟨ad, h, _⟩ := ho.2.2 (by omega); exact ⟨ad, h⟩
    obtain ⟨ps, hps0⟩ : ∃ ps, (pts.drop s).take (t - s) = ps := ⟨_, rfl⟩
    obtain ⟨os, hos0⟩ : ∃ os, (on.drop s).take (t - s) = os := ⟨_, rfl⟩
    have hpl : ps.length = t - s := by rw [← hps0, List.length_take, List.length_drop]; omega
    have hol : os.length = t - s := by rw [← hos0, List.length_take, List.length_drop]; omega
    have hps : Kd.C k52 w (some (ad0.add (s * 2))) (t - s) ps := by
      have hA := Kd.C_drop (c := c0) hp (show s ≤ pts.length by omega) hc0
      rw [if_neg (by omega)] at hA
      have := Kd.C_take hA (show t - s ≤ (pts.drop s).length by rw [List.length_drop]; omega)
      rw [hps0, hpl] at this
      exact this
    have hos : Kd.C Kd.bool w (some (ad1.add s)) (t - s) os := by
      have hA := Kd.C_drop (c := c1) ho (show s ≤ on.length by omega) hc1
      rw [if_neg (by omega)] at hA
      have := Kd.C_take hA (show t - s ≤ (on.drop s).length by rw [List.length_drop]; omega)
      rw [hos0, hol] at this
      have e1 : s * Kd.bool.sz = s := Nat.mul_one s
      rw [e1] at this
      exact this
    obtain ⟨rg, hrg⟩ : ∃ rg, ringFin (ringSt ps os (t - s)) = rg := ⟨_, rfl⟩
    have hrgl : rg.length = (ringSt ps os (t - s)).1.length := by rw [← hrg]; exact ringFin_len _ _ _
    have hrg1 := ringSt_ge ps os (t - s)
    have hrg2 := ringSt_len ps os (t - s)
    have hrpos : 0 < rg.length := by omega
    have hrlim : rg.length ≤ 3000000 := by omega
    obtain ⟨rw_, hrw⟩ : ∃ r, rowL rg = r := ⟨_, rfl⟩
    have hcl : contourLines pts on s t = rw_ := by unfold contourLines; rw [hps0, hos0, hrg, hrw]
    rw [hcl] at hnext
    obtain ⟨rows, hrows⟩ : ∃ rows, linesK pts on es k = rows := ⟨_, rfl⟩
    rw [hrows] at h4 hlk hnext
    have hklen : rows.length ≤ 1000000 := by have := lines_cuts_len es pts.length 0; unfold cutsL at hk; omega
    have hrowsown : ∀ b, (Value.slice Av k cv).ownBlock = some b → own b ∧ b ≠ w.heap.size + 1 + 1 := fun b e => by
      obtain ⟨_, hr⟩ := h4
      exact hr.1 b e
    have hus := Try.underlying42
    have hub := Try.underlying43
    have hu64 := Try.underlying64
    have hse : s ≤ t := by omega
    have hec : t ≤ c0 := by omega
    have hec1 : t ≤ c1 := by omega
    have hsc : ¬ (t = s) := by omega
    have hsc2 : ¬ (t - s = 0) := by omega
    have hB4 : Blks [(X, .cells #[.int .i64 s, .int .i64 t] 64 (0, 0)), (w.heap.size + 1 + 1, .cells #[.slice Av k cv] 45 (0, 0)), (w.heap.size + 1, .cells #[.slice (some ad1) on.length c1] 43 (0, 0)), (w.heap.size, .cells #[.slice (some ad0) pts.length c0] 42 (0, 0))] Va := h3.add (hBX.blk 0 rfl) (by simp; omega)
    have hapart : ∀ b, b ∈ ([X, w.heap.size + 1 + 1, w.heap.size + 1, w.heap.size] : List Nat) → (Value.slice Av k cv).ownBlock = some b → False := by
      intro b hb e
      obtain ⟨q1, q2⟩ := hrowsown b e
      rcases h2 b q1 with h | h
      · exact q2 h
      · have hbX : b = X := by simp at hb; omega
        subst hbX
        obtain ⟨cs, h8⟩ := Kd.S_typed h4 b e
        rw [hBX.blk 0 rfl] at h8
        injection h8 with h8
        injection h8 with _ h8
        cases h8
    have HH := Lib.hid (And.intro hnext hrows)
    clear hnext hrows hps0 hos0 hcl hrgl hrg1 h3 hBX
    have HB := hB4
    have HS := h4
    clear hB4 h4 hlk
    gi_wp2
    refine Go.Proofs.YtbmklpcheopgoaaReg.regIn_inv (by rfl) [0, 1, 2, 3, 4, 5, 6, 7, 8, 9, 10, 11, 12, 13, 14, 15, 16, 17, 18, 19, 20, 21] (by kernel_rfl) (by kernel_rfl)
      (fun lst a W' => ∃ d : LinesReg6, lst = #[d.b0, d.b1, d.b2, d.b3, d.b4, d.b5, d.b6, d.b7, d.b8, d.b9, d.b10, d.b11, d.b12, d.b13, d.b14, d.b15, d.b16, d.b17, d.b18, d.b19, d.b20, d.b21] ∧ a = ⟨#[.slice (some ad0) pts.length c0, .slice (some ad1) on.length c1, .slice A2 es.length c2, .pointer (some ⟨w.heap.size, 0, none⟩), .pointer (some ⟨w.heap.size + 1, 0, none⟩), undef, .slice none 0 0, .pointer (some ⟨w.heap.size + 1 + 1, 0, none⟩), undef, .pointer (some ⟨X, 0, none⟩), .slice (some ad1) on.length c1, .int .i64 on.length, .slice (some ad0) pts.length c0, .int .i64 pts.length, .bool false, .slice A2 es.length c2, .slice (some ad0) pts.length c0, .int .i64 pts.length, .func (.func 55) #[] #[.pointer (some ⟨w.heap.size + 1 + 1 + 1, 0, none⟩), .pointer (some ⟨w.heap.size + 1 + 1 + 1 + 1, 0, none⟩)], .int .i64 k, .agg #[.int .i64 s, .int .i64 t], (cond d.b0 (.slice Av k cv) undef), (cond d.b1 (.slice (some ad0) pts.length c0) undef), (cond d.b2 (.pointer (some ⟨X, 0, none⟩)) undef), (cond d.b3 (.int .i64 s) undef), (cond d.b4 (.pointer (some ⟨X, 1, none⟩)) undef), (cond d.b5 (.int .i64 t) undef), (cond d.b6 (.pointer (some ⟨X, 1, none⟩)) undef), (cond d.b7 (.int .i64 t) undef), (cond d.b8 (.slice (some (ad0.add (s * 2))) (t - s) (t - s)) undef), (cond d.b9 (.slice (some ad1) on.length c1) undef), (cond d.b10 (.pointer (some ⟨X, 0, none⟩)) undef), (cond d.b11 (.int .i64 s) undef), (cond d.b12 (.pointer (some ⟨X, 1, none⟩)) undef), (cond d.b13 (.int .i64 t) undef), (cond d.b14 (.pointer (some ⟨X, 1, none⟩)) undef), (cond d.b15 (.int .i64 t) undef), (cond d.b16 (.slice (some (ad1.add s)) (t - s) (t - s)) undef), (cond d.b17 d.VR undef), (cond d.b18 d.VQ undef), (cond d.b19 (.slice (some ⟨d.gH, 0, none⟩) 1 1) undef), (cond d.b20 d.V1 undef), undef], []⟩ ∧ (d.b18 = true → d.b17 = true) ∧ (d.b19 = true → d.b18 = true) ∧ (d.b20 = true → d.b17 = true) ∧ (d.b20 = true → d.b18 = true) ∧ (d.b20 = true → d.b19 = true) ∧ (d.b21 = true → d.b0 = true) ∧ (d.b21 = true → d.b20 = true) ∧ (Blks [(X, .cells #[.int .i64 s, .int .i64 t] 64 (0, 0)), (w.heap.size + 1 + 1, .cells #[cond d.b21 d.V1 (.slice Av k cv)] 45 (0, 0)), (w.heap.size + 1, .cells #[.slice (some ad1) on.length c1] 43 (0, 0)), (w.heap.size, .cells #[.slice (some ad0) pts.length c0] 42 (0, 0))] W') ∧ (d.b20 = false → Kd.S (Kd.slice 52 k52) 42 W' w.heap.size (fun b => own b ∧ b ≠ w.heap.size + 1 + 1) (.slice Av k cv) rows) ∧ (d.b20 = true → Kd.S (Kd.slice 52 k52) 42 W' w.heap.size (fun b => (own b ∧ b ≠ w.heap.size + 1 + 1) ∨ Va.heap.size ≤ b) d.V1 (rows ++ [rw_])) ∧ (d.b17 = true → d.b20 = false → ∃ A c, d.VR = .slice A rg.length c ∧ rg.length ≤ c ∧ Kd.C k101 W' A rg.length rg) ∧ (d.b18 = true → d.b20 = false → Kd.R k52 52 W' Va.heap.size (Own1 d.VQ) d.VQ rw_) ∧ (d.b19 = true → d.b20 = false → W'.heap[d.gH]? = some (.cells #[d.VQ] 42 (0, 0))) ∧ (Chg own Va W') ∧ (d.b20 = true → ∃ n : Option Addr × Nat × Nat, d.V1 = .slice n.1 n.2.1 n.2.2)) ?_ ?_ ?_ ?_
    · rintro lst a W' ⟨d, rfl, _⟩
      rfl
    · exact ⟨⟨false, false, false, false, false, false, false, false, false, false, false, false, false, false, false, false, false, false, false, false, false, false, undef, undef, 0, undef⟩, rfl, rfl, (fun h => Bool.noConfusion h), (fun h => Bool.noConfusion h), (fun h => Bool.noConfusion h), (fun h => Bool.noConfusion h), (fun h => Bool.noConfusion h), (fun h => Bool.noConfusion h), (fun h => Bool.noConfusion h), HB.drew, (fun _ => S_chg HS ((Chg.refl (fun _ => False) _).drew) (fun _ _ => id)), (fun h => Bool.noConfusion h), (fun h => Bool.noConfusion h), (fun h => Bool.noConfusion h), (fun h => Bool.noConfusion h), ((Chg.refl own Va).drew), (fun h => Bool.noConfusion h)⟩
    · rintro lst a W' i o ⟨⟨b0, b1, b2, b3, b4, b5, b6, b7, b8, b9, b10, b11, b12, b13, b14, b15, b16, b17, b18, b19, b20, b21, VR, VQ, gH, V1⟩, rfl, rfl, k0, k1, k2, k3, k4, k5, k6, hHB, hHS0, hHS1, hHR, hHQ, hHX, hHC, hHN⟩ ho hf hd K hK
      dsimp only at k0 k1 k2 k3 k4 k5 k6 hHB hHS0 hHS1 hHR hHQ hHX hHC hHN
      have hi : i < 22 := (Array.getElem?_eq_some_iff.1 ho).1
      have ho2 := ho
      rcases (show i = 0 ∨ i = 1 ∨ i = 2 ∨ i = 3 ∨ i = 4 ∨ i = 5 ∨ i = 6 ∨ i = 7 ∨ i = 8 ∨ i = 9 ∨ i = 10 ∨ i = 11 ∨ i = 12 ∨ i = 13 ∨ i = 14 ∨ i = 15 ∨ i = 16 ∨ i = 17 ∨ i = 18 ∨ i = 19 ∨ i = 20 ∨ i = 21 by omega) with rfl | rfl | rfl | rfl | rfl | rfl | rfl | rfl | rfl | rfl | rfl | rfl | rfl | rfl | rfl | rfl | rfl | rfl | rfl | rfl | rfl | rfl
      · simp only [List.getElem?_toArray, List.getElem?_cons_succ, List.getElem?_cons_zero, Option.some.injEq] at ho
        subst ho
        replace hf : b0 = false := hf
        have n21 : b21 = false := Bool.eq_false_iff.mpr (fun h => absurd (k5 h) (by rw [hf]; decide))
        subst n21
        subst hf
        refine Go.Proofs.YtbmklpcheopgoaaReg.opIn_val ho2 rfl (fun _ => trivial) (fun c h => by cases h) (v := .slice Av k cv) (w1 := W') ?_ (hK _ _ ⟨⟨true, b1, b2, b3, b4, b5, b6, b7, b8, b9, b10, b11, b12, b13, b14, b15, b16, b17, b18, b19, b20, false, VR, VQ, gH, V1⟩, rfl, rfl, (k0), (k1), (k2), (k3), (k4), (fun _ => rfl), (fun h => Bool.noConfusion h), hHB, hHS0, hHS1, hHR, hHQ, hHX, hHC, hHN⟩)
        simp [go_sem, Blks.cell hHB 1 rfl 0]
      · simp only [List.getElem?_toArray, List.getElem?_cons_succ, List.getElem?_cons_zero, Option.some.injEq] at ho
        subst ho
        replace hf : b1 = false := hf
        subst hf
        refine Go.Proofs.YtbmklpcheopgoaaReg.opIn_val ho2 rfl (fun _ => trivial) (fun c h => by cases h) (v := .slice (some ad0) pts.length c0) (w1 := W') ?_ (hK _ _ ⟨⟨b0, true, b2, b3, b4, b5, b6, b7, b8, b9, b10, b11, b12, b13, b14, b15, b16, b17, b18, b19, b20, b21, VR, VQ, gH, V1⟩, rfl, rfl, (k0), (k1), (k2), (k3), (k4), (k5), (k6), hHB, hHS0, hHS1, hHR, hHQ, hHX, hHC, hHN⟩)
        simp [go_sem, Blks.cell hHB 3 rfl 0]
      · simp only [List.getElem?_toArray, List.getElem?_cons_succ, List.getElem?_cons_zero, Option.some.injEq] at ho
        subst ho
        replace hf : b2 = false := hf
        subst hf
        refine Go.Proofs.YtbmklpcheopgoaaReg.opIn_val ho2 rfl (fun _ => trivial) (fun c h => by cases h) (v := .pointer (some ⟨X, 0, none⟩)) (w1 := W') ?_ (hK _ _ ⟨⟨b0, b1, true, b3, b4, b5, b6, b7, b8, b9, b10, b11, b12, b13, b14, b15, b16, b17, b18, b19, b20, b21, VR, VQ, gH, V1⟩, rfl, rfl, (k0), (k1), (k2), (k3), (k4), (k5), (k6), hHB, hHS0, hHS1, hHR, hHQ, hHX, hHC, hHN⟩)
        simp [go_sem, hu64]
      · simp only [List.getElem?_toArray, List.getElem?_cons_succ, List.getElem?_cons_zero, Option.some.injEq] at ho
        subst ho
        replace hf : b3 = false := hf
        have d2 : b2 = true := hd ⟨2, .data⟩ (by simp) rfl
        subst d2
        subst hf
        refine Go.Proofs.YtbmklpcheopgoaaReg.opIn_val ho2 rfl (fun _ => trivial) (fun c h => by cases h) (v := .int .i64 s) (w1 := W') ?_ (hK _ _ ⟨⟨b0, b1, true, true, b4, b5, b6, b7, b8, b9, b10, b11, b12, b13, b14, b15, b16, b17, b18, b19, b20, b21, VR, VQ, gH, V1⟩, rfl, rfl, (k0), (k1), (k2), (k3), (k4), (k5), (k6), hHB, hHS0, hHS1, hHR, hHQ, hHX, hHC, hHN⟩)
        simp [go_sem, Blks.cell hHB 0 rfl 0]
      · simp only [List.getElem?_toArray, List.getElem?_cons_succ, List.getElem?_cons_zero, Option.some.injEq] at ho
        subst ho
        replace hf : b4 = false := hf
        subst hf
        refine Go.Proofs.YtbmklpcheopgoaaReg.opIn_val ho2 rfl (fun _ => trivial) (fun c h => by cases h) (v := .pointer (some ⟨X, 1, none⟩)) (w1 := W') ?_ (hK _ _ ⟨⟨b0, b1, b2, b3, true, b5, b6, b7, b8, b9, b10, b11, b12, b13, b14, b15, b16, b17, b18, b19, b20, b21, VR, VQ, gH, V1⟩, rfl, rfl, (k0), (k1), (k2), (k3), (k4), (k5), (k6), hHB, hHS0, hHS1, hHR, hHQ, hHX, hHC, hHN⟩)
        simp [go_sem, hu64]
      · simp only [List.getElem?_toArray, List.getElem?_cons_succ, List.getElem?_cons_zero, Option.some.injEq] at ho
        subst ho
        replace hf : b5 = false := hf
        have d4 : b4 = true := hd ⟨4, .data⟩ (by simp) rfl
        subst d4
        subst hf
        refine Go.Proofs.YtbmklpcheopgoaaReg.opIn_val ho2 rfl (fun _ => trivial) (fun c h => by cases h) (v := .int .i64 t) (w1 := W') ?_ (hK _ _ ⟨⟨b0, b1, b2, b3, true, true, b6, b7, b8, b9, b10, b11, b12, b13, b14, b15, b16, b17, b18, b19, b20, b21, VR, VQ, gH, V1⟩, rfl, rfl, (k0), (k1), (k2), (k3), (k4), (k5), (k6), hHB, hHS0, hHS1, hHR, hHQ, hHX, hHC, hHN⟩)
        simp [go_sem, Blks.cell hHB 0 rfl 1]
      · simp only [List.getElem?_toArray, List.getElem?_cons_succ, List.getElem?_cons_zero, Option.some.injEq] at ho
        subst ho
        replace hf : b6 = false := hf
        subst hf
        refine Go.Proofs.YtbmklpcheopgoaaReg.opIn_val ho2 rfl (fun _ => trivial) (fun c h => by cases h) (v := .pointer (some ⟨X, 1, none⟩)) (w1 := W') ?_ (hK _ _ ⟨⟨b0, b1, b2, b3, b4, b5, true, b7, b8, b9, b10, b11, b12, b13, b14, b15, b16, b17, b18, b19, b20, b21, VR, VQ, gH, V1⟩, rfl, rfl, (k0), (k1), (k2), (k3), (k4), (k5), (k6), hHB, hHS0, hHS1, hHR, hHQ, hHX, hHC, hHN⟩)
        simp [go_sem, hu64]
      · simp only [List.getElem?_toArray, List.getElem?_cons_succ, List.getElem?_cons_zero, Option.some.injEq] at ho
        subst ho
        replace hf : b7 = false := hf
        have d6 : b6 = true := hd ⟨6, .data⟩ (by simp) rfl
        subst d6
        subst hf
        refine Go.Proofs.YtbmklpcheopgoaaReg.opIn_val ho2 rfl (fun _ => trivial) (fun c h => by cases h) (v := .int .i64 t) (w1 := W') ?_ (hK _ _ ⟨⟨b0, b1, b2, b3, b4, b5, true, true, b8, b9, b10, b11, b12, b13, b14, b15, b16, b17, b18, b19, b20, b21, VR, VQ, gH, V1⟩, rfl, rfl, (k0), (k1), (k2), (k3), (k4), (k5), (k6), hHB, hHS0, hHS1, hHR, hHQ, hHX, hHC, hHN⟩)
        simp [go_sem, Blks.cell hHB 0 rfl 1]
      · simp only [List.getElem?_toArray, List.getElem?_cons_succ, List.getElem?_cons_zero, Option.some.injEq] at ho
        subst ho
        replace hf : b8 = false := hf
        have d1 : b1 = true := hd ⟨1, .data⟩ (by simp) rfl
        have d3 : b3 = true := hd ⟨3, .data⟩ (by simp) rfl
        have d5 : b5 = true := hd ⟨5, .data⟩ (by simp) rfl
        have d7 : b7 = true := hd ⟨7, .data⟩ (by simp) rfl
        subst d1
        subst d3
        subst d5
        subst d7
        subst hf
        refine Go.Proofs.YtbmklpcheopgoaaReg.opIn_val ho2 rfl (fun _ => trivial) (fun c h => by cases h) (v := .slice (some (ad0.add (s * 2))) (t - s) (t - s)) (w1 := W') ?_ (hK _ _ ⟨⟨b0, true, b2, true, b4, true, b6, true, true, b9, b10, b11, b12, b13, b14, b15, b16, b17, b18, b19, b20, b21, VR, VQ, gH, V1⟩, rfl, rfl, (k0), (k1), (k2), (k3), (k4), (k5), (k6), hHB, hHS0, hHS1, hHR, hHQ, hHX, hHC, hHN⟩)
        simp [go_sem, hus, hse, hec, hsc, hsc2]
      · simp only [List.getElem?_toArray, List.getElem?_cons_succ, List.getElem?_cons_zero, Option.some.injEq] at ho
        subst ho
        replace hf : b9 = false := hf
        subst hf
        refine Go.Proofs.YtbmklpcheopgoaaReg.opIn_val ho2 rfl (fun _ => trivial) (fun c h => by cases h) (v := .slice (some ad1) on.length c1) (w1 := W') ?_ (hK _ _ ⟨⟨b0, b1, b2, b3, b4, b5, b6, b7, b8, true, b10, b11, b12, b13, b14, b15, b16, b17, b18, b19, b20, b21, VR, VQ, gH, V1⟩, rfl, rfl, (k0), (k1), (k2), (k3), (k4), (k5), (k6), hHB, hHS0, hHS1, hHR, hHQ, hHX, hHC, hHN⟩)
        simp [go_sem, Blks.cell hHB 2 rfl 0]
      · simp only [List.getElem?_toArray, List.getElem?_cons_succ, List.getElem?_cons_zero, Option.some.injEq] at ho
        subst ho
        replace hf : b10 = false := hf
        subst hf
        refine Go.Proofs.YtbmklpcheopgoaaReg.opIn_val ho2 rfl (fun _ => trivial) (fun c h => by cases h) (v := .pointer (some ⟨X, 0, none⟩)) (w1 := W') ?_ (hK _ _ ⟨⟨b0, b1, b2, b3, b4, b5, b6, b7, b8, b9, true, b11, b12, b13, b14, b15, b16, b17, b18, b19, b20, b21, VR, VQ, gH, V1⟩, rfl, rfl, (k0), (k1), (k2), (k3), (k4), (k5), (k6), hHB, hHS0, hHS1, hHR, hHQ, hHX, hHC, hHN⟩)
        simp [go_sem, hu64]
      · simp only [List.getElem?_toArray, List.getElem?_cons_succ, List.getElem?_cons_zero, Option.some.injEq] at ho
        subst ho
        replace hf : b11 = false := hf
        have d10 : b10 = true := hd ⟨10, .data⟩ (by simp) rfl
        subst d10
        subst hf
        refine Go.Proofs.YtbmklpcheopgoaaReg.opIn_val ho2 rfl (fun _ => trivial) (fun c h => by cases h) (v := .int .i64 s) (w1 := W') ?_ (hK _ _ ⟨⟨b0, b1, b2, b3, b4, b5, b6, b7, b8, b9, true, true, b12, b13, b14, b15, b16, b17, b18, b19, b20, b21, VR, VQ, gH, V1⟩, rfl, rfl, (k0), (k1), (k2), (k3), (k4), (k5), (k6), hHB, hHS0, hHS1, hHR, hHQ, hHX, hHC, hHN⟩)
        simp [go_sem, Blks.cell hHB 0 rfl 0]
      · simp only [List.getElem?_toArray, List.getElem?_cons_succ, List.getElem?_cons_zero, Option.some.injEq] at ho
        subst ho
        replace hf : b12 = false := hf
        subst hf
        refine Go.Proofs.YtbmklpcheopgoaaReg.opIn_val ho2 rfl (fun _ => trivial) (fun c h => by cases h) (v := .pointer (some ⟨X, 1, none⟩)) (w1 := W') ?_ (hK _ _ ⟨⟨b0, b1, b2, b3, b4, b5, b6, b7, b8, b9, b10, b11, true, b13, b14, b15, b16, b17, b18, b19, b20, b21, VR, VQ, gH, V1⟩, rfl, rfl, (k0), (k1), (k2), (k3), (k4), (k5), (k6), hHB, hHS0, hHS1, hHR, hHQ, hHX, hHC, hHN⟩)
        simp [go_sem, hu64]
      · simp only [List.getElem?_toArray, List.getElem?_cons_succ, List.getElem?_cons_zero, Option.some.injEq] at ho
        subst ho
        replace hf : b13 = false := hf
        have d12 : b12 = true := hd ⟨12, .data⟩ (by simp) rfl
        subst d12
        subst hf
        refine Go.Proofs.YtbmklpcheopgoaaReg.opIn_val ho2 rfl (fun _ => trivial) (fun c h => by cases h) (v := .int .i64 t) (w1 := W') ?_ (hK _ _ ⟨⟨b0, b1, b2, b3, b4, b5, b6, b7, b8, b9, b10, b11, true, true, b14, b15, b16, b17, b18, b19, b20, b21, VR, VQ, gH, V1⟩, rfl, rfl, (k0), (k1), (k2), (k3), (k4), (k5), (k6), hHB, hHS0, hHS1, hHR, hHQ, hHX, hHC, hHN⟩)
        simp [go_sem, Blks.cell hHB 0 rfl 1]
      · simp only [List.getElem?_toArray, List.getElem?_cons_succ, List.getElem?_cons_zero, Option.some.injEq] at ho
        subst ho
        replace hf : b14 = false := hf
        subst hf
        refine Go.Proofs.YtbmklpcheopgoaaReg.opIn_val ho2 rfl (fun _ => trivial) (fun c h => by cases h) (v := .pointer (some ⟨X, 1, none⟩)) (w1 := W') ?_ (hK _ _ ⟨⟨b0, b1, b2, b3, b4, b5, b6, b7, b8, b9, b10, b11, b12, b13, true, b15, b16, b17, b18, b19, b20, b21, VR, VQ, gH, V1⟩, rfl, rfl, (k0), (k1), (k2), (k3), (k4), (k5), (k6), hHB, hHS0, hHS1, hHR, hHQ, hHX, hHC, hHN⟩)
        simp [go_sem, hu64]
      · simp only [List.getElem?_toArray, List.getElem?_cons_succ, List.getElem?_cons_zero, Option.some.injEq] at ho
        subst ho
        replace hf : b15 = false := hf
        have d14 : b14 = true := hd ⟨14, .data⟩ (by simp) rfl
        subst d14
        subst hf
        refine Go.Proofs.YtbmklpcheopgoaaReg.opIn_val ho2 rfl (fun _ => trivial) (fun c h => by cases h) (v := .int .i64 t) (w1 := W') ?_ (hK _ _ ⟨⟨b0, b1, b2, b3, b4, b5, b6, b7, b8, b9, b10, b11, b12, b13, true, true, b16, b17, b18, b19, b20, b21, VR, VQ, gH, V1⟩, rfl, rfl, (k0), (k1), (k2), (k3), (k4), (k5), (k6), hHB, hHS0, hHS1, hHR, hHQ, hHX, hHC, hHN⟩)
        simp [go_sem, Blks.cell hHB 0 rfl 1]
      · simp only [List.getElem?_toArray, List.getElem?_cons_succ, List.getElem?_cons_zero, Option.some.injEq] at ho
        subst ho
        replace hf : b16 = false := hf
        have d9 : b9 = true := hd ⟨9, .data⟩ (by simp) rfl
        have d11 : b11 = true := hd ⟨11, .data⟩ (by simp) rfl
        have d13 : b13 = true := hd ⟨13, .data⟩ (by simp) rfl
        have d15 : b15 = true := hd ⟨15, .data⟩ (by simp) rfl
        subst d9
        subst d11
        subst d13
        subst d15
        subst hf
        refine Go.Proofs.YtbmklpcheopgoaaReg.opIn_val ho2 rfl (fun _ => trivial) (fun c h => by cases h) (v := .slice (some (ad1.add s)) (t - s) (t - s)) (w1 := W') ?_ (hK _ _ ⟨⟨b0, b1, b2, b3, b4, b5, b6, b7, b8, true, b10, true, b12, true, b14, true, true, b17, b18, b19, b20, b21, VR, VQ, gH, V1⟩, rfl, rfl, (k0), (k1), (k2), (k3), (k4), (k5), (k6), hHB, hHS0, hHS1, hHR, hHQ, hHX, hHC, hHN⟩)
        simp [go_sem, hub, hse, hec1, hsc, hsc2]
      · simp only [List.getElem?_toArray, List.getElem?_cons_succ, List.getElem?_cons_zero, Option.some.injEq] at ho
        subst ho
        replace hf : b17 = false := hf
        have d8 : b8 = true := hd ⟨8, .data⟩ (by simp) rfl
        have d16 : b16 = true := hd ⟨16, .data⟩ (by simp) rfl
        subst d8
        subst d16
        have n18 : b18 = false := Bool.eq_false_iff.mpr (fun h => absurd (k0 h) (by rw [hf]; decide))
        have n19 : b19 = false := Bool.eq_false_iff.mpr (fun h => absurd (k1 h) (by rw [n18]; decide))
        have n20 : b20 = false := Bool.eq_false_iff.mpr (fun h => absurd (k2 h) (by rw [hf]; decide))
        have n21 : b21 = false := Bool.eq_false_iff.mpr (fun h => absurd (k6 h) (by rw [n20]; decide))
        subst n18
        subst n19
        subst n20
        subst n21
        subst hf
        refine Go.Proofs.YtbmklpcheopgoaaReg.opIn_wp ho2 rfl (op_callIn Try.func49 (by kernel_rfl) rfl #[.slice (some (ad0.add (s * 2))) (t - s) (t - s), .slice (some (ad1.add s)) (t - s) (t - s)] rfl (by simp only [List.map_toArray, List.map_cons, List.map_nil]; rfl) rfl (fun _ => trivial) ?_)
        have hbW : Below w.heap.size w W' := h5.trans (hHC.below (B := w.heap.size) h5.size (fun i hi h => by have := h2 i h; omega))
        have hcal := ring_calls (some (ad0.add (s * 2))) (t - s) ps (some (ad1.add s)) (t - s) os W' (by rw [hpl]; exact Kd.C_below hps hbW) (by omega) (by rw [hol]; exact Kd.C_below hos hbW) (by omega) (by omega) (by omega)
        rw [hpl, hol, hrg] at hcal
        refine CallsIn.mono (CallsIn.inRound lc (callsIn_wide.2 hcal)) ?_
        rintro e1 w2 ⟨Ar, cr, rfl, q2, q3, hbn⟩
        exact ⟨_, rfl, (hK _ _ ⟨⟨b0, b1, b2, b3, b4, b5, b6, b7, true, b9, b10, b11, b12, b13, b14, b15, true, true, false, false, false, false, (.slice Ar rg.length cr), VQ, gH, V1⟩, rfl, rfl, (fun _ => rfl), (fun h => Bool.noConfusion h), (fun _ => rfl), (fun h => Bool.noConfusion h), (fun h => Bool.noConfusion h), (fun h => Bool.noConfusion h), (fun h => Bool.noConfusion h), (hHB.below hbn), (fun h => S_chg (hHS0 h) (Chg.of_fresh (S := fun _ => False) hbn) (fun _ _ => id)), (fun h => S_chg (hHS1 h) (Chg.of_fresh (S := fun _ => False) hbn) (fun _ _ => id)), (fun _ _ => ⟨Ar, cr, rfl, q2, q3⟩), (fun h h' => R_chg (hHQ h h') (Chg.of_fresh (S := fun _ => False) hbn) (fun _ _ => id)), (fun h h' => (Chg.of_fresh (S := fun _ => False) hbn).heap (hHX h h') id), (hHC.trans (Chg.of_fresh hbn)), hHN⟩)⟩
      · simp only [List.getElem?_toArray, List.getElem?_cons_succ, List.getElem?_cons_zero, Option.some.injEq] at ho
        subst ho
        replace hf : b18 = false := hf
        have d17 : b17 = true := hd ⟨17, .data⟩ (by simp) rfl
        subst d17
        have n19 : b19 = false := Bool.eq_false_iff.mpr (fun h => absurd (k1 h) (by rw [hf]; decide))
        have n20 : b20 = false := Bool.eq_false_iff.mpr (fun h => absurd (k3 h) (by rw [hf]; decide))
        have n21 : b21 = false := Bool.eq_false_iff.mpr (fun h => absurd (k6 h) (by rw [n20]; decide))
        subst n19
        subst n20
        subst n21
        subst hf
        obtain ⟨Ar, cr, rfl, q2, q3⟩ := hHR rfl rfl
        refine Go.Proofs.YtbmklpcheopgoaaReg.opIn_wp ho2 rfl (op_callIn Try.func48 (by kernel_rfl) rfl #[.slice Ar rg.length cr] rfl (by simp only [List.map_toArray, List.map_cons, List.map_nil]; rfl) rfl (fun _ => trivial) ?_)
        have hcal := row_calls Ar cr rg W' q3 q2 hrpos (by omega)
        rw [hrw] at hcal
        refine CallsIn.mono (CallsIn.inRound lc (callsIn_wide.2 hcal)) ?_
        rintro e1 w2 ⟨vq, rfl, hRq, hbn⟩
        exact ⟨_, rfl, (hK _ _ ⟨⟨b0, b1, b2, b3, b4, b5, b6, b7, b8, b9, b10, b11, b12, b13, b14, b15, b16, true, true, false, false, false, (.slice Ar rg.length cr), vq, gH, V1⟩, rfl, rfl, (fun _ => rfl), (fun _ => rfl), (fun _ => rfl), (fun _ => rfl), (fun h => Bool.noConfusion h), (fun h => Bool.noConfusion h), (fun h => Bool.noConfusion h), (hHB.below hbn), (fun h => S_chg (hHS0 h) (Chg.of_fresh (S := fun _ => False) hbn) (fun _ _ => id)), (fun h => S_chg (hHS1 h) (Chg.of_fresh (S := fun _ => False) hbn) (fun _ _ => id)), (fun _ _ => ⟨Ar, cr, rfl, q2, Kd.C_below q3 hbn⟩), (fun _ _ => Kd.R_lower (R_own1 flat_pt2 hRq) hHC.size), (fun h _ => Bool.noConfusion h), (hHC.trans (Chg.of_fresh hbn)), hHN⟩)⟩
      · simp only [List.getElem?_toArray, List.getElem?_cons_succ, List.getElem?_cons_zero, Option.some.injEq] at ho
        subst ho
        replace hf : b19 = false := hf
        have d18 : b18 = true := hd ⟨18, .data⟩ (by simp) rfl
        have d17 : b17 = true := k0 d18
        subst d17
        subst d18
        have n20 : b20 = false := Bool.eq_false_iff.mpr (fun h => absurd (k4 h) (by rw [hf]; decide))
        have n21 : b21 = false := Bool.eq_false_iff.mpr (fun h => absurd (k6 h) (by rw [n20]; decide))
        subst n20
        subst n21
        subst hf
        obtain ⟨Aq, cq, hvq⟩ := Kd.R_slice (hHQ rfl rfl)
        have hbn : Below W'.heap.size W' (W'.alloc (.cells #[VQ] 42)) := (Below.refl _ _).alloc (Nat.le_refl _) _
        refine Go.Proofs.YtbmklpcheopgoaaReg.opIn_val ho2 rfl (fun _ => trivial) (fun c h => by cases h) (v := .slice (some ⟨(W'.heap.size), 0, none⟩) 1 1) (w1 := W'.alloc (.cells #[VQ] 42)) ?_ (hK _ _ ⟨⟨b0, b1, b2, b3, b4, b5, b6, b7, b8, b9, b10, b11, b12, b13, b14, b15, b16, true, true, true, false, false, VR, VQ, W'.heap.size, V1⟩, rfl, rfl, (fun _ => rfl), (fun _ => rfl), (fun _ => rfl), (fun _ => rfl), (fun _ => rfl), (fun h => Bool.noConfusion h), (fun h => Bool.noConfusion h), (hHB.below hbn), (fun h => S_chg (hHS0 h) (Chg.of_fresh (S := fun _ => False) hbn) (fun _ _ => id)), (fun h => S_chg (hHS1 h) (Chg.of_fresh (S := fun _ => False) hbn) (fun _ _ => id)), (fun h h' => by obtain ⟨A, c, q1, q2, q3⟩ := hHR h h'; exact ⟨A, c, q1, q2, Kd.C_below q3 hbn⟩), (fun h h' => R_chg (hHQ h h') (Chg.of_fresh (S := fun _ => False) hbn) (fun _ _ => id)), (fun _ _ => blk_new W' (.cells #[VQ] 42)), (hHC.trans (Chg.of_fresh hbn)), hHN⟩)
        subst hvq
        simp [go_sem]
      · simp only [List.getElem?_toArray, List.getElem?_cons_succ, List.getElem?_cons_zero, Option.some.injEq] at ho
        subst ho
        replace hf : b20 = false := hf
        have d0 : b0 = true := hd ⟨0, .data⟩ (by simp) rfl
        have d18 : b18 = true := hd ⟨18, .chain⟩ (by simp) rfl
        have d19 : b19 = true := hd ⟨19, .data⟩ (by simp) rfl
        have d17 : b17 = true := k0 d18
        subst d0
        subst d17
        subst d18
        subst d19
        have n21 : b21 = false := Bool.eq_false_iff.mpr (fun h => absurd (k6 h) (by rw [hf]; decide))
        subst n21
        subst hf
        have hVQ := Kd.R_bound (hHQ rfl rfl)
        obtain ⟨vn, wn, hrn, hSn, hgn, hatn⟩ := run_appendS (P := Try.prog) (ty := 45) (Kd.slice 52 k52) w.heap.size Try.underlying45 lines_info rfl (by decide) (by decide) (.slice Av k cv) rows rw_ [VQ] (fun b => (own b ∧ b ≠ w.heap.size + 1 + 1) ∨ Va.heap.size ≤ b) (fun b => Va.heap.size ≤ b ∧ some b = VQ.ownBlock ∧ b < W'.heap.size) ⟨gH, 0, none⟩ 1
          (fun j u hj => by rw [add_plain, blk_cell (hHX rfl rfl) j]; simpa using hj) ⟨_, rfl, Kd.R_mono (Kd.R_lower hVQ (by have := h5.size; omega)) (fun b hb => ⟨hb.2.1, hb.1, hb.2.2.1⟩)⟩
          (fun b hb => ⟨.inr hb.1, fun e => by have := how b (hrowsown b e.symm).1; omega⟩) (fun b hb => .inr (Nat.le_trans hHC.size hb))
          (Kd.S_mono (hHS0 rfl) (fun b hb => ⟨.inl hb, fun e => by have := how b hb.1; omega⟩)) (by have := hHC.size; have := h5.size; omega) (by omega)
        obtain ⟨An, cn, hvn⟩ := Kd.S_slice hSn
        refine Go.Proofs.YtbmklpcheopgoaaReg.opIn_val ho2 rfl (fun _ => trivial) (fun c h => by cases h) (v := vn) (w1 := wn) ?_ (hK _ _ ⟨⟨true, b1, b2, b3, b4, b5, b6, b7, b8, b9, b10, b11, b12, b13, b14, b15, b16, true, true, true, true, false, VR, VQ, gH, vn⟩, rfl, rfl, (fun _ => rfl), (fun _ => rfl), (fun _ => rfl), (fun _ => rfl), (fun _ => rfl), (fun _ => rfl), (fun _ => rfl), (hHB.chg (Chg.of_grownBy hgn) (fun b hb e => hapart b hb e)), (fun h => Bool.noConfusion h), (fun _ => hSn), (fun _ h => Bool.noConfusion h), (fun _ h => Bool.noConfusion h), (fun _ h => Bool.noConfusion h), (hHC.trans ((Chg.of_grownBy hgn).mono (fun b _ e => (hrowsown b e).1))), (fun _ => ⟨(An, _, cn), hvn⟩)⟩)
        exact run_app rfl rfl rfl hrn
      · simp only [List.getElem?_toArray, List.getElem?_cons_succ, List.getElem?_cons_zero, Option.some.injEq] at ho
        subst ho
        replace hf : b21 = false := hf
        have d0 : b0 = true := hd ⟨0, .phase⟩ (by simp) rfl
        have d1 : b1 = true := hd ⟨1, .phase⟩ (by simp) rfl
        have d2 : b2 = true := hd ⟨2, .phase⟩ (by simp) rfl
        have d3 : b3 = true := hd ⟨3, .phase⟩ (by simp) rfl
        have d4 : b4 = true := hd ⟨4, .phase⟩ (by simp) rfl
        have d5 : b5 = true := hd ⟨5, .phase⟩ (by simp) rfl
        have d6 : b6 = true := hd ⟨6, .phase⟩ (by simp) rfl
        have d7 : b7 = true := hd ⟨7, .phase⟩ (by simp) rfl
        have d8 : b8 = true := hd ⟨8, .phase⟩ (by simp) rfl
        have d9 : b9 = true := hd ⟨9, .phase⟩ (by simp) rfl
        have d10 : b10 = true := hd ⟨10, .phase⟩ (by simp) rfl
        have d11 : b11 = true := hd ⟨11, .phase⟩ (by simp) rfl
        have d12 : b12 = true := hd ⟨12, .phase⟩ (by simp) rfl
        have d13 : b13 = true := hd ⟨13, .phase⟩ (by simp) rfl
        have d14 : b14 = true := hd ⟨14, .phase⟩ (by simp) rfl
        have d15 : b15 = true := hd ⟨15, .phase⟩ (by simp) rfl
        have d16 : b16 = true := hd ⟨16, .phase⟩ (by simp) rfl
        have d17 : b17 = true := hd ⟨17, .phase⟩ (by simp) rfl
        have d18 : b18 = true := hd ⟨18, .phase⟩ (by simp) rfl
        have d19 : b19 = true := hd ⟨19, .phase⟩ (by simp) rfl
        have d20 : b20 = true := hd ⟨20, .data⟩ (by simp) rfl
        subst d0
        subst d1
        subst d2
        subst d3
        subst d4
        subst d5
        subst d6
        subst d7
        subst d8
        subst d9
        subst d10
        subst d11
        subst d12
        subst d13
        subst d14
        subst d15
        subst d16
        subst d17
        subst d18
        subst d19
        subst d20
        subst hf
        obtain ⟨⟨na, nb, nc⟩, hvn⟩ := hHN rfl
        refine Go.Proofs.YtbmklpcheopgoaaReg.opIn_skip ho2 rfl (fun _ => trivial) (fun c h => by cases h) (w1 := W'.setCell ⟨w.heap.size + 1 + 1, 0, none⟩ V1) ?_ (hK _ _ ⟨⟨true, true, true, true, true, true, true, true, true, true, true, true, true, true, true, true, true, true, true, true, true, true, VR, VQ, gH, V1⟩, rfl, rfl, (fun _ => rfl), (fun _ => rfl), (fun _ => rfl), (fun _ => rfl), (fun _ => rfl), (fun _ => rfl), (fun _ => rfl), (hHB.set 1 rfl 0 V1), (fun h => Bool.noConfusion h), (fun h => S_chg (hHS1 h) (Chg.setCell (S := fun b => b = w.heap.size + 1 + 1) (Chg.refl _ W') (p := ⟨w.heap.size + 1 + 1, 0, none⟩) (fun _ => rfl) V1) (fun b hb e => by rcases hb with hb | hb; exact hb.2 e; omega)), (fun _ h => Bool.noConfusion h), (fun _ h => Bool.noConfusion h), (fun _ h => Bool.noConfusion h), (hHC.setCell (p := ⟨w.heap.size + 1 + 1, 0, none⟩) (fun _ => h1) V1), hHN⟩)
        subst hvn
        simp [go_sem, Blks.cell hHB 1 rfl 0, Blks.free hHB 1 rfl 0]
    · rintro lst a W' ⟨⟨b0, b1, b2, b3, b4, b5, b6, b7, b8, b9, b10, b11, b12, b13, b14, b15, b16, b17, b18, b19, b20, b21, VR, VQ, gH, V1⟩, rfl, rfl, k0, k1, k2, k3, k4, k5, k6, hHB, hHS0, hHS1, hHR, hHQ, hHX, hHC, hHN⟩ hall
      dsimp only at k0 k1 k2 k3 k4 k5 k6 hHB hHS0 hHS1 hHR hHQ hHX hHC hHN
      have a0 : b0 = true := hall 0 (by decide)
      have a1 : b1 = true := hall 1 (by decide)
      have a2 : b2 = true := hall 2 (by decide)
      have a3 : b3 = true := hall 3 (by decide)
      have a4 : b4 = true := hall 4 (by decide)
      have a5 : b5 = true := hall 5 (by decide)
      have a6 : b6 = true := hall 6 (by decide)
      have a7 : b7 = true := hall 7 (by decide)
      have a8 : b8 = true := hall 8 (by decide)
      have a9 : b9 = true := hall 9 (by decide)
      have a10 : b10 = true := hall 10 (by decide)
      have a11 : b11 = true := hall 11 (by decide)
      have a12 : b12 = true := hall 12 (by decide)
      have a13 : b13 = true := hall 13 (by decide)
      have a14 : b14 = true := hall 14 (by decide)
      have a15 : b15 = true := hall 15 (by decide)
      have a16 : b16 = true := hall 16 (by decide)
      have a17 : b17 = true := hall 17 (by decide)
      have a18 : b18 = true := hall 18 (by decide)
      have a19 : b19 = true := hall 19 (by decide)
      have a20 : b20 = true := hall 20 (by decide)
      have a21 : b21 = true := hall 21 (by decide)
      subst a0 a1 a2 a3 a4 a5 a6 a7 a8 a9 a10 a11 a12 a13 a14 a15 a16 a17 a18 a19 a20 a21
      clear k0 k1 k2 k3 k4 k5 k6
      clear hall
      have HB : Blks [(X, .cells #[.int .i64 s, .int .i64 t] 64 (0, 0)), (w.heap.size + 1 + 1, .cells #[cond true V1 (.slice Av k cv)] 45 (0, 0)), (w.heap.size + 1, .cells #[.slice (some ad1) on.length c1] 43 (0, 0)), (w.heap.size, .cells #[.slice (some ad0) pts.length c0] 42 (0, 0))] W' := hHB
      have HS1 : Kd.S (Kd.slice 52 k52) 42 W' w.heap.size (fun b => (own b ∧ b ≠ w.heap.size + 1 + 1) ∨ Va.heap.size ≤ b) V1 (rows ++ [rw_]) := hHS1 rfl
      have HC : Chg own Va W' := hHC
      clear hHB hHS0 hHS1 hHR hHQ hHX hHC hHN
      have HF := Lib.hid (And.intro HB (And.intro HS1 HC))
      clear HB HS1 HC
      gi_wp2
      obtain ⟨HB, HS1, HC⟩ := HF.out
      have hsz := HC.size
      refine ⟨fun b => own b ∨ (Va.heap.size ≤ b ∧ b < W'.heap.size), ⟨fun b h => .inl h, fun b h => h.elim .inl (fun h => .inr h.1)⟩, fun b hb => hb.elim (fun h => by have := how b h; omega) (fun h => h.2), HC, .inl h1, fun b hb => hb.elim (h2 b) (fun h => .inr (by omega)), ⟨V1, HB.tail, ?_⟩, h5.trans (HC.below (B := w.heap.size) h5.size (fun i hi h => by have := h2 i h; omega)), by omega⟩
      rw [HH.out.1]
      exact Kd.S_mono (Kd.S_bound HS1) (fun b hb => by
        rcases hb.1 with h | h
        · exact ⟨.inl h.1, h.2⟩
        · exact ⟨.inr ⟨h, hb.2.2.1⟩, by omega⟩)
  · rintro D own Va hD how hnD ⟨h1, h2, ⟨v, h3, h4⟩, h5, h6⟩ hdef
    obtain ⟨Av, cv, rfl⟩ := Kd.S_slice h4
    have g0 := h3.cell 0 rfl 0
    simp at g0
    have HH := Lib.hid (And.intro h4 (And.intro h5 h6))
    clear h3 h4 h5
    gi_wp2
    obtain ⟨h4, h5, _⟩ := HH.out
    refine leaves_collected hdef fun V2 hc => ?_
    have hS10 := S_chg h4 hc (fun k hk e => hnD (by subst e; exact hk.1))
    have hW10 := h5.trans (hc.below (B := w.heap.size) h5.size (fun i hi e => by omega))
    exact ⟨.slice Av (linesK pts on es (cutsL es pts.length).length).length cv, by simp [results, Try.f32, go_sem], _, rfl, Kd.S_mono hS10 (fun _ _ => trivial), hW10⟩
  · rintro D c k own V1 _ _ _ _ h
    exact h.elim

def outline_Lines.f (l0 : List S52) (l1 : List Bool) (l2 : List Int) : Option (List (List S52)) :=
  if l1.length = l0.length then (if l0.length ≤ 1000000 ∧ l2.length ≤ 1000000 then some (linesK l0 l1 l2 (cutsL l2 l0.length).length) else none) else some []
set_option maxRecDepth 100000 in
theorem outline_Lines.calls (A0 : Option Addr) (c0 : Nat) (l0 : List (S52)) (A1 : Option Addr) (c1 : Nat) (l1 : List Bool) (A2 : Option Addr) (c2 : Nat) (l2 : List Int) (r : List (List (S52))) (w : World) (hr0 : Kd.C k52 w A0 l0.length l0) (hc0 : l0.length ≤ c0) (hr1 : Kd.C Kd.bool w A1 l1.length l1) (hc1 : l1.length ≤ c1) (hr2 : Kd.C (Kd.int .i64) w A2 l2.length l2) (hc2 : l2.length ≤ c2) (h : outline_Lines.f l0 l1 l2 = some r) :
    Calls Try.prog 32 #[.slice A0 l0.length c0, .slice A1 l1.length c1, .slice A2 l2.length c2] w fun e w' => ∃ v0_ : Value, e = .returned (v0_) ∧ Kd.S (Kd.slice 52 k52) 42 w' w.heap.size (fun _ => True) v0_ r ∧ Below w.heap.size w w' := by
  unfold outline_Lines.f at h
  by_cases he : l1.length = l0.length
  · rw [if_pos he] at h
    split at h
    · rename_i hl
      simp only [Option.some.injEq] at h
      subst h
      exact lines_calls A0 A1 A2 c0 c1 c2 l0 l1 l2 w hr0 hc0 hr1 hc1 hr2 hc2 hl.1 hl.2 he
    · cases h
  · rw [if_neg he] at h
    simp only [Option.some.injEq] at h
    subst h
    have hne : (((l1.length : Nat) : Int) != ((l0.length : Nat) : Int)) = true := by simp; omega
    have HE := Lib.hid he
    clear he
    go_enter Try.func32, Try.ntmps32
    go_wp2
    go_ret
    exact ⟨_, rfl, Kd.S_nil _ _ _ _ _, ((Below.refl _ w).alloc (Nat.le_refl _) _).alloc (by simp) _⟩

end Go.Proofs.Ytbmklpcheopgoaa.H
