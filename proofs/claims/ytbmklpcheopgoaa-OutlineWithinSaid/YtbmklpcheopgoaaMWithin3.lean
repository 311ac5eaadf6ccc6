/- Texts of this session, one behind the other, for the statement OutlineWithin: what its functions compute, plain facts, and (last) its row. No condition besides those stated. -/
import Derived.Test.YtbmklpcheopgoaaMWithin1
import Derived.Test.YtbmklpcheopgoaaMWithin2
import Derived.WalkKit
import Derived.Lib.Hide
import Derived.WalkSpells
set_option linter.unusedVariables false
set_option linter.unusedSimpArgs false
namespace Go.Proofs.Ytbmklpcheopgoaa.H
open Go.RowKit Go.Proofs.YtbmklpcheopgoaaW.PrintWords Go.Proofs.YtbmklpcheopgoaaW.PrintLast Go.Proofs.YtbmklpcheopgoaaW.PrintMore
attribute [local go_sem] max2_int min2_int max_two min_two max_three min_three max_four min_four   -- for this text's walks alone
set_option linter.unusedVariables false
set_option linter.unusedSimpArgs false

/-! ### outline_Lines: function 32 -/
open Go.Proofs.YtbmklpcheopgoaaOps Go.Proofs.YtbmklpcheopgoaaIt Go.Proofs.YtbmklpcheopgoaaBlks Go.Proofs.YtbmklpcheopgoaaFlat Go.Proofs.YtbmklpcheopgoaaCallOps Go.Shelf
attribute [local go_sem] Oper.semAt_some wide_depth wide_fn World.cell?_alloc_some
theorem lines_info : (Try.prog.info? 42).map (fun i => (i.zero, i.size, i.bytes)) = some (some (.slice none 0 0), Kd.sz (Kd.slice 52 k52), 24) := by kernel_rfl
theorem lines_cuts_len (es : List Int) (n : Int) : ∀ b, (cutsF b es n).length ≤ es.length := by
 induction es with
 | nil => intro b; simp [cutsF]
 | cons e es ih =>
  intro b
  unfold cutsF
  split
  ·
   simp
  ·
   simp [ih (e + 1)]
theorem ringStep_ge (pts : List S52) (on : List Bool) (st : List S101 × Int) (i : Nat) : st.1.length + 1 ≤ (ringStep pts on st i).1.length := by
 unfold ringStep
 dsimp only
 split <;> simp
theorem ringSt_ge (pts : List S52) (on : List Bool) (k : Nat) : k ≤ (ringSt pts on k).1.length := by
 induction k with
 | zero => omega
 | succ k ih => rw [ringSt_succ]; have := ringStep_ge pts on (ringSt pts on k) k; omega
theorem ringFin_len (pts : List S52) (on : List Bool) (k : Nat) : (ringFin (ringSt pts on k)).length = (ringSt pts on k).1.length := by
 have := ringSt_at pts on k
 unfold ringFin
 rw [List.length_append, List.length_drop, List.length_take]
 omega
/-- The lines of the contour from place s up to t. -/
def contourLines (pts : List S52) (on : List Bool) (s t : Nat) : List S52 := rowL (ringFin (ringSt ((pts.drop s).take (t - s)) ((on.drop s).take (t - s)) (t - s)))
def linesK (pts : List S52) (on : List Bool) (es : List Int) (k : Nat) : List (List S52) := ((cutsL es pts.length).take k).map fun c => contourLines pts on c.1.toNat c.2.toNat
theorem linesK_len (pts : List S52) (on : List Bool) (es : List Int) (k : Nat) (h : k ≤ (cutsL es pts.length).length) : (linesK pts on es k).length = k := by simp [linesK, h]
structure LinesReg6 where
 mk ::
 b0 : Bool
 b1 : Bool
 b2 : Bool
 b3 : Bool
 b4 : Bool
 b5 : Bool
 b6 : Bool
 b7 : Bool
 b8 : Bool
 b9 : Bool
 b10 : Bool
 b11 : Bool
 b12 : Bool
 b13 : Bool
 b14 : Bool
 b15 : Bool
 b16 : Bool
 b17 : Bool
 b18 : Bool
 b19 : Bool
 b20 : Bool
 b21 : Bool
 VR : Value
 VQ : Value
 gH : Nat
 V1 : Value
set_option maxRecDepth 100000 in
set_option maxHeartbeats 4000000 in
theorem lines_calls (A0 A1 A2 : Option Addr) (c0 c1 c2 : Nat) (pts : List S52) (on : List Bool) (es : List Int) (w : World) (hp : Kd.C k52 w A0 pts.length pts) (hc0 : pts.length ≤ c0) (ho : Kd.C Kd.bool w A1 on.length on) (hc1 : on.length ≤ c1) (hes : (Kd.int .i64).C w A2 es.length es) (hc2 : es.length ≤ c2) (hlim : pts.length ≤ 1000000) (hlime : es.length ≤ 1000000) (hon : on.length = pts.length) :
  Calls Try.prog 32 #[.slice A0 pts.length c0, .slice A1 on.length c1, .slice A2 es.length c2] w fun e w' => ∃ v0 : Value, e = .returned v0 ∧ Kd.S (Kd.slice 52 k52) 42 w' w.heap.size (fun _ => True) v0 (linesK pts on es (cutsL es pts.length).length) ∧ Below w.heap.size w w' := by
 have hne : (((on.length : Nat) : Int) != ((pts.length : Nat) : Int)) = false := by simp [hon]
 refine (callsIn_wide (n := 0)).1 (callsIn_of_wp_marks Try.func32 rfl trivial ?_ rfl)
 simp only [Try.ntmps32, List.size_toArray, List.length_cons, List.length_nil, Nat.reduceAdd, Nat.reduceSub, Array.replicate_succ, Array.replicate_zero, List.push_toArray, List.append_toArray, List.nil_append, List.cons_append]
 have HON := Lib.hid hon
 clear hon
 gi_wp2
 refine CallsIn.mono (cuts_calls 0 _ _ _ _ _) ?_
 rintro e w' ⟨rfl, rfl⟩
 gi_wp2
 generalize hV : World.alloc (World.alloc (World.alloc (World.alloc (World.alloc w _) _) _) _) _ = V
 have hVs : V.heap.size = w.heap.size + 1 + 1 + 1 + 1 + 1 := by rw [← hV]; simp
 have hbw : Below w.heap.size w V := by rw [← hV]; exact (((((Below.refl _ w).alloc (Nat.le_refl _) _).alloc (by simp) _).alloc (by simp; omega) _).alloc (by simp; omega) _).alloc (by simp; omega) _
 have hB : Blks [(w.heap.size + 1 + 1 + 1 + 1, .cells #[.int .i64 pts.length] 3 (0, 0)), (w.heap.size + 1 + 1 + 1, .cells #[.slice A2 es.length c2] 23 (0, 0)), (w.heap.size + 1 + 1, .cells #[.slice none 0 0] 45 (0, 0)), (w.heap.size + 1, .cells #[.slice A1 on.length c1] 43 (0, 0)), (w.heap.size, .cells #[.slice A0 pts.length c0] 42 (0, 0))] V := by
  rw [← hV]; exact (((((Blks.nil w).alloc _).alloc_at _ (by simp)).alloc_at _ (by simp)).alloc_at _ (by simp)).alloc_at _ (by simp)
 clear hV
 have hit := cuts_it V A2 c2 es pts.length (by omega) (w.heap.size + 1 + 1 + 1) (w.heap.size + 1 + 1 + 1 + 1) (hB.cell 1 rfl 0) (hB.cell 0 rfl 0) (Kd.C_below hes hbw)
 refine range_outer hit (by rfl) (fun args w => by simp [go_sem])
  (fun k own V' => own (w.heap.size + 1 + 1) ∧ (∀ b, own b → b = w.heap.size + 1 + 1 ∨ V.heap.size ≤ b) ∧ (∃ v, Blks [(w.heap.size + 1 + 1, .cells #[v] 45 (0, 0)), (w.heap.size + 1, .cells #[.slice A1 on.length c1] 43 (0, 0)), (w.heap.size, .cells #[.slice A0 pts.length c0] 42 (0, 0))] V' ∧
    Kd.S (Kd.slice 52 k52) 42 V' w.heap.size (fun b => own b ∧ b ≠ w.heap.size + 1 + 1) v (linesK pts on es k)) ∧ Below w.heap.size w V' ∧ V.heap.size ≤ V'.heap.size)
  (fun c k own V' => False)
  (fun b => b = w.heap.size + 1 + 1) ?_ ?_ ?_ ?_ ?_
  (fun k own a' V' => ∃ (c : Int × Int) (X : Nat), (cutsL es pts.length)[k]? = some c ∧ a' = ⟨#[.slice A0 pts.length c0, .slice A1 on.length c1, .slice A2 es.length c2, .pointer (some ⟨w.heap.size, 0, none⟩), .pointer (some ⟨w.heap.size + 1, 0, none⟩), undef, .slice none 0 0, .pointer (some ⟨w.heap.size + 1 + 1, 0, none⟩), undef, .pointer (some ⟨X, 0, none⟩), .slice A1 on.length c1, .int .i64 on.length, .slice A0 pts.length c0, .int .i64 pts.length, .bool false, .slice A2 es.length c2, .slice A0 pts.length c0, .int .i64 pts.length, .func (.func 55) #[] #[.pointer (some ⟨w.heap.size + 1 + 1 + 1, 0, none⟩), .pointer (some ⟨w.heap.size + 1 + 1 + 1 + 1, 0, none⟩)], .int .i64 k, .agg #[.int .i64 c.1, .int .i64 c.2], undef, undef, undef, undef, undef, undef, undef, undef, undef, undef, undef, undef, undef, undef, undef, undef, undef, undef, undef, undef, undef, undef], []⟩ ∧ V.heap.size ≤ X ∧ Blks [(X, .cells #[.int .i64 c.1, .int .i64 c.2] 64 (0, 0))] V') ?_ ?_ ?_ ?_ ?_
 ·
  rintro k own Va Vb ⟨h1, h2, ⟨v, h3, h4⟩, h5, h6⟩ hc
  refine ⟨h1, h2, ⟨v, h3.chg hc ?_, S_chg h4 hc (fun k hk hs => hs.2 hk.1)⟩, h5.trans (hc.below (Nat.le_trans (by omega) h5.size) (fun i hi h => by omega)), Nat.le_trans h6 hc.size⟩
  intro b hb hs
  simp at hb
  omega
 ·
  rintro c k own V1 V2 h hc
  exact h
 ·
  rintro k W args ⟨c, _, rfl⟩
  rfl
 ·
  rintro b rfl
  refine ⟨by omega, fun hr => ?_⟩
  rcases hr with ⟨h0, ad, rfl, hr⟩ | hr | hr
  ·
   obtain ⟨ad', e, hx⟩ := Kd.at_int hes 0 (by omega) (by omega)
   cases e
   have := World.block_lt_of_cell? w _ hx
   rw [add_block] at this
   omega
  ·
   omega
  ·
   omega
 ·
  exact ⟨rfl, fun b hb => .inl hb, ⟨_, (hB.tail).tail, Kd.S_nil _ _ _ _ _⟩, hbw, Nat.le_refl _⟩
 ·
  rintro lc k own a' Va o o' hlc ⟨c, X, q1, q2, q3, q4⟩ ho hcells
  exact ⟨c, X, q1, q2, q3, q4.put_ (by simp [Obj.isCells]) ho hcells⟩
 ·
  rintro lc n k own args Va hlc ⟨h1, h2, ⟨v, h3, h4⟩, h5, h6⟩ how hlt hno hk ⟨c, hkc, rfl⟩ _
  generalize hQ : Exit.then _ _ = Q0
  gi_wp2
  subst hQ
  show ∃ own', _
  exact ⟨own, GrowG.refl _ _ _, fun b hb => Nat.lt_of_lt_of_le (how b hb) (by simp), (Chg.refl _ _).alloc _, ⟨h1, h2, ⟨v, (h3.alloc _).tail, S_chg h4 ((Chg.refl (fun _ => False) _).alloc _) (fun _ _ => id)⟩, h5.alloc h5.size _, by simp; omega⟩, c, Va.heap.size, hkc, rfl, h6, (Blks.nil _).alloc _⟩
 ·
  rintro lc n k own a' Va hlc ⟨h1, h2, ⟨v, h3, h4⟩, h5, h6⟩ how ⟨rl, hrl⟩ hno hk ⟨c, X, hkc, rfl, hX, hBX⟩
  obtain ⟨m1, m2, m3⟩ := cutsF_mem es pts.length 0 k c hkc
  have hnext : linesK pts on es (k + 1) = linesK pts on es k ++ [contourLines pts on c.1.toNat c.2.toNat] := by simp [linesK, List.take_add_one, hkc]
  obtain ⟨s, hs⟩ : ∃ s : Nat, c.1 = s := ⟨c.1.toNat, by omega⟩
  obtain ⟨t, ht⟩ : ∃ t : Nat, c.2 = t := ⟨c.2.toNat, by omega⟩
  have hlk := linesK_len pts on es k (by omega)
  obtain ⟨Av, cv, rfl⟩ := Kd.S_slice h4
  rw [hlk] at h3 h4
  rw [hs, ht] at hBX hnext m2
  rw [ht] at m3
  rw [hs, ht]
  simp only [Int.toNat_natCast] at hnext
  have hst : s < t := by omega
  have htn : t ≤ pts.length := by omega
  have hton : t ≤ on.length := by rw [HON.out]; exact htn
  clear hs ht m1 m2 m3 hkc
  obtain ⟨ad0, rfl⟩ : ∃ ad, A0 = some ad := by obtain ⟨ad, h, _⟩ := hp.2.2 (by omega); exact ⟨ad, h⟩
  obtain ⟨ad1, rfl⟩ : ∃ ad, A1 = some ad := by obtain ⟨ad, h, _⟩ := ho.2.2 (by omega); exact ⟨ad, h⟩
  obtain ⟨ps, hps0⟩ : ∃ ps, (pts.drop s).take (t - s) = ps := ⟨_, rfl⟩
  obtain ⟨os, hos0⟩ : ∃ os, (on.drop s).take (t - s) = os := ⟨_, rfl⟩
  have hpl : ps.length = t - s := by rw [← hps0, List.length_take, List.length_drop]; omega
  have hol : os.length = t - s := by rw [← hos0, List.length_take, List.length_drop]; omega
  have hps : Kd.C k52 w (some (ad0.add (s * 2))) (t - s) ps := by
   have hA := Kd.C_drop (c := c0) hp (show s ≤ pts.length by omega) hc0
   rw [if_neg (by omega)] at hA
   have := Kd.C_take hA (show t - s ≤ (pts.drop s).length by rw [List.length_drop]; omega)
   rw [hps0, hpl] at this
   exact this
  have hos : Kd.C Kd.bool w (some (ad1.add s)) (t - s) os := by
   have hA := Kd.C_drop (c := c1) ho (show s ≤ on.length by omega) hc1
   rw [if_neg (by omega)] at hA
   have := Kd.C_take hA (show t - s ≤ (on.drop s).length by rw [List.length_drop]; omega)
   rw [hos0, hol] at this
   have e1 : s * Kd.bool.sz = s := Nat.mul_one s
   rw [e1] at this
   exact this
  obtain ⟨rg, hrg⟩ : ∃ rg, ringFin (ringSt ps os (t - s)) = rg := ⟨_, rfl⟩
  have hrgl : rg.length = (ringSt ps os (t - s)).1.length := by rw [← hrg]; exact ringFin_len _ _ _
  have hrg1 := ringSt_ge ps os (t - s)
  have hrg2 := ringSt_len ps os (t - s)
  have hrpos : 0 < rg.length := by omega
  have hrlim : rg.length ≤ 3000000 := by omega
  obtain ⟨rw_, hrw⟩ : ∃ r, rowL rg = r := ⟨_, rfl⟩
  have hcl : contourLines pts on s t = rw_ := by unfold contourLines; rw [hps0, hos0, hrg, hrw]
  rw [hcl] at hnext
  obtain ⟨rows, hrows⟩ : ∃ rows, linesK pts on es k = rows := ⟨_, rfl⟩
  rw [hrows] at h4 hlk hnext
  have hklen : rows.length ≤ 1000000 := by have := lines_cuts_len es pts.length 0; unfold cutsL at hk; omega
  have hrowsown : ∀ b, (Value.slice Av k cv).ownBlock = some b → own b ∧ b ≠ w.heap.size + 1 + 1 := fun b e => by
   obtain ⟨_, hr⟩ := h4
   exact hr.1 b e
  have hus := Try.underlying42
  have hub := Try.underlying43
  have hu64 := Try.underlying64
  have hse : s ≤ t := by omega
  have hec : t ≤ c0 := by omega
  have hec1 : t ≤ c1 := by omega
  have hsc : ¬ (t = s) := by omega
  have hsc2 : ¬ (t - s = 0) := by omega
  have hB4 : Blks [(X, .cells #[.int .i64 s, .int .i64 t] 64 (0, 0)), (w.heap.size + 1 + 1, .cells #[.slice Av k cv] 45 (0, 0)), (w.heap.size + 1, .cells #[.slice (some ad1) on.length c1] 43 (0, 0)), (w.heap.size, .cells #[.slice (some ad0) pts.length c0] 42 (0, 0))] Va := h3.add (hBX.blk 0 rfl) (by simp; omega)
  have hapart : ∀ b, b ∈ ([X, w.heap.size + 1 + 1, w.heap.size + 1, w.heap.size] : List Nat) → (Value.slice Av k cv).ownBlock = some b → False := by
   intro b hb e
   obtain ⟨q1, q2⟩ := hrowsown b e
   rcases h2 b q1 with h | h
   ·
    exact q2 h
   ·
    have hbX : b = X := by simp at hb; omega
    subst hbX
    obtain ⟨cs, h8⟩ := Kd.S_typed h4 b e
    rw [hBX.blk 0 rfl] at h8
    injection h8 with h8
    injection h8 with _ h8
    cases h8
  have HH := Lib.hid (And.intro hnext hrows)
  clear hnext hrows hps0 hos0 hcl hrgl hrg1 h3 hBX
  have HB := hB4
  have HS := h4
  clear hB4 h4 hlk
  gi_wp2
  refine Go.Proofs.YtbmklpcheopgoaaReg.regIn_inv (by rfl) [0, 1, 2, 3, 4, 5, 6, 7, 8, 9, 10, 11, 12, 13, 14, 15, 16, 17, 18, 19, 20, 21] (by kernel_rfl) (by kernel_rfl)
   (fun lst a W' => ∃ d : LinesReg6, lst = #[d.b0, d.b1, d.b2, d.b3, d.b4, d.b5, d.b6, d.b7, d.b8, d.b9, d.b10, d.b11, d.b12, d.b13, d.b14, d.b15, d.b16, d.b17, d.b18, d.b19, d.b20, d.b21] ∧ a = ⟨#[.slice (some ad0) pts.length c0, .slice (some ad1) on.length c1, .slice A2 es.length c2, .pointer (some ⟨w.heap.size, 0, none⟩), .pointer (some ⟨w.heap.size + 1, 0, none⟩), undef, .slice none 0 0, .pointer (some ⟨w.heap.size + 1 + 1, 0, none⟩), undef, .pointer (some ⟨X, 0, none⟩), .slice (some ad1) on.length c1, .int .i64 on.length, .slice (some ad0) pts.length c0, .int .i64 pts.length, .bool false, .slice A2 es.length c2, .slice (some ad0) pts.length c0, .int .i64 pts.length, .func (.func 55) #[] #[.pointer (some ⟨w.heap.size + 1 + 1 + 1, 0, none⟩), .pointer (some ⟨w.heap.size + 1 + 1 + 1 + 1, 0, none⟩)], .int .i64 k, .agg #[.int .i64 s, .int .i64 t], (cond d.b0 (.slice Av k cv) undef), (cond d.b1 (.slice (some ad0) pts.length c0) undef), (cond d.b2 (.pointer (some ⟨X, 0, none⟩)) undef), (cond d.b3 (.int .i64 s) undef), (cond d.b4 (.pointer (some ⟨X, 1, none⟩)) undef), (cond d.b5 (.int .i64 t) undef), (cond d.b6 (.pointer (some ⟨X, 1, none⟩)) undef), (cond d.b7 (.int .i64 t) undef), (cond d.b8 (.slice (some (ad0.add (s * 2))) (t - s) (t - s)) undef), (cond d.b9 (.slice (some ad1) on.length c1) undef), (cond d.b10 (.pointer (some ⟨X, 0, none⟩)) undef), (cond d.b11 (.int .i64 s) undef), (cond d.b12 (.pointer (some ⟨X, 1, none⟩)) undef), (cond d.b13 (.int .i64 t) undef), (cond d.b14 (.pointer (some ⟨X, 1, none⟩)) undef), (cond d.b15 (.int .i64 t) undef), (cond d.b16 (.slice (some (ad1.add s)) (t - s) (t - s)) undef), (cond d.b17 d.VR undef), (cond d.b18 d.VQ undef), (cond d.b19 (.slice (some ⟨d.gH, 0, none⟩) 1 1) undef), (cond d.b20 d.V1 undef), undef], []⟩ ∧ (d.b18 = true → d.b17 = true) ∧ (d.b19 = true → d.b18 = true) ∧ (d.b20 = true → d.b17 = true) ∧ (d.b20 = true → d.b18 = true) ∧ (d.b20 = true → d.b19 = true) ∧ (d.b21 = true → d.b0 = true) ∧ (d.b21 = true → d.b20 = true) ∧ (Blks [(X, .cells #[.int .i64 s, .int .i64 t] 64 (0, 0)), (w.heap.size + 1 + 1, .cells #[cond d.b21 d.V1 (.slice Av k cv)] 45 (0, 0)), (w.heap.size + 1, .cells #[.slice (some ad1) on.length c1] 43 (0, 0)), (w.heap.size, .cells #[.slice (some ad0) pts.length c0] 42 (0, 0))] W') ∧ (d.b20 = false → Kd.S (Kd.slice 52 k52) 42 W' w.heap.size (fun b => own b ∧ b ≠ w.heap.size + 1 + 1) (.slice Av k cv) rows) ∧ (d.b20 = true → Kd.S (Kd.slice 52 k52) 42 W' w.heap.size (fun b => (own b ∧ b ≠ w.heap.size + 1 + 1) ∨ Va.heap.size ≤ b) d.V1 (rows ++ [rw_])) ∧ (d.b17 = true → d.b20 = false → ∃ A c, d.VR = .slice A rg.length c ∧ rg.length ≤ c ∧ Kd.C k101 W' A rg.length rg) ∧ (d.b18 = true → d.b20 = false → Kd.R k52 52 W' Va.heap.size (Own1 d.VQ) d.VQ rw_) ∧ (d.b19 = true → d.b20 = false → W'.heap[d.gH]? = some (.cells #[d.VQ] 42 (0, 0))) ∧ (Chg own Va W') ∧ (d.b20 = true → ∃ n : Option Addr × Nat × Nat, d.V1 = .slice n.1 n.2.1 n.2.2)) ?_ ?_ ?_ ?_
  ·
   rintro lst a W' ⟨d, rfl, _⟩
   rfl
  ·
   exact ⟨⟨false, false, false, false, false, false, false, false, false, false, false, false, false, false, false, false, false, false, false, false, false, false, undef, undef, 0, undef⟩, rfl, rfl, (fun h => Bool.noConfusion h), (fun h => Bool.noConfusion h), (fun h => Bool.noConfusion h), (fun h => Bool.noConfusion h), (fun h => Bool.noConfusion h), (fun h => Bool.noConfusion h), (fun h => Bool.noConfusion h), HB.drew, (fun _ => S_chg HS ((Chg.refl (fun _ => False) _).drew) (fun _ _ => id)), (fun h => Bool.noConfusion h), (fun h => Bool.noConfusion h), (fun h => Bool.noConfusion h), (fun h => Bool.noConfusion h), ((Chg.refl own Va).drew), (fun h => Bool.noConfusion h)⟩
  ·
   rintro lst a W' i o ⟨⟨b0, b1, b2, b3, b4, b5, b6, b7, b8, b9, b10, b11, b12, b13, b14, b15, b16, b17, b18, b19, b20, b21, VR, VQ, gH, V1⟩, rfl, rfl, k0, k1, k2, k3, k4, k5, k6, hHB, hHS0, hHS1, hHR, hHQ, hHX, hHC, hHN⟩ ho hf hd K hK
   dsimp only at k0 k1 k2 k3 k4 k5 k6 hHB hHS0 hHS1 hHR hHQ hHX hHC hHN
   have hi : i < 22 := (Array.getElem?_eq_some_iff.1 ho).1
   have ho2 := ho
   rcases (show i = 0 ∨ i = 1 ∨ i = 2 ∨ i = 3 ∨ i = 4 ∨ i = 5 ∨ i = 6 ∨ i = 7 ∨ i = 8 ∨ i = 9 ∨ i = 10 ∨ i = 11 ∨ i = 12 ∨ i = 13 ∨ i = 14 ∨ i = 15 ∨ i = 16 ∨ i = 17 ∨ i = 18 ∨ i = 19 ∨ i = 20 ∨ i = 21 by omega) with rfl | rfl | rfl | rfl | rfl | rfl | rfl | rfl | rfl | rfl | rfl | rfl | rfl | rfl | rfl | rfl | rfl | rfl | rfl | rfl | rfl | rfl
   ·
    simp only [List.getElem?_toArray, List.getElem?_cons_succ, List.getElem?_cons_zero, Option.some.injEq] at ho
    subst ho
    replace hf : b0 = false := hf
    have n21 : b21 = false := Bool.eq_false_iff.mpr (fun h => absurd (k5 h) (by rw [hf]; decide))
    subst n21
    subst hf
    refine Go.Proofs.YtbmklpcheopgoaaReg.opIn_val ho2 rfl (fun _ => trivial) (fun c h => by cases h) (v := .slice Av k cv) (w1 := W') ?_ (hK _ _ ⟨⟨true, b1, b2, b3, b4, b5, b6, b7, b8, b9, b10, b11, b12, b13, b14, b15, b16, b17, b18, b19, b20, false, VR, VQ, gH, V1⟩, rfl, rfl, (k0), (k1), (k2), (k3), (k4), (fun _ => rfl), (fun h => Bool.noConfusion h), hHB, hHS0, hHS1, hHR, hHQ, hHX, hHC, hHN⟩)
    simp [go_sem, Blks.cell hHB 1 rfl 0]
   ·
    simp only [List.getElem?_toArray, List.getElem?_cons_succ, List.getElem?_cons_zero, Option.some.injEq] at ho
    subst ho
    replace hf : b1 = false := hf
    subst hf
    refine Go.Proofs.YtbmklpcheopgoaaReg.opIn_val ho2 rfl (fun _ => trivial) (fun c h => by cases h) (v := .slice (some ad0) pts.length c0) (w1 := W') ?_ (hK _ _ ⟨⟨b0, true, b2, b3, b4, b5, b6, b7, b8, b9, b10, b11, b12, b13, b14, b15, b16, b17, b18, b19, b20, b21, VR, VQ, gH, V1⟩, rfl, rfl, (k0), (k1), (k2), (k3), (k4), (k5), (k6), hHB, hHS0, hHS1, hHR, hHQ, hHX, hHC, hHN⟩)
    simp [go_sem, Blks.cell hHB 3 rfl 0]
   ·
    simp only [List.getElem?_toArray, List.getElem?_cons_succ, List.getElem?_cons_zero, Option.some.injEq] at ho
    subst ho
    replace hf : b2 = false := hf
    subst hf
    refine Go.Proofs.YtbmklpcheopgoaaReg.opIn_val ho2 rfl (fun _ => trivial) (fun c h => by cases h) (v := .pointer (some ⟨X, 0, none⟩)) (w1 := W') ?_ (hK _ _ ⟨⟨b0, b1, true, b3, b4, b5, b6, b7, b8, b9, b10, b11, b12, b13, b14, b15, b16, b17, b18, b19, b20, b21, VR, VQ, gH, V1⟩, rfl, rfl, (k0), (k1), (k2), (k3), (k4), (k5), (k6), hHB, hHS0, hHS1, hHR, hHQ, hHX, hHC, hHN⟩)
    simp [go_sem, hu64]
   ·
    simp only [List.getElem?_toArray, List.getElem?_cons_succ, List.getElem?_cons_zero, Option.some.injEq] at ho
    subst ho
    replace hf : b3 = false := hf
    have d2 : b2 = true := hd ⟨2, .data⟩ (by simp) rfl
    subst d2
    subst hf
    refine Go.Proofs.YtbmklpcheopgoaaReg.opIn_val ho2 rfl (fun _ => trivial) (fun c h => by cases h) (v := .int .i64 s) (w1 := W') ?_ (hK _ _ ⟨⟨b0, b1, true, true, b4, b5, b6, b7, b8, b9, b10, b11, b12, b13, b14, b15, b16, b17, b18, b19, b20, b21, VR, VQ, gH, V1⟩, rfl, rfl, (k0), (k1), (k2), (k3), (k4), (k5), (k6), hHB, hHS0, hHS1, hHR, hHQ, hHX, hHC, hHN⟩)
    simp [go_sem, Blks.cell hHB 0 rfl 0]
   ·
    simp only [List.getElem?_toArray, List.getElem?_cons_succ, List.getElem?_cons_zero, Option.some.injEq] at ho
    subst ho
    replace hf : b4 = false := hf
    subst hf
    refine Go.Proofs.YtbmklpcheopgoaaReg.opIn_val ho2 rfl (fun _ => trivial) (fun c h => by cases h) (v := .pointer (some ⟨X, 1, none⟩)) (w1 := W') ?_ (hK _ _ ⟨⟨b0, b1, b2, b3, true, b5, b6, b7, b8, b9, b10, b11, b12, b13, b14, b15, b16, b17, b18, b19, b20, b21, VR, VQ, gH, V1⟩, rfl, rfl, (k0), (k1), (k2), (k3), (k4), (k5), (k6), hHB, hHS0, hHS1, hHR, hHQ, hHX, hHC, hHN⟩)
    simp [go_sem, hu64]
   ·
    simp only [List.getElem?_toArray, List.getElem?_cons_succ, List.getElem?_cons_zero, Option.some.injEq] at ho
    subst ho
    replace hf : b5 = false := hf
    have d4 : b4 = true := hd ⟨4, .data⟩ (by simp) rfl
    subst d4
    subst hf
    refine Go.Proofs.YtbmklpcheopgoaaReg.opIn_val ho2 rfl (fun _ => trivial) (fun c h => by cases h) (v := .int .i64 t) (w1 := W') ?_ (hK _ _ ⟨⟨b0, b1, b2, b3, true, true, b6, b7, b8, b9, b10, b11, b12, b13, b14, b15, b16, b17, b18, b19, b20, b21, VR, VQ, gH, V1⟩, rfl, rfl, (k0), (k1), (k2), (k3), (k4), (k5), (k6), hHB, hHS0, hHS1, hHR, hHQ, hHX, hHC, hHN⟩)
    simp [go_sem, Blks.cell hHB 0 rfl 1]
   ·
    simp only [List.getElem?_toArray, List.getElem?_cons_succ, List.getElem?_cons_zero, Option.some.injEq] at ho
    subst ho
    replace hf : b6 = false := hf
    subst hf
    refine Go.Proofs.YtbmklpcheopgoaaReg.opIn_val ho2 rfl (fun _ => trivial) (fun c h => by cases h) (v := .pointer (some ⟨X, 1, none⟩)) (w1 := W') ?_ (hK _ _ ⟨⟨b0, b1, b2, b3, b4, b5, true, b7, b8, b9, b10, b11, b12, b13, b14, b15, b16, b17, b18, b19, b20, b21, VR, VQ, gH, V1⟩, rfl, rfl, (k0), (k1), (k2), (k3), (k4), (k5), (k6), hHB, hHS0, hHS1, hHR, hHQ, hHX, hHC, hHN⟩)
    simp [go_sem, hu64]
   ·
    simp only [List.getElem?_toArray, List.getElem?_cons_succ, List.getElem?_cons_zero, Option.some.injEq] at ho
    subst ho
    replace hf : b7 = false := hf
    have d6 : b6 = true := hd ⟨6, .data⟩ (by simp) rfl
    subst d6
    subst hf
    refine Go.Proofs.YtbmklpcheopgoaaReg.opIn_val ho2 rfl (fun _ => trivial) (fun c h => by cases h) (v := .int .i64 t) (w1 := W') ?_ (hK _ _ ⟨⟨b0, b1, b2, b3, b4, b5, true, true, b8, b9, b10, b11, b12, b13, b14, b15, b16, b17, b18, b19, b20, b21, VR, VQ, gH, V1⟩, rfl, rfl, (k0), (k1), (k2), (k3), (k4), (k5), (k6), hHB, hHS0, hHS1, hHR, hHQ, hHX, hHC, hHN⟩)
    simp [go_sem, Blks.cell hHB 0 rfl 1]
   ·
    simp only [List.getElem?_toArray, List.getElem?_cons_succ, List.getElem?_cons_zero, Option.some.injEq] at ho
    subst ho
    replace hf : b8 = false := hf
    have d1 : b1 = true := hd ⟨1, .data⟩ (by simp) rfl
    have d3 : b3 = true := hd ⟨3, .data⟩ (by simp) rfl
    have d5 : b5 = true := hd ⟨5, .data⟩ (by simp) rfl
    have d7 : b7 = true := hd ⟨7, .data⟩ (by simp) rfl
    subst d1
    subst d3
    subst d5
    subst d7
    subst hf
    refine Go.Proofs.YtbmklpcheopgoaaReg.opIn_val ho2 rfl (fun _ => trivial) (fun c h => by cases h) (v := .slice (some (ad0.add (s * 2))) (t - s) (t - s)) (w1 := W') ?_ (hK _ _ ⟨⟨b0, true, b2, true, b4, true, b6, true, true, b9, b10, b11, b12, b13, b14, b15, b16, b17, b18, b19, b20, b21, VR, VQ, gH, V1⟩, rfl, rfl, (k0), (k1), (k2), (k3), (k4), (k5), (k6), hHB, hHS0, hHS1, hHR, hHQ, hHX, hHC, hHN⟩)
    simp [go_sem, hus, hse, hec, hsc, hsc2]
   ·
    simp only [List.getElem?_toArray, List.getElem?_cons_succ, List.getElem?_cons_zero, Option.some.injEq] at ho
    subst ho
    replace hf : b9 = false := hf
    subst hf
    refine Go.Proofs.YtbmklpcheopgoaaReg.opIn_val ho2 rfl (fun _ => trivial) (fun c h => by cases h) (v := .slice (some ad1) on.length c1) (w1 := W') ?_ (hK _ _ ⟨⟨b0, b1, b2, b3, b4, b5, b6, b7, b8, true, b10, b11, b12, b13, b14, b15, b16, b17, b18, b19, b20, b21, VR, VQ, gH, V1⟩, rfl, rfl, (k0), (k1), (k2), (k3), (k4), (k5), (k6), hHB, hHS0, hHS1, hHR, hHQ, hHX, hHC, hHN⟩)
    simp [go_sem, Blks.cell hHB 2 rfl 0]
   ·
    simp only [List.getElem?_toArray, List.getElem?_cons_succ, List.getElem?_cons_zero, Option.some.injEq] at ho
    subst ho
    replace hf : b10 = false := hf
    subst hf
    refine Go.Proofs.YtbmklpcheopgoaaReg.opIn_val ho2 rfl (fun _ => trivial) (fun c h => by cases h) (v := .pointer (some ⟨X, 0, none⟩)) (w1 := W') ?_ (hK _ _ ⟨⟨b0, b1, b2, b3, b4, b5, b6, b7, b8, b9, true, b11, b12, b13, b14, b15, b16, b17, b18, b19, b20, b21, VR, VQ, gH, V1⟩, rfl, rfl, (k0), (k1), (k2), (k3), (k4), (k5), (k6), hHB, hHS0, hHS1, hHR, hHQ, hHX, hHC, hHN⟩)
    simp [go_sem, hu64]
   ·
    simp only [List.getElem?_toArray, List.getElem?_cons_succ, List.getElem?_cons_zero, Option.some.injEq] at ho
    subst ho
    replace hf : b11 = false := hf
    have d10 : b10 = true := hd ⟨10, .data⟩ (by simp) rfl
    subst d10
    subst hf
    refine Go.Proofs.YtbmklpcheopgoaaReg.opIn_val ho2 rfl (fun _ => trivial) (fun c h => by cases h) (v := .int .i64 s) (w1 := W') ?_ (hK _ _ ⟨⟨b0, b1, b2, b3, b4, b5, b6, b7, b8, b9, true, true, b12, b13, b14, b15, b16, b17, b18, b19, b20, b21, VR, VQ, gH, V1⟩, rfl, rfl, (k0), (k1), (k2), (k3), (k4), (k5), (k6), hHB, hHS0, hHS1, hHR, hHQ, hHX, hHC, hHN⟩)
    simp [go_sem, Blks.cell hHB 0 rfl 0]
   ·
    simp only [List.getElem?_toArray, List.getElem?_cons_succ, List.getElem?_cons_zero, Option.some.injEq] at ho
    subst ho
    replace hf : b12 = false := hf
    subst hf
    refine Go.Proofs.YtbmklpcheopgoaaReg.opIn_val ho2 rfl (fun _ => trivial) (fun c h => by cases h) (v := .pointer (some ⟨X, 1, none⟩)) (w1 := W') ?_ (hK _ _ ⟨⟨b0, b1, b2, b3, b4, b5, b6, b7, b8, b9, b10, b11, true, b13, b14, b15, b16, b17, b18, b19, b20, b21, VR, VQ, gH, V1⟩, rfl, rfl, (k0), (k1), (k2), (k3), (k4), (k5), (k6), hHB, hHS0, hHS1, hHR, hHQ, hHX, hHC, hHN⟩)
    simp [go_sem, hu64]
   ·
    simp only [List.getElem?_toArray, List.getElem?_cons_succ, List.getElem?_cons_zero, Option.some.injEq] at ho
    subst ho
    replace hf : b13 = false := hf
    have d12 : b12 = true := hd ⟨12, .data⟩ (by simp) rfl
    subst d12
    subst hf
    refine Go.Proofs.YtbmklpcheopgoaaReg.opIn_val ho2 rfl (fun _ => trivial) (fun c h => by cases h) (v := .int .i64 t) (w1 := W') ?_ (hK _ _ ⟨⟨b0, b1, b2, b3, b4, b5, b6, b7, b8, b9, b10, b11, true, true, b14, b15, b16, b17, b18, b19, b20, b21, VR, VQ, gH, V1⟩, rfl, rfl, (k0), (k1), (k2), (k3), (k4), (k5), (k6), hHB, hHS0, hHS1, hHR, hHQ, hHX, hHC, hHN⟩)
    simp [go_sem, Blks.cell hHB 0 rfl 1]
   ·
    simp only [List.getElem?_toArray, List.getElem?_cons_succ, List.getElem?_cons_zero, Option.some.injEq] at ho
    subst ho
    replace hf : b14 = false := hf
    subst hf
    refine Go.Proofs.YtbmklpcheopgoaaReg.opIn_val ho2 rfl (fun _ => trivial) (fun c h => by cases h) (v := .pointer (some ⟨X, 1, none⟩)) (w1 := W') ?_ (hK _ _ ⟨⟨b0, b1, b2, b3, b4, b5, b6, b7, b8, b9, b10, b11, b12, b13, true, b15, b16, b17, b18, b19, b20, b21, VR, VQ, gH, V1⟩, rfl, rfl, (k0), (k1), (k2), (k3), (k4), (k5), (k6), hHB, hHS0, hHS1, hHR, hHQ, hHX, hHC, hHN⟩)
    simp [go_sem, hu64]
   ·
    simp only [List.getElem?_toArray, List.getElem?_cons_succ, List.getElem?_cons_zero, Option.some.injEq] at ho
    subst ho
    replace hf : b15 = false := hf
    have d14 : b14 = true := hd ⟨14, .data⟩ (by simp) rfl
    subst d14
    subst hf
    refine Go.Proofs.YtbmklpcheopgoaaReg.opIn_val ho2 rfl (fun _ => trivial) (fun c h => by cases h) (v := .int .i64 t) (w1 := W') ?_ (hK _ _ ⟨⟨b0, b1, b2, b3, b4, b5, b6, b7, b8, b9, b10, b11, b12, b13, true, true, b16, b17, b18, b19, b20, b21, VR, VQ, gH, V1⟩, rfl, rfl, (k0), (k1), (k2), (k3), (k4), (k5), (k6), hHB, hHS0, hHS1, hHR, hHQ, hHX, hHC, hHN⟩)
    simp [go_sem, Blks.cell hHB 0 rfl 1]
   ·
    simp only [List.getElem?_toArray, List.getElem?_cons_succ, List.getElem?_cons_zero, Option.some.injEq] at ho
    subst ho
    replace hf : b16 = false := hf
    have d9 : b9 = true := hd ⟨9, .data⟩ (by simp) rfl
    have d11 : b11 = true := hd ⟨11, .data⟩ (by simp) rfl
    have d13 : b13 = true := hd ⟨13, .data⟩ (by simp) rfl
    have d15 : b15 = true := hd ⟨15, .data⟩ (by simp) rfl
    subst d9
    subst d11
    subst d13
    subst d15
    subst hf
    refine Go.Proofs.YtbmklpcheopgoaaReg.opIn_val ho2 rfl (fun _ => trivial) (fun c h => by cases h) (v := .slice (some (ad1.add s)) (t - s) (t - s)) (w1 := W') ?_ (hK _ _ ⟨⟨b0, b1, b2, b3, b4, b5, b6, b7, b8, true, b10, true, b12, true, b14, true, true, b17, b18, b19, b20, b21, VR, VQ, gH, V1⟩, rfl, rfl, (k0), (k1), (k2), (k3), (k4), (k5), (k6), hHB, hHS0, hHS1, hHR, hHQ, hHX, hHC, hHN⟩)
    simp [go_sem, hub, hse, hec1, hsc, hsc2]
   ·
    simp only [List.getElem?_toArray, List.getElem?_cons_succ, List.getElem?_cons_zero, Option.some.injEq] at ho
    subst ho
    replace hf : b17 = false := hf
    have d8 : b8 = true := hd ⟨8, .data⟩ (by simp) rfl
    have d16 : b16 = true := hd ⟨16, .data⟩ (by simp) rfl
    subst d8
    subst d16
    have n18 : b18 = false := Bool.eq_false_iff.mpr (fun h => absurd (k0 h) (by rw [hf]; decide))
    have n19 : b19 = false := Bool.eq_false_iff.mpr (fun h => absurd (k1 h) (by rw [n18]; decide))
    have n20 : b20 = false := Bool.eq_false_iff.mpr (fun h => absurd (k2 h) (by rw [hf]; decide))
    have n21 : b21 = false := Bool.eq_false_iff.mpr (fun h => absurd (k6 h) (by rw [n20]; decide))
    subst n18
    subst n19
    subst n20
    subst n21
    subst hf
    refine Go.Proofs.YtbmklpcheopgoaaReg.opIn_wp ho2 rfl (op_callIn Try.func49 (by kernel_rfl) rfl #[.slice (some (ad0.add (s * 2))) (t - s) (t - s), .slice (some (ad1.add s)) (t - s) (t - s)] rfl (by simp only [List.map_toArray, List.map_cons, List.map_nil]; rfl) rfl (fun _ => trivial) ?_)
    have hbW : Below w.heap.size w W' := h5.trans (hHC.below (B := w.heap.size) h5.size (fun i hi h => by have := h2 i h; omega))
    have hcal := ring_calls (some (ad0.add (s * 2))) (t - s) ps (some (ad1.add s)) (t - s) os W' (by rw [hpl]; exact Kd.C_below hps hbW) (by omega) (by rw [hol]; exact Kd.C_below hos hbW) (by omega) (by omega) (by omega)
    rw [hpl, hol, hrg] at hcal
    refine CallsIn.mono (CallsIn.inRound lc (callsIn_wide.2 hcal)) ?_
    rintro e1 w2 ⟨Ar, cr, rfl, q2, q3, hbn⟩
    exact ⟨_, rfl, (hK _ _ ⟨⟨b0, b1, b2, b3, b4, b5, b6, b7, true, b9, b10, b11, b12, b13, b14, b15, true, true, false, false, false, false, (.slice Ar rg.length cr), VQ, gH, V1⟩, rfl, rfl, (fun _ => rfl), (fun h => Bool.noConfusion h), (fun _ => rfl), (fun h => Bool.noConfusion h), (fun h => Bool.noConfusion h), (fun h => Bool.noConfusion h), (fun h => Bool.noConfusion h), (hHB.below hbn), (fun h => S_chg (hHS0 h) (Chg.of_fresh (S := fun _ => False) hbn) (fun _ _ => id)), (fun h => S_chg (hHS1 h) (Chg.of_fresh (S := fun _ => False) hbn) (fun _ _ => id)), (fun _ _ => ⟨Ar, cr, rfl, q2, q3⟩), (fun h h' => R_chg (hHQ h h') (Chg.of_fresh (S := fun _ => False) hbn) (fun _ _ => id)), (fun h h' => (Chg.of_fresh (S := fun _ => False) hbn).heap (hHX h h') id), (hHC.trans (Chg.of_fresh hbn)), hHN⟩)⟩
   ·
    simp only [List.getElem?_toArray, List.getElem?_cons_succ, List.getElem?_cons_zero, Option.some.injEq] at ho
    subst ho
    replace hf : b18 = false := hf
    have d17 : b17 = true := hd ⟨17, .data⟩ (by simp) rfl
    subst d17
    have n19 : b19 = false := Bool.eq_false_iff.mpr (fun h => absurd (k1 h) (by rw [hf]; decide))
    have n20 : b20 = false := Bool.eq_false_iff.mpr (fun h => absurd (k3 h) (by rw [hf]; decide))
    have n21 : b21 = false := Bool.eq_false_iff.mpr (fun h => absurd (k6 h) (by rw [n20]; decide))
    subst n19
    subst n20
    subst n21
    subst hf
    obtain ⟨Ar, cr, rfl, q2, q3⟩ := hHR rfl rfl
    refine Go.Proofs.YtbmklpcheopgoaaReg.opIn_wp ho2 rfl (op_callIn Try.func48 (by kernel_rfl) rfl #[.slice Ar rg.length cr] rfl (by simp only [List.map_toArray, List.map_cons, List.map_nil]; rfl) rfl (fun _ => trivial) ?_)
    have hcal := row_calls Ar cr rg W' q3 q2 hrpos (by omega)
    rw [hrw] at hcal
    refine CallsIn.mono (CallsIn.inRound lc (callsIn_wide.2 hcal)) ?_
    rintro e1 w2 ⟨vq, rfl, hRq, hbn⟩
    exact ⟨_, rfl, (hK _ _ ⟨⟨b0, b1, b2, b3, b4, b5, b6, b7, b8, b9, b10, b11, b12, b13, b14, b15, b16, true, true, false, false, false, (.slice Ar rg.length cr), vq, gH, V1⟩, rfl, rfl, (fun _ => rfl), (fun _ => rfl), (fun _ => rfl), (fun _ => rfl), (fun h => Bool.noConfusion h), (fun h => Bool.noConfusion h), (fun h => Bool.noConfusion h), (hHB.below hbn), (fun h => S_chg (hHS0 h) (Chg.of_fresh (S := fun _ => False) hbn) (fun _ _ => id)), (fun h => S_chg (hHS1 h) (Chg.of_fresh (S := fun _ => False) hbn) (fun _ _ => id)), (fun _ _ => ⟨Ar, cr, rfl, q2, Kd.C_below q3 hbn⟩), (fun _ _ => Kd.R_lower (R_own1 flat_pt2 hRq) hHC.size), (fun h _ => Bool.noConfusion h), (hHC.trans (Chg.of_fresh hbn)), hHN⟩)⟩
   ·
    simp only [List.getElem?_toArray, List.getElem?_cons_succ, List.getElem?_cons_zero, Option.some.injEq] at ho
    subst ho
    replace hf : b19 = false := hf
    have d18 : b18 = true := hd ⟨18, .data⟩ (by simp) rfl
    have d17 : b17 = true := k0 d18
    subst d17
    subst d18
    have n20 : b20 = false := Bool.eq_false_iff.mpr (fun h => absurd (k4 h) (by rw [hf]; decide))
    have n21 : b21 = false := Bool.eq_false_iff.mpr (fun h => absurd (k6 h) (by rw [n20]; decide))
    subst n20
    subst n21
    subst hf
    obtain ⟨Aq, cq, hvq⟩ := Kd.R_slice (hHQ rfl rfl)
    have hbn : Below W'.heap.size W' (W'.alloc (.cells #[VQ] 42)) := (Below.refl _ _).alloc (Nat.le_refl _) _
    refine Go.Proofs.YtbmklpcheopgoaaReg.opIn_val ho2 rfl (fun _ => trivial) (fun c h => by cases h) (v := .slice (some ⟨(W'.heap.size), 0, none⟩) 1 1) (w1 := W'.alloc (.cells #[VQ] 42)) ?_ (hK _ _ ⟨⟨b0, b1, b2, b3, b4, b5, b6, b7, b8, b9, b10, b11, b12, b13, b14, b15, b16, true, true, true, false, false, VR, VQ, W'.heap.size, V1⟩, rfl, rfl, (fun _ => rfl), (fun _ => rfl), (fun _ => rfl), (fun _ => rfl), (fun _ => rfl), (fun h => Bool.noConfusion h), (fun h => Bool.noConfusion h), (hHB.below hbn), (fun h => S_chg (hHS0 h) (Chg.of_fresh (S := fun _ => False) hbn) (fun _ _ => id)), (fun h => S_chg (hHS1 h) (Chg.of_fresh (S := fun _ => False) hbn) (fun _ _ => id)), (fun h h' => by obtain ⟨A, c, q1, q2, q3⟩ := hHR h h'; exact ⟨A, c, q1, q2, Kd.C_below q3 hbn⟩), (fun h h' => R_chg (hHQ h h') (Chg.of_fresh (S := fun _ => False) hbn) (fun _ _ => id)), (fun _ _ => blk_new W' (.cells #[VQ] 42)), (hHC.trans (Chg.of_fresh hbn)), hHN⟩)
    subst hvq
    simp [go_sem]
   ·
    simp only [List.getElem?_toArray, List.getElem?_cons_succ, List.getElem?_cons_zero, Option.some.injEq] at ho
    subst ho
    replace hf : b20 = false := hf
    have d0 : b0 = true := hd ⟨0, .data⟩ (by simp) rfl
    have d18 : b18 = true := hd ⟨18, .chain⟩ (by simp) rfl
    have d19 : b19 = true := hd ⟨19, .data⟩ (by simp) rfl
    have d17 : b17 = true := k0 d18
    subst d0
    subst d17
    subst d18
    subst d19
    have n21 : b21 = false := Bool.eq_false_iff.mpr (fun h => absurd (k6 h) (by rw [hf]; decide))
    subst n21
    subst hf
    have hVQ := Kd.R_bound (hHQ rfl rfl)
    obtain ⟨vn, wn, hrn, hSn, hgn, hatn⟩ := run_appendS (P := Try.prog) (ty := 45) (Kd.slice 52 k52) w.heap.size Try.underlying45 lines_info rfl (by decide) (by decide) (.slice Av k cv) rows rw_ [VQ] (fun b => (own b ∧ b ≠ w.heap.size + 1 + 1) ∨ Va.heap.size ≤ b) (fun b => Va.heap.size ≤ b ∧ some b = VQ.ownBlock ∧ b < W'.heap.size) ⟨gH, 0, none⟩ 1
     (fun j u hj => by rw [add_plain, blk_cell (hHX rfl rfl) j]; simpa using hj) ⟨_, rfl, Kd.R_mono (Kd.R_lower hVQ (by have := h5.size; omega)) (fun b hb => ⟨hb.2.1, hb.1, hb.2.2.1⟩)⟩
     (fun b hb => ⟨.inr hb.1, fun e => by have := how b (hrowsown b e.symm).1; omega⟩) (fun b hb => .inr (Nat.le_trans hHC.size hb))
     (Kd.S_mono (hHS0 rfl) (fun b hb => ⟨.inl hb, fun e => by have := how b hb.1; omega⟩)) (by have := hHC.size; have := h5.size; omega) (by omega)
    obtain ⟨An, cn, hvn⟩ := Kd.S_slice hSn
    refine Go.Proofs.YtbmklpcheopgoaaReg.opIn_val ho2 rfl (fun _ => trivial) (fun c h => by cases h) (v := vn) (w1 := wn) ?_ (hK _ _ ⟨⟨true, b1, b2, b3, b4, b5, b6, b7, b8, b9, b10, b11, b12, b13, b14, b15, b16, true, true, true, true, false, VR, VQ, gH, vn⟩, rfl, rfl, (fun _ => rfl), (fun _ => rfl), (fun _ => rfl), (fun _ => rfl), (fun _ => rfl), (fun _ => rfl), (fun _ => rfl), (hHB.chg (Chg.of_grownBy hgn) (fun b hb e => hapart b hb e)), (fun h => Bool.noConfusion h), (fun _ => hSn), (fun _ h => Bool.noConfusion h), (fun _ h => Bool.noConfusion h), (fun _ h => Bool.noConfusion h), (hHC.trans ((Chg.of_grownBy hgn).mono (fun b _ e => (hrowsown b e).1))), (fun _ => ⟨(An, _, cn), hvn⟩)⟩)
    exact run_app rfl rfl rfl hrn
   ·
    simp only [List.getElem?_toArray, List.getElem?_cons_succ, List.getElem?_cons_zero, Option.some.injEq] at ho
    subst ho
    replace hf : b21 = false := hf
    have d0 : b0 = true := hd ⟨0, .phase⟩ (by simp) rfl
    have d1 : b1 = true := hd ⟨1, .phase⟩ (by simp) rfl
    have d2 : b2 = true := hd ⟨2, .phase⟩ (by simp) rfl
    have d3 : b3 = true := hd ⟨3, .phase⟩ (by simp) rfl
    have d4 : b4 = true := hd ⟨4, .phase⟩ (by simp) rfl
    have d5 : b5 = true := hd ⟨5, .phase⟩ (by simp) rfl
    have d6 : b6 = true := hd ⟨6, .phase⟩ (by simp) rfl
    have d7 : b7 = true := hd ⟨7, .phase⟩ (by simp) rfl
    have d8 : b8 = true := hd ⟨8, .phase⟩ (by simp) rfl
    have d9 : b9 = true := hd ⟨9, .phase⟩ (by simp) rfl
    have d10 : b10 = true := hd ⟨10, .phase⟩ (by simp) rfl
    have d11 : b11 = true := hd ⟨11, .phase⟩ (by simp) rfl
    have d12 : b12 = true := hd ⟨12, .phase⟩ (by simp) rfl
    have d13 : b13 = true := hd ⟨13, .phase⟩ (by simp) rfl
    have d14 : b14 = true := hd ⟨14, .phase⟩ (by simp) rfl
    have d15 : b15 = true := hd ⟨15, .phase⟩ (by simp) rfl
    have d16 : b16 = true := hd ⟨16, .phase⟩ (by simp) rfl
    have d17 : b17 = true := hd ⟨17, .phase⟩ (by simp) rfl
    have d18 : b18 = true := hd ⟨18, .phase⟩ (by simp) rfl
    have d19 : b19 = true := hd ⟨19, .phase⟩ (by simp) rfl
    have d20 : b20 = true := hd ⟨20, .data⟩ (by simp) rfl
    subst d0
    subst d1
    subst d2
    subst d3
    subst d4
    subst d5
    subst d6
    subst d7
    subst d8
    subst d9
    subst d10
    subst d11
    subst d12
    subst d13
    subst d14
    subst d15
    subst d16
    subst d17
    subst d18
    subst d19
    subst d20
    subst hf
    obtain ⟨⟨na, nb, nc⟩, hvn⟩ := hHN rfl
    refine Go.Proofs.YtbmklpcheopgoaaReg.opIn_skip ho2 rfl (fun _ => trivial) (fun c h => by cases h) (w1 := W'.setCell ⟨w.heap.size + 1 + 1, 0, none⟩ V1) ?_ (hK _ _ ⟨⟨true, true, true, true, true, true, true, true, true, true, true, true, true, true, true, true, true, true, true, true, true, true, VR, VQ, gH, V1⟩, rfl, rfl, (fun _ => rfl), (fun _ => rfl), (fun _ => rfl), (fun _ => rfl), (fun _ => rfl), (fun _ => rfl), (fun _ => rfl), (hHB.set 1 rfl 0 V1), (fun h => Bool.noConfusion h), (fun h => S_chg (hHS1 h) (Chg.setCell (S := fun b => b = w.heap.size + 1 + 1) (Chg.refl _ W') (p := ⟨w.heap.size + 1 + 1, 0, none⟩) (fun _ => rfl) V1) (fun b hb e => by rcases hb with hb | hb; exact hb.2 e; omega)), (fun _ h => Bool.noConfusion h), (fun _ h => Bool.noConfusion h), (fun _ h => Bool.noConfusion h), (hHC.setCell (p := ⟨w.heap.size + 1 + 1, 0, none⟩) (fun _ => h1) V1), hHN⟩)
    subst hvn
    simp [go_sem, Blks.cell hHB 1 rfl 0, Blks.free hHB 1 rfl 0]
  ·
   rintro lst a W' ⟨⟨b0, b1, b2, b3, b4, b5, b6, b7, b8, b9, b10, b11, b12, b13, b14, b15, b16, b17, b18, b19, b20, b21, VR, VQ, gH, V1⟩, rfl, rfl, k0, k1, k2, k3, k4, k5, k6, hHB, hHS0, hHS1, hHR, hHQ, hHX, hHC, hHN⟩ hall
   dsimp only at k0 k1 k2 k3 k4 k5 k6 hHB hHS0 hHS1 hHR hHQ hHX hHC hHN
   have a0 : b0 = true := hall 0 (by decide)
   have a1 : b1 = true := hall 1 (by decide)
   have a2 : b2 = true := hall 2 (by decide)
   have a3 : b3 = true := hall 3 (by decide)
   have a4 : b4 = true := hall 4 (by decide)
   have a5 : b5 = true := hall 5 (by decide)
   have a6 : b6 = true := hall 6 (by decide)
   have a7 : b7 = true := hall 7 (by decide)
   have a8 : b8 = true := hall 8 (by decide)
   have a9 : b9 = true := hall 9 (by decide)
   have a10 : b10 = true := hall 10 (by decide)
   have a11 : b11 = true := hall 11 (by decide)
   have a12 : b12 = true := hall 12 (by decide)
   have a13 : b13 = true := hall 13 (by decide)
   have a14 : b14 = true := hall 14 (by decide)
   have a15 : b15 = true := hall 15 (by decide)
   have a16 : b16 = true := hall 16 (by decide)
   have a17 : b17 = true := hall 17 (by decide)
   have a18 : b18 = true := hall 18 (by decide)
   have a19 : b19 = true := hall 19 (by decide)
   have a20 : b20 = true := hall 20 (by decide)
   have a21 : b21 = true := hall 21 (by decide)
   subst a0 a1 a2 a3 a4 a5 a6 a7 a8 a9 a10 a11 a12 a13 a14 a15 a16 a17 a18 a19 a20 a21
   clear k0 k1 k2 k3 k4 k5 k6
   clear hall
   have HB : Blks [(X, .cells #[.int .i64 s, .int .i64 t] 64 (0, 0)), (w.heap.size + 1 + 1, .cells #[cond true V1 (.slice Av k cv)] 45 (0, 0)), (w.heap.size + 1, .cells #[.slice (some ad1) on.length c1] 43 (0, 0)), (w.heap.size, .cells #[.slice (some ad0) pts.length c0] 42 (0, 0))] W' := hHB
   have HS1 : Kd.S (Kd.slice 52 k52) 42 W' w.heap.size (fun b => (own b ∧ b ≠ w.heap.size + 1 + 1) ∨ Va.heap.size ≤ b) V1 (rows ++ [rw_]) := hHS1 rfl
   have HC : Chg own Va W' := hHC
   clear hHB hHS0 hHS1 hHR hHQ hHX hHC hHN
   have HF := Lib.hid (And.intro HB (And.intro HS1 HC))
   clear HB HS1 HC
   gi_wp2
   obtain ⟨HB, HS1, HC⟩ := HF.out
   have hsz := HC.size
   refine ⟨fun b => own b ∨ (Va.heap.size ≤ b ∧ b < W'.heap.size), ⟨fun b h => .inl h, fun b h => h.elim .inl (fun h => .inr h.1)⟩, fun b hb => hb.elim (fun h => by have := how b h; omega) (fun h => h.2), HC, .inl h1, fun b hb => hb.elim (h2 b) (fun h => .inr (by omega)), ⟨V1, HB.tail, ?_⟩, h5.trans (HC.below (B := w.heap.size) h5.size (fun i hi h => by have := h2 i h; omega)), by omega⟩
   rw [HH.out.1]
   exact Kd.S_mono (Kd.S_bound HS1) (fun b hb => by
    rcases hb.1 with h | h
    ·
     exact ⟨.inl h.1, h.2⟩
    ·
     exact ⟨.inr ⟨h, hb.2.2.1⟩, by omega⟩)
 ·
  rintro D own Va hD how hnD ⟨h1, h2, ⟨v, h3, h4⟩, h5, h6⟩ hdef
  obtain ⟨Av, cv, rfl⟩ := Kd.S_slice h4
  have g0 := h3.cell 0 rfl 0
  simp at g0
  have HH := Lib.hid (And.intro h4 (And.intro h5 h6))
  clear h3 h4 h5
  gi_wp2
  obtain ⟨h4, h5, _⟩ := HH.out
  refine leaves_collected hdef fun V2 hc => ?_
  have hS10 := S_chg h4 hc (fun k hk e => hnD (by subst e; exact hk.1))
  have hW10 := h5.trans (hc.below (B := w.heap.size) h5.size (fun i hi e => by omega))
  exact ⟨.slice Av (linesK pts on es (cutsL es pts.length).length).length cv, by simp [results, Try.f32, go_sem], _, rfl, Kd.S_mono hS10 (fun _ _ => trivial), hW10⟩
 ·
  rintro D c k own V1 _ _ _ _ h
  exact h.elim

def outline_Lines.f (l0 : List S52) (l1 : List Bool) (l2 : List Int) : Option (List (List S52)) :=
 if l1.length = l0.length then (if l0.length ≤ 1000000 ∧ l2.length ≤ 1000000 then some (linesK l0 l1 l2 (cutsL l2 l0.length).length) else none) else some []
set_option maxRecDepth 100000 in
theorem outline_Lines.calls (A0 : Option Addr) (c0 : Nat) (l0 : List (S52)) (A1 : Option Addr) (c1 : Nat) (l1 : List Bool) (A2 : Option Addr) (c2 : Nat) (l2 : List Int) (r : List (List (S52))) (w : World) (hr0 : Kd.C k52 w A0 l0.length l0) (hc0 : l0.length ≤ c0) (hr1 : Kd.C Kd.bool w A1 l1.length l1) (hc1 : l1.length ≤ c1) (hr2 : Kd.C (Kd.int .i64) w A2 l2.length l2) (hc2 : l2.length ≤ c2) (h : outline_Lines.f l0 l1 l2 = some r) :
  Calls Try.prog 32 #[.slice A0 l0.length c0, .slice A1 l1.length c1, .slice A2 l2.length c2] w fun e w' => ∃ v0_ : Value, e = .returned (v0_) ∧ Kd.S (Kd.slice 52 k52) 42 w' w.heap.size (fun _ => True) v0_ r ∧ Below w.heap.size w w' := by
 unfold outline_Lines.f at h
 by_cases he : l1.length = l0.length
 ·
  rw [if_pos he] at h
  split at h
  ·
   rename_i hl
   simp only [Option.some.injEq] at h
   subst h
   exact lines_calls A0 A1 A2 c0 c1 c2 l0 l1 l2 w hr0 hc0 hr1 hc1 hr2 hc2 hl.1 hl.2 he
  ·
   cases h
 ·
  rw [if_neg he] at h
  simp only [Option.some.injEq] at h
  subst h
  have hne : (((l1.length : Nat) : Int) != ((l0.length : Nat) : Int)) = true := by simp; omega
  have HE := Lib.hid he
  clear he
  go_enter Try.func32, Try.ntmps32
  go_wp2
  go_ret
  exact ⟨_, rfl, Kd.S_nil _ _ _ _ _, ((Below.refl _ w).alloc (Nat.le_refl _) _).alloc (by simp) _⟩

end Go.Proofs.Ytbmklpcheopgoaa.H

namespace Go.Proofs.Ytbmklpcheopgoaa.H
open Go.RowKit Go.Proofs.YtbmklpcheopgoaaW.PrintWords Go.Proofs.YtbmklpcheopgoaaW.PrintLast Go.Proofs.YtbmklpcheopgoaaW.PrintMore
attribute [local go_sem] max2_int min2_int max_two min_two max_three min_three max_four min_four   -- for this text's walks alone
set_option linter.unusedVariables false
set_option linter.unusedSimpArgs false

/-! ### outline_Area: function 24 -/
open Go.Proofs.YtbmklpcheopgoaaOps Go.Proofs.YtbmklpcheopgoaaIt Go.Proofs.YtbmklpcheopgoaaBlks Go.Shelf
attribute [local go_sem] Oper.semAt_some wide_depth wide_fn World.cell?_alloc_some
/-- One point of a contour more. -/
def areaStep (st : Int × S33) (b : S33) : Int × S33 := (wrap64 (st.1 + wrap64 (wrap64 (st.2.f0 * b.f1) - wrap64 (b.f0 * st.2.f1))), b)
def areaK (c : List S33) (n : Int) (k : Nat) : Int × S33 := (List.range k).foldl (fun st (j : Nat) => areaStep st (rd_T33 c (j : Int))) (n, rd_T33 c (c.length - 1))
def areaRow (c : List S33) (n : Int) : Int := (areaK c n c.length).1
def areaL (pts : List S33) (es : List Int) (k : Nat) : Int := ((cutsL es pts.length).take k).foldl (fun n c => areaRow (contourOf pts c) n) 0
theorem areaK_succ (c : List S33) (n : Int) (k : Nat) : areaK c n (k + 1) = areaStep (areaK c n k) (rd_T33 c k) := by simp [areaK, List.range_succ]

def areaPt (p : S33) : Obj := .cells #[.int .i64 p.f0, .int .i64 p.f1, .bool p.f2] 33 (0, 0)
set_option maxRecDepth 100000 in
set_option maxHeartbeats 4000000 in
theorem area_calls (A0 A1 : Option Addr) (c0 c1 : Nat) (pts : List S33) (es : List Int) (w : World) (hp : Kd.C k33 w A0 pts.length pts) (hc0 : pts.length ≤ c0) (hes : (Kd.int .i64).C w A1 es.length es) (hlim : pts.length ≤ 1000000) :
  Calls Try.prog 24 #[.agg #[.slice A0 pts.length c0, .slice A1 es.length c1]] w fun e w' => e = .returned (.int .i64 (areaL pts es (cutsL es pts.length).length)) ∧ Below w.heap.size w w' := by
 have hu := Try.underlying25
 have hu2 := Try.underlying33
 refine (callsIn_wide (n := 0)).1 (callsIn_of_wp_marks Try.func24 rfl trivial ?_ rfl)
 simp only [Try.ntmps24, List.size_toArray, List.length_cons, List.length_nil, Nat.reduceAdd, Nat.reduceSub, Array.replicate_succ, Array.replicate_zero, List.push_toArray, List.append_toArray, List.nil_append, List.cons_append]
 gi_wp2
 refine CallsIn.mono (contours_calls 0 _ _ _ _ _ _ _) ?_
 rintro e w' ⟨rfl, rfl⟩
 gi_wp2
 generalize hV : World.alloc (World.alloc (World.alloc w _) _) _ = V
 have hVs : V.heap.size = w.heap.size + 1 + 1 + 1 := by rw [← hV]; simp
 have hbV : Below w.heap.size w V := by rw [← hV]; exact (((Below.refl _ w).alloc (Nat.le_refl _) _).alloc (by simp) _).alloc (by simp; omega) _
 have hn1 : V.heap[w.heap.size + 1]? = some (.cells #[.int .i64 0] 3 (0, 0)) := by
  rw [← hV]; refine kA ?_ _; have := blk_new (w.alloc (.cells #[.slice A0 pts.length c0, .slice A1 es.length c1] 25)) (.cells #[.int .i64 0] 3); rwa [World.size_alloc] at this
 have hq1 : V.heap[w.heap.size + 1 + 1]? = some (.cells #[.slice A0 pts.length c0, .slice A1 es.length c1] 25 (0, 0)) := by
  rw [← hV]; have := blk_new ((w.alloc (.cells #[.slice A0 pts.length c0, .slice A1 es.length c1] 25)).alloc (.cells #[.int .i64 0] 3)) (.cells #[.slice A0 pts.length c0, .slice A1 es.length c1] 25); rwa [World.size_alloc, World.size_alloc] at this
 have hit := contours_it V (w.heap.size + 1 + 1) A0 A1 c0 c1 pts es hq1 (Kd.C_below hp hbV) (Kd.C_below hes hbV) hc0 hlim
 have hwV : w.heap.size + 1 < V.heap.size := by omega
 refine range_outer hit (by rfl) (fun args w => by simp [go_sem])
  (fun k own V' => (own (w.heap.size + 1) ∧ ∀ b, own b → w.heap.size ≤ b) ∧ V'.heap[w.heap.size + 1]? = some (.cells #[.int .i64 (areaL pts es k)] 3 (0, 0)) ∧ Below w.heap.size w V')
  (fun c k own V' => False)
  (fun b => b = w.heap.size + 1) ?_ ?_ ?_ ?_ ?_
  (fun k own a' V' => ∃ (c : Int × Int) (A : Option Addr) (cap : Nat), (cutsL es pts.length)[k]? = some c ∧ a' = ⟨#[.agg #[.slice A0 pts.length c0, .slice A1 es.length c1], .pointer (some ⟨w.heap.size, 0, none⟩), .int .i64 0, .pointer (some ⟨w.heap.size + 1, 0, none⟩), undef, .slice A (contourOf pts c).length cap, undef, undef, undef, .agg #[.slice A0 pts.length c0, .slice A1 es.length c1], .func (.func 54) #[] #[.pointer (some ⟨w.heap.size + 1 + 1, 0, none⟩)], .int .i64 k, .slice A (contourOf pts c).length cap, undef, undef, undef, undef, undef, undef, undef, undef, undef, undef, undef, undef, undef, undef, undef, undef, undef, undef, undef, undef, undef, undef, undef, undef, undef, undef, undef, undef], []⟩ ∧ (contourOf pts c).length ≤ cap ∧ Kd.C k33 V' A (contourOf pts c).length (contourOf pts c)) ?_ ?_ ?_ ?_ ?_
 ·
  rintro k own V1 V2 ⟨⟨h1, h2⟩, h3, h4⟩ hc
  exact ⟨⟨h1, h2⟩, hc.heap h3 (fun h => by omega), h4.trans (hc.below (Nat.le_trans (by omega) h4.size) (fun i hi h => by omega))⟩
 ·
  rintro c k own V1 V2 h hc
  exact h
 ·
  rintro k W args ⟨c, A, cap, _, rfl, _⟩
  rfl
 ·
  rintro b rfl
  refine ⟨by omega, fun hr => ?_⟩
  rcases hr with ⟨h0, ad, rfl, hr⟩ | ⟨h0, ad, rfl, hr⟩ | hr
  ·
   obtain ⟨ad', e, hx, _⟩ := at_T33 hp 0 (by omega) (by omega)
   cases e
   have := World.block_lt_of_cell? w _ hx
   rw [add_block] at this
   omega
  ·
   obtain ⟨ad', e, hx⟩ := Kd.at_int hes 0 (by omega) (by omega)
   cases e
   have := World.block_lt_of_cell? w _ hx
   rw [add_block] at this
   omega
  ·
   omega
 ·
  exact ⟨⟨rfl, fun b h => by omega⟩, hn1, hbV⟩
 ·
  rintro lc k own a' V1 o o' hlc ⟨c, A, cap, hk, ha, hc, hC⟩ ho hcells
  refine ⟨c, A, cap, hk, ha, hc, hC.1, hC.2.1, fun hn => ?_⟩
  obtain ⟨ad, e, hx⟩ := hC.2.2 hn
  refine ⟨ad, e, fun i x hi => ?_⟩
  obtain ⟨cs, q1, q2, q3⟩ := hx i x hi
  refine ⟨cs, q1, flat_point _ _ _ _ q2, fun j u hu => ?_⟩
  have hcell := q3 j u hu
  refine Eq.trans (World.cell?_of_block (World.putObj_heap_other ?_)) hcell
  intro hl
  unfold World.cell? at hcell
  rw [hl] at hcell
  rw [ho] at hcell
  cases o <;> simp_all [Obj.isCells]
 ·
  rintro lc n k own args V1 hlc ⟨⟨h1, h2⟩, h3, h4⟩ how hlt hno hk ⟨c, A, cap, hkc, rfl, hcap, hC, _⟩ _
  gi_wp2
  exact ⟨own, GrowG.refl _ _ _, how, Chg.refl _ _, ⟨⟨h1, h2⟩, h3, h4⟩, c, A, cap, hkc, rfl, hcap, hC⟩
 ·
  rintro lc n k own a' V1 hlc ⟨⟨h1, h2⟩, h3, h4⟩ how ⟨rl, hrl⟩ hno hk ⟨c, A, cap, hkc, rfl, hcap, hC⟩
  obtain ⟨m1, m2, m3⟩ := cutsF_mem es pts.length 0 k c hkc
  have hlenc : (contourOf pts c).length = c.2.toNat - c.1.toNat := by simp [contourOf]; omega
  have hpos : 0 < (contourOf pts c).length := by omega
  obtain ⟨ad, e0, x0, x1, x2⟩ := at_T33 hC (((contourOf pts c).length : Int) - 1) (by omega) (by omega)
  subst e0
  have hsub : areaL pts es (k + 1) = areaRow (contourOf pts c) (areaL pts es k) := by
   simp [areaL, List.take_add_one, hkc]
  have hidx : (((contourOf pts c).length : Int) - 1).toNat = (contourOf pts c).length - 1 := by omega
  rw [hidx] at x0 x1 x2
  clear hlenc hidx m1 m2 m3
  generalize hrow : contourOf pts c = row at *
  have HROW := Lib.hid hrow
  have hmx := Kd.C_max hC
  clear hrow
  have hB0 : Blks [(w.heap.size + 1, .cells #[.int .i64 (areaL pts es k)] 3 (0, 0))] V1 := (Blks.nil V1).add h3 (by simp)
  have hadw : ad.block ≠ w.heap.size + 1 := by
   intro hh
   rw [add_block, hh] at x2
   rw [hB0.cell 0 rfl] at x2
   simp at x2
  have hHB := Lib.hid hB0
  clear hB0
  have hn := blk_cell h3 0
  have hnf := blk_frozen h3 0
  simp at hn
  gi_wp2
  have hB1 := hHB.out.alloc (areaPt (rd_T33 row (row.length - 1)))
  have hadV : ad.block < V1.heap.size := by have := World.block_lt_of_cell? V1 _ x0; rwa [add_block] at this
  clear hn hnf x0 x1 x2
  gi_loopw [8, 21] (fun _ v21 wr => ∃ i : Nat, i ≤ row.length ∧ v21 = .int .i64 i ∧ Aside0 (Blks [(V1.heap.size, areaPt (areaK row (areaL pts es k) i).2), (w.heap.size + 1, .cells #[.int .i64 (areaK row (areaL pts es k) i).1] 3 (0, 0))] wr ∧ Chg (fun b => b = w.heap.size + 1) V1 wr))
   (fun _ v21 _ => row.length - (intOf v21).toNat)
  case atStart => exact ⟨0, by omega, rfl, ⟨hB1, (Chg.refl _ _).alloc _⟩⟩
  case round =>
   obtain ⟨i, hi, rfl, ⟨hB, hC1⟩⟩ := hrel
   by_cases hlt : i < row.length
   ·
    obtain ⟨ad', e1, y0, y1, y2⟩ := at_T33 hC (i : Int) (by omega) (by omega)
    cases e1
    simp only [Int.toNat_natCast] at y0 y1 y2
    replace y0 := (hC1.cell (by rw [add_block]; exact hadV) (by rw [add_block]; exact hadw)).trans y0
    replace y1 := (hC1.cell (by rw [add_block]; exact hadV) (by rw [add_block]; exact hadw)).trans y1
    replace y2 := (hC1.cell (by rw [add_block]; exact hadV) (by rw [add_block]; exact hadw)).trans y2
    have hst := Lib.hid (areaK_succ row (areaL pts es k) i)
    have g0 := hB.cell 0 rfl 0
    have g1 := hB.cell 0 rfl 1
    have g2 := hB.cell 0 rfl 2
    have g3 := hB.cell 1 rfl 0
    have f0 := hB.free 0 rfl 0
    have f1 := hB.free 0 rfl 1
    have f2 := hB.free 0 rfl 2
    have f3 := hB.free 1 rfl 0
    simp at g0 g1 g2 g3
    have q1 := (hB.lt (w.heap.size + 1) (by simp))
    have q2 := (hB.lt V1.heap.size (by simp))
    have q3 : ¬ (V1.heap.size = w.heap.size + 1) := by have := hB.nd; simpa using this
    have q4 : ¬ (w.heap.size + 1 = V1.heap.size) := fun h => q3 h.symm
    have q5 : ¬ (w.heap.size + 1 = wr.heap.size) := by omega
    have q6 : ¬ (V1.heap.size = wr.heap.size) := by omega
    have q7 : ¬ (wr.heap.size = w.heap.size + 1) := by omega
    have q8 : ¬ (wr.heap.size = V1.heap.size) := by omega
    have HBB := Lib.hid hB
    have HCC := Lib.hid hC1
    clear hB hC1
    gi_wp2
    refine ⟨⟨i + 1, by omega, by simp, ⟨?_, ?_⟩⟩, by simp [intOf]; omega⟩
    ·
     rw [hst.out]
     exact (((((HBB.out.set 1 rfl 0 _).set 0 rfl 0 _).set 0 rfl 1 _).set 0 rfl 2 _).alloc _).tail
    ·
     exact ((((HCC.out.setCell (p := ⟨w.heap.size + 1, 0, none⟩) (fun _ => rfl) _).setCell (p := ⟨V1.heap.size, 0, none⟩) (fun h => absurd h (Nat.lt_irrefl _)) _).setCell (p := ⟨V1.heap.size, 1, none⟩) (fun h => absurd h (Nat.lt_irrefl _)) _).setCell (p := ⟨V1.heap.size, 2, none⟩) (fun h => absurd h (Nat.lt_irrefl _)) _).alloc _
   ·
    obtain rfl : i = row.length := by omega
    gi_wp2
    exact ⟨own, Grow.refl _ _, fun b h => hC1.lt (how b h), hC1.mono (fun b _ hb => by subst hb; exact h1), ⟨h1, h2⟩, by rw [hsub]; exact hB.blk 1 rfl, h4.trans (hC1.below (B := w.heap.size) h4.size (fun i hi h => by omega))⟩
 ·
  rintro D own V1 hD how hnD ⟨⟨h1, h2⟩, h3, h4⟩ hdef
  have hc := blk_cell h3 0
  simp at hc
  gi_wp2
  refine leaves_collected hdef fun V2 hc => ⟨.int .i64 (areaL pts es (cutsL es pts.length).length), by simp [results, Try.f24, go_sem], rfl, h4.trans (hc.below (Nat.le_trans (Nat.le_refl _) h4.size) (fun i hi h => by omega))⟩
 ·
  rintro D c k own V1 _ _ _ _ h
  exact h.elim

def outline_Area.f (l0_0 : List S33) (l0_1 : List Int) : Option Int :=
 if l0_0.length ≤ 1000000 then some (areaL l0_0 l0_1 (cutsL l0_1 l0_0.length).length) else none
theorem outline_Area.calls (A0_0 : Option Addr) (c0_0 : Nat) (l0_0 : List (S33)) (A0_1 : Option Addr) (c0_1 : Nat) (l0_1 : List Int) (r : Int) (w : World) (hr0_0 : Kd.C k33 w A0_0 l0_0.length l0_0) (hc0_0 : l0_0.length ≤ c0_0) (hr0_1 : Kd.C (Kd.int .i64) w A0_1 l0_1.length l0_1) (hc0_1 : l0_1.length ≤ c0_1) (h : outline_Area.f l0_0 l0_1 = some r) :
  Calls Try.prog 24 #[.agg #[.slice A0_0 l0_0.length c0_0, .slice A0_1 l0_1.length c0_1]] w fun e w' => e = .returned (.int .i64 r) ∧ Below w.heap.size w w' := by
 unfold outline_Area.f at h
 split at h
 ·
  rename_i hl
  simp only [Option.some.injEq] at h
  subst h
  exact area_calls A0_0 A0_1 c0_0 c0_1 l0_0 l0_1 w hr0_0 hc0_0 hr0_1 hl
 ·
  cases h

end Go.Proofs.Ytbmklpcheopgoaa.H

namespace Go.Proofs.Ytbmklpcheopgoaa.H
open Go.RowKit Go.Proofs.YtbmklpcheopgoaaW.PrintWords Go.Proofs.YtbmklpcheopgoaaW.PrintLast Go.Proofs.YtbmklpcheopgoaaW.PrintMore
attribute [local go_sem] max2_int min2_int max_two min_two max_three min_three max_four min_four   -- for this text's walks alone
set_option linter.unusedVariables false
set_option linter.unusedSimpArgs false

/-! ### outline_clone: function 45 -/
def outline_clone.f (l0_0 : List (S33)) (l0_1 : List Int) : Option ((List (S33)) × List Int) := if ([] : List (S33)).length + l0_0.length < 5864062014805 then (if ([] : List Int).length + l0_1.length < 17592186044416 then (some ((([] : List (S33)) ++ l0_0), (([] : List Int) ++ l0_1))) else (none)) else (none)
def outline_clone.T1 : Bool × List (List Nat × List Nat) := (true, [([], []), ([0], [0]), ([1], [1]), ([], []), ([3], [3]), ([4, 2], [4]), ([2, 5], [2, 5]), ([6, 5, 0, 1, 2, 3, 4, 5, 6], [6])])
def outline_clone.B1 : List Nat := [0, 1, 3, 0, 8, 31, 63, 127]
theorem outline_clone.tab1 : rtab .any (opsOf Try.f45 1) = outline_clone.T1 := by kernel_rfl
theorem outline_clone.bits1 : waitsOk outline_clone.T1.2 outline_clone.B1 = true := by kernel_rfl
set_option maxHeartbeats 8000000 in
set_option maxRecDepth 100000 in
theorem outline_clone.calls (A0_0 : Option Addr) (c0_0 : Nat) (l0_0 : List (S33)) (A0_1 : Option Addr) (c0_1 : Nat) (l0_1 : List Int) (r1 : List (S33)) (r2 : List Int) (w : World) (hr0_0 : Kd.C k33 w A0_0 l0_0.length l0_0) (hc0_0 : l0_0.length ≤ c0_0) (hr0_1 : Kd.C (Kd.int .i64) w A0_1 l0_1.length l0_1) (hc0_1 : l0_1.length ≤ c0_1) (h : outline_clone.f l0_0 l0_1 = some (r1, r2)) :
  Calls Try.prog 45 #[.agg #[.slice A0_0 l0_0.length c0_0, .slice A0_1 l0_1.length c0_1]] w fun e w' => ∃ v0_ v1_ : Value, e = .returned (.agg #[v0_, v1_]) ∧ Kd.R k33 33 w' w.heap.size (fun _ => True) v0_ r1 ∧ Kd.R (Kd.int .i64) 3 w' w.heap.size (fun _ => True) v1_ r2 ∧ Below w.heap.size w w' := by
 have hu25 := Try.underlying25
 have HR0_0 := aM hr0_0
 have HC0_0 := aM hc0_0
 clear hr0_0 hc0_0
 have HR0_1 := aM hr0_1
 have HC0_1 := aM hc0_1
 clear hr0_1 hc0_1
 have HB := aM (Below.refl w.heap.size w)
 have H : (if ([] : List (S33)).length + l0_0.length < 5864062014805 then (if ([] : List Int).length + l0_1.length < 17592186044416 then (some ((([] : List (S33)) ++ l0_0), (([] : List Int) ++ l0_1))) else (none)) else (none)) = some (r1, r2) := h
 clear h
 by_cases c2 : ([] : List (S33)).length + l0_0.length < 5864062014805
 ·
  rw [if_pos c2] at H
  have LMc2 := aM c2
  clear c2
  obtain ⟨y149, hy149⟩ : ∃ y_ : List (S33), y_ = (([] : List (S33)) ++ l0_0) := ⟨_, rfl⟩
  replace H : (if ([] : List Int).length + l0_1.length < 17592186044416 then (some (y149, (([] : List Int) ++ l0_1))) else (none)) = some (r1, r2) := by first | (rw [hy149]; with_reducible exact H) | (have H2_ := (Option.bind_some _ _).symm.trans H; rw [hy149]; with_reducible exact H2_) | (have H2_ := (Option.bind_some _ _).symm.trans H; with_reducible exact H2_) | with_reducible exact H | (rw [hy149]; exact H) | exact H
  have Ny149 := aM hy149
  clear hy149
  by_cases c3 : ([] : List Int).length + l0_1.length < 17592186044416
  ·
   rw [if_pos c3] at H
   have LMc3 := aM c3
   clear c3
   obtain ⟨y152, hy152⟩ : ∃ y_ : List Int, y_ = (([] : List Int) ++ l0_1) := ⟨_, rfl⟩
   replace H : (some (y149, y152)) = some (r1, r2) := by first | (rw [hy152]; with_reducible exact H) | (have H2_ := (Option.bind_some _ _).symm.trans H; rw [hy152]; with_reducible exact H2_) | (have H2_ := (Option.bind_some _ _).symm.trans H; with_reducible exact H2_) | with_reducible exact H | (rw [hy152]; exact H) | exact H
   have Ny152 := aM hy152
   clear hy152
   simp only [Option.some.injEq, Prod.mk.injEq] at H
   obtain ⟨rfl, rfl⟩ := H
   go_enter Try.func45, Try.ntmps45
   try go_wp2_with (first | ((with_reducible refine gate_dst (N := 1) rfl ?_); refine box_event ?hg (N := 1) ?hd (cs := #[.slice A0_0 l0_0.length c0_0, .slice A0_1 l0_1.length c0_1]) (t := 25) ?hr ?_; (case hd => rfl); (case hg => rfl); (case hr => first | (go_simp; done) | (go_simp; rfl)); intro gb147 hg w4 hbox hb; have n0_ := aM (below_step (by repeat (first | (with_reducible first | exact HB.out | apply bA | apply bN | apply bD) | exact HB.out)) hb); have n1_ := aM (hbox); have n2_ := aM ((by rw [hg]; exact (below_size (by repeat (first | (with_reducible first | exact HB.out | apply bA | apply bN | apply bD) | exact HB.out))) : w.heap.size ≤ gb147)); have n3_ := aM ((by rw [hg]; exact (below_size (by repeat (first | (with_reducible first | exact HB.out | apply bA | apply bN | apply bD) | exact HB.out))) : w.heap.size ≤ gb147)); clear HB; have HB := n0_; have BK147 := n1_; have GW147 := n2_; have GE147 := n3_; clear n0_ n1_ n2_ n3_; clear hb hbox hg) | ((with_reducible refine gate_dst (N := 2) rfl ?_); refine box_event ?hg (N := 2) ?hd (cs := #[.slice none 0 0, .slice none 0 0]) (t := 25) ?hr ?_; (case hd => rfl); (case hg => rfl); (case hr => first | (go_simp; done) | (go_simp; rfl)); intro gb148 hg w5 hbox hb; have n0_ := aM (blk_below (g := gb147) (o := .cells #[.slice A0_0 l0_0.length c0_0, .slice A0_1 l0_1.length c0_1] 25 (0, 0)) (by (with_reducible repeat (first | refine kN ?_ _ | refine kD ?_ | refine kA ?_ _)); exact BK147.out) hb); have n1_ := aM (below_step (by repeat (first | (with_reducible first | exact HB.out | apply bA | apply bN | apply bD | refine bS ?_ GE147.out) | exact HB.out)) hb); have n2_ := aM (hbox); have n3_ := aM ((by rw [hg]; exact (below_size (by repeat (first | (with_reducible first | exact HB.out | apply bA | apply bN | apply bD | refine bS ?_ GE147.out) | exact HB.out))) : w.heap.size ≤ gb148)); have n4_ := aM ((by rw [hg]; exact (below_size (by repeat (first | (with_reducible first | exact HB.out | apply bA | apply bN | apply bD | refine bS ?_ GE147.out) | exact HB.out))) : w.heap.size ≤ gb148)); have n5_ := aM ((by rw [hg]; exact Nat.ne_of_lt (blk_lt (g := gb147) (o := .cells #[.slice A0_0 l0_0.length c0_0, .slice A0_1 l0_1.length c0_1] 25 (0, 0)) (by (with_reducible repeat (first | refine kN ?_ _ | refine kD ?_ | refine kA ?_ _)); exact BK147.out)) : gb147 ≠ gb148)); have n6_ := aM ((by rw [hg]; exact Nat.ne_of_gt (blk_lt (g := gb147) (o := .cells #[.slice A0_0 l0_0.length c0_0, .slice A0_1 l0_1.length c0_1] 25 (0, 0)) (by (with_reducible repeat (first | refine kN ?_ _ | refine kD ?_ | refine kA ?_ _)); exact BK147.out)) : gb148 ≠ gb147)); clear BK147; clear HB; have BK147 := n0_; have HB := n1_; have BK148 := n2_; have GW148 := n3_; have GE148 := n4_; have NB147_148 := n5_; have NB148_147 := n6_; clear n0_ n1_ n2_ n3_ n4_ n5_ n6_; clear hb hbox hg))
   have n0_ := aM (kD BK147.out)
   have n1_ := aM (kD BK148.out)
   have n2_ := aM (bD HB.out)
   clear BK147
   clear BK148
   clear HB
   have BK147 := n0_
   have BK148 := n1_
   have HB := n2_
   clear n0_ n1_ n2_
   refine start_ (n := 8) (S := fun w' => w'.cell? ⟨gb147, 0, none⟩ = some (.slice A0_0 l0_0.length c0_0) ∧ w'.cell? ⟨gb147, 1, none⟩ = some (.slice A0_1 l0_1.length c0_1)) (ds := []) #[false, false, false, false, false, false, false, false] (by kernel_rfl) rfl rfl ⟨(blk_cell BK147.out 0).trans rfl, (blk_cell BK147.out 1).trans rfl⟩ (fun hHeld => ?_); refine with_tabW outline_clone.tab1 outline_clone.bits1 (fun HT_ HW_ => ?_)
   generalize w5.drew = w6 at BK147 BK148 HB hHeld ⊢
   refine pure_ (i := 0) (N := some 3) (v := ?_) (a' := ?_) #[true, false, false, false, false, false, false, false] rfl rfl (any_of HT_.out (by kernel_rfl)) (fun _ _ _ h => h) (Or.inl ⟨by rfl, ?_⟩) ?_ ?_
   rotate_left
   ·
    intro w'
    go_simp
    with_reducible rfl
   rotate_left
   ·
    simp only [Act.put, List.setIfInBounds_toArray, List.set_cons_zero, List.set_cons_succ, i64_w, i32_w]
    rfl
   refine pure_ (i := 3) (N := some 6) (v := ?_) (a' := ?_) #[true, false, false, true, false, false, false, false] rfl rfl (any_of HT_.out (by kernel_rfl)) (fun _ _ _ h => h) (Or.inl ⟨by rfl, ?_⟩) ?_ ?_
   rotate_left
   ·
    intro w'
    go_simp
    with_reducible rfl
   rotate_left
   ·
    simp only [Act.put, List.setIfInBounds_toArray, List.set_cons_zero, List.set_cons_succ, i64_w, i32_w]
    rfl
   refine take_ (i := 1) (N := some 4) (v := ?_) (a' := ?_) #[true, true, false, true, false, false, false, false] rfl rfl (take_ofW HT_.out HW_.out (by kernel_rfl)) (fun _ _ _ h => h) (Or.inl ⟨by rfl, ?_⟩) hHeld ?_ ?_
   rotate_left
   ·
    rintro w' ⟨s0, s1⟩
    go_simp
    with_reducible rfl
   rotate_left
   ·
    simp only [Act.put, List.setIfInBounds_toArray, List.set_cons_zero, List.set_cons_succ, i64_w, i32_w]
    rfl
   refine take_ (i := 4) (N := some 7) (v := ?_) (a' := ?_) #[true, true, false, true, true, false, false, false] rfl rfl (take_ofW HT_.out HW_.out (by kernel_rfl)) (fun _ _ _ h => h) (Or.inl ⟨by rfl, ?_⟩) hHeld ?_ ?_
   rotate_left
   ·
    rintro w' ⟨s0, s1⟩
    go_simp
    with_reducible rfl
   rotate_left
   ·
    simp only [Act.put, List.setIfInBounds_toArray, List.set_cons_zero, List.set_cons_succ, i64_w, i32_w]
    rfl
   refine one_ (i := 2) (N := some 5) #[true, true, true, true, true, false, false, false] rfl rfl (one_of HT_.out (by kernel_rfl)) (by decide) (fun K hK => ?_)
   refine Kd.R_append_rows_step k33 (w0 := w) w.heap.size (by rfl) (.const (.slice none 0 0)) (.tmp 4) 22 33 (.agg #[(.int .i64 0), (.int .i64 0), (.bool false)]) 24 rfl Try.underlying22 info33 rfl (by decide) (by omega) (.slice none 0 0) ([] : List (S33)) l0_0 _ _ _ (fun _ => True) (fun _ => False) rfl rfl ?aO ?aR (fun _ _ h => h) (fun _ h => h.elim) ?aF ?aB ?aS ?aL ?_
   (case aR => repeat (first | exact (Kd.C_below HR0_0.out HB.out) | (with_reducible refine Kd.C_alloc ?_ _) | (with_reducible refine Kd.C_drewN ?_ _) | (with_reducible refine Kd.C_drew ?_)))
   (case aB => exact (by repeat (first | (with_reducible first | exact HB.out | apply bA | apply bN | apply bD | refine bS ?_ GE147.out | refine bS ?_ GE148.out) | exact HB.out)))
   (case aF => exact (fun _ _ => trivial))
   (case aO => exact ((Kd.R_nil _ _ _ _ (fun _ => True))))
   (case aS => exact (below_size (by repeat (first | (with_reducible first | exact HB.out | apply bA | apply bN | apply bD | refine bS ?_ GE147.out | refine bS ?_ GE148.out) | exact HB.out))))
   (case aL => have := LMc2.out; omega)
   intro v150 w7 ho hb hg hat
   rw [← Ny149.out] at ho
   have n0_ := aM (blk_grown (g := gb147) (o := .cells #[.slice A0_0 l0_0.length c0_0, .slice A0_1 l0_1.length c0_1] 25 (0, 0)) (by (with_reducible repeat (first | refine kN ?_ _ | refine kD ?_ | refine kA ?_ _)); exact BK147.out) hg (by simp [Value.ownBlock]))
   have n1_ := aM (blk_grown (g := gb148) (o := .cells #[.slice none 0 0, .slice none 0 0] 25 (0, 0)) (by (with_reducible repeat (first | refine kN ?_ _ | refine kD ?_ | refine kA ?_ _)); exact BK148.out) hg (by simp [Value.ownBlock]))
   have n2_ := aM (hb)
   have n3_ := aM (ho)
   clear BK147
   clear BK148
   clear HB
   have BK147 := n0_
   have BK148 := n1_
   have HB := n2_
   have HO151 := n3_
   clear n0_ n1_ n2_ n3_
   clear ho hb hg hat
   refine hK.out _ _ ⟨(blk_cell BK147.out 0).trans rfl, (blk_cell BK147.out 1).trans rfl⟩ (fun hHeld => ?_)
   clear hK K
   refine norm_ (a' := ?_) ?_ ?_
   rotate_left
   ·
    show Act.put _ (some 5) _ = _
    simp only [Act.put, List.setIfInBounds_toArray, List.set_cons_zero, List.set_cons_succ, i64_w, i32_w]
    rfl
   refine one_ (i := 5) (N := some 8) #[true, true, true, true, true, true, false, false] rfl rfl (one_of HT_.out (by kernel_rfl)) (by decide) (fun K hK => ?_)
   refine Kd.R_append_rows_step (Kd.int .i64) (w0 := w) w.heap.size (by rfl) (.const (.slice none 0 0)) (.tmp 7) 23 3 (.int .i64 0) 8 rfl Try.underlying23 info3 rfl (by decide) (by omega) (.slice none 0 0) ([] : List Int) l0_1 _ _ _ (fun _ => True) (fun _ => False) rfl rfl ?aO ?aR (fun _ _ h => h) (fun _ h => h.elim) ?aF ?aB ?aS ?aL ?_
   (case aR => repeat (first | exact (Kd.C_below HR0_1.out HB.out) | (with_reducible refine Kd.C_alloc ?_ _) | (with_reducible refine Kd.C_drewN ?_ _) | (with_reducible refine Kd.C_drew ?_)))
   (case aB => exact (by repeat (first | (with_reducible first | exact HB.out | apply bA | apply bN | apply bD | refine bS ?_ GE147.out | refine bS ?_ GE148.out) | exact HB.out)))
   (case aF => exact (fun _ _ => trivial))
   (case aO => exact ((Kd.R_nil _ _ _ _ (fun _ => True))))
   (case aS => exact (below_size (by repeat (first | (with_reducible first | exact HB.out | apply bA | apply bN | apply bD | refine bS ?_ GE147.out | refine bS ?_ GE148.out) | exact HB.out))))
   (case aL => have := LMc3.out; omega)
   intro v153 w8 ho hb hg hat
   rw [← Ny152.out] at ho
   have n0_ := aM (blk_grown (g := gb147) (o := .cells #[.slice A0_0 l0_0.length c0_0, .slice A0_1 l0_1.length c0_1] 25 (0, 0)) (by (with_reducible repeat (first | refine kN ?_ _ | refine kD ?_ | refine kA ?_ _)); exact BK147.out) hg (by simp [Value.ownBlock]))
   have n1_ := aM (blk_grown (g := gb148) (o := .cells #[.slice none 0 0, .slice none 0 0] 25 (0, 0)) (by (with_reducible repeat (first | refine kN ?_ _ | refine kD ?_ | refine kA ?_ _)); exact BK148.out) hg (by simp [Value.ownBlock]))
   have n2_ := aM (Kd.R_grown (by (with_reducible repeat (first | apply Kd.R_alloc | apply Kd.R_drewN | apply Kd.R_drew)); exact HO151.out) hg (fun _ _ => by simp [Value.ownBlock]))
   have n3_ := aM (hb)
   have n4_ := aM (ho)
   clear BK147
   clear BK148
   clear HO151
   clear HB
   have BK147 := n0_
   have BK148 := n1_
   have HO151 := n2_
   have HB := n3_
   have HO154 := n4_
   clear n0_ n1_ n2_ n3_ n4_
   clear ho hb hg hat
   obtain ⟨Ao9, co9, eo9⟩ := Kd.R_slice HO154.out
   (first | subst eo9 | (injection eo9 with f1_ f2_ f3_; have f4_ := f1_.symm; have f5_ := f3_.symm; clear f1_ f2_ f3_; subst f4_; subst f5_))
   obtain ⟨Ao10, co10, eo10⟩ := Kd.R_slice HO151.out
   (first | subst eo10 | (injection eo10 with f1_ f2_ f3_; have f4_ := f1_.symm; have f5_ := f3_.symm; clear f1_ f2_ f3_; subst f4_; subst f5_))
   refine hK.out _ _ ⟨(blk_cell BK147.out 0).trans rfl, (blk_cell BK147.out 1).trans rfl⟩ (fun hHeld => ?_)
   clear hK K
   refine norm_ (a' := ?_) ?_ ?_
   rotate_left
   ·
    show Act.put _ (some 8) _ = _
    simp only [Act.put, List.setIfInBounds_toArray, List.set_cons_zero, List.set_cons_succ, i64_w, i32_w]
    rfl
   refine pure_ (i := 6) (N := some 9) (v := ?_) (a' := ?_) #[true, true, true, true, true, true, true, false] rfl rfl (any_of HT_.out (by kernel_rfl)) (fun _ _ _ h => h) (Or.inl ⟨by rfl, ?_⟩) ?_ ?_
   rotate_left
   ·
    intro w'
    go_simp
    with_reducible rfl
   rotate_left
   ·
    simp only [Act.put, List.setIfInBounds_toArray, List.set_cons_zero, List.set_cons_succ, i64_w, i32_w]
    rfl
   refine one_ (i := 7) (N := none) #[true, true, true, true, true, true, true, true] rfl rfl (one_of HT_.out (by kernel_rfl)) (by decide) (fun K hK => ?_)
   have hs11 : w8.cell? ⟨gb148, 0, none⟩ = some (.slice none 0 0) := (blk_cell BK148.out 0).trans rfl
   have hfs11 := blk_frozen BK148.out 0
   have hns11_0 := NB147_148.out
   have hms11_0 := NB148_147.out
   have hs12 : w8.cell? ⟨gb148, 1, none⟩ = some (.slice none 0 0) := (blk_cell BK148.out 1).trans rfl
   have hfs12 := blk_frozen BK148.out 1
   have hns12_0 := NB147_148.out
   have hms12_0 := NB148_147.out
   refine skip_ (w1 := ?_) (by rfl) rfl ?_ ?_
   rotate_left
   ·
    go_simp
    rfl
   refine hK.out _ _ ⟨((cell_far (p := ⟨gb148, _, none⟩) NB147_148.out _).trans (((cell_far (p := ⟨gb148, _, none⟩) NB147_148.out _).trans (hHeld.1)))), ((cell_far (p := ⟨gb148, _, none⟩) NB147_148.out _).trans (((cell_far (p := ⟨gb148, _, none⟩) NB147_148.out _).trans (hHeld.2))))⟩ (fun hHeld => ?_)
   clear hK K
   refine done_ (done_of HT_.out (by kernel_rfl)) ?_
   try go_wp2
   refine bodyPost_ret (results_cell_row rfl _ _ gb148 25 #[.slice Ao10 y149.length co10, .slice Ao9 y152.length co9] (0, 0) _ rfl (by (with_reducible repeat (first | refine kN ?_ _ | refine kD ?_ | refine kA ?_ _)); refine blk_put (cs := #[.slice Ao10 y149.length co10, .slice none 0 0]) ?_ 1 _ rfl; (with_reducible repeat (first | refine kN ?_ _ | refine kD ?_ | refine kA ?_ _)); refine blk_put (cs := #[.slice none 0 0, .slice none 0 0]) ?_ 0 _ rfl; (with_reducible repeat (first | refine kN ?_ _ | refine kD ?_ | refine kA ?_ _)); exact BK148.out) Try.underlying25 rfl (by kernel_rfl)) rfl ?_
   exact ⟨_, _, by first | rfl | (simp [errW_none, errW_some] <;> rfl) | (simp [*, errW_none, errW_some] <;> rfl), by (with_reducible repeat (first | apply Kd.R_alloc | apply Kd.R_drewN | apply Kd.R_drew)); exact Kd.R_mono (Kd.R_far (p := ⟨gb148, 1, none⟩) (Kd.R_far (p := ⟨gb148, 0, none⟩) (Kd.R_types HO151.out BK148.out (by decide)) (fun _ hk => hk.2) (.slice Ao10 y149.length co10)) (fun _ hk => hk.2) (.slice Ao9 y152.length co9)) (fun _ hk => trivial), by (with_reducible repeat (first | apply Kd.R_alloc | apply Kd.R_drewN | apply Kd.R_drew)); exact Kd.R_mono (Kd.R_far (p := ⟨gb148, 1, none⟩) (Kd.R_far (p := ⟨gb148, 0, none⟩) (Kd.R_types HO154.out BK148.out (by decide)) (fun _ hk => hk.2) (.slice Ao10 y149.length co10)) (fun _ hk => hk.2) (.slice Ao9 y152.length co9)) (fun _ hk => trivial), by repeat (first | (with_reducible first | exact HB.out | apply bA | apply bN | apply bD | refine bS ?_ GE147.out | refine bS ?_ GE148.out) | exact HB.out)⟩
  ·
   rw [if_neg c3] at H
   exact absurd H (by simp)
 ·
  rw [if_neg c2] at H
  exact absurd H (by simp)

/-! ### outline_Moved: function 27 -/
def outline_Moved.l0 : Nat → Int → Int → Int → Int → List (S33) → List Int → Option ((List (S33)) × List Int)
 | 0, _, _, _, _, _, _ => none
 | k + 1, x1, x2, x13, x14, x164000, x164001 => if x14 < x13 then (if 0 ≤ x14 then (if x14 < (x164000.length : Int) then ((some (x164000.set (x14 : Int).toNat (⟨wrap64 (((rd_T33 x164000 x14).f0) + x1), (rd_T33 x164000 x14).f1, (rd_T33 x164000 x14).f2⟩ : S33) : List (S33))).bind fun y165 => (outline_Moved.l0 k x1 x2 x13 (wrap64 (x14 + 1)) (y165.set (x14 : Int).toNat (⟨(rd_T33 y165 x14).f0, wrap64 (((rd_T33 y165 x14).f1) + x2), (rd_T33 y165 x14).f2⟩ : S33)) x164001)) else (none)) else (none)) else (some (x164000, x164001))
def outline_Moved.f (k : Nat) (l0_0 : List (S33)) (l0_1 : List Int) (a1 : Int) (a2 : Int) : Option ((List (S33)) × List Int) := (outline_clone.f l0_0 l0_1).bind fun bt157 => (outline_Moved.l0 k a1 a2 (bt157.1.length : Int) 0 bt157.1 bt157.2)
theorem outline_Moved.mono_l : ∀ k, (∀ y0 y1 y2 y3 y4 y5, LeO (outline_Moved.l0 k y0 y1 y2 y3 y4 y5) (outline_Moved.l0 (k + 1) y0 y1 y2 y3 y4 y5))
 | 0 => fun _ _ _ _ _ _ r h => by simp [outline_Moved.l0] at h
 | k + 1 => by
  have ih0 := outline_Moved.mono_l k
  ·
   intro y0 y1 y2 y3 y4 y5
   unfold outline_Moved.l0
   repeat' first
   | (with_reducible exact ih0 _ _ _ _ _ _)
   | (with_reducible exact LeO.refl _)
   | (with_reducible exact LeO.none _)
   | (with_reducible refine LeO.ite ?_ ?_)
   | (with_reducible refine LeO.bind ?_ (fun _ => ?_))
   | exact ih0 _ _ _ _ _ _
   | exact LeO.none _
   | refine LeO.ite ?_ ?_
   | refine LeO.bind ?_ (fun _ => ?_)
theorem outline_Moved.mono : ∀ a0 a1 a2 a3 k, LeO (outline_Moved.f k a0 a1 a2 a3) (outline_Moved.f (k + 1) a0 a1 a2 a3) := by
 intro a0 a1 a2 a3 k
 have ih0 := outline_Moved.mono_l k
 unfold outline_Moved.f
 repeat' first
   | (with_reducible exact ih0 _ _ _ _ _ _)
   | (with_reducible exact LeO.refl _)
   | (with_reducible exact LeO.none _)
   | (with_reducible refine LeO.ite ?_ ?_)
   | (with_reducible refine LeO.bind ?_ (fun _ => ?_))
   | exact ih0 _ _ _ _ _ _
   | exact LeO.none _
   | refine LeO.ite ?_ ?_
   | refine LeO.bind ?_ (fun _ => ?_)
set_option maxHeartbeats 8000000 in
set_option maxRecDepth 100000 in
theorem outline_Moved.calls (k : Nat) (A0_0 : Option Addr) (c0_0 : Nat) (l0_0 : List (S33)) (A0_1 : Option Addr) (c0_1 : Nat) (l0_1 : List Int) (a1 : Int) (a2 : Int) (r1 : List (S33)) (r2 : List Int) (w : World) (hr0_0 : Kd.C k33 w A0_0 l0_0.length l0_0) (hc0_0 : l0_0.length ≤ c0_0) (hr0_1 : Kd.C (Kd.int .i64) w A0_1 l0_1.length l0_1) (hc0_1 : l0_1.length ≤ c0_1) (h : outline_Moved.f k l0_0 l0_1 a1 a2 = some (r1, r2)) :
  Calls Try.prog 27 #[.agg #[.slice A0_0 l0_0.length c0_0, .slice A0_1 l0_1.length c0_1], .int .i64 a1, .int .i64 a2] w fun e w' => ∃ v0_ v1_ : Value, e = .returned (.agg #[v0_, v1_]) ∧ Kd.R k33 33 w' w.heap.size (fun _ => True) v0_ r1 ∧ Kd.R (Kd.int .i64) 3 w' w.heap.size (fun _ => True) v1_ r2 ∧ Below w.heap.size w w' := by
 have hu25 := Try.underlying25
 have HR0_0 := aM hr0_0
 have HC0_0 := aM hc0_0
 clear hr0_0 hc0_0
 have HR0_1 := aM hr0_1
 have HC0_1 := aM hc0_1
 clear hr0_1 hc0_1
 have HB := aM (Below.refl w.heap.size w)
 have H : ((outline_clone.f l0_0 l0_1).bind fun bt157 => (outline_Moved.l0 k a1 a2 (bt157.1.length : Int) 0 bt157.1 bt157.2)) = some (r1, r2) := h
 clear h
 replace H := Option.bind_eq_some_iff.mp H
 obtain ⟨⟨t157, t160⟩, A40, H⟩ := H
 replace H : (outline_Moved.l0 k a1 a2 (t157.length : Int) 0 t157 t160) = some (r1, r2) := H
 have A4 := aM A40
 clear A40
 have H' := aM H
 clear H
 go_enter Try.func27, Try.ntmps27
 go_wp2_with (first | ((with_reducible refine gate_dst (N := 3) rfl ?_); refine box_event ?hg (N := 3) ?hd (cs := #[.slice A0_0 l0_0.length c0_0, .slice A0_1 l0_1.length c0_1]) (t := 25) ?hr ?_; (case hd => rfl); (case hg => rfl); (case hr => first | (go_simp; done) | (go_simp; rfl)); intro gb155 hg w5 hbox hb; have n0_ := aM (below_step (by repeat (first | (with_reducible first | exact HB.out | apply bA | apply bN | apply bD) | exact HB.out)) hb); have n1_ := aM (hbox); have n2_ := aM ((by rw [hg]; exact (below_size (by repeat (first | (with_reducible first | exact HB.out | apply bA | apply bN | apply bD) | exact HB.out))) : w.heap.size ≤ gb155)); have n3_ := aM ((by rw [hg]; exact (below_size (by repeat (first | (with_reducible first | exact HB.out | apply bA | apply bN | apply bD) | exact HB.out))) : w.heap.size ≤ gb155)); clear HB; have HB := n0_; have BK155 := n1_; have GW155 := n2_; have GE155 := n3_; clear n0_ n1_ n2_ n3_; clear hb hbox hg) | ((with_reducible refine gate_dst (N := 6) rfl ?_); refine box_event ?hg (N := 6) ?hd (cs := #[.slice none 0 0, .slice none 0 0]) (t := 25) ?hr ?_; (case hd => rfl); (case hg => rfl); (case hr => first | (go_simp; done) | (go_simp; rfl)); intro gb156 hg w6 hbox hb; have n0_ := aM (blk_below (g := gb155) (o := .cells #[.slice A0_0 l0_0.length c0_0, .slice A0_1 l0_1.length c0_1] 25 (0, 0)) (by (with_reducible repeat (first | refine kN ?_ _ | refine kD ?_ | refine kA ?_ _)); exact BK155.out) hb); have n1_ := aM (below_step (by repeat (first | (with_reducible first | exact HB.out | apply bA | apply bN | apply bD | refine bS ?_ GE155.out) | exact HB.out)) hb); have n2_ := aM (hbox); have n3_ := aM ((by rw [hg]; exact (below_size (by repeat (first | (with_reducible first | exact HB.out | apply bA | apply bN | apply bD | refine bS ?_ GE155.out) | exact HB.out))) : w.heap.size ≤ gb156)); have n4_ := aM ((by rw [hg]; exact (below_size (by repeat (first | (with_reducible first | exact HB.out | apply bA | apply bN | apply bD | refine bS ?_ GE155.out) | exact HB.out))) : w.heap.size ≤ gb156)); have n5_ := aM ((by rw [hg]; exact Nat.ne_of_lt (blk_lt (g := gb155) (o := .cells #[.slice A0_0 l0_0.length c0_0, .slice A0_1 l0_1.length c0_1] 25 (0, 0)) (by (with_reducible repeat (first | refine kN ?_ _ | refine kD ?_ | refine kA ?_ _)); exact BK155.out)) : gb155 ≠ gb156)); have n6_ := aM ((by rw [hg]; exact Nat.ne_of_gt (blk_lt (g := gb155) (o := .cells #[.slice A0_0 l0_0.length c0_0, .slice A0_1 l0_1.length c0_1] 25 (0, 0)) (by (with_reducible repeat (first | refine kN ?_ _ | refine kD ?_ | refine kA ?_ _)); exact BK155.out)) : gb156 ≠ gb155)); clear BK155; clear HB; have BK155 := n0_; have HB := n1_; have BK156 := n2_; have GW156 := n3_; have GE156 := n4_; have NB155_156 := n5_; have NB156_155 := n6_; clear n0_ n1_ n2_ n3_ n4_ n5_ n6_; clear hb hbox hg; have hnb7 := NB155_156.out; have hnc7 := NB156_155.out; have hcz8_0 : w6.cell? ⟨gb155, 0, none⟩ = some (.slice A0_0 l0_0.length c0_0) := (blk_cell BK155.out 0).trans rfl; have hcz8_1 : w6.cell? ⟨gb155, 1, none⟩ = some (.slice A0_1 l0_1.length c0_1) := (blk_cell BK155.out 1).trans rfl; have hfz8_0 := blk_frozen BK155.out 0; have hfz8_1 := blk_frozen BK155.out 1) | ((with_reducible refine gate_callee (f := 45) rfl ?_); refine goesL_ (some 10) rfl rfl Try.func45 (by kernel_rfl) rfl #[.agg #[.slice A0_0 l0_0.length c0_0, .slice A0_1 l0_1.length c0_1]] rfl (by (try simp only [List.map_toArray, List.map_cons, List.map_nil]); first | done | rfl | (simp only [List.length_drop, List.length_take]; rfl)) ?_; (with_reducible refine (outline_clone.calls _ _ l0_0 _ _ l0_1 t157 t160 _ ?side1 ?side2 ?side3 ?side4 A4.out).mono ?_); (case side1 => repeat (first | exact (Kd.C_below HR0_0.out HB.out) | (with_reducible refine Kd.C_alloc ?_ _) | (with_reducible refine Kd.C_drewN ?_ _) | (with_reducible refine Kd.C_drew ?_))); (case side2 => exact HC0_0.out); (case side3 => repeat (first | exact (Kd.C_below HR0_1.out HB.out) | (with_reducible refine Kd.C_alloc ?_ _) | (with_reducible refine Kd.C_drewN ?_ _) | (with_reducible refine Kd.C_drew ?_))); (case side4 => exact HC0_1.out); rintro e w9 ⟨v158, v161, rfl, ho0, ho1, hb⟩; refine ⟨_, rfl, ?_⟩; have n0_ := aM (Kd.R_lower ho0 (below_size (by repeat (first | (with_reducible first | exact HB.out | apply bA | apply bN | apply bD | refine bS ?_ GE155.out | refine bS ?_ GE156.out) | exact HB.out)))); have n1_ := aM (Kd.R_lower ho1 (below_size (by repeat (first | (with_reducible first | exact HB.out | apply bA | apply bN | apply bD | refine bS ?_ GE155.out | refine bS ?_ GE156.out) | exact HB.out)))); have n2_ := aM (blk_below (g := gb155) (o := .cells #[.slice A0_0 l0_0.length c0_0, .slice A0_1 l0_1.length c0_1] 25 (0, 0)) (by (with_reducible repeat (first | refine kN ?_ _ | refine kD ?_ | refine kA ?_ _)); exact BK155.out) hb); have n3_ := aM (blk_below (g := gb156) (o := .cells #[.slice none 0 0, .slice none 0 0] 25 (0, 0)) (by (with_reducible repeat (first | refine kN ?_ _ | refine kD ?_ | refine kA ?_ _)); exact BK156.out) hb); have n4_ := aM (below_step (by repeat (first | (with_reducible first | exact HB.out | apply bA | apply bN | apply bD | refine bS ?_ GE155.out | refine bS ?_ GE156.out) | exact HB.out)) hb); clear BK155; clear BK156; clear HB; have HO159 := n0_; have HO162 := n1_; have BK155 := n2_; have BK156 := n3_; have HB := n4_; clear n0_ n1_ n2_ n3_ n4_; (try clear hb); (try clear hb2); (try clear hk); (try clear hi); (try clear ho0); (try clear ho1)) | ((with_reducible refine gate_dst (N := 7) rfl ?_); refine box_event ?hg (N := 7) ?hd (cs := #[.slice none 0 0, .slice none 0 0]) (t := 25) ?hr ?_; (case hd => rfl); (case hg => rfl); (case hr => first | (go_simp; done) | (go_simp; rfl)); intro gb163 hg w10 hbox hb; have n0_ := aM (Kd.R_below (by (with_reducible repeat (first | apply Kd.R_alloc | apply Kd.R_drewN | apply Kd.R_drew)); exact HO159.out) hb); have n1_ := aM (Kd.R_below (by (with_reducible repeat (first | apply Kd.R_alloc | apply Kd.R_drewN | apply Kd.R_drew)); exact HO162.out) hb); have n2_ := aM (blk_below (g := gb155) (o := .cells #[.slice A0_0 l0_0.length c0_0, .slice A0_1 l0_1.length c0_1] 25 (0, 0)) (by (with_reducible repeat (first | refine kN ?_ _ | refine kD ?_ | refine kA ?_ _)); exact BK155.out) hb); have n3_ := aM (blk_below (g := gb156) (o := .cells #[.slice none 0 0, .slice none 0 0] 25 (0, 0)) (by (with_reducible repeat (first | refine kN ?_ _ | refine kD ?_ | refine kA ?_ _)); exact BK156.out) hb); have n4_ := aM (below_step (by repeat (first | (with_reducible first | exact HB.out | apply bA | apply bN | apply bD | refine bS ?_ GE155.out | refine bS ?_ GE156.out) | exact HB.out)) hb); have n5_ := aM (hbox); have n6_ := aM ((by rw [hg]; exact (below_size (by repeat (first | (with_reducible first | exact HB.out | apply bA | apply bN | apply bD | refine bS ?_ GE155.out | refine bS ?_ GE156.out) | exact HB.out))) : w.heap.size ≤ gb163)); have n7_ := aM ((by rw [hg]; exact (below_size (by repeat (first | (with_reducible first | exact HB.out | apply bA | apply bN | apply bD | refine bS ?_ GE155.out | refine bS ?_ GE156.out) | exact HB.out))) : w.heap.size ≤ gb163)); have n8_ := aM ((by rw [hg]; exact Nat.ne_of_lt (blk_lt (g := gb155) (o := .cells #[.slice A0_0 l0_0.length c0_0, .slice A0_1 l0_1.length c0_1] 25 (0, 0)) (by (with_reducible repeat (first | refine kN ?_ _ | refine kD ?_ | refine kA ?_ _)); exact BK155.out)) : gb155 ≠ gb163)); have n9_ := aM ((by rw [hg]; exact Nat.ne_of_gt (blk_lt (g := gb155) (o := .cells #[.slice A0_0 l0_0.length c0_0, .slice A0_1 l0_1.length c0_1] 25 (0, 0)) (by (with_reducible repeat (first | refine kN ?_ _ | refine kD ?_ | refine kA ?_ _)); exact BK155.out)) : gb163 ≠ gb155)); have n10_ := aM ((by rw [hg]; exact Nat.ne_of_lt (blk_lt (g := gb156) (o := .cells #[.slice none 0 0, .slice none 0 0] 25 (0, 0)) (by (with_reducible repeat (first | refine kN ?_ _ | refine kD ?_ | refine kA ?_ _)); exact BK156.out)) : gb156 ≠ gb163)); have n11_ := aM ((by rw [hg]; exact Nat.ne_of_gt (blk_lt (g := gb156) (o := .cells #[.slice none 0 0, .slice none 0 0] 25 (0, 0)) (by (with_reducible repeat (first | refine kN ?_ _ | refine kD ?_ | refine kA ?_ _)); exact BK156.out)) : gb163 ≠ gb156)); clear HO159; clear HO162; clear BK155; clear BK156; clear HB; have HO159 := n0_; have HO162 := n1_; have BK155 := n2_; have BK156 := n3_; have HB := n4_; have BK163 := n5_; have GW163 := n6_; have GE163 := n7_; have NB155_163 := n8_; have NB163_155 := n9_; have NB156_163 := n10_; have NB163_156 := n11_; clear n0_ n1_ n2_ n3_ n4_ n5_ n6_ n7_ n8_ n9_ n10_ n11_; clear hb hbox hg; obtain ⟨Ao11, co11, eo11⟩ := Kd.R_slice HO159.out; subst eo11; have hnb12 := NB163_155.out; have hnc12 := NB155_163.out; have hnb13 := NB163_156.out; have hnc13 := NB156_163.out; have hcz14_0 : w10.cell? ⟨gb163, 0, none⟩ = some (.slice none 0 0) := (blk_cell BK163.out 0).trans rfl; have hcz14_1 : w10.cell? ⟨gb163, 1, none⟩ = some (.slice none 0 0) := (blk_cell BK163.out 1).trans rfl; have hfz14_0 := blk_frozen BK163.out 0; have hfz14_1 := blk_frozen BK163.out 1; obtain ⟨Ao15, co15, eo15⟩ := Kd.R_slice HO162.out; subst eo15))
 go_loopg [14] k (fun kq v14 w' => ∃ (x14_1 : Int) (x164000_1 : List (S33)) (u164000 : Value), v14 = .int .i64 x14_1 ∧ Aside0 (outline_Moved.l0 kq a1 a2 (t157.length : Int) x14_1 x164000_1 t160 = some (r1, r2)) ∧ Aside0 (kq ≤ k) ∧ Aside0 (Kd.R k33 33 w' w.heap.size (fun _ => True) u164000 x164000_1) ∧ Aside0 (Kd.R (Kd.int .i64) 3 w' w.heap.size (fun _ => True) (.slice Ao15 t160.length co15) t160) ∧ Aside0 (w'.heap[gb155]? = some (.cells #[(.slice A0_0 l0_0.length c0_0), (.slice A0_1 l0_1.length c0_1)] 25 (0, 0))) ∧ Aside0 (w'.heap[gb156]? = some (.cells #[(.slice none 0 0), (.slice none 0 0)] 25 (0, 0))) ∧ Aside0 (w'.heap[gb163]? = some (.cells #[u164000, (.slice Ao15 t160.length co15)] 25 (0, 0))) ∧ Aside0 (Below w.heap.size w w'))
 case atStart => exact ⟨(0), (t157), (.slice Ao11 t157.length co11), (by first | rfl | (simp; done) | (simp [*]; done)), H', ⟨Nat.le_refl _⟩, ⟨by (with_reducible repeat (first | apply Kd.R_alloc | apply Kd.R_drewN | apply Kd.R_drew)); exact Kd.R_mono (Kd.R_far (p := ⟨gb163, 1, none⟩) (Kd.R_far (p := ⟨gb163, 0, none⟩) (Kd.R_types HO159.out BK163.out (by decide)) (fun _ hk => hk.2) (.slice Ao11 t157.length co11)) (fun _ hk => hk.2) (.slice Ao15 t160.length co15)) (fun _ hk => trivial)⟩, ⟨by (with_reducible repeat (first | apply Kd.R_alloc | apply Kd.R_drewN | apply Kd.R_drew)); exact Kd.R_mono (Kd.R_far (p := ⟨gb163, 1, none⟩) (Kd.R_far (p := ⟨gb163, 0, none⟩) (Kd.R_types HO162.out BK163.out (by decide)) (fun _ hk => hk.2) (.slice Ao11 t157.length co11)) (fun _ hk => hk.2) (.slice Ao15 t160.length co15)) (fun _ hk => trivial)⟩, ⟨by (with_reducible repeat (first | refine kN ?_ _ | refine kD ?_ | refine kA ?_ _)); refine blk_far ?_ NB155_163.out _; (with_reducible repeat (first | refine kN ?_ _ | refine kD ?_ | refine kA ?_ _)); refine blk_far ?_ NB155_163.out _; (with_reducible repeat (first | refine kN ?_ _ | refine kD ?_ | refine kA ?_ _)); exact BK155.out⟩, ⟨by (with_reducible repeat (first | refine kN ?_ _ | refine kD ?_ | refine kA ?_ _)); refine blk_far ?_ NB156_163.out _; (with_reducible repeat (first | refine kN ?_ _ | refine kD ?_ | refine kA ?_ _)); refine blk_far ?_ NB156_163.out _; (with_reducible repeat (first | refine kN ?_ _ | refine kD ?_ | refine kA ?_ _)); exact BK156.out⟩, ⟨by (with_reducible repeat (first | refine kN ?_ _ | refine kD ?_ | refine kA ?_ _)); refine blk_put (cs := #[.slice Ao11 t157.length co11, .slice none 0 0]) ?_ 1 _ rfl; (with_reducible repeat (first | refine kN ?_ _ | refine kD ?_ | refine kA ?_ _)); refine blk_put (cs := #[.slice none 0 0, .slice none 0 0]) ?_ 0 _ rfl; (with_reducible repeat (first | refine kN ?_ _ | refine kD ?_ | refine kA ?_ _)); exact BK163.out⟩, ⟨by repeat (first | (with_reducible first | exact HB.out | apply bA | apply bN | apply bD | refine bS ?_ GE155.out | refine bS ?_ GE156.out | refine bS ?_ GE163.out) | exact HB.out)⟩⟩
 case round =>
  clear H'
  try clear c1
  try clear c2
  try clear p2
  try clear c4
  try clear c7
  try clear c12
  try clear c13
  try clear hcz14_0
  try clear hcz14_1
  try clear hcz8_0
  try clear hcz8_1
  try clear hfz14_0
  try clear hfz14_1
  try clear hfz8_0
  try clear hfz8_1
  obtain ⟨x14_1, x164000_1, u164000, rfl, HA, HK1, HO_164000, HO_164001, BK155, BK156, BK163, HB⟩ := hrel
  cases gk with
  | zero => exact absurd HA.out (by simp [outline_Moved.l0])
  | succ k1 =>
   have H := HA.out
   clear HA
   simp only [outline_Moved.l0] at H
   by_cases c16 : x14_1 < (t157.length : Int)
   ·
    rw [if_pos c16] at H
    have c16b0 : decide (x14_1 < (t157.length : Int)) = true := decide_eq_true c16
    clear c16
    by_cases c17 : 0 ≤ x14_1
    ·
     rw [if_pos c17] at H
     have c17b0 : decide (0 ≤ x14_1) = true := decide_eq_true c17
     clear c17
     by_cases c18 : x14_1 < (x164000_1.length : Int)
     ·
      rw [if_pos c18] at H
      have c18b0 : decide (x14_1 < (x164000_1.length : Int)) = true := decide_eq_true c18
      clear c18
      obtain ⟨y165, hy165⟩ : ∃ y_ : List (S33), y_ = (x164000_1.set (x14_1 : Int).toNat (⟨wrap64 (((rd_T33 x164000_1 x14_1).f0) + a1), (rd_T33 x164000_1 x14_1).f1, (rd_T33 x164000_1 x14_1).f2⟩ : S33)) := ⟨_, rfl⟩
      replace H : (outline_Moved.l0 k1 a1 a2 (t157.length : Int) (wrap64 (x14_1 + 1)) (y165.set (x14_1 : Int).toNat (⟨(rd_T33 y165 x14_1).f0, wrap64 (((rd_T33 y165 x14_1).f1) + a2), (rd_T33 y165 x14_1).f2⟩ : S33)) t160) = some (r1, r2) := by first | (rw [hy165]; with_reducible exact H) | (have H2_ := (Option.bind_some _ _).symm.trans H; rw [hy165]; with_reducible exact H2_) | (have H2_ := (Option.bind_some _ _).symm.trans H; with_reducible exact H2_) | with_reducible exact H | (rw [hy165]; exact H) | exact H
      have Ny165 := aM hy165
      clear hy165
      obtain ⟨y167, hy167⟩ : ∃ y_ : List (S33), y_ = (y165.set (x14_1 : Int).toNat (⟨(rd_T33 y165 x14_1).f0, wrap64 (((rd_T33 y165 x14_1).f1) + a2), (rd_T33 y165 x14_1).f2⟩ : S33)) := ⟨_, rfl⟩
      replace H : (outline_Moved.l0 k1 a1 a2 (t157.length : Int) (wrap64 (x14_1 + 1)) y167 t160) = some (r1, r2) := by first | (rw [hy167]; with_reducible exact H) | (have H2_ := (Option.bind_some _ _).symm.trans H; rw [hy167]; with_reducible exact H2_) | (have H2_ := (Option.bind_some _ _).symm.trans H; with_reducible exact H2_) | with_reducible exact H | (rw [hy167]; exact H) | exact H
      have Ny167 := aM hy167
      clear hy167
      have H' := aM H
      clear H
      have hnb21 := NB163_155.out
      have hnc21 := NB155_163.out
      have hnb22 := NB163_156.out
      have hnc22 := NB156_163.out
      have hcz23_0 : wr.cell? ⟨gb163, 0, none⟩ = some (u164000) := (blk_cell BK163.out 0).trans rfl
      have hcz23_1 : wr.cell? ⟨gb163, 1, none⟩ = some (.slice Ao15 t160.length co15) := (blk_cell BK163.out 1).trans rfl
      have hfz23_0 := blk_frozen BK163.out 0
      have hfz23_1 := blk_frozen BK163.out 1
      obtain ⟨Ao24, co24, eo24⟩ := Kd.R_slice HO_164000.out
      subst eo24
      have p164 : 0 ≤ (x14_1 : Int) := of_decide_eq_true (by assumption)
      have q164 : x14_1 < (x164000_1.length : Int) := of_decide_eq_true (by assumption)
      obtain ⟨ad164, e164, hx164_0, hx164_1, hx164_2⟩ := at_T33 (Kd.R_reads' HO_164000.out).2.2 x14_1 p164 q164
      cases e164
      replace p164 := eq_true p164
      replace q164 := eq_true q164
      have p19 : 0 ≤ (x14_1 : Int) := of_decide_eq_true (by assumption)
      have q19 : (x14_1 : Int) < ((x164000_1.length : Int) : Int) := of_decide_eq_true (by assumption)
      obtain ⟨go19, co19, eo19, gb19, gl19, cl19, HG19⟩ := Kd.R_form HO_164000.out (by omega)
      (first | cases eo19 | (injection eo19 with ea_ en_ ec_; (first | subst ea_ | (injection ea_ with ea_; subst ea_)); subst ec_; clear en_))
      have GB19 := aM gb19
      have GG19 := aM HG19
      clear gb19 gl19 HG19
      (first | simp only [add_plain] at hx164_0 | skip)
      (first | simp only [add_plain] at hx164_1 | skip)
      (first | simp only [add_plain] at hx164_2 | skip)
      obtain ⟨ce19, hcl19, hM19, hcc19, hfr19⟩ := Kd.R_elem HO_164000.out z33 (x14_1 : Int) p19 q19
      obtain rfl := k33_openM hM19
      have hx19_0 : wr.cell? ⟨go19, (x14_1 : Int).toNat * 3, none⟩ = some (.int .i64 ((rd_T33 x164000_1 x14_1).f0)) := hcc19 0 _ rfl
      have hx19_1 : wr.cell? ⟨go19, (x14_1 : Int).toNat * 3 + 1, none⟩ = some (.int .i64 ((rd_T33 x164000_1 x14_1).f1)) := hcc19 1 _ rfl
      have hx19_2 : wr.cell? ⟨go19, (x14_1 : Int).toNat * 3 + 2, none⟩ = some (.bool ((rd_T33 x164000_1 x14_1).f2)) := hcc19 2 _ rfl
      have hf19_0 : wr.frozen? ⟨go19, (x14_1 : Int).toNat * 3, none⟩ = false := hfr19 0
      have hf19_1 : wr.frozen? ⟨go19, (x14_1 : Int).toNat * 3 + 1, none⟩ = false := hfr19 1
      have hf19_2 : wr.frozen? ⟨go19, (x14_1 : Int).toNat * 3 + 2, none⟩ = false := hfr19 2
      clear hcl19 hcc19 hfr19 hM19
      replace p19 := eq_true p19
      replace q19 := eq_true q19
      have HX25 := aM (show Kd.R k33 33 wr w.heap.size (fun _ => True) (.slice (some ⟨go19, 0, none⟩) x164000_1.length co24) x164000_1 from (by (with_reducible repeat (first | apply Kd.R_alloc | apply Kd.R_drewN | apply Kd.R_drew)); exact HO_164000.out))
      obtain ⟨ce25, hcl25, hM25, hcc25, hfr25⟩ := Kd.R_elem HX25.out z33 (x14_1 : Int) (of_decide_eq_true (by assumption)) (by have h_ : (x14_1 : Int) < ((x164000_1.length : Int) : Int) := of_decide_eq_true (by assumption); first | exact h_ | (have e_ := (Kd.R_reads' HO_164000.out).1; omega) | simpa using h_)
      obtain rfl := k33_openM hM25
      have HP25 := Kd.R_seg HX25.out (x14_1 : Int) (of_decide_eq_true (by assumption)) (by have h_ : (x14_1 : Int) < ((x164000_1.length : Int) : Int) := of_decide_eq_true (by assumption); first | exact h_ | (have e_ := (Kd.R_reads' HO_164000.out).1; omega) | simpa using h_) (seg := [.int .i64 (wrap64 (((rd_T33 x164000_1 x14_1).f0) + a1))]) (j := 0) hcl25 hcc25 (show 1 ≤ 3 from by decide) (x' := (⟨wrap64 (((rd_T33 x164000_1 x14_1).f0) + a1), (rd_T33 x164000_1 x14_1).f1, (rd_T33 x164000_1 x14_1).f2⟩ : S33)) (k33_mkM _ _ _ (⟨wrap64 (((rd_T33 x164000_1 x14_1).f0) + a1), (rd_T33 x164000_1 x14_1).f1, (rd_T33 x164000_1 x14_1).f2⟩ : S33) ) (fun _ hk => hk)
      have hx25_0 := hcc25 0 _ rfl
      (try simp only [show (k33).sz = 3 from rfl, Nat.mul_one, Nat.add_zero] at hx25_0)
      have hf25_0 := hfr25 0
      (try simp only [show (k33).sz = 3 from rfl, Nat.mul_one, Nat.add_zero] at hf25_0)
      clear hcl25 hcc25 hfr25 hM25
      go_wp2_with (first | ((with_reducible refine gate_store (t := 3) (p := 26) rfl ?_); refine store_event (t := 3) (p := 26) (v := ?vo_w26) (w1 := (wr.setCell ⟨go19, (x14_1 : Int).toNat * 3, none⟩ (.int .i64 (wrap64 (((rd_T33 x164000_1 x14_1).f0) + a1))))) ?hg ?ho ?hn ?hr ?_; (case ho => rfl); (case hg => rfl); (case hn => rfl); (case hr => first | (go_simp; done) | (go_simp; rfl)); intro w26 hw; have hg : wr.grownBy w26 (some go19) := (by rw [hw]; exact HP25.2); have hp_ : Kd.R k33 33 w26 w.heap.size (fun _ => True) (.slice (some ⟨go19, 0, none⟩) x164000_1.length co24) y165 := (by rw [hw, Ny165.out]; exact HP25.1); clear HP25; have n0_ := aM (hp_); have n1_ := aM (Kd.R_over' (v := (.slice (some ⟨go19, 0, none⟩) x164000_1.length co24)) (by (with_reducible repeat (first | apply Kd.R_alloc | apply Kd.R_drewN | apply Kd.R_drew)); exact HO_164001.out) (Kd.R_typed HO_164000.out) (by decide) hg); have n2_ := aM (blk_grown (g := gb155) (o := .cells #[.slice A0_0 l0_0.length c0_0, .slice A0_1 l0_1.length c0_1] 25 (0, 0)) (by (with_reducible repeat (first | refine kN ?_ _ | refine kD ?_ | refine kA ?_ _)); exact BK155.out) hg (Kd.R_ne HO_164000.out BK155.out (by decide))); have n3_ := aM (blk_grown (g := gb156) (o := .cells #[.slice none 0 0, .slice none 0 0] 25 (0, 0)) (by (with_reducible repeat (first | refine kN ?_ _ | refine kD ?_ | refine kA ?_ _)); exact BK156.out) hg (Kd.R_ne HO_164000.out BK156.out (by decide))); have n4_ := aM (blk_grown (g := gb163) (o := .cells #[.slice (some ⟨go19, 0, none⟩) x164000_1.length co24, .slice Ao15 t160.length co15] 25 (0, 0)) (by (with_reducible repeat (first | refine kN ?_ _ | refine kD ?_ | refine kA ?_ _)); exact BK163.out) hg (Kd.R_ne HO_164000.out BK163.out (by decide))); have n5_ := aM ((by rw [hw]; exact bS (HB.out) GB19.out : Below w.heap.size w w26)); clear HO_164000; clear HO_164001; clear BK155; clear BK156; clear BK163; clear HB; have HO_164000 := n0_; have HO_164001 := n1_; have BK155 := n2_; have BK156 := n3_; have BK163 := n4_; have HB := n5_; clear n0_ n1_ n2_ n3_ n4_ n5_; clear hg hw hp_; have hcz27_0 : w26.cell? ⟨gb163, 0, none⟩ = some (.slice (some ⟨go19, 0, none⟩) x164000_1.length co24) := (blk_cell BK163.out 0).trans rfl; have hcz27_1 : w26.cell? ⟨gb163, 1, none⟩ = some (.slice Ao15 t160.length co15) := (blk_cell BK163.out 1).trans rfl; have hfz27_0 := blk_frozen BK163.out 0; have hfz27_1 := blk_frozen BK163.out 1; have p166 : 0 ≤ (x14_1 : Int) := of_decide_eq_true (by assumption); have q166 : x14_1 < (y165.length : Int) := (by have h_ : (x14_1 : Int) < ((x164000_1.length : Int) : Int) := of_decide_eq_true (by assumption); first | (have e_ := (Kd.R_reads' HO_164000.out).1; omega) | simpa only [Ny165.out, List.length_set] using h_); have ql166 : ((x14_1 : Int) < ((x164000_1.length : Int) : Int)) = True := eq_true (of_decide_eq_true (by assumption)); obtain ⟨ad166, e166, hx166_0, hx166_1, hx166_2⟩ := at_T33 (Kd.R_reads' HO_164000.out).2.2 x14_1 p166 q166; obtain rfl : (⟨go19, 0, none⟩ : Addr) = ad166 := (by injection e166); (first | simp only [add_plain] at hx166_0 | simp only [add_at] at hx166_0 | simp only [Addr.add, Nat.zero_add] at hx166_0 | skip); (first | simp only [add_plain] at hx166_1 | simp only [add_at] at hx166_1 | simp only [Addr.add, Nat.zero_add] at hx166_1 | skip); (first | simp only [add_plain] at hx166_2 | simp only [add_at] at hx166_2 | simp only [Addr.add, Nat.zero_add] at hx166_2 | skip); replace p166 := eq_true p166; replace q166 := eq_true q166; have p20 : 0 ≤ (x14_1 : Int) := of_decide_eq_true (by assumption); have q20 : (x14_1 : Int) < ((x164000_1.length : Int) : Int) := of_decide_eq_true (by assumption); obtain ⟨ce20, hcl20, hM20, hcc20, hfr20⟩ := Kd.R_elem HO_164000.out z33 (x14_1 : Int) p20 q20; obtain rfl := k33_openM hM20; have hx20_0 : w26.cell? ⟨go19, (x14_1 : Int).toNat * 3, none⟩ = some (.int .i64 ((rd_T33 y165 x14_1).f0)) := hcc20 0 _ rfl; have hx20_1 : w26.cell? ⟨go19, (x14_1 : Int).toNat * 3 + 1, none⟩ = some (.int .i64 ((rd_T33 y165 x14_1).f1)) := hcc20 1 _ rfl; have hx20_2 : w26.cell? ⟨go19, (x14_1 : Int).toNat * 3 + 2, none⟩ = some (.bool ((rd_T33 y165 x14_1).f2)) := hcc20 2 _ rfl; have hf20_0 : w26.frozen? ⟨go19, (x14_1 : Int).toNat * 3, none⟩ = false := hfr20 0; have hf20_1 : w26.frozen? ⟨go19, (x14_1 : Int).toNat * 3 + 1, none⟩ = false := hfr20 1; have hf20_2 : w26.frozen? ⟨go19, (x14_1 : Int).toNat * 3 + 2, none⟩ = false := hfr20 2; clear hcl20 hcc20 hfr20 hM20; replace p20 := eq_true p20; replace q20 := eq_true q20; have HX28 := aM (show Kd.R k33 33 w26 w.heap.size (fun _ => True) (.slice (some ⟨go19, 0, none⟩) x164000_1.length co24) y165 from (by (with_reducible repeat (first | apply Kd.R_alloc | apply Kd.R_drewN | apply Kd.R_drew)); exact HO_164000.out)); obtain ⟨ce28, hcl28, hM28, hcc28, hfr28⟩ := Kd.R_elem HX28.out z33 (x14_1 : Int) (of_decide_eq_true (by assumption)) (by have h_ : (x14_1 : Int) < ((x164000_1.length : Int) : Int) := of_decide_eq_true (by assumption); first | exact h_ | (have e_ := (Kd.R_reads' HO_164000.out).1; omega) | simpa using h_); obtain rfl := k33_openM hM28; have HP28 := Kd.R_seg HX28.out (x14_1 : Int) (of_decide_eq_true (by assumption)) (by have h_ : (x14_1 : Int) < ((x164000_1.length : Int) : Int) := of_decide_eq_true (by assumption); first | exact h_ | (have e_ := (Kd.R_reads' HO_164000.out).1; omega) | simpa using h_) (seg := [.int .i64 (wrap64 (((rd_T33 y165 x14_1).f1) + a2))]) (j := 1) hcl28 hcc28 (show 2 ≤ 3 from by decide) (x' := (⟨(rd_T33 y165 x14_1).f0, wrap64 (((rd_T33 y165 x14_1).f1) + a2), (rd_T33 y165 x14_1).f2⟩ : S33)) (k33_mkM _ _ _ (⟨(rd_T33 y165 x14_1).f0, wrap64 (((rd_T33 y165 x14_1).f1) + a2), (rd_T33 y165 x14_1).f2⟩ : S33) ) (fun _ hk => hk); have hx28_1 := hcc28 1 _ rfl; (try simp only [show (k33).sz = 3 from rfl, Nat.mul_one, Nat.add_zero] at hx28_1); have hf28_1 := hfr28 1; (try simp only [show (k33).sz = 3 from rfl, Nat.mul_one, Nat.add_zero] at hf28_1); clear hcl28 hcc28 hfr28 hM28) | ((with_reducible refine gate_store (t := 3) (p := 36) rfl ?_); refine store_event (t := 3) (p := 36) (v := ?vo_w29) (w1 := (w26.setCell ⟨go19, (x14_1 : Int).toNat * 3 + 1, none⟩ (.int .i64 (wrap64 (((rd_T33 y165 x14_1).f1) + a2))))) ?hg ?ho ?hn ?hr ?_; (case ho => rfl); (case hg => rfl); (case hn => rfl); (case hr => first | (go_simp; done) | (go_simp; rfl)); intro w29 hw; have hg : w26.grownBy w29 (some go19) := (by rw [hw]; exact HP28.2); have hp_ : Kd.R k33 33 w29 w.heap.size (fun _ => True) (.slice (some ⟨go19, 0, none⟩) x164000_1.length co24) y167 := (by rw [hw, Ny167.out]; exact HP28.1); clear HP28; have n0_ := aM (hp_); have n1_ := aM (Kd.R_over' (v := (.slice (some ⟨go19, 0, none⟩) x164000_1.length co24)) (by (with_reducible repeat (first | apply Kd.R_alloc | apply Kd.R_drewN | apply Kd.R_drew)); exact HO_164001.out) (Kd.R_typed HO_164000.out) (by decide) hg); have n2_ := aM (blk_grown (g := gb155) (o := .cells #[.slice A0_0 l0_0.length c0_0, .slice A0_1 l0_1.length c0_1] 25 (0, 0)) (by (with_reducible repeat (first | refine kN ?_ _ | refine kD ?_ | refine kA ?_ _)); exact BK155.out) hg (Kd.R_ne HO_164000.out BK155.out (by decide))); have n3_ := aM (blk_grown (g := gb156) (o := .cells #[.slice none 0 0, .slice none 0 0] 25 (0, 0)) (by (with_reducible repeat (first | refine kN ?_ _ | refine kD ?_ | refine kA ?_ _)); exact BK156.out) hg (Kd.R_ne HO_164000.out BK156.out (by decide))); have n4_ := aM (blk_grown (g := gb163) (o := .cells #[.slice (some ⟨go19, 0, none⟩) x164000_1.length co24, .slice Ao15 t160.length co15] 25 (0, 0)) (by (with_reducible repeat (first | refine kN ?_ _ | refine kD ?_ | refine kA ?_ _)); exact BK163.out) hg (Kd.R_ne HO_164000.out BK163.out (by decide))); have n5_ := aM ((by rw [hw]; exact bS (HB.out) GB19.out : Below w.heap.size w w29)); clear HO_164000; clear HO_164001; clear BK155; clear BK156; clear BK163; clear HB; have HO_164000 := n0_; have HO_164001 := n1_; have BK155 := n2_; have BK156 := n3_; have BK163 := n4_; have HB := n5_; clear n0_ n1_ n2_ n3_ n4_ n5_; clear hg hw hp_))
      go_roundg k1
      case measure => have := HK1.out; omega
      case rel => exact ⟨(wrap64 (x14_1 + 1)), (y167), (.slice (some ⟨go19, 0, none⟩) x164000_1.length co24), (by first | rfl | (simp; done) | (simp [*]; done)), H', ⟨by have := HK1.out; omega⟩, ⟨by (with_reducible repeat (first | apply Kd.R_alloc | apply Kd.R_drewN | apply Kd.R_drew)); exact HO_164000.out⟩, ⟨by (with_reducible repeat (first | apply Kd.R_alloc | apply Kd.R_drewN | apply Kd.R_drew)); exact HO_164001.out⟩, ⟨by (with_reducible repeat (first | refine kN ?_ _ | refine kD ?_ | refine kA ?_ _)); exact BK155.out⟩, ⟨by (with_reducible repeat (first | refine kN ?_ _ | refine kD ?_ | refine kA ?_ _)); exact BK156.out⟩, ⟨by (with_reducible repeat (first | refine kN ?_ _ | refine kD ?_ | refine kA ?_ _)); exact BK163.out⟩, ⟨by repeat (first | (with_reducible first | exact HB.out | apply bA | apply bN | apply bD | refine bS ?_ GE155.out | refine bS ?_ GE156.out | refine bS ?_ GE163.out) | exact HB.out)⟩⟩
     ·
      rw [if_neg c18] at H
      exact absurd H (by simp)
    ·
     rw [if_neg c17] at H
     exact absurd H (by simp)
   ·
    rw [if_neg c16] at H
    have c16b0 : decide (x14_1 < (t157.length : Int)) = false := decide_eq_false c16
    clear c16
    simp only [Option.some.injEq, Prod.mk.injEq] at H
    obtain ⟨rfl, rfl⟩ := H
    have hnb30 := NB163_155.out
    have hnc30 := NB155_163.out
    have hnb31 := NB163_156.out
    have hnc31 := NB156_163.out
    have hcz32_0 : wr.cell? ⟨gb163, 0, none⟩ = some (u164000) := (blk_cell BK163.out 0).trans rfl
    have hcz32_1 : wr.cell? ⟨gb163, 1, none⟩ = some (.slice Ao15 t160.length co15) := (blk_cell BK163.out 1).trans rfl
    have hfz32_0 := blk_frozen BK163.out 0
    have hfz32_1 := blk_frozen BK163.out 1
    obtain ⟨Ao33, co33, eo33⟩ := Kd.R_slice HO_164000.out
    subst eo33
    have hnb34 := NB156_155.out
    have hnc34 := NB155_156.out
    have hcz35_0 : wr.cell? ⟨gb156, 0, none⟩ = some (.slice none 0 0) := (blk_cell BK156.out 0).trans rfl
    have hcz35_1 : wr.cell? ⟨gb156, 1, none⟩ = some (.slice none 0 0) := (blk_cell BK156.out 1).trans rfl
    have hfz35_0 := blk_frozen BK156.out 0
    have hfz35_1 := blk_frozen BK156.out 1
    go_wp2
    refine bodyPost_ret (results_cell_row rfl _ _ gb156 25 #[.slice Ao33 x164000_1.length co33, .slice Ao15 t160.length co15] (0, 0) _ rfl (by (with_reducible repeat (first | refine kN ?_ _ | refine kD ?_ | refine kA ?_ _)); refine blk_put (cs := #[.slice Ao33 x164000_1.length co33, .slice none 0 0]) ?_ 1 _ rfl; (with_reducible repeat (first | refine kN ?_ _ | refine kD ?_ | refine kA ?_ _)); refine blk_put (cs := #[.slice none 0 0, .slice none 0 0]) ?_ 0 _ rfl; (with_reducible repeat (first | refine kN ?_ _ | refine kD ?_ | refine kA ?_ _)); exact BK156.out) Try.underlying25 rfl (by kernel_rfl)) rfl ?_
    exact ⟨_, _, by first | rfl | (simp [errW_none, errW_some] <;> rfl) | (simp [*, errW_none, errW_some] <;> rfl), by (with_reducible repeat (first | apply Kd.R_alloc | apply Kd.R_drewN | apply Kd.R_drew)); exact Kd.R_mono (Kd.R_far (p := ⟨gb156, 1, none⟩) (Kd.R_far (p := ⟨gb156, 0, none⟩) (Kd.R_types HO_164000.out BK156.out (by decide)) (fun _ hk => hk.2) (.slice Ao33 x164000_1.length co33)) (fun _ hk => hk.2) (.slice Ao15 t160.length co15)) (fun _ hk => trivial), by (with_reducible repeat (first | apply Kd.R_alloc | apply Kd.R_drewN | apply Kd.R_drew)); exact Kd.R_mono (Kd.R_far (p := ⟨gb156, 1, none⟩) (Kd.R_far (p := ⟨gb156, 0, none⟩) (Kd.R_types HO_164001.out BK156.out (by decide)) (fun _ hk => hk.2) (.slice Ao33 x164000_1.length co33)) (fun _ hk => hk.2) (.slice Ao15 t160.length co15)) (fun _ hk => trivial), by repeat (first | (with_reducible first | exact HB.out | apply bA | apply bN | apply bD | refine bS ?_ GE155.out | refine bS ?_ GE156.out | refine bS ?_ GE163.out) | exact HB.out)⟩

-- NOT PRINTED: function 47 (outline_cuts)

end Go.Proofs.Ytbmklpcheopgoaa.H

namespace Go.Proofs.Ytbmklpcheopgoaa.H
open Go.RowKit Go.Proofs.YtbmklpcheopgoaaW.PrintWords Go.Proofs.YtbmklpcheopgoaaW.PrintLast Go.Proofs.YtbmklpcheopgoaaW.PrintMore
attribute [local go_sem] max2_int min2_int max_two min_two max_three min_three max_four min_four   -- for this text's walks alone
set_option linter.unusedVariables false
set_option linter.unusedSimpArgs false

/-! ### outline_Reversed: function 29 -/
open Go.Proofs.YtbmklpcheopgoaaOps Go.Proofs.YtbmklpcheopgoaaIt Go.Proofs.YtbmklpcheopgoaaBlks Go.Proofs.YtbmklpcheopgoaaFlat Go.Shelf
attribute [local go_sem] Oper.semAt_some wide_depth wide_fn World.cell?_alloc_some
theorem flat_pt : Flat k33 := fun _ _ _ _ _ _ _ _ h => by rw [k33_openM h]; exact k33_mkM _ _ _ _
theorem info_pt : (Try.prog.info? 33).map (·.size) = some (Kd.sz k33) := by kernel_rfl
/-- Two elements change places. -/
def swapAt (l : List S33) (a b : Nat) : List S33 := (l.set a (rd_T33 l (b : Nat))).set b (rd_T33 l (a : Nat))
def revK (l : List S33) (s t : Nat) (m : Nat) : List S33 := (List.range m).foldl (fun l j => swapAt l (s + (1 + j)) (s + (t - s - 1 - j))) l
def revC (l : List S33) (c : Int × Int) : List S33 := revK l c.1.toNat c.2.toNat ((c.2.toNat - c.1.toNat - 1) / 2)
def revL (pts : List S33) (es : List Int) (k : Nat) : List S33 := ((cutsL es pts.length).take k).foldl revC pts
theorem revK_succ (l : List S33) (s t m : Nat) : revK l s t (m + 1) = swapAt (revK l s t m) (s + (1 + m)) (s + (t - s - 1 - m)) := by simp [revK, List.range_succ]
theorem swapAt_len (l : List S33) (a b : Nat) : (swapAt l a b).length = l.length := by simp [swapAt]
theorem revK_len (l : List S33) (s t m : Nat) : (revK l s t m).length = l.length := by
 induction m with
 | zero => simp [revK]
 | succ m ih => rw [revK_succ, swapAt_len, ih]
theorem revL_len (pts : List S33) (es : List Int) (k : Nat) : (revL pts es k).length = pts.length := by
 unfold revL
 generalize (cutsL es pts.length).take k = cs
 suffices h : ∀ (cs : List (Int × Int)) (l : List S33), (cs.foldl revC l).length = l.length from h cs pts
 intro cs
 induction cs with
 | nil => intro l; rfl
 | cons c cs ih => intro l; rw [List.foldl_cons, ih]; exact revK_len _ _ _ _
theorem run_indexAddr_pt {o : Oper} {ρ : Operand → Value} {x y : Operand} {W : World} {g s n c i : Nat} {j : Nat} (ho : o.op = .indexAddr 22 x y) (hx : ρ x = .slice (some ⟨g, s * 3, none⟩) n c) (hy : ρ y = .int .i64 (i : Int)) (hi : i < n) (hj : j = s + i) :
  (execOp ρ o).run Try.prog W = .ok (.value (.pointer (some ⟨g, j * 3, none⟩))) W := by
 subst hj
 have hu := Try.underlying22
 have e : (s + i) * 3 = s * 3 + i * 3 := by omega
 unfold execOp
 simp only [ho, hx, hy]
 simp [go_sem, hu, hi, e]
theorem run_load_pt {o : Oper} {ρ : Operand → Value} {x : Operand} {W : World} {g q : Nat} {p : S33} (ho : o.op = .load 33 x) (hx : ρ x = .pointer (some ⟨g, q * 3, none⟩)) (h0 : W.cell? ⟨g, q * 3 + 0, none⟩ = some (.int .i64 p.f0)) (h1 : W.cell? ⟨g, q * 3 + 1, none⟩ = some (.int .i64 p.f1)) (h2 : W.cell? ⟨g, q * 3 + 2, none⟩ = some (.bool p.f2)) :
  (execOp ρ o).run Try.prog W = .ok (.value (.agg #[.int .i64 p.f0, .int .i64 p.f1, .bool p.f2])) W := by
 have hu := Try.underlying33
 unfold execOp
 simp only [ho, hx]
 rw [Nat.add_zero] at h0
 simp [go_sem, hu, h0, h1, h2]

set_option maxRecDepth 100000 in
set_option maxHeartbeats 4000000 in
theorem reversed_calls (A0 A1 : Option Addr) (c0 c1 : Nat) (pts : List S33) (es : List Int) (w : World) (hp : Kd.C k33 w A0 pts.length pts) (hc0 : pts.length ≤ c0) (hes : (Kd.int .i64).C w A1 es.length es) (hc1 : es.length ≤ c1) (hlim : pts.length ≤ 1000000) (hlime : es.length ≤ 1000000) :
  Calls Try.prog 29 #[.agg #[.slice A0 pts.length c0, .slice A1 es.length c1]] w fun e w' => ∃ v0 v1 : Value, e = .returned (.agg #[v0, v1]) ∧ Kd.R k33 33 w' w.heap.size (fun _ => True) v0 (revL pts es (cutsL es pts.length).length) ∧ Kd.R (Kd.int .i64) 3 w' w.heap.size (fun _ => True) v1 es ∧ Below w.heap.size w w' := by
 have hu := Try.underlying25
 have hu2 := Try.underlying33
 have hcl : outline_clone.f pts es = some (pts, es) := by
  unfold outline_clone.f
  rw [if_pos (by simp; omega), if_pos (by simp; omega)]
  simp
 refine (callsIn_wide (n := 0)).1 (callsIn_of_wp_marks Try.func29 rfl trivial ?_ rfl)
 simp only [Try.ntmps29, List.size_toArray, List.length_cons, List.length_nil, Nat.reduceAdd, Nat.reduceSub, Array.replicate_succ, Array.replicate_zero, List.push_toArray, List.append_toArray, List.nil_append, List.cons_append]
 gi_wp2
 generalize hV0 : World.alloc (World.alloc w _) _ = V0
 have hbV0 : Below w.heap.size w V0 := by rw [← hV0]; exact ((Below.refl _ w).alloc (Nat.le_refl _) _).alloc (by simp) _
 have hB0 : Blks [(w.heap.size + 1, .cells #[.slice none 0 0, .slice none 0 0] 25 (0, 0)), (w.heap.size, .cells #[.slice A0 pts.length c0, .slice A1 es.length c1] 25 (0, 0))] V0 := by rw [← hV0]; exact ((Blks.nil w).alloc _).alloc_at _ (by simp)
 have hs0 : V0.heap.size = w.heap.size + 1 + 1 := by rw [← hV0]; simp
 clear hV0
 refine CallsIn.mono (callsIn_wide.2 (outline_clone.calls A0 c0 pts A1 c1 es pts es V0 (Kd.C_below hp hbV0) hc0 (Kd.C_below hes hbV0) hc1 hcl)) ?_
 rintro e V1 ⟨v0, v1, rfl, hR0, hR1, hbV1⟩
 obtain ⟨Ap, cp, rfl⟩ := Kd.R_slice hR0
 obtain ⟨Ae, ce, rfl⟩ := Kd.R_slice hR1
 gi_wp2
 have hE1 := R_own1 (flat_int .i64) hR1
 have hP1 := R_own1 flat_pt hR0
 obtain ⟨vp, hvp⟩ : ∃ vp : Value, vp = .slice Ap pts.length cp := ⟨_, rfl⟩
 obtain ⟨ve, hve⟩ : ∃ ve : Value, ve = .slice Ae es.length ce := ⟨_, rfl⟩
 have hpk : ∀ k, vp.ownBlock = some k → V0.heap.size ≤ k ∧ k < V1.heap.size ∧ ∃ cells, V1.heap[k]? = some (.cells cells 33 (0, 0)) := by
  intro k hk; rw [hvp] at hk
  obtain ⟨_, inner, ho, _⟩ := hR0
  exact ⟨own_base ho k hk, own_lt ho k hk, own_typed ho k hk⟩
 have hek : ∀ k, ve.ownBlock = some k → V0.heap.size ≤ k ∧ k < V1.heap.size ∧ ∃ cells, V1.heap[k]? = some (.cells cells 3 (0, 0)) := by
  intro k hk; rw [hve] at hk
  obtain ⟨_, inner, ho, _⟩ := hR1
  exact ⟨own_base ho k hk, own_lt ho k hk, own_typed ho k hk⟩
 have hne : ∀ k, vp.ownBlock = some k → ve.ownBlock = some k → False := by
  intro k h1 h2
  obtain ⟨_, _, cs1, e1⟩ := hpk k h1
  obtain ⟨_, _, cs2, e2⟩ := hek k h2
  rw [e1] at e2; injection e2 with e2; injection e2 with _ e2; cases e2
 have hB1 := (hB0.below hbV1).alloc (.cells #[.slice Ap pts.length cp, .slice Ae es.length ce] 25)
 refine CallsIn.mono (cuts_calls 0 _ _ _ _ _) ?_
 rintro e w' ⟨rfl, rfl⟩
 gi_wp2
 generalize hV : World.alloc (World.alloc (World.alloc V1 _) _) _ = V
 have hVs : V.heap.size = V1.heap.size + 1 + 1 + 1 := by rw [← hV]; simp
 have hbV : Below V1.heap.size V1 V := by rw [← hV]; exact (((Below.refl _ V1).alloc (Nat.le_refl _) _).alloc (by simp) _).alloc (by simp; omega) _
 have hB2 : Blks [(V1.heap.size + 1 + 1, .cells #[.int .i64 pts.length] 3 (0, 0)), (V1.heap.size + 1, .cells #[.slice Ae es.length ce] 23 (0, 0)), (V1.heap.size, .cells #[.slice Ap pts.length cp, .slice Ae es.length ce] 25 (0, 0)), (w.heap.size + 1, .cells #[.slice none 0 0, .slice none 0 0] 25 (0, 0)), (w.heap.size, .cells #[.slice A0 pts.length c0, .slice A1 es.length c1] 25 (0, 0))] V := by
  rw [← hV]; exact (hB1.alloc_at _ (by simp)).alloc_at _ (by simp)
 have hbw : Below w.heap.size w V := (hbV0.trans (hbV1.mono (by omega))).trans (hbV.mono (by have := hbV1.size; omega))
 have hVV := hbV1.size
 have hPV := R_chg hP1 (Chg.of_fresh (S := fun _ => False) hbV) (fun _ _ => id)
 have hEV := R_chg hE1 (Chg.of_fresh (S := fun _ => False) hbV) (fun _ _ => id)
 have hit := cuts_it V Ae ce es pts.length (by omega) (V1.heap.size + 1) (V1.heap.size + 1 + 1) (hB2.cell 1 rfl 0) (hB2.cell 0 rfl 0) (Kd.R_reads' hEV).2.2
 have HV := Lib.hid hV
 clear hV hB1 hB0 hP1 hE1 hR0 hR1 hcl
 refine range_outer hit (by rfl) (fun args w => by simp [go_sem])
  (fun k own V' => (∀ b, own b ↔ Own1 vp b) ∧ Kd.R k33 33 V' V0.heap.size (Own1 vp) vp (revL pts es k) ∧ Kd.R (Kd.int .i64) 3 V' V0.heap.size (Own1 ve) ve es ∧ Blks [(V1.heap.size, .cells #[vp, ve] 25 (0, 0)), (w.heap.size + 1, .cells #[.slice none 0 0, .slice none 0 0] 25 (0, 0))] V' ∧ Below w.heap.size w V' ∧ V.heap.size ≤ V'.heap.size)
  (fun c k own V' => False)
  (Own1 vp) ?_ ?_ ?_ ?_ ?_
  (fun k own a' V' => ∃ (c : Int × Int) (X : Nat), (cutsL es pts.length)[k]? = some c ∧ a' = ⟨#[.agg #[.slice A0 pts.length c0, .slice A1 es.length c1], .pointer (some ⟨w.heap.size, 0, none⟩), .pointer (some ⟨w.heap.size + 1, 0, none⟩), .pointer (some ⟨V1.heap.size, 0, none⟩), undef, .pointer (some ⟨X, 0, none⟩), undef, undef, undef, .agg #[.slice A0 pts.length c0, .slice A1 es.length c1], .agg #[.slice Ap pts.length cp, .slice Ae es.length ce], .pointer (some ⟨V1.heap.size, 1, none⟩), .slice Ae es.length ce, .pointer (some ⟨V1.heap.size, 0, none⟩), .slice Ap pts.length cp, .int .i64 pts.length, .func (.func 55) #[] #[.pointer (some ⟨V1.heap.size + 1, 0, none⟩), .pointer (some ⟨V1.heap.size + 1 + 1, 0, none⟩)], .int .i64 k, .agg #[.int .i64 c.1, .int .i64 c.2], undef, undef, undef, undef, undef, undef, undef, undef, undef, undef, undef, undef, undef, undef, undef, undef, undef, undef, undef, undef, undef, undef, undef, undef, undef, undef, undef, undef, undef, undef, undef, undef, undef, undef], []⟩ ∧ V.heap.size ≤ X ∧ Blks [(X, .cells #[.int .i64 c.1, .int .i64 c.2] 64 (0, 0))] V') ?_ ?_ ?_ ?_ ?_
 ·
  rintro k own Va Vb ⟨h1, h2, h3, h4, h5, h6⟩ hc
  refine ⟨h1, R_chg h2 hc (fun k hk hs => hs.2 ((h1 k).2 hk.symm)), R_chg h3 hc (fun k hk hs => by have := (hek k hk).2.1; omega), h4.chg hc ?_, h5.trans (hc.below (Nat.le_trans (by omega) h5.size) (fun i hi h => by omega)), Nat.le_trans h6 hc.size⟩
  intro b hb hs
  simp at hb
  omega
 ·
  rintro c k own V1 V2 h hc
  exact h
 ·
  rintro k W args ⟨c, _, rfl⟩
  rfl
 ·
  rintro b hb
  obtain ⟨q1, q2, _⟩ := hpk b hb.symm
  refine ⟨by omega, fun hr => ?_⟩
  rcases hr with ⟨h0, ad, hA, hr⟩ | hr | hr
  ·
   obtain ⟨g, cap, e1, _⟩ := Kd.R_form hEV (by omega)
   rw [e1] at hve
   subst hA
   have e2 : ad = ⟨g, 0, none⟩ := by injection e1 with e1; injection e1 with e1
   subst e2
   exact hne b hb.symm (by rw [hve]; simp [Value.ownBlock]; exact hr.symm)
  ·
   omega
  ·
   omega
 ·
  subst hvp; subst hve
  exact ⟨fun b => Iff.rfl, by simpa [revL] using hPV, hEV, (hB2.tail).tail.sub (by simp), hbw, Nat.le_refl _⟩
 ·
  rintro lc k own a' Va o o' hlc ⟨c, X, hk, ha, hX, hB⟩ ho hcells
  refine ⟨c, X, hk, ha, hX, hB.chg (Chg.putSelf _ lc o') ?_⟩
  intro b hb e
  simp at hb
  subst hb; subst e
  have := hB.blk 0 rfl
  rw [this] at ho
  cases ho
  cases hcells
 ·
  rintro lc n k own args Va hlc ⟨h1, h2, h3, h4, h5, h6⟩ how hlt hno hk ⟨c, hkc, rfl⟩ _
  gi_wp2
  refine ⟨own, GrowG.refl _ _ _, fun b hb => Nat.lt_of_lt_of_le (how b hb) (by simp), (Chg.refl _ _).alloc _, ⟨h1, R_chg h2 ((Chg.refl (fun _ => False) _).alloc _) (fun _ _ => id), R_chg h3 ((Chg.refl (fun _ => False) _).alloc _) (fun _ _ => id), (h4.alloc _).tail, h5.alloc h5.size _, by simp; omega⟩, c, Va.heap.size, hkc, rfl, h6, (Blks.nil _).alloc _⟩
 ·
  rintro lc n k own a' Va hlc ⟨h1, h2, h3, h4, h5, h6⟩ how ⟨rl, hrl⟩ hno hk ⟨c, X, hkc, rfl, hX, hBX⟩
  obtain ⟨m1, m2, m3⟩ := cutsF_mem es pts.length 0 k c hkc
  have hnext : revL pts es (k + 1) = revC (revL pts es k) c := by simp [revL, List.take_add_one, hkc]
  obtain ⟨s, hs⟩ : ∃ s : Nat, c.1 = s := ⟨c.1.toNat, by omega⟩
  obtain ⟨t, ht⟩ : ∃ t : Nat, c.2 = t := ⟨c.2.toNat, by omega⟩
  have hlen := revL_len pts es k
  have hcp := (Kd.R_reads' (by rw [hvp] at h2; exact h2)).2.1
  obtain ⟨g, cap, e1, hg1, hg2, _⟩ := Kd.R_form h2 (by omega)
  rw [hvp] at e1
  injection e1 with e1 e2 e3
  subst e1; subst e3
  simp only [revC, hs, ht, Int.toNat_natCast] at hnext
  rw [hs, ht] at hBX m2
  rw [ht] at m3
  rw [hs, ht]
  have hNX := Lib.hid hnext
  clear hnext hs ht m1 hkc e2
  generalize hl0 : revL pts es k = l0 at *
  have HL0 := Lib.hid hl0
  clear hl0
  have hst : s < t := by omega
  have htn : t ≤ pts.length := by omega
  have hus := Try.underlying22
  have hse : s ≤ t := by omega
  have hec : t ≤ cp := by omega
  have hsc : ¬ (t = s) := by omega
  have hsc2 : ¬ (t - s = 0) := by omega
  subst hvp
  have g0 := h4.cell 0 rfl 0
  have g1 := h4.cell 0 rfl 1
  have g2 := hBX.cell 0 rfl 0
  have g3 := hBX.cell 0 rfl 1
  simp at g0 g1 g2 g3
  have hgX : ¬ own X := fun h => by have := hpk X ((h1 X).1 h).symm; omega
  have HH := Lib.hid (And.intro h2 (And.intro h3 (And.intro h4 h5)))
  have HOWN := Lib.hid h1
  clear h1 h3 h4 h5 m2 m3
  gi_wp2
  gi_loopw [7, 8] (fun v7 v8 wr => ∃ m : Nat, m ≤ (t - s - 1) / 2 ∧ v7 = .int .i64 ((1 + m : Nat) : Int) ∧ v8 = .int .i64 ((t - s - 1 - m : Nat) : Int) ∧ Aside0 (Kd.R k33 33 wr V0.heap.size (Own1 (.slice (some ⟨g, 0, none⟩) pts.length cp)) (.slice (some ⟨g, 0, none⟩) pts.length cp) (revK l0 s t m) ∧ Chg (fun i => i = g) Va wr))
   (fun _ v8 _ => (intOf v8).toNat)
  case atStart => exact ⟨0, by omega, rfl, by congr 1; omega, ⟨h2, Chg.refl _ _⟩⟩
  case round =>
   obtain ⟨m, hm, rfl, rfl, ⟨HR, HC⟩⟩ := hrel
   have hlr := revK_len l0 s t m
   by_cases hlt : 1 + m < t - s - 1 - m
   ·
    have hd : decide (1 + (m : Int) < ((t - s - 1 - m : Nat) : Int)) = true := by simp; omega
    have HKS := Lib.hid (revK_succ l0 s t m)
    generalize hl : revK l0 s t m = l at *
    have HLL := Lib.hid hl
    clear hl
    have HHR := Lib.hid HR
    have HHC := Lib.hid HC
    clear HR HC
    gi_wp2
    have HR := HHR.out
    have HC := HHC.out
    clear HHR HHC
    refine Go.Proofs.YtbmklpcheopgoaaReg.regIn_inv (by rfl) [0, 1, 2, 3, 4, 5, 6, 7, 8, 9, 10, 11, 12, 13, 14, 15] (by kernel_rfl) (by kernel_rfl)
     (fun lst a W' => ∃ (b0 b1 b2 b3 b4 b5 b6 b7 b8 b9 b10 b11 b12 b13 b14 b15 : Bool), lst = #[b0, b1, b2, b3, b4, b5, b6, b7, b8, b9, b10, b11, b12, b13, b14, b15] ∧ a = ⟨#[.agg #[.slice A0 pts.length c0, .slice A1 es.length c1], .pointer (some ⟨w.heap.size, 0, none⟩), .pointer (some ⟨w.heap.size + 1, 0, none⟩), .pointer (some ⟨V1.heap.size, 0, none⟩), undef, .pointer (some ⟨X, 0, none⟩), .slice (some ⟨g, s * 3, none⟩) (t - s) (t - s), .int .i64 (((1 + m : Nat) : Int)), .int .i64 (((t - s - 1 - m : Nat) : Int)), .agg #[.slice A0 pts.length c0, .slice A1 es.length c1], .agg #[.slice (some ⟨g, 0, none⟩) pts.length cp, .slice Ae es.length ce], .pointer (some ⟨V1.heap.size, 1, none⟩), .slice Ae es.length ce, .pointer (some ⟨V1.heap.size, 0, none⟩), .slice (some ⟨g, 0, none⟩) pts.length cp, .int .i64 pts.length, .func (.func 55) #[] #[.pointer (some ⟨V1.heap.size + 1, 0, none⟩), .pointer (some ⟨V1.heap.size + 1 + 1, 0, none⟩)], .int .i64 k, .agg #[.int .i64 s, .int .i64 t], .pointer (some ⟨V1.heap.size, 0, none⟩), .slice (some ⟨g, 0, none⟩) pts.length cp, .pointer (some ⟨X, 0, none⟩), .int .i64 s, .pointer (some ⟨X, 1, none⟩), .int .i64 t, .pointer (some ⟨X, 1, none⟩), .int .i64 t, .slice (some ⟨g, s * 3, none⟩) (t - s) (t - s), .slice (some ⟨g, s * 3, none⟩) (t - s) (t - s), .int .i64 (((t - s : Nat) : Int)), .int .i64 (((t - s : Nat) : Int) - 1), .int .i64 (((1 + m : Nat) : Int)), .int .i64 (((t - s - 1 - m : Nat) : Int)), .bool true, u34, u35, u36, u37, (cond b0 (.slice (some ⟨g, s * 3, none⟩) (t - s) (t - s)) u38), (cond b1 (.int .i64 (((1 + m : Nat) : Int))) u39), (cond b2 (.slice (some ⟨g, s * 3, none⟩) (t - s) (t - s)) u40), (cond b3 (.int .i64 (((t - s - 1 - m : Nat) : Int))) u41), (cond b4 (.slice (some ⟨g, s * 3, none⟩) (t - s) (t - s)) u42), (cond b5 (.int .i64 (((t - s - 1 - m : Nat) : Int))) u43), (cond b6 (.pointer (some ⟨g, (s + (t - s - 1 - m)) * 3, none⟩)) u44), (cond b7 (.agg #[.int .i64 (rd_T33 l ((s + (t - s - 1 - m)) : Nat)).f0, .int .i64 (rd_T33 l ((s + (t - s - 1 - m)) : Nat)).f1, .bool (rd_T33 l ((s + (t - s - 1 - m)) : Nat)).f2]) u45), (cond b8 (.slice (some ⟨g, s * 3, none⟩) (t - s) (t - s)) u46), (cond b9 (.int .i64 (((1 + m : Nat) : Int))) u47), (cond b10 (.pointer (some ⟨g, (s + (1 + m)) * 3, none⟩)) u48), (cond b11 (.agg #[.int .i64 (rd_T33 l ((s + (1 + m)) : Nat)).f0, .int .i64 (rd_T33 l ((s + (1 + m)) : Nat)).f1, .bool (rd_T33 l ((s + (1 + m)) : Nat)).f2]) u49), (cond b12 (.pointer (some ⟨g, (s + (1 + m)) * 3, none⟩)) u50), (cond b14 (.pointer (some ⟨g, (s + (t - s - 1 - m)) * 3, none⟩)) u51), undef], []⟩ ∧ (b13 = true → b7 = true) ∧ (b13 = true → b11 = true) ∧ (b15 = true → b13 = true) ∧ (Kd.R k33 33 W' V0.heap.size (Own1 (.slice (some ⟨g, 0, none⟩) pts.length cp)) (.slice (some ⟨g, 0, none⟩) pts.length cp) (cond b15 ((l.set (s + (1 + m)) (rd_T33 l ((s + (t - s - 1 - m)) : Nat))).set (s + (t - s - 1 - m)) (rd_T33 l ((s + (1 + m)) : Nat))) (cond b13 (l.set (s + (1 + m)) (rd_T33 l ((s + (t - s - 1 - m)) : Nat))) l))) ∧ (Chg (fun i => i = g) Va W')) ?_ ?_ ?_ ?_
    ·
     rintro lst a W' ⟨b0, b1, b2, b3, b4, b5, b6, b7, b8, b9, b10, b11, b12, b13, b14, b15, rfl, _⟩
     rfl
    ·
     exact ⟨false, false, false, false, false, false, false, false, false, false, false, false, false, false, false, false, rfl, rfl, (fun h => Bool.noConfusion h), (fun h => Bool.noConfusion h), (fun h => Bool.noConfusion h), (R_chg HR ((Chg.refl (fun _ => False) _).drew) (fun _ _ => id)), HC.drew⟩
    ·
     rintro lst a W' i o ⟨b0, b1, b2, b3, b4, b5, b6, b7, b8, b9, b10, b11, b12, b13, b14, b15, rfl, rfl, k0, k1, k2, hHR, hHC⟩ ho hf hd K hK
     have hi : i < 16 := (Array.getElem?_eq_some_iff.1 ho).1
     have ho2 := ho
     rcases (show i = 0 ∨ i = 1 ∨ i = 2 ∨ i = 3 ∨ i = 4 ∨ i = 5 ∨ i = 6 ∨ i = 7 ∨ i = 8 ∨ i = 9 ∨ i = 10 ∨ i = 11 ∨ i = 12 ∨ i = 13 ∨ i = 14 ∨ i = 15 by omega) with rfl | rfl | rfl | rfl | rfl | rfl | rfl | rfl | rfl | rfl | rfl | rfl | rfl | rfl | rfl | rfl
     ·
      simp only [List.getElem?_toArray, List.getElem?_cons_succ, List.getElem?_cons_zero, Option.some.injEq] at ho
      subst ho
      replace hf : b0 = false := hf
      subst hf
      refine Go.Proofs.YtbmklpcheopgoaaReg.opIn_val ho2 rfl (fun _ => trivial) (fun c h => by cases h) (v := .slice (some ⟨g, s * 3, none⟩) (t - s) (t - s)) (w1 := W') ?_ (hK _ _ ⟨true, b1, b2, b3, b4, b5, b6, b7, b8, b9, b10, b11, b12, b13, b14, b15, rfl, rfl, (k0), (k1), (k2), hHR, hHC⟩)
      simp [go_sem, hu2]
     ·
      simp only [List.getElem?_toArray, List.getElem?_cons_succ, List.getElem?_cons_zero, Option.some.injEq] at ho
      subst ho
      replace hf : b1 = false := hf
      subst hf
      refine Go.Proofs.YtbmklpcheopgoaaReg.opIn_val ho2 rfl (fun _ => trivial) (fun c h => by cases h) (v := .int .i64 (((1 + m : Nat) : Int))) (w1 := W') ?_ (hK _ _ ⟨b0, true, b2, b3, b4, b5, b6, b7, b8, b9, b10, b11, b12, b13, b14, b15, rfl, rfl, (k0), (k1), (k2), hHR, hHC⟩)
      simp [go_sem, hu2]
     ·
      simp only [List.getElem?_toArray, List.getElem?_cons_succ, List.getElem?_cons_zero, Option.some.injEq] at ho
      subst ho
      replace hf : b2 = false := hf
      subst hf
      refine Go.Proofs.YtbmklpcheopgoaaReg.opIn_val ho2 rfl (fun _ => trivial) (fun c h => by cases h) (v := .slice (some ⟨g, s * 3, none⟩) (t - s) (t - s)) (w1 := W') ?_ (hK _ _ ⟨b0, b1, true, b3, b4, b5, b6, b7, b8, b9, b10, b11, b12, b13, b14, b15, rfl, rfl, (k0), (k1), (k2), hHR, hHC⟩)
      simp [go_sem, hu2]
     ·
      simp only [List.getElem?_toArray, List.getElem?_cons_succ, List.getElem?_cons_zero, Option.some.injEq] at ho
      subst ho
      replace hf : b3 = false := hf
      subst hf
      refine Go.Proofs.YtbmklpcheopgoaaReg.opIn_val ho2 rfl (fun _ => trivial) (fun c h => by cases h) (v := .int .i64 (((t - s - 1 - m : Nat) : Int))) (w1 := W') ?_ (hK _ _ ⟨b0, b1, b2, true, b4, b5, b6, b7, b8, b9, b10, b11, b12, b13, b14, b15, rfl, rfl, (k0), (k1), (k2), hHR, hHC⟩)
      simp [go_sem, hu2]
     ·
      simp only [List.getElem?_toArray, List.getElem?_cons_succ, List.getElem?_cons_zero, Option.some.injEq] at ho
      subst ho
      replace hf : b4 = false := hf
      subst hf
      refine Go.Proofs.YtbmklpcheopgoaaReg.opIn_val ho2 rfl (fun _ => trivial) (fun c h => by cases h) (v := .slice (some ⟨g, s * 3, none⟩) (t - s) (t - s)) (w1 := W') ?_ (hK _ _ ⟨b0, b1, b2, b3, true, b5, b6, b7, b8, b9, b10, b11, b12, b13, b14, b15, rfl, rfl, (k0), (k1), (k2), hHR, hHC⟩)
      simp [go_sem, hu2]
     ·
      simp only [List.getElem?_toArray, List.getElem?_cons_succ, List.getElem?_cons_zero, Option.some.injEq] at ho
      subst ho
      replace hf : b5 = false := hf
      subst hf
      refine Go.Proofs.YtbmklpcheopgoaaReg.opIn_val ho2 rfl (fun _ => trivial) (fun c h => by cases h) (v := .int .i64 (((t - s - 1 - m : Nat) : Int))) (w1 := W') ?_ (hK _ _ ⟨b0, b1, b2, b3, b4, true, b6, b7, b8, b9, b10, b11, b12, b13, b14, b15, rfl, rfl, (k0), (k1), (k2), hHR, hHC⟩)
      simp [go_sem, hu2]
     ·
      simp only [List.getElem?_toArray, List.getElem?_cons_succ, List.getElem?_cons_zero, Option.some.injEq] at ho
      subst ho
      replace hf : b6 = false := hf
      have d4 : b4 = true := hd ⟨4, .data⟩ (by simp) rfl
      have d5 : b5 = true := hd ⟨5, .data⟩ (by simp) rfl
      subst d4
      subst d5
      subst hf
      refine Go.Proofs.YtbmklpcheopgoaaReg.opIn_val ho2 rfl (fun _ => trivial) (fun c h => by cases h) (v := .pointer (some ⟨g, (s + (t - s - 1 - m)) * 3, none⟩)) (w1 := W') ?_ (hK _ _ ⟨b0, b1, b2, b3, true, true, true, b7, b8, b9, b10, b11, b12, b13, b14, b15, rfl, rfl, (k0), (k1), (k2), hHR, hHC⟩)
      refine run_indexAddr_pt (i := (t - s - 1 - m)) rfl rfl rfl (by omega) (by omega)
     ·
      simp only [List.getElem?_toArray, List.getElem?_cons_succ, List.getElem?_cons_zero, Option.some.injEq] at ho
      subst ho
      replace hf : b7 = false := hf
      have d6 : b6 = true := hd ⟨6, .data⟩ (by simp) rfl
      subst d6
      have n13 : b13 = false := Bool.eq_false_iff.mpr (fun h => absurd (k0 h) (by rw [hf]; decide))
      have n15 : b15 = false := Bool.eq_false_iff.mpr (fun h => absurd (k2 h) (by rw [n13]; decide))
      subst n13
      subst n15
      subst hf
      obtain ⟨c_, hc1_, hc2_, hc3_, hc4_⟩ := Kd.R_elem hHR z33 (((s + (t - s - 1 - m)) : Nat) : Int) (by omega) (by omega)
      obtain rfl := k33_openM hc2_
      simp only [Int.toNat_natCast] at hc3_
      refine Go.Proofs.YtbmklpcheopgoaaReg.opIn_val ho2 rfl (fun _ => trivial) (fun c h => by cases h) (v := .agg #[.int .i64 (rd_T33 l ((s + (t - s - 1 - m)) : Nat)).f0, .int .i64 (rd_T33 l ((s + (t - s - 1 - m)) : Nat)).f1, .bool (rd_T33 l ((s + (t - s - 1 - m)) : Nat)).f2]) (w1 := W') ?_ (hK _ _ ⟨b0, b1, b2, b3, b4, b5, true, true, b8, b9, b10, b11, b12, false, b14, false, rfl, rfl, (fun _ => rfl), (fun h => Bool.noConfusion h), (fun h => Bool.noConfusion h), hHR, hHC⟩)
      exact run_load_pt rfl rfl (hc3_ 0 _ rfl) (hc3_ 1 _ rfl) (hc3_ 2 _ rfl)
     ·
      simp only [List.getElem?_toArray, List.getElem?_cons_succ, List.getElem?_cons_zero, Option.some.injEq] at ho
      subst ho
      replace hf : b8 = false := hf
      subst hf
      refine Go.Proofs.YtbmklpcheopgoaaReg.opIn_val ho2 rfl (fun _ => trivial) (fun c h => by cases h) (v := .slice (some ⟨g, s * 3, none⟩) (t - s) (t - s)) (w1 := W') ?_ (hK _ _ ⟨b0, b1, b2, b3, b4, b5, b6, b7, true, b9, b10, b11, b12, b13, b14, b15, rfl, rfl, (k0), (k1), (k2), hHR, hHC⟩)
      simp [go_sem, hu2]
     ·
      simp only [List.getElem?_toArray, List.getElem?_cons_succ, List.getElem?_cons_zero, Option.some.injEq] at ho
      subst ho
      replace hf : b9 = false := hf
      subst hf
      refine Go.Proofs.YtbmklpcheopgoaaReg.opIn_val ho2 rfl (fun _ => trivial) (fun c h => by cases h) (v := .int .i64 (((1 + m : Nat) : Int))) (w1 := W') ?_ (hK _ _ ⟨b0, b1, b2, b3, b4, b5, b6, b7, b8, true, b10, b11, b12, b13, b14, b15, rfl, rfl, (k0), (k1), (k2), hHR, hHC⟩)
      simp [go_sem, hu2]
     ·
      simp only [List.getElem?_toArray, List.getElem?_cons_succ, List.getElem?_cons_zero, Option.some.injEq] at ho
      subst ho
      replace hf : b10 = false := hf
      have d8 : b8 = true := hd ⟨8, .data⟩ (by simp) rfl
      have d9 : b9 = true := hd ⟨9, .data⟩ (by simp) rfl
      subst d8
      subst d9
      subst hf
      refine Go.Proofs.YtbmklpcheopgoaaReg.opIn_val ho2 rfl (fun _ => trivial) (fun c h => by cases h) (v := .pointer (some ⟨g, (s + (1 + m)) * 3, none⟩)) (w1 := W') ?_ (hK _ _ ⟨b0, b1, b2, b3, b4, b5, b6, b7, true, true, true, b11, b12, b13, b14, b15, rfl, rfl, (k0), (k1), (k2), hHR, hHC⟩)
      refine run_indexAddr_pt (i := (1 + m)) rfl rfl rfl (by omega) (by omega)
     ·
      simp only [List.getElem?_toArray, List.getElem?_cons_succ, List.getElem?_cons_zero, Option.some.injEq] at ho
      subst ho
      replace hf : b11 = false := hf
      have d10 : b10 = true := hd ⟨10, .data⟩ (by simp) rfl
      subst d10
      have n13 : b13 = false := Bool.eq_false_iff.mpr (fun h => absurd (k1 h) (by rw [hf]; decide))
      have n15 : b15 = false := Bool.eq_false_iff.mpr (fun h => absurd (k2 h) (by rw [n13]; decide))
      subst n13
      subst n15
      subst hf
      obtain ⟨c_, hc1_, hc2_, hc3_, hc4_⟩ := Kd.R_elem hHR z33 (((s + (1 + m)) : Nat) : Int) (by omega) (by omega)
      obtain rfl := k33_openM hc2_
      simp only [Int.toNat_natCast] at hc3_
      refine Go.Proofs.YtbmklpcheopgoaaReg.opIn_val ho2 rfl (fun _ => trivial) (fun c h => by cases h) (v := .agg #[.int .i64 (rd_T33 l ((s + (1 + m)) : Nat)).f0, .int .i64 (rd_T33 l ((s + (1 + m)) : Nat)).f1, .bool (rd_T33 l ((s + (1 + m)) : Nat)).f2]) (w1 := W') ?_ (hK _ _ ⟨b0, b1, b2, b3, b4, b5, b6, b7, b8, b9, true, true, b12, false, b14, false, rfl, rfl, (fun h => Bool.noConfusion h), (fun _ => rfl), (fun h => Bool.noConfusion h), hHR, hHC⟩)
      exact run_load_pt rfl rfl (hc3_ 0 _ rfl) (hc3_ 1 _ rfl) (hc3_ 2 _ rfl)
     ·
      simp only [List.getElem?_toArray, List.getElem?_cons_succ, List.getElem?_cons_zero, Option.some.injEq] at ho
      subst ho
      replace hf : b12 = false := hf
      have d0 : b0 = true := hd ⟨0, .data⟩ (by simp) rfl
      have d1 : b1 = true := hd ⟨1, .data⟩ (by simp) rfl
      have d4 : b4 = true := hd ⟨4, .phase⟩ (by simp) rfl
      have d5 : b5 = true := hd ⟨5, .phase⟩ (by simp) rfl
      have d6 : b6 = true := hd ⟨6, .phase⟩ (by simp) rfl
      have d7 : b7 = true := hd ⟨7, .phase⟩ (by simp) rfl
      have d11 : b11 = true := hd ⟨11, .phase⟩ (by simp) rfl
      subst d0
      subst d1
      subst d4
      subst d5
      subst d6
      subst d7
      subst d11
      subst hf
      refine Go.Proofs.YtbmklpcheopgoaaReg.opIn_val ho2 rfl (fun _ => trivial) (fun c h => by cases h) (v := .pointer (some ⟨g, (s + (1 + m)) * 3, none⟩)) (w1 := W') ?_ (hK _ _ ⟨true, true, b2, b3, true, true, true, true, b8, b9, b10, true, true, b13, b14, b15, rfl, rfl, (fun _ => rfl), (fun _ => rfl), (k2), hHR, hHC⟩)
      refine run_indexAddr_pt (i := (1 + m)) rfl rfl rfl (by omega) (by omega)
     ·
      simp only [List.getElem?_toArray, List.getElem?_cons_succ, List.getElem?_cons_zero, Option.some.injEq] at ho
      subst ho
      replace hf : b13 = false := hf
      have d0 : b0 = true := hd ⟨0, .phase⟩ (by simp) rfl
      have d1 : b1 = true := hd ⟨1, .phase⟩ (by simp) rfl
      have d4 : b4 = true := hd ⟨4, .phase⟩ (by simp) rfl
      have d5 : b5 = true := hd ⟨5, .phase⟩ (by simp) rfl
      have d6 : b6 = true := hd ⟨6, .phase⟩ (by simp) rfl
      have d7 : b7 = true := hd ⟨7, .data⟩ (by simp) rfl
      have d11 : b11 = true := hd ⟨11, .phase⟩ (by simp) rfl
      have d12 : b12 = true := hd ⟨12, .data⟩ (by simp) rfl
      subst d0
      subst d1
      subst d4
      subst d5
      subst d6
      subst d7
      subst d11
      subst d12
      have n15 : b15 = false := Bool.eq_false_iff.mpr (fun h => absurd (k2 h) (by rw [hf]; decide))
      subst n15
      subst hf
      obtain ⟨w1, hr1, hr2, hr3⟩ := row_store (P := Try.prog) flat_pt hHR (s + (1 + m)) (by omega) 33 (.agg #[.int .i64 (rd_T33 l ((s + (t - s - 1 - m)) : Nat)).f0, .int .i64 (rd_T33 l ((s + (t - s - 1 - m)) : Nat)).f1, .bool (rd_T33 l ((s + (t - s - 1 - m)) : Nat)).f2]) (x' := (rd_T33 l ((s + (t - s - 1 - m)) : Nat))) (seg := [.int .i64 (rd_T33 l ((s + (t - s - 1 - m)) : Nat)).f0, .int .i64 (rd_T33 l ((s + (t - s - 1 - m)) : Nat)).f1, .bool (rd_T33 l ((s + (t - s - 1 - m)) : Nat)).f2]) rfl rfl info_pt (by simp [Value.oneCell']) (fun ok => k33_mkM _ _ _ _)
      refine Go.Proofs.YtbmklpcheopgoaaReg.opIn_skip ho2 rfl (fun _ => trivial) (fun c h => by cases h) (w1 := w1) ?_ (hK _ _ ⟨true, true, b2, b3, true, true, true, true, b8, b9, b10, true, true, true, b14, false, rfl, rfl, (fun _ => rfl), (fun _ => rfl), (fun _ => rfl), hr2, hHC.trans hr3⟩)
      exact run_store_op rfl rfl rfl hr1
     ·
      simp only [List.getElem?_toArray, List.getElem?_cons_succ, List.getElem?_cons_zero, Option.some.injEq] at ho
      subst ho
      replace hf : b14 = false := hf
      have d0 : b0 = true := hd ⟨0, .phase⟩ (by simp) rfl
      have d1 : b1 = true := hd ⟨1, .phase⟩ (by simp) rfl
      have d2 : b2 = true := hd ⟨2, .data⟩ (by simp) rfl
      have d3 : b3 = true := hd ⟨3, .data⟩ (by simp) rfl
      have d4 : b4 = true := hd ⟨4, .phase⟩ (by simp) rfl
      have d5 : b5 = true := hd ⟨5, .phase⟩ (by simp) rfl
      have d6 : b6 = true := hd ⟨6, .phase⟩ (by simp) rfl
      have d7 : b7 = true := hd ⟨7, .phase⟩ (by simp) rfl
      have d8 : b8 = true := hd ⟨8, .phase⟩ (by simp) rfl
      have d9 : b9 = true := hd ⟨9, .phase⟩ (by simp) rfl
      have d10 : b10 = true := hd ⟨10, .phase⟩ (by simp) rfl
      have d11 : b11 = true := hd ⟨11, .phase⟩ (by simp) rfl
      have d12 : b12 = true := hd ⟨12, .phase⟩ (by simp) rfl
      have d13 : b13 = true := hd ⟨13, .phase⟩ (by simp) rfl
      subst d0
      subst d1
      subst d2
      subst d3
      subst d4
      subst d5
      subst d6
      subst d7
      subst d8
      subst d9
      subst d10
      subst d11
      subst d12
      subst d13
      subst hf
      refine Go.Proofs.YtbmklpcheopgoaaReg.opIn_val ho2 rfl (fun _ => trivial) (fun c h => by cases h) (v := .pointer (some ⟨g, (s + (t - s - 1 - m)) * 3, none⟩)) (w1 := W') ?_ (hK _ _ ⟨true, true, true, true, true, true, true, true, true, true, true, true, true, true, true, b15, rfl, rfl, (fun _ => rfl), (fun _ => rfl), (fun _ => rfl), hHR, hHC⟩)
      refine run_indexAddr_pt (i := (t - s - 1 - m)) rfl rfl rfl (by omega) (by omega)
     ·
      simp only [List.getElem?_toArray, List.getElem?_cons_succ, List.getElem?_cons_zero, Option.some.injEq] at ho
      subst ho
      replace hf : b15 = false := hf
      have d0 : b0 = true := hd ⟨0, .phase⟩ (by simp) rfl
      have d1 : b1 = true := hd ⟨1, .phase⟩ (by simp) rfl
      have d2 : b2 = true := hd ⟨2, .phase⟩ (by simp) rfl
      have d3 : b3 = true := hd ⟨3, .phase⟩ (by simp) rfl
      have d4 : b4 = true := hd ⟨4, .phase⟩ (by simp) rfl
      have d5 : b5 = true := hd ⟨5, .phase⟩ (by simp) rfl
      have d6 : b6 = true := hd ⟨6, .phase⟩ (by simp) rfl
      have d7 : b7 = true := hd ⟨7, .phase⟩ (by simp) rfl
      have d8 : b8 = true := hd ⟨8, .phase⟩ (by simp) rfl
      have d9 : b9 = true := hd ⟨9, .phase⟩ (by simp) rfl
      have d10 : b10 = true := hd ⟨10, .phase⟩ (by simp) rfl
      have d11 : b11 = true := hd ⟨11, .data⟩ (by simp) rfl
      have d12 : b12 = true := hd ⟨12, .phase⟩ (by simp) rfl
      have d13 : b13 = true := hd ⟨13, .chain⟩ (by simp) rfl
      have d14 : b14 = true := hd ⟨14, .data⟩ (by simp) rfl
      subst d0
      subst d1
      subst d2
      subst d3
      subst d4
      subst d5
      subst d6
      subst d7
      subst d8
      subst d9
      subst d10
      subst d11
      subst d12
      subst d13
      subst d14
      subst hf
      obtain ⟨w1, hr1, hr2, hr3⟩ := row_store (P := Try.prog) flat_pt hHR (s + (t - s - 1 - m)) (by omega) 33 (.agg #[.int .i64 (rd_T33 l ((s + (1 + m)) : Nat)).f0, .int .i64 (rd_T33 l ((s + (1 + m)) : Nat)).f1, .bool (rd_T33 l ((s + (1 + m)) : Nat)).f2]) (x' := (rd_T33 l ((s + (1 + m)) : Nat))) (seg := [.int .i64 (rd_T33 l ((s + (1 + m)) : Nat)).f0, .int .i64 (rd_T33 l ((s + (1 + m)) : Nat)).f1, .bool (rd_T33 l ((s + (1 + m)) : Nat)).f2]) rfl rfl info_pt (by simp [Value.oneCell']) (fun ok => k33_mkM _ _ _ _)
      refine Go.Proofs.YtbmklpcheopgoaaReg.opIn_skip ho2 rfl (fun _ => trivial) (fun c h => by cases h) (w1 := w1) ?_ (hK _ _ ⟨true, true, true, true, true, true, true, true, true, true, true, true, true, true, true, true, rfl, rfl, (fun _ => rfl), (fun _ => rfl), (fun _ => rfl), hr2, hHC.trans hr3⟩)
      exact run_store_op rfl rfl rfl hr1
    ·
     rintro lst a W' ⟨b0, b1, b2, b3, b4, b5, b6, b7, b8, b9, b10, b11, b12, b13, b14, b15, rfl, rfl, k0, k1, k2, hHR, hHC⟩ hall
     have a0 : b0 = true := hall 0 (by decide)
     have a1 : b1 = true := hall 1 (by decide)
     have a2 : b2 = true := hall 2 (by decide)
     have a3 : b3 = true := hall 3 (by decide)
     have a4 : b4 = true := hall 4 (by decide)
     have a5 : b5 = true := hall 5 (by decide)
     have a6 : b6 = true := hall 6 (by decide)
     have a7 : b7 = true := hall 7 (by decide)
     have a8 : b8 = true := hall 8 (by decide)
     have a9 : b9 = true := hall 9 (by decide)
     have a10 : b10 = true := hall 10 (by decide)
     have a11 : b11 = true := hall 11 (by decide)
     have a12 : b12 = true := hall 12 (by decide)
     have a13 : b13 = true := hall 13 (by decide)
     have a14 : b14 = true := hall 14 (by decide)
     have a15 : b15 = true := hall 15 (by decide)
     subst a0 a1 a2 a3 a4 a5 a6 a7 a8 a9 a10 a11 a12 a13 a14 a15
     clear k0 k1 k2
     clear hall
     have HR : Kd.R k33 33 W' V0.heap.size (Own1 (.slice (some ⟨g, 0, none⟩) pts.length cp)) (.slice (some ⟨g, 0, none⟩) pts.length cp) ((l.set (s + (1 + m)) (rd_T33 l ((s + (t - s - 1 - m)) : Nat))).set (s + (t - s - 1 - m)) (rd_T33 l ((s + (1 + m)) : Nat))) := hHR
     have HC : Chg (fun i => i = g) Va W' := hHC
     clear hHR hHC
     gi_wp2
     refine ⟨⟨m + 1, by omega, by congr 1 <;> omega, by congr 1 <;> omega, ⟨by rw [HKS.out]; exact HR, HC⟩⟩, by simp [intOf]; omega⟩
   ·
    have hd : decide (1 + (m : Int) < ((t - s - 1 - m : Nat) : Int)) = false := by simp; omega
    have HHR := Lib.hid HR
    have HHC := Lib.hid HC
    clear HR HC
    gi_wp2
    obtain ⟨r2, r3, r4, r5⟩ := HH.out
    have HC := HHC.out
    have HR := HHR.out
    have hme : m = (t - s - 1) / 2 := by omega
    refine ⟨own, Grow.refl _ _, fun b h => HC.lt (how b h), HC.mono (fun b _ hb => by subst hb; exact (HOWN.out b).2 (by simp [Own1, Value.ownBlock]; try omega)), HOWN.out, ?_, ?_, ?_, ?_, ?_⟩
    ·
     rw [hNX.out, ← hme]; exact HR
    ·
     exact R_chg r3 HC (fun k hk e => hne k (by subst e; simp [Value.ownBlock]; try omega) hk)
    ·
     exact r4.chg HC (fun b hb e => by
      have := hpk g (by simp [Value.ownBlock]; try omega)
      simp at hb
      omega)
    ·
     exact r5.trans (HC.below (B := w.heap.size) r5.size (fun i hi e => by subst e; have := hbV0.size; omega))
    ·
     have := HC.size; omega
 ·
  rintro D own Va hD how hnD ⟨h1, h2, h3, h4, h5, h6⟩ hdef
  subst hvp; subst hve
  have g0 := h4.cell 0 rfl 0
  have g1 := h4.cell 0 rfl 1
  have g2 := h4.cell 1 rfl 0
  have g3 := h4.cell 1 rfl 1
  have g4 := h4.free 1 rfl 0
  have g5 := h4.free 1 rfl 1
  simp at g0 g1 g2 g3
  have HH := Lib.hid (And.intro h2 (And.intro h3 (And.intro h4 h5)))
  clear h2 h3 h4 h5 h1
  gi_wp2
  obtain ⟨h2, h3, h4, h5⟩ := HH.out
  have hd1 : Chg (fun b => b = w.heap.size + 1) Va ((Va.setCell ⟨w.heap.size + 1, 0, none⟩ (.slice Ap pts.length cp)).setCell ⟨w.heap.size + 1, 1, none⟩ (.slice Ae es.length ce)) := ((Chg.refl (fun b => b = w.heap.size + 1) Va).setCell (p := ⟨w.heap.size + 1, 0, none⟩) (fun _ => rfl) _).setCell (p := ⟨w.heap.size + 1, 1, none⟩) (fun _ => rfl) _
  have hB9 := (h4.set 1 rfl 0 (.slice Ap pts.length cp)).set 1 rfl 1 (.slice Ae es.length ce)
  have hR9 := R_chg h2 hd1 (fun k hk e => by have := (hpk k hk).1; omega)
  have hE9 := R_chg h3 hd1 (fun k hk e => by have := (hek k hk).1; omega)
  have hW9 : Below w.heap.size w _ := h5.trans (hd1.below (B := w.heap.size) h5.size (fun i hi e => by omega))
  refine leaves_collected (hd1.heap hdef (fun e => by omega)) fun V2 hc => ?_
  have hB10 := hB9.chg hc (fun b hb e => by simp at hb; omega)
  have hR10 := Kd.R_lower (R_all (R_chg hR9 hc (fun k hk e => by have := (hpk k hk).2.1; omega))) (show w.heap.size ≤ V0.heap.size by omega)
  have hE10 := Kd.R_lower (R_all (R_chg hE9 hc (fun k hk e => by have := (hek k hk).2.1; omega))) (show w.heap.size ≤ V0.heap.size by omega)
  have hW10 := hW9.trans (hc.below (B := w.heap.size) hW9.size (fun i hi e => by omega))
  exact ⟨.agg #[.slice Ap pts.length cp, .slice Ae es.length ce], by simp [results, Try.f29, go_sem, hB10.cell 1 rfl 0, hB10.cell 1 rfl 1], _, _, rfl, hR10, hE10, hW10⟩
 ·
  rintro D c k own V1 _ _ _ _ h
  exact h.elim

def outline_Reversed.f (l0_0 : List S33) (l0_1 : List Int) : Option (List S33 × List Int) :=
 if l0_0.length ≤ 1000000 ∧ l0_1.length ≤ 1000000 then some (revL l0_0 l0_1 (cutsL l0_1 l0_0.length).length, l0_1) else none
theorem outline_Reversed.calls (A0_0 : Option Addr) (c0_0 : Nat) (l0_0 : List (S33)) (A0_1 : Option Addr) (c0_1 : Nat) (l0_1 : List Int) (r1 : List (S33)) (r2 : List Int) (w : World) (hr0_0 : Kd.C k33 w A0_0 l0_0.length l0_0) (hc0_0 : l0_0.length ≤ c0_0) (hr0_1 : Kd.C (Kd.int .i64) w A0_1 l0_1.length l0_1) (hc0_1 : l0_1.length ≤ c0_1) (h : outline_Reversed.f l0_0 l0_1 = some (r1, r2)) :
  Calls Try.prog 29 #[.agg #[.slice A0_0 l0_0.length c0_0, .slice A0_1 l0_1.length c0_1]] w fun e w' => ∃ v0_ v1_ : Value, e = .returned (.agg #[v0_, v1_]) ∧ Kd.R k33 33 w' w.heap.size (fun _ => True) v0_ r1 ∧ Kd.R (Kd.int .i64) 3 w' w.heap.size (fun _ => True) v1_ r2 ∧ Below w.heap.size w w' := by
 unfold outline_Reversed.f at h
 split at h
 ·
  rename_i hl
  simp only [Option.some.injEq, Prod.mk.injEq] at h
  obtain ⟨rfl, rfl⟩ := h
  exact reversed_calls A0_0 A0_1 c0_0 c0_1 l0_0 l0_1 w hr0_0 hc0_0 hr0_1 hc0_1 hl.1 hl.2
 ·
  cases h

end Go.Proofs.Ytbmklpcheopgoaa.H

namespace Go.Proofs.Ytbmklpcheopgoaa.H
open Go.RowKit Go.Proofs.YtbmklpcheopgoaaW.PrintWords Go.Proofs.YtbmklpcheopgoaaW.PrintLast Go.Proofs.YtbmklpcheopgoaaW.PrintMore
attribute [local go_sem] max2_int min2_int max_two min_two max_three min_three max_four min_four   -- for this text's walks alone
set_option linter.unusedVariables false
set_option linter.unusedSimpArgs false

theorem eqA52 (d : Nat) (w : World) (x0 y0 : Int) (x1 y1 : Int) :
  (Op.equalIn (d + 2) 52 (.agg #[.int .i64 x0, .int .i64 x1]) (.agg #[.int .i64 y0, .int .i64 y1])).run Try.prog w = .ok (x0 == y0 && (x1 == y1)) w := by
 refine eqA_of Try.underlying52 (by kernel_rfl) ?_
 refine eqf_cons (by rfl) (by go_simp; rfl) (by go_simp; rfl) (by go_simp) ?_
 exact eqf_last (by rfl) (by go_simp; rfl) (by go_simp; rfl) (by go_simp)
end Go.Proofs.Ytbmklpcheopgoaa.H

namespace Go.Proofs.Ytbmklpcheopgoaa.H
open Go.RowKit Go.Proofs.YtbmklpcheopgoaaW.PrintWords Go.Proofs.YtbmklpcheopgoaaW.PrintLast Go.Proofs.YtbmklpcheopgoaaW.PrintMore
attribute [local go_sem] max2_int min2_int max_two min_two max_three min_three max_four min_four   -- for this text's walks alone
set_option linter.unusedVariables false
set_option linter.unusedSimpArgs false

attribute [local go_sem high] eqA52
/-! ### fleuronref03_SamePts: function 35 -/
def fleuronref03_SamePts.l0 : Nat → List (S52) → List (S52) → Int → Option (Bool)
 | 0, _, _, _ => none
 | k + 1, x0, x1, x5 => if x5 < (x0.length : Int) then (if 0 ≤ x5 then (if x5 < (x1.length : Int) then (if (!(((rd_T52 x0 x5).f0) == ((rd_T52 x1 x5).f0)) || (!(((rd_T52 x0 x5).f1) == ((rd_T52 x1 x5).f1)))) = true then (some false) else (fleuronref03_SamePts.l0 k x0 x1 (wrap64 (x5 + 1)))) else (none)) else (none)) else (some true)
def fleuronref03_SamePts.f (k : Nat) (l0 : List (S52)) (l1 : List (S52)) : Option (Bool) := if (l0.length : Int) = (l1.length : Int) then (fleuronref03_SamePts.l0 k l0 l1 0) else (some false)
theorem fleuronref03_SamePts.mono_l : ∀ k, (∀ y0 y1 y2, LeO (fleuronref03_SamePts.l0 k y0 y1 y2) (fleuronref03_SamePts.l0 (k + 1) y0 y1 y2))
 | 0 => fun _ _ _ r h => by simp [fleuronref03_SamePts.l0] at h
 | k + 1 => by
  have ih0 := fleuronref03_SamePts.mono_l k
  ·
   intro y0 y1 y2
   unfold fleuronref03_SamePts.l0
   repeat' first
   | (with_reducible exact ih0 _ _ _)
   | (with_reducible exact LeO.refl _)
   | (with_reducible exact LeO.none _)
   | (with_reducible refine LeO.ite ?_ ?_)
   | (with_reducible refine LeO.bind ?_ (fun _ => ?_))
   | exact ih0 _ _ _
   | exact LeO.none _
   | refine LeO.ite ?_ ?_
   | refine LeO.bind ?_ (fun _ => ?_)
theorem fleuronref03_SamePts.mono : ∀ a0 a1 k, LeO (fleuronref03_SamePts.f k a0 a1) (fleuronref03_SamePts.f (k + 1) a0 a1) := by
 intro a0 a1 k
 have ih0 := fleuronref03_SamePts.mono_l k
 unfold fleuronref03_SamePts.f
 repeat' first
   | (with_reducible exact ih0 _ _ _)
   | (with_reducible exact LeO.refl _)
   | (with_reducible exact LeO.none _)
   | (with_reducible refine LeO.ite ?_ ?_)
   | (with_reducible refine LeO.bind ?_ (fun _ => ?_))
   | exact ih0 _ _ _
   | exact LeO.none _
   | refine LeO.ite ?_ ?_
   | refine LeO.bind ?_ (fun _ => ?_)
set_option maxHeartbeats 8000000 in
set_option maxRecDepth 100000 in
theorem fleuronref03_SamePts.calls (k : Nat) (A0 : Option Addr) (c0 : Nat) (l0 : List (S52)) (A1 : Option Addr) (c1 : Nat) (l1 : List (S52)) (r : Bool) (w : World) (hr0 : Kd.C k52 w A0 l0.length l0) (hc0 : l0.length ≤ c0) (hr1 : Kd.C k52 w A1 l1.length l1) (hc1 : l1.length ≤ c1) (h : fleuronref03_SamePts.f k l0 l1 = some r) :
  Calls Try.prog 35 #[.slice A0 l0.length c0, .slice A1 l1.length c1] w fun e w' => e = .returned (.bool r) ∧ Drawn0 w w' := by
 have hu52 := Try.underlying52
 have HR0 := aM hr0
 have HC0 := aM hc0
 clear hr0 hc0
 have HR1 := aM hr1
 have HC1 := aM hc1
 clear hr1 hc1
 have H : (if (l0.length : Int) = (l1.length : Int) then (fleuronref03_SamePts.l0 k l0 l1 0) else (some false)) = some r := h
 clear h
 by_cases c3 : (l0.length : Int) = (l1.length : Int)
 ·
  rw [if_pos c3] at H
  have c3b0 : ((l0.length : Int) == (l1.length : Int)) = true := beq_iff_eq.mpr c3
  have c3b1 : ((l0.length : Int) != (l1.length : Int)) = false := bne_eq_false_iff_eq.mpr c3
  have c3b2 : (l0.length == l1.length) = true := by first | simpa using c3 | (simp at c3 ⊢; omega)
  clear c3
  have H' := aM H
  clear H
  go_enter Try.func35, Try.ntmps35
  go_wp2
  repeat (go_quiet (fail); try go_wp2)
  go_loopg [5] k (fun kq v5 w' => ∃ (x5_1 : Int), v5 = .int .i64 x5_1 ∧ Aside0 (fleuronref03_SamePts.l0 kq l0 l1 x5_1 = some r) ∧ Aside0 (kq ≤ k) ∧ Drawn0 w w')
  case atStart => exact ⟨(0), (by first | rfl | (simp; done) | (simp [*]; done)), H', ⟨Nat.le_refl _⟩, by repeat (first | exact Drawn0.refl _ | apply Drawn0.step)⟩
  case round =>
   clear H'
   try clear c1
   try clear p2
   try clear c3
   try clear c3b0
   try clear c3b1
   try clear c3b2
   obtain ⟨x5_1, rfl, HA, HK1, ⟨m1, rfl⟩⟩ := hrel
   cases gk with
   | zero => exact absurd HA.out (by simp [fleuronref03_SamePts.l0])
   | succ k1 =>
    have H := HA.out
    clear HA
    simp only [fleuronref03_SamePts.l0] at H
    by_cases c4 : x5_1 < (l0.length : Int)
    ·
     rw [if_pos c4] at H
     have c4b0 : decide (x5_1 < (l0.length : Int)) = true := decide_eq_true c4
     clear c4
     by_cases c5 : 0 ≤ x5_1
     ·
      rw [if_pos c5] at H
      have c5b0 : decide (0 ≤ x5_1) = true := decide_eq_true c5
      clear c5
      by_cases c6 : x5_1 < (l1.length : Int)
      ·
       rw [if_pos c6] at H
       have c6b0 : decide (x5_1 < (l1.length : Int)) = true := decide_eq_true c6
       clear c6
       by_cases c7 : (!(((rd_T52 l0 x5_1).f0) == ((rd_T52 l1 x5_1).f0)) || (!(((rd_T52 l0 x5_1).f1) == ((rd_T52 l1 x5_1).f1)))) = true
       ·
        rw [if_pos c7] at H
        have c7b0 : (!(((rd_T52 l0 x5_1).f0) == ((rd_T52 l1 x5_1).f0)) || (!(((rd_T52 l0 x5_1).f1) == ((rd_T52 l1 x5_1).f1)))) = true := c7
        clear c7
        obtain rfl := Option.some.inj H
        have p168 : 0 ≤ (x5_1 : Int) := of_decide_eq_true (by assumption)
        have q168 : x5_1 < (l0.length : Int) := of_decide_eq_true (by assumption)
        obtain ⟨ad168, e168, hx168_0, hx168_1⟩ := at_T52 HR0.out x5_1 p168 q168
        cases e168
        replace p168 := eq_true p168
        replace q168 := eq_true q168
        have p169 : 0 ≤ (x5_1 : Int) := of_decide_eq_true (by assumption)
        have q169 : x5_1 < (l1.length : Int) := of_decide_eq_true (by assumption)
        obtain ⟨ad169, e169, hx169_0, hx169_1⟩ := at_T52 HR1.out x5_1 p169 q169
        cases e169
        replace p169 := eq_true p169
        replace q169 := eq_true q169
        go_wp2
        repeat (go_quiet (fail); try go_wp2)
        go_ret
        exact ⟨by first | rfl | (simp; done) | (simp [*]; done), by repeat (first | exact Drawn0.refl _ | apply Drawn0.step)⟩
       ·
        rw [if_neg c7] at H
        have c7b0 : (!(((rd_T52 l0 x5_1).f0) == ((rd_T52 l1 x5_1).f0)) || (!(((rd_T52 l0 x5_1).f1) == ((rd_T52 l1 x5_1).f1)))) = false := by simpa using c7
        clear c7
        have H' := aM H
        clear H
        have p168 : 0 ≤ (x5_1 : Int) := of_decide_eq_true (by assumption)
        have q168 : x5_1 < (l0.length : Int) := of_decide_eq_true (by assumption)
        obtain ⟨ad168, e168, hx168_0, hx168_1⟩ := at_T52 HR0.out x5_1 p168 q168
        cases e168
        replace p168 := eq_true p168
        replace q168 := eq_true q168
        have p169 : 0 ≤ (x5_1 : Int) := of_decide_eq_true (by assumption)
        have q169 : x5_1 < (l1.length : Int) := of_decide_eq_true (by assumption)
        obtain ⟨ad169, e169, hx169_0, hx169_1⟩ := at_T52 HR1.out x5_1 p169 q169
        cases e169
        replace p169 := eq_true p169
        replace q169 := eq_true q169
        go_wp2
        repeat (go_quiet (fail); try go_wp2)
        go_roundg k1
        case measure => have := HK1.out; omega
        case rel => exact ⟨(wrap64 (x5_1 + 1)), (by first | rfl | (simp; done) | (simp [*]; done)), H', ⟨by have := HK1.out; omega⟩, by repeat (first | exact Drawn0.refl _ | apply Drawn0.step)⟩
      ·
       rw [if_neg c6] at H
       exact absurd H (by simp)
     ·
      rw [if_neg c5] at H
      exact absurd H (by simp)
    ·
     rw [if_neg c4] at H
     have c4b0 : decide (x5_1 < (l0.length : Int)) = false := decide_eq_false c4
     clear c4
     obtain rfl := Option.some.inj H
     go_wp2
     repeat (go_quiet (fail); try go_wp2)
     go_ret
     exact ⟨by first | rfl | (simp; done) | (simp [*]; done), by repeat (first | exact Drawn0.refl _ | apply Drawn0.step)⟩
 ·
  rw [if_neg c3] at H
  have c3b0 : ((l0.length : Int) == (l1.length : Int)) = false := beq_eq_false_iff_ne.mpr c3
  have c3b1 : ((l0.length : Int) != (l1.length : Int)) = true := bne_iff_ne.mpr c3
  have c3b2 : (l0.length == l1.length) = false := by first | simpa using c3 | (simp at c3 ⊢; omega)
  obtain rfl := Option.some.inj H
  go_enter Try.func35, Try.ntmps35
  go_wp2
  repeat (go_quiet (fail); try go_wp2)
  go_ret
  exact ⟨by first | rfl | (simp; done) | (simp [*]; done), by repeat (first | exact Drawn0.refl _ | apply Drawn0.step)⟩

/-! ### fleuronlaw03_square: function 43 -/
def fleuronlaw03_square.f  : Option ((List (S33)) × List Int) := some ((([(⟨0, 0, true⟩ : S33), (⟨4, 0, true⟩ : S33), (⟨4, 4, true⟩ : S33), (⟨0, 4, true⟩ : S33)] : List (S33))), (([3] : List Int)))
set_option maxHeartbeats 8000000 in
set_option maxRecDepth 100000 in
theorem fleuronlaw03_square.calls  (r1 : List (S33)) (r2 : List Int) (w : World) (h : fleuronlaw03_square.f  = some (r1, r2)) :
  Calls Try.prog 43 #[] w fun e w' => ∃ v0_ v1_ : Value, e = .returned (.agg #[v0_, v1_]) ∧ Kd.R k33 33 w' w.heap.size (fun _ => True) v0_ r1 ∧ Kd.R (Kd.int .i64) 3 w' w.heap.size (fun _ => True) v1_ r2 ∧ Below w.heap.size w w' := by
 have hu25 := Try.underlying25
 have hu33 := Try.underlying33
 have HB := aM (Below.refl w.heap.size w)
 have H : (some ((([(⟨0, 0, true⟩ : S33), (⟨4, 0, true⟩ : S33), (⟨4, 4, true⟩ : S33), (⟨0, 4, true⟩ : S33)] : List (S33))), (([3] : List Int)))) = some (r1, r2) := h
 clear h
 obtain ⟨y171, hy171⟩ : ∃ y_ : List (S33), y_ = (([(⟨0, 0, true⟩ : S33), (⟨4, 0, true⟩ : S33), (⟨4, 4, true⟩ : S33), (⟨0, 4, true⟩ : S33)] : List (S33))) := ⟨_, rfl⟩
 replace H : (some (y171, (([3] : List Int)))) = some (r1, r2) := by first | (rw [hy171]; with_reducible exact H) | (have H2_ := (Option.bind_some _ _).symm.trans H; rw [hy171]; with_reducible exact H2_) | (have H2_ := (Option.bind_some _ _).symm.trans H; with_reducible exact H2_) | with_reducible exact H | (rw [hy171]; exact H) | exact H
 have Ny171 := aM hy171
 clear hy171
 obtain ⟨y174, hy174⟩ : ∃ y_ : List Int, y_ = (([3] : List Int)) := ⟨_, rfl⟩
 replace H : (some (y171, y174)) = some (r1, r2) := by first | (rw [hy174]; with_reducible exact H) | (have H2_ := (Option.bind_some _ _).symm.trans H; rw [hy174]; with_reducible exact H2_) | (have H2_ := (Option.bind_some _ _).symm.trans H; with_reducible exact H2_) | with_reducible exact H | (rw [hy174]; exact H) | exact H
 have Ny174 := aM hy174
 clear hy174
 simp only [Option.some.injEq, Prod.mk.injEq] at H
 obtain ⟨rfl, rfl⟩ := H
 go_enter Try.func43, Try.ntmps43
 go_wp2_with (first | ((with_reducible refine gate_dst (N := 0) rfl ?_); refine box_event ?hg (N := 0) ?hd (cs := #[.slice none 0 0, .slice none 0 0]) (t := 25) ?hr ?_; (case hd => rfl); (case hg => rfl); (case hr => first | (go_simp; done) | (go_simp; rfl)); intro gb170 hg w1 hbox hb; have n0_ := aM (below_step (by repeat (first | (with_reducible first | exact HB.out | apply bA | apply bN | apply bD) | exact HB.out)) hb); have n1_ := aM (hbox); have n2_ := aM ((by rw [hg]; exact (below_size (by repeat (first | (with_reducible first | exact HB.out | apply bA | apply bN | apply bD) | exact HB.out))) : w.heap.size ≤ gb170)); have n3_ := aM ((by rw [hg]; exact (below_size (by repeat (first | (with_reducible first | exact HB.out | apply bA | apply bN | apply bD) | exact HB.out))) : w.heap.size ≤ gb170)); clear HB; have HB := n0_; have BK170 := n1_; have GW170 := n2_; have GE170 := n3_; clear n0_ n1_ n2_ n3_; clear hb hbox hg) | ((with_reducible refine gate_dst (N := 5) rfl ?_); refine Kd.R_lit k33 _ 33 ?hg (N := 5) ?hd (xs := ([(⟨0, 0, true⟩ : S33), (⟨4, 0, true⟩ : S33), (⟨4, 4, true⟩ : S33), (⟨0, 4, true⟩ : S33)] : List (S33))) (inner := [.int .i64 0, .int .i64 0, .bool true, .int .i64 4, .int .i64 0, .bool true, .int .i64 4, .int .i64 4, .bool true, .int .i64 0, .int .i64 4, .bool true]) (ok := fun _ => True) (okp := fun _ => True) ?hr ?hp (fun _ hk => hk) trivial (Below.refl _ _) (Nat.le_refl _) (by simp) ?_; (case hd => rfl); (case hg => rfl); (case hr => first | (go_simp; done) | (go_simp; rfl)); (case hp => exact (Reps.c3 (show Kd.M k33 _ _ _ (⟨0, 0, true⟩ : S33) [.int .i64 0, .int .i64 0, .bool true] from (k33_mkM _ _ _ (⟨0, 0, true⟩ : S33) )) (Reps.c3 (show Kd.M k33 _ _ _ (⟨4, 0, true⟩ : S33) [.int .i64 4, .int .i64 0, .bool true] from (k33_mkM _ _ _ (⟨4, 0, true⟩ : S33) )) (Reps.c3 (show Kd.M k33 _ _ _ (⟨4, 4, true⟩ : S33) [.int .i64 4, .int .i64 4, .bool true] from (k33_mkM _ _ _ (⟨4, 4, true⟩ : S33) )) (Reps.c3 (show Kd.M k33 _ _ _ (⟨0, 4, true⟩ : S33) [.int .i64 0, .int .i64 4, .bool true] from (k33_mkM _ _ _ (⟨0, 4, true⟩ : S33) )) (Reps.none _ _)))))); intro v172 w2 ho3 hb hg_ hnew_; clear hg_ hnew_; (first | rw [← Ny171.out] at ho3 | (simp only [Int.reduceToNat] at ho3; rw [← Ny171.out] at ho3)); have n0_ := aM (Kd.R_lower ho3 (below_size (by repeat (first | (with_reducible first | exact HB.out | apply bA | apply bN | apply bD | refine bS ?_ GE170.out) | exact HB.out)))); have n1_ := aM (blk_below (g := gb170) (o := .cells #[.slice none 0 0, .slice none 0 0] 25 (0, 0)) (by (with_reducible repeat (first | refine kN ?_ _ | refine kD ?_ | refine kA ?_ _)); exact BK170.out) hb); have n2_ := aM (below_step (by repeat (first | (with_reducible first | exact HB.out | apply bA | apply bN | apply bD | refine bS ?_ GE170.out) | exact HB.out)) hb); clear BK170; clear HB; have HO173 := n0_; have BK170 := n1_; have HB := n2_; clear n0_ n1_ n2_; clear hb ho3) | ((with_reducible refine gate_dst (N := 6) rfl ?_); refine Kd.R_lit (Kd.int .i64) _ 3 ?hg (N := 6) ?hd (xs := ([3] : List Int)) (inner := [.int .i64 3]) (ok := fun _ => True) (okp := fun _ => True) ?hr ?hp (fun _ hk => hk) trivial (Below.refl _ _) (Nat.le_refl _) (by simp) ?_; (case hd => rfl); (case hg => rfl); (case hr => first | (go_simp; done) | (go_simp; rfl)); (case hp => exact (Reps.one (show Kd.M (Kd.int .i64) _ _ _ 3 [.int .i64 3] from rfl) (Reps.none _ _))); intro v175 w4 ho5 hb hg_ hnew_; clear hg_ hnew_; (first | rw [← Ny174.out] at ho5 | (simp only [Int.reduceToNat] at ho5; rw [← Ny174.out] at ho5)); have n0_ := aM (Kd.R_below (by (with_reducible repeat (first | apply Kd.R_alloc | apply Kd.R_drewN | apply Kd.R_drew)); exact HO173.out) hb); have n1_ := aM (Kd.R_lower ho5 (below_size (by repeat (first | (with_reducible first | exact HB.out | apply bA | apply bN | apply bD | refine bS ?_ GE170.out) | exact HB.out)))); have n2_ := aM (blk_below (g := gb170) (o := .cells #[.slice none 0 0, .slice none 0 0] 25 (0, 0)) (by (with_reducible repeat (first | refine kN ?_ _ | refine kD ?_ | refine kA ?_ _)); exact BK170.out) hb); have n3_ := aM (below_step (by repeat (first | (with_reducible first | exact HB.out | apply bA | apply bN | apply bD | refine bS ?_ GE170.out) | exact HB.out)) hb); clear HO173; clear BK170; clear HB; have HO173 := n0_; have HO176 := n1_; have BK170 := n2_; have HB := n3_; clear n0_ n1_ n2_ n3_; clear hb ho5; obtain ⟨Ao6, co6, eo6⟩ := Kd.R_slice HO176.out; subst eo6; obtain ⟨Ao7, co7, eo7⟩ := Kd.R_slice HO173.out; subst eo7; have hcz8_0 : w4.cell? ⟨gb170, 0, none⟩ = some (.slice none 0 0) := (blk_cell BK170.out 0).trans rfl; have hcz8_1 : w4.cell? ⟨gb170, 1, none⟩ = some (.slice none 0 0) := (blk_cell BK170.out 1).trans rfl; have hfz8_0 := blk_frozen BK170.out 0; have hfz8_1 := blk_frozen BK170.out 1))
 refine bodyPost_ret (results_cell_row rfl _ _ gb170 25 #[.slice Ao7 y171.length co7, .slice Ao6 y174.length co6] (0, 0) _ rfl (by (with_reducible repeat (first | refine kN ?_ _ | refine kD ?_ | refine kA ?_ _)); refine blk_put (cs := #[.slice Ao7 y171.length co7, .slice none 0 0]) ?_ 1 _ rfl; (with_reducible repeat (first | refine kN ?_ _ | refine kD ?_ | refine kA ?_ _)); refine blk_put (cs := #[.slice none 0 0, .slice none 0 0]) ?_ 0 _ rfl; (with_reducible repeat (first | refine kN ?_ _ | refine kD ?_ | refine kA ?_ _)); exact BK170.out) Try.underlying25 rfl (by kernel_rfl)) rfl ?_
 exact ⟨_, _, by first | rfl | (simp [errW_none, errW_some] <;> rfl) | (simp [*, errW_none, errW_some] <;> rfl), by (with_reducible repeat (first | apply Kd.R_alloc | apply Kd.R_drewN | apply Kd.R_drew)); exact Kd.R_mono (Kd.R_far (p := ⟨gb170, 1, none⟩) (Kd.R_far (p := ⟨gb170, 0, none⟩) (Kd.R_types HO173.out BK170.out (by decide)) (fun _ hk => hk.2) (.slice Ao7 y171.length co7)) (fun _ hk => hk.2) (.slice Ao6 y174.length co6)) (fun _ hk => trivial), by (with_reducible repeat (first | apply Kd.R_alloc | apply Kd.R_drewN | apply Kd.R_drew)); exact Kd.R_mono (Kd.R_far (p := ⟨gb170, 1, none⟩) (Kd.R_far (p := ⟨gb170, 0, none⟩) (Kd.R_types HO176.out BK170.out (by decide)) (fun _ hk => hk.2) (.slice Ao7 y171.length co7)) (fun _ hk => hk.2) (.slice Ao6 y174.length co6)) (fun _ hk => trivial), by repeat (first | (with_reducible first | exact HB.out | apply bA | apply bN | apply bD | refine bS ?_ GE170.out) | exact HB.out)⟩

end Go.Proofs.Ytbmklpcheopgoaa.H

namespace Go.Proofs.Ytbmklpcheopgoaa.H
open Go.RowKit Go.Proofs.YtbmklpcheopgoaaW.PrintWords Go.Proofs.YtbmklpcheopgoaaW.PrintLast Go.Proofs.YtbmklpcheopgoaaW.PrintMore
attribute [local go_sem] max2_int min2_int max_two min_two max_three min_three max_four min_four   -- for this text's walks alone
set_option linter.unusedVariables false
set_option linter.unusedSimpArgs false

/-! ### fleuronlaw03_drawn: function 21 -/
open Go.Proofs.YtbmklpcheopgoaaOps Go.Proofs.YtbmklpcheopgoaaIt Go.Proofs.YtbmklpcheopgoaaBlks Go.Proofs.YtbmklpcheopgoaaFlat Go.Proofs.YtbmklpcheopgoaaCallOps Go.Shelf
attribute [local go_sem] Oper.semAt_some wide_depth wide_fn World.cell?_alloc_some
def fleuronlaw03_drawn.f : Option Bool := some true
def drawnPts : List S33 := [⟨0, 0, true⟩, ⟨4, 0, true⟩, ⟨4, 4, true⟩, ⟨0, 4, true⟩]
def drawnRev : List S33 := [⟨0, 0, true⟩, ⟨0, 4, true⟩, ⟨4, 4, true⟩, ⟨4, 0, true⟩]
def drawnMov : List S33 := [⟨1, 2, true⟩, ⟨5, 2, true⟩, ⟨5, 6, true⟩, ⟨1, 6, true⟩]
def drawnTri : List S52 := [⟨0, 0⟩, ⟨64, 0⟩, ⟨64, 64⟩]
def drawnOn : List Bool := [true, false, true]
def drawnWant : List S52 := [⟨0, 0⟩, ⟨15, 1⟩, ⟨28, 4⟩, ⟨39, 9⟩, ⟨48, 16⟩, ⟨55, 25⟩, ⟨60, 36⟩, ⟨63, 49⟩, ⟨64, 64⟩]
theorem drawn1 : outline_Box.f drawnPts [3] = some (0, 0, false, 4, 4, false, true) := by kernel_rfl
theorem drawn2 : outline_Box.f [] [] = some (0, 0, false, 0, 0, false, false) := by kernel_rfl
theorem drawn3 : outline_Reversed.f drawnPts [3] = some (drawnRev, [3]) := by kernel_rfl
theorem drawn4 : outline_Moved.f 20 drawnPts [3] 1 2 = some (drawnMov, [3]) := by kernel_rfl
theorem drawn5 : outline_Lines.f drawnTri drawnOn [2] = some [drawnWant] := by kernel_rfl
theorem drawn6 : outline_Right.f 20 drawnPts [3] = some true := by kernel_rfl
theorem drawn7 : outline_Right.f 20 [] [0] = some false := by kernel_rfl
theorem drawn8 : outline_Area.f drawnPts [3] = some 32 := by kernel_rfl
theorem drawn9 : outline_Area.f drawnRev [3] = some (-32) := by kernel_rfl
theorem drawn10 : fleuronref03_SamePts.f 20 drawnWant drawnWant = some true := by kernel_rfl
theorem drawn_sl {α : Type} {d : Kd α} {e base : Nat} {ok : Nat → Prop} {w : World} {v : Value} {xs : List α} (h : d.R e w base ok v xs) {n : Nat} (hn : xs.length = n) : ∃ A c, v = .slice A n c := by
 obtain ⟨A, c, e⟩ := Kd.R_slice h
 exact ⟨A, c, by rw [e, hn]⟩
theorem drawn_reps {α : Type} {R : α → List Value → Prop} {size : Nat} (seg : α → List Value) (hs : ∀ x, (seg x).length = size) (hR : ∀ x, R x (seg x)) : ∀ xs : List α, Reps R size xs (xs.flatMap seg)
 | [] => Reps.none _ _
 | x :: xs => by
  have h1 : Reps R size [x] (seg x) := by simpa using Reps.snoc (Reps.none R size) (hR x) (hs x)
  simpa using Kd.reps_append h1 (drawn_reps seg hs hR xs)
theorem drawn_lit {α : Type} (d : Kd α) (seg : α → List Value) {w : World} (hs : ∀ x, (seg x).length = d.sz) (hK : ∀ x, d.K w x (seg x)) (xs : List α) (hm : xs.length ≤ 9223372036854775807) {g : Nat} {t : TypeId} (hb : w.heap[g]? = some (.cells (xs.flatMap seg).toArray t (0, 0))) : d.C w (some ⟨g, 0, none⟩) xs.length xs := by
 refine ⟨rfl, hm, fun _ => ⟨_, rfl, fun j p hj => ⟨seg p, hs p, hK p, fun i u hu => ?_⟩⟩⟩
 have h := (drawn_reps (R := fun x c => c = seg x) seg hs (fun _ => rfl) xs).2 j p hj
 have hi : i < d.sz := by have := (List.getElem?_eq_some_iff.1 hu).1; rw [hs] at this; exact this
 rw [← h, List.getElem?_take_of_lt hi, List.getElem?_drop] at hu
 have e : (⟨g, 0, none⟩ : Addr).add (j * d.sz + i) = ⟨g, j * d.sz + i, none⟩ := by simp [Addr.add]; omega
 rw [e, blk_cell hb]
 simpa using hu
set_option maxHeartbeats 8000000 in
set_option maxRecDepth 100000 in
theorem drawn_calls (w : World) : Calls Try.prog 21 #[] w fun e w' => e = .returned (.bool true) ∧ Below w.heap.size w w' := by
 have hu := Try.underlying25
 have hu2 := Try.underlying33
 have hu3 := Try.underlying52
 refine (callsIn_wide (n := 0)).1 (callsIn_of_wp Try.func21 rfl trivial ?_ rfl)
 simp only [Try.ntmps21, List.size_toArray, List.length_cons, List.length_nil, Nat.reduceAdd, Nat.reduceSub, Array.replicate_succ, Array.replicate_zero, List.push_toArray, List.append_toArray, List.nil_append, List.cons_append]
 gi_wp2
 refine CallsIn.mono (callsIn_wide.2 (fleuronlaw03_square.calls drawnPts [3] w rfl)) ?_
 rintro e V0 ⟨v0, v1, rfl, hR0, hR1, hb0⟩
 obtain ⟨Ap, cp, rfl⟩ := drawn_sl hR0 (n := 4) rfl
 obtain ⟨Ae, ce, rfl⟩ := drawn_sl hR1 (n := 1) rfl
 replace hR0 := R_own1 flat_pt hR0
 replace hR1 := R_own1 (flat_int .i64) hR1
 gi_wp2
 -- Box of o
 generalize hV : World.alloc V0 _ = V1
 have hB : Blks [(V0.heap.size, .cells #[.slice Ap 4 cp, .slice Ae 1 ce] 25 (0, 0))] V1 := by rw [← hV]; exact (Blks.nil V0).alloc _
 have hs1 : V1.heap.size = V0.heap.size + 1 := by rw [← hV]; simp
 have hb1 : Below V0.heap.size V0 V1 := by rw [← hV]; exact (Below.refl _ V0).alloc (Nat.le_refl _) _
 clear hV
 have HP := (Kd.R_reads' (R_chg hR0 (Chg.of_fresh (S := fun _ => False) hb1) (fun _ _ => id))).2
 have HE := (Kd.R_reads' (R_chg hR1 (Chg.of_fresh (S := fun _ => False) hb1) (fun _ _ => id))).2
 replace hb0 := hb0.trans (hb1.mono (by have := hb0.size; omega))
 clear hR0 hR1
 refine CallsIn.mono (callsIn_wide.2 (outline_Box.calls Ap cp drawnPts Ae ce [3] 0 0 false 4 4 false true V1 HP.2 HP.1 HE.2 HE.1 drawn1)) ?_
 rintro e V2 ⟨rfl, hb2⟩
 gi_wp2
 -- Box of nothing
 generalize hV : World.alloc (World.alloc V2 _) _ = V3
 have hB3 : Blks [(V2.heap.size + 1, .cells #[.int .i64 4, .int .i64 4, .bool false] 33 (0, 0)), (V2.heap.size, .cells #[.int .i64 0, .int .i64 0, .bool false] 33 (0, 0)), (V0.heap.size, .cells #[.slice Ap 4 cp, .slice Ae 1 ce] 25 (0, 0))] V3 := by rw [← hV]; exact ((hB.below hb2).alloc _).alloc_at _ (by simp)
 have hs3 : V3.heap.size = V2.heap.size + 1 + 1 := by rw [← hV]; simp
 have hb3 : Below V1.heap.size V1 V3 := by rw [← hV]; exact (hb2.alloc hb2.size _).alloc (by simp; have := hb2.size; omega) _
 clear hV hB
 refine CallsIn.mono (callsIn_wide.2 (outline_Box.calls none 0 [] none 0 [] 0 0 false 0 0 false false V3 (Kd.C_nil _ _) (Nat.le_refl _) (Kd.C_nil _ _) (Nat.le_refl _) drawn2)) ?_
 rintro e V4 ⟨rfl, hb4⟩
 have hB4 := hB3.below hb4
 have c1 := hB4.cell 2 rfl 0
 have c2 := hB4.cell 2 rfl 1
 have f1 := hB4.free 2 rfl 0
 have f2 := hB4.free 2 rfl 1
 simp only [List.getElem?_toArray, List.getElem?_cons_zero, List.getElem?_cons_succ] at c1 c2
 gi_wp2
 -- Reversed
 generalize hV : World.alloc (World.alloc V4 _) _ = V5
 have hB5 : Blks [(V4.heap.size + 1, .cells #[.int .i64 0, .int .i64 0, .bool false] 33 (0, 0)), (V4.heap.size, .cells #[.int .i64 0, .int .i64 0, .bool false] 33 (0, 0)), (V2.heap.size + 1, .cells #[.int .i64 4, .int .i64 4, .bool false] 33 (0, 0)), (V2.heap.size, .cells #[.int .i64 0, .int .i64 0, .bool false] 33 (0, 0)), (V0.heap.size, .cells #[.slice Ap 4 cp, .slice Ae 1 ce] 25 (0, 0))] V5 := by rw [← hV]; exact (hB4.alloc _).alloc_at _ (by simp)
 have hb5 : Below V1.heap.size V1 V5 := by rw [← hV]; exact hb3.trans (((hb4.alloc hb4.size _).alloc (by simp; have := hb4.size; omega) _).mono hb3.size)
 replace hB5 := hB5.sub (H' := [(V2.heap.size + 1, .cells #[.int .i64 4, .int .i64 4, .bool false] 33 (0, 0)), (V2.heap.size, .cells #[.int .i64 0, .int .i64 0, .bool false] 33 (0, 0)), (V0.heap.size, .cells #[.slice Ap 4 cp, .slice Ae 1 ce] 25 (0, 0))]) (((List.Sublist.refl _).cons _).cons _)
 clear hV hB3 hB4 c1 c2 f1 f2 hb4
 refine CallsIn.mono (callsIn_wide.2 (outline_Reversed.calls Ap cp drawnPts Ae ce [3] drawnRev [3] V5 (Kd.C_below HP.2 hb5) HP.1 (Kd.C_below HE.2 hb5) HE.1 drawn3)) ?_
 rintro e V6 ⟨v0, v1, rfl, hR0, hR1, hb6⟩
 obtain ⟨Ar, cr, rfl⟩ := drawn_sl hR0 (n := 4) rfl
 obtain ⟨As, cs, rfl⟩ := drawn_sl hR1 (n := 1) rfl
 replace hR0 := (Kd.R_reads' hR0).2
 replace hR1 := (Kd.R_reads' hR1).2
 have hB6 := hB5.below hb6
 have c1 := hB6.cell 2 rfl 0
 have c2 := hB6.cell 2 rfl 1
 have f1 := hB6.free 2 rfl 0
 have f2 := hB6.free 2 rfl 1
 simp only [List.getElem?_toArray, List.getElem?_cons_zero, List.getElem?_cons_succ] at c1 c2
 gi_wp2
 -- Moved
 generalize hV : World.alloc V6 _ = V7
 have hB7 : Blks [(V6.heap.size, .cells #[.slice Ar 4 cr, .slice As 1 cs] 25 (0, 0)), (V2.heap.size + 1, .cells #[.int .i64 4, .int .i64 4, .bool false] 33 (0, 0)), (V2.heap.size, .cells #[.int .i64 0, .int .i64 0, .bool false] 33 (0, 0)), (V0.heap.size, .cells #[.slice Ap 4 cp, .slice Ae 1 ce] 25 (0, 0))] V7 := by rw [← hV]; exact hB6.alloc _
 have hb7 : Below V6.heap.size V6 V7 := by rw [← hV]; exact (Below.refl _ V6).alloc (Nat.le_refl _) _
 have hb57 : Below V1.heap.size V1 V7 := hb5.trans ((hb6.trans (hb7.mono hb6.size)).mono hb5.size)
 have HR := Kd.C_below hR0.2 hb7
 have HS := Kd.C_below hR1.2 hb7
 clear hV hB5 hB6 c1 c2 f1 f2 hb5 hb3 hb6
 refine CallsIn.mono (callsIn_wide.2 (outline_Moved.calls 20 Ap cp drawnPts Ae ce [3] 1 2 drawnMov [3] V7 (Kd.C_below HP.2 hb57) HP.1 (Kd.C_below HE.2 hb57) HE.1 drawn4)) ?_
 rintro e V8 ⟨v0, v1, rfl, hM0, hM1, hb8⟩
 obtain ⟨Am, cm, rfl⟩ := drawn_sl hM0 (n := 4) rfl
 obtain ⟨An, cn, rfl⟩ := drawn_sl hM1 (n := 1) rfl
 replace hM0 := (Kd.R_reads' hM0).2
 replace hM1 := (Kd.R_reads' hM1).2
 have hB8 := hB7.below hb8
 gi_wp2
 -- Lines
 generalize hV : World.alloc (World.alloc (World.alloc (World.alloc V8 _) _) _) _ = V9
 have hb9 : Below V8.heap.size V8 V9 := by rw [← hV]; exact ((((Below.refl _ V8).alloc (Nat.le_refl _) _).alloc (by simp) _).alloc (by simp; omega) _).alloc (by simp; omega) _
 have hB9 : Blks [(V8.heap.size + 1 + 1 + 1, .cells #[.int .i64 2] 3 (0, 0)), (V8.heap.size + 1 + 1, .cells #[.bool true, .bool false, .bool true] 4 (0, 0)), (V8.heap.size + 1, .cells #[.int .i64 0, .int .i64 0, .int .i64 64, .int .i64 0, .int .i64 64, .int .i64 64] 52 (0, 0)), (V8.heap.size, .cells #[.slice Am 4 cm, .slice An 1 cn] 25 (0, 0)), (V6.heap.size, .cells #[.slice Ar 4 cr, .slice As 1 cs] 25 (0, 0)), (V2.heap.size + 1, .cells #[.int .i64 4, .int .i64 4, .bool false] 33 (0, 0)), (V2.heap.size, .cells #[.int .i64 0, .int .i64 0, .bool false] 33 (0, 0)), (V0.heap.size, .cells #[.slice Ap 4 cp, .slice Ae 1 ce] 25 (0, 0))] V9 := by rw [← hV]; exact (((hB8.alloc _).alloc_at _ (by simp)).alloc_at _ (by simp)).alloc_at _ (by simp)
 have HT : Kd.C k52 V9 (some ⟨V8.heap.size + 1, 0, none⟩) drawnTri.length drawnTri := drawn_lit _ (fun x => [.int .i64 x.f0, .int .i64 x.f1]) (fun _ => rfl) (fun x => k52_mk _ x) _ (by decide) (hB9.blk 2 rfl)
 have HO : Kd.C Kd.bool V9 (some ⟨V8.heap.size + 1 + 1, 0, none⟩) drawnOn.length drawnOn := drawn_lit _ (fun x => [.bool x]) (fun _ => rfl) (fun x => rfl) _ (by decide) (hB9.blk 1 rfl)
 have HN : Kd.C (Kd.int .i64) V9 (some ⟨V8.heap.size + 1 + 1 + 1, 0, none⟩) [(2 : Int)].length [2] := drawn_lit _ (fun x => [.int .i64 x]) (fun _ => rfl) (fun x => rfl) _ (by decide) (hB9.blk 0 rfl)
 replace hB9 := hB9.tail.tail.tail
 clear hV hB8 hB7
 refine CallsIn.mono (callsIn_wide.2 (outline_Lines.calls _ 3 drawnTri _ 3 drawnOn _ 1 [2] [drawnWant] V9 HT (by decide) HO (by decide) HN (by decide) drawn5)) ?_
 rintro e V10 ⟨v0, rfl, hL, hb10⟩
 obtain ⟨Al, cl, rfl⟩ := Kd.S_slice hL
 simp only [List.length_cons, List.length_nil, Nat.zero_add] at hL ⊢
 obtain ⟨-, hcl, hLC⟩ := Kd.S_reads' hL
 clear hL
 obtain ⟨ad, rfl, hLD⟩ := hLC.2.2 (by decide)
 obtain ⟨c, -, ⟨Aw, cw, rfl, hcw, hWC⟩, hx⟩ := hLD 0 _ rfl
 have hx := hx 0 _ rfl
 have hB10 := hB9.below hb10
 have m0 := hB10.cell 0 rfl 0
 have m1 := hB10.cell 0 rfl 1
 have r0 := hB10.cell 1 rfl 0
 have r1 := hB10.cell 1 rfl 1
 have o0 := hB10.cell 4 rfl 0
 have o1 := hB10.cell 4 rfl 1
 have h0 := hB10.cell 2 rfl 0
 have h1 := hB10.cell 2 rfl 1
 have h2 := hB10.cell 2 rfl 2
 have l0 := hB10.cell 3 rfl 0
 have l1 := hB10.cell 3 rfl 1
 have l2 := hB10.cell 3 rfl 2
 simp only [List.getElem?_toArray, List.getElem?_cons_zero, List.getElem?_cons_succ] at m0 m1 r0 r1 o0 o1 h0 h1 h2 l0 l1 l2
 gi_wp2
 -- Right of o
 generalize hV : World.alloc V10 _ = V11
 have hb11 : Below V10.heap.size V10 V11 := by rw [← hV]; exact (Below.refl _ V10).alloc (Nat.le_refl _) _
 have hW11 := (hB10.alloc (.cells #[.int .i64 0, .int .i64 0, .int .i64 15, .int .i64 1, .int .i64 28, .int .i64 4, .int .i64 39, .int .i64 9, .int .i64 48, .int .i64 16, .int .i64 55, .int .i64 25, .int .i64 60, .int .i64 36, .int .i64 63, .int .i64 49, .int .i64 64, .int .i64 64] 52 (0, 0)))
 rw [hV] at hW11
 have HQ : Kd.C k52 V11 (some ⟨V10.heap.size, 0, none⟩) drawnWant.length drawnWant := drawn_lit _ (fun x => [.int .i64 x.f0, .int .i64 x.f1]) (fun _ => rfl) (fun x => k52_mk _ x) _ (by decide) (hW11.blk 0 rfl)
 have hB11 := hW11.tail
 clear hV hW11
 clear m0 m1 r0 r1 o0 o1 h0 h1 h2 l0 l1 l2
 have b1_11 : Below V1.heap.size V1 V11 := hb57.trans ((hb8.trans ((hb9.trans ((hb10.trans (hb11.mono hb10.size)).mono hb9.size)).mono hb8.size)).mono hb57.size)
 refine CallsIn.mono (callsIn_wide.2 (outline_Right.calls 20 Ap cp drawnPts Ae ce [3] true V11 (Kd.C_below HP.2 b1_11) HP.1 (Kd.C_below HE.2 b1_11) HE.1 drawn6)) ?_
 rintro e V12 ⟨rfl, hb12⟩
 have hB12 := hB11.below hb12
 have m0 := hB12.cell 0 rfl 0
 have m1 := hB12.cell 0 rfl 1
 have r0 := hB12.cell 1 rfl 0
 have r1 := hB12.cell 1 rfl 1
 have o0 := hB12.cell 4 rfl 0
 have o1 := hB12.cell 4 rfl 1
 have h0 := hB12.cell 2 rfl 0
 have h1 := hB12.cell 2 rfl 1
 have h2 := hB12.cell 2 rfl 2
 have l0 := hB12.cell 3 rfl 0
 have l1 := hB12.cell 3 rfl 1
 have l2 := hB12.cell 3 rfl 2
 simp only [List.getElem?_toArray, List.getElem?_cons_zero, List.getElem?_cons_succ] at m0 m1 r0 r1 o0 o1 h0 h1 h2 l0 l1 l2
 gi_wp2
 -- Right of what may not be
 generalize hV : World.alloc V12 _ = V13
 have hb13 : Below V12.heap.size V12 V13 := by rw [← hV]; exact (Below.refl _ V12).alloc (Nat.le_refl _) _
 have hZ := hB12.alloc (.cells #[.int .i64 0] 3 (0, 0))
 rw [hV] at hZ
 have HZ : Kd.C (Kd.int .i64) V13 (some ⟨V12.heap.size, 0, none⟩) [(0 : Int)].length [0] := drawn_lit _ (fun x => [.int .i64 x]) (fun _ => rfl) (fun x => rfl) _ (by decide) (hZ.blk 0 rfl)
 have hB13 := hZ.tail
 clear hV hZ
 clear m0 m1 r0 r1 o0 o1 h0 h1 h2 l0 l1 l2
 refine CallsIn.mono (callsIn_wide.2 (outline_Right.calls 20 none 0 [] _ 1 [0] false V13 (Kd.C_nil _ _) (Nat.le_refl _) HZ (by decide) drawn7)) ?_
 rintro e V14 ⟨rfl, hb14⟩
 have hB14 := hB13.below hb14
 have m0 := hB14.cell 0 rfl 0
 have m1 := hB14.cell 0 rfl 1
 have r0 := hB14.cell 1 rfl 0
 have r1 := hB14.cell 1 rfl 1
 have o0 := hB14.cell 4 rfl 0
 have o1 := hB14.cell 4 rfl 1
 have h0 := hB14.cell 2 rfl 0
 have h1 := hB14.cell 2 rfl 1
 have h2 := hB14.cell 2 rfl 2
 have l0 := hB14.cell 3 rfl 0
 have l1 := hB14.cell 3 rfl 1
 have l2 := hB14.cell 3 rfl 2
 simp only [List.getElem?_toArray, List.getElem?_cons_zero, List.getElem?_cons_succ] at m0 m1 r0 r1 o0 o1 h0 h1 h2 l0 l1 l2
 gi_wp2
 -- Area of o
 clear m0 m1 r0 r1 o0 o1 h0 h1 h2 l0 l1 l2
 have hb1114 : Below V11.heap.size V11 V14 := hb12.trans ((hb13.trans (hb14.mono hb13.size)).mono hb12.size)
 have b1_14 : Below V1.heap.size V1 V14 := b1_11.trans (hb1114.mono b1_11.size)
 refine CallsIn.mono (callsIn_wide.2 (outline_Area.calls Ap cp drawnPts Ae ce [3] 32 V14 (Kd.C_below HP.2 b1_14) HP.1 (Kd.C_below HE.2 b1_14) HE.1 drawn8)) ?_
 rintro e V15 ⟨rfl, hb15⟩
 have hB15 := hB14.below hb15
 have m0 := hB15.cell 0 rfl 0
 have m1 := hB15.cell 0 rfl 1
 have r0 := hB15.cell 1 rfl 0
 have r1 := hB15.cell 1 rfl 1
 have o0 := hB15.cell 4 rfl 0
 have o1 := hB15.cell 4 rfl 1
 have h0 := hB15.cell 2 rfl 0
 have h1 := hB15.cell 2 rfl 1
 have h2 := hB15.cell 2 rfl 2
 have l0 := hB15.cell 3 rfl 0
 have l1 := hB15.cell 3 rfl 1
 have l2 := hB15.cell 3 rfl 2
 simp only [List.getElem?_toArray, List.getElem?_cons_zero, List.getElem?_cons_succ] at m0 m1 r0 r1 o0 o1 h0 h1 h2 l0 l1 l2
 gi_wp2
 -- Area of r
 clear m0 m1 r0 r1 o0 o1 h0 h1 h2 l0 l1 l2
 have hb1115 : Below V11.heap.size V11 V15 := hb1114.trans (hb15.mono hb1114.size)
 have hb811 : Below V8.heap.size V8 V11 := hb9.trans ((hb10.trans (hb11.mono hb10.size)).mono hb9.size)
 have hb815 : Below V8.heap.size V8 V15 := hb811.trans (hb1115.mono hb811.size)
 have hb715 : Below V7.heap.size V7 V15 := hb8.trans (hb815.mono hb8.size)
 refine CallsIn.mono (callsIn_wide.2 (outline_Area.calls Ar cr drawnRev As cs [3] (-32) V15 (Kd.C_below HR hb715) hR0.1 (Kd.C_below HS hb715) hR1.1 drawn9)) ?_
 rintro e V16 ⟨rfl, hb16⟩
 have hB16 := hB15.below hb16
 have m0 := hB16.cell 0 rfl 0
 have m1 := hB16.cell 0 rfl 1
 have r0 := hB16.cell 1 rfl 0
 have r1 := hB16.cell 1 rfl 1
 have o0 := hB16.cell 4 rfl 0
 have o1 := hB16.cell 4 rfl 1
 have h0 := hB16.cell 2 rfl 0
 have h1 := hB16.cell 2 rfl 1
 have h2 := hB16.cell 2 rfl 2
 have l0 := hB16.cell 3 rfl 0
 have l1 := hB16.cell 3 rfl 1
 have l2 := hB16.cell 3 rfl 2
 simp only [List.getElem?_toArray, List.getElem?_cons_zero, List.getElem?_cons_succ] at m0 m1 r0 r1 o0 o1 h0 h1 h2 l0 l1 l2
 have HR16 := Kd.C_below (Kd.C_below HR hb715) hb16
 have HM16 := Kd.C_below (Kd.C_below hM0.2 hb815) hb16
 obtain ⟨ar, rfl, HRc⟩ := HR16.2.2 (by decide)
 obtain ⟨am, rfl, HMc⟩ := HM16.2.2 (by decide)
 obtain ⟨cr1, -, kr1, xr1⟩ := HRc 1 _ rfl
 obtain ⟨cm0, -, km0, xm0⟩ := HMc 0 _ rfl
 obtain rfl := k33_open kr1
 obtain rfl := k33_open km0
 have yr : V16.cell? ⟨ar.block, ar.off + 3 + 1, none⟩ = some (.int .i64 4) := xr1 1 _ rfl
 have ym : V16.cell? ⟨am.block, am.off + 1, none⟩ = some (.int .i64 2) := xm0 1 _ rfl
 have hb1016 : Below V10.heap.size V10 V16 := hb11.trans ((hb1115.trans (hb16.mono hb1115.size)).mono hb11.size)
 have hl16 := (Kd.C_below hLC hb1016).2.2 (by decide)
 obtain ⟨ad', e', hLE⟩ := hl16
 obtain rfl : ad = ad' := by simpa using e'
 obtain ⟨c', -, ⟨Ax, cx, rfl, hcx, hXC⟩, hx'⟩ := hLE 0 _ rfl
 have hx' : V16.cell? ad = some (.slice Ax 9 cx) := hx' 0 _ rfl
 clear hx
 gi_wp2
 have HQ16 := Kd.C_below HQ ((hb1115.trans (hb16.mono hb1115.size)))
 refine CallsIn.mono (callsIn_wide.2 (fleuronref03_SamePts.calls 20 Ax cx drawnWant _ 9 drawnWant true V16 hXC hcx HQ16 (by decide) drawn10)) ?_
 rintro e V17 ⟨rfl, hd⟩
 gi_wp2
 go_ret
 have hbz : Below V11.heap.size V11 V17 := hb1115.trans ((hb16.trans (hd.below.mono hb16.size)).mono hb1115.size)
 exact ⟨rfl, hb0.trans ((b1_11.trans (hbz.mono b1_11.size)).mono hb0.size)⟩
theorem fleuronlaw03_drawn.calls (r : Bool) (w : World) (h : fleuronlaw03_drawn.f = some r) : Calls Try.prog 21 #[] w fun e w' => e = .returned (.bool r) ∧ Below w.heap.size w w' := by
 simp only [fleuronlaw03_drawn.f, Option.some.injEq] at h
 subst h
 exact drawn_calls w

end Go.Proofs.Ytbmklpcheopgoaa.H

namespace Go.Proofs.Ytbmklpcheopgoaa.H
open Go.RowKit Go.Proofs.YtbmklpcheopgoaaW.PrintWords Go.Proofs.YtbmklpcheopgoaaW.PrintLast Go.Proofs.YtbmklpcheopgoaaW.PrintMore
attribute [local go_sem] max2_int min2_int max_two min_two max_three min_three max_four min_four   -- for this text's walks alone
set_option linter.unusedVariables false
set_option linter.unusedSimpArgs false

/-! ### fleuronlaw03_grid: function 34 -/
def fleuronlaw03_grid.l0 : Nat → Int → Int → List (S52) → List Bool → Int → List (S33) → List Int → Option ((List (S52)) × List Bool)
 | 0, _, _, _, _, _, _, _ => none
 | k + 1, x1, x2, x8, x9, x10, x430000, x430001 => if x10 < (x430000.length : Int) then (if 0 ≤ x10 then (if x8.length < 8796093022208 then (if x9.length < 140737488355328 then (fleuronlaw03_grid.l0 k x1 x2 (x8 ++ [(⟨wrap64 (((rd_T33 x430000 x10).f0) + x1), wrap64 (((rd_T33 x430000 x10).f1) + x2)⟩ : S52)]) (x9 ++ [(rd_T33 x430000 x10).f2]) (wrap64 (x10 + 1)) x430000 x430001) else (none)) else (none)) else (none)) else (some (x8, x9))
def fleuronlaw03_grid.f (k : Nat) (l0_0 : List (S33)) (l0_1 : List Int) (a1 : Int) (a2 : Int) : Option ((List (S52)) × List Bool) := fleuronlaw03_grid.l0 k a1 a2 (([] : List (S52))) (([] : List Bool)) 0 l0_0 l0_1
theorem fleuronlaw03_grid.mono_l : ∀ k, (∀ y0 y1 y2 y3 y4 y5 y6, LeO (fleuronlaw03_grid.l0 k y0 y1 y2 y3 y4 y5 y6) (fleuronlaw03_grid.l0 (k + 1) y0 y1 y2 y3 y4 y5 y6))
 | 0 => fun _ _ _ _ _ _ _ r h => by simp [fleuronlaw03_grid.l0] at h
 | k + 1 => by
  have ih0 := fleuronlaw03_grid.mono_l k
  ·
   intro y0 y1 y2 y3 y4 y5 y6
   unfold fleuronlaw03_grid.l0
   repeat' first
   | (with_reducible exact ih0 _ _ _ _ _ _ _)
   | (with_reducible exact LeO.refl _)
   | (with_reducible exact LeO.none _)
   | (with_reducible refine LeO.ite ?_ ?_)
   | (with_reducible refine LeO.bind ?_ (fun _ => ?_))
   | exact ih0 _ _ _ _ _ _ _
   | exact LeO.none _
   | refine LeO.ite ?_ ?_
   | refine LeO.bind ?_ (fun _ => ?_)
theorem fleuronlaw03_grid.mono : ∀ a0 a1 a2 a3 k, LeO (fleuronlaw03_grid.f k a0 a1 a2 a3) (fleuronlaw03_grid.f (k + 1) a0 a1 a2 a3) := by
 intro a0 a1 a2 a3 k
 have ih0 := fleuronlaw03_grid.mono_l k
 unfold fleuronlaw03_grid.f
 repeat' first
   | (with_reducible exact ih0 _ _ _ _ _ _ _)
   | (with_reducible exact LeO.refl _)
   | (with_reducible exact LeO.none _)
   | (with_reducible refine LeO.ite ?_ ?_)
   | (with_reducible refine LeO.bind ?_ (fun _ => ?_))
   | exact ih0 _ _ _ _ _ _ _
   | exact LeO.none _
   | refine LeO.ite ?_ ?_
   | refine LeO.bind ?_ (fun _ => ?_)
def fleuronlaw03_grid.T6 : Bool × List (List Nat × List Nat) := (true, [([], []), ([], []), ([1], [1]), ([], []), ([2, 3], [2, 3]), ([4], [4]), ([5], [5]), ([], []), ([6, 7], [6, 7]), ([], []), ([9], [9]), ([], []), ([10, 11], [10, 11]), ([12], [12]), ([13], [13]), ([], []), ([14, 15], [14, 15]), ([8, 16], [8, 16]), ([17], [17]), ([0, 18], [0, 18]), ([19, 19, 0, 1, 2, 3, 4, 5, 6, 7, 8, 9, 10, 11, 12, 13, 14, 15, 16, 17, 18, 19], [0, 19])])
def fleuronlaw03_grid.B6 : List Nat := [0, 0, 2, 0, 14, 30, 62, 0, 254, 0, 512, 0, 3584, 7680, 15872, 0, 65024, 131070, 262142, 524287, 1048575]
theorem fleuronlaw03_grid.tab6 : rtab .any (opsOf Try.f34 6) = fleuronlaw03_grid.T6 := by kernel_rfl
theorem fleuronlaw03_grid.bits6 : waitsOk fleuronlaw03_grid.T6.2 fleuronlaw03_grid.B6 = true := by kernel_rfl
set_option maxHeartbeats 8000000 in
set_option maxRecDepth 100000 in
theorem fleuronlaw03_grid.calls (k : Nat) (A0_0 : Option Addr) (c0_0 : Nat) (l0_0 : List (S33)) (A0_1 : Option Addr) (c0_1 : Nat) (l0_1 : List Int) (a1 : Int) (a2 : Int) (r1 : List (S52)) (r2 : List Bool) (w : World) (hr0_0 : Kd.C k33 w A0_0 l0_0.length l0_0) (hc0_0 : l0_0.length ≤ c0_0) (hr0_1 : Kd.C (Kd.int .i64) w A0_1 l0_1.length l0_1) (hc0_1 : l0_1.length ≤ c0_1) (h : fleuronlaw03_grid.f k l0_0 l0_1 a1 a2 = some (r1, r2)) :
  Calls Try.prog 34 #[.agg #[.slice A0_0 l0_0.length c0_0, .slice A0_1 l0_1.length c0_1], .int .i64 a1, .int .i64 a2] w fun e w' => ∃ v0_ v1_ : Value, e = .returned (.tuple #[v0_, v1_]) ∧ Kd.R k52 52 w' w.heap.size (fun _ => True) v0_ r1 ∧ Kd.R Kd.bool 4 w' w.heap.size (fun _ => True) v1_ r2 ∧ Below w.heap.size w w' := by
 have hu25 := Try.underlying25
 have hu52 := Try.underlying52
 have HR0_0 := aM hr0_0
 have HC0_0 := aM hc0_0
 clear hr0_0 hc0_0
 have HR0_1 := aM hr0_1
 have HC0_1 := aM hc0_1
 clear hr0_1 hc0_1
 have HB := aM (Below.refl w.heap.size w)
 have H : (fleuronlaw03_grid.l0 k a1 a2 (([] : List (S52))) (([] : List Bool)) 0 l0_0 l0_1) = some (r1, r2) := h
 clear h
 obtain ⟨y430, hy430⟩ : ∃ y_ : List (S52), y_ = (([] : List (S52))) := ⟨_, rfl⟩
 replace H : (fleuronlaw03_grid.l0 k a1 a2 y430 (([] : List Bool)) 0 l0_0 l0_1) = some (r1, r2) := by first | (rw [hy430]; with_reducible exact H) | (have H2_ := (Option.bind_some _ _).symm.trans H; rw [hy430]; with_reducible exact H2_) | (have H2_ := (Option.bind_some _ _).symm.trans H; with_reducible exact H2_) | with_reducible exact H | (rw [hy430]; exact H) | exact H
 have Ny430 := aM hy430
 clear hy430
 obtain ⟨y433, hy433⟩ : ∃ y_ : List Bool, y_ = (([] : List Bool)) := ⟨_, rfl⟩
 replace H : (fleuronlaw03_grid.l0 k a1 a2 y430 y433 0 l0_0 l0_1) = some (r1, r2) := by first | (rw [hy433]; with_reducible exact H) | (have H2_ := (Option.bind_some _ _).symm.trans H; rw [hy433]; with_reducible exact H2_) | (have H2_ := (Option.bind_some _ _).symm.trans H; with_reducible exact H2_) | with_reducible exact H | (rw [hy433]; exact H) | exact H
 have Ny433 := aM hy433
 clear hy433
 have H' := aM H
 clear H
 go_enter Try.func34, Try.ntmps34
 go_wp2_with (first | ((with_reducible refine gate_dst (N := 3) rfl ?_); refine box_event ?hg (N := 3) ?hd (cs := #[.slice A0_0 l0_0.length c0_0, .slice A0_1 l0_1.length c0_1]) (t := 25) ?hr ?_; (case hd => rfl); (case hg => rfl); (case hr => first | (go_simp; done) | (go_simp; rfl)); intro gb429 hg w4 hbox hb; have n0_ := aM (below_step (by repeat (first | (with_reducible first | exact HB.out | apply bA | apply bN | apply bD) | exact HB.out)) hb); have n1_ := aM (hbox); have n2_ := aM ((by rw [hg]; exact (below_size (by repeat (first | (with_reducible first | exact HB.out | apply bA | apply bN | apply bD) | exact HB.out))) : w.heap.size ≤ gb429)); have n3_ := aM ((by rw [hg]; exact (below_size (by repeat (first | (with_reducible first | exact HB.out | apply bA | apply bN | apply bD) | exact HB.out))) : w.heap.size ≤ gb429)); clear HB; have HB := n0_; have BK429 := n1_; have GW429 := n2_; have GE429 := n3_; clear n0_ n1_ n2_ n3_; clear hb hbox hg) | ((with_reducible refine gate_dst (N := 11) rfl ?_); refine Kd.R_lit k52 _ 52 ?hg (N := 11) ?hd (xs := ([] : List (S52))) (inner := []) (ok := fun _ => True) (okp := fun _ => True) ?hr ?hp (fun _ hk => hk) trivial (Below.refl _ _) (Nat.le_refl _) (by simp) ?_; (case hd => rfl); (case hg => rfl); (case hr => first | (go_simp; done) | (go_simp; rfl)); (case hp => exact (Reps.none _ _)); intro v431 w5 ho6 hb hg_ hnew_; clear hg_ hnew_; (first | rw [← Ny430.out] at ho6 | (simp only [Int.reduceToNat] at ho6; rw [← Ny430.out] at ho6)); have n0_ := aM (Kd.R_lower ho6 (below_size (by repeat (first | (with_reducible first | exact HB.out | apply bA | apply bN | apply bD | refine bS ?_ GE429.out) | exact HB.out)))); have n1_ := aM (blk_below (g := gb429) (o := .cells #[.slice A0_0 l0_0.length c0_0, .slice A0_1 l0_1.length c0_1] 25 (0, 0)) (by (with_reducible repeat (first | refine kN ?_ _ | refine kD ?_ | refine kA ?_ _)); exact BK429.out) hb); have n2_ := aM (below_step (by repeat (first | (with_reducible first | exact HB.out | apply bA | apply bN | apply bD | refine bS ?_ GE429.out) | exact HB.out)) hb); clear BK429; clear HB; have HO432 := n0_; have BK429 := n1_; have HB := n2_; clear n0_ n1_ n2_; clear hb ho6) | ((with_reducible refine gate_dst (N := 12) rfl ?_); refine Kd.R_lit Kd.bool _ 4 ?hg (N := 12) ?hd (xs := ([] : List Bool)) (inner := []) (ok := fun _ => True) (okp := fun _ => True) ?hr ?hp (fun _ hk => hk) trivial (Below.refl _ _) (Nat.le_refl _) (by simp) ?_; (case hd => rfl); (case hg => rfl); (case hr => first | (go_simp; done) | (go_simp; rfl)); (case hp => exact (Reps.none _ _)); intro v434 w7 ho8 hb hg_ hnew_; clear hg_ hnew_; (first | rw [← Ny433.out] at ho8 | (simp only [Int.reduceToNat] at ho8; rw [← Ny433.out] at ho8)); have n0_ := aM (Kd.R_below (by (with_reducible repeat (first | apply Kd.R_alloc | apply Kd.R_drewN | apply Kd.R_drew)); exact HO432.out) hb); have n1_ := aM (Kd.R_lower ho8 (below_size (by repeat (first | (with_reducible first | exact HB.out | apply bA | apply bN | apply bD | refine bS ?_ GE429.out) | exact HB.out)))); have n2_ := aM (blk_below (g := gb429) (o := .cells #[.slice A0_0 l0_0.length c0_0, .slice A0_1 l0_1.length c0_1] 25 (0, 0)) (by (with_reducible repeat (first | refine kN ?_ _ | refine kD ?_ | refine kA ?_ _)); exact BK429.out) hb); have n3_ := aM (below_step (by repeat (first | (with_reducible first | exact HB.out | apply bA | apply bN | apply bD | refine bS ?_ GE429.out) | exact HB.out)) hb); clear HO432; clear BK429; clear HB; have HO432 := n0_; have HO435 := n1_; have BK429 := n2_; have HB := n3_; clear n0_ n1_ n2_ n3_; clear hb ho8))
 go_loopg [8, 9, 10] k (fun kq v8 v9 v10 w' => ∃ (x8_1 : List (S52)) (x9_1 : List Bool) (x10_1 : Int), v10 = .int .i64 x10_1 ∧ Aside0 (fleuronlaw03_grid.l0 kq a1 a2 x8_1 x9_1 x10_1 l0_0 l0_1 = some (r1, r2)) ∧ Aside0 (kq ≤ k) ∧ Aside0 (Kd.R k52 52 w' w.heap.size (fun _ => True) v8 x8_1) ∧ Aside0 (Kd.R Kd.bool 4 w' w.heap.size (fun _ => True) v9 x9_1) ∧ Aside0 (w'.heap[gb429]? = some (.cells #[(.slice A0_0 l0_0.length c0_0), (.slice A0_1 l0_1.length c0_1)] 25 (0, 0))) ∧ Aside0 (Below w.heap.size w w'))
 case atStart => exact ⟨(y430), (y433), (0), (by first | rfl | (simp; done) | (simp [*]; done)), H', ⟨Nat.le_refl _⟩, ⟨by (with_reducible repeat (first | apply Kd.R_alloc | apply Kd.R_drewN | apply Kd.R_drew)); exact HO432.out⟩, ⟨by (with_reducible repeat (first | apply Kd.R_alloc | apply Kd.R_drewN | apply Kd.R_drew)); exact HO435.out⟩, ⟨by (with_reducible repeat (first | refine kN ?_ _ | refine kD ?_ | refine kA ?_ _)); exact BK429.out⟩, ⟨by repeat (first | (with_reducible first | exact HB.out | apply bA | apply bN | apply bD | refine bS ?_ GE429.out) | exact HB.out)⟩⟩
 case round =>
  clear H'
  try clear p2
  try clear c3
  obtain ⟨x8_1, x9_1, x10_1, rfl, HA, HK1, HO_8, HO_9, BK429, HB⟩ := hrel
  cases gk with
  | zero => exact absurd HA.out (by simp [fleuronlaw03_grid.l0])
  | succ k1 =>
   have H := HA.out
   clear HA
   simp only [fleuronlaw03_grid.l0] at H
   by_cases c9 : x10_1 < (l0_0.length : Int)
   ·
    rw [if_pos c9] at H
    have c9b0 : decide (x10_1 < (l0_0.length : Int)) = true := decide_eq_true c9
    clear c9
    by_cases c10 : 0 ≤ x10_1
    ·
     rw [if_pos c10] at H
     have c10b0 : decide (0 ≤ x10_1) = true := decide_eq_true c10
     clear c10
     by_cases c11 : x8_1.length < 8796093022208
     ·
      rw [if_pos c11] at H
      have LMc11 := aM c11
      clear c11
      obtain ⟨y438, hy438⟩ : ∃ y_ : List (S52), y_ = (x8_1 ++ [(⟨wrap64 (((rd_T33 l0_0 x10_1).f0) + a1), wrap64 (((rd_T33 l0_0 x10_1).f1) + a2)⟩ : S52)]) := ⟨_, rfl⟩
      replace H : (if x9_1.length < 140737488355328 then (fleuronlaw03_grid.l0 k1 a1 a2 y438 (x9_1 ++ [(rd_T33 l0_0 x10_1).f2]) (wrap64 (x10_1 + 1)) l0_0 l0_1) else (none)) = some (r1, r2) := by first | (rw [hy438]; with_reducible exact H) | (have H2_ := (Option.bind_some _ _).symm.trans H; rw [hy438]; with_reducible exact H2_) | (have H2_ := (Option.bind_some _ _).symm.trans H; with_reducible exact H2_) | with_reducible exact H | (rw [hy438]; exact H) | exact H
      have Ny438 := aM hy438
      clear hy438
      by_cases c12 : x9_1.length < 140737488355328
      ·
       rw [if_pos c12] at H
       have LMc12 := aM c12
       clear c12
       obtain ⟨y442, hy442⟩ : ∃ y_ : List Bool, y_ = (x9_1 ++ [(rd_T33 l0_0 x10_1).f2]) := ⟨_, rfl⟩
       replace H : (fleuronlaw03_grid.l0 k1 a1 a2 y438 y442 (wrap64 (x10_1 + 1)) l0_0 l0_1) = some (r1, r2) := by first | (rw [hy442]; with_reducible exact H) | (have H2_ := (Option.bind_some _ _).symm.trans H; rw [hy442]; with_reducible exact H2_) | (have H2_ := (Option.bind_some _ _).symm.trans H; with_reducible exact H2_) | with_reducible exact H | (rw [hy442]; exact H) | exact H
       have Ny442 := aM hy442
       clear hy442
       have H' := aM H
       clear H
       have hcz13_0 : wr.cell? ⟨gb429, 0, none⟩ = some (.slice A0_0 l0_0.length c0_0) := (blk_cell BK429.out 0).trans rfl
       have hcz13_1 : wr.cell? ⟨gb429, 1, none⟩ = some (.slice A0_1 l0_1.length c0_1) := (blk_cell BK429.out 1).trans rfl
       have hfz13_0 := blk_frozen BK429.out 0
       have hfz13_1 := blk_frozen BK429.out 1
       try go_wp2
       have n0_ := aM (Kd.R_drew HO_8.out)
       have n1_ := aM (Kd.R_drew HO_9.out)
       have n2_ := aM (kD BK429.out)
       have n3_ := aM (bD HB.out)
       clear HO_8
       clear HO_9
       clear BK429
       clear HB
       have HO_8 := n0_
       have HO_9 := n1_
       have BK429 := n2_
       have HB := n3_
       clear n0_ n1_ n2_ n3_
       have p436 : 0 ≤ (x10_1 : Int) := of_decide_eq_true (by assumption)
       have q436 : x10_1 < (l0_0.length : Int) := of_decide_eq_true (by assumption)
       obtain ⟨ad436, e436, hx436_0, hx436_1, hx436_2⟩ := at_T33 HR0_0.out x10_1 p436 q436
       have hw436_2 := hx436_2
       have hw436_1 := hx436_1
       have hw436_0 := hx436_0
       cases e436
       replace hx436_0 := (HB.out.cell (World.block_lt_of_cell? w _ hx436_0)).trans hx436_0
       replace hx436_1 := (HB.out.cell (World.block_lt_of_cell? w _ hx436_1)).trans hx436_1
       replace hx436_2 := (HB.out.cell (World.block_lt_of_cell? w _ hx436_2)).trans hx436_2
       replace p436 := eq_true p436
       replace q436 := eq_true q436
       have p437 : 0 ≤ (x10_1 : Int) := of_decide_eq_true (by assumption)
       have q437 : x10_1 < (l0_0.length : Int) := of_decide_eq_true (by assumption)
       obtain ⟨ad437, e437, hx437_0, hx437_1, hx437_2⟩ := at_T33 HR0_0.out x10_1 p437 q437
       have hw437_2 := hx437_2
       have hw437_1 := hx437_1
       have hw437_0 := hx437_0
       obtain rfl : ad436 = ad437 := (by injection e437)
       replace hx437_0 := (HB.out.cell (World.block_lt_of_cell? w _ hx437_0)).trans hx437_0
       replace hx437_1 := (HB.out.cell (World.block_lt_of_cell? w _ hx437_1)).trans hx437_1
       replace hx437_2 := (HB.out.cell (World.block_lt_of_cell? w _ hx437_2)).trans hx437_2
       replace p437 := eq_true p437
       replace q437 := eq_true q437
       refine start_ (n := 21) (S := fun w' => w'.cell? ⟨gb429, 0, none⟩ = some (.slice (some ad436) l0_0.length c0_0) ∧ w'.cell? ⟨gb429, 1, none⟩ = some (.slice A0_1 l0_1.length c0_1) ∧ w'.cell? (ad436.add ((x10_1).toNat * 3)) = some (.int .i64 ((rd_T33 l0_0 x10_1).f0)) ∧ w'.cell? ⟨(ad436.add ((x10_1).toNat * 3)).block, (ad436.add ((x10_1).toNat * 3)).off + 1, none⟩ = some (.int .i64 ((rd_T33 l0_0 x10_1).f1)) ∧ w'.cell? ⟨(ad436.add ((x10_1).toNat * 3)).block, (ad436.add ((x10_1).toNat * 3)).off + 2, none⟩ = some (.bool ((rd_T33 l0_0 x10_1).f2)) ∧ w'.cell? (ad436.add ((x10_1).toNat * 3)) = some (.int .i64 ((rd_T33 l0_0 x10_1).f0)) ∧ w'.cell? ⟨(ad436.add ((x10_1).toNat * 3)).block, (ad436.add ((x10_1).toNat * 3)).off + 1, none⟩ = some (.int .i64 ((rd_T33 l0_0 x10_1).f1)) ∧ w'.cell? ⟨(ad436.add ((x10_1).toNat * 3)).block, (ad436.add ((x10_1).toNat * 3)).off + 2, none⟩ = some (.bool ((rd_T33 l0_0 x10_1).f2))) (ds := []) #[false, false, false, false, false, false, false, false, false, false, false, false, false, false, false, false, false, false, false, false, false] (by kernel_rfl) rfl rfl ⟨(blk_cell BK429.out 0).trans rfl, (blk_cell BK429.out 1).trans rfl, ((HB.out.cell (World.block_lt_of_cell? w _ hw436_0)).trans hw436_0), ((HB.out.cell (World.block_lt_of_cell? w _ hw436_1)).trans hw436_1), ((HB.out.cell (World.block_lt_of_cell? w _ hw436_2)).trans hw436_2), ((HB.out.cell (World.block_lt_of_cell? w _ hw437_0)).trans hw437_0), ((HB.out.cell (World.block_lt_of_cell? w _ hw437_1)).trans hw437_1), ((HB.out.cell (World.block_lt_of_cell? w _ hw437_2)).trans hw437_2)⟩ (fun hHeld => ?_); refine with_tabW fleuronlaw03_grid.tab6 fleuronlaw03_grid.bits6 (fun HT_ HW_ => ?_)
       generalize wr.drew = w14 at HO_8 HO_9 BK429 HB hx436_0 hx436_1 hx436_2 hx437_0 hx437_1 hx437_2 hHeld ⊢
       refine pure_ (i := 0) (N := some 20) (v := ?_) (a' := ?_) #[true, false, false, false, false, false, false, false, false, false, false, false, false, false, false, false, false, false, false, false, false] rfl rfl (any_of HT_.out (by kernel_rfl)) (fun _ _ _ h => h) (Or.inl ⟨by rfl, ?_⟩) ?_ ?_
       rotate_left
       ·
        intro w'
        go_simp
        with_reducible rfl
       rotate_left
       ·
        simp only [Act.put, List.setIfInBounds_toArray, List.set_cons_zero, List.set_cons_succ, i64_w, i32_w]
        rfl
       refine pure_ (i := 1) (N := some 21) (v := ?_) (a' := ?_) #[true, true, false, false, false, false, false, false, false, false, false, false, false, false, false, false, false, false, false, false, false] rfl rfl (any_of HT_.out (by kernel_rfl)) (fun _ _ _ h => h) (Or.inl ⟨by rfl, ?_⟩) ?_ ?_
       rotate_left
       ·
        intro w'
        go_simp
        with_reducible rfl
       rotate_left
       ·
        simp only [Act.put, List.setIfInBounds_toArray, List.set_cons_zero, List.set_cons_succ, i64_w, i32_w]
        rfl
       refine pure_ (i := 3) (N := some 23) (v := ?_) (a' := ?_) #[true, true, false, true, false, false, false, false, false, false, false, false, false, false, false, false, false, false, false, false, false] rfl rfl (any_of HT_.out (by kernel_rfl)) (fun _ _ _ h => h) (Or.inl ⟨by rfl, ?_⟩) ?_ ?_
       rotate_left
       ·
        intro w'
        go_simp
        with_reducible rfl
       rotate_left
       ·
        simp only [Act.put, List.setIfInBounds_toArray, List.set_cons_zero, List.set_cons_succ, i64_w, i32_w]
        rfl
       refine pure_ (i := 7) (N := some 27) (v := ?_) (a' := ?_) #[true, true, false, true, false, false, false, true, false, false, false, false, false, false, false, false, false, false, false, false, false] rfl rfl (any_of HT_.out (by kernel_rfl)) (fun _ _ _ h => h) (Or.inl ⟨by rfl, ?_⟩) ?_ ?_
       rotate_left
       ·
        intro w'
        go_simp
        with_reducible rfl
       rotate_left
       ·
        simp only [Act.put, List.setIfInBounds_toArray, List.set_cons_zero, List.set_cons_succ, i64_w, i32_w]
        rfl
       refine pure_ (i := 9) (N := some 29) (v := ?_) (a' := ?_) #[true, true, false, true, false, false, false, true, false, true, false, false, false, false, false, false, false, false, false, false, false] rfl rfl (any_of HT_.out (by kernel_rfl)) (fun _ _ _ h => h) (Or.inl ⟨by rfl, ?_⟩) ?_ ?_
       rotate_left
       ·
        intro w'
        go_simp
        with_reducible rfl
       rotate_left
       ·
        simp only [Act.put, List.setIfInBounds_toArray, List.set_cons_zero, List.set_cons_succ, i64_w, i32_w]
        rfl
       refine pure_ (i := 11) (N := some 31) (v := ?_) (a' := ?_) #[true, true, false, true, false, false, false, true, false, true, false, true, false, false, false, false, false, false, false, false, false] rfl rfl (any_of HT_.out (by kernel_rfl)) (fun _ _ _ h => h) (Or.inl ⟨by rfl, ?_⟩) ?_ ?_
       rotate_left
       ·
        intro w'
        go_simp
        with_reducible rfl
       rotate_left
       ·
        simp only [Act.put, List.setIfInBounds_toArray, List.set_cons_zero, List.set_cons_succ, i64_w, i32_w]
        rfl
       refine pure_ (i := 15) (N := some 35) (v := ?_) (a' := ?_) #[true, true, false, true, false, false, false, true, false, true, false, true, false, false, false, true, false, false, false, false, false] rfl rfl (any_of HT_.out (by kernel_rfl)) (fun _ _ _ h => h) (Or.inl ⟨by rfl, ?_⟩) ?_ ?_
       rotate_left
       ·
        intro w'
        go_simp
        with_reducible rfl
       rotate_left
       ·
        simp only [Act.put, List.setIfInBounds_toArray, List.set_cons_zero, List.set_cons_succ, i64_w, i32_w]
        rfl
       refine take_ (i := 2) (N := some 22) (v := ?_) (a' := ?_) #[true, true, true, true, false, false, false, true, false, true, false, true, false, false, false, true, false, false, false, false, false] rfl rfl (take_ofW HT_.out HW_.out (by kernel_rfl)) (fun _ _ _ h => h) (Or.inl ⟨by rfl, ?_⟩) hHeld ?_ ?_
       rotate_left
       ·
        rintro w' ⟨s0, s1, s2, s3, s4, s5, s6, s7⟩
        go_simp
        with_reducible rfl
       rotate_left
       ·
        simp only [Act.put, List.setIfInBounds_toArray, List.set_cons_zero, List.set_cons_succ, i64_w, i32_w]
        rfl
       refine pure_ (i := 4) (N := some 24) (v := ?_) (a' := ?_) #[true, true, true, true, true, false, false, true, false, true, false, true, false, false, false, true, false, false, false, false, false] rfl rfl (any_of HT_.out (by kernel_rfl)) (fun _ _ _ h => h) (Or.inl ⟨by rfl, ?_⟩) ?_ ?_
       rotate_left
       ·
        intro w'
        go_simp
        with_reducible rfl
       rotate_left
       ·
        simp only [Act.put, List.setIfInBounds_toArray, List.set_cons_zero, List.set_cons_succ, i64_w, i32_w]
        rfl
       refine pure_ (i := 5) (N := some 25) (v := ?_) (a' := ?_) #[true, true, true, true, true, true, false, true, false, true, false, true, false, false, false, true, false, false, false, false, false] rfl rfl (any_of HT_.out (by kernel_rfl)) (fun _ _ _ h => h) (Or.inl ⟨by rfl, ?_⟩) ?_ ?_
       rotate_left
       ·
        intro w'
        go_simp
        with_reducible rfl
       rotate_left
       ·
        simp only [Act.put, List.setIfInBounds_toArray, List.set_cons_zero, List.set_cons_succ, i64_w, i32_w]
        rfl
       refine take_ (i := 6) (N := some 26) (v := ?_) (a' := ?_) #[true, true, true, true, true, true, true, true, false, true, false, true, false, false, false, true, false, false, false, false, false] rfl rfl (take_ofW HT_.out HW_.out (by kernel_rfl)) (fun _ _ _ h => h) (Or.inl ⟨by rfl, ?_⟩) hHeld ?_ ?_
       rotate_left
       ·
        rintro w' ⟨s0, s1, s2, s3, s4, s5, s6, s7⟩
        go_simp
        with_reducible rfl
       rotate_left
       ·
        simp only [Act.put, List.setIfInBounds_toArray, List.set_cons_zero, List.set_cons_succ, i64_w, i32_w]
        rfl
       refine pure_ (i := 8) (N := some 28) (v := ?_) (a' := ?_) #[true, true, true, true, true, true, true, true, true, true, false, true, false, false, false, true, false, false, false, false, false] rfl rfl (any_of HT_.out (by kernel_rfl)) (fun _ _ _ h => h) (Or.inl ⟨by rfl, ?_⟩) ?_ ?_
       rotate_left
       ·
        intro w'
        go_simp
        with_reducible rfl
       rotate_left
       ·
        simp only [Act.put, List.setIfInBounds_toArray, List.set_cons_zero, List.set_cons_succ, i64_w, i32_w]
        rfl
       refine take_ (i := 10) (N := some 30) (v := ?_) (a' := ?_) #[true, true, true, true, true, true, true, true, true, true, true, true, false, false, false, true, false, false, false, false, false] rfl rfl (take_ofW HT_.out HW_.out (by kernel_rfl)) (fun _ _ _ h => h) (Or.inl ⟨by rfl, ?_⟩) hHeld ?_ ?_
       rotate_left
       ·
        rintro w' ⟨s0, s1, s2, s3, s4, s5, s6, s7⟩
        go_simp
        with_reducible rfl
       rotate_left
       ·
        simp only [Act.put, List.setIfInBounds_toArray, List.set_cons_zero, List.set_cons_succ, i64_w, i32_w]
        rfl
       refine pure_ (i := 12) (N := some 32) (v := ?_) (a' := ?_) #[true, true, true, true, true, true, true, true, true, true, true, true, true, false, false, true, false, false, false, false, false] rfl rfl (any_of HT_.out (by kernel_rfl)) (fun _ _ _ h => h) (Or.inl ⟨by rfl, ?_⟩) ?_ ?_
       rotate_left
       ·
        intro w'
        go_simp
        with_reducible rfl
       rotate_left
       ·
        simp only [Act.put, List.setIfInBounds_toArray, List.set_cons_zero, List.set_cons_succ, i64_w, i32_w]
        rfl
       refine pure_ (i := 13) (N := some 33) (v := ?_) (a' := ?_) #[true, true, true, true, true, true, true, true, true, true, true, true, true, true, false, true, false, false, false, false, false] rfl rfl (any_of HT_.out (by kernel_rfl)) (fun _ _ _ h => h) (Or.inl ⟨by rfl, ?_⟩) ?_ ?_
       rotate_left
       ·
        intro w'
        go_simp
        with_reducible rfl
       rotate_left
       ·
        simp only [Act.put, List.setIfInBounds_toArray, List.set_cons_zero, List.set_cons_succ, i64_w, i32_w]
        rfl
       refine take_ (i := 14) (N := some 34) (v := ?_) (a' := ?_) #[true, true, true, true, true, true, true, true, true, true, true, true, true, true, true, true, false, false, false, false, false] rfl rfl (take_ofW HT_.out HW_.out (by kernel_rfl)) (fun _ _ _ h => h) (Or.inl ⟨by rfl, ?_⟩) hHeld ?_ ?_
       rotate_left
       ·
        rintro w' ⟨s0, s1, s2, s3, s4, s5, s6, s7⟩
        go_simp
        with_reducible rfl
       rotate_left
       ·
        simp only [Act.put, List.setIfInBounds_toArray, List.set_cons_zero, List.set_cons_succ, i64_w, i32_w]
        rfl
       refine pure_ (i := 16) (N := some 36) (v := ?_) (a' := ?_) #[true, true, true, true, true, true, true, true, true, true, true, true, true, true, true, true, true, false, false, false, false] rfl rfl (any_of HT_.out (by kernel_rfl)) (fun _ _ _ h => h) (Or.inl ⟨by rfl, ?_⟩) ?_ ?_
       rotate_left
       ·
        intro w'
        go_simp
        with_reducible rfl
       rotate_left
       ·
        simp only [Act.put, List.setIfInBounds_toArray, List.set_cons_zero, List.set_cons_succ, i64_w, i32_w]
        rfl
       refine pure_ (i := 17) (N := some 37) (v := ?_) (a' := ?_) #[true, true, true, true, true, true, true, true, true, true, true, true, true, true, true, true, true, true, false, false, false] rfl rfl (any_of HT_.out (by kernel_rfl)) (fun _ _ _ h => h) (Or.inl ⟨by rfl, ?_⟩) ?_ ?_
       rotate_left
       ·
        intro w'
        go_simp
        with_reducible rfl
       rotate_left
       ·
        simp only [Act.put, List.setIfInBounds_toArray, List.set_cons_zero, List.set_cons_succ, i64_w, i32_w]
        rfl
       refine one_ (i := 18) (N := some 38) #[true, true, true, true, true, true, true, true, true, true, true, true, true, true, true, true, true, true, true, false, false] rfl rfl (one_of HT_.out (by kernel_rfl)) (by decide) (fun K hK => ?_)
       refine value_ (w1 := ?_) (v := ?_) (by rfl) rfl ?_ ?_
       rotate_left 2
       ·
        go_simp
        constructor
        ·
         rfl
        ·
         rfl
       refine hK.out _ _ ⟨(blk_cell (kA BK429.out _) 0).trans rfl, (blk_cell (kA BK429.out _) 1).trans rfl, (World.cell?_alloc_lt _ _ _ (World.block_lt_of_cell? _ _ (((HB.out.cell (World.block_lt_of_cell? w _ hw436_0)).trans hw436_0)))).trans (((HB.out.cell (World.block_lt_of_cell? w _ hw436_0)).trans hw436_0)), (World.cell?_alloc_lt _ _ _ (World.block_lt_of_cell? _ _ (((HB.out.cell (World.block_lt_of_cell? w _ hw436_1)).trans hw436_1)))).trans (((HB.out.cell (World.block_lt_of_cell? w _ hw436_1)).trans hw436_1)), (World.cell?_alloc_lt _ _ _ (World.block_lt_of_cell? _ _ (((HB.out.cell (World.block_lt_of_cell? w _ hw436_2)).trans hw436_2)))).trans (((HB.out.cell (World.block_lt_of_cell? w _ hw436_2)).trans hw436_2)), (World.cell?_alloc_lt _ _ _ (World.block_lt_of_cell? _ _ (((HB.out.cell (World.block_lt_of_cell? w _ hw437_0)).trans hw437_0)))).trans (((HB.out.cell (World.block_lt_of_cell? w _ hw437_0)).trans hw437_0)), (World.cell?_alloc_lt _ _ _ (World.block_lt_of_cell? _ _ (((HB.out.cell (World.block_lt_of_cell? w _ hw437_1)).trans hw437_1)))).trans (((HB.out.cell (World.block_lt_of_cell? w _ hw437_1)).trans hw437_1)), (World.cell?_alloc_lt _ _ _ (World.block_lt_of_cell? _ _ (((HB.out.cell (World.block_lt_of_cell? w _ hw437_2)).trans hw437_2)))).trans (((HB.out.cell (World.block_lt_of_cell? w _ hw437_2)).trans hw437_2))⟩ (fun hHeld => ?_)
       clear hK K
       refine norm_ (a' := ?_) ?_ ?_
       rotate_left
       ·
        show Act.put _ (some 38) _ = _
        simp only [Act.put, List.setIfInBounds_toArray, List.set_cons_zero, List.set_cons_succ, i64_w, i32_w]
        rfl
       refine one_ (i := 19) (N := some 39) #[true, true, true, true, true, true, true, true, true, true, true, true, true, true, true, true, true, true, true, true, false] rfl rfl (one_of HT_.out (by kernel_rfl)) (by decide) (fun K hK => ?_)
       refine Kd.R_append_step k52 (w0 := w) w.heap.size (by rfl) (.tmp 20) (.tmp 38) 42 52 (.agg #[(.int .i64 0), (.int .i64 0)]) 16 rfl Try.underlying42 info52 rfl (by decide) (by omega) u8 x8_1 (⟨wrap64 (((rd_T33 l0_0 x10_1).f0) + a1), wrap64 (((rd_T33 l0_0 x10_1).f1) + a2)⟩ : S52) [.int .i64 (wrap64 (((rd_T33 l0_0 x10_1).f0) + a1)), .int .i64 (wrap64 (((rd_T33 l0_0 x10_1).f1) + a2))] (fun _ => True) (fun _ => False) rfl rfl ?aP (fun _ hk => hk.elim) ?aF ?aO ?aB ?aS ?aL ?_
       (case aP => exact k52_mkM _ _ _ (⟨wrap64 (((rd_T33 l0_0 x10_1).f0) + a1), wrap64 (((rd_T33 l0_0 x10_1).f1) + a2)⟩ : S52))
       (case aB => exact (by repeat (first | (with_reducible first | exact HB.out | apply bA | apply bN | apply bD | refine bS ?_ GE429.out) | exact HB.out)))
       (case aF => exact (fun _ _ => trivial))
       (case aO => exact (by (with_reducible repeat (first | apply Kd.R_alloc | apply Kd.R_drewN | apply Kd.R_drew)); exact HO_8.out))
       (case aS => exact (below_size (by repeat (first | (with_reducible first | exact HB.out | apply bA | apply bN | apply bD | refine bS ?_ GE429.out) | exact HB.out))))
       (case aL => have := LMc11.out; omega)
       intro v439 w15 ho hb hg hat
       rw [← Ny438.out] at ho
       have n0_ := aM (Kd.R_over' (by (with_reducible repeat (first | apply Kd.R_alloc | apply Kd.R_drewN | apply Kd.R_drew)); exact HO_9.out) (Kd.R_typed (by (with_reducible repeat (first | apply Kd.R_alloc | apply Kd.R_drewN | apply Kd.R_drew)); exact HO_8.out)) (by decide) hg)
       have n1_ := aM (blk_grown (g := gb429) (o := .cells #[.slice (some ad436) l0_0.length c0_0, .slice A0_1 l0_1.length c0_1] 25 (0, 0)) (by (with_reducible repeat (first | refine kN ?_ _ | refine kD ?_ | refine kA ?_ _)); exact BK429.out) hg (Kd.R_ne HO_8.out BK429.out (by decide)))
       have n2_ := aM (hb)
       have n3_ := aM (ho)
       clear HO_9
       clear BK429
       clear HB
       clear HO_8
       have HO_9 := n0_
       have BK429 := n1_
       have HB := n2_
       have HO440 := n3_
       clear n0_ n1_ n2_ n3_
       clear ho hb hg hat
       refine hK.out _ _ ⟨(blk_cell BK429.out 0).trans rfl, (blk_cell BK429.out 1).trans rfl, ((HB.out.cell (World.block_lt_of_cell? w _ hw436_0)).trans hw436_0), ((HB.out.cell (World.block_lt_of_cell? w _ hw436_1)).trans hw436_1), ((HB.out.cell (World.block_lt_of_cell? w _ hw436_2)).trans hw436_2), ((HB.out.cell (World.block_lt_of_cell? w _ hw437_0)).trans hw437_0), ((HB.out.cell (World.block_lt_of_cell? w _ hw437_1)).trans hw437_1), ((HB.out.cell (World.block_lt_of_cell? w _ hw437_2)).trans hw437_2)⟩ (fun hHeld => ?_)
       clear hK K
       refine norm_ (a' := ?_) ?_ ?_
       rotate_left
       ·
        show Act.put _ (some 39) _ = _
        simp only [Act.put, List.setIfInBounds_toArray, List.set_cons_zero, List.set_cons_succ, i64_w, i32_w]
        rfl
       refine pure_ (i := 20) (N := some 8) (v := ?_) (a' := ?_) #[true, true, true, true, true, true, true, true, true, true, true, true, true, true, true, true, true, true, true, true, true] rfl rfl (any_of HT_.out (by kernel_rfl)) (fun _ _ _ h => h) (Or.inl ⟨by rfl, ?_⟩) ?_ ?_
       rotate_left
       ·
        intro w'
        go_simp
        with_reducible rfl
       rotate_left
       ·
        simp only [Act.put, List.setIfInBounds_toArray, List.set_cons_zero, List.set_cons_succ, i64_w, i32_w]
        rfl
       refine done_ (done_of HT_.out (by kernel_rfl)) ?_
       have hcz16_0 : w15.cell? ⟨gb429, 0, none⟩ = some (.slice (some ad436) l0_0.length c0_0) := (blk_cell BK429.out 0).trans rfl
       have hcz16_1 : w15.cell? ⟨gb429, 1, none⟩ = some (.slice A0_1 l0_1.length c0_1) := (blk_cell BK429.out 1).trans rfl
       have hfz16_0 := blk_frozen BK429.out 0
       have hfz16_1 := blk_frozen BK429.out 1
       have p441 : 0 ≤ (x10_1 : Int) := of_decide_eq_true (by assumption)
       have q441 : x10_1 < (l0_0.length : Int) := of_decide_eq_true (by assumption)
       obtain ⟨ad441, e441, hx441_0, hx441_1, hx441_2⟩ := at_T33 HR0_0.out x10_1 p441 q441
       obtain rfl : ad436 = ad441 := (by injection e441)
       replace hx441_0 := (HB.out.cell (World.block_lt_of_cell? w _ hx441_0)).trans hx441_0
       replace hx441_1 := (HB.out.cell (World.block_lt_of_cell? w _ hx441_1)).trans hx441_1
       replace hx441_2 := (HB.out.cell (World.block_lt_of_cell? w _ hx441_2)).trans hx441_2
       replace p441 := eq_true p441
       replace q441 := eq_true q441
       try go_wp2_with (first | ((with_reducible refine gate_builtin (b := .append) (xs := #[.tmp 40, .tmp 47]) rfl ?_); at_builtin; refine Kd.R_append Kd.bool (w0 := w) w.heap.size rfl (.tmp 40) (.tmp 47) 43 4 (.bool false) 1 rfl Try.underlying43 info4 rfl (by decide) (by omega) u9 x9_1 ((rd_T33 l0_0 x10_1).f2) [.bool ((rd_T33 l0_0 x10_1).f2)] (fun _ => True) (fun _ => False) rfl rfl ?aP (fun _ hk => hk.elim) ?aF ?aO ?aB ?aS ?aL ?_; (case aP => exact rfl); (case aB => exact (by repeat (first | (with_reducible first | exact HB.out | apply bA | apply bN | apply bD | refine bS ?_ GE429.out) | exact HB.out))); (case aF => exact (fun _ _ => trivial)); (case aO => exact (by (with_reducible repeat (first | apply Kd.R_alloc | apply Kd.R_drewN | apply Kd.R_drew)); exact HO_9.out)); (case aS => exact (below_size (by repeat (first | (with_reducible first | exact HB.out | apply bA | apply bN | apply bD | refine bS ?_ GE429.out) | exact HB.out)))); (case aL => have := LMc12.out; omega); intro v443 w17 ho hb hg hat; rw [← Ny442.out] at ho; have n0_ := aM (blk_grown (g := gb429) (o := .cells #[.slice (some ad436) l0_0.length c0_0, .slice A0_1 l0_1.length c0_1] 25 (0, 0)) (by (with_reducible repeat (first | refine kN ?_ _ | refine kD ?_ | refine kA ?_ _)); exact BK429.out) hg (Kd.R_ne HO_9.out BK429.out (by decide))); have n1_ := aM (Kd.R_over' (by (with_reducible repeat (first | apply Kd.R_alloc | apply Kd.R_drewN | apply Kd.R_drew)); exact HO440.out) (Kd.R_typed (by (with_reducible repeat (first | apply Kd.R_alloc | apply Kd.R_drewN | apply Kd.R_drew)); exact HO_9.out)) (by decide) hg); have n2_ := aM (hb); have n3_ := aM (ho); clear BK429; clear HO440; clear HB; clear HO_9; have BK429 := n0_; have HO440 := n1_; have HB := n2_; have HO444 := n3_; clear n0_ n1_ n2_ n3_; clear ho hb hg hat))
       go_roundg k1
       case measure => have := HK1.out; omega
       case rel => exact ⟨(y438), (y442), (wrap64 (x10_1 + 1)), (by first | rfl | (simp; done) | (simp [*]; done)), H', ⟨by have := HK1.out; omega⟩, ⟨by (with_reducible repeat (first | apply Kd.R_alloc | apply Kd.R_drewN | apply Kd.R_drew)); exact HO440.out⟩, ⟨by (with_reducible repeat (first | apply Kd.R_alloc | apply Kd.R_drewN | apply Kd.R_drew)); exact HO444.out⟩, ⟨by (with_reducible repeat (first | refine kN ?_ _ | refine kD ?_ | refine kA ?_ _)); exact BK429.out⟩, ⟨by repeat (first | (with_reducible first | exact HB.out | apply bA | apply bN | apply bD | refine bS ?_ GE429.out) | exact HB.out)⟩⟩
      ·
       rw [if_neg c12] at H
       exact absurd H (by simp)
     ·
      rw [if_neg c11] at H
      exact absurd H (by simp)
    ·
     rw [if_neg c10] at H
     exact absurd H (by simp)
   ·
    rw [if_neg c9] at H
    have c9b0 : decide (x10_1 < (l0_0.length : Int)) = false := decide_eq_false c9
    clear c9
    simp only [Option.some.injEq, Prod.mk.injEq] at H
    obtain ⟨rfl, rfl⟩ := H
    have hcz18_0 : wr.cell? ⟨gb429, 0, none⟩ = some (.slice A0_0 l0_0.length c0_0) := (blk_cell BK429.out 0).trans rfl
    have hcz18_1 : wr.cell? ⟨gb429, 1, none⟩ = some (.slice A0_1 l0_1.length c0_1) := (blk_cell BK429.out 1).trans rfl
    have hfz18_0 := blk_frozen BK429.out 0
    have hfz18_1 := blk_frozen BK429.out 1
    go_wp2
    go_ret2
    exact ⟨_, _, by first | rfl | (simp [errW_none, errW_some] <;> rfl) | (simp [*, errW_none, errW_some] <;> rfl), by (with_reducible repeat (first | apply Kd.R_alloc | apply Kd.R_drewN | apply Kd.R_drew)); exact HO_8.out, by (with_reducible repeat (first | apply Kd.R_alloc | apply Kd.R_drewN | apply Kd.R_drew)); exact HO_9.out, by repeat (first | (with_reducible first | exact HB.out | apply bA | apply bN | apply bD | refine bS ?_ GE429.out) | exact HB.out)⟩

end Go.Proofs.Ytbmklpcheopgoaa.H
