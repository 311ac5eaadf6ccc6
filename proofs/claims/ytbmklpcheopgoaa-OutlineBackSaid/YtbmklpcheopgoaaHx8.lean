/- What the Go functions of this seat compute, as Lean functions, each with the proof that the call answers so; made by a program of this session. -/
import Derived.Test.YtbmklpcheopgoaaHx0
import Derived.Test.YtbmklpcheopgoaaHx7
import Derived.WalkKit
import Derived.Lib.Hide
import Derived.WalkSpells
import Derived.Test.YtbmklpcheopgoaaContours
import Derived.Test.YtbmklpcheopgoaaFlatRows
import Derived.Test.YtbmklpcheopgoaaHx5
namespace Go.Proofs.Ytbmklpcheopgoaa.H
open Go.RowKit Go.Proofs.YtbmklpcheopgoaaW.PrintWords Go.Proofs.YtbmklpcheopgoaaW.PrintLast Go.Proofs.YtbmklpcheopgoaaW.PrintMore
attribute [local go_sem] max2_int min2_int max_two min_two max_three min_three max_four min_four   -- for this text's walks alone
set_option linter.unusedVariables false
set_option linter.unusedSimpArgs false

/-! ### outline_Reversed: function 29 -/
open Go.Proofs.YtbmklpcheopgoaaOps Go.Proofs.YtbmklpcheopgoaaIt Go.Proofs.YtbmklpcheopgoaaBlks Go.Proofs.YtbmklpcheopgoaaFlat Go.Shelf
attribute [local go_sem] Oper.semAt_some wide_depth wide_fn World.cell?_alloc_some
theorem flat_pt : Flat k33 := fun _ _ _ _ _ _ _ _ h => by rw [k33_openM h]; exact k33_mkM _ _ _ _
theorem info_pt : (Try.prog.info? 33).map (·.size) = some (Kd.sz k33) := by kernel_rfl
/-- Two elements change places. -/
def swapAt (l : List S33) (a b : Nat) : List S33 := (l.set a (rd_T33 l (b : Nat))).set b (rd_T33 l (a : Nat))
def revK (l : List S33) (s t : Nat) (m : Nat) : List S33 := (List.range m).foldl (fun l j => swapAt l (s + (1 + j)) (s + (t - s - 1 - j))) l
def revC (l : List S33) (c : Int × Int) : List S33 := revK l c.1.toNat c.2.toNat ((c.2.toNat - c.1.toNat - 1) / 2)
def revL (pts : List S33) (es : List Int) (k : Nat) : List S33 := ((cutsL es pts.length).take k).foldl revC pts
theorem revK_succ (l : List S33) (s t m : Nat) : revK l s t (m + 1) = swapAt (revK l s t m) (s + (1 + m)) (s + (t - s - 1 - m)) := by simp [revK, List.range_succ]
theorem swapAt_len (l : List S33) (a b : Nat) : (swapAt l a b).length = l.length := by simp [swapAt]
theorem revK_len (l : List S33) (s t m : Nat) : (revK l s t m).length = l.length := by
  induction m with
  | zero => simp [revK]
  | succ m ih => rw [revK_succ, swapAt_len, ih]
theorem revL_len (pts : List S33) (es : List Int) (k : Nat) : (revL pts es k).length = pts.length := by
  unfold revL
  generalize (cutsL es pts.length).take k = cs
  suffices h : ∀ (cs : List (Int × Int)) (l : List S33), (cs.foldl revC l).length = l.length from h cs pts
  intro cs
  induction cs with
  | nil => intro l; rfl
  | cons c cs ih => intro l; rw [List.foldl_cons, ih]; exact revK_len _ _ _ _
theorem run_indexAddr_pt {o : Oper} {ρ : Operand → Value} {x y : Operand} {W : World} {g s n c i : Nat} {j : Nat} (ho : o.op = .indexAddr 22 x y) (hx : ρ x = .slice (some ⟨g, s * 3, none⟩) n c) (hy : ρ y = .int .i64 (i : Int)) (hi : i < n) (hj : j = s + i) :
    (execOp ρ o).run Try.prog W = .ok (.value (.pointer (some ⟨g, j * 3, none⟩))) W := by
  subst hj
  have hu := Try.underlying22
  have e : (s + i) * 3 = s * 3 + i * 3 := by omega
  unfold execOp
  simp only [ho, hx, hy]
  simp [go_sem, hu, hi, e]
theorem run_load_pt {o : Oper} {ρ : Operand → Value} {x : Operand} {W : World} {g q : Nat} {p : S33} (ho : o.op = .load 33 x) (hx : ρ x = .pointer (some ⟨g, q * 3, none⟩)) (h0 : W.cell? ⟨g, q * 3 + 0, none⟩ = some (.int .i64 p.f0)) (h1 : W.cell? ⟨g, q * 3 + 1, none⟩ = some (.int .i64 p.f1)) (h2 : W.cell? ⟨g, q * 3 + 2, none⟩ = some (.bool p.f2)) :
    (execOp ρ o).run Try.prog W = .ok (.value (.agg #[.int .i64 p.f0, .int .i64 p.f1, .bool p.f2])) W := by
  have hu := Try.underlying33
  unfold execOp
  simp only [ho, hx]
  rw [Nat.add_zero] at h0
  simp [go_sem, hu, h0, h1, h2]

set_option maxRecDepth 100000 in
set_option maxHeartbeats 4000000 in
theorem reversed_calls (A0 A1 : Option Addr) (c0 c1 : Nat) (pts : List S33) (es : List Int) (w : World) (hp : Kd.C k33 w A0 pts.length pts) (hc0 : pts.length ≤ c0) (hes : (Kd.int .i64).C w A1 es.length es) (hc1 : es.length ≤ c1) (hlim : pts.length ≤ 1000000) (hlime : es.length ≤ 1000000) :
    Calls Try.prog 29 #[.agg #[.slice A0 pts.length c0, .slice A1 es.length c1]] w fun e w' => ∃ v0 v1 : Value, e = .returned (.agg #[v0, v1]) ∧ Kd.R k33 33 w' w.heap.size (fun _ => True) v0 (revL pts es (cutsL es pts.length).length) ∧ Kd.R (Kd.int .i64) 3 w' w.heap.size (fun _ => True) v1 es ∧ Below w.heap.size w w' := by
  have hu := Try.underlying25
  have hu2 := Try.underlying33
  have hcl : outline_clone.f pts es = some (pts, es) := by
    unfold outline_clone.f
    rw [if_pos (by simp; omega), if_pos (by simp; omega)]
    simp
  refine (callsIn_wide (n := 0)).1 (callsIn_of_wp_marks Try.func29 rfl trivial ?_ rfl)
  simp only [Try.ntmps29, List.size_toArray, List.length_cons, List.length_nil, Nat.reduceAdd, Nat.reduceSub, Array.replicate_succ, Array.replicate_zero, List.push_toArray, List.append_toArray, List.nil_append, List.cons_append]
  gi_wp2
  generalize hV0 : World.alloc (World.alloc w _) _ = V0
  have hbV0 : Below w.heap.size w V0 := by rw [← hV0]; exact ((Below.refl _ w).alloc (Nat.le_refl _) _).alloc (by simp) _
  have hB0 : Blks [(w.heap.size + 1, .cells #[.slice none 0 0, .slice none 0 0] 25 (0, 0)), (w.heap.size, .cells #[.slice A0 pts.length c0, .slice A1 es.length c1] 25 (0, 0))] V0 := by rw [← hV0]; exact ((Blks.nil w).alloc _).alloc_at _ (by simp)
  have hs0 : V0.heap.size = w.heap.size + 1 + 1 := by rw [← hV0]; simp
  clear hV0
  refine CallsIn.mono (callsIn_wide.2 (outline_clone.calls A0 c0 pts A1 c1 es pts es V0 (Kd.C_below hp hbV0) hc0 (Kd.C_below hes hbV0) hc1 hcl)) ?_
  rintro e V1 ⟨v0, v1, rfl, hR0, hR1, hbV1⟩
  obtain ⟨Ap, cp, rfl⟩ := Kd.R_slice hR0
  obtain ⟨Ae, ce, rfl⟩ := Kd.R_slice hR1
  gi_wp2
  have hE1 := R_own1 (flat_int .i64) hR1
  have hP1 := R_own1 flat_pt hR0
  obtain ⟨vp, hvp⟩ : ∃ vp : Value, vp = .slice Ap pts.length cp := ⟨_, rfl⟩
  obtain ⟨ve, hve⟩ : ∃ ve : Value, ve = .slice Ae es.length ce := ⟨_, rfl⟩
  have hpk : ∀ k, vp.ownBlock = some k → V0.heap.size ≤ k ∧ k < V1.heap.size ∧ ∃ cells, V1.heap[k]? = some (.cells cells 33 (0, 0)) := by
    intro k hk; rw [hvp] at hk
    obtain ⟨_, inner, ho, _⟩ := hR0
    exact ⟨own_base ho k hk, own_lt ho k hk, own_typed ho k hk⟩
  have hek : ∀ k, ve.ownBlock = some k → V0.heap.size ≤ k ∧ k < V1.heap.size ∧ ∃ cells, V1.heap[k]? = some (.cells cells 3 (0, 0)) := by
    intro k hk; rw [hve] at hk
    obtain ⟨_, inner, ho, _⟩ := hR1
    exact ⟨own_base ho k hk, own_lt ho k hk, own_typed ho k hk⟩
  have hne : ∀ k, vp.ownBlock = some k → ve.ownBlock = some k → False := by
    intro k h1 h2
    obtain ⟨_, _, cs1, e1⟩ := hpk k h1
    obtain ⟨_, _, cs2, e2⟩ := hek k h2
    rw [e1] at e2; injection e2 with e2; injection e2 with _ e2; cases e2
  have hB1 := (hB0.below hbV1).alloc (.cells #[.slice Ap pts.length cp, .slice Ae es.length ce] 25)
  refine CallsIn.mono (cuts_calls 0 _ _ _ _ _) ?_
  rintro e w' ⟨rfl, rfl⟩
  gi_wp2
  generalize hV : World.alloc (World.alloc (World.alloc V1 _) _) _ = V
  have hVs : V.heap.size = V1.heap.size + 1 + 1 + 1 := by rw [← hV]; simp
  have hbV : Below V1.heap.size V1 V := by rw [← hV]; exact (((Below.refl _ V1).alloc (Nat.le_refl _) _).alloc (by simp) _).alloc (by simp; omega) _
  have hB2 : Blks [(V1.heap.size + 1 + 1, .cells #[.int .i64 pts.length] 3 (0, 0)), (V1.heap.size + 1, .cells #[.slice Ae es.length ce] 23 (0, 0)), (V1.heap.size, .cells #[.slice Ap pts.length cp, .slice Ae es.length ce] 25 (0, 0)), (w.heap.size + 1, .cells #[.slice none 0 0, .slice none 0 0] 25 (0, 0)), (w.heap.size, .cells #[.slice A0 pts.length c0, .slice A1 es.length c1] 25 (0, 0))] V := by
    rw [← hV]; exact (hB1.alloc_at _ (by simp)).alloc_at _ (by simp)
  have hbw : Below w.heap.size w V := (hbV0.trans (hbV1.mono (by omega))).trans (hbV.mono (by have := hbV1.size; omega))
  have hVV := hbV1.size
  have hPV := R_chg hP1 (Chg.of_fresh (S := fun _ => False) hbV) (fun _ _ => id)
  have hEV := R_chg hE1 (Chg.of_fresh (S := fun _ => False) hbV) (fun _ _ => id)
  have hit := cuts_it V Ae ce es pts.length (by omega) (V1.heap.size + 1) (V1.heap.size + 1 + 1) (hB2.cell 1 rfl 0) (hB2.cell 0 rfl 0) (Kd.R_reads' hEV).2.2
  have HV := Lib.hid hV
  clear hV hB1 hB0 hP1 hE1 hR0 hR1 hcl
  refine range_outer hit (by rfl) (fun args w => by simp [go_sem])
    (fun k own V' => (∀ b, own b ↔ Own1 vp b) ∧ Kd.R k33 33 V' V0.heap.size (Own1 vp) vp (revL pts es k) ∧ Kd.R (Kd.int .i64) 3 V' V0.heap.size (Own1 ve) ve es ∧ Blks [(V1.heap.size, .cells #[vp, ve] 25 (0, 0)), (w.heap.size + 1, .cells #[.slice none 0 0, .slice none 0 0] 25 (0, 0))] V' ∧ Below w.heap.size w V' ∧ V.heap.size ≤ V'.heap.size)
    (fun c k own V' => False)
    (Own1 vp) ?_ ?_ ?_ ?_ ?_
    (fun k own a' V' => ∃ (c : Int × Int) (X : Nat), (cutsL es pts.length)[k]? = some c ∧ a' = ⟨#[.agg #[.slice A0 pts.length c0, .slice A1 es.length c1], .pointer (some ⟨w.heap.size, 0, none⟩), .pointer (some ⟨w.heap.size + 1, 0, none⟩), .pointer (some ⟨V1.heap.size, 0, none⟩), undef, .pointer (some ⟨X, 0, none⟩), undef, undef, undef, .agg #[.slice A0 pts.length c0, .slice A1 es.length c1], .agg #[.slice Ap pts.length cp, .slice Ae es.length ce], .pointer (some ⟨V1.heap.size, 1, none⟩), .slice Ae es.length ce, .pointer (some ⟨V1.heap.size, 0, none⟩), .slice Ap pts.length cp, .int .i64 pts.length, .func (.func 55) #[] #[.pointer (some ⟨V1.heap.size + 1, 0, none⟩), .pointer (some ⟨V1.heap.size + 1 + 1, 0, none⟩)], .int .i64 k, .agg #[.int .i64 c.1, .int .i64 c.2], undef, undef, undef, undef, undef, undef, undef, undef, undef, undef, undef, undef, undef, undef, undef, undef, undef, undef, undef, undef, undef, undef, undef, undef, undef, undef, undef, undef, undef, undef, undef, undef, undef, undef], []⟩ ∧ V.heap.size ≤ X ∧ Blks [(X, .cells #[.int .i64 c.1, .int .i64 c.2] 64 (0, 0))] V') ?_ ?_ ?_ ?_ ?_
  · rintro k own Va Vb ⟨h1, h2, h3, h4, h5, h6⟩ hc
    refine ⟨h1, R_chg h2 hc (fun k hk hs => hs.2 ((h1 k).2 hk.symm)), R_chg h3 hc (fun k hk hs => by have := (hek k hk).2.1; omega), h4.chg hc ?_, h5.trans (hc.below (Nat.le_trans (by omega) h5.size) (fun i hi h => by omega)), Nat.le_trans h6 hc.size⟩
    intro b hb hs
    simp at hb
    omega
  · rintro c k own V1 V2 h hc
    exact h
  · rintro k W args ⟨c, _, rfl⟩
    rfl
  · rintro b hb
    obtain ⟨q1, q2, _⟩ := hpk b hb.symm
    refine ⟨by omega, fun hr => ?_⟩
    rcases hr with ⟨h0, ad, hA, hr⟩ | hr | hr
    · obtain ⟨g, cap, e1, _⟩ := Kd.R_form hEV (by omega)
      rw [e1] at hve
      subst hA
      have e2 : ad = ⟨g, 0, none⟩ := by injection e1 with e1; injection e1 with e1
      subst e2
      exact hne b hb.symm (by rw [hve]; simp [Value.ownBlock]; exact hr.symm)
    · omega
    · omega
  · subst hvp; subst hve
    exact ⟨fun b => Iff.rfl, by simpa [revL] using hPV, hEV, (hB2.tail).tail.sub (by simp), hbw, Nat.le_refl _⟩
  · rintro lc k own a' Va o o' hlc ⟨c, X, hk, ha, hX, hB⟩ ho hcells
    refine ⟨c, X, hk, ha, hX, hB.chg (Chg.putSelf _ lc o') ?_⟩
    intro b hb e
    simp at hb
    subst hb; subst e
    have := hB.blk 0 rfl
    rw [this] at ho
    cases ho
    cases hcells
  · rintro lc n k own args Va hlc ⟨h1, h2, h3, h4, h5, h6⟩ how hlt hno hk ⟨c, hkc, rfl⟩ _
    gi_wp2
    refine ⟨own, GrowG.refl _ _ _, fun b hb => Nat.lt_of_lt_of_le (how b hb) (by simp), (Chg.refl _ _).alloc _, ⟨h1, R_chg h2 ((Chg.refl (fun _ => False) _).alloc _) (fun _ _ => id), R_chg h3 ((Chg.refl (fun _ => False) _).alloc _) (fun _ _ => id), (h4.alloc _).tail, h5.alloc h5.size _, by simp; omega⟩, c, Va.heap.size, hkc, rfl, h6, (Blks.nil _).alloc _⟩
  · rintro lc n k own a' Va hlc ⟨h1, h2, h3, h4, h5, h6⟩ how ⟨rl, hrl⟩ hno hk ⟨c, X, hkc, rfl, hX, hBX⟩
    obtain ⟨m1, m2, m3⟩ := cutsF_mem es pts.length 0 k c hkc
    have hnext : revL pts es (k + 1) = revC (revL pts es k) c := by simp [revL, List.take_add_one, hkc]
    obtain ⟨s, hs⟩ : ∃ s : Nat, c.1 = s := ⟨c.1.toNat, by omega⟩
    obtain ⟨t, ht⟩ : ∃ t : Nat, c.2 = t := ⟨c.2.toNat, by omega⟩
    have hlen := revL_len pts es k
    have hcp := (Kd.R_reads' (by rw [hvp] at h2; exact h2)).2.1
    obtain ⟨g, cap, e1, hg1, hg2, _⟩ := Kd.R_form h2 (by omega)
    rw [hvp] at e1
    injection e1 with e1 e2 e3
    subst e1; subst e3
    simp only [revC, hs, ht, Int.toNat_natCast] at hnext
    rw [hs, ht] at hBX m2
    rw [ht] at m3
    rw [hs, ht]
    have hNX := Lib.hid hnext
    clear hnext hs ht m1 hkc e2
    generalize hl0 : revL pts es k = l0 at *
    have HL0 := Lib.hid hl0
    clear hl0
    have hst : s < t := by omega
    have htn : t ≤ pts.length := by omega
    have hus := Try.underlying22
    have hse : s ≤ t := by omega
    have hec : t ≤ cp := by omega
    have hsc : ¬ (t = s) := by omega
    have hsc2 : ¬ (t - s = 0) := by omega
    subst hvp
    have g0 := h4.cell 0 rfl 0
    have g1 := h4.cell 0 rfl 1
    have g2 := hBX.cell 0 rfl 0
    have g3 := hBX.cell 0 rfl 1
    simp at g0 g1 g2 g3
    have hgX : ¬ own X := fun h => by have := hpk X ((h1 X).1 h).symm; omega
    have HH := Lib.hid (And.intro h2 (And.intro h3 (And.intro h4 h5)))
    have HOWN := Lib.hid h1
    clear h1 h3 h4 h5 m2 m3
    gi_wp2
    gi_loopw [7, 8] (fun v7 v8 wr => ∃ m : Nat, m ≤ (t - s - 1) / 2 ∧ v7 = .int .i64 ((1 + m : Nat) : Int) ∧ v8 = .int .i64 ((t - s - 1 - m : Nat) : Int) ∧ Aside0 (Kd.R k33 33 wr V0.heap.size (Own1 (.slice (some ⟨g, 0, none⟩) pts.length cp)) (.slice (some ⟨g, 0, none⟩) pts.length cp) (revK l0 s t m) ∧ Chg (fun i => i = g) Va wr))
      (fun _ v8 _ => (intOf v8).toNat)
    case atStart => exact ⟨0, by omega, rfl, by congr 1; omega, ⟨h2, Chg.refl _ _⟩⟩
    case round =>
      obtain ⟨m, hm, rfl, rfl, ⟨HR, HC⟩⟩ := hrel
      have hlr := revK_len l0 s t m
      by_cases hlt : 1 + m < t - s - 1 - m
      · have hd : decide (1 + (m : Int) < ((t - s - 1 - m : Nat) : Int)) = true := by simp; omega
        have HKS := Lib.hid (revK_succ l0 s t m)
        generalize hl : revK l0 s t m = l at *
        have HLL := Lib.hid hl
        clear hl
        have HHR := Lib.hid HR
        have HHC := Lib.hid HC
        clear HR HC
        gi_wp2
        have HR := HHR.out
        have HC := HHC.out
        clear HHR HHC
        refine Go.Proofs.YtbmklpcheopgoaaReg.regIn_inv (by rfl) [0, 1, 2, 3, 4, 5, 6, 7, 8, 9, 10, 11, 12, 13, 14, 15] (by kernel_rfl) (by kernel_rfl)
          (fun lst a W' => ∃ (b0 b1 b2 b3 b4 b5 b6 b7 b8 b9 b10 b11 b12 b13 b14 b15 : Bool), lst = #[b0, b1, b2, b3, b4, b5, b6, b7, b8, b9, b10, b11, b12, b13, b14, b15] ∧ a = ⟨#[.agg #[.slice A0 pts.length c0, .slice A1 es.length c1], .pointer (some ⟨w.heap.size, 0, none⟩), .pointer (some ⟨w.heap.size + 1, 0, none⟩), .pointer (some ⟨V1.heap.size, 0, none⟩), undef, .pointer (some ⟨X, 0, none⟩), .slice (some ⟨g, s * 3, none⟩) (t - s) (t - s), .int .i64 (((1 + m : Nat) : Int)), .int .i64 (((t - s - 1 - m : Nat) : Int)), .agg #[.slice A0 pts.length c0, .slice A1 es.length c1], .agg #[.slice (some ⟨g, 0, none⟩) pts.length cp, .slice Ae es.length ce], .pointer (some ⟨V1.heap.size, 1, none⟩), .slice Ae es.length ce, .pointer (some ⟨V1.heap.size, 0, none⟩), .slice (some ⟨g, 0, none⟩) pts.length cp, .int .i64 pts.length, .func (.func 55) #[] #[.pointer (some ⟨V1.heap.size + 1, 0, none⟩), .pointer (some ⟨V1.heap.size + 1 + 1, 0, none⟩)], .int .i64 k, .agg #[.int .i64 s, .int .i64 t], .pointer (some ⟨V1.heap.size, 0, none⟩), .slice (some ⟨g, 0, none⟩) pts.length cp, .pointer (some ⟨X, 0, none⟩), .int .i64 s, .pointer (some ⟨X, 1, none⟩), .int .i64 t, .pointer (some ⟨X, 1, none⟩), .int .i64 t, .slice (some ⟨g, s * 3, none⟩) (t - s) (t - s), .slice (some ⟨g, s * 3, none⟩) (t - s) (t - s), .int .i64 (((t - s : Nat) : Int)), .int .i64 (((t - s : Nat) : Int) - 1), .int .i64 (((1 + m : Nat) : Int)), .int .i64 (((t - s - 1 - m : Nat) : Int)), .bool true, u34, u35, u36, u37, (cond b0 (.slice (some ⟨g, s * 3, none⟩) (t - s) (t - s)) u38), (cond b1 (.int .i64 (((1 + m : Nat) : Int))) u39), (cond b2 (.slice (some ⟨g, s * 3, none⟩) (t - s) (t - s)) u40), (cond b3 (.int .i64 (((t - s - 1 - m : Nat) : Int))) u41), (cond b4 (.slice (some ⟨g, s * 3, none⟩) (t - s) (t - s)) u42), (cond b5 (.int .i64 (((t - s - 1 - m : Nat) : Int))) u43), (cond b6 (.pointer (some ⟨g, (s + (t - s - 1 - m)) * 3, none⟩)) u44), (cond b7 (.agg #[.int .i64 (rd_T33 l ((s + (t - s - 1 - m)) : Nat)).f0, .int .i64 (rd_T33 l ((s + (t - s - 1 - m)) : Nat)).f1, .bool (rd_T33 l ((s + (t - s - 1 - m)) : Nat)).f2]) u45), (cond b8 (.slice (some ⟨g, s * 3, none⟩) (t - s) (t - s)) u46), (cond b9 (.int .i64 (((1 + m : Nat) : Int))) u47), (cond b10 (.pointer (some ⟨g, (s + (1 + m)) * 3, none⟩)) u48), (cond b11 (.agg #[.int .i64 (rd_T33 l ((s + (1 + m)) : Nat)).f0, .int .i64 (rd_T33 l ((s + (1 + m)) : Nat)).f1, .bool (rd_T33 l ((s + (1 + m)) : Nat)).f2]) u49), (cond b12 (.pointer (some ⟨g, (s + (1 + m)) * 3, none⟩)) u50), (cond b14 (.pointer (some ⟨g, (s + (t - s - 1 - m)) * 3, none⟩)) u51), undef], []⟩ ∧ (b13 = true → b7 = true) ∧ (b13 = true → b11 = true) ∧ (b15 = true → b13 = true) ∧ (Kd.R k33 33 W' V0.heap.size (Own1 (.slice (some ⟨g, 0, none⟩) pts.length cp)) (.slice (some ⟨g, 0, none⟩) pts.length cp) (cond b15 ((l.set (s + (1 + m)) (rd_T33 l ((s + (t - s - 1 - m)) : Nat))).set (s + (t - s - 1 - m)) (rd_T33 l ((s + (1 + m)) : Nat))) (cond b13 (l.set (s + (1 + m)) (rd_T33 l ((s + (t - s - 1 - m)) : Nat))) l))) ∧ (Chg (fun i => i = g) Va W')) ?_ ?_ ?_ ?_
        · rintro lst a W' ⟨b0, b1, b2, b3, b4, b5, b6, b7, b8, b9, b10, b11, b12, b13, b14, b15, rfl, _⟩
          rfl
        · exact ⟨false, false, false, false, false, false, false, false, false, false, false, false, false, false, false, false, rfl, rfl, (fun h => Bool.noConfusion h), (fun h => Bool.noConfusion h), (fun h => Bool.noConfusion h), (R_chg HR ((Chg.refl (fun _ => False) _).drew) (fun _ _ => id)), HC.drew⟩
        · rintro lst a W' i o ⟨b0, b1, b2, b3, b4, b5, b6, b7, b8, b9, b10, b11, b12, b13, b14, b15, rfl, rfl, k0, k1, k2, hHR, hHC⟩ ho hf hd K hK
          have hi : i < 16 := (Array.getElem?_eq_some_iff.1 ho).1
          have ho2 := ho
          rcases (show i = 0 ∨ i = 1 ∨ i = 2 ∨ i = 3 ∨ i = 4 ∨ i = 5 ∨ i = 6 ∨ i = 7 ∨ i = 8 ∨ i = 9 ∨ i = 10 ∨ i = 11 ∨ i = 12 ∨ i = 13 ∨ i = 14 ∨ i = 15 by omega) with rfl | rfl | rfl | rfl | rfl | rfl | rfl | rfl | rfl | rfl | rfl | rfl | rfl | rfl | rfl | rfl
          · simp only [List.getElem?_toArray, List.getElem?_cons_succ, List.getElem?_cons_zero, Option.some.injEq] at ho
            subst ho
            replace hf : b0 = false := hf
            subst hf
            refine Go.Proofs.YtbmklpcheopgoaaReg.opIn_val ho2 rfl (fun _ => trivial) (fun c h => by cases h) (v := .slice (some ⟨g, s * 3, none⟩) (t - s) (t - s)) (w1 := W') ?_ (hK _ _ ⟨true, b1, b2, b3, b4, b5, b6, b7, b8, b9, b10, b11, b12, b13, b14, b15, rfl, rfl, (k0), (k1), (k2), hHR, hHC⟩)
            simp [go_sem, hu2]
          · simp only [List.getElem?_toArray, List.getElem?_cons_succ, List.getElem?_cons_zero, Option.some.injEq] at ho
            subst ho
            replace hf : b1 = false := hf
            subst hf
            refine Go.Proofs.YtbmklpcheopgoaaReg.opIn_val ho2 rfl (fun _ => trivial) (fun c h => by cases h) (v := .int .i64 (((1 + m : Nat) : Int))) (w1 := W') ?_ (hK _ _ ⟨b0, true, b2, b3, b4, b5, b6, b7, b8, b9, b10, b11, b12, b13, b14, b15, rfl, rfl, (k0), (k1), (k2), hHR, hHC⟩)
            simp [go_sem, hu2]
          · simp only [List.getElem?_toArray, List.getElem?_cons_succ, List.getElem?_cons_zero, Option.some.injEq] at ho
            subst ho
            replace hf : b2 = false := hf
            subst hf
            refine Go.Proofs.YtbmklpcheopgoaaReg.opIn_val ho2 rfl (fun _ => trivial) (fun c h => by cases h) (v := .slice (some ⟨g, s * 3, none⟩) (t - s) (t - s)) (w1 := W') ?_ (hK _ _ ⟨b0, b1, true, b3, b4, b5, b6, b7, b8, b9, b10, b11, b12, b13, b14, b15, rfl, rfl, (k0), (k1), (k2), hHR, hHC⟩)
            simp [go_sem, hu2]
          · simp only [List.getElem?_toArray, List.getElem?_cons_succ, List.getElem?_cons_zero, Option.some.injEq] at ho
            subst ho
            replace hf : b3 = false := hf
            subst hf
            refine Go.Proofs.YtbmklpcheopgoaaReg.opIn_val ho2 rfl (fun _ => trivial) (fun c h => by cases h) (v := .int .i64 (((t - s - 1 - m : Nat) : Int))) (w1 := W') ?_ (hK _ _ ⟨b0, b1, b2, true, b4, b5, b6, b7, b8, b9, b10, b11, b12, b13, b14, b15, rfl, rfl, (k0), (k1), (k2), hHR, hHC⟩)
            simp [go_sem, hu2]
          · simp only [List.getElem?_toArray, List.getElem?_cons_succ, List.getElem?_cons_zero, Option.some.injEq] at ho
            subst ho
            replace hf : b4 = false := hf
            subst hf
            refine Go.Proofs.YtbmklpcheopgoaaReg.opIn_val ho2 rfl (fun _ => trivial) (fun c h => by cases h) (v := .slice (some ⟨g, s * 3, none⟩) (t - s) (t - s)) (w1 := W') ?_ (hK _ _ ⟨b0, b1, b2, b3, true, b5, b6, b7, b8, b9, b10, b11, b12, b13, b14, b15, rfl, rfl, (k0), (k1), (k2), hHR, hHC⟩)
            simp [go_sem, hu2]
          · simp only [List.getElem?_toArray, List.getElem?_cons_succ, List.getElem?_cons_zero, Option.some.injEq] at ho
            subst ho
            replace hf : b5 = false := hf
            subst hf
            refine Go.Proofs.YtbmklpcheopgoaaReg.opIn_val ho2 rfl (fun _ => trivial) (fun c h => by cases h) (v := .int .i64 (((t - s - 1 - m : Nat) : Int))) (w1 := W') ?_ (hK _ _ ⟨b0, b1, b2, b3, b4, true, b6, b7, b8, b9, b10, b11, b12, b13, b14, b15, rfl, rfl, (k0), (k1), (k2), hHR, hHC⟩)
            simp [go_sem, hu2]
          · simp only [List.getElem?_toArray, List.getElem?_cons_succ, List.getElem?_cons_zero, Option.some.injEq] at ho
            subst ho
            replace hf : b6 = false := hf
            have d4 : b4 = true := hd ⟨4, .data⟩ (by simp) rfl
            have d5 : b5 = true := hd ⟨5, .data⟩ (by simp) rfl
            subst d4
            subst d5
            subst hf
            refine Go.Proofs.YtbmklpcheopgoaaReg.opIn_val ho2 rfl (fun _ => trivial) (fun c h => by cases h) (v := .pointer (some ⟨g, (s + (t - s - 1 - m)) * 3, none⟩)) (w1 := W') ?_ (hK _ _ ⟨b0, b1, b2, b3, true, true, true, b7, b8, b9, b10, b11, b12, b13, b14, b15, rfl, rfl, (k0), (k1), (k2), hHR, hHC⟩)
            refine run_indexAddr_pt (i := (t - s - 1 - m)) rfl rfl rfl (by omega) (by omega)
          · simp only [List.getElem?_toArray, List.getElem?_cons_succ, List.getElem?_cons_zero, Option.some.injEq] at ho
            subst ho
            replace hf : b7 = false := hf
            have d6 : b6 = true := hd ⟨6, .data⟩ (by simp) rfl
            subst d6
            have n13 : b13 = false := Bool.eq_false_iff.mpr (fun h => absurd (k0 h) (by rw [hf]; decide))
            have n15 : b15 = false := Bool.eq_false_iff.mpr (fun h => absurd (k2 h) (by rw [n13]; decide))
            subst n13
            subst n15
            subst hf
            obtain ⟨c_, hc1_, hc2_, hc3_, hc4_⟩ := Kd.R_elem hHR z33 (((s + (t - s - 1 - m)) : Nat) : Int) (by omega) (by omega)
            obtain rfl := k33_openM hc2_
            simp only [Int.toNat_natCast] at hc3_
            refine Go.Proofs.YtbmklpcheopgoaaReg.opIn_val ho2 rfl (fun _ => trivial) (fun c h => by cases h) (v := .agg #[.int .i64 (rd_T33 l ((s + (t - s - 1 - m)) : Nat)).f0, .int .i64 (rd_T33 l ((s + (t - s - 1 - m)) : Nat)).f1, .bool (rd_T33 l ((s + (t - s - 1 - m)) : Nat)).f2]) (w1 := W') ?_ (hK _ _ ⟨b0, b1, b2, b3, b4, b5, true, true, b8, b9, b10, b11, b12, false, b14, false, rfl, rfl, (fun _ => rfl), (fun h => Bool.noConfusion h), (fun h => Bool.noConfusion h), hHR, hHC⟩)
            exact run_load_pt rfl rfl (hc3_ 0 _ rfl) (hc3_ 1 _ rfl) (hc3_ 2 _ rfl)
          · simp only [List.getElem?_toArray, List.getElem?_cons_succ, List.getElem?_cons_zero, Option.some.injEq] at ho
            subst ho
            replace hf : b8 = false := hf
            subst hf
            refine Go.Proofs.YtbmklpcheopgoaaReg.opIn_val ho2 rfl (fun _ => trivial) (fun c h => by cases h) (v := .slice (some ⟨g, s * 3, none⟩) (t - s) (t - s)) (w1 := W') ?_ (hK _ _ ⟨b0, b1, b2, b3, b4, b5, b6, b7, true, b9, b10, b11, b12, b13, b14, b15, rfl, rfl, (k0), (k1), (k2), hHR, hHC⟩)
            simp [go_sem, hu2]
          · simp only [List.getElem?_toArray, List.getElem?_cons_succ, List.getElem?_cons_zero, Option.some.injEq] at ho
            subst ho
            replace hf : b9 = false := hf
            subst hf
            refine Go.Proofs.YtbmklpcheopgoaaReg.opIn_val ho2 rfl (fun _ => trivial) (fun c h => by cases h) (v := .int .i64 (((1 + m : Nat) : Int))) (w1 := W') ?_ (hK _ _ ⟨b0, b1, b2, b3, b4, b5, b6, b7, b8, true, b10, b11, b12, b13, b14, b15, rfl, rfl, (k0), (k1), (k2), hHR, hHC⟩)
            simp [go_sem, hu2]
          · simp only [List.getElem?_toArray, List.getElem?_cons_succ, List.getElem?_cons_zero, Option.some.injEq] at ho
            subst ho
            replace hf : b10 = false := hf
            have d8 : b8 = true := hd ⟨8, .data⟩ (by simp) rfl
            have d9 : b9 = true := hd ⟨9, .data⟩ (by simp) rfl
            subst d8
            subst d9
            subst hf
            refine Go.Proofs.YtbmklpcheopgoaaReg.opIn_val ho2 rfl (fun _ => trivial) (fun c h => by cases h) (v := .pointer (some ⟨g, (s + (1 + m)) * 3, none⟩)) (w1 := W') ?_ (hK _ _ ⟨b0, b1, b2, b3, b4, b5, b6, b7, true, true, true, b11, b12, b13, b14, b15, rfl, rfl, (k0), (k1), (k2), hHR, hHC⟩)
            refine run_indexAddr_pt (i := (1 + m)) rfl rfl rfl (by omega) (by omega)
          · simp only [List.getElem?_toArray, List.getElem?_cons_succ, List.getElem?_cons_zero, Option.some.injEq] at ho
            subst ho
            replace hf : b11 = false := hf
            have d10 : b10 = true := hd ⟨10, .data⟩ (by simp) rfl
            subst d10
            have n13 : b13 = false := Bool.eq_false_iff.mpr (fun h => absurd (k1 h) (by rw [hf]; decide))
            have n15 : b15 = false := Bool.eq_false_iff.mpr (fun h => absurd (k2 h) (by rw [n13]; decide))
            subst n13
            subst n15
            subst hf
            obtain ⟨c_, hc1_, hc2_, hc3_, hc4_⟩ := Kd.R_elem hHR z33 (((s + (1 + m)) : Nat) : Int) (by omega) (by omega)
            obtain rfl := k33_openM hc2_
            simp only [Int.toNat_natCast] at hc3_
            refine Go.Proofs.YtbmklpcheopgoaaReg.opIn_val ho2 rfl (fun _ => trivial) (fun c h => by cases h) (v := .agg #[.int .i64 (rd_T33 l ((s + (1 + m)) : Nat)).f0, .int .i64 (rd_T33 l ((s + (1 + m)) : Nat)).f1, .bool (rd_T33 l ((s + (1 + m)) : Nat)).f2]) (w1 := W') ?_ (hK _ _ ⟨b0, b1, b2, b3, b4, b5, b6, b7, b8, b9, true, true, b12, false, b14, false, rfl, rfl, (fun h => Bool.noConfusion h), (fun _ => rfl), (fun h => Bool.noConfusion h), hHR, hHC⟩)
            exact run_load_pt rfl rfl (hc3_ 0 _ rfl) (hc3_ 1 _ rfl) (hc3_ 2 _ rfl)
          · simp only [List.getElem?_toArray, List.getElem?_cons_succ, List.getElem?_cons_zero, Option.some.injEq] at ho
            subst ho
            replace hf : b12 = false := hf
            have d0 : b0 = true := hd ⟨0, .data⟩ (by simp) rfl
            have d1 : b1 = true := hd ⟨1, .data⟩ (by simp) rfl
            have d4 : b4 = true := hd ⟨4, .phase⟩ (by simp) rfl
            have d5 : b5 = true := hd ⟨5, .phase⟩ (by simp) rfl
            have d6 : b6 = true := hd ⟨6, .phase⟩ (by simp) rfl
            have d7 : b7 = true := hd ⟨7, .phase⟩ (by simp) rfl
            have d11 : b11 = true := hd ⟨11, .phase⟩ (by simp) rfl
            subst d0
            subst d1
            subst d4
            subst d5
            subst d6
            subst d7
            subst d11
            subst hf
            refine Go.Proofs.YtbmklpcheopgoaaReg.opIn_val ho2 rfl (fun _ => trivial) (fun c h => by cases h) (v := .pointer (some ⟨g, (s + (1 + m)) * 3, none⟩)) (w1 := W') ?_ (hK _ _ ⟨true, true, b2, b3, true, true, true, true, b8, b9, b10, true, true, b13, b14, b15, rfl, rfl, (fun _ => rfl), (fun _ => rfl), (k2), hHR, hHC⟩)
            refine run_indexAddr_pt (i := (1 + m)) rfl rfl rfl (by omega) (by omega)
          · simp only [List.getElem?_toArray, List.getElem?_cons_succ, List.getElem?_cons_zero, Option.some.injEq] at ho
            subst ho
            replace hf : b13 = false := hf
            have d0 : b0 = true := hd ⟨0, .phase⟩ (by simp) rfl
            have d1 : b1 = true := hd ⟨1, .phase⟩ (by simp) rfl
            have d4 : b4 = true := hd ⟨4, .phase⟩ (by simp) rfl
            have d5 : b5 = true := hd ⟨5, .phase⟩ (by simp) rfl
            have d6 : b6 = true := hd ⟨6, .phase⟩ (by simp) rfl
            have d7 : b7 = true := hd ⟨7, .data⟩ (by simp) rfl
            have d11 : b11 = true := hd ⟨11, .phase⟩ (by simp) rfl
            have d12 : b12 = true := hd ⟨12, .data⟩ (by simp) rfl
            subst d0
            subst d1
            subst d4
            subst d5
            subst d6
            subst d7
            subst d11
            subst d12
            have n15 : b15 = false := Bool.eq_false_iff.mpr (fun h => absurd (k2 h) (by rw [hf]; decide))
            subst n15
            subst hf
            obtain ⟨w1, hr1, hr2, hr3⟩ := row_store (P := Try.prog) flat_pt hHR (s + (1 + m)) (by omega) 33 (.agg #[.int .i64 (rd_T33 l ((s + (t - s - 1 - m)) : Nat)).f0, .int .i64 (rd_T33 l ((s + (t - s - 1 - m)) : Nat)).f1, .bool (rd_T33 l ((s + (t - s - 1 - m)) : Nat)).f2]) (x' := (rd_T33 l ((s + (t - s - 1 - m)) : Nat))) (seg := [.int .i64 (rd_T33 l ((s + (t - s - 1 - m)) : Nat)).f0, .int .i64 (rd_T33 l ((s + (t - s - 1 - m)) : Nat)).f1, .bool (rd_T33 l ((s + (t - s - 1 - m)) : Nat)).f2]) rfl rfl info_pt (by simp [Value.oneCell']) (fun ok => k33_mkM _ _ _ _)
            refine Go.Proofs.YtbmklpcheopgoaaReg.opIn_skip ho2 rfl (fun _ => trivial) (fun c h => by cases h) (w1 := w1) ?_ (hK _ _ ⟨true, true, b2, b3, true, true, true, true, b8, b9, b10, true, true, true, b14, false, rfl, rfl, (fun _ => rfl), (fun _ => rfl), (fun _ => rfl), hr2, hHC.trans hr3⟩)
            exact run_store_op rfl rfl rfl hr1
          · simp only [List.getElem?_toArray, List.getElem?_cons_succ, List.getElem?_cons_zero, Option.some.injEq] at ho
            subst ho
            replace hf : b14 = false := hf
            have d0 : b0 = true := hd ⟨0, .phase⟩ (by simp) rfl
            have d1 : b1 = true := hd ⟨1, .phase⟩ (by simp) rfl
            have d2 : b2 = true := hd ⟨2, .data⟩ (by simp) rfl
            have d3 : b3 = true := hd ⟨3, .data⟩ (by simp) rfl
            have d4 : b4 = true := hd ⟨4, .phase⟩ (by simp) rfl
            have d5 : b5 = true := hd ⟨5, .phase⟩ (by simp) rfl
            have d6 : b6 = true := hd ⟨6, .phase⟩ (by simp) rfl
            have d7 : b7 = true := hd ⟨7, .phase⟩ (by simp) rfl
            have d8 : b8 = true := hd ⟨8, .phase⟩ (by simp) rfl
            have d9 : b9 = true := hd ⟨9, .phase⟩ (by simp) rfl
            have d10 : b10 = true := hd ⟨10, .phase⟩ (by simp) rfl
            have d11 : b11 = true := hd ⟨11, .phase⟩ (by simp) rfl
            have d12 : b12 = true := hd ⟨12, .phase⟩ (by simp) rfl
            have d13 : b13 = true := hd ⟨13, .phase⟩ (by simp) rfl
            subst d0
            subst d1
            subst d2
            subst d3
            subst d4
            subst d5
            subst d6
            subst d7
            subst d8
            subst d9
            subst d10
            subst d11
            subst d12
            subst d13
            subst hf
            refine Go.Proofs.YtbmklpcheopgoaaReg.opIn_val ho2 rfl (fun _ => trivial) (fun c h => by cases h) (v := .pointer (some ⟨g, (s + (t - s - 1 - m)) * 3, none⟩)) (w1 := W') ?_ (hK _ _ ⟨true, true, true, true, true, true, true, true, true, true, true, true, true, true, true, b15, rfl, rfl, (fun _ => rfl), (fun _ => rfl), (fun _ => rfl), hHR, hHC⟩)
            refine run_indexAddr_pt (i := (t - s - 1 - m)) rfl rfl rfl (by omega) (by omega)
          · simp only [List.getElem?_toArray, List.getElem?_cons_succ, List.getElem?_cons_zero, Option.some.injEq] at ho
            subst ho
            replace hf : b15 = false := hf
            have d0 : b0 = true := hd ⟨0, .phase⟩ (by simp) rfl
            have d1 : b1 = true := hd ⟨1, .phase⟩ (by simp) rfl
            have d2 : b2 = true := hd ⟨2, .phase⟩ (by simp) rfl
            have d3 : b3 = true := hd ⟨3, .phase⟩ (by simp) rfl
            have d4 : b4 = true := hd ⟨4, .phase⟩ (by simp) rfl
            have d5 : b5 = true := hd ⟨5, .phase⟩ (by simp) rfl
            have d6 : b6 = true := hd ⟨6, .phase⟩ (by simp) rfl
            have d7 : b7 = true := hd ⟨7, .phase⟩ (by simp) rfl
            have d8 : b8 = true := hd ⟨8, .phase⟩ (by simp) rfl
            have d9 : b9 = true := hd ⟨9, .phase⟩ (by simp) rfl
            have d10 : b10 = true := hd ⟨10, .phase⟩ (by simp) rfl
            have d11 : b11 = true := hd ⟨11, .data⟩ (by simp) rfl
            have d12 : b12 = true := hd ⟨12, .phase⟩ (by simp) rfl
            have d13 : b13 = true := hd ⟨13, .chain⟩ (by simp) rfl
            have d14 : b14 = true := hd ⟨14, .data⟩ (by simp) rfl
            subst d0
            subst d1
            subst d2
            subst d3
            subst d4
            subst d5
            subst d6
            subst d7
            subst d8
            subst d9
            subst d10
            subst d11
            subst d12
            subst d13
            subst d14
            subst hf
            obtain ⟨w1, hr1, hr2, hr3⟩ := row_store (P := Try.prog) flat_pt hHR (s + (t - s - 1 - m)) (by omega) 33 (.agg #[.int .i64 (rd_T33 l ((s + (1 + m)) : Nat)).f0, .int .i64 (rd_T33 l ((s + (1 + m)) : Nat)).f1, .bool (rd_T33 l ((s + (1 + m)) : Nat)).f2]) (x' := (rd_T33 l ((s + (1 + m)) : Nat))) (seg := [.int .i64 (rd_T33 l ((s + (1 + m)) : Nat)).f0, .int .i64 (rd_T33 l ((s + (1 + m)) : Nat)).f1, .bool (rd_T33 l ((s + (1 + m)) : Nat)).f2]) rfl rfl info_pt (by simp [Value.oneCell']) (fun ok => k33_mkM _ _ _ _)
            refine Go.Proofs.YtbmklpcheopgoaaReg.opIn_skip ho2 rfl (fun _ => trivial) (fun c h => by cases h) (w1 := w1) ?_ (hK _ _ ⟨true, true, true, true, true, true, true, true, true, true, true, true, true, true, true, true, rfl, rfl, (fun _ => rfl), (fun _ => rfl), (fun _ => rfl), hr2, hHC.trans hr3⟩)
            exact run_store_op rfl rfl rfl hr1
        · rintro lst a W' ⟨b0, b1, b2, b3, b4, b5, b6, b7, b8, b9, b10, b11, b12, b13, b14, b15, rfl, rfl, k0, k1, k2, hHR, hHC⟩ hall
          have a0 : b0 = true := hall 0 (by decide)
          have a1 : b1 = true := hall 1 (by decide)
          have a2 : b2 = true := hall 2 (by decide)
          have a3 : b3 = true := hall 3 (by decide)
          have a4 : b4 = true := hall 4 (by decide)
          have a5 : b5 = true := hall 5 (by decide)
          have a6 : b6 = true := hall 6 (by decide)
          have a7 : b7 = true := hall 7 (by decide)
          have a8 : b8 = true := hall 8 (by decide)
          have a9 : b9 = true := hall 9 (by decide)
          have a10 : b10 = true := hall 10 (by decide)
          have a11 : b11 = true := hall 11 (by decide)
          have a12 : b12 = true := hall 12 (by decide)
          have a13 : b13 = true := hall 13 (by decide)
          have a14 : b14 = true := hall 14 (by decide)
          have a15 : b15 = true := hall 15 (by decide)
          subst a0 a1 a2 a3 a4 a5 a6 a7 a8 a9 a10 a11 a12 a13 a14 a15
          clear k0 k1 k2
          clear hall
          have HR : Kd.R k33 33 W' V0.heap.size (Own1 (.slice (some ⟨g, 0, none⟩) pts.length cp)) (.slice (some ⟨g, 0, none⟩) pts.length cp) ((l.set (s + (1 + m)) (rd_T33 l ((s + (t - s - 1 - m)) : Nat))).set (s + (t - s - 1 - m)) (rd_T33 l ((s + (1 + m)) : Nat))) := hHR
          have HC : Chg (fun i => i = g) Va W' := hHC
          clear hHR hHC
          gi_wp2
          refine ⟨⟨m + 1, by omega, by congr 1 <;> omega, by congr 1 <;> omega, ⟨by rw [HKS.out]; exact HR, HC⟩⟩, by simp [intOf]; omega⟩
      · have hd : decide (1 + (m : Int) < ((t - s - 1 - m : Nat) : Int)) = false := by simp; omega
        have HHR := Lib.hid HR
        have HHC := Lib.hid HC
        clear HR HC
        gi_wp2
        obtain ⟨r2, r3, r4, r5⟩ := HH.out
        have HC := HHC.out
        have HR := HHR.out
        have hme : m = (t - s - 1) / 2 := by omega
        refine ⟨own, Grow.refl _ _, fun b h => HC.lt (how b h), HC.mono (fun b _ hb => by subst hb; exact (HOWN.out b).2 (by simp [Own1, Value.ownBlock]; try omega)), HOWN.out, ?_, ?_, ?_, ?_, ?_⟩
        · rw [hNX.out, ← hme]; exact HR
        · exact R_chg r3 HC (fun k hk e => hne k (by subst e; simp [Value.ownBlock]; try omega) hk)
        · exact r4.chg HC (fun b hb e => by
            have := hpk g (by simp [Value.ownBlock]; try omega)
            simp at hb
            omega)
        · exact r5.trans (HC.below (B := w.heap.size) r5.size (fun i hi e => by subst e; have := hbV0.size; omega))
        · have := HC.size; omega
  · rintro D own Va hD how hnD ⟨h1, h2, h3, h4, h5, h6⟩ hdef
    subst hvp; subst hve
    have g0 := h4.cell 0 rfl 0
    have g1 := h4.cell 0 rfl 1
    have g2 := h4.cell 1 rfl 0
    have g3 := h4.cell 1 rfl 1
    have g4 := h4.free 1 rfl 0
    have g5 := h4.free 1 rfl 1
    simp at g0 g1 g2 g3
    have HH := Lib.hid (And.intro h2 (And.intro h3 (And.intro h4 h5)))
    clear h2 h3 h4 h5 h1
    gi_wp2
    obtain ⟨h2, h3, h4, h5⟩ := HH.out
    have hd1 : Chg (fun b => b = w.heap.size + 1) Va ((Va.setCell ⟨w.heap.size + 1, 0, none⟩ (.slice Ap pts.length cp)).setCell ⟨w.heap.size + 1, 1, none⟩ (.slice Ae es.length ce)) := ((Chg.refl (fun b => b = w.heap.size + 1) Va).setCell (p := ⟨w.heap.size + 1, 0, none⟩) (fun _ => rfl) _).setCell (p := ⟨w.heap.size + 1, 1, none⟩) (fun _ => rfl) _
    have hB9 := (h4.set 1 rfl 0 (.slice Ap pts.length cp)).set 1 rfl 1 (.slice Ae es.length ce)
    have hR9 := R_chg h2 hd1 (fun k hk e => by have := (hpk k hk).1; omega)
    have hE9 := R_chg h3 hd1 (fun k hk e => by have := (hek k hk).1; omega)
    have hW9 : Below w.heap.size w _ := h5.trans (hd1.below (B := w.heap.size) h5.size (fun i hi e => by omega))
    refine leaves_collected (hd1.heap hdef (fun e => by omega)) fun V2 hc => ?_
    have hB10 := hB9.chg hc (fun b hb e => by simp at hb; omega)
    have hR10 := Kd.R_lower (R_all (R_chg hR9 hc (fun k hk e => by have := (hpk k hk).2.1; omega))) (show w.heap.size ≤ V0.heap.size by omega)
    have hE10 := Kd.R_lower (R_all (R_chg hE9 hc (fun k hk e => by have := (hek k hk).2.1; omega))) (show w.heap.size ≤ V0.heap.size by omega)
    have hW10 := hW9.trans (hc.below (B := w.heap.size) hW9.size (fun i hi e => by omega))
    exact ⟨.agg #[.slice Ap pts.length cp, .slice Ae es.length ce], by simp [results, Try.f29, go_sem, hB10.cell 1 rfl 0, hB10.cell 1 rfl 1], _, _, rfl, hR10, hE10, hW10⟩
  · rintro D c k own V1 _ _ _ _ h
    exact h.elim

def outline_Reversed.f (l0_0 : List S33) (l0_1 : List Int) : Option (List S33 × List Int) :=
  if l0_0.length ≤ 1000000 ∧ l0_1.length ≤ 1000000 then some (revL l0_0 l0_1 (cutsL l0_1 l0_0.length).length, l0_1) else none
theorem outline_Reversed.calls (A0_0 : Option Addr) (c0_0 : Nat) (l0_0 : List (S33)) (A0_1 : Option Addr) (c0_1 : Nat) (l0_1 : List Int) (r1 : List (S33)) (r2 : List Int) (w : World) (hr0_0 : Kd.C k33 w A0_0 l0_0.length l0_0) (hc0_0 : l0_0.length ≤ c0_0) (hr0_1 : Kd.C (Kd.int .i64) w A0_1 l0_1.length l0_1) (hc0_1 : l0_1.length ≤ c0_1) (h : outline_Reversed.f l0_0 l0_1 = some (r1, r2)) :
    Calls Try.prog 29 #[.agg #[.slice A0_0 l0_0.length c0_0, .slice A0_1 l0_1.length c0_1]] w fun e w' => ∃ v0_ v1_ : Value, e = .returned (.agg #[v0_, v1_]) ∧ Kd.R k33 33 w' w.heap.size (fun _ => True) v0_ r1 ∧ Kd.R (Kd.int .i64) 3 w' w.heap.size (fun _ => True) v1_ r2 ∧ Below w.heap.size w w' := by
  unfold outline_Reversed.f at h
  split at h
  · rename_i hl
    simp only [Option.some.injEq, Prod.mk.injEq] at h
    obtain ⟨rfl, rfl⟩ := h
    exact reversed_calls A0_0 A0_1 c0_0 c0_1 l0_0 l0_1 w hr0_0 hc0_0 hr0_1 hc0_1 hl.1 hl.2
  · cases h

end Go.Proofs.Ytbmklpcheopgoaa.H
