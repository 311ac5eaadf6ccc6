/- What the Go functions of this seat compute, as Lean functions, each with the proof that the call answers so; made by a program of this session. -/
import Derived.Test.YtbmklpcheopgoaaHx0
import Derived.WalkKit
import Derived.Lib.Hide
import Derived.WalkSpells
import Derived.StillTailTactics
import Derived.Deep.RegionHeld3
import Derived.Deep.AppendLies
import Derived.Test.YtbmklpcheopgoaaOps
namespace Go.Proofs.Ytbmklpcheopgoaa.H
open Go.RowKit Go.Proofs.YtbmklpcheopgoaaW.PrintWords Go.Proofs.YtbmklpcheopgoaaW.PrintLast Go.Proofs.YtbmklpcheopgoaaW.PrintMore
attribute [local go_sem] max2_int min2_int max_two min_two max_three min_three max_four min_four   -- for this text's walks alone
set_option linter.unusedVariables false
set_option linter.unusedSimpArgs false

/-! ### outline_ring: function 49 -/
open Go.Proofs.YtbmklpcheopgoaaOps
attribute [local go_sem] World.cell?_alloc_some
/-- One round of ring: the mid point where two points off the curve meet, then the point; and where the first point on the curve stands. -/
def ringStep (pts : List S52) (on : List Bool) (st : List S101 × Int) (i : Nat) : List S101 × Int :=
  let b := (i + (pts.length - 1)) % pts.length
  let p := rd_T52 pts i
  let q := rd_T52 pts b
  let o1 := if rdOf false on i = false ∧ rdOf false on b = false then st.1 ++ [⟨⟨wrap64 (p.f0 + q.f0) / 2, wrap64 (p.f1 + q.f1) / 2⟩, true⟩] else st.1
  (o1 ++ [⟨p, rdOf false on i⟩], if rdOf false on i = true ∧ st.2 < 0 then (o1.length : Int) else st.2)
def ringSt (pts : List S52) (on : List Bool) (k : Nat) : List S101 × Int := (List.range k).foldl (ringStep pts on) ([], -1)
theorem ringSt_succ (pts : List S52) (on : List Bool) (k : Nat) : ringSt pts on (k + 1) = ringStep pts on (ringSt pts on k) k := by simp [ringSt, List.range_succ]
theorem ringStep_len (pts : List S52) (on : List Bool) (st : List S101 × Int) (i : Nat) : (ringStep pts on st i).1.length ≤ st.1.length + 2 := by
  unfold ringStep
  dsimp only
  split <;> simp
theorem ringSt_len (pts : List S52) (on : List Bool) (k : Nat) : (ringSt pts on k).1.length ≤ 2 * k := by
  induction k with
  | zero => simp [ringSt]
  | succ k ih => rw [ringSt_succ]; have := ringStep_len pts on (ringSt pts on k) k; omega

theorem ringSt_at (pts : List S52) (on : List Bool) (k : Nat) : (ringSt pts on k).2 ≤ (ringSt pts on k).1.length := by
  induction k with
  | zero => simp [ringSt]
  | succ k ih =>
    rw [ringSt_succ]
    generalize ringSt pts on k = st at *
    unfold ringStep
    dsimp only
    split <;> split <;> simp <;> omega
def ringFin (st : List S101 × Int) : List S101 := st.1.drop (max st.2 0).toNat ++ st.1.take (max st.2 0).toNat
theorem ringFin_neg (xs : List S101) (s0 : Int) (h : s0 < 0) : ringFin (xs, s0) = xs := by
  unfold ringFin
  have : (max s0 0).toNat = 0 := by omega
  simp [this]
theorem ringFin_nat (xs : List S101) (s : Nat) : ringFin (xs, (s : Int)) = xs.drop s ++ xs.take s := by
  unfold ringFin
  have : (max (s : Int) 0).toNat = s := by omega
  simp [this]
theorem ringNil {α : Type} {d : Kd α} {W : World} {A : Option Addr} {n : Nat} {xs : List α} (h : d.C W A n xs) : d.C W A 0 [] := ⟨rfl, by omega, fun h => absurd h (by omega)⟩
theorem ringNone {α : Type} {d : Kd α} {W : World} {A : Option Addr} {xs : List α} (h : d.C W A xs.length xs) : A = none → xs.length = 0 := fun e => by
  rcases Nat.eq_zero_or_pos xs.length with h0 | h0
  · exact h0
  · obtain ⟨ad, h1, _⟩ := h.2.2 h0
    rw [e] at h1; cases h1
theorem ring_lim {α : Type} (n : Nat) (xs : List α) (x : α) (i : Nat) (h : xs.length ≤ 2 * i) (hi : i < n) (hn : n ≤ 1000000) : ((xs ++ [x]).length + 1) * 24 ≤ 140737488355328 := by
  simp only [List.length_append, List.length_singleton]
  omega

set_option maxRecDepth 100000 in
set_option maxHeartbeats 4000000 in
theorem ring_calls (A0 : Option Addr) (c0 : Nat) (pts : List S52) (A1 : Option Addr) (c1 : Nat) (on : List Bool) (w : World) (hr0 : Kd.C k52 w A0 pts.length pts) (hc0 : pts.length ≤ c0) (hr1 : Kd.C Kd.bool w A1 on.length on) (hc1 : on.length ≤ c1)
    (hl : on.length = pts.length) (hlim : pts.length ≤ 1000000) :
    Calls Try.prog 49 #[.slice A0 pts.length c0, .slice A1 on.length c1] w fun e w' => ∃ A c, e = .returned (.slice A (ringFin (ringSt pts on pts.length)).length c) ∧ (ringFin (ringSt pts on pts.length)).length ≤ c ∧ Kd.C k101 w' A (ringFin (ringSt pts on pts.length)).length (ringFin (ringSt pts on pts.length)) ∧ Below w.heap.size w w' := by
  have hu52 := Try.underlying52
  have hu101 := Try.underlying101
  have HR0 := Aside0.mk hr0
  have HR1 := Aside0.mk hr1
  have HL := Lib.hid hl
  clear hr0 hr1 hl
  go_enter Try.func49, Try.ntmps49
  go_wp2
  go_loopw [5, 6, 16] (fun v5 v6 v16 wr => ∃ i : Nat, i ≤ pts.length ∧ v16 = .int .i64 i ∧ v6 = .int .i64 (ringSt pts on i).2 ∧ Aside0 (Kd.R k101 101 wr w.heap.size (fun _ => True) v5 (ringSt pts on i).1 ∧ Below w.heap.size w wr))
    (fun _ _ v16 _ => pts.length - (intOf v16).toNat)
  case atStart => exact ⟨0, by omega, rfl, rfl, ⟨Kd.R_nil _ _ _ _ _, Below.refl _ _⟩⟩
  case round =>
    obtain ⟨i, hi, rfl, rfl, ⟨HO, HB⟩⟩ := hrel
    obtain ⟨Ao, co, rfl, hco, hCo⟩ := Kd.R_reads HO
    have HCo := Aside0.mk hCo
    clear hCo
    by_cases hlt : i < pts.length
    · obtain ⟨ad0, e0, hx0, hx1⟩ := at_T52 HR0.out (i : Int) (by omega) (by omega)
      cases e0
      replace hx0 := (HB.cell (World.block_lt_of_cell? w _ hx0)).trans hx0
      replace hx1 := (HB.cell (World.block_lt_of_cell? w _ hx1)).trans hx1
      obtain ⟨ad1, e1, hy0⟩ := Kd.at_bool HR1.out (i : Int) (by omega) (by have := HL.out; omega)
      cases e1
      have hlt1 : (ad1.add (i : Int).toNat).block < w.heap.size := World.block_lt_of_cell? w _ hy0
      replace hy0 := (HB.cell (World.block_lt_of_cell? w _ hy0)).trans hy0
      simp only [Int.toNat_natCast] at hx0 hx1 hy0 hlt1
      obtain ⟨b, hb⟩ : ∃ b : Nat, (i + (pts.length - 1)) % pts.length = b := ⟨_, rfl⟩
      have hbl : b < pts.length := by rw [← hb]; exact Nat.mod_lt _ (by omega)
      have hbi : ((i : Int) + ((pts.length : Int) - 1)) % (pts.length : Int) = (b : Int) := by
        rw [← hb, Int.natCast_emod, Int.natCast_add, Int.natCast_sub (by omega)]; rfl
      obtain ⟨ad2, e2, hz0, hz1⟩ := at_T52 HR0.out (b : Int) (by omega) (by omega)
      cases e2
      obtain ⟨ad2, e2, ho0⟩ := Kd.at_bool HR1.out (b : Int) (by omega) (by have := HL.out; omega)
      cases e2
      have hltz : (ad0.add ((b : Int).toNat * 2)).block < w.heap.size := World.block_lt_of_cell? w _ hz0
      simp only [Int.toNat_natCast] at hz0 hz1 ho0 hltz
      replace hz0 := (HB.cell (World.block_lt_of_cell? w _ hz0)).trans hz0
      replace hz1 := (HB.cell (World.block_lt_of_cell? w _ hz1)).trans hz1
      replace ho0 := (HB.cell (World.block_lt_of_cell? w _ ho0)).trans ho0
      have hio : i < on.length := by have := HL.out; omega
      have hbo : b < on.length := by have := HL.out; omega
      have Hb := Lib.hid hb
      clear hb
      have hlen := ringSt_len pts on i
      have hsz : w.heap.size ≤ (wr.alloc (.cells #[.int .i64 (rd_T52 pts i).f0, .int .i64 (rd_T52 pts i).f1] 52)).drew.heap.size := by have := HB.size; simp; omega
      have hlim2 : ((ringSt pts on i).1.length + 1) * 24 ≤ 140737488355328 := by omega
      have hl2 : ∀ x : S101, (((ringSt pts on i).1 ++ [x]).length + 1) * 24 ≤ 140737488355328 := fun x => ring_lim _ _ x i hlen hlt hlim
      cases hon : rdOf false on (i : Int) with
      | true =>
        rw [hon] at hy0
        by_cases hst : (ringSt pts on i).2 < 0
        · go_wp2
          go_region_held3 (fun w' => w'.cell? (ad1.add i) = some (.bool true) ∧ w'.cell? ⟨wr.heap.size, 0, none⟩ = some (.int .i64 (rd_T52 pts i).f0) ∧ w'.cell? ⟨wr.heap.size, 1, none⟩ = some (.int .i64 (rd_T52 pts i).f1))
            (first
              | go_keep
              | (go_split_ands
                 exact ⟨cell_far_lt hg (by simp [go_sem, *]) (Kd.R_base HO) hlt1, cell_far_ge hg (by simp [go_sem]) (Kd.R_lt HO) (Nat.le_refl _), cell_far_ge hg (by simp [go_sem]) (Kd.R_lt HO) (Nat.le_refl _)⟩))
            ((refine R_append_at k101 (w0 := w) (W := (wr.alloc (.cells #[.int .i64 (rd_T52 pts i).f0, .int .i64 (rd_T52 pts i).f1] 52)).drew) w.heap.size rfl (.tmp 72) (.tmp 79) 83 101 _ 24 rfl Try.underlying83 info101 rfl (by decide) (by omega) (.slice Ao (ringSt pts on i).1.length co) (ringSt pts on i).1 ⟨rd_T52 pts i, true⟩ _ rfl _ rfl (by simp) (k101_mkM _ _ _ _) (Kd.R_drew (Kd.R_alloc HO _)) (below_drew (below_alloc HB _)) hsz hlim2 rfl ?_
              intro v1 w1 ho hb hg hat))
          go_wp2
          go_roundw
          case rel => exact ⟨i + 1, by omega, by simp, by rw [ringSt_succ]; simp [ringStep, hon]; try omega, ⟨by rw [ringSt_succ]; simpa [ringStep, hon] using ho, hb⟩⟩
          case measure => simp [intOf]; omega
        · go_wp2
          go_region_held3 (fun w' => w'.cell? (ad1.add i) = some (.bool true) ∧ w'.cell? ⟨wr.heap.size, 0, none⟩ = some (.int .i64 (rd_T52 pts i).f0) ∧ w'.cell? ⟨wr.heap.size, 1, none⟩ = some (.int .i64 (rd_T52 pts i).f1))
            (first
              | go_keep
              | (go_split_ands
                 exact ⟨cell_far_lt hg (by simp [go_sem, *]) (Kd.R_base HO) hlt1, cell_far_ge hg (by simp [go_sem]) (Kd.R_lt HO) (Nat.le_refl _), cell_far_ge hg (by simp [go_sem]) (Kd.R_lt HO) (Nat.le_refl _)⟩))
            ((refine R_append_at k101 (w0 := w) (W := (wr.alloc (.cells #[.int .i64 (rd_T52 pts i).f0, .int .i64 (rd_T52 pts i).f1] 52)).drew) w.heap.size rfl (.tmp 72) (.tmp 79) 83 101 _ 24 rfl Try.underlying83 info101 rfl (by decide) (by omega) (.slice Ao (ringSt pts on i).1.length co) (ringSt pts on i).1 ⟨rd_T52 pts i, true⟩ _ rfl _ rfl (by simp) (k101_mkM _ _ _ _) (Kd.R_drew (Kd.R_alloc HO _)) (below_drew (below_alloc HB _)) hsz hlim2 rfl ?_
              intro v1 w1 ho hb hg hat))
          go_wp2
          go_roundw
          case rel => exact ⟨i + 1, by omega, by simp, by rw [ringSt_succ]; simp [ringStep, hon]; try omega, ⟨by rw [ringSt_succ]; simpa [ringStep, hon] using ho, hb⟩⟩
          case measure => simp [intOf]; omega
      | false =>
        rw [hon] at hy0
        cases hob : rdOf false on (b : Int) with
        | true =>
          rw [hob] at ho0
          have hst : True := trivial
          go_wp2
          go_region_held3 (fun w' => w'.cell? (ad1.add i) = some (.bool false) ∧ w'.cell? ⟨wr.heap.size, 0, none⟩ = some (.int .i64 (rd_T52 pts i).f0) ∧ w'.cell? ⟨wr.heap.size, 1, none⟩ = some (.int .i64 (rd_T52 pts i).f1))
            (first
              | go_keep
              | (go_split_ands
                 exact ⟨cell_far_lt hg (by simp [go_sem, *]) (Kd.R_base HO) hlt1, cell_far_ge hg (by simp [go_sem]) (Kd.R_lt HO) (Nat.le_refl _), cell_far_ge hg (by simp [go_sem]) (Kd.R_lt HO) (Nat.le_refl _)⟩))
            ((refine R_append_at k101 (w0 := w) (W := (wr.alloc (.cells #[.int .i64 (rd_T52 pts i).f0, .int .i64 (rd_T52 pts i).f1] 52)).drew) w.heap.size rfl (.tmp 72) (.tmp 79) 83 101 _ 24 rfl Try.underlying83 info101 rfl (by decide) (by omega) (.slice Ao (ringSt pts on i).1.length co) (ringSt pts on i).1 ⟨rd_T52 pts i, false⟩ _ rfl _ rfl (by simp) (k101_mkM _ _ _ _) (Kd.R_drew (Kd.R_alloc HO _)) (below_drew (below_alloc HB _)) hsz hlim2 rfl ?_
              intro v1 w1 ho hb hg hat))
          go_wp2
          go_roundw
          case rel => exact ⟨i + 1, by omega, by simp, by rw [ringSt_succ]; simp [ringStep, hon], ⟨by rw [ringSt_succ]; simpa [ringStep, hon, hob, Hb.out] using ho, hb⟩⟩
          case measure => simp [intOf]; omega
        | false =>
          rw [hob] at ho0
          go_wp2
          go_region_held3 (fun w' => w'.cell? (ad1.add i) = some (.bool false) ∧ w'.cell? ⟨wr.heap.size, 0, none⟩ = some (.int .i64 (rd_T52 pts i).f0) ∧ w'.cell? ⟨wr.heap.size, 1, none⟩ = some (.int .i64 (rd_T52 pts i).f1) ∧ w'.cell? (ad0.add (b * 2)) = some (.int .i64 (rd_T52 pts b).f0) ∧ w'.cell? ⟨(ad0.add (b * 2)).block, (ad0.add (b * 2)).off + 1, none⟩ = some (.int .i64 (rd_T52 pts b).f1))
            (first
              | go_keep
              | exact ⟨hK1, hK2, hK3, hK4, hK5⟩
              | (go_split_ands <;> assumption)
              | go_split_ands)
            ((go_loud (refine R_append_at k101 (w0 := w) (W := (wr.alloc (.cells #[.int .i64 (rd_T52 pts i).f0, .int .i64 (rd_T52 pts i).f1] 52)).drew) w.heap.size rfl (.tmp 39) (.tmp 60) 83 101 _ 24 rfl Try.underlying83 info101 rfl (by decide) (by omega) (.slice Ao (ringSt pts on i).1.length co) (ringSt pts on i).1 ⟨⟨IntKind.i64.wrap ((rd_T52 pts i).f0 + (rd_T52 pts b).f0) / 2, IntKind.i64.wrap ((rd_T52 pts i).f1 + (rd_T52 pts b).f1) / 2⟩, true⟩ _ rfl _ rfl (by simp) (k101_mkM _ _ _ _) (Kd.R_drew (Kd.R_alloc HO _)) (below_drew (below_alloc HB _)) hsz hlim2 rfl ?_)
              intro v1 w1 ho hb hg hat
              have hK1 : w1.cell? (ad1.add i) = some (.bool false) := cell_far_lt hg (by simp [go_sem, *]) (Kd.R_base HO) hlt1
              have hK2 : w1.cell? ⟨wr.heap.size, 0, none⟩ = some (.int .i64 (rd_T52 pts i).f0) := cell_far_ge hg (by simp [go_sem]) (Kd.R_lt HO) (Nat.le_refl _)
              have hK3 : w1.cell? ⟨wr.heap.size, 1, none⟩ = some (.int .i64 (rd_T52 pts i).f1) := cell_far_ge hg (by simp [go_sem]) (Kd.R_lt HO) (Nat.le_refl _)
              have hK4 : w1.cell? (ad0.add (b * 2)) = some (.int .i64 (rd_T52 pts b).f0) := cell_far_lt hg (by simp [go_sem, *]) (Kd.R_base HO) hltz
              have hK5 : w1.cell? ⟨(ad0.add (b * 2)).block, (ad0.add (b * 2)).off + 1, none⟩ = some (.int .i64 (rd_T52 pts b).f1) := cell_far_lt hg (by simp [go_sem, *]) (Kd.R_base HO) hltz
              have hK6 : w1.heap[wr.heap.size]? = some (.cells #[.int .i64 (rd_T52 pts i).f0, .int .i64 (rd_T52 pts i).f1] 52 (0, 0)) := (hg.block _ (by simp) (fun e => by have := Kd.R_lt HO _ e.symm; omega)).trans (World.alloc_heap_new wr _)))
          have hs1 : w.heap.size ≤ w1.drew.heap.size := by have := hb.size; simp; omega
          have HO1 := Aside0.mk ho
          have HB1 := Aside0.mk hb
          have HK6 := Aside0.mk hK6
          clear hg hat ho hb hK6
          go_wp2
          go_region_held3 (fun w' => w'.cell? (ad1.add i) = some (.bool false) ∧ w'.cell? ⟨wr.heap.size, 0, none⟩ = some (.int .i64 (rd_T52 pts i).f0) ∧ w'.cell? ⟨wr.heap.size, 1, none⟩ = some (.int .i64 (rd_T52 pts i).f1))
            (first
              | go_keep
              | exact ⟨cell_far_lt hg2 (by simp [go_sem, *]) (Kd.R_base HO1.out) hlt1, hM2, hM3⟩
              | (go_split_ands <;> first | assumption | exact cell_far_lt hg2 (by simp [go_sem, *]) (Kd.R_base HO1.out) hlt1)
              | go_split_ands)
            ((go_loud (refine R_append_at k101 (w0 := w) (W := w1.drew) w.heap.size rfl (.tmp 72) (.tmp 79) 83 101 _ 24 rfl Try.underlying83 info101 rfl (by decide) (by omega) v1 _ ⟨rd_T52 pts i, false⟩ _ rfl _ rfl (by simp) (k101_mkM _ _ _ _) (Kd.R_drew HO1.out) (below_drew HB1.out) hs1 (hl2 _) rfl ?_)
              intro v2 w2 ho2 hb2 hg2 hat2
              have hM : w2.heap[wr.heap.size]? = some (.cells #[.int .i64 (rd_T52 pts i).f0, .int .i64 (rd_T52 pts i).f1] 52 (0, 0)) := (hg2.block _ (Array.getElem?_eq_some_iff.1 HK6.out).1 (Kd.R_ne HO1.out HK6.out (by decide))).trans HK6.out
              have hM1 : w2.cell? (ad1.add i) = some (.bool false) := cell_far_lt hg2 (by simp [go_sem, *]) (Kd.R_base HO1.out) hlt1
              have hM2 := blk_cell hM 0
              have hM3 := blk_cell hM 1
              clear hM))
          go_wp2
          go_roundw
          case rel => exact ⟨i + 1, by omega, by simp, by rw [ringSt_succ]; simp [ringStep, hon], ⟨by rw [ringSt_succ]; simpa [ringStep, hon, hob, Hb.out, i64_w] using ho2, hb2⟩⟩
          case measure => simp [intOf]; omega
    · obtain rfl : i = pts.length := by omega
      have hst := ringSt_at pts on pts.length
      have hlen := ringSt_len pts on pts.length
      generalize hQ : ringSt pts on pts.length = st at *
      obtain ⟨xs, s0⟩ := st
      have HQ := Lib.hid hQ
      clear hQ
      dsimp only at *
      have hbel : ∀ {w1 : World}, Below wr.drew.heap.size wr.drew w1 → Below w.heap.size wr.drew w1 := fun h => h.mono HB.size
      have hlim3 : (xs.length + 0) * 24 ≤ 140737488355328 := by omega
      by_cases h0 : s0 < 0
      · have hfin : ringFin (xs, s0) = xs := ringFin_neg _ _ h0
        obtain ⟨A1, c1, w1, hrun, hc1, hC1, hb1⟩ := run_full (P := Try.prog) k101 (W := wr.drew) (t := 83) (ty := 83) (c := xs.length) (c' := co) Try.underlying83 info101 rfl (by decide) (by omega) (Kd.C_drew HCo.out) (Kd.C_drew (ringNil HCo.out)) (Nat.le_refl _) (.inr rfl) hlim3 (ringNone HCo.out)
        simp only [Nat.add_zero, List.append_nil] at hrun hC1 hc1
        go_wp2
        go_still_tail 10, (by kernel_rfl)
        change wpList _ _ _ _ _ wr.drew
        go_wp2_with (first | (at_builtin; refine app_list (s := .tmp 90) (x := .tmp 93) rfl rfl rfl rfl hrun ?_))
        go_ret
        exact ⟨A1, c1, by rw [HQ.out, hfin]; rfl, by rw [HQ.out, hfin]; exact hc1, by rw [HQ.out, hfin]; exact hC1, HB.drew.trans (hbel hb1)⟩
      · obtain ⟨s, rfl⟩ : ∃ s : Nat, s0 = (s : Int) := ⟨s0.toNat, by omega⟩
        have hsl : s ≤ xs.length := by omega
        by_cases he : xs.length = s
        · have hfin := ringFin_nat xs s
          subst he
          obtain ⟨A1, c1, w1, hrun, hc1, hC1, hb1⟩ := run_full (P := Try.prog) k101 (W := wr.drew) (A := Ao) (t := 83) (ty := 83) (c := 0) (c' := co) Try.underlying83 info101 rfl (by decide) (by omega) (Kd.C_drew (ringNil HCo.out)) (Kd.C_drew HCo.out) (Nat.le_refl _) (by omega) (by omega) (fun _ => rfl)
          simp only [Nat.zero_add, List.nil_append] at hrun hC1 hc1
          have hf2 : xs.drop xs.length ++ xs.take xs.length = xs := by simp
          rw [hf2] at hfin
          have hco2 : xs.length ≤ co := hco
          go_wp2
          go_still_tail 10, (by kernel_rfl)
          change wpList _ _ _ _ _ wr.drew
          go_wp2_with (first | (at_builtin; refine app_list (s := .tmp 90) (x := .tmp 93) rfl rfl rfl rfl hrun ?_))
          go_ret
          exact ⟨A1, c1, by rw [HQ.out, hfin]; rfl, by rw [HQ.out, hfin]; exact hc1, by rw [HQ.out, hfin]; exact hC1, HB.drew.trans (hbel hb1)⟩
        · have he1 : ¬ (xs.length = s) := he
          have he2 : ¬ (xs.length - s = 0) := by omega
          have he3 : s < xs.length := by omega
          have he4 : s ≤ co := by omega
          have hfin := ringFin_nat xs s
          have hdl : (xs.drop s).length = xs.length - s := List.length_drop
          have htl : (xs.take s).length = s := by rw [List.length_take]; omega
          have hA := Kd.C_drop (c := xs.length) HCo.out hsl (Nat.le_refl _)
          rw [if_neg he1, hdl] at hA
          have hB := Kd.C_take HCo.out hsl
          rw [htl] at hB
          have hlim4 : (xs.length - s + s) * 24 ≤ 140737488355328 := by omega
          obtain ⟨g, hg⟩ : ∃ g, Ao = some g := by obtain ⟨g, hg, _⟩ := HCo.out.2.2 (by omega); exact ⟨g, hg⟩
          subst hg
          obtain ⟨A1, c1, w1, hrun, hc1, hC1, hb1⟩ := run_full (P := Try.prog) k101 (W := wr.drew) (t := 83) (ty := 83) (c := xs.length - s) (c' := co) Try.underlying83 info101 rfl (by decide) (by omega) (Kd.C_drew hA) (Kd.C_drew hB) (Nat.le_refl _) (by omega) hlim4 (fun h => by cases h)
          have hsum : xs.length - s + s = xs.length := by omega
          have hsum2 : (xs.drop s ++ xs.take s).length = xs.length := by rw [List.length_append, hdl, htl]; omega
          have HR := Lib.hid hrun
          have HS := Lib.hid hsum
          have HS2 := Lib.hid hsum2
          have HF := Lib.hid hfin
          have HC1 := Aside0.mk hC1
          clear hrun hsum hsum2 hdl htl hA hB hC1 hfin
          go_wp2
          go_still_tail 10, (by kernel_rfl)
          change wpList _ _ _ _ _ wr.drew
          go_wp2_with (first | (at_builtin; refine app_list (s := .tmp 90) (x := .tmp 93) rfl rfl rfl rfl HR.out ?_))
          go_ret
          exact ⟨A1, c1, by rw [HQ.out, HF.out, HS2.out, ← HS.out]; rfl, by rw [HQ.out, HF.out, HS2.out, ← HS.out]; exact hc1, by rw [HQ.out, HF.out, HS2.out, ← HS.out]; exact HC1.out, HB.drew.trans (hbel hb1)⟩

end Go.Proofs.Ytbmklpcheopgoaa.H
