/- Texts of this session, one behind the other, for the statement OutlineTells: what its functions compute, plain facts, and (last) its row. No condition besides those stated. -/
import Derived.Test.YtbmklpcheopgoaaMTells1
import Derived.WalkKit
import Derived.Lib.Hide
import Derived.WalkSpells
import Derived.StillTailTactics
import Derived.Deep.RegionHeld3
import Derived.Deep.AppendLies
import Derived.Test.YtbmklpcheopgoaaMTells3
import Derived.Test.YtbmklpcheopgoaaMTells2
set_option linter.unusedVariables false
set_option linter.unusedSimpArgs false
namespace Go.Proofs.Ytbmklpcheopgoaa.H
open Go.RowKit Go.Proofs.YtbmklpcheopgoaaW.PrintWords Go.Proofs.YtbmklpcheopgoaaW.PrintLast Go.Proofs.YtbmklpcheopgoaaW.PrintMore
attribute [local go_sem] max2_int min2_int max_two min_two max_three min_three max_four min_four
set_option linter.unusedVariables false
set_option linter.unusedSimpArgs false
open Go.Proofs.YtbmklpcheopgoaaOps
attribute [local go_sem] World.cell?_alloc_some
def ringStep (pts : List S52) (on : List Bool) (st : List S101 × Int) (i : Nat) : List S101 × Int :=
  let b := (i + (pts.length - 1)) % pts.length
  let p := rd_T52 pts i
  let q := rd_T52 pts b
  let o1 := if rdOf false on i = false ∧ rdOf false on b = false then st.1 ++ [⟨⟨wrap64 (p.f0 + q.f0) / 2, wrap64 (p.f1 + q.f1) / 2⟩, true⟩] else st.1
  (o1 ++ [⟨p, rdOf false on i⟩], if rdOf false on i = true ∧ st.2 < 0 then (o1.length : Int) else st.2)
def ringSt (pts : List S52) (on : List Bool) (k : Nat) : List S101 × Int := (List.range k).foldl (ringStep pts on) ([], -1)
theorem ringSt_succ (pts : List S52) (on : List Bool) (k : Nat) : ringSt pts on (k + 1) = ringStep pts on (ringSt pts on k) k := by simp [ringSt, List.range_succ]
theorem ringStep_len (pts : List S52) (on : List Bool) (st : List S101 × Int) (i : Nat) : (ringStep pts on st i).1.length ≤ st.1.length + 2 := by
  unfold ringStep
  dsimp only
  split <;> simp
theorem ringSt_len (pts : List S52) (on : List Bool) (k : Nat) : (ringSt pts on k).1.length ≤ 2 * k := by
  induction k with
  | zero => simp [ringSt]
  | succ k ih => rw [ringSt_succ]; have := ringStep_len pts on (ringSt pts on k) k; omega
theorem ringSt_at (pts : List S52) (on : List Bool) (k : Nat) : (ringSt pts on k).2 ≤ (ringSt pts on k).1.length := by
  induction k with
  | zero => simp [ringSt]
  | succ k ih =>
    rw [ringSt_succ]
    generalize ringSt pts on k = st at *
    unfold ringStep
    dsimp only
    split <;> split <;> simp <;> omega
def ringFin (st : List S101 × Int) : List S101 := st.1.drop (max st.2 0).toNat ++ st.1.take (max st.2 0).toNat
theorem ringFin_neg (xs : List S101) (s0 : Int) (h : s0 < 0) : ringFin (xs, s0) = xs := by
  unfold ringFin
  have : (max s0 0).toNat = 0 := by omega
  simp [this]
theorem ringFin_nat (xs : List S101) (s : Nat) : ringFin (xs, (s : Int)) = xs.drop s ++ xs.take s := by
  unfold ringFin
  have : (max (s : Int) 0).toNat = s := by omega
  simp [this]
theorem ringNil {α : Type} {d : Kd α} {W : World} {A : Option Addr} {n : Nat} {xs : List α} (h : d.C W A n xs) : d.C W A 0 [] := ⟨rfl, by omega, fun h => absurd h (by omega)⟩
theorem ringNone {α : Type} {d : Kd α} {W : World} {A : Option Addr} {xs : List α} (h : d.C W A xs.length xs) : A = none → xs.length = 0 := fun e => by
  rcases Nat.eq_zero_or_pos xs.length with h0 | h0
  · exact h0
  · obtain ⟨ad, h1, _⟩ := h.2.2 h0
    rw [e] at h1; cases h1
theorem ring_lim {α : Type} (n : Nat) (xs : List α) (x : α) (i : Nat) (h : xs.length ≤ 2 * i) (hi : i < n) (hn : n ≤ 1000000) : ((xs ++ [x]).length + 1) * 24 ≤ 140737488355328 := by
  simp only [List.length_append, List.length_singleton]
  omega
set_option maxRecDepth 100000 in
set_option maxHeartbeats 4000000 in
theorem ring_calls (A0 : Option Addr) (c0 : Nat) (pts : List S52) (A1 : Option Addr) (c1 : Nat) (on : List Bool) (w : World) (hr0 : Kd.C k52 w A0 pts.length pts) (hc0 : pts.length ≤ c0) (hr1 : Kd.C Kd.bool w A1 on.length on) (hc1 : on.length ≤ c1)
    (hl : on.length = pts.length) (hlim : pts.length ≤ 1000000) :
    Calls Try.prog 49 #[.slice A0 pts.length c0, .slice A1 on.length c1] w fun e w' => ∃ A c, e = .returned (.slice A (ringFin (ringSt pts on pts.length)).length c) ∧ (ringFin (ringSt pts on pts.length)).length ≤ c ∧ Kd.C k101 w' A (ringFin (ringSt pts on pts.length)).length (ringFin (ringSt pts on pts.length)) ∧ Below w.heap.size w w' := by
  have hu52 := Try.underlying52
  have hu101 := Try.underlying101
  have HR0 := aM hr0
  have HR1 := aM hr1
  have HL := Lib.hid hl
  clear hr0 hr1 hl
  go_enter Try.func49, Try.ntmps49
  go_wp2
  go_loopw [5, 6, 16] (fun v5 v6 v16 wr => ∃ i : Nat, i ≤ pts.length ∧ v16 = .int .i64 i ∧ v6 = .int .i64 (ringSt pts on i).2 ∧ Aside0 (Kd.R k101 101 wr w.heap.size (fun _ => True) v5 (ringSt pts on i).1 ∧ Below w.heap.size w wr))
    (fun _ _ v16 _ => pts.length - (intOf v16).toNat)
  case atStart => exact ⟨0, by omega, rfl, rfl, ⟨Kd.R_nil _ _ _ _ _, Below.refl _ _⟩⟩
  case round =>
    obtain ⟨i, hi, rfl, rfl, ⟨HO, HB⟩⟩ := hrel
    obtain ⟨Ao, co, rfl, hco, hCo⟩ := Kd.R_reads HO
    have HCo := aM hCo
    clear hCo
    by_cases hlt : i < pts.length
    · obtain ⟨ad0, e0, hx0, hx1⟩ := at_T52 HR0.out (i : Int) (by omega) (by omega)
      cases e0
      replace hx0 := (HB.cell (World.block_lt_of_cell? w _ hx0)).trans hx0
      replace hx1 := (HB.cell (World.block_lt_of_cell? w _ hx1)).trans hx1
      obtain ⟨ad1, e1, hy0⟩ := Kd.at_bool HR1.out (i : Int) (by omega) (by have := HL.out; omega)
      cases e1
      have hlt1 : (ad1.add (i : Int).toNat).block < w.heap.size := World.block_lt_of_cell? w _ hy0
      replace hy0 := (HB.cell (World.block_lt_of_cell? w _ hy0)).trans hy0
      simp only [Int.toNat_natCast] at hx0 hx1 hy0 hlt1
      obtain ⟨b, hb⟩ : ∃ b : Nat, (i + (pts.length - 1)) % pts.length = b := ⟨_, rfl⟩
      have hbl : b < pts.length := by rw [← hb]; exact Nat.mod_lt _ (by omega)
      have hbi : ((i : Int) + ((pts.length : Int) - 1)) % (pts.length : Int) = (b : Int) := by
        rw [← hb, Int.natCast_emod, Int.natCast_add, Int.natCast_sub (by omega)]; rfl
      obtain ⟨ad2, e2, hz0, hz1⟩ := at_T52 HR0.out (b : Int) (by omega) (by omega)
      cases e2
      obtain ⟨ad2, e2, ho0⟩ := Kd.at_bool HR1.out (b : Int) (by omega) (by have := HL.out; omega)
      cases e2
      have hltz : (ad0.add ((b : Int).toNat * 2)).block < w.heap.size := World.block_lt_of_cell? w _ hz0
      simp only [Int.toNat_natCast] at hz0 hz1 ho0 hltz
      replace hz0 := (HB.cell (World.block_lt_of_cell? w _ hz0)).trans hz0
      replace hz1 := (HB.cell (World.block_lt_of_cell? w _ hz1)).trans hz1
      replace ho0 := (HB.cell (World.block_lt_of_cell? w _ ho0)).trans ho0
      have hio : i < on.length := by have := HL.out; omega
      have hbo : b < on.length := by have := HL.out; omega
      have Hb := Lib.hid hb
      clear hb
      have hlen := ringSt_len pts on i
      have hsz : w.heap.size ≤ (wr.alloc (.cells #[.int .i64 (rd_T52 pts i).f0, .int .i64 (rd_T52 pts i).f1] 52)).drew.heap.size := by have := HB.size; simp; omega
      have hlim2 : ((ringSt pts on i).1.length + 1) * 24 ≤ 140737488355328 := by omega
      have hl2 : ∀ x : S101, (((ringSt pts on i).1 ++ [x]).length + 1) * 24 ≤ 140737488355328 := fun x => ring_lim _ _ x i hlen hlt hlim
      cases hon : rdOf false on (i : Int) with
      | true =>
        rw [hon] at hy0
        by_cases hst : (ringSt pts on i).2 < 0
        · go_wp2
          go_region_held3 (fun w' => w'.cell? (ad1.add i) = some (.bool true) ∧ w'.cell? ⟨wr.heap.size, 0, none⟩ = some (.int .i64 (rd_T52 pts i).f0) ∧ w'.cell? ⟨wr.heap.size, 1, none⟩ = some (.int .i64 (rd_T52 pts i).f1))
            (first
              | go_keep
              | (go_split_ands
                 exact ⟨cell_far_lt hg (by simp [go_sem, *]) (Kd.R_base HO) hlt1, cell_far_ge hg (by simp [go_sem]) (Kd.R_lt HO) (Nat.le_refl _), cell_far_ge hg (by simp [go_sem]) (Kd.R_lt HO) (Nat.le_refl _)⟩))
            ((refine R_append_at k101 (w0 := w) (W := (wr.alloc (.cells #[.int .i64 (rd_T52 pts i).f0, .int .i64 (rd_T52 pts i).f1] 52)).drew) w.heap.size rfl (.tmp 72) (.tmp 79) 83 101 _ 24 rfl Try.underlying83 info101 rfl (by decide) (by omega) (.slice Ao (ringSt pts on i).1.length co) (ringSt pts on i).1 ⟨rd_T52 pts i, true⟩ _ rfl _ rfl (by simp) (k101_mkM _ _ _ _) (Kd.R_drew (Kd.R_alloc HO _)) (below_drew (bA HB _)) hsz hlim2 rfl ?_
              intro v1 w1 ho hb hg hat))
          go_wp2
          go_roundw
          case rel => exact ⟨i + 1, by omega, by simp, by rw [ringSt_succ]; simp [ringStep, hon]; try omega, ⟨by rw [ringSt_succ]; simpa [ringStep, hon] using ho, hb⟩⟩
          case measure => simp [intOf]; omega
        · go_wp2
          go_region_held3 (fun w' => w'.cell? (ad1.add i) = some (.bool true) ∧ w'.cell? ⟨wr.heap.size, 0, none⟩ = some (.int .i64 (rd_T52 pts i).f0) ∧ w'.cell? ⟨wr.heap.size, 1, none⟩ = some (.int .i64 (rd_T52 pts i).f1))
            (first
              | go_keep
              | (go_split_ands
                 exact ⟨cell_far_lt hg (by simp [go_sem, *]) (Kd.R_base HO) hlt1, cell_far_ge hg (by simp [go_sem]) (Kd.R_lt HO) (Nat.le_refl _), cell_far_ge hg (by simp [go_sem]) (Kd.R_lt HO) (Nat.le_refl _)⟩))
            ((refine R_append_at k101 (w0 := w) (W := (wr.alloc (.cells #[.int .i64 (rd_T52 pts i).f0, .int .i64 (rd_T52 pts i).f1] 52)).drew) w.heap.size rfl (.tmp 72) (.tmp 79) 83 101 _ 24 rfl Try.underlying83 info101 rfl (by decide) (by omega) (.slice Ao (ringSt pts on i).1.length co) (ringSt pts on i).1 ⟨rd_T52 pts i, true⟩ _ rfl _ rfl (by simp) (k101_mkM _ _ _ _) (Kd.R_drew (Kd.R_alloc HO _)) (below_drew (bA HB _)) hsz hlim2 rfl ?_
              intro v1 w1 ho hb hg hat))
          go_wp2
          go_roundw
          case rel => exact ⟨i + 1, by omega, by simp, by rw [ringSt_succ]; simp [ringStep, hon]; try omega, ⟨by rw [ringSt_succ]; simpa [ringStep, hon] using ho, hb⟩⟩
          case measure => simp [intOf]; omega
      | false =>
        rw [hon] at hy0
        cases hob : rdOf false on (b : Int) with
        | true =>
          rw [hob] at ho0
          have hst : True := trivial
          go_wp2
          go_region_held3 (fun w' => w'.cell? (ad1.add i) = some (.bool false) ∧ w'.cell? ⟨wr.heap.size, 0, none⟩ = some (.int .i64 (rd_T52 pts i).f0) ∧ w'.cell? ⟨wr.heap.size, 1, none⟩ = some (.int .i64 (rd_T52 pts i).f1))
            (first
              | go_keep
              | (go_split_ands
                 exact ⟨cell_far_lt hg (by simp [go_sem, *]) (Kd.R_base HO) hlt1, cell_far_ge hg (by simp [go_sem]) (Kd.R_lt HO) (Nat.le_refl _), cell_far_ge hg (by simp [go_sem]) (Kd.R_lt HO) (Nat.le_refl _)⟩))
            ((refine R_append_at k101 (w0 := w) (W := (wr.alloc (.cells #[.int .i64 (rd_T52 pts i).f0, .int .i64 (rd_T52 pts i).f1] 52)).drew) w.heap.size rfl (.tmp 72) (.tmp 79) 83 101 _ 24 rfl Try.underlying83 info101 rfl (by decide) (by omega) (.slice Ao (ringSt pts on i).1.length co) (ringSt pts on i).1 ⟨rd_T52 pts i, false⟩ _ rfl _ rfl (by simp) (k101_mkM _ _ _ _) (Kd.R_drew (Kd.R_alloc HO _)) (below_drew (bA HB _)) hsz hlim2 rfl ?_
              intro v1 w1 ho hb hg hat))
          go_wp2
          go_roundw
          case rel => exact ⟨i + 1, by omega, by simp, by rw [ringSt_succ]; simp [ringStep, hon], ⟨by rw [ringSt_succ]; simpa [ringStep, hon, hob, Hb.out] using ho, hb⟩⟩
          case measure => simp [intOf]; omega
        | false =>
          rw [hob] at ho0
          go_wp2
          go_region_held3 (fun w' => w'.cell? (ad1.add i) = some (.bool false) ∧ w'.cell? ⟨wr.heap.size, 0, none⟩ = some (.int .i64 (rd_T52 pts i).f0) ∧ w'.cell? ⟨wr.heap.size, 1, none⟩ = some (.int .i64 (rd_T52 pts i).f1) ∧ w'.cell? (ad0.add (b * 2)) = some (.int .i64 (rd_T52 pts b).f0) ∧ w'.cell? ⟨(ad0.add (b * 2)).block, (ad0.add (b * 2)).off + 1, none⟩ = some (.int .i64 (rd_T52 pts b).f1))
            (first
              | go_keep
              | exact ⟨hK1, hK2, hK3, hK4, hK5⟩
              | (go_split_ands <;> assumption)
              | go_split_ands)
            ((go_loud (refine R_append_at k101 (w0 := w) (W := (wr.alloc (.cells #[.int .i64 (rd_T52 pts i).f0, .int .i64 (rd_T52 pts i).f1] 52)).drew) w.heap.size rfl (.tmp 39) (.tmp 60) 83 101 _ 24 rfl Try.underlying83 info101 rfl (by decide) (by omega) (.slice Ao (ringSt pts on i).1.length co) (ringSt pts on i).1 ⟨⟨IntKind.i64.wrap ((rd_T52 pts i).f0 + (rd_T52 pts b).f0) / 2, IntKind.i64.wrap ((rd_T52 pts i).f1 + (rd_T52 pts b).f1) / 2⟩, true⟩ _ rfl _ rfl (by simp) (k101_mkM _ _ _ _) (Kd.R_drew (Kd.R_alloc HO _)) (below_drew (bA HB _)) hsz hlim2 rfl ?_)
              intro v1 w1 ho hb hg hat
              have hK1 : w1.cell? (ad1.add i) = some (.bool false) := cell_far_lt hg (by simp [go_sem, *]) (Kd.R_base HO) hlt1
              have hK2 : w1.cell? ⟨wr.heap.size, 0, none⟩ = some (.int .i64 (rd_T52 pts i).f0) := cell_far_ge hg (by simp [go_sem]) (Kd.R_lt HO) (Nat.le_refl _)
              have hK3 : w1.cell? ⟨wr.heap.size, 1, none⟩ = some (.int .i64 (rd_T52 pts i).f1) := cell_far_ge hg (by simp [go_sem]) (Kd.R_lt HO) (Nat.le_refl _)
              have hK4 : w1.cell? (ad0.add (b * 2)) = some (.int .i64 (rd_T52 pts b).f0) := cell_far_lt hg (by simp [go_sem, *]) (Kd.R_base HO) hltz
              have hK5 : w1.cell? ⟨(ad0.add (b * 2)).block, (ad0.add (b * 2)).off + 1, none⟩ = some (.int .i64 (rd_T52 pts b).f1) := cell_far_lt hg (by simp [go_sem, *]) (Kd.R_base HO) hltz
              have hK6 : w1.heap[wr.heap.size]? = some (.cells #[.int .i64 (rd_T52 pts i).f0, .int .i64 (rd_T52 pts i).f1] 52 (0, 0)) := (hg.block _ (by simp) (fun e => by have := Kd.R_lt HO _ e.symm; omega)).trans (World.alloc_heap_new wr _)))
          have hs1 : w.heap.size ≤ w1.drew.heap.size := by have := hb.size; simp; omega
          have HO1 := aM ho
          have HB1 := aM hb
          have HK6 := aM hK6
          clear hg hat ho hb hK6
          go_wp2
          go_region_held3 (fun w' => w'.cell? (ad1.add i) = some (.bool false) ∧ w'.cell? ⟨wr.heap.size, 0, none⟩ = some (.int .i64 (rd_T52 pts i).f0) ∧ w'.cell? ⟨wr.heap.size, 1, none⟩ = some (.int .i64 (rd_T52 pts i).f1))
            (first
              | go_keep
              | exact ⟨cell_far_lt hg2 (by simp [go_sem, *]) (Kd.R_base HO1.out) hlt1, hM2, hM3⟩
              | (go_split_ands <;> first | assumption | exact cell_far_lt hg2 (by simp [go_sem, *]) (Kd.R_base HO1.out) hlt1)
              | go_split_ands)
            ((go_loud (refine R_append_at k101 (w0 := w) (W := w1.drew) w.heap.size rfl (.tmp 72) (.tmp 79) 83 101 _ 24 rfl Try.underlying83 info101 rfl (by decide) (by omega) v1 _ ⟨rd_T52 pts i, false⟩ _ rfl _ rfl (by simp) (k101_mkM _ _ _ _) (Kd.R_drew HO1.out) (below_drew HB1.out) hs1 (hl2 _) rfl ?_)
              intro v2 w2 ho2 hb2 hg2 hat2
              have hM : w2.heap[wr.heap.size]? = some (.cells #[.int .i64 (rd_T52 pts i).f0, .int .i64 (rd_T52 pts i).f1] 52 (0, 0)) := (hg2.block _ (Array.getElem?_eq_some_iff.1 HK6.out).1 (Kd.R_ne HO1.out HK6.out (by decide))).trans HK6.out
              have hM1 : w2.cell? (ad1.add i) = some (.bool false) := cell_far_lt hg2 (by simp [go_sem, *]) (Kd.R_base HO1.out) hlt1
              have hM2 := blk_cell hM 0
              have hM3 := blk_cell hM 1
              clear hM))
          go_wp2
          go_roundw
          case rel => exact ⟨i + 1, by omega, by simp, by rw [ringSt_succ]; simp [ringStep, hon], ⟨by rw [ringSt_succ]; simpa [ringStep, hon, hob, Hb.out, i64_w] using ho2, hb2⟩⟩
          case measure => simp [intOf]; omega
    · obtain rfl : i = pts.length := by omega
      have hst := ringSt_at pts on pts.length
      have hlen := ringSt_len pts on pts.length
      generalize hQ : ringSt pts on pts.length = st at *
      obtain ⟨xs, s0⟩ := st
      have HQ := Lib.hid hQ
      clear hQ
      dsimp only at *
      have hbel : ∀ {w1 : World}, Below wr.drew.heap.size wr.drew w1 → Below w.heap.size wr.drew w1 := fun h => h.mono HB.size
      have hlim3 : (xs.length + 0) * 24 ≤ 140737488355328 := by omega
      by_cases h0 : s0 < 0
      · have hfin : ringFin (xs, s0) = xs := ringFin_neg _ _ h0
        obtain ⟨A1, c1, w1, hrun, hc1, hC1, hb1⟩ := run_full (P := Try.prog) k101 (W := wr.drew) (t := 83) (ty := 83) (c := xs.length) (c' := co) Try.underlying83 info101 rfl (by decide) (by omega) (Kd.C_drew HCo.out) (Kd.C_drew (ringNil HCo.out)) (Nat.le_refl _) (.inr rfl) hlim3 (ringNone HCo.out)
        simp only [Nat.add_zero, List.append_nil] at hrun hC1 hc1
        go_wp2
        go_still_tail 10, (by kernel_rfl)
        change wpList _ _ _ _ _ wr.drew
        go_wp2_with (first | (at_builtin; refine app_list (s := .tmp 90) (x := .tmp 93) rfl rfl rfl rfl hrun ?_))
        go_ret
        exact ⟨A1, c1, by rw [HQ.out, hfin]; rfl, by rw [HQ.out, hfin]; exact hc1, by rw [HQ.out, hfin]; exact hC1, HB.drew.trans (hbel hb1)⟩
      · obtain ⟨s, rfl⟩ : ∃ s : Nat, s0 = (s : Int) := ⟨s0.toNat, by omega⟩
        have hsl : s ≤ xs.length := by omega
        by_cases he : xs.length = s
        · have hfin := ringFin_nat xs s
          subst he
          obtain ⟨A1, c1, w1, hrun, hc1, hC1, hb1⟩ := run_full (P := Try.prog) k101 (W := wr.drew) (A := Ao) (t := 83) (ty := 83) (c := 0) (c' := co) Try.underlying83 info101 rfl (by decide) (by omega) (Kd.C_drew (ringNil HCo.out)) (Kd.C_drew HCo.out) (Nat.le_refl _) (by omega) (by omega) (fun _ => rfl)
          simp only [Nat.zero_add, List.nil_append] at hrun hC1 hc1
          have hf2 : xs.drop xs.length ++ xs.take xs.length = xs := by simp
          rw [hf2] at hfin
          have hco2 : xs.length ≤ co := hco
          go_wp2
          go_still_tail 10, (by kernel_rfl)
          change wpList _ _ _ _ _ wr.drew
          go_wp2_with (first | (at_builtin; refine app_list (s := .tmp 90) (x := .tmp 93) rfl rfl rfl rfl hrun ?_))
          go_ret
          exact ⟨A1, c1, by rw [HQ.out, hfin]; rfl, by rw [HQ.out, hfin]; exact hc1, by rw [HQ.out, hfin]; exact hC1, HB.drew.trans (hbel hb1)⟩
        · have he1 : ¬ (xs.length = s) := he
          have he2 : ¬ (xs.length - s = 0) := by omega
          have he3 : s < xs.length := by omega
          have he4 : s ≤ co := by omega
          have hfin := ringFin_nat xs s
          have hdl : (xs.drop s).length = xs.length - s := List.length_drop
          have htl : (xs.take s).length = s := by rw [List.length_take]; omega
          have hA := Kd.C_drop (c := xs.length) HCo.out hsl (Nat.le_refl _)
          rw [if_neg he1, hdl] at hA
          have hB := Kd.C_take HCo.out hsl
          rw [htl] at hB
          have hlim4 : (xs.length - s + s) * 24 ≤ 140737488355328 := by omega
          obtain ⟨g, hg⟩ : ∃ g, Ao = some g := by obtain ⟨g, hg, _⟩ := HCo.out.2.2 (by omega); exact ⟨g, hg⟩
          subst hg
          obtain ⟨A1, c1, w1, hrun, hc1, hC1, hb1⟩ := run_full (P := Try.prog) k101 (W := wr.drew) (t := 83) (ty := 83) (c := xs.length - s) (c' := co) Try.underlying83 info101 rfl (by decide) (by omega) (Kd.C_drew hA) (Kd.C_drew hB) (Nat.le_refl _) (by omega) hlim4 (fun h => by cases h)
          have hsum : xs.length - s + s = xs.length := by omega
          have hsum2 : (xs.drop s ++ xs.take s).length = xs.length := by rw [List.length_append, hdl, htl]; omega
          have HR := Lib.hid hrun
          have HS := Lib.hid hsum
          have HS2 := Lib.hid hsum2
          have HF := Lib.hid hfin
          have HC1 := aM hC1
          clear hrun hsum hsum2 hdl htl hA hB hC1 hfin
          go_wp2
          go_still_tail 10, (by kernel_rfl)
          change wpList _ _ _ _ _ wr.drew
          go_wp2_with (first | (at_builtin; refine app_list (s := .tmp 90) (x := .tmp 93) rfl rfl rfl rfl HR.out ?_))
          go_ret
          exact ⟨A1, c1, by rw [HQ.out, HF.out, HS2.out, ← HS.out]; rfl, by rw [HQ.out, HF.out, HS2.out, ← HS.out]; exact hc1, by rw [HQ.out, HF.out, HS2.out, ← HS.out]; exact HC1.out, HB.drew.trans (hbel hb1)⟩
end Go.Proofs.Ytbmklpcheopgoaa.H

namespace Go.Proofs.Ytbmklpcheopgoaa.H
open Go.RowKit Go.Proofs.YtbmklpcheopgoaaW.PrintWords Go.Proofs.YtbmklpcheopgoaaW.PrintLast Go.Proofs.YtbmklpcheopgoaaW.PrintMore
attribute [local go_sem] max2_int min2_int max_two min_two max_three min_three max_four min_four
set_option linter.unusedVariables false
set_option linter.unusedSimpArgs false
open Go.Proofs.YtbmklpcheopgoaaOps Go.Proofs.YtbmklpcheopgoaaIt Go.Proofs.YtbmklpcheopgoaaBlks Go.Proofs.YtbmklpcheopgoaaFlat Go.Proofs.YtbmklpcheopgoaaCallOps Go.Shelf
attribute [local go_sem] Oper.semAt_some wide_depth wide_fn World.cell?_alloc_some
theorem lines_info : (Try.prog.info? 42).map (fun i => (i.zero, i.size, i.bytes)) = some (some (.slice none 0 0), Kd.sz (Kd.slice 52 k52), 24) := by kernel_rfl
theorem lines_cuts_len (es : List Int) (n : Int) : ∀ b, (cutsF b es n).length ≤ es.length := by
 induction es with
 | nil => intro b; simp [cutsF]
 | cons e es ih =>
  intro b
  unfold cutsF
  split
  ·
   simp
  ·
   simp [ih (e + 1)]
theorem ringStep_ge (pts : List S52) (on : List Bool) (st : List S101 × Int) (i : Nat) : st.1.length + 1 ≤ (ringStep pts on st i).1.length := by
 unfold ringStep
 dsimp only
 split <;> simp
theorem ringSt_ge (pts : List S52) (on : List Bool) (k : Nat) : k ≤ (ringSt pts on k).1.length := by
 induction k with
 | zero => omega
 | succ k ih => rw [ringSt_succ]; have := ringStep_ge pts on (ringSt pts on k) k; omega
theorem ringFin_len (pts : List S52) (on : List Bool) (k : Nat) : (ringFin (ringSt pts on k)).length = (ringSt pts on k).1.length := by
 have := ringSt_at pts on k
 unfold ringFin
 rw [List.length_append, List.length_drop, List.length_take]
 omega
def contourLines (pts : List S52) (on : List Bool) (s t : Nat) : List S52 := rowL (ringFin (ringSt ((pts.drop s).take (t - s)) ((on.drop s).take (t - s)) (t - s)))
def linesK (pts : List S52) (on : List Bool) (es : List Int) (k : Nat) : List (List S52) := ((cutsL es pts.length).take k).map fun c => contourLines pts on c.1.toNat c.2.toNat
theorem linesK_len (pts : List S52) (on : List Bool) (es : List Int) (k : Nat) (h : k ≤ (cutsL es pts.length).length) : (linesK pts on es k).length = k := by simp [linesK, h]
structure LinesReg6 where
 mk ::
 b0 : Bool
 b1 : Bool
 b2 : Bool
 b3 : Bool
 b4 : Bool
 b5 : Bool
 b6 : Bool
 b7 : Bool
 b8 : Bool
 b9 : Bool
 b10 : Bool
 b11 : Bool
 b12 : Bool
 b13 : Bool
 b14 : Bool
 b15 : Bool
 b16 : Bool
 b17 : Bool
 b18 : Bool
 b19 : Bool
 b20 : Bool
 b21 : Bool
 VR : Value
 VQ : Value
 gH : Nat
 V1 : Value
set_option maxRecDepth 100000 in
set_option maxHeartbeats 4000000 in
theorem lines_calls (A0 A1 A2 : Option Addr) (c0 c1 c2 : Nat) (pts : List S52) (on : List Bool) (es : List Int) (w : World) (hp : Kd.C k52 w A0 pts.length pts) (hc0 : pts.length ≤ c0) (ho : Kd.C Kd.bool w A1 on.length on) (hc1 : on.length ≤ c1) (hes : (Kd.int .i64).C w A2 es.length es) (hc2 : es.length ≤ c2) (hlim : pts.length ≤ 1000000) (hlime : es.length ≤ 1000000) (hon : on.length = pts.length) :
  Calls Try.prog 32 #[.slice A0 pts.length c0, .slice A1 on.length c1, .slice A2 es.length c2] w fun e w' => ∃ v0 : Value, e = .returned v0 ∧ Kd.S (Kd.slice 52 k52) 42 w' w.heap.size (fun _ => True) v0 (linesK pts on es (cutsL es pts.length).length) ∧ Below w.heap.size w w' := by
 have hne : (((on.length : Nat) : Int) != ((pts.length : Nat) : Int)) = false := by simp [hon]
 refine (callsIn_wide (n := 0)).1 (callsIn_of_wp_marks Try.func32 rfl trivial ?_ rfl)
 simp only [Try.ntmps32, List.size_toArray, List.length_cons, List.length_nil, Nat.reduceAdd, Nat.reduceSub, Array.replicate_succ, Array.replicate_zero, List.push_toArray, List.append_toArray, List.nil_append, List.cons_append]
 have HON := Lib.hid hon
 clear hon
 gi_wp2
 refine CallsIn.mono (cuts_calls 0 _ _ _ _ _) ?_
 rintro e w' ⟨rfl, rfl⟩
 gi_wp2
 generalize hV : World.alloc (World.alloc (World.alloc (World.alloc (World.alloc w _) _) _) _) _ = V
 have hVs : V.heap.size = w.heap.size + 1 + 1 + 1 + 1 + 1 := by rw [← hV]; simp
 have hbw : Below w.heap.size w V := by rw [← hV]; exact (((((Below.refl _ w).alloc (Nat.le_refl _) _).alloc (by simp) _).alloc (by simp; omega) _).alloc (by simp; omega) _).alloc (by simp; omega) _
 have hB : Blks [(w.heap.size + 1 + 1 + 1 + 1, .cells #[.int .i64 pts.length] 3 (0, 0)), (w.heap.size + 1 + 1 + 1, .cells #[.slice A2 es.length c2] 23 (0, 0)), (w.heap.size + 1 + 1, .cells #[.slice none 0 0] 45 (0, 0)), (w.heap.size + 1, .cells #[.slice A1 on.length c1] 43 (0, 0)), (w.heap.size, .cells #[.slice A0 pts.length c0] 42 (0, 0))] V := by
  rw [← hV]; exact (((((Blks.nil w).alloc _).alloc_at _ (by simp)).alloc_at _ (by simp)).alloc_at _ (by simp)).alloc_at _ (by simp)
 clear hV
 have hit := cuts_it V A2 c2 es pts.length (by omega) (w.heap.size + 1 + 1 + 1) (w.heap.size + 1 + 1 + 1 + 1) (hB.cell 1 rfl 0) (hB.cell 0 rfl 0) (Kd.C_below hes hbw)
 refine range_outer hit (by rfl) (fun args w => by simp [go_sem])
  (fun k own V' => own (w.heap.size + 1 + 1) ∧ (∀ b, own b → b = w.heap.size + 1 + 1 ∨ V.heap.size ≤ b) ∧ (∃ v, Blks [(w.heap.size + 1 + 1, .cells #[v] 45 (0, 0)), (w.heap.size + 1, .cells #[.slice A1 on.length c1] 43 (0, 0)), (w.heap.size, .cells #[.slice A0 pts.length c0] 42 (0, 0))] V' ∧
    Kd.S (Kd.slice 52 k52) 42 V' w.heap.size (fun b => own b ∧ b ≠ w.heap.size + 1 + 1) v (linesK pts on es k)) ∧ Below w.heap.size w V' ∧ V.heap.size ≤ V'.heap.size)
  (fun c k own V' => False)
  (fun b => b = w.heap.size + 1 + 1) ?_ ?_ ?_ ?_ ?_
  (fun k own a' V' => ∃ (c : Int × Int) (X : Nat), (cutsL es pts.length)[k]? = some c ∧ a' = ⟨#[.slice A0 pts.length c0, .slice A1 on.length c1, .slice A2 es.length c2, .pointer (some ⟨w.heap.size, 0, none⟩), .pointer (some ⟨w.heap.size + 1, 0, none⟩), undef, .slice none 0 0, .pointer (some ⟨w.heap.size + 1 + 1, 0, none⟩), undef, .pointer (some ⟨X, 0, none⟩), .slice A1 on.length c1, .int .i64 on.length, .slice A0 pts.length c0, .int .i64 pts.length, .bool false, .slice A2 es.length c2, .slice A0 pts.length c0, .int .i64 pts.length, .func (.func 55) #[] #[.pointer (some ⟨w.heap.size + 1 + 1 + 1, 0, none⟩), .pointer (some ⟨w.heap.size + 1 + 1 + 1 + 1, 0, none⟩)], .int .i64 k, .agg #[.int .i64 c.1, .int .i64 c.2], undef, undef, undef, undef, undef, undef, undef, undef, undef, undef, undef, undef, undef, undef, undef, undef, undef, undef, undef, undef, undef, undef], []⟩ ∧ V.heap.size ≤ X ∧ Blks [(X, .cells #[.int .i64 c.1, .int .i64 c.2] 64 (0, 0))] V') ?_ ?_ ?_ ?_ ?_
 ·
  rintro k own Va Vb ⟨h1, h2, ⟨v, h3, h4⟩, h5, h6⟩ hc
  refine ⟨h1, h2, ⟨v, h3.chg hc ?_, S_chg h4 hc (fun k hk hs => hs.2 hk.1)⟩, h5.trans (hc.below (Nat.le_trans (by omega) h5.size) (fun i hi h => by omega)), Nat.le_trans h6 hc.size⟩
  intro b hb hs
  simp at hb
  omega
 ·
  rintro c k own V1 V2 h hc
  exact h
 ·
  rintro k W args ⟨c, _, rfl⟩
  rfl
 ·
  rintro b rfl
  refine ⟨by omega, fun hr => ?_⟩
  rcases hr with ⟨h0, ad, rfl, hr⟩ | hr | hr
  ·
   obtain ⟨ad', e, hx⟩ := Kd.at_int hes 0 (by omega) (by omega)
   cases e
   have := World.block_lt_of_cell? w _ hx
   rw [add_block] at this
   omega
  ·
   omega
  ·
   omega
 ·
  exact ⟨rfl, fun b hb => .inl hb, ⟨_, (hB.tail).tail, Kd.S_nil _ _ _ _ _⟩, hbw, Nat.le_refl _⟩
 ·
  rintro lc k own a' Va o o' hlc ⟨c, X, q1, q2, q3, q4⟩ ho hcells
  exact ⟨c, X, q1, q2, q3, q4.put_ (by simp [Obj.isCells]) ho hcells⟩
 ·
  rintro lc n k own args Va hlc ⟨h1, h2, ⟨v, h3, h4⟩, h5, h6⟩ how hlt hno hk ⟨c, hkc, rfl⟩ _
  generalize hQ : Exit.then _ _ = Q0
  gi_wp2
  subst hQ
  show ∃ own', _
  exact ⟨own, GrowG.refl _ _ _, fun b hb => Nat.lt_of_lt_of_le (how b hb) (by simp), (Chg.refl _ _).alloc _, ⟨h1, h2, ⟨v, (h3.alloc _).tail, S_chg h4 ((Chg.refl (fun _ => False) _).alloc _) (fun _ _ => id)⟩, h5.alloc h5.size _, by simp; omega⟩, c, Va.heap.size, hkc, rfl, h6, (Blks.nil _).alloc _⟩
 ·
  rintro lc n k own a' Va hlc ⟨h1, h2, ⟨v, h3, h4⟩, h5, h6⟩ how ⟨rl, hrl⟩ hno hk ⟨c, X, hkc, rfl, hX, hBX⟩
  obtain ⟨m1, m2, m3⟩ := cutsF_mem es pts.length 0 k c hkc
  have hnext : linesK pts on es (k + 1) = linesK pts on es k ++ [contourLines pts on c.1.toNat c.2.toNat] := by simp [linesK, List.take_add_one, hkc]
  obtain ⟨s, hs⟩ : ∃ s : Nat, c.1 = s := ⟨c.1.toNat, by omega⟩
  obtain ⟨t, ht⟩ : ∃ t : Nat, c.2 = t := ⟨c.2.toNat, by omega⟩
  have hlk := linesK_len pts on es k (by omega)
  obtain ⟨Av, cv, rfl⟩ := Kd.S_slice h4
  rw [hlk] at h3 h4
  rw [hs, ht] at hBX hnext m2
  rw [ht] at m3
  rw [hs, ht]
  simp only [Int.toNat_natCast] at hnext
  have hst : s < t := by omega
  have htn : t ≤ pts.length := by omega
  have hton : t ≤ on.length := by rw [HON.out]; exact htn
  clear hs ht m1 m2 m3 hkc
  obtain ⟨ad0, rfl⟩ : ∃ ad, A0 = some ad := by obtain ⟨ad, h, _⟩ := hp.2.2 (by omega); exact ⟨ad, h⟩
  obtain ⟨ad1, rfl⟩ : ∃ ad, A1 = some ad := by obtain ⟨ad, h, _⟩ := ho.2.2 (by omega); exact ⟨ad, h⟩
  obtain ⟨ps, hps0⟩ : ∃ ps, (pts.drop s).take (t - s) = ps := ⟨_, rfl⟩
  obtain ⟨os, hos0⟩ : ∃ os, (on.drop s).take (t - s) = os := ⟨_, rfl⟩
  have hpl : ps.length = t - s := by rw [← hps0, List.length_take, List.length_drop]; omega
  have hol : os.length = t - s := by rw [← hos0, List.length_take, List.length_drop]; omega
  have hps : Kd.C k52 w (some (ad0.add (s * 2))) (t - s) ps := by
   have hA := Kd.C_drop (c := c0) hp (show s ≤ pts.length by omega) hc0
   rw [if_neg (by omega)] at hA
   have := Kd.C_take hA (show t - s ≤ (pts.drop s).length by rw [List.length_drop]; omega)
   rw [hps0, hpl] at this
   exact this
  have hos : Kd.C Kd.bool w (some (ad1.add s)) (t - s) os := by
   have hA := Kd.C_drop (c := c1) ho (show s ≤ on.length by omega) hc1
   rw [if_neg (by omega)] at hA
   have := Kd.C_take hA (show t - s ≤ (on.drop s).length by rw [List.length_drop]; omega)
   rw [hos0, hol] at this
   have e1 : s * Kd.bool.sz = s := Nat.mul_one s
   rw [e1] at this
   exact this
  obtain ⟨rg, hrg⟩ : ∃ rg, ringFin (ringSt ps os (t - s)) = rg := ⟨_, rfl⟩
  have hrgl : rg.length = (ringSt ps os (t - s)).1.length := by rw [← hrg]; exact ringFin_len _ _ _
  have hrg1 := ringSt_ge ps os (t - s)
  have hrg2 := ringSt_len ps os (t - s)
  have hrpos : 0 < rg.length := by omega
  have hrlim : rg.length ≤ 3000000 := by omega
  obtain ⟨rw_, hrw⟩ : ∃ r, rowL rg = r := ⟨_, rfl⟩
  have hcl : contourLines pts on s t = rw_ := by unfold contourLines; rw [hps0, hos0, hrg, hrw]
  rw [hcl] at hnext
  obtain ⟨rows, hrows⟩ : ∃ rows, linesK pts on es k = rows := ⟨_, rfl⟩
  rw [hrows] at h4 hlk hnext
  have hklen : rows.length ≤ 1000000 := by have := lines_cuts_len es pts.length 0; unfold cutsL at hk; omega
  have hrowsown : ∀ b, (Value.slice Av k cv).ownBlock = some b → own b ∧ b ≠ w.heap.size + 1 + 1 := fun b e => by
   obtain ⟨_, hr⟩ := h4
   exact hr.1 b e
  have hus := Try.underlying42
  have hub := Try.underlying43
  have hu64 := Try.underlying64
  have hse : s ≤ t := by omega
  have hec : t ≤ c0 := by omega
  have hec1 : t ≤ c1 := by omega
  have hsc : ¬ (t = s) := by omega
  have hsc2 : ¬ (t - s = 0) := by omega
  have hB4 : Blks [(X, .cells #[.int .i64 s, .int .i64 t] 64 (0, 0)), (w.heap.size + 1 + 1, .cells #[.slice Av k cv] 45 (0, 0)), (w.heap.size + 1, .cells #[.slice (some ad1) on.length c1] 43 (0, 0)), (w.heap.size, .cells #[.slice (some ad0) pts.length c0] 42 (0, 0))] Va := h3.add (hBX.blk 0 rfl) (by simp; omega)
  have hapart : ∀ b, b ∈ ([X, w.heap.size + 1 + 1, w.heap.size + 1, w.heap.size] : List Nat) → (Value.slice Av k cv).ownBlock = some b → False := by
   intro b hb e
   obtain ⟨q1, q2⟩ := hrowsown b e
   rcases h2 b q1 with h | h
   ·
    exact q2 h
   ·
    have hbX : b = X := by simp at hb; omega
    subst hbX
    obtain ⟨cs, h8⟩ := Kd.S_typed h4 b e
    rw [hBX.blk 0 rfl] at h8
    injection h8 with h8
    injection h8 with _ h8
    cases h8
  have HH := Lib.hid (And.intro hnext hrows)
  clear hnext hrows hps0 hos0 hcl hrgl hrg1 h3 hBX
  have HB := hB4
  have HS := h4
  clear hB4 h4 hlk
  gi_wp2
  refine Go.Proofs.YtbmklpcheopgoaaReg.regIn_inv (by rfl) [0, 1, 2, 3, 4, 5, 6, 7, 8, 9, 10, 11, 12, 13, 14, 15, 16, 17, 18, 19, 20, 21] (by kernel_rfl) (by kernel_rfl)
   (fun lst a W' => ∃ d : LinesReg6, lst = #[d.b0, d.b1, d.b2, d.b3, d.b4, d.b5, d.b6, d.b7, d.b8, d.b9, d.b10, d.b11, d.b12, d.b13, d.b14, d.b15, d.b16, d.b17, d.b18, d.b19, d.b20, d.b21] ∧ a = ⟨#[.slice (some ad0) pts.length c0, .slice (some ad1) on.length c1, .slice A2 es.length c2, .pointer (some ⟨w.heap.size, 0, none⟩), .pointer (some ⟨w.heap.size + 1, 0, none⟩), undef, .slice none 0 0, .pointer (some ⟨w.heap.size + 1 + 1, 0, none⟩), undef, .pointer (some ⟨X, 0, none⟩), .slice (some ad1) on.length c1, .int .i64 on.length, .slice (some ad0) pts.length c0, .int .i64 pts.length, .bool false, .slice A2 es.length c2, .slice (some ad0) pts.length c0, .int .i64 pts.length, .func (.func 55) #[] #[.pointer (some ⟨w.heap.size + 1 + 1 + 1, 0, none⟩), .pointer (some ⟨w.heap.size + 1 + 1 + 1 + 1, 0, none⟩)], .int .i64 k, .agg #[.int .i64 s, .int .i64 t], (cond d.b0 (.slice Av k cv) undef), (cond d.b1 (.slice (some ad0) pts.length c0) undef), (cond d.b2 (.pointer (some ⟨X, 0, none⟩)) undef), (cond d.b3 (.int .i64 s) undef), (cond d.b4 (.pointer (some ⟨X, 1, none⟩)) undef), (cond d.b5 (.int .i64 t) undef), (cond d.b6 (.pointer (some ⟨X, 1, none⟩)) undef), (cond d.b7 (.int .i64 t) undef), (cond d.b8 (.slice (some (ad0.add (s * 2))) (t - s) (t - s)) undef), (cond d.b9 (.slice (some ad1) on.length c1) undef), (cond d.b10 (.pointer (some ⟨X, 0, none⟩)) undef), (cond d.b11 (.int .i64 s) undef), (cond d.b12 (.pointer (some ⟨X, 1, none⟩)) undef), (cond d.b13 (.int .i64 t) undef), (cond d.b14 (.pointer (some ⟨X, 1, none⟩)) undef), (cond d.b15 (.int .i64 t) undef), (cond d.b16 (.slice (some (ad1.add s)) (t - s) (t - s)) undef), (cond d.b17 d.VR undef), (cond d.b18 d.VQ undef), (cond d.b19 (.slice (some ⟨d.gH, 0, none⟩) 1 1) undef), (cond d.b20 d.V1 undef), undef], []⟩ ∧ (d.b18 = true → d.b17 = true) ∧ (d.b19 = true → d.b18 = true) ∧ (d.b20 = true → d.b17 = true) ∧ (d.b20 = true → d.b18 = true) ∧ (d.b20 = true → d.b19 = true) ∧ (d.b21 = true → d.b0 = true) ∧ (d.b21 = true → d.b20 = true) ∧ (Blks [(X, .cells #[.int .i64 s, .int .i64 t] 64 (0, 0)), (w.heap.size + 1 + 1, .cells #[cond d.b21 d.V1 (.slice Av k cv)] 45 (0, 0)), (w.heap.size + 1, .cells #[.slice (some ad1) on.length c1] 43 (0, 0)), (w.heap.size, .cells #[.slice (some ad0) pts.length c0] 42 (0, 0))] W') ∧ (d.b20 = false → Kd.S (Kd.slice 52 k52) 42 W' w.heap.size (fun b => own b ∧ b ≠ w.heap.size + 1 + 1) (.slice Av k cv) rows) ∧ (d.b20 = true → Kd.S (Kd.slice 52 k52) 42 W' w.heap.size (fun b => (own b ∧ b ≠ w.heap.size + 1 + 1) ∨ Va.heap.size ≤ b) d.V1 (rows ++ [rw_])) ∧ (d.b17 = true → d.b20 = false → ∃ A c, d.VR = .slice A rg.length c ∧ rg.length ≤ c ∧ Kd.C k101 W' A rg.length rg) ∧ (d.b18 = true → d.b20 = false → Kd.R k52 52 W' Va.heap.size (Own1 d.VQ) d.VQ rw_) ∧ (d.b19 = true → d.b20 = false → W'.heap[d.gH]? = some (.cells #[d.VQ] 42 (0, 0))) ∧ (Chg own Va W') ∧ (d.b20 = true → ∃ n : Option Addr × Nat × Nat, d.V1 = .slice n.1 n.2.1 n.2.2)) ?_ ?_ ?_ ?_
  ·
   rintro lst a W' ⟨d, rfl, _⟩
   rfl
  ·
   exact ⟨⟨false, false, false, false, false, false, false, false, false, false, false, false, false, false, false, false, false, false, false, false, false, false, undef, undef, 0, undef⟩, rfl, rfl, (fun h => Bool.noConfusion h), (fun h => Bool.noConfusion h), (fun h => Bool.noConfusion h), (fun h => Bool.noConfusion h), (fun h => Bool.noConfusion h), (fun h => Bool.noConfusion h), (fun h => Bool.noConfusion h), HB.drew, (fun _ => S_chg HS ((Chg.refl (fun _ => False) _).drew) (fun _ _ => id)), (fun h => Bool.noConfusion h), (fun h => Bool.noConfusion h), (fun h => Bool.noConfusion h), (fun h => Bool.noConfusion h), ((Chg.refl own Va).drew), (fun h => Bool.noConfusion h)⟩
  ·
   rintro lst a W' i o ⟨⟨b0, b1, b2, b3, b4, b5, b6, b7, b8, b9, b10, b11, b12, b13, b14, b15, b16, b17, b18, b19, b20, b21, VR, VQ, gH, V1⟩, rfl, rfl, k0, k1, k2, k3, k4, k5, k6, hHB, hHS0, hHS1, hHR, hHQ, hHX, hHC, hHN⟩ ho hf hd K hK
   dsimp only at k0 k1 k2 k3 k4 k5 k6 hHB hHS0 hHS1 hHR hHQ hHX hHC hHN
   have hi : i < 22 := (Array.getElem?_eq_some_iff.1 ho).1
   have ho2 := ho
   rcases (show i = 0 ∨ i = 1 ∨ i = 2 ∨ i = 3 ∨ i = 4 ∨ i = 5 ∨ i = 6 ∨ i = 7 ∨ i = 8 ∨ i = 9 ∨ i = 10 ∨ i = 11 ∨ i = 12 ∨ i = 13 ∨ i = 14 ∨ i = 15 ∨ i = 16 ∨ i = 17 ∨ i = 18 ∨ i = 19 ∨ i = 20 ∨ i = 21 by omega) with rfl | rfl | rfl | rfl | rfl | rfl | rfl | rfl | rfl | rfl | rfl | rfl | rfl | rfl | rfl | rfl | rfl | rfl | rfl | rfl | rfl | rfl
   ·
    simp only [List.getElem?_toArray, List.getElem?_cons_succ, List.getElem?_cons_zero, Option.some.injEq] at ho
    subst ho
    replace hf : b0 = false := hf
    have n21 : b21 = false := Bool.eq_false_iff.mpr (fun h => absurd (k5 h) (by rw [hf]; decide))
    subst n21
    subst hf
    refine Go.Proofs.YtbmklpcheopgoaaReg.opIn_val ho2 rfl (fun _ => trivial) (fun c h => by cases h) (v := .slice Av k cv) (w1 := W') ?_ (hK _ _ ⟨⟨true, b1, b2, b3, b4, b5, b6, b7, b8, b9, b10, b11, b12, b13, b14, b15, b16, b17, b18, b19, b20, false, VR, VQ, gH, V1⟩, rfl, rfl, (k0), (k1), (k2), (k3), (k4), (fun _ => rfl), (fun h => Bool.noConfusion h), hHB, hHS0, hHS1, hHR, hHQ, hHX, hHC, hHN⟩)
    simp [go_sem, Blks.cell hHB 1 rfl 0]
   ·
    simp only [List.getElem?_toArray, List.getElem?_cons_succ, List.getElem?_cons_zero, Option.some.injEq] at ho
    subst ho
    replace hf : b1 = false := hf
    subst hf
    refine Go.Proofs.YtbmklpcheopgoaaReg.opIn_val ho2 rfl (fun _ => trivial) (fun c h => by cases h) (v := .slice (some ad0) pts.length c0) (w1 := W') ?_ (hK _ _ ⟨⟨b0, true, b2, b3, b4, b5, b6, b7, b8, b9, b10, b11, b12, b13, b14, b15, b16, b17, b18, b19, b20, b21, VR, VQ, gH, V1⟩, rfl, rfl, (k0), (k1), (k2), (k3), (k4), (k5), (k6), hHB, hHS0, hHS1, hHR, hHQ, hHX, hHC, hHN⟩)
    simp [go_sem, Blks.cell hHB 3 rfl 0]
   ·
    simp only [List.getElem?_toArray, List.getElem?_cons_succ, List.getElem?_cons_zero, Option.some.injEq] at ho
    subst ho
    replace hf : b2 = false := hf
    subst hf
    refine Go.Proofs.YtbmklpcheopgoaaReg.opIn_val ho2 rfl (fun _ => trivial) (fun c h => by cases h) (v := .pointer (some ⟨X, 0, none⟩)) (w1 := W') ?_ (hK _ _ ⟨⟨b0, b1, true, b3, b4, b5, b6, b7, b8, b9, b10, b11, b12, b13, b14, b15, b16, b17, b18, b19, b20, b21, VR, VQ, gH, V1⟩, rfl, rfl, (k0), (k1), (k2), (k3), (k4), (k5), (k6), hHB, hHS0, hHS1, hHR, hHQ, hHX, hHC, hHN⟩)
    simp [go_sem, hu64]
   ·
    simp only [List.getElem?_toArray, List.getElem?_cons_succ, List.getElem?_cons_zero, Option.some.injEq] at ho
    subst ho
    replace hf : b3 = false := hf
    have d2 : b2 = true := hd ⟨2, .data⟩ (by simp) rfl
    subst d2
    subst hf
    refine Go.Proofs.YtbmklpcheopgoaaReg.opIn_val ho2 rfl (fun _ => trivial) (fun c h => by cases h) (v := .int .i64 s) (w1 := W') ?_ (hK _ _ ⟨⟨b0, b1, true, true, b4, b5, b6, b7, b8, b9, b10, b11, b12, b13, b14, b15, b16, b17, b18, b19, b20, b21, VR, VQ, gH, V1⟩, rfl, rfl, (k0), (k1), (k2), (k3), (k4), (k5), (k6), hHB, hHS0, hHS1, hHR, hHQ, hHX, hHC, hHN⟩)
    simp [go_sem, Blks.cell hHB 0 rfl 0]
   ·
    simp only [List.getElem?_toArray, List.getElem?_cons_succ, List.getElem?_cons_zero, Option.some.injEq] at ho
    subst ho
    replace hf : b4 = false := hf
    subst hf
    refine Go.Proofs.YtbmklpcheopgoaaReg.opIn_val ho2 rfl (fun _ => trivial) (fun c h => by cases h) (v := .pointer (some ⟨X, 1, none⟩)) (w1 := W') ?_ (hK _ _ ⟨⟨b0, b1, b2, b3, true, b5, b6, b7, b8, b9, b10, b11, b12, b13, b14, b15, b16, b17, b18, b19, b20, b21, VR, VQ, gH, V1⟩, rfl, rfl, (k0), (k1), (k2), (k3), (k4), (k5), (k6), hHB, hHS0, hHS1, hHR, hHQ, hHX, hHC, hHN⟩)
    simp [go_sem, hu64]
   ·
    simp only [List.getElem?_toArray, List.getElem?_cons_succ, List.getElem?_cons_zero, Option.some.injEq] at ho
    subst ho
    replace hf : b5 = false := hf
    have d4 : b4 = true := hd ⟨4, .data⟩ (by simp) rfl
    subst d4
    subst hf
    refine Go.Proofs.YtbmklpcheopgoaaReg.opIn_val ho2 rfl (fun _ => trivial) (fun c h => by cases h) (v := .int .i64 t) (w1 := W') ?_ (hK _ _ ⟨⟨b0, b1, b2, b3, true, true, b6, b7, b8, b9, b10, b11, b12, b13, b14, b15, b16, b17, b18, b19, b20, b21, VR, VQ, gH, V1⟩, rfl, rfl, (k0), (k1), (k2), (k3), (k4), (k5), (k6), hHB, hHS0, hHS1, hHR, hHQ, hHX, hHC, hHN⟩)
    simp [go_sem, Blks.cell hHB 0 rfl 1]
   ·
    simp only [List.getElem?_toArray, List.getElem?_cons_succ, List.getElem?_cons_zero, Option.some.injEq] at ho
    subst ho
    replace hf : b6 = false := hf
    subst hf
    refine Go.Proofs.YtbmklpcheopgoaaReg.opIn_val ho2 rfl (fun _ => trivial) (fun c h => by cases h) (v := .pointer (some ⟨X, 1, none⟩)) (w1 := W') ?_ (hK _ _ ⟨⟨b0, b1, b2, b3, b4, b5, true, b7, b8, b9, b10, b11, b12, b13, b14, b15, b16, b17, b18, b19, b20, b21, VR, VQ, gH, V1⟩, rfl, rfl, (k0), (k1), (k2), (k3), (k4), (k5), (k6), hHB, hHS0, hHS1, hHR, hHQ, hHX, hHC, hHN⟩)
    simp [go_sem, hu64]
   ·
    simp only [List.getElem?_toArray, List.getElem?_cons_succ, List.getElem?_cons_zero, Option.some.injEq] at ho
    subst ho
    replace hf : b7 = false := hf
    have d6 : b6 = true := hd ⟨6, .data⟩ (by simp) rfl
    subst d6
    subst hf
    refine Go.Proofs.YtbmklpcheopgoaaReg.opIn_val ho2 rfl (fun _ => trivial) (fun c h => by cases h) (v := .int .i64 t) (w1 := W') ?_ (hK _ _ ⟨⟨b0, b1, b2, b3, b4, b5, true, true, b8, b9, b10, b11, b12, b13, b14, b15, b16, b17, b18, b19, b20, b21, VR, VQ, gH, V1⟩, rfl, rfl, (k0), (k1), (k2), (k3), (k4), (k5), (k6), hHB, hHS0, hHS1, hHR, hHQ, hHX, hHC, hHN⟩)
    simp [go_sem, Blks.cell hHB 0 rfl 1]
   ·
    simp only [List.getElem?_toArray, List.getElem?_cons_succ, List.getElem?_cons_zero, Option.some.injEq] at ho
    subst ho
    replace hf : b8 = false := hf
    have d1 : b1 = true := hd ⟨1, .data⟩ (by simp) rfl
    have d3 : b3 = true := hd ⟨3, .data⟩ (by simp) rfl
    have d5 : b5 = true := hd ⟨5, .data⟩ (by simp) rfl
    have d7 : b7 = true := hd ⟨7, .data⟩ (by simp) rfl
    subst d1
    subst d3
    subst d5
    subst d7
    subst hf
    refine Go.Proofs.YtbmklpcheopgoaaReg.opIn_val ho2 rfl (fun _ => trivial) (fun c h => by cases h) (v := .slice (some (ad0.add (s * 2))) (t - s) (t - s)) (w1 := W') ?_ (hK _ _ ⟨⟨b0, true, b2, true, b4, true, b6, true, true, b9, b10, b11, b12, b13, b14, b15, b16, b17, b18, b19, b20, b21, VR, VQ, gH, V1⟩, rfl, rfl, (k0), (k1), (k2), (k3), (k4), (k5), (k6), hHB, hHS0, hHS1, hHR, hHQ, hHX, hHC, hHN⟩)
    simp [go_sem, hus, hse, hec, hsc, hsc2]
   ·
    simp only [List.getElem?_toArray, List.getElem?_cons_succ, List.getElem?_cons_zero, Option.some.injEq] at ho
    subst ho
    replace hf : b9 = false := hf
    subst hf
    refine Go.Proofs.YtbmklpcheopgoaaReg.opIn_val ho2 rfl (fun _ => trivial) (fun c h => by cases h) (v := .slice (some ad1) on.length c1) (w1 := W') ?_ (hK _ _ ⟨⟨b0, b1, b2, b3, b4, b5, b6, b7, b8, true, b10, b11, b12, b13, b14, b15, b16, b17, b18, b19, b20, b21, VR, VQ, gH, V1⟩, rfl, rfl, (k0), (k1), (k2), (k3), (k4), (k5), (k6), hHB, hHS0, hHS1, hHR, hHQ, hHX, hHC, hHN⟩)
    simp [go_sem, Blks.cell hHB 2 rfl 0]
   ·
    simp only [List.getElem?_toArray, List.getElem?_cons_succ, List.getElem?_cons_zero, Option.some.injEq] at ho
    subst ho
    replace hf : b10 = false := hf
    subst hf
    refine Go.Proofs.YtbmklpcheopgoaaReg.opIn_val ho2 rfl (fun _ => trivial) (fun c h => by cases h) (v := .pointer (some ⟨X, 0, none⟩)) (w1 := W') ?_ (hK _ _ ⟨⟨b0, b1, b2, b3, b4, b5, b6, b7, b8, b9, true, b11, b12, b13, b14, b15, b16, b17, b18, b19, b20, b21, VR, VQ, gH, V1⟩, rfl, rfl, (k0), (k1), (k2), (k3), (k4), (k5), (k6), hHB, hHS0, hHS1, hHR, hHQ, hHX, hHC, hHN⟩)
    simp [go_sem, hu64]
   ·
    simp only [List.getElem?_toArray, List.getElem?_cons_succ, List.getElem?_cons_zero, Option.some.injEq] at ho
    subst ho
    replace hf : b11 = false := hf
    have d10 : b10 = true := hd ⟨10, .data⟩ (by simp) rfl
    subst d10
    subst hf
    refine Go.Proofs.YtbmklpcheopgoaaReg.opIn_val ho2 rfl (fun _ => trivial) (fun c h => by cases h) (v := .int .i64 s) (w1 := W') ?_ (hK _ _ ⟨⟨b0, b1, b2, b3, b4, b5, b6, b7, b8, b9, true, true, b12, b13, b14, b15, b16, b17, b18, b19, b20, b21, VR, VQ, gH, V1⟩, rfl, rfl, (k0), (k1), (k2), (k3), (k4), (k5), (k6), hHB, hHS0, hHS1, hHR, hHQ, hHX, hHC, hHN⟩)
    simp [go_sem, Blks.cell hHB 0 rfl 0]
   ·
    simp only [List.getElem?_toArray, List.getElem?_cons_succ, List.getElem?_cons_zero, Option.some.injEq] at ho
    subst ho
    replace hf : b12 = false := hf
    subst hf
    refine Go.Proofs.YtbmklpcheopgoaaReg.opIn_val ho2 rfl (fun _ => trivial) (fun c h => by cases h) (v := .pointer (some ⟨X, 1, none⟩)) (w1 := W') ?_ (hK _ _ ⟨⟨b0, b1, b2, b3, b4, b5, b6, b7, b8, b9, b10, b11, true, b13, b14, b15, b16, b17, b18, b19, b20, b21, VR, VQ, gH, V1⟩, rfl, rfl, (k0), (k1), (k2), (k3), (k4), (k5), (k6), hHB, hHS0, hHS1, hHR, hHQ, hHX, hHC, hHN⟩)
    simp [go_sem, hu64]
   ·
    simp only [List.getElem?_toArray, List.getElem?_cons_succ, List.getElem?_cons_zero, Option.some.injEq] at ho
    subst ho
    replace hf : b13 = false := hf
    have d12 : b12 = true := hd ⟨12, .data⟩ (by simp) rfl
    subst d12
    subst hf
    refine Go.Proofs.YtbmklpcheopgoaaReg.opIn_val ho2 rfl (fun _ => trivial) (fun c h => by cases h) (v := .int .i64 t) (w1 := W') ?_ (hK _ _ ⟨⟨b0, b1, b2, b3, b4, b5, b6, b7, b8, b9, b10, b11, true, true, b14, b15, b16, b17, b18, b19, b20, b21, VR, VQ, gH, V1⟩, rfl, rfl, (k0), (k1), (k2), (k3), (k4), (k5), (k6), hHB, hHS0, hHS1, hHR, hHQ, hHX, hHC, hHN⟩)
    simp [go_sem, Blks.cell hHB 0 rfl 1]
   ·
    simp only [List.getElem?_toArray, List.getElem?_cons_succ, List.getElem?_cons_zero, Option.some.injEq] at ho
    subst ho
    replace hf : b14 = false := hf
    subst hf
    refine Go.Proofs.YtbmklpcheopgoaaReg.opIn_val ho2 rfl (fun _ => trivial) (fun c h => by cases h) (v := .pointer (some ⟨X, 1, none⟩)) (w1 := W') ?_ (hK _ _ ⟨⟨b0, b1, b2, b3, b4, b5, b6, b7, b8, b9, b10, b11, b12, b13, true, b15, b16, b17, b18, b19, b20, b21, VR, VQ, gH, V1⟩, rfl, rfl, (k0), (k1), (k2), (k3), (k4), (k5), (k6), hHB, hHS0, hHS1, hHR, hHQ, hHX, hHC, hHN⟩)
    simp [go_sem, hu64]
   ·
    simp only [List.getElem?_toArray, List.getElem?_cons_succ, List.getElem?_cons_zero, Option.some.injEq] at ho
    subst ho
    replace hf : b15 = false := hf
    have d14 : b14 = true := hd ⟨14, .data⟩ (by simp) rfl
    subst d14
    subst hf
    refine Go.Proofs.YtbmklpcheopgoaaReg.opIn_val ho2 rfl (fun _ => trivial) (fun c h => by cases h) (v := .int .i64 t) (w1 := W') ?_ (hK _ _ ⟨⟨b0, b1, b2, b3, b4, b5, b6, b7, b8, b9, b10, b11, b12, b13, true, true, b16, b17, b18, b19, b20, b21, VR, VQ, gH, V1⟩, rfl, rfl, (k0), (k1), (k2), (k3), (k4), (k5), (k6), hHB, hHS0, hHS1, hHR, hHQ, hHX, hHC, hHN⟩)
    simp [go_sem, Blks.cell hHB 0 rfl 1]
   ·
    simp only [List.getElem?_toArray, List.getElem?_cons_succ, List.getElem?_cons_zero, Option.some.injEq] at ho
    subst ho
    replace hf : b16 = false := hf
    have d9 : b9 = true := hd ⟨9, .data⟩ (by simp) rfl
    have d11 : b11 = true := hd ⟨11, .data⟩ (by simp) rfl
    have d13 : b13 = true := hd ⟨13, .data⟩ (by simp) rfl
    have d15 : b15 = true := hd ⟨15, .data⟩ (by simp) rfl
    subst d9
    subst d11
    subst d13
    subst d15
    subst hf
    refine Go.Proofs.YtbmklpcheopgoaaReg.opIn_val ho2 rfl (fun _ => trivial) (fun c h => by cases h) (v := .slice (some (ad1.add s)) (t - s) (t - s)) (w1 := W') ?_ (hK _ _ ⟨⟨b0, b1, b2, b3, b4, b5, b6, b7, b8, true, b10, true, b12, true, b14, true, true, b17, b18, b19, b20, b21, VR, VQ, gH, V1⟩, rfl, rfl, (k0), (k1), (k2), (k3), (k4), (k5), (k6), hHB, hHS0, hHS1, hHR, hHQ, hHX, hHC, hHN⟩)
    simp [go_sem, hub, hse, hec1, hsc, hsc2]
   ·
    simp only [List.getElem?_toArray, List.getElem?_cons_succ, List.getElem?_cons_zero, Option.some.injEq] at ho
    subst ho
    replace hf : b17 = false := hf
    have d8 : b8 = true := hd ⟨8, .data⟩ (by simp) rfl
    have d16 : b16 = true := hd ⟨16, .data⟩ (by simp) rfl
    subst d8
    subst d16
    have n18 : b18 = false := Bool.eq_false_iff.mpr (fun h => absurd (k0 h) (by rw [hf]; decide))
    have n19 : b19 = false := Bool.eq_false_iff.mpr (fun h => absurd (k1 h) (by rw [n18]; decide))
    have n20 : b20 = false := Bool.eq_false_iff.mpr (fun h => absurd (k2 h) (by rw [hf]; decide))
    have n21 : b21 = false := Bool.eq_false_iff.mpr (fun h => absurd (k6 h) (by rw [n20]; decide))
    subst n18
    subst n19
    subst n20
    subst n21
    subst hf
    refine Go.Proofs.YtbmklpcheopgoaaReg.opIn_wp ho2 rfl (op_callIn Try.func49 (by kernel_rfl) rfl #[.slice (some (ad0.add (s * 2))) (t - s) (t - s), .slice (some (ad1.add s)) (t - s) (t - s)] rfl (by simp only [List.map_toArray, List.map_cons, List.map_nil]; rfl) rfl (fun _ => trivial) ?_)
    have hbW : Below w.heap.size w W' := h5.trans (hHC.below (B := w.heap.size) h5.size (fun i hi h => by have := h2 i h; omega))
    have hcal := ring_calls (some (ad0.add (s * 2))) (t - s) ps (some (ad1.add s)) (t - s) os W' (by rw [hpl]; exact Kd.C_below hps hbW) (by omega) (by rw [hol]; exact Kd.C_below hos hbW) (by omega) (by omega) (by omega)
    rw [hpl, hol, hrg] at hcal
    refine CallsIn.mono (CallsIn.inRound lc (callsIn_wide.2 hcal)) ?_
    rintro e1 w2 ⟨Ar, cr, rfl, q2, q3, hbn⟩
    exact ⟨_, rfl, (hK _ _ ⟨⟨b0, b1, b2, b3, b4, b5, b6, b7, true, b9, b10, b11, b12, b13, b14, b15, true, true, false, false, false, false, (.slice Ar rg.length cr), VQ, gH, V1⟩, rfl, rfl, (fun _ => rfl), (fun h => Bool.noConfusion h), (fun _ => rfl), (fun h => Bool.noConfusion h), (fun h => Bool.noConfusion h), (fun h => Bool.noConfusion h), (fun h => Bool.noConfusion h), (hHB.below hbn), (fun h => S_chg (hHS0 h) (Chg.of_fresh (S := fun _ => False) hbn) (fun _ _ => id)), (fun h => S_chg (hHS1 h) (Chg.of_fresh (S := fun _ => False) hbn) (fun _ _ => id)), (fun _ _ => ⟨Ar, cr, rfl, q2, q3⟩), (fun h h' => R_chg (hHQ h h') (Chg.of_fresh (S := fun _ => False) hbn) (fun _ _ => id)), (fun h h' => (Chg.of_fresh (S := fun _ => False) hbn).heap (hHX h h') id), (hHC.trans (Chg.of_fresh hbn)), hHN⟩)⟩
   ·
    simp only [List.getElem?_toArray, List.getElem?_cons_succ, List.getElem?_cons_zero, Option.some.injEq] at ho
    subst ho
    replace hf : b18 = false := hf
    have d17 : b17 = true := hd ⟨17, .data⟩ (by simp) rfl
    subst d17
    have n19 : b19 = false := Bool.eq_false_iff.mpr (fun h => absurd (k1 h) (by rw [hf]; decide))
    have n20 : b20 = false := Bool.eq_false_iff.mpr (fun h => absurd (k3 h) (by rw [hf]; decide))
    have n21 : b21 = false := Bool.eq_false_iff.mpr (fun h => absurd (k6 h) (by rw [n20]; decide))
    subst n19
    subst n20
    subst n21
    subst hf
    obtain ⟨Ar, cr, rfl, q2, q3⟩ := hHR rfl rfl
    refine Go.Proofs.YtbmklpcheopgoaaReg.opIn_wp ho2 rfl (op_callIn Try.func48 (by kernel_rfl) rfl #[.slice Ar rg.length cr] rfl (by simp only [List.map_toArray, List.map_cons, List.map_nil]; rfl) rfl (fun _ => trivial) ?_)
    have hcal := row_calls Ar cr rg W' q3 q2 hrpos (by omega)
    rw [hrw] at hcal
    refine CallsIn.mono (CallsIn.inRound lc (callsIn_wide.2 hcal)) ?_
    rintro e1 w2 ⟨vq, rfl, hRq, hbn⟩
    exact ⟨_, rfl, (hK _ _ ⟨⟨b0, b1, b2, b3, b4, b5, b6, b7, b8, b9, b10, b11, b12, b13, b14, b15, b16, true, true, false, false, false, (.slice Ar rg.length cr), vq, gH, V1⟩, rfl, rfl, (fun _ => rfl), (fun _ => rfl), (fun _ => rfl), (fun _ => rfl), (fun h => Bool.noConfusion h), (fun h => Bool.noConfusion h), (fun h => Bool.noConfusion h), (hHB.below hbn), (fun h => S_chg (hHS0 h) (Chg.of_fresh (S := fun _ => False) hbn) (fun _ _ => id)), (fun h => S_chg (hHS1 h) (Chg.of_fresh (S := fun _ => False) hbn) (fun _ _ => id)), (fun _ _ => ⟨Ar, cr, rfl, q2, Kd.C_below q3 hbn⟩), (fun _ _ => Kd.R_lower (R_own1 flat_pt2 hRq) hHC.size), (fun h _ => Bool.noConfusion h), (hHC.trans (Chg.of_fresh hbn)), hHN⟩)⟩
   ·
    simp only [List.getElem?_toArray, List.getElem?_cons_succ, List.getElem?_cons_zero, Option.some.injEq] at ho
    subst ho
    replace hf : b19 = false := hf
    have d18 : b18 = true := hd ⟨18, .data⟩ (by simp) rfl
    have d17 : b17 = true := k0 d18
    subst d17
    subst d18
    have n20 : b20 = false := Bool.eq_false_iff.mpr (fun h => absurd (k4 h) (by rw [hf]; decide))
    have n21 : b21 = false := Bool.eq_false_iff.mpr (fun h => absurd (k6 h) (by rw [n20]; decide))
    subst n20
    subst n21
    subst hf
    obtain ⟨Aq, cq, hvq⟩ := Kd.R_slice (hHQ rfl rfl)
    have hbn : Below W'.heap.size W' (W'.alloc (.cells #[VQ] 42)) := (Below.refl _ _).alloc (Nat.le_refl _) _
    refine Go.Proofs.YtbmklpcheopgoaaReg.opIn_val ho2 rfl (fun _ => trivial) (fun c h => by cases h) (v := .slice (some ⟨(W'.heap.size), 0, none⟩) 1 1) (w1 := W'.alloc (.cells #[VQ] 42)) ?_ (hK _ _ ⟨⟨b0, b1, b2, b3, b4, b5, b6, b7, b8, b9, b10, b11, b12, b13, b14, b15, b16, true, true, true, false, false, VR, VQ, W'.heap.size, V1⟩, rfl, rfl, (fun _ => rfl), (fun _ => rfl), (fun _ => rfl), (fun _ => rfl), (fun _ => rfl), (fun h => Bool.noConfusion h), (fun h => Bool.noConfusion h), (hHB.below hbn), (fun h => S_chg (hHS0 h) (Chg.of_fresh (S := fun _ => False) hbn) (fun _ _ => id)), (fun h => S_chg (hHS1 h) (Chg.of_fresh (S := fun _ => False) hbn) (fun _ _ => id)), (fun h h' => by obtain ⟨A, c, q1, q2, q3⟩ := hHR h h'; exact ⟨A, c, q1, q2, Kd.C_below q3 hbn⟩), (fun h h' => R_chg (hHQ h h') (Chg.of_fresh (S := fun _ => False) hbn) (fun _ _ => id)), (fun _ _ => blk_new W' (.cells #[VQ] 42)), (hHC.trans (Chg.of_fresh hbn)), hHN⟩)
    subst hvq
    simp [go_sem]
   ·
    simp only [List.getElem?_toArray, List.getElem?_cons_succ, List.getElem?_cons_zero, Option.some.injEq] at ho
    subst ho
    replace hf : b20 = false := hf
    have d0 : b0 = true := hd ⟨0, .data⟩ (by simp) rfl
    have d18 : b18 = true := hd ⟨18, .chain⟩ (by simp) rfl
    have d19 : b19 = true := hd ⟨19, .data⟩ (by simp) rfl
    have d17 : b17 = true := k0 d18
    subst d0
    subst d17
    subst d18
    subst d19
    have n21 : b21 = false := Bool.eq_false_iff.mpr (fun h => absurd (k6 h) (by rw [hf]; decide))
    subst n21
    subst hf
    have hVQ := Kd.R_bound (hHQ rfl rfl)
    obtain ⟨vn, wn, hrn, hSn, hgn, hatn⟩ := run_appendS (P := Try.prog) (ty := 45) (Kd.slice 52 k52) w.heap.size Try.underlying45 lines_info rfl (by decide) (by decide) (.slice Av k cv) rows rw_ [VQ] (fun b => (own b ∧ b ≠ w.heap.size + 1 + 1) ∨ Va.heap.size ≤ b) (fun b => Va.heap.size ≤ b ∧ some b = VQ.ownBlock ∧ b < W'.heap.size) ⟨gH, 0, none⟩ 1
     (fun j u hj => by rw [add_plain, blk_cell (hHX rfl rfl) j]; simpa using hj) ⟨_, rfl, Kd.R_mono (Kd.R_lower hVQ (by have := h5.size; omega)) (fun b hb => ⟨hb.2.1, hb.1, hb.2.2.1⟩)⟩
     (fun b hb => ⟨.inr hb.1, fun e => by have := how b (hrowsown b e.symm).1; omega⟩) (fun b hb => .inr (Nat.le_trans hHC.size hb))
     (Kd.S_mono (hHS0 rfl) (fun b hb => ⟨.inl hb, fun e => by have := how b hb.1; omega⟩)) (by have := hHC.size; have := h5.size; omega) (by omega)
    obtain ⟨An, cn, hvn⟩ := Kd.S_slice hSn
    refine Go.Proofs.YtbmklpcheopgoaaReg.opIn_val ho2 rfl (fun _ => trivial) (fun c h => by cases h) (v := vn) (w1 := wn) ?_ (hK _ _ ⟨⟨true, b1, b2, b3, b4, b5, b6, b7, b8, b9, b10, b11, b12, b13, b14, b15, b16, true, true, true, true, false, VR, VQ, gH, vn⟩, rfl, rfl, (fun _ => rfl), (fun _ => rfl), (fun _ => rfl), (fun _ => rfl), (fun _ => rfl), (fun _ => rfl), (fun _ => rfl), (hHB.chg (Chg.of_grownBy hgn) (fun b hb e => hapart b hb e)), (fun h => Bool.noConfusion h), (fun _ => hSn), (fun _ h => Bool.noConfusion h), (fun _ h => Bool.noConfusion h), (fun _ h => Bool.noConfusion h), (hHC.trans ((Chg.of_grownBy hgn).mono (fun b _ e => (hrowsown b e).1))), (fun _ => ⟨(An, _, cn), hvn⟩)⟩)
    exact run_app rfl rfl rfl hrn
   ·
    simp only [List.getElem?_toArray, List.getElem?_cons_succ, List.getElem?_cons_zero, Option.some.injEq] at ho
    subst ho
    replace hf : b21 = false := hf
    have d0 : b0 = true := hd ⟨0, .phase⟩ (by simp) rfl
    have d1 : b1 = true := hd ⟨1, .phase⟩ (by simp) rfl
    have d2 : b2 = true := hd ⟨2, .phase⟩ (by simp) rfl
    have d3 : b3 = true := hd ⟨3, .phase⟩ (by simp) rfl
    have d4 : b4 = true := hd ⟨4, .phase⟩ (by simp) rfl
    have d5 : b5 = true := hd ⟨5, .phase⟩ (by simp) rfl
    have d6 : b6 = true := hd ⟨6, .phase⟩ (by simp) rfl
    have d7 : b7 = true := hd ⟨7, .phase⟩ (by simp) rfl
    have d8 : b8 = true := hd ⟨8, .phase⟩ (by simp) rfl
    have d9 : b9 = true := hd ⟨9, .phase⟩ (by simp) rfl
    have d10 : b10 = true := hd ⟨10, .phase⟩ (by simp) rfl
    have d11 : b11 = true := hd ⟨11, .phase⟩ (by simp) rfl
    have d12 : b12 = true := hd ⟨12, .phase⟩ (by simp) rfl
    have d13 : b13 = true := hd ⟨13, .phase⟩ (by simp) rfl
    have d14 : b14 = true := hd ⟨14, .phase⟩ (by simp) rfl
    have d15 : b15 = true := hd ⟨15, .phase⟩ (by simp) rfl
    have d16 : b16 = true := hd ⟨16, .phase⟩ (by simp) rfl
    have d17 : b17 = true := hd ⟨17, .phase⟩ (by simp) rfl
    have d18 : b18 = true := hd ⟨18, .phase⟩ (by simp) rfl
    have d19 : b19 = true := hd ⟨19, .phase⟩ (by simp) rfl
    have d20 : b20 = true := hd ⟨20, .data⟩ (by simp) rfl
    subst d0
    subst d1
    subst d2
    subst d3
    subst d4
    subst d5
    subst d6
    subst d7
    subst d8
    subst d9
    subst d10
    subst d11
    subst d12
    subst d13
    subst d14
    subst d15
    subst d16
    subst d17
    subst d18
    subst d19
    subst d20
    subst hf
    obtain ⟨⟨na, nb, nc⟩, hvn⟩ := hHN rfl
    refine Go.Proofs.YtbmklpcheopgoaaReg.opIn_skip ho2 rfl (fun _ => trivial) (fun c h => by cases h) (w1 := W'.setCell ⟨w.heap.size + 1 + 1, 0, none⟩ V1) ?_ (hK _ _ ⟨⟨true, true, true, true, true, true, true, true, true, true, true, true, true, true, true, true, true, true, true, true, true, true, VR, VQ, gH, V1⟩, rfl, rfl, (fun _ => rfl), (fun _ => rfl), (fun _ => rfl), (fun _ => rfl), (fun _ => rfl), (fun _ => rfl), (fun _ => rfl), (hHB.set 1 rfl 0 V1), (fun h => Bool.noConfusion h), (fun h => S_chg (hHS1 h) (Chg.setCell (S := fun b => b = w.heap.size + 1 + 1) (Chg.refl _ W') (p := ⟨w.heap.size + 1 + 1, 0, none⟩) (fun _ => rfl) V1) (fun b hb e => by rcases hb with hb | hb; exact hb.2 e; omega)), (fun _ h => Bool.noConfusion h), (fun _ h => Bool.noConfusion h), (fun _ h => Bool.noConfusion h), (hHC.setCell (p := ⟨w.heap.size + 1 + 1, 0, none⟩) (fun _ => h1) V1), hHN⟩)
    subst hvn
    simp [go_sem, Blks.cell hHB 1 rfl 0, Blks.free hHB 1 rfl 0]
  ·
   rintro lst a W' ⟨⟨b0, b1, b2, b3, b4, b5, b6, b7, b8, b9, b10, b11, b12, b13, b14, b15, b16, b17, b18, b19, b20, b21, VR, VQ, gH, V1⟩, rfl, rfl, k0, k1, k2, k3, k4, k5, k6, hHB, hHS0, hHS1, hHR, hHQ, hHX, hHC, hHN⟩ hall
   dsimp only at k0 k1 k2 k3 k4 k5 k6 hHB hHS0 hHS1 hHR hHQ hHX hHC hHN
   have a0 : b0 = true := hall 0 (by decide)
   have a1 : b1 = true := hall 1 (by decide)
   have a2 : b2 = true := hall 2 (by decide)
   have a3 : b3 = true := hall 3 (by decide)
   have a4 : b4 = true := hall 4 (by decide)
   have a5 : b5 = true := hall 5 (by decide)
   have a6 : b6 = true := hall 6 (by decide)
   have a7 : b7 = true := hall 7 (by decide)
   have a8 : b8 = true := hall 8 (by decide)
   have a9 : b9 = true := hall 9 (by decide)
   have a10 : b10 = true := hall 10 (by decide)
   have a11 : b11 = true := hall 11 (by decide)
   have a12 : b12 = true := hall 12 (by decide)
   have a13 : b13 = true := hall 13 (by decide)
   have a14 : b14 = true := hall 14 (by decide)
   have a15 : b15 = true := hall 15 (by decide)
   have a16 : b16 = true := hall 16 (by decide)
   have a17 : b17 = true := hall 17 (by decide)
   have a18 : b18 = true := hall 18 (by decide)
   have a19 : b19 = true := hall 19 (by decide)
   have a20 : b20 = true := hall 20 (by decide)
   have a21 : b21 = true := hall 21 (by decide)
   subst a0 a1 a2 a3 a4 a5 a6 a7 a8 a9 a10 a11 a12 a13 a14 a15 a16 a17 a18 a19 a20 a21
   clear k0 k1 k2 k3 k4 k5 k6
   clear hall
   have HB : Blks [(X, .cells #[.int .i64 s, .int .i64 t] 64 (0, 0)), (w.heap.size + 1 + 1, .cells #[cond true V1 (.slice Av k cv)] 45 (0, 0)), (w.heap.size + 1, .cells #[.slice (some ad1) on.length c1] 43 (0, 0)), (w.heap.size, .cells #[.slice (some ad0) pts.length c0] 42 (0, 0))] W' := hHB
   have HS1 : Kd.S (Kd.slice 52 k52) 42 W' w.heap.size (fun b => (own b ∧ b ≠ w.heap.size + 1 + 1) ∨ Va.heap.size ≤ b) V1 (rows ++ [rw_]) := hHS1 rfl
   have HC : Chg own Va W' := hHC
   clear hHB hHS0 hHS1 hHR hHQ hHX hHC hHN
   have HF := Lib.hid (And.intro HB (And.intro HS1 HC))
   clear HB HS1 HC
   gi_wp2
   obtain ⟨HB, HS1, HC⟩ := HF.out
   have hsz := HC.size
   refine ⟨fun b => own b ∨ (Va.heap.size ≤ b ∧ b < W'.heap.size), ⟨fun b h => .inl h, fun b h => h.elim .inl (fun h => .inr h.1)⟩, fun b hb => hb.elim (fun h => by have := how b h; omega) (fun h => h.2), HC, .inl h1, fun b hb => hb.elim (h2 b) (fun h => .inr (by omega)), ⟨V1, HB.tail, ?_⟩, h5.trans (HC.below (B := w.heap.size) h5.size (fun i hi h => by have := h2 i h; omega)), by omega⟩
   rw [HH.out.1]
   exact Kd.S_mono (Kd.S_bound HS1) (fun b hb => by
    rcases hb.1 with h | h
    ·
     exact ⟨.inl h.1, h.2⟩
    ·
     exact ⟨.inr ⟨h, hb.2.2.1⟩, by omega⟩)
 ·
  rintro D own Va hD how hnD ⟨h1, h2, ⟨v, h3, h4⟩, h5, h6⟩ hdef
  obtain ⟨Av, cv, rfl⟩ := Kd.S_slice h4
  have g0 := h3.cell 0 rfl 0
  simp at g0
  have HH := Lib.hid (And.intro h4 (And.intro h5 h6))
  clear h3 h4 h5
  gi_wp2
  obtain ⟨h4, h5, _⟩ := HH.out
  refine leaves_collected hdef fun V2 hc => ?_
  have hS10 := S_chg h4 hc (fun k hk e => hnD (by subst e; exact hk.1))
  have hW10 := h5.trans (hc.below (B := w.heap.size) h5.size (fun i hi e => by omega))
  exact ⟨.slice Av (linesK pts on es (cutsL es pts.length).length).length cv, by simp [results, Try.f32, go_sem], _, rfl, Kd.S_mono hS10 (fun _ _ => trivial), hW10⟩
 ·
  rintro D c k own V1 _ _ _ _ h
  exact h.elim
def outline_Lines.f (l0 : List S52) (l1 : List Bool) (l2 : List Int) : Option (List (List S52)) :=
 if l1.length = l0.length then (if l0.length ≤ 1000000 ∧ l2.length ≤ 1000000 then some (linesK l0 l1 l2 (cutsL l2 l0.length).length) else none) else some []
set_option maxRecDepth 100000 in
theorem outline_Lines.calls (A0 : Option Addr) (c0 : Nat) (l0 : List (S52)) (A1 : Option Addr) (c1 : Nat) (l1 : List Bool) (A2 : Option Addr) (c2 : Nat) (l2 : List Int) (r : List (List (S52))) (w : World) (hr0 : Kd.C k52 w A0 l0.length l0) (hc0 : l0.length ≤ c0) (hr1 : Kd.C Kd.bool w A1 l1.length l1) (hc1 : l1.length ≤ c1) (hr2 : Kd.C (Kd.int .i64) w A2 l2.length l2) (hc2 : l2.length ≤ c2) (h : outline_Lines.f l0 l1 l2 = some r) :
  Calls Try.prog 32 #[.slice A0 l0.length c0, .slice A1 l1.length c1, .slice A2 l2.length c2] w fun e w' => ∃ v0_ : Value, e = .returned (v0_) ∧ Kd.S (Kd.slice 52 k52) 42 w' w.heap.size (fun _ => True) v0_ r ∧ Below w.heap.size w w' := by
 unfold outline_Lines.f at h
 by_cases he : l1.length = l0.length
 ·
  rw [if_pos he] at h
  split at h
  ·
   rename_i hl
   simp only [Option.some.injEq] at h
   subst h
   exact lines_calls A0 A1 A2 c0 c1 c2 l0 l1 l2 w hr0 hc0 hr1 hc1 hr2 hc2 hl.1 hl.2 he
  ·
   cases h
 ·
  rw [if_neg he] at h
  simp only [Option.some.injEq] at h
  subst h
  have hne : (((l1.length : Nat) : Int) != ((l0.length : Nat) : Int)) = true := by simp; omega
  have HE := Lib.hid he
  clear he
  go_enter Try.func32, Try.ntmps32
  go_wp2
  go_ret
  exact ⟨_, rfl, Kd.S_nil _ _ _ _ _, ((Below.refl _ w).alloc (Nat.le_refl _) _).alloc (by simp) _⟩
end Go.Proofs.Ytbmklpcheopgoaa.H

namespace Go.Proofs.Ytbmklpcheopgoaa.H
open Go.RowKit Go.Proofs.YtbmklpcheopgoaaW.PrintWords Go.Proofs.YtbmklpcheopgoaaW.PrintLast Go.Proofs.YtbmklpcheopgoaaW.PrintMore
attribute [local go_sem] max2_int min2_int max_two min_two max_three min_three max_four min_four
set_option linter.unusedVariables false
set_option linter.unusedSimpArgs false
theorem eqA52 (d : Nat) (w : World) (x0 y0 : Int) (x1 y1 : Int) :
  (Op.equalIn (d + 2) 52 (.agg #[.int .i64 x0, .int .i64 x1]) (.agg #[.int .i64 y0, .int .i64 y1])).run Try.prog w = .ok (x0 == y0 && (x1 == y1)) w := by
 refine eqA_of Try.underlying52 (by kernel_rfl) ?_
 refine eqf_cons (by rfl) (by go_simp; rfl) (by go_simp; rfl) (by go_simp) ?_
 exact eqf_last (by rfl) (by go_simp; rfl) (by go_simp; rfl) (by go_simp)
end Go.Proofs.Ytbmklpcheopgoaa.H

namespace Go.Proofs.Ytbmklpcheopgoaa.H
open Go.RowKit Go.Proofs.YtbmklpcheopgoaaW.PrintWords Go.Proofs.YtbmklpcheopgoaaW.PrintLast Go.Proofs.YtbmklpcheopgoaaW.PrintMore
attribute [local go_sem] max2_int min2_int max_two min_two max_three min_three max_four min_four
set_option linter.unusedVariables false
set_option linter.unusedSimpArgs false
attribute [local go_sem high] eqA52
def fleuronref03_SamePts.l0 : Nat → List (S52) → List (S52) → Int → Option (Bool)
 | 0, _, _, _ => none
 | k + 1, x0, x1, x5 => if x5 < (x0.length : Int) then (if 0 ≤ x5 then (if x5 < (x1.length : Int) then (if (!(((rd_T52 x0 x5).f0) == ((rd_T52 x1 x5).f0)) || (!(((rd_T52 x0 x5).f1) == ((rd_T52 x1 x5).f1)))) = true then (some false) else (fleuronref03_SamePts.l0 k x0 x1 (wrap64 (x5 + 1)))) else (none)) else (none)) else (some true)
def fleuronref03_SamePts.f (k : Nat) (l0 : List (S52)) (l1 : List (S52)) : Option (Bool) := if (l0.length : Int) = (l1.length : Int) then (fleuronref03_SamePts.l0 k l0 l1 0) else (some false)
theorem fleuronref03_SamePts.mono_l : ∀ k, (∀ y0 y1 y2, LeO (fleuronref03_SamePts.l0 k y0 y1 y2) (fleuronref03_SamePts.l0 (k + 1) y0 y1 y2))
 | 0 => fun _ _ _ r h => by simp [fleuronref03_SamePts.l0] at h
 | k + 1 => by
  have ih0 := fleuronref03_SamePts.mono_l k
  ·
   intro y0 y1 y2
   unfold fleuronref03_SamePts.l0
   repeat' first
   | (with_reducible exact ih0 _ _ _)
   | (with_reducible exact LeO.refl _)
   | (with_reducible exact LeO.none _)
   | (with_reducible refine LeO.ite ?_ ?_)
   | (with_reducible refine LeO.bind ?_ (fun _ => ?_))
   | exact ih0 _ _ _
   | exact LeO.none _
   | refine LeO.ite ?_ ?_
   | refine LeO.bind ?_ (fun _ => ?_)
theorem fleuronref03_SamePts.mono : ∀ a0 a1 k, LeO (fleuronref03_SamePts.f k a0 a1) (fleuronref03_SamePts.f (k + 1) a0 a1) := by
 intro a0 a1 k
 have ih0 := fleuronref03_SamePts.mono_l k
 unfold fleuronref03_SamePts.f
 repeat' first
   | (with_reducible exact ih0 _ _ _)
   | (with_reducible exact LeO.refl _)
   | (with_reducible exact LeO.none _)
   | (with_reducible refine LeO.ite ?_ ?_)
   | (with_reducible refine LeO.bind ?_ (fun _ => ?_))
   | exact ih0 _ _ _
   | exact LeO.none _
   | refine LeO.ite ?_ ?_
   | refine LeO.bind ?_ (fun _ => ?_)
set_option maxHeartbeats 8000000 in
set_option maxRecDepth 100000 in
theorem fleuronref03_SamePts.calls (k : Nat) (A0 : Option Addr) (c0 : Nat) (l0 : List (S52)) (A1 : Option Addr) (c1 : Nat) (l1 : List (S52)) (r : Bool) (w : World) (hr0 : Kd.C k52 w A0 l0.length l0) (hc0 : l0.length ≤ c0) (hr1 : Kd.C k52 w A1 l1.length l1) (hc1 : l1.length ≤ c1) (h : fleuronref03_SamePts.f k l0 l1 = some r) :
  Calls Try.prog 35 #[.slice A0 l0.length c0, .slice A1 l1.length c1] w fun e w' => e = .returned (.bool r) ∧ Drawn0 w w' := by
 have hu52 := Try.underlying52
 have HR0 := aM hr0
 have HC0 := aM hc0
 clear hr0 hc0
 have HR1 := aM hr1
 have HC1 := aM hc1
 clear hr1 hc1
 have H : (if (l0.length : Int) = (l1.length : Int) then (fleuronref03_SamePts.l0 k l0 l1 0) else (some false)) = some r := h
 clear h
 by_cases c3 : (l0.length : Int) = (l1.length : Int)
 ·
  rw [if_pos c3] at H
  have c3b0 : ((l0.length : Int) == (l1.length : Int)) = true := beq_iff_eq.mpr c3
  have c3b1 : ((l0.length : Int) != (l1.length : Int)) = false := bne_eq_false_iff_eq.mpr c3
  have c3b2 : (l0.length == l1.length) = true := by first | simpa using c3 | (simp at c3 ⊢; omega)
  clear c3
  have H' := aM H
  clear H
  go_enter Try.func35, Try.ntmps35
  go_wp2
  repeat (go_quiet (fail); try go_wp2)
  go_loopg [5] k (fun kq v5 w' => ∃ (x5_1 : Int), v5 = .int .i64 x5_1 ∧ Aside0 (fleuronref03_SamePts.l0 kq l0 l1 x5_1 = some r) ∧ Aside0 (kq ≤ k) ∧ Drawn0 w w')
  case atStart => exact ⟨(0), (by first | rfl | (simp; done) | (simp [*]; done)), H', ⟨Nat.le_refl _⟩, by repeat (first | exact Drawn0.refl _ | apply Drawn0.step)⟩
  case round =>
   clear H'
   try clear c1
   try clear p2
   try clear c3
   try clear c3b0
   try clear c3b1
   try clear c3b2
   obtain ⟨x5_1, rfl, HA, HK1, ⟨m1, rfl⟩⟩ := hrel
   cases gk with
   | zero => exact absurd HA.out (by simp [fleuronref03_SamePts.l0])
   | succ k1 =>
    have H := HA.out
    clear HA
    simp only [fleuronref03_SamePts.l0] at H
    by_cases c4 : x5_1 < (l0.length : Int)
    ·
     rw [if_pos c4] at H
     have c4b0 : decide (x5_1 < (l0.length : Int)) = true := decide_eq_true c4
     clear c4
     by_cases c5 : 0 ≤ x5_1
     ·
      rw [if_pos c5] at H
      have c5b0 : decide (0 ≤ x5_1) = true := decide_eq_true c5
      clear c5
      by_cases c6 : x5_1 < (l1.length : Int)
      ·
       rw [if_pos c6] at H
       have c6b0 : decide (x5_1 < (l1.length : Int)) = true := decide_eq_true c6
       clear c6
       by_cases c7 : (!(((rd_T52 l0 x5_1).f0) == ((rd_T52 l1 x5_1).f0)) || (!(((rd_T52 l0 x5_1).f1) == ((rd_T52 l1 x5_1).f1)))) = true
       ·
        rw [if_pos c7] at H
        have c7b0 : (!(((rd_T52 l0 x5_1).f0) == ((rd_T52 l1 x5_1).f0)) || (!(((rd_T52 l0 x5_1).f1) == ((rd_T52 l1 x5_1).f1)))) = true := c7
        clear c7
        obtain rfl := Option.some.inj H
        have p168 : 0 ≤ (x5_1 : Int) := dT (by assumption)
        have q168 : x5_1 < (l0.length : Int) := dT (by assumption)
        obtain ⟨ad168, e168, hx168_0, hx168_1⟩ := at_T52 HR0.out x5_1 p168 q168
        cases e168
        replace p168 := eq_true p168
        replace q168 := eq_true q168
        have p169 : 0 ≤ (x5_1 : Int) := dT (by assumption)
        have q169 : x5_1 < (l1.length : Int) := dT (by assumption)
        obtain ⟨ad169, e169, hx169_0, hx169_1⟩ := at_T52 HR1.out x5_1 p169 q169
        cases e169
        replace p169 := eq_true p169
        replace q169 := eq_true q169
        go_wp2
        repeat (go_quiet (fail); try go_wp2)
        go_ret
        exact ⟨by first | rfl | (simp; done) | (simp [*]; done), by repeat (first | exact Drawn0.refl _ | apply Drawn0.step)⟩
       ·
        rw [if_neg c7] at H
        have c7b0 : (!(((rd_T52 l0 x5_1).f0) == ((rd_T52 l1 x5_1).f0)) || (!(((rd_T52 l0 x5_1).f1) == ((rd_T52 l1 x5_1).f1)))) = false := by simpa using c7
        clear c7
        have H' := aM H
        clear H
        have p168 : 0 ≤ (x5_1 : Int) := dT (by assumption)
        have q168 : x5_1 < (l0.length : Int) := dT (by assumption)
        obtain ⟨ad168, e168, hx168_0, hx168_1⟩ := at_T52 HR0.out x5_1 p168 q168
        cases e168
        replace p168 := eq_true p168
        replace q168 := eq_true q168
        have p169 : 0 ≤ (x5_1 : Int) := dT (by assumption)
        have q169 : x5_1 < (l1.length : Int) := dT (by assumption)
        obtain ⟨ad169, e169, hx169_0, hx169_1⟩ := at_T52 HR1.out x5_1 p169 q169
        cases e169
        replace p169 := eq_true p169
        replace q169 := eq_true q169
        go_wp2
        repeat (go_quiet (fail); try go_wp2)
        go_roundg k1
        case measure => have := HK1.out; omega
        case rel => exact ⟨(wrap64 (x5_1 + 1)), (by first | rfl | (simp; done) | (simp [*]; done)), H', ⟨by have := HK1.out; omega⟩, by repeat (first | exact Drawn0.refl _ | apply Drawn0.step)⟩
      ·
       rw [if_neg c6] at H
       exact absurd H (by simp)
     ·
      rw [if_neg c5] at H
      exact absurd H (by simp)
    ·
     rw [if_neg c4] at H
     have c4b0 : decide (x5_1 < (l0.length : Int)) = false := decide_eq_false c4
     clear c4
     obtain rfl := Option.some.inj H
     go_wp2
     repeat (go_quiet (fail); try go_wp2)
     go_ret
     exact ⟨by first | rfl | (simp; done) | (simp [*]; done), by repeat (first | exact Drawn0.refl _ | apply Drawn0.step)⟩
 ·
  rw [if_neg c3] at H
  have c3b0 : ((l0.length : Int) == (l1.length : Int)) = false := beq_eq_false_iff_ne.mpr c3
  have c3b1 : ((l0.length : Int) != (l1.length : Int)) = true := bne_iff_ne.mpr c3
  have c3b2 : (l0.length == l1.length) = false := by first | simpa using c3 | (simp at c3 ⊢; omega)
  obtain rfl := Option.some.inj H
  go_enter Try.func35, Try.ntmps35
  go_wp2
  repeat (go_quiet (fail); try go_wp2)
  go_ret
  exact ⟨by first | rfl | (simp; done) | (simp [*]; done), by repeat (first | exact Drawn0.refl _ | apply Drawn0.step)⟩
def fleuronlaw03_square.f  : Option ((List (S33)) × List Int) := some ((([(⟨0, 0, true⟩ : S33), (⟨4, 0, true⟩ : S33), (⟨4, 4, true⟩ : S33), (⟨0, 4, true⟩ : S33)] : List (S33))), (([3] : List Int)))
set_option maxHeartbeats 8000000 in
set_option maxRecDepth 100000 in
theorem fleuronlaw03_square.calls  (r1 : List (S33)) (r2 : List Int) (w : World) (h : fleuronlaw03_square.f  = some (r1, r2)) :
  Calls Try.prog 43 #[] w fun e w' => ∃ v0_ v1_ : Value, e = .returned (.agg #[v0_, v1_]) ∧ Kd.R k33 33 w' w.heap.size (fun _ => True) v0_ r1 ∧ Kd.R (Kd.int .i64) 3 w' w.heap.size (fun _ => True) v1_ r2 ∧ Below w.heap.size w w' := by
 have hu25 := Try.underlying25
 have hu33 := Try.underlying33
 have HB := aM (Below.refl w.heap.size w)
 have H : (some ((([(⟨0, 0, true⟩ : S33), (⟨4, 0, true⟩ : S33), (⟨4, 4, true⟩ : S33), (⟨0, 4, true⟩ : S33)] : List (S33))), (([3] : List Int)))) = some (r1, r2) := h
 clear h
 obtain ⟨y171, hy171⟩ : ∃ y_ : List (S33), y_ = (([(⟨0, 0, true⟩ : S33), (⟨4, 0, true⟩ : S33), (⟨4, 4, true⟩ : S33), (⟨0, 4, true⟩ : S33)] : List (S33))) := ⟨_, rfl⟩
 replace H : (some (y171, (([3] : List Int)))) = some (r1, r2) := by first | (rw [hy171]; with_reducible exact H) | (have H2_ := (Option.bind_some _ _).symm.trans H; rw [hy171]; with_reducible exact H2_) | (have H2_ := (Option.bind_some _ _).symm.trans H; with_reducible exact H2_) | with_reducible exact H | (rw [hy171]; exact H) | exact H
 have Ny171 := aM hy171
 clear hy171
 obtain ⟨y174, hy174⟩ : ∃ y_ : List Int, y_ = (([3] : List Int)) := ⟨_, rfl⟩
 replace H : (some (y171, y174)) = some (r1, r2) := by first | (rw [hy174]; with_reducible exact H) | (have H2_ := (Option.bind_some _ _).symm.trans H; rw [hy174]; with_reducible exact H2_) | (have H2_ := (Option.bind_some _ _).symm.trans H; with_reducible exact H2_) | with_reducible exact H | (rw [hy174]; exact H) | exact H
 have Ny174 := aM hy174
 clear hy174
 simp only [Option.some.injEq, Prod.mk.injEq] at H
 obtain ⟨rfl, rfl⟩ := H
 go_enter Try.func43, Try.ntmps43
 go_wp2_with (first | ((with_reducible refine gate_dst (N := 0) rfl ?_); refine box_event ?hg (N := 0) ?hd (cs := #[.slice none 0 0, .slice none 0 0]) (t := 25) ?hr ?_; (case hd => rfl); (case hg => rfl); (case hr => first | (go_simp; done) | (go_simp; rfl)); intro gb170 hg w1 hbox hb; have n0_ := aM (below_step (by repeat (first | (with_reducible first | exact HB.out | apply bA | apply bN | apply bD) | exact HB.out)) hb); have n1_ := aM (hbox); have n2_ := aM ((by rw [hg]; exact (below_size (by repeat (first | (with_reducible first | exact HB.out | apply bA | apply bN | apply bD) | exact HB.out))) : w.heap.size ≤ gb170)); have n3_ := aM ((by rw [hg]; exact (below_size (by repeat (first | (with_reducible first | exact HB.out | apply bA | apply bN | apply bD) | exact HB.out))) : w.heap.size ≤ gb170)); clear HB; have HB := n0_; have BK170 := n1_; have GW170 := n2_; have GE170 := n3_; clear n0_ n1_ n2_ n3_; clear hb hbox hg) | ((with_reducible refine gate_dst (N := 5) rfl ?_); refine Kd.R_lit k33 _ 33 ?hg (N := 5) ?hd (xs := ([(⟨0, 0, true⟩ : S33), (⟨4, 0, true⟩ : S33), (⟨4, 4, true⟩ : S33), (⟨0, 4, true⟩ : S33)] : List (S33))) (inner := [.int .i64 0, .int .i64 0, .bool true, .int .i64 4, .int .i64 0, .bool true, .int .i64 4, .int .i64 4, .bool true, .int .i64 0, .int .i64 4, .bool true]) (ok := fun _ => True) (okp := fun _ => True) ?hr ?hp (fun _ hk => hk) trivial (Below.refl _ _) (Nat.le_refl _) (by simp) ?_; (case hd => rfl); (case hg => rfl); (case hr => first | (go_simp; done) | (go_simp; rfl)); (case hp => exact (Reps.c3 (show Kd.M k33 _ _ _ (⟨0, 0, true⟩ : S33) [.int .i64 0, .int .i64 0, .bool true] from (k33_mkM _ _ _ (⟨0, 0, true⟩ : S33) )) (Reps.c3 (show Kd.M k33 _ _ _ (⟨4, 0, true⟩ : S33) [.int .i64 4, .int .i64 0, .bool true] from (k33_mkM _ _ _ (⟨4, 0, true⟩ : S33) )) (Reps.c3 (show Kd.M k33 _ _ _ (⟨4, 4, true⟩ : S33) [.int .i64 4, .int .i64 4, .bool true] from (k33_mkM _ _ _ (⟨4, 4, true⟩ : S33) )) (Reps.c3 (show Kd.M k33 _ _ _ (⟨0, 4, true⟩ : S33) [.int .i64 0, .int .i64 4, .bool true] from (k33_mkM _ _ _ (⟨0, 4, true⟩ : S33) )) (Reps.none _ _)))))); intro v172 w2 ho3 hb hg_ hnew_; clear hg_ hnew_; (first | rw [← Ny171.out] at ho3 | (simp only [Int.reduceToNat] at ho3; rw [← Ny171.out] at ho3)); have n0_ := aM (Kd.R_lower ho3 (below_size (by repeat (first | (with_reducible first | exact HB.out | apply bA | apply bN | apply bD | refine bS ?_ GE170.out) | exact HB.out)))); have n1_ := aM (blk_below (g := gb170) (o := .cells #[.slice none 0 0, .slice none 0 0] 25 (0, 0)) (by (with_reducible repeat (first | refine kN ?_ _ | refine kD ?_ | refine kA ?_ _)); exact BK170.out) hb); have n2_ := aM (below_step (by repeat (first | (with_reducible first | exact HB.out | apply bA | apply bN | apply bD | refine bS ?_ GE170.out) | exact HB.out)) hb); clear BK170; clear HB; have HO173 := n0_; have BK170 := n1_; have HB := n2_; clear n0_ n1_ n2_; clear hb ho3) | ((with_reducible refine gate_dst (N := 6) rfl ?_); refine Kd.R_lit (Kd.int .i64) _ 3 ?hg (N := 6) ?hd (xs := ([3] : List Int)) (inner := [.int .i64 3]) (ok := fun _ => True) (okp := fun _ => True) ?hr ?hp (fun _ hk => hk) trivial (Below.refl _ _) (Nat.le_refl _) (by simp) ?_; (case hd => rfl); (case hg => rfl); (case hr => first | (go_simp; done) | (go_simp; rfl)); (case hp => exact (Reps.one (show Kd.M (Kd.int .i64) _ _ _ 3 [.int .i64 3] from rfl) (Reps.none _ _))); intro v175 w4 ho5 hb hg_ hnew_; clear hg_ hnew_; (first | rw [← Ny174.out] at ho5 | (simp only [Int.reduceToNat] at ho5; rw [← Ny174.out] at ho5)); have n0_ := aM (Kd.R_below (by (with_reducible repeat (first | apply Kd.R_alloc | apply Kd.R_drewN | apply Kd.R_drew)); exact HO173.out) hb); have n1_ := aM (Kd.R_lower ho5 (below_size (by repeat (first | (with_reducible first | exact HB.out | apply bA | apply bN | apply bD | refine bS ?_ GE170.out) | exact HB.out)))); have n2_ := aM (blk_below (g := gb170) (o := .cells #[.slice none 0 0, .slice none 0 0] 25 (0, 0)) (by (with_reducible repeat (first | refine kN ?_ _ | refine kD ?_ | refine kA ?_ _)); exact BK170.out) hb); have n3_ := aM (below_step (by repeat (first | (with_reducible first | exact HB.out | apply bA | apply bN | apply bD | refine bS ?_ GE170.out) | exact HB.out)) hb); clear HO173; clear BK170; clear HB; have HO173 := n0_; have HO176 := n1_; have BK170 := n2_; have HB := n3_; clear n0_ n1_ n2_ n3_; clear hb ho5; obtain ⟨Ao6, co6, eo6⟩ := Kd.R_slice HO176.out; subst eo6; obtain ⟨Ao7, co7, eo7⟩ := Kd.R_slice HO173.out; subst eo7; have hcz8_0 : w4.cell? ⟨gb170, 0, none⟩ = some (.slice none 0 0) := (blk_cell BK170.out 0).trans rfl; have hcz8_1 : w4.cell? ⟨gb170, 1, none⟩ = some (.slice none 0 0) := (blk_cell BK170.out 1).trans rfl; have hfz8_0 := blk_frozen BK170.out 0; have hfz8_1 := blk_frozen BK170.out 1))
 refine bodyPost_ret (results_cell_row rfl _ _ gb170 25 #[.slice Ao7 y171.length co7, .slice Ao6 y174.length co6] (0, 0) _ rfl (by (with_reducible repeat (first | refine kN ?_ _ | refine kD ?_ | refine kA ?_ _)); refine blk_put (cs := #[.slice Ao7 y171.length co7, .slice none 0 0]) ?_ 1 _ rfl; (with_reducible repeat (first | refine kN ?_ _ | refine kD ?_ | refine kA ?_ _)); refine blk_put (cs := #[.slice none 0 0, .slice none 0 0]) ?_ 0 _ rfl; (with_reducible repeat (first | refine kN ?_ _ | refine kD ?_ | refine kA ?_ _)); exact BK170.out) Try.underlying25 rfl (by kernel_rfl)) rfl ?_
 exact ⟨_, _, by first | rfl | (simp [errW_none, errW_some] <;> rfl) | (simp [*, errW_none, errW_some] <;> rfl), by (with_reducible repeat (first | apply Kd.R_alloc | apply Kd.R_drewN | apply Kd.R_drew)); exact Kd.R_mono (Kd.R_far (p := ⟨gb170, 1, none⟩) (Kd.R_far (p := ⟨gb170, 0, none⟩) (Kd.R_types HO173.out BK170.out (by decide)) (fun _ hk => hk.2) (.slice Ao7 y171.length co7)) (fun _ hk => hk.2) (.slice Ao6 y174.length co6)) (fun _ hk => trivial), by (with_reducible repeat (first | apply Kd.R_alloc | apply Kd.R_drewN | apply Kd.R_drew)); exact Kd.R_mono (Kd.R_far (p := ⟨gb170, 1, none⟩) (Kd.R_far (p := ⟨gb170, 0, none⟩) (Kd.R_types HO176.out BK170.out (by decide)) (fun _ hk => hk.2) (.slice Ao7 y171.length co7)) (fun _ hk => hk.2) (.slice Ao6 y174.length co6)) (fun _ hk => trivial), by repeat (first | (with_reducible first | exact HB.out | apply bA | apply bN | apply bD | refine bS ?_ GE170.out) | exact HB.out)⟩
end Go.Proofs.Ytbmklpcheopgoaa.H

namespace Go.Proofs.Ytbmklpcheopgoaa.H
open Go.RowKit Go.Proofs.YtbmklpcheopgoaaW.PrintWords Go.Proofs.YtbmklpcheopgoaaW.PrintLast Go.Proofs.YtbmklpcheopgoaaW.PrintMore
attribute [local go_sem] max2_int min2_int max_two min_two max_three min_three max_four min_four
set_option linter.unusedVariables false
set_option linter.unusedSimpArgs false
open Go.Proofs.YtbmklpcheopgoaaOps Go.Proofs.YtbmklpcheopgoaaIt Go.Proofs.YtbmklpcheopgoaaBlks Go.Proofs.YtbmklpcheopgoaaFlat Go.Proofs.YtbmklpcheopgoaaCallOps Go.Shelf
attribute [local go_sem] Oper.semAt_some wide_depth wide_fn World.cell?_alloc_some
def fleuronlaw03_drawn.f : Option Bool := some true
def drawnPts : List S33 := [⟨0, 0, true⟩, ⟨4, 0, true⟩, ⟨4, 4, true⟩, ⟨0, 4, true⟩]
def drawnRev : List S33 := [⟨0, 0, true⟩, ⟨0, 4, true⟩, ⟨4, 4, true⟩, ⟨4, 0, true⟩]
def drawnMov : List S33 := [⟨1, 2, true⟩, ⟨5, 2, true⟩, ⟨5, 6, true⟩, ⟨1, 6, true⟩]
def drawnTri : List S52 := [⟨0, 0⟩, ⟨64, 0⟩, ⟨64, 64⟩]
def drawnOn : List Bool := [true, false, true]
def drawnWant : List S52 := [⟨0, 0⟩, ⟨15, 1⟩, ⟨28, 4⟩, ⟨39, 9⟩, ⟨48, 16⟩, ⟨55, 25⟩, ⟨60, 36⟩, ⟨63, 49⟩, ⟨64, 64⟩]
theorem drawn1 : outline_Box.f drawnPts [3] = some (0, 0, false, 4, 4, false, true) := by kernel_rfl
theorem drawn2 : outline_Box.f [] [] = some (0, 0, false, 0, 0, false, false) := by kernel_rfl
theorem drawn3 : outline_Reversed.f drawnPts [3] = some (drawnRev, [3]) := by kernel_rfl
theorem drawn4 : outline_Moved.f 20 drawnPts [3] 1 2 = some (drawnMov, [3]) := by kernel_rfl
theorem drawn5 : outline_Lines.f drawnTri drawnOn [2] = some [drawnWant] := by kernel_rfl
theorem drawn6 : outline_Right.f 20 drawnPts [3] = some true := by kernel_rfl
theorem drawn7 : outline_Right.f 20 [] [0] = some false := by kernel_rfl
theorem drawn8 : outline_Area.f drawnPts [3] = some 32 := by kernel_rfl
theorem drawn9 : outline_Area.f drawnRev [3] = some (-32) := by kernel_rfl
theorem drawn10 : fleuronref03_SamePts.f 20 drawnWant drawnWant = some true := by kernel_rfl
theorem drawn_sl {α : Type} {d : Kd α} {e base : Nat} {ok : Nat → Prop} {w : World} {v : Value} {xs : List α} (h : d.R e w base ok v xs) {n : Nat} (hn : xs.length = n) : ∃ A c, v = .slice A n c := by
 obtain ⟨A, c, e⟩ := Kd.R_slice h
 exact ⟨A, c, by rw [e, hn]⟩
theorem drawn_reps {α : Type} {R : α → List Value → Prop} {size : Nat} (seg : α → List Value) (hs : ∀ x, (seg x).length = size) (hR : ∀ x, R x (seg x)) : ∀ xs : List α, Reps R size xs (xs.flatMap seg)
 | [] => Reps.none _ _
 | x :: xs => by
  have h1 : Reps R size [x] (seg x) := by simpa using Reps.snoc (Reps.none R size) (hR x) (hs x)
  simpa using Kd.reps_append h1 (drawn_reps seg hs hR xs)
theorem drawn_lit {α : Type} (d : Kd α) (seg : α → List Value) {w : World} (hs : ∀ x, (seg x).length = d.sz) (hK : ∀ x, d.K w x (seg x)) (xs : List α) (hm : xs.length ≤ 9223372036854775807) {g : Nat} {t : TypeId} (hb : w.heap[g]? = some (.cells (xs.flatMap seg).toArray t (0, 0))) : d.C w (some ⟨g, 0, none⟩) xs.length xs := by
 refine ⟨rfl, hm, fun _ => ⟨_, rfl, fun j p hj => ⟨seg p, hs p, hK p, fun i u hu => ?_⟩⟩⟩
 have h := (drawn_reps (R := fun x c => c = seg x) seg hs (fun _ => rfl) xs).2 j p hj
 have hi : i < d.sz := by have := (List.getElem?_eq_some_iff.1 hu).1; rw [hs] at this; exact this
 rw [← h, List.getElem?_take_of_lt hi, List.getElem?_drop] at hu
 have e : (⟨g, 0, none⟩ : Addr).add (j * d.sz + i) = ⟨g, j * d.sz + i, none⟩ := by simp [Addr.add]; omega
 rw [e, blk_cell hb]
 simpa using hu
set_option maxHeartbeats 8000000 in
set_option maxRecDepth 100000 in
theorem drawn_calls (w : World) : Calls Try.prog 21 #[] w fun e w' => e = .returned (.bool true) ∧ Below w.heap.size w w' := by
 have hu := Try.underlying25
 have hu2 := Try.underlying33
 have hu3 := Try.underlying52
 refine (callsIn_wide (n := 0)).1 (callsIn_of_wp Try.func21 rfl trivial ?_ rfl)
 simp only [Try.ntmps21, List.size_toArray, List.length_cons, List.length_nil, Nat.reduceAdd, Nat.reduceSub, Array.replicate_succ, Array.replicate_zero, List.push_toArray, List.append_toArray, List.nil_append, List.cons_append]
 gi_wp2
 refine CallsIn.mono (callsIn_wide.2 (fleuronlaw03_square.calls drawnPts [3] w rfl)) ?_
 rintro e V0 ⟨v0, v1, rfl, hR0, hR1, hb0⟩
 obtain ⟨Ap, cp, rfl⟩ := drawn_sl hR0 (n := 4) rfl
 obtain ⟨Ae, ce, rfl⟩ := drawn_sl hR1 (n := 1) rfl
 replace hR0 := R_own1 flat_pt hR0
 replace hR1 := R_own1 (flat_int .i64) hR1
 gi_wp2
 -- Box of o
 generalize hV : World.alloc V0 _ = V1
 have hB : Blks [(V0.heap.size, .cells #[.slice Ap 4 cp, .slice Ae 1 ce] 25 (0, 0))] V1 := by rw [← hV]; exact (Blks.nil V0).alloc _
 have hs1 : V1.heap.size = V0.heap.size + 1 := by rw [← hV]; simp
 have hb1 : Below V0.heap.size V0 V1 := by rw [← hV]; exact (Below.refl _ V0).alloc (Nat.le_refl _) _
 clear hV
 have HP := (Kd.R_reads' (R_chg hR0 (Chg.of_fresh (S := fun _ => False) hb1) (fun _ _ => id))).2
 have HE := (Kd.R_reads' (R_chg hR1 (Chg.of_fresh (S := fun _ => False) hb1) (fun _ _ => id))).2
 replace hb0 := hb0.trans (hb1.mono (by have := hb0.size; omega))
 clear hR0 hR1
 refine CallsIn.mono (callsIn_wide.2 (outline_Box.calls Ap cp drawnPts Ae ce [3] 0 0 false 4 4 false true V1 HP.2 HP.1 HE.2 HE.1 drawn1)) ?_
 rintro e V2 ⟨rfl, hb2⟩
 gi_wp2
 -- Box of nothing
 generalize hV : World.alloc (World.alloc V2 _) _ = V3
 have hB3 : Blks [(V2.heap.size + 1, .cells #[.int .i64 4, .int .i64 4, .bool false] 33 (0, 0)), (V2.heap.size, .cells #[.int .i64 0, .int .i64 0, .bool false] 33 (0, 0)), (V0.heap.size, .cells #[.slice Ap 4 cp, .slice Ae 1 ce] 25 (0, 0))] V3 := by rw [← hV]; exact ((hB.below hb2).alloc _).alloc_at _ (by simp)
 have hs3 : V3.heap.size = V2.heap.size + 1 + 1 := by rw [← hV]; simp
 have hb3 : Below V1.heap.size V1 V3 := by rw [← hV]; exact (hb2.alloc hb2.size _).alloc (by simp; have := hb2.size; omega) _
 clear hV hB
 refine CallsIn.mono (callsIn_wide.2 (outline_Box.calls none 0 [] none 0 [] 0 0 false 0 0 false false V3 (Kd.C_nil _ _) (Nat.le_refl _) (Kd.C_nil _ _) (Nat.le_refl _) drawn2)) ?_
 rintro e V4 ⟨rfl, hb4⟩
 have hB4 := hB3.below hb4
 have c1 := hB4.cell 2 rfl 0
 have c2 := hB4.cell 2 rfl 1
 have f1 := hB4.free 2 rfl 0
 have f2 := hB4.free 2 rfl 1
 simp only [List.getElem?_toArray, List.getElem?_cons_zero, List.getElem?_cons_succ] at c1 c2
 gi_wp2
 -- Reversed
 generalize hV : World.alloc (World.alloc V4 _) _ = V5
 have hB5 : Blks [(V4.heap.size + 1, .cells #[.int .i64 0, .int .i64 0, .bool false] 33 (0, 0)), (V4.heap.size, .cells #[.int .i64 0, .int .i64 0, .bool false] 33 (0, 0)), (V2.heap.size + 1, .cells #[.int .i64 4, .int .i64 4, .bool false] 33 (0, 0)), (V2.heap.size, .cells #[.int .i64 0, .int .i64 0, .bool false] 33 (0, 0)), (V0.heap.size, .cells #[.slice Ap 4 cp, .slice Ae 1 ce] 25 (0, 0))] V5 := by rw [← hV]; exact (hB4.alloc _).alloc_at _ (by simp)
 have hb5 : Below V1.heap.size V1 V5 := by rw [← hV]; exact hb3.trans (((hb4.alloc hb4.size _).alloc (by simp; have := hb4.size; omega) _).mono hb3.size)
 replace hB5 := hB5.sub (H' := [(V2.heap.size + 1, .cells #[.int .i64 4, .int .i64 4, .bool false] 33 (0, 0)), (V2.heap.size, .cells #[.int .i64 0, .int .i64 0, .bool false] 33 (0, 0)), (V0.heap.size, .cells #[.slice Ap 4 cp, .slice Ae 1 ce] 25 (0, 0))]) (((List.Sublist.refl _).cons _).cons _)
 clear hV hB3 hB4 c1 c2 f1 f2 hb4
 refine CallsIn.mono (callsIn_wide.2 (outline_Reversed.calls Ap cp drawnPts Ae ce [3] drawnRev [3] V5 (Kd.C_below HP.2 hb5) HP.1 (Kd.C_below HE.2 hb5) HE.1 drawn3)) ?_
 rintro e V6 ⟨v0, v1, rfl, hR0, hR1, hb6⟩
 obtain ⟨Ar, cr, rfl⟩ := drawn_sl hR0 (n := 4) rfl
 obtain ⟨As, cs, rfl⟩ := drawn_sl hR1 (n := 1) rfl
 replace hR0 := (Kd.R_reads' hR0).2
 replace hR1 := (Kd.R_reads' hR1).2
 have hB6 := hB5.below hb6
 have c1 := hB6.cell 2 rfl 0
 have c2 := hB6.cell 2 rfl 1
 have f1 := hB6.free 2 rfl 0
 have f2 := hB6.free 2 rfl 1
 simp only [List.getElem?_toArray, List.getElem?_cons_zero, List.getElem?_cons_succ] at c1 c2
 gi_wp2
 -- Moved
 generalize hV : World.alloc V6 _ = V7
 have hB7 : Blks [(V6.heap.size, .cells #[.slice Ar 4 cr, .slice As 1 cs] 25 (0, 0)), (V2.heap.size + 1, .cells #[.int .i64 4, .int .i64 4, .bool false] 33 (0, 0)), (V2.heap.size, .cells #[.int .i64 0, .int .i64 0, .bool false] 33 (0, 0)), (V0.heap.size, .cells #[.slice Ap 4 cp, .slice Ae 1 ce] 25 (0, 0))] V7 := by rw [← hV]; exact hB6.alloc _
 have hb7 : Below V6.heap.size V6 V7 := by rw [← hV]; exact (Below.refl _ V6).alloc (Nat.le_refl _) _
 have hb57 : Below V1.heap.size V1 V7 := hb5.trans ((hb6.trans (hb7.mono hb6.size)).mono hb5.size)
 have HR := Kd.C_below hR0.2 hb7
 have HS := Kd.C_below hR1.2 hb7
 clear hV hB5 hB6 c1 c2 f1 f2 hb5 hb3 hb6
 refine CallsIn.mono (callsIn_wide.2 (outline_Moved.calls 20 Ap cp drawnPts Ae ce [3] 1 2 drawnMov [3] V7 (Kd.C_below HP.2 hb57) HP.1 (Kd.C_below HE.2 hb57) HE.1 drawn4)) ?_
 rintro e V8 ⟨v0, v1, rfl, hM0, hM1, hb8⟩
 obtain ⟨Am, cm, rfl⟩ := drawn_sl hM0 (n := 4) rfl
 obtain ⟨An, cn, rfl⟩ := drawn_sl hM1 (n := 1) rfl
 replace hM0 := (Kd.R_reads' hM0).2
 replace hM1 := (Kd.R_reads' hM1).2
 have hB8 := hB7.below hb8
 gi_wp2
 -- Lines
 generalize hV : World.alloc (World.alloc (World.alloc (World.alloc V8 _) _) _) _ = V9
 have hb9 : Below V8.heap.size V8 V9 := by rw [← hV]; exact ((((Below.refl _ V8).alloc (Nat.le_refl _) _).alloc (by simp) _).alloc (by simp; omega) _).alloc (by simp; omega) _
 have hB9 : Blks [(V8.heap.size + 1 + 1 + 1, .cells #[.int .i64 2] 3 (0, 0)), (V8.heap.size + 1 + 1, .cells #[.bool true, .bool false, .bool true] 4 (0, 0)), (V8.heap.size + 1, .cells #[.int .i64 0, .int .i64 0, .int .i64 64, .int .i64 0, .int .i64 64, .int .i64 64] 52 (0, 0)), (V8.heap.size, .cells #[.slice Am 4 cm, .slice An 1 cn] 25 (0, 0)), (V6.heap.size, .cells #[.slice Ar 4 cr, .slice As 1 cs] 25 (0, 0)), (V2.heap.size + 1, .cells #[.int .i64 4, .int .i64 4, .bool false] 33 (0, 0)), (V2.heap.size, .cells #[.int .i64 0, .int .i64 0, .bool false] 33 (0, 0)), (V0.heap.size, .cells #[.slice Ap 4 cp, .slice Ae 1 ce] 25 (0, 0))] V9 := by rw [← hV]; exact (((hB8.alloc _).alloc_at _ (by simp)).alloc_at _ (by simp)).alloc_at _ (by simp)
 have HT : Kd.C k52 V9 (some ⟨V8.heap.size + 1, 0, none⟩) drawnTri.length drawnTri := drawn_lit _ (fun x => [.int .i64 x.f0, .int .i64 x.f1]) (fun _ => rfl) (fun x => k52_mk _ x) _ (by decide) (hB9.blk 2 rfl)
 have HO : Kd.C Kd.bool V9 (some ⟨V8.heap.size + 1 + 1, 0, none⟩) drawnOn.length drawnOn := drawn_lit _ (fun x => [.bool x]) (fun _ => rfl) (fun x => rfl) _ (by decide) (hB9.blk 1 rfl)
 have HN : Kd.C (Kd.int .i64) V9 (some ⟨V8.heap.size + 1 + 1 + 1, 0, none⟩) [(2 : Int)].length [2] := drawn_lit _ (fun x => [.int .i64 x]) (fun _ => rfl) (fun x => rfl) _ (by decide) (hB9.blk 0 rfl)
 replace hB9 := hB9.tail.tail.tail
 clear hV hB8 hB7
 refine CallsIn.mono (callsIn_wide.2 (outline_Lines.calls _ 3 drawnTri _ 3 drawnOn _ 1 [2] [drawnWant] V9 HT (by decide) HO (by decide) HN (by decide) drawn5)) ?_
 rintro e V10 ⟨v0, rfl, hL, hb10⟩
 obtain ⟨Al, cl, rfl⟩ := Kd.S_slice hL
 simp only [List.length_cons, List.length_nil, Nat.zero_add] at hL ⊢
 obtain ⟨-, hcl, hLC⟩ := Kd.S_reads' hL
 clear hL
 obtain ⟨ad, rfl, hLD⟩ := hLC.2.2 (by decide)
 obtain ⟨c, -, ⟨Aw, cw, rfl, hcw, hWC⟩, hx⟩ := hLD 0 _ rfl
 have hx := hx 0 _ rfl
 have hB10 := hB9.below hb10
 have m0 := hB10.cell 0 rfl 0
 have m1 := hB10.cell 0 rfl 1
 have r0 := hB10.cell 1 rfl 0
 have r1 := hB10.cell 1 rfl 1
 have o0 := hB10.cell 4 rfl 0
 have o1 := hB10.cell 4 rfl 1
 have h0 := hB10.cell 2 rfl 0
 have h1 := hB10.cell 2 rfl 1
 have h2 := hB10.cell 2 rfl 2
 have l0 := hB10.cell 3 rfl 0
 have l1 := hB10.cell 3 rfl 1
 have l2 := hB10.cell 3 rfl 2
 simp only [List.getElem?_toArray, List.getElem?_cons_zero, List.getElem?_cons_succ] at m0 m1 r0 r1 o0 o1 h0 h1 h2 l0 l1 l2
 gi_wp2
 -- Right of o
 generalize hV : World.alloc V10 _ = V11
 have hb11 : Below V10.heap.size V10 V11 := by rw [← hV]; exact (Below.refl _ V10).alloc (Nat.le_refl _) _
 have hW11 := (hB10.alloc (.cells #[.int .i64 0, .int .i64 0, .int .i64 15, .int .i64 1, .int .i64 28, .int .i64 4, .int .i64 39, .int .i64 9, .int .i64 48, .int .i64 16, .int .i64 55, .int .i64 25, .int .i64 60, .int .i64 36, .int .i64 63, .int .i64 49, .int .i64 64, .int .i64 64] 52 (0, 0)))
 rw [hV] at hW11
 have HQ : Kd.C k52 V11 (some ⟨V10.heap.size, 0, none⟩) drawnWant.length drawnWant := drawn_lit _ (fun x => [.int .i64 x.f0, .int .i64 x.f1]) (fun _ => rfl) (fun x => k52_mk _ x) _ (by decide) (hW11.blk 0 rfl)
 have hB11 := hW11.tail
 clear hV hW11
 clear m0 m1 r0 r1 o0 o1 h0 h1 h2 l0 l1 l2
 have b1_11 : Below V1.heap.size V1 V11 := hb57.trans ((hb8.trans ((hb9.trans ((hb10.trans (hb11.mono hb10.size)).mono hb9.size)).mono hb8.size)).mono hb57.size)
 refine CallsIn.mono (callsIn_wide.2 (outline_Right.calls 20 Ap cp drawnPts Ae ce [3] true V11 (Kd.C_below HP.2 b1_11) HP.1 (Kd.C_below HE.2 b1_11) HE.1 drawn6)) ?_
 rintro e V12 ⟨rfl, hb12⟩
 have hB12 := hB11.below hb12
 have m0 := hB12.cell 0 rfl 0
 have m1 := hB12.cell 0 rfl 1
 have r0 := hB12.cell 1 rfl 0
 have r1 := hB12.cell 1 rfl 1
 have o0 := hB12.cell 4 rfl 0
 have o1 := hB12.cell 4 rfl 1
 have h0 := hB12.cell 2 rfl 0
 have h1 := hB12.cell 2 rfl 1
 have h2 := hB12.cell 2 rfl 2
 have l0 := hB12.cell 3 rfl 0
 have l1 := hB12.cell 3 rfl 1
 have l2 := hB12.cell 3 rfl 2
 simp only [List.getElem?_toArray, List.getElem?_cons_zero, List.getElem?_cons_succ] at m0 m1 r0 r1 o0 o1 h0 h1 h2 l0 l1 l2
 gi_wp2
 -- Right of what may not be
 generalize hV : World.alloc V12 _ = V13
 have hb13 : Below V12.heap.size V12 V13 := by rw [← hV]; exact (Below.refl _ V12).alloc (Nat.le_refl _) _
 have hZ := hB12.alloc (.cells #[.int .i64 0] 3 (0, 0))
 rw [hV] at hZ
 have HZ : Kd.C (Kd.int .i64) V13 (some ⟨V12.heap.size, 0, none⟩) [(0 : Int)].length [0] := drawn_lit _ (fun x => [.int .i64 x]) (fun _ => rfl) (fun x => rfl) _ (by decide) (hZ.blk 0 rfl)
 have hB13 := hZ.tail
 clear hV hZ
 clear m0 m1 r0 r1 o0 o1 h0 h1 h2 l0 l1 l2
 refine CallsIn.mono (callsIn_wide.2 (outline_Right.calls 20 none 0 [] _ 1 [0] false V13 (Kd.C_nil _ _) (Nat.le_refl _) HZ (by decide) drawn7)) ?_
 rintro e V14 ⟨rfl, hb14⟩
 have hB14 := hB13.below hb14
 have m0 := hB14.cell 0 rfl 0
 have m1 := hB14.cell 0 rfl 1
 have r0 := hB14.cell 1 rfl 0
 have r1 := hB14.cell 1 rfl 1
 have o0 := hB14.cell 4 rfl 0
 have o1 := hB14.cell 4 rfl 1
 have h0 := hB14.cell 2 rfl 0
 have h1 := hB14.cell 2 rfl 1
 have h2 := hB14.cell 2 rfl 2
 have l0 := hB14.cell 3 rfl 0
 have l1 := hB14.cell 3 rfl 1
 have l2 := hB14.cell 3 rfl 2
 simp only [List.getElem?_toArray, List.getElem?_cons_zero, List.getElem?_cons_succ] at m0 m1 r0 r1 o0 o1 h0 h1 h2 l0 l1 l2
 gi_wp2
 -- Area of o
 clear m0 m1 r0 r1 o0 o1 h0 h1 h2 l0 l1 l2
 have hb1114 : Below V11.heap.size V11 V14 := hb12.trans ((hb13.trans (hb14.mono hb13.size)).mono hb12.size)
 have b1_14 : Below V1.heap.size V1 V14 := b1_11.trans (hb1114.mono b1_11.size)
 refine CallsIn.mono (callsIn_wide.2 (outline_Area.calls Ap cp drawnPts Ae ce [3] 32 V14 (Kd.C_below HP.2 b1_14) HP.1 (Kd.C_below HE.2 b1_14) HE.1 drawn8)) ?_
 rintro e V15 ⟨rfl, hb15⟩
 have hB15 := hB14.below hb15
 have m0 := hB15.cell 0 rfl 0
 have m1 := hB15.cell 0 rfl 1
 have r0 := hB15.cell 1 rfl 0
 have r1 := hB15.cell 1 rfl 1
 have o0 := hB15.cell 4 rfl 0
 have o1 := hB15.cell 4 rfl 1
 have h0 := hB15.cell 2 rfl 0
 have h1 := hB15.cell 2 rfl 1
 have h2 := hB15.cell 2 rfl 2
 have l0 := hB15.cell 3 rfl 0
 have l1 := hB15.cell 3 rfl 1
 have l2 := hB15.cell 3 rfl 2
 simp only [List.getElem?_toArray, List.getElem?_cons_zero, List.getElem?_cons_succ] at m0 m1 r0 r1 o0 o1 h0 h1 h2 l0 l1 l2
 gi_wp2
 -- Area of r
 clear m0 m1 r0 r1 o0 o1 h0 h1 h2 l0 l1 l2
 have hb1115 : Below V11.heap.size V11 V15 := hb1114.trans (hb15.mono hb1114.size)
 have hb811 : Below V8.heap.size V8 V11 := hb9.trans ((hb10.trans (hb11.mono hb10.size)).mono hb9.size)
 have hb815 : Below V8.heap.size V8 V15 := hb811.trans (hb1115.mono hb811.size)
 have hb715 : Below V7.heap.size V7 V15 := hb8.trans (hb815.mono hb8.size)
 refine CallsIn.mono (callsIn_wide.2 (outline_Area.calls Ar cr drawnRev As cs [3] (-32) V15 (Kd.C_below HR hb715) hR0.1 (Kd.C_below HS hb715) hR1.1 drawn9)) ?_
 rintro e V16 ⟨rfl, hb16⟩
 have hB16 := hB15.below hb16
 have m0 := hB16.cell 0 rfl 0
 have m1 := hB16.cell 0 rfl 1
 have r0 := hB16.cell 1 rfl 0
 have r1 := hB16.cell 1 rfl 1
 have o0 := hB16.cell 4 rfl 0
 have o1 := hB16.cell 4 rfl 1
 have h0 := hB16.cell 2 rfl 0
 have h1 := hB16.cell 2 rfl 1
 have h2 := hB16.cell 2 rfl 2
 have l0 := hB16.cell 3 rfl 0
 have l1 := hB16.cell 3 rfl 1
 have l2 := hB16.cell 3 rfl 2
 simp only [List.getElem?_toArray, List.getElem?_cons_zero, List.getElem?_cons_succ] at m0 m1 r0 r1 o0 o1 h0 h1 h2 l0 l1 l2
 have HR16 := Kd.C_below (Kd.C_below HR hb715) hb16
 have HM16 := Kd.C_below (Kd.C_below hM0.2 hb815) hb16
 obtain ⟨ar, rfl, HRc⟩ := HR16.2.2 (by decide)
 obtain ⟨am, rfl, HMc⟩ := HM16.2.2 (by decide)
 obtain ⟨cr1, -, kr1, xr1⟩ := HRc 1 _ rfl
 obtain ⟨cm0, -, km0, xm0⟩ := HMc 0 _ rfl
 obtain rfl := k33_open kr1
 obtain rfl := k33_open km0
 have yr : V16.cell? ⟨ar.block, ar.off + 3 + 1, none⟩ = some (.int .i64 4) := xr1 1 _ rfl
 have ym : V16.cell? ⟨am.block, am.off + 1, none⟩ = some (.int .i64 2) := xm0 1 _ rfl
 have hb1016 : Below V10.heap.size V10 V16 := hb11.trans ((hb1115.trans (hb16.mono hb1115.size)).mono hb11.size)
 have hl16 := (Kd.C_below hLC hb1016).2.2 (by decide)
 obtain ⟨ad', e', hLE⟩ := hl16
 obtain rfl : ad = ad' := by simpa using e'
 obtain ⟨c', -, ⟨Ax, cx, rfl, hcx, hXC⟩, hx'⟩ := hLE 0 _ rfl
 have hx' : V16.cell? ad = some (.slice Ax 9 cx) := hx' 0 _ rfl
 clear hx
 gi_wp2
 have HQ16 := Kd.C_below HQ ((hb1115.trans (hb16.mono hb1115.size)))
 refine CallsIn.mono (callsIn_wide.2 (fleuronref03_SamePts.calls 20 Ax cx drawnWant _ 9 drawnWant true V16 hXC hcx HQ16 (by decide) drawn10)) ?_
 rintro e V17 ⟨rfl, hd⟩
 gi_wp2
 go_ret
 have hbz : Below V11.heap.size V11 V17 := hb1115.trans ((hb16.trans (hd.below.mono hb16.size)).mono hb1115.size)
 exact ⟨rfl, hb0.trans ((b1_11.trans (hbz.mono b1_11.size)).mono hb0.size)⟩
theorem fleuronlaw03_drawn.calls (r : Bool) (w : World) (h : fleuronlaw03_drawn.f = some r) : Calls Try.prog 21 #[] w fun e w' => e = .returned (.bool r) ∧ Below w.heap.size w w' := by
 simp only [fleuronlaw03_drawn.f, Option.some.injEq] at h
 subst h
 exact drawn_calls w
end Go.Proofs.Ytbmklpcheopgoaa.H

namespace Go.Proofs.Ytbmklpcheopgoaa.H
open Go.RowKit Go.Proofs.YtbmklpcheopgoaaW.PrintWords Go.Proofs.YtbmklpcheopgoaaW.PrintLast Go.Proofs.YtbmklpcheopgoaaW.PrintMore
attribute [local go_sem] max2_int min2_int max_two min_two max_three min_three max_four min_four
set_option linter.unusedVariables false
set_option linter.unusedSimpArgs false
mutual
def fleuronref03_Right.j0 : Nat → Bool → List (S33) → List Int → Option (Bool)
 | 0, _, _, _ => none
 | k + 1, x16, x178000, x178001 => if x16 = true then (some false) else (fleuronref03_Right.l0 k 0 x178000 x178001)
def fleuronref03_Right.l0 : Nat → Int → List (S33) → List Int → Option (Bool)
 | 0, _, _, _ => none
 | k + 1, x3, x178000, x178001 => if x3 < (x178000.length : Int) then (if 0 ≤ x3 then (if ((rd_T33 x178000 x3).f0) < (-16384) then (some false) else (if ((rd_T33 x178000 x3).f0) > 16384 then (some false) else (if ((rd_T33 x178000 x3).f1) < (-16384) then (some false) else (if ((rd_T33 x178000 x3).f1) > 16384 then (some false) else (fleuronref03_Right.l0 k (wrap64 (x3 + 1)) x178000 x178001))))) else (none)) else (fleuronref03_Right.l1 k (-1) 0 x178000 x178001)
def fleuronref03_Right.l1 : Nat → Int → Int → List (S33) → List Int → Option (Bool)
 | 0, _, _, _, _ => none
 | k + 1, x5, x6, x178000, x178001 => if x6 < (x178001.length : Int) then (if 0 ≤ x6 then (if (rd x178001 x6) > (x178000.length : Int) then (some false) else (if (rd x178001 x6) < (wrap64 (x5 + 2)) then (some false) else (fleuronref03_Right.l1 k (rd x178001 x6) (wrap64 (x6 + 1)) x178000 x178001))) else (none)) else (some (x5 == (wrap64 ((x178000.length : Int) - 1))))
end
def fleuronref03_Right.f (k : Nat) (l0_0 : List (S33)) (l0_1 : List Int) : Option (Bool) := if (l0_0.length : Int) > 200 then (fleuronref03_Right.j0 k true l0_0 l0_1) else (fleuronref03_Right.j0 k (decide ((l0_1.length : Int) > 40)) l0_0 l0_1)
theorem fleuronref03_Right.mono_l : ∀ k, (∀ y0 y1 y2, LeO (fleuronref03_Right.j0 k y0 y1 y2) (fleuronref03_Right.j0 (k + 1) y0 y1 y2)) ∧ (∀ y0 y1 y2, LeO (fleuronref03_Right.l0 k y0 y1 y2) (fleuronref03_Right.l0 (k + 1) y0 y1 y2)) ∧ (∀ y0 y1 y2 y3, LeO (fleuronref03_Right.l1 k y0 y1 y2 y3) (fleuronref03_Right.l1 (k + 1) y0 y1 y2 y3))
 | 0 => ⟨fun _ _ _ r h => by simp [fleuronref03_Right.j0] at h, fun _ _ _ r h => by simp [fleuronref03_Right.l0] at h, fun _ _ _ _ r h => by simp [fleuronref03_Right.l1] at h⟩
 | k + 1 => by
  obtain ⟨ih0, ih1, ih2⟩ := fleuronref03_Right.mono_l k
  refine ⟨?_, ?_, ?_⟩
  ·
   intro y0 y1 y2
   unfold fleuronref03_Right.j0
   repeat' first
   | (with_reducible exact ih0 _ _ _)
   | (with_reducible exact ih1 _ _ _)
   | (with_reducible exact ih2 _ _ _ _)
   | (with_reducible exact LeO.refl _)
   | (with_reducible exact LeO.none _)
   | (with_reducible refine LeO.ite ?_ ?_)
   | (with_reducible refine LeO.bind ?_ (fun _ => ?_))
   | exact ih0 _ _ _
   | exact ih1 _ _ _
   | exact ih2 _ _ _ _
   | exact LeO.none _
   | refine LeO.ite ?_ ?_
   | refine LeO.bind ?_ (fun _ => ?_)
  ·
   intro y0 y1 y2
   unfold fleuronref03_Right.l0
   repeat' first
   | (with_reducible exact ih0 _ _ _)
   | (with_reducible exact ih1 _ _ _)
   | (with_reducible exact ih2 _ _ _ _)
   | (with_reducible exact LeO.refl _)
   | (with_reducible exact LeO.none _)
   | (with_reducible refine LeO.ite ?_ ?_)
   | (with_reducible refine LeO.bind ?_ (fun _ => ?_))
   | exact ih0 _ _ _
   | exact ih1 _ _ _
   | exact ih2 _ _ _ _
   | exact LeO.none _
   | refine LeO.ite ?_ ?_
   | refine LeO.bind ?_ (fun _ => ?_)
  ·
   intro y0 y1 y2 y3
   unfold fleuronref03_Right.l1
   repeat' first
   | (with_reducible exact ih0 _ _ _)
   | (with_reducible exact ih1 _ _ _)
   | (with_reducible exact ih2 _ _ _ _)
   | (with_reducible exact LeO.refl _)
   | (with_reducible exact LeO.none _)
   | (with_reducible refine LeO.ite ?_ ?_)
   | (with_reducible refine LeO.bind ?_ (fun _ => ?_))
   | exact ih0 _ _ _
   | exact ih1 _ _ _
   | exact ih2 _ _ _ _
   | exact LeO.none _
   | refine LeO.ite ?_ ?_
   | refine LeO.bind ?_ (fun _ => ?_)
theorem fleuronref03_Right.mono : ∀ a0 a1 k, LeO (fleuronref03_Right.f k a0 a1) (fleuronref03_Right.f (k + 1) a0 a1) := by
 intro a0 a1 k
 obtain ⟨ih0, ih1, ih2⟩ := fleuronref03_Right.mono_l k
 unfold fleuronref03_Right.f
 repeat' first
   | (with_reducible exact ih0 _ _ _)
   | (with_reducible exact ih1 _ _ _)
   | (with_reducible exact ih2 _ _ _ _)
   | (with_reducible exact LeO.refl _)
   | (with_reducible exact LeO.none _)
   | (with_reducible refine LeO.ite ?_ ?_)
   | (with_reducible refine LeO.bind ?_ (fun _ => ?_))
   | exact ih0 _ _ _
   | exact ih1 _ _ _
   | exact ih2 _ _ _ _
   | exact LeO.none _
   | refine LeO.ite ?_ ?_
   | refine LeO.bind ?_ (fun _ => ?_)
set_option maxHeartbeats 8000000 in
set_option maxRecDepth 100000 in
theorem fleuronref03_Right.calls (k : Nat) (A0_0 : Option Addr) (c0_0 : Nat) (l0_0 : List (S33)) (A0_1 : Option Addr) (c0_1 : Nat) (l0_1 : List Int) (r : Bool) (w : World) (hr0_0 : Kd.C k33 w A0_0 l0_0.length l0_0) (hc0_0 : l0_0.length ≤ c0_0) (hr0_1 : Kd.C (Kd.int .i64) w A0_1 l0_1.length l0_1) (hc0_1 : l0_1.length ≤ c0_1) (h : fleuronref03_Right.f k l0_0 l0_1 = some r) :
  Calls Try.prog 23 #[.agg #[.slice A0_0 l0_0.length c0_0, .slice A0_1 l0_1.length c0_1]] w fun e w' => e = .returned (.bool r) ∧ Below w.heap.size w w' := by
 have hu25 := Try.underlying25
 have hu33 := Try.underlying33
 have HR0_0 := aM hr0_0
 have HC0_0 := aM hc0_0
 clear hr0_0 hc0_0
 have HR0_1 := aM hr0_1
 have HC0_1 := aM hc0_1
 clear hr0_1 hc0_1
 have HB := aM (Below.refl w.heap.size w)
 have H : (if (l0_0.length : Int) > 200 then (fleuronref03_Right.j0 k true l0_0 l0_1) else (fleuronref03_Right.j0 k (decide ((l0_1.length : Int) > 40)) l0_0 l0_1)) = some r := h
 clear h
 have HC2 := aM H
 clear H
 go_enter Try.func23, Try.ntmps23
 go_upto_region 1 with (first | ((with_reducible refine gate_dst (N := 1) rfl ?_); (try (refine gate_guard (by rfl) ?_; dsimp only)); refine box_event ?hg (N := 1) ?hd (cs := #[.slice A0_0 l0_0.length c0_0, .slice A0_1 l0_1.length c0_1]) (t := 25) ?hr ?_; (case hd => rfl); (case hg => rfl); (case hr => first | (go_simp; done) | (go_simp; rfl)); intro gb177 hg w3 hbox hb; have n0_ := aM (below_step (by repeat (first | (with_reducible first | exact HB.out | apply bA | apply bN | apply bD) | exact HB.out)) hb); have n1_ := aM (hbox); have n2_ := aM ((by rw [hg]; exact (below_size (by repeat (first | (with_reducible first | exact HB.out | apply bA | apply bN | apply bD) | exact HB.out))) : w.heap.size ≤ gb177)); have n3_ := aM ((by rw [hg]; exact (below_size (by repeat (first | (with_reducible first | exact HB.out | apply bA | apply bN | apply bD) | exact HB.out))) : w.heap.size ≤ gb177)); clear HB; have HB := n0_; have BK177 := n1_; have GW177 := n2_; have GE177 := n3_; clear n0_ n1_ n2_ n3_; clear hb hbox hg))
 repeat (go_quiet (first | ((with_reducible refine gate_dst (N := 1) rfl ?_); (try (refine gate_guard (by rfl) ?_; dsimp only)); refine box_event ?hg (N := 1) ?hd (cs := #[.slice A0_0 l0_0.length c0_0, .slice A0_1 l0_1.length c0_1]) (t := 25) ?hr ?_; (case hd => rfl); (case hg => rfl); (case hr => first | (go_simp; done) | (go_simp; rfl)); intro gb177 hg w3 hbox hb; have n0_ := aM (below_step (by repeat (first | (with_reducible first | exact HB.out | apply bA | apply bN | apply bD) | exact HB.out)) hb); have n1_ := aM (hbox); have n2_ := aM ((by rw [hg]; exact (below_size (by repeat (first | (with_reducible first | exact HB.out | apply bA | apply bN | apply bD) | exact HB.out))) : w.heap.size ≤ gb177)); have n3_ := aM ((by rw [hg]; exact (below_size (by repeat (first | (with_reducible first | exact HB.out | apply bA | apply bN | apply bD) | exact HB.out))) : w.heap.size ≤ gb177)); clear HB; have HB := n0_; have BK177 := n1_; have GW177 := n2_; have GE177 := n3_; clear n0_ n1_ n2_ n3_; clear hb hbox hg)); go_upto_region 1 with (first | ((with_reducible refine gate_dst (N := 1) rfl ?_); (try (refine gate_guard (by rfl) ?_; dsimp only)); refine box_event ?hg (N := 1) ?hd (cs := #[.slice A0_0 l0_0.length c0_0, .slice A0_1 l0_1.length c0_1]) (t := 25) ?hr ?_; (case hd => rfl); (case hg => rfl); (case hr => first | (go_simp; done) | (go_simp; rfl)); intro gb177 hg w3 hbox hb; have n0_ := aM (below_step (by repeat (first | (with_reducible first | exact HB.out | apply bA | apply bN | apply bD) | exact HB.out)) hb); have n1_ := aM (hbox); have n2_ := aM ((by rw [hg]; exact (below_size (by repeat (first | (with_reducible first | exact HB.out | apply bA | apply bN | apply bD) | exact HB.out))) : w.heap.size ≤ gb177)); have n3_ := aM ((by rw [hg]; exact (below_size (by repeat (first | (with_reducible first | exact HB.out | apply bA | apply bN | apply bD) | exact HB.out))) : w.heap.size ≤ gb177)); clear HB; have HB := n0_; have BK177 := n1_; have GW177 := n2_; have GE177 := n3_; clear n0_ n1_ n2_ n3_; clear hb hbox hg)))
 (try simp only [Act.put, List.setIfInBounds_toArray, List.set_cons_zero, List.set_cons_succ])
 go_cut [16] (fun v16 wc => ∃ (kq : Nat) (x16_1 : Bool), v16 = .bool x16_1 ∧ Aside0 (fleuronref03_Right.j0 kq x16_1 l0_0 l0_1 = some r) ∧ Aside0 (kq ≤ k) ∧ Aside0 (wc.heap[gb177]? = some (.cells #[(.slice A0_0 l0_0.length c0_0), (.slice A0_1 l0_1.length c0_1)] 25 (0, 0))) ∧ Aside0 (Below w.heap.size w wc))
 case first =>
  have H := HC2.out
  clear HC2
  by_cases c4 : (l0_0.length : Int) > 200
  ·
   rw [if_pos c4] at H
   have c4b0 : decide (200 < (l0_0.length : Int)) = true := decide_eq_true c4
   have c4b1 : decide (200 < l0_0.length) = true := decide_eq_true (by omega)
   clear c4
   (first | rw [c4b0] | (simp only [i64_w, i32_w]; rw [c4b0]) | skip)
   have H' := aM H
   clear H
   have hcz5_0 : w3.cell? ⟨gb177, 0, none⟩ = some (.slice A0_0 l0_0.length c0_0) := (blk_cell BK177.out 0).trans rfl
   have hcz5_1 : w3.cell? ⟨gb177, 1, none⟩ = some (.slice A0_1 l0_1.length c0_1) := (blk_cell BK177.out 1).trans rfl
   have hfz5_0 := blk_frozen BK177.out 0
   have hfz5_1 := blk_frozen BK177.out 1
   go_wp2
   repeat (go_quiet (fail); try go_wp2)
   go_meet
   case rel => exact ⟨_, (true), (by first | rfl | (simp; done) | (simp [*]; done)), H', ⟨by first | omega | exact Nat.le_refl _⟩, ⟨by (with_reducible repeat (first | refine kN ?_ _ | refine kD ?_ | refine kA ?_ _)); exact BK177.out⟩, ⟨by repeat (first | (with_reducible first | exact HB.out | apply bA | apply bN | apply bD | refine bS ?_ GE177.out) | exact HB.out)⟩⟩
  ·
   rw [if_neg c4] at H
   have c4b0 : decide (200 < (l0_0.length : Int)) = false := decide_eq_false c4
   have c4b1 : decide (200 < l0_0.length) = false := decide_eq_false (by omega)
   clear c4
   (first | rw [c4b0] | (simp only [i64_w, i32_w]; rw [c4b0]) | skip)
   have H' := aM H
   clear H
   have hcz6_0 : w3.cell? ⟨gb177, 0, none⟩ = some (.slice A0_0 l0_0.length c0_0) := (blk_cell BK177.out 0).trans rfl
   have hcz6_1 : w3.cell? ⟨gb177, 1, none⟩ = some (.slice A0_1 l0_1.length c0_1) := (blk_cell BK177.out 1).trans rfl
   have hfz6_0 := blk_frozen BK177.out 0
   have hfz6_1 := blk_frozen BK177.out 1
   go_wp2
   repeat (go_quiet (fail); try go_wp2)
   go_meet
   case rel => exact ⟨_, (decide ((l0_1.length : Int) > 40)), (by first | rfl | (simp; done) | (simp [*]; done)), H', ⟨by first | omega | exact Nat.le_refl _⟩, ⟨by (with_reducible repeat (first | refine kN ?_ _ | refine kD ?_ | refine kA ?_ _)); exact BK177.out⟩, ⟨by repeat (first | (with_reducible first | exact HB.out | apply bA | apply bN | apply bD | refine bS ?_ GE177.out) | exact HB.out)⟩⟩
 case rest =>
  clear HC2
  try clear c2
  try clear p2
  try clear c4
  try clear c4b0
  try clear c4b1
  try clear hcz5_0
  try clear hcz5_1
  try clear hcz6_0
  try clear hcz6_1
  try clear hfz5_0
  try clear hfz5_1
  try clear hfz6_0
  try clear hfz6_1
  obtain ⟨kq, x16_1, rfl, HA, HJ1, BK177, HB⟩ := hcut
  cases kq with
  | zero => exact absurd HA.out (by simp [fleuronref03_Right.j0])
  | succ kj1 =>
   have H := HA.out
   clear HA
   simp only [fleuronref03_Right.j0] at H
   by_cases c7 : x16_1 = true
   ·
    subst c7
    have H1 : (some false) = some r := by rw [if_pos rfl] at H; exact H
    clear H
    have H := H1
    clear H1
    obtain rfl := Option.some.inj H
    go_wp2
    repeat (go_quiet (fail); try go_wp2)
    go_ret
    exact ⟨by first | rfl | (simp [errW_none, errW_some] <;> rfl) | (simp [*, errW_none, errW_some] <;> rfl), by repeat (first | (with_reducible first | exact HB.out | apply bA | apply bN | apply bD | refine bS ?_ GE177.out) | exact HB.out)⟩
   ·
    replace c7 := Bool.eq_false_iff.mpr c7
    subst c7
    have H1 : (fleuronref03_Right.l0 kj1 0 l0_0 l0_1) = some r := by rw [if_neg (show ¬ (false = true) by decide)] at H; exact H
    clear H
    have H := H1
    clear H1
    have H' := aM H
    clear H
    go_wp2
    repeat (go_quiet (fail); try go_wp2)
    go_loopg [3] kj1 (fun kq v3 w' => ∃ (x3_2 : Int), v3 = .int .i64 x3_2 ∧ Aside0 (fleuronref03_Right.l0 kq x3_2 l0_0 l0_1 = some r) ∧ Aside0 (kq ≤ kj1) ∧ Aside0 (w'.heap[gb177]? = some (.cells #[(.slice A0_0 l0_0.length c0_0), (.slice A0_1 l0_1.length c0_1)] 25 (0, 0))) ∧ Aside0 (Below w.heap.size w w'))
    case atStart => exact ⟨(0), (by first | rfl | (simp; done) | (simp [*]; done)), H', ⟨Nat.le_refl _⟩, ⟨by (with_reducible repeat (first | refine kN ?_ _ | refine kD ?_ | refine kA ?_ _)); exact BK177.out⟩, ⟨by repeat (first | (with_reducible first | exact HB.out | apply bA | apply bN | apply bD | refine bS ?_ GE177.out) | exact HB.out)⟩⟩
    case round =>
     clear H'
     try clear c2
     try clear p2
     try clear c4
     try clear c4b0
     try clear c4b1
     try clear c7
     try clear hcz5_0
     try clear hcz5_1
     try clear hcz6_0
     try clear hcz6_1
     try clear hfz5_0
     try clear hfz5_1
     try clear hfz6_0
     try clear hfz6_1
     try clear p2
     obtain ⟨x3_2, rfl, HA, HK2, BK177, HB⟩ := hrel
     cases gk with
     | zero => exact absurd HA.out (by simp [fleuronref03_Right.l0])
     | succ k2 =>
      have H := HA.out
      clear HA
      simp only [fleuronref03_Right.l0] at H
      by_cases c8 : x3_2 < (l0_0.length : Int)
      ·
       rw [if_pos c8] at H
       have c8b0 : decide (x3_2 < (l0_0.length : Int)) = true := decide_eq_true c8
       clear c8
       by_cases c9 : 0 ≤ x3_2
       ·
        rw [if_pos c9] at H
        have c9b0 : decide (0 ≤ x3_2) = true := decide_eq_true c9
        clear c9
        by_cases c10 : ((rd_T33 l0_0 x3_2).f0) < (-16384)
        ·
         rw [if_pos c10] at H
         have c10b0 : decide (((rd_T33 l0_0 x3_2).f0) < (-16384)) = true := decide_eq_true c10
         clear c10
         obtain rfl := Option.some.inj H
         have hcz11_0 : wr.cell? ⟨gb177, 0, none⟩ = some (.slice A0_0 l0_0.length c0_0) := (blk_cell BK177.out 0).trans rfl
         have hcz11_1 : wr.cell? ⟨gb177, 1, none⟩ = some (.slice A0_1 l0_1.length c0_1) := (blk_cell BK177.out 1).trans rfl
         have hfz11_0 := blk_frozen BK177.out 0
         have hfz11_1 := blk_frozen BK177.out 1
         have p178 : 0 ≤ (x3_2 : Int) := dT (by assumption)
         have q178 : x3_2 < (l0_0.length : Int) := dT (by assumption)
         obtain ⟨ad178, e178, hx178_0, hx178_1, hx178_2⟩ := at_T33 HR0_0.out x3_2 p178 q178
         cases e178
         replace hx178_0 := (HB.out.cell (World.block_lt_of_cell? w _ hx178_0)).trans hx178_0
         replace hx178_1 := (HB.out.cell (World.block_lt_of_cell? w _ hx178_1)).trans hx178_1
         replace hx178_2 := (HB.out.cell (World.block_lt_of_cell? w _ hx178_2)).trans hx178_2
         replace p178 := eq_true p178
         replace q178 := eq_true q178
         go_wp2_with (first | ((with_reducible refine gate_dst (N := 4) rfl ?_); (try (refine gate_guard (by rfl) ?_; dsimp only)); refine box_event ?hg (N := 4) ?hd (cs := #[.int .i64 0, .int .i64 0, .bool false]) (t := 33) ?hr ?_; (case hd => rfl); (case hg => rfl); (case hr => first | (go_simp; done) | (go_simp; rfl)); intro gb179 hg w12 hbox hb; have n0_ := aM (blk_below (g := gb177) (o := .cells #[.slice (some ad178) l0_0.length c0_0, .slice A0_1 l0_1.length c0_1] 25 (0, 0)) (by (with_reducible repeat (first | refine kN ?_ _ | refine kD ?_ | refine kA ?_ _)); exact BK177.out) hb); have n1_ := aM (below_step (by repeat (first | (with_reducible first | exact HB.out | apply bA | apply bN | apply bD | refine bS ?_ GE177.out) | exact HB.out)) hb); have n2_ := aM (hbox); have n3_ := aM ((by rw [hg]; exact (below_size (by repeat (first | (with_reducible first | exact HB.out | apply bA | apply bN | apply bD | refine bS ?_ GE177.out) | exact HB.out))) : w.heap.size ≤ gb179)); have n4_ := aM ((by rw [hg]; exact (below_size (by repeat (first | (with_reducible first | exact HB.out | apply bA | apply bN | apply bD | refine bS ?_ GE177.out) | exact HB.out))) : w.heap.size ≤ gb179)); have n5_ := aM ((by rw [hg]; exact Nat.ne_of_lt (blk_lt (g := gb177) (o := .cells #[.slice (some ad178) l0_0.length c0_0, .slice A0_1 l0_1.length c0_1] 25 (0, 0)) (by (with_reducible repeat (first | refine kN ?_ _ | refine kD ?_ | refine kA ?_ _)); exact BK177.out)) : gb177 ≠ gb179)); have n6_ := aM ((by rw [hg]; exact Nat.ne_of_gt (blk_lt (g := gb177) (o := .cells #[.slice (some ad178) l0_0.length c0_0, .slice A0_1 l0_1.length c0_1] 25 (0, 0)) (by (with_reducible repeat (first | refine kN ?_ _ | refine kD ?_ | refine kA ?_ _)); exact BK177.out)) : gb179 ≠ gb177)); clear BK177; clear HB; have BK177 := n0_; have HB := n1_; have BK179 := n2_; have GW179 := n3_; have GE179 := n4_; have NB177_179 := n5_; have NB179_177 := n6_; clear n0_ n1_ n2_ n3_ n4_ n5_ n6_; clear hb hbox hg; have hnb13 := NB179_177.out; have hnc13 := NB177_179.out; have hcz14_0 : w12.cell? ⟨gb179, 0, none⟩ = some (.int .i64 0) := (blk_cell BK179.out 0).trans rfl; have hcz14_1 : w12.cell? ⟨gb179, 1, none⟩ = some (.int .i64 0) := (blk_cell BK179.out 1).trans rfl; have hcz14_2 : w12.cell? ⟨gb179, 2, none⟩ = some (.bool false) := (blk_cell BK179.out 2).trans rfl; have hfz14_0 := blk_frozen BK179.out 0; have hfz14_1 := blk_frozen BK179.out 1; have hfz14_2 := blk_frozen BK179.out 2))
         repeat (go_quiet (first | ((with_reducible refine gate_dst (N := 4) rfl ?_); (try (refine gate_guard (by rfl) ?_; dsimp only)); refine box_event ?hg (N := 4) ?hd (cs := #[.int .i64 0, .int .i64 0, .bool false]) (t := 33) ?hr ?_; (case hd => rfl); (case hg => rfl); (case hr => first | (go_simp; done) | (go_simp; rfl)); intro gb179 hg w12 hbox hb; have n0_ := aM (blk_below (g := gb177) (o := .cells #[.slice (some ad178) l0_0.length c0_0, .slice A0_1 l0_1.length c0_1] 25 (0, 0)) (by (with_reducible repeat (first | refine kN ?_ _ | refine kD ?_ | refine kA ?_ _)); exact BK177.out) hb); have n1_ := aM (below_step (by repeat (first | (with_reducible first | exact HB.out | apply bA | apply bN | apply bD | refine bS ?_ GE177.out) | exact HB.out)) hb); have n2_ := aM (hbox); have n3_ := aM ((by rw [hg]; exact (below_size (by repeat (first | (with_reducible first | exact HB.out | apply bA | apply bN | apply bD | refine bS ?_ GE177.out) | exact HB.out))) : w.heap.size ≤ gb179)); have n4_ := aM ((by rw [hg]; exact (below_size (by repeat (first | (with_reducible first | exact HB.out | apply bA | apply bN | apply bD | refine bS ?_ GE177.out) | exact HB.out))) : w.heap.size ≤ gb179)); have n5_ := aM ((by rw [hg]; exact Nat.ne_of_lt (blk_lt (g := gb177) (o := .cells #[.slice (some ad178) l0_0.length c0_0, .slice A0_1 l0_1.length c0_1] 25 (0, 0)) (by (with_reducible repeat (first | refine kN ?_ _ | refine kD ?_ | refine kA ?_ _)); exact BK177.out)) : gb177 ≠ gb179)); have n6_ := aM ((by rw [hg]; exact Nat.ne_of_gt (blk_lt (g := gb177) (o := .cells #[.slice (some ad178) l0_0.length c0_0, .slice A0_1 l0_1.length c0_1] 25 (0, 0)) (by (with_reducible repeat (first | refine kN ?_ _ | refine kD ?_ | refine kA ?_ _)); exact BK177.out)) : gb179 ≠ gb177)); clear BK177; clear HB; have BK177 := n0_; have HB := n1_; have BK179 := n2_; have GW179 := n3_; have GE179 := n4_; have NB177_179 := n5_; have NB179_177 := n6_; clear n0_ n1_ n2_ n3_ n4_ n5_ n6_; clear hb hbox hg; have hnb13 := NB179_177.out; have hnc13 := NB177_179.out; have hcz14_0 : w12.cell? ⟨gb179, 0, none⟩ = some (.int .i64 0) := (blk_cell BK179.out 0).trans rfl; have hcz14_1 : w12.cell? ⟨gb179, 1, none⟩ = some (.int .i64 0) := (blk_cell BK179.out 1).trans rfl; have hcz14_2 : w12.cell? ⟨gb179, 2, none⟩ = some (.bool false) := (blk_cell BK179.out 2).trans rfl; have hfz14_0 := blk_frozen BK179.out 0; have hfz14_1 := blk_frozen BK179.out 1; have hfz14_2 := blk_frozen BK179.out 2)); try go_wp2_with (first | ((with_reducible refine gate_dst (N := 4) rfl ?_); (try (refine gate_guard (by rfl) ?_; dsimp only)); refine box_event ?hg (N := 4) ?hd (cs := #[.int .i64 0, .int .i64 0, .bool false]) (t := 33) ?hr ?_; (case hd => rfl); (case hg => rfl); (case hr => first | (go_simp; done) | (go_simp; rfl)); intro gb179 hg w12 hbox hb; have n0_ := aM (blk_below (g := gb177) (o := .cells #[.slice (some ad178) l0_0.length c0_0, .slice A0_1 l0_1.length c0_1] 25 (0, 0)) (by (with_reducible repeat (first | refine kN ?_ _ | refine kD ?_ | refine kA ?_ _)); exact BK177.out) hb); have n1_ := aM (below_step (by repeat (first | (with_reducible first | exact HB.out | apply bA | apply bN | apply bD | refine bS ?_ GE177.out) | exact HB.out)) hb); have n2_ := aM (hbox); have n3_ := aM ((by rw [hg]; exact (below_size (by repeat (first | (with_reducible first | exact HB.out | apply bA | apply bN | apply bD | refine bS ?_ GE177.out) | exact HB.out))) : w.heap.size ≤ gb179)); have n4_ := aM ((by rw [hg]; exact (below_size (by repeat (first | (with_reducible first | exact HB.out | apply bA | apply bN | apply bD | refine bS ?_ GE177.out) | exact HB.out))) : w.heap.size ≤ gb179)); have n5_ := aM ((by rw [hg]; exact Nat.ne_of_lt (blk_lt (g := gb177) (o := .cells #[.slice (some ad178) l0_0.length c0_0, .slice A0_1 l0_1.length c0_1] 25 (0, 0)) (by (with_reducible repeat (first | refine kN ?_ _ | refine kD ?_ | refine kA ?_ _)); exact BK177.out)) : gb177 ≠ gb179)); have n6_ := aM ((by rw [hg]; exact Nat.ne_of_gt (blk_lt (g := gb177) (o := .cells #[.slice (some ad178) l0_0.length c0_0, .slice A0_1 l0_1.length c0_1] 25 (0, 0)) (by (with_reducible repeat (first | refine kN ?_ _ | refine kD ?_ | refine kA ?_ _)); exact BK177.out)) : gb179 ≠ gb177)); clear BK177; clear HB; have BK177 := n0_; have HB := n1_; have BK179 := n2_; have GW179 := n3_; have GE179 := n4_; have NB177_179 := n5_; have NB179_177 := n6_; clear n0_ n1_ n2_ n3_ n4_ n5_ n6_; clear hb hbox hg; have hnb13 := NB179_177.out; have hnc13 := NB177_179.out; have hcz14_0 : w12.cell? ⟨gb179, 0, none⟩ = some (.int .i64 0) := (blk_cell BK179.out 0).trans rfl; have hcz14_1 : w12.cell? ⟨gb179, 1, none⟩ = some (.int .i64 0) := (blk_cell BK179.out 1).trans rfl; have hcz14_2 : w12.cell? ⟨gb179, 2, none⟩ = some (.bool false) := (blk_cell BK179.out 2).trans rfl; have hfz14_0 := blk_frozen BK179.out 0; have hfz14_1 := blk_frozen BK179.out 1; have hfz14_2 := blk_frozen BK179.out 2)))
         go_ret
         exact ⟨by first | rfl | (simp [errW_none, errW_some] <;> rfl) | (simp [*, errW_none, errW_some] <;> rfl), by repeat (first | (with_reducible first | exact HB.out | apply bA | apply bN | apply bD | refine bS ?_ GE177.out | refine bS ?_ GE179.out) | exact HB.out)⟩
        ·
         rw [if_neg c10] at H
         have c10b0 : decide (((rd_T33 l0_0 x3_2).f0) < (-16384)) = false := decide_eq_false c10
         clear c10
         by_cases c15 : ((rd_T33 l0_0 x3_2).f0) > 16384
         ·
          rw [if_pos c15] at H
          have c15b0 : decide (16384 < ((rd_T33 l0_0 x3_2).f0)) = true := decide_eq_true c15
          clear c15
          obtain rfl := Option.some.inj H
          have hcz16_0 : wr.cell? ⟨gb177, 0, none⟩ = some (.slice A0_0 l0_0.length c0_0) := (blk_cell BK177.out 0).trans rfl
          have hcz16_1 : wr.cell? ⟨gb177, 1, none⟩ = some (.slice A0_1 l0_1.length c0_1) := (blk_cell BK177.out 1).trans rfl
          have hfz16_0 := blk_frozen BK177.out 0
          have hfz16_1 := blk_frozen BK177.out 1
          have p178 : 0 ≤ (x3_2 : Int) := dT (by assumption)
          have q178 : x3_2 < (l0_0.length : Int) := dT (by assumption)
          obtain ⟨ad178, e178, hx178_0, hx178_1, hx178_2⟩ := at_T33 HR0_0.out x3_2 p178 q178
          cases e178
          replace hx178_0 := (HB.out.cell (World.block_lt_of_cell? w _ hx178_0)).trans hx178_0
          replace hx178_1 := (HB.out.cell (World.block_lt_of_cell? w _ hx178_1)).trans hx178_1
          replace hx178_2 := (HB.out.cell (World.block_lt_of_cell? w _ hx178_2)).trans hx178_2
          replace p178 := eq_true p178
          replace q178 := eq_true q178
          go_wp2_with (first | ((with_reducible refine gate_dst (N := 4) rfl ?_); (try (refine gate_guard (by rfl) ?_; dsimp only)); refine box_event ?hg (N := 4) ?hd (cs := #[.int .i64 0, .int .i64 0, .bool false]) (t := 33) ?hr ?_; (case hd => rfl); (case hg => rfl); (case hr => first | (go_simp; done) | (go_simp; rfl)); intro gb179 hg w17 hbox hb; have n0_ := aM (blk_below (g := gb177) (o := .cells #[.slice (some ad178) l0_0.length c0_0, .slice A0_1 l0_1.length c0_1] 25 (0, 0)) (by (with_reducible repeat (first | refine kN ?_ _ | refine kD ?_ | refine kA ?_ _)); exact BK177.out) hb); have n1_ := aM (below_step (by repeat (first | (with_reducible first | exact HB.out | apply bA | apply bN | apply bD | refine bS ?_ GE177.out) | exact HB.out)) hb); have n2_ := aM (hbox); have n3_ := aM ((by rw [hg]; exact (below_size (by repeat (first | (with_reducible first | exact HB.out | apply bA | apply bN | apply bD | refine bS ?_ GE177.out) | exact HB.out))) : w.heap.size ≤ gb179)); have n4_ := aM ((by rw [hg]; exact (below_size (by repeat (first | (with_reducible first | exact HB.out | apply bA | apply bN | apply bD | refine bS ?_ GE177.out) | exact HB.out))) : w.heap.size ≤ gb179)); have n5_ := aM ((by rw [hg]; exact Nat.ne_of_lt (blk_lt (g := gb177) (o := .cells #[.slice (some ad178) l0_0.length c0_0, .slice A0_1 l0_1.length c0_1] 25 (0, 0)) (by (with_reducible repeat (first | refine kN ?_ _ | refine kD ?_ | refine kA ?_ _)); exact BK177.out)) : gb177 ≠ gb179)); have n6_ := aM ((by rw [hg]; exact Nat.ne_of_gt (blk_lt (g := gb177) (o := .cells #[.slice (some ad178) l0_0.length c0_0, .slice A0_1 l0_1.length c0_1] 25 (0, 0)) (by (with_reducible repeat (first | refine kN ?_ _ | refine kD ?_ | refine kA ?_ _)); exact BK177.out)) : gb179 ≠ gb177)); clear BK177; clear HB; have BK177 := n0_; have HB := n1_; have BK179 := n2_; have GW179 := n3_; have GE179 := n4_; have NB177_179 := n5_; have NB179_177 := n6_; clear n0_ n1_ n2_ n3_ n4_ n5_ n6_; clear hb hbox hg; have hnb18 := NB179_177.out; have hnc18 := NB177_179.out; have hcz19_0 : w17.cell? ⟨gb179, 0, none⟩ = some (.int .i64 0) := (blk_cell BK179.out 0).trans rfl; have hcz19_1 : w17.cell? ⟨gb179, 1, none⟩ = some (.int .i64 0) := (blk_cell BK179.out 1).trans rfl; have hcz19_2 : w17.cell? ⟨gb179, 2, none⟩ = some (.bool false) := (blk_cell BK179.out 2).trans rfl; have hfz19_0 := blk_frozen BK179.out 0; have hfz19_1 := blk_frozen BK179.out 1; have hfz19_2 := blk_frozen BK179.out 2))
          repeat (go_quiet (first | ((with_reducible refine gate_dst (N := 4) rfl ?_); (try (refine gate_guard (by rfl) ?_; dsimp only)); refine box_event ?hg (N := 4) ?hd (cs := #[.int .i64 0, .int .i64 0, .bool false]) (t := 33) ?hr ?_; (case hd => rfl); (case hg => rfl); (case hr => first | (go_simp; done) | (go_simp; rfl)); intro gb179 hg w17 hbox hb; have n0_ := aM (blk_below (g := gb177) (o := .cells #[.slice (some ad178) l0_0.length c0_0, .slice A0_1 l0_1.length c0_1] 25 (0, 0)) (by (with_reducible repeat (first | refine kN ?_ _ | refine kD ?_ | refine kA ?_ _)); exact BK177.out) hb); have n1_ := aM (below_step (by repeat (first | (with_reducible first | exact HB.out | apply bA | apply bN | apply bD | refine bS ?_ GE177.out) | exact HB.out)) hb); have n2_ := aM (hbox); have n3_ := aM ((by rw [hg]; exact (below_size (by repeat (first | (with_reducible first | exact HB.out | apply bA | apply bN | apply bD | refine bS ?_ GE177.out) | exact HB.out))) : w.heap.size ≤ gb179)); have n4_ := aM ((by rw [hg]; exact (below_size (by repeat (first | (with_reducible first | exact HB.out | apply bA | apply bN | apply bD | refine bS ?_ GE177.out) | exact HB.out))) : w.heap.size ≤ gb179)); have n5_ := aM ((by rw [hg]; exact Nat.ne_of_lt (blk_lt (g := gb177) (o := .cells #[.slice (some ad178) l0_0.length c0_0, .slice A0_1 l0_1.length c0_1] 25 (0, 0)) (by (with_reducible repeat (first | refine kN ?_ _ | refine kD ?_ | refine kA ?_ _)); exact BK177.out)) : gb177 ≠ gb179)); have n6_ := aM ((by rw [hg]; exact Nat.ne_of_gt (blk_lt (g := gb177) (o := .cells #[.slice (some ad178) l0_0.length c0_0, .slice A0_1 l0_1.length c0_1] 25 (0, 0)) (by (with_reducible repeat (first | refine kN ?_ _ | refine kD ?_ | refine kA ?_ _)); exact BK177.out)) : gb179 ≠ gb177)); clear BK177; clear HB; have BK177 := n0_; have HB := n1_; have BK179 := n2_; have GW179 := n3_; have GE179 := n4_; have NB177_179 := n5_; have NB179_177 := n6_; clear n0_ n1_ n2_ n3_ n4_ n5_ n6_; clear hb hbox hg; have hnb18 := NB179_177.out; have hnc18 := NB177_179.out; have hcz19_0 : w17.cell? ⟨gb179, 0, none⟩ = some (.int .i64 0) := (blk_cell BK179.out 0).trans rfl; have hcz19_1 : w17.cell? ⟨gb179, 1, none⟩ = some (.int .i64 0) := (blk_cell BK179.out 1).trans rfl; have hcz19_2 : w17.cell? ⟨gb179, 2, none⟩ = some (.bool false) := (blk_cell BK179.out 2).trans rfl; have hfz19_0 := blk_frozen BK179.out 0; have hfz19_1 := blk_frozen BK179.out 1; have hfz19_2 := blk_frozen BK179.out 2)); try go_wp2_with (first | ((with_reducible refine gate_dst (N := 4) rfl ?_); (try (refine gate_guard (by rfl) ?_; dsimp only)); refine box_event ?hg (N := 4) ?hd (cs := #[.int .i64 0, .int .i64 0, .bool false]) (t := 33) ?hr ?_; (case hd => rfl); (case hg => rfl); (case hr => first | (go_simp; done) | (go_simp; rfl)); intro gb179 hg w17 hbox hb; have n0_ := aM (blk_below (g := gb177) (o := .cells #[.slice (some ad178) l0_0.length c0_0, .slice A0_1 l0_1.length c0_1] 25 (0, 0)) (by (with_reducible repeat (first | refine kN ?_ _ | refine kD ?_ | refine kA ?_ _)); exact BK177.out) hb); have n1_ := aM (below_step (by repeat (first | (with_reducible first | exact HB.out | apply bA | apply bN | apply bD | refine bS ?_ GE177.out) | exact HB.out)) hb); have n2_ := aM (hbox); have n3_ := aM ((by rw [hg]; exact (below_size (by repeat (first | (with_reducible first | exact HB.out | apply bA | apply bN | apply bD | refine bS ?_ GE177.out) | exact HB.out))) : w.heap.size ≤ gb179)); have n4_ := aM ((by rw [hg]; exact (below_size (by repeat (first | (with_reducible first | exact HB.out | apply bA | apply bN | apply bD | refine bS ?_ GE177.out) | exact HB.out))) : w.heap.size ≤ gb179)); have n5_ := aM ((by rw [hg]; exact Nat.ne_of_lt (blk_lt (g := gb177) (o := .cells #[.slice (some ad178) l0_0.length c0_0, .slice A0_1 l0_1.length c0_1] 25 (0, 0)) (by (with_reducible repeat (first | refine kN ?_ _ | refine kD ?_ | refine kA ?_ _)); exact BK177.out)) : gb177 ≠ gb179)); have n6_ := aM ((by rw [hg]; exact Nat.ne_of_gt (blk_lt (g := gb177) (o := .cells #[.slice (some ad178) l0_0.length c0_0, .slice A0_1 l0_1.length c0_1] 25 (0, 0)) (by (with_reducible repeat (first | refine kN ?_ _ | refine kD ?_ | refine kA ?_ _)); exact BK177.out)) : gb179 ≠ gb177)); clear BK177; clear HB; have BK177 := n0_; have HB := n1_; have BK179 := n2_; have GW179 := n3_; have GE179 := n4_; have NB177_179 := n5_; have NB179_177 := n6_; clear n0_ n1_ n2_ n3_ n4_ n5_ n6_; clear hb hbox hg; have hnb18 := NB179_177.out; have hnc18 := NB177_179.out; have hcz19_0 : w17.cell? ⟨gb179, 0, none⟩ = some (.int .i64 0) := (blk_cell BK179.out 0).trans rfl; have hcz19_1 : w17.cell? ⟨gb179, 1, none⟩ = some (.int .i64 0) := (blk_cell BK179.out 1).trans rfl; have hcz19_2 : w17.cell? ⟨gb179, 2, none⟩ = some (.bool false) := (blk_cell BK179.out 2).trans rfl; have hfz19_0 := blk_frozen BK179.out 0; have hfz19_1 := blk_frozen BK179.out 1; have hfz19_2 := blk_frozen BK179.out 2)))
          go_ret
          exact ⟨by first | rfl | (simp [errW_none, errW_some] <;> rfl) | (simp [*, errW_none, errW_some] <;> rfl), by repeat (first | (with_reducible first | exact HB.out | apply bA | apply bN | apply bD | refine bS ?_ GE177.out | refine bS ?_ GE179.out) | exact HB.out)⟩
         ·
          rw [if_neg c15] at H
          have c15b0 : decide (16384 < ((rd_T33 l0_0 x3_2).f0)) = false := decide_eq_false c15
          clear c15
          by_cases c20 : ((rd_T33 l0_0 x3_2).f1) < (-16384)
          ·
           rw [if_pos c20] at H
           have c20b0 : decide (((rd_T33 l0_0 x3_2).f1) < (-16384)) = true := decide_eq_true c20
           clear c20
           obtain rfl := Option.some.inj H
           have hcz21_0 : wr.cell? ⟨gb177, 0, none⟩ = some (.slice A0_0 l0_0.length c0_0) := (blk_cell BK177.out 0).trans rfl
           have hcz21_1 : wr.cell? ⟨gb177, 1, none⟩ = some (.slice A0_1 l0_1.length c0_1) := (blk_cell BK177.out 1).trans rfl
           have hfz21_0 := blk_frozen BK177.out 0
           have hfz21_1 := blk_frozen BK177.out 1
           have p178 : 0 ≤ (x3_2 : Int) := dT (by assumption)
           have q178 : x3_2 < (l0_0.length : Int) := dT (by assumption)
           obtain ⟨ad178, e178, hx178_0, hx178_1, hx178_2⟩ := at_T33 HR0_0.out x3_2 p178 q178
           cases e178
           replace hx178_0 := (HB.out.cell (World.block_lt_of_cell? w _ hx178_0)).trans hx178_0
           replace hx178_1 := (HB.out.cell (World.block_lt_of_cell? w _ hx178_1)).trans hx178_1
           replace hx178_2 := (HB.out.cell (World.block_lt_of_cell? w _ hx178_2)).trans hx178_2
           replace p178 := eq_true p178
           replace q178 := eq_true q178
           go_wp2_with (first | ((with_reducible refine gate_dst (N := 4) rfl ?_); (try (refine gate_guard (by rfl) ?_; dsimp only)); refine box_event ?hg (N := 4) ?hd (cs := #[.int .i64 0, .int .i64 0, .bool false]) (t := 33) ?hr ?_; (case hd => rfl); (case hg => rfl); (case hr => first | (go_simp; done) | (go_simp; rfl)); intro gb179 hg w22 hbox hb; have n0_ := aM (blk_below (g := gb177) (o := .cells #[.slice (some ad178) l0_0.length c0_0, .slice A0_1 l0_1.length c0_1] 25 (0, 0)) (by (with_reducible repeat (first | refine kN ?_ _ | refine kD ?_ | refine kA ?_ _)); exact BK177.out) hb); have n1_ := aM (below_step (by repeat (first | (with_reducible first | exact HB.out | apply bA | apply bN | apply bD | refine bS ?_ GE177.out) | exact HB.out)) hb); have n2_ := aM (hbox); have n3_ := aM ((by rw [hg]; exact (below_size (by repeat (first | (with_reducible first | exact HB.out | apply bA | apply bN | apply bD | refine bS ?_ GE177.out) | exact HB.out))) : w.heap.size ≤ gb179)); have n4_ := aM ((by rw [hg]; exact (below_size (by repeat (first | (with_reducible first | exact HB.out | apply bA | apply bN | apply bD | refine bS ?_ GE177.out) | exact HB.out))) : w.heap.size ≤ gb179)); have n5_ := aM ((by rw [hg]; exact Nat.ne_of_lt (blk_lt (g := gb177) (o := .cells #[.slice (some ad178) l0_0.length c0_0, .slice A0_1 l0_1.length c0_1] 25 (0, 0)) (by (with_reducible repeat (first | refine kN ?_ _ | refine kD ?_ | refine kA ?_ _)); exact BK177.out)) : gb177 ≠ gb179)); have n6_ := aM ((by rw [hg]; exact Nat.ne_of_gt (blk_lt (g := gb177) (o := .cells #[.slice (some ad178) l0_0.length c0_0, .slice A0_1 l0_1.length c0_1] 25 (0, 0)) (by (with_reducible repeat (first | refine kN ?_ _ | refine kD ?_ | refine kA ?_ _)); exact BK177.out)) : gb179 ≠ gb177)); clear BK177; clear HB; have BK177 := n0_; have HB := n1_; have BK179 := n2_; have GW179 := n3_; have GE179 := n4_; have NB177_179 := n5_; have NB179_177 := n6_; clear n0_ n1_ n2_ n3_ n4_ n5_ n6_; clear hb hbox hg; have hnb23 := NB179_177.out; have hnc23 := NB177_179.out; have hcz24_0 : w22.cell? ⟨gb179, 0, none⟩ = some (.int .i64 0) := (blk_cell BK179.out 0).trans rfl; have hcz24_1 : w22.cell? ⟨gb179, 1, none⟩ = some (.int .i64 0) := (blk_cell BK179.out 1).trans rfl; have hcz24_2 : w22.cell? ⟨gb179, 2, none⟩ = some (.bool false) := (blk_cell BK179.out 2).trans rfl; have hfz24_0 := blk_frozen BK179.out 0; have hfz24_1 := blk_frozen BK179.out 1; have hfz24_2 := blk_frozen BK179.out 2))
           repeat (go_quiet (first | ((with_reducible refine gate_dst (N := 4) rfl ?_); (try (refine gate_guard (by rfl) ?_; dsimp only)); refine box_event ?hg (N := 4) ?hd (cs := #[.int .i64 0, .int .i64 0, .bool false]) (t := 33) ?hr ?_; (case hd => rfl); (case hg => rfl); (case hr => first | (go_simp; done) | (go_simp; rfl)); intro gb179 hg w22 hbox hb; have n0_ := aM (blk_below (g := gb177) (o := .cells #[.slice (some ad178) l0_0.length c0_0, .slice A0_1 l0_1.length c0_1] 25 (0, 0)) (by (with_reducible repeat (first | refine kN ?_ _ | refine kD ?_ | refine kA ?_ _)); exact BK177.out) hb); have n1_ := aM (below_step (by repeat (first | (with_reducible first | exact HB.out | apply bA | apply bN | apply bD | refine bS ?_ GE177.out) | exact HB.out)) hb); have n2_ := aM (hbox); have n3_ := aM ((by rw [hg]; exact (below_size (by repeat (first | (with_reducible first | exact HB.out | apply bA | apply bN | apply bD | refine bS ?_ GE177.out) | exact HB.out))) : w.heap.size ≤ gb179)); have n4_ := aM ((by rw [hg]; exact (below_size (by repeat (first | (with_reducible first | exact HB.out | apply bA | apply bN | apply bD | refine bS ?_ GE177.out) | exact HB.out))) : w.heap.size ≤ gb179)); have n5_ := aM ((by rw [hg]; exact Nat.ne_of_lt (blk_lt (g := gb177) (o := .cells #[.slice (some ad178) l0_0.length c0_0, .slice A0_1 l0_1.length c0_1] 25 (0, 0)) (by (with_reducible repeat (first | refine kN ?_ _ | refine kD ?_ | refine kA ?_ _)); exact BK177.out)) : gb177 ≠ gb179)); have n6_ := aM ((by rw [hg]; exact Nat.ne_of_gt (blk_lt (g := gb177) (o := .cells #[.slice (some ad178) l0_0.length c0_0, .slice A0_1 l0_1.length c0_1] 25 (0, 0)) (by (with_reducible repeat (first | refine kN ?_ _ | refine kD ?_ | refine kA ?_ _)); exact BK177.out)) : gb179 ≠ gb177)); clear BK177; clear HB; have BK177 := n0_; have HB := n1_; have BK179 := n2_; have GW179 := n3_; have GE179 := n4_; have NB177_179 := n5_; have NB179_177 := n6_; clear n0_ n1_ n2_ n3_ n4_ n5_ n6_; clear hb hbox hg; have hnb23 := NB179_177.out; have hnc23 := NB177_179.out; have hcz24_0 : w22.cell? ⟨gb179, 0, none⟩ = some (.int .i64 0) := (blk_cell BK179.out 0).trans rfl; have hcz24_1 : w22.cell? ⟨gb179, 1, none⟩ = some (.int .i64 0) := (blk_cell BK179.out 1).trans rfl; have hcz24_2 : w22.cell? ⟨gb179, 2, none⟩ = some (.bool false) := (blk_cell BK179.out 2).trans rfl; have hfz24_0 := blk_frozen BK179.out 0; have hfz24_1 := blk_frozen BK179.out 1; have hfz24_2 := blk_frozen BK179.out 2)); try go_wp2_with (first | ((with_reducible refine gate_dst (N := 4) rfl ?_); (try (refine gate_guard (by rfl) ?_; dsimp only)); refine box_event ?hg (N := 4) ?hd (cs := #[.int .i64 0, .int .i64 0, .bool false]) (t := 33) ?hr ?_; (case hd => rfl); (case hg => rfl); (case hr => first | (go_simp; done) | (go_simp; rfl)); intro gb179 hg w22 hbox hb; have n0_ := aM (blk_below (g := gb177) (o := .cells #[.slice (some ad178) l0_0.length c0_0, .slice A0_1 l0_1.length c0_1] 25 (0, 0)) (by (with_reducible repeat (first | refine kN ?_ _ | refine kD ?_ | refine kA ?_ _)); exact BK177.out) hb); have n1_ := aM (below_step (by repeat (first | (with_reducible first | exact HB.out | apply bA | apply bN | apply bD | refine bS ?_ GE177.out) | exact HB.out)) hb); have n2_ := aM (hbox); have n3_ := aM ((by rw [hg]; exact (below_size (by repeat (first | (with_reducible first | exact HB.out | apply bA | apply bN | apply bD | refine bS ?_ GE177.out) | exact HB.out))) : w.heap.size ≤ gb179)); have n4_ := aM ((by rw [hg]; exact (below_size (by repeat (first | (with_reducible first | exact HB.out | apply bA | apply bN | apply bD | refine bS ?_ GE177.out) | exact HB.out))) : w.heap.size ≤ gb179)); have n5_ := aM ((by rw [hg]; exact Nat.ne_of_lt (blk_lt (g := gb177) (o := .cells #[.slice (some ad178) l0_0.length c0_0, .slice A0_1 l0_1.length c0_1] 25 (0, 0)) (by (with_reducible repeat (first | refine kN ?_ _ | refine kD ?_ | refine kA ?_ _)); exact BK177.out)) : gb177 ≠ gb179)); have n6_ := aM ((by rw [hg]; exact Nat.ne_of_gt (blk_lt (g := gb177) (o := .cells #[.slice (some ad178) l0_0.length c0_0, .slice A0_1 l0_1.length c0_1] 25 (0, 0)) (by (with_reducible repeat (first | refine kN ?_ _ | refine kD ?_ | refine kA ?_ _)); exact BK177.out)) : gb179 ≠ gb177)); clear BK177; clear HB; have BK177 := n0_; have HB := n1_; have BK179 := n2_; have GW179 := n3_; have GE179 := n4_; have NB177_179 := n5_; have NB179_177 := n6_; clear n0_ n1_ n2_ n3_ n4_ n5_ n6_; clear hb hbox hg; have hnb23 := NB179_177.out; have hnc23 := NB177_179.out; have hcz24_0 : w22.cell? ⟨gb179, 0, none⟩ = some (.int .i64 0) := (blk_cell BK179.out 0).trans rfl; have hcz24_1 : w22.cell? ⟨gb179, 1, none⟩ = some (.int .i64 0) := (blk_cell BK179.out 1).trans rfl; have hcz24_2 : w22.cell? ⟨gb179, 2, none⟩ = some (.bool false) := (blk_cell BK179.out 2).trans rfl; have hfz24_0 := blk_frozen BK179.out 0; have hfz24_1 := blk_frozen BK179.out 1; have hfz24_2 := blk_frozen BK179.out 2)))
           go_ret
           exact ⟨by first | rfl | (simp [errW_none, errW_some] <;> rfl) | (simp [*, errW_none, errW_some] <;> rfl), by repeat (first | (with_reducible first | exact HB.out | apply bA | apply bN | apply bD | refine bS ?_ GE177.out | refine bS ?_ GE179.out) | exact HB.out)⟩
          ·
           rw [if_neg c20] at H
           have c20b0 : decide (((rd_T33 l0_0 x3_2).f1) < (-16384)) = false := decide_eq_false c20
           clear c20
           by_cases c25 : ((rd_T33 l0_0 x3_2).f1) > 16384
           ·
            rw [if_pos c25] at H
            have c25b0 : decide (16384 < ((rd_T33 l0_0 x3_2).f1)) = true := decide_eq_true c25
            clear c25
            obtain rfl := Option.some.inj H
            have hcz26_0 : wr.cell? ⟨gb177, 0, none⟩ = some (.slice A0_0 l0_0.length c0_0) := (blk_cell BK177.out 0).trans rfl
            have hcz26_1 : wr.cell? ⟨gb177, 1, none⟩ = some (.slice A0_1 l0_1.length c0_1) := (blk_cell BK177.out 1).trans rfl
            have hfz26_0 := blk_frozen BK177.out 0
            have hfz26_1 := blk_frozen BK177.out 1
            have p178 : 0 ≤ (x3_2 : Int) := dT (by assumption)
            have q178 : x3_2 < (l0_0.length : Int) := dT (by assumption)
            obtain ⟨ad178, e178, hx178_0, hx178_1, hx178_2⟩ := at_T33 HR0_0.out x3_2 p178 q178
            cases e178
            replace hx178_0 := (HB.out.cell (World.block_lt_of_cell? w _ hx178_0)).trans hx178_0
            replace hx178_1 := (HB.out.cell (World.block_lt_of_cell? w _ hx178_1)).trans hx178_1
            replace hx178_2 := (HB.out.cell (World.block_lt_of_cell? w _ hx178_2)).trans hx178_2
            replace p178 := eq_true p178
            replace q178 := eq_true q178
            go_wp2_with (first | ((with_reducible refine gate_dst (N := 4) rfl ?_); (try (refine gate_guard (by rfl) ?_; dsimp only)); refine box_event ?hg (N := 4) ?hd (cs := #[.int .i64 0, .int .i64 0, .bool false]) (t := 33) ?hr ?_; (case hd => rfl); (case hg => rfl); (case hr => first | (go_simp; done) | (go_simp; rfl)); intro gb179 hg w27 hbox hb; have n0_ := aM (blk_below (g := gb177) (o := .cells #[.slice (some ad178) l0_0.length c0_0, .slice A0_1 l0_1.length c0_1] 25 (0, 0)) (by (with_reducible repeat (first | refine kN ?_ _ | refine kD ?_ | refine kA ?_ _)); exact BK177.out) hb); have n1_ := aM (below_step (by repeat (first | (with_reducible first | exact HB.out | apply bA | apply bN | apply bD | refine bS ?_ GE177.out) | exact HB.out)) hb); have n2_ := aM (hbox); have n3_ := aM ((by rw [hg]; exact (below_size (by repeat (first | (with_reducible first | exact HB.out | apply bA | apply bN | apply bD | refine bS ?_ GE177.out) | exact HB.out))) : w.heap.size ≤ gb179)); have n4_ := aM ((by rw [hg]; exact (below_size (by repeat (first | (with_reducible first | exact HB.out | apply bA | apply bN | apply bD | refine bS ?_ GE177.out) | exact HB.out))) : w.heap.size ≤ gb179)); have n5_ := aM ((by rw [hg]; exact Nat.ne_of_lt (blk_lt (g := gb177) (o := .cells #[.slice (some ad178) l0_0.length c0_0, .slice A0_1 l0_1.length c0_1] 25 (0, 0)) (by (with_reducible repeat (first | refine kN ?_ _ | refine kD ?_ | refine kA ?_ _)); exact BK177.out)) : gb177 ≠ gb179)); have n6_ := aM ((by rw [hg]; exact Nat.ne_of_gt (blk_lt (g := gb177) (o := .cells #[.slice (some ad178) l0_0.length c0_0, .slice A0_1 l0_1.length c0_1] 25 (0, 0)) (by (with_reducible repeat (first | refine kN ?_ _ | refine kD ?_ | refine kA ?_ _)); exact BK177.out)) : gb179 ≠ gb177)); clear BK177; clear HB; have BK177 := n0_; have HB := n1_; have BK179 := n2_; have GW179 := n3_; have GE179 := n4_; have NB177_179 := n5_; have NB179_177 := n6_; clear n0_ n1_ n2_ n3_ n4_ n5_ n6_; clear hb hbox hg; have hnb28 := NB179_177.out; have hnc28 := NB177_179.out; have hcz29_0 : w27.cell? ⟨gb179, 0, none⟩ = some (.int .i64 0) := (blk_cell BK179.out 0).trans rfl; have hcz29_1 : w27.cell? ⟨gb179, 1, none⟩ = some (.int .i64 0) := (blk_cell BK179.out 1).trans rfl; have hcz29_2 : w27.cell? ⟨gb179, 2, none⟩ = some (.bool false) := (blk_cell BK179.out 2).trans rfl; have hfz29_0 := blk_frozen BK179.out 0; have hfz29_1 := blk_frozen BK179.out 1; have hfz29_2 := blk_frozen BK179.out 2))
            repeat (go_quiet (first | ((with_reducible refine gate_dst (N := 4) rfl ?_); (try (refine gate_guard (by rfl) ?_; dsimp only)); refine box_event ?hg (N := 4) ?hd (cs := #[.int .i64 0, .int .i64 0, .bool false]) (t := 33) ?hr ?_; (case hd => rfl); (case hg => rfl); (case hr => first | (go_simp; done) | (go_simp; rfl)); intro gb179 hg w27 hbox hb; have n0_ := aM (blk_below (g := gb177) (o := .cells #[.slice (some ad178) l0_0.length c0_0, .slice A0_1 l0_1.length c0_1] 25 (0, 0)) (by (with_reducible repeat (first | refine kN ?_ _ | refine kD ?_ | refine kA ?_ _)); exact BK177.out) hb); have n1_ := aM (below_step (by repeat (first | (with_reducible first | exact HB.out | apply bA | apply bN | apply bD | refine bS ?_ GE177.out) | exact HB.out)) hb); have n2_ := aM (hbox); have n3_ := aM ((by rw [hg]; exact (below_size (by repeat (first | (with_reducible first | exact HB.out | apply bA | apply bN | apply bD | refine bS ?_ GE177.out) | exact HB.out))) : w.heap.size ≤ gb179)); have n4_ := aM ((by rw [hg]; exact (below_size (by repeat (first | (with_reducible first | exact HB.out | apply bA | apply bN | apply bD | refine bS ?_ GE177.out) | exact HB.out))) : w.heap.size ≤ gb179)); have n5_ := aM ((by rw [hg]; exact Nat.ne_of_lt (blk_lt (g := gb177) (o := .cells #[.slice (some ad178) l0_0.length c0_0, .slice A0_1 l0_1.length c0_1] 25 (0, 0)) (by (with_reducible repeat (first | refine kN ?_ _ | refine kD ?_ | refine kA ?_ _)); exact BK177.out)) : gb177 ≠ gb179)); have n6_ := aM ((by rw [hg]; exact Nat.ne_of_gt (blk_lt (g := gb177) (o := .cells #[.slice (some ad178) l0_0.length c0_0, .slice A0_1 l0_1.length c0_1] 25 (0, 0)) (by (with_reducible repeat (first | refine kN ?_ _ | refine kD ?_ | refine kA ?_ _)); exact BK177.out)) : gb179 ≠ gb177)); clear BK177; clear HB; have BK177 := n0_; have HB := n1_; have BK179 := n2_; have GW179 := n3_; have GE179 := n4_; have NB177_179 := n5_; have NB179_177 := n6_; clear n0_ n1_ n2_ n3_ n4_ n5_ n6_; clear hb hbox hg; have hnb28 := NB179_177.out; have hnc28 := NB177_179.out; have hcz29_0 : w27.cell? ⟨gb179, 0, none⟩ = some (.int .i64 0) := (blk_cell BK179.out 0).trans rfl; have hcz29_1 : w27.cell? ⟨gb179, 1, none⟩ = some (.int .i64 0) := (blk_cell BK179.out 1).trans rfl; have hcz29_2 : w27.cell? ⟨gb179, 2, none⟩ = some (.bool false) := (blk_cell BK179.out 2).trans rfl; have hfz29_0 := blk_frozen BK179.out 0; have hfz29_1 := blk_frozen BK179.out 1; have hfz29_2 := blk_frozen BK179.out 2)); try go_wp2_with (first | ((with_reducible refine gate_dst (N := 4) rfl ?_); (try (refine gate_guard (by rfl) ?_; dsimp only)); refine box_event ?hg (N := 4) ?hd (cs := #[.int .i64 0, .int .i64 0, .bool false]) (t := 33) ?hr ?_; (case hd => rfl); (case hg => rfl); (case hr => first | (go_simp; done) | (go_simp; rfl)); intro gb179 hg w27 hbox hb; have n0_ := aM (blk_below (g := gb177) (o := .cells #[.slice (some ad178) l0_0.length c0_0, .slice A0_1 l0_1.length c0_1] 25 (0, 0)) (by (with_reducible repeat (first | refine kN ?_ _ | refine kD ?_ | refine kA ?_ _)); exact BK177.out) hb); have n1_ := aM (below_step (by repeat (first | (with_reducible first | exact HB.out | apply bA | apply bN | apply bD | refine bS ?_ GE177.out) | exact HB.out)) hb); have n2_ := aM (hbox); have n3_ := aM ((by rw [hg]; exact (below_size (by repeat (first | (with_reducible first | exact HB.out | apply bA | apply bN | apply bD | refine bS ?_ GE177.out) | exact HB.out))) : w.heap.size ≤ gb179)); have n4_ := aM ((by rw [hg]; exact (below_size (by repeat (first | (with_reducible first | exact HB.out | apply bA | apply bN | apply bD | refine bS ?_ GE177.out) | exact HB.out))) : w.heap.size ≤ gb179)); have n5_ := aM ((by rw [hg]; exact Nat.ne_of_lt (blk_lt (g := gb177) (o := .cells #[.slice (some ad178) l0_0.length c0_0, .slice A0_1 l0_1.length c0_1] 25 (0, 0)) (by (with_reducible repeat (first | refine kN ?_ _ | refine kD ?_ | refine kA ?_ _)); exact BK177.out)) : gb177 ≠ gb179)); have n6_ := aM ((by rw [hg]; exact Nat.ne_of_gt (blk_lt (g := gb177) (o := .cells #[.slice (some ad178) l0_0.length c0_0, .slice A0_1 l0_1.length c0_1] 25 (0, 0)) (by (with_reducible repeat (first | refine kN ?_ _ | refine kD ?_ | refine kA ?_ _)); exact BK177.out)) : gb179 ≠ gb177)); clear BK177; clear HB; have BK177 := n0_; have HB := n1_; have BK179 := n2_; have GW179 := n3_; have GE179 := n4_; have NB177_179 := n5_; have NB179_177 := n6_; clear n0_ n1_ n2_ n3_ n4_ n5_ n6_; clear hb hbox hg; have hnb28 := NB179_177.out; have hnc28 := NB177_179.out; have hcz29_0 : w27.cell? ⟨gb179, 0, none⟩ = some (.int .i64 0) := (blk_cell BK179.out 0).trans rfl; have hcz29_1 : w27.cell? ⟨gb179, 1, none⟩ = some (.int .i64 0) := (blk_cell BK179.out 1).trans rfl; have hcz29_2 : w27.cell? ⟨gb179, 2, none⟩ = some (.bool false) := (blk_cell BK179.out 2).trans rfl; have hfz29_0 := blk_frozen BK179.out 0; have hfz29_1 := blk_frozen BK179.out 1; have hfz29_2 := blk_frozen BK179.out 2)))
            go_ret
            exact ⟨by first | rfl | (simp [errW_none, errW_some] <;> rfl) | (simp [*, errW_none, errW_some] <;> rfl), by repeat (first | (with_reducible first | exact HB.out | apply bA | apply bN | apply bD | refine bS ?_ GE177.out | refine bS ?_ GE179.out) | exact HB.out)⟩
           ·
            rw [if_neg c25] at H
            have c25b0 : decide (16384 < ((rd_T33 l0_0 x3_2).f1)) = false := decide_eq_false c25
            clear c25
            have H' := aM H
            clear H
            have hcz30_0 : wr.cell? ⟨gb177, 0, none⟩ = some (.slice A0_0 l0_0.length c0_0) := (blk_cell BK177.out 0).trans rfl
            have hcz30_1 : wr.cell? ⟨gb177, 1, none⟩ = some (.slice A0_1 l0_1.length c0_1) := (blk_cell BK177.out 1).trans rfl
            have hfz30_0 := blk_frozen BK177.out 0
            have hfz30_1 := blk_frozen BK177.out 1
            have p178 : 0 ≤ (x3_2 : Int) := dT (by assumption)
            have q178 : x3_2 < (l0_0.length : Int) := dT (by assumption)
            obtain ⟨ad178, e178, hx178_0, hx178_1, hx178_2⟩ := at_T33 HR0_0.out x3_2 p178 q178
            cases e178
            replace hx178_0 := (HB.out.cell (World.block_lt_of_cell? w _ hx178_0)).trans hx178_0
            replace hx178_1 := (HB.out.cell (World.block_lt_of_cell? w _ hx178_1)).trans hx178_1
            replace hx178_2 := (HB.out.cell (World.block_lt_of_cell? w _ hx178_2)).trans hx178_2
            replace p178 := eq_true p178
            replace q178 := eq_true q178
            go_wp2_with (first | ((with_reducible refine gate_dst (N := 4) rfl ?_); (try (refine gate_guard (by rfl) ?_; dsimp only)); refine box_event ?hg (N := 4) ?hd (cs := #[.int .i64 0, .int .i64 0, .bool false]) (t := 33) ?hr ?_; (case hd => rfl); (case hg => rfl); (case hr => first | (go_simp; done) | (go_simp; rfl)); intro gb179 hg w31 hbox hb; have n0_ := aM (blk_below (g := gb177) (o := .cells #[.slice (some ad178) l0_0.length c0_0, .slice A0_1 l0_1.length c0_1] 25 (0, 0)) (by (with_reducible repeat (first | refine kN ?_ _ | refine kD ?_ | refine kA ?_ _)); exact BK177.out) hb); have n1_ := aM (below_step (by repeat (first | (with_reducible first | exact HB.out | apply bA | apply bN | apply bD | refine bS ?_ GE177.out) | exact HB.out)) hb); have n2_ := aM (hbox); have n3_ := aM ((by rw [hg]; exact (below_size (by repeat (first | (with_reducible first | exact HB.out | apply bA | apply bN | apply bD | refine bS ?_ GE177.out) | exact HB.out))) : w.heap.size ≤ gb179)); have n4_ := aM ((by rw [hg]; exact (below_size (by repeat (first | (with_reducible first | exact HB.out | apply bA | apply bN | apply bD | refine bS ?_ GE177.out) | exact HB.out))) : w.heap.size ≤ gb179)); have n5_ := aM ((by rw [hg]; exact Nat.ne_of_lt (blk_lt (g := gb177) (o := .cells #[.slice (some ad178) l0_0.length c0_0, .slice A0_1 l0_1.length c0_1] 25 (0, 0)) (by (with_reducible repeat (first | refine kN ?_ _ | refine kD ?_ | refine kA ?_ _)); exact BK177.out)) : gb177 ≠ gb179)); have n6_ := aM ((by rw [hg]; exact Nat.ne_of_gt (blk_lt (g := gb177) (o := .cells #[.slice (some ad178) l0_0.length c0_0, .slice A0_1 l0_1.length c0_1] 25 (0, 0)) (by (with_reducible repeat (first | refine kN ?_ _ | refine kD ?_ | refine kA ?_ _)); exact BK177.out)) : gb179 ≠ gb177)); clear BK177; clear HB; have BK177 := n0_; have HB := n1_; have BK179 := n2_; have GW179 := n3_; have GE179 := n4_; have NB177_179 := n5_; have NB179_177 := n6_; clear n0_ n1_ n2_ n3_ n4_ n5_ n6_; clear hb hbox hg; have hnb32 := NB179_177.out; have hnc32 := NB177_179.out; have hcz33_0 : w31.cell? ⟨gb179, 0, none⟩ = some (.int .i64 0) := (blk_cell BK179.out 0).trans rfl; have hcz33_1 : w31.cell? ⟨gb179, 1, none⟩ = some (.int .i64 0) := (blk_cell BK179.out 1).trans rfl; have hcz33_2 : w31.cell? ⟨gb179, 2, none⟩ = some (.bool false) := (blk_cell BK179.out 2).trans rfl; have hfz33_0 := blk_frozen BK179.out 0; have hfz33_1 := blk_frozen BK179.out 1; have hfz33_2 := blk_frozen BK179.out 2))
            repeat (go_quiet (first | ((with_reducible refine gate_dst (N := 4) rfl ?_); (try (refine gate_guard (by rfl) ?_; dsimp only)); refine box_event ?hg (N := 4) ?hd (cs := #[.int .i64 0, .int .i64 0, .bool false]) (t := 33) ?hr ?_; (case hd => rfl); (case hg => rfl); (case hr => first | (go_simp; done) | (go_simp; rfl)); intro gb179 hg w31 hbox hb; have n0_ := aM (blk_below (g := gb177) (o := .cells #[.slice (some ad178) l0_0.length c0_0, .slice A0_1 l0_1.length c0_1] 25 (0, 0)) (by (with_reducible repeat (first | refine kN ?_ _ | refine kD ?_ | refine kA ?_ _)); exact BK177.out) hb); have n1_ := aM (below_step (by repeat (first | (with_reducible first | exact HB.out | apply bA | apply bN | apply bD | refine bS ?_ GE177.out) | exact HB.out)) hb); have n2_ := aM (hbox); have n3_ := aM ((by rw [hg]; exact (below_size (by repeat (first | (with_reducible first | exact HB.out | apply bA | apply bN | apply bD | refine bS ?_ GE177.out) | exact HB.out))) : w.heap.size ≤ gb179)); have n4_ := aM ((by rw [hg]; exact (below_size (by repeat (first | (with_reducible first | exact HB.out | apply bA | apply bN | apply bD | refine bS ?_ GE177.out) | exact HB.out))) : w.heap.size ≤ gb179)); have n5_ := aM ((by rw [hg]; exact Nat.ne_of_lt (blk_lt (g := gb177) (o := .cells #[.slice (some ad178) l0_0.length c0_0, .slice A0_1 l0_1.length c0_1] 25 (0, 0)) (by (with_reducible repeat (first | refine kN ?_ _ | refine kD ?_ | refine kA ?_ _)); exact BK177.out)) : gb177 ≠ gb179)); have n6_ := aM ((by rw [hg]; exact Nat.ne_of_gt (blk_lt (g := gb177) (o := .cells #[.slice (some ad178) l0_0.length c0_0, .slice A0_1 l0_1.length c0_1] 25 (0, 0)) (by (with_reducible repeat (first | refine kN ?_ _ | refine kD ?_ | refine kA ?_ _)); exact BK177.out)) : gb179 ≠ gb177)); clear BK177; clear HB; have BK177 := n0_; have HB := n1_; have BK179 := n2_; have GW179 := n3_; have GE179 := n4_; have NB177_179 := n5_; have NB179_177 := n6_; clear n0_ n1_ n2_ n3_ n4_ n5_ n6_; clear hb hbox hg; have hnb32 := NB179_177.out; have hnc32 := NB177_179.out; have hcz33_0 : w31.cell? ⟨gb179, 0, none⟩ = some (.int .i64 0) := (blk_cell BK179.out 0).trans rfl; have hcz33_1 : w31.cell? ⟨gb179, 1, none⟩ = some (.int .i64 0) := (blk_cell BK179.out 1).trans rfl; have hcz33_2 : w31.cell? ⟨gb179, 2, none⟩ = some (.bool false) := (blk_cell BK179.out 2).trans rfl; have hfz33_0 := blk_frozen BK179.out 0; have hfz33_1 := blk_frozen BK179.out 1; have hfz33_2 := blk_frozen BK179.out 2)); try go_wp2_with (first | ((with_reducible refine gate_dst (N := 4) rfl ?_); (try (refine gate_guard (by rfl) ?_; dsimp only)); refine box_event ?hg (N := 4) ?hd (cs := #[.int .i64 0, .int .i64 0, .bool false]) (t := 33) ?hr ?_; (case hd => rfl); (case hg => rfl); (case hr => first | (go_simp; done) | (go_simp; rfl)); intro gb179 hg w31 hbox hb; have n0_ := aM (blk_below (g := gb177) (o := .cells #[.slice (some ad178) l0_0.length c0_0, .slice A0_1 l0_1.length c0_1] 25 (0, 0)) (by (with_reducible repeat (first | refine kN ?_ _ | refine kD ?_ | refine kA ?_ _)); exact BK177.out) hb); have n1_ := aM (below_step (by repeat (first | (with_reducible first | exact HB.out | apply bA | apply bN | apply bD | refine bS ?_ GE177.out) | exact HB.out)) hb); have n2_ := aM (hbox); have n3_ := aM ((by rw [hg]; exact (below_size (by repeat (first | (with_reducible first | exact HB.out | apply bA | apply bN | apply bD | refine bS ?_ GE177.out) | exact HB.out))) : w.heap.size ≤ gb179)); have n4_ := aM ((by rw [hg]; exact (below_size (by repeat (first | (with_reducible first | exact HB.out | apply bA | apply bN | apply bD | refine bS ?_ GE177.out) | exact HB.out))) : w.heap.size ≤ gb179)); have n5_ := aM ((by rw [hg]; exact Nat.ne_of_lt (blk_lt (g := gb177) (o := .cells #[.slice (some ad178) l0_0.length c0_0, .slice A0_1 l0_1.length c0_1] 25 (0, 0)) (by (with_reducible repeat (first | refine kN ?_ _ | refine kD ?_ | refine kA ?_ _)); exact BK177.out)) : gb177 ≠ gb179)); have n6_ := aM ((by rw [hg]; exact Nat.ne_of_gt (blk_lt (g := gb177) (o := .cells #[.slice (some ad178) l0_0.length c0_0, .slice A0_1 l0_1.length c0_1] 25 (0, 0)) (by (with_reducible repeat (first | refine kN ?_ _ | refine kD ?_ | refine kA ?_ _)); exact BK177.out)) : gb179 ≠ gb177)); clear BK177; clear HB; have BK177 := n0_; have HB := n1_; have BK179 := n2_; have GW179 := n3_; have GE179 := n4_; have NB177_179 := n5_; have NB179_177 := n6_; clear n0_ n1_ n2_ n3_ n4_ n5_ n6_; clear hb hbox hg; have hnb32 := NB179_177.out; have hnc32 := NB177_179.out; have hcz33_0 : w31.cell? ⟨gb179, 0, none⟩ = some (.int .i64 0) := (blk_cell BK179.out 0).trans rfl; have hcz33_1 : w31.cell? ⟨gb179, 1, none⟩ = some (.int .i64 0) := (blk_cell BK179.out 1).trans rfl; have hcz33_2 : w31.cell? ⟨gb179, 2, none⟩ = some (.bool false) := (blk_cell BK179.out 2).trans rfl; have hfz33_0 := blk_frozen BK179.out 0; have hfz33_1 := blk_frozen BK179.out 1; have hfz33_2 := blk_frozen BK179.out 2)))
            go_roundg k2
            case measure => have := HJ1.out; have := HK2.out; omega
            case rel => exact ⟨(wrap64 (x3_2 + 1)), (by first | rfl | (simp; done) | (simp [*]; done)), H', ⟨by have := HJ1.out; have := HK2.out; omega⟩, ⟨by (with_reducible repeat (first | refine kN ?_ _ | refine kD ?_ | refine kA ?_ _)); refine blk_far ?_ NB177_179.out _; (with_reducible repeat (first | refine kN ?_ _ | refine kD ?_ | refine kA ?_ _)); refine blk_far ?_ NB177_179.out _; (with_reducible repeat (first | refine kN ?_ _ | refine kD ?_ | refine kA ?_ _)); refine blk_far ?_ NB177_179.out _; (with_reducible repeat (first | refine kN ?_ _ | refine kD ?_ | refine kA ?_ _)); exact BK177.out⟩, ⟨by repeat (first | (with_reducible first | exact HB.out | apply bA | apply bN | apply bD | refine bS ?_ GE177.out | refine bS ?_ GE179.out) | exact HB.out)⟩⟩
       ·
        rw [if_neg c9] at H
        exact absurd H (by simp)
      ·
       rw [if_neg c8] at H
       have c8b0 : decide (x3_2 < (l0_0.length : Int)) = false := decide_eq_false c8
       clear c8
       have H' := aM H
       clear H
       have hcz34_0 : wr.cell? ⟨gb177, 0, none⟩ = some (.slice A0_0 l0_0.length c0_0) := (blk_cell BK177.out 0).trans rfl
       have hcz34_1 : wr.cell? ⟨gb177, 1, none⟩ = some (.slice A0_1 l0_1.length c0_1) := (blk_cell BK177.out 1).trans rfl
       have hfz34_0 := blk_frozen BK177.out 0
       have hfz34_1 := blk_frozen BK177.out 1
       go_wp2
       repeat (go_quiet (fail); try go_wp2)
       go_loopg [5, 6] k2 (fun kq v5 v6 w' => ∃ (x5_3 : Int) (x6_3 : Int), v5 = .int .i64 x5_3 ∧ v6 = .int .i64 x6_3 ∧ Aside0 (fleuronref03_Right.l1 kq x5_3 x6_3 l0_0 l0_1 = some r) ∧ Aside0 (kq ≤ k2) ∧ Aside0 (w'.heap[gb177]? = some (.cells #[(.slice A0_0 l0_0.length c0_0), (.slice A0_1 l0_1.length c0_1)] 25 (0, 0))) ∧ Aside0 (Below w.heap.size w w'))
       case atStart => exact ⟨((-1)), (0), (by first | rfl | (simp; done) | (simp [*]; done)), (by first | rfl | (simp; done) | (simp [*]; done)), H', ⟨Nat.le_refl _⟩, ⟨by (with_reducible repeat (first | refine kN ?_ _ | refine kD ?_ | refine kA ?_ _)); exact BK177.out⟩, ⟨by repeat (first | (with_reducible first | exact HB.out | apply bA | apply bN | apply bD | refine bS ?_ GE177.out) | exact HB.out)⟩⟩
       case round =>
        clear H'
        try clear c1
        try clear p1
        try clear q1
        try clear hx1
        try clear c2
        try clear p2
        try clear c3
        try clear c4
        try clear c4b0
        try clear c4b1
        try clear p6
        try clear c7
        try clear c8
        try clear c8b0
        try clear c9
        try clear c9b0
        try clear c10
        try clear c10b0
        try clear c13
        try clear c15
        try clear c15b0
        try clear p17
        try clear q17
        try clear hx17
        try clear c18
        try clear c20
        try clear c20b0
        try clear c23
        try clear c25
        try clear c25b0
        try clear c28
        try clear c32
        try clear hcz11_0
        try clear hcz11_1
        try clear hcz14_0
        try clear hcz14_1
        try clear hcz14_2
        try clear hcz16_0
        try clear hcz16_1
        try clear hcz19_0
        try clear hcz19_1
        try clear hcz19_2
        try clear hcz21_0
        try clear hcz21_1
        try clear hcz24_0
        try clear hcz24_1
        try clear hcz24_2
        try clear hcz26_0
        try clear hcz26_1
        try clear hcz29_0
        try clear hcz29_1
        try clear hcz29_2
        try clear hcz30_0
        try clear hcz30_1
        try clear hcz33_0
        try clear hcz33_1
        try clear hcz33_2
        try clear hcz34_0
        try clear hcz34_1
        try clear hcz5_0
        try clear hcz5_1
        try clear hcz6_0
        try clear hcz6_1
        try clear hfz11_0
        try clear hfz11_1
        try clear hfz14_0
        try clear hfz14_1
        try clear hfz14_2
        try clear hfz16_0
        try clear hfz16_1
        try clear hfz19_0
        try clear hfz19_1
        try clear hfz19_2
        try clear hfz21_0
        try clear hfz21_1
        try clear hfz24_0
        try clear hfz24_1
        try clear hfz24_2
        try clear hfz26_0
        try clear hfz26_1
        try clear hfz29_0
        try clear hfz29_1
        try clear hfz29_2
        try clear hfz30_0
        try clear hfz30_1
        try clear hfz33_0
        try clear hfz33_1
        try clear hfz33_2
        try clear hfz34_0
        try clear hfz34_1
        try clear hfz5_0
        try clear hfz5_1
        try clear hfz6_0
        try clear hfz6_1
        try clear hx178_0
        try clear hx178_1
        try clear hx178_2
        try clear p178
        try clear p2
        try clear q178
        obtain ⟨x5_3, x6_3, rfl, rfl, HA, HK3, BK177, HB⟩ := hrel
        cases gk with
        | zero => exact absurd HA.out (by simp [fleuronref03_Right.l1])
        | succ k3 =>
         have H := HA.out
         clear HA
         simp only [fleuronref03_Right.l1] at H
         by_cases c35 : x6_3 < (l0_1.length : Int)
         ·
          rw [if_pos c35] at H
          have c35b0 : decide (x6_3 < (l0_1.length : Int)) = true := decide_eq_true c35
          clear c35
          by_cases c36 : 0 ≤ x6_3
          ·
           rw [if_pos c36] at H
           have c36b0 : decide (0 ≤ x6_3) = true := decide_eq_true c36
           clear c36
           by_cases c37 : (rd l0_1 x6_3) > (l0_0.length : Int)
           ·
            rw [if_pos c37] at H
            have c37b0 : decide ((l0_0.length : Int) < (rd l0_1 x6_3)) = true := decide_eq_true c37
            clear c37
            obtain rfl := Option.some.inj H
            have hcz38_0 : wr.cell? ⟨gb177, 0, none⟩ = some (.slice A0_0 l0_0.length c0_0) := (blk_cell BK177.out 0).trans rfl
            have hcz38_1 : wr.cell? ⟨gb177, 1, none⟩ = some (.slice A0_1 l0_1.length c0_1) := (blk_cell BK177.out 1).trans rfl
            have hfz38_0 := blk_frozen BK177.out 0
            have hfz38_1 := blk_frozen BK177.out 1
            have p180 : 0 ≤ (x6_3 : Int) := dT (by assumption)
            have q180 : x6_3 < (l0_1.length : Int) := dT (by assumption)
            obtain ⟨ad180, e180, hx180_0⟩ := Kd.at_int HR0_1.out x6_3 p180 q180
            cases e180
            replace hx180_0 := (HB.out.cell (World.block_lt_of_cell? w _ hx180_0)).trans hx180_0
            replace p180 := eq_true p180
            replace q180 := eq_true q180
            go_wp2
            repeat (go_quiet (fail); try go_wp2)
            go_ret
            exact ⟨by first | rfl | (simp [errW_none, errW_some] <;> rfl) | (simp [*, errW_none, errW_some] <;> rfl), by repeat (first | (with_reducible first | exact HB.out | apply bA | apply bN | apply bD | refine bS ?_ GE177.out) | exact HB.out)⟩
           ·
            rw [if_neg c37] at H
            have c37b0 : decide ((l0_0.length : Int) < (rd l0_1 x6_3)) = false := decide_eq_false c37
            clear c37
            by_cases c39 : (rd l0_1 x6_3) < (wrap64 (x5_3 + 2))
            ·
             rw [if_pos c39] at H
             have c39b0 : decide ((rd l0_1 x6_3) < (wrap64 (x5_3 + 2))) = true := decide_eq_true c39
             clear c39
             obtain rfl := Option.some.inj H
             have hcz40_0 : wr.cell? ⟨gb177, 0, none⟩ = some (.slice A0_0 l0_0.length c0_0) := (blk_cell BK177.out 0).trans rfl
             have hcz40_1 : wr.cell? ⟨gb177, 1, none⟩ = some (.slice A0_1 l0_1.length c0_1) := (blk_cell BK177.out 1).trans rfl
             have hfz40_0 := blk_frozen BK177.out 0
             have hfz40_1 := blk_frozen BK177.out 1
             have p180 : 0 ≤ (x6_3 : Int) := dT (by assumption)
             have q180 : x6_3 < (l0_1.length : Int) := dT (by assumption)
             obtain ⟨ad180, e180, hx180_0⟩ := Kd.at_int HR0_1.out x6_3 p180 q180
             cases e180
             replace hx180_0 := (HB.out.cell (World.block_lt_of_cell? w _ hx180_0)).trans hx180_0
             replace p180 := eq_true p180
             replace q180 := eq_true q180
             have p181 : 0 ≤ (x6_3 : Int) := dT (by assumption)
             have q181 : x6_3 < (l0_1.length : Int) := dT (by assumption)
             obtain ⟨ad181, e181, hx181_0⟩ := Kd.at_int HR0_1.out x6_3 p181 q181
             obtain rfl : ad180 = ad181 := (by injection e181)
             replace hx181_0 := (HB.out.cell (World.block_lt_of_cell? w _ hx181_0)).trans hx181_0
             replace p181 := eq_true p181
             replace q181 := eq_true q181
             go_wp2
             repeat (go_quiet (fail); try go_wp2)
             go_ret
             exact ⟨by first | rfl | (simp [errW_none, errW_some] <;> rfl) | (simp [*, errW_none, errW_some] <;> rfl), by repeat (first | (with_reducible first | exact HB.out | apply bA | apply bN | apply bD | refine bS ?_ GE177.out) | exact HB.out)⟩
            ·
             rw [if_neg c39] at H
             have c39b0 : decide ((rd l0_1 x6_3) < (wrap64 (x5_3 + 2))) = false := decide_eq_false c39
             clear c39
             have H' := aM H
             clear H
             have hcz41_0 : wr.cell? ⟨gb177, 0, none⟩ = some (.slice A0_0 l0_0.length c0_0) := (blk_cell BK177.out 0).trans rfl
             have hcz41_1 : wr.cell? ⟨gb177, 1, none⟩ = some (.slice A0_1 l0_1.length c0_1) := (blk_cell BK177.out 1).trans rfl
             have hfz41_0 := blk_frozen BK177.out 0
             have hfz41_1 := blk_frozen BK177.out 1
             have p180 : 0 ≤ (x6_3 : Int) := dT (by assumption)
             have q180 : x6_3 < (l0_1.length : Int) := dT (by assumption)
             obtain ⟨ad180, e180, hx180_0⟩ := Kd.at_int HR0_1.out x6_3 p180 q180
             cases e180
             replace hx180_0 := (HB.out.cell (World.block_lt_of_cell? w _ hx180_0)).trans hx180_0
             replace p180 := eq_true p180
             replace q180 := eq_true q180
             have p181 : 0 ≤ (x6_3 : Int) := dT (by assumption)
             have q181 : x6_3 < (l0_1.length : Int) := dT (by assumption)
             obtain ⟨ad181, e181, hx181_0⟩ := Kd.at_int HR0_1.out x6_3 p181 q181
             obtain rfl : ad180 = ad181 := (by injection e181)
             replace hx181_0 := (HB.out.cell (World.block_lt_of_cell? w _ hx181_0)).trans hx181_0
             replace p181 := eq_true p181
             replace q181 := eq_true q181
             have p182 : 0 ≤ (x6_3 : Int) := dT (by assumption)
             have q182 : x6_3 < (l0_1.length : Int) := dT (by assumption)
             obtain ⟨ad182, e182, hx182_0⟩ := Kd.at_int HR0_1.out x6_3 p182 q182
             obtain rfl : ad180 = ad182 := (by injection e182)
             replace hx182_0 := (HB.out.cell (World.block_lt_of_cell? w _ hx182_0)).trans hx182_0
             replace p182 := eq_true p182
             replace q182 := eq_true q182
             go_wp2
             repeat (go_quiet (fail); try go_wp2)
             go_roundg k3
             case measure => have := HJ1.out; have := HK2.out; have := HK3.out; omega
             case rel => exact ⟨(rd l0_1 x6_3), (wrap64 (x6_3 + 1)), (by first | rfl | (simp; done) | (simp [*]; done)), (by first | rfl | (simp; done) | (simp [*]; done)), H', ⟨by have := HJ1.out; have := HK2.out; have := HK3.out; omega⟩, ⟨by (with_reducible repeat (first | refine kN ?_ _ | refine kD ?_ | refine kA ?_ _)); exact BK177.out⟩, ⟨by repeat (first | (with_reducible first | exact HB.out | apply bA | apply bN | apply bD | refine bS ?_ GE177.out) | exact HB.out)⟩⟩
          ·
           rw [if_neg c36] at H
           exact absurd H (by simp)
         ·
          rw [if_neg c35] at H
          have c35b0 : decide (x6_3 < (l0_1.length : Int)) = false := decide_eq_false c35
          clear c35
          obtain rfl := Option.some.inj H
          have hcz42_0 : wr.cell? ⟨gb177, 0, none⟩ = some (.slice A0_0 l0_0.length c0_0) := (blk_cell BK177.out 0).trans rfl
          have hcz42_1 : wr.cell? ⟨gb177, 1, none⟩ = some (.slice A0_1 l0_1.length c0_1) := (blk_cell BK177.out 1).trans rfl
          have hfz42_0 := blk_frozen BK177.out 0
          have hfz42_1 := blk_frozen BK177.out 1
          go_wp2
          repeat (go_quiet (fail); try go_wp2)
          go_ret
          exact ⟨by first | rfl | (simp [errW_none, errW_some] <;> rfl) | (simp [*, errW_none, errW_some] <;> rfl), by repeat (first | (with_reducible first | exact HB.out | apply bA | apply bN | apply bD | refine bS ?_ GE177.out) | exact HB.out)⟩
end Go.Proofs.Ytbmklpcheopgoaa.H

namespace Go.Proofs.Ytbmklpcheopgoaa.H
open Go.RowKit Go.Proofs.YtbmklpcheopgoaaW.PrintWords Go.Proofs.YtbmklpcheopgoaaW.PrintLast Go.Proofs.YtbmklpcheopgoaaW.PrintMore
attribute [local go_sem] max2_int min2_int max_two min_two max_three min_three max_four min_four
set_option linter.unusedVariables false
set_option linter.unusedSimpArgs false
mutual
def fleuronref03_Area.l0 : Nat → Int → List (List (S33)) → Int → Option (Int)
 | 0, _, _, _ => none
 | k + 1, x3, x4, x5 => if x5 < (x4.length : Int) then (fleuronref03_Area.l1 k x3 x4 x5 0) else (some x3)
def fleuronref03_Area.l1 : Nat → Int → List (List (S33)) → Int → Int → Option (Int)
 | 0, _, _, _, _ => none
 | k + 1, x3, x4, x5, x6 => if 0 ≤ x5 then (if x5 < (x4.length : Int) then (if x6 < ((rd_L3 x4 x5).length : Int) then (if 0 ≤ x6 then (if ((rd_L3 x4 x5).length : Int) = 0 then (none) else (if 0 ≤ (Int.tmod (wrap64 (x6 + 1)) ((rd_L3 x4 x5).length : Int)) then (if (Int.tmod (wrap64 (x6 + 1)) ((rd_L3 x4 x5).length : Int)) < ((rd_L3 x4 x5).length : Int) then (fleuronref03_Area.l1 k (wrap64 ((wrap64 (x3 + (wrap64 (((rd_T33 (rd_L3 x4 x5) x6).f0) * ((rd_T33 (rd_L3 x4 x5) (Int.tmod (wrap64 (x6 + 1)) ((rd_L3 x4 x5).length : Int))).f1))))) - (wrap64 (((rd_T33 (rd_L3 x4 x5) (Int.tmod (wrap64 (x6 + 1)) ((rd_L3 x4 x5).length : Int))).f0) * ((rd_T33 (rd_L3 x4 x5) x6).f1))))) x4 x5 (wrap64 (x6 + 1))) else (none)) else (none))) else (none)) else (fleuronref03_Area.l0 k x3 x4 (wrap64 (x5 + 1)))) else (none)) else (none)
end
def fleuronref03_Area.f (k : Nat) (l0_0 : List (S33)) (l0_1 : List Int) : Option (Int) := (fleuronref03_Contours.f k l0_0 l0_1).bind fun t184 => (fleuronref03_Area.l0 k 0 t184 0)
theorem fleuronref03_Area.mono_l : ∀ k, (∀ y0 y1 y2, LeO (fleuronref03_Area.l0 k y0 y1 y2) (fleuronref03_Area.l0 (k + 1) y0 y1 y2)) ∧ (∀ y0 y1 y2 y3, LeO (fleuronref03_Area.l1 k y0 y1 y2 y3) (fleuronref03_Area.l1 (k + 1) y0 y1 y2 y3))
 | 0 => ⟨fun _ _ _ r h => by simp [fleuronref03_Area.l0] at h, fun _ _ _ _ r h => by simp [fleuronref03_Area.l1] at h⟩
 | k + 1 => by
  obtain ⟨ih0, ih1⟩ := fleuronref03_Area.mono_l k
  refine ⟨?_, ?_⟩
  ·
   intro y0 y1 y2
   unfold fleuronref03_Area.l0
   repeat' first
   | (with_reducible exact ih0 _ _ _)
   | (with_reducible exact ih1 _ _ _ _)
   | (with_reducible exact fleuronref03_Contours.mono _ _ _)
   | (with_reducible exact LeO.refl _)
   | (with_reducible exact LeO.none _)
   | (with_reducible refine LeO.ite ?_ ?_)
   | (with_reducible refine LeO.bind ?_ (fun _ => ?_))
   | exact ih0 _ _ _
   | exact ih1 _ _ _ _
   | exact fleuronref03_Contours.mono _ _ _
   | exact LeO.none _
   | refine LeO.ite ?_ ?_
   | refine LeO.bind ?_ (fun _ => ?_)
  ·
   intro y0 y1 y2 y3
   unfold fleuronref03_Area.l1
   repeat' first
   | (with_reducible exact ih0 _ _ _)
   | (with_reducible exact ih1 _ _ _ _)
   | (with_reducible exact fleuronref03_Contours.mono _ _ _)
   | (with_reducible exact LeO.refl _)
   | (with_reducible exact LeO.none _)
   | (with_reducible refine LeO.ite ?_ ?_)
   | (with_reducible refine LeO.bind ?_ (fun _ => ?_))
   | exact ih0 _ _ _
   | exact ih1 _ _ _ _
   | exact fleuronref03_Contours.mono _ _ _
   | exact LeO.none _
   | refine LeO.ite ?_ ?_
   | refine LeO.bind ?_ (fun _ => ?_)
theorem fleuronref03_Area.mono : ∀ a0 a1 k, LeO (fleuronref03_Area.f k a0 a1) (fleuronref03_Area.f (k + 1) a0 a1) := by
 intro a0 a1 k
 obtain ⟨ih0, ih1⟩ := fleuronref03_Area.mono_l k
 unfold fleuronref03_Area.f
 repeat' first
   | (with_reducible exact ih0 _ _ _)
   | (with_reducible exact ih1 _ _ _ _)
   | (with_reducible exact fleuronref03_Contours.mono _ _ _)
   | (with_reducible exact LeO.refl _)
   | (with_reducible exact LeO.none _)
   | (with_reducible refine LeO.ite ?_ ?_)
   | (with_reducible refine LeO.bind ?_ (fun _ => ?_))
   | exact ih0 _ _ _
   | exact ih1 _ _ _ _
   | exact fleuronref03_Contours.mono _ _ _
   | exact LeO.none _
   | refine LeO.ite ?_ ?_
   | refine LeO.bind ?_ (fun _ => ?_)
def fleuronref03_Area.T10 : Bool × List (List Nat × List Nat) := (true, [([], []), ([], []), ([0, 1], [0, 1]), ([2], [2]), ([], []), ([4], [4]), ([], []), ([], []), ([6, 7], [6, 7]), ([8], [8]), ([9], [9]), ([5, 10], [5, 10]), ([3, 11], [3, 11]), ([12], [12]), ([], []), ([14, 13, 0, 1, 2, 3, 4, 5, 6, 7, 8, 9, 10, 11, 12, 13, 14], [13, 14])])
def fleuronref03_Area.B10 : List Nat := [0, 0, 3, 7, 0, 16, 0, 0, 192, 448, 960, 2032, 4095, 8191, 0, 32767]
theorem fleuronref03_Area.tab10 : rtab .any (opsOf Try.f25 10) = fleuronref03_Area.T10 := by kernel_rfl
theorem fleuronref03_Area.bits10 : waitsOk fleuronref03_Area.T10.2 fleuronref03_Area.B10 = true := by kernel_rfl
set_option maxHeartbeats 8000000 in
set_option maxRecDepth 100000 in
theorem fleuronref03_Area.calls (k : Nat) (A0_0 : Option Addr) (c0_0 : Nat) (l0_0 : List (S33)) (A0_1 : Option Addr) (c0_1 : Nat) (l0_1 : List Int) (r : Int) (w : World) (hr0_0 : Kd.C k33 w A0_0 l0_0.length l0_0) (hc0_0 : l0_0.length ≤ c0_0) (hr0_1 : Kd.C (Kd.int .i64) w A0_1 l0_1.length l0_1) (hc0_1 : l0_1.length ≤ c0_1) (h : fleuronref03_Area.f k l0_0 l0_1 = some r) :
  Calls Try.prog 25 #[.agg #[.slice A0_0 l0_0.length c0_0, .slice A0_1 l0_1.length c0_1]] w fun e w' => e = .returned (.int .i64 r) ∧ Below w.heap.size w w' := by
 have hu25 := Try.underlying25
 have hu33 := Try.underlying33
 have HR0_0 := aM hr0_0
 have HC0_0 := aM hc0_0
 clear hr0_0 hc0_0
 have HR0_1 := aM hr0_1
 have HC0_1 := aM hc0_1
 clear hr0_1 hc0_1
 have HB := aM (Below.refl w.heap.size w)
 have H : ((fleuronref03_Contours.f k l0_0 l0_1).bind fun t184 => (fleuronref03_Area.l0 k 0 t184 0)) = some r := h
 clear h
 replace H := Option.bind_eq_some_iff.mp H
 obtain ⟨t184, A20, H⟩ := H
 replace H : (fleuronref03_Area.l0 k 0 t184 0) = some r := H
 have A2 := aM A20
 clear A20
 have H' := aM H
 clear H
 go_enter Try.func25, Try.ntmps25
 go_wp2_with (first | ((with_reducible refine gate_dst (N := 1) rfl ?_); refine box_event ?hg (N := 1) ?hd (cs := #[.slice A0_0 l0_0.length c0_0, .slice A0_1 l0_1.length c0_1]) (t := 25) ?hr ?_; (case hd => rfl); (case hg => rfl); (case hr => first | (go_simp; done) | (go_simp; rfl)); intro gb183 hg w3 hbox hb; have n0_ := aM (below_step (by repeat (first | (with_reducible first | exact HB.out | apply bA | apply bN | apply bD) | exact HB.out)) hb); have n1_ := aM (hbox); have n2_ := aM ((by rw [hg]; exact (below_size (by repeat (first | (with_reducible first | exact HB.out | apply bA | apply bN | apply bD) | exact HB.out))) : w.heap.size ≤ gb183)); have n3_ := aM ((by rw [hg]; exact (below_size (by repeat (first | (with_reducible first | exact HB.out | apply bA | apply bN | apply bD) | exact HB.out))) : w.heap.size ≤ gb183)); clear HB; have HB := n0_; have BK183 := n1_; have GW183 := n2_; have GE183 := n3_; clear n0_ n1_ n2_ n3_; clear hb hbox hg; have hcz4_0 : w3.cell? ⟨gb183, 0, none⟩ = some (.slice A0_0 l0_0.length c0_0) := (blk_cell BK183.out 0).trans rfl; have hcz4_1 : w3.cell? ⟨gb183, 1, none⟩ = some (.slice A0_1 l0_1.length c0_1) := (blk_cell BK183.out 1).trans rfl; have hfz4_0 := blk_frozen BK183.out 0; have hfz4_1 := blk_frozen BK183.out 1) | ((with_reducible refine gate_callee (f := 17) rfl ?_); refine goesL_ (some 10) rfl rfl Try.func17 (by kernel_rfl) rfl #[.agg #[.slice A0_0 l0_0.length c0_0, .slice A0_1 l0_1.length c0_1]] rfl (by (try simp only [List.map_toArray, List.map_cons, List.map_nil]); first | done | rfl | (simp only [List.length_drop, List.length_take]; rfl)) ?_; (with_reducible refine (fleuronref03_Contours.calls k _ _ l0_0 _ _ l0_1 t184 _ ?side1 ?side2 ?side3 ?side4 A2.out).mono ?_); (case side1 => repeat (first | exact (Kd.C_below HR0_0.out HB.out) | (with_reducible refine Kd.C_alloc ?_ _) | (with_reducible refine Kd.C_drewN ?_ _) | (with_reducible refine Kd.C_drew ?_))); (case side2 => exact HC0_0.out); (case side3 => repeat (first | exact (Kd.C_below HR0_1.out HB.out) | (with_reducible refine Kd.C_alloc ?_ _) | (with_reducible refine Kd.C_drewN ?_ _) | (with_reducible refine Kd.C_drew ?_))); (case side4 => exact HC0_1.out); rintro e w5 ⟨v185, rfl, ho0, hb⟩; refine ⟨_, rfl, ?_⟩; have n0_ := aM (Kd.S_lower ho0 (below_size (by repeat (first | (with_reducible first | exact HB.out | apply bA | apply bN | apply bD | refine bS ?_ GE183.out) | exact HB.out)))); have n1_ := aM (blk_below (g := gb183) (o := .cells #[.slice A0_0 l0_0.length c0_0, .slice A0_1 l0_1.length c0_1] 25 (0, 0)) (by (with_reducible repeat (first | refine kN ?_ _ | refine kD ?_ | refine kA ?_ _)); exact BK183.out) hb); have n2_ := aM (below_step (by repeat (first | (with_reducible first | exact HB.out | apply bA | apply bN | apply bD | refine bS ?_ GE183.out) | exact HB.out)) hb); clear BK183; clear HB; have HO186 := n0_; have BK183 := n1_; have HB := n2_; clear n0_ n1_ n2_; (try clear hb); (try clear hb2); (try clear hk); (try clear hi); (try clear ho0)))
 go_loopg [3, 5] k (fun kq v3 v5 w' => ∃ (x3_1 : Int) (x5_1 : Int), v3 = .int .i64 x3_1 ∧ v5 = .int .i64 x5_1 ∧ Aside0 (fleuronref03_Area.l0 kq x3_1 t184 x5_1 = some r) ∧ Aside0 (kq ≤ k) ∧ Aside0 (Kd.S (Kd.slice 33 k33) 22 w' w.heap.size (fun _ => True) v185 t184) ∧ Aside0 (w'.heap[gb183]? = some (.cells #[(.slice A0_0 l0_0.length c0_0), (.slice A0_1 l0_1.length c0_1)] 25 (0, 0))) ∧ Aside0 (Below w.heap.size w w'))
 case atStart => exact ⟨(0), (0), (by first | rfl | (simp; done) | (simp [*]; done)), (by first | rfl | (simp; done) | (simp [*]; done)), H', ⟨Nat.le_refl _⟩, ⟨by (with_reducible repeat (first | apply Kd.S_alloc | apply Kd.S_drewN | apply Kd.S_drew)); exact HO186.out⟩, ⟨by (with_reducible repeat (first | refine kN ?_ _ | refine kD ?_ | refine kA ?_ _)); exact BK183.out⟩, ⟨by repeat (first | (with_reducible first | exact HB.out | apply bA | apply bN | apply bD | refine bS ?_ GE183.out) | exact HB.out)⟩⟩
 case round =>
  clear H'
  try clear c1
  try clear c2
  try clear p2
  try clear hcz4_0
  try clear hcz4_1
  try clear hfz4_0
  try clear hfz4_1
  obtain ⟨x3_1, x5_1, rfl, rfl, HA, HK1, HO_4, BK183, HB⟩ := hrel
  cases gk with
  | zero => exact absurd HA.out (by simp [fleuronref03_Area.l0])
  | succ k1 =>
   have H := HA.out
   clear HA
   simp only [fleuronref03_Area.l0] at H
   by_cases c6 : x5_1 < (t184.length : Int)
   ·
    rw [if_pos c6] at H
    have c6b0 : decide (x5_1 < (t184.length : Int)) = true := decide_eq_true c6
    clear c6
    have H' := aM H
    clear H
    obtain ⟨Ao7, co7, eo7⟩ := Kd.S_slice HO_4.out
    subst eo7
    go_wp2
    go_loopg [3, 6] k1 (fun kq v3 v6 w' => ∃ (x3_2 : Int) (x6_2 : Int), v3 = .int .i64 x3_2 ∧ v6 = .int .i64 x6_2 ∧ Aside0 (fleuronref03_Area.l1 kq x3_2 t184 x5_1 x6_2 = some r) ∧ Aside0 (kq ≤ k1) ∧ Aside0 (Kd.S (Kd.slice 33 k33) 22 w' w.heap.size (fun _ => True) (.slice Ao7 t184.length co7) t184) ∧ Aside0 (w'.heap[gb183]? = some (.cells #[(.slice A0_0 l0_0.length c0_0), (.slice A0_1 l0_1.length c0_1)] 25 (0, 0))) ∧ Aside0 (Below w.heap.size w w'))
    case atStart => exact ⟨(x3_1), (0), (by first | rfl | (simp; done) | (simp [*]; done)), (by first | rfl | (simp; done) | (simp [*]; done)), H', ⟨Nat.le_refl _⟩, ⟨by (with_reducible repeat (first | apply Kd.S_alloc | apply Kd.S_drewN | apply Kd.S_drew)); exact HO_4.out⟩, ⟨by (with_reducible repeat (first | refine kN ?_ _ | refine kD ?_ | refine kA ?_ _)); exact BK183.out⟩, ⟨by repeat (first | (with_reducible first | exact HB.out | apply bA | apply bN | apply bD | refine bS ?_ GE183.out) | exact HB.out)⟩⟩
    case round =>
     clear H'
     try clear c1
     try clear c2
     try clear p2
     try clear c6
     try clear c6b0
     try clear hcz4_0
     try clear hcz4_1
     try clear hfz4_0
     try clear hfz4_1
     try clear p2
     obtain ⟨x3_2, x6_2, rfl, rfl, HA, HK2, HO_4, BK183, HB⟩ := hrel
     cases gk with
     | zero => exact absurd HA.out (by simp [fleuronref03_Area.l1])
     | succ k2 =>
      have H := HA.out
      clear HA
      simp only [fleuronref03_Area.l1] at H
      by_cases c8 : 0 ≤ x5_1
      ·
       rw [if_pos c8] at H
       have c8b0 : decide (0 ≤ x5_1) = true := decide_eq_true c8
       clear c8
       by_cases c9 : x5_1 < (t184.length : Int)
       ·
        rw [if_pos c9] at H
        have c9b0 : decide (x5_1 < (t184.length : Int)) = true := decide_eq_true c9
        clear c9
        by_cases c10 : x6_2 < ((rd_L3 t184 x5_1).length : Int)
        ·
         rw [if_pos c10] at H
         have c10b0 : decide (x6_2 < ((rd_L3 t184 x5_1).length : Int)) = true := decide_eq_true c10
         clear c10
         by_cases c11 : 0 ≤ x6_2
         ·
          rw [if_pos c11] at H
          have c11b0 : decide (0 ≤ x6_2) = true := decide_eq_true c11
          clear c11
          by_cases c12 : ((rd_L3 t184 x5_1).length : Int) = 0
          ·
           rw [if_pos c12] at H
           exact absurd H (by simp)
          ·
           rw [if_neg c12] at H
           have c12b0 : (((rd_L3 t184 x5_1).length : Int) == 0) = false := beq_eq_false_iff_ne.mpr c12
           have c12b1 : (((rd_L3 t184 x5_1).length : Int) != 0) = true := bne_iff_ne.mpr c12
           have c12b2 : ¬ ((rd_L3 t184 x5_1) = []) := fun h_ => c12 (by rw [h_]; rfl)
           obtain ⟨ji13, hji13⟩ : ∃ j_ : Int, (Int.tmod (wrap64 (x6_2 + 1)) ((rd_L3 t184 x5_1).length : Int)) = j_ := ⟨_, rfl⟩
           replace H : (if 0 ≤ (ji13) then (if (ji13) < ((rd_L3 t184 x5_1).length : Int) then (fleuronref03_Area.l1 k2 (wrap64 ((wrap64 (x3_2 + (wrap64 (((rd_T33 (rd_L3 t184 x5_1) x6_2).f0) * ((rd_T33 (rd_L3 t184 x5_1) (ji13)).f1))))) - (wrap64 (((rd_T33 (rd_L3 t184 x5_1) (ji13)).f0) * ((rd_T33 (rd_L3 t184 x5_1) x6_2).f1))))) t184 x5_1 (wrap64 (x6_2 + 1))) else (none)) else (none)) = some r := by first | (rw [hji13] at H; exact H) | (simp only [hji13] at H ⊢; exact H)
           by_cases c14 : 0 ≤ (ji13)
           ·
            rw [if_pos c14] at H
            have c14b0 : decide (0 ≤ (ji13)) = true := decide_eq_true c14
            clear c14
            by_cases c15 : (ji13) < ((rd_L3 t184 x5_1).length : Int)
            ·
             rw [if_pos c15] at H
             have c15b0 : decide ((ji13) < ((rd_L3 t184 x5_1).length : Int)) = true := decide_eq_true c15
             clear c15
             have H' := aM H
             clear H
             have p187 : 0 ≤ (x5_1 : Int) := dT (by assumption)
             have q187 : x5_1 < (t184.length : Int) := dT (by assumption)
             obtain ⟨ad187, A187_0, c187_0, e187, hx187_0, hl187_0, hi187_0⟩ := at_L3 (Kd.S_reads' HO_4.out).2.2 x5_1 p187 q187
             cases e187
             obtain ⟨ce187, hce187, hMe187, hcc187⟩ := Kd.S_get HO_4.out [] x5_1 p187 (by first | exact q187 | exact dT (by assumption) | (have e_ := (Kd.S_reads' HO_4.out).1; omega))
             obtain ⟨ve187_0, rfl, ge187_0⟩ := hMe187
             have hv187_0 := hcc187 0 _ rfl
             rw [Nat.add_zero, show ((Kd.slice 33 k33)).sz = 1 from rfl, Nat.mul_one] at hv187_0
             replace hv187_0 := Option.some.inj (hv187_0.symm.trans hx187_0)
             rw [hv187_0] at ge187_0
             have HL187_0 := aM (show Kd.R k33 33 _ _ _ _ (rd_L3 t184 x5_1) from ge187_0)
             clear hv187_0 ge187_0
             clear hcc187 hce187
             have HR187_0 := aM hi187_0
             have HC187_0 := aM hl187_0
             clear hi187_0 hl187_0
             replace p187 := eq_true p187
             replace q187 := eq_true q187
             have p188 : 0 ≤ (x5_1 : Int) := dT (by assumption)
             have q188 : x5_1 < (t184.length : Int) := dT (by assumption)
             obtain ⟨ad188, A188_0, c188_0, e188, hx188_0, hl188_0, hi188_0⟩ := at_L3 (Kd.S_reads' HO_4.out).2.2 x5_1 p188 q188
             obtain rfl : ad187 = ad188 := (by injection e188)
             obtain ⟨ce188, hce188, hMe188, hcc188⟩ := Kd.S_get HO_4.out [] x5_1 p188 (by first | exact q188 | exact dT (by assumption) | (have e_ := (Kd.S_reads' HO_4.out).1; omega))
             obtain ⟨ve188_0, rfl, ge188_0⟩ := hMe188
             have hv188_0 := hcc188 0 _ rfl
             rw [Nat.add_zero, show ((Kd.slice 33 k33)).sz = 1 from rfl, Nat.mul_one] at hv188_0
             replace hv188_0 := Option.some.inj (hv188_0.symm.trans hx188_0)
             rw [hv188_0] at ge188_0
             have HL188_0 := aM (show Kd.R k33 33 _ _ _ _ (rd_L3 t184 x5_1) from ge188_0)
             clear hv188_0 ge188_0
             clear hcc188 hce188
             have HR188_0 := aM hi188_0
             have HC188_0 := aM hl188_0
             clear hi188_0 hl188_0
             replace p188 := eq_true p188
             replace q188 := eq_true q188
             have ea_ := Option.some.inj (hx187_0.symm.trans hx188_0)
             injection ea_ with ea_ en_ ec_
             subst ea_
             subst ec_
             clear en_
             have p189 : 0 ≤ (x6_2 : Int) := dT (by assumption)
             have q189 : x6_2 < ((rd_L3 t184 x5_1).length : Int) := dT (by assumption)
             obtain ⟨ad189, e189, hx189_0, hx189_1, hx189_2⟩ := at_T33 (by repeat (first | (with_reducible exact HR188_0.out) | (with_reducible refine Kd.C_alloc ?_ _) | (with_reducible refine Kd.C_drewN ?_ _) | (with_reducible refine Kd.C_drew ?_) | exact HR188_0.out)) x6_2 p189 q189
             cases e189
             replace p189 := eq_true p189
             replace q189 := eq_true q189
             try go_wp2_with (first | ((with_reducible refine gate_dst (N := 7) rfl ?_); refine box_event ?hg (N := 7) ?hd (cs := #[.int .i64 0, .int .i64 0, .bool false]) (t := 33) ?hr ?_; (case hd => rfl); (case hg => rfl); (case hr => first | (go_simp; done) | (go_simp; rfl)); intro gb190 hg w16 hbox hb; have n0_ := aM (Kd.S_below (Kd.S_elderB (by (with_reducible repeat (first | apply Kd.S_alloc | apply Kd.S_drewN | apply Kd.S_drew)); exact HO_4.out) gb190 (Nat.le_of_eq hg.symm)) hb); have n1_ := aM (Kd.R_below (Kd.R_elderB (by (with_reducible repeat (first | apply Kd.R_alloc | apply Kd.R_drewN | apply Kd.R_drew)); exact HL187_0.out) gb190 (Nat.le_of_eq hg.symm)) hb); have n2_ := aM (Kd.R_below (Kd.R_elderB (by (with_reducible repeat (first | apply Kd.R_alloc | apply Kd.R_drewN | apply Kd.R_drew)); exact HL188_0.out) gb190 (Nat.le_of_eq hg.symm)) hb); have n3_ := aM (blk_below (g := gb183) (o := .cells #[.slice A0_0 l0_0.length c0_0, .slice A0_1 l0_1.length c0_1] 25 (0, 0)) (by (with_reducible repeat (first | refine kN ?_ _ | refine kD ?_ | refine kA ?_ _)); exact BK183.out) hb); have n4_ := aM (Kd.C_below (by repeat (first | (with_reducible exact HR187_0.out) | (with_reducible refine Kd.C_alloc ?_ _) | (with_reducible refine Kd.C_drewN ?_ _) | (with_reducible refine Kd.C_drew ?_) | exact HR187_0.out)) hb); have n5_ := aM (Kd.C_below (by repeat (first | (with_reducible exact HR188_0.out) | (with_reducible refine Kd.C_alloc ?_ _) | (with_reducible refine Kd.C_drewN ?_ _) | (with_reducible refine Kd.C_drew ?_) | exact HR188_0.out)) hb); have n6_ := aM (below_step (by repeat (first | (with_reducible first | exact HB.out | apply bA | apply bN | apply bD | refine bS ?_ GE183.out) | exact HB.out)) hb); have n7_ := aM (hbox); have n8_ := aM ((by rw [hg]; exact (below_size (by repeat (first | (with_reducible first | exact HB.out | apply bA | apply bN | apply bD | refine bS ?_ GE183.out) | exact HB.out))) : w.heap.size ≤ gb190)); have n9_ := aM ((by rw [hg]; exact (below_size (by repeat (first | (with_reducible first | exact HB.out | apply bA | apply bN | apply bD | refine bS ?_ GE183.out) | exact HB.out))) : w.heap.size ≤ gb190)); have n10_ := aM ((by rw [hg]; exact Nat.ne_of_lt (blk_lt (g := gb183) (o := .cells #[.slice A0_0 l0_0.length c0_0, .slice A0_1 l0_1.length c0_1] 25 (0, 0)) (by (with_reducible repeat (first | refine kN ?_ _ | refine kD ?_ | refine kA ?_ _)); exact BK183.out)) : gb183 ≠ gb190)); have n11_ := aM ((by rw [hg]; exact Nat.ne_of_gt (blk_lt (g := gb183) (o := .cells #[.slice A0_0 l0_0.length c0_0, .slice A0_1 l0_1.length c0_1] 25 (0, 0)) (by (with_reducible repeat (first | refine kN ?_ _ | refine kD ?_ | refine kA ?_ _)); exact BK183.out)) : gb190 ≠ gb183)); clear HO_4; clear HL187_0; clear HL188_0; clear BK183; clear HR187_0; clear HR188_0; clear HB; have HO_4 := n0_; have HL187_0 := n1_; have HL188_0 := n2_; have BK183 := n3_; have HR187_0 := n4_; have HR188_0 := n5_; have HB := n6_; have BK190 := n7_; have GW190 := n8_; have GE190 := n9_; have NB183_190 := n10_; have NB190_183 := n11_; clear n0_ n1_ n2_ n3_ n4_ n5_ n6_ n7_ n8_ n9_ n10_ n11_; clear hb hbox hg; have hnb17 := NB190_183.out; have hnc17 := NB183_190.out; have hcz18_0 : w16.cell? ⟨gb190, 0, none⟩ = some (.int .i64 0) := (blk_cell BK190.out 0).trans rfl; have hcz18_1 : w16.cell? ⟨gb190, 1, none⟩ = some (.int .i64 0) := (blk_cell BK190.out 1).trans rfl; have hcz18_2 : w16.cell? ⟨gb190, 2, none⟩ = some (.bool false) := (blk_cell BK190.out 2).trans rfl; have hfz18_0 := blk_frozen BK190.out 0; have hfz18_1 := blk_frozen BK190.out 1; have hfz18_2 := blk_frozen BK190.out 2))
             have n0_ : Aside0 (Kd.S (Kd.slice 33 k33) 22 (((w16.setCell ⟨gb190, 0, none⟩ (.int .i64 ((rd_T33 (rd_L3 t184 x5_1) x6_2).f0))).setCell ⟨gb190, 1, none⟩ (.int .i64 ((rd_T33 (rd_L3 t184 x5_1) x6_2).f1))).setCell ⟨gb190, 2, none⟩ (.bool ((rd_T33 (rd_L3 t184 x5_1) x6_2).f2))) w.heap.size (fun k_ => k_ ≠ gb190) (.slice (some ad187) t184.length co7) t184) := ⟨by (with_reducible repeat (first | apply Kd.S_alloc | apply Kd.S_drewN | apply Kd.S_drew)); exact Kd.S_mono (Kd.S_far (p := ⟨gb190, 2, none⟩) (Kd.S_far (p := ⟨gb190, 1, none⟩) (Kd.S_far (p := ⟨gb190, 0, none⟩) (Kd.S_mono HO_4.out (fun k_ hk => (⟨hk, hk.2⟩ : _ ∧ k_ ≠ gb190))) (fun _ hk => hk.2) (.int .i64 ((rd_T33 (rd_L3 t184 x5_1) x6_2).f0))) (fun _ hk => hk.2) (.int .i64 ((rd_T33 (rd_L3 t184 x5_1) x6_2).f1))) (fun _ hk => hk.2) (.bool ((rd_T33 (rd_L3 t184 x5_1) x6_2).f2))) (fun _ hk => hk.1.2)⟩
             have n1_ : Aside0 (Kd.R k33 33 (((w16.setCell ⟨gb190, 0, none⟩ (.int .i64 ((rd_T33 (rd_L3 t184 x5_1) x6_2).f0))).setCell ⟨gb190, 1, none⟩ (.int .i64 ((rd_T33 (rd_L3 t184 x5_1) x6_2).f1))).setCell ⟨gb190, 2, none⟩ (.bool ((rd_T33 (rd_L3 t184 x5_1) x6_2).f2))) w.heap.size (fun k_ => some k_ ≠ (.slice (some ad187) t184.length co7 : Value).ownBlock ∧ k_ ≠ gb190) (.slice (some ad189) (rd_L3 t184 x5_1).length c187_0) (rd_L3 t184 x5_1)) := ⟨by (with_reducible repeat (first | apply Kd.R_alloc | apply Kd.R_drewN | apply Kd.R_drew)); exact Kd.R_mono (Kd.R_far (p := ⟨gb190, 2, none⟩) (Kd.R_far (p := ⟨gb190, 1, none⟩) (Kd.R_far (p := ⟨gb190, 0, none⟩) (Kd.R_mono HL187_0.out (fun k_ hk => (⟨hk, hk.2⟩ : _ ∧ k_ ≠ gb190))) (fun _ hk => hk.2) (.int .i64 ((rd_T33 (rd_L3 t184 x5_1) x6_2).f0))) (fun _ hk => hk.2) (.int .i64 ((rd_T33 (rd_L3 t184 x5_1) x6_2).f1))) (fun _ hk => hk.2) (.bool ((rd_T33 (rd_L3 t184 x5_1) x6_2).f2))) (fun _ hk => ⟨hk.1.1.2, hk.1.2⟩)⟩
             have n2_ : Aside0 (Kd.R k33 33 (((w16.setCell ⟨gb190, 0, none⟩ (.int .i64 ((rd_T33 (rd_L3 t184 x5_1) x6_2).f0))).setCell ⟨gb190, 1, none⟩ (.int .i64 ((rd_T33 (rd_L3 t184 x5_1) x6_2).f1))).setCell ⟨gb190, 2, none⟩ (.bool ((rd_T33 (rd_L3 t184 x5_1) x6_2).f2))) w.heap.size (fun k_ => some k_ ≠ (.slice (some ad187) t184.length co7 : Value).ownBlock ∧ k_ ≠ gb190) (.slice (some ad189) (rd_L3 t184 x5_1).length c187_0) (rd_L3 t184 x5_1)) := ⟨by (with_reducible repeat (first | apply Kd.R_alloc | apply Kd.R_drewN | apply Kd.R_drew)); exact Kd.R_mono (Kd.R_far (p := ⟨gb190, 2, none⟩) (Kd.R_far (p := ⟨gb190, 1, none⟩) (Kd.R_far (p := ⟨gb190, 0, none⟩) (Kd.R_mono HL188_0.out (fun k_ hk => (⟨hk, hk.2⟩ : _ ∧ k_ ≠ gb190))) (fun _ hk => hk.2) (.int .i64 ((rd_T33 (rd_L3 t184 x5_1) x6_2).f0))) (fun _ hk => hk.2) (.int .i64 ((rd_T33 (rd_L3 t184 x5_1) x6_2).f1))) (fun _ hk => hk.2) (.bool ((rd_T33 (rd_L3 t184 x5_1) x6_2).f2))) (fun _ hk => ⟨hk.1.1.2, hk.1.2⟩)⟩
             have n3_ : Aside0 ((((w16.setCell ⟨gb190, 0, none⟩ (.int .i64 ((rd_T33 (rd_L3 t184 x5_1) x6_2).f0))).setCell ⟨gb190, 1, none⟩ (.int .i64 ((rd_T33 (rd_L3 t184 x5_1) x6_2).f1))).setCell ⟨gb190, 2, none⟩ (.bool ((rd_T33 (rd_L3 t184 x5_1) x6_2).f2))).heap[gb183]? = some (.cells #[.slice A0_0 l0_0.length c0_0, .slice A0_1 l0_1.length c0_1] 25 (0, 0))) := ⟨by (with_reducible repeat (first | refine kN ?_ _ | refine kD ?_ | refine kA ?_ _)); refine blk_far ?_ NB183_190.out _; (with_reducible repeat (first | refine kN ?_ _ | refine kD ?_ | refine kA ?_ _)); refine blk_far ?_ NB183_190.out _; (with_reducible repeat (first | refine kN ?_ _ | refine kD ?_ | refine kA ?_ _)); refine blk_far ?_ NB183_190.out _; (with_reducible repeat (first | refine kN ?_ _ | refine kD ?_ | refine kA ?_ _)); exact BK183.out⟩
             have n4_ : Aside0 ((((w16.setCell ⟨gb190, 0, none⟩ (.int .i64 ((rd_T33 (rd_L3 t184 x5_1) x6_2).f0))).setCell ⟨gb190, 1, none⟩ (.int .i64 ((rd_T33 (rd_L3 t184 x5_1) x6_2).f1))).setCell ⟨gb190, 2, none⟩ (.bool ((rd_T33 (rd_L3 t184 x5_1) x6_2).f2))).heap[gb190]? = some (.cells #[.int .i64 ((rd_T33 (rd_L3 t184 x5_1) x6_2).f0), .int .i64 ((rd_T33 (rd_L3 t184 x5_1) x6_2).f1), .bool ((rd_T33 (rd_L3 t184 x5_1) x6_2).f2)] 33 (0, 0))) := ⟨by (with_reducible repeat (first | refine kN ?_ _ | refine kD ?_ | refine kA ?_ _)); refine blk_put (cs := #[.int .i64 ((rd_T33 (rd_L3 t184 x5_1) x6_2).f0), .int .i64 ((rd_T33 (rd_L3 t184 x5_1) x6_2).f1), .bool false]) ?_ 2 _ rfl; (with_reducible repeat (first | refine kN ?_ _ | refine kD ?_ | refine kA ?_ _)); refine blk_put (cs := #[.int .i64 ((rd_T33 (rd_L3 t184 x5_1) x6_2).f0), .int .i64 0, .bool false]) ?_ 1 _ rfl; (with_reducible repeat (first | refine kN ?_ _ | refine kD ?_ | refine kA ?_ _)); refine blk_put (cs := #[.int .i64 0, .int .i64 0, .bool false]) ?_ 0 _ rfl; (with_reducible repeat (first | refine kN ?_ _ | refine kD ?_ | refine kA ?_ _)); exact BK190.out⟩
             have n5_ : Aside0 (Below w.heap.size w (((w16.setCell ⟨gb190, 0, none⟩ (.int .i64 ((rd_T33 (rd_L3 t184 x5_1) x6_2).f0))).setCell ⟨gb190, 1, none⟩ (.int .i64 ((rd_T33 (rd_L3 t184 x5_1) x6_2).f1))).setCell ⟨gb190, 2, none⟩ (.bool ((rd_T33 (rd_L3 t184 x5_1) x6_2).f2)))) := ⟨by repeat (first | (with_reducible first | exact HB.out | apply bA | apply bN | apply bD | refine bS ?_ GE183.out | refine bS ?_ GE190.out) | exact HB.out)⟩
             (try clear HO_4)
             (try clear HL187_0)
             (try clear HL188_0)
             (try clear BK183)
             (try clear BK190)
             (try clear HB)
             generalize (((w16.setCell ⟨gb190, 0, none⟩ (.int .i64 ((rd_T33 (rd_L3 t184 x5_1) x6_2).f0))).setCell ⟨gb190, 1, none⟩ (.int .i64 ((rd_T33 (rd_L3 t184 x5_1) x6_2).f1))).setCell ⟨gb190, 2, none⟩ (.bool ((rd_T33 (rd_L3 t184 x5_1) x6_2).f2))) = w19 at n0_ n1_ n2_ n3_ n4_ n5_ ⊢
             have HO_4 := n0_
             have HL187_0 := n1_
             have HL188_0 := n2_
             have BK183 := n3_
             have BK190 := n4_
             have HB := n5_
             clear n0_ n1_ n2_ n3_ n4_ n5_
             have n0_ := aM (Kd.S_drew HO_4.out)
             have n1_ := aM (Kd.R_drew HL187_0.out)
             have n2_ := aM (Kd.R_drew HL188_0.out)
             have n3_ := aM (kD BK183.out)
             have n4_ := aM (kD BK190.out)
             have n5_ := aM (bD HB.out)
             clear HO_4
             clear HL187_0
             clear HL188_0
             clear BK183
             clear BK190
             clear HB
             have HO_4 := n0_
             have HL187_0 := n1_
             have HL188_0 := n2_
             have BK183 := n3_
             have BK190 := n4_
             have HB := n5_
             clear n0_ n1_ n2_ n3_ n4_ n5_
             have p191 : 0 ≤ (x5_1 : Int) := dT (by assumption)
             have q191 : x5_1 < (t184.length : Int) := dT (by assumption)
             obtain ⟨ad191, A191_0, c191_0, e191, hx191_0, hl191_0, hi191_0⟩ := at_L3 (Kd.S_reads' HO_4.out).2.2 x5_1 p191 q191
             obtain rfl : ad187 = ad191 := (by injection e191)
             obtain ⟨ce191, hce191, hMe191, hcc191⟩ := Kd.S_get HO_4.out [] x5_1 p191 (by first | exact q191 | exact dT (by assumption) | (have e_ := (Kd.S_reads' HO_4.out).1; omega))
             obtain ⟨ve191_0, rfl, ge191_0⟩ := hMe191
             have hv191_0 := hcc191 0 _ rfl
             rw [Nat.add_zero, show ((Kd.slice 33 k33)).sz = 1 from rfl, Nat.mul_one] at hv191_0
             replace hv191_0 := Option.some.inj (hv191_0.symm.trans hx191_0)
             rw [hv191_0] at ge191_0
             have HL191_0 := aM (show Kd.R k33 33 _ _ _ _ (rd_L3 t184 x5_1) from ge191_0)
             clear hv191_0 ge191_0
             clear hcc191 hce191
             have HR191_0 := aM hi191_0
             have HC191_0 := aM hl191_0
             clear hi191_0 hl191_0
             replace p191 := eq_true p191
             replace q191 := eq_true q191
             have p192 : 0 ≤ (x5_1 : Int) := dT (by assumption)
             have q192 : x5_1 < (t184.length : Int) := dT (by assumption)
             obtain ⟨ad192, A192_0, c192_0, e192, hx192_0, hl192_0, hi192_0⟩ := at_L3 (Kd.S_reads' HO_4.out).2.2 x5_1 p192 q192
             obtain rfl : ad187 = ad192 := (by injection e192)
             obtain ⟨ce192, hce192, hMe192, hcc192⟩ := Kd.S_get HO_4.out [] x5_1 p192 (by first | exact q192 | exact dT (by assumption) | (have e_ := (Kd.S_reads' HO_4.out).1; omega))
             obtain ⟨ve192_0, rfl, ge192_0⟩ := hMe192
             have hv192_0 := hcc192 0 _ rfl
             rw [Nat.add_zero, show ((Kd.slice 33 k33)).sz = 1 from rfl, Nat.mul_one] at hv192_0
             replace hv192_0 := Option.some.inj (hv192_0.symm.trans hx192_0)
             rw [hv192_0] at ge192_0
             have HL192_0 := aM (show Kd.R k33 33 _ _ _ _ (rd_L3 t184 x5_1) from ge192_0)
             clear hv192_0 ge192_0
             clear hcc192 hce192
             have HR192_0 := aM hi192_0
             have HC192_0 := aM hl192_0
             clear hi192_0 hl192_0
             replace p192 := eq_true p192
             replace q192 := eq_true q192
             have ea_ := Option.some.inj (hx191_0.symm.trans hx192_0)
             injection ea_ with ea_ en_ ec_
             subst ea_
             subst ec_
             clear en_
             have p193 : 0 ≤ ((ji13) : Int) := dT (by assumption)
             have q193 : (ji13) < ((rd_L3 t184 x5_1).length : Int) := dT (by assumption)
             obtain ⟨ad193, e193, hx193_0, hx193_1, hx193_2⟩ := at_T33 (by repeat (first | (with_reducible exact HR191_0.out) | (with_reducible refine Kd.C_alloc ?_ _) | (with_reducible refine Kd.C_drewN ?_ _) | (with_reducible refine Kd.C_drew ?_) | exact HR191_0.out)) (ji13) p193 q193
             cases e193
             replace p193 := eq_true p193
             replace q193 := eq_true q193
             refine start_ (n := 16) (S := fun w' => w'.cell? (ad187.add (x5_1).toNat) = some (.slice (some ad193) (rd_L3 t184 x5_1).length c191_0) ∧ w'.cell? (ad187.add (x5_1).toNat) = some (.slice (some ad193) (rd_L3 t184 x5_1).length c191_0) ∧ w'.cell? (ad193.add (((ji13)).toNat * 3)) = some (.int .i64 ((rd_T33 (rd_L3 t184 x5_1) (ji13)).f0)) ∧ w'.cell? ⟨(ad193.add (((ji13)).toNat * 3)).block, (ad193.add (((ji13)).toNat * 3)).off + 1, none⟩ = some (.int .i64 ((rd_T33 (rd_L3 t184 x5_1) (ji13)).f1)) ∧ w'.cell? ⟨(ad193.add (((ji13)).toNat * 3)).block, (ad193.add (((ji13)).toNat * 3)).off + 2, none⟩ = some (.bool ((rd_T33 (rd_L3 t184 x5_1) (ji13)).f2))) (ds := []) #[false, false, false, false, false, false, false, false, false, false, false, false, false, false, false, false] (by kernel_rfl) rfl rfl ⟨hx191_0, hx192_0, hx193_0, hx193_1, hx193_2⟩ (fun hHeld => ?_); refine with_tabW fleuronref03_Area.tab10 fleuronref03_Area.bits10 (fun HT_ HW_ => ?_)
             generalize w19.drew = w20 at HO_4 HL187_0 HL188_0 BK183 BK190 HB HL191_0 HL192_0 HR191_0 HR192_0 hx191_0 hx192_0 hx193_0 hx193_1 hx193_2 hHeld ⊢
             refine pure_ (i := 0) (N := some 33) (v := ?_) (a' := ?_) #[true, false, false, false, false, false, false, false, false, false, false, false, false, false, false, false] rfl rfl (any_of HT_.out (by kernel_rfl)) (fun _ _ _ h => h) (Or.inl ⟨by rfl, ?_⟩) ?_ ?_
             rotate_left
             ·
              intro w'
              go_simp
              with_reducible rfl
             rotate_left
             ·
              simp only [Act.put, List.setIfInBounds_toArray, List.set_cons_zero, List.set_cons_succ, i64_w, i32_w]
              rfl
             refine pure_ (i := 1) (N := some 34) (v := ?_) (a' := ?_) #[true, true, false, false, false, false, false, false, false, false, false, false, false, false, false, false] rfl rfl (any_of HT_.out (by kernel_rfl)) (fun _ _ _ h => h) (Or.inl ⟨by rfl, ?_⟩) ?_ ?_
             rotate_left
             ·
              intro w'
              go_simp
              with_reducible rfl
             rotate_left
             ·
              simp only [Act.put, List.setIfInBounds_toArray, List.set_cons_zero, List.set_cons_succ, i64_w, i32_w]
              rfl
             refine pure_ (i := 2) (N := some 35) (v := ?_) (a' := ?_) #[true, true, true, false, false, false, false, false, false, false, false, false, false, false, false, false] rfl rfl (any_of HT_.out (by kernel_rfl)) (fun _ _ _ h => h) (Or.inl ⟨by rfl, ?_⟩) ?_ ?_
             rotate_left
             ·
              intro w'
              go_simp
              with_reducible rfl
             rotate_left
             ·
              simp only [Act.put, List.setIfInBounds_toArray, List.set_cons_zero, List.set_cons_succ, i64_w, i32_w]
              rfl
             refine pure_ (i := 4) (N := some 37) (v := ?_) (a' := ?_) #[true, true, true, false, true, false, false, false, false, false, false, false, false, false, false, false] rfl rfl (any_of HT_.out (by kernel_rfl)) (fun _ _ _ h => h) (Or.inl ⟨by rfl, ?_⟩) ?_ ?_
             rotate_left
             ·
              intro w'
              go_simp
              with_reducible rfl
             rotate_left
             ·
              simp only [Act.put, List.setIfInBounds_toArray, List.set_cons_zero, List.set_cons_succ, i64_w, i32_w]
              rfl
             refine pure_ (i := 5) (N := some 38) (v := ?_) (a' := ?_) #[true, true, true, false, true, true, false, false, false, false, false, false, false, false, false, false] rfl rfl (any_of HT_.out (by kernel_rfl)) (fun _ _ _ h => h) (Or.inl ⟨by rfl, ?_⟩) ?_ ?_
             rotate_left
             ·
              intro w'
              go_simp
              with_reducible rfl
             rotate_left
             ·
              simp only [Act.put, List.setIfInBounds_toArray, List.set_cons_zero, List.set_cons_succ, i64_w, i32_w]
              rfl
             refine pure_ (i := 6) (N := some 39) (v := ?_) (a' := ?_) #[true, true, true, false, true, true, true, false, false, false, false, false, false, false, false, false] rfl rfl (any_of HT_.out (by kernel_rfl)) (fun _ _ _ h => h) (Or.inl ⟨by rfl, ?_⟩) ?_ ?_
             rotate_left
             ·
              intro w'
              go_simp
              with_reducible rfl
             rotate_left
             ·
              simp only [Act.put, List.setIfInBounds_toArray, List.set_cons_zero, List.set_cons_succ, i64_w, i32_w]
              rfl
             refine pure_ (i := 7) (N := some 40) (v := ?_) (a' := ?_) #[true, true, true, false, true, true, true, true, false, false, false, false, false, false, false, false] rfl rfl (any_of HT_.out (by kernel_rfl)) (fun _ _ _ h => h) (Or.inl ⟨by rfl, ?_⟩) ?_ ?_
             rotate_left
             ·
              intro w'
              go_simp
              with_reducible rfl
             rotate_left
             ·
              simp only [Act.put, List.setIfInBounds_toArray, List.set_cons_zero, List.set_cons_succ, i64_w, i32_w]
              rfl
             refine pure_ (i := 8) (N := some 41) (v := ?_) (a' := ?_) #[true, true, true, false, true, true, true, true, true, false, false, false, false, false, false, false] rfl rfl (any_of HT_.out (by kernel_rfl)) (fun _ _ _ h => h) (Or.inl ⟨by rfl, ?_⟩) ?_ ?_
             rotate_left
             ·
              intro w'
              go_simp
              with_reducible rfl
             rotate_left
             ·
              simp only [Act.put, List.setIfInBounds_toArray, List.set_cons_zero, List.set_cons_succ, i64_w, i32_w]
              rfl
             refine take_ (i := 3) (N := some 36) (v := ?_) (a' := ?_) #[true, true, true, true, true, true, true, true, true, false, false, false, false, false, false, false] rfl rfl (take_ofW HT_.out HW_.out (by kernel_rfl)) (fun _ _ _ h => h) (Or.inl ⟨by rfl, ?_⟩) hHeld ?_ ?_
             rotate_left
             ·
              rintro w' ⟨s0, s1, s2, s3, s4⟩
              go_simp
              with_reducible rfl
             rotate_left
             ·
              simp only [Act.put, List.setIfInBounds_toArray, List.set_cons_zero, List.set_cons_succ, i64_w, i32_w]
              rfl
             refine take_ (i := 9) (N := some 42) (v := ?_) (a' := ?_) #[true, true, true, true, true, true, true, true, true, true, false, false, false, false, false, false] rfl rfl (take_ofW HT_.out HW_.out (by kernel_rfl)) (fun _ _ _ h => h) (Or.inl ⟨by rfl, ?_⟩) hHeld ?_ ?_
             rotate_left
             ·
              rintro w' ⟨s0, s1, s2, s3, s4⟩
              go_simp
              with_reducible rfl
             rotate_left
             ·
              simp only [Act.put, List.setIfInBounds_toArray, List.set_cons_zero, List.set_cons_succ, i64_w, i32_w]
              rfl
             refine pure_ (i := 10) (N := some 43) (v := ?_) (a' := ?_) #[true, true, true, true, true, true, true, true, true, true, true, false, false, false, false, false] rfl rfl (any_of HT_.out (by kernel_rfl)) (fun _ _ _ h => h) (Or.inl ⟨by rfl, ?_⟩) ?_ ?_
             rotate_left
             ·
              intro w'
              go_simp
              with_reducible rfl
             rotate_left
             ·
              simp only [Act.put, List.setIfInBounds_toArray, List.set_cons_zero, List.set_cons_succ, i64_w, i32_w]
              rfl
             refine pure_ (i := 11) (N := some 44) (v := ?_) (a' := ?_) #[true, true, true, true, true, true, true, true, true, true, true, true, false, false, false, false] rfl rfl (any_of HT_.out (by kernel_rfl)) (fun _ _ _ h => h) (Or.inl ⟨by rfl, ?_⟩) ?_ ?_
             rotate_left
             ·
              intro w'
              go_simp
              with_reducible rfl
             rotate_left
             ·
              simp only [Act.put, List.setIfInBounds_toArray, List.set_cons_zero, List.set_cons_succ, i64_w, i32_w]
              rfl
             refine pure_ (i := 12) (N := some 45) (v := ?_) (a' := ?_) #[true, true, true, true, true, true, true, true, true, true, true, true, true, false, false, false] rfl rfl (any_of HT_.out (by kernel_rfl)) (fun _ _ _ h => h) (Or.inl ⟨by rfl, ?_⟩) ?_ ?_
             rotate_left
             ·
              intro w'
              go_simp
              with_reducible rfl
             rotate_left
             ·
              simp only [Act.put, List.setIfInBounds_toArray, List.set_cons_zero, List.set_cons_succ, i64_w, i32_w]
              rfl
             refine take_ (i := 13) (N := some 46) (v := ?_) (a' := ?_) #[true, true, true, true, true, true, true, true, true, true, true, true, true, true, false, false] rfl rfl (take_ofW HT_.out HW_.out (by kernel_rfl)) (fun _ _ _ h => h) (Or.inl ⟨by rfl, ?_⟩) hHeld ?_ ?_
             rotate_left
             ·
              rintro w' ⟨s0, s1, s2, s3, s4⟩
              go_simp
              with_reducible rfl
             rotate_left
             ·
              simp only [Act.put, List.setIfInBounds_toArray, List.set_cons_zero, List.set_cons_succ, i64_w, i32_w]
              rfl
             refine one_ (i := 14) (N := some 8) #[true, true, true, true, true, true, true, true, true, true, true, true, true, true, true, false] rfl rfl (one_of HT_.out (by kernel_rfl)) (by decide) (fun K hK => ?_)
             refine box_step ?hg (N := 8) ?hd (cs := #[.int .i64 0, .int .i64 0, .bool false]) (t := 33) ?hr ?_; (case hd => rfl); (case hg => rfl); (case hr => first | (go_simp; done) | (go_simp; rfl))
             intro gb194 hg w21 hbox hb
             have HS0_ := (hb.cell (World.block_lt_of_cell? _ _ (hHeld.1))).trans (hHeld.1)
             have HS1_ := (hb.cell (World.block_lt_of_cell? _ _ (hHeld.2.1))).trans (hHeld.2.1)
             have HS2_ := (hb.cell (World.block_lt_of_cell? _ _ (hHeld.2.2.1))).trans (hHeld.2.2.1)
             have HS3_ := (hb.cell (World.block_lt_of_cell? _ _ (hHeld.2.2.2.1))).trans (hHeld.2.2.2.1)
             have HS4_ := (hb.cell (World.block_lt_of_cell? _ _ (hHeld.2.2.2.2))).trans (hHeld.2.2.2.2)
             have n0_ := aM (Kd.S_below (Kd.S_elderB (by (with_reducible repeat (first | apply Kd.S_alloc | apply Kd.S_drewN | apply Kd.S_drew)); exact HO_4.out) gb194 (Nat.le_of_eq hg.symm)) hb)
             have n1_ := aM (Kd.R_below (Kd.R_elderB (by (with_reducible repeat (first | apply Kd.R_alloc | apply Kd.R_drewN | apply Kd.R_drew)); exact HL187_0.out) gb194 (Nat.le_of_eq hg.symm)) hb)
             have n2_ := aM (Kd.R_below (Kd.R_elderB (by (with_reducible repeat (first | apply Kd.R_alloc | apply Kd.R_drewN | apply Kd.R_drew)); exact HL188_0.out) gb194 (Nat.le_of_eq hg.symm)) hb)
             have n3_ := aM (Kd.R_below (Kd.R_elderB (by (with_reducible repeat (first | apply Kd.R_alloc | apply Kd.R_drewN | apply Kd.R_drew)); exact HL191_0.out) gb194 (Nat.le_of_eq hg.symm)) hb)
             have n4_ := aM (Kd.R_below (Kd.R_elderB (by (with_reducible repeat (first | apply Kd.R_alloc | apply Kd.R_drewN | apply Kd.R_drew)); exact HL192_0.out) gb194 (Nat.le_of_eq hg.symm)) hb)
             have n5_ := aM (blk_below (g := gb183) (o := .cells #[.slice A0_0 l0_0.length c0_0, .slice A0_1 l0_1.length c0_1] 25 (0, 0)) (by (with_reducible repeat (first | refine kN ?_ _ | refine kD ?_ | refine kA ?_ _)); exact BK183.out) hb)
             have n6_ := aM (blk_below (g := gb190) (o := .cells #[.int .i64 ((rd_T33 (rd_L3 t184 x5_1) x6_2).f0), .int .i64 ((rd_T33 (rd_L3 t184 x5_1) x6_2).f1), .bool ((rd_T33 (rd_L3 t184 x5_1) x6_2).f2)] 33 (0, 0)) (by (with_reducible repeat (first | refine kN ?_ _ | refine kD ?_ | refine kA ?_ _)); exact BK190.out) hb)
             have n7_ := aM (Kd.C_below (by repeat (first | (with_reducible exact HR191_0.out) | (with_reducible refine Kd.C_alloc ?_ _) | (with_reducible refine Kd.C_drewN ?_ _) | (with_reducible refine Kd.C_drew ?_) | exact HR191_0.out)) hb)
             have n8_ := aM (Kd.C_below (by repeat (first | (with_reducible exact HR192_0.out) | (with_reducible refine Kd.C_alloc ?_ _) | (with_reducible refine Kd.C_drewN ?_ _) | (with_reducible refine Kd.C_drew ?_) | exact HR192_0.out)) hb)
             have n9_ := aM (below_step (by repeat (first | (with_reducible first | exact HB.out | apply bA | apply bN | apply bD | refine bS ?_ GE183.out | refine bS ?_ GE190.out) | exact HB.out)) hb)
             have n10_ := aM (hbox)
             have n11_ := aM ((by rw [hg]; exact (below_size (by repeat (first | (with_reducible first | exact HB.out | apply bA | apply bN | apply bD | refine bS ?_ GE183.out | refine bS ?_ GE190.out) | exact HB.out))) : w.heap.size ≤ gb194))
             have n12_ := aM ((by rw [hg]; exact (below_size (by repeat (first | (with_reducible first | exact HB.out | apply bA | apply bN | apply bD | refine bS ?_ GE183.out | refine bS ?_ GE190.out) | exact HB.out))) : w.heap.size ≤ gb194))
             have n13_ := aM ((by rw [hg]; exact Nat.ne_of_lt (blk_lt (g := gb183) (o := .cells #[.slice A0_0 l0_0.length c0_0, .slice A0_1 l0_1.length c0_1] 25 (0, 0)) (by (with_reducible repeat (first | refine kN ?_ _ | refine kD ?_ | refine kA ?_ _)); exact BK183.out)) : gb183 ≠ gb194))
             have n14_ := aM ((by rw [hg]; exact Nat.ne_of_gt (blk_lt (g := gb183) (o := .cells #[.slice A0_0 l0_0.length c0_0, .slice A0_1 l0_1.length c0_1] 25 (0, 0)) (by (with_reducible repeat (first | refine kN ?_ _ | refine kD ?_ | refine kA ?_ _)); exact BK183.out)) : gb194 ≠ gb183))
             have n15_ := aM ((by rw [hg]; exact Nat.ne_of_lt (blk_lt (g := gb190) (o := .cells #[.int .i64 ((rd_T33 (rd_L3 t184 x5_1) x6_2).f0), .int .i64 ((rd_T33 (rd_L3 t184 x5_1) x6_2).f1), .bool ((rd_T33 (rd_L3 t184 x5_1) x6_2).f2)] 33 (0, 0)) (by (with_reducible repeat (first | refine kN ?_ _ | refine kD ?_ | refine kA ?_ _)); exact BK190.out)) : gb190 ≠ gb194))
             have n16_ := aM ((by rw [hg]; exact Nat.ne_of_gt (blk_lt (g := gb190) (o := .cells #[.int .i64 ((rd_T33 (rd_L3 t184 x5_1) x6_2).f0), .int .i64 ((rd_T33 (rd_L3 t184 x5_1) x6_2).f1), .bool ((rd_T33 (rd_L3 t184 x5_1) x6_2).f2)] 33 (0, 0)) (by (with_reducible repeat (first | refine kN ?_ _ | refine kD ?_ | refine kA ?_ _)); exact BK190.out)) : gb194 ≠ gb190))
             clear HO_4
             clear HL187_0
             clear HL188_0
             clear HL191_0
             clear HL192_0
             clear BK183
             clear BK190
             clear HR191_0
             clear HR192_0
             clear HB
             have HO_4 := n0_
             have HL187_0 := n1_
             have HL188_0 := n2_
             have HL191_0 := n3_
             have HL192_0 := n4_
             have BK183 := n5_
             have BK190 := n6_
             have HR191_0 := n7_
             have HR192_0 := n8_
             have HB := n9_
             have BK194 := n10_
             have GW194 := n11_
             have GE194 := n12_
             have NB183_194 := n13_
             have NB194_183 := n14_
             have NB190_194 := n15_
             have NB194_190 := n16_
             clear n0_ n1_ n2_ n3_ n4_ n5_ n6_ n7_ n8_ n9_ n10_ n11_ n12_ n13_ n14_ n15_ n16_
             clear hb hbox hg
             refine hK.out _ _ ⟨HS0_, HS1_, HS2_, HS3_, HS4_⟩ (fun hHeld => ?_)
             clear hK K
             refine norm_ (a' := ?_) ?_ ?_
             rotate_left
             ·
              show Act.put _ (some 8) _ = _
              simp only [Act.put, List.setIfInBounds_toArray, List.set_cons_zero, List.set_cons_succ, i64_w, i32_w]
              rfl
             refine one_ (i := 15) (N := none) #[true, true, true, true, true, true, true, true, true, true, true, true, true, true, true, true] rfl rfl (one_of HT_.out (by kernel_rfl)) (by decide) (fun K hK => ?_)
             have hs22 : w21.cell? ⟨gb194, 0, none⟩ = some (.int .i64 0) := (blk_cell BK194.out 0).trans rfl
             have hfs22 := blk_frozen BK194.out 0
             have hns22_0 := NB183_194.out
             have hns22_1 := NB190_194.out
             have hms22_0 := NB194_183.out
             have hms22_1 := NB194_190.out
             have hs23 : w21.cell? ⟨gb194, 1, none⟩ = some (.int .i64 0) := (blk_cell BK194.out 1).trans rfl
             have hfs23 := blk_frozen BK194.out 1
             have hns23_0 := NB183_194.out
             have hns23_1 := NB190_194.out
             have hms23_0 := NB194_183.out
             have hms23_1 := NB194_190.out
             have hs24 : w21.cell? ⟨gb194, 2, none⟩ = some (.bool false) := (blk_cell BK194.out 2).trans rfl
             have hfs24 := blk_frozen BK194.out 2
             have hns24_0 := NB183_194.out
             have hns24_1 := NB190_194.out
             have hms24_0 := NB194_183.out
             have hms24_1 := NB194_190.out
             refine skip_ (w1 := ?_) (by rfl) rfl ?_ ?_
             rotate_left
             ·
              go_simp
              rfl
             refine hK.out _ _ ⟨((cell_far (p := ⟨gb194, _, none⟩) (by first | exact Kd.own_blk (Kd.S_away HO_4.out (fun _ hk => hk.2)) | (rw [add_block]; exact Kd.own_blk (Kd.S_away HO_4.out (fun _ hk => hk.2))) | (show (Addr.add _ _).block ≠ _; rw [add_block]; exact Kd.own_blk (Kd.S_away HO_4.out (fun _ hk => hk.2))) | (dsimp only; exact Kd.own_blk (Kd.S_away HO_4.out (fun _ hk => hk.2)))) _).trans (((cell_far (p := ⟨gb194, _, none⟩) (by first | exact Kd.own_blk (Kd.S_away HO_4.out (fun _ hk => hk.2)) | (rw [add_block]; exact Kd.own_blk (Kd.S_away HO_4.out (fun _ hk => hk.2))) | (show (Addr.add _ _).block ≠ _; rw [add_block]; exact Kd.own_blk (Kd.S_away HO_4.out (fun _ hk => hk.2))) | (dsimp only; exact Kd.own_blk (Kd.S_away HO_4.out (fun _ hk => hk.2)))) _).trans (((cell_far (p := ⟨gb194, _, none⟩) (by first | exact Kd.own_blk (Kd.S_away HO_4.out (fun _ hk => hk.2)) | (rw [add_block]; exact Kd.own_blk (Kd.S_away HO_4.out (fun _ hk => hk.2))) | (show (Addr.add _ _).block ≠ _; rw [add_block]; exact Kd.own_blk (Kd.S_away HO_4.out (fun _ hk => hk.2))) | (dsimp only; exact Kd.own_blk (Kd.S_away HO_4.out (fun _ hk => hk.2)))) _).trans (hHeld.1)))))), ((cell_far (p := ⟨gb194, _, none⟩) (by first | exact Kd.own_blk (Kd.S_away HO_4.out (fun _ hk => hk.2)) | (rw [add_block]; exact Kd.own_blk (Kd.S_away HO_4.out (fun _ hk => hk.2))) | (show (Addr.add _ _).block ≠ _; rw [add_block]; exact Kd.own_blk (Kd.S_away HO_4.out (fun _ hk => hk.2))) | (dsimp only; exact Kd.own_blk (Kd.S_away HO_4.out (fun _ hk => hk.2)))) _).trans (((cell_far (p := ⟨gb194, _, none⟩) (by first | exact Kd.own_blk (Kd.S_away HO_4.out (fun _ hk => hk.2)) | (rw [add_block]; exact Kd.own_blk (Kd.S_away HO_4.out (fun _ hk => hk.2))) | (show (Addr.add _ _).block ≠ _; rw [add_block]; exact Kd.own_blk (Kd.S_away HO_4.out (fun _ hk => hk.2))) | (dsimp only; exact Kd.own_blk (Kd.S_away HO_4.out (fun _ hk => hk.2)))) _).trans (((cell_far (p := ⟨gb194, _, none⟩) (by first | exact Kd.own_blk (Kd.S_away HO_4.out (fun _ hk => hk.2)) | (rw [add_block]; exact Kd.own_blk (Kd.S_away HO_4.out (fun _ hk => hk.2))) | (show (Addr.add _ _).block ≠ _; rw [add_block]; exact Kd.own_blk (Kd.S_away HO_4.out (fun _ hk => hk.2))) | (dsimp only; exact Kd.own_blk (Kd.S_away HO_4.out (fun _ hk => hk.2)))) _).trans (hHeld.2.1)))))), ((cell_far (p := ⟨gb194, _, none⟩) (by first | exact Kd.own_blk (Kd.R_away HL191_0.out (fun _ hk => hk.2)) | (rw [add_block]; exact Kd.own_blk (Kd.R_away HL191_0.out (fun _ hk => hk.2))) | (show (Addr.add _ _).block ≠ _; rw [add_block]; exact Kd.own_blk (Kd.R_away HL191_0.out (fun _ hk => hk.2))) | (dsimp only; exact Kd.own_blk (Kd.R_away HL191_0.out (fun _ hk => hk.2)))) _).trans (((cell_far (p := ⟨gb194, _, none⟩) (by first | exact Kd.own_blk (Kd.R_away HL191_0.out (fun _ hk => hk.2)) | (rw [add_block]; exact Kd.own_blk (Kd.R_away HL191_0.out (fun _ hk => hk.2))) | (show (Addr.add _ _).block ≠ _; rw [add_block]; exact Kd.own_blk (Kd.R_away HL191_0.out (fun _ hk => hk.2))) | (dsimp only; exact Kd.own_blk (Kd.R_away HL191_0.out (fun _ hk => hk.2)))) _).trans (((cell_far (p := ⟨gb194, _, none⟩) (by first | exact Kd.own_blk (Kd.R_away HL191_0.out (fun _ hk => hk.2)) | (rw [add_block]; exact Kd.own_blk (Kd.R_away HL191_0.out (fun _ hk => hk.2))) | (show (Addr.add _ _).block ≠ _; rw [add_block]; exact Kd.own_blk (Kd.R_away HL191_0.out (fun _ hk => hk.2))) | (dsimp only; exact Kd.own_blk (Kd.R_away HL191_0.out (fun _ hk => hk.2)))) _).trans (hHeld.2.2.1)))))), ((cell_far (p := ⟨gb194, _, none⟩) (by first | exact Kd.own_blk (Kd.R_away HL191_0.out (fun _ hk => hk.2)) | (rw [add_block]; exact Kd.own_blk (Kd.R_away HL191_0.out (fun _ hk => hk.2))) | (show (Addr.add _ _).block ≠ _; rw [add_block]; exact Kd.own_blk (Kd.R_away HL191_0.out (fun _ hk => hk.2))) | (dsimp only; exact Kd.own_blk (Kd.R_away HL191_0.out (fun _ hk => hk.2)))) _).trans (((cell_far (p := ⟨gb194, _, none⟩) (by first | exact Kd.own_blk (Kd.R_away HL191_0.out (fun _ hk => hk.2)) | (rw [add_block]; exact Kd.own_blk (Kd.R_away HL191_0.out (fun _ hk => hk.2))) | (show (Addr.add _ _).block ≠ _; rw [add_block]; exact Kd.own_blk (Kd.R_away HL191_0.out (fun _ hk => hk.2))) | (dsimp only; exact Kd.own_blk (Kd.R_away HL191_0.out (fun _ hk => hk.2)))) _).trans (((cell_far (p := ⟨gb194, _, none⟩) (by first | exact Kd.own_blk (Kd.R_away HL191_0.out (fun _ hk => hk.2)) | (rw [add_block]; exact Kd.own_blk (Kd.R_away HL191_0.out (fun _ hk => hk.2))) | (show (Addr.add _ _).block ≠ _; rw [add_block]; exact Kd.own_blk (Kd.R_away HL191_0.out (fun _ hk => hk.2))) | (dsimp only; exact Kd.own_blk (Kd.R_away HL191_0.out (fun _ hk => hk.2)))) _).trans (hHeld.2.2.2.1)))))), ((cell_far (p := ⟨gb194, _, none⟩) (by first | exact Kd.own_blk (Kd.R_away HL191_0.out (fun _ hk => hk.2)) | (rw [add_block]; exact Kd.own_blk (Kd.R_away HL191_0.out (fun _ hk => hk.2))) | (show (Addr.add _ _).block ≠ _; rw [add_block]; exact Kd.own_blk (Kd.R_away HL191_0.out (fun _ hk => hk.2))) | (dsimp only; exact Kd.own_blk (Kd.R_away HL191_0.out (fun _ hk => hk.2)))) _).trans (((cell_far (p := ⟨gb194, _, none⟩) (by first | exact Kd.own_blk (Kd.R_away HL191_0.out (fun _ hk => hk.2)) | (rw [add_block]; exact Kd.own_blk (Kd.R_away HL191_0.out (fun _ hk => hk.2))) | (show (Addr.add _ _).block ≠ _; rw [add_block]; exact Kd.own_blk (Kd.R_away HL191_0.out (fun _ hk => hk.2))) | (dsimp only; exact Kd.own_blk (Kd.R_away HL191_0.out (fun _ hk => hk.2)))) _).trans (((cell_far (p := ⟨gb194, _, none⟩) (by first | exact Kd.own_blk (Kd.R_away HL191_0.out (fun _ hk => hk.2)) | (rw [add_block]; exact Kd.own_blk (Kd.R_away HL191_0.out (fun _ hk => hk.2))) | (show (Addr.add _ _).block ≠ _; rw [add_block]; exact Kd.own_blk (Kd.R_away HL191_0.out (fun _ hk => hk.2))) | (dsimp only; exact Kd.own_blk (Kd.R_away HL191_0.out (fun _ hk => hk.2)))) _).trans (hHeld.2.2.2.2))))))⟩ (fun hHeld => ?_)
             clear hK K
             refine done_ (done_of HT_.out (by kernel_rfl)) ?_
             have hnb25 := NB190_194.out
             have hnc25 := NB194_190.out
             have hcz26_0 : w21.cell? ⟨gb190, 0, none⟩ = some (.int .i64 ((rd_T33 (rd_L3 t184 x5_1) x6_2).f0)) := (blk_cell BK190.out 0).trans rfl
             have hcz26_1 : w21.cell? ⟨gb190, 1, none⟩ = some (.int .i64 ((rd_T33 (rd_L3 t184 x5_1) x6_2).f1)) := (blk_cell BK190.out 1).trans rfl
             have hcz26_2 : w21.cell? ⟨gb190, 2, none⟩ = some (.bool ((rd_T33 (rd_L3 t184 x5_1) x6_2).f2)) := (blk_cell BK190.out 2).trans rfl
             have hfz26_0 := blk_frozen BK190.out 0
             have hfz26_1 := blk_frozen BK190.out 1
             have hfz26_2 := blk_frozen BK190.out 2
             have hnb27 := NB194_183.out
             have hnc27 := NB183_194.out
             have hcz28_0 : w21.cell? ⟨gb194, 0, none⟩ = some (.int .i64 0) := (blk_cell BK194.out 0).trans rfl
             have hcz28_1 : w21.cell? ⟨gb194, 1, none⟩ = some (.int .i64 0) := (blk_cell BK194.out 1).trans rfl
             have hcz28_2 : w21.cell? ⟨gb194, 2, none⟩ = some (.bool false) := (blk_cell BK194.out 2).trans rfl
             have hfz28_0 := blk_frozen BK194.out 0
             have hfz28_1 := blk_frozen BK194.out 1
             have hfz28_2 := blk_frozen BK194.out 2
             try go_wp2
             go_roundg k2
             case measure => have := HK1.out; have := HK2.out; omega
             case rel => exact ⟨(wrap64 ((wrap64 (x3_2 + (wrap64 (((rd_T33 (rd_L3 t184 x5_1) x6_2).f0) * ((rd_T33 (rd_L3 t184 x5_1) (ji13)).f1))))) - (wrap64 (((rd_T33 (rd_L3 t184 x5_1) (ji13)).f0) * ((rd_T33 (rd_L3 t184 x5_1) x6_2).f1))))), (wrap64 (x6_2 + 1)), (by first | rfl | (simp; done) | (simp only [← hji13] <;> (first | rfl | simp)) | (simp [*]; done)), (by first | rfl | (simp; done) | (simp [*]; done)), H', ⟨by have := HK1.out; have := HK2.out; omega⟩, ⟨by (with_reducible repeat (first | apply Kd.S_alloc | apply Kd.S_drewN | apply Kd.S_drew)); exact Kd.S_mono (Kd.S_far (p := ⟨gb194, 2, none⟩) (Kd.S_far (p := ⟨gb194, 1, none⟩) (Kd.S_far (p := ⟨gb194, 0, none⟩) (Kd.S_mono HO_4.out (fun k_ hk => (⟨hk, hk.2⟩ : _ ∧ k_ ≠ gb194))) (fun _ hk => hk.2) (.int .i64 ((rd_T33 (rd_L3 t184 x5_1) (ji13)).f0))) (fun _ hk => hk.2) (.int .i64 ((rd_T33 (rd_L3 t184 x5_1) (ji13)).f1))) (fun _ hk => hk.2) (.bool ((rd_T33 (rd_L3 t184 x5_1) (ji13)).f2))) (fun _ hk => trivial)⟩, ⟨by (with_reducible repeat (first | refine kN ?_ _ | refine kD ?_ | refine kA ?_ _)); refine blk_far ?_ NB183_194.out _; (with_reducible repeat (first | refine kN ?_ _ | refine kD ?_ | refine kA ?_ _)); refine blk_far ?_ NB183_194.out _; (with_reducible repeat (first | refine kN ?_ _ | refine kD ?_ | refine kA ?_ _)); refine blk_far ?_ NB183_194.out _; (with_reducible repeat (first | refine kN ?_ _ | refine kD ?_ | refine kA ?_ _)); exact BK183.out⟩, ⟨by repeat (first | (with_reducible first | exact HB.out | apply bA | apply bN | apply bD | refine bS ?_ GE183.out | refine bS ?_ GE190.out | refine bS ?_ GE194.out) | exact HB.out)⟩⟩
            ·
             rw [if_neg c15] at H
             exact absurd H (by simp)
           ·
            rw [if_neg c14] at H
            exact absurd H (by simp)
         ·
          rw [if_neg c11] at H
          exact absurd H (by simp)
        ·
         rw [if_neg c10] at H
         have c10b0 : decide (x6_2 < ((rd_L3 t184 x5_1).length : Int)) = false := decide_eq_false c10
         clear c10
         have H' := aM H
         clear H
         have p187 : 0 ≤ (x5_1 : Int) := dT (by assumption)
         have q187 : x5_1 < (t184.length : Int) := dT (by assumption)
         obtain ⟨ad187, A187_0, c187_0, e187, hx187_0, hl187_0, hi187_0⟩ := at_L3 (Kd.S_reads' HO_4.out).2.2 x5_1 p187 q187
         cases e187
         obtain ⟨ce187, hce187, hMe187, hcc187⟩ := Kd.S_get HO_4.out [] x5_1 p187 (by first | exact q187 | exact dT (by assumption) | (have e_ := (Kd.S_reads' HO_4.out).1; omega))
         obtain ⟨ve187_0, rfl, ge187_0⟩ := hMe187
         have hv187_0 := hcc187 0 _ rfl
         rw [Nat.add_zero, show ((Kd.slice 33 k33)).sz = 1 from rfl, Nat.mul_one] at hv187_0
         replace hv187_0 := Option.some.inj (hv187_0.symm.trans hx187_0)
         rw [hv187_0] at ge187_0
         have HL187_0 := aM (show Kd.R k33 33 _ _ _ _ (rd_L3 t184 x5_1) from ge187_0)
         clear hv187_0 ge187_0
         clear hcc187 hce187
         have HR187_0 := aM hi187_0
         have HC187_0 := aM hl187_0
         clear hi187_0 hl187_0
         replace p187 := eq_true p187
         replace q187 := eq_true q187
         go_wp2
         go_roundg k2
         case measure => have := HK1.out; have := HK2.out; omega
         case rel => exact ⟨(x3_2), (wrap64 (x5_1 + 1)), (by first | rfl | (simp; done) | (simp [*]; done)), (by first | rfl | (simp; done) | (simp [*]; done)), H', ⟨by have := HK1.out; have := HK2.out; omega⟩, ⟨by (with_reducible repeat (first | apply Kd.S_alloc | apply Kd.S_drewN | apply Kd.S_drew)); exact HO_4.out⟩, ⟨by (with_reducible repeat (first | refine kN ?_ _ | refine kD ?_ | refine kA ?_ _)); exact BK183.out⟩, ⟨by repeat (first | (with_reducible first | exact HB.out | apply bA | apply bN | apply bD | refine bS ?_ GE183.out) | exact HB.out)⟩⟩
       ·
        rw [if_neg c9] at H
        exact absurd H (by simp)
      ·
       rw [if_neg c8] at H
       exact absurd H (by simp)
   ·
    rw [if_neg c6] at H
    have c6b0 : decide (x5_1 < (t184.length : Int)) = false := decide_eq_false c6
    clear c6
    obtain rfl := Option.some.inj H
    obtain ⟨Ao29, co29, eo29⟩ := Kd.S_slice HO_4.out
    subst eo29
    go_wp2
    go_ret
    exact ⟨by first | rfl | (simp [errW_none, errW_some] <;> rfl) | (simp [*, errW_none, errW_some] <;> rfl), by repeat (first | (with_reducible first | exact HB.out | apply bA | apply bN | apply bD | refine bS ?_ GE183.out) | exact HB.out)⟩
end Go.Proofs.Ytbmklpcheopgoaa.H
