/- What the Go functions of this seat compute, as Lean functions, each with the proof that the call answers so; made by a program of this session. -/
import Derived.Test.YtbmklpcheopgoaaHx0
import Derived.WalkKit
import Derived.Lib.Hide
import Derived.Test.YtbmklpcheopgoaaContours
import Derived.Test.YtbmklpcheopgoaaBlks
namespace Go.Proofs.Ytbmklpcheopgoaa.H
open Go.RowKit Go.Proofs.YtbmklpcheopgoaaW.PrintWords Go.Proofs.YtbmklpcheopgoaaW.PrintLast Go.Proofs.YtbmklpcheopgoaaW.PrintMore
attribute [local go_sem] max2_int min2_int max_two min_two max_three min_three max_four min_four   -- for this text's walks alone
set_option linter.unusedVariables false
set_option linter.unusedSimpArgs false

/-! ### outline_Area: function 24 -/
open Go.Proofs.YtbmklpcheopgoaaOps Go.Proofs.YtbmklpcheopgoaaIt Go.Proofs.YtbmklpcheopgoaaBlks Go.Shelf
attribute [local go_sem] Oper.semAt_some wide_depth wide_fn World.cell?_alloc_some
/-- One point of a contour more. -/
def areaStep (st : Int × S33) (b : S33) : Int × S33 := (wrap64 (st.1 + wrap64 (wrap64 (st.2.f0 * b.f1) - wrap64 (b.f0 * st.2.f1))), b)
def areaK (c : List S33) (n : Int) (k : Nat) : Int × S33 := (List.range k).foldl (fun st (j : Nat) => areaStep st (rd_T33 c (j : Int))) (n, rd_T33 c (c.length - 1))
def areaRow (c : List S33) (n : Int) : Int := (areaK c n c.length).1
def areaL (pts : List S33) (es : List Int) (k : Nat) : Int := ((cutsL es pts.length).take k).foldl (fun n c => areaRow (contourOf pts c) n) 0
theorem areaK_succ (c : List S33) (n : Int) (k : Nat) : areaK c n (k + 1) = areaStep (areaK c n k) (rd_T33 c k) := by simp [areaK, List.range_succ]

def areaPt (p : S33) : Obj := .cells #[.int .i64 p.f0, .int .i64 p.f1, .bool p.f2] 33 (0, 0)
set_option maxRecDepth 100000 in
set_option maxHeartbeats 4000000 in
theorem area_calls (A0 A1 : Option Addr) (c0 c1 : Nat) (pts : List S33) (es : List Int) (w : World) (hp : Kd.C k33 w A0 pts.length pts) (hc0 : pts.length ≤ c0) (hes : (Kd.int .i64).C w A1 es.length es) (hlim : pts.length ≤ 1000000) :
    Calls Try.prog 24 #[.agg #[.slice A0 pts.length c0, .slice A1 es.length c1]] w fun e w' => e = .returned (.int .i64 (areaL pts es (cutsL es pts.length).length)) ∧ Below w.heap.size w w' := by
  have hu := Try.underlying25
  have hu2 := Try.underlying33
  refine (callsIn_wide (n := 0)).1 (callsIn_of_wp_marks Try.func24 rfl trivial ?_ rfl)
  simp only [Try.ntmps24, List.size_toArray, List.length_cons, List.length_nil, Nat.reduceAdd, Nat.reduceSub, Array.replicate_succ, Array.replicate_zero, List.push_toArray, List.append_toArray, List.nil_append, List.cons_append]
  gi_wp2
  refine CallsIn.mono (contours_calls 0 _ _ _ _ _ _ _) ?_
  rintro e w' ⟨rfl, rfl⟩
  gi_wp2
  generalize hV : World.alloc (World.alloc (World.alloc w _) _) _ = V
  have hVs : V.heap.size = w.heap.size + 1 + 1 + 1 := by rw [← hV]; simp
  have hbV : Below w.heap.size w V := by rw [← hV]; exact (((Below.refl _ w).alloc (Nat.le_refl _) _).alloc (by simp) _).alloc (by simp; omega) _
  have hn1 : V.heap[w.heap.size + 1]? = some (.cells #[.int .i64 0] 3 (0, 0)) := by
    rw [← hV]; refine blk_alloc ?_ _; have := blk_new (w.alloc (.cells #[.slice A0 pts.length c0, .slice A1 es.length c1] 25)) (.cells #[.int .i64 0] 3); rwa [World.size_alloc] at this
  have hq1 : V.heap[w.heap.size + 1 + 1]? = some (.cells #[.slice A0 pts.length c0, .slice A1 es.length c1] 25 (0, 0)) := by
    rw [← hV]; have := blk_new ((w.alloc (.cells #[.slice A0 pts.length c0, .slice A1 es.length c1] 25)).alloc (.cells #[.int .i64 0] 3)) (.cells #[.slice A0 pts.length c0, .slice A1 es.length c1] 25); rwa [World.size_alloc, World.size_alloc] at this
  have hit := contours_it V (w.heap.size + 1 + 1) A0 A1 c0 c1 pts es hq1 (Kd.C_below hp hbV) (Kd.C_below hes hbV) hc0 hlim
  have hwV : w.heap.size + 1 < V.heap.size := by omega
  refine range_outer hit (by rfl) (fun args w => by simp [go_sem])
    (fun k own V' => (own (w.heap.size + 1) ∧ ∀ b, own b → w.heap.size ≤ b) ∧ V'.heap[w.heap.size + 1]? = some (.cells #[.int .i64 (areaL pts es k)] 3 (0, 0)) ∧ Below w.heap.size w V')
    (fun c k own V' => False)
    (fun b => b = w.heap.size + 1) ?_ ?_ ?_ ?_ ?_
    (fun k own a' V' => ∃ (c : Int × Int) (A : Option Addr) (cap : Nat), (cutsL es pts.length)[k]? = some c ∧ a' = ⟨#[.agg #[.slice A0 pts.length c0, .slice A1 es.length c1], .pointer (some ⟨w.heap.size, 0, none⟩), .int .i64 0, .pointer (some ⟨w.heap.size + 1, 0, none⟩), undef, .slice A (contourOf pts c).length cap, undef, undef, undef, .agg #[.slice A0 pts.length c0, .slice A1 es.length c1], .func (.func 54) #[] #[.pointer (some ⟨w.heap.size + 1 + 1, 0, none⟩)], .int .i64 k, .slice A (contourOf pts c).length cap, undef, undef, undef, undef, undef, undef, undef, undef, undef, undef, undef, undef, undef, undef, undef, undef, undef, undef, undef, undef, undef, undef, undef, undef, undef, undef, undef, undef], []⟩ ∧ (contourOf pts c).length ≤ cap ∧ Kd.C k33 V' A (contourOf pts c).length (contourOf pts c)) ?_ ?_ ?_ ?_ ?_
  · rintro k own V1 V2 ⟨⟨h1, h2⟩, h3, h4⟩ hc
    exact ⟨⟨h1, h2⟩, hc.heap h3 (fun h => by omega), h4.trans (hc.below (Nat.le_trans (by omega) h4.size) (fun i hi h => by omega))⟩
  · rintro c k own V1 V2 h hc
    exact h
  · rintro k W args ⟨c, A, cap, _, rfl, _⟩
    rfl
  · rintro b rfl
    refine ⟨by omega, fun hr => ?_⟩
    rcases hr with ⟨h0, ad, rfl, hr⟩ | ⟨h0, ad, rfl, hr⟩ | hr
    · obtain ⟨ad', e, hx, _⟩ := at_T33 hp 0 (by omega) (by omega)
      cases e
      have := World.block_lt_of_cell? w _ hx
      rw [add_block] at this
      omega
    · obtain ⟨ad', e, hx⟩ := Kd.at_int hes 0 (by omega) (by omega)
      cases e
      have := World.block_lt_of_cell? w _ hx
      rw [add_block] at this
      omega
    · omega
  · exact ⟨⟨rfl, fun b h => by omega⟩, hn1, hbV⟩
  · rintro lc k own a' V1 o o' hlc ⟨c, A, cap, hk, ha, hc, hC⟩ ho hcells
    refine ⟨c, A, cap, hk, ha, hc, hC.1, hC.2.1, fun hn => ?_⟩
    obtain ⟨ad, e, hx⟩ := hC.2.2 hn
    refine ⟨ad, e, fun i x hi => ?_⟩
    obtain ⟨cs, q1, q2, q3⟩ := hx i x hi
    refine ⟨cs, q1, flat_point _ _ _ _ q2, fun j u hu => ?_⟩
    have hcell := q3 j u hu
    refine Eq.trans (World.cell?_of_block (World.putObj_heap_other ?_)) hcell
    intro hl
    unfold World.cell? at hcell
    rw [hl] at hcell
    rw [ho] at hcell
    cases o <;> simp_all [Obj.isCells]
  · rintro lc n k own args V1 hlc ⟨⟨h1, h2⟩, h3, h4⟩ how hlt hno hk ⟨c, A, cap, hkc, rfl, hcap, hC, _⟩ _
    gi_wp2
    exact ⟨own, GrowG.refl _ _ _, how, Chg.refl _ _, ⟨⟨h1, h2⟩, h3, h4⟩, c, A, cap, hkc, rfl, hcap, hC⟩
  · rintro lc n k own a' V1 hlc ⟨⟨h1, h2⟩, h3, h4⟩ how ⟨rl, hrl⟩ hno hk ⟨c, A, cap, hkc, rfl, hcap, hC⟩
    obtain ⟨m1, m2, m3⟩ := cutsF_mem es pts.length 0 k c hkc
    have hlenc : (contourOf pts c).length = c.2.toNat - c.1.toNat := by simp [contourOf]; omega
    have hpos : 0 < (contourOf pts c).length := by omega
    obtain ⟨ad, e0, x0, x1, x2⟩ := at_T33 hC (((contourOf pts c).length : Int) - 1) (by omega) (by omega)
    subst e0
    have hsub : areaL pts es (k + 1) = areaRow (contourOf pts c) (areaL pts es k) := by
      simp [areaL, List.take_add_one, hkc]
    have hidx : (((contourOf pts c).length : Int) - 1).toNat = (contourOf pts c).length - 1 := by omega
    rw [hidx] at x0 x1 x2
    clear hlenc hidx m1 m2 m3
    generalize hrow : contourOf pts c = row at *
    have HROW := Lib.hid hrow
    have hmx := Kd.C_max hC
    clear hrow
    have hB0 : Blks [(w.heap.size + 1, .cells #[.int .i64 (areaL pts es k)] 3 (0, 0))] V1 := (Blks.nil V1).add h3 (by simp)
    have hadw : ad.block ≠ w.heap.size + 1 := by
      intro hh
      rw [add_block, hh] at x2
      rw [hB0.cell 0 rfl] at x2
      simp at x2
    have hHB := Lib.hid hB0
    clear hB0
    have hn := blk_cell h3 0
    have hnf := blk_frozen h3 0
    simp at hn
    gi_wp2
    have hB1 := hHB.out.alloc (areaPt (rd_T33 row (row.length - 1)))
    have hadV : ad.block < V1.heap.size := by have := World.block_lt_of_cell? V1 _ x0; rwa [add_block] at this
    clear hn hnf x0 x1 x2
    gi_loopw [8, 21] (fun _ v21 wr => ∃ i : Nat, i ≤ row.length ∧ v21 = .int .i64 i ∧ Aside0 (Blks [(V1.heap.size, areaPt (areaK row (areaL pts es k) i).2), (w.heap.size + 1, .cells #[.int .i64 (areaK row (areaL pts es k) i).1] 3 (0, 0))] wr ∧ Chg (fun b => b = w.heap.size + 1) V1 wr))
      (fun _ v21 _ => row.length - (intOf v21).toNat)
    case atStart => exact ⟨0, by omega, rfl, ⟨hB1, (Chg.refl _ _).alloc _⟩⟩
    case round =>
      obtain ⟨i, hi, rfl, ⟨hB, hC1⟩⟩ := hrel
      by_cases hlt : i < row.length
      · obtain ⟨ad', e1, y0, y1, y2⟩ := at_T33 hC (i : Int) (by omega) (by omega)
        cases e1
        simp only [Int.toNat_natCast] at y0 y1 y2
        replace y0 := (hC1.cell (by rw [add_block]; exact hadV) (by rw [add_block]; exact hadw)).trans y0
        replace y1 := (hC1.cell (by rw [add_block]; exact hadV) (by rw [add_block]; exact hadw)).trans y1
        replace y2 := (hC1.cell (by rw [add_block]; exact hadV) (by rw [add_block]; exact hadw)).trans y2
        have hst := Lib.hid (areaK_succ row (areaL pts es k) i)
        have g0 := hB.cell 0 rfl 0
        have g1 := hB.cell 0 rfl 1
        have g2 := hB.cell 0 rfl 2
        have g3 := hB.cell 1 rfl 0
        have f0 := hB.free 0 rfl 0
        have f1 := hB.free 0 rfl 1
        have f2 := hB.free 0 rfl 2
        have f3 := hB.free 1 rfl 0
        simp at g0 g1 g2 g3
        have q1 := (hB.lt (w.heap.size + 1) (by simp))
        have q2 := (hB.lt V1.heap.size (by simp))
        have q3 : ¬ (V1.heap.size = w.heap.size + 1) := by have := hB.nd; simpa using this
        have q4 : ¬ (w.heap.size + 1 = V1.heap.size) := fun h => q3 h.symm
        have q5 : ¬ (w.heap.size + 1 = wr.heap.size) := by omega
        have q6 : ¬ (V1.heap.size = wr.heap.size) := by omega
        have q7 : ¬ (wr.heap.size = w.heap.size + 1) := by omega
        have q8 : ¬ (wr.heap.size = V1.heap.size) := by omega
        have HBB := Lib.hid hB
        have HCC := Lib.hid hC1
        clear hB hC1
        gi_wp2
        refine ⟨⟨i + 1, by omega, by simp, ⟨?_, ?_⟩⟩, by simp [intOf]; omega⟩
        · rw [hst.out]
          exact (((((HBB.out.set 1 rfl 0 _).set 0 rfl 0 _).set 0 rfl 1 _).set 0 rfl 2 _).alloc _).tail
        · exact ((((HCC.out.setCell (p := ⟨w.heap.size + 1, 0, none⟩) (fun _ => rfl) _).setCell (p := ⟨V1.heap.size, 0, none⟩) (fun h => absurd h (Nat.lt_irrefl _)) _).setCell (p := ⟨V1.heap.size, 1, none⟩) (fun h => absurd h (Nat.lt_irrefl _)) _).setCell (p := ⟨V1.heap.size, 2, none⟩) (fun h => absurd h (Nat.lt_irrefl _)) _).alloc _
      · obtain rfl : i = row.length := by omega
        gi_wp2
        exact ⟨own, Grow.refl _ _, fun b h => hC1.lt (how b h), hC1.mono (fun b _ hb => by subst hb; exact h1), ⟨h1, h2⟩, by rw [hsub]; exact hB.blk 1 rfl, h4.trans (hC1.below (B := w.heap.size) h4.size (fun i hi h => by omega))⟩
  · rintro D own V1 hD how hnD ⟨⟨h1, h2⟩, h3, h4⟩ hdef
    have hc := blk_cell h3 0
    simp at hc
    gi_wp2
    refine leaves_collected hdef fun V2 hc => ⟨.int .i64 (areaL pts es (cutsL es pts.length).length), by simp [results, Try.f24, go_sem], rfl, h4.trans (hc.below (Nat.le_trans (Nat.le_refl _) h4.size) (fun i hi h => by omega))⟩
  · rintro D c k own V1 _ _ _ _ h
    exact h.elim

def outline_Area.f (l0_0 : List S33) (l0_1 : List Int) : Option Int :=
  if l0_0.length ≤ 1000000 then some (areaL l0_0 l0_1 (cutsL l0_1 l0_0.length).length) else none
theorem outline_Area.calls (A0_0 : Option Addr) (c0_0 : Nat) (l0_0 : List (S33)) (A0_1 : Option Addr) (c0_1 : Nat) (l0_1 : List Int) (r : Int) (w : World) (hr0_0 : Kd.C k33 w A0_0 l0_0.length l0_0) (hc0_0 : l0_0.length ≤ c0_0) (hr0_1 : Kd.C (Kd.int .i64) w A0_1 l0_1.length l0_1) (hc0_1 : l0_1.length ≤ c0_1) (h : outline_Area.f l0_0 l0_1 = some r) :
    Calls Try.prog 24 #[.agg #[.slice A0_0 l0_0.length c0_0, .slice A0_1 l0_1.length c0_1]] w fun e w' => e = .returned (.int .i64 r) ∧ Below w.heap.size w w' := by
  unfold outline_Area.f at h
  split at h
  · rename_i hl
    simp only [Option.some.injEq] at h
    subst h
    exact area_calls A0_0 A0_1 c0_0 c0_1 l0_0 l0_1 w hr0_0 hc0_0 hr0_1 hl
  · cases h

end Go.Proofs.Ytbmklpcheopgoaa.H
