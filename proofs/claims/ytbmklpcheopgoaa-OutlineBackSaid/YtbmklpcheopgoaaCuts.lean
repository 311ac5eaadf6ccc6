/- What cuts of the package outline gives out, round by round. Condition: the row of ends is read in the world where the loop begins. -/
import Derived.Test.YtbmklpcheopgoaaIt
import Derived.Test.YtbmklpcheopgoaaHx0
import Derived.Shelf.RegionOpen
import Derived.Shelf.Abstract
import Derived.WalkKit
import Derived.OwnWalkIn
import Derived.TacticsInMore
import Derived.LoopNIn
import Derived.LoopIn
import Derived.Outline
import Derived.Lib.Hide
namespace Go.Proofs.Ytbmklpcheopgoaa.H
open Go.RowKit Go.Shelf Go.Proofs.YtbmklpcheopgoaaW.PrintWords Go.Proofs.YtbmklpcheopgoaaW.PrintLast Go.Proofs.YtbmklpcheopgoaaW.PrintMore Go.Proofs.YtbmklpcheopgoaaIt
attribute [local go_sem] Oper.semAt_some
theorem wide_depth : Fence.wide.depth = none := rfl
theorem wide_fn (f : FuncId) : Fence.wide.fn f = True := rfl
attribute [local go_sem] wide_depth wide_fn

/-- The cuts: where each begins, and where the next one does. -/
def cutsF : Int → List Int → Int → List (Int × Int)
  | _, [], _ => []
  | b, e :: es, n => if e < b ∨ n ≤ e then [] else (b, e + 1) :: cutsF (e + 1) es n
def cutsL (es : List Int) (n : Int) : List (Int × Int) := cutsF 0 es n

theorem cutsF_drop (es : List Int) (b n : Int) (i : Nat) (h : i < es.length) : cutsF b (es.drop i) n = if rd es i < b ∨ n ≤ rd es i then [] else (b, rd es i + 1) :: cutsF (rd es i + 1) (es.drop (i + 1)) n := by
  rw [List.drop_eq_getElem_cons h]
  simp [cutsF, rd, h]

/-- A slice's own block. -/
def BlkOf (A : Option Addr) (b : Nat) : Prop := ∃ ad, A = some ad ∧ b = ad.block

theorem add_block (ad : Addr) (j : Nat) : (ad.add j).block = ad.block := by unfold Addr.add; split <;> rfl

theorem at_int_chg {S : Nat → Prop} {w W : World} {A : Option Addr} {n : Nat} {xs : List Int} {k : IntKind} (h : (Kd.int k).C w A n xs) (hc : Chg S w W) (hA : ∀ b, b < w.heap.size → BlkOf A b → ¬ S b) (i : Int) (h0 : 0 ≤ i) (h1 : i < n) :
    ∃ ad, A = some ad ∧ W.cell? (ad.add i.toNat) = some (.int k (rd xs i)) := by
  obtain ⟨ad, e, hx⟩ := Kd.at_int h i h0 h1
  refine ⟨ad, e, ?_⟩
  have hb : (ad.add i.toNat).block < w.heap.size := World.block_lt_of_cell? w _ hx
  exact (hc.cell hb (hA _ hb ⟨ad, e, add_block _ _⟩)).trans hx

theorem cuts_calls (n : Nat) (A : Option Addr) (len cap : Nat) (m : Int) (w : World) :
    CallsIn Fence.wide n Try.prog 47 #[.slice A len cap, .int .i64 m] w fun e w' => e = .returned (.func (.func 55) #[] #[.pointer (some ⟨w.heap.size, 0, none⟩), .pointer (some ⟨w.heap.size + 1, 0, none⟩)]) ∧
      w' = (w.alloc (.cells #[.slice A len cap] 23)).alloc (.cells #[.int .i64 m] 3) := by
  refine callsIn_of_wp Try.func47 rfl trivial ?_ rfl
  simp only [Try.ntmps47, List.size_toArray, List.length_cons, List.length_nil, Nat.reduceAdd, Nat.reduceSub, Array.replicate_succ, Array.replicate_zero, List.push_toArray, List.append_toArray, List.nil_append, List.cons_append]
  gi_wp2
  go_ret
  exact ⟨rfl, rfl⟩

set_option maxRecDepth 100000 in
set_option maxHeartbeats 2000000 in
theorem cuts_it (w : World) (A : Option Addr) (cap : Nat) (es : List Int) (m : Int) (hm : m ≤ 9223372036854775807) (B1 B2 : Nat) (h1 : w.cell? ⟨B1, 0, none⟩ = some (.slice A es.length cap)) (h2 : w.cell? ⟨B2, 0, none⟩ = some (.int .i64 m)) (hes : (Kd.int .i64).C w A es.length es) :
    ItC Try.prog 55 #[.pointer (some ⟨B1, 0, none⟩), .pointer (some ⟨B2, 0, none⟩)] (cutsL es m).length
      (fun k _ args => ∃ c, (cutsL es m)[k]? = some c ∧ args = #[.int .i64 k, .agg #[.int .i64 c.1, .int .i64 c.2]]) (fun _ _ => False) (fun b => (0 < es.length ∧ BlkOf A b) ∨ b = B1 ∨ b = B2) w := by
  intro l J Jx own0 W hW hlw hlW hJ hJx hown hY h0
  have hb1 : B1 < w.heap.size := World.block_lt_of_cell? w _ h1
  have hb2 : B2 < w.heap.size := World.block_lt_of_cell? w _ h2
  have hmax := Kd.C_max hes
  refine (callsIn_wide (n := 0)).1 (callsIn_of_wp Try.func55 rfl trivial ?_ rfl)
  simp only [Try.ntmps55, List.size_toArray, List.length_cons, List.length_nil, Nat.reduceAdd, Nat.reduceSub, Array.replicate_succ, Array.replicate_zero, List.push_toArray, List.append_toArray, List.nil_append, List.cons_append]
  have c1 : W.cell? ⟨B1, 0, none⟩ = some (.slice A es.length cap) := (hW.cell (p := ⟨B1, 0, none⟩) hb1).trans h1
  gi_wp2
  gi_loopw [4, 9] (fun v4 v9 wr => ∃ (i : Nat) (b : Int) (own : Nat → Prop), v4 = .int .i64 b ∧ v9 = .int .i64 i ∧ i ≤ es.length ∧ 0 ≤ b ∧ (cutsL es m).length = i + (cutsF b (es.drop i) m).length ∧ (cutsL es m).drop i = cutsF b (es.drop i) m ∧
      J i own wr ∧ Since l own0 W own (fun _ => False) wr)
    (fun _ v9 _ => es.length - (intOf v9).toNat)
  case atStart => exact ⟨0, 0, own0, rfl, rfl, by omega, by omega, by simp [cutsL], by simp [cutsL], h0, Since.start fun b hb => (hown b hb).1⟩
  case round =>
    obtain ⟨i, b, own, rfl, rfl, hi, hb, hlen, hdr, hj, hsi⟩ := hrel
    have hrd := hsi.reads hW hlw hown (fun _ _ h => h)
    have c2 : wr.cell? ⟨B2, 0, none⟩ = some (.int .i64 m) := (hrd.cell (p := ⟨B2, 0, none⟩) hb2 (fun h => h (.inr (.inr rfl)))).trans h2
    by_cases hlt : i < es.length
    · obtain ⟨ad, rfl, hx⟩ := at_int_chg hes hrd (fun _ _ hq h => h (.inl ⟨by omega, hq⟩)) (i : Int) (by omega) (by omega)
      simp only [Int.toNat_natCast] at hx
      rw [cutsF_drop es b m i hlt] at hlen hdr
      by_cases hstop : rd es i < b ∨ m ≤ rd es i
      · rw [if_pos hstop] at hlen hdr
        simp only [List.length_nil, Nat.add_zero] at hlen
        by_cases hs1 : rd es i < b
        · have d1 : decide (rd es i < b) = true := decide_eq_true hs1
          gi_wp2
          refine bodyPost_ret (results_none rfl _ _ _) rfl ?_
          exact ⟨⟨_, rfl⟩, own, hsi.lt, .inl (by first | exact hj | (rw [hlen]; exact hj))⟩
        · have d1 : decide (rd es i < b) = false := decide_eq_false hs1
          have hs2 : m ≤ rd es i := by omega
          have d2 : decide (m ≤ rd es i) = true := decide_eq_true hs2
          gi_wp2
          refine bodyPost_ret (results_none rfl _ _ _) rfl ?_
          exact ⟨⟨_, rfl⟩, own, hsi.lt, .inl (by first | exact hj | (rw [hlen]; exact hj))⟩
      · rw [if_neg hstop] at hlen hdr
        have hki : (cutsL es m)[i]? = some (b, rd es i + 1) := by
          have := congrArg (fun q => q[0]?) hdr
          simpa [List.getElem?_drop] using this
        simp only [List.length_cons] at hlen
        obtain ⟨fn, tmps, assign, body, hy, hR⟩ := hY i own wr _ (by omega) hj hsi.chg.size hsi.lt ⟨_, hki, rfl⟩ (fun _ h => h.elim) 0
        dsimp only at hy
        have d1 : decide (rd es i < b) = false := decide_eq_false (by omega)
        have d2 : decide (m ≤ rd es i) = false := decide_eq_false (by omega)
        have g1 : b ≤ rd es i := by omega
        have g2 : rd es i < m := by omega
        have hN := Lib.hid hlen
        have hD := Lib.hid hdr
        have hK := Lib.hid hki
        clear hlen hdr hki
        gi_wp2
        refine hR.mono ?_
        rintro e W3 ⟨own', hg3, ho3, hc3, (⟨rfl, hJ3⟩ | ⟨rfl, hJ3⟩)⟩
        · gi_wp2
          go_roundw
          case rel =>
            exact ⟨i + 1, rd es i + 1, own', rfl, by simp, by omega, by omega, by have := hN.out; omega, by
              have := congrArg (List.drop 1) hD.out
              simpa [List.drop_drop, Nat.add_comm] using this, hJ3, hsi.next hg3 ho3 hc3 (fun _ h => h.elim)⟩
          case measure => simp [intOf]; omega
        · gi_wp2
          refine bodyPost_ret (results_none rfl _ _ _) rfl ?_
          exact ⟨⟨_, rfl⟩, own', ho3, .inr ⟨i + 1, by have := hN.out; omega, hJ3⟩⟩
    · obtain rfl : i = es.length := by omega
      simp only [List.drop_length, cutsF, List.length_nil, Nat.add_zero] at hlen
      gi_wp2
      go_end0
      exact ⟨⟨_, rfl⟩, own, hsi.lt, .inl (by first | exact hj | (rw [hlen]; exact hj))⟩

end Go.Proofs.Ytbmklpcheopgoaa.H
