/- Texts of this session, one behind the other, for the statement OutlineWithin: what its functions compute, plain facts, and (last) its row. No condition besides those stated. -/
import Derived.Test.YtbmklpcheopgoaaMWithin4
import Derived.Test.YtbmklpcheopgoaaRows
import Derived.WalkKit
import Derived.ProofKit
import Derived.OpenShut
import Derived.ShutString
import Derived.ChangeOld
import Derived.Below
import Derived.SizedLaws
set_option linter.unusedVariables false
set_option linter.unusedSimpArgs false
namespace Go.Proofs.Ytbmklpcheopgoaa.Pure
open Go.RowKit Go.Proofs.Ytbmklpcheopgoaa.H Go.Proofs.YtbmklpcheopgoaaOpen Go.Proofs.YtbmklpcheopgoaaW.PrintWords Go.Proofs.YtbmklpcheopgoaaW.PrintLast
open Go.Proofs.Ytbmklpcheopgoaa.Out Go.Proofs.YtbmklpcheopgoaaIt Go.Proofs.YtbmklpcheopgoaaW.PrintMore
theorem told_f (pts : List S33) (es : List Int) (hn : pts.length ≤ 1000000) (he : es.length ≤ 1000000) : fleuronlaw03_told.f pts es = some ((cutsL es pts.length).map (contourOf pts), true) := by
  unfold fleuronlaw03_told.f
  rw [if_pos ⟨hn, he⟩]
  unfold toldK
  rw [List.take_length]
theorem cost_drop (l : List Bool) (j : Nat) (h : j < l.length) : costR (l[0]'(by omega)) (l.drop j) = cost l[j] (l[(j + 1) % l.length]'(Nat.mod_lt _ (by omega))) + costR (l[0]'(by omega)) (l.drop (j + 1)) := by
  rw [List.drop_eq_getElem_cons h]
  by_cases c : j + 1 = l.length
  · have e : (j + 1) % l.length = 0 := by rw [c]; exact Nat.mod_self _
    simp only [e]
    rw [List.drop_of_length_le (by omega)]
    rfl
  · have e : (j + 1) % l.length = j + 1 := Nat.mod_eq_of_lt (by omega)
    simp only [e]
    rw [List.drop_eq_getElem_cons (show j + 1 < l.length by omega)]
    rfl
theorem cost_le (a b : Bool) : cost a b ≤ 8 := by cases a <;> cases b <;> decide
theorem costR_le (f : Bool) : ∀ l : List Bool, costR f l ≤ 8 * l.length
  | [] => by simp [costR]
  | [a] => by have := cost_le a f; simpa [costR] using this
  | a :: b :: r => by
    have h1 := cost_le a b
    have h2 := costR_le f (b :: r)
    show cost a b + costR f (b :: r) ≤ 8 * (r.length + 1 + 1)
    simp only [List.length_cons] at h2
    omega
theorem within_l1 (L : List (List S52)) (T : List (List S33)) (i : Nat) (hi : i < T.length) (hT : T.length ≤ 40) (c : List S33) (hc : T[i] = c) (h0 : 0 < c.length) (hn : c.length ≤ 200) (fl : List Bool) (hfl : c.map (·.f2) = fl) : ∀ m k j (acc : Nat), c.length = j + m → m < k → acc + costR (rdOf false fl 0) (fl.drop j) ≤ 2000 →
    fleuronlaw03_OutlineWithin.l1 k L T (i : Int) (acc : Int) (j : Int) = fleuronlaw03_OutlineWithin.l1 (k - m) L T (i : Int) ((acc + costR (rdOf false fl 0) (fl.drop j) : Nat) : Int) (c.length : Int) := by
  have hlen : fl.length = c.length := by rw [← hfl]; simp
  have e1 : rd_L3 T (i : Int) = c := by simp [rd_L3, hi, hc]
  have ef : ∀ j : Nat, ∀ h : j < c.length, (rd_T33 c (j : Int)).f2 = fl[j]'(by omega) := by
    intro j h; subst hfl; rw [rdS_get c j h]; simp
  have ez : rdOf false fl 0 = fl[0]'(by omega) := by simp [rdOf, hlen, h0]
  intro m
  induction m with
  | zero =>
    intro k j acc h1 h2 h3
    have e : fl.drop j = [] := List.drop_of_length_le (by omega)
    rw [e]
    simp only [costR, Nat.add_zero, Nat.sub_zero]
    rw [show c.length = j by omega]
  | succ m ih =>
    intro k j acc h1 h2 h3
    obtain ⟨k, rfl⟩ : ∃ j, k = j + 1 := ⟨k - 1, by omega⟩
    have hj : j < c.length := by omega
    have hd := cost_drop fl j (by omega)
    rw [← ez] at hd
    have hm : (j + 1) % c.length < c.length := Nat.mod_lt _ (by omega)
    have ht : Int.tmod ((j : Int) + 1) (c.length : Int) = (((j + 1) % c.length : Nat) : Int) := rfl
    rw [fleuronlaw03_OutlineWithin.l1, if_pos (by omega), if_pos (by omega), e1, if_pos (by omega), if_pos (by omega), ef j hj, W_in ((j : Int) + 1) (by omega) (by omega), ht, ef _ hm]
    have hb := cost_le fl[j] (fl[(j + 1) % fl.length]'(Nat.mod_lt _ (by omega)))
    rw [hd] at h3 ⊢
    have hx : fl[(j + 1) % fl.length]'(Nat.mod_lt _ (by omega)) = fl[(j + 1) % c.length]'(by omega) := by simp only [hlen]
    rw [hx] at hb h3 ⊢
    generalize fl[(j + 1) % c.length]'(by omega) = nx at *
    generalize fl[j]'(by omega) = me at *
    have fin : ∀ a : Nat, acc + cost me nx = a → fleuronlaw03_OutlineWithin.l1 k L T (i : Int) (a : Int) ((j : Int) + 1) = fleuronlaw03_OutlineWithin.l1 (k + 1 - (m + 1)) L T (i : Int) ((acc + (cost me nx + costR (rdOf false fl 0) (fl.drop (j + 1))) : Nat) : Int) (c.length : Int) := by
      intro a ha
      rw [show k + 1 - (m + 1) = k - m by omega, ← Nat.add_assoc, ha]
      exact ih k (j + 1) a (by omega) (by omega) (by omega)
    cases me with
    | true =>
      rw [if_pos rfl, if_neg (by omega), if_pos (by omega), if_pos (by omega)]
      cases nx with
      | true => rw [if_pos rfl, W_in ((acc : Int) + 1) (by omega) (by omega)]; exact fin (acc + 1) rfl
      | false => rw [if_neg (by decide)]; exact fin acc rfl
    | false =>
      rw [if_neg (by decide), W_in ((acc : Int) + 8) (by omega) (by omega)]; exact fin (acc + 8) rfl
theorem within_l2 (L : List (List S52)) (T : List (List S33)) (i : Nat) (hi : i < L.length) (hL : L.length ≤ 40) (hle : L[i].length ≤ 4000) (a b c d : Int) (u v : Bool) (hB : ∀ p ∈ L[i], inB a b c d p) (N : Nat) (h : ∀ k', N ≤ k' → fleuronlaw03_OutlineWithin.l0 k' L T ((i + 1 : Nat) : Int) = some true) : ∀ m k j, L[i].length = j + m → N + m < k → fleuronlaw03_OutlineWithin.l2 k L T (i : Int) (j : Int) a c u b d v = some true := by
  intro m
  induction m with
  | zero =>
    intro k j h1 h2
    obtain ⟨k, rfl⟩ : ∃ j, k = j + 1 := ⟨k - 1, by omega⟩
    rw [fleuronlaw03_OutlineWithin.l2, if_pos (by omega), if_pos (by omega), rdL_get L i hi, if_neg (by omega), W_in ((i : Int) + 1) (by omega) (by omega)]
    exact h k (by omega)
  | succ m ih =>
    intro k j h1 h2
    obtain ⟨k, rfl⟩ : ∃ j, k = j + 1 := ⟨k - 1, by omega⟩
    have hj : j < L[i].length := by omega
    obtain ⟨b1, b2, b3, b4⟩ := hB _ (List.getElem_mem hj)
    rw [fleuronlaw03_OutlineWithin.l2, if_pos (by omega), if_pos (by omega), rdL_get L i hi, if_pos (by omega), if_pos (by omega), rdP_get _ j hj, if_neg (by omega), if_neg (by omega), if_neg (by omega), if_neg (by omega), W_in ((j : Int) + 1) (by omega) (by omega)]
    exact ih k (j + 1) (by omega) (by omega)
set_option maxRecDepth 10000 in
theorem within_l0 (pts : List S33) (es : List Int) (hr : rightB pts es = true) : ∀ m k i, (cutsL es pts.length).length = i + m → m * 4300 < k → fleuronlaw03_OutlineWithin.l0 k (linesA (pts.map (gP 0 0)) (pts.map (·.f2)) es) ((cutsL es pts.length).map (contourOf pts)) (i : Int) = some true := by
  obtain ⟨hn, he, hok, -⟩ := rightB_iff pts es hr
  have hK := right_cuts pts es hr
  have hLl : (linesA (pts.map (gP 0 0)) (pts.map (·.f2)) es).length = es.length := by rw [linesA_len, List.length_map, hK]
  intro m
  induction m with
  | zero =>
    intro k i h1 h2
    obtain ⟨k, rfl⟩ : ∃ j, k = j + 1 := ⟨k - 1, by omega⟩
    rw [fleuronlaw03_OutlineWithin.l0, if_neg (by omega)]
    rfl
  | succ m ih =>
    intro k i h1 h2
    obtain ⟨k, rfl⟩ : ∃ j, k = j + 1 := ⟨k - 1, by omega⟩
    have hi : i < (cutsL es pts.length).length := by omega
    generalize hc : (cutsL es pts.length)[i] = c
    have hcm : c ∈ cutsL es pts.length := hc ▸ List.getElem_mem hi
    obtain ⟨c1, c2, c3⟩ := cut_mem es pts.length c hcm
    have hl := contour_len pts c (by omega)
    have e1 : ((cutsL es pts.length).map (contourOf pts))[i]'(by simpa using hi) = contourOf pts c := by simp [hc]
    have e2 : (linesA (pts.map (gP 0 0)) (pts.map (·.f2)) es)[i]'(by omega) = contourLines (pts.map (gP 0 0)) (pts.map (·.f2)) c.1.toNat c.2.toNat := by simp [linesA, hc]
    have hflags : ((pts.map (·.f2)).drop c.1.toNat).take (c.2.toNat - c.1.toNat) = (contourOf pts c).map (·.f2) := by unfold contourOf; rw [List.map_take, List.map_drop]
    have hcost := contourLines_cost (pts.map (gP 0 0)) (pts.map (·.f2)) c.1.toNat c.2.toNat (by omega) (by simp; omega) (by simp)
    rw [hflags] at hcost
    have hcle := costR_le (rdOf false ((contourOf pts c).map (·.f2)) 0) ((contourOf pts c).map (·.f2))
    rw [List.length_map] at hcle
    have hpts : ∀ p ∈ contourOf pts c, -16384 ≤ p.f0 ∧ p.f0 ≤ 16384 ∧ -16384 ≤ p.f1 ∧ p.f1 ≤ 16384 := fun p h => ptOk_le p (hok p (List.mem_of_mem_drop (List.mem_of_mem_take h)))
    have hbox := boxSt_in (contourOf pts c) hpts ((contourOf pts c).length - 1) (by omega)
    rw [show (contourOf pts c).length - 1 + 1 = (contourOf pts c).length by omega] at hbox
    obtain ⟨g1, g2, g3⟩ := hbox
    have hin : ∀ p ∈ contourLines (pts.map (gP 0 0)) (pts.map (·.f2)) c.1.toNat c.2.toNat, inB (boxSt (contourOf pts c) (contourOf pts c).length).1.f0 (boxSt (contourOf pts c) (contourOf pts c).length).2.f0 (boxSt (contourOf pts c) (contourOf pts c).length).1.f1 (boxSt (contourOf pts c) (contourOf pts c).length).2.f1 p := by
      refine contourLines_in g1 g2 _ _ _ _ (by omega) (by simp; omega) (fun q hq => ?_)
      rw [← List.map_drop, ← List.map_take] at hq
      obtain ⟨p, hp, rfl⟩ := List.mem_map.1 hq
      have hb := hpts p hp
      obtain ⟨j, hj, rfl⟩ := List.mem_iff_getElem.1 hp
      change j < (contourOf pts c).length at hj
      have := g3 j (by omega)
      rw [rdS_get _ j hj] at this
      change inB _ _ _ _ (gP 0 0 ((contourOf pts c)[j]))
      unfold inB gP
      rw [Int.add_zero, Int.add_zero, W_in _ (by change -9223372036854775808 ≤ ((contourOf pts c)[j]).f0; change -16384 ≤ ((contourOf pts c)[j]).f0 ∧ _ at hb; omega) (by change ((contourOf pts c)[j]).f0 ≤ _; change -16384 ≤ ((contourOf pts c)[j]).f0 ∧ ((contourOf pts c)[j]).f0 ≤ 16384 ∧ _ at hb; omega), W_in _ (by change -9223372036854775808 ≤ ((contourOf pts c)[j]).f1; change -16384 ≤ ((contourOf pts c)[j]).f0 ∧ ((contourOf pts c)[j]).f0 ≤ 16384 ∧ -16384 ≤ ((contourOf pts c)[j]).f1 ∧ ((contourOf pts c)[j]).f1 ≤ 16384 at hb; omega) (by change ((contourOf pts c)[j]).f1 ≤ _; change -16384 ≤ ((contourOf pts c)[j]).f0 ∧ ((contourOf pts c)[j]).f0 ≤ 16384 ∧ -16384 ≤ ((contourOf pts c)[j]).f1 ∧ ((contourOf pts c)[j]).f1 ≤ 16384 at hb; omega)]
      exact this
    rw [fleuronlaw03_OutlineWithin.l0, if_pos (by omega)]
    have hstep := within_l1 (linesA (pts.map (gP 0 0)) (pts.map (·.f2)) es) ((cutsL es pts.length).map (contourOf pts)) i (by simpa using hi) (by simp; omega) (contourOf pts c) e1 (by omega) (by omega) _ rfl (contourOf pts c).length k 0 0 (by omega) (by omega) (by rw [List.drop_zero]; omega)
    refine hstep.trans ?_
    obtain ⟨k', hk'⟩ : ∃ k', k - (contourOf pts c).length = k' + 1 := ⟨k - (contourOf pts c).length - 1, by omega⟩
    have e3 : rd_L3 ((cutsL es pts.length).map (contourOf pts)) (i : Int) = contourOf pts c := by simp [rd_L3, hi, hc]
    have hbf : outline_Box.f (contourOf pts c) [] = some ((boxSt (contourOf pts c) (contourOf pts c).length).1.f0, (boxSt (contourOf pts c) (contourOf pts c).length).1.f1, (boxSt (contourOf pts c) (contourOf pts c).length).1.f2, (boxSt (contourOf pts c) (contourOf pts c).length).2.f0, (boxSt (contourOf pts c) (contourOf pts c).length).2.f1, (boxSt (contourOf pts c) (contourOf pts c).length).2.f2, decide (0 < (contourOf pts c).length)) := rfl
    rw [hk', fleuronlaw03_OutlineWithin.l1, if_pos (by omega), if_pos (by simp; omega), e3, if_neg (by omega), hbf, Option.bind_some, if_pos (by omega), rdL_get _ i (by omega), e2, hcost, List.drop_zero, Nat.zero_add, if_pos rfl]
    obtain ⟨k'', rfl⟩ : ∃ k'', k' = k'' + 1 := ⟨k' - 1, by omega⟩
    rw [fleuronlaw03_OutlineWithin.j3, decide_eq_true (show 0 < (contourOf pts c).length by omega), if_neg (by simp)]
    refine within_l2 _ _ i (by omega) (by omega) (by rw [e2, hcost]; omega) _ _ _ _ _ _ (by rw [e2]; exact hin) (m * 4300 + 1) (fun k3 hk3 => ih k3 (i + 1) (by omega) (by omega)) ((linesA (pts.map (gP 0 0)) (pts.map (·.f2)) es)[i]'(by omega)).length _ 0 (by omega) (by rw [e2, hcost]; omega)
theorem OutlineWithin : ∀ (l0_0 : List (S33)) (l0_1 : List Int), (l0_0.length ≤ 9223372036854775807 ∧ ∀ x_ ∈ l0_0, (InK .i64 x_.f0 ∧ InK .i64 x_.f1 ∧ True)) ∧ (l0_1.length ≤ 9223372036854775807 ∧ ∀ x_ ∈ l0_1, InK .i64 x_) → ∃ k, fleuronlaw03_OutlineWithin.f k l0_0 l0_1 = some true := by
  intro pts es hp
  by_cases hlen : pts.length ≤ 200 ∧ es.length ≤ 40
  · refine ⟨200001, ?_⟩
    unfold fleuronlaw03_OutlineWithin.f
    rw [right_f pts es 200001 (by omega) (by omega) (by omega), Option.bind_some]
    by_cases hr : rightB pts es = true
    · have hK := right_cuts pts es hr
      rw [if_pos hr, grid_f pts es 0 0 200001 (by omega) (by omega), Option.bind_some, lines_f _ _ _ (by simp; omega) (by omega) (by simp), Option.bind_some, told_f pts es (by omega) (by omega), Option.bind_some, if_pos rfl, if_pos (by simp [linesA_len]), fleuronlaw03_OutlineWithin.j0, if_neg (by simp [hK])]
      exact within_l0 pts es hr (cutsL es pts.length).length 200000 0 (by omega) (by omega)
    · rw [if_neg hr]; rfl
  · refine ⟨1, ?_⟩
    unfold fleuronlaw03_OutlineWithin.f outline_Right.f
    have e : (if (pts.length : Int) > 200 then outline_Right.j0 1 true pts es else outline_Right.j0 1 (decide ((es.length : Int) > 40)) pts es) = some false := by
      by_cases h1 : (pts.length : Int) > 200
      · rw [if_pos h1]; rfl
      · rw [if_neg h1, decide_eq_true (by omega)]; rfl
    rw [e]; rfl

end Go.Proofs.Ytbmklpcheopgoaa.Pure

namespace Go.Proofs.Ytbmklpcheopgoaa.outlineWithin
open Go.ChangeShapes Go.WideShapes Go.ChangeAt Go.RowKit Go.Proofs.YtbmklpcheopgoaaOpen Go.Proofs.YtbmklpcheopgoaaW.PrintWords Go.Proofs.Ytbmklpcheopgoaa.H
open Go.ChangeMaps (open_string shut_string)
set_option linter.unusedVariables false
theorem own : ownKnob Try.prog.godebug = none := by kernel_rfl
theorem laidOut : laidOutB Try.prog = true := by kernel_rfl
set_option maxRecDepth 100000 in
theorem opens_33 : Opens Try.prog 33 k33 (fun y_ => (InK .i64 y_.f0 ∧ InK .i64 y_.f1 ∧ True)) := by
  intro H enc w base spare held fuel cs x h
  obtain ⟨xs, n, _, rfl, hl, hlen, hf⟩ := DataW.trod_struct Try.underlying33 h
  have hz : Try.prog.cellsOf 33 = 3 := by kernel_rfl
  rw [hz] at hl
  have g0 := hf 0 _ rfl
  have g1 := hf 1 _ rfl
  have g2 := hf 2 _ rfl
  match xs, hlen with
  | [x0, x1, x2], _ =>
    have g0 : DataW.trod enc Try.prog w base spare held n 3 ((cs.drop 0).take 1) = some x0 := g0
    obtain ⟨y0, k0_, q0⟩ := (opens_int Try.underlying3) enc w base spare held n _ _ g0
    have g1 : DataW.trod enc Try.prog w base spare held n 3 ((cs.drop 1).take 1) = some x1 := g1
    obtain ⟨y1, k1_, q1⟩ := (opens_int Try.underlying3) enc w base spare held n _ _ g1
    have g2 : DataW.trod enc Try.prog w base spare held n 4 ((cs.drop 2).take 1) = some x2 := g2
    obtain ⟨y2, k2_, q2⟩ := (opens_bool Try.underlying4) enc w base spare held n _ _ g2
    exact ⟨⟨y0, y1, y2⟩, ⟨_, _, cutQ cs 0 1, k0_, ⟨_, _, cutQ cs 1 1, k1_, (by show (Kd.bool).K w y2 (cs.drop 2); rw [cutQ_last cs 2 1 (by omega)]; exact k2_)⟩⟩, q0, q1, q2⟩

set_option maxRecDepth 100000 in
theorem opens_25 : Opens Try.prog 25 k25 (fun y_ => ((y_.f0.length ≤ 9223372036854775807 ∧ ∀ x_ ∈ y_.f0, (InK .i64 x_.f0 ∧ InK .i64 x_.f1 ∧ True)) ∧ (y_.f1.length ≤ 9223372036854775807 ∧ ∀ x_ ∈ y_.f1, InK .i64 x_))) := by
  intro H enc w base spare held fuel cs x h
  obtain ⟨xs, n, _, rfl, hl, hlen, hf⟩ := DataW.trod_struct Try.underlying25 h
  have hz : Try.prog.cellsOf 25 = 2 := by kernel_rfl
  rw [hz] at hl
  have g0 := hf 0 _ rfl
  have g1 := hf 1 _ rfl
  match xs, hlen with
  | [x0, x1], _ =>
    have g0 : DataW.trod enc Try.prog w base spare held n 22 ((cs.drop 0).take 1) = some x0 := g0
    obtain ⟨y0, k0_, q0⟩ := (opens_slice Try.underlying22 (by kernel_rfl) opens_33) enc w base spare held n _ _ g0
    have g1 : DataW.trod enc Try.prog w base spare held n 23 ((cs.drop 1).take 1) = some x1 := g1
    obtain ⟨y1, k1_, q1⟩ := (opens_slice Try.underlying23 (by kernel_rfl) (opens_int Try.underlying3)) enc w base spare held n _ _ g1
    exact ⟨⟨y0, y1⟩, ⟨_, _, cutQ cs 0 1, k0_, (by show ((Kd.slice 3 (Kd.int .i64))).K w y1 (cs.drop 1); rw [cutQ_last cs 1 1 (by omega)]; exact k1_)⟩, q0, q1⟩

set_option maxRecDepth 100000 in
set_option maxHeartbeats 2000000 in
theorem lifted (os : Os) (started : os.Started) (H : Type) (enc : TypeId × Value → H) :
    ReturnsInHanded {} Try.checked os 9 .any (Rows.outlineWithinSpec.pre6 enc Try.prog Try.f9 Rows.outlineWithinRow.domain false) (Rows.outlineWithinSpec.post enc Try.prog Try.f9 false true false false) := by
  refine returnsInHanded_of_change_sized (C := Try.checked) own started (by kernel_rfl) Try.func9
    (ChangeSpec.witness6 (enc := enc) (C := Try.checked) false ⟨#[], #[.agg #[.slice none 0 0, .slice none 0 0]], []⟩ 8 (by kernel_rfl) (by kernel_rfl) (by kernel_rfl) (by kernel_rfl)) ?_
  intro W base args ds gs before hval0 hW hcnd hsz0 _
  have hval : ∀ (j : Nat) t v, Try.f9.params[j]? = some t → args[j]? = some v → Value.okWide Try.prog W .any base t v := hval0
  have hW' := hW
  obtain ⟨p, q, hA0, hV, rfl, hfz, hnd⟩ := hW
  have hA : DataW.TrodAll enc Try.prog W 0 (fun _ => true) true Try.f9.params.toList args.toList ds p := hA0
  rw [Try.params9] at hA hval
  obtain ⟨v0, vs0, d0, ds0, p0, q0, hargs, rfl, rfl, h0, r0⟩ := trodAll_cons hA
  obtain ⟨rfl, rfl, rfl⟩ := trodAll_nil r0
  obtain rfl : args = #[v0] := by cases args; simp_all
  obtain ⟨rfl, rfl⟩ := trodVars_none hV
  have k0 := h0
  have lt0 : ∀ x ∈ p0, x.block < W.heap.size := by obtain ⟨m, hm⟩ := k0; exact DataW.trod_lt m _ _ _ hm
  obtain ⟨fuel0, hf0⟩ := h0
  obtain ⟨y0, ky0, gy0⟩ := opens_25 enc W 0 (fun _ => true) true fuel0 _ _ hf0
  obtain ⟨cs0, rfl⟩ := wide_agg (hval 0 25 v0 rfl rfl) (by rw [Try.underlying25])
  obtain ⟨A0_0, c0_0, A0_1, c0_1, hc0, l0_0, g0_0, l0_1, g0_1⟩ := k25_open ky0
  obtain rfl := agg_list hc0
  clear hA0 hval0 hsz0
  obtain ⟨k, hk⟩ := Pure.OutlineWithin y0.f0 y0.f1 gy0
  refine (fleuronlaw03_OutlineWithin.calls k A0_0 c0_0 y0.f0 A0_1 c0_1 y0.f1 true W g0_0 l0_0 g0_1 l0_1 hk).mono fun e W' ⟨he, bel⟩ => ?_
  subst he
  exact ⟨_, rfl, _, _, _, [], _, [], hW', trodAll_mk1 (shut_bool Try.underlying4 _), (trodAll_cons_mk (Below.trod laidOut (by kernel_rfl) (of_decide_eq_true (by kernel_rfl)) k0 bel lt0) trodAll_mk0), rfl, bel.frame _, fun h => by cases h⟩
theorem over : Rows.outlineWithinRow.holds Try.pinned (OpenSpec.ofChange Rows.outlineWithinSpec) :=
  OpenClaim.holds_of_wide 9 Try.f9 rfl rfl rfl rfl rfl rfl rfl ⟨rfl, rfl, rfl, rfl, rfl⟩ rfl rfl rfl rfl rfl (by kernel_rfl) Try.func9 (by kernel_rfl)
    (of_decide_eq_true (by kernel_rfl)) (by unfold Func.isWrapper; first | (rw [if_pos (by decide +kernel)]; kernel_rfl) | (rw [if_neg (by decide +kernel)]; exact ⟨rfl, rfl⟩))
    (fun os started H enc _ => lifted os started H enc)
theorem proved : Rows.OutlineWithinSaid := over
end Go.Proofs.Ytbmklpcheopgoaa.outlineWithin
namespace Go.Proofs.Ytbmklpcheopgoaa
/-- The row, under a short name, for the claim. -/
theorem outlineWithin_holds : Rows.OutlineWithinSaid := outlineWithin.proved
#print axioms outlineWithin_holds
end Go.Proofs.Ytbmklpcheopgoaa
