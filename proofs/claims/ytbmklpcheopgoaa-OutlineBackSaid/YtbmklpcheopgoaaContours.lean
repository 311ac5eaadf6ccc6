/- What Contours of the package outline gives out, round by round. Condition: the outline's rows are read in the world where the loop begins. -/
import Derived.Test.YtbmklpcheopgoaaCuts
import Derived.Test.YtbmklpcheopgoaaOps
import Derived.Test.YtbmklpcheopgoaaFlatRows
import Derived.DefersIn
import Derived.BigRegionIn
import Derived.Stop.RegionWithIn
import Derived.Test.YtbmklpcheopgoaaRangeOps
import Derived.Test.YtbmklpcheopgoaaRegInv
namespace Go.Proofs.Ytbmklpcheopgoaa.H
open Go.RowKit Go.Shelf Go.Proofs.YtbmklpcheopgoaaW.PrintWords Go.Proofs.YtbmklpcheopgoaaW.PrintLast Go.Proofs.YtbmklpcheopgoaaW.PrintMore Go.Proofs.YtbmklpcheopgoaaIt Go.Proofs.YtbmklpcheopgoaaOps
set_option linter.unnecessarySimpa false
set_option linter.unusedVariables false
set_option linter.unusedSimpArgs false
attribute [local go_sem] Oper.semAt_some wide_depth wide_fn World.cell?_alloc_some

/-- A contour's points. -/
def contourOf (pts : List S33) (c : Int × Int) : List S33 := (pts.drop c.1.toNat).take (c.2.toNat - c.1.toNat)

theorem contours_calls (n : Nat) (A0 A1 : Option Addr) (l0 c0 l1 c1 : Nat) (w : World) :
    CallsIn Fence.wide n Try.prog 41 #[.agg #[.slice A0 l0 c0, .slice A1 l1 c1]] w fun e w' => e = .returned (.func (.func 54) #[] #[.pointer (some ⟨w.heap.size, 0, none⟩)]) ∧
      w' = w.alloc (.cells #[.slice A0 l0 c0, .slice A1 l1 c1] 25) := by
  refine callsIn_of_wp Try.func41 rfl trivial ?_ rfl
  simp only [Try.ntmps41, List.size_toArray, List.length_cons, List.length_nil, Nat.reduceAdd, Nat.reduceSub, Array.replicate_succ, Array.replicate_zero, List.push_toArray, List.append_toArray, List.nil_append, List.cons_append]
  gi_wp2
  go_ret
  exact ⟨rfl, rfl⟩

/-- A cut lies within the points. -/
theorem cutsF_mem (es : List Int) (n : Int) : ∀ (b : Int) (k : Nat) (c : Int × Int), (cutsF b es n)[k]? = some c → b ≤ c.1 ∧ c.1 < c.2 ∧ c.2 ≤ n := by
  induction es with
  | nil => intro b k c h; simp [cutsF] at h
  | cons e es ih =>
    intro b k c h
    unfold cutsF at h
    split at h
    · simp at h
    · rename_i hne
      cases k with
      | zero => simp at h; subst h; simp; omega
      | succ k =>
        have := ih (e + 1) k c (by simpa using h)
        omega
theorem C_chg {α : Type} {d : Kd α} (hflat : ∀ (w w' : World) x cs, d.K w x cs → d.K w' x cs) (hs : 0 < d.sz) {S : Nat → Prop} {w W : World} {A : Option Addr} {n : Nat} {xs : List α} (h : d.C w A n xs) (hc : Chg S w W) (hA : ∀ b, b < w.heap.size → BlkOf A b → ¬ S b) : d.C W A n xs := by
  refine ⟨h.1, h.2.1, fun hn => ?_⟩
  obtain ⟨ad, e, hx⟩ := h.2.2 hn
  refine ⟨ad, e, fun i x hi => ?_⟩
  obtain ⟨cs, h1, h2, h3⟩ := hx i x hi
  refine ⟨cs, h1, hflat _ _ _ _ h2, fun j u hu => ?_⟩
  have hx := h3 j u hu
  have hb := World.block_lt_of_cell? w _ hx
  exact (hc.cell hb (hA _ hb ⟨ad, e, add_block _ _⟩)).trans hx
theorem flat_point (w w' : World) (x : S33) (cs : List Value) (h : k33.K w x cs) : k33.K w' x cs := by rw [k33_open h]; exact k33_mk _ _

def contTmps (l B Y k X : Nat) (A0 A1 : Option Addr) (n0 c0 n1 c1 : Nat) (c : Int × Int) (f : Nat → Value) : Array Value :=
  #[.func (.yield l) #[] #[], .pointer (some ⟨B, 0, none⟩), .pointer (some ⟨Y, 0, none⟩), .int .i64 k, .pointer (some ⟨X, 0, none⟩), .pointer (some ⟨B, 1, none⟩), .slice A1 n1 c1, .pointer (some ⟨B, 0, none⟩), .slice A0 n0 c0, .int .i64 n0,
    .func (.func 55) #[] #[.pointer (some ⟨Y + 1, 0, none⟩), .pointer (some ⟨Y + 1 + 1, 0, none⟩)], .int .i64 k, .agg #[.int .i64 c.1, .int .i64 c.2], f 13, f 14, f 15, f 16, f 17, f 18, f 19, f 20, f 21, f 22, f 23, f 24]

set_option maxRecDepth 100000 in
set_option maxHeartbeats 2000000 in
theorem contours_it (w : World) (B : Nat) (A0 A1 : Option Addr) (c0 c1 : Nat) (pts : List S33) (es : List Int) (hb : w.heap[B]? = some (.cells #[.slice A0 pts.length c0, .slice A1 es.length c1] 25 (0, 0)))
    (hp : Kd.C k33 w A0 pts.length pts) (hes : (Kd.int .i64).C w A1 es.length es) (hc0 : pts.length ≤ c0) (hlim : pts.length ≤ 1000000) :
    ItC Try.prog 54 #[.pointer (some ⟨B, 0, none⟩)] (cutsL es pts.length).length
      (fun k W args => ∃ c A cap, (cutsL es pts.length)[k]? = some c ∧ args = #[.int .i64 k, .slice A (contourOf pts c).length cap] ∧ (contourOf pts c).length ≤ cap ∧ Kd.C k33 W A (contourOf pts c).length (contourOf pts c) ∧ Kd.R k33 33 W w.heap.size (Go.Proofs.YtbmklpcheopgoaaFlat.Own1 (.slice A (contourOf pts c).length cap)) (.slice A (contourOf pts c).length cap) (contourOf pts c))
      (fun args b => ∃ v ad n c, args = #[v, .slice (some ad) n c] ∧ b = ad.block)
      (fun b => (0 < pts.length ∧ BlkOf A0 b) ∨ (0 < es.length ∧ BlkOf A1 b) ∨ b = B) w := by
  intro l J Jx own0 W hW hlw hlW hJ hJx hown hY h0
  have hB : B < w.heap.size := (Array.getElem?_eq_some_iff.1 hb).1
  have hu := Try.underlying25
  refine (callsIn_wide (n := 0)).1 (callsIn_of_wp_marks Try.func54 rfl trivial ?_ rfl)
  simp only [Try.ntmps54, List.size_toArray, List.length_cons, List.length_nil, Nat.reduceAdd, Nat.reduceSub, Array.replicate_succ, Array.replicate_zero, List.push_toArray, List.append_toArray, List.nil_append, List.cons_append]
  have hbW : W.heap[B]? = some (.cells #[.slice A0 pts.length c0, .slice A1 es.length c1] 25 (0, 0)) := (hW.block B hB).trans hb
  have e1 := blk_cell hbW 0
  have e2 := blk_cell hbW 1
  simp at e1 e2
  gi_wp2
  refine CallsIn.mono (cuts_calls 0 _ _ _ _ _) ?_
  rintro e w' ⟨rfl, rfl⟩
  gi_wp2
  generalize hV : World.alloc (World.alloc (World.alloc W _) _) _ = V
  have hVs : V.heap.size = W.heap.size + 1 + 1 + 1 := by rw [← hV]; simp
  have hbV : Below W.heap.size W V := by rw [← hV]; exact (((Below.refl _ W).alloc (Nat.le_refl _) _).alloc (by simp) _).alloc (by simp; omega) _
  have hY1 : V.heap[W.heap.size]? = some (.cells #[.func (.yield l) #[] #[]] 98 (0, 0)) := by rw [← hV]; exact blk_alloc (blk_alloc (blk_new _ _) _) _
  have hq1 : V.heap[W.heap.size + 1]? = some (.cells #[.slice A1 es.length c1] 23 (0, 0)) := by
    rw [← hV]; refine blk_alloc ?_ _; have := blk_new (W.alloc (.cells #[.func (.yield l) #[] #[]] 98)) (.cells #[.slice A1 es.length c1] 23); rwa [World.size_alloc] at this
  have hq2 : V.heap[W.heap.size + 1 + 1]? = some (.cells #[.int .i64 pts.length] 3 (0, 0)) := by
    rw [← hV]; have := blk_new ((W.alloc (.cells #[.func (.yield l) #[] #[]] 98)).alloc (.cells #[.slice A1 es.length c1] 23)) (.cells #[.int .i64 pts.length] 3); rwa [World.size_alloc, World.size_alloc] at this
  have hesW : (Kd.int .i64).C V A1 es.length es := Kd.C_below (Kd.C_below hes hW) hbV
  have hpV : Kd.C k33 V A0 pts.length pts := Kd.C_below (Kd.C_below hp hW) hbV
  have hit := cuts_it V A1 c1 es pts.length (by have := Kd.C_max hp; omega) (W.heap.size + 1) (W.heap.size + 1 + 1) (blk_cell hq1 0) (blk_cell hq2 0) hesW
  clear e1 e2
  have hlV : l < V.heap.size := by omega
  refine range_outer hit (by rfl) (fun args w => by simp [go_sem])
    (fun k own V' => (own l ∧ ¬ own W.heap.size ∧ V'.heap[W.heap.size]? = some (.cells #[.func (.yield l) #[] #[]] 98 (0, 0))) ∧ ∃ u, J k u V' ∧ (∀ b, u b → own b) ∧ Since l own0 W u (fun b => W.heap.size ≤ b) V')
    (fun c k own V' => c = .ret ∧ ∃ u, Jx k u V' ∧ (∀ b, u b → own b ∧ b < V'.heap.size))
    (fun b => own0 b ∨ b = l) ?_ ?_ ?_ ?_ ?_
    (fun k own a' V' => ∃ (c : Int × Int) (X : Nat), (cutsL es pts.length)[k]? = some c ∧ a' = ⟨contTmps l B W.heap.size k X A0 A1 pts.length c0 es.length c1 c (fun _ => undef), []⟩ ∧ V'.heap[X]? = some (.cells #[.int .i64 c.1, .int .i64 c.2] 64 (0, 0))) ?_ ?_ ?_ ?_ ?_
  · rintro k own V1 V2 ⟨⟨hl, hny, hy⟩, u, hj, hu, hs⟩ hc
    refine ⟨⟨hl, hny, hc.heap hy (fun h => by omega)⟩, u, hJ _ _ _ _ hj (hc.mono fun b _ hb => ⟨by omega, fun h => hb.2 (hu b h)⟩), hu, hs.own (hc.mono fun b _ hb => by omega)⟩
  · rintro c k own V1 V2 ⟨rfl, u, hj, hu⟩ hc
    exact ⟨rfl, u, hJx _ _ _ _ hj (hc.mono fun b _ hb => ⟨by omega, fun h => hb.2 (hu b h).1⟩), fun b h => ⟨(hu b h).1, Nat.lt_of_lt_of_le (hu b h).2 hc.size⟩⟩
  · rintro k W args ⟨c, _, rfl⟩
    rfl
  · rintro b (h | rfl)
    · have := hown b h
      refine ⟨by omega, fun hr => ?_⟩
      rcases hr with hr | hr | hr
      · exact this.2 (.inr (.inl hr))
      · omega
      · omega
    · refine ⟨by omega, fun hr => ?_⟩
      rcases hr with ⟨h0, ad, rfl, hr⟩ | hr | hr
      · obtain ⟨ad', e, hx⟩ := Kd.at_int hes 0 (by omega) (by omega)
        cases e
        have := World.block_lt_of_cell? w _ hx
        rw [add_block] at this
        omega
      · omega
      · omega
  · refine ⟨⟨.inr rfl, fun h => by
      rcases h with h | h
      · have := (hown _ h).1; omega
      · omega, hY1⟩, own0, hJ _ _ _ _ h0 ((Chg.of_below hbV).mono fun b _ hb => ⟨hb, fun h => by have := (hown b h).1; omega⟩), fun b h => .inl h, (Since.start fun b h => (hown b h).1).own (Chg.of_below hbV)⟩
  · rintro lc k own a' V1 o o' hlc ⟨c, X, hk, ha, hX⟩ ho hcells
    refine ⟨c, X, hk, ha, ?_⟩
    rw [World.putObj_heap_other]
    · exact hX
    · rintro rfl
      rw [hX] at ho
      cases ho
      simp [Obj.isCells] at hcells
  · rintro lc n k own args V1 hlc ⟨⟨hl, hny, hy⟩, u, hj, hu, hs⟩ how hlt hno hk ⟨c, hkc, rfl⟩ _
    gi_wp2
    refine ⟨own, GrowG.refl _ _ _, fun b hb => by have := how b hb; simp; omega, (Chg.refl _ _).alloc _, ⟨⟨hl, hny, blk_alloc hy _⟩, u, hJ _ _ _ _ hj ((Chg.refl _ _).alloc _), hu, hs.own ((Chg.refl _ _).alloc _)⟩, c, V1.heap.size, hkc, rfl, blk_new _ _⟩
  · rintro lc n k own a' V1 hlc ⟨⟨hl, hny, hy⟩, u, hj, hu, hs⟩ how ⟨r, hr⟩ hno hk ⟨c, X, hkc, rfl, hX⟩
    have hrd := hs.reads hW hlw hown (fun b hb h => by have := hW.size; omega)
    have hbV1 : V1.heap[B]? = some (.cells #[.slice A0 pts.length c0, .slice A1 es.length c1] 25 (0, 0)) := hrd.heap hb (fun h => h (.inr (.inr rfl)))
    have hpos : 0 < pts.length := by have := cutsF_mem es pts.length 0 k c hkc; omega
    have hpV1 : Kd.C k33 V1 A0 pts.length pts := C_chg flat_point (by decide) hp hrd (fun b _ hb h => h (.inl ⟨hpos, hb⟩))
    obtain ⟨m1, m2, m3⟩ := cutsF_mem es pts.length 0 k c hkc
    obtain ⟨cs, ce⟩ := c
    simp only at m1 m2 m3 hX
    obtain ⟨s, rfl⟩ : ∃ s : Nat, cs = s := ⟨cs.toNat, by omega⟩
    obtain ⟨e, rfl⟩ : ∃ e : Nat, ce = e := ⟨ce.toNat, by omega⟩
    obtain ⟨ad, rfl⟩ : ∃ ad, A0 = some ad := by obtain ⟨ad, h, _⟩ := hpV1.2.2 (by omega); exact ⟨ad, h⟩
    have hA := Kd.C_drop (c := c0) hpV1 (show s ≤ pts.length by omega) hc0
    rw [if_neg (by omega)] at hA
    have hlen0 : (pts.drop s).length = pts.length - s := List.length_drop
    have hB := Kd.C_take hA (show e - s ≤ (pts.drop s).length by omega)
    have hlen : ((pts.drop s).take (e - s)).length = e - s := by rw [List.length_take]; omega
    rw [hlen] at hB
    have hcont : contourOf pts ((s : Int), (e : Int)) = (pts.drop s).take (e - s) := by simp [contourOf]
    obtain ⟨g, cN, w1, hrun, hcN, hg, hRN, hbN⟩ := Go.Proofs.YtbmklpcheopgoaaFlat.run_clone (P := Try.prog) k33 (fun w w' base ok x cs h => by rw [k33_open h]; exact k33_mkM _ _ _ _) (W := V1.drew) (t := 22) (ty := 22) (c' := c0 - s) Try.underlying22 info33 rfl (by decide) (by omega) (Kd.C_drew hB) (by omega) (by omega)
    have hCN : Kd.C k33 w1 (some ⟨g, 0, none⟩) (e - s) ((pts.drop s).take (e - s)) := by have := (Kd.R_reads' hRN).2.2; rwa [hlen] at this
    have hg' : V1.heap.size ≤ g := hg
    have hNb : Chg (fun _ => False) V1 w1 := by
      have := Chg.of_fresh (S := fun _ => False) (a := V1.drew) hbN
      exact ⟨this.os, this.tape, this.output, this.size, this.block⟩
    have hJ1 : J k u w1 := hJ _ _ _ _ hj (hNb.mono fun _ _ h => h.elim)
    have hs1 : Since l own0 W u (fun b => W.heap.size ≤ b) w1 := hs.own (hNb.mono fun _ _ h => h.elim)
    have hYd := hY k u w1 #[.int .i64 k, .slice (some ⟨g, 0, none⟩) (e - s) cN] hk hJ1 hs1.chg.size hs1.lt ⟨((s : Int), (e : Int)), some ⟨g, 0, none⟩, cN, hkc, by rw [hcont, hlen], by rw [hcont, hlen]; exact hcN, by rw [hcont, hlen]; exact hCN, by rw [hcont, hlen]; exact Kd.R_lower hRN (by have := hs.chg.size; have := hW.size; show w.heap.size ≤ V1.heap.size; omega)⟩ (by
      rintro b ⟨v, a0, n0, c0', he, rfl⟩
      simp at he
      obtain ⟨_, rfl, _⟩ := he
      have := hs.chg.size
      exact ⟨by simpa using Nat.le_trans this hg', fun h => by have h2 := hs.lt _ h; simp at h2; omega⟩)
    have hyc0 : V1.drew.cell? ⟨W.heap.size, 0, none⟩ = some (.func (.yield l) #[] #[]) := blk_cell hy 0
    have hyc1 : w1.cell? ⟨W.heap.size, 0, none⟩ = some (.func (.yield l) #[] #[]) := blk_cell (hNb.heap hy (fun h => h)) 0
    have hbc : V1.drew.cell? ⟨B, 0, none⟩ = some (.slice (some ad) pts.length c0) := blk_cell hbV1 0
    have hx0 : V1.drew.cell? ⟨X, 0, none⟩ = some (.int .i64 s) := blk_cell hX 0
    have hx1 : V1.drew.cell? ⟨X, 1, none⟩ = some (.int .i64 e) := blk_cell hX 1
    have hus := Try.underlying22
    have hse : s ≤ e := by omega
    have hel : e ≤ c0 := by omega
    have hsc : ¬ (c0 = s) := by omega
    have hsc2 : ¬ (c0 - s = 0) := by omega
    obtain ⟨Post, hPost⟩ : ∃ Post : Bool → World → Prop, Post = fun r W' => ∃ own', GrowG (fun b => b = g) u own' w1 ∧ (∀ b, own' b → b < W'.heap.size) ∧ Chg (fun b => u b ∨ b = l ∨ b = g) w1 W' ∧ ((r = true ∧ J (k + 1) own' W') ∨ (r = false ∧ Jx (k + 1) own' W')) := ⟨_, rfl⟩
    have HR := Lib.hid hrun
    clear hrun
    gi_wp2
    unfold contTmps
    refine Go.Proofs.YtbmklpcheopgoaaReg.regIn_inv (by rfl) [0, 1, 2, 3, 4, 5, 6, 7, 8, 9, 10, 11] (by kernel_rfl) (by kernel_rfl)
      (fun lst a W' => ∃ (b0 b1 b2 b3 b4 b5 b6 b7 b8 b9 b10 b11 r : Bool), lst = #[b0, b1, b2, b3, b4, b5, b6, b7, b8, b9, b10, b11] ∧ a = ⟨#[.func (.yield l) #[] #[], .pointer (some ⟨B, 0, none⟩), .pointer (some ⟨W.heap.size, 0, none⟩), .int .i64 k, .pointer (some ⟨X, 0, none⟩), .pointer (some ⟨B, 1, none⟩), .slice A1 es.length c1, .pointer (some ⟨B, 0, none⟩), .slice (some ad) pts.length c0, .int .i64 pts.length, .func (.func 55) #[] #[.pointer (some ⟨W.heap.size + 1, 0, none⟩), .pointer (some ⟨W.heap.size + 1 + 1, 0, none⟩)], .int .i64 k, .agg #[.int .i64 s, .int .i64 e], if b0 = true then .func (.yield l) #[] #[] else undef, if b1 = true then .int .i64 k else undef, if b2 = true then .pointer (some ⟨B, 0, none⟩) else undef, if b3 = true then .slice (some ad) pts.length c0 else undef, if b4 = true then .pointer (some ⟨X, 0, none⟩) else undef, if b5 = true then .int .i64 s else undef, if b6 = true then .pointer (some ⟨X, 1, none⟩) else undef, if b7 = true then .int .i64 e else undef, if b8 = true then .slice (some (ad.add (s * 3))) (e - s) (c0 - s) else undef, if b9 = true then .slice (some ⟨g, 0, none⟩) (e - s) cN else undef, if b10 = true then .bool r else undef, if b11 = true then .bool (!r) else undef], []⟩ ∧ (b9 = true → b3 = true ∧ b5 = true ∧ b7 = true ∧ b8 = true) ∧ (b8 = true → b3 = true ∧ b5 = true ∧ b7 = true) ∧ (b10 = true → b0 = true ∧ b1 = true ∧ b9 = true) ∧
        (b9 = false → W' = V1.drew) ∧ (b9 = true → b10 = false → W' = w1) ∧ (b10 = true → Post r W') ∧ (b11 = true → b10 = true)) ?_ ?_ ?_ ?_
    · rintro lst a W' ⟨b0, b1, b2, b3, b4, b5, b6, b7, b8, b9, b10, b11, r, rfl, _⟩
      rfl
    · exact ⟨false, false, false, false, false, false, false, false, false, false, false, false, false, rfl, rfl, by simp, by simp, by simp, fun _ => rfl, by simp, by simp, by simp⟩
    · rintro lst a W' i o ⟨b0, b1, b2, b3, b4, b5, b6, b7, b8, b9, b10, b11, r, rfl, rfl, q1, q2, q3, q4, q5, q6, q7⟩ ho hf hd K hK
      have hi : i < 12 := (Array.getElem?_eq_some_iff.1 ho).1
      have ho2 := ho
      rcases (show i = 0 ∨ i = 1 ∨ i = 2 ∨ i = 3 ∨ i = 4 ∨ i = 5 ∨ i = 6 ∨ i = 7 ∨ i = 8 ∨ i = 9 ∨ i = 10 ∨ i = 11 by omega) with rfl | rfl | rfl | rfl | rfl | rfl | rfl | rfl | rfl | rfl | rfl | rfl
      · simp only [List.getElem?_toArray, List.getElem?_cons_succ, List.getElem?_cons_zero, Option.some.injEq] at ho
        subst ho
        replace hf : b0 = false := hf
        subst hf
        have hcell : W'.cell? ⟨W.heap.size, 0, none⟩ = some (.func (.yield l) #[] #[]) := by
          cases hb9 : b9 with
          | false => rw [q4 hb9]; exact hyc0
          | true =>
            have hb10 : b10 = false := by cases b10 <;> simp_all
            rw [q5 hb9 hb10]; exact hyc1
        refine Go.Proofs.YtbmklpcheopgoaaReg.opIn_val ho2 rfl (fun _ => trivial) (fun c h => by cases h) (v := .func (.yield l) #[] #[]) (w1 := W') ?_ (hK _ _ ⟨true, b1, b2, b3, b4, b5, b6, b7, b8, b9, b10, b11, r, rfl, rfl, by first | exact q1 | (intro h; cases h; done) | (intro h; have := q1 h; simpa using this) | (intros; simp_all), by first | exact q2 | (intro h; cases h; done) | (intro h; have := q2 h; simpa using this) | (intros; simp_all), by first | exact q3 | (intro h; cases h; done) | (intro h; have := q3 h; simpa using this) | (intros; simp_all), by first | exact q4 | (intro h; cases h; done) | (intro h; have := q4 h; simpa using this) | (intros; simp_all), by first | exact q5 | (intro h; cases h; done) | (intro h; have := q5 h; simpa using this) | (intros; simp_all), by first | exact q6 | (intro h; cases h; done) | (intro h; have := q6 h; simpa using this) | (intros; simp_all), by first | exact q7 | (intro h; rfl) | (intro h; cases h; done) | (intros; simp_all)⟩)
        simp [go_sem, hcell]
      · simp only [List.getElem?_toArray, List.getElem?_cons_succ, List.getElem?_cons_zero, Option.some.injEq] at ho
        subst ho
        replace hf : b1 = false := hf
        subst hf
        refine Go.Proofs.YtbmklpcheopgoaaReg.opIn_val ho2 rfl (fun _ => trivial) (fun c h => by cases h) (v := .int .i64 k) (w1 := W') ?_ (hK _ _ ⟨b0, true, b2, b3, b4, b5, b6, b7, b8, b9, b10, b11, r, rfl, rfl, by first | exact q1 | (intro h; cases h; done) | (intro h; have := q1 h; simpa using this) | (intros; simp_all), by first | exact q2 | (intro h; cases h; done) | (intro h; have := q2 h; simpa using this) | (intros; simp_all), by first | exact q3 | (intro h; cases h; done) | (intro h; have := q3 h; simpa using this) | (intros; simp_all), by first | exact q4 | (intro h; cases h; done) | (intro h; have := q4 h; simpa using this) | (intros; simp_all), by first | exact q5 | (intro h; cases h; done) | (intro h; have := q5 h; simpa using this) | (intros; simp_all), by first | exact q6 | (intro h; cases h; done) | (intro h; have := q6 h; simpa using this) | (intros; simp_all), by first | exact q7 | (intro h; rfl) | (intro h; cases h; done) | (intros; simp_all)⟩)
        simp [go_sem]
      · simp only [List.getElem?_toArray, List.getElem?_cons_succ, List.getElem?_cons_zero, Option.some.injEq] at ho
        subst ho
        replace hf : b2 = false := hf
        subst hf
        refine Go.Proofs.YtbmklpcheopgoaaReg.opIn_val ho2 rfl (fun _ => trivial) (fun c h => by cases h) (v := .pointer (some ⟨B, 0, none⟩)) (w1 := W') ?_ (hK _ _ ⟨b0, b1, true, b3, b4, b5, b6, b7, b8, b9, b10, b11, r, rfl, rfl, by first | exact q1 | (intro h; cases h; done) | (intro h; have := q1 h; simpa using this) | (intros; simp_all), by first | exact q2 | (intro h; cases h; done) | (intro h; have := q2 h; simpa using this) | (intros; simp_all), by first | exact q3 | (intro h; cases h; done) | (intro h; have := q3 h; simpa using this) | (intros; simp_all), by first | exact q4 | (intro h; cases h; done) | (intro h; have := q4 h; simpa using this) | (intros; simp_all), by first | exact q5 | (intro h; cases h; done) | (intro h; have := q5 h; simpa using this) | (intros; simp_all), by first | exact q6 | (intro h; cases h; done) | (intro h; have := q6 h; simpa using this) | (intros; simp_all), by first | exact q7 | (intro h; rfl) | (intro h; cases h; done) | (intros; simp_all)⟩)
        simp [go_sem]
      · simp only [List.getElem?_toArray, List.getElem?_cons_succ, List.getElem?_cons_zero, Option.some.injEq] at ho
        subst ho
        replace hf : b3 = false := hf
        subst hf
        have d2 : b2 = true := hd ⟨2, .data⟩ (by simp) rfl
        subst d2
        have h9 : b9 = false := by cases b9 <;> simp_all
        subst h9
        obtain rfl := q4 rfl
        refine Go.Proofs.YtbmklpcheopgoaaReg.opIn_val ho2 rfl (fun _ => trivial) (fun c h => by cases h) (v := .slice (some ad) pts.length c0) (w1 := V1.drew) ?_ (hK _ _ ⟨b0, b1, true, true, b4, b5, b6, b7, b8, false, b10, b11, r, rfl, rfl, by first | exact q1 | (intro h; cases h; done) | (intro h; have := q1 h; simpa using this) | (intros; simp_all), by first | exact q2 | (intro h; cases h; done) | (intro h; have := q2 h; simpa using this) | (intros; simp_all), by first | exact q3 | (intro h; cases h; done) | (intro h; have := q3 h; simpa using this) | (intros; simp_all), by first | exact q4 | (intro h; cases h; done) | (intro h; have := q4 h; simpa using this) | (intros; simp_all), by first | exact q5 | (intro h; cases h; done) | (intro h; have := q5 h; simpa using this) | (intros; simp_all), by first | exact q6 | (intro h; cases h; done) | (intro h; have := q6 h; simpa using this) | (intros; simp_all), by first | exact q7 | (intro h; rfl) | (intro h; cases h; done) | (intros; simp_all)⟩)
        simp [go_sem, hbc, hx0, hx1]
      · simp only [List.getElem?_toArray, List.getElem?_cons_succ, List.getElem?_cons_zero, Option.some.injEq] at ho
        subst ho
        replace hf : b4 = false := hf
        subst hf
        refine Go.Proofs.YtbmklpcheopgoaaReg.opIn_val ho2 rfl (fun _ => trivial) (fun c h => by cases h) (v := .pointer (some ⟨X, 0, none⟩)) (w1 := W') ?_ (hK _ _ ⟨b0, b1, b2, b3, true, b5, b6, b7, b8, b9, b10, b11, r, rfl, rfl, by first | exact q1 | (intro h; cases h; done) | (intro h; have := q1 h; simpa using this) | (intros; simp_all), by first | exact q2 | (intro h; cases h; done) | (intro h; have := q2 h; simpa using this) | (intros; simp_all), by first | exact q3 | (intro h; cases h; done) | (intro h; have := q3 h; simpa using this) | (intros; simp_all), by first | exact q4 | (intro h; cases h; done) | (intro h; have := q4 h; simpa using this) | (intros; simp_all), by first | exact q5 | (intro h; cases h; done) | (intro h; have := q5 h; simpa using this) | (intros; simp_all), by first | exact q6 | (intro h; cases h; done) | (intro h; have := q6 h; simpa using this) | (intros; simp_all), by first | exact q7 | (intro h; rfl) | (intro h; cases h; done) | (intros; simp_all)⟩)
        simp [go_sem]
      · simp only [List.getElem?_toArray, List.getElem?_cons_succ, List.getElem?_cons_zero, Option.some.injEq] at ho
        subst ho
        replace hf : b5 = false := hf
        subst hf
        have d4 : b4 = true := hd ⟨4, .data⟩ (by simp) rfl
        subst d4
        have h9 : b9 = false := by cases b9 <;> simp_all
        subst h9
        obtain rfl := q4 rfl
        refine Go.Proofs.YtbmklpcheopgoaaReg.opIn_val ho2 rfl (fun _ => trivial) (fun c h => by cases h) (v := .int .i64 s) (w1 := V1.drew) ?_ (hK _ _ ⟨b0, b1, b2, b3, true, true, b6, b7, b8, false, b10, b11, r, rfl, rfl, by first | exact q1 | (intro h; cases h; done) | (intro h; have := q1 h; simpa using this) | (intros; simp_all), by first | exact q2 | (intro h; cases h; done) | (intro h; have := q2 h; simpa using this) | (intros; simp_all), by first | exact q3 | (intro h; cases h; done) | (intro h; have := q3 h; simpa using this) | (intros; simp_all), by first | exact q4 | (intro h; cases h; done) | (intro h; have := q4 h; simpa using this) | (intros; simp_all), by first | exact q5 | (intro h; cases h; done) | (intro h; have := q5 h; simpa using this) | (intros; simp_all), by first | exact q6 | (intro h; cases h; done) | (intro h; have := q6 h; simpa using this) | (intros; simp_all), by first | exact q7 | (intro h; rfl) | (intro h; cases h; done) | (intros; simp_all)⟩)
        simp [go_sem, hbc, hx0, hx1]
      · simp only [List.getElem?_toArray, List.getElem?_cons_succ, List.getElem?_cons_zero, Option.some.injEq] at ho
        subst ho
        replace hf : b6 = false := hf
        subst hf
        refine Go.Proofs.YtbmklpcheopgoaaReg.opIn_val ho2 rfl (fun _ => trivial) (fun c h => by cases h) (v := .pointer (some ⟨X, 1, none⟩)) (w1 := W') ?_ (hK _ _ ⟨b0, b1, b2, b3, b4, b5, true, b7, b8, b9, b10, b11, r, rfl, rfl, by first | exact q1 | (intro h; cases h; done) | (intro h; have := q1 h; simpa using this) | (intros; simp_all), by first | exact q2 | (intro h; cases h; done) | (intro h; have := q2 h; simpa using this) | (intros; simp_all), by first | exact q3 | (intro h; cases h; done) | (intro h; have := q3 h; simpa using this) | (intros; simp_all), by first | exact q4 | (intro h; cases h; done) | (intro h; have := q4 h; simpa using this) | (intros; simp_all), by first | exact q5 | (intro h; cases h; done) | (intro h; have := q5 h; simpa using this) | (intros; simp_all), by first | exact q6 | (intro h; cases h; done) | (intro h; have := q6 h; simpa using this) | (intros; simp_all), by first | exact q7 | (intro h; rfl) | (intro h; cases h; done) | (intros; simp_all)⟩)
        simp [go_sem]
      · simp only [List.getElem?_toArray, List.getElem?_cons_succ, List.getElem?_cons_zero, Option.some.injEq] at ho
        subst ho
        replace hf : b7 = false := hf
        subst hf
        have d6 : b6 = true := hd ⟨6, .data⟩ (by simp) rfl
        subst d6
        have h9 : b9 = false := by cases b9 <;> simp_all
        subst h9
        obtain rfl := q4 rfl
        refine Go.Proofs.YtbmklpcheopgoaaReg.opIn_val ho2 rfl (fun _ => trivial) (fun c h => by cases h) (v := .int .i64 e) (w1 := V1.drew) ?_ (hK _ _ ⟨b0, b1, b2, b3, b4, b5, true, true, b8, false, b10, b11, r, rfl, rfl, by first | exact q1 | (intro h; cases h; done) | (intro h; have := q1 h; simpa using this) | (intros; simp_all), by first | exact q2 | (intro h; cases h; done) | (intro h; have := q2 h; simpa using this) | (intros; simp_all), by first | exact q3 | (intro h; cases h; done) | (intro h; have := q3 h; simpa using this) | (intros; simp_all), by first | exact q4 | (intro h; cases h; done) | (intro h; have := q4 h; simpa using this) | (intros; simp_all), by first | exact q5 | (intro h; cases h; done) | (intro h; have := q5 h; simpa using this) | (intros; simp_all), by first | exact q6 | (intro h; cases h; done) | (intro h; have := q6 h; simpa using this) | (intros; simp_all), by first | exact q7 | (intro h; rfl) | (intro h; cases h; done) | (intros; simp_all)⟩)
        simp [go_sem, hbc, hx0, hx1]
      · simp only [List.getElem?_toArray, List.getElem?_cons_succ, List.getElem?_cons_zero, Option.some.injEq] at ho
        subst ho
        replace hf : b8 = false := hf
        subst hf
        have d3 : b3 = true := hd ⟨3, .data⟩ (by simp) rfl
        subst d3
        have d5 : b5 = true := hd ⟨5, .data⟩ (by simp) rfl
        subst d5
        have d7 : b7 = true := hd ⟨7, .data⟩ (by simp) rfl
        subst d7
        refine Go.Proofs.YtbmklpcheopgoaaReg.opIn_val ho2 rfl (fun _ => trivial) (fun c h => by cases h) (v := .slice (some (ad.add (s * 3))) (e - s) (c0 - s)) (w1 := W') ?_ (hK _ _ ⟨b0, b1, b2, true, b4, true, b6, true, true, b9, b10, b11, r, rfl, rfl, by first | exact q1 | (intro h; cases h; done) | (intro h; have := q1 h; simpa using this) | (intros; simp_all), by first | exact q2 | (intro h; cases h; done) | (intro h; have := q2 h; simpa using this) | (intros; simp_all), by first | exact q3 | (intro h; cases h; done) | (intro h; have := q3 h; simpa using this) | (intros; simp_all), by first | exact q4 | (intro h; cases h; done) | (intro h; have := q4 h; simpa using this) | (intros; simp_all), by first | exact q5 | (intro h; cases h; done) | (intro h; have := q5 h; simpa using this) | (intros; simp_all), by first | exact q6 | (intro h; cases h; done) | (intro h; have := q6 h; simpa using this) | (intros; simp_all), by first | exact q7 | (intro h; rfl) | (intro h; cases h; done) | (intros; simp_all)⟩)
        simp [go_sem, hus, hse, hel, hsc, hsc2]
        trace_state
      · simp only [List.getElem?_toArray, List.getElem?_cons_succ, List.getElem?_cons_zero, Option.some.injEq] at ho
        subst ho
        replace hf : b9 = false := hf
        subst hf
        have d8 : b8 = true := hd ⟨8, .data⟩ (by simp) rfl
        subst d8
        have h9 := q4 rfl
        subst h9
        have h10 : b10 = false := by cases b10 <;> simp_all
        subst h10
        refine Go.Proofs.YtbmklpcheopgoaaReg.opIn_val ho2 rfl (fun _ => trivial) (fun c h => by cases h) (v := .slice (some ⟨g, 0, none⟩) (e - s) cN) (w1 := w1) ?_ (hK _ _ ⟨b0, b1, b2, b3, b4, b5, b6, b7, true, true, false, b11, r, rfl, rfl, fun _ => ⟨(q2 rfl).1, (q2 rfl).2.1, (q2 rfl).2.2, rfl⟩, q2, (by intro h; cases h), (by intro h; cases h), fun _ _ => rfl, (by intro h; cases h), by simpa using q7⟩)
        exact run_app rfl rfl rfl HR.out
      · simp only [List.getElem?_toArray, List.getElem?_cons_succ, List.getElem?_cons_zero, Option.some.injEq] at ho
        subst ho
        replace hf : b10 = false := hf
        subst hf
        have d0 : b0 = true := hd ⟨0, .data⟩ (by simp) rfl
        subst d0
        have d1 : b1 = true := hd ⟨1, .data⟩ (by simp) rfl
        subst d1
        have d9 : b9 = true := hd ⟨9, .data⟩ (by simp) rfl
        subst d9
        have h10 := q5 rfl rfl
        rw [← h10] at hYd
        refine Go.Proofs.YtbmklpcheopgoaaReg.opIn_wp ho2 rfl (op_yield (l := l) rfl (by simp [go_sem]) (by first | (simp [go_sem]; done) | (simp [go_sem]; rfl)) (show YieldAt (Fence.wide.inRound lc) (n - 1) Try.prog l _ W' _ from hYd (n - 1)) rfl (fun _ => trivial) ?_)
        rintro e2 W2 ⟨own', r1, r2, r3, r4⟩
        have hgv : (fun b => ∃ v a0 n0 c0', #[Value.int .i64 k, Value.slice (some ⟨g, 0, none⟩) (e - s) cN] = #[v, Value.slice (some a0) n0 c0'] ∧ b = a0.block) = (fun b => b = g) := by
          funext b
          refine propext ⟨?_, ?_⟩
          · rintro ⟨v, a0, n0, c0', he, rfl⟩
            simp at he
            obtain ⟨_, rfl, _⟩ := he
            rfl
          · rintro rfl
            exact ⟨_, _, _, _, rfl, rfl⟩
        have hP : ∃ rr, e2 = .returned (.bool rr) ∧ Post rr W2 := by
          rw [hPost]
          rcases r4 with ⟨rfl, r4⟩ | ⟨rfl, r4⟩
          · exact ⟨true, rfl, own', by rw [← hgv]; rw [h10] at r1; exact r1, r2, by rw [h10] at r3; exact r3.mono (fun b _ hh => by rcases hh with hh | hh | hh; exact .inl hh; exact .inr (.inl hh); exact .inr (.inr (by rw [← congrFun hgv b]; exact hh))), .inl ⟨rfl, r4⟩⟩
          · exact ⟨false, rfl, own', by rw [← hgv]; rw [h10] at r1; exact r1, r2, by rw [h10] at r3; exact r3.mono (fun b _ hh => by rcases hh with hh | hh | hh; exact .inl hh; exact .inr (.inl hh); exact .inr (.inr (by rw [← congrFun hgv b]; exact hh))), .inr ⟨rfl, r4⟩⟩
        obtain ⟨rr, rfl, hP⟩ := hP
        have h11 : b11 = false := by cases b11 with
          | false => rfl
          | true => exact absurd (q7 rfl) (by decide)
        exact ⟨_, rfl, hK _ _ ⟨true, true, b2, b3, b4, b5, b6, b7, b8, true, true, b11, rr, rfl, by subst h11; rfl, by simpa using q1, by simpa using q2, fun _ => ⟨rfl, rfl, rfl⟩, (by intro h; cases h), (by intro _ h; cases h), fun _ => hP, fun _ => rfl⟩⟩
      · simp only [List.getElem?_toArray, List.getElem?_cons_succ, List.getElem?_cons_zero, Option.some.injEq] at ho
        subst ho
        replace hf : b11 = false := hf
        subst hf
        have d10 : b10 = true := hd ⟨10, .data⟩ (by simp) rfl
        subst d10
        refine Go.Proofs.YtbmklpcheopgoaaReg.opIn_val ho2 rfl (fun _ => trivial) (fun c h => by cases h) (v := .bool (!r)) (w1 := W') ?_ (hK _ _ ⟨b0, b1, b2, b3, b4, b5, b6, b7, b8, b9, true, true, r, rfl, rfl, by first | exact q1 | (intro h; cases h; done) | (intro h; have := q1 h; simpa using this) | (intros; simp_all), by first | exact q2 | (intro h; cases h; done) | (intro h; have := q2 h; simpa using this) | (intros; simp_all), by first | exact q3 | (intro h; cases h; done) | (intro h; have := q3 h; simpa using this) | (intros; simp_all), by first | exact q4 | (intro h; cases h; done) | (intro h; have := q4 h; simpa using this) | (intros; simp_all), by first | exact q5 | (intro h; cases h; done) | (intro h; have := q5 h; simpa using this) | (intros; simp_all), by first | exact q6 | (intro h; cases h; done) | (intro h; have := q6 h; simpa using this) | (intros; simp_all), by first | exact q7 | (intro h; rfl) | (intro h; cases h; done) | (intros; simp_all)⟩)
        simp [go_sem]
    · rintro lst a W' ⟨b0, b1, b2, b3, b4, b5, b6, b7, b8, b9, b10, b11, r, rfl, rfl, q1, q2, q3, q4, q5, q6, q7⟩ hall
      have a0 : b0 = true := hall 0 (by decide)
      subst a0
      have a1 : b1 = true := hall 1 (by decide)
      subst a1
      have a2 : b2 = true := hall 2 (by decide)
      subst a2
      have a3 : b3 = true := hall 3 (by decide)
      subst a3
      have a4 : b4 = true := hall 4 (by decide)
      subst a4
      have a5 : b5 = true := hall 5 (by decide)
      subst a5
      have a6 : b6 = true := hall 6 (by decide)
      subst a6
      have a7 : b7 = true := hall 7 (by decide)
      subst a7
      have a8 : b8 = true := hall 8 (by decide)
      subst a8
      have a9 : b9 = true := hall 9 (by decide)
      subst a9
      have a10 : b10 = true := hall 10 (by decide)
      subst a10
      have a11 : b11 = true := hall 11 (by decide)
      subst a11
      have hP := q6 rfl
      rw [hPost] at hP
      obtain ⟨own', r1, r2, r3, r4⟩ := hP
      have hsz1 : V1.heap.size ≤ w1.heap.size := hNb.size
      have hWV := hs.chg.size
      have hYl : W.heap.size < V1.heap.size := (Array.getElem?_eq_some_iff.1 hy).1
      have hsub : ∀ b, own' b → own b ∨ V1.heap.size ≤ b := by
        intro b hb
        rcases r1.2 b hb with h | h | h
        · exact .inl (hu b h)
        · exact .inr (by omega)
        · exact .inr (by subst h; exact hg')
      have hgr : Grow own (fun b => own b ∨ own' b) V1 := ⟨fun b h => .inl h, fun b h => h.elim .inl (hsub b)⟩
      have hchg : Chg own V1 W' := ⟨r3.os.trans hNb.os, r3.tape.trans hNb.tape, r3.output.trans hNb.output, Nat.le_trans hsz1 r3.size, fun b hb hn => (r3.block b (by omega) (by
        rintro (h | h | h)
        · exact hn (hu b h)
        · subst h; exact hn hl
        · subst h; omega)).trans (hNb.block b hb (fun h => h))⟩
      have hlt2 : ∀ b, (own b ∨ own' b) → b < W'.heap.size := by
        rintro b (h | h)
        · exact hchg.lt (how b h)
        · exact r2 b h
      have hny2 : ¬ (own W.heap.size ∨ own' W.heap.size) := by
        rintro (h | h)
        · exact hny h
        · rcases hsub _ h with h | h
          · exact hny h
          · omega
      rcases r4 with ⟨rfl, r4⟩ | ⟨rfl, r4⟩
      · gi_wp2
        refine ⟨fun b => own b ∨ own' b, hgr, hlt2, hchg, ⟨.inl hl, hny2, hchg.heap hy hny⟩, own', r4, fun b h => .inr h, hs1.next r1 r2 r3 (fun b h => by subst h; omega)⟩
      · gi_wp2
        refine ⟨fun b => own b ∨ own' b, hgr, hlt2, hchg, rfl, own', r4, fun b h => ⟨.inr h, r2 b h⟩⟩
  · rintro D own V1 hD how hnD ⟨⟨hl, hny, hy⟩, u, hj, hu, hs⟩ hdef
    refine leaves_collected hdef fun V2 hc => ⟨_, results_none rfl _ _ _, ⟨_, rfl⟩, u, fun b hb => hc.lt (hs.lt b hb), .inl (hJ _ _ _ _ hj (hc.mono fun b _ hb => ⟨by omega, fun h => hnD (by subst hb; exact hu _ h)⟩))⟩
  · rintro D c k own V1 hD how hnD hk ⟨rfl, u, hj, hu⟩ hdef
    gi_wp2
    refine leaves_collected hdef fun V2 hc => ⟨_, results_none rfl _ _ _, ⟨_, rfl⟩, u, fun b hb => hc.lt (hu b hb).2, .inr ⟨k, hk, hJx _ _ _ _ hj (hc.mono fun b _ hb => ⟨by omega, fun h => hnD (by subst hb; exact (hu _ h).1)⟩)⟩⟩
end Go.Proofs.Ytbmklpcheopgoaa.H
