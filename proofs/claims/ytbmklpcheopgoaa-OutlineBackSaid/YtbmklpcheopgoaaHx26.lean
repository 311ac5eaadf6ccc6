/- What the Go functions of this seat compute, as Lean functions, each with the proof that the call answers so; made by a program of this session. -/
import Derived.Test.YtbmklpcheopgoaaHx0
import Derived.WalkKit
import Derived.Lib.Hide
import Derived.WalkSpells
import Derived.Test.YtbmklpcheopgoaaContours
import Derived.Test.YtbmklpcheopgoaaFlatRows
namespace Go.Proofs.Ytbmklpcheopgoaa.H
open Go.RowKit Go.Proofs.YtbmklpcheopgoaaW.PrintWords Go.Proofs.YtbmklpcheopgoaaW.PrintLast Go.Proofs.YtbmklpcheopgoaaW.PrintMore
attribute [local go_sem] max2_int min2_int max_two min_two max_three min_three max_four min_four   -- for this text's walks alone
set_option linter.unusedVariables false
set_option linter.unusedSimpArgs false

/-! ### fleuronlaw03_told: function 16 -/
open Go.Proofs.YtbmklpcheopgoaaOps Go.Proofs.YtbmklpcheopgoaaIt Go.Proofs.YtbmklpcheopgoaaBlks Go.Proofs.YtbmklpcheopgoaaFlat Go.Shelf
attribute [local go_sem] Oper.semAt_some wide_depth wide_fn World.cell?_alloc_some
theorem told_info : (Try.prog.info? 22).map (fun i => (i.zero, i.size, i.bytes)) = some (some (.slice none 0 0), Kd.sz (Kd.slice 33 k33), 24) := by kernel_rfl
def toldK (pts : List S33) (es : List Int) (k : Nat) : List (List S33) := ((cutsL es pts.length).take k).map (contourOf pts)
theorem toldK_len (pts : List S33) (es : List Int) (k : Nat) (h : k ≤ (cutsL es pts.length).length) : (toldK pts es k).length = k := by simp [toldK, h]
theorem told_cuts_len (es : List Int) (n : Int) : ∀ b, (cutsF b es n).length ≤ es.length := by
  induction es with
  | nil => intro b; simp [cutsF]
  | cons e es ih =>
    intro b
    unfold cutsF
    split
    · simp
    · simp [ih (e + 1)]

theorem told_nil (l : Nat) (w : World) : (binOp .eql 73 (.func (Fn.func 54) #[] #[.pointer (some ⟨l, 0, none⟩)]) .nilFunc).run Try.prog w = .ok (.bool false) w := by kernel_rfl

set_option maxRecDepth 100000 in
set_option maxHeartbeats 4000000 in
theorem told_calls (A0 A1 : Option Addr) (c0 c1 : Nat) (pts : List S33) (es : List Int) (w : World) (hp : Kd.C k33 w A0 pts.length pts) (hc0 : pts.length ≤ c0) (hes : (Kd.int .i64).C w A1 es.length es) (hc1 : es.length ≤ c1) (hlim : pts.length ≤ 1000000) (hlime : es.length ≤ 1000000) :
    Calls Try.prog 16 #[.agg #[.slice A0 pts.length c0, .slice A1 es.length c1]] w fun e w' => ∃ v0 : Value, e = .returned (.tuple #[v0, .bool true]) ∧ Kd.S (Kd.slice 33 k33) 22 w' w.heap.size (fun _ => True) v0 (toldK pts es (cutsL es pts.length).length) ∧ Below w.heap.size w w' := by
  have hu := Try.underlying25
  refine (callsIn_wide (n := 0)).1 (callsIn_of_wp_marks Try.func16 rfl trivial ?_ rfl)
  simp only [Try.ntmps16, List.size_toArray, List.length_cons, List.length_nil, Nat.reduceAdd, Nat.reduceSub, Array.replicate_succ, Array.replicate_zero, List.push_toArray, List.append_toArray, List.nil_append, List.cons_append]
  have hnil := told_nil
  gi_wp2
  refine CallsIn.mono (contours_calls 0 _ _ _ _ _ _ _) ?_
  rintro e w' ⟨rfl, rfl⟩
  gi_wp2
  generalize hV : World.alloc (World.alloc (World.alloc (World.alloc (World.alloc (World.alloc w _) _) _) _) _) _ = V
  have hVs : V.heap.size = w.heap.size + 1 + 1 + 1 + 1 + 1 + 1 := by rw [← hV]; simp
  have hbw : Below w.heap.size w V := by rw [← hV]; exact ((((((Below.refl _ w).alloc (Nat.le_refl _) _).alloc (by simp) _).alloc (by simp; omega) _).alloc (by simp; omega) _).alloc (by simp; omega) _).alloc (by simp; omega) _
  have hB : Blks [(w.heap.size + 1 + 1 + 1 + 1 + 1, .cells #[.slice A0 pts.length c0, .slice A1 es.length c1] 25 (0, 0)), (w.heap.size + 1 + 1 + 1 + 1, .cells #[.slice (some ⟨w.heap.size + 1 + 1 + 1, 0, none⟩) 0 0] 27 (0, 0)), (w.heap.size + 1 + 1 + 1, .cells #[] 22 (0, 0)), (w.heap.size + 1 + 1, .cells #[.bool false] 4 (0, 0)), (w.heap.size + 1, .cells #[.slice none 0 0] 27 (0, 0)), (w.heap.size, .cells #[.slice A0 pts.length c0, .slice A1 es.length c1] 25 (0, 0))] V := by
    rw [← hV]; exact ((((((Blks.nil w).alloc _).alloc_at _ (by simp)).alloc_at _ (by simp)).alloc_at _ (by simp)).alloc_at _ (by simp)).alloc_at _ (by simp)
  clear hV
  have hit := contours_it V (w.heap.size + 1 + 1 + 1 + 1 + 1) A0 A1 c0 c1 pts es (hB.blk 0 rfl) (Kd.C_below hp hbw) (Kd.C_below hes hbw) hc0 hlim
  refine range_outer hit (by rfl) (fun args w => by simp [go_sem])
    (fun k own V' => own (w.heap.size + 1 + 1 + 1 + 1) ∧ (∀ b, own b → w.heap.size + 1 + 1 + 1 ≤ b ∧ b ≠ w.heap.size + 1 + 1 + 1 + 1 + 1) ∧ (∃ v, Blks [(w.heap.size + 1 + 1 + 1 + 1, .cells #[v] 27 (0, 0)), (w.heap.size + 1 + 1, .cells #[.bool false] 4 (0, 0)), (w.heap.size + 1, .cells #[.slice none 0 0] 27 (0, 0))] V' ∧
        Kd.S (Kd.slice 33 k33) 22 V' w.heap.size (fun b => own b ∧ b ≠ w.heap.size + 1 + 1 + 1 + 1) v (toldK pts es k)) ∧ Below w.heap.size w V' ∧ V.heap.size ≤ V'.heap.size)
    (fun c k own V' => False)
    (fun b => b = w.heap.size + 1 + 1 + 1 + 1 ∨ b = w.heap.size + 1 + 1 + 1) ?_ ?_ ?_ ?_ ?_
    (fun k own a' V' => ∃ (c : Int × Int) (g cap : Nat) (own0 : Nat → Prop) (v : Value), (cutsL es pts.length)[k]? = some c ∧ a' = ⟨#[.agg #[.slice A0 pts.length c0, .slice A1 es.length c1], .pointer (some ⟨w.heap.size, 0, none⟩), .pointer (some ⟨w.heap.size + 1, 0, none⟩), .pointer (some ⟨w.heap.size + 1 + 1, 0, none⟩), .pointer (some ⟨w.heap.size + 1 + 1 + 1 + 1, 0, none⟩), .func (.func 54) #[] #[.pointer (some ⟨w.heap.size + 1 + 1 + 1 + 1 + 1, 0, none⟩)], .int .i64 k, .slice (some ⟨g, 0, none⟩) (contourOf pts c).length cap, .slice (some ⟨w.heap.size + 1 + 1 + 1, 0, none⟩) 0 0, .agg #[.slice A0 pts.length c0, .slice A1 es.length c1], .func (.func 54) #[] #[.pointer (some ⟨w.heap.size + 1 + 1 + 1 + 1 + 1, 0, none⟩)], .func (.func 54) #[] #[.pointer (some ⟨w.heap.size + 1 + 1 + 1 + 1 + 1, 0, none⟩)], .bool false, undef, .func (.func 54) #[] #[.pointer (some ⟨w.heap.size + 1 + 1 + 1 + 1 + 1, 0, none⟩)], .int .i64 k, .slice (some ⟨g, 0, none⟩) (contourOf pts c).length cap, undef, undef, undef, undef, undef, undef, undef, undef, undef, undef], []⟩ ∧ (∀ b, own0 b → own b) ∧ own g ∧ ¬ own0 g ∧ g ≠ w.heap.size + 1 + 1 + 1 + 1 ∧
      Blks [(w.heap.size + 1 + 1 + 1 + 1, .cells #[v] 27 (0, 0)), (w.heap.size + 1 + 1, .cells #[.bool false] 4 (0, 0)), (w.heap.size + 1, .cells #[.slice none 0 0] 27 (0, 0))] V' ∧
      Kd.S (Kd.slice 33 k33) 22 V' w.heap.size (fun b => own0 b ∧ b ≠ w.heap.size + 1 + 1 + 1 + 1) v (toldK pts es k) ∧
      Kd.R k33 33 V' w.heap.size (Own1 (.slice (some ⟨g, 0, none⟩) (contourOf pts c).length cap)) (.slice (some ⟨g, 0, none⟩) (contourOf pts c).length cap) (contourOf pts c)) ?_ ?_ ?_ ?_ ?_
  · rintro k own Va Vb ⟨h1, h2, ⟨v, h3, h4⟩, h5, h6⟩ hc
    refine ⟨h1, h2, ⟨v, h3.chg hc ?_, S_chg h4 hc (fun k hk hs => hs.2 hk.1)⟩, h5.trans (hc.below (Nat.le_trans (by omega) h5.size) (fun i hi h => by omega)), Nat.le_trans h6 hc.size⟩
    intro b hb hs
    simp at hb
    rcases hb with rfl | rfl | rfl
    · exact hs.2 h1
    · omega
    · omega
  · rintro c k own V1 V2 h hc
    exact h
  · rintro k W args ⟨c, A, cap, _, rfl, _⟩
    rfl
  · rintro b hb
    refine ⟨by omega, fun hr => ?_⟩
    rcases hr with ⟨h0, ad, rfl, hr⟩ | ⟨h0, ad, rfl, hr⟩ | hr
    · obtain ⟨ad', e, hx, _⟩ := at_T33 hp 0 (by omega) (by omega)
      cases e
      have := World.block_lt_of_cell? w _ hx
      rw [add_block] at this
      omega
    · obtain ⟨ad', e, hx⟩ := Kd.at_int hes 0 (by omega) (by omega)
      cases e
      have := World.block_lt_of_cell? w _ hx
      rw [add_block] at this
      omega
    · omega
  · exact ⟨.inl rfl, fun b hb => by omega, ⟨_, (hB.tail).sub (by simp), S_empty _ (hB.blk 2 rfl) (by omega) ⟨.inr rfl, by omega⟩⟩, hbw, Nat.le_refl _⟩
  · rintro lc k own a' Va o o' hlc ⟨c, g, cap, own0, v, q1, q2, q3, q4, q5, q6, q7, q8, q9⟩ ho hcells
    exact ⟨c, g, cap, own0, v, q1, q2, q3, q4, q5, q6, q7.put_ (by simp [Obj.isCells]) ho hcells, S_put q8 ho hcells, R_put q9 ho hcells⟩
  · rintro lc n k own args Va hlc ⟨h1, h2, ⟨v, h3, h4⟩, h5, h6⟩ how hlt hno hk ⟨c, A, cap, hkc, rfl, hcap, hC, hR⟩ hGo
    obtain ⟨m1, m2, m3⟩ := cutsF_mem es pts.length 0 k c hkc
    obtain ⟨g, cap', e1, hg1, hg2, _⟩ := Kd.R_form hR (by simp [contourOf]; omega)
    injection e1 with e1 e2 e3
    subst e1; subst e3
    clear e2
    have hog : ¬ own g := hGo g ⟨_, _, _, _, rfl, rfl⟩
    generalize hQ : Exit.then _ _ = Q0
    gi_wp2
    subst hQ
    show ∃ own', _
    refine ⟨fun b => own b ∨ b = g, ⟨fun _ h => .inl h, fun b h => h.elim .inl (fun e => .inr (.inr ⟨_, _, _, _, rfl, e⟩))⟩, fun b hb => hb.elim (how b) (fun e => by omega), Chg.refl _ _, ⟨.inl h1, fun b hb => hb.elim (h2 b) (fun e => by omega), ⟨v, h3, Kd.S_mono h4 (fun b hb => ⟨.inl hb.1, hb.2⟩)⟩, h5, h6⟩, c, g, cap, own, v, hkc, rfl, fun b hb => .inl hb, .inr rfl, hog, by omega, h3, h4, Kd.R_lower hR (by omega)⟩
  · rintro lc n k own a' Va hlc ⟨h1, h2, _, h5, h6⟩ how ⟨rl, hrl⟩ hno hk ⟨c, g, cap, own0, v, q1, rfl, q3, q4, q5, q6, q7, q8, q9⟩
    have hlk := toldK_len pts es k (by omega)
    obtain ⟨Av, cv, rfl⟩ := Kd.S_slice q8
    rw [hlk] at q7 q8
    have hne : (((k : Nat) : Int) != ((k : Nat) : Int)) = false := by simp
    have g0 := q7.cell 0 rfl 0
    have g1 := q7.free 0 rfl 0
    simp at g0
    have hsc : (contourOf pts c).length ≤ 1000000 := by simp [contourOf]; omega
    have hbx : ∀ j u, ([.slice (some ⟨g, 0, none⟩) (contourOf pts c).length cap] : List Value)[j]? = some u → (Va.alloc (.cells #[.slice (some ⟨g, 0, none⟩) (contourOf pts c).length cap] 22)).cell? ((⟨Va.heap.size, 0, none⟩ : Addr).add j) = some u := by
      intro j u hj
      rw [add_plain, ((Blks.nil Va).alloc _).cell 0 rfl j]
      simpa using hj
    have hVa := Chg.alloc (S := fun _ => False) (Chg.refl _ Va) (.cells #[.slice (some ⟨g, 0, none⟩) (contourOf pts c).length cap] 22)
    have hown0 : ∀ k', (Value.slice Av k cv).ownBlock = some k' → own0 k' := fun k' h => by
      obtain ⟨_, hr⟩ := q8
      exact (hr.1 k' h).1
    have hVas : (Va.alloc (.cells #[.slice (some ⟨g, 0, none⟩) (contourOf pts c).length cap] 22)).heap.size = Va.heap.size + 1 := by simp
    have hVa6 := h6
    obtain ⟨v1, w1, hrun, hS1, hg1, hat⟩ := run_appendS (P := Try.prog) (Kd.slice 33 k33) (ty := 27) w.heap.size Try.underlying27 told_info rfl (by decide) (by decide) (.slice Av k cv) (toldK pts es k) (contourOf pts c) [.slice (some ⟨g, 0, none⟩) (contourOf pts c).length cap]
      (fun b => (own b ∧ b ≠ w.heap.size + 1 + 1 + 1 + 1) ∨ Va.heap.size ≤ b) (fun b => b = g) ⟨Va.heap.size, 0, none⟩ 1 hbx
      ⟨_, rfl, Kd.R_mono (R_chg q9 hVa (fun _ _ => id)) (fun k' hk' => by simp [Own1, Value.ownBlock] at hk'; exact hk')⟩
      (fun k' hk' => by subst hk'; exact ⟨.inl ⟨q4, q6⟩, fun h => q5 (hown0 _ h.symm)⟩)
      (fun k' hk' => .inr (by rw [hVas] at hk'; omega))
      (Kd.S_mono (S_chg q8 hVa (fun _ _ => id)) (fun k' hk' => ⟨.inl ⟨q3 _ hk'.1, hk'.2⟩, fun e => by subst e; exact q5 hk'.1⟩))
      (by rw [hVas]; omega) (by rw [hlk]; have := told_cuts_len es pts.length 0; unfold cutsL at hk; omega)
    have hb1 := (q7.alloc (.cells #[.slice (some ⟨g, 0, none⟩) (contourOf pts c).length cap] 22)).tail.chg (Chg.of_grownBy hg1) (fun b hb e => by
      have := hown0 b e
      have hle := h2 b (q3 _ this)
      simp at hb
      have h8 : b ≠ w.heap.size + 1 + 1 + 1 + 1 := by
        obtain ⟨_, hr⟩ := q8
        exact (hr.1 b e).2
      omega)
    have g2 := hb1.cell 0 rfl 0
    have g3 := hb1.free 0 rfl 0
    simp at g2
    have hsz1 := hg1.size
    rw [hVas] at hsz1
    obtain ⟨Av1, cv1, hv1⟩ := Kd.S_slice hS1
    obtain ⟨N1, hN1⟩ : ∃ N, (toldK pts es k ++ [contourOf pts c]).length = N := ⟨_, rfl⟩
    rw [hN1] at hv1
    subst hv1
    clear hN1
    have hnext : toldK pts es (k + 1) = toldK pts es k ++ [contourOf pts c] := by simp [toldK, List.take_add_one, q1]
    rw [← hnext] at hS1
    have hC1 : Chg own Va w1 := ((hVa.mono (fun _ _ h => h.elim)).trans ((Chg.of_grownBy hg1).mono (fun b _ e => q3 _ (hown0 b e))))
    have HQ := Lib.hid (And.intro h2 (And.intro h5 (And.intro hS1 (And.intro hb1 (And.intro hC1 hsz1)))))
    clear h2 h5 q8 q9 q7 hlk hS1 hb1 hC1 hsz1 hnext hVas hown0 hbx hsc
    generalize hQ : roundQ _ _ _ _ _ = Q0
    gi_wp2_with (refine app_listIn rfl rfl rfl rfl hrun ?_)
    subst hQ
    obtain ⟨h2, h5, hS1, hb1, hC1, hsz1⟩ := HQ.out
    have hC2 : Chg own Va (w1.setCell ⟨w.heap.size + 1 + 1 + 1 + 1, 0, none⟩ (.slice Av1 N1 cv1)) := hC1.setCell (p := ⟨w.heap.size + 1 + 1 + 1 + 1, 0, none⟩) (fun _ => h1) _
    have hsz2 : (w1.setCell ⟨w.heap.size + 1 + 1 + 1 + 1, 0, none⟩ (.slice Av1 N1 cv1)).heap.size = w1.heap.size := by simp [World.setCell]
    have hS2 := S_chg (Kd.S_bound hS1) (Chg.setCell (S := fun b => b = w.heap.size + 1 + 1 + 1 + 1) (Chg.refl _ w1) (p := ⟨w.heap.size + 1 + 1 + 1 + 1, 0, none⟩) (fun _ => rfl) (.slice Av1 N1 cv1)) (fun b hb e => by
      subst e
      rcases hb.1 with h | h
      · exact h.2 rfl
      · omega)
    refine ⟨fun b => own b ∨ (Va.heap.size ≤ b ∧ b < w1.heap.size), ⟨fun b h => .inl h, fun b h => h.elim .inl (fun h => .inr h.1)⟩, fun b hb => by rw [hsz2]; exact hb.elim (fun h => by have := how b h; omega) (fun h => h.2), hC2, .inl h1, fun b hb => hb.elim (h2 b) (fun h => by omega), ⟨_, hb1.set 0 rfl 0 _, Kd.S_mono hS2 (fun b hb => ?_)⟩, h5.trans (hC2.below (B := w.heap.size) h5.size (fun i hi h => by have := h2 i h; omega)), by rw [hsz2]; omega⟩
    rcases hb.1 with h | h
    · exact ⟨.inl h.1, h.2⟩
    · exact ⟨.inr ⟨h, hb.2.2.1⟩, by omega⟩
  · rintro D own Va hD how hnD ⟨h1, h2, ⟨v, h3, h4⟩, h5, h6⟩ hdef
    obtain ⟨Av, cv, rfl⟩ := Kd.S_slice h4
    have g0 := h3.cell 0 rfl 0
    have g1 := h3.cell 1 rfl 0
    have g2 := h3.cell 2 rfl 0
    have f1 := h3.free 1 rfl 0
    have f2 := h3.free 2 rfl 0
    simp at g0 g1 g2
    have HH := Lib.hid (And.intro h3 (And.intro h4 (And.intro h5 h6)))
    clear h3 h4 h5
    gi_wp2
    obtain ⟨h3, h4, h5, _⟩ := HH.out
    generalize hvv : Value.slice Av (toldK pts es (cutsL es pts.length).length).length cv = vv at *
    have hd1 : Chg (fun b => b = w.heap.size + 1 ∨ b = w.heap.size + 1 + 1) Va ((Va.setCell ⟨w.heap.size + 1, 0, none⟩ vv).setCell ⟨w.heap.size + 1 + 1, 0, none⟩ (.bool true)) := ((Chg.refl (fun b => b = w.heap.size + 1 ∨ b = w.heap.size + 1 + 1) Va).setCell (p := ⟨w.heap.size + 1, 0, none⟩) (fun _ => .inl rfl) _).setCell (p := ⟨w.heap.size + 1 + 1, 0, none⟩) (fun _ => .inr rfl) _
    have hB9 := (h3.set 2 rfl 0 vv).set 1 rfl 0 (.bool true)
    have hS9 := S_chg h4 hd1 (fun k hk e => by have := h2 k hk.1; omega)
    have hW9 : Below w.heap.size w _ := h5.trans (hd1.below (B := w.heap.size) h5.size (fun i hi e => by omega))
    refine leaves_collected (hd1.heap hdef (fun e => by omega)) fun V2 hc => ?_
    have hB10 := hB9.chg hc (fun b hb e => by simp at hb; omega)
    have hS10 := S_chg hS9 hc (fun k hk e => hnD (by subst e; exact hk.1))
    have hW10 := hW9.trans (hc.below (B := w.heap.size) hW9.size (fun i hi e => by omega))
    have g0 := hB10.cell 2 rfl 0
    have g1 := hB10.cell 1 rfl 0
    simp at g0 g1
    subst hvv
    exact ⟨.tuple #[.slice Av (toldK pts es (cutsL es pts.length).length).length cv, .bool true], by simp [results, Try.f16, go_sem, g0, g1], _, rfl, Kd.S_mono hS10 (fun _ _ => trivial), hW10⟩
  · rintro D c k own V1 _ _ _ _ h
    exact h.elim

def fleuronlaw03_told.f (l0_0 : List S33) (l0_1 : List Int) : Option (List (List S33) × Bool) :=
  if l0_0.length ≤ 1000000 ∧ l0_1.length ≤ 1000000 then some (toldK l0_0 l0_1 (cutsL l0_1 l0_0.length).length, true) else none
theorem fleuronlaw03_told.calls (A0_0 : Option Addr) (c0_0 : Nat) (l0_0 : List (S33)) (A0_1 : Option Addr) (c0_1 : Nat) (l0_1 : List Int) (r1 : List (List (S33))) (r2 : Bool) (w : World) (hr0_0 : Kd.C k33 w A0_0 l0_0.length l0_0) (hc0_0 : l0_0.length ≤ c0_0) (hr0_1 : Kd.C (Kd.int .i64) w A0_1 l0_1.length l0_1) (hc0_1 : l0_1.length ≤ c0_1) (h : fleuronlaw03_told.f l0_0 l0_1 = some (r1, r2)) :
    Calls Try.prog 16 #[.agg #[.slice A0_0 l0_0.length c0_0, .slice A0_1 l0_1.length c0_1]] w fun e w' => ∃ v0_ : Value, e = .returned (.tuple #[v0_, .bool r2]) ∧ Kd.S (Kd.slice 33 k33) 22 w' w.heap.size (fun _ => True) v0_ r1 ∧ Below w.heap.size w w' := by
  unfold fleuronlaw03_told.f at h
  split at h
  · rename_i hl
    simp only [Option.some.injEq, Prod.mk.injEq] at h
    obtain ⟨rfl, rfl⟩ := h
    exact told_calls A0_0 A0_1 c0_0 c0_1 l0_0 l0_1 w hr0_0 hc0_0 hr0_1 hc0_1 hl.1 hl.2
  · cases h

end Go.Proofs.Ytbmklpcheopgoaa.H
