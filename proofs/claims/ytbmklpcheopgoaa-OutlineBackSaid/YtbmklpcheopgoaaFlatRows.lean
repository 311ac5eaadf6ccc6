/- Rows of one's own whose elements lead nowhere: stores of whole elements, and how such a row is carried over. Any program. -/
import Derived.Test.YtbmklpcheopgoaaBlks
import Derived.Test.YtbmklpcheopgoaaOps
import Derived.Test.YtbmklpcheopgoaaHx0
import Derived.Test.YtbmklpcheopgoaaWApart
import Derived.Maps.AppendAt
namespace Go.Proofs.YtbmklpcheopgoaaFlat
open Go Go.RowKit Go.Proofs.YtbmklpcheopgoaaIt Go.Proofs.YtbmklpcheopgoaaBlks Go.Proofs.YtbmklpcheopgoaaW.PrintWords

/-- Elements that lead nowhere: what they are does not hang on the world. -/
def Flat {α : Type} (d : Kd α) : Prop := ∀ (w w' : World) (base base' : Nat) (ok ok' : Nat → Prop) (x : α) (cs : List Value), d.M w base ok x cs → d.M w' base' ok' x cs
theorem flat_int (k : IntKind) : Flat (Kd.int k) := fun _ _ _ _ _ _ _ _ h => h
theorem flat_bool : Flat Kd.bool := fun _ _ _ _ _ _ _ _ h => h

/-- The row's own block. -/
def Own1 (v : Value) (k : Nat) : Prop := some k = v.ownBlock
section
variable {α : Type} {d : Kd α} {e base : Nat} {ok : Nat → Prop} {W W1 : World} {v : Value} {xs : List α}
theorem R_own1 (hf : Flat d) (h : d.R e W base ok v xs) : d.R e W base (Own1 v) v xs := ⟨fun k hk => hk.symm, h.2.imp_ (fun _ _ hM => hf _ _ _ _ _ _ _ _ hM)⟩
theorem R_all (h : d.R e W base (Own1 v) v xs) : d.R e W base (fun _ => True) v xs := Kd.R_mono h (fun _ _ => trivial)
theorem R_chg {S : Nat → Prop} (h : d.R e W base (Own1 v) v xs) (hc : Chg S W W1) (hS : ∀ k, v.ownBlock = some k → ¬ S k) : d.R e W1 base (Own1 v) v xs :=
  Kd.R_step h (fun k hk hlt => hc.block k hlt (hS k hk.symm))
end

theorem run_store_op {P : Program} {o : Oper} {ρ : Operand → Value} {x y : Operand} {t : TypeId} {p u : Value} {W w1 : World} (ho : o.op = .store t x y) (hx : ρ x = p) (hy : ρ y = u) (hr : (Instr.storeAt t p u).run P W = .ok () w1) : (execOp ρ o).run P W = .ok .skip w1 := by
  unfold execOp
  simp only [ho, hx, hy, Sem.run_bind, hr, Result.andThen_ok, Sem.run_pure]

/-- x[i] = u, in a row of one's own. -/
theorem row_store {P : Program} {α : Type} {d : Kd α} {e base g n cap : Nat} {W : World} {xs : List α} (hf : Flat d) (h : d.R e W base (Own1 (.slice (some ⟨g, 0, none⟩) n cap)) (.slice (some ⟨g, 0, none⟩) n cap) xs) (i : Nat) (hi : i < n) (t : TypeId) (u : Value) {x' : α}
    {seg : List Value} (hu : u.cells.toList = seg) (hsz : seg.length = d.sz) (ht : (P.info? t).map (·.size) = some d.sz) (h1 : ∀ q ∈ seg, q.oneCell' = true) (hM : ∀ ok, d.M W base ok x' seg) :
    ∃ w1, (Instr.storeAt t (.pointer (some ⟨g, i * d.sz, none⟩)) u).run P W = .ok () w1 ∧ d.R e w1 base (Own1 (.slice (some ⟨g, 0, none⟩) n cap)) (.slice (some ⟨g, 0, none⟩) n cap) (xs.set i x') ∧ Chg (fun k => k = g) W w1 := by
  have hn := (Kd.R_reads' h).1
  have hnc := (Kd.R_reads' h).2.1
  obtain ⟨c, hcl, _, hcc, _⟩ := Kd.R_elem h x' (i : Int) (by omega) (by omega)
  simp only [Int.toNat_natCast] at hcc
  have hseg := Kd.R_seg (okp := fun _ => False) h (i : Int) (by omega) (by omega) (c := c) (seg := seg) (j := 0) hcl (by simpa using hcc) (by omega) (x' := x') (by
    rw [hsz]
    simp only [List.take_zero, List.nil_append, Nat.zero_add]
    rw [List.drop_of_length_le (by omega), List.append_nil]
    exact hM _) (fun _ hk => hk.elim)
  simp only [Int.toNat_natCast, Nat.add_zero] at hseg
  obtain ⟨hrow, hg⟩ := hseg
  refine ⟨W.setCells g (i * d.sz) seg, ?_, hrow, Chg.mono (Chg.of_grownBy hg) (fun k _ hk => by injection hk with hk; exact hk.symm)⟩
  obtain ⟨_, inner, hown, hr⟩ := h
  rcases hown.2 with ⟨hv, _⟩ | ⟨g', cap', cur, hv, hb, hh, hnc', hcm, hcs, _⟩
  · cases hv
  injection hv with ha hb2 hc2
  injection ha with ha
  injection ha with hg'
  subst hg'; subst hc2
  refine run_store_run t u seg hh hu (by rw [ht, hsz]) ?_ h1
  have h2 : i * d.sz + d.sz ≤ n * d.sz := by rw [← Nat.succ_mul]; exact Nat.mul_le_mul_right _ hi
  have h3 : n * d.sz ≤ cap * d.sz := Nat.mul_le_mul_right _ (by omega)
  omega

/-- Elements that lead nowhere may be taken over as one's own. -/
def FlatK {α : Type} (d : Kd α) : Prop := ∀ (w w' : World) (base : Nat) (ok : Nat → Prop) (x : α) (cs : List Value), d.K w x cs → d.M w' base ok x cs
theorem flatK_int (k : IntKind) : FlatK (Kd.int k) := fun _ _ _ _ _ _ h => h
theorem flatK_bool : FlatK Kd.bool := fun _ _ _ _ _ _ h => h

section
variable {P : Program} {α : Type}
/-- append(nil, ys...), ys not empty: a row of one's own. -/
theorem run_clone (d : Kd α) (hK : FlatK d) {W : World} {t ty e : TypeId} {z : Value} {bytes : Nat} (ht : P.underlying t = some (.slice e)) (hinfo : (P.info? e).map (fun i => (i.zero, i.size, i.bytes)) = some (some z, d.sz, bytes)) (hz : z.cells.size = d.sz) (hs0 : 0 < d.sz) (hb0 : 0 < bytes)
    {B : Option Addr} {m c' : Nat} {ys : List α} (hB : d.C W B m ys) (hl : m * bytes ≤ 140737488355328) (hm : 0 < m) :
    ∃ g c1 w1, (Builtin.append_ #[t, t] ty #[.slice none 0 0, .slice B m c']).run P W = .ok (.slice (some ⟨g, 0, none⟩) m c1) w1 ∧ m ≤ c1 ∧ W.heap.size ≤ g ∧ d.R e w1 W.heap.size (Own1 (.slice (some ⟨g, 0, none⟩) m c1)) (.slice (some ⟨g, 0, none⟩) m c1) ys ∧ Below W.heap.size W w1 := by
  obtain ⟨i0, hi, hzz⟩ := Option.map_eq_some_iff.1 hinfo
  simp only [Prod.mk.injEq] at hzz
  obtain ⟨hz0, hz1, hz2⟩ := hzz
  have hlen : m ≤ 140737488355328 := Nat.le_trans (Nat.le_mul_of_pos_right _ hb0) hl
  have hBm := hB.1
  obtain ⟨ad, rfl, _⟩ := hB.2.2 hm
  obtain ⟨news, hnr, hnews⟩ := ReadsRow.inner_ hB
  have hone := Go.Proofs.YtbmklpcheopgoaaOps.one_of_reads d hs0 hnr
  obtain ⟨v', w', hrun, r1, r2, _⟩ := run_append_own (P := P) W W.heap.size t ty e i0 z d.sz bytes ht hi hz0 hz1 hz2 hz hs0 (.slice none 0 0) 0 [] (World.ownsRow_nil W _ e d.sz) ad m c' news (by rw [hnr.1, hB.1]) hnews hone (by simp only [maxLen]; omega) (by simpa using hl) (Nat.le_refl _)
  have hb : Below W.heap.size W w' := ⟨r2.os, r2.tape, r2.output, r2.size, fun k hk => r2.block k hk (by simp [Value.ownBlock])⟩
  have hreps : ∀ ok, Reps (d.M w' W.heap.size ok) d.sz ys news := fun ok => hnr.imp_ fun _ _ h => hK _ _ _ _ _ _ h
  rw [Nat.zero_add, List.nil_append] at r1
  have r1' := r1
  rcases r1'.2 with ⟨h1, h2⟩ | ⟨g, cap, cur, h1, hg, hh, hnc, _⟩
  · omega
  · subst h1
    exact ⟨g, cap, w', hrun, hnc, hg, ⟨fun k hk => hk.symm, news, by rw [hBm]; exact r1, hreps _⟩, hb⟩

/-- append(v, x) in a world where x's cells lie at ad: a row of elements of whatever kind. -/
theorem run_append1 (d : Kd α) {W : World} (base : Nat) {t ty e : TypeId} {z : Value} {bytes : Nat} (ht : P.underlying t = some (.slice e)) (hinfo : (P.info? e).map (fun i => (i.zero, i.size, i.bytes)) = some (some z, d.sz, bytes)) (hz : z.cells.size = d.sz) (hs0 : 0 < d.sz) (hb0 : 0 < bytes)
    (v : Value) (xs : List α) (p : α) (cs : List Value) (ok okp : Nat → Prop) (ad : Addr) (c' : Nat) (hx : ∀ j u, cs[j]? = some u → W.cell? (ad.add j) = some u) (hp : d.M W base okp p cs) (hokp : ∀ k, okp k → ok k ∧ some k ≠ v.ownBlock) (hfresh : ∀ k, W.heap.size ≤ k → ok k)
    (HO : d.R e W base ok v xs) (hbase : base ≤ W.heap.size) (hl : (xs.length + 1) * bytes ≤ 140737488355328) :
    ∃ v1 w1, (Builtin.append_ #[t, t] ty #[v, .slice (some ad) 1 c']).run P W = .ok v1 w1 ∧ d.R e w1 base ok v1 (xs ++ [p]) ∧ W.grownBy w1 v.ownBlock ∧ (v1.ownBlock = v.ownBlock ∨ ∃ b, v1.ownBlock = some b ∧ W.heap.size ≤ b) := by
  obtain ⟨i0, hi, hzz⟩ := Option.map_eq_some_iff.1 hinfo
  simp only [Prod.mk.injEq] at hzz
  obtain ⟨hz0, hz1, hz2⟩ := hzz
  have hlen : xs.length + 1 ≤ 140737488355328 := Nat.le_trans (Nat.le_mul_of_pos_right _ hb0) hl
  obtain ⟨h0, inner, hown, hr⟩ := HO
  have hcl := d.K_len (d.K_of_M hp)
  obtain ⟨v', w', hrun, r1, r2, _, r3⟩ := run_append_own_at (P := P) W base t ty e i0 z d.sz bytes ht hi hz0 hz1 hz2 hz hs0 v xs.length inner hown ad 1 c' cs (by rw [hcl]; omega) hx (d.K_one (d.K_of_M hp)) (by simp only [maxLen]; omega) hl hbase
  have hat : v'.ownBlock = v.ownBlock ∨ ∃ b, v'.ownBlock = some b ∧ W.heap.size ≤ b := by
    rcases r3 with r3 | r3
    · exact .inl r3
    · exact .inr ⟨_, r3, Nat.le_refl _⟩
  exact ⟨v', w', hrun, Kd.R_appended h0 hr hp hokp hfresh r1 r2 hat, r2, hat⟩
/-- .. and no two of its elements lead to one block. -/
theorem run_appendS (d : Kd α) {W : World} (base : Nat) {t ty e : TypeId} {z : Value} {bytes : Nat} (ht : P.underlying t = some (.slice e)) (hinfo : (P.info? e).map (fun i => (i.zero, i.size, i.bytes)) = some (some z, d.sz, bytes)) (hz : z.cells.size = d.sz) (hs0 : 0 < d.sz) (hb0 : 0 < bytes)
    (v : Value) (xs : List α) (p : α) (cs : List Value) (ok okp : Nat → Prop) (ad : Addr) (c' : Nat) (hx : ∀ j u, cs[j]? = some u → W.cell? (ad.add j) = some u) (hp : d.M W base okp p cs) (hokp : ∀ k, okp k → ok k ∧ some k ≠ v.ownBlock) (hfresh : ∀ k, W.heap.size ≤ k → ok k)
    (HO : Kd.S d e W base (fun k => ok k ∧ ¬ okp k) v xs) (hbase : base ≤ W.heap.size) (hl : (xs.length + 1) * bytes ≤ 140737488355328) :
    ∃ v1 w1, (Builtin.append_ #[t, t] ty #[v, .slice (some ad) 1 c']).run P W = .ok v1 w1 ∧ Kd.S d e w1 base ok v1 (xs ++ [p]) ∧ W.grownBy w1 v.ownBlock ∧ (v1.ownBlock = v.ownBlock ∨ ∃ b, v1.ownBlock = some b ∧ W.heap.size ≤ b) := by
  obtain ⟨f, hf, hR⟩ := Kd.S_tag HO xs.length okp (fun _ hk h2 => h2.2 hk)
  obtain ⟨v1, w1, h1, h2, h3, h4⟩ := run_append1 (P := P) (Kd.tag f d) (ty := ty) base ht hinfo hz hs0 hb0 v xs.zipIdx (p, xs.length) cs ok okp ad c' hx (d.M_mono (fun k hk => ⟨hk, hf k hk⟩) hp) hokp hfresh (Kd.R_mono hR (fun _ hk => hk.1)) hbase (by rw [List.length_zipIdx]; exact hl)
  rw [← Kd.zip_snoc] at h2
  exact ⟨v1, w1, h1, ⟨f, h2⟩, h3, h4⟩
section
variable {d : Kd α} {e base : Nat} {ok : Nat → Prop} {w w1 : World} {v : Value} {xs : List α}
theorem S_empty (d : Kd α) {g : Nat} (h : w.heap[g]? = some (.cells #[] e (0, 0))) (hb : base ≤ g) (hok : ok g) : Kd.S d e w base ok (.slice (some ⟨g, 0, none⟩) 0 0) [] :=
  ⟨fun _ => 0, fun k hk => by simp [Value.ownBlock] at hk; subst hk; exact hok, [], ⟨by simp, .inr ⟨g, 0, #[], rfl, hb, h, by simp, by simp [maxLen], by simp, by simp⟩⟩, Reps.none _ _⟩
theorem S_chg {T : Nat → Prop} (h : Kd.S d e w base ok v xs) (hc : Chg T w w1) (hT : ∀ k, ok k → ¬ T k) : Kd.S d e w1 base ok v xs := Kd.S_step h (fun k ho hlt => hc.block k hlt (hT k ho))
theorem S_put {l : Nat} {o o' : Obj} (h : Kd.S d e w base ok v xs) (ho : w.heap[l]? = some o) (hn : o.isCells = false) : Kd.S d e (w.putObj l o') base ok v xs :=
  Kd.S_mono (Kd.S_step (Kd.S_bound h) (fun k hk hlt => by
    obtain ⟨_, _, _, q, _, cells, hc⟩ := hk
    refine World.putObj_heap_other (fun e => ?_)
    subst e
    rw [hc] at ho
    cases ho
    cases hn)) (fun _ hk => hk.1)
theorem R_put {l : Nat} {o o' : Obj} (h : d.R e w base ok v xs) (ho : w.heap[l]? = some o) (hn : o.isCells = false) : d.R e (w.putObj l o') base ok v xs :=
  Kd.R_mono (Kd.R_step (Kd.R_bound h) (fun k hk hlt => by
    obtain ⟨_, _, _, q, _, cells, hc⟩ := hk
    refine World.putObj_heap_other (fun e => ?_)
    subst e
    rw [hc] at ho
    cases ho
    cases hn)) (fun _ hk => hk.1)
end
end
end Go.Proofs.YtbmklpcheopgoaaFlat
