/- Laws for appends and cells as the walks of this session use them. Any program. -/
import Derived.Test.YtbmklpcheopgoaaIt
import Derived.Test.YtbmklpcheopgoaaWWords
import Derived.Test.YtbmklpcheopgoaaWLast
import Derived.Deep.RegionHeld3
import Derived.Deep.AppendLies
import Derived.OwnWalkIn
import Derived.Lib.Hide
import Derived.ArgAppend
namespace Go.Proofs.YtbmklpcheopgoaaOps
open Go Go.RowKit Go.Proofs.YtbmklpcheopgoaaW.PrintWords Go.Proofs.YtbmklpcheopgoaaIt

theorem cell_far_lt {W w1 : World} {u : Value} {p : Addr} {v : Value} {B : Nat} (hg : W.grownBy w1 u.ownBlock) (h : W.cell? p = some v) (hu : ∀ k, u.ownBlock = some k → B ≤ k) (hp : p.block < B) : w1.cell? p = some v := by
  rw [hg.cell_far _ (World.block_lt_of_cell? W _ h) (fun e => by have := hu _ e.symm; omega)]; exact h
theorem cell_far_ge {W w1 : World} {u : Value} {p : Addr} {v : Value} {B : Nat} (hg : W.grownBy w1 u.ownBlock) (h : W.cell? p = some v) (hu : ∀ k, u.ownBlock = some k → k < B) (hp : B ≤ p.block) : w1.cell? p = some v := by
  rw [hg.cell_far _ (World.block_lt_of_cell? W _ h) (fun e => by have := hu _ e.symm; omega)]; exact h

section
variable {P : Program} {ops : Array Oper} {o : Oper} {a : Act} {Q : Exit → Act → World → Prop} {Kc : Act → World → Prop} {α : Type} {E : Prop}
/-- append(v, x) within a region that draws its order; the world at hand is any that is the one with the variadic's box. -/
theorem R_append_at (d : Kd α) {w0 W W1 : World} (base : Nat) (hgd : o.guard = none) (s x : Operand) (t e : TypeId) (z : Value) (bytes : Nat)
    (ho : o.op = .call { callee := .builtin .append, args := #[s, x], argTypes := #[t, t] })
    (ht : P.underlying t = some (.slice e)) (hinfo : (P.info? e).map (fun i => (i.zero, i.size, i.bytes)) = some (some z, d.sz, bytes)) (hz : z.cells.size = d.sz) (hs0 : 0 < d.sz) (hb0 : 0 < bytes)
    (v : Value) (xs : List α) (p : α) (cs : List Value) (hs : a.eval s = v) (H : Nat) (hx : a.eval x = .slice (some ⟨H, 0, none⟩) 1 1) (hH : W.heap.size = H) (hp : d.M W base (fun _ => False) p cs)
    (HO : d.R e W base (fun _ => True) v xs) (HB : Below base w0 W) (hbase : base ≤ W.heap.size) (hl : (xs.length + 1) * bytes ≤ 140737488355328) (hW : W1 = W.alloc (.cells cs.toArray e))
    (h : ∀ v1 w1, d.R e w1 base (fun _ => True) v1 (xs ++ [p]) → Below base w0 w1 → W.grownBy w1 v.ownBlock → (v1.ownBlock = v.ownBlock ∨ ∃ b, v1.ownBlock = some b ∧ W.heap.size ≤ b) → Kc (a.put o.dst v1) w1) :
    if Region.wanted o (yielded ops a.tmps) = true then Oper.wp P o a W1 Kc Q else E := by
  have hw : Region.wanted o (yielded ops a.tmps) = true := by simp [Region.wanted, hgd]
  subst hW
  subst hH
  have := Kd.R_append_step (ops := ops) (Q := Q) d (w0 := w0) base hw s x t e z bytes ho ht hinfo hz hs0 hb0 v xs p cs (fun _ => True) (fun _ => False) hs hx hp (fun _ h => h.elim) (fun _ _ => trivial) HO HB hbase hl h
  rw [if_pos hw] at this ⊢
  exact this
end

section
variable {P : Program} {ops : Array Oper} {rest : List Oper} {o : Oper} {a : Act} {Q : Exit → Act → World → Prop} {Kc : Act → World → Prop} {E : Prop} {s x : Operand} {t : TypeId} {v y v1 : Value} {W w1 : World}
/-- An append whose run is known: within a region that draws its order. -/
theorem app_reg (hgd : o.guard = none) (ho : o.op = .call { callee := .builtin .append, args := #[s, x], argTypes := #[t, t] }) (hs : a.eval s = v) (hx : a.eval x = y)
    (hr : (Builtin.append_ #[t, t] o.type #[v, y]).run P W = .ok v1 w1) (h : Kc (a.put o.dst v1) w1) : if Region.wanted o (yielded ops a.tmps) = true then Oper.wp P o a W Kc Q else E := by
  have hw : Region.wanted o (yielded ops a.tmps) = true := by simp [Region.wanted, hgd]
  rw [if_pos hw]
  unfold Oper.wp execOp
  simp only [ho, resolve, invoke, builtin, Sem.run_bind, Sem.run_pure, Result.andThen_ok, List.map_toArray, List.map_cons, List.map_nil, hs, hx, hr]
  exact h
/-- .. in a list of operations. -/
theorem app_list (hgd : o.guard = none) (ho : o.op = .call { callee := .builtin .append, args := #[s, x], argTypes := #[t, t] }) (hs : a.eval s = v) (hx : a.eval x = y)
    (hr : (Builtin.append_ #[t, t] o.type #[v, y]).run P W = .ok v1 w1) (h : wpList P ops Q rest (a.put o.dst v1) w1) : wpList P ops Q (o :: rest) a W := by
  refine wpList_plain hgd fun K hK => ?_
  unfold Oper.wp execOp
  simp only [ho, resolve, invoke, builtin, Sem.run_bind, Sem.run_pure, Result.andThen_ok, List.map_toArray, List.map_cons, List.map_nil, hs, hx, hr]
  exact hK _ _ h
/-- .. inside a fence. -/
theorem app_listIn {F : Fence} {n : Nat} (hgd : o.guard = none) (ho : o.op = .call { callee := .builtin .append, args := #[s, x], argTypes := #[t, t] }) (hs : a.eval s = v) (hx : a.eval x = y)
    (hr : (Builtin.append_ #[t, t] o.type #[v, y]).run P W = .ok v1 w1) (h : wpListIn F n P ops Q rest (a.put o.dst v1) w1) : wpListIn F n P ops Q (o :: rest) a W := by
  refine wpListIn_plain hgd fun K hK => ?_
  unfold Oper.wpIn
  refine ⟨?_, ?_⟩
  · simp [Oper.about, ho, resolve, Target.leads, Sem.run_pure]
  · rw [Oper.semAt_plain F _ _ (by rw [ho]; intro c hc'; cases hc')]
    simp [execOp, ho, resolve, invoke, builtin, hs, hx, hr, Result.andThen]
    exact hK _ _ h
end

section
variable {P : Program} {α : Type}
theorem one_of_reads (d : Kd α) {W : World} {ys : List α} {news : List Value} (hs0 : 0 < d.sz) (h : Reps (d.K W) d.sz ys news) : ∀ u ∈ news, u.oneCell' = true := by
  intro u hu
  obtain ⟨q, hq, rfl⟩ := List.mem_iff_getElem.1 hu
  have hql : q / d.sz < ys.length := by
    rw [Nat.div_lt_iff_lt_mul hs0]
    rw [← h.1]
    exact hq
  have hc := h.2 (q / d.sz) _ (List.getElem?_eq_getElem hql)
  refine d.K_one hc _ ?_
  rw [List.mem_iff_getElem?]
  refine ⟨q % d.sz, ?_⟩
  rw [List.getElem?_take, if_pos (Nat.mod_lt _ hs0), List.getElem?_drop, Nat.mul_comm, Nat.div_add_mod, List.getElem?_eq_getElem hq]

theorem C_of_row (d : Kd α) {W : World} {g n cap : Nat} {e : TypeId} {b : Nat} {inner : List Value} {xs : List α} (h : W.ownsRow b e d.sz (.slice (some ⟨g, 0, none⟩) n cap) n inner) (hr : Reps (d.K W) d.sz xs inner) (hn : xs.length = n) : d.C W (some ⟨g, 0, none⟩) n xs := by
  obtain ⟨A, c, e1, hC⟩ := own_reads_row h hr hn
  injection e1 with e1
  subst e1
  exact hC

/-- append(s, x...), s full: nothing more, or a new row. -/
theorem run_full (d : Kd α) {W : World} {t ty e : TypeId} {z : Value} {bytes : Nat} (ht : P.underlying t = some (.slice e)) (hinfo : (P.info? e).map (fun i => (i.zero, i.size, i.bytes)) = some (some z, d.sz, bytes)) (hz : z.cells.size = d.sz) (hs0 : 0 < d.sz) (hb0 : 0 < bytes)
    {A B : Option Addr} {n c m c' : Nat} {xs ys : List α} (hA : d.C W A n xs) (hB : d.C W B m ys) (hnc : n ≤ c) (hfull : c < n + m ∨ m = 0) (hl : (n + m) * bytes ≤ 140737488355328) (hnone : A = none → c = 0) :
    ∃ A1 c1 w1, (Builtin.append_ #[t, t] ty #[.slice A n c, .slice B m c']).run P W = .ok (.slice A1 (n + m) c1) w1 ∧ n + m ≤ c1 ∧ d.C w1 A1 (n + m) (xs ++ ys) ∧ Below W.heap.size W w1 := by
  obtain ⟨i0, hi, hzz⟩ := Option.map_eq_some_iff.1 hinfo
  simp only [Prod.mk.injEq] at hzz
  obtain ⟨hz0, hz1, hz2⟩ := hzz
  have hlen : n + m ≤ 140737488355328 := Nat.le_trans (Nat.le_mul_of_pos_right _ hb0) hl
  rcases Nat.eq_zero_or_pos m with rfl | hm
  · obtain rfl : ys = [] := List.eq_nil_of_length_eq_zero hB.1
    refine ⟨A, c, W, ?_, by simpa using hnc, by simpa using hA, Below.refl _ _⟩
    cases A <;> cases B <;> simp [Builtin.append_, run_underlying ht, sizeOf, typeInfo, hi, Builtin.lenOf, Builtin.firstCells, hnc, storeCells, loadCells, loadCellsFrom, Result.andThen]
  · obtain ⟨ad, rfl, _⟩ := hB.2.2 hm
    obtain ⟨news, hnr, hnews⟩ := ReadsRow.inner_ hB
    have hone := one_of_reads d hs0 hnr
    have hcap : c < n + m := by omega
    have mk : ∀ {olds : List Value} {v1 : Value} {w1 : World}, Reps (d.K W) d.sz xs olds → w1.ownsRow W.heap.size e d.sz v1 (n + m) (olds ++ news) → W.grownBy w1 none →
        ∃ A1 c1, v1 = .slice A1 (n + m) c1 ∧ n + m ≤ c1 ∧ d.C w1 A1 (n + m) (xs ++ ys) ∧ Below W.heap.size W w1 := by
      intro olds v1 w1 hor hown hg
      have hb : Below W.heap.size W w1 := ⟨hg.os, hg.tape, hg.output, hg.size, fun k hk => hg.block k hk (by simp)⟩
      have hreps : Reps (d.K w1) d.sz (xs ++ ys) (olds ++ news) := Kd.reps_append (hor.imp_ fun _ _ => d.K_below hb) (hnr.imp_ fun _ _ => d.K_below hb)
      obtain ⟨A1, c1, e1, hC⟩ := own_reads_row hown hreps (by rw [List.length_append, hA.1, hB.1])
      refine ⟨A1, c1, e1, ?_, hC, hb⟩
      rcases hown.2 with ⟨h1, h2⟩ | ⟨g, cap, cur, h1, _, _, h2, _⟩
      · omega
      · rw [e1] at h1; injection h1 with h3 h4 h5; omega
    rcases A with _ | b
    · have hc0 := hnone rfl
      obtain rfl : n = 0 := by omega
      obtain rfl : xs = [] := List.eq_nil_of_length_eq_zero hA.1
      subst hc0
      obtain ⟨v', w', hrun, r1, r2, _⟩ := run_append_own (P := P) W W.heap.size t ty e i0 z d.sz bytes ht hi hz0 hz1 hz2 hz hs0 (.slice none 0 0) 0 [] (World.ownsRow_nil W _ e d.sz) ad m c' news (by rw [hnr.1, hB.1]) hnews hone (by simp only [maxLen]; omega) hl (Nat.le_refl _)
      obtain ⟨A1, c1, rfl, h1, h2, h3⟩ := mk (olds := []) (Reps.none _ _) r1 r2
      exact ⟨A1, c1, w', hrun, h1, h2, h3⟩
    · obtain ⟨olds, hor, holds⟩ : ∃ olds, Reps (d.K W) d.sz xs olds ∧ ∀ j u, olds[j]? = some u → W.cell? (b.add j) = some u := by
        rcases Nat.eq_zero_or_pos n with rfl | hn
        · obtain rfl : xs = [] := List.eq_nil_of_length_eq_zero hA.1
          exact ⟨[], Reps.none _ _, fun j u h => by simp at h⟩
        · exact ReadsRow.inner_ hA
      obtain ⟨v', w', hrun, r1, r2⟩ := run_append_arg_grows (P := P) W t ty e i0 z d.sz bytes ht hi hz0 hz1 hz2 hz hs0 b n c olds (by rw [hor.1, hA.1]) holds ad m c' news (by rw [hnr.1, hB.1]) hnews hcap (by simp only [maxLen]; omega) hl
      obtain ⟨A1, c1, rfl, h1, h2, h3⟩ := mk hor r1 r2
      exact ⟨A1, c1, w', hrun, h1, h2, h3⟩
/-- .. and the new row's block is new. -/
theorem run_fresh (d : Kd α) {W : World} {t ty e : TypeId} {z : Value} {bytes : Nat} (ht : P.underlying t = some (.slice e)) (hinfo : (P.info? e).map (fun i => (i.zero, i.size, i.bytes)) = some (some z, d.sz, bytes)) (hz : z.cells.size = d.sz) (hs0 : 0 < d.sz) (hb0 : 0 < bytes)
    {A B : Option Addr} {n c m c' : Nat} {xs ys : List α} (hA : d.C W A n xs) (hB : d.C W B m ys) (hnc : n ≤ c) (hfull : c < n + m ∨ m = 0) (hl : (n + m) * bytes ≤ 140737488355328) (hnone : A = none → c = 0) :
    ∃ A1 c1 w1, (Builtin.append_ #[t, t] ty #[.slice A n c, .slice B m c']).run P W = .ok (.slice A1 (n + m) c1) w1 ∧ n + m ≤ c1 ∧ d.C w1 A1 (n + m) (xs ++ ys) ∧ Below W.heap.size W w1 ∧ (0 < m → ∃ g, A1 = some ⟨g, 0, none⟩ ∧ W.heap.size ≤ g) := by
  obtain ⟨i0, hi, hzz⟩ := Option.map_eq_some_iff.1 hinfo
  simp only [Prod.mk.injEq] at hzz
  obtain ⟨hz0, hz1, hz2⟩ := hzz
  have hlen : n + m ≤ 140737488355328 := Nat.le_trans (Nat.le_mul_of_pos_right _ hb0) hl
  rcases Nat.eq_zero_or_pos m with rfl | hm
  · obtain rfl : ys = [] := List.eq_nil_of_length_eq_zero hB.1
    refine ⟨A, c, W, ?_, by simpa using hnc, by simpa using hA, Below.refl _ _, fun h => absurd h (by omega)⟩
    cases A <;> cases B <;> simp [Builtin.append_, run_underlying ht, sizeOf, typeInfo, hi, Builtin.lenOf, Builtin.firstCells, hnc, storeCells, loadCells, loadCellsFrom, Result.andThen]
  · obtain ⟨ad, rfl, _⟩ := hB.2.2 hm
    obtain ⟨news, hnr, hnews⟩ := ReadsRow.inner_ hB
    have hone := one_of_reads d hs0 hnr
    have hcap : c < n + m := by omega
    have mk : ∀ {olds : List Value} {v1 : Value} {w1 : World}, Reps (d.K W) d.sz xs olds → w1.ownsRow W.heap.size e d.sz v1 (n + m) (olds ++ news) → W.grownBy w1 none →
        ∃ A1 c1, v1 = .slice A1 (n + m) c1 ∧ n + m ≤ c1 ∧ d.C w1 A1 (n + m) (xs ++ ys) ∧ Below W.heap.size W w1 ∧ (∃ g, A1 = some ⟨g, 0, none⟩ ∧ W.heap.size ≤ g) := by
      intro olds v1 w1 hor hown hg
      have hb : Below W.heap.size W w1 := ⟨hg.os, hg.tape, hg.output, hg.size, fun k hk => hg.block k hk (by simp)⟩
      have hreps : Reps (d.K w1) d.sz (xs ++ ys) (olds ++ news) := Kd.reps_append (hor.imp_ fun _ _ => d.K_below hb) (hnr.imp_ fun _ _ => d.K_below hb)
      obtain ⟨A1, c1, e1, hC⟩ := own_reads_row hown hreps (by rw [List.length_append, hA.1, hB.1])
      refine ⟨A1, c1, e1, ?_, hC, hb, ?_⟩
      rotate_left
      · rcases hown.2 with ⟨h1, h2⟩ | ⟨g, cap, cur, h1, hg1, _⟩
        · omega
        · rw [e1] at h1; injection h1 with h3 h4 h5; exact ⟨g, h3, hg1⟩
      rcases hown.2 with ⟨h1, h2⟩ | ⟨g, cap, cur, h1, _, _, h2, _⟩
      · omega
      · rw [e1] at h1; injection h1 with h3 h4 h5; omega
    rcases A with _ | b
    · have hc0 := hnone rfl
      obtain rfl : n = 0 := by omega
      obtain rfl : xs = [] := List.eq_nil_of_length_eq_zero hA.1
      subst hc0
      obtain ⟨v', w', hrun, r1, r2, _⟩ := run_append_own (P := P) W W.heap.size t ty e i0 z d.sz bytes ht hi hz0 hz1 hz2 hz hs0 (.slice none 0 0) 0 [] (World.ownsRow_nil W _ e d.sz) ad m c' news (by rw [hnr.1, hB.1]) hnews hone (by simp only [maxLen]; omega) hl (Nat.le_refl _)
      obtain ⟨A1, c1, rfl, h1, h2, h3, h4⟩ := mk (olds := []) (Reps.none _ _) r1 r2
      exact ⟨A1, c1, w', hrun, h1, h2, h3, fun _ => h4⟩
    · obtain ⟨olds, hor, holds⟩ : ∃ olds, Reps (d.K W) d.sz xs olds ∧ ∀ j u, olds[j]? = some u → W.cell? (b.add j) = some u := by
        rcases Nat.eq_zero_or_pos n with rfl | hn
        · obtain rfl : xs = [] := List.eq_nil_of_length_eq_zero hA.1
          exact ⟨[], Reps.none _ _, fun j u h => by simp at h⟩
        · exact ReadsRow.inner_ hA
      obtain ⟨v', w', hrun, r1, r2⟩ := run_append_arg_grows (P := P) W t ty e i0 z d.sz bytes ht hi hz0 hz1 hz2 hz hs0 b n c olds (by rw [hor.1, hA.1]) holds ad m c' news (by rw [hnr.1, hB.1]) hnews hcap (by simp only [maxLen]; omega) hl
      obtain ⟨A1, c1, rfl, h1, h2, h3, h4⟩ := mk hor r1 r2
      exact ⟨A1, c1, w', hrun, h1, h2, h3, fun _ => h4⟩
end
end Go.Proofs.YtbmklpcheopgoaaOps
