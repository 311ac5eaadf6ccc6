/- A list of blocks whose cells are known: one fact for all of them, carried over each step. Any program. -/
import Derived.Test.YtbmklpcheopgoaaIt
import Derived.Test.YtbmklpcheopgoaaWWords
import Derived.Lib.Hide
namespace Go.Proofs.YtbmklpcheopgoaaBlks
open Go Go.RowKit Go.Proofs.YtbmklpcheopgoaaIt Go.Proofs.YtbmklpcheopgoaaW.PrintWords

/-- Blocks, no two of them one, and what each of them is. -/
structure Blks (H : List (Nat × Obj)) (w : World) : Prop where
  nd : (H.map Prod.fst).Nodup
  at_ : ∀ p ∈ H, w.heap[p.1]? = some p.2

theorem Blks.nil (w : World) : Blks [] w := ⟨by simp, fun p h => by cases h⟩
theorem Blks.lt {H : List (Nat × Obj)} {w : World} (h : Blks H w) : ∀ b ∈ H.map Prod.fst, b < w.heap.size := by
  intro b hb
  obtain ⟨p, hp, rfl⟩ := List.mem_map.1 hb
  exact (Array.getElem?_eq_some_iff.1 (h.at_ p hp)).1
theorem Blks.alloc {H : List (Nat × Obj)} {w : World} (h : Blks H w) (o : Obj) : Blks ((w.heap.size, o) :: H) (w.alloc o) := by
  refine ⟨?_, ?_⟩
  · rw [List.map_cons, List.nodup_cons]
    exact ⟨fun hm => Nat.lt_irrefl _ (h.lt _ hm), h.nd⟩
  · intro p hp
    rcases List.mem_cons.1 hp with rfl | hp
    · exact World.alloc_heap_new w o
    · exact (Below.heap_alloc _ _ _ (h.lt _ (List.mem_map.2 ⟨p, hp, rfl⟩))).trans (h.at_ p hp)
theorem Blks.alloc_at {H : List (Nat × Obj)} {w : World} (h : Blks H w) (o : Obj) {g : Nat} (hg : g = w.heap.size) : Blks ((g, o) :: H) (w.alloc o) := by subst hg; exact h.alloc o
theorem Blks.add {H : List (Nat × Obj)} {w : World} (h : Blks H w) {b : Nat} {o : Obj} (hb : w.heap[b]? = some o) (hn : b ∉ H.map Prod.fst) : Blks ((b, o) :: H) w :=
  ⟨by rw [List.map_cons, List.nodup_cons]; exact ⟨hn, h.nd⟩, fun p hp => by
    rcases List.mem_cons.1 hp with rfl | hp
    · exact hb
    · exact h.at_ p hp⟩
theorem Blks.drew {H : List (Nat × Obj)} {w : World} (h : Blks H w) : Blks H w.drew := ⟨h.nd, h.at_⟩
theorem Blks.drewN {H : List (Nat × Obj)} {w : World} (h : Blks H w) (n : Nat) : Blks H (w.drewN n) := ⟨h.nd, h.at_⟩
theorem Blks.sub {H H' : List (Nat × Obj)} {w : World} (h : Blks H w) (hs : H'.Sublist H) : Blks H' w := ⟨(hs.map _).nodup h.nd, fun p hp => h.at_ p (hs.subset hp)⟩
theorem Blks.perm {H H' : List (Nat × Obj)} {w : World} (h : Blks H w) (hs : H.Perm H') : Blks H' w := ⟨(hs.map _).nodup_iff.1 h.nd, fun p hp => h.at_ p (hs.mem_iff.2 hp)⟩
theorem Blks.chg {H : List (Nat × Obj)} {w w' : World} {S : Nat → Prop} (h : Blks H w) (hc : Chg S w w') (hS : ∀ b ∈ H.map Prod.fst, ¬ S b) : Blks H w' :=
  ⟨h.nd, fun p hp => hc.heap (h.at_ p hp) (hS _ (List.mem_map.2 ⟨p, hp, rfl⟩))⟩
theorem Blks.below {H : List (Nat × Obj)} {w w' : World} (h : Blks H w) (hb : Below w.heap.size w w') : Blks H w' := h.chg (Chg.of_fresh (S := fun _ => False) hb) (fun _ _ => id)
theorem Blks.tail {H : List (Nat × Obj)} {p : Nat × Obj} {w : World} (h : Blks (p :: H) w) : Blks H w := h.sub (List.sublist_cons_self _ _)
/-- The k-th one, with other cells. -/
theorem Blks.put {H : List (Nat × Obj)} {w w' : World} {b : Nat} {o o' : Obj} (h : Blks H w) (k : Nat) (hk : H[k]? = some (b, o)) (hc : Chg (fun i => i = b) w w') (hb : w'.heap[b]? = some o') : Blks (H.set k (b, o')) w' := by
  have hlt : k < H.length := (List.getElem?_eq_some_iff.1 hk).1
  have hk' : H[k] = (b, o) := (List.getElem?_eq_some_iff.1 hk).2
  refine ⟨?_, ?_⟩
  · have e : (H.set k (b, o')).map Prod.fst = H.map Prod.fst := by
      rw [List.map_set]
      refine List.ext_getElem (by simp) ?_
      intro i h1 h2
      by_cases hi : k = i
      · subst hi; simp [hk']
      · simp [List.getElem_set_ne hi]
    rw [e]; exact h.nd
  · intro p hp
    rw [List.mem_iff_getElem] at hp
    obtain ⟨i, hi, rfl⟩ := hp
    rw [List.length_set] at hi
    by_cases e : k = i
    · subst e; simpa using hb
    · rw [List.getElem_set_ne e]
      refine hc.heap (h.at_ _ (List.getElem_mem hi)) (fun hh => e ?_)
      have hnd := h.nd
      have h1 : (H.map Prod.fst)[k]'(by simpa using hlt) = (H.map Prod.fst)[i]'(by simpa using hi) := by simp [hk', hh]
      rcases Nat.lt_trichotomy k i with hlt' | hlt' | hlt'
      · exact absurd h1 ((List.pairwise_iff_getElem.1 hnd) k i (by simpa using hlt) (by simpa using hi) hlt')
      · exact hlt'
      · exact absurd h1.symm ((List.pairwise_iff_getElem.1 hnd) i k (by simpa using hi) (by simpa using hlt) hlt')
theorem Blks.set {H : List (Nat × Obj)} {w : World} {b : Nat} {cs : Array Value} {t : TypeId} (h : Blks H w) (k : Nat) (hk : H[k]? = some (b, .cells cs t (0, 0))) (j : Nat) (v : Value) :
    Blks (H.set k (b, .cells (cs.setIfInBounds j v) t (0, 0))) (w.setCell ⟨b, j, none⟩ v) :=
  h.put k hk (Chg.setCell (S := fun i => i = b) (Chg.refl _ _) (p := ⟨b, j, none⟩) (fun _ => rfl) v) (blk_set (h.at_ _ (List.mem_of_getElem? hk)) j v)
theorem Blks.blk {H : List (Nat × Obj)} {w : World} {b : Nat} {o : Obj} (h : Blks H w) (k : Nat) (hk : H[k]? = some (b, o)) : w.heap[b]? = some o := h.at_ _ (List.mem_of_getElem? hk)

theorem Blks.cell {H : List (Nat × Obj)} {w : World} {b : Nat} {cs : Array Value} {t : TypeId} (h : Blks H w) (k : Nat) (hk : H[k]? = some (b, .cells cs t (0, 0))) (j : Nat) : w.cell? ⟨b, j, none⟩ = cs[j]? := blk_cell (h.blk k hk) j
theorem Blks.free {H : List (Nat × Obj)} {w : World} {b : Nat} {cs : Array Value} {t : TypeId} (h : Blks H w) (k : Nat) (hk : H[k]? = some (b, .cells cs t (0, 0))) (j : Nat) : w.frozen? ⟨b, j, none⟩ = false := blk_frozen (h.blk k hk) j

theorem Blks.put_ {H : List (Nat × Obj)} {w : World} {l : Nat} {o o' : Obj} (h : Blks H w) (hH : ∀ p ∈ H, p.2.isCells = true) (ho : w.heap[l]? = some o) (hn : o.isCells = false) : Blks H (w.putObj l o') :=
  h.chg (Chg.putSelf _ l o') (fun b hb e => by
    obtain ⟨p, hp, rfl⟩ := List.mem_map.1 hb
    have h1 := h.at_ p hp
    rw [e, ho] at h1
    cases h1
    rw [hH p hp] at hn
    cases hn)

/-- What the cells of the blocks hold, cell by cell. -/
def cellsF (w : World) (b : Nat) : Nat → List Value → Prop
  | _, [] => True
  | j, v :: vs => (w.cell? ⟨b, j, none⟩ = some v ∧ w.frozen? ⟨b, j, none⟩ = false) ∧ cellsF w b (j + 1) vs
def factsF (w : World) : List (Nat × Obj) → Prop
  | [] => True
  | (b, .cells cs _ fr) :: H => (fr = (0, 0) → cellsF w b 0 cs.toList) ∧ factsF w H
  | _ :: H => factsF w H
def neF1 (b : Nat) : List Nat → Prop
  | [] => True
  | c :: cs => (¬ b = c ∧ ¬ c = b) ∧ neF1 b cs
def neF : List Nat → Prop
  | [] => True
  | b :: bs => neF1 b bs ∧ neF bs
theorem cellsF_of {w : World} {b : Nat} {t : TypeId} : ∀ (vs : List Value) (j : Nat) (cs : Array Value), w.heap[b]? = some (.cells cs t (0, 0)) → cs.toList.drop j = vs → cellsF w b j vs
  | [], _, _, _, _ => trivial
  | v :: vs, j, cs, h, e => by
    have hj : cs[j]? = some v := by
      have := congrArg (fun l => l[0]?) e
      simpa [List.getElem?_drop] using this
    refine ⟨⟨(blk_cell h j).trans hj, blk_frozen h j⟩, cellsF_of vs (j + 1) cs h ?_⟩
    have := congrArg (List.drop 1) e
    simpa [List.drop_drop] using this
theorem factsF_of {w : World} : ∀ (H : List (Nat × Obj)), (∀ p ∈ H, w.heap[p.1]? = some p.2) → factsF w H
  | [], _ => trivial
  | (b, o) :: H, h => by
    have h1 := factsF_of H (fun p hp => h p (List.mem_cons_of_mem _ hp))
    have h0 := h (b, o) (List.mem_cons_self)
    cases o with
    | cells cs t fr => exact ⟨fun e => by subst e; exact cellsF_of _ 0 cs h0 (by simp), h1⟩
    | _ => exact h1
theorem neF1_of {b : Nat} : ∀ (cs : List Nat), b ∉ cs → neF1 b cs
  | [], _ => trivial
  | c :: cs, h => ⟨⟨fun e => h (by simp [e]), fun e => h (by simp [e])⟩, neF1_of cs (fun hm => h (List.mem_cons_of_mem _ hm))⟩
theorem neF_of : ∀ (bs : List Nat), bs.Nodup → neF bs
  | [], _ => trivial
  | b :: bs, h => by rw [List.nodup_cons] at h; exact ⟨neF1_of bs h.1, neF_of bs h.2⟩
theorem Blks.facts {H : List (Nat × Obj)} {w : World} (h : Blks H w) : factsF w H ∧ neF (H.map Prod.fst) := ⟨factsF_of H h.at_, neF_of _ h.nd⟩
theorem Blks.cells {H : List (Nat × Obj)} {w : World} (h : Blks H w) : factsF w H := factsF_of H h.at_
theorem Blks.ne {H : List (Nat × Obj)} {w : World} (h : Blks H w) : neF (H.map Prod.fst) := neF_of _ h.nd
end Go.Proofs.YtbmklpcheopgoaaBlks
