/- Arguments of whatever type, opened: what a reading as data says of the cells, by the type's kind. Any program. -/
import Derived.Test.YtbmklpcheopgoaaWWords
import Derived.ChangeArms
import Derived.Deep.Slices
import Derived.OpenShut
import Derived.DataReads
namespace Go.Proofs.YtbmklpcheopgoaaOpen
open Go Go.RowKit Go.ChangeShapes Go.WideShapes Go.Proofs.YtbmklpcheopgoaaW.PrintWords

/-- Whatever reads as data of type t is of kind d, and good. -/
def Opens (P : Program) (t : TypeId) {α : Type} (d : Kd α) (good : α → Prop) : Prop :=
  ∀ {H : Type} (enc : TypeId × Value → H) (w : World) (base : Nat) (spare : Nat → Bool) (held : Bool) (fuel : Nat) (cs : List Value) (x : DataW H × List MemPlace),
    DataW.trod enc P w base spare held fuel t cs = some x → ∃ y, d.K w y cs ∧ good y

/-- A number of its kind. -/
def InK (k : IntKind) (n : Int) : Prop := (Lit.int k n).wf = true
theorem InK.i64 {n : Int} (h : InK .i64 n) : -9223372036854775808 ≤ n ∧ n ≤ 9223372036854775807 := by
  exact bounds_i64 h
theorem InK.u8 {n : Int} (h : InK .u8 n) : 0 ≤ n ∧ n ≤ 255 := by
  exact bounds_u8 h
theorem opens_int {P : Program} {t : TypeId} {k : IntKind} (ht : P.underlying t = some (.int k)) : Opens P t (Kd.int k) (InK k) := by
  intro H enc w base spare held fuel cs x h
  obtain ⟨n, rfl, _, hw⟩ := DataW.trod_int ht h
  exact ⟨n, rfl, hw⟩
theorem opens_bool {P : Program} {t : TypeId} (ht : P.underlying t = some .bool) : Opens P t Kd.bool (fun _ => True) := by
  intro H enc w base spare held fuel cs x h
  obtain ⟨n, rfl, _⟩ := DataW.trod_bool ht h
  exact ⟨n, rfl, trivial⟩
theorem opens_string {P : Program} {t : TypeId} (ht : P.underlying t = some .string) : Opens P t Kd.string (fun s => s.size ≤ maxLen) := by
  intro H enc w base spare held fuel cs x h
  obtain ⟨n, rfl, _, hw⟩ := DataW.trod_string ht h
  exact ⟨n, rfl, hw⟩

theorem cells_get {w : World} {base : Nat} {a : Addr} {n : Nat} {cs : List Value} (h : w.cells? base a n = some cs) : cs.length = n ∧ ∀ i u, cs[i]? = some u → w.cell? (a.add i) = some u := by
  obtain ⟨_, hl, hc⟩ := World.cells?_some h
  refine ⟨hl, fun i u hu => ?_⟩
  have hi : i < n := by rw [← hl]; exact (List.getElem?_eq_some_iff.1 hu).1
  rw [hc i hi, hu]

theorem opens_slice {P : Program} {t e : TypeId} {α : Type} {d : Kd α} {good : α → Prop} (ht : P.underlying t = some (.slice e)) (hs : P.cellsOf e = d.sz) (he : Opens P e d good) : Opens P t (Kd.slice e d) (fun xs => xs.length ≤ 9223372036854775807 ∧ ∀ x ∈ xs, good x) := by
  intro H enc w base spare held fuel cs x h
  rcases Deep.open_slice ht h with ⟨rfl, _⟩ | ⟨a, len, cap, m, n, D, Pl, rfl, _, hl, hm, hmm, _, hel⟩
  · exact ⟨[], ⟨none, 0, rfl, Nat.le_refl _, Kd.C_nil _ _⟩, by simp, fun x hx => by simp at hx⟩
  · have key : ∀ i, i < len → ∃ y cs', d.K w y cs' ∧ good y ∧ cs'.length = d.sz ∧ ∀ j u, cs'[j]? = some u → w.cell? (a.add (i * d.sz + j)) = some u := by
      intro i hi
      obtain ⟨cs', hc, ht'⟩ := hel i (by rw [hmm]; split <;> omega)
      obtain ⟨y, hk, hg⟩ := he enc w base spare held n cs' _ ht'
      obtain ⟨hlen, hcell⟩ := cells_get hc
      rw [hs] at hlen
      refine ⟨y, cs', hk, hg, hlen, fun j u hu => ?_⟩
      have := hcell j u hu
      rwa [Deep.add_add, hs] at this
    have : ∀ k, k ≤ len → ∃ ys : List α, ys.length = k ∧ (∀ x ∈ ys, good x) ∧ ∀ i y, ys[i]? = some y → ∃ cs', cs'.length = d.sz ∧ d.K w y cs' ∧ ∀ j u, cs'[j]? = some u → w.cell? (a.add (i * d.sz + j)) = some u := by
      intro k
      induction k with
      | zero => exact fun _ => ⟨[], rfl, fun x hx => by simp at hx, fun i y h => by simp at h⟩
      | succ k ih =>
        intro hk
        obtain ⟨ys, h1, h2, h3⟩ := ih (by omega)
        obtain ⟨y, cs', q1, q2, q3, q4⟩ := key k (by omega)
        refine ⟨ys ++ [y], by simp [h1], fun x hx => ?_, fun i z hz => ?_⟩
        · rcases List.mem_append.1 hx with hx | hx
          · exact h2 x hx
          · rw [List.mem_singleton.1 hx]; exact q2
        · rcases Nat.lt_or_ge i ys.length with hi | hi
          · rw [List.getElem?_append_left hi] at hz
            exact h3 i z hz
          · have hi' : i = ys.length := by
              have := (List.getElem?_eq_some_iff.1 hz).1
              simp at this
              omega
            subst hi'
            have : y = z := by simpa using hz
            subst this
            rw [h1]
            exact ⟨cs', q3, q1, q4⟩
    obtain ⟨ys, h1, h2, h3⟩ := this len (Nat.le_refl _)
    subst h1
    have hle : ys.length ≤ 9223372036854775807 := by
      unfold maxLen at hm
      omega
    exact ⟨ys, ⟨some a, cap, rfl, hl, rfl, hle, fun _ => ⟨a, rfl, h3⟩⟩, hle, h2⟩

/-- The cells from o on are s of them, and those from o + s on. -/
theorem cutQ (cs : List Value) (o s : Nat) : cs.drop o = (cs.drop o).take s ++ cs.drop (o + s) := by
  rw [← List.drop_drop, List.take_append_drop]
theorem cutQ_last (cs : List Value) (o s : Nat) (h : cs.length = o + s) : cs.drop o = (cs.drop o).take s := by
  rw [List.take_of_length_le]; simp; omega

theorem wide_agg {P : Program} {w : World} {r : Reach} {base : Nat} {t : TypeId} {v : Value} (h : Value.okWide P w r base t v) (hu : (match P.underlying t with | some (.struct _) | some (.array _ _) => true | _ => false) = true) : ∃ cs, v = .agg cs := by
  unfold Value.okWide at h
  split at h
  · obtain ⟨cs, e, _⟩ := h; exact ⟨cs, e⟩
  · obtain ⟨cs, e, _⟩ := h; exact ⟨cs, e⟩
  · rename_i h1 h2
    split at hu
    · rename_i h3; exact absurd h3 (h1 _)
    · rename_i h3; exact absurd h3 (h2 _ _)
    · cases hu
theorem agg_list {cs : Array Value} {l : List Value} (h : (Value.agg cs).cells.toList = l) : cs = l.toArray := by
  have h' : cs.toList = l := h
  rw [← h', Array.toArray_toList]
end Go.Proofs.YtbmklpcheopgoaaOpen
