/- A law for a range over a function: the iterator's contract counts its rounds and leaves alone what the caller owns; the caller's body leaves alone all that it doesn't own. Any program; no condition besides those stated. -/
import Derived.RangeFuncNested
import Derived.RangeFuncBound
import Derived.RangeFuncCalls
import Derived.RangeFuncLeaves
import Derived.Deep.Draws
namespace Go.Proofs.YtbmklpcheopgoaaIt
open Go Go.RowKit

/-- From W to W' nothing has changed but blocks of S and new ones. -/
structure Chg (S : Nat → Prop) (W W' : World) : Prop where
  os : W'.os = W.os
  tape : W'.tape = W.tape
  output : W'.output = W.output
  size : W.heap.size ≤ W'.heap.size
  block : ∀ b, b < W.heap.size → ¬ S b → W'.heap[b]? = W.heap[b]?

theorem Chg.refl (S : Nat → Prop) (W : World) : Chg S W W := ⟨rfl, rfl, rfl, Nat.le_refl _, fun _ _ _ => rfl⟩
theorem Chg.trans {S : Nat → Prop} {a b c : World} (h : Chg S a b) (k : Chg S b c) : Chg S a c :=
  ⟨k.os.trans h.os, k.tape.trans h.tape, k.output.trans h.output, Nat.le_trans h.size k.size, fun i hi hn => (k.block i (Nat.lt_of_lt_of_le hi h.size) hn).trans (h.block i hi hn)⟩
theorem Chg.mono {S T : Nat → Prop} {a b : World} (h : Chg S a b) (hST : ∀ i, i < a.heap.size → S i → T i) : Chg T a b := ⟨h.os, h.tape, h.output, h.size, fun i hi hn => h.block i hi (fun hs => hn (hST i hi hs))⟩
theorem Chg.below {S : Nat → Prop} {a b : World} (h : Chg S a b) {B : Nat} (hB : B ≤ a.heap.size) (hS : ∀ i, i < B → ¬ S i) : Below B a b := ⟨h.os, h.tape, h.output, h.size, fun k hk => h.block k (by omega) (hS k hk)⟩
theorem Chg.of_below {B : Nat} {a b : World} (h : Below B a b) : Chg (fun i => B ≤ i) a b := ⟨h.os, h.tape, h.output, h.size, fun k _ hn => h.block k (by omega)⟩
theorem Chg.of_fresh {S : Nat → Prop} {a b : World} (h : Below a.heap.size a b) : Chg S a b := ⟨h.os, h.tape, h.output, h.size, fun k hk _ => h.block k hk⟩
theorem Chg.of_grownBy {a b : World} {row : Option Nat} (h : a.grownBy b row) : Chg (fun i => row = some i) a b := ⟨h.os, h.tape, h.output, h.size, fun k hk hn => h.block k hk (fun e => hn e.symm)⟩
theorem Chg.drew {S : Nat → Prop} {a b : World} (h : Chg S a b) : Chg S a b.drew := ⟨h.os, h.tape, h.output, h.size, h.block⟩
theorem Chg.drewN {S : Nat → Prop} {a b : World} (h : Chg S a b) (n : Nat) : Chg S a (b.drewN n) := ⟨h.os, h.tape, h.output, h.size, h.block⟩
theorem Chg.alloc {S : Nat → Prop} {a b : World} (h : Chg S a b) (o : Obj) : Chg S a (b.alloc o) :=
  h.trans ⟨rfl, rfl, rfl, by simp, fun k hk _ => Below.heap_alloc _ _ _ hk⟩
theorem Chg.setCell {S : Nat → Prop} {a b : World} (h : Chg S a b) {p : Addr} (hp : p.block < a.heap.size → S p.block) (u : Value) : Chg S a (b.setCell p u) :=
  ⟨h.os, h.tape, h.output, by have := h.size; simpa [World.setCell] using this, fun k hk hn => (Below.heap_setCell _ _ _ _ (fun e => by subst e; exact hn (hp hk))).trans (h.block k hk hn)⟩
theorem Chg.putObj {S : Nat → Prop} {a b : World} (h : Chg S a b) {r : Nat} (hp : r < a.heap.size → S r) (o : Obj) : Chg S a (b.putObj r o) :=
  ⟨h.os, h.tape, h.output, by have := h.size; simpa using this, fun k hk hn => (World.putObj_heap_other (fun e => by subst e; exact hn (hp hk))).trans (h.block k hk hn)⟩
theorem Chg.lt {S : Nat → Prop} {a b : World} (h : Chg S a b) {i : Nat} (hi : i < a.heap.size) : i < b.heap.size := Nat.lt_of_lt_of_le hi h.size
theorem Chg.cell {S : Nat → Prop} {a b : World} (h : Chg S a b) {p : Addr} (hi : p.block < a.heap.size) (hn : ¬ S p.block) : b.cell? p = a.cell? p := World.cell?_of_block (w := a) (h.block _ hi hn)
theorem Chg.heap {S : Nat → Prop} {a b : World} (h : Chg S a b) {i : Nat} {o : Obj} (hi : a.heap[i]? = some o) (hn : ¬ S i) : b.heap[i]? = some o := (h.block i (Array.getElem?_eq_some_iff.1 hi).1 hn).trans hi
theorem Chg.putSelf (W : World) (r : Nat) (o : Obj) : Chg (fun i => i = r) W (W.putObj r o) := Chg.putObj (S := fun i => i = r) (Chg.refl _ _) (fun _ => rfl) o

/-- What is owned grows by new blocks alone. -/
def Grow (own own' : Nat → Prop) (W : World) : Prop := (∀ b, own b → own' b) ∧ ∀ b, own' b → own b ∨ W.heap.size ≤ b
theorem Grow.refl (own : Nat → Prop) (W : World) : Grow own own W := ⟨fun _ h => h, fun _ h => .inl h⟩
theorem Grow.trans {o1 o2 o3 : Nat → Prop} {W W' : World} (h : Grow o1 o2 W) (k : Grow o2 o3 W') (hs : W.heap.size ≤ W'.heap.size) : Grow o1 o3 W :=
  ⟨fun b hb => k.1 b (h.1 b hb), fun b hb => by
    rcases k.2 b hb with h3 | h3
    · exact h.2 b h3
    · exact .inr (Nat.le_trans hs h3)⟩
theorem Chg.grow {o1 o2 : Nat → Prop} {W W' W'' : World} (h : Chg o1 W W') (hg : Grow o1 o2 W) (k : Chg o2 W' W'') : Chg o1 W W'' :=
  ⟨k.os.trans h.os, k.tape.trans h.tape, k.output.trans h.output, Nat.le_trans h.size k.size, fun i hi hn => (k.block i (Nat.lt_of_lt_of_le hi h.size) (fun h2 => by
    rcases hg.2 i h2 with h3 | h3
    · exact hn h3
    · omega)).trans (h.block i hi hn)⟩

/-- .. but for what is handed over. -/
def GrowG (G own own' : Nat → Prop) (W : World) : Prop := (∀ b, own b → own' b) ∧ ∀ b, own' b → own b ∨ W.heap.size ≤ b ∨ G b
theorem GrowG.of {G own own' : Nat → Prop} {W : World} (h : Grow own own' W) : GrowG G own own' W := ⟨h.1, fun b hb => (h.2 b hb).elim .inl (fun x => .inr (.inl x))⟩
theorem GrowG.refl (G own : Nat → Prop) (W : World) : GrowG G own own W := ⟨fun _ h => h, fun _ h => .inl h⟩
theorem GrowG.take (G own : Nat → Prop) (W : World) : GrowG G own (fun b => own b ∨ G b) W := ⟨fun _ h => .inl h, fun _ h => h.elim .inl (fun x => .inr (.inr x))⟩
theorem GrowG.grow {own own' : Nat → Prop} {W : World} (h : GrowG (fun _ => False) own own' W) : Grow own own' W := ⟨h.1, fun b hb => by
  rcases h.2 b hb with h | h | h
  · exact .inl h
  · exact .inr h
  · exact h.elim⟩
theorem GrowG.trans {G o1 o2 o3 : Nat → Prop} {W W' : World} (h : GrowG G o1 o2 W) (k : Grow o2 o3 W') (hs : W.heap.size ≤ W'.heap.size) : GrowG G o1 o3 W :=
  ⟨fun b hb => k.1 b (h.1 b hb), fun b hb => by
    rcases k.2 b hb with h3 | h3
    · exact h.2 b h3
    · exact .inr (.inl (Nat.le_trans hs h3))⟩

/-- What is said of the caller's state abides whatever happens to blocks from B on that it doesn't own. -/
def Stable (B : Nat) (J : Nat → (Nat → Prop) → World → Prop) : Prop := ∀ k own W W', J k own W → Chg (fun b => B ≤ b ∧ ¬ own b) W W' → J k own W'
theorem Stable.up {B B' : Nat} {J : Nat → (Nat → Prop) → World → Prop} (h : Stable B J) (hB : B ≤ B') : Stable B' J := fun k own W W' hj hc => h k own W W' hj (hc.mono fun _ _ hs => ⟨Nat.le_trans hB hs.1, hs.2⟩)
theorem Stable.and {B : Nat} {J K : Nat → (Nat → Prop) → World → Prop} (h : Stable B J) (h' : Stable B K) : Stable B (fun k own W => J k own W ∧ K k own W) := fun k own W W' hj hc => ⟨h k own W W' hj.1 hc, h' k own W W' hj.2 hc⟩
theorem Stable.pure {B : Nat} (J : Nat → (Nat → Prop) → Prop) : Stable B (fun k own _ => J k own) := fun _ _ _ _ h _ => h
theorem Stable.false {B : Nat} : Stable B (fun _ _ _ => False) := fun _ _ _ _ h _ => h
theorem Stable.below {B n₀ : Nat} (w : World) (h : n₀ ≤ B) (hw : n₀ ≤ w.heap.size) : Stable B (fun _ _ W => Below n₀ w W) := fun _ _ W W' hj hc => hj.trans (hc.below (Nat.le_trans hw hj.size) (fun i hi hs => by omega))
theorem Stable.chg {B : Nat} (S : Nat → Prop) (w : World) (h : w.heap.size ≤ B) : Stable B (fun _ _ W => Chg S w W) := fun _ _ W W' hj hc => ⟨hc.os.trans hj.os, hc.tape.trans hj.tape, hc.output.trans hj.output, Nat.le_trans hj.size hc.size, fun i hi hn => (hc.block i (hj.lt hi) (fun hs => by omega)).trans (hj.block i hi hn)⟩

/-- An iterator value: called with a loop's yield, it makes N rounds at most, the k-th with arguments of which El k tells, and which hand over the blocks of Gv; Rd: the blocks that it reads, which the caller doesn't own. -/
def ItC (P : Program) (g : Nat) (lb : Array Value) (N : Nat) (El : Nat → World → Array Value → Prop) (Gv : Array Value → Nat → Prop) (Rd : Nat → Prop) (w : World) : Prop :=
  ∀ (l : Nat) (J Jx : Nat → (Nat → Prop) → World → Prop) (own0 : Nat → Prop) (W : World), Below w.heap.size w W → w.heap.size ≤ l → l < W.heap.size → Stable W.heap.size J → Stable W.heap.size Jx → (∀ b, own0 b → b < W.heap.size ∧ ¬ Rd b) →
    (∀ k own W1 args, k < N → J k own W1 → W.heap.size ≤ W1.heap.size → (∀ b, own b → b < W1.heap.size) → El k W1 args → (∀ b, Gv args b → W.heap.size ≤ b ∧ ¬ own b) → ∀ n, YieldAt Fence.wide n P l args W1 fun e W' =>
      ∃ own', GrowG (Gv args) own own' W1 ∧ (∀ b, own' b → b < W'.heap.size) ∧ Chg (fun b => own b ∨ b = l ∨ Gv args b) W1 W' ∧ ((e = .returned (.bool true) ∧ J (k + 1) own' W') ∨ (e = .returned (.bool false) ∧ Jx (k + 1) own' W'))) →
    J 0 own0 W →
    Calls P g (#[.func (.yield l) #[] #[]] ++ lb) W fun e W' => (∃ v, e = .returned v) ∧ ∃ own', (∀ b, own' b → b < W'.heap.size) ∧ (J N own' W' ∨ ∃ k, k ≤ N ∧ Jx k own' W')

theorem ItC.later {P : Program} {g : Nat} {lb : Array Value} {N : Nat} {El : Nat → World → Array Value → Prop} {Gv : Array Value → Nat → Prop} {Rd : Nat → Prop} {w w' : World} (h : ItC P g lb N El Gv Rd w) (hb : Below w.heap.size w w') : ItC P g lb N El Gv Rd w' :=
  fun l J Jx own0 W hW hl => h l J Jx own0 W (hb.trans (hW.mono hb.size)) (Nat.le_trans hb.size hl)

/-- Where an iterator stands between two rounds: since its call began nothing has changed but what the caller owns, the loop's record, and the iterator's own (P). -/
structure Since (l : Nat) (own0 : Nat → Prop) (W : World) (own : Nat → Prop) (P : Nat → Prop) (wr : World) : Prop where
  chg : Chg (fun b => own b ∨ b = l ∨ P b) W wr
  old : ∀ b, b < W.heap.size → own b → own0 b
  lt : ∀ b, own b → b < wr.heap.size
theorem Since.start {l : Nat} {own0 : Nat → Prop} {W : World} {P : Nat → Prop} (h : ∀ b, own0 b → b < W.heap.size) : Since l own0 W own0 P W := ⟨Chg.refl _ _, fun _ _ h => h, h⟩
theorem Since.next {l : Nat} {own0 own own' G : Nat → Prop} {W wr wr' : World} {P : Nat → Prop} (h : Since l own0 W own P wr) (hg : GrowG G own own' wr) (ho : ∀ b, own' b → b < wr'.heap.size) (hc : Chg (fun b => own b ∨ b = l ∨ G b) wr wr') (hG : ∀ b, G b → W.heap.size ≤ b) : Since l own0 W own' P wr' :=
  ⟨⟨hc.os.trans h.chg.os, hc.tape.trans h.chg.tape, hc.output.trans h.chg.output, Nat.le_trans h.chg.size hc.size, fun b hb hn => (hc.block b (h.chg.lt hb) (fun hs => by
      rcases hs with x | x | x
      · exact hn (.inl (hg.1 _ x))
      · exact hn (.inr (.inl x))
      · have := hG b x; omega)).trans (h.chg.block b hb (fun hs => hn (hs.elim (fun x => .inl (hg.1 _ x)) .inr)))⟩, fun b hb hb' => h.old b hb (by
      rcases hg.2 b hb' with x | x | x
      · exact x
      · have := h.chg.size; omega
      · have := hG b x; omega), ho⟩
theorem Since.own {l : Nat} {own0 own : Nat → Prop} {W wr wr' : World} {P : Nat → Prop} (h : Since l own0 W own P wr) (hc : Chg P wr wr') : Since l own0 W own P wr' :=
  ⟨h.chg.trans (hc.mono (fun _ _ hs => .inr (.inr hs))), h.old, fun b hb => hc.lt (h.lt b hb)⟩
/-- What the iterator reads is as it was where its value was made. -/
theorem Since.reads {l : Nat} {own0 own : Nat → Prop} {w W wr : World} {P Rd : Nat → Prop} (h : Since l own0 W own P wr) (hW : Below w.heap.size w W) (hl : w.heap.size ≤ l) (hown : ∀ b, own0 b → b < W.heap.size ∧ ¬ Rd b) (hP : ∀ b, b < w.heap.size → ¬ P b) : Chg (fun b => ¬ Rd b) w wr :=
  ⟨h.chg.os.trans hW.os, h.chg.tape.trans hW.tape, h.chg.output.trans hW.output, Nat.le_trans hW.size h.chg.size, fun b hb hn => (h.chg.block b (Nat.lt_of_lt_of_le hb hW.size) (fun hs => by
    rcases hs with hs | hs | hs
    · exact hn (fun hr => (hown b (h.old b (Nat.lt_of_lt_of_le hb hW.size) hs)).2 hr)
    · omega
    · exact hP b hb hs)).trans (hW.block b hb)⟩

/-- What a round's body ends in. -/
def roundQ (I : Nat → (Nat → Prop) → World → Prop) (Ix : Code → Nat → (Nat → Prop) → World → Prop) (k : Nat) (own : Nat → Prop) (W : World) : Exit → Act → World → Prop
  | .normal, _, W' => ∃ own', Grow own own' W ∧ (∀ b, own' b → b < W'.heap.size) ∧ Chg own W W' ∧ I (k + 1) own' W'
  | .ret, _, W' => ∃ own', Grow own own' W ∧ (∀ b, own' b → b < W'.heap.size) ∧ Chg own W W' ∧ Ix .ret (k + 1) own' W'
  | .exit id, _, W' => ∃ own', Grow own own' W ∧ (∀ b, own' b → b < W'.heap.size) ∧ Chg own W W' ∧ Ix (.exit id) (k + 1) own' W'
  | .goto t, _, W' => ∃ own', Grow own own' W ∧ (∀ b, own' b → b < W'.heap.size) ∧ Chg own W W' ∧ Ix (.goto t) (k + 1) own' W'
  | .panic _, _, _ => False
  | .outgrown, _, _ => False

theorem round_law {P : Program} {ps : Array Tmp} {assign body : Code} {fn : FuncId} {tmps : Array Value} {D : Nat} (B l : Nat) (rec : LoopState → Option Code → Loop)
    (hrec : rec = fun st pe => { state := st, pending := pe, fn := fn, tmps := tmps, params := ps, assign := assign, body := body, defers := D })
    (I : Nat → (Nat → Prop) → World → Prop) (Ix : Code → Nat → (Nat → Prop) → World → Prop) (hI : Stable B I) (hIx : ∀ c, Stable B (Ix c)) (N : Nat) (El : Nat → World → Array Value → Prop) (Gv : Array Value → Nat → Prop)
    (hps : ∀ k W args, El k W args → args.size = ps.size) (hBl : B ≤ l)
    (Ax : Nat → (Nat → Prop) → Act → World → Prop) (hAx : ∀ k own a' W o o', Ax k own a' W → W.heap[l]? = some o → o.isCells = false → Ax k own a' (W.putObj l o'))
    (hassign : ∀ n k own args W, I k own W → (∀ b, own b → b < W.heap.size) → l < W.heap.size → ¬ own l → k < N → El k W args → (∀ b, Gv args b → ¬ own b) →
      assign.wpIn (Fence.wide.inRound l) n P (Exit.then (fun a' W' => ∃ own', GrowG (Gv args) own own' W ∧ (∀ b, own' b → b < W'.heap.size) ∧ Chg own W W' ∧ I k own' W' ∧ Ax k own' a' W') (fun _ _ _ => False))
        { tmps := (ps.zip args).foldl (fun t (p, v) => t.setIfInBounds p v) tmps, defers := [] } W)
    (hbody : ∀ n k own a' W, I k own W → (∀ b, own b → b < W.heap.size) → (∃ r, W.heap[l]? = some (.loop r)) → ¬ own l → k < N → Ax k own a' W → body.wpIn (Fence.wide.inRound l) n P (roundQ I Ix k own W) a' W)
    (k : Nat) (own : Nat → Prop) (W : World) (args : Array Value) (hk : k < N) (hi : I k own W) (how : ∀ b, own b → b < W.heap.size) (hl : W.heap[l]? = some (.loop (rec .ready none))) (hnl : ¬ own l) (hel : El k W args) (hGl : ∀ b, Gv args b → b ≠ l ∧ ¬ own b) (n : Nat) :
    YieldAt Fence.wide n P l args W fun e W' => ∃ own', GrowG (Gv args) own own' W ∧ (∀ b, own' b → b < W'.heap.size) ∧ Chg (fun b => own b ∨ b = l ∨ Gv args b) W W' ∧ ¬ own' l ∧
      ((e = .returned (.bool true) ∧ I (k + 1) own' W' ∧ W'.heap[l]? = some (.loop (rec .ready none))) ∨ (e = .returned (.bool false) ∧ ∃ c, Ix c (k + 1) own' W' ∧ W'.heap[l]? = some (.loop (rec .done (some c))))) := by
  have hlt : l < W.heap.size := (Array.getElem?_eq_some_iff.1 hl).1
  have hy := run_yield (P := P) (args := args) hl (by rw [hrec]; exact hps _ _ _ hel)
  rw [hrec] at hy
  refine ⟨fn, _, assign, body, hy, roundIn_of_wpIn (F := Fence.wide) trivial (wpIn_mono (hassign n k own args W hi how hlt hnl hk hel (fun b hb => (hGl b hb).2)) ?_)⟩
  clear hy
  rintro e a' W' hq
  cases e with
  | normal =>
    obtain ⟨o1, hg1, ho1, hc1, hi1, hax⟩ := hq
    have hn1 : ¬ o1 l := fun h => by
      rcases hg1.2 l h with h | h | h
      · exact hnl h
      · omega
      · exact (hGl _ h).1 rfl
    have hl1 : W'.heap[l]? = some (.loop (rec .ready none)) := hc1.heap hl hnl
    have hlt1 : l < W'.heap.size := hc1.lt hlt
    refine ⟨_, run_beginRound hl1 (by rw [hrec]), ?_⟩
    have hl2 : (W'.putObj l (.loop { rec .ready none with state := .busy })).heap[l]? = some (.loop { rec .ready none with state := .busy }) := World.putObj_heap_same hlt1
    have hc2 : Chg (fun b => B ≤ b ∧ ¬ o1 b) W' (W'.putObj l (.loop { rec .ready none with state := .busy })) := (Chg.refl _ _).putObj (fun _ => ⟨hBl, hn1⟩) _
    refine wpIn_mono (hbody n k o1 a' _ (hI _ _ _ _ hi1 hc2) (fun b hb => by rw [World.putObj_size]; exact ho1 b hb) ⟨_, hl2⟩ hn1 hk (hAx _ _ _ _ _ _ hax hl1 rfl)) ?_
    have fin : ∀ (jump : Option Code) (o3 : Nat → Prop) (W3 : World), Grow o1 o3 (W'.putObj l (.loop { rec .ready none with state := .busy })) → (∀ b, o3 b → b < W3.heap.size) → Chg o1 (W'.putObj l (.loop { rec .ready none with state := .busy })) W3 →
        ∃ W4, W4 = W3.putObj l (.loop (rec (if jump.isNone then .ready else .done) jump)) ∧ (Instr.endRound l jump).run P W3 = .ok (.bool jump.isNone) W4 ∧ W4.heap[l]? = some (.loop (rec (if jump.isNone then .ready else .done) jump)) ∧
          GrowG (Gv args) own o3 W ∧ (∀ b, o3 b → b < W4.heap.size) ∧ Chg (fun b => own b ∨ b = l ∨ Gv args b) W W4 ∧ ¬ o3 l ∧ Chg (fun b => B ≤ b ∧ ¬ o3 b) W3 W4 := by
      intro jump o3 W3 hg3 ho3 hc3
      have hl3 := hc3.heap hl2 hn1
      have hlt3 : l < W3.heap.size := (Array.getElem?_eq_some_iff.1 hl3).1
      have hn3 : ¬ o3 l := fun h => by
        rcases hg3.2 l h with h | h
        · exact hn1 h
        · rw [World.putObj_size] at h; omega
      refine ⟨_, rfl, ?_, World.putObj_heap_same hlt3, hg1.trans hg3 (by rw [World.putObj_size]; exact hc1.size), fun b hb => by rw [World.putObj_size]; exact ho3 b hb, ?_, hn3, (Chg.refl _ _).putObj (fun _ => ⟨hBl, hn3⟩) _⟩
      · have := run_endRound (P := P) jump hl3
        rw [hrec] at this ⊢
        exact this
      · have e1 : Chg (fun b => own b ∨ b = l ∨ Gv args b) W (W'.putObj l (.loop { rec .ready none with state := .busy })) := (hc1.mono (fun _ _ h => .inl h)).putObj (fun _ => .inr (.inl rfl)) _
        have e2 : Chg (fun b => own b ∨ b = l ∨ Gv args b) W W3 := by
          refine ⟨hc3.os.trans e1.os, hc3.tape.trans e1.tape, hc3.output.trans e1.output, Nat.le_trans e1.size hc3.size, fun i hi hn => (hc3.block i (e1.lt hi) (fun h2 => ?_)).trans (e1.block i hi hn)⟩
          rcases hg1.2 i h2 with h3 | h3 | h3
          · exact hn (.inl h3)
          · omega
          · exact hn (.inr (.inr h3))
        exact e2.putObj (fun _ => .inr (.inl rfl)) _
    rintro e a3 W3 hp
    cases e with
    | normal =>
      obtain ⟨o3, hg3, ho3, hc3, hi3⟩ := hp
      obtain ⟨W4, rfl, hr, hl4, hg4, ho4, hc4, hn4, hs4⟩ := fin none o3 W3 hg3 ho3 hc3
      exact ⟨_, _, hr, o3, hg4, ho4, hc4, hn4, .inl ⟨rfl, hI _ _ _ _ hi3 hs4, hl4⟩⟩
    | ret =>
      obtain ⟨o3, hg3, ho3, hc3, hi3⟩ := hp
      obtain ⟨W4, rfl, hr, hl4, hg4, ho4, hc4, hn4, hs4⟩ := fin (some .ret) o3 W3 hg3 ho3 hc3
      exact ⟨_, _, hr, o3, hg4, ho4, hc4, hn4, .inr ⟨rfl, .ret, hIx _ _ _ _ _ hi3 hs4, hl4⟩⟩
    | exit id =>
      obtain ⟨o3, hg3, ho3, hc3, hi3⟩ := hp
      obtain ⟨W4, rfl, hr, hl4, hg4, ho4, hc4, hn4, hs4⟩ := fin (some (.exit id)) o3 W3 hg3 ho3 hc3
      exact ⟨_, _, hr, o3, hg4, ho4, hc4, hn4, .inr ⟨rfl, .exit id, hIx _ _ _ _ _ hi3 hs4, hl4⟩⟩
    | goto t =>
      obtain ⟨o3, hg3, ho3, hc3, hi3⟩ := hp
      obtain ⟨W4, rfl, hr, hl4, hg4, ho4, hc4, hn4, hs4⟩ := fin (some (.goto t)) o3 W3 hg3 ho3 hc3
      exact ⟨_, _, hr, o3, hg4, ho4, hc4, hn4, .inr ⟨rfl, .goto t, hIx _ _ _ _ _ hi3 hs4, hl4⟩⟩
    | panic ch => exact hp.elim
    | outgrown => exact hp.elim
  | exit id => exact hq.elim
  | goto t => exact hq.elim
  | ret => exact hq.elim
  | panic ch => exact hq.elim
  | outgrown => exact hq.elim

/-- The law, at a loop that lies in no round. -/
theorem range_outer {P : Program} {n : Nat} {g : Operand} {ps : Array Tmp} {assign body : Code} {Q : Exit → Act → World → Prop} {a : Act} {w : World} {gf : Nat} {lb : Array Value} {N : Nat} {El : Nat → World → Array Value → Prop} {Gv : Array Value → Nat → Prop} {Rd : Nat → Prop}
    (hit : ItC P gf lb N El Gv Rd w) (hg : a.eval g = .func (.func gf) #[] lb) (eg : ∀ args w, (callFunc gf args).run P w = .ok (.enter gf args) w)
    (I : Nat → (Nat → Prop) → World → Prop) (Ix : Code → Nat → (Nat → Prop) → World → Prop) (own0 : Nat → Prop) (hI : Stable w.heap.size I) (hIx : ∀ c, Stable w.heap.size (Ix c))
    (hps : ∀ k W args, El k W args → args.size = ps.size) (how0 : ∀ b, own0 b → b < w.heap.size ∧ ¬ Rd b) (h0 : I 0 own0 w)
    (Ax : Nat → (Nat → Prop) → Act → World → Prop) (hAx : ∀ l k own a' W o o', w.heap.size ≤ l → Ax k own a' W → W.heap[l]? = some o → o.isCells = false → Ax k own a' (W.putObj l o'))
    (hassign : ∀ l n k own args W, w.heap.size ≤ l → I k own W → (∀ b, own b → b < W.heap.size) → l < W.heap.size → ¬ own l → k < N → El k W args → (∀ b, Gv args b → ¬ own b) →
      assign.wpIn (Fence.wide.inRound l) n P (Exit.then (fun a' W' => ∃ own', GrowG (Gv args) own own' W ∧ (∀ b, own' b → b < W'.heap.size) ∧ Chg own W W' ∧ I k own' W' ∧ Ax k own' a' W') (fun _ _ _ => False))
        { tmps := (ps.zip args).foldl (fun t (p, v) => t.setIfInBounds p v) a.tmps, defers := [] } W)
    (hbody : ∀ l n k own a' W, w.heap.size ≤ l → I k own W → (∀ b, own b → b < W.heap.size) → (∃ r, W.heap[l]? = some (.loop r)) → ¬ own l → k < N → Ax k own a' W → body.wpIn (Fence.wide.inRound l) n P (roundQ I Ix k own W) a' W)
    (hdone : ∀ D own W, w.heap.size ≤ D → (∀ b, own b → b < W.heap.size) → ¬ own D → I N own W → W.heap[D]? = some (.deferred (some [])) → Q .normal { a with defers := { target := .collected D, args := #[] } :: a.defers } W)
    (hstop : ∀ D c k own W, w.heap.size ≤ D → (∀ b, own b → b < W.heap.size) → ¬ own D → k ≤ N → Ix c k own W → W.heap[D]? = some (.deferred (some [])) → c.wpIn Fence.wide n P Q { a with defers := { target := .collected D, args := #[] } :: a.defers } W) :
    (Code.rangeFunc g ps assign body).wpIn Fence.wide n P Q a w := by
  refine wpIn_rangeFunc ?_
  intro fn hfn
  obtain ⟨rec, hrec⟩ : ∃ rec : LoopState → Option Code → Loop, rec = fun st pe => { state := st, pending := pe, fn, tmps := a.tmps, params := ps, assign, body, defers := w.heap.size } := ⟨_, rfl⟩
  obtain ⟨W1, hW1⟩ : ∃ W1, (w.alloc (.deferred (some []))).alloc (.loop (rec .ready none)) = W1 := ⟨_, rfl⟩
  have hL1 : W1.heap[w.heap.size + 1]? = some (.loop (rec .ready none)) := by
    rw [← hW1]; have := World.alloc_heap_new (w.alloc (.deferred (some []))) (.loop (rec .ready none)); rwa [World.size_alloc] at this
  have hK1 : W1.heap[w.heap.size]? = some (.deferred (some [])) := by
    rw [← hW1]; exact (Below.heap_alloc _ _ _ (by simp)).trans (World.alloc_heap_new w _)
  have hS1 : W1.heap.size = w.heap.size + 2 := by rw [← hW1]; simp
  have hI1 : I 0 own0 W1 := by rw [← hW1]; exact hI _ _ _ _ h0 (((Chg.refl _ w).alloc _).alloc _)
  have hb1 : Below w.heap.size w W1 := by
    rw [← hW1]; exact ((Below.refl _ w).alloc (Nat.le_refl _) _).alloc (by simp) _
  have hnd : ¬ own0 w.heap.size := fun h => by have := (how0 _ h).1; omega
  have hnl : ¬ own0 (w.heap.size + 1) := fun h => by have := (how0 _ h).1; omega
  refine ⟨w.heap.size + 1, [{ target := .collected w.heap.size, args := #[] }], W1, { target := .fn (.func gf) lb, args := #[.func (.yield (w.heap.size + 1)) #[] #[]] }, W1, gf,
    #[.func (.yield (w.heap.size + 1)) #[] #[]] ++ lb, W1, ?_, ?_, ?_, ?_, fun h => by simp [Fence.wide] at h, ?_⟩
  · rw [← hW1, hrec]; exact run_enterLoop_outer _ _ _ _ _
  · simp only [resolve, hg]
    simp [go_sem]
  · intro f' _; trivial
  · simp [invoke, go_sem, eg]
  · refine callsIn_wide.2 ((hit (w.heap.size + 1)
      (fun k own W => I k own W ∧ W.heap[w.heap.size + 1]? = some (.loop (rec .ready none)) ∧ W.heap[w.heap.size]? = some (.deferred (some [])) ∧ ¬ own (w.heap.size + 1) ∧ ¬ own w.heap.size)
      (fun k own W => ∃ c, Ix c k own W ∧ W.heap[w.heap.size + 1]? = some (.loop (rec .done (some c))) ∧ W.heap[w.heap.size]? = some (.deferred (some [])) ∧ ¬ own (w.heap.size + 1) ∧ ¬ own w.heap.size)
      own0 W1 hb1 (by omega) (by omega) ?_ ?_ (fun b hb => ⟨by have := (how0 b hb).1; omega, (how0 b hb).2⟩) ?_ ⟨hI1, hL1, hK1, hnl, hnd⟩).mono ?_)
    · rintro k own W W' ⟨hi, hl, hd, h1, h2⟩ hc
      exact ⟨hI.up (by omega) _ _ _ _ hi hc, hc.heap hl (fun h => by omega), hc.heap hd (fun h => by omega), h1, h2⟩
    · rintro k own W W' ⟨c, hi, hl, hd, h1, h2⟩ hc
      exact ⟨c, (hIx c).up (by omega) _ _ _ _ hi hc, hc.heap hl (fun h => by omega), hc.heap hd (fun h => by omega), h1, h2⟩
    · rintro k own W args hk ⟨hi, hl, hd, h1, h2⟩ hsz how hel hG m
      have hr := round_law (P := P) w.heap.size (w.heap.size + 1) rec hrec I Ix hI hIx N El Gv hps (by omega) Ax (fun k own a' W o o' => hAx _ k own a' W o o' (by omega)) (fun n k own args W => hassign _ n k own args W (by omega)) (fun n k own a' W => hbody _ n k own a' W (by omega)) k own W args hk hi how hl h1 hel (fun b hb => ⟨by have := (hG b hb).1; omega, fun h => (hG b hb).2 h⟩) m
      refine hr.mono ?_
      have hdlt : w.heap.size < W.heap.size := (Array.getElem?_eq_some_iff.1 hd).1
      rintro e W' ⟨own', hg', ho', hc', hn', hh⟩
      have hnd' : ¬ own' w.heap.size := fun h => by
        rcases hg'.2 _ h with h | h | h
        · exact h2 h
        · omega
        · have := (hG _ h).1; omega
      have hd' : W'.heap[w.heap.size]? = some (.deferred (some [])) := hc'.heap hd (fun h => by
        rcases h with h | h | h
        · exact h2 h
        · omega
        · have := (hG _ h).1; omega)
      refine ⟨own', hg', ho', hc', ?_⟩
      rcases hh with ⟨rfl, hi', hl'⟩ | ⟨rfl, c, hi', hl'⟩
      · exact .inl ⟨rfl, hi', hl', hd', hn', hnd'⟩
      · exact .inr ⟨rfl, c, hi', hl', hd', hn', hnd'⟩
    · rintro e W2 ⟨⟨v, rfl⟩, own', ho', (⟨hi, hl, hd, h1, h2⟩ | ⟨k, hk, c, hi, hl, hd, h1, h2⟩)⟩
      · refine ⟨none, _, by have := run_endLoop (P := P) hl (by rw [hrec]; simp); rw [hrec] at this; exact this, hdone _ own' _ (Nat.le_refl _) (fun b hb => by rw [World.putObj_size]; exact ho' b hb) h2 (hI _ _ _ _ hi ((Chg.refl _ _).putObj (fun _ => ⟨by omega, h1⟩) _)) ((World.putObj_heap_other (by omega)).trans hd)⟩
      · refine ⟨some c, _, by have := run_endLoop (P := P) hl (by rw [hrec]; simp); rw [hrec] at this; exact this, hstop _ c k own' _ (Nat.le_refl _) (fun b hb => by rw [World.putObj_size]; exact ho' b hb) h2 hk ((hIx c) _ _ _ _ hi ((Chg.refl _ _).putObj (fun _ => ⟨by omega, h1⟩) _)) ((World.putObj_heap_other (by omega)).trans hd)⟩

/-- The law, at a loop that lies in a round of loop l₀. -/
theorem range_inner {P : Program} {n : Nat} {g : Operand} {ps : Array Tmp} {assign body : Code} {Q : Exit → Act → World → Prop} {a : Act} {w : World} {l₀ : Nat} {r₀ : Loop} (hr₀ : w.heap[l₀]? = some (.loop r₀)) {gf : Nat} {lb : Array Value} {N : Nat} {El : Nat → World → Array Value → Prop} {Gv : Array Value → Nat → Prop} {Rd : Nat → Prop}
    (hit : ItC P gf lb N El Gv Rd w) (hg : a.eval g = .func (.func gf) #[] lb) (eg : ∀ args w, (callFunc gf args).run P w = .ok (.enter gf args) w)
    (I : Nat → (Nat → Prop) → World → Prop) (Ix : Code → Nat → (Nat → Prop) → World → Prop) (own0 : Nat → Prop) (hI : Stable w.heap.size I) (hIx : ∀ c, Stable w.heap.size (Ix c))
    (hps : ∀ k W args, El k W args → args.size = ps.size) (how0 : ∀ b, own0 b → b < w.heap.size ∧ ¬ Rd b) (h0 : I 0 own0 w)
    (Ax : Nat → (Nat → Prop) → Act → World → Prop) (hAx : ∀ l k own a' W o o', w.heap.size ≤ l → Ax k own a' W → W.heap[l]? = some o → o.isCells = false → Ax k own a' (W.putObj l o'))
    (hassign : ∀ l n k own args W, w.heap.size ≤ l → I k own W → (∀ b, own b → b < W.heap.size) → l < W.heap.size → ¬ own l → k < N → El k W args → (∀ b, Gv args b → ¬ own b) →
      assign.wpIn (Fence.wide.inRound l) n P (Exit.then (fun a' W' => ∃ own', GrowG (Gv args) own own' W ∧ (∀ b, own' b → b < W'.heap.size) ∧ Chg own W W' ∧ I k own' W' ∧ Ax k own' a' W') (fun _ _ _ => False))
        { tmps := (ps.zip args).foldl (fun t (p, v) => t.setIfInBounds p v) a.tmps, defers := [] } W)
    (hbody : ∀ l n k own a' W, w.heap.size ≤ l → I k own W → (∀ b, own b → b < W.heap.size) → (∃ r, W.heap[l]? = some (.loop r)) → ¬ own l → k < N → Ax k own a' W → body.wpIn (Fence.wide.inRound l) n P (roundQ I Ix k own W) a' W)
    (hdone : ∀ own W, (∀ b, own b → b < W.heap.size) → I N own W → Q .normal a W)
    (hstop : ∀ c k own W, (∀ b, own b → b < W.heap.size) → k ≤ N → Ix c k own W → c.wpIn (Fence.wide.inRound l₀) n P Q a W) :
    (Code.rangeFunc g ps assign body).wpIn (Fence.wide.inRound l₀) n P Q a w := by
  refine wpIn_rangeFunc ?_
  intro fn hfn
  obtain ⟨rec, hrec⟩ : ∃ rec : LoopState → Option Code → Loop, rec = fun st pe => { state := st, pending := pe, fn, tmps := a.tmps, params := ps, assign, body, defers := r₀.defers } := ⟨_, rfl⟩
  obtain ⟨W1, hW1⟩ : ∃ W1, w.alloc (.loop (rec .ready none)) = W1 := ⟨_, rfl⟩
  have hL1 : W1.heap[w.heap.size]? = some (.loop (rec .ready none)) := by rw [← hW1]; exact World.alloc_heap_new w _
  have hS1 : W1.heap.size = w.heap.size + 1 := by rw [← hW1]; simp
  have hI1 : I 0 own0 W1 := by rw [← hW1]; exact hI _ _ _ _ h0 ((Chg.refl _ w).alloc _)
  have hb1 : Below w.heap.size w W1 := by rw [← hW1]; exact (Below.refl _ w).alloc (Nat.le_refl _) _
  have hnl : ¬ own0 w.heap.size := fun h => by have := (how0 _ h).1; omega
  refine ⟨w.heap.size, [], W1, { target := .fn (.func gf) lb, args := #[.func (.yield w.heap.size) #[] #[]] }, W1, gf,
    #[.func (.yield w.heap.size) #[] #[]] ++ lb, W1, ?_, ?_, ?_, ?_, fun h => by simp [Fence.wide] at h, ?_⟩
  · rw [← hW1, hrec]; exact run_enterLoop_inner hr₀ _ _ _ _ _
  · simp only [resolve, hg]
    simp [go_sem]
  · intro f' _; trivial
  · simp [invoke, go_sem, eg]
  · refine (callsIn_wide (n := n - 1)).2 ((hit w.heap.size
      (fun k own W => I k own W ∧ W.heap[w.heap.size]? = some (.loop (rec .ready none)) ∧ ¬ own w.heap.size)
      (fun k own W => ∃ c, Ix c k own W ∧ W.heap[w.heap.size]? = some (.loop (rec .done (some c))) ∧ ¬ own w.heap.size)
      own0 W1 hb1 (by omega) (by omega) ?_ ?_ (fun b hb => ⟨by have := (how0 b hb).1; omega, (how0 b hb).2⟩) ?_ ⟨hI1, hL1, hnl⟩).mono ?_)
    · rintro k own W W' ⟨hi, hl, h1⟩ hc
      exact ⟨hI.up (by omega) _ _ _ _ hi hc, hc.heap hl (fun h => by omega), h1⟩
    · rintro k own W W' ⟨c, hi, hl, h1⟩ hc
      exact ⟨c, (hIx c).up (by omega) _ _ _ _ hi hc, hc.heap hl (fun h => by omega), h1⟩
    · rintro k own W args hk ⟨hi, hl, h1⟩ hsz how hel hG m
      have hr := round_law (P := P) w.heap.size w.heap.size rec hrec I Ix hI hIx N El Gv hps (by omega) Ax (fun k own a' W o o' => hAx _ k own a' W o o' (by omega)) (fun n k own args W => hassign _ n k own args W (by omega)) (fun n k own a' W => hbody _ n k own a' W (by omega)) k own W args hk hi how hl h1 hel (fun b hb => ⟨by have := (hG b hb).1; omega, fun h => (hG b hb).2 h⟩) m
      refine hr.mono ?_
      rintro e W' ⟨own', hg', ho', hc', hn', hh⟩
      refine ⟨own', hg', ho', hc', ?_⟩
      rcases hh with ⟨rfl, hi', hl'⟩ | ⟨rfl, c, hi', hl'⟩
      · exact .inl ⟨rfl, hi', hl', hn'⟩
      · exact .inr ⟨rfl, c, hi', hl', hn'⟩
    · rintro e W2 ⟨⟨v, rfl⟩, own', ho', (⟨hi, hl, h1⟩ | ⟨k, hk, c, hi, hl, h1⟩)⟩
      · exact ⟨none, _, by have := run_endLoop (P := P) hl (by rw [hrec]; simp); rw [hrec] at this; exact this, hdone own' _ (fun b hb => by rw [World.putObj_size]; exact ho' b hb) (hI _ _ _ _ hi ((Chg.refl _ _).putObj (fun _ => ⟨by omega, h1⟩) _))⟩
      · exact ⟨some c, _, by have := run_endLoop (P := P) hl (by rw [hrec]; simp); rw [hrec] at this; exact this, hstop c k own' _ (fun b hb => by rw [World.putObj_size]; exact ho' b hb) hk ((hIx c) _ _ _ _ hi ((Chg.refl _ _).putObj (fun _ => ⟨by omega, h1⟩) _))⟩

end Go.Proofs.YtbmklpcheopgoaaIt
