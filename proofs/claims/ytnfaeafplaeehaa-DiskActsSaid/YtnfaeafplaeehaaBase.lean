import Derived.WalkKit
import Derived.KernelRfl
import Derived.RowKit3
import Derived.Deep.QuietTactic
import Derived.BigQuiet
import Derived.Lib.Hide
import Derived.Test.YtnfaeafplaeehaaProg
set_option linter.unusedVariables false
set_option linter.unusedSimpArgs false
namespace Go.Proofs.Ytnfaeafplaeehaa
open Go.RowKit

/-- A slice value of 'n' elements of 'size' cells reads as the cells 'cs'. -/
def Row (w : World) (size : Nat) (A : Option Addr) (n : Nat) (cs : List Value) : Prop :=
  cs.length = n * size ∧ n ≤ 140737488351232 ∧ (0 < n → ∃ b off, A = some ⟨b, off, none⟩ ∧ b < w.heap.size ∧ ∀ j u, cs[j]? = some u → w.cell? ⟨b, off + j, none⟩ = some u)

def u8s (l : List Int) : List Value := l.map (Value.int .u8)
def Byte (l : List Int) : Prop := ∀ x ∈ l, 0 ≤ x ∧ x ≤ 255

theorem u8s_get (l : List Int) (j : Nat) (h : j < l.length) : (u8s l)[j]? = some (.int .u8 l[j]) := by
  simp [u8s, List.getElem?_eq_getElem h]
theorem u8s_len (l : List Int) : (u8s l).length = l.length := by simp [u8s]

theorem Byte.get {l : List Int} (h : Byte l) (j : Nat) (hj : j < l.length) : 0 ≤ l[j] ∧ l[j] ≤ 255 := h _ (List.getElem_mem hj)

theorem Row.below {w w' : World} {size n : Nat} {A : Option Addr} {cs : List Value} (h : Row w size A n cs) (hb : Below w.heap.size w w') : Row w' size A n cs := by
  obtain ⟨h1, h2, h3⟩ := h
  refine ⟨h1, h2, fun h0 => ?_⟩
  obtain ⟨b, off, e, hlt, hc⟩ := h3 h0
  exact ⟨b, off, e, Nat.lt_of_lt_of_le hlt hb.size, fun j u hj => (hb.cell (p := ⟨b, off + j, none⟩) hlt).trans (hc j u hj)⟩
theorem Row.alloc {w : World} {size n : Nat} {A : Option Addr} {cs : List Value} (h : Row w size A n cs) (o : Obj) : Row (w.alloc o) size A n cs :=
  h.below ((Below.refl _ _).alloc (Nat.le_refl _) o)
theorem Row.drew {w : World} {size n : Nat} {A : Option Addr} {cs : List Value} (h : Row w size A n cs) : Row w.drew size A n cs := h
/-- A block that is known whole reads as a row. -/
theorem Row.ofBlock {w : World} {size n g : Nat} {cs : List Value} {ca : Array Value} {t : TypeId} {fz : Nat × Nat} (hl : cs.length = n * size) (hn : n ≤ 140737488351232)
    (hg : w.heap[g]? = some (.cells ca t fz)) (hc : ∀ (j : Nat) u, cs[j]? = some u → ca[j]? = some u) : Row w size (some ⟨g, 0, none⟩) n cs := by
  refine ⟨hl, hn, fun _ => ⟨g, 0, rfl, ?_, fun j u hj => ?_⟩⟩
  · rcases Nat.lt_or_ge g w.heap.size with h | h
    · exact h
    · rw [Array.getElem?_eq_none h] at hg; cases hg
  · simp only [World.cell?, hg, Nat.zero_add]
    exact hc j u hj
theorem bcell {W w1 : World} (hb : Below W.heap.size W w1) : (∀ b o, b < W.heap.size → w1.cell? ⟨b, o, none⟩ = W.cell? ⟨b, o, none⟩) ∧ (∀ b o, b < W.heap.size → w1.frozen? ⟨b, o, none⟩ = W.frozen? ⟨b, o, none⟩) :=
  ⟨fun b o h => hb.cell (p := ⟨b, o, none⟩) h, fun b o h => hb.frozen (p := ⟨b, o, none⟩) h⟩
/-- One more block. -/
theorem below_step {w w1 w2 : World} {B : Nat} (h : Below B w w1) (hB : B ≤ w1.heap.size) (k : Below w1.heap.size w1 w2) : Below B w w2 := h.trans (k.mono hB)
theorem below_drewN {B : Nat} {a w : World} (h : Below B a w) (n : Nat) : Below B a (w.drewN n) := ⟨h.os, h.tape, h.output, h.size, h.block⟩
theorem heap_new (w : World) (o : Obj) : (w.alloc o).heap[w.heap.size]? = some o := by
  show (w.heap.push o)[w.heap.size]? = _
  simp

theorem flat_get {α : Type} (f : α → List Value) (m : Nat) (hf : ∀ x, (f x).length = m) : ∀ (l : List α) (k j : Nat) (hk : k < l.length), j < m → (l.flatMap f)[k * m + j]? = (f l[k])[j]?
  | x :: l, 0, j, _, hj => by
    rw [List.flatMap_cons, List.getElem?_append_left (by rw [hf]; omega)]
    simp
  | x :: l, k + 1, j, hk, hj => by
    have e : (k + 1) * m + j = m + (k * m + j) := by rw [Nat.add_mul]; omega
    rw [List.flatMap_cons, e, List.getElem?_append_right (by rw [hf]; omega), hf, Nat.add_sub_cancel_left, flat_get f m hf l k j (by simpa using hk) hj]
    rfl
theorem flat_len {α : Type} (f : α → List Value) (m : Nat) (hf : ∀ x, (f x).length = m) (l : List α) : (l.flatMap f).length = l.length * m := by
  induction l with
  | nil => simp
  | cons x l ih => rw [List.flatMap_cons, List.length_append, hf, ih, List.length_cons, Nat.add_mul]; omega

/-! ### A block of cells that is known whole -/
def Blk (w : World) (g : Nat) (t : TypeId) (cs : Array Value) : Prop := w.heap[g]? = some (.cells cs t (0, 0))
theorem lt_of_heap {w : World} {g : Nat} {o : Obj} (h : w.heap[g]? = some o) : g < w.heap.size := by
  rcases Nat.lt_or_ge g w.heap.size with h' | h'
  · exact h'
  · rw [Array.getElem?_eq_none h'] at h; cases h
theorem Blk.lt {w : World} {g : Nat} {t : TypeId} {cs : Array Value} (h : Blk w g t cs) : g < w.heap.size := lt_of_heap h
theorem Blk.cell {w : World} {g : Nat} {t : TypeId} {cs : Array Value} (h : Blk w g t cs) (i : Nat) : w.cell? ⟨g, i, none⟩ = cs[i]? := by
  unfold Blk at h
  simp [World.cell?, h]
theorem Blk.frozen {w : World} {g : Nat} {t : TypeId} {cs : Array Value} (h : Blk w g t cs) (i : Nat) : w.frozen? ⟨g, i, none⟩ = false := by
  unfold Blk at h
  simp [World.frozen?, h]
theorem Blk.new (w : World) (t : TypeId) (cs : Array Value) : Blk (w.alloc (.cells cs t)) w.heap.size t cs := heap_new w _
theorem Blk.drew {w : World} {g : Nat} {t : TypeId} {cs : Array Value} (h : Blk w g t cs) : Blk w.drew g t cs := h
theorem Blk.drewN {w : World} {g : Nat} {t : TypeId} {cs : Array Value} (h : Blk w g t cs) (n : Nat) : Blk (w.drewN n) g t cs := h
theorem Blk.below {w w' : World} {B g : Nat} {t : TypeId} {cs : Array Value} (h : Blk w g t cs) (hb : Below B w w') (hg : g < B) : Blk w' g t cs := (hb.block g hg).trans h
theorem Blk.below' {w w' : World} {g : Nat} {t : TypeId} {cs : Array Value} (h : Blk w g t cs) (hb : Below w.heap.size w w') : Blk w' g t cs := h.below hb h.lt
theorem Blk.alloc {w : World} {g : Nat} {t : TypeId} {cs : Array Value} (h : Blk w g t cs) (o : Obj) : Blk (w.alloc o) g t cs := (Below.heap_alloc w o g h.lt).trans h
theorem Blk.set {w : World} {g : Nat} {t : TypeId} {cs : Array Value} (h : Blk w g t cs) (i : Nat) (u : Value) : Blk (w.setCell ⟨g, i, none⟩ u) g t (cs.setIfInBounds i u) := by
  unfold Blk at *
  simp [World.setCell, Array.getElem?_modify, h]
theorem Blk.other {w : World} {g : Nat} {t : TypeId} {cs : Array Value} (h : Blk w g t cs) {a : Addr} (ha : g ≠ a.block) (u : Value) : Blk (w.setCell a u) g t cs := (Below.heap_setCell w a u g ha).trans h
theorem Row.other {w : World} {size n : Nat} {A : Option Addr} {cs : List Value} (h : Row w size A n cs) {a : Addr} (ha : ∀ b off, A = some ⟨b, off, none⟩ → b ≠ a.block) (u : Value) : Row (w.setCell a u) size A n cs := by
  obtain ⟨h1, h2, h3⟩ := h
  refine ⟨h1, h2, fun h0 => ?_⟩
  obtain ⟨b, off, e, hlt, hc⟩ := h3 h0
  refine ⟨b, off, e, by simpa [World.setCell] using hlt, fun j x hj => ?_⟩
  exact (World.cell?_of_block (Below.heap_setCell w a u b (ha b off e))).trans (hc j x hj)

end Go.Proofs.Ytnfaeafplaeehaa
