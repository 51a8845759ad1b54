import Derived.WalkKit
import Derived.KernelRfl
import Derived.RowKit3
import Derived.Deep.QuietTactic
import Derived.BigQuiet
import Derived.Lib.Hide
import Derived.Test.YtgmdjhokcipajaaProg
set_option linter.unusedVariables false
set_option linter.unusedSimpArgs false
namespace Go.Proofs.Ytgmdjhokcipajaa
open Go.RowKit

/-- A slice value of 'n' elements of 'size' cells reads as the cells 'cs'. -/
def Row (w : World) (size : Nat) (A : Option Addr) (n : Nat) (cs : List Value) : Prop :=
  cs.length = n * size ∧ n ≤ 140737488351232 ∧ (0 < n → ∃ b off, A = some ⟨b, off, none⟩ ∧ b < w.heap.size ∧ ∀ j u, cs[j]? = some u → w.cell? ⟨b, off + j, none⟩ = some u)

def u8s (l : List Int) : List Value := l.map (Value.int .u8)
def Byte (l : List Int) : Prop := ∀ x ∈ l, 0 ≤ x ∧ x ≤ 255

theorem u8s_get (l : List Int) (j : Nat) (h : j < l.length) : (u8s l)[j]? = some (.int .u8 l[j]) := by
  simp [u8s, List.getElem?_eq_getElem h]
theorem u8s_len (l : List Int) : (u8s l).length = l.length := by simp [u8s]

theorem Byte.get {l : List Int} (h : Byte l) (j : Nat) (hj : j < l.length) : 0 ≤ l[j] ∧ l[j] ≤ 255 := h _ (List.getElem_mem hj)

theorem Row.below {w w' : World} {size n : Nat} {A : Option Addr} {cs : List Value} (h : Row w size A n cs) (hb : Below w.heap.size w w') : Row w' size A n cs := by
  obtain ⟨h1, h2, h3⟩ := h
  refine ⟨h1, h2, fun h0 => ?_⟩
  obtain ⟨b, off, e, hlt, hc⟩ := h3 h0
  exact ⟨b, off, e, Nat.lt_of_lt_of_le hlt hb.size, fun j u hj => (hb.cell (p := ⟨b, off + j, none⟩) hlt).trans (hc j u hj)⟩
theorem Row.alloc {w : World} {size n : Nat} {A : Option Addr} {cs : List Value} (h : Row w size A n cs) (o : Obj) : Row (w.alloc o) size A n cs :=
  h.below ((Below.refl _ _).alloc (Nat.le_refl _) o)
theorem Row.drew {w : World} {size n : Nat} {A : Option Addr} {cs : List Value} (h : Row w size A n cs) : Row w.drew size A n cs := h
/-- A block that is known whole reads as a row. -/
theorem Row.ofBlock {w : World} {size n g : Nat} {cs : List Value} {ca : Array Value} {t : TypeId} {fz : Nat × Nat} (hl : cs.length = n * size) (hn : n ≤ 140737488351232)
    (hg : w.heap[g]? = some (.cells ca t fz)) (hc : ∀ (j : Nat) u, cs[j]? = some u → ca[j]? = some u) : Row w size (some ⟨g, 0, none⟩) n cs := by
  refine ⟨hl, hn, fun _ => ⟨g, 0, rfl, ?_, fun j u hj => ?_⟩⟩
  · rcases Nat.lt_or_ge g w.heap.size with h | h
    · exact h
    · rw [Array.getElem?_eq_none h] at hg; cases hg
  · simp only [World.cell?, hg, Nat.zero_add]
    exact hc j u hj
/-- One more block. -/
theorem below_step {w w1 w2 : World} {B : Nat} (h : Below B w w1) (hB : B ≤ w1.heap.size) (k : Below w1.heap.size w1 w2) : Below B w w2 := h.trans (k.mono hB)
theorem heap_new (w : World) (o : Obj) : (w.alloc o).heap[w.heap.size]? = some o := by
  show (w.heap.push o)[w.heap.size]? = _
  simp

end Go.Proofs.Ytgmdjhokcipajaa
