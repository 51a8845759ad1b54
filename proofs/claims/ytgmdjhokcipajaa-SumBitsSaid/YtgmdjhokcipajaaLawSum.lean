import Derived.Test.YtgmdjhokcipajaaPureSum
import Derived.Lib.SlBytesConst
import Derived.Test.YtgmdjhokcipajaaOpen
set_option linter.unusedVariables false
set_option linter.unusedSimpArgs false
namespace Go.Proofs.Ytgmdjhokcipajaa
open Go.RowKit Go.ChangeShapes Go.WideShapes

theorem law01_head (w : World) : Calls Try.prog 14 #[] w fun e w' => e = .returned (.bool true) ∧ Below w.heap.size w w' := by
  have kc := fun (w : World) (C : Array Value) (n c : Nat) => Lib.run_convert_bytes_const (P := Try.prog) w 22 5 C n c Try.underlying22 Try.underlying5
  go_enter Try.func14, Try.ntmps14
  go_wp2_with fail
  refine (sum_Of [49, 50, 51, 52, 53, 54, 55, 56, 57] _ _ _ (Row.ofBlock rfl (by decide) (heap_new _ _) (fun j u h => by simpa [u8s] using h)) (by unfold Byte; decide)).mono ?_
  rintro e w' ⟨rfl, rfl⟩
  have hh := crc_head
  go_wp2
  go_ret
  exact ⟨rfl, (Below.refl _ _).alloc (Nat.le_refl _) _⟩

theorem law01_SumBits (l : List Int) (A : Option Addr) (c : Nat) (w : World) (hr : Row w 1 A l.length (u8s l)) (hb : Byte l) :
    Calls Try.prog 3 #[.slice A l.length c] w fun e w' => e = .returned (.bool true) ∧ Below w.heap.size w w' := by
  have hn := hr.2.1
  by_cases hl : l.length ≤ 300
  · go_enter Try.func3, Try.ntmps3
    go_wp2_with fail
    refine (law01_head _).mono ?_
    rintro e w1 ⟨rfl, hb1⟩
    go_wp2_with fail
    refine (sum_Of l A c _ (hr.below hb1) hb).mono ?_
    rintro e w' ⟨rfl, rfl⟩
    go_wp2_with fail
    refine (law01_Of l A c _ (hr.below hb1) hb).mono ?_
    rintro e w' ⟨rfl, rfl⟩
    have he := crc_eq l hb
    go_wp2
    go_ret
    exact ⟨rfl, hb1⟩
  · go_enter Try.func3, Try.ntmps3
    go_wp2_with fail
    refine (law01_head _).mono ?_
    rintro e w1 ⟨rfl, hb1⟩
    go_wp2
    go_ret
    exact ⟨rfl, hb1⟩
/-- A '[]byte' that came in. -/
theorem Opens.bytes {W : World} {b0 : Nat} {v : Value} (hv : Value.okWide Try.prog W .any b0 22 v) (h : Opens Try.prog W 22 v) : ∃ l A c, v = .slice A (List.length l) c ∧ Row W 1 A l.length (u8s l) ∧ Byte l := by
  obtain ⟨A, n, c, rfl⟩ := okWide_slice Try.underlying22 hv
  obtain ⟨f, h⟩ := h
  cases f with
  | zero => exact h.elim
  | succ f =>
    unfold Op at h
    rw [Try.underlying22] at h
    simp only [Value.cells] at h
    rcases h with h | ⟨a, len, cap, h, hlc, hlen, hel⟩
    · simp at h
      obtain ⟨rfl, rfl, rfl⟩ := h
      exact ⟨[], none, 0, rfl, ⟨rfl, by decide, fun h => absurd h (by simp)⟩, fun x hx => by simp at hx⟩
    · simp at h
      obtain ⟨rfl, rfl, rfl⟩ := h
      have hC : Try.prog.cellsOf 5 = 1 := by kernel_rfl
      have hB : Try.prog.bytesOf 5 = 1 := by kernel_rfl
      rw [hB] at hlen
      have key : ∀ i, i < n → ∃ x : Int, W.cell? (a.add i) = some (.int .u8 x) ∧ 0 ≤ x ∧ x ≤ 255 := by
        intro i hi
        obtain ⟨cs', h1, h2⟩ := hel i hi
        rw [hC] at h1
        obtain ⟨_, hcl, hat⟩ := World.cells?_some h1
        cases f with
        | zero => exact h2.elim
        | succ f =>
          unfold Op at h2
          rw [Try.underlying5] at h2
          obtain ⟨x, rfl, hx⟩ := h2
          refine ⟨x, ?_, bounds_u8 hx⟩
          have := hat 0 (by omega)
          simpa [Nat.mul_one, Addr.add] using this
      obtain ⟨l, hl, hp⟩ := exists_list key
      subst hl
      refine ⟨l, some a, c, rfl, ⟨by simp [u8s], by omega, fun h0 => ?_⟩, fun x hx => ?_⟩
      · obtain ⟨c0, -, -⟩ := hp 0 h0
        have hs : a.spot = none := by
          cases hs : a.spot with
          | none => rfl
          | some s => simp [World.cell?, Addr.add, hs] at c0; split at c0 <;> simp at c0
        obtain ⟨b, off, sp⟩ := a
        simp only at hs
        subst hs
        refine ⟨b, off, rfl, World.block_lt_of_cell? W _ c0, fun j u hj => ?_⟩
        have hjl : j < l.length := by
          rcases Nat.lt_or_ge j l.length with h | h
          · exact h
          · rw [List.getElem?_eq_none (by simpa [u8s] using h)] at hj; cases hj
        rw [u8s_get l j hjl] at hj
        obtain rfl := Option.some.inj hj
        obtain ⟨c1, -, -⟩ := hp j hjl
        rw [← c1]
        congr 1
        unfold Addr.add
        split <;> simp_all
      · obtain ⟨i, hi, rfl⟩ := List.mem_iff_getElem.mp hx
        exact (hp i hi).2

theorem SumBits_walk (W : World) {b0 : Nat} {v0 : Value} (hv : Value.okWide Try.prog W .any b0 22 v0) (h : Opens Try.prog W 22 v0) :
    Calls Try.prog 3 #[v0] W fun e W' => e = .returned (.bool true) ∧ Below W.heap.size W W' := by
  obtain ⟨l, A, c, rfl, hr, hb⟩ := Opens.bytes hv h
  exact law01_SumBits l A c W hr hb
end Go.Proofs.Ytgmdjhokcipajaa
