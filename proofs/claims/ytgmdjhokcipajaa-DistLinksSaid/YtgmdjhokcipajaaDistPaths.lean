import Derived.Test.YtgmdjhokcipajaaDistLinks
set_option linter.unusedVariables false
set_option linter.unusedSimpArgs false
namespace Go.Proofs.Ytgmdjhokcipajaa
open Go.RowKit Go.ChangeShapes Go.WideShapes

theorem and511 (x : Int) : 0 ≤ Go.bits .and .i64 x 511 ∧ Go.bits .and .i64 x 511 ≤ 511 := by
  have h : (BitVec.ofInt 64 x &&& BitVec.ofInt 64 511).toNat ≤ 511 := by
    rw [BitVec.toNat_and]
    exact Nat.and_le_right
  show 0 ≤ IntKind.i64.wrap ((BitVec.ofInt 64 x &&& BitVec.ofInt 64 511).toNat : Int) ∧ _
  have : Go.bits .and .i64 x 511 = IntKind.i64.wrap ((BitVec.ofInt 64 x &&& BitVec.ofInt 64 511).toNat : Int) := rfl
  rw [this, IntKind.wrap_i64]
  omega
def i64s (l : List Int) : List Value := l.map (Value.int .i64)
theorem i64s_get (l : List Int) (j : Nat) (h : j < l.length) : (i64s l)[j]? = some (.int .i64 l[j]) := by
  simp [i64s, List.getElem?_eq_getElem h]

theorem DistPaths_all (s m : Int) (l : List Int) (A : Option Addr) (cp : Nat) (w : World) (h1 : 0 ≤ m ∧ m ≤ 65535) (hr : Row w 1 A l.length (i64s l)) :
    Calls Try.prog 7 #[.agg #[.int .u32 s, .int .u16 m], .slice A l.length cp] w
      fun e w' => e = .returned (.bool true) ∧ Below w.heap.size w w' := by
  have hn := hr.2.1
  obtain ⟨hm0, hm1⟩ := h1
  by_cases hl : l.length ≤ 100
  · go_enter Try.func7, Try.ntmps7
    go_wp2_with fail
    refine (law03_head _).mono ?_
    rintro e w1 ⟨rfl, hb1⟩
    have hc1 := (bcell hb1).1
    have hz1 : w.heap.size < w1.heap.size := by have := hb1.size; (try simp at this); omega
    have hrow := (hr.alloc (.cells #[.int .u32 s, .int .u16 m] 39)).below hb1
    have hw1 : Below w.heap.size w w1 := below_step ((Below.refl _ _).alloc (Nat.le_refl _) _) (by simp) hb1
    go_wp2
    go_loopw [6, 20] (fun sum i wr => ∃ (k : Nat) (M : Int), k ≤ l.length ∧ i = .int .i64 k ∧ 0 ≤ M ∧ M ≤ 65535 ∧ sum = .int .i64 M ∧ Blk wr w1.heap.size 39 #[.int .u32 s, .int .u16 M] ∧
        Blk wr w.heap.size 39 #[.int .u32 s, .int .u16 m] ∧ Below w.heap.size w wr) (fun _ i _ => l.length - (intOf i).toNat)
    case atStart => exact ⟨0, m, Nat.zero_le _, rfl, hm0, hm1, rfl, Blk.new _ _ _, ((Blk.new w _ _).below' hb1).alloc _, hw1.alloc (by omega) _⟩
    case round =>
      obtain ⟨k, M, hk, rfl, hM0, hM1, rfl, hX, hA, hw⟩ := hrel
      have hlt1 := hX.lt
      have hX0 := hX.cell 0
      have hX1 := hX.cell 1
      have hA0 := hA.cell 0
      have hA1 := hA.cell 1
      have hF0 := hX.frozen 0
      have hF1 := hX.frozen 1
      simp at hX0 hX1 hA0 hA1
      by_cases hlt : k < l.length
      · obtain ⟨b, off, rfl, hbl, hcell⟩ := (hr.below hw).2.2 (by omega)
        have hx := hcell k _ (i64s_get l k hlt)
        have hy := and511 l[k]
        obtain ⟨hy0, hy1⟩ := hy
        clear hcell hA0 hA1
        go_wp2_with fail
        refine (dist_Beyond _ _ _ _ ⟨hM0, hM1⟩).mono ?_
        rintro e w2 ⟨rfl, hb2⟩
        clear hX0 hX1 hF0 hF1
        have kX := hX.below' hb2
        have kA := hA.below' hb2
        have hX0 := kX.cell 0
        have hX1 := kX.cell 1
        have hA0 := kA.cell 0
        have hF0 := kX.frozen 0
        have hF1 := kX.frozen 1
        simp at hX0 hX1 hA0
        generalize Go.bits .and .i64 l[k] 511 = y at *
        have hbe := Lib.hid (beyondM_eq M (1 + y) (1 + y) (by unfold clampC; rw [if_neg (by omega), if_neg (by omega)]))
        have hne : (w.heap.size == w1.heap.size) = false := by simp; omega
        by_cases hgt : 65535 < M + (1 + y)
        · rw [hbe.out, if_pos (by omega)]
          go_wp2_with fail
          refine (dist_Lost _ _ _).mono ?_
          rintro e w3 ⟨rfl, hb3⟩
          have kX3 := ((kX.set 0 (.int .u32 s)).set 1 (.int .u16 65535)).below' hb3
          have kA3 := ((kA.other (a := ⟨w1.heap.size, 0, none⟩) (by simp; omega) (.int .u32 s)).other (a := ⟨w1.heap.size, 1, none⟩) (by simp; omega) (.int .u16 65535)).below' hb3
          have hw3 : Below w.heap.size w w3 := below_step (((below_step hw (by omega) hb2).setCell (p := ⟨w1.heap.size, 0, none⟩) (by simp; omega) (.int .u32 s)).setCell (p := ⟨w1.heap.size, 1, none⟩) (by simp; omega) (.int .u16 65535)) (by simp [World.setCell]; have := hb2.size; omega) hb3
          go_wp2
          go_roundw
          case rel => exact ⟨k + 1, 65535, by omega, by go_num, by omega, by omega, rfl, by simpa using kX3, kA3, hw3⟩
          case measure => simp [intOf]; omega
        · rw [hbe.out, show (if 65535 ≤ M + (1 + y) then 65535 else M + (1 + y)) = M + (1 + y) by split <;> omega]
          go_wp2_with fail
          refine (dist_Lost _ _ _).mono ?_
          rintro e w3 ⟨rfl, hb3⟩
          have kX3 := ((kX.set 0 (.int .u32 s)).set 1 (.int .u16 (M + (1 + y)))).below' hb3
          have kA3 := ((kA.other (a := ⟨w1.heap.size, 0, none⟩) (by simp; omega) (.int .u32 s)).other (a := ⟨w1.heap.size, 1, none⟩) (by simp; omega) (.int .u16 (M + (1 + y)))).below' hb3
          have hw3 : Below w.heap.size w w3 := below_step (((below_step hw (by omega) hb2).setCell (p := ⟨w1.heap.size, 0, none⟩) (by simp; omega) (.int .u32 s)).setCell (p := ⟨w1.heap.size, 1, none⟩) (by simp; omega) (.int .u16 (M + (1 + y)))) (by simp [World.setCell]; have := hb2.size; omega) hb3
          go_wp2
          go_roundw
          case rel => exact ⟨k + 1, (M + (1 + y)), by omega, by go_num, by omega, by omega, rfl, by simpa using kX3, kA3, hw3⟩
          case measure => simp [intOf]; omega
      · obtain rfl : k = l.length := by omega
        clear hX0 hX1 hA0 hA1
        go_wp2
        go_ret
        exact ⟨rfl, hw⟩
  · go_enter Try.func7, Try.ntmps7
    go_wp2_with fail
    refine (law03_head _).mono ?_
    rintro e w1 ⟨rfl, hb1⟩
    have hw1 : Below w.heap.size w w1 := below_step ((Below.refl _ _).alloc (Nat.le_refl _) _) (by simp) hb1
    go_wp2
    go_ret
    exact ⟨rfl, hw1⟩
end Go.Proofs.Ytgmdjhokcipajaa
