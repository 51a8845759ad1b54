import Derived.Test.YtnfaeafplaeehaaGreatRecRight
import Derived.Test.YtnfaeafplaeehaaGreatMrgC
import Derived.Test.YtnfaeafplaeehaaGreatMrgA
set_option linter.unusedVariables false
set_option linter.unusedSimpArgs false
namespace Go.Proofs.YtnfaeafplaeehaaGreat
open Go.RowKit
attribute [-go_sem] Go.run_equalIn_agg

def onI (b : Bool) : Int := if b then 1 else 0
/-- A record's sector without its sum. -/
def head44 (r : Rec) : List Int :=
  [r.kind, onI r.on, r.m / 256, r.m % 256, r.gen / 16777216 % 256, r.gen / 65536 % 256, r.gen / 256 % 256, r.gen % 256, r.lsn / 16777216 % 256, r.lsn / 65536 % 256, r.lsn / 256 % 256, r.lsn % 256,
   r.id / 16777216 % 256, r.id / 65536 % 256, r.id / 256 % 256, r.id % 256, r.a / 16777216 % 256, r.a / 65536 % 256, r.a / 256 % 256, r.a % 256, r.l, 0, 0, 0, r.s / 16777216 % 256, r.s / 65536 % 256, r.s / 256 % 256, r.s % 256,
   0, 0, 0, 0, 0, 0, 0, 0, 0, 0, 0, 0, 0, 0, 0, 0]
def sector (r : Rec) : List Int := head44 r ++ four (crc (head44 r))
theorem right_bd (r : Rec) (h : recRightB r = true) : (1 ≤ r.kind ∧ r.kind ≤ 4) ∧ 0 ≤ r.l ∧ r.l ≤ 32 := by
  unfold recRightB rightB at h
  simp only [Bool.and_eq_true, decide_eq_true_eq] at h
  obtain ⟨⟨⟨⟨h1, h2, -⟩, -⟩, -⟩, h3⟩ := h
  refine ⟨?_, h1, h2⟩
  by_cases k1 : r.kind = 1
  · omega
  by_cases k2 : r.kind = 2
  · omega
  by_cases k3 : r.kind = 3
  · omega
  by_cases k4 : r.kind = 4
  · omega
  · simp [k1, k2, k3, k4] at h3
theorem head44_byte (r : Rec) (ho : r.ok) (h : recRightB r = true) : Byte (head44 r) := by
  have hb := right_bd r h
  obtain ⟨-, -, -, -, -, -, -, hm⟩ := ho
  intro x hx
  simp only [head44, List.mem_cons, List.not_mem_nil, or_false] at hx
  have ho : 0 ≤ onI r.on ∧ onI r.on ≤ 255 := by unfold onI; split <;> omega
  omega
/-- Noughts. -/
def zerosN (n : Nat) : List Int := List.replicate n 0
theorem make48 (w : World) : (Instr.makeSlice 51 (.int .i64 48) (.int .i64 48)).run Tryz.prog w = .ok (.slice (some ⟨w.heap.size, 0, none⟩) 48 48) (w.alloc (.cells (u8s (zerosN 48)).toArray 5)) := by kernel_rfl
/-- What stands in the sector behind the first stores, and behind k numbers. -/
def secN (r : Rec) : Nat → List Int
  | 0 => (((((zerosN 48).set 0 r.kind).set 2 (r.m / 256)).set 3 (r.m % 256)).set 20 r.l).set 1 (onI r.on)
  | k + 1 => put4 (secN r k) (4 + 4 * k) ([r.gen, r.lsn, r.id, r.a].getD k 0)
theorem secN_end (r : Rec) (x : Int) : put4 (put4 (secN r 4) 24 r.s) 44 x = head44 r ++ four x := by
  simp [secN, put4, zerosN, List.replicate, head44, four]
theorem secN_cut (r : Rec) : ((put4 (secN r 4) 24 r.s).drop 0).take 44 = head44 r := by
  simp [secN, put4, zerosN, List.replicate, head44]
theorem secN_len (r : Rec) (k : Nat) : (secN r k).length = 48 := by
  induction k with
  | zero => simp [secN, zerosN]
  | succ k ih => simp [secN, put4, ih]
end Go.Proofs.YtnfaeafplaeehaaGreat
