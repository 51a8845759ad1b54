import Derived.Test.YtnfaeafplaeehaaDiskX
import Derived.Deep.OwnRows
import Derived.Test.YtnfaeafplaeehaaStrs
set_option linter.unusedVariables false
set_option linter.unusedSimpArgs false
namespace Go.Proofs.Ytnfaeafplaeehaa
open Go.RowKit
/-! A sector of one byte. -/
def fullL (c : Int) (k : Nat) : Sec := List.replicate k c ++ List.replicate (48 - k) 0
def fullS (c : Int) : Sec := List.replicate 48 c
theorem fullL_len (c : Int) (k : Nat) (h : k ≤ 48) : (fullL c k).length = 48 := by simp [fullL]; omega
theorem fullL_succ (c : Int) (k : Nat) (h : k < 48) : fullL c (k + 1) = (fullL c k).set k c := by
  unfold fullL
  rw [List.set_append_right _ _ (by simp)]
  simp only [List.length_replicate, Nat.sub_self]
  rw [show 48 - k = (48 - (k + 1)) + 1 by omega, show List.replicate (48 - (k + 1) + 1) (0 : Int) = 0 :: List.replicate (48 - (k + 1)) 0 from rfl, List.set_cons_zero, List.replicate_succ', List.append_assoc]
  rfl
theorem make48 (w : World) : (Instr.makeSlice 51 (.int .i64 48) (.int .i64 48)).run Try.prog w = .ok (.slice (some ⟨w.heap.size, 0, none⟩) 48 48) (w.alloc (.cells (u8s (fullL 0 0)).toArray 5)) := by
  have := run_make_row' (P := Try.prog) 51 5 (.int .u8 0) 1 Try.underlying51 info_u8 rfl .i64 .i64 48 (by omega) (by omega) w
  refine this.trans ?_
  have e := made_zeros [.int .u8 0] (.int .u8 0) (fun x hx => by simpa using hx) (by simp) 48
  rw [e]
  rfl
set_option maxRecDepth 100000 in
set_option maxHeartbeats 2000000 in
theorem law04_full (c : Int) (w : World) : Calls Try.prog 26 #[.int .u8 c] w fun e w' => ∃ b, e = .returned (.slice (some ⟨b, 0, none⟩) 48 48) ∧ w.heap.size ≤ b ∧ Blk w' b 5 (u8s (fullS c)).toArray ∧ Below w.heap.size w w' := by
  have hmk := make48 w
  go_enter Try.func26, Try.ntmps26
  go_wp2
  have k0 := Blk.new w 5 (u8s (fullL 0 0)).toArray
  rw [show fullL 0 0 = fullL c 0 from rfl] at k0 ⊢
  have hb0 : Below w.heap.size w (w.alloc (.cells (u8s (fullL c 0)).toArray 5)) := (Below.refl _ _).alloc (Nat.le_refl _) _
  generalize w.alloc (.cells (u8s (fullL c 0)).toArray 5) = W0 at k0 hb0 ⊢
  go_loopw [8] (fun i wr => ∃ k : Nat, k ≤ 48 ∧ i = .int .i64 k ∧ Blk wr w.heap.size 5 (u8s (fullL c k)).toArray ∧ Below w.heap.size w wr) (fun i _ => 48 - (intOf i).toNat)
  case atStart => exact ⟨0, by omega, rfl, k0, hb0⟩
  case round =>
    clear k0 hb0
    obtain ⟨k, hk, rfl, h, hb⟩ := hrel
    by_cases hkn : k < 48
    · have hcl : ∃ v, wr.cell? ⟨w.heap.size, k, none⟩ = some v := by
        rw [h.cell]
        exact ⟨_, Array.getElem?_eq_getElem (by simpa [u8s] using (show k < (fullL c k).length by rw [fullL_len c k (by omega)]; exact hkn))⟩
      obtain ⟨v, hv⟩ := hcl
      have hfz := h.frozen k
      have hs := h.set k (.int .u8 c)
      rw [List.setIfInBounds_toArray, show (u8s (fullL c k)).set k (.int .u8 c) = u8s (fullL c (k + 1)) by rw [fullL_succ c k hkn]; simp [u8s, List.map_set]] at hs
      have hbs := hb.setCell (show w.heap.size ≤ (⟨w.heap.size, k, none⟩ : Addr).block from Nat.le_refl _) (.int .u8 c)
      go_wp2
      case roundEnd => exact ⟨⟨k + 1, by omega, rfl, hs, hbs⟩, by simp [intOf]; omega⟩
    · obtain rfl : k = 48 := by omega
      rw [show fullL c 48 = fullS c by simp [fullL, fullS]] at h
      go_wp2
      go_ret
      exact ⟨w.heap.size, rfl, Nat.le_refl _, h, hb⟩
theorem conv_row {w : World} {A : Option Addr} {c n : Nat} {l : List Int} (h : Row w 1 A n (u8s l)) (h0 : 0 < n) : (convert 51 9 (.slice A n c)).run Try.prog w = .ok (.string (strOfNums l)) w := by
  obtain ⟨b, off, rfl, hb, hc⟩ := h.2.2 h0
  have hl : l.length = n := by have := h.1; simp [u8s] at this; exact this
  exact run_convert_bytes_arg w 51 5 Try.underlying51 Try.underlying5 b off n c l hl (fun i hi => by
    have := hc i (.int .u8 (l.getD i 0)) (by simp [u8s, List.getElem?_eq_getElem (show i < l.length by omega), List.getD_eq_getElem?_getD])
    simpa [Go.Addr.add_mid] using this) 9 Try.underlying9
end Go.Proofs.Ytnfaeafplaeehaa
