import Derived.Test.YtnfaeafplaeehaaHead04
import Derived.Lib.ConvBytes
import Derived.Lib.AtoiErrMem
set_option linter.unusedVariables false
set_option linter.unusedSimpArgs false
namespace Go.Proofs.Ytnfaeafplaeehaa
open Go.RowKit
/-! A sector's text with bits turned. -/
/-- Bytes that lie in a block, and may be written. -/
structure BytesAt (w : World) (g : Nat) (l : List Int) : Prop where
  lt : g < w.heap.size
  cell : ∀ j (h : j < l.length), w.cell? ⟨g, j, none⟩ = some (.int .u8 l[j])
  fr : ∀ j, j < l.length → w.frozen? ⟨g, j, none⟩ = false
theorem BytesAt.below {w w' : World} {g : Nat} {l : List Int} (h : BytesAt w g l) (hb : Below w.heap.size w w') : BytesAt w' g l :=
  ⟨Nat.lt_of_lt_of_le h.lt hb.size, fun j hj => (hb.cell (p := ⟨g, j, none⟩) h.lt).trans (h.cell j hj), fun j hj => ((bcell hb).2 g j h.lt).trans (h.fr j hj)⟩
theorem BytesAt.set {w : World} {g : Nat} {l : List Int} (h : BytesAt w g l) (i : Nat) (hi : i < l.length) (x : Int) : BytesAt (w.setCell ⟨g, i, none⟩ (.int .u8 x)) g (l.set i x) := by
  refine ⟨by simpa using h.lt, fun j hj => ?_, fun j hj => ?_⟩
  · rw [List.length_set] at hj
    by_cases e : i = j
    · subst e
      rw [World.cell?_setCell_same _ _ _ (h.cell i hi)]
      simp
    · rw [World.cell?_setCell_other _ _ _ _ (fun he => e (by cases he; rfl)), h.cell j hj]
      simp [List.getElem_set_ne e]
  · rw [List.length_set] at hj
    rw [World.frozen?_setCell]
    exact h.fr j hj
theorem bytes_conv (l : List Int) (hB : Byte l) (w : World) : (convert 9 51 (.string (strOfNums l))).run Try.prog w = .ok (.slice (some ⟨w.heap.size, 0, none⟩) l.length (grownCap w (strOfNums l).size 0 5)) (Lib.bytesWorld w 5 (strOfNums l)) := by
  have := Lib.run_convert_string_bytes (P := Try.prog) w 9 51 5 (strOfNums l) Try.underlying9 Try.underlying51 Try.underlying5
  rw [this, strOfNums_size]
theorem bytes_at (l : List Int) (hB : Byte l) (w : World) : BytesAt (Lib.bytesWorld w 5 (strOfNums l)) w.heap.size l := by
  refine ⟨by rw [Lib.bytesWorld_size]; omega, fun j hj => ?_, fun j hj => ?_⟩
  · rw [Lib.bytesWorld_cell w _ _ j (by rw [strOfNums_size]; exact hj)]
    have hb := hB l[j] (List.getElem_mem hj)
    simp only [strOfNums_data, List.getD_eq_getElem?_getD, List.getElem?_map, List.getElem?_eq_getElem hj, Option.map_some, Option.getD_some, UInt8.toNat_ofNat']
    congr 2
    omega
  · have h := Lib.bytesWorld_at_new w 5 (strOfNums l)
    simp only [World.frozen?, h]
    have h2 : (strOfNums l).data.size = l.length := strOfNums_size l
    have h3 : j < (Lib.bytesCells w 5 (strOfNums l)).size := by
      simp only [Lib.bytesCells, Array.size_append, Array.size_map]
      omega
    simp
    omega
theorem bytes_back {w : World} {g n : Nat} {l : List Int} (h : BytesAt w g l) (hl : l.length = n) (c : Nat) : (convert 51 9 (.slice (some ⟨g, 0, none⟩) n c)).run Try.prog w = .ok (.string (strOfNums l)) w :=
  run_convert_bytes_arg w 51 5 Try.underlying51 Try.underlying5 g 0 n c l hl (fun i hi => by
    have := h.cell i (by omega)
    simpa [List.getD_eq_getElem?_getD, List.getElem?_eq_getElem (show i < l.length by omega)] using this) 9 Try.underlying9
theorem pow_cases (r : Nat) (h : r < 8) : (2 : Int) ^ (7 - r) % 256 = 128 / 2 ^ r := by
  rcases (show r = 0 ∨ r = 1 ∨ r = 2 ∨ r = 3 ∨ r = 4 ∨ r = 5 ∨ r = 6 ∨ r = 7 by omega) with rfl | rfl | rfl | rfl | rfl | rfl | rfl | rfl <;> rfl
theorem half_pow (t : Int) (n : Nat) : t / 2 ^ n / 2 = t / 2 ^ (n + 1) := by
  rw [Int.ediv_ediv_of_nonneg (Int.pow_nonneg (by decide)), Int.pow_succ]
theorem Below.set3 {w wr : World} {B g : Nat} (hb : Below B w wr) (h : B ≤ g) (j : Nat) (v : Value) : Below B w (wr.setCell ⟨g, j, none⟩ v) := hb.setCell (show B ≤ (⟨g, j, none⟩ : Addr).block from h) v
set_option maxRecDepth 100000 in
set_option maxHeartbeats 4000000 in
theorem law04_turned (l : Sec) (a t : Int) (w : World) (hl : l.length = 48) (hB : Byte l) (ht : 0 ≤ t ∧ t ≤ 4294967295) :
    Calls Try.prog 36 #[.string (strOfNums l), .int .i64 a, .int .u32 t] w fun e w' => e = .returned (.string (strOfNums (spoiltS l (IntKind.u64.wrap a % 384) t))) ∧ Below w.heap.size w w' := by
  unfold spoiltS
  have hcv := bytes_conv l hB w
  have k0 := bytes_at l hB w
  have hb0 := Lib.bytesWorld_below w 5 (strOfNums l)
  obtain ⟨q, hq, hq3⟩ : ∃ q : Nat, IntKind.u64.wrap a % 384 = q ∧ q < 384 := ⟨(IntKind.u64.wrap a % 384).toNat, by omega, by omega⟩
  have hu0 : 0 ≤ IntKind.u64.wrap a := by rw [IntKind.wrap_u64]; omega
  have ht1 : (IntKind.u64.wrap a).tmod 384 = q := by rw [Int.tmod_eq_emod_of_nonneg hu0]; exact hq
  have ht2 : IntKind.u64.wrap ((q : Nat) : Int) = q := by rw [IntKind.wrap_u64]; omega
  rw [hq]
  rw [hl] at hcv
  generalize Lib.bytesWorld w 5 (strOfNums l) = W0 at *
  generalize grownCap w (strOfNums l).size 0 5 = cp at *
  clear hq hu0
  go_enter Try.func36, Try.ntmps36
  go_wp2
  go_loopw [9, 2] (fun i t2 wr => ∃ n : Nat, n ≤ 32 ∧ i = .int .u64 n ∧ t2 = .int .u32 (t / 2 ^ n) ∧ BytesAt wr w.heap.size (spoiltL l q t n) ∧ Below w.heap.size w wr) (fun i _ _ => 32 - (intOf i).toNat)
  case atStart => exact ⟨0, by omega, rfl, by simp, k0, hb0⟩
  case round =>
    clear k0 hb0 hcv
    obtain ⟨n, hn, rfl, rfl, h, hb⟩ := hrel
    by_cases hn2 : n < 32
    · have hn1 : n + 1 ≤ 32 := hn2
      have hlen : (spoiltL l q t n).length = 48 := by rw [spoiltL_len, hl]
      have HS := Lib.hid (spoiltL_succ l q t n)
      generalize spoiltL l q t n = l' at *
      by_cases hc : bits .and .u32 (t / 2 ^ n) 1 = 1
      · by_cases hd : (q : Int) + (n : Int) < 384
        · have e1 : flip1 q t l' n = l'.set (((q : Int) + n) / 8).toNat (bits .xor .u8 (l'.getD (((q : Int) + n) / 8).toNat 0) (128 / 2 ^ (((q : Int) + n) % 8).toNat)) := by
            unfold flip1
            rw [if_pos ⟨hc, hd⟩]
          rw [show (((q : Int) + n) / 8).toNat = (q + n) / 8 by omega, show (((q : Int) + n) % 8).toNat = (q + n) % 8 by omega] at e1
          have hj48 : (q + n) / 8 < 48 := by omega
          have hjl : (q + n) / 8 < l'.length := by omega
          rw [e1] at HS
          rw [List.getD_eq_getElem?_getD, List.getElem?_eq_getElem hjl, Option.getD_some] at HS
          have hcl := h.cell ((q + n) / 8) hjl
          have hfz := h.fr ((q + n) / 8) hjl
          have hw1 := h.set ((q + n) / 8) hjl
          have hr8 : (q + n) % 8 < 8 := by omega
          have hpw := pow_cases ((q + n) % 8) hr8
          generalize l'[(q + n) / 8] = x at *
          clear e1
          go_wp2
          case roundEnd =>
            rw [half_pow]
            try rw [hpw]
            refine ⟨⟨n + 1, hn1, rfl, rfl, by rw [HS.out]; exact hw1 _, Below.set3 hb (Nat.le_refl _) _ _⟩, ?_⟩
            clear hpw hw1 hcl hfz hc hd h
            simp [intOf]
            omega
        · have e1 : flip1 q t l' n = l' := by
            unfold flip1
            rw [if_neg fun h => hd h.2]
          rw [e1] at HS
          rw [← HS.out] at h
          have hd' : 384 ≤ (q : Int) + (n : Int) := by omega
          have hdd : decide ((q : Int) + (n : Int) < 384) = false := decide_eq_false hd
          clear hd HS ht1 ht2 e1
          go_wp2
          case roundEnd =>
            rw [half_pow]
            refine ⟨⟨n + 1, hn1, rfl, rfl, h, hb⟩, ?_⟩
            clear hc
            simp [intOf]
            omega
      · have e1 : flip1 q t l' n = l' := by
          unfold flip1
          rw [if_neg fun h => hc h.1]
        rw [e1] at HS
        rw [← HS.out] at h
        clear HS ht1 ht2 e1
        go_wp2
        case roundEnd =>
          rw [half_pow]
          refine ⟨⟨n + 1, hn1, rfl, rfl, h, hb⟩, ?_⟩
          clear hc
          simp [intOf]
          omega
    · have hn32 : n = 32 := by omega
      rw [hn32] at h
      clear hn32
      have hsl : (spoiltL l q t 32).length = 48 := by rw [spoiltL_len]; exact hl
      generalize hsq : spoiltL l q t 32 = sl at *
      clear hn
      have hcv := bytes_back h hsl cp
      go_wp2
      go_ret
      rw [hsq]
      exact ⟨rfl, hb⟩
end Go.Proofs.Ytnfaeafplaeehaa
