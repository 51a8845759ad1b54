import Derived.Test.YtgmdjhokcipajaaBytes4
import Derived.Test.YtgmdjhokcipajaaRegion
import Derived.Test.YtgmdjhokcipajaaMap
set_option linter.unusedVariables false
set_option linter.unusedSimpArgs false
namespace Go.Proofs.Ytgmdjhokcipajaa
open Go.RowKit

def putN (l : List Int) (off : Nat) (n : Int) : Nat → List Int
  | 0 => l
  | 1 => l.set off (n / 16777216 % 256)
  | 2 => (l.set off (n / 16777216 % 256)).set (off + 1) (n / 65536 % 256)
  | 3 => ((l.set off (n / 16777216 % 256)).set (off + 1) (n / 65536 % 256)).set (off + 2) (n / 256 % 256)
  | _ => (((l.set off (n / 16777216 % 256)).set (off + 1) (n / 65536 % 256)).set (off + 2) (n / 256 % 256)).set (off + 3) (n % 256)
def put4 (l : List Int) (off : Nat) (n : Int) : List Int := (((l.set off (n / 16777216 % 256)).set (off + 1) (n / 65536 % 256)).set (off + 2) (n / 256 % 256)).set (off + 3) (n % 256)
theorem u8s_set (l : List Int) (i : Nat) (x : Int) : (u8s l).toArray.setIfInBounds i (.int .u8 x) = (u8s (l.set i x)).toArray := by simp [u8s, List.map_set]
/-- A block of bytes. -/
def Bts (w : World) (g : Nat) (t : TypeId) (l : List Int) : Prop := Blk w g t (u8s l).toArray
theorem Bts.cell {w : World} {g : Nat} {t : TypeId} {l : List Int} (h : Bts w g t l) (i : Nat) (hi : i < l.length) : w.cell? ⟨g, i, none⟩ = some (.int .u8 l[i]) := by
  rw [Blk.cell h i]
  simp [u8s, hi]
theorem Bts.set {w : World} {g : Nat} {t : TypeId} {l : List Int} (h : Bts w g t l) (i : Nat) (x : Int) : Bts (w.setCell ⟨g, i, none⟩ (.int .u8 x)) g t (l.set i x) := by
  have := Blk.set h i (.int .u8 x)
  rw [u8s_set] at this
  exact this
theorem Bts.drew {w : World} {g : Nat} {t : TypeId} {l : List Int} (h : Bts w g t l) : Bts w.drew g t l := Blk.drew h
theorem Bts.row {w : World} {g : Nat} {t : TypeId} {l : List Int} (h : Bts w g t l) (hn : l.length ≤ 140737488351232) : Row w 1 (some ⟨g, 0, none⟩) l.length (u8s l) :=
  Row.ofBlock (by simp [u8s]) hn h (fun j u hj => by simpa using hj)
theorem Bts.cut {w : World} {g : Nat} {t : TypeId} {l : List Int} (h : Bts w g t l) (off n : Nat) (hl : off + n ≤ l.length) (hn : l.length ≤ 140737488351232) : Row w 1 (some ⟨g, off, none⟩) n (u8s ((l.drop off).take n)) := by
  refine ⟨by simp [u8s]; omega, by omega, fun _ => ⟨g, off, rfl, Blk.lt h, fun j u hj => ?_⟩⟩
  have hj' : j < n := by
    rcases Nat.lt_or_ge j n with h | h
    · exact h
    · rw [List.getElem?_eq_none (by simp [u8s]; omega)] at hj; cases hj
  rw [Bts.cell h (off + j) (by omega)]
  simp [u8s, List.getElem?_take, hj', List.getElem?_drop] at hj
  obtain ⟨x, hx, rfl⟩ := hj
  rw [List.getElem?_eq_getElem (by omega)] at hx
  simpa using hx

theorem kept_set1 {g : Nat} {w w' : World} (h : Kept [g] w w') (o : Nat) (u : Value) : Kept [g] w (w'.setCell ⟨g, o, none⟩ u) :=
  ⟨h.os, h.tape, h.output, by simpa [World.setCell] using h.size, fun k hk hs => by
    rw [← h.block k hk hs]
    exact Below.heap_setCell w' _ u k fun e => hs (by subst e; simp)⟩
/-- 'put' into a slice over a block of bytes. -/
theorem rec_put (g off n cap : Nat) (t : TypeId) (l : List Int) (x : Int) (w : World) (hn : 4 ≤ n) (hnc : n ≤ cap) (hm : n ≤ 140737488351232) (hx : 0 ≤ x ∧ x ≤ 4294967295) (hB : Bts w g t l) (hl : off + 4 ≤ l.length) :
    Calls Try.prog 48 #[.slice (some ⟨g, off, none⟩) n cap, .int .u32 x] w fun e w' => e = .returned (.tuple #[]) ∧ Bts w' g t (put4 l off x) ∧ Kept [g] w w' := by
  obtain ⟨hx0, hx1⟩ := hx
  have EV : x / 16777216 % 256 = x / 16777216 := by omega
  replace EV := Lib.hid EV
  go_enter Try.func48, Try.ntmps48
  go_wp2
  go_loopw [5] (fun i wr => ∃ k : Nat, k ≤ 4 ∧ i = .int .i64 k ∧ Bts wr g t (putN l off x k) ∧ Kept [g] w wr) (fun i _ => 4 - (intOf i).toNat)
  case atStart => exact ⟨0, by omega, rfl, hB, Kept.refl _ _⟩
  case round =>
    clear hB
    obtain ⟨k, hk, rfl, hB, hk1⟩ := hrel
    match k, hk with
    | 0, _ =>
      simp only [putN] at hB
      have hfz := Blk.frozen hB off
      have hcl := Bts.cell hB off (by (try simp); omega)
      go_wp2
      refine ⟨⟨1, by omega, rfl, ?_, ?_⟩, by simp [intOf]⟩
      · have := hB.set off (x / 16777216)
        simpa only [putN, EV.out] using this
      · exact kept_set1 hk1 _ _
    | 1, _ =>
      simp only [putN] at hB
      have hfz := Blk.frozen hB (off + 1)
      have hcl := Bts.cell hB (off + 1) (by (try simp); omega)
      go_wp2
      refine ⟨⟨2, by omega, rfl, ?_, ?_⟩, by simp [intOf]⟩
      · have := hB.set (off + 1) (x / 65536 % 256)
        simpa only [putN, EV.out] using this
      · exact kept_set1 hk1 _ _
    | 2, _ =>
      simp only [putN] at hB
      have hfz := Blk.frozen hB (off + 2)
      have hcl := Bts.cell hB (off + 2) (by (try simp); omega)
      go_wp2
      refine ⟨⟨3, by omega, rfl, ?_, ?_⟩, by simp [intOf]⟩
      · have := hB.set (off + 2) (x / 256 % 256)
        simpa only [putN, EV.out] using this
      · exact kept_set1 hk1 _ _
    | 3, _ =>
      simp only [putN] at hB
      have hfz := Blk.frozen hB (off + 3)
      have hcl := Bts.cell hB (off + 3) (by (try simp); omega)
      go_wp2
      refine ⟨⟨4, by omega, rfl, ?_, ?_⟩, by simp [intOf]⟩
      · have := hB.set (off + 3) (x % 256)
        simpa only [putN, EV.out] using this
      · exact kept_set1 hk1 _ _
    | 4, _ =>
      replace hB : Bts wr g t (put4 l off x) := hB
      go_wp2
      refine bodyPost_end (results_none rfl _ _ _) rfl ⟨rfl, hB, hk1⟩
end Go.Proofs.Ytgmdjhokcipajaa
