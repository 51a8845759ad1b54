import Derived.Test.YtnfaeafplaeehaaMap
import Derived.Test.YtnfaeafplaeehaaMapDel
import Derived.Test.YtnfaeafplaeehaaState
import Derived.Deep.MidRow
set_option linter.unusedVariables false
set_option linter.unusedSimpArgs false
namespace Go.Proofs.Ytnfaeafplaeehaa
open Go.RowKit
/-! A disk: what is safe, what is written and not safe yet, and how many calls go well. -/
theorem Blk.nT {w : World} {g k : Nat} {t u : TypeId} {cs ds : Array Value} (h : Blk w g t cs) (h2 : Blk w k u ds) (ht : t ≠ u) : g ≠ k := fun e => by
  subst e
  unfold Blk at h h2
  rw [h] at h2
  injection h2 with h2
  injection h2 with h3 h4
  exact ht h4
theorem blk_mapD {α β : Type} {W : World} {b g : Nat} {t : TypeId} {cs : Array Value} {ek : α → Value} {ev : β → Value} {m : List (α × β)} (h : Blk W b t cs) (hm : MapAt W g ek ev m) : b ≠ g := by
  rintro rfl
  obtain ⟨es, c, h1, _⟩ := hm
  unfold Blk at h
  rw [h] at h1
  cases h1
abbrev Sec := List Int
def secV (s : Sec) : Value := .agg (u8s s).toArray
def ikey (i : Int) : Value := .int .i64 i
structure DiskAt (W : World) (d g bs : Nat) (sec : List Sec) (lat : List (Int × Sec)) (fl : Int) : Prop where
  d : Blk W d 126 #[.slice (some ⟨bs, 0, none⟩) sec.length sec.length, .map (some g), .int .i64 fl]
  s : Blk W bs 128 (sec.flatMap u8s).toArray
  m : MapAt W g ikey secV lat
  l : ∀ x ∈ sec, x.length = 48
  k : ∀ e ∈ lat, 0 ≤ e.1 ∧ e.1 < sec.length ∧ e.2.length = 48
  n : (lat.map (·.1)).Nodup
  sz : sec.length ≤ 1000
theorem DiskAt.below {W W' : World} {d g bs : Nat} {sec : List Sec} {lat : List (Int × Sec)} {fl : Int} (h : DiskAt W d g bs sec lat fl) (hb : Below W.heap.size W W') : DiskAt W' d g bs sec lat fl := ⟨h.d.below' hb, h.s.below' hb, h.m.below hb, h.l, h.k, h.n, h.sz⟩
def failsF (fl : Int) : Bool × Int := if fl < 0 then (false, fl) else (decide (fl - 1 < 0), fl - 1)
theorem disk_Size (d g bs : Nat) (sec : List Sec) (lat : List (Int × Sec)) (fl : Int) (w : World) (h : DiskAt w d g bs sec lat fl) : Calls Try.prog 38 #[.pointer (some ⟨d, 0, none⟩)] w fun e w' => e = .returned (.int .i64 sec.length) ∧ w' = w := by
  have hB := h.d
  have b0 := hB.cell 0
  have b1 := hB.cell 1
  have b2 := hB.cell 2
  simp only [List.getElem?_toArray, List.getElem?_cons_zero, List.getElem?_cons_succ] at b0 b1 b2
  go_enter Try.func38, Try.ntmps38
  go_wp2
  go_ret
  exact ⟨rfl, rfl⟩
theorem DiskAt.setFail {W : World} {d g bs : Nat} {sec : List Sec} {lat : List (Int × Sec)} {fl : Int} (h : DiskAt W d g bs sec lat fl) (x : Int) : DiskAt (W.setCell ⟨d, 2, none⟩ (.int .i64 x)) d g bs sec lat x :=
  ⟨by have := h.d.set 2 (.int .i64 x); simpa using this, h.s.other (a := ⟨d, 2, none⟩) (h.s.nT h.d (by decide)) _, h.m.setCell _ _, h.l, h.k, h.n, h.sz⟩
theorem disk_Fail (d g bs : Nat) (sec : List Sec) (lat : List (Int × Sec)) (fl after : Int) (w : World) (HD : DiskAt w d g bs sec lat fl) : Calls Try.prog 37 #[.pointer (some ⟨d, 0, none⟩), .int .i64 after] w fun e w' => e = .returned (.tuple #[]) ∧ DiskAt w' d g bs sec lat (max after (-1)) ∧ Kept [d] w w' := by
  have hB := HD.d
  have b0 := hB.cell 0
  have b1 := hB.cell 1
  have b2 := hB.cell 2
  simp only [List.getElem?_toArray, List.getElem?_cons_zero, List.getElem?_cons_succ] at b0 b1 b2
  have b9 := hB.lt
  have bf2 := hB.frozen 2
  go_enter Try.func37, Try.ntmps37
  go_wp2
  all_goals refine bodyPost_end (results_none rfl _ _ _) rfl ⟨rfl, ?_, kept_set (Kept.refl _ _) _ _ (.inl (by simp))⟩
  all_goals first | (rw [show max after (-1) = -1 by omega]; exact HD.setFail _) | (rw [show max after (-1) = after by omega]; exact HD.setFail _)
theorem disk_fails (d g bs : Nat) (sec : List Sec) (lat : List (Int × Sec)) (fl : Int) (w : World) (h : DiskAt w d g bs sec lat fl) (hf : fl ≤ 9223372036854775807) : Calls Try.prog 61 #[.pointer (some ⟨d, 0, none⟩)] w fun e w' => e = .returned (.bool (failsF fl).1) ∧ DiskAt w' d g bs sec lat (failsF fl).2 ∧ Kept [d] w w' := by
  have hB := h.d
  have b0 := hB.cell 0
  have b1 := hB.cell 1
  have b2 := hB.cell 2
  simp only [List.getElem?_toArray, List.getElem?_cons_zero, List.getElem?_cons_succ] at b0 b1 b2
  have b9 := hB.lt
  have bf2 := hB.frozen 2
  unfold failsF
  by_cases h0 : fl < 0
  · rw [if_pos h0]
    have h0' : decide (fl < 0) = true := decide_eq_true h0
    clear h0
    go_enter Try.func61, Try.ntmps61
    go_wp2
    go_ret
    exact ⟨rfl, h, Kept.refl _ _⟩
  · rw [if_neg h0]
    have h0' : decide (fl < 0) = false := decide_eq_false h0
    have hw : wrap64 (fl - 1) = fl - 1 := by unfold wrap64; omega
    clear h0 hf
    go_enter Try.func61, Try.ntmps61
    go_wp2
    go_ret
    exact ⟨rfl, h.setFail _, kept_set (Kept.refl _ _) _ _ (.inl (by simp))⟩
end Go.Proofs.Ytnfaeafplaeehaa
