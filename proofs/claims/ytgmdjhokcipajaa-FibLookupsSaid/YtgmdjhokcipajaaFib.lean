import Derived.Test.YtgmdjhokcipajaaAddr
set_option linter.unusedVariables false
set_option linter.unusedSimpArgs false
namespace Go.Proofs.Ytgmdjhokcipajaa
open Go.RowKit

/-- An entry of a 'fib.Fib': its prefix's address and length, what becomes of it, and to whom it goes. -/
structure Ent where
  a : Int
  l : Int
  h : Int
  n : Int
  deriving DecidableEq
def Ent.cells (e : Ent) : List Value := [.int .u32 e.a, .int .i64 e.l, .int .i64 e.h, .int .i64 e.n]
def Ent.arr (e : Ent) : Array Value := #[.int .u32 e.a, .int .i64 e.l, .int .i64 e.h, .int .i64 e.n]
def Ent.zero : Ent := ⟨0, 0, 0, 0⟩
def Ent.ok (e : Ent) : Prop := 0 ≤ e.a ∧ e.a ≤ 4294967295
def EntsOk (l : List Ent) : Prop := ∀ e ∈ l, e.ok
def ents (l : List Ent) : List Value := l.flatMap Ent.cells
theorem ents_get (l : List Ent) (k j : Nat) (hk : k < l.length) (hj : j < 4) : (ents l)[k * 4 + j]? = l[k].cells[j]? := flat_get Ent.cells 4 (fun _ => rfl) l k j hk hj

/-- What 'Lookup' takes in place of the best one so far. -/
def fibStep (x : Int) (best e : Ent) : Ent := if hasB e.a e.l x && e.h != 0 && (best.h == 0 || decide (best.l < e.l)) then e else best
def fibLookup (l : List Ent) (x : Int) : Ent := l.foldl (fibStep x) Ent.zero
theorem fibLookup_take (l : List Ent) (x : Int) (k : Nat) (h : k < l.length) : fibLookup (l.take (k + 1)) x = fibStep x (fibLookup (l.take k) x) l[k] := by
  unfold fibLookup
  rw [List.take_succ_eq_append_getElem h, List.foldl_append]
  rfl

theorem fib_Lookup (l : List Ent) (A : Option Addr) (c : Nat) (x : Int) (w : World) (hr : Row w 4 A l.length (ents l)) (ho : EntsOk l) (hx : 0 ≤ x ∧ x ≤ 4294967295) :
    Calls Try.prog 18 #[.slice A l.length c, .int .u32 x] w fun e w' => e = .returned (.agg (fibLookup l x).arr) ∧ Below w.heap.size w w' := by
  have hn := hr.2.1
  go_enter Try.func18, Try.ntmps18
  go_wp2
  go_loopw [11] (fun i wr => ∃ (k : Nat) (best : Ent), k ≤ l.length ∧ i = .int .i64 k ∧ Hid (best = fibLookup (l.take k) x) ∧ Blk wr (w.heap.size + 1) 32 #[.int .u32 best.a, .int .i64 best.l, .int .i64 best.h, .int .i64 best.n] ∧ Blk wr w.heap.size 32 #[.int .u32 0, .int .i64 0, .int .i64 0, .int .i64 0] ∧ Below w.heap.size w wr) (fun i _ => l.length - (intOf i).toNat)
  case atStart => exact ⟨0, Ent.zero, Nat.zero_le _, rfl, rfl, by have := Blk.new (w.alloc (.cells #[.int .u32 0, .int .i64 0, .int .i64 0, .int .i64 0] 32)) 32 #[.int .u32 0, .int .i64 0, .int .i64 0, .int .i64 0]; simpa [Ent.zero] using this, (Blk.new w _ _).alloc _, ((Below.refl _ _).alloc (Nat.le_refl _) _).alloc (by simp) _⟩
  case round =>
    obtain ⟨k, best, hk, rfl, hbest, hB, hR, hw⟩ := hrel
    by_cases hlt : k < l.length
    · obtain ⟨b, off, rfl, hbl, hcell⟩ := (hr.below hw).2.2 (by omega)
      have e0 := hcell (k * 4 + 0) _ (ents_get l k 0 hlt (by omega))
      have e1 := hcell (k * 4 + 1) _ (ents_get l k 1 hlt (by omega))
      have e2 := hcell (k * 4 + 2) _ (ents_get l k 2 hlt (by omega))
      have e3 := hcell (k * 4 + 3) _ (ents_get l k 3 hlt (by omega))
      have hok := ho l[k] (List.getElem_mem hlt)
      have hstep := fibLookup_take l x k hlt
      rw [← hbest.out] at hstep
      generalize l[k] = e at *
      obtain ⟨ea, el, eh, en⟩ := e
      obtain ⟨ba, bl, bh, bn⟩ := best
      simp only [Ent.cells, Ent.ok, List.getElem?_cons_zero, List.getElem?_cons_succ, List.getElem_cons_zero, List.getElem_cons_succ, ← Nat.add_assoc, Nat.add_zero] at *
      clear hcell
      go_wp2_with fail
      refine (addr_Has _ _ _ _ hok hx).mono ?_
      rintro e w2 ⟨rfl, hb2⟩
      have kB := (hB.alloc (.cells #[.int .u32 ea, .int .i64 el, .int .i64 eh, .int .i64 en] 32)).below' hb2
      have kR := (hR.alloc (.cells #[.int .u32 ea, .int .i64 el, .int .i64 eh, .int .i64 en] 32)).below' hb2
      have kE := (Blk.new wr 32 #[.int .u32 ea, .int .i64 el, .int .i64 eh, .int .i64 en]).below' hb2
      have kw : Below w.heap.size w w2 := below_step (hw.alloc hw.size _) (by have := hw.size; simp; omega) hb2
      have hlt1 := hB.lt
      clear hB hR hb2 e0 e1 e2 e3
      have b0 := kB.cell 0
      have b1 := kB.cell 1
      have b2 := kB.cell 2
      have b3 := kB.cell 3
      have bf0 := kB.frozen 0
      have bf1 := kB.frozen 1
      have bf2 := kB.frozen 2
      have bf3 := kB.frozen 3
      simp only [List.getElem?_toArray, List.getElem?_cons_zero, List.getElem?_cons_succ] at b0 b1 b2 b3
      have e0 := kE.cell 0
      have e1 := kE.cell 1
      have e2 := kE.cell 2
      have e3 := kE.cell 3
      have ef0 := kE.frozen 0
      have ef1 := kE.frozen 1
      have ef2 := kE.frozen 2
      have ef3 := kE.frozen 3
      simp only [List.getElem?_toArray, List.getElem?_cons_zero, List.getElem?_cons_succ] at e0 e1 e2 e3
      have ST := Lib.hid hstep
      clear hstep
      cases hh : hasB ea el x with
      | false =>
        have hs : fibStep x ⟨ba, bl, bh, bn⟩ ⟨ea, el, eh, en⟩ = ⟨ba, bl, bh, bn⟩ := by simp [fibStep, *]
        rw [hs] at ST
        clear hs
        go_wp2
        go_roundw
        case rel => exact ⟨k + 1, ⟨ba, bl, bh, bn⟩, by omega, by go_num, ST.out.symm, kB, kR, kw⟩
        case measure => simp [intOf]; omega
      | true =>
        by_cases h1 : eh = 0
        · have h1' : (eh != 0) = false := by simpa using h1
          have hs : fibStep x ⟨ba, bl, bh, bn⟩ ⟨ea, el, eh, en⟩ = ⟨ba, bl, bh, bn⟩ := by simp [fibStep, *]
          rw [hs] at ST
          clear hs
          go_wp2
          go_roundw
          case rel => exact ⟨k + 1, ⟨ba, bl, bh, bn⟩, by omega, by go_num, ST.out.symm, kB, kR, kw⟩
          case measure => simp [intOf]; omega
        · have h1' : (eh != 0) = true := by simpa using h1
          by_cases h2 : bh = 0
          · have h2' : (bh == 0) = true := by simpa using h2
            have hs : fibStep x ⟨ba, bl, bh, bn⟩ ⟨ea, el, eh, en⟩ = ⟨ea, el, eh, en⟩ := by simp [fibStep, *]
            rw [hs] at ST
            clear hs
            go_wp2
            have kF := (((kB.set 0 (.int .u32 ea)).set 1 (.int .i64 el)).set 2 (.int .i64 eh)).set 3 (.int .i64 en)
            simp only [List.setIfInBounds_toArray, List.set_cons_zero, List.set_cons_succ] at kF
            go_roundw
            case rel => exact ⟨k + 1, ⟨ea, el, eh, en⟩, by omega, by go_num, ST.out.symm, kF, (((kR.other (a := ⟨w.heap.size + 1, 0, none⟩) (by simp) _).other (a := ⟨w.heap.size + 1, 1, none⟩) (by simp) _).other (a := ⟨w.heap.size + 1, 2, none⟩) (by simp) _).other (a := ⟨w.heap.size + 1, 3, none⟩) (by simp) _,
              (((kw.setCell (p := ⟨w.heap.size + 1, 0, none⟩) (by simp) _).setCell (p := ⟨w.heap.size + 1, 1, none⟩) (by simp) _).setCell (p := ⟨w.heap.size + 1, 2, none⟩) (by simp) _).setCell (p := ⟨w.heap.size + 1, 3, none⟩) (by simp) _⟩
            case measure => simp [intOf]; omega
          · have h2' : (bh == 0) = false := by simpa using h2
            by_cases h3 : bl < el
            · have hs : fibStep x ⟨ba, bl, bh, bn⟩ ⟨ea, el, eh, en⟩ = ⟨ea, el, eh, en⟩ := by simp [fibStep, *]
              rw [hs] at ST
              clear hs
              go_wp2
              have kF := (((kB.set 0 (.int .u32 ea)).set 1 (.int .i64 el)).set 2 (.int .i64 eh)).set 3 (.int .i64 en)
              simp only [List.setIfInBounds_toArray, List.set_cons_zero, List.set_cons_succ] at kF
              go_roundw
              case rel => exact ⟨k + 1, ⟨ea, el, eh, en⟩, by omega, by go_num, ST.out.symm, kF, (((kR.other (a := ⟨w.heap.size + 1, 0, none⟩) (by simp) _).other (a := ⟨w.heap.size + 1, 1, none⟩) (by simp) _).other (a := ⟨w.heap.size + 1, 2, none⟩) (by simp) _).other (a := ⟨w.heap.size + 1, 3, none⟩) (by simp) _,
                (((kw.setCell (p := ⟨w.heap.size + 1, 0, none⟩) (by simp) _).setCell (p := ⟨w.heap.size + 1, 1, none⟩) (by simp) _).setCell (p := ⟨w.heap.size + 1, 2, none⟩) (by simp) _).setCell (p := ⟨w.heap.size + 1, 3, none⟩) (by simp) _⟩
              case measure => simp [intOf]; omega
            · have hs : fibStep x ⟨ba, bl, bh, bn⟩ ⟨ea, el, eh, en⟩ = ⟨ba, bl, bh, bn⟩ := by simp [fibStep, *]
              rw [hs] at ST
              clear hs
              go_wp2
              go_roundw
              case rel => exact ⟨k + 1, ⟨ba, bl, bh, bn⟩, by omega, by go_num, ST.out.symm, kB, kR, kw⟩
              case measure => simp [intOf]; omega
    · obtain rfl : k = l.length := by omega
      have HB := Lib.hid hbest.out
      rw [List.take_length] at HB
      have b0 := hB.cell 0
      have b1 := hB.cell 1
      have b2 := hB.cell 2
      have b3 := hB.cell 3
      have bf0 := hB.frozen 0
      have bf1 := hB.frozen 1
      have bf2 := hB.frozen 2
      have bf3 := hB.frozen 3
      simp only [List.getElem?_toArray, List.getElem?_cons_zero, List.getElem?_cons_succ] at b0 b1 b2 b3
      have r0 := hR.cell 0
      have r1 := hR.cell 1
      have r2 := hR.cell 2
      have r3 := hR.cell 3
      have rf0 := hR.frozen 0
      have rf1 := hR.frozen 1
      have rf2 := hR.frozen 2
      have rf3 := hR.frozen 3
      simp only [List.getElem?_toArray, List.getElem?_cons_zero, List.getElem?_cons_succ] at r0 r1 r2 r3
      go_wp2
      have kF := (((hR.set 0 (.int .u32 best.a)).set 1 (.int .i64 best.l)).set 2 (.int .i64 best.h)).set 3 (.int .i64 best.n)
      simp only [List.setIfInBounds_toArray, List.set_cons_zero, List.set_cons_succ] at kF
      have z0 := kF.cell 0
      have z1 := kF.cell 1
      have z2 := kF.cell 2
      have z3 := kF.cell 3
      have zf0 := kF.frozen 0
      have zf1 := kF.frozen 1
      have zf2 := kF.frozen 2
      have zf3 := kF.frozen 3
      simp only [List.getElem?_toArray, List.getElem?_cons_zero, List.getElem?_cons_succ] at z0 z1 z2 z3
      refine bodyPost_ret (v := .agg best.arr) (by simp [results, Try.results18, go_sem, Ent.arr, z0, z1, z2, z3]) rfl ⟨by rw [HB.out], ?_⟩
      exact (((hw.setCell (p := ⟨w.heap.size, 0, none⟩) (Nat.le_refl _) _).setCell (p := ⟨w.heap.size, 1, none⟩) (Nat.le_refl _) _).setCell (p := ⟨w.heap.size, 2, none⟩) (Nat.le_refl _) _).setCell (p := ⟨w.heap.size, 3, none⟩) (Nat.le_refl _) _
end Go.Proofs.Ytgmdjhokcipajaa
