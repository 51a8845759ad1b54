import Derived.Test.YtgmdjhokcipajaaFib
import Derived.Test.YtgmdjhokcipajaaLaw02
set_option linter.unusedVariables false
set_option linter.unusedSimpArgs false
namespace Go.Proofs.Ytgmdjhokcipajaa
open Go.RowKit

def fitB (x : Int) (n : Int) (e : Ent) : Bool := e.l == n && e.h != 0 && hasB e.a e.l x
def lawFrom (l : List Ent) (x : Int) : Nat → Ent
  | 0 => Ent.zero
  | m + 1 => match l.find? (fitB x m) with
    | some e => e
    | none => lawFrom l x m
theorem lawFrom_some (l : List Ent) (x : Int) (m k : Nat) (hk : k < l.length) (h : (l.take k).find? (fitB x m) = none) (hf : fitB x m l[k] = true) : lawFrom l x (m + 1) = l[k] := by
  have e : l = l.take k ++ (l[k] :: l.drop (k + 1)) := by rw [← List.drop_eq_getElem_cons hk, List.take_append_drop]
  have : l.find? (fitB x m) = some l[k] := by
    refine (congrArg (List.find? (fitB x m)) e).trans ?_
    rw [List.find?_append, h, List.find?_cons, hf]
    rfl
  simp only [lawFrom, this]
theorem lawFrom_none (l : List Ent) (x : Int) (m : Nat) (h : l.find? (fitB x m) = none) : lawFrom l x (m + 1) = lawFrom l x m := by simp only [lawFrom, h]
theorem find_take (l : List Ent) (p : Ent → Bool) (k : Nat) (hk : k < l.length) (h : (l.take k).find? p = none) (hf : p l[k] = false) : (l.take (k + 1)).find? p = none := by
  rw [List.take_succ_eq_append_getElem hk, List.find?_append, h]
  simp [hf]

theorem law10_Lookup (l : List Ent) (A : Option Addr) (c : Nat) (x : Int) (w : World) (hr : Row w 4 A l.length (ents l)) (ho : EntsOk l) (hx : 0 ≤ x ∧ x ≤ 4294967295) :
    Calls Try.prog 19 #[.slice A l.length c, .int .u32 x] w fun e w' => e = .returned (.agg (lawFrom l x 33).arr) ∧ Below w.heap.size w w' := by
  have hn := hr.2.1
  go_enter Try.func19, Try.ntmps19
  go_wp2
  go_loopw [5] (fun i wr => ∃ m : Nat, m ≤ 33 ∧ i = .int .i64 ((m : Int) - 1) ∧ Hid (lawFrom l x 33 = lawFrom l x m) ∧ Blk wr w.heap.size 32 #[.int .u32 0, .int .i64 0, .int .i64 0, .int .i64 0] ∧ Below w.heap.size w wr) (fun i _ => (1 + intOf i).toNat)
  case atStart => exact ⟨33, Nat.le_refl _, rfl, rfl, Blk.new w _ _, (Below.refl _ _).alloc (Nat.le_refl _) _⟩
  case round =>
    obtain ⟨m, hm, rfl, hfrom, hR, hw⟩ := hrel
    by_cases hm0 : m = 0
    · subst hm0
      have r0 := hR.cell 0
      have r1 := hR.cell 1
      have r2 := hR.cell 2
      have r3 := hR.cell 3
      have rf0 := hR.frozen 0
      have rf1 := hR.frozen 1
      have rf2 := hR.frozen 2
      have rf3 := hR.frozen 3
      simp only [List.getElem?_toArray, List.getElem?_cons_zero, List.getElem?_cons_succ] at r0 r1 r2 r3
      go_wp2
      have kF := (((hR.set 0 (.int .u32 0)).set 1 (.int .i64 0)).set 2 (.int .i64 0)).set 3 (.int .i64 0)
      simp only [List.setIfInBounds_toArray, List.set_cons_zero, List.set_cons_succ] at kF
      have z0 := kF.cell 0
      have z1 := kF.cell 1
      have z2 := kF.cell 2
      have z3 := kF.cell 3
      have zf0 := kF.frozen 0
      have zf1 := kF.frozen 1
      have zf2 := kF.frozen 2
      have zf3 := kF.frozen 3
      simp only [List.getElem?_toArray, List.getElem?_cons_zero, List.getElem?_cons_succ] at z0 z1 z2 z3
      refine bodyPost_ret (v := .agg Ent.zero.arr) (by simp [results, Try.results19, go_sem, Ent.arr, Ent.zero, z0, z1, z2, z3]) rfl ⟨by rw [hfrom.out]; rfl, ?_⟩
      exact (((hw.setCell (p := ⟨w.heap.size, 0, none⟩) (Nat.le_refl _) _).setCell (p := ⟨w.heap.size, 1, none⟩) (Nat.le_refl _) _).setCell (p := ⟨w.heap.size, 2, none⟩) (Nat.le_refl _) _).setCell (p := ⟨w.heap.size, 3, none⟩) (Nat.le_refl _) _
    · obtain ⟨m, rfl⟩ : ∃ j, m = j + 1 := ⟨m - 1, by omega⟩
      rw [show (((m + 1 : Nat) : Int) - 1) = (m : Int) by omega]
      clear hm0
      obtain ⟨wo, hwo⟩ : ∃ wo, wo = wr := ⟨_, rfl⟩
      go_wp2
      go_loopw [14] (fun i wr => ∃ k : Nat, k ≤ l.length ∧ i = .int .i64 k ∧ Hid ((l.take k).find? (fitB x m) = none) ∧ Blk wr w.heap.size 32 #[.int .u32 0, .int .i64 0, .int .i64 0, .int .i64 0] ∧ Below w.heap.size w wr) (fun i _ => l.length - (intOf i).toNat)
      case atStart => exact ⟨0, Nat.zero_le _, rfl, rfl, hR, hw⟩
      case round =>
        clear hR hw hwo wo
        obtain ⟨k, hk, rfl, hnone, hR, hw⟩ := hrel
        by_cases hlt : k < l.length
        · obtain ⟨b, off, rfl, hbl, hcell⟩ := (hr.below hw).2.2 (by omega)
          have e0 := hcell (k * 4 + 0) _ (ents_get l k 0 hlt (by omega))
          have e1 := hcell (k * 4 + 1) _ (ents_get l k 1 hlt (by omega))
          have e2 := hcell (k * 4 + 2) _ (ents_get l k 2 hlt (by omega))
          have e3 := hcell (k * 4 + 3) _ (ents_get l k 3 hlt (by omega))
          have hok := ho l[k] (List.getElem_mem hlt)
          obtain ⟨e, hE⟩ : ∃ e, l[k] = e := ⟨_, rfl⟩
          rw [hE] at e0 e1 e2 e3 hok
          replace hE := Lib.hid hE
          obtain ⟨ea, el, eh, en⟩ := e
          simp only [Ent.cells, Ent.ok, List.getElem?_cons_zero, List.getElem?_cons_succ, List.getElem_cons_zero, List.getElem_cons_succ, ← Nat.add_assoc, Nat.add_zero] at e0 e1 e2 e3 hok
          clear hcell
          have kR := hR.alloc (.cells #[.int .u32 ea, .int .i64 el, .int .i64 eh, .int .i64 en] 32)
          have kw : Below w.heap.size w (wr.alloc (.cells #[.int .u32 ea, .int .i64 el, .int .i64 eh, .int .i64 en] 32)) := hw.alloc hw.size _
          have hRlt := hR.lt
          by_cases h1 : el = (m : Int)
          · subst h1
            by_cases h2 : eh = 0
            · subst h2
              have HN := Lib.hid (find_take l (fitB x m) k hlt hnone.out (by rw [hE.out]; simp [fitB, *]))
              go_wp2
              go_roundw
              case rel => exact ⟨k + 1, by omega, by go_num, HN.out, kR, kw⟩
              case measure => simp [intOf]; omega
            · have h2' : (eh != 0) = true := by simpa using h2
              go_wp2_with fail
              refine (law02_Has _ _ _ _ hok hx).mono ?_
              rintro e w2 ⟨rfl, hb2⟩
              replace kR := kR.below' hb2
              replace kw := below_step kw (by have := hw.size; simp; omega) hb2
              have kE := (Blk.new wr 32 #[.int .u32 ea, .int .i64 (m : Int), .int .i64 eh, .int .i64 en]).below' hb2
              clear hb2 hR hw e0 e1 e2 e3
              cases hh : hasB ea m x with
              | false =>
                have HN := Lib.hid (find_take l (fitB x m) k hlt hnone.out (by rw [hE.out]; simp [fitB, *]))
                go_wp2
                go_roundw
                case rel => exact ⟨k + 1, by omega, by go_num, HN.out, kR, kw⟩
                case measure => simp [intOf]; omega
              | true =>
                have HS := Lib.hid (lawFrom_some l x m k hlt hnone.out (by rw [hE.out]; simp [fitB, *]))
                have r0 := kR.cell 0
                have r1 := kR.cell 1
                have r2 := kR.cell 2
                have r3 := kR.cell 3
                have rf0 := kR.frozen 0
                have rf1 := kR.frozen 1
                have rf2 := kR.frozen 2
                have rf3 := kR.frozen 3
                simp only [List.getElem?_toArray, List.getElem?_cons_zero, List.getElem?_cons_succ] at r0 r1 r2 r3
                have e0 := kE.cell 0
                have e1 := kE.cell 1
                have e2 := kE.cell 2
                have e3 := kE.cell 3
                have ef0 := kE.frozen 0
                have ef1 := kE.frozen 1
                have ef2 := kE.frozen 2
                have ef3 := kE.frozen 3
                simp only [List.getElem?_toArray, List.getElem?_cons_zero, List.getElem?_cons_succ] at e0 e1 e2 e3
                go_wp2
                have kF := (((kR.set 0 (.int .u32 ea)).set 1 (.int .i64 (m : Int))).set 2 (.int .i64 eh)).set 3 (.int .i64 en)
                simp only [List.setIfInBounds_toArray, List.set_cons_zero, List.set_cons_succ] at kF
                have z0 := kF.cell 0
                have z1 := kF.cell 1
                have z2 := kF.cell 2
                have z3 := kF.cell 3
                have zf0 := kF.frozen 0
                have zf1 := kF.frozen 1
                have zf2 := kF.frozen 2
                have zf3 := kF.frozen 3
                simp only [List.getElem?_toArray, List.getElem?_cons_zero, List.getElem?_cons_succ] at z0 z1 z2 z3
                refine bodyPost_ret (v := .agg (Ent.arr ⟨ea, m, eh, en⟩)) (by simp [results, Try.results19, go_sem, Ent.arr, z0, z1, z2, z3]) rfl ⟨by rw [hfrom.out, HS.out, hE.out], ?_⟩
                exact (((kw.setCell (p := ⟨w.heap.size, 0, none⟩) (Nat.le_refl _) _).setCell (p := ⟨w.heap.size, 1, none⟩) (Nat.le_refl _) _).setCell (p := ⟨w.heap.size, 2, none⟩) (Nat.le_refl _) _).setCell (p := ⟨w.heap.size, 3, none⟩) (Nat.le_refl _) _
          · have h1' : (el == (m : Int)) = false := by simpa using h1
            clear h1
            have HN := Lib.hid (find_take l (fitB x m) k hlt hnone.out (by rw [hE.out]; simp [fitB, *]))
            go_wp2
            go_roundw
            case rel => exact ⟨k + 1, by omega, by go_num, HN.out, kR, kw⟩
            case measure => simp [intOf]; omega
        · obtain rfl : k = l.length := by omega
          have HN := hnone.out
          rw [List.take_length] at HN
          have HF := Lib.hid (hfrom.out.trans (lawFrom_none l x m HN))
          clear HN
          go_wp2
          go_roundw
          case rel => exact ⟨m, by omega, rfl, HF.out, hR, hw⟩
          case measure => simp [intOf]; omega
end Go.Proofs.Ytgmdjhokcipajaa
