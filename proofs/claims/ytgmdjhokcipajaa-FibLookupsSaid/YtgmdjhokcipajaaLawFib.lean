import Derived.Test.YtgmdjhokcipajaaLaw10
import Derived.Test.YtgmdjhokcipajaaOpenDist
set_option linter.unusedVariables false
set_option linter.unusedSimpArgs false
namespace Go.Proofs.Ytgmdjhokcipajaa
open Go.RowKit Go.ChangeShapes Go.WideShapes

def candB (x : Int) (e : Ent) : Bool := hasB e.a e.l x && e.h != 0
theorem hasB_len {a l x : Int} (h : hasB a l x = true) : 0 ≤ l ∧ l ≤ 32 := by
  simp only [hasB, rightB, Bool.and_eq_true, decide_eq_true_eq] at h
  omega
def stepM (x : Int) (m : Nat) (g e : Ent) : Ent := if candB x e && decide (e.l < m) && (g.h == 0 || decide (g.l < e.l)) then e else g
theorem fit_iff (x n : Int) (e : Ent) : fitB x n e = true ↔ e.l = n ∧ candB x e = true := by
  simp [fitB, candB]
  constructor
  · rintro ⟨⟨a, b⟩, c⟩; exact ⟨a, c, b⟩
  · rintro ⟨a, c, b⟩; exact ⟨⟨a, b⟩, c⟩
theorem lawFrom_is (l : List Ent) (x : Int) : ∀ m : Nat, lawFrom l x m = Ent.zero ∨ ((lawFrom l x m).h ≠ 0 ∧ (lawFrom l x m).l < m)
  | 0 => .inl rfl
  | m + 1 => by
    cases hf : l.find? (fitB x m) with
    | none =>
      rw [lawFrom_none l x m hf]
      rcases lawFrom_is l x m with h | h
      · exact .inl h
      · exact .inr ⟨h.1, by omega⟩
    | some e =>
      simp only [lawFrom, hf]
      have := List.find?_some hf
      rw [fit_iff] at this
      simp only [candB, Bool.and_eq_true, bne_iff_ne] at this
      exact .inr ⟨this.2.2, by omega⟩
theorem lawFrom_snoc (l : List Ent) (e : Ent) (x : Int) : ∀ m : Nat, lawFrom (l ++ [e]) x m = stepM x m (lawFrom l x m) e
  | 0 => by
    show Ent.zero = stepM x 0 Ent.zero e
    unfold stepM
    rw [if_neg]
    intro h
    simp only [Bool.and_eq_true, decide_eq_true_eq, candB] at h
    have := hasB_len h.1.1.1
    omega
  | m + 1 => by
    cases hf : l.find? (fitB x m) with
    | some f =>
      have h1 : (l ++ [e]).find? (fitB x m) = some f := by rw [List.find?_append, hf]; rfl
      have h2 := List.find?_some hf
      rw [fit_iff] at h2
      simp only [candB, Bool.and_eq_true, bne_iff_ne] at h2
      simp only [lawFrom, h1, hf, stepM]
      rw [if_neg]
      intro h
      simp only [Bool.and_eq_true, Bool.or_eq_true, decide_eq_true_eq, beq_iff_eq] at h
      rcases h.2 with h3 | h3
      · exact h2.2.2 h3
      · omega
    | none =>
      rw [lawFrom_none l x m hf]
      cases he : fitB x m e with
      | true =>
        have h1 : (l ++ [e]).find? (fitB x m) = some e := by rw [List.find?_append, hf]; simp [he]
        rw [fit_iff] at he
        simp only [lawFrom, h1, stepM]
        rw [if_pos]
        simp only [Bool.and_eq_true, Bool.or_eq_true, decide_eq_true_eq, beq_iff_eq]
        refine ⟨⟨he.2, by omega⟩, ?_⟩
        rcases lawFrom_is l x m with h | h
        · exact .inl (by rw [h]; rfl)
        · exact .inr (by omega)
      | false =>
        have h1 : (l ++ [e]).find? (fitB x m) = none := by rw [List.find?_append, hf]; simp [he]
        rw [lawFrom_none _ x m h1, lawFrom_snoc l e x m]
        have hne : ¬ (e.l = (m : Int) ∧ candB x e = true) := by rw [← fit_iff]; simp [he]
        unfold stepM
        cases hc : candB x e with
        | false => simp
        | true =>
          have : ¬ e.l = (m : Int) := fun h => hne ⟨h, hc⟩
          have h2 : decide (e.l < (m : Int)) = decide (e.l < ((m + 1 : Nat) : Int)) := by rw [decide_eq_decide]; omega
          rw [h2]
theorem fib_law (l : List Ent) (x : Int) : ∀ k, k ≤ l.length → fibLookup (l.take k) x = lawFrom (l.take k) x 33
  | 0, _ => by simp [fibLookup, lawFrom]
  | k + 1, hk => by
    rw [fibLookup_take l x k (by omega), fib_law l x k (by omega), List.take_succ_eq_append_getElem (by omega), lawFrom_snoc]
    unfold fibStep stepM candB
    cases hh : hasB l[k].a l[k].l x with
    | false => simp
    | true =>
      have := hasB_len hh
      have h2 : decide (l[k].l < ((33 : Nat) : Int)) = true := by simp; omega
      rw [h2]
      simp
theorem fib_eq (l : List Ent) (x : Int) : fibLookup l x = lawFrom l x 33 := by
  have := fib_law l x l.length (Nat.le_refl _)
  rwa [List.take_length] at this

theorem field_How (a b c d : Value) (w : World) : (Instr.field 32 (.agg #[a, b, c, d]) 1).run Try.prog w = .ok c w := by kernel_rfl
theorem field_Next (a b c d : Value) (w : World) : (Instr.field 32 (.agg #[a, b, c, d]) 2).run Try.prog w = .ok d w := by kernel_rfl
def exF : List Ent := [⟨167772160, 8, 2, 1⟩, ⟨167837696, 16, 3, 0⟩]
theorem law10_head (w : World) : Calls Try.prog 17 #[] w fun e w' => e = .returned (.bool true) ∧ Below w.heap.size w w' := by
  have f1 := field_How
  have f2 := field_Next
  have r1 : fibLookup exF 167838211 = ⟨167837696, 16, 3, 0⟩ := by decide +kernel
  have r2 : fibLookup exF 167903232 = ⟨167772160, 8, 2, 1⟩ := by decide +kernel
  have r3 : fibLookup exF 0 = ⟨0, 0, 0, 0⟩ := by decide +kernel
  have R1 := Lib.hid r1
  have R2 := Lib.hid r2
  have R3 := Lib.hid r3
  clear r1 r2 r3
  have ok : EntsOk exF := by intro e he; simp [exF] at he; rcases he with rfl | rfl <;> simp [Ent.ok]
  go_enter Try.func17, Try.ntmps17
  go_wp2_with fail
  have hrow : Row (w.alloc (.cells #[.int .u32 167772160, .int .i64 8, .int .i64 2, .int .i64 1, .int .u32 167837696, .int .i64 16, .int .i64 3, .int .i64 0] 32)) 4 (some ⟨w.heap.size, 0, none⟩) exF.length (ents exF) :=
    Row.ofBlock (by decide) (by decide) (heap_new _ _) (fun j u h => by simpa [ents, exF, Ent.cells] using h)
  have hw : Below w.heap.size w (w.alloc (.cells #[.int .u32 167772160, .int .i64 8, .int .i64 2, .int .i64 1, .int .u32 167837696, .int .i64 16, .int .i64 3, .int .i64 0] 32)) := (Below.refl _ _).alloc (Nat.le_refl _) _
  refine (fib_Lookup exF _ _ _ _ hrow ok (by omega)).mono ?_
  rintro e w1 ⟨rfl, hb1⟩
  rw [R1.out]
  simp only [Ent.arr]
  go_wp2_with fail
  refine (fib_Lookup exF _ _ _ _ (hrow.below hb1) ok (by omega)).mono ?_
  rintro e w2 ⟨rfl, hb2⟩
  rw [R2.out]
  simp only [Ent.arr]
  go_wp2_with fail
  refine (fib_Lookup exF _ _ _ _ ((hrow.below hb1).below hb2) ok (by omega)).mono ?_
  rintro e w3 ⟨rfl, hb3⟩
  rw [R3.out]
  simp only [Ent.arr]
  go_wp2
  go_ret
  exact ⟨rfl, below_step (below_step (below_step hw hw.size hb1) (by have := hb1.size; have := hw.size; omega) hb2) (by have := hb1.size; have := hw.size; have := hb2.size; omega) hb3⟩

theorem FibLookups_all (l : List Ent) (A : Option Addr) (c : Nat) (x : Int) (w : World) (hr : Row w 4 A l.length (ents l)) (ho : EntsOk l) (hx : 0 ≤ x ∧ x ≤ 4294967295) :
    Calls Try.prog 4 #[.slice A l.length c, .int .u32 x] w fun e w' => e = .returned (.bool true) ∧ Below w.heap.size w w' := by
  have hn := hr.2.1
  by_cases hl : l.length ≤ 60
  · go_enter Try.func4, Try.ntmps4
    go_wp2_with fail
    refine (law10_head _).mono ?_
    rintro e w1 ⟨rfl, hb1⟩
    go_wp2_with fail
    refine (fib_Lookup l _ _ _ _ (hr.below hb1) ho hx).mono ?_
    rintro e w2 ⟨rfl, hb2⟩
    go_wp2_with fail
    refine (law10_Lookup l _ _ _ _ ((hr.below hb1).below hb2) ho hx).mono ?_
    rintro e w3 ⟨rfl, hb3⟩
    rw [fib_eq]
    simp only [Ent.arr]
    go_wp2
    go_ret
    exact ⟨by simp, below_step (below_step hb1 hb1.size hb2) (by have := hb1.size; have := hb2.size; omega) hb3⟩
  · go_enter Try.func4, Try.ntmps4
    go_wp2_with fail
    refine (law10_head _).mono ?_
    rintro e w1 ⟨rfl, hb1⟩
    go_wp2
    go_ret
    exact ⟨rfl, hb1⟩
end Go.Proofs.Ytgmdjhokcipajaa
