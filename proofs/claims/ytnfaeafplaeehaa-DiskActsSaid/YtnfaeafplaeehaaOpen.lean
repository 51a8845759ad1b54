import Derived.Test.YtnfaeafplaeehaaBase
import Derived.OpenShut
import Derived.Deep.Slices
import Derived.SizedLaws
set_option linter.unusedVariables false
set_option linter.unusedSimpArgs false
namespace Go.Proofs.Ytnfaeafplaeehaa
open Go.RowKit Go.ChangeShapes Go.WideShapes Go.Deep

/-- What is known of the cells of a value that came in and could be read: their kinds, and that all sizes are within the reach. -/
def Op (P : Program) (W : World) : Nat → TypeId → List Value → Prop
  | 0, _, _ => False
  | n + 1, t, cs =>
    match P.underlying t with
    | some .bool => ∃ b, cs = [.bool b]
    | some (.int k) => ∃ x, cs = [.int k x] ∧ (Lit.int k x).wf = true
    | some .string => ∃ s : ByteArray, cs = [.string s] ∧ s.size ≤ 140737488351232
    | some (.slice e) => cs = [.slice none 0 0] ∨ ∃ (a : Addr) (len cap : Nat), cs = [.slice (some a) len cap] ∧ len ≤ cap ∧ len * P.bytesOf e ≤ 140737488351232 ∧
        ∀ i, i < len → ∃ cs', W.cells? 0 (a.add (i * P.cellsOf e)) (P.cellsOf e) = some cs' ∧ Op P W n e cs'
    | some (.struct fs) => cs.length = P.cellsOf t ∧ ∀ (i : Nat) (f : Field), fs[i]? = some f → Op P W n f.type ((cs.drop f.offset).take (P.cellsOf f.type))
    | some (.array k e) => cs.length = P.cellsOf t ∧ ∀ i, i < k → Op P W n e ((cs.drop (i * P.cellsOf e)).take (P.cellsOf e))
    | _ => True

section
variable {H : Type} {enc : TypeId × Value → H} {P : Program} {W : World}
theorem weightsAll_mem {e : TypeId} : ∀ {l : List (DataW H)} {i : Nat} {d : DataW H}, l[i]? = some d → ∀ n ∈ d.weights P e, n ∈ DataW.weightsAll P e l
  | d0 :: l, 0, d, h, n, hn => by
    simp only [List.getElem?_cons_zero, Option.some.injEq] at h
    subst h
    simp only [DataW.weightsAll, List.mem_append]
    exact .inl hn
  | d0 :: l, i + 1, d, h, n, hn => by
    simp only [List.getElem?_cons_succ] at h
    simp only [DataW.weightsAll, List.mem_append]
    exact .inr (weightsAll_mem h n hn)
  | [], _, _, h, _, _ => by simp at h

theorem Op.of_trod {spare : Nat → Bool} {held : Bool} : ∀ (n : Nat) (t : TypeId) (cs : List Value) (d : DataW H) (ps : List MemPlace), DataW.trod enc P W 0 spare held n t cs = some (d, ps) →
    (∀ m ∈ d.weights P t, m ≤ 140737488351232) → Op P W n t cs := by
  intro n
  induction n with
  | zero => intro t cs d ps h; simp [DataW.trod] at h
  | succ n ih =>
    intro t cs d ps h hw
    unfold Op
    cases hu : P.underlying t with
    | none => trivial
    | some u =>
      cases u with
      | bool =>
        obtain ⟨b, rfl, _⟩ := DataW.trod_bool hu h
        exact ⟨b, rfl⟩
      | int k =>
        obtain ⟨x, rfl, _, hx⟩ := DataW.trod_int hu h
        exact ⟨x, rfl, hx⟩
      | string =>
        obtain ⟨s, rfl, hx, hs⟩ := DataW.trod_string hu h
        obtain ⟨rfl, -⟩ := Prod.mk.inj hx
        refine ⟨s, rfl, ?_⟩
        have := hw s.data.toList.length (by simp [DataW.weights])
        simpa using this
      | slice e =>
        rcases DataW.trod_slice hu h with ⟨rfl, _⟩ | ⟨a, len, cap, elems, rest, m, hn, rfl, hx, hb, hl, hm, hlen, hel, _⟩
        · exact .inl rfl
        · obtain rfl : m = n := by omega
          obtain ⟨rfl, -⟩ := Prod.mk.inj hx
          simp only [DataW.weights, hu, List.mem_cons, List.mem_append] at hw
          refine .inr ⟨a, len, cap, rfl, hl, ?_, fun i hi => ?_⟩
          · have h1 := hw _ (.inl rfl)
            simp only [List.length_map] at h1
            exact Nat.le_trans (Nat.mul_le_mul_right _ (by omega)) h1
          · have h1 := hel i hi
            rw [List.getElem?_eq_getElem (by omega)] at h1
            obtain ⟨cs', h2, h3⟩ := Option.bind_eq_some_iff.mp h1
            refine ⟨cs', h2, ih e cs' _ _ h3 fun m hm => hw m (.inr (.inl ?_))⟩
            exact weightsAll_mem (i := i) (by simp [List.getElem?_eq_getElem (show i < elems.length by omega)]) m hm
      | struct fs =>
        obtain ⟨xs, m, hn, hx, hl, hxl, hg⟩ := DataW.trod_struct hu h
        obtain rfl : m = n := by omega
        obtain ⟨rfl, -⟩ := Prod.mk.inj hx
        simp only [DataW.weights, hu] at hw
        refine ⟨hl, fun i f hf => ?_⟩
        have h1 := hg i f hf
        have hi : i < fs.size := (Array.getElem?_eq_some_iff.1 hf).1
        rw [List.getElem?_eq_getElem (by omega)] at h1
        refine ih f.type _ _ _ h1 fun m hm => hw m (DataW.weights_mem_each (j := i) (t := f.type) (d := (xs[i]'(by omega)).1) ?_ ?_ m hm)
        · simp [hf]
        · simp [List.getElem?_eq_getElem (show i < xs.length by omega)]
      | array k e =>
        obtain ⟨xs, m, hn, hx, hl, hxl, hg⟩ := DataW.trod_array hu h
        obtain rfl : m = n := by omega
        obtain ⟨rfl, -⟩ := Prod.mk.inj hx
        simp only [DataW.weights, hu] at hw
        refine ⟨hl, fun i hi => ?_⟩
        have h1 := hg i hi
        rw [List.getElem?_eq_getElem (by omega)] at h1
        exact ih e _ _ _ h1 fun m hm => hw m (weightsAll_mem (i := i) (by simp [List.getElem?_eq_getElem (show i < xs.length by omega)]) m hm)
      | _ => trivial

/-- The form in which a row hands it on. -/
def Opens (P : Program) (W : World) (t : TypeId) (v : Value) : Prop := ∃ n, Op P W n t v.cells.toList
theorem Opens.of_trod {spare : Nat → Bool} {held : Bool} {t : TypeId} {v : Value} {d : DataW H} {ps : List MemPlace} {ts : List TypeId} {ds : List (DataW H)} {j : Nat}
    (h : DataW.Trod enc P W 0 spare held t v d ps) (hsz : (DataW.weightsEach P ts ds).all (· ≤ reachBytes) = true) (ht : ts[j]? = some t) (hd : ds[j]? = some d) : Opens P W t v := by
  obtain ⟨n, h⟩ := h
  refine ⟨n, Op.of_trod n t _ d ps h fun m hm => ?_⟩
  have := List.all_eq_true.1 hsz m (DataW.weights_mem_each ht hd m hm)
  exact of_decide_eq_true this
end
/-- A choice for each place of a list. -/
theorem exists_list {α : Type} {p : Nat → α → Prop} : ∀ {n : Nat}, (∀ i, i < n → ∃ a, p i a) → ∃ l : List α, l.length = n ∧ ∀ i (h : i < l.length), p i l[i]
  | 0, _ => ⟨[], rfl, fun i h => by simp at h⟩
  | n + 1, h => by
    obtain ⟨l, hl, hp⟩ := exists_list (n := n) fun i hi => h i (by omega)
    obtain ⟨a, ha⟩ := h n (by omega)
    refine ⟨l ++ [a], by simp [hl], fun i hi => ?_⟩
    rw [List.getElem_append]
    split
    · exact hp i _
    · rename_i h1
      have : i = n := by simp at hi; omega
      subst this
      simpa [hl] using ha
end Go.Proofs.Ytnfaeafplaeehaa
