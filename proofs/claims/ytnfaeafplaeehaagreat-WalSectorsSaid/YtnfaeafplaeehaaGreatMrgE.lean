/- own texts of this claim, one behind the other: see the remarks within -/
import Derived.Test.YtnfaeafplaeehaaGreatMrgA
import Derived.OpenShut
import Derived.Deep.Slices
import Derived.SizedLaws
section
set_option linter.unusedVariables false
set_option linter.unusedSimpArgs false
namespace Go.Proofs.YtnfaeafplaeehaaGreat
open Go.RowKit Go.ChangeShapes Go.WideShapes Go.Deep

/-- What is known of the cells of a value that came in and could be read: their kinds, and that all sizes are within the reach. -/
def Op (P : Program) (W : World) : Nat → TypeId → List Value → Prop
  | 0, _, _ => False
  | n + 1, t, cs =>
    match P.underlying t with
    | some .bool => ∃ b, cs = [.bool b]
    | some (.int k) => ∃ x, cs = [.int k x] ∧ (Lit.int k x).wf = true
    | some .string => ∃ s : ByteArray, cs = [.string s] ∧ s.size ≤ 140737488351232
    | some (.slice e) => cs = [.slice none 0 0] ∨ ∃ (a : Addr) (len cap : Nat), cs = [.slice (some a) len cap] ∧ len ≤ cap ∧ len * P.bytesOf e ≤ 140737488351232 ∧
        ∀ i, i < len → ∃ cs', W.cells? 0 (a.add (i * P.cellsOf e)) (P.cellsOf e) = some cs' ∧ Op P W n e cs'
    | some (.struct fs) => cs.length = P.cellsOf t ∧ ∀ (i : Nat) (f : Field), fs[i]? = some f → Op P W n f.type ((cs.drop f.offset).take (P.cellsOf f.type))
    | some (.array k e) => cs.length = P.cellsOf t ∧ ∀ i, i < k → Op P W n e ((cs.drop (i * P.cellsOf e)).take (P.cellsOf e))
    | _ => True

section
variable {H : Type} {enc : TypeId × Value → H} {P : Program} {W : World}
theorem weightsAll_mem {e : TypeId} : ∀ {l : List (DataW H)} {i : Nat} {d : DataW H}, l[i]? = some d → ∀ n ∈ d.weights P e, n ∈ DataW.weightsAll P e l
  | d0 :: l, 0, d, h, n, hn => by
    simp only [List.getElem?_cons_zero, Option.some.injEq] at h
    subst h
    simp only [DataW.weightsAll, List.mem_append]
    exact .inl hn
  | d0 :: l, i + 1, d, h, n, hn => by
    simp only [List.getElem?_cons_succ] at h
    simp only [DataW.weightsAll, List.mem_append]
    exact .inr (weightsAll_mem h n hn)
  | [], _, _, h, _, _ => by simp at h

theorem Op.of_trod {spare : Nat → Bool} {held : Bool} : ∀ (n : Nat) (t : TypeId) (cs : List Value) (d : DataW H) (ps : List MemPlace), DataW.trod enc P W 0 spare held n t cs = some (d, ps) →
    (∀ m ∈ d.weights P t, m ≤ 140737488351232) → Op P W n t cs := by
  intro n
  induction n with
  | zero => intro t cs d ps h; simp [DataW.trod] at h
  | succ n ih =>
    intro t cs d ps h hw
    unfold Op
    cases hu : P.underlying t with
    | none => trivial
    | some u =>
      cases u with
      | bool =>
        obtain ⟨b, rfl, _⟩ := DataW.trod_bool hu h
        exact ⟨b, rfl⟩
      | int k =>
        obtain ⟨x, rfl, _, hx⟩ := DataW.trod_int hu h
        exact ⟨x, rfl, hx⟩
      | string =>
        obtain ⟨s, rfl, hx, hs⟩ := DataW.trod_string hu h
        obtain ⟨rfl, -⟩ := Prod.mk.inj hx
        refine ⟨s, rfl, ?_⟩
        have := hw s.data.toList.length (by simp [DataW.weights])
        simpa using this
      | slice e =>
        rcases DataW.trod_slice hu h with ⟨rfl, _⟩ | ⟨a, len, cap, elems, rest, m, hn, rfl, hx, hb, hl, hm, hlen, hel, _⟩
        · exact .inl rfl
        · obtain rfl : m = n := by omega
          obtain ⟨rfl, -⟩ := Prod.mk.inj hx
          simp only [DataW.weights, hu, List.mem_cons, List.mem_append] at hw
          refine .inr ⟨a, len, cap, rfl, hl, ?_, fun i hi => ?_⟩
          · have h1 := hw _ (.inl rfl)
            simp only [List.length_map] at h1
            exact Nat.le_trans (Nat.mul_le_mul_right _ (by omega)) h1
          · have h1 := hel i hi
            rw [List.getElem?_eq_getElem (by omega)] at h1
            obtain ⟨cs', h2, h3⟩ := Option.bind_eq_some_iff.mp h1
            refine ⟨cs', h2, ih e cs' _ _ h3 fun m hm => hw m (.inr (.inl ?_))⟩
            exact weightsAll_mem (i := i) (by simp [List.getElem?_eq_getElem (show i < elems.length by omega)]) m hm
      | struct fs =>
        obtain ⟨xs, m, hn, hx, hl, hxl, hg⟩ := DataW.trod_struct hu h
        obtain rfl : m = n := by omega
        obtain ⟨rfl, -⟩ := Prod.mk.inj hx
        simp only [DataW.weights, hu] at hw
        refine ⟨hl, fun i f hf => ?_⟩
        have h1 := hg i f hf
        have hi : i < fs.size := (Array.getElem?_eq_some_iff.1 hf).1
        rw [List.getElem?_eq_getElem (by omega)] at h1
        refine ih f.type _ _ _ h1 fun m hm => hw m (DataW.weights_mem_each (j := i) (t := f.type) (d := (xs[i]'(by omega)).1) ?_ ?_ m hm)
        · simp [hf]
        · simp [List.getElem?_eq_getElem (show i < xs.length by omega)]
      | array k e =>
        obtain ⟨xs, m, hn, hx, hl, hxl, hg⟩ := DataW.trod_array hu h
        obtain rfl : m = n := by omega
        obtain ⟨rfl, -⟩ := Prod.mk.inj hx
        simp only [DataW.weights, hu] at hw
        refine ⟨hl, fun i hi => ?_⟩
        have h1 := hg i hi
        rw [List.getElem?_eq_getElem (by omega)] at h1
        exact ih e _ _ _ h1 fun m hm => hw m (weightsAll_mem (i := i) (by simp [List.getElem?_eq_getElem (show i < xs.length by omega)]) m hm)
      | _ => trivial

/-- The form in which a row hands it on. -/
def Opens (P : Program) (W : World) (t : TypeId) (v : Value) : Prop := ∃ n, Op P W n t v.cells.toList
theorem Opens.of_trod {spare : Nat → Bool} {held : Bool} {t : TypeId} {v : Value} {d : DataW H} {ps : List MemPlace} {ts : List TypeId} {ds : List (DataW H)} {j : Nat}
    (h : DataW.Trod enc P W 0 spare held t v d ps) (hsz : (DataW.weightsEach P ts ds).all (· ≤ reachBytes) = true) (ht : ts[j]? = some t) (hd : ds[j]? = some d) : Opens P W t v := by
  obtain ⟨n, h⟩ := h
  refine ⟨n, Op.of_trod n t _ d ps h fun m hm => ?_⟩
  have := List.all_eq_true.1 hsz m (DataW.weights_mem_each ht hd m hm)
  exact of_decide_eq_true this
end
/-- A choice for each place of a list. -/
theorem exists_list {α : Type} {p : Nat → α → Prop} : ∀ {n : Nat}, (∀ i, i < n → ∃ a, p i a) → ∃ l : List α, l.length = n ∧ ∀ i (h : i < l.length), p i l[i]
  | 0, _ => ⟨[], rfl, fun i h => by simp at h⟩
  | n + 1, h => by
    obtain ⟨l, hl, hp⟩ := exists_list (n := n) fun i hi => h i (by omega)
    obtain ⟨a, ha⟩ := h n (by omega)
    refine ⟨l ++ [a], by simp [hl], fun i hi => ?_⟩
    rw [List.getElem_append]
    split
    · exact hp i _
    · rename_i h1
      have : i = n := by simp at hi; omega
      subst this
      simpa [hl] using ha
end Go.Proofs.YtnfaeafplaeehaaGreat
end
section
set_option linter.unusedVariables false
set_option linter.unusedSimpArgs false
namespace Go.Proofs.YtnfaeafplaeehaaGreat
open Go.RowKit Go.ChangeShapes Go.WideShapes

theorem Op.int {P : Program} {W : World} {n : Nat} {t : TypeId} {k : IntKind} {cs : List Value} (hu : P.underlying t = some (.int k)) (h : Op P W n t cs) : ∃ x, cs = [.int k x] ∧ (Lit.int k x).wf = true := by
  cases n with
  | zero => exact h.elim
  | succ n => unfold Op at h; rw [hu] at h; exact h
theorem Op.bool {P : Program} {W : World} {n : Nat} {t : TypeId} {cs : List Value} (hu : P.underlying t = some .bool) (h : Op P W n t cs) : ∃ b, cs = [.bool b] := by
  cases n with
  | zero => exact h.elim
  | succ n => unfold Op at h; rw [hu] at h; exact h
theorem Op.struct {P : Program} {W : World} {n : Nat} {t : TypeId} {fs : Array Field} {cs : List Value} (hu : P.underlying t = some (.struct fs)) (h : Op P W n t cs) :
    cs.length = P.cellsOf t ∧ ∃ m, ∀ (i : Nat) (f : Field), fs[i]? = some f → Op P W m f.type ((cs.drop f.offset).take (P.cellsOf f.type)) := by
  cases n with
  | zero => exact h.elim
  | succ n => unfold Op at h; rw [hu] at h; exact ⟨h.1, n, h.2⟩

/-- A slice of plain cells: what each element is. -/
theorem Opens.slice {P : Program} {W : World} {t e : TypeId} {A : Option Addr} {n c : Nat} {B : Nat} (hu : P.underlying t = some (.slice e)) (hB : P.bytesOf e = B) (h : Opens P W t (.slice A n c)) :
    n * B ≤ 140737488351232 ∧ (0 < n → ∃ a, A = some a ∧ ∀ i, i < n → ∃ m cs', W.cells? 0 (a.add (i * P.cellsOf e)) (P.cellsOf e) = some cs' ∧ Op P W m e cs') := by
  obtain ⟨f, h⟩ := h
  cases f with
  | zero => exact h.elim
  | succ f =>
    unfold Op at h
    rw [hu] at h
    simp only [Value.cells] at h
    rcases h with h | ⟨a, len, cap, h, hlc, hlen, hel⟩
    · simp at h
      obtain ⟨rfl, rfl, rfl⟩ := h
      exact ⟨by simp, fun h => absurd h (by simp)⟩
    · simp at h
      obtain ⟨rfl, rfl, rfl⟩ := h
      rw [hB] at hlen
      refine ⟨hlen, fun _ => ⟨a, rfl, fun i hi => ?_⟩⟩
      obtain ⟨cs', h1, h2⟩ := hel i hi
      exact ⟨f, cs', h1, h2⟩
/-- A slice whose elements have one cell each, read as a row: 'p' tells what an element is, 'g' its cell. -/
theorem Opens.row1 {P : Program} {W : World} {t e : TypeId} {A : Option Addr} {n c : Nat} {B : Nat} {α : Type} (g : α → Value) (p : α → Prop) (hu : P.underlying t = some (.slice e)) (hB : P.bytesOf e = B) (hB1 : 1 ≤ B) (hC : P.cellsOf e = 1)
    (hp : ∀ m cs', Op P W m e cs' → ∃ x, cs' = [g x] ∧ p x) (h : Opens P W t (.slice A n c)) :
    ∃ l : List α, l.length = n ∧ (∀ x ∈ l, p x) ∧ Row W 1 A n (l.map g) ∧ n * B ≤ 140737488351232 := by
  obtain ⟨hn, hel⟩ := Opens.slice hu hB h
  have hn' : n ≤ 140737488351232 := Nat.le_trans (by exact Nat.le_mul_of_pos_right n hB1) hn
  rcases Nat.eq_zero_or_pos n with rfl | h0
  · exact ⟨[], rfl, fun x hx => by simp at hx, ⟨rfl, by decide, fun h => absurd h (by simp)⟩, hn⟩
  · obtain ⟨a, rfl, hcs⟩ := hel h0
    have key : ∀ i, i < n → ∃ x : α, W.cell? (a.add i) = some (g x) ∧ p x := by
      intro i hi
      obtain ⟨m, cs', h1, h2⟩ := hcs i hi
      rw [hC] at h1
      obtain ⟨x, rfl, hx⟩ := hp m cs' h2
      obtain ⟨_, hcl, hat⟩ := World.cells?_some h1
      have := hat 0 (by omega)
      exact ⟨x, by simpa [Nat.mul_one, Addr.add] using this, hx⟩
    obtain ⟨l, hl, hq⟩ := exists_list key
    subst hl
    refine ⟨l, rfl, fun x hx => ?_, ⟨by simp, hn', fun _ => ?_⟩, hn⟩
    · obtain ⟨i, hi, rfl⟩ := List.mem_iff_getElem.mp hx
      exact (hq i hi).2
    · obtain ⟨c0, -⟩ := hq 0 h0
      have hs : a.spot = none := by
        cases hs : a.spot with
        | none => rfl
        | some s => simp [World.cell?, Addr.add, hs] at c0; split at c0 <;> simp at c0
      obtain ⟨b, off, sp⟩ := a
      simp only at hs
      subst hs
      refine ⟨b, off, rfl, World.block_lt_of_cell? W _ c0, fun j u hj => ?_⟩
      have hjl : j < l.length := by
        rcases Nat.lt_or_ge j l.length with h | h
        · exact h
        · rw [List.getElem?_eq_none (by simpa using h)] at hj; cases hj
      rw [List.getElem?_map, List.getElem?_eq_getElem hjl] at hj
      obtain rfl := Option.some.inj hj
      obtain ⟨c1, -⟩ := hq j hjl
      rw [← c1]
      congr 1
      unfold Addr.add
      split <;> simp_all
/-- A slice whose elements have 'm' cells each, read as a row: 'p' tells what an element is, 'g' its cells. -/
theorem Opens.rowm {P : Program} {W : World} {t e : TypeId} {A : Option Addr} {n c : Nat} {B M : Nat} {α : Type} (g : α → List Value) (p : α → Prop) (hg : ∀ x, (g x).length = M) (hM : 1 ≤ M) (hu : P.underlying t = some (.slice e)) (hB : P.bytesOf e = B) (hB1 : 1 ≤ B) (hC : P.cellsOf e = M)
    (hp : ∀ m cs', Op P W m e cs' → ∃ x, cs' = g x ∧ p x) (h : Opens P W t (.slice A n c)) :
    ∃ l : List α, l.length = n ∧ (∀ x ∈ l, p x) ∧ Row W M A n (l.flatMap g) ∧ n * B ≤ 140737488351232 := by
  obtain ⟨hn, hel⟩ := Opens.slice hu hB h
  have hn' : n ≤ 140737488351232 := Nat.le_trans (by exact Nat.le_mul_of_pos_right n hB1) hn
  rcases Nat.eq_zero_or_pos n with rfl | h0
  · exact ⟨[], rfl, fun x hx => by simp at hx, ⟨by simp, by decide, fun h => absurd h (by simp)⟩, hn⟩
  · obtain ⟨a, rfl, hcs⟩ := hel h0
    have key : ∀ i, i < n → ∃ x : α, (∀ j, j < M → W.cell? (a.add (i * M + j)) = (g x)[j]?) ∧ p x := by
      intro i hi
      obtain ⟨m, cs', h1, h2⟩ := hcs i hi
      rw [hC] at h1
      obtain ⟨x, rfl, hx⟩ := hp m cs' h2
      obtain ⟨_, hcl, hat⟩ := World.cells?_some h1
      refine ⟨x, fun j hj => ?_, hx⟩
      rw [← hat j hj, Deep.add_add]
    obtain ⟨l, hl, hq⟩ := exists_list key
    subst hl
    have hcell : ∀ j, j < l.length * M → W.cell? (a.add j) = (l.flatMap g)[j]? := by
      intro j hj
      have hM0 : 0 < M := hM
      have hi : j / M < l.length := Nat.div_lt_of_lt_mul (by rw [Nat.mul_comm]; exact hj)
      have hr : j % M < M := Nat.mod_lt _ hM0
      have e : j = j / M * M + j % M := by rw [Nat.mul_comm]; exact (Nat.div_add_mod j M).symm
      have h1 := (hq (j / M) hi).1 (j % M) hr
      rw [← flat_get g M hg l (j / M) (j % M) hi hr, ← e] at h1
      exact h1
    refine ⟨l, rfl, fun x hx => ?_, ⟨flat_len g M hg l, hn', fun _ => ?_⟩, hn⟩
    · obtain ⟨i, hi, rfl⟩ := List.mem_iff_getElem.mp hx
      exact (hq i hi).2
    · have hlt0 : 0 < (l.flatMap g).length := by rw [flat_len g M hg l]; exact Nat.mul_pos h0 hM
      have c0 := hcell 0 (Nat.mul_pos h0 hM)
      rw [List.getElem?_eq_getElem hlt0] at c0
      have hs : a.spot = none := by
        cases hs : a.spot with
        | none => rfl
        | some s => simp [World.cell?, Addr.add, hs] at c0; split at c0 <;> simp at c0
      obtain ⟨b, off, sp⟩ := a
      simp only at hs
      subst hs
      refine ⟨b, off, rfl, World.block_lt_of_cell? W _ c0, fun j u hj => ?_⟩
      have hjl : j < l.length * M := by
        rcases Nat.lt_or_ge j (l.length * M) with h | h
        · exact h
        · rw [List.getElem?_eq_none (by rw [flat_len g M hg l]; exact h)] at hj; cases hj
      rw [← hj, ← hcell j hjl]
      congr 1
      unfold Addr.add
      split <;> simp_all
end Go.Proofs.YtnfaeafplaeehaaGreat
end
section
set_option maxRecDepth 100000
set_option linter.unusedVariables false
set_option linter.unusedSimpArgs false
namespace Go.Proofs.YtnfaeafplaeehaaGreat
open Go.RowKit Go.ChangeShapes Go.WideShapes

theorem Op.prefix_ {W : World} {n : Nat} {cs : List Value} (h : Op Tryz.prog W n 36 cs) : ∃ a l, cs = [.int .u32 a, .int .i64 l] ∧ (0 ≤ a ∧ a ≤ 4294967295) ∧ -9223372036854775808 ≤ l ∧ l ≤ 9223372036854775807 := by
  obtain ⟨hl, m, hf⟩ := Op.struct Tryz.underlying36 h
  rw [show Tryz.prog.cellsOf 36 = 2 by kernel_rfl] at hl
  match cs, hl with
  | [a, b], _ =>
    have h0 : Op Tryz.prog W m 31 (([a, b].drop 0).take (Tryz.prog.cellsOf 31)) := hf 0 _ rfl
    have h1 : Op Tryz.prog W m 3 (([a, b].drop 1).take (Tryz.prog.cellsOf 3)) := hf 1 _ rfl
    rw [show Tryz.prog.cellsOf 31 = 1 by kernel_rfl] at h0
    rw [show Tryz.prog.cellsOf 3 = 1 by kernel_rfl] at h1
    obtain ⟨x, hx, wx⟩ := Op.int Tryz.underlying31 h0
    obtain ⟨y, hy, wy⟩ := Op.int Tryz.underlying3 h1
    simp at hx hy
    subst hx; subst hy
    exact ⟨x, y, rfl, bounds_u32 wx, bounds_i64 wy⟩
end Go.Proofs.YtnfaeafplaeehaaGreat
end
section
set_option maxRecDepth 100000
set_option linter.unusedVariables false
set_option linter.unusedSimpArgs false
namespace Go.Proofs.YtnfaeafplaeehaaGreat
open Go.RowKit Go.ChangeShapes Go.WideShapes

theorem Op.dist {W : World} {n : Nat} {cs : List Value} (h : Op Tryz.prog W n 39 cs) : ∃ s m, cs = [.int .u32 s, .int .u16 m] ∧ (0 ≤ s ∧ s ≤ 4294967295) ∧ 0 ≤ m ∧ m ≤ 65535 := by
  obtain ⟨hl, m, hf⟩ := Op.struct Tryz.underlying39 h
  rw [show Tryz.prog.cellsOf 39 = 2 by kernel_rfl] at hl
  match cs, hl with
  | [a, b], _ =>
    have h0 : Op Tryz.prog W m 31 (([a, b].drop 0).take (Tryz.prog.cellsOf 31)) := hf 0 _ rfl
    have h1 : Op Tryz.prog W m 37 (([a, b].drop 1).take (Tryz.prog.cellsOf 37)) := hf 1 _ rfl
    rw [show Tryz.prog.cellsOf 31 = 1 by kernel_rfl] at h0
    rw [show Tryz.prog.cellsOf 37 = 1 by kernel_rfl] at h1
    obtain ⟨x, hx, wx⟩ := Op.int Tryz.underlying31 h0
    obtain ⟨y, hy, wy⟩ := Op.int Tryz.underlying37 h1
    simp at hx hy
    subst hx; subst hy
    exact ⟨x, y, rfl, bounds_u32 wx, bounds_u16 wy⟩
theorem Opens.dist {W : World} {b0 : Nat} {v : Value} (hv : Value.okWide Tryz.prog W .any b0 39 v) (h : Opens Tryz.prog W 39 v) :
    ∃ s m, v = .agg #[.int .u32 s, .int .u16 m] ∧ (0 ≤ s ∧ s ≤ 4294967295) ∧ 0 ≤ m ∧ m ≤ 65535 := by
  obtain ⟨cs, rfl, _⟩ := okWide_struct Tryz.underlying39 hv
  obtain ⟨n, h⟩ := h
  obtain ⟨s, m, hcs, hs, hm⟩ := Op.dist h
  refine ⟨s, m, ?_, hs, hm⟩
  congr 1
  exact Array.ext' (by simpa [Value.cells] using hcs)
end Go.Proofs.YtnfaeafplaeehaaGreat
end
section
set_option maxRecDepth 100000
set_option linter.unusedVariables false
set_option linter.unusedSimpArgs false
namespace Go.Proofs.YtnfaeafplaeehaaGreat
open Go.RowKit Go.ChangeShapes Go.WideShapes

theorem Op.rec_ {W : World} {n : Nat} {cs : List Value} (h : Op Tryz.prog W n 41 cs) : ∃ r : Rec, cs = r.cells ∧ r.ok := by
  obtain ⟨hl, m, hf⟩ := Op.struct Tryz.underlying41 h
  rw [show Tryz.prog.cellsOf 41 = 9 by kernel_rfl] at hl
  match cs, hl with
  | [c0, c1, c2, c3, c4, c5, c6, c7, c8], _ =>
    have h0 : Op Tryz.prog W m 34 (([c0, c1, c2, c3, c4, c5, c6, c7, c8].drop 0).take (Tryz.prog.cellsOf 34)) := hf 0 _ rfl
    rw [show Tryz.prog.cellsOf 34 = 1 by kernel_rfl] at h0
    have h1 : Op Tryz.prog W m 31 (([c0, c1, c2, c3, c4, c5, c6, c7, c8].drop 1).take (Tryz.prog.cellsOf 31)) := hf 1 _ rfl
    rw [show Tryz.prog.cellsOf 31 = 1 by kernel_rfl] at h1
    have h2 : Op Tryz.prog W m 31 (([c0, c1, c2, c3, c4, c5, c6, c7, c8].drop 2).take (Tryz.prog.cellsOf 31)) := hf 2 _ rfl
    rw [show Tryz.prog.cellsOf 31 = 1 by kernel_rfl] at h2
    have h3 : Op Tryz.prog W m 31 (([c0, c1, c2, c3, c4, c5, c6, c7, c8].drop 3).take (Tryz.prog.cellsOf 31)) := hf 3 _ rfl
    rw [show Tryz.prog.cellsOf 31 = 1 by kernel_rfl] at h3
    have h4 : Op Tryz.prog W m 36 (([c0, c1, c2, c3, c4, c5, c6, c7, c8].drop 4).take (Tryz.prog.cellsOf 36)) := hf 4 _ rfl
    rw [show Tryz.prog.cellsOf 36 = 2 by kernel_rfl] at h4
    have h5 : Op Tryz.prog W m 4 (([c0, c1, c2, c3, c4, c5, c6, c7, c8].drop 6).take (Tryz.prog.cellsOf 4)) := hf 5 _ rfl
    rw [show Tryz.prog.cellsOf 4 = 1 by kernel_rfl] at h5
    have h6 : Op Tryz.prog W m 39 (([c0, c1, c2, c3, c4, c5, c6, c7, c8].drop 7).take (Tryz.prog.cellsOf 39)) := hf 6 _ rfl
    rw [show Tryz.prog.cellsOf 39 = 2 by kernel_rfl] at h6
    obtain ⟨x0, e0, w0⟩ := Op.int Tryz.underlying34 h0
    obtain ⟨x1, e1, w1⟩ := Op.int Tryz.underlying31 h1
    obtain ⟨x2, e2, w2⟩ := Op.int Tryz.underlying31 h2
    obtain ⟨x3, e3, w3⟩ := Op.int Tryz.underlying31 h3
    obtain ⟨x4, x5, e4, w4, w5⟩ := Op.prefix_ h4
    obtain ⟨x6, e5⟩ := Op.bool Tryz.underlying4 h5
    obtain ⟨x7, x8, e6, w7, w8⟩ := Op.dist h6
    simp at e0 e1 e2 e3 e4 e5 e6
    obtain ⟨rfl, rfl⟩ := e4
    obtain ⟨rfl, rfl⟩ := e6
    subst e0; subst e1; subst e2; subst e3; subst e5
    exact ⟨⟨x0, x1, x2, x3, x4, x5, x6, x7, x8⟩, rfl, bounds_i64 w0, bounds_u32 w1, bounds_u32 w2, bounds_u32 w3, w4, w5, w7, w8⟩
theorem Opens.recs {W : World} {b0 : Nat} {v : Value} (hv : Value.okWide Tryz.prog W .any b0 22 v) (h : Opens Tryz.prog W 22 v) : ∃ l A c, v = .slice A (List.length l) c ∧ Row W 9 A l.length (recs l) ∧ RecsOk l := by
  obtain ⟨A, n, c, rfl⟩ := okWide_slice Tryz.underlying22 hv
  obtain ⟨l, rfl, ho, hr, -⟩ := Opens.rowm (B := 56) (M := 9) Rec.cells Rec.ok (fun _ => rfl) (by omega) Tryz.underlying22 (by kernel_rfl) (by omega) (by kernel_rfl) (fun m cs' hx => Op.rec_ hx) h
  exact ⟨l, A, c, rfl, hr, ho⟩
end Go.Proofs.YtnfaeafplaeehaaGreat
end
section
set_option maxRecDepth 100000
set_option linter.unusedVariables false
set_option linter.unusedSimpArgs false
namespace Go.Proofs.YtnfaeafplaeehaaGreat
open Go.RowKit Go.ChangeShapes Go.WideShapes

theorem Opens.int {W : World} {b0 : Nat} {v : Value} (hv : Value.okWide Tryz.prog W .any b0 3 v) (h : Opens Tryz.prog W 3 v) : ∃ x, v = .int .i64 x ∧ -9223372036854775808 ≤ x ∧ x ≤ 9223372036854775807 := by
  obtain ⟨x, rfl⟩ := okWide_int Tryz.underlying3 hv
  obtain ⟨n, h⟩ := h
  obtain ⟨y, hy, wy⟩ := Op.int Tryz.underlying3 h
  simp [Value.cells] at hy
  subst hy
  exact ⟨x, rfl, bounds_i64 wy⟩
theorem Opens.u32 {W : World} {b0 : Nat} {v : Value} (hv : Value.okWide Tryz.prog W .any b0 31 v) (h : Opens Tryz.prog W 31 v) : ∃ x, v = .int .u32 x ∧ 0 ≤ x ∧ x ≤ 4294967295 := by
  obtain ⟨x, rfl⟩ := okWide_int Tryz.underlying31 hv
  obtain ⟨n, h⟩ := h
  obtain ⟨y, hy, wy⟩ := Op.int Tryz.underlying31 h
  simp [Value.cells] at hy
  subst hy
  exact ⟨x, rfl, bounds_u32 wy⟩
end Go.Proofs.YtnfaeafplaeehaaGreat
end
