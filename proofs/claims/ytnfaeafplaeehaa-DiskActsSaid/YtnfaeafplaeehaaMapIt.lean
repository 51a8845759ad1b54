import Derived.Test.YtnfaeafplaeehaaMapDel
import Derived.Test.YtnfaeafplaeehaaSeq
set_option linter.unusedVariables false
set_option linter.unusedSimpArgs false
namespace Go.Proofs.Ytnfaeafplaeehaa
open Go.RowKit Go.ChangeMaps
/-! A map's entries while one walks over them. -/
theorem entry_of {α β : Type} {ek : α → Value} {ev : β → Value} {es : List MapEntry} {m : List (α × β)} (h : es.map (fun e => (e.key, e.val)) = m.map (fun x => (ek x.1, ev x.2))) {e : MapEntry} (he : e ∈ es) : ∃ x ∈ m, e.key = ek x.1 ∧ e.val = ev x.2 := by
  have : (e.key, e.val) ∈ m.map (fun x => (ek x.1, ev x.2)) := h ▸ List.mem_map_of_mem (f := fun e : MapEntry => (e.key, e.val)) he
  obtain ⟨x, hx, h2⟩ := List.mem_map.1 this
  simp only [Prod.mk.injEq] at h2
  exact ⟨x, hx, h2.1.symm, h2.2.symm⟩
theorem entry_to {α β : Type} {ek : α → Value} {ev : β → Value} {es : List MapEntry} {m : List (α × β)} (h : es.map (fun e => (e.key, e.val)) = m.map (fun x => (ek x.1, ev x.2))) {x : α × β} (hx : x ∈ m) : ∃ e ∈ es, e.key = ek x.1 ∧ e.val = ev x.2 := by
  have : (ek x.1, ev x.2) ∈ es.map (fun e => (e.key, e.val)) := h ▸ List.mem_map_of_mem (f := fun x : α × β => (ek x.1, ev x.2)) hx
  obtain ⟨e, he, h2⟩ := List.mem_map.1 this
  simp only [Prod.mk.injEq] at h2
  exact ⟨e, he, h2.1, h2.2⟩
theorem born_eq : ∀ {l : List MapEntry}, (l.map (·.born)).Nodup → ∀ {x y : MapEntry}, x ∈ l → y ∈ l → x.born = y.born → x = y
  | [], _, x, y, hx, _, _ => by simp at hx
  | a :: l, hn, x, y, hx, hy, h => by
    simp only [List.map_cons, List.nodup_cons] at hn
    rcases List.mem_cons.1 hx with rfl | hx1
    · rcases List.mem_cons.1 hy with rfl | hy1
      · rfl
      · exact absurd (h ▸ List.mem_map_of_mem (f := MapEntry.born) hy1) hn.1
    · rcases List.mem_cons.1 hy with rfl | hy1
      · exact absurd (h ▸ List.mem_map_of_mem (f := MapEntry.born) hx1) hn.1
      · exact born_eq hn.2 hx1 hy1 h
theorem keys_eq {α β : Type} : ∀ {m : List (α × β)}, (m.map (·.1)).Nodup → ∀ {x y : α × β}, x ∈ m → y ∈ m → x.1 = y.1 → x = y
  | [], _, x, y, hx, _, _ => by simp at hx
  | a :: l, hn, x, y, hx, hy, h => by
    simp only [List.map_cons, List.nodup_cons] at hn
    rcases List.mem_cons.1 hx with rfl | hx1
    · rcases List.mem_cons.1 hy with rfl | hy1
      · rfl
      · exact absurd (h ▸ List.mem_map_of_mem (f := Prod.fst) hy1) hn.1
    · rcases List.mem_cons.1 hy with rfl | hy1
      · exact absurd (h ▸ List.mem_map_of_mem (f := Prod.fst) hx1) hn.1
      · exact keys_eq hn.2 hx1 hy1 h
end Go.Proofs.Ytnfaeafplaeehaa
