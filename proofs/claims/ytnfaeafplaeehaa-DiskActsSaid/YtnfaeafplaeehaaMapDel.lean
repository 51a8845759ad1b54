import Derived.Test.YtnfaeafplaeehaaMap
set_option linter.unusedVariables false
set_option linter.unusedSimpArgs false
namespace Go.Proofs.Ytnfaeafplaeehaa
open Go.RowKit
/-! A key deleted from a map; deleting while a walk over the map goes on. -/
section
variable {P : Program} {α β : Type} [DecidableEq α] {T K E : TypeId} {ek : α → Value} {ev : β → Value} {m : List (α × β)} {b : Nat} {w : World}
/-- What a deletion leaves of the entries. -/
theorem run_delete_raw (hK : Keys P K ek) (hT : P.underlying T = some (.map K E)) (es : Array MapEntry) (c : Nat) (h1 : w.heap[b]? = some (.map es c)) (h2 : es.toList.map (fun e => (e.key, e.val)) = m.map (fun x => (ek x.1, ev x.2))) (k : α) (T2 : TypeId) (ty : TypeId) :
    ∃ es' : Array MapEntry, (Builtin.delete_ #[T, T2] ty #[.map (some b), ek k]).run P w = .ok (.tuple #[]) { w with heap := w.heap.setIfInBounds b (.map es' c) } ∧ es'.toList.map (fun e => (e.key, e.val)) = (delM m k).map (fun x => (ek x.1, ev x.2)) ∧ es'.toList.Sublist es.toList := by
  have hf := hK.find β ev k es.toList m w h2
  cases hl : locate ev k m 0 with
  | none =>
    rw [hl] at hf
    refine ⟨es, ?_, by rw [delM_none ev k m 0 hl]; exact h2, List.Sublist.refl _⟩
    have hw : ({ w with heap := w.heap.setIfInBounds b (.map es c) } : World) = w := by
      have : w.heap.setIfInBounds b (.map es c) = w.heap := by
        refine Array.ext_getElem? fun i => ?_
        rw [Array.getElem?_setIfInBounds]
        split
        · rename_i e; subst e; rw [h1]; split
          · rfl
          · rename_i h; exact absurd (lt_of_heap h1) h
        · rfl
      rw [this]
    rw [hw]
    simp [Builtin.delete_, run_underlying hT, getObj, setObj, Sem.run, h1, hK.check, hf]
    exact hw
  | some r =>
    obtain ⟨j, z⟩ := r
    rw [hl] at hf
    have u1 := delM_some ek ev k m es.toList 0 j z h2 hl
    simp only [Nat.sub_zero] at u1
    refine ⟨es.eraseIdxIfInBounds j, ?_, by simpa using u1, by simpa using List.eraseIdx_sublist _ _⟩
    simp [Builtin.delete_, run_underlying hT, getObj, setObj, Sem.run, h1, hK.check, hf]
theorem run_delete (hK : Keys P K ek) (hT : P.underlying T = some (.map K E)) (h : MapAt w b ek ev m) (k : α) (T2 : TypeId) (ty : TypeId) :
    ∃ w1, (Builtin.delete_ #[T, T2] ty #[.map (some b), ek k]).run P w = .ok (.tuple #[]) w1 ∧ MapAt w1 b ek ev (delM m k) ∧ Kept [b] w w1 := by
  have hlt := h.lt
  obtain ⟨es, c, h1, h2, h3, h4⟩ := h
  obtain ⟨es', hr, e1, e2⟩ := run_delete_raw hK hT es c h1 h2 k T2 ty
  refine ⟨_, hr, ⟨es', c, by simp [hlt], e1, fun e he => h3 e (e2.subset he), h4.sublist (e2.map _)⟩, ⟨rfl, rfl, rfl, by simp, fun i hi hs => ?_⟩⟩
  simp only [List.mem_singleton] at hs
  simp [Array.getElem?_setIfInBounds, Ne.symm hs]
end
theorem delM_filter {α β : Type} [DecidableEq α] (k : α) : ∀ m : List (α × β), (m.map (·.1)).Nodup → delM m k = m.filter fun x => decide (x.1 ≠ k)
  | [], _ => rfl
  | x :: m, hn => by
    simp only [List.map_cons, List.nodup_cons] at hn
    unfold delM
    by_cases h : k = x.1
    · subst h
      rw [if_pos rfl, List.filter_cons_of_neg (by simp)]
      refine (List.filter_eq_self.2 fun y hy => ?_).symm
      simp only [ne_eq, decide_eq_true_eq]
      exact fun e => hn.1 (e ▸ List.mem_map_of_mem hy)
    · rw [if_neg h, List.filter_cons_of_pos (by simpa using fun e => h e.symm), delM_filter k m hn.2]
theorem nodup_filter {α β : Type} (m : List (α × β)) (p : α × β → Bool) (hn : (m.map (·.1)).Nodup) : ((m.filter p).map (·.1)).Nodup := hn.sublist ((List.filter_sublist).map _)
theorem nodup_delM {α β : Type} [DecidableEq α] (m : List (α × β)) (k : α) (hn : (m.map (·.1)).Nodup) : ((delM m k).map (·.1)).Nodup := by rw [delM_filter k m hn]; exact nodup_filter m _ hn
theorem updM_keys {α β : Type} [DecidableEq α] (k : α) (v : β) : ∀ m : List (α × β), ∀ x, x ∈ updM m k v → x = (k, v) ∨ x ∈ m
  | [], x, h => by simp [updM] at h; exact .inl h
  | y :: m, x, h => by
    unfold updM at h
    split at h
    · rcases List.mem_cons.1 h with e | e
      · exact .inl e
      · exact .inr (List.mem_cons_of_mem _ e)
    · rcases List.mem_cons.1 h with e | e
      · exact .inr (by rw [e]; simp)
      · rcases updM_keys k v m x e with e | e
        · exact .inl e
        · exact .inr (List.mem_cons_of_mem _ e)
theorem nodup_updM {α β : Type} [DecidableEq α] (k : α) (v : β) : ∀ m : List (α × β), (m.map (·.1)).Nodup → ((updM m k v).map (·.1)).Nodup
  | [], _ => by simp [updM]
  | y :: m, hn => by
    simp only [List.map_cons, List.nodup_cons] at hn
    unfold updM
    split
    · rename_i h
      subst h
      simp only [List.map_cons, List.nodup_cons]
      exact hn
    · rename_i h
      simp only [List.map_cons, List.nodup_cons]
      refine ⟨fun hm => ?_, nodup_updM k v m hn.2⟩
      obtain ⟨x, hx, e⟩ := List.mem_map.1 hm
      rcases updM_keys k v m x hx with e' | e'
      · subst e'; exact h e
      · exact hn.1 (e ▸ List.mem_map_of_mem e')
theorem updM_len {α β : Type} [DecidableEq α] (k : α) (v : β) : ∀ m : List (α × β), (updM m k v).length ≤ m.length + 1
  | [] => by simp [updM]
  | y :: m => by
    unfold updM
    split
    · simp
    · have := updM_len k v m
      simp only [List.length_cons]
      omega
end Go.Proofs.Ytnfaeafplaeehaa
