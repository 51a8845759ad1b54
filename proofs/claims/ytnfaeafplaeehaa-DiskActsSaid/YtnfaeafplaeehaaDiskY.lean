import Derived.Test.YtnfaeafplaeehaaDiskR
import Derived.Test.YtnfaeafplaeehaaMapIt
set_option linter.unusedVariables false
set_option linter.unusedSimpArgs false
namespace Go.Proofs.Ytnfaeafplaeehaa
open Go.RowKit Go.ChangeMaps
/-! All that was written becomes safe. -/
def syncS (sec : List Sec) (lat : List (Int × Sec)) : List Sec := (List.range sec.length).map (atD sec lat)
theorem syncS_len (sec : List Sec) (lat : List (Int × Sec)) : (syncS sec lat).length = sec.length := by simp [syncS]
theorem run_clear {P : Program} {T K E ty : TypeId} (hT : P.underlying T = some (.map K E)) (w : World) (b : Nat) (es : Array MapEntry) (c : Nat) (h : w.heap[b]? = some (.map es c)) :
    (Builtin.clear_ #[T] ty #[.map (some b)]).run P w = .ok (.tuple #[]) { w with heap := w.heap.setIfInBounds b (.map #[] c) } := by
  simp [Builtin.clear_, run_underlying hT, getObj, setObj, Sem.run, h]
theorem DiskAt.cleared {W : World} {d g bs : Nat} {sec : List Sec} {lat : List (Int × Sec)} {fl : Int} (h : DiskAt W d g bs sec lat fl) :
    ∃ W', (∀ ty, (Builtin.clear_ #[124] ty #[.map (some g)]).run Try.prog W = .ok (.tuple #[]) W') ∧ DiskAt W' d g bs sec [] fl ∧ Kept [g] W W' := by
  obtain ⟨es, c, h1, h2, h3, h4⟩ := h.m
  have hlt := h.m.lt
  have hk : Kept [g] W { W with heap := W.heap.setIfInBounds g (.map #[] c) } := ⟨rfl, rfl, rfl, by simp, fun i hi hs => by
    simp only [List.mem_singleton] at hs
    simp [Array.getElem?_setIfInBounds, Ne.symm hs]⟩
  refine ⟨_, fun ty => run_clear Try.underlying124 W g es c h1, ⟨hk.blk h.d (by simpa using blk_mapD h.d h.m), hk.blk h.s (by simpa using blk_mapD h.s h.m), ⟨#[], c, by simp [hlt], by simp, by simp, by simp⟩, h.l, by simp, by simp, h.sz⟩, hk⟩
theorem DiskAt.kept {S : List Nat} {W W' : World} {d g bs : Nat} {sec : List Sec} {lat : List (Int × Sec)} {fl : Int} (h : DiskAt W d g bs sec lat fl) (hk : Kept S W W') (h0 : d ∉ S) (h1 : g ∉ S) (h2 : bs ∉ S) : DiskAt W' d g bs sec lat fl := ⟨hk.blk h.d h0, hk.blk h.s h2, h.m.kept hk h1, h.l, h.k, h.n, h.sz⟩
theorem DiskAt.alloc {W : World} {d g bs : Nat} {sec : List Sec} {lat : List (Int × Sec)} {fl : Int} (h : DiskAt W d g bs sec lat fl) (o : Obj) : DiskAt (W.alloc o) d g bs sec lat fl := h.below ((Below.refl _ _).alloc (Nat.le_refl _) o)
/-- Then only a new block was turned. -/
theorem Kept.fresh {S : List Nat} {n : Nat} {a b c : World} (h : Kept S a b) (k : Kept [n] b c) (hab : a.heap.size ≤ n) : Kept S a c :=
  ⟨k.os.trans h.os, k.tape.trans h.tape, k.output.trans h.output, Nat.le_trans h.size k.size, fun i hi hs => (k.block i (Nat.lt_of_lt_of_le hi h.size) (by simp; omega)).trans (h.block i hi hs)⟩
structure SyAt (sec : List Sec) (lat : List (Int × Sec)) (d g bs : Nat) (fl : Int) (r since : Nat) (W : World) (seen : Array Nat) (es : Array MapEntry) (sec' : List Sec) : Prop where
  it : ∃ c0, since ≤ c0 ∧ W.heap[r]? = some (.mapIter (some g) since seen c0)
  mp : W.heap[g]? = some (.map es since)
  rd : es.toList.map (fun e => (e.key, e.val)) = lat.map (fun x => (ikey x.1, secV x.2))
  born : ∀ e ∈ es.toList, e.born < since
  nd : (es.toList.map (·.born)).Nodup
  dk : DiskAt W d g bs sec' lat fl
  sl : sec'.length = sec.length
  done : ∀ e ∈ es.toList, e.born ∈ seen → ∀ x : Int × Sec, e.key = ikey x.1 → e.val = secV x.2 → sec'[x.1.toNat]? = some x.2
  rest : ∀ i : Nat, (∀ e ∈ es.toList, e.born ∈ seen → e.key ≠ ikey i) → sec'[i]? = sec[i]?
theorem getM_some_iff {m : List (Int × Sec)} (hn : (m.map (·.1)).Nodup) {x : Int × Sec} (hx : x ∈ m) : getM m x.1 = some x.2 := by
  unfold getM
  cases hf : m.find? fun y => decide (x.1 = y.1) with
  | none =>
    have := List.find?_eq_none.1 hf x hx
    simp at this
  | some y =>
    have h1 := List.find?_some hf
    simp only [decide_eq_true_eq] at h1
    have := keys_eq hn hx (List.mem_of_find?_eq_some hf) h1
    rw [this]
    rfl
theorem getM_none_iff {m : List (Int × Sec)} {k : Int} (h : getM m k = none) : ∀ x ∈ m, x.1 ≠ k := by
  unfold getM at h
  simp only [Option.map_eq_none_iff, List.find?_eq_none, decide_eq_true_eq] at h
  exact fun x hx e => h x hx e.symm
theorem getM_mem {m : List (Int × Sec)} {k : Int} {v : Sec} (h : getM m k = some v) : (k, v) ∈ m := by
  unfold getM at h
  obtain ⟨e, he, rfl⟩ := Option.map_eq_some_iff.1 h
  have h1 := List.find?_some he
  simp only [decide_eq_true_eq] at h1
  rw [h1]
  exact List.mem_of_find?_eq_some he
theorem ikey_inj {a b : Int} (h : ikey a = ikey b) : a = b := by simpa [ikey] using h
theorem secV_inj {a b : Sec} (h : secV a = secV b) : a = b := by
  simp only [secV, Value.agg.injEq, u8s] at h
  have h2 := congrArg Array.toList h
  exact (List.map_inj_right (fun x y h => by injection h)).1 h2
theorem SyAt.fin {sec : List Sec} {lat : List (Int × Sec)} {d g bs : Nat} {fl : Int} {r since : Nat} {W : World} {seen : Array Nat} {es : Array MapEntry} {sec' : List Sec} (h : SyAt sec lat d g bs fl r since W seen es sec') (hz : (leftOf es seen).size = 0) : sec' = syncS sec lat := by
  have hs : ∀ e ∈ es.toList, e.born ∈ seen := fun e he => by
    have h0 : leftOf es seen = #[] := Array.eq_empty_of_size_eq_zero hz
    unfold leftOf at h0
    rw [Array.filter_eq_empty_iff] at h0
    simpa [Array.contains_iff_mem] using h0 e (by simpa using he)
  refine List.ext_getElem? fun i => ?_
  by_cases hi : i < sec.length
  · have e2 : (syncS sec lat)[i]? = some (atD sec lat i) := by simp [syncS, hi]
    rw [e2]
    unfold atD
    cases hg : getM lat (i : Int) with
    | some v =>
      obtain ⟨e, he, e3, e4⟩ := entry_to h.rd (getM_mem hg)
      have := h.done e he (hs e he) _ e3 e4
      simpa using this
    | none =>
      rw [h.rest i fun e he _ ek => ?_]
      · simp [hi]
      · obtain ⟨x, hx, e3, -⟩ := entry_of h.rd he
        rw [ek] at e3
        exact getM_none_iff hg x hx (ikey_inj e3).symm
  · rw [List.getElem?_eq_none (by have := h.sl; omega), List.getElem?_eq_none (by rw [syncS_len]; omega)]
theorem SyAt.step {sec : List Sec} {lat : List (Int × Sec)} {d g bs : Nat} {fl : Int} {r since : Nat} {W W' : World} {seen : Array Nat} {es : Array MapEntry} {sec' : List Sec} (h : SyAt sec lat d g bs fl r since W seen es sec') (e : MapEntry) (he : e ∈ es.toList) (x : Int × Sec) (hx : x ∈ lat) (ek : e.key = ikey x.1) (ev : e.val = secV x.2)
    (hr : W'.heap[r]? = some (.mapIter (some g) since (seen.push e.born) since)) (hb : W'.heap[g]? = some (.map es since)) (hd : DiskAt W' d g bs (sec'.set x.1.toNat x.2) lat fl) : SyAt sec lat d g bs fl r since W' (seen.push e.born) es (sec'.set x.1.toNat x.2) := by
  have hk := h.dk.k x hx
  refine ⟨⟨since, Nat.le_refl _, hr⟩, hb, h.rd, h.born, h.nd, hd, by rw [List.length_set, h.sl], fun e' he' hs y e1 e2 => ?_, fun i hi => ?_⟩
  · by_cases hyx : y.1 = x.1
    · obtain ⟨z, hz, e3, e4⟩ := entry_of h.rd he'
      rw [e1] at e3
      rw [e2] at e4
      have h1 : z = y := Prod.ext (ikey_inj e3).symm (secV_inj e4).symm
      rw [h1] at hz
      rw [keys_eq h.dk.n hz hx hyx, List.getElem?_set_self (by omega)]
    · have h1 : x.1.toNat ≠ y.1.toNat := by
        obtain ⟨z, hz, e3, -⟩ := entry_of h.rd he'
        rw [e1] at e3
        have := h.dk.k z hz
        rw [← ikey_inj e3] at this
        omega
      rw [List.getElem?_set_ne h1]
      rcases Array.mem_push.1 hs with hs | hs
      · exact h.done e' he' hs y e1 e2
      · obtain rfl := born_eq h.nd he' he hs
        rw [ek] at e1
        exact absurd (ikey_inj e1).symm hyx
  · have h1 : x.1.toNat ≠ i := by
      intro e1
      exact hi e he (by simp) (by rw [ek, ← e1]; congr 1; omega)
    rw [List.getElem?_set_ne h1]
    exact h.rest i fun e' he' hs => hi e' he' (Array.mem_push.2 (.inl hs))
end Go.Proofs.Ytnfaeafplaeehaa
