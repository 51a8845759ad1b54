import Derived.Test.YtnfaeafplaeehaaGreatMrgJ
import Derived.Test.YtnfaeafplaeehaaGreatSortL
import Derived.Test.YtnfaeafplaeehaaGreatAddrC
set_option linter.unusedVariables false
set_option linter.unusedSimpArgs false
namespace Go.Proofs.YtnfaeafplaeehaaGreat
open Go.RowKit Go.Sort Go.Lib
/-! A map's keys, sorted. -/
instance : Inhabited Pfx := ⟨⟨0, 0⟩⟩
section
variable {α : Type} [Inhabited α]
theorem holdsK_of_row (enc : α → List Value) (k : Nat) (hk : ∀ x, (enc x).length = k) (hk0 : 0 < k) {W : World} {gb : Nat} {cur : Array Value} {t : TypeId} (hg : W.heap[gb]? = some (.cells cur t (0, 0))) (ss : List α) (h : cur.toList.take (ss.length * k) = ss.flatMap enc) :
    HoldsK enc k W gb 0 ss.toArray := by
  intro j hj
  have hj' : j < ss.length * k := by simpa using hj
  have hq : j / k < ss.length := Nat.div_lt_of_lt_mul (by rw [Nat.mul_comm]; exact hj')
  have hcur : cur[j]? = (enc ss[j / k])[j % k]? := by
    have h1 : (cur.toList.take (ss.length * k))[j]? = cur.toList[j]? := by rw [List.getElem?_take, if_pos hj']
    have h2 := flat_get enc k hk ss (j / k) (j % k) hq (Nat.mod_lt _ hk0)
    have h3 : j / k * k + j % k = j := by rw [Nat.mul_comm]; exact Nat.div_add_mod j k
    rw [h3] at h2
    rw [← h2, ← h, h1]
    simp
  have hmod : j % k < (enc ss[j / k]).length := by rw [hk]; exact Nat.mod_lt _ hk0
  refine ⟨?_, ?_⟩
  · simp only [World.cell?, hg, Nat.zero_add]
    rw [hcur, get_flatK enc k ss.toArray j (by simpa using hj')]
    rw [List.getElem?_eq_getElem hmod]
    have e1 : ss.toArray[j / k]! = ss[j / k] := by rw [getElem!_pos ss.toArray _ (by simpa using hq)]; simp
    rw [e1, getElem!_pos (enc ss[j / k]) (j % k) hmod]
    rfl
  · simp [World.frozen?, hg]
theorem row_of_holdsK (enc : α → List Value) (k : Nat) (hk : ∀ x, (enc x).length = k) (hk0 : 0 < k) {W : World} {gb : Nat} (hg : gb < W.heap.size) (d : Array α) (hn : d.size ≤ 140737488351232)
    (h : ∀ j, j < d.size * k → W.cell? ⟨gb, 0 + j, none⟩ = some ((flatK enc k d)[j]!)) : Row W k (some ⟨gb, 0, none⟩) d.size (d.toList.flatMap enc) := by
  refine ⟨by rw [flat_len enc k hk]; simp, hn, fun _ => ⟨gb, 0, rfl, hg, fun j u hj => ?_⟩⟩
  have hlt : j < d.size * k := by
    have := (List.getElem?_eq_some_iff.1 hj).1
    rw [flat_len enc k hk] at this
    simpa using this
  rw [h j hlt, get_flatK enc k d j hlt]
  have hq : j / k < d.toList.length := by
    rw [Array.length_toList]
    exact Nat.div_lt_of_lt_mul (by rw [Nat.mul_comm]; exact hlt)
  have h2 := flat_get enc k hk d.toList (j / k) (j % k) hq (Nat.mod_lt _ hk0)
  have h3 : j / k * k + j % k = j := by rw [Nat.mul_comm]; exact Nat.div_add_mod j k
  rw [h3, hj] at h2
  have hmod : j % k < (enc d.toList[j / k]).length := by rw [hk]; exact Nat.mod_lt _ hk0
  rw [List.getElem?_eq_getElem hmod] at h2
  have e1 : d[j / k]! = d.toList[j / k] := by rw [getElem!_pos d _ (by simpa using hq)]; simp
  rw [e1, getElem!_pos (enc d.toList[j / k]) (j % k) hmod]
  exact h2.symm
theorem sortWorldK_cell (enc : α → List Value) (k : Nat) {W : World} {gb m : Nat} (hg : gb < W.heap.size) (d d' : Array α) (os : Array Obj) (h : HoldsK enc k W gb 0 d) (hs : d'.size = d.size) (j : Nat) (hj : j < d'.size * k) :
    (sortWorldK enc k W gb 0 m d' os).cell? ⟨gb, 0 + j, none⟩ = some ((flatK enc k d')[j]!) := by
  unfold sortWorldK
  have hh : HoldsK enc k (Go.Sort.ahead W m) gb 0 d := h
  have h2 := holdsK_putRowK (enc := enc) (k := k) (Go.Sort.ahead W m) gb 0 d d' hh hs
  have h3 : _ = some (flatK enc k d')[j]! := (h2 j (by simpa using hj)).1
  rw [← h3]
  refine cell?_grow _ _ _ ?_
  show gb < (putRowK enc k (Go.Sort.ahead W m) gb 0 d').heap.size
  simp [putRowK, putRow, mapBlock, Go.Sort.ahead, hg]
theorem sortWorldK_below (enc : α → List Value) (k B : Nat) {W : World} {gb m : Nat} (hg : gb < W.heap.size) (hB : B ≤ gb) (d' : Array α) (os : Array Obj) : Below B W (sortWorldK enc k W gb 0 m d' os) := by
  unfold sortWorldK
  refine ⟨rfl, rfl, rfl, by simp [grow, putRowK, putRow, mapBlock, Go.Sort.ahead], fun i hi => ?_⟩
  rw [heap_grow_old _ _ (by simp [putRowK, putRow, mapBlock, Go.Sort.ahead]; omega)]
  simp only [putRowK, putRow, mapBlock, Go.Sort.ahead, Array.getElem?_modify]
  rw [if_neg (by omega)]
theorem sortWorldK_blk (enc : α → List Value) (k : Nat) {W : World} {gb m : Nat} {cur : Array Value} {t : TypeId} (hg : W.heap[gb]? = some (.cells cur t (0, 0))) (d' : Array α) (os : Array Obj) : ∃ cur', (sortWorldK enc k W gb 0 m d' os).heap[gb]? = some (.cells cur' t (0, 0)) := by
  have hlt := lt_of_heap hg
  unfold sortWorldK
  rw [heap_grow_old _ _ (by simpa [putRowK, putRow, mapBlock, Go.Sort.ahead] using hlt)]
  simp only [putRowK, putRow, mapBlock, Go.Sort.ahead, Array.getElem?_modify, if_true, hg]
  exact ⟨_, rfl⟩
theorem sorted_list (lt : α → α → Bool) (ss : List α) (d' : Array α) (hp : PermIn 0 ss.toArray.size ss.toArray d') (hs : SortedIn lt 0 ss.toArray.size d') : d'.toList.Perm ss ∧ d'.toList.Pairwise (fun x y => lt y x = false) ∧ d'.size = ss.length := by
  obtain ⟨h1, -, h2⟩ := hp
  have hsz : d'.size = ss.length := by simpa using h1
  refine ⟨?_, ?_, hsz⟩
  · have e1 : (d'.extract 0 ss.toArray.size).toList = d'.toList := by simp [← hsz]
    have e2 : (ss.toArray.extract 0 ss.toArray.size).toList = ss := by simp
    rw [e1, e2] at h2
    exact h2
  · rw [List.pairwise_iff_getElem]
    intro i j hi hj hij
    have := hs i j (Nat.zero_le _) hij (by simp at hj ⊢; omega)
    rw [getElem!_pos d' j (by simpa using hj), getElem!_pos d' i (by simpa using hi)] at this
    simpa using this
end
end Go.Proofs.YtnfaeafplaeehaaGreat
