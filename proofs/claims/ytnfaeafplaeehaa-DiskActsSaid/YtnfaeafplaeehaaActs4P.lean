import Derived.Test.YtnfaeafplaeehaaTurned
import Derived.Test.YtnfaeafplaeehaaSafe04
import Derived.Test.YtnfaeafplaeehaaOwnG
set_option linter.unusedVariables false
set_option linter.unusedSimpArgs false
namespace Go.Proofs.Ytnfaeafplaeehaa
open Go.RowKit
/-! What is done to a disk, in plain words. -/
theorem syncS_nil (sec : List Sec) : syncS sec [] = sec := by
  refine List.ext_getElem? fun i => ?_
  simp only [syncS, atD_nil, List.getElem?_map]
  by_cases h : i < sec.length
  · simp [h, atD_nil, List.getD_eq_getElem?_getD]
  · rw [List.getElem?_eq_none (show (List.range sec.length).length ≤ i by simp; omega), List.getElem?_eq_none (show sec.length ≤ i by omega)]
    rfl
theorem syncS_upd (sec : List Sec) (lat : List (Int × Sec)) (i : Nat) (v : Sec) (hi : i < sec.length) : syncS sec (updM lat (i : Int) v) = (syncS sec lat).set i v := by
  refine List.ext_getElem? fun j => ?_
  by_cases hj : j < sec.length
  · by_cases e : i = j
    · subst e
      rw [List.getElem?_set_self (by rw [syncS_len]; exact hi)]
      simp [syncS, hj, atD, getM_updM]
    · rw [List.getElem?_set_ne e]
      simp only [syncS, List.getElem?_map, List.getElem?_range hj, Option.map_some, atD, getM_updM]
      rw [if_neg (by omega)]
  · rw [List.getElem?_eq_none (by rw [syncS_len]; omega), List.getElem?_eq_none (by rw [List.length_set, syncS_len]; omega)]
theorem sorted_lt {ks : List Int} (h : ks.Pairwise (· ≤ ·)) (hn : ks.Nodup) : ks.Pairwise (· < ·) := by
  have := List.pairwise_and_iff.2 ⟨h, hn⟩
  exact this.imp fun h => by omega
def cntL (ks : List Int) (i : Int) : Nat := (ks.filter fun x => decide (x < i)).length
theorem cnt_get : ∀ (ks : List Int) (i : Int), ks.Pairwise (· < ·) → i ∈ ks → ks[cntL ks i]? = some i
  | [], i, _, h => by simp at h
  | x :: t, i, hs, h => by
    rw [List.pairwise_cons] at hs
    unfold cntL
    rcases List.mem_cons.1 h with rfl | h
    · rw [List.filter_cons_of_neg (by simp), List.filter_eq_nil_iff.2 (fun a ha => by have := hs.1 a ha; simp; omega)]
      rfl
    · have h1 := hs.1 i h
      rw [List.filter_cons_of_pos (by simpa using h1)]
      have := cnt_get t i hs.2 h
      unfold cntL at this
      simpa using this
theorem cnt_succ (i : Int) : ∀ (ks : List Int), ks.Pairwise (· < ·) → cntL ks (i + 1) = cntL ks i + (if i ∈ ks then 1 else 0)
  | [], _ => by simp [cntL]
  | x :: t, hs => by
    rw [List.pairwise_cons] at hs
    have ih := cnt_succ i t hs.2
    unfold cntL at ih ⊢
    by_cases h : x < i
    · rw [List.filter_cons_of_pos (by simp; omega), List.filter_cons_of_pos (by simpa using h)]
      simp only [List.length_cons, List.mem_cons]
      rw [ih]
      have h2 : ¬ i = x := by omega
      simp only [h2, false_or]
      omega
    · by_cases h2 : x = i
      · subst h2
        have e1 : (t.filter fun y => decide (y < x + 1)) = [] := List.filter_eq_nil_iff.2 fun a ha => by have := hs.1 a ha; simp; omega
        have e2 : (t.filter fun y => decide (y < x)) = [] := List.filter_eq_nil_iff.2 fun a ha => by have := hs.1 a ha; simp; omega
        rw [List.filter_cons_of_pos (by simp; omega), List.filter_cons_of_neg (by simp)]
        simp [e1, e2]
      · have h3 : i ∉ x :: t := by
          intro hm
          rcases List.mem_cons.1 hm with e | hm
          · exact h2 e.symm
          · have := hs.1 i hm; omega
        rw [List.filter_cons_of_neg (by simp; omega), List.filter_cons_of_neg (by simpa using h), ih, if_neg h3, if_neg (fun hm => h3 (List.mem_cons_of_mem _ hm))]
theorem cnt_all (ks : List Int) (n : Int) (h : ∀ x ∈ ks, x < n) : cntL ks n = ks.length := by
  unfold cntL
  rw [List.filter_eq_self.2 fun x hx => by simpa using h x hx]
theorem cnt_zero (ks : List Int) (h : ∀ x ∈ ks, 0 ≤ x) : cntL ks 0 = 0 := by
  unfold cntL
  rw [List.filter_eq_nil_iff.2 fun x hx => by have := h x hx; simp; omega]
  rfl
def ksOf (lat : List (Int × Sec)) : List Int := sortI (lat.map (·.1))
theorem ks_mem (lat : List (Int × Sec)) (i : Int) : i ∈ ksOf lat ↔ (getM lat i).isSome = true := by
  unfold ksOf
  rw [(sortI_perm _).mem_iff, List.mem_map]
  constructor
  · rintro ⟨x, hx, rfl⟩
    cases h : getM lat x.1 with
    | some v => rfl
    | none => exact absurd rfl (getM_none_iff h x hx)
  · intro h
    obtain ⟨v, hv⟩ := Option.isSome_iff_exists.1 h
    exact ⟨_, getM_mem hv, rfl⟩
theorem ks_lt (lat : List (Int × Sec)) (hn : (lat.map (·.1)).Nodup) : (ksOf lat).Pairwise (· < ·) := sorted_lt (sortI_sorted _) ((sortI_perm _).nodup_iff.2 hn)
theorem ks_len (lat : List (Int × Sec)) : (ksOf lat).length = lat.length := by unfold ksOf; rw [(sortI_perm _).length_eq, List.length_map]
/-- What the law holds of the sectors behind so many of them. -/
def crashI (sec : List Sec) (lat : List (Int × Sec)) (picks : List Pk) (i : Nat) : List Sec := crashN sec lat picks (ksOf lat) (cntL (ksOf lat) i)
theorem crashI_zero (sec : List Sec) (lat : List (Int × Sec)) (picks : List Pk) (h : ∀ e ∈ lat, 0 ≤ e.1) : cntL (ksOf lat) (0 : Nat) = 0 ∧ crashI sec lat picks 0 = sec := by
  have : cntL (ksOf lat) ((0 : Nat) : Int) = 0 := cnt_zero _ fun x hx => by
    obtain ⟨v, hv⟩ := Option.isSome_iff_exists.1 ((ks_mem lat x).1 hx)
    exact h _ (getM_mem hv)
  refine ⟨this, ?_⟩
  unfold crashI
  rw [this]
  rfl
theorem crashI_all (sec : List Sec) (lat : List (Int × Sec)) (picks : List Pk) (n : Nat) (h : ∀ e ∈ lat, e.1 < n) : crashI sec lat picks n = crashS sec lat picks := by
  unfold crashI crashS
  rw [cnt_all _ _ fun x hx => by
    obtain ⟨v, hv⟩ := Option.isSome_iff_exists.1 ((ks_mem lat x).1 hx)
    exact h _ (getM_mem hv), ks_len]
  rfl
theorem crashI_no (sec : List Sec) (lat : List (Int × Sec)) (picks : List Pk) (i : Nat) (hn : (lat.map (·.1)).Nodup) (h : getM lat (i : Int) = none) : cntL (ksOf lat) ((i + 1 : Nat) : Int) = cntL (ksOf lat) i ∧ crashI sec lat picks (i + 1) = crashI sec lat picks i := by
  have : cntL (ksOf lat) ((i + 1 : Nat) : Int) = cntL (ksOf lat) i := by
    have := cnt_succ (i : Int) (ksOf lat) (ks_lt lat hn)
    rw [if_neg (by rw [ks_mem, h]; simp)] at this
    simpa using this
  refine ⟨this, ?_⟩
  unfold crashI
  rw [this]
theorem crashI_yes (sec : List Sec) (lat : List (Int × Sec)) (picks : List Pk) (i : Nat) (v : Sec) (hn : (lat.map (·.1)).Nodup) (h : getM lat (i : Int) = some v) : cntL (ksOf lat) ((i + 1 : Nat) : Int) = cntL (ksOf lat) i + 1 ∧ crashI sec lat picks (i + 1) = crash1 lat picks (crashI sec lat picks i) (cntL (ksOf lat) i) i := by
  have hm : (i : Int) ∈ ksOf lat := by rw [ks_mem, h]; rfl
  have : cntL (ksOf lat) ((i + 1 : Nat) : Int) = cntL (ksOf lat) i + 1 := by
    have := cnt_succ (i : Int) (ksOf lat) (ks_lt lat hn)
    rw [if_pos hm] at this
    simpa using this
  refine ⟨this, ?_⟩
  unfold crashI
  rw [this, crashN_succ, List.getD_eq_getElem?_getD, cnt_get _ _ (ks_lt lat hn) hm, Option.getD_some]
theorem crashI_len (sec : List Sec) (lat : List (Int × Sec)) (picks : List Pk) (i : Nat) : (crashI sec lat picks i).length = sec.length := crashN_len _ _ _ _ _
/-- All bytes. -/
def ByteS (sec : List Sec) (lat : List (Int × Sec)) : Prop := (∀ s ∈ sec, Byte s) ∧ ∀ e ∈ lat, Byte e.2
theorem byte_at {sec : List Sec} {lat : List (Int × Sec)} (h : ByteS sec lat) (i : Nat) : Byte (atD sec lat i) := by
  unfold atD
  cases hg : getM lat (i : Int) with
  | some v => exact h.2 _ (getM_mem hg)
  | none =>
    rw [Option.getD_none, List.getD_eq_getElem?_getD]
    cases hs : sec[i]? with
    | none => intro x hx; simp at hx
    | some s => exact h.1 s (List.mem_of_getElem? hs)
theorem byte_full (c : Int) (h : 0 ≤ c ∧ c ≤ 255) : Byte (fullS c) := fun x hx => by
  rw [(List.mem_replicate.1 hx).2]
  exact h
theorem byte_flip (a t : Int) (l : Sec) (n : Nat) (h : Byte l) : Byte (flip1 a t l n) := by
  unfold flip1
  split
  · intro x hx
    rcases List.mem_or_eq_of_mem_set hx with hx | rfl
    · exact h x hx
    · unfold bits
      simp only [IntKind.wrap_u8]
      omega
  · exact h
theorem byte_spoilt (a t : Int) (l : Sec) (h : Byte l) : ∀ n, Byte (spoiltL l a t n)
  | 0 => h
  | n + 1 => by rw [spoiltL_succ]; exact byte_flip _ _ _ _ (byte_spoilt a t l h n)
theorem byte_crash1 {lat : List (Int × Sec)} {picks : List Pk} {S : List Sec} (h : ByteS S lat) (n : Nat) (i : Int) : ∀ s ∈ crash1 lat picks S n i, Byte s := by
  have hv : Byte ((getM lat i).getD zsec) := by
    cases hg : getM lat i with
    | some v => exact h.2 _ (getM_mem hg)
    | none => rw [Option.getD_none, zsec_eq]; exact byte_full 0 (by omega)
  unfold crash1
  split
  · exact h.1
  · split
    · exact h.1
    · simp only
      split
      · intro s hs
        rcases List.mem_or_eq_of_mem_set hs with hs | rfl
        · exact h.1 s hs
        · exact hv
      · intro s hs
        rcases List.mem_or_eq_of_mem_set hs with hs | rfl
        · exact h.1 s hs
        · exact byte_spoilt _ _ _ hv 32
theorem byte_crashN {lat : List (Int × Sec)} {picks : List Pk} {S : List Sec} (h : ByteS S lat) (ks : List Int) : ∀ k, ∀ s ∈ crashN S lat picks ks k, Byte s
  | 0 => h.1
  | k + 1 => by rw [crashN_succ]; exact byte_crash1 ⟨byte_crashN h ks k, h.2⟩ _ _
end Go.Proofs.Ytnfaeafplaeehaa
