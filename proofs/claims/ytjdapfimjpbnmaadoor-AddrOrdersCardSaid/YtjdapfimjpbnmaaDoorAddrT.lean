import Derived.Lib.ItoaNum
import Derived.Lib.AtoiAllCases
import Derived.Lib.SplitLaws
import Derived.Lib.Join
set_option linter.unusedVariables false
set_option linter.unusedSimpArgs false
namespace Go.Proofs.YtjdapfimjpbnmaaDoor
open Go.Lib
/-! Numbers as texts, and back. No program in sight. -/
theorem dig_of (d : Nat) (h : d < 10) : (UInt8.ofNat (48 + d)).toNat = 48 + d := by
  rw [UInt8.toNat_ofNat']; omega
theorem dec_digs (n : Nat) : ∀ b ∈ decDigits n, 48 ≤ b.toNat ∧ b.toNat ≤ 57 := by
  induction n using Nat.strongRecOn with
  | _ n ih =>
    intro b hb
    rw [decDigits] at hb
    split at hb
    · rw [List.mem_singleton] at hb
      subst hb
      rw [dig_of _ (by omega)]
      omega
    · rw [List.mem_append, List.mem_singleton] at hb
      rcases hb with hb | rfl
      · exact ih (n / 10) (by omega) b hb
      · rw [dig_of _ (by omega)]
        omega
def valD (acc : Nat) : List UInt8 → Nat
  | [] => acc
  | c :: r => valD (acc * 10 + (c.toNat - 48)) r
theorem valD_append (c : UInt8) : ∀ (l : List UInt8) (acc : Nat), valD acc (l ++ [c]) = valD acc l * 10 + (c.toNat - 48)
  | [], acc => rfl
  | b :: l, acc => by
    rw [List.cons_append]
    exact valD_append c l _
theorem valD_ge : ∀ (l : List UInt8) (acc : Nat), acc ≤ valD acc l
  | [], acc => Nat.le_refl _
  | b :: l, acc => by
    have := valD_ge l (acc * 10 + (b.toNat - 48))
    show acc ≤ valD _ l
    omega
theorem valD_dec (n : Nat) : valD 0 (decDigits n) = n := by
  induction n using Nat.strongRecOn with
  | _ n ih =>
    rw [decDigits]
    split
    · show 0 * 10 + _ = n
      rw [dig_of _ (by omega)]
      omega
    · rw [valD_append, ih _ (by omega), dig_of _ (by omega)]
      omega
theorem parse_val : ∀ (l : List UInt8) (acc : Nat), (∀ b ∈ l, 48 ≤ b.toNat ∧ b.toNat ≤ 57) → valD acc l < 18446744073709551616 → parseUint10 acc l = .ok (valD acc l)
  | [], acc, _, _ => rfl
  | c :: r, acc, h, hv => by
    have hc := h c (by simp)
    have hg := valD_ge r (acc * 10 + (c.toNat - 48))
    have hv' : valD (acc * 10 + (c.toNat - 48)) r < 18446744073709551616 := hv
    unfold parseUint10
    rw [if_pos hc, if_neg (by omega), if_neg (by omega)]
    exact parse_val r _ (fun b hb => h b (by simp [hb])) hv'
theorem dec_ne (n : Nat) : decDigits n ≠ [] := by
  rw [decDigits]
  split <;> simp
theorem itoa_nat (n : Nat) : itoa (n : Int) = decDigits n := by
  unfold itoa
  rw [if_neg (by omega)]
  simp
theorem atoi_dec (n : Nat) (h : n < 9223372036854775808) : atoiAll (decDigits n) = .ok (n : Int) := by
  have hne := dec_ne n
  have hd := dec_digs n
  have hv := valD_dec n
  generalize decDigits n = l at *
  cases l with
  | nil => exact absurd rfl hne
  | cons c r =>
    have hc := hd c (by simp)
    rw [atoiAll_plain c r (by omega) (by omega)]
    unfold parseMag
    rw [if_neg (by simp), parse_val _ _ hd (by omega), hv]
    simp [signless]
    omega
/-- What 'number' answers. -/
def numF (s : List UInt8) (most : Int) : Int × Bool :=
  match atoiAll s with
  | .ok n => (n, decide (0 ≤ n) && decide (n ≤ most) && decide (itoa n = s))
  | .range => (atoiSat s, false)
  | _ => (0, false)
theorem numF_dec (n : Nat) (most : Int) (h : (n : Int) ≤ most) (hm : most ≤ 1000000) : numF (decDigits n) most = ((n : Int), true) := by
  unfold numF
  rw [atoi_dec n (by omega)]
  simp only [itoa_nat]
  simp
  omega
theorem numF_true {s : List UInt8} {most : Int} (h : (numF s most).2 = true) : ∃ n : Nat, (n : Int) ≤ most ∧ s = decDigits n ∧ (numF s most).1 = n := by
  unfold numF at *
  cases ha : atoiAll s with
  | ok n =>
    rw [ha] at h
    simp only [Bool.and_eq_true, decide_eq_true_eq] at h
    obtain ⟨⟨h1, h2⟩, h3⟩ := h
    refine ⟨n.toNat, by omega, ?_, by simp; omega⟩
    rw [← itoa_nat, ← h3]
    congr 1
    omega
  | range => rw [ha] at h; simp at h
  | _ => rw [ha] at h; simp at h

def splitOn (c : UInt8) : List UInt8 → List (List UInt8)
  | [] => [[]]
  | b :: r => if b = c then [] :: splitOn c r else match splitOn c r with
    | [] => [[b]]
    | p :: ps => (b :: p) :: ps
theorem splitOn_ne (c : UInt8) : ∀ s : List UInt8, splitOn c s ≠ []
  | [] => by simp [splitOn]
  | b :: r => by
    unfold splitOn
    split
    · simp
    · split <;> simp
theorem index_nil_one (c : UInt8) : index [] [c] = -1 := rfl
theorem index_cons_one (b c : UInt8) (l : List UInt8) : index (b :: l) [c] = if b = c then 0 else if index l [c] = -1 then -1 else index l [c] + 1 := by
  rw [index]
  by_cases h : b = c
  · subst h; simp [List.isPrefixOf]
  · have h' : c ≠ b := fun e => h e.symm
    simp [List.isPrefixOf, h, h']
theorem splitK_cons (c b : UInt8) (h : b ≠ c) (k : Nat) (l : List UInt8) : ∃ p ps, splitK [c] 0 k l = p :: ps ∧ splitK [c] 0 k (b :: l) = (b :: p) :: ps := by
  cases k with
  | zero => exact ⟨l, [], rfl, rfl⟩
  | succ k =>
    unfold splitK
    rw [index_cons_one, if_neg h]
    by_cases hi : index l [c] = -1
    · rw [hi]
      exact ⟨l, [], by simp, by simp⟩
    · have hg := index_ge l [c]
      obtain ⟨i, hi'⟩ : ∃ i : Nat, index l [c] = i := ⟨(index l [c]).toNat, by omega⟩
      rw [if_neg hi, hi']
      refine ⟨l.take i, splitK [c] 0 k (l.drop (i + 1)), ?_, ?_⟩
      · rw [if_neg (by simp)]
        simp
      · rw [if_neg (by simp; omega)]
        have : ((i : Int) + 1).toNat = i + 1 := by omega
        simp [this]
theorem split_one (c : UInt8) : ∀ s : List UInt8, split s [c] = splitOn c s
  | [] => rfl
  | b :: r => by
    have ih := split_one c r
    unfold split at *
    by_cases h : b = c
    · subst h
      rw [count_cons_eq, Nat.add_comm]
      unfold splitK
      rw [index_cons_one, if_pos rfl, splitOn, if_pos rfl, ← ih]
      simp
    · rw [count_cons_ne b c r h]
      obtain ⟨p, ps, h1, h2⟩ := splitK_cons c b h (count r [c]) r
      rw [h2, splitOn, if_neg h, ← ih, h1]
def cutOn (c : UInt8) : List UInt8 → List UInt8 × List UInt8
  | [] => ([], [])
  | b :: r => if b = c then ([], r) else (b :: (cutOn c r).1, (cutOn c r).2)
theorem cut_one (c : UInt8) : ∀ s : List UInt8, ((cut s [c]).1, (cut s [c]).2.1) = cutOn c s
  | [] => rfl
  | b :: r => by
    have ih := cut_one c r
    unfold cut at *
    rw [index_cons_one, cutOn]
    by_cases h : b = c
    · rw [if_pos h, if_pos h]
      simp
    · rw [if_neg h, if_neg h, ← ih]
      have hg := index_ge r [c]
      by_cases hi : index r [c] = -1
      · rw [if_pos hi, hi]
        simp
      · obtain ⟨i, hi'⟩ : ∃ i : Nat, index r [c] = i := ⟨(index r [c]).toNat, by omega⟩
        rw [if_neg hi, hi', if_pos (by omega), if_pos (by omega)]
        have : ((i : Int) + 1).toNat = i + 1 := by omega
        simp [this]
theorem splitOn_join (c : UInt8) : ∀ (x : List UInt8) (rest : List (List UInt8)), c ∉ x → (∀ y ∈ rest, c ∉ y) → splitOn c (join (x :: rest) [c]) = x :: rest
  | [], rest, hx, hr => by
    rw [join_cons]
    cases rest with
    | nil => rfl
    | cons y ys =>
      have ih := splitOn_join c y ys (hr y (by simp)) (fun z hz => hr z (by simp [hz]))
      rw [join_cons] at ih
      simp only [joinTail, List.map_cons, List.flatten_cons, List.nil_append, List.cons_append]
      rw [splitOn, if_pos rfl]
      simp only [joinTail] at ih
      simpa using ih
  | b :: x, rest, hx, hr => by
    have ih := splitOn_join c x rest (fun h => hx (by simp [h])) hr
    rw [join_cons] at ih ⊢
    rw [List.cons_append, splitOn, if_neg (fun e => hx (by simp [e])), ih]
termination_by x rest => (rest.length, x.length)
theorem join_splitOn (c : UInt8) : ∀ s : List UInt8, join (splitOn c s) [c] = s
  | [] => rfl
  | b :: r => by
    have ih := join_splitOn c r
    have hne := splitOn_ne c r
    rw [splitOn.eq_def]
    dsimp only
    split
    · rename_i h
      subst h
      cases hs : splitOn b r with
      | nil => exact absurd hs hne
      | cons p ps =>
        rw [hs, join_cons] at ih
        rw [join_cons]
        simp only [joinTail, List.map_cons, List.flatten_cons, List.nil_append, List.cons_append] at *
        simpa using ih
    · cases hs : splitOn c r with
      | nil => exact absurd hs hne
      | cons p ps =>
        rw [hs, join_cons] at ih
        rw [join_cons, List.cons_append, ih]
theorem cutOn_at (c : UInt8) : ∀ (x y : List UInt8), c ∉ x → cutOn c (x ++ c :: y) = (x, y)
  | [], y, _ => by simp [cutOn]
  | b :: x, y, h => by
    rw [List.cons_append, cutOn, if_neg (fun e => h (by simp [e])), cutOn_at c x y (fun h' => h (by simp [h']))]
theorem cutOn_back (c : UInt8) : ∀ (s : List UInt8), (cutOn c s).2 ≠ [] → (cutOn c s).1 ++ c :: (cutOn c s).2 = s
  | [], h => by simp [cutOn] at h
  | b :: r, h => by
    rw [cutOn] at *
    split
    · rename_i e; subst e; simp
    · rename_i e
      rw [if_neg e] at h
      have := cutOn_back c r h
      simp only [List.cons_append]
      rw [this]
theorem dec_not (n : Nat) (c : UInt8) (h : c.toNat < 48) : c ∉ decDigits n := fun hm => by
  have := dec_digs n c hm
  omega
theorem dec_step (acc d : Nat) (ha : 0 < acc) (hd : d < 10) : decDigits (acc * 10 + d) = decDigits acc ++ [UInt8.ofNat (48 + d)] := by
  rw [decDigits.eq_def (acc * 10 + d), dif_neg (by omega), show (acc * 10 + d) / 10 = acc by omega, show (acc * 10 + d) % 10 = d by omega]
theorem ofNat_dig (c : UInt8) (h : 48 ≤ c.toNat) : UInt8.ofNat (48 + (c.toNat - 48)) = c := by
  rw [show 48 + (c.toNat - 48) = c.toNat by omega]
  exact UInt8.ofNat_toNat
/-- A number with no nought ahead is its own text. -/
theorem dec_val (l : List UInt8) (h : ∀ b ∈ l, 48 ≤ b.toNat ∧ b.toNat ≤ 57) : ∀ acc : Nat, 0 < acc → decDigits (valD acc l) = decDigits acc ++ l := by
  induction l with
  | nil => intro acc _; rw [List.append_nil]; rfl
  | cons c r ih =>
    intro acc ha
    have hc := h c List.mem_cons_self
    have e : valD acc (c :: r) = valD (acc * 10 + (c.toNat - 48)) r := rfl
    rw [e, ih (fun b hb => h b (List.mem_cons_of_mem _ hb)) _ (by omega), dec_step _ _ ha (by omega), ofNat_dig c hc.1, List.append_assoc]
    rfl
end Go.Proofs.YtjdapfimjpbnmaaDoor
