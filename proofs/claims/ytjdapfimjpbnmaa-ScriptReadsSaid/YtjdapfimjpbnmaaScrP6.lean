import Derived.Test.YtjdapfimjpbnmaaScrP5
set_option linter.unusedVariables false
set_option linter.unusedSimpArgs false
namespace Go.Proofs.YtjdapfimjpbnmaaQ.PScr
open Go.RowKit Go.Proofs.YtjdapfimjpbnmaaW.PrintWords Go.Proofs.YtjdapfimjpbnmaaW.PrintMore
open Go.Proofs.Ytjdapfimjpbnmaa (four valB byteB rightB Byte four_len evRightB evHas evRest numB valB_snoc valB_bd valB_bd4 or_add_nat str_inj str_data str_empty toList_eq fold_bd)
/-! The head's example; what is asked of few events, and of the same ones. -/
theorem beN_byte (n : Int) : ∀ s, Byte (beN n s)
  | 0 => by intro x hx; cases hx
  | s + 1 => by
    intro x hx
    rcases List.mem_cons.1 hx with rfl | hx
    · omega
    · exact beN_byte n s x hx
theorem evBytes_byte (e : Ev) : Byte (evBytes e) := by
  intro x hx
  simp only [evBytes, List.mem_cons, List.mem_append, List.not_mem_nil, or_false] at hx
  rcases hx with rfl | ((((h | h) | h) | h) | rfl | rfl) | h
  · omega
  · exact beN_byte _ _ x h
  · exact beN_byte _ _ x h
  · exact beN_byte _ _ x h
  · exact beN_byte _ _ x h
  · omega
  · omega
  · exact bytesOf_byte _ x h
theorem flat_byte (xs : List Ev) : Byte (xs.flatMap evBytes) := by
  intro x hx
  obtain ⟨e, -, h⟩ := List.mem_flatMap.1 hx
  exact evBytes_byte e x h
theorem flat_len (xs : List Ev) (hs : ∀ e ∈ xs, e.f5.size ≤ 240) : (xs.flatMap evBytes).length ≤ 256 * xs.length := by
  induction xs with
  | nil => simp
  | cons e xs ih =>
    have h1 := ih (fun y hy => hs y (by simp [hy]))
    have h2 := hs e (by simp)
    simp only [List.flatMap_cons, List.length_append, evBytes_len, List.length_cons]
    omega
/-- A script's bytes. -/
def scr (n s : Int) (xs : List Ev) : List Int := [n % 256] ++ beN s 2 ++ xs.flatMap evBytes
theorem scr_byte (n s : Int) (xs : List Ev) : Byte (scr n s xs) := by
  intro x hx
  simp only [scr, List.mem_append, List.mem_cons, List.not_mem_nil, or_false] at hx
  rcases hx with (rfl | h) | h
  · omega
  · exact beN_byte _ _ x h
  · exact flat_byte xs x h
theorem scr_len (n s : Int) (xs : List Ev) : (scr n s xs).length = 3 + (xs.flatMap evBytes).length := by simp [scr, beN_len]; omega
theorem scr_drop (n s : Int) (xs : List Ev) : (scr n s xs).drop 3 = xs.flatMap evBytes := rfl
theorem scr_head (n s : Int) (xs : List Ev) (hn : 1 ≤ n ∧ n ≤ 8) (hs : 1 ≤ s ∧ s ≤ 512) : netN (scr n s xs) = n ∧ netS (scr n s xs) = s ∧ headB (scr n s xs) = true := by
  have h1 : netN (scr n s xs) = n := by show n % 256 = n; omega
  have h2 : netS (scr n s xs) = s := by show (0 * 256 + s / 256 % 256) * 256 + s / 1 % 256 = s; omega
  refine ⟨h1, h2, ?_⟩
  unfold headB
  rw [h1, h2, scr_len]
  simp
  omega
theorem dec_scr (n s : Int) (xs : List Ev) (hn : 1 ≤ n ∧ n ≤ 8) (hs : 1 ≤ s ∧ s ≤ 512) (hr : ∀ e ∈ xs, rightE e = true ∧ okE e) (hl : xs.length ≤ 8192) (hL : (scr n s xs).length ≤ 262144) : decM (scr n s xs) = (n, s, xs, ((scr n s xs).length : Int), 0) := by
  obtain ⟨h1, h2, h3⟩ := scr_head n s xs hn hs
  have h4 := decR_app xs hr ((scr n s xs).length + 1) [] 3 (by rw [scr_len]; omega) (by simpa using hl)
  unfold decM
  rw [if_neg (by omega), if_pos h3, h1, h2, scr_drop, h4, scr_len]
  simp
theorem enc_scr (n s : Int) (xs : List Ev) (hn : 1 ≤ n ∧ n ≤ 8) (hs : 1 ≤ s ∧ s ≤ 512) (hr : ∀ e ∈ xs, rightE e = true) (hl : xs.length ≤ 8192) : encM n s xs = (scr n s xs, 0) := by
  unfold encM
  rw [if_neg (by omega), if_neg (by omega), if_pos (by simpa using hr)]
  rfl
def tickE : Ev := ⟨6, 2, 0, 0, ⟨0, 0⟩, ⟨#[]⟩⟩
theorem tick_right : rightE tickE = true := by decide
theorem tick_ok : okE tickE := by unfold okE tickE; decide
theorem head_true (k : Nat) : wayfarerlaw14_head.f (k + 60) = some true := by
  have h1 := Encode_nice (k + 35) 3 300 [tickE] (by intro e he; simp at he; rw [he]; exact tick_ok) (by simp)
  have h2 : encM 3 300 [tickE] = (scr 3 300 [tickE], 0) := enc_scr 3 300 [tickE] (by omega) (by omega) (by intro e he; simp at he; rw [he]; exact tick_right) (by simp)
  have h3 : scr 3 300 [tickE] = [3, 1, 44, 6, 0, 0, 2, 0, 0, 0, 0, 0, 0, 0, 0, 0, 0, 0, 0] := by decide
  have h4 := Decode_nice (k + 21) (scr 3 300 [tickE]) (scr_byte _ _ _) (by rw [h3]; decide)
  have h5 := dec_scr 3 300 [tickE] (by omega) (by omega) (by intro e he; simp at he; rw [he]; exact ⟨tick_right, tick_ok⟩) (by simp) (by rw [h3]; decide)
  rw [h2, show k + 35 + 5 * [tickE].length + 20 = k + 60 from rfl] at h1
  rw [h5, h3, show k + 21 + ([3, 1, 44, 6, 0, 0, 2, 0, 0, 0, 0, 0, 0, 0, 0, 0, 0, 0, 0] : List Int).length + 20 = k + 60 from rfl] at h4
  rw [h3] at h1
  unfold wayfarerlaw14_head.f
  have h6 : script_Encode.f (k + 60) 3 300 ([(⟨6, 2, 0, 0, (⟨0, 0⟩ : Px), (⟨#[]⟩ : ByteArray)⟩ : Ev)] : List Ev) = some ([3, 1, 44, 6, 0, 0, 2, 0, 0, 0, 0, 0, 0, 0, 0, 0, 0, 0, 0], 0) := h1
  rw [h6, Option.bind_some]
  simp only [h4]
  rfl
theorem few_l0 (xs ys : List Ev) (hl : xs.length ≤ 140737488000000) : ∀ (n j k : Nat), j + n = xs.length → wayfarerlaw14_Few.l0 (k + n + 1) ys xs (xs.length : Int) (j : Int) = some ((xs.drop j).all (fun e => decide (e.f5.size ≤ 400)) && decide (ys.length ≤ 150))
  | 0, j, k, h => by
    rw [wayfarerlaw14_Few.l0, if_neg (by omega), List.drop_eq_nil_of_le (by omega)]
    simp
    omega
  | n + 1, j, k, h => by
    have hj : j < xs.length := by omega
    rw [show k + (n + 1) + 1 = (k + n + 1) + 1 by omega, wayfarerlaw14_Few.l0, if_pos (by omega), if_pos (by omega), if_pos (by omega), rd_T xs j hj, List.drop_eq_getElem_cons hj, List.all_cons]
    by_cases hs : xs[j].f5.size ≤ 400
    · rw [if_neg (by omega), w64 _ (by omega) (by omega)]
      have := few_l0 xs ys hl n (j + 1) k (by omega)
      simp only [hs, decide_true, Bool.true_and]
      exact this
    · rw [if_pos (by omega)]
      simp [hs]
theorem Few_nice (k : Nat) (xs : List Ev) (hl : xs.length ≤ 140737488000000) : wayfarerlaw14_Few.f (k + xs.length + 1) xs = some (xs.all (fun e => decide (e.f5.size ≤ 400)) && decide (xs.length ≤ 150)) := by
  have := few_l0 xs xs hl xs.length 0 k (by omega)
  rw [List.drop_zero] at this
  exact this
theorem same_l0 (xs : List Ev) (hl : xs.length ≤ 1000000) : ∀ (n j k : Nat), j + n = xs.length → wayfarerlaw14_Same.l0 (k + n + 1) xs xs (xs.length : Int) (j : Int) = some true
  | 0, j, k, h => by rw [wayfarerlaw14_Same.l0, if_neg (by omega)]
  | n + 1, j, k, h => by
    have hj : j < xs.length := by omega
    rw [show k + (n + 1) + 1 = (k + n + 1) + 1 by omega, wayfarerlaw14_Same.l0, if_pos (by omega), if_pos (by omega), if_pos (by omega), if_pos (by omega), if_neg (by simp), w64 _ (by omega) (by omega)]
    exact same_l0 xs hl n (j + 1) k (by omega)
theorem Same_nice (k : Nat) (xs : List Ev) (hl : xs.length ≤ 1000000) : wayfarerlaw14_Same.f (k + xs.length + 1) xs xs = some true := by
  unfold wayfarerlaw14_Same.f
  rw [if_pos rfl]
  exact same_l0 xs hl xs.length 0 k (by omega)
end Go.Proofs.YtjdapfimjpbnmaaQ.PScr
