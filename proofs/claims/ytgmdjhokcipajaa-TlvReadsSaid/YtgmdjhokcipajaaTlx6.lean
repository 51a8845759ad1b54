import Derived.Test.YtgmdjhokcipajaaTlx5
set_option linter.unusedVariables false
set_option linter.unusedSimpArgs false
namespace Go.Proofs.YtgmdjhokcipajaaQ.PTlx
open Go.RowKit Go.Proofs.YtgmdjhokcipajaaW.PrintWords Go.Proofs.YtgmdjhokcipajaaW.PrintMore
open Go.Proofs.Ytgmdjhokcipajaa (four valB padB updB szB rightB Byte byteB four_len szB_bd oneM rd_get valB_bd4 valB_bd2)
/-! The law's own reading of a datagram. -/
theorem u64w (x : Int) (h0 : 0 ≤ x) (h1 : x ≤ 18446744073709551615) : IntKind.u64.wrap x = x := by rw [IntKind.wrap_u64]; omega
theorem rd_bd (l : List Int) (hb : Byte l) (j : Nat) (h : j < l.length) : 0 ≤ rd l (j : Int) ∧ rd l (j : Int) ≤ 255 := by rw [rd_get l j h]; exact hb _ (List.getElem_mem h)
theorem four_val (x : List Int) (hb : Byte x) (h4 : x.length = 4) (i : Nat) (y : List Int) (hx : (y.drop i).take 4 = x) (hy : i + 4 ≤ y.length) :
    ((((((((((rd y (i : Int)) % 4294967296) * 16777216) % 4294967296) + ((((rd y ((i + 1 : Nat) : Int)) % 4294967296) * 65536) % 4294967296)) % 4294967296) + ((((rd y ((i + 2 : Nat) : Int)) % 4294967296) * 256) % 4294967296)) % 4294967296) + ((rd y ((i + 3 : Nat) : Int)) % 4294967296)) % 4294967296) = valB x := by
  have e : ∀ j, j < 4 → ∀ h : j < x.length, rd y ((i + j : Nat) : Int) = x[j] := by
    intro j hj h
    subst hx
    rw [rd_get y (i + j) (by omega)]
    simp
  have e0 := e 0 (by omega) (by omega)
  have e1 := e 1 (by omega) (by omega)
  have e2 := e 2 (by omega) (by omega)
  have e3 := e 3 (by omega) (by omega)
  rw [Nat.add_zero] at e0
  rw [e0, e1, e2, e3]
  match x, h4, hb with
  | [a, b, c, d], _, hb =>
    have ha := hb a (by simp)
    have hb' := hb b (by simp)
    have hc := hb c (by simp)
    have hd := hb d (by simp)
    show ((((((((((a) % 4294967296) * 16777216) % 4294967296) + ((((b) % 4294967296) * 65536) % 4294967296)) % 4294967296) + ((((c) % 4294967296) * 256) % 4294967296)) % 4294967296) + ((d) % 4294967296)) % 4294967296) = (((0 * 256 + a) * 256 + b) * 256 + c) * 256 + d
    omega
theorem shl_at (v : Int) (j : Nat) (hj : j < 4) (h0 : 0 ≤ v) (h1 : v ≤ 255) : shl .u32 (v % 4294967296) (IntKind.u64.wrap (wrap64 (24 - wrap64 (8 * (j : Int))))) = v * 256 ^ (3 - j) := by
  rw [w64 (8 * (j : Int)) (by omega) (by omega), w64 (24 - 8 * (j : Int)) (by omega) (by omega), u64w _ (by omega) (by omega)]
  unfold shl
  rw [IntKind.wrap_u32]
  rcases (show j = 0 ∨ j = 1 ∨ j = 2 ∨ j = 3 by omega) with rfl | rfl | rfl | rfl
  · show v % 4294967296 * 2 ^ 24 % 4294967296 = v * 256 ^ 3
    omega
  · show v % 4294967296 * 2 ^ 16 % 4294967296 = v * 256 ^ 2
    omega
  · show v % 4294967296 * 2 ^ 8 % 4294967296 = v * 256 ^ 1
    omega
  · show v % 4294967296 * 2 ^ 0 % 4294967296 = v * 256 ^ 0
    omega
/-- The address's bytes so far. -/
def sumB (y : List Int) : Nat → Int
  | 0 => 0
  | j + 1 => sumB y j + rd y (j : Int) * 256 ^ (3 - j)
theorem sumB_pad (y : List Int) (hb : Byte y) (h : y.length ≤ 4) : sumB y y.length = valB (padB y) := by
  match y, h, hb with
  | [], _, _ => rfl
  | [a], _, hb => show 0 + a * 16777216 = (((0 * 256 + a) * 256 + 0) * 256 + 0) * 256 + 0; omega
  | [a, b], _, hb => show 0 + a * 16777216 + b * 65536 = (((0 * 256 + a) * 256 + b) * 256 + 0) * 256 + 0; omega
  | [a, b, c], _, hb => show 0 + a * 16777216 + b * 65536 + c * 256 = (((0 * 256 + a) * 256 + b) * 256 + c) * 256 + 0; omega
  | [a, b, c, d], _, hb => show 0 + a * 16777216 + b * 65536 + c * 256 + d * 1 = (((0 * 256 + a) * 256 + b) * 256 + c) * 256 + d; omega
theorem sumB_bd (y : List Int) (hb : Byte y) : ∀ j, j ≤ y.length → j ≤ 4 → 0 ≤ sumB y j ∧ sumB y j ≤ 4294967296 - 256 ^ (4 - j)
  | 0, _, _ => by show (0 : Int) ≤ 0 ∧ (0 : Int) ≤ 4294967296 - 256 ^ 4; omega
  | j + 1, h, h4 => by
    have ih := sumB_bd y hb j (by omega) (by omega)
    have r := rd_bd y hb j (by omega)
    unfold sumB
    rcases (show j = 0 ∨ j = 1 ∨ j = 2 ∨ j = 3 by omega) with rfl | rfl | rfl | rfl
    · simp only [Nat.reduceSub, Nat.zero_add, Int.reducePow] at ih ⊢; omega
    · simp only [Nat.reduceSub, Nat.reduceAdd, Int.reducePow] at ih ⊢; omega
    · simp only [Nat.reduceSub, Nat.reduceAdd, Int.reducePow] at ih ⊢; omega
    · simp only [Nat.reduceSub, Nat.reduceAdd, Int.reducePow] at ih ⊢; omega
theorem law_l1 (x0 : List Int) (acc : List U) (id : Int) (i : Int) (y : List Int) (hb : Byte y) (hy : y.length ≤ 4) (l : Int) (s m : Int) : ∀ (n j k : Nat), j + n = y.length →
    wayfarerlaw08_decode.l1 (k + n + 1) x0 acc id i y (y.length : Int) (j : Int) (sumB y j) l id s m = wayfarerlaw08_decode.l1 (k + 1) x0 acc id i y (y.length : Int) (y.length : Int) (valB (padB y)) l id s m
  | 0, j, k, h => by
    obtain rfl : j = y.length := by omega
    rw [sumB_pad y hb hy]
  | n + 1, j, k, h => by
    have hj : j < y.length := by omega
    have r := rd_bd y hb j hj
    have sb := sumB_bd y hb (j + 1) (by omega) (by omega)
    have hp : (0 : Int) ≤ 256 ^ (4 - (j + 1)) := by
      rcases (show j = 0 ∨ j = 1 ∨ j = 2 ∨ j = 3 by omega) with rfl | rfl | rfl | rfl <;> decide
    have hp1 : (1 : Int) ≤ 256 ^ (4 - (j + 1)) := by
      rcases (show j = 0 ∨ j = 1 ∨ j = 2 ∨ j = 3 by omega) with rfl | rfl | rfl | rfl <;> decide
    have e : (sumB y j + rd y (j : Int) * 256 ^ (3 - j)) % 4294967296 = sumB y (j + 1) := by
      show (sumB y (j + 1)) % 4294967296 = sumB y (j + 1)
      omega
    have w : 0 ≤ IntKind.u64.wrap (wrap64 (24 - wrap64 (8 * (j : Int)))) := by rw [w64 (8 * (j : Int)) (by omega) (by omega), w64 (24 - 8 * (j : Int)) (by omega) (by omega), u64w _ (by omega) (by omega)]; omega
    rw [show k + (n + 1) + 1 = (k + n + 1) + 1 by omega, wayfarerlaw08_decode.l1, if_pos (by omega), if_pos (by omega), if_pos (by omega), if_pos w, shl_at _ j (by omega) r.1 r.2, e, w64 _ (by omega) (by omega)]
    exact law_l1 x0 acc id i y hb hy l s m n (j + 1) k (by omega)
theorem oneM_no (x : List Int) (id : Int) (h : x.length < 7 ∨ 32 < rd x 0 ∨ (x.length : Int) ≠ 7 + szB (rd x 0)) : (oneM x id).2.2.2.2.2 = false := by
  unfold oneM
  have e : x.getD 0 0 = rd x 0 := rfl
  rw [e]
  by_cases h1 : x.length < 7
  · rw [if_pos h1]
  · rw [if_neg h1]
    by_cases h2 : 32 < rd x 0
    · rw [if_pos h2]
    · rw [if_neg h2]
      by_cases h3 : (x.length : Int) ≠ 7 + szB (rd x 0)
      · rw [if_pos h3]
      · exact absurd h (by omega)
theorem two16_val (x : List Int) (hb : Byte x) (h : 7 ≤ x.length) : IntKind.u16.wrap ((IntKind.u16.wrap ((IntKind.u16.wrap (rd x 5)) * 256)) + (IntKind.u16.wrap (rd x 6))) = valB ((x.drop 5).take 2) := by
  have b5 : 0 ≤ rd x 5 ∧ rd x 5 ≤ 255 := rd_bd x hb 5 (by omega)
  have b6 : 0 ≤ rd x 6 ∧ rd x 6 ≤ 255 := rd_bd x hb 6 (by omega)
  have e : (x.drop 5).take 2 = [rd x 5, rd x 6] := by
    have e5 : rd x 5 = x[5] := rd_get x 5 (by omega)
    have e6 : rd x 6 = x[6] := rd_get x 6 (by omega)
    rw [e5, e6, List.drop_eq_getElem_cons (show 5 < x.length by omega), List.drop_eq_getElem_cons (show 6 < x.length by omega)]
    rfl
  rw [e]
  show _ = (0 * 256 + rd x 5) * 256 + rd x 6
  rw [IntKind.wrap_u16, IntKind.wrap_u16, IntKind.wrap_u16, IntKind.wrap_u16]
  omega
/-- A part's end: what comes of it. -/
theorem law_j5 (k : Nat) (x0 : List Int) (acc : List U) (id : Int) (hid : 0 ≤ id ∧ id ≤ 4294967295) (i : Int) (x : List Int) (hb : Byte x) (h7 : 7 ≤ x.length) (h32 : rd x 0 ≤ 32) (hsz : (x.length : Int) = 7 + szB (rd x 0)) (ha : acc.length ≤ 5000) :
    wayfarerlaw08_decode.j5 (k + (x.length - 7) + 3) x0 acc id i x false = wayfarerlaw08_decode.l0 (k + 1) x0 (accOf 3 x id acc) id i := by
  have b0 : 0 ≤ rd x 0 ∧ rd x 0 ≤ 255 := rd_bd x hb 0 (by omega)
  have hz := szB_bd (rd x 0) b0.1 h32
  have hq := four_val ((x.drop 1).take 4) ((hb.drop 1).take 4) (by simp; omega) 1 x rfl (by omega)
  have hm := two16_val x hb h7
  have hdl : (x.drop 7).length = x.length - 7 := by simp
  have h4 : (x.drop 7).length ≤ 4 := by omega
  have hl := law_l1 x0 acc id i (x.drop 7) (hb.drop 7) h4 (wrap64 (rd x 0)) (valB ((x.drop 1).take 4)) (valB ((x.drop 5).take 2)) (x.drop 7).length 0 (k + 1) (by omega)
  have hs0 : sumB (x.drop 7) 0 = 0 := rfl
  have hw0 : wrap64 (rd x 0) = rd x 0 := w64 _ (by omega) (by omega)
  rw [hs0, hdl, hw0] at hl
  have av := valB_bd4 (padB (x.drop 7)) ((hb.drop 7).pad) (by rw [Ytgmdjhokcipajaa.padB_len]; omega)
  have qv := valB_bd4 ((x.drop 1).take 4) ((hb.drop 1).take 4) (by simp; omega)
  have mv := valB_bd2 ((x.drop 5).take 2) ((hb.drop 5).take 2) (by simp; omega)
  rw [show k + (x.length - 7) + 3 = (k + 1 + (x.length - 7) + 1) + 1 by omega, wayfarerlaw08_decode.j5, if_neg (by decide), if_pos (by omega), if_pos (by omega), if_pos (by omega), if_pos (by omega), if_pos (by omega), if_pos (by omega), if_pos (by omega), if_pos (by omega), hw0, hm, hdl]
  refine (Eq.trans ?_ hl).trans ?_
  · congr 1
  have hone : oneM x id = (valB (padB (x.drop 7)), rd x 0, (if valB ((x.drop 5).take 2) = 65535 then 0 else id), valB ((x.drop 1).take 4), valB ((x.drop 5).take 2), updB (valB (padB (x.drop 7))) (rd x 0) (if valB ((x.drop 5).take 2) = 65535 then 0 else id) (valB ((x.drop 1).take 4)) (valB ((x.drop 5).take 2))) := by
    unfold oneM
    have e : x.getD 0 0 = rd x 0 := rfl
    rw [e, if_neg (by omega), if_neg (by omega), if_neg (by omega)]
  have fin : ∀ id' : Int, (0 ≤ id' ∧ id' ≤ 4294967295) → id' = (if valB ((x.drop 5).take 2) = 65535 then 0 else id) →
      ((wayfarerlaw08_Right.f (k + 1) (valB (padB (x.drop 7))) (rd x 0) id' (valB ((x.drop 1).take 4)) (valB ((x.drop 5).take 2))).bind fun t => (if t = true then (if acc.length < 4398046511104 then (wayfarerlaw08_decode.l0 (k + 1) x0 (acc ++ [(⟨⟨valB (padB (x.drop 7)), rd x 0⟩, id', ⟨valB ((x.drop 1).take 4), valB ((x.drop 5).take 2)⟩⟩ : U)]) id i) else none) else (wayfarerlaw08_decode.l0 (k + 1) x0 acc id i))) = wayfarerlaw08_decode.l0 (k + 1) x0 (accOf 3 x id acc) id i := by
    intro id' hid' he
    have hR := lawRight_nice ⟨⟨valB (padB (x.drop 7)), rd x 0⟩, id', ⟨valB ((x.drop 1).take 4), valB ((x.drop 5).take 2)⟩⟩ ⟨av, hid', qv, mv⟩ (k + 1) (by omega)
    simp only at hR
    rw [hR, Option.bind_some]
    unfold accOf
    rw [hone, ← he]
    unfold rightU
    simp only
    cases hu : updB (valB (padB (x.drop 7))) (rd x 0) id' (valB ((x.drop 1).take 4)) (valB ((x.drop 5).take 2)) with
    | false => rw [if_neg (by decide), if_neg (by simp)]
    | true =>
      rw [if_pos rfl, if_pos (by omega), if_pos ⟨by first | rfl | trivial, rfl⟩]
      rfl
  rw [wayfarerlaw08_decode.l1, if_neg (by omega)]
  by_cases hme : valB ((x.drop 5).take 2) = 65535
  · rw [if_pos hme]
    exact fin 0 (by omega) (by rw [if_pos hme])
  · rw [if_neg hme]
    exact fin id hid (by rw [if_neg hme])
theorem law_part (K : Nat) (hK : 12 ≤ K) (x0 : List Int) (acc : List U) (id : Int) (hid : 0 ≤ id ∧ id ≤ 4294967295) (i t : Int) (x : List Int) (hb : Byte x) (ha : acc.length ≤ 5000) (fl : Bool) (hfl : fl = decide (t = 2 ∧ x.length = 4)) :
    ∃ K', K ≤ K' + 10 ∧ wayfarerlaw08_decode.j3 K x0 acc id i x t fl = wayfarerlaw08_decode.l0 K' x0 (accOf t x id acc) (idOf t x id) i := by
  obtain ⟨K, rfl⟩ : ∃ m, K = m + 12 := ⟨K - 12, by omega⟩
  have h3 : wayfarerlaw08_decode.j3 (K + 12) x0 acc id i x t fl = wayfarerlaw08_decode.j4 (K + 11) x0 acc (idOf t x id) i x t := by
    rw [show K + 12 = (K + 11) + 1 from rfl, wayfarerlaw08_decode.j3, hfl]
    by_cases h : t = 2 ∧ x.length = 4
    · rw [if_pos (decide_eq_true h), if_pos (by omega), if_pos (by omega), if_pos (by omega), if_pos (by omega)]
      have e := four_val x hb h.2 0 x (by rw [List.drop_zero, List.take_of_length_le (by omega)]) (by omega)
      have e' : ((((((((((rd x 0) % 4294967296) * 16777216) % 4294967296) + ((((rd x 1) % 4294967296) * 65536) % 4294967296)) % 4294967296) + ((((rd x 2) % 4294967296) * 256) % 4294967296)) % 4294967296) + ((rd x 3) % 4294967296)) % 4294967296) = valB x := e
      rw [e']
      unfold idOf
      rw [if_pos h]
    · rw [if_neg (by simpa using h)]
      unfold idOf
      rw [if_neg h]
  rw [h3, show K + 11 = (K + 10) + 1 from rfl, wayfarerlaw08_decode.j4]
  have no : ∀ id', accOf t x id acc = acc → wayfarerlaw08_decode.j5 (K + 10) x0 acc id' i x true = wayfarerlaw08_decode.l0 (K + 9) x0 (accOf t x id acc) id' i := by
    intro id' he
    rw [he, show K + 10 = (K + 9) + 1 from rfl, wayfarerlaw08_decode.j5, if_pos rfl]
  by_cases ht : t = 3
  case neg =>
    rw [if_neg ht]
    exact ⟨K + 9, by omega, no _ (by unfold accOf; rw [if_neg (fun h => ht h.1)])⟩
  have hi : idOf t x id = id := by unfold idOf; rw [if_neg (by omega)]
  rw [if_pos ht, hi]
  have nob : (oneM x id).2.2.2.2.2 = false → accOf t x id acc = acc := fun h => by unfold accOf; rw [h, if_neg (fun h => by cases h.2)]
  by_cases h7 : x.length < 7
  · rw [if_pos (by omega)]
    exact ⟨K + 9, by omega, no _ (nob (oneM_no x id (.inl h7)))⟩
  rw [if_neg (by omega), if_pos (by omega)]
  by_cases h32 : rd x 0 > 32
  · rw [if_pos h32]
    exact ⟨K + 9, by omega, no _ (nob (oneM_no x id (.inr (.inl h32))))⟩
  rw [if_neg h32]
  have b0 : 0 ≤ rd x 0 ∧ rd x 0 ≤ 255 := rd_bd x hb 0 (by omega)
  have hz : wrap64 (7 + wrap64 (Int.tdiv (wrap64 (wrap64 (rd x 0) + 7)) 8)) = 7 + szB (rd x 0) := by
    rw [w64 (rd x 0) (by omega) (by omega), w64 (rd x 0 + 7) (by omega) (by omega), Int.tdiv_eq_ediv_of_nonneg (by omega), w64 ((rd x 0 + 7) / 8) (by omega) (by omega), w64 _ (by omega) (by omega)]
    rfl
  rw [hz]
  by_cases hs : (x.length : Int) = 7 + szB (rd x 0)
  · rw [bne_eq_false_iff_eq.2 hs]
    have hzb := szB_bd (rd x 0) b0.1 (by omega)
    have := law_j5 (K + 10 - (x.length - 7) - 3) x0 acc id hid i x hb (by omega) (by omega) hs ha
    rw [show K + 10 - (x.length - 7) - 3 + (x.length - 7) + 3 = K + 10 by omega] at this
    subst ht
    exact ⟨K + 10 - (x.length - 7) - 3 + 1, by omega, this⟩
  · rw [bne_iff_ne.2 hs]
    exact ⟨K + 9, by omega, no _ (nob (oneM_no x id (.inr (.inr hs))))⟩
theorem law_l0 (x0 : List Int) (hb : Byte x0) (hx : x0.length ≤ 1024) : ∀ (n i k : Nat) (id : Int) (acc : List U), x0.length - i < n → i ≤ x0.length → 12 * (x0.length - i) + 20 ≤ k → (0 ≤ id ∧ id ≤ 4294967295) → acc.length + (x0.length - i) ≤ 5000 →
    wayfarerlaw08_decode.l0 k x0 acc id (i : Int) = outOf (decB n (x0.drop i) id acc)
  | 0, i, k, id, acc, hn, hi, hk, hid, ha => by omega
  | n + 1, i, k, id, acc, hn, hi, hk, hid, ha => by
    obtain ⟨k, rfl⟩ : ∃ m, k = m + 2 := ⟨k - 2, by omega⟩
    rw [show k + 2 = (k + 1) + 1 from rfl, wayfarerlaw08_decode.l0]
    by_cases he : i = x0.length
    · rw [if_neg (by omega), he, List.drop_length, decB_nil]
      rfl
    have hlt : i < x0.length := by omega
    have b0 := rd_bd x0 hb i hlt
    rw [if_pos (by omega), if_pos (by omega), rd_get x0 i hlt, List.drop_eq_getElem_cons hlt]
    rw [rd_get x0 i hlt] at b0
    by_cases h0 : x0[i] = 0
    · rw [if_pos h0, decB_c1 n _ _ id acc h0, w64 _ (by omega) (by omega)]
      exact law_l0 x0 hb hx n (i + 1) (k + 1) id acc (by omega) (by omega) (by omega) hid (by omega)
    rw [if_neg h0, w64 ((i : Int) + 1) (by omega) (by omega)]
    by_cases h1 : i + 1 = x0.length
    · rw [if_pos (by omega), List.drop_eq_nil_of_le (by omega), decB_c2 n _ id acc h0, wayfarerlaw08_decode.j2, if_pos rfl]
      rfl
    have hlt1 : i + 1 < x0.length := by omega
    have b1 := rd_bd x0 hb (i + 1) hlt1
    have e1 : rd x0 ((i : Int) + 1) = x0[i + 1] := rd_get x0 (i + 1) hlt1
    rw [rd_get x0 (i + 1) hlt1] at b1
    rw [if_neg (by omega), if_pos (by omega), if_pos (by omega), e1, List.drop_eq_getElem_cons hlt1]
    have hr2 : (x0.drop (i + 1 + 1)).length = x0.length - (i + 2) := by simp
    generalize hl : x0[i + 1] = l at *
    rw [w64 l (by omega) (by omega), w64 ((i : Int) + 2) (by omega) (by omega), w64 ((i : Int) + 2 + l) (by omega) (by omega)]
    by_cases hs : ((x0.drop (i + 1 + 1)).length : Int) < l
    · rw [decB_c3 n _ l _ id acc h0 hs, decide_eq_true (by omega), wayfarerlaw08_decode.j2, if_pos rfl]
      rfl
    obtain ⟨z, hz⟩ : ∃ z : Nat, l = (z : Int) := ⟨l.toNat, by omega⟩
    rw [decB_c4 n _ l _ id acc h0 hs, decide_eq_false (by omega), wayfarerlaw08_decode.j2, if_neg (by decide), w64 ((i : Int) + 1) (by omega) (by omega), e1, w64 l (by omega) (by omega), w64 ((i : Int) + 2) (by omega) (by omega), w64 ((i : Int) + 2 + l) (by omega) (by omega),
      if_pos (by omega), if_pos (by omega), if_pos (by omega), if_pos (by omega), if_pos (by omega), if_pos (by omega), if_pos (by omega), rd_get x0 i hlt]
    have hX : (x0.take (((i : Int) + 2 + l)).toNat).drop ((i : Int) + 2).toNat = (x0.drop (i + 1 + 1)).take l.toNat := by
      rw [List.drop_take, show ((i : Int) + 2 + l).toNat - ((i : Int) + 2).toNat = l.toNat by omega, show ((i : Int) + 2).toNat = i + 1 + 1 by omega]
    have hXl : ((x0.drop (i + 1 + 1)).take l.toNat).length = z := by simp; omega
    rw [hX, hXl, w64 (2 + (z : Int)) (by omega) (by omega), w64 ((i : Int) + (2 + (z : Int))) (by omega) (by omega)]
    have hbx : Byte ((x0.drop (i + 1 + 1)).take l.toNat) := (hb.drop _).take _
    have hgo : ∀ fl, fl = decide (x0[i] = 2 ∧ ((x0.drop (i + 1 + 1)).take l.toNat).length = 4) → wayfarerlaw08_decode.j3 k x0 acc id ((i : Int) + (2 + (z : Int))) ((x0.drop (i + 1 + 1)).take l.toNat) x0[i] fl = outOf (decB n ((x0.drop (i + 1 + 1)).drop l.toNat) (idOf x0[i] ((x0.drop (i + 1 + 1)).take l.toNat) id) (accOf x0[i] ((x0.drop (i + 1 + 1)).take l.toNat) id acc)) := by
      intro fl hfl
      obtain ⟨K', hK', hj⟩ := law_part k (by omega) x0 acc id hid ((i : Int) + (2 + (z : Int))) x0[i] _ hbx (by omega) fl hfl
      have al := accOf_len x0[i] ((x0.drop (i + 1 + 1)).take l.toNat) id acc
      rw [hj, List.drop_drop]
      have := law_l0 x0 hb hx n (i + 1 + 1 + l.toNat) K' (idOf x0[i] ((x0.drop (i + 1 + 1)).take l.toNat) id) (accOf x0[i] ((x0.drop (i + 1 + 1)).take l.toNat) id acc) (by omega) (by omega) (by omega) (idOf_bd _ _ _ hbx hid) (by omega)
      rw [← this]
      congr 1
      omega
    by_cases h2 : x0[i] = 2
    · rw [if_pos h2]
      have := hgo (((z : Int)) == 4) (by rw [hXl, Bool.eq_iff_iff, beq_iff_eq, decide_eq_true_iff]; omega)
      exact this
    · rw [if_neg h2]
      exact hgo false (by simp [h2])
theorem law_nice (x0 : List Int) (hb : Byte x0) (k : Nat) (hk : 13000 ≤ k) : wayfarerlaw08_decode.f k x0 = some (decM x0) := by
  obtain ⟨k, rfl⟩ : ∃ m, k = m + 1 := ⟨k - 1, by omega⟩
  unfold wayfarerlaw08_decode.f decM
  have jt : ∀ b, b = true → wayfarerlaw08_decode.j0 (k + 1) x0 b = some ([], false) := by
    rintro b rfl
    rfl
  by_cases h4 : x0.length < 4
  · rw [if_pos (by omega), jt _ rfl, if_pos (Or.inl h4)]
  by_cases h10 : 1024 < x0.length
  · rw [if_neg (by omega), if_pos (by omega), jt _ rfl, if_pos (Or.inr (Or.inl h10))]
  rw [if_neg (by omega), if_neg (by omega), if_pos (by omega)]
  by_cases c0 : rd x0 0 = 87
  case neg => rw [if_neg c0, jt _ rfl, if_pos (Or.inr (Or.inr (Or.inl c0)))]
  rw [if_pos c0, if_pos (by omega)]
  by_cases c1 : rd x0 1 = 1
  case neg => rw [if_neg c1, jt _ rfl, if_pos (Or.inr (Or.inr (Or.inr (Or.inl c1))))]
  have b2 : 0 ≤ rd x0 2 ∧ rd x0 2 ≤ 255 := rd_bd x0 hb 2 (by omega)
  have b3 : 0 ≤ rd x0 3 ∧ rd x0 3 ≤ 255 := rd_bd x0 hb 3 (by omega)
  rw [if_pos c1, if_pos (by omega), if_pos (by omega), w64 (rd x0 2) (by omega) (by omega), w64 (rd x0 3) (by omega) (by omega), w64 (256 * rd x0 2) (by omega) (by omega), w64 (256 * rd x0 2 + rd x0 3) (by omega) (by omega), w64 ((x0.length : Int) - 4) (by omega) (by omega)]
  by_cases c2 : rd x0 2 * 256 + rd x0 3 = (x0.length : Int) - 4
  case neg => rw [jt _ (bne_iff_ne.2 (by omega)), if_pos (Or.inr (Or.inr (Or.inr (Or.inr c2))))]
  rw [bne_eq_false_iff_eq.2 (by omega), if_neg (by omega), wayfarerlaw08_decode.j0, if_neg (by decide)]
  have := law_l0 x0 hb (by omega) x0.length 4 k 0 [] (by omega) (by omega) (by omega) (by omega) (by simp; omega)
  refine this.trans ?_
  cases decB x0.length (x0.drop 4) 0 [] <;> rfl
end Go.Proofs.YtgmdjhokcipajaaQ.PTlx
