import Derived.Test.YtgmdjhokcipajaaTlx2
set_option linter.unusedVariables false
set_option linter.unusedSimpArgs false
namespace Go.Proofs.YtgmdjhokcipajaaQ.PTlx
open Go.RowKit Go.Proofs.YtgmdjhokcipajaaW.PrintWords Go.Proofs.YtgmdjhokcipajaaW.PrintMore
open Go.Proofs.Ytgmdjhokcipajaa (four valB padB updB szB rightB Byte byteB four_len szB_bd oneM take_val valB_bd3 rd_get or_byte32 byteB_iff)
/-! Datagrams, in plain lists: read. -/
theorem get_l0 (l : List Int) (hb : Byte l) (h4 : l.length ≤ 4) : ∀ (d j k : Nat), l.length - j = d → j ≤ l.length → d < k → tlv_get.l0 k (valB (l.take j)) l (l.length : Int) (j : Int) = some (valB l) := by
  intro d
  induction d with
  | zero =>
    intro j k hd hj hk
    obtain ⟨k, rfl⟩ : ∃ m, k = m + 1 := ⟨k - 1, by omega⟩
    have : j = l.length := by omega
    subst this
    simp only [tlv_get.l0]
    rw [if_neg (by omega), List.take_length]
  | succ d ih =>
    intro j k hd hj hk
    obtain ⟨k, rfl⟩ : ∃ m, k = m + 1 := ⟨k - 1, by omega⟩
    have hlt : j < l.length := by omega
    have hx := hb l[j] (List.getElem_mem hlt)
    have hy := valB_bd3 (l.take j) (Ytgmdjhokcipajaa.Byte.take hb j) (by simp; omega)
    have hr := rd_get l j hlt
    simp only [tlv_get.l0]
    rw [if_pos (by omega), if_pos (by omega), if_pos (by omega)]
    have e1 : valB (l.take j) * 256 % 4294967296 = valB (l.take j) * 256 := by omega
    have e2 : rd l (j : Int) % 4294967296 = rd l (j : Int) := by omega
    have e4 := or_byte32 (valB (l.take j)) (rd l (j : Int)) hy.1 (by omega) (by omega)
    rw [e1, e2, e4, ← take_val l j hlt]
    have e3 : wrap64 ((j : Int) + 1) = ((j + 1 : Nat) : Int) := by rw [w64 _ (by omega) (by omega)]; omega
    rw [e3]
    clear e1 e2 e3 e4 hy hx hr
    exact ih (j + 1) k (by omega) (by omega) (by omega)
theorem get_nice (l : List Int) (hb : Byte l) (h4 : l.length ≤ 4) (k : Nat) (hk : l.length < k) : tlv_get.f k l = some (valB l) := by
  unfold tlv_get.f
  have h1 := get_l0 l hb h4 l.length 0 k (by omega) (by omega) hk
  have h2 : valB (l.take 0) = 0 := rfl
  have h3 : ((0 : Nat) : Int) = 0 := rfl
  rw [h2, h3] at h1
  exact h1
def mkU (x : Int × Int × Int × Int × Int × Bool) : U := ⟨⟨x.1, x.2.1⟩, x.2.2.1, ⟨x.2.2.2.1, x.2.2.2.2.1⟩⟩
def accOf (t : Int) (x : List Int) (id : Int) (acc : List U) : List U := if t = 3 ∧ (oneM x id).2.2.2.2.2 = true then acc ++ [mkU (oneM x id)] else acc
def idOf (t : Int) (x : List Int) (id : Int) : Int := if t = 2 ∧ x.length = 4 then valB x else id
/-- What parts tell; none: they are none. -/
def decB : Nat → List Int → Int → List U → Option (List U)
  | 0, _, _, _ => none
  | n + 1, b, id, acc =>
    match b with
    | [] => some acc
    | t :: r =>
      if t = 0 then decB n r id acc
      else match r with
        | [] => none
        | l :: r2 => if (r2.length : Int) < l then none else decB n (r2.drop l.toNat) (idOf t (r2.take l.toNat) id) (accOf t (r2.take l.toNat) id acc)
theorem decB_nil (n : Nat) (id : Int) (acc : List U) : decB (n + 1) [] id acc = some acc := rfl
theorem decB_c1 (n : Nat) (t : Int) (r : List Int) (id : Int) (acc : List U) (h : t = 0) : decB (n + 1) (t :: r) id acc = decB n r id acc := by
  show (if t = 0 then decB n r id acc else _) = _
  rw [if_pos h]
theorem decB_c2 (n : Nat) (t : Int) (id : Int) (acc : List U) (h : ¬ t = 0) : decB (n + 1) [t] id acc = none := by
  show (if t = 0 then decB n [] id acc else none) = _
  rw [if_neg h]
theorem decB_c3 (n : Nat) (t l : Int) (r2 : List Int) (id : Int) (acc : List U) (h : ¬ t = 0) (hs : (r2.length : Int) < l) : decB (n + 1) (t :: l :: r2) id acc = none := by
  show (if t = 0 then decB n (l :: r2) id acc else (if (r2.length : Int) < l then none else _)) = _
  rw [if_neg h, if_pos hs]
theorem decB_c4 (n : Nat) (t l : Int) (r2 : List Int) (id : Int) (acc : List U) (h : ¬ t = 0) (hs : ¬ (r2.length : Int) < l) : decB (n + 1) (t :: l :: r2) id acc = decB n (r2.drop l.toNat) (idOf t (r2.take l.toNat) id) (accOf t (r2.take l.toNat) id acc) := by
  show (if t = 0 then decB n (l :: r2) id acc else (if (r2.length : Int) < l then none else _)) = _
  rw [if_neg h, if_neg hs]
def outOf : Option (List U) → Option (List U × Bool)
  | none => some ([], false)
  | some a => some (a, true)
theorem one_nice (x : List Int) (id : Int) (hb : Byte x) (h0 : 0 ≤ id) (h1 : id ≤ 4294967295) (hl : x.length ≤ 1000) : tlv_one.f x id = some (oneM x id) := by
  unfold tlv_one.f
  rw [if_pos ⟨(byteB_iff x).2 hb, h0, h1, by omega⟩]
theorem idOf_bd (t : Int) (x : List Int) (id : Int) (hb : Byte x) (h0 : 0 ≤ id ∧ id ≤ 4294967295) : 0 ≤ idOf t x id ∧ idOf t x id ≤ 4294967295 := by
  unfold idOf
  split
  · rename_i h
    exact Ytgmdjhokcipajaa.valB_bd4 x hb (by omega)
  · exact h0
theorem accOf_len (t : Int) (x : List Int) (id : Int) (acc : List U) : (accOf t x id acc).length ≤ acc.length + 1 := by
  unfold accOf
  split <;> simp
/-- A part's end: what comes of it. -/
theorem Decode_j3 (k : Nat) (hk : 6 ≤ k) (rest : List Int) (acc : List U) (id t : Int) (x : List Int) (hb : Byte x) (h0 : 0 ≤ id ∧ id ≤ 4294967295) (hl : x.length ≤ 1000) (ha : acc.length ≤ 5000) :
    tlv_Decode.j3 (k + 1) rest acc id t x (decide (t = 2 ∧ x.length = 4)) = tlv_Decode.l0 k rest (accOf t x id acc) (idOf t x id) := by
  unfold tlv_Decode.j3
  by_cases h : t = 2 ∧ x.length = 4
  · have ht : t ≠ 3 := by omega
    rw [if_pos (decide_eq_true h), get_nice x hb (by omega) k (by omega), Option.bind_some]
    have e1 : accOf t x id acc = acc := by unfold accOf; rw [if_neg (by omega)]
    have e2 : idOf t x id = valB x := by unfold idOf; rw [if_pos h]
    rw [e1, e2]
  · have e2 : idOf t x id = id := by unfold idOf; rw [if_neg h]
    have e0 : ¬ (decide (t = 2 ∧ x.length = 4) = true) := by simpa using h
    rw [if_neg e0, e2]
    by_cases h3 : t = 3
    · rw [if_pos h3, one_nice x id hb h0.1 h0.2 hl, Option.bind_some]
      by_cases h4 : (oneM x id).2.2.2.2.2 = true
      · have e1 : accOf t x id acc = acc ++ [mkU (oneM x id)] := by unfold accOf; rw [if_pos ⟨h3, h4⟩]
        rw [if_pos h4, if_pos (by omega), e1]
        rfl
      · have e1 : accOf t x id acc = acc := by unfold accOf; rw [if_neg (fun hh => h4 hh.2)]
        rw [if_neg h4, e1]
    · have e1 : accOf t x id acc = acc := by unfold accOf; rw [if_neg (fun hh => h3 hh.1)]
      rw [if_neg h3, e1]
theorem Decode_l0 : ∀ (n : Nat) (b : List Int) (k : Nat) (id : Int) (acc : List U), b.length < n → 3 * b.length + 12 ≤ k → Byte b → b.length ≤ 1020 → (0 ≤ id ∧ id ≤ 4294967295) → acc.length + b.length ≤ 3000 →
    tlv_Decode.l0 k b acc id = outOf (decB n b id acc) := by
  intro n
  induction n with
  | zero => intro b k id acc hn; omega
  | succ n ih =>
    intro b k id acc hn hk hb hl hid ha
    obtain ⟨k, rfl⟩ : ∃ m, k = m + 3 := ⟨k - 3, by omega⟩
    unfold tlv_Decode.l0
    cases b with
    | nil =>
      rw [if_neg (by simp), decB_nil]
      rfl
    | cons t r =>
      have ht := hb t (by simp)
      have hbr : Byte r := fun y hy => hb y (by simp [hy])
      have elen0 : ((t :: r).length : Int) = r.length + 1 := by simp
      rw [if_pos (by omega), if_pos (by omega)]
      have e0 : rd (t :: r) 0 = t := rfl
      rw [e0]
      simp only [List.length_cons] at hn hk hl ha
      by_cases h0 : t = 0
      · rw [if_pos h0, if_pos (by omega), decB_c1 n t r id acc h0]
        exact ih r _ id acc (by omega) (by omega) hbr (by omega) hid (by omega)
      · rw [if_neg h0]
        cases r with
        | nil =>
          rw [if_pos (by simp), decB_c2 n t id acc h0]
          unfold tlv_Decode.j2
          rw [if_pos rfl]
          rfl
        | cons l r2 =>
          have hl' := hbr l (by simp)
          have hb2 : Byte r2 := fun y hy => hbr y (by simp [hy])
          simp only [List.length_cons] at hn hk hl ha
          have e1 : rd (t :: l :: r2) 1 = l := rfl
          have elen : ((t :: l :: r2).length : Int) = r2.length + 2 := by simp; omega
          rw [if_neg (by omega), if_pos (by omega), e1, w64 l (by omega) (by omega), w64 (2 + l) (by omega) (by omega)]
          unfold tlv_Decode.j2
          by_cases hs : (r2.length : Int) < l
          · rw [if_pos (decide_eq_true (by omega))]
            rw [decB_c3 n t l r2 id acc h0 hs]
            rfl
          · have hs' : ¬ (decide (((t :: l :: r2).length : Int) < 2 + l) = true) := by simp only [decide_eq_true_eq]; omega
            rw [if_neg hs', if_pos (by omega), if_pos (by omega), e0, e1, w64 l (by omega) (by omega), w64 (2 + l) (by omega) (by omega), if_pos (by omega), if_pos (by omega), Option.bind_some]
            have ex : ((t :: l :: r2).take (2 + l).toNat).drop 2 = r2.take l.toNat := by
              have : (2 + l).toNat = l.toNat + 2 := by omega
              rw [this]
              rfl
            have exl : (r2.take l.toNat).length = l.toNat := by rw [List.length_take]; omega
            have ed : (t :: l :: r2).drop (2 + ((r2.take l.toNat).length : Int)).toNat = r2.drop l.toNat := by
              have : (2 + ((r2.take l.toNat).length : Int)).toNat = l.toNat + 2 := by omega
              rw [this]
              rfl
            rw [ex, w64 (2 + ((r2.take l.toNat).length : Int)) (by omega) (by omega), if_pos (by omega), if_pos (by omega), Option.bind_some, ed]
            rw [decB_c4 n t l r2 id acc h0 hs]
            have hbx : Byte (r2.take l.toNat) := Ytgmdjhokcipajaa.Byte.take hb2 _
            have hj := Decode_j3 k (by omega) (r2.drop l.toNat) acc id t (r2.take l.toNat) hbx hid (by omega) (by omega)
            have hac := accOf_len t (r2.take l.toNat) id acc
            have hfin := ih (r2.drop l.toNat) k (idOf t (r2.take l.toNat) id) (accOf t (r2.take l.toNat) id acc) (by rw [List.length_drop]; omega) (by rw [List.length_drop]; omega) (Ytgmdjhokcipajaa.Byte.drop hb2 _) (by rw [List.length_drop]; omega) (idOf_bd _ _ _ hbx hid) (by rw [List.length_drop]; omega)
            rw [← hfin, ← hj]
            by_cases h2 : t = 2
            · rw [if_pos h2]
              congr 1
              rw [Bool.eq_iff_iff]
              simp [h2]
              omega
            · rw [if_neg h2]
              congr 1
              rw [Bool.eq_iff_iff]
              simp [h2]
/-- What a datagram tells; false: it is none. -/
def decM (b : List Int) : List U × Bool :=
  if b.length < 4 ∨ 1024 < b.length ∨ rd b 0 ≠ 87 ∨ rd b 1 ≠ 1 ∨ rd b 2 * 256 + rd b 3 ≠ (b.length : Int) - 4 then ([], false)
  else match decB b.length (b.drop 4) 0 [] with
    | none => ([], false)
    | some a => (a, true)
theorem Dj0t (k : Nat) (b : List Int) (x : Bool) (h : x = true) : tlv_Decode.j0 (k + 1) b x = some ([], false) := by
  subst h
  rfl
theorem Dj0f (k : Nat) (b : List Int) (x : Bool) (h : x = false) (h4 : 4 ≤ (b.length : Int)) : tlv_Decode.j0 (k + 1) b x = tlv_Decode.l0 k (b.drop 4) [] 0 := by
  subst h
  show (if false = true then (some ([], false) : Option (List U × Bool)) else if 4 ≤ (b.length : Int) then tlv_Decode.l0 k (b.drop 4) [] 0 else none) = _
  rw [if_neg (by decide), if_pos h4]
theorem two_val (a b : Int) : valB [a, b] = a * 256 + b := by simp [valB]
theorem Decode_nice (b : List Int) (hb : Byte b) (hl : b.length ≤ 140737488350000) (k : Nat) (hk : 3100 ≤ k) : tlv_Decode.f k b = some (decM b) := by
  obtain ⟨k, rfl⟩ : ∃ m, k = m + 1 := ⟨k - 1, by omega⟩
  unfold tlv_Decode.f decM
  by_cases h4 : b.length < 4
  · rw [if_pos (by omega), if_pos (Or.inl h4)]
    exact Dj0t _ _ _ rfl
  rw [if_neg (by omega)]
  by_cases h5 : 1024 < b.length
  · rw [if_pos (by omega), if_pos (Or.inr (Or.inl h5))]
    exact Dj0t _ _ _ rfl
  rw [if_neg (by omega), if_pos (by omega)]
  by_cases h0 : rd b 0 = 87
  case neg => rw [if_neg h0, if_pos (Or.inr (Or.inr (Or.inl h0)))]; exact Dj0t _ _ _ rfl
  rw [if_pos h0, if_pos (by omega)]
  by_cases h1 : rd b 1 = 1
  case neg => rw [if_neg h1, if_pos (Or.inr (Or.inr (Or.inr (Or.inl h1))))]; exact Dj0t _ _ _ rfl
  rw [if_pos h1, if_pos (by omega), if_pos (by omega)]
  have e2 : (b.take 4).drop 2 = [rd b 2, rd b 3] := by
    match b, h4 with
    | x0 :: x1 :: x2 :: x3 :: r, _ => rfl
    | [], h => simp at h
    | [_], h => simp at h
    | [_, _], h => simp at h
    | [_, _, _], h => simp at h
  have hx2 : 0 ≤ rd b 2 ∧ rd b 2 ≤ 255 := by
    have := hb b[2] (List.getElem_mem (by omega)); rw [← rd_get b 2 (by omega)] at this; exact this
  have hx3 : 0 ≤ rd b 3 ∧ rd b 3 ≤ 255 := by
    have := hb b[3] (List.getElem_mem (by omega)); rw [← rd_get b 3 (by omega)] at this; exact this
  rw [e2, get_nice [rd b 2, rd b 3] (fun x hx => by simp at hx; omega) (by simp) (k + 1) (by simp; omega), Option.bind_some, two_val, w64 _ (by omega) (by omega), w64 _ (by omega) (by omega)]
  by_cases h6 : rd b 2 * 256 + rd b 3 = (b.length : Int) - 4
  case neg =>
    have : ((rd b 2 * 256 + rd b 3) != ((b.length : Int) - 4)) = true := bne_iff_ne.2 h6
    rw [Dj0t _ _ _ this, if_pos (Or.inr (Or.inr (Or.inr (Or.inr h6))))]
  have : ((rd b 2 * 256 + rd b 3) != ((b.length : Int) - 4)) = false := bne_eq_false_iff_eq.2 h6
  rw [Dj0f _ _ _ this (by omega), if_neg (by simp only [not_or]; omega)]
  rw [Decode_l0 b.length (b.drop 4) k 0 [] (by rw [List.length_drop]; omega) (by rw [List.length_drop]; omega) (Ytgmdjhokcipajaa.Byte.drop hb 4) (by rw [List.length_drop]; omega) (by omega) (by rw [List.length_drop]; simp; omega)]
  cases decB b.length (b.drop 4) 0 [] <;> rfl
end Go.Proofs.YtgmdjhokcipajaaQ.PTlx
