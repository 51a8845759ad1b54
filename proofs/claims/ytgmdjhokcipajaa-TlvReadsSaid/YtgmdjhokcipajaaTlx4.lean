import Derived.Test.YtgmdjhokcipajaaTlx3
set_option linter.unusedVariables false
set_option linter.unusedSimpArgs false
namespace Go.Proofs.YtgmdjhokcipajaaQ.PTlx
open Go.RowKit Go.Proofs.YtgmdjhokcipajaaW.PrintWords Go.Proofs.YtgmdjhokcipajaaW.PrintMore
open Go.Proofs.Ytgmdjhokcipajaa (four valB padB updB szB rightB Byte byteB four_len szB_bd oneM)
/-! What is told reads as what it is. -/
theorem val_four (n : Int) (h : 0 ≤ n ∧ n ≤ 4294967295) : valB (four n) = n := by
  simp only [valB, four, List.foldl_cons, List.foldl_nil]
  omega
theorem val_two (n : Int) : valB [n / 256, n % 256] = n := by
  simp only [valB, List.foldl_cons, List.foldl_nil]
  omega
/-- The address's bytes beyond its prefix are noughts. -/
theorem pad_four (a l : Int) (ha : 0 ≤ a ∧ a ≤ 4294967295) (h : rightB a l = true) : padB ((four a).take (szB l).toNat) = four a := by
  unfold rightB at h
  simp only [decide_eq_true_eq] at h
  obtain ⟨h0, h1, h2⟩ := h
  have hdiv : ∀ (j : Nat), (j : Int) + (8 * szB l) ≥ 32 → False ∨ True := fun _ _ => Or.inr trivial
  have key : ∀ (m : Nat), (m : Int) ≤ 32 - l → a % 2 ^ m = 0 := by
    intro m hm
    have e : (32 - l).toNat = m + ((32 - l).toNat - m) := by omega
    rw [e, Int.pow_add] at h2
    have hd : (2 : Int) ^ m * 2 ^ ((32 - l).toNat - m) ∣ a := Int.dvd_of_emod_eq_zero h2
    exact Int.emod_eq_zero_of_dvd (Int.dvd_trans (Int.dvd_mul_right _ _) hd)
  unfold szB
  rcases (show (l + 7) / 8 = 0 ∨ (l + 7) / 8 = 1 ∨ (l + 7) / 8 = 2 ∨ (l + 7) / 8 = 3 ∨ (l + 7) / 8 = 4 by omega) with e | e | e | e | e
  · have := key 32 (by omega)
    have e2 : (2 : Int) ^ 32 = 4294967296 := rfl
    rw [e2] at this
    rw [e]
    have ha0 : a = 0 := by omega
    subst ha0
    rfl
  · have := key 24 (by omega)
    have e2 : (2 : Int) ^ 24 = 16777216 := rfl
    rw [e2] at this
    rw [e]
    simp only [padB, four]
    have : a / 65536 % 256 = 0 := by omega
    have : a / 256 % 256 = 0 := by omega
    have : a % 256 = 0 := by omega
    simp [*]
  · have := key 16 (by omega)
    have e2 : (2 : Int) ^ 16 = 65536 := rfl
    rw [e2] at this
    rw [e]
    simp only [padB, four]
    have : a / 256 % 256 = 0 := by omega
    have : a % 256 = 0 := by omega
    simp [*]
  · have := key 8 (by omega)
    have e2 : (2 : Int) ^ 8 = 256 := rfl
    rw [e2] at this
    rw [e]
    simp only [padB, four]
    have : a % 256 = 0 := by omega
    simp [*]
  · rw [e]
    rfl
theorem bodyM_exact (u : U) (l0 : 0 ≤ u.f0.f1) (l1 : u.f0.f1 ≤ 32) : ((bodyM u).length : Int) = 7 + szB u.f0.f1 := by
  have hz := szB_bd u.f0.f1 l0 l1
  simp [bodyM, four, List.length_take]
  omega
theorem one_body (u : U) (ho : okU u) (hr : rightU u = true) : oneM (bodyM u) u.f1 = (u.f0.f0, u.f0.f1, u.f1, u.f2.f0, u.f2.f1, true) := by
  obtain ⟨⟨l0, l1⟩, hrb, hs, hlost, hnl⟩ := right_bd u hr
  obtain ⟨ha, hi, hq, hm⟩ := ho
  have hz := szB_bd u.f0.f1 l0 l1
  have hlen := bodyM_exact u l0 l1
  have e0 : (bodyM u).getD 0 0 = u.f0.f1 := rfl
  have e1 : ((bodyM u).drop 1).take 4 = four u.f2.f0 := rfl
  have e5 : ((bodyM u).drop 5).take 2 = [u.f2.f1 / 256, u.f2.f1 % 256] := rfl
  have e7 : (bodyM u).drop 7 = (four u.f0.f0).take (szB u.f0.f1).toNat := rfl
  unfold oneM
  rw [if_neg (by omega), e0, if_neg (by omega), if_neg (by omega), e1, e5, e7, val_four _ hq, val_two, pad_four _ _ ha hrb, val_four _ ha]
  have hid : (if u.f2.f1 = 65535 then 0 else u.f1) = u.f1 := by
    split
    · rename_i h; exact (hlost h).1.symm
    · rfl
  rw [hid]
  have hr' : updB u.f0.f0 u.f0.f1 u.f1 u.f2.f0 u.f2.f1 = true := hr
  rw [hr']
theorem mk_one (u : U) : mkU (u.f0.f0, u.f0.f1, u.f1, u.f2.f0, u.f2.f1, true) = u := rfl
theorem dec_told (u : U) (ho : okU u) (hr : rightU u = true) (n : Nat) (r : List Int) (acc : List U) : decB (n + 1) ((3 :: (7 + szB u.f0.f1) :: bodyM u) ++ r) u.f1 acc = decB n r u.f1 (acc ++ [u]) := by
  obtain ⟨⟨l0, l1⟩, -, -, -, -⟩ := right_bd u hr
  have hz := szB_bd u.f0.f1 l0 l1
  have hlen := bodyM_exact u l0 l1
  have e : (3 :: (7 + szB u.f0.f1) :: bodyM u) ++ r = 3 :: (7 + szB u.f0.f1) :: (bodyM u ++ r) := rfl
  have hn : (7 + szB u.f0.f1).toNat = (bodyM u).length := by omega
  rw [e, decB_c4 n 3 _ _ _ _ (by decide) (by rw [List.length_append]; omega), hn, List.drop_left, List.take_left]
  have e1 : idOf 3 (bodyM u) u.f1 = u.f1 := by unfold idOf; rw [if_neg (fun h => absurd h.1 (by decide))]
  have e2 : accOf 3 (bodyM u) u.f1 acc = acc ++ [u] := by
    unfold accOf
    rw [one_body u ho hr, if_pos ⟨rfl, rfl⟩, mk_one]
  rw [e1, e2]
theorem dec_part (u : U) (ho : okU u) (hr : rightU u = true) (id : Int) (n : Nat) (r : List Int) (acc : List U) : decB (n + 2) (partM u id ++ r) id acc = decB (if u.f1 = id then n + 1 else n) r u.f1 (acc ++ [u]) := by
  unfold partM
  by_cases h : u.f1 = id
  · rw [if_pos h, if_pos h, List.nil_append, ← h]
    exact dec_told u ho hr (n + 1) r acc
  · rw [if_neg h, if_neg h, List.append_assoc]
    have e : (2 :: 4 :: four u.f1) ++ ((3 :: (7 + szB u.f0.f1) :: bodyM u) ++ r) = 2 :: 4 :: (four u.f1 ++ ((3 :: (7 + szB u.f0.f1) :: bodyM u) ++ r)) := rfl
    have h4 : (4 : Int).toNat = (four u.f1).length := rfl
    rw [e, decB_c4 (n + 1) 2 4 _ _ _ (by decide) (by rw [List.length_append, four_len]; omega), h4, List.drop_left, List.take_left]
    have e1 : idOf 2 (four u.f1) id = u.f1 := by unfold idOf; rw [if_pos ⟨rfl, rfl⟩, val_four _ ho.2.1]
    have e2 : accOf 2 (four u.f1) id acc = acc := by unfold accOf; rw [if_neg (fun h => absurd h.1 (by decide))]
    rw [e1, e2]
    exact dec_told u ho hr n r acc
theorem decB_more : ∀ (n : Nat) (b : List Int) (id : Int) (acc : List U), b.length < n → decB (n + 1) b id acc = decB n b id acc := by
  intro n
  induction n with
  | zero => intro b id acc h; omega
  | succ n ih =>
    intro b id acc h
    cases b with
    | nil => rfl
    | cons t r =>
      simp only [List.length_cons] at h
      by_cases h0 : t = 0
      · rw [decB_c1 _ _ _ _ _ h0, decB_c1 _ _ _ _ _ h0]
        exact ih r id acc (by omega)
      · cases r with
        | nil => rw [decB_c2 _ _ _ _ h0, decB_c2 _ _ _ _ h0]
        | cons l r2 =>
          simp only [List.length_cons] at h
          by_cases hs : (r2.length : Int) < l
          · rw [decB_c3 _ _ _ _ _ _ h0 hs, decB_c3 _ _ _ _ _ _ h0 hs]
          · rw [decB_c4 _ _ _ _ _ _ h0 hs, decB_c4 _ _ _ _ _ _ h0 hs]
            exact ih _ _ _ (by rw [List.length_drop]; omega)
theorem decB_any (n : Nat) (b : List Int) (id : Int) (acc : List U) (h : b.length < n) : ∀ m, n ≤ m → decB m b id acc = decB n b id acc := by
  intro m hm
  obtain ⟨d, rfl⟩ := Nat.exists_eq_add_of_le hm
  induction d with
  | zero => rfl
  | succ d ih => rw [← ih (by omega)]; exact decB_more (n + d) b id acc (by omega)
/-- Several behind one another. -/
def bodies : List U → Int → List Int
  | [], _ => []
  | u :: r, id => partM u id ++ bodies r u.f1
def lastId : List U → Int → Int
  | [], id => id
  | u :: r, _ => lastId r u.f1
def okR (L : List U) : Prop := ∀ u ∈ L, okU u ∧ rightU u = true
theorem dec_bodies : ∀ (L : List U) (id : Int) (acc : List U) (n : Nat), okR L → (bodies L id).length < n → decB n (bodies L id) id acc = some (acc ++ L)
  | [], id, acc, n, _, h => by
    obtain ⟨n, rfl⟩ : ∃ m, n = m + 1 := ⟨n - 1, by omega⟩
    rw [List.append_nil]
    rfl
  | u :: r, id, acc, n, ho, h => by
    have hu := ho u List.mem_cons_self
    have hpl := partM_len u id
    unfold bodies at h ⊢
    rw [List.length_append] at h
    obtain ⟨n, rfl⟩ : ∃ m, n = m + 2 := ⟨n - 2, by omega⟩
    rw [dec_part u hu.1 hu.2 id n (bodies r u.f1) acc]
    have hi := dec_bodies r u.f1 (acc ++ [u]) (if u.f1 = id then n + 1 else n) (fun v hv => ho v (List.mem_cons_of_mem _ hv)) (by split <;> omega)
    rw [hi, List.append_assoc]
    rfl
theorem bodies_snoc : ∀ (L : List U) (id : Int) (u : U), bodies (L ++ [u]) id = bodies L id ++ partM u (lastId L id)
  | [], id, u => by simp [bodies, lastId]
  | v :: r, id, u => by simp [bodies, lastId, bodies_snoc r v.f1 u]
theorem lastId_snoc : ∀ (L : List U) (id : Int) (u : U), lastId (L ++ [u]) id = u.f1
  | [], _, _ => rfl
  | v :: r, _, u => lastId_snoc r v.f1 u
/-- The datagrams, each with what it tells. -/
def encV : List U → List U → List (List U)
  | [], V => if V = [] then [] else [V]
  | u :: r, V => if rightU u = true then (if (bodies V 0).length + (partM u (lastId V 0)).length > 1020 then V :: encV r [u] else encV r (V ++ [u])) else encV r V
theorem bodies_nil (V : List U) : bodies V 0 = [] ↔ V = [] := by
  cases V with
  | nil => simp [bodies]
  | cons u r =>
    have := partM_len u 0
    constructor
    · intro h
      unfold bodies at h
      have h1 := (List.append_eq_nil_iff.1 h).1
      rw [h1] at this
      simp at this
    · intro h; cases h
theorem encB_encV : ∀ (L V : List U), encB L (bodies V 0) (lastId V 0) = (encV L V).map fun W => bodies W 0
  | [], V => by
    unfold encB encV
    by_cases h : V = []
    · rw [if_pos h, if_pos ((bodies_nil V).2 h)]
      rfl
    · rw [if_neg h, if_neg (fun hh => h ((bodies_nil V).1 hh))]
      rfl
  | u :: r, V => by
    unfold encB encV
    split
    · split
      · have := encB_encV r [u]
        simp only [bodies, lastId, List.append_nil] at this
        rw [List.map_cons, this]
      · have := encB_encV r (V ++ [u])
        rw [bodies_snoc, lastId_snoc] at this
        exact this
    · exact encB_encV r V
theorem encV_flat : ∀ (L V : List U), (encV L V).flatten = V ++ L.filter rightU
  | [], V => by
    unfold encV
    split
    · rename_i h; simp [h]
    · simp
  | u :: r, V => by
    unfold encV
    split
    · rename_i hr
      rw [List.filter_cons_of_pos hr]
      split
      · rw [List.flatten_cons, encV_flat r [u]]
        simp
      · rw [encV_flat r (V ++ [u])]
        simp
    · rename_i hr
      rw [List.filter_cons_of_neg hr, encV_flat r V]
theorem encV_ok : ∀ (L V : List U), okL L → okR V → ∀ W ∈ encV L V, okR W
  | [], V, _, hV => by
    unfold encV
    split
    · intro W hW; cases hW
    · intro W hW
      have : W = V := by simpa using hW
      subst this
      exact hV
  | u :: r, V, ho, hV => by
    have hor : okL r := fun v hv => ho v (List.mem_cons_of_mem _ hv)
    have hou := ho u List.mem_cons_self
    unfold encV
    split
    · rename_i hr
      have h1 : okR [u] := fun v hv => by
        have : v = u := by simpa using hv
        subst this
        exact ⟨hou, hr⟩
      split
      · intro W hW
        rcases List.mem_cons.1 hW with rfl | hW
        · exact hV
        · exact encV_ok r [u] hor h1 W hW
      · exact encV_ok r (V ++ [u]) hor (fun v hv => by
          rcases List.mem_append.1 hv with hv | hv
          · exact hV v hv
          · exact h1 v hv)
    · exact encV_ok r V hor hV
theorem encB_V (L : List U) : encB L [] 0 = (encV L []).map fun W => bodies W 0 := encB_encV L []
theorem page_len (b : List Int) : (tlv_Encode.page b).length = b.length + 4 := by simp [tlv_Encode.page]
theorem byte_page (b : List Int) (hb : Byte b) (hl : b.length ≤ 1020) : Byte (tlv_Encode.page b) := by
  unfold tlv_Encode.page
  refine byte_app (fun x hx => ?_) hb
  simp at hx
  omega
theorem dec_page (W : List U) (ho : okR W) (hl : (bodies W 0).length ≤ 1020) : decM (tlv_Encode.page (bodies W 0)) = (W, true) := by
  unfold decM
  have e0 : rd (tlv_Encode.page (bodies W 0)) 0 = 87 := rfl
  have e1 : rd (tlv_Encode.page (bodies W 0)) 1 = 1 := rfl
  have e2 : rd (tlv_Encode.page (bodies W 0)) 2 = ((bodies W 0).length : Int) / 256 % 256 := rfl
  have e3 : rd (tlv_Encode.page (bodies W 0)) 3 = ((bodies W 0).length : Int) % 256 := rfl
  have e4 : (tlv_Encode.page (bodies W 0)).drop 4 = bodies W 0 := rfl
  rw [e0, e1, e2, e3, e4, page_len, if_neg (by simp only [not_or]; omega), dec_bodies W 0 [] _ ho (by omega)]
  rfl
end Go.Proofs.YtgmdjhokcipajaaQ.PTlx
