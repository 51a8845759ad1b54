import Derived.Test.YtgmdjhokcipajaaTlx1
import Derived.Test.YtgmdjhokcipajaaPTlx4
import Derived.Test.YtgmdjhokcipajaaPTlx5
import Derived.Test.YtgmdjhokcipajaaPTlx6
import Derived.Test.YtgmdjhokcipajaaPTlx7
import Derived.Test.YtgmdjhokcipajaaPTlx7
set_option linter.unusedVariables false
set_option linter.unusedSimpArgs false
namespace Go.Proofs.YtgmdjhokcipajaaQ.PTlx
open Go.RowKit Go.Proofs.YtgmdjhokcipajaaW.PrintWords Go.Proofs.YtgmdjhokcipajaaW.PrintMore
open Go.Proofs.Ytgmdjhokcipajaa (four valB padB updB szB rightB Byte byteB four_len szB_bd oneM)
/-! Datagrams, in plain lists: made. -/
/-- The datagrams' parts, without their heads. -/
def encB : List U → List Int → Int → List (List Int)
  | [], b, _ => if b = [] then [] else [b]
  | u :: r, b, id => if rightU u = true then (if b.length + (partM u id).length > 1020 then b :: encB r (partM u 0) u.f1 else encB r (b ++ partM u id) u.f1) else encB r b id
theorem bodyM_len (u : U) : (bodyM u).length ≤ 11 := by
  have := List.length_take_le (szB u.f0.f1).toNat (four u.f0.f0)
  have h4 : (four u.f0.f0).length = 4 := rfl
  have := List.length_take_le' (szB u.f0.f1).toNat (four u.f0.f0)
  simp [bodyM, four] at *
  omega
theorem partM_len (u : U) (id : Int) : 2 ≤ (partM u id).length ∧ (partM u id).length ≤ 19 := by
  have := bodyM_len u
  unfold partM
  split <;> simp [four] <;> omega
theorem getU (L : List U) (i : Nat) (h : i < L.length) : rd_T62 L (i : Int) = L[i] := by
  simp [rd_T62, h]
def okL (L : List U) : Prop := ∀ u ∈ L, okU u
/-- What is told in rows of bodies is well formed. -/
def okB (X : List (List Int)) : Prop := ∀ x ∈ X, 0 < x.length ∧ Byte x ∧ x.length ≤ 1020
theorem byte_four (n : Int) : Byte (four n) := Ytgmdjhokcipajaa.four_byte n
theorem byte_app {a b : List Int} (h : Byte a) (k : Byte b) : Byte (a ++ b) := Ytgmdjhokcipajaa.Byte.app h k
theorem byte_part (u : U) (ho : okU u) (hr : rightU u = true) (id : Int) : Byte (partM u id) := by
  obtain ⟨⟨l0, l1⟩, -, hs, -, -⟩ := right_bd u hr
  have hz := szB_bd u.f0.f1 l0 l1
  obtain ⟨ha, hi, hq, hm⟩ := ho
  have hB : Byte (bodyM u) := by
    refine byte_app (byte_app (byte_app (fun x hx => ?_) (byte_four _)) (fun x hx => ?_)) (Ytgmdjhokcipajaa.Byte.take (byte_four _) _)
    · simp at hx; omega
    · simp at hx; omega
  have h3 : Byte (3 :: (7 + szB u.f0.f1) :: bodyM u) := fun x hx => by
    simp only [List.mem_cons] at hx
    rcases hx with rfl | rfl | hx
    · omega
    · omega
    · exact hB x hx
  unfold partM
  split
  · exact h3
  · refine byte_app (fun x hx => ?_) h3
    simp only [List.mem_cons] at hx
    rcases hx with rfl | rfl | hx
    · omega
    · omega
    · exact byte_four _ x hx
theorem encB_ok : ∀ (L : List U) (b : List Int) (id : Int), okL L → Byte b → b.length ≤ 1020 → okB (encB L b id)
  | [], b, id, _, hb, hl => by
    unfold encB
    split
    · intro x hx; cases hx
    · rename_i hne
      intro x hx
      have : x = b := by simpa using hx
      subst this
      exact ⟨List.length_pos_iff.2 hne, hb, hl⟩
  | u :: r, b, id, ho, hb, hl => by
    have hor : okL r := fun v hv => ho v (List.mem_cons_of_mem _ hv)
    have hou := ho u List.mem_cons_self
    unfold encB
    have h0 := partM_len u 0
    have h1 := partM_len u id
    split
    · rename_i hr
      split
      · rename_i hgt
        intro x hx
        rcases List.mem_cons.1 hx with rfl | hx
        · exact ⟨by omega, hb, hl⟩
        · exact encB_ok r _ _ hor (byte_part u hou hr 0) (by omega) x hx
      · rename_i hgt
        exact encB_ok r _ _ hor (byte_app hb (byte_part u hou hr id)) (by simp; omega)
    · exact encB_ok r b id hor hb hl
theorem encB_len : ∀ (L : List U) (b : List Int) (id : Int), (encB L b id).length ≤ L.length + 1
  | [], b, id => by unfold encB; split <;> simp
  | u :: r, b, id => by
    unfold encB
    have h0 := encB_len r (partM u 0) u.f1
    have h1 := encB_len r (b ++ partM u id) u.f1
    have h2 := encB_len r b id
    split
    · split <;> simp <;> omega
    · simp; omega
theorem tail_nice (X : List (List Int)) (h : okB X) (hl : X.length ≤ 1000000) : tlv_Encode.tail X = some (X.map tlv_Encode.page) := by
  have hall : X.all tlv_Encode.rowOk = true := by
    refine List.all_eq_true.2 fun x hx => ?_
    obtain ⟨h1, h2, h3⟩ := h x hx
    simp only [tlv_Encode.rowOk, Bool.and_eq_true, Bool.not_eq_true', decide_eq_true_eq, Ytgmdjhokcipajaa.byteB_iff]
    refine ⟨⟨?_, h2⟩, h3⟩
    cases x with
    | nil => simp at h1
    | cons y ys => rfl
  unfold tlv_Encode.tail
  rw [if_pos ⟨hall, hl⟩]
theorem updRight (u : U) (ho : okU u) : tlv_Update_Right.f u.f0.f0 u.f0.f1 u.f1 u.f2.f0 u.f2.f1 = some (rightU u) := tlv_Update_Right.nice _ _ _ _ _ ho.1
theorem Encode_l0 (L : List U) (ho : okL L) (hL : L.length ≤ 100000) : ∀ (d i k : Nat) (out : List (List Int)) (b : List Int) (id : Int), L.length - i = d → i ≤ L.length → d + 20 ≤ k → Byte b → b.length ≤ 1020 → out.length ≤ i + 1 →
    tlv_Encode.l0 k out b id L (L.length : Int) (i : Int) = tlv_Encode.tail (out ++ encB (L.drop i) b id) := by
  intro d
  induction d with
  | zero =>
    intro i k out b id hd hi hk hb hl hout
    obtain ⟨k, rfl⟩ : ∃ m, k = m + 2 := ⟨k - 2, by omega⟩
    have hie : i = L.length := by omega
    subst hie
    simp only [tlv_Encode.l0]
    rw [if_neg (by omega), List.drop_length]
    unfold encB
    by_cases hbe : b = []
    · subst hbe
      simp [tlv_Encode.j1_succ]
    · have : 0 < b.length := List.length_pos_iff.2 hbe
      rw [if_neg (by omega), if_neg hbe, if_pos (by omega), tlv_Encode.j1_succ]
  | succ d ih =>
    intro i k out b id hd hi hk hb hl hout
    obtain ⟨k, rfl⟩ : ∃ m, k = m + 1 := ⟨k - 1, by omega⟩
    have hlt : i < L.length := by omega
    have hou := ho L[i] (List.getElem_mem hlt)
    have hdr : L.drop i = L[i] :: L.drop (i + 1) := List.drop_eq_getElem_cons hlt
    have hpl := partM_len L[i] id
    have hp0 := partM_len L[i] 0
    have hw1 : wrap64 ((i : Int) + 1) = ((i + 1 : Nat) : Int) := by rw [w64 _ (by omega) (by omega)]; omega
    simp only [tlv_Encode.l0]
    rw [if_pos (by omega), if_pos (by omega), if_pos (by omega), getU L i hlt, updRight _ hou, hdr, hw1]
    unfold encB
    simp only [Option.bind_some]
    cases hr : rightU L[i] with
    | false =>
      simp only [Bool.false_eq_true, if_false]
      exact ih (i + 1) k out b id (by omega) (by omega) (by omega) hb hl (by omega)
    | true =>
      simp only [if_true]
      have hp := part_nice L[i] hou hr id k (by omega)
      have hq := part_nice L[i] hou hr 0 k (by omega)
      rw [hp, Option.bind_some, w64 ((b.length : Int) + ((partM L[i] id).length : Int)) (by omega) (by omega)]
      by_cases hgt : b.length + (partM L[i] id).length > 1020
      · rw [if_pos (by omega), if_pos hgt, if_pos (by omega), hq, Option.bind_some]
        rw [if_pos (by simp; omega), List.nil_append]
        rw [ih (i + 1) k (out ++ [b]) (partM L[i] 0) _ (by omega) (by omega) (by omega) (byte_part _ hou hr 0) (by omega) (by simp; omega)]
        rw [List.append_assoc, List.singleton_append]
      · rw [if_neg (by omega), if_neg hgt, if_pos (by omega)]
        exact ih (i + 1) k out _ _ (by omega) (by omega) (by omega) (byte_app hb (byte_part _ hou hr id)) (by simp; omega) (by omega)
theorem Encode_nice (L : List U) (ho : okL L) (hL : L.length ≤ 100000) (k : Nat) (hk : L.length + 20 ≤ k) : tlv_Encode.f k L = some ((encB L [] 0).map tlv_Encode.page) := by
  unfold tlv_Encode.f
  have := Encode_l0 L ho hL L.length 0 k [] [] 0 (by omega) (by omega) hk (fun x hx => by cases hx) (by simp) (by simp)
  simp only [List.drop_zero, List.nil_append] at this
  have e := this.trans (tail_nice _ (encB_ok L [] 0 ho (fun x hx => by cases hx) (by simp)) (by have := encB_len L [] 0; omega))
  exact e
end Go.Proofs.YtgmdjhokcipajaaQ.PTlx
