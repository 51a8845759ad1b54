import Derived.Test.YtnfaeafplaeehaaGreatMrgA
import Derived.Laws.BytesArg
set_option linter.unusedVariables false
set_option linter.unusedSimpArgs false
namespace Go.Proofs.YtnfaeafplaeehaaGreat
open Go.RowKit
/-! Strings and their bytes. -/
theorem loop_eq (b : ByteArray) : ∀ (n i : Nat) (r : List UInt8), i + n = b.size → ByteArray.toList.loop b i r = r.reverse ++ b.data.toList.drop i
  | 0, i, r, h => by
    unfold ByteArray.toList.loop
    have hs : b.data.toList.length = b.size := by rw [Array.length_toList]; rfl
    rw [if_neg (by omega), List.drop_eq_nil_of_le (by omega), List.append_nil]
  | n + 1, i, r, h => by
    unfold ByteArray.toList.loop
    have hs : b.data.toList.length = b.size := by rw [Array.length_toList]; rfl
    have hi : i < b.data.toList.length := by omega
    have hi' : i < b.data.size := by rw [← Array.length_toList]; exact hi
    rw [if_pos (by omega), loop_eq b n (i + 1) _ (by omega), List.drop_eq_getElem_cons hi]
    have : b.get! i = b.data.toList[i] := by
      show b.data.getD i default = _
      simp [hi']
      rw [getElem?_pos b.data i hi']
      rfl
    rw [this]
    simp
theorem toList_eq (b : ByteArray) : b.toList = b.data.toList := by
  have := loop_eq b b.size 0 [] (by omega)
  simpa [ByteArray.toList] using this
theorem str_data (l : List Int) (h : Byte l) : (strOfNums l).data.toList.map (fun b => (b.toNat : Int)) = l := by
  rw [strOfNums_data, List.map_map]
  refine (List.map_congr_left (g := id) fun x hx => ?_).trans (List.map_id _)
  have := h x hx
  simp only [Function.comp, UInt8.toNat_ofNat', id]
  omega
theorem str_inj (l l' : List Int) (h : Byte l) (h' : Byte l') : (strOfNums l).toList = (strOfNums l').toList ↔ l = l' := by
  refine ⟨fun e => ?_, fun e => by rw [e]⟩
  rw [toList_eq, toList_eq] at e
  rw [← str_data l h, ← str_data l' h', e]
end Go.Proofs.YtnfaeafplaeehaaGreat
