import Derived.Test.YtgmdjhokcipajaaTlvP4
import Derived.Test.YtgmdjhokcipajaaPTlv8
import Derived.Test.YtgmdjhokcipajaaPTlv9
set_option linter.unusedVariables false
set_option linter.unusedSimpArgs false
namespace Go.Proofs.YtgmdjhokcipajaaQ.PTlv
open Go.RowKit Go.Proofs.YtgmdjhokcipajaaW.PrintWords Go.Proofs.YtgmdjhokcipajaaW.PrintMore
open Go.Proofs.Ytgmdjhokcipajaa (four valB padB updB szB rightB Byte byteB four_len szB_bd oneM)
theorem and7 (x : Int) : 0 ≤ Go.bits .and .i64 x 7 ∧ Go.bits .and .i64 x 7 ≤ 7 := by
  have : Go.bits .and .i64 x 7 = IntKind.i64.wrap ((BitVec.ofInt 64 x &&& BitVec.ofInt 64 7).toNat : Int) := rfl
  rw [this]
  have h : (BitVec.ofInt 64 x &&& BitVec.ofInt 64 7).toNat ≤ 7 := by
    rw [BitVec.toNat_and]
    exact Nat.le_trans Nat.and_le_right (by decide)
  rw [IntKind.wrap_i64]
  omega
theorem same_l0 (L : List U) : ∀ (d i k : Nat), L.length - i = d → i ≤ L.length → d < k → L.length ≤ 100000000 → wayfarerlaw08_Same.l0 k L L (L.length : Int) (i : Int) = some true := by
  intro d
  induction d with
  | zero =>
    intro i k hd hi hk hl
    obtain ⟨k, rfl⟩ : ∃ m, k = m + 1 := ⟨k - 1, by omega⟩
    unfold wayfarerlaw08_Same.l0
    rw [if_neg (by omega)]
  | succ d ih =>
    intro i k hd hi hk hl
    obtain ⟨k, rfl⟩ : ∃ m, k = m + 1 := ⟨k - 1, by omega⟩
    have e : wrap64 ((i : Int) + 1) = ((i + 1 : Nat) : Int) := by rw [w64 _ (by omega) (by omega)]; omega
    unfold wayfarerlaw08_Same.l0
    rw [if_pos (by omega), if_pos (by omega), if_pos (by omega), if_pos (by omega), if_neg (by simp), e]
    exact ih (i + 1) k (by omega) (by omega) (by omega) hl
theorem same_nice (L : List U) (k : Nat) (hk : L.length < k) (hl : L.length ≤ 100000000) : wayfarerlaw08_Same.f k L L = some true := by
  unfold wayfarerlaw08_Same.f
  rw [if_pos rfl]
  exact same_l0 L L.length 0 k (by omega) (by omega) hk hl
theorem rdPage (X : List (List Int)) (i : Nat) (h : i < X.length) : rd_L9 X (i : Int) = X[i] := by
  simp [rd_L9, h]
theorem flat_succ (Ws : List (List U)) (i : Nat) (h : i < Ws.length) : (Ws.take i).flatten ++ Ws[i] = (Ws.take (i + 1)).flatten := by
  rw [List.take_succ_eq_append_getElem h, List.flatten_append]
  simp
theorem flat_len : ∀ (Ws : List (List U)) (i : Nat), ((Ws.take i).flatten).length ≤ (Ws.flatten).length
  | [], i => by simp
  | W :: r, 0 => by simp
  | W :: r, i + 1 => by
    have := flat_len r i
    simp only [List.take_succ_cons, List.flatten_cons, List.length_append]
    omega
theorem tells_l2 (Ws : List (List U)) (hok : ∀ W ∈ Ws, okR W) (hlen : ∀ W ∈ Ws, (bodies W 0).length ≤ 1020) (hf : (Ws.flatten).length ≤ 100000) (hw : Ws.length ≤ 100000) :
    ∀ (d i k : Nat), Ws.length - i = d → i ≤ Ws.length → d + (Ws.flatten).length + 4000 ≤ k →
    wayfarerlaw08_TlvTells.l2 k Ws.flatten (Ws.map fun W => tlv_Encode.page (bodies W 0)) ((Ws.take i).flatten) (Ws.map fun W => tlv_Encode.page (bodies W 0)) (Ws.length : Int) (i : Int) = some true := by
  intro d
  induction d with
  | zero =>
    intro i k hd hi hk
    obtain ⟨k, rfl⟩ : ∃ m, k = m + 1 := ⟨k - 1, by omega⟩
    have : i = Ws.length := by omega
    subst this
    unfold wayfarerlaw08_TlvTells.l2
    rw [if_neg (by omega), List.take_length, same_nice _ k (by omega) (by omega)]
    rfl
  | succ d ih =>
    intro i k hd hi hk
    obtain ⟨k, rfl⟩ : ∃ m, k = m + 1 := ⟨k - 1, by omega⟩
    have hlt : i < Ws.length := by omega
    have hm : Ws[i] ∈ Ws := List.getElem_mem hlt
    have h1 := hok _ hm
    have h2 := hlen _ hm
    have e : wrap64 ((i : Int) + 1) = ((i + 1 : Nat) : Int) := by rw [w64 _ (by omega) (by omega)]; omega
    have hx : rd_L9 (Ws.map fun W => tlv_Encode.page (bodies W 0)) (i : Int) = tlv_Encode.page (bodies Ws[i] 0) := by
      rw [rdPage _ _ (by simp; omega), List.getElem_map]
    have hB : Byte (bodies Ws[i] 0) := by
      clear h2 hx e
      have : ∀ (L : List U) (id : Int), okR L → Byte (bodies L id) := by
        intro L
        induction L with
        | nil => intro id _ x hx; cases hx
        | cons u r ihL =>
          intro id ho
          have hu := ho u List.mem_cons_self
          exact byte_app (byte_part u hu.1 hu.2 id) (ihL u.f1 (fun v hv => ho v (List.mem_cons_of_mem _ hv)))
      exact this _ 0 h1
    have hpl := page_len (bodies Ws[i] 0)
    have hfl := flat_len Ws i
    have hfl1 := flat_len Ws (i + 1)
    have hfs := flat_succ Ws i hlt
    have hml : (Ws.map fun W => tlv_Encode.page (bodies W 0)).length = Ws.length := by simp
    have hdec := Decode_nice (tlv_Encode.page (bodies Ws[i] 0)) (byte_page _ hB h2) (by omega) k (by omega)
    rw [dec_page _ h1 h2] at hdec
    have hadd : ((Ws.take i).flatten).length + (Ws[i]).length ≤ 100000 := by
      rw [← List.length_append, hfs]; omega
    have hI := ih (i + 1) k (by omega) (by omega) (by omega)
    unfold wayfarerlaw08_TlvTells.l2
    rw [if_pos (by omega), if_pos (by omega), if_pos (by omega), hx, hdec, Option.bind_some]
    dsimp only
    rw [if_pos rfl, if_pos (by omega), if_pos rfl, if_neg (by omega), if_pos (by omega), e, hfs]
    exact hI
theorem tells_l1 (X : List U) (ho : okL X) (hX : X.length ≤ 1000) : ∀ (d i k : Nat), X.length - i = d → i ≤ X.length → d + 20000 ≤ k →
    wayfarerlaw08_TlvTells.l1 k X ((X.take i).filter rightU) X (X.length : Int) (i : Int) = some true := by
  intro d
  induction d with
  | zero =>
    intro i k hd hi hk
    obtain ⟨k, rfl⟩ : ∃ m, k = m + 1 := ⟨k - 1, by omega⟩
    have : i = X.length := by omega
    subst this
    unfold wayfarerlaw08_TlvTells.l1
    rw [if_neg (by omega), Encode_nice X ho (by omega) k (by omega), Option.bind_some, encode_nice X ho (by omega) k (by omega), Option.bind_some, if_pos rfl, List.take_length, encB_V, List.map_map]
    have hfl := encV_flat X []
    rw [List.nil_append] at hfl
    have hcl : (X.filter rightU).length ≤ X.length := List.length_filter_le _ _
    have hnl := encB_len X [] 0
    rw [encB_V, List.length_map] at hnl
    have hlen : ∀ W ∈ encV X [], (bodies W 0).length ≤ 1020 := by
      intro W hW
      have := encB_ok X [] 0 ho (fun x hx => by cases hx) (by simp) (bodies W 0) (by rw [encB_V]; exact List.mem_map_of_mem hW)
      exact this.2.2
    have := tells_l2 (encV X []) (encV_ok X [] ho (fun u hu => by cases hu)) hlen (by rw [hfl]; omega) (by omega) (encV X []).length 0 k (by omega) (by omega) (by rw [hfl]; omega)
    rw [hfl] at this
    have hml : (((encV X []).map (tlv_Encode.page ∘ fun W => bodies W 0)).length : Int) = (encV X []).length := by simp
    rw [hml]
    exact this
  | succ d ih =>
    intro i k hd hi hk
    obtain ⟨k, rfl⟩ : ∃ m, k = m + 1 := ⟨k - 1, by omega⟩
    have hlt : i < X.length := by omega
    have hou := ho X[i] (List.getElem_mem hlt)
    have e : wrap64 ((i : Int) + 1) = ((i + 1 : Nat) : Int) := by rw [w64 _ (by omega) (by omega)]; omega
    have hcl : ((X.take i).filter rightU).length ≤ 1000 := Nat.le_trans (List.length_filter_le _ _) (by rw [List.length_take]; omega)
    have hI := ih (i + 1) k (by omega) (by omega) (by omega)
    rw [List.take_succ_eq_append_getElem hlt, List.filter_append] at hI
    unfold wayfarerlaw08_TlvTells.l1
    rw [if_pos (by omega), if_pos (by omega), if_pos (by omega), getU X i hlt, updRight _ hou, Option.bind_some, lawRight_nice _ hou k (by omega), Option.bind_some, if_neg (by simp), Option.bind_some]
    cases hr : rightU X[i] with
    | true =>
      rw [if_pos rfl, if_pos (by omega), e]
      have h1 : [X[i]].filter rightU = [X[i]] := by simp [hr]
      rw [h1] at hI
      exact hI
    | false =>
      rw [if_neg (by decide), e]
      have h1 : [X[i]].filter rightU = [] := by simp [hr]
      rw [h1, List.append_nil] at hI
      exact hI
theorem rep_len (L : List U) (m : Nat) : ((List.replicate m L).flatten).length = m * L.length := by
  simp
theorem rep_ok (L : List U) (ho : okL L) (m : Nat) : okL (List.replicate m L).flatten := by
  intro u hu
  rw [List.mem_flatten] at hu
  obtain ⟨l, hl, hu⟩ := hu
  rw [List.mem_replicate] at hl
  rw [hl.2] at hu
  exact ho u hu
theorem tells_l0 (L : List U) (ho : okL L) (hL : L.length ≤ 40) (a1 : Int) (M : Nat) (hM : wrap64 (1 + Go.bits .and .i64 a1 7) = M) (hM8 : M ≤ 8) : ∀ (d i k : Nat), M - i = d → i ≤ M → d + 30000 ≤ k →
    wayfarerlaw08_TlvTells.l0 k L a1 ((List.replicate i L).flatten) [] (i : Int) = some true := by
  intro d
  induction d with
  | zero =>
    intro i k hd hi hk
    obtain ⟨k, rfl⟩ : ∃ m, k = m + 1 := ⟨k - 1, by omega⟩
    unfold wayfarerlaw08_TlvTells.l0
    rw [hM, if_neg (by omega)]
    have hle : ((List.replicate i L).flatten).length ≤ 1000 := by
      rw [rep_len]
      calc i * L.length ≤ 8 * 40 := Nat.mul_le_mul (by omega) hL
        _ ≤ 1000 := by decide
    have := tells_l1 (List.replicate i L).flatten (rep_ok L ho i) hle ((List.replicate i L).flatten).length 0 k (by omega) (by omega) (by omega)
    exact this
  | succ d ih =>
    intro i k hd hi hk
    obtain ⟨k, rfl⟩ : ∃ m, k = m + 1 := ⟨k - 1, by omega⟩
    have e : wrap64 ((i : Int) + 1) = ((i + 1 : Nat) : Int) := by rw [w64 _ (by omega) (by omega)]; omega
    have hle : ((List.replicate i L).flatten).length ≤ 1000 := by
      rw [rep_len]
      calc i * L.length ≤ 8 * 40 := Nat.mul_le_mul (by omega) hL
        _ ≤ 1000 := by decide
    have hs : (List.replicate i L).flatten ++ L = (List.replicate (i + 1) L).flatten := by
      rw [List.replicate_succ', List.flatten_append]
      simp
    unfold wayfarerlaw08_TlvTells.l0
    rw [hM, if_pos (by omega), if_pos (by omega), e, hs]
    exact ih (i + 1) k (by omega) (by omega) (by omega)
theorem tells_true (L : List U) (ho : okL L) (a1 : Int) : wayfarerlaw08_TlvTells.f 40000 L a1 = some true := by
  unfold wayfarerlaw08_TlvTells.f wayfarerlaw08_head.f
  rw [Option.bind_some, if_pos rfl]
  by_cases h : (L.length : Int) > 40
  · rw [if_pos h]
  · rw [if_neg h]
    have h7 := and7 a1
    have := tells_l0 L ho (by omega) a1 (1 + Go.bits .and .i64 a1 7).toNat (by rw [w64 _ (by omega) (by omega)]; omega) (by omega) _ 0 40000 rfl (by omega) (by omega)
    exact this
end Go.Proofs.YtgmdjhokcipajaaQ.PTlv
