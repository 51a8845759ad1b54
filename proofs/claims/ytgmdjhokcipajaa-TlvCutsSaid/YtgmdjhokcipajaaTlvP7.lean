import Derived.Test.YtgmdjhokcipajaaTlvP4
import Derived.Test.YtgmdjhokcipajaaPTlv10
set_option linter.unusedVariables false
set_option linter.unusedSimpArgs false
namespace Go.Proofs.YtgmdjhokcipajaaQ.PTlv
open Go.RowKit Go.Proofs.YtgmdjhokcipajaaW.PrintWords Go.Proofs.YtgmdjhokcipajaaW.PrintMore
open Go.Proofs.Ytgmdjhokcipajaa (four valB padB updB szB rightB Byte byteB four_len szB_bd oneM)
/-! Datagrams cut short, and with something behind. -/
theorem decM_off (b t : List Int) (h : b.length ≤ 1020) (ht : t.length ≠ b.length) : (decM ([87, 1, (b.length : Int) / 256 % 256, (b.length : Int) % 256] ++ t)).2 = false := by
  unfold decM
  rw [if_pos]
  right; right; right; right
  have e2 : rd ([87, 1, (b.length : Int) / 256 % 256, (b.length : Int) % 256] ++ t) 2 = (b.length : Int) / 256 % 256 := rfl
  have e3 : rd ([87, 1, (b.length : Int) / 256 % 256, (b.length : Int) % 256] ++ t) 3 = (b.length : Int) % 256 := rfl
  rw [e2, e3]
  simp only [List.length_append, List.length_cons, List.length_nil]
  omega
theorem decM_few (c : List Int) (h : c.length < 4) : (decM c).2 = false := by
  unfold decM
  rw [if_pos (Or.inl h)]
theorem decM_cut (b : List Int) (h : b.length ≤ 1020) (n : Nat) (hn : n < (tlv_Encode.page b).length) : (decM ((tlv_Encode.page b).take n)).2 = false := by
  have hl : (tlv_Encode.page b).length = b.length + 4 := page_len b
  rcases Nat.lt_or_ge n 4 with h4 | h4
  · exact decM_few _ (by rw [List.length_take]; omega)
  · obtain ⟨m, rfl⟩ : ∃ m, n = m + 4 := ⟨n - 4, by omega⟩
    have e : (tlv_Encode.page b).take (m + 4) = [87, 1, (b.length : Int) / 256 % 256, (b.length : Int) % 256] ++ b.take m := rfl
    rw [e]
    exact decM_off b _ h (by rw [List.length_take]; omega)
theorem decM_more (b P : List Int) (h : b.length ≤ 1020) (hP : P ≠ []) : (decM (tlv_Encode.page b ++ P)).2 = false := by
  have e : tlv_Encode.page b ++ P = [87, 1, (b.length : Int) / 256 % 256, (b.length : Int) % 256] ++ (b ++ P) := rfl
  rw [e]
  refine decM_off b _ h ?_
  have := List.length_pos_iff.2 hP
  rw [List.length_append]
  omega
theorem cut_at (x : Int) (l : Nat) (h0 : 0 < l) (h1 : l ≤ 100000) : IntKind.u64.wrap (l : Int) = (l : Int) ∧ ∃ n : Nat, n < l ∧ wrap64 (Int.tmod (IntKind.u64.wrap x) (IntKind.u64.wrap (l : Int))) = (n : Int) := by
  have e : IntKind.u64.wrap (l : Int) = (l : Int) := by rw [IntKind.wrap_u64]; omega
  refine ⟨e, ?_⟩
  rw [e]
  have hx : 0 ≤ IntKind.u64.wrap x := by rw [IntKind.wrap_u64]; omega
  have a := Int.tmod_nonneg (l : Int) hx
  have b := Int.tmod_lt_of_pos (IntKind.u64.wrap x) (show (0 : Int) < (l : Int) by omega)
  generalize Int.tmod (IntKind.u64.wrap x) (l : Int) = q at *
  obtain ⟨n, rfl⟩ := Int.eq_ofNat_of_zero_le a
  exact ⟨n, by omega, w64 _ (by omega) (by omega)⟩
theorem byte_bodies : ∀ (L : List U) (id : Int), okR L → Byte (bodies L id) := by
  intro L
  induction L with
  | nil => intro id _ x hx; cases hx
  | cons u r ihL =>
    intro id ho
    have hu := ho u List.mem_cons_self
    exact byte_app (byte_part u hu.1 hu.2 id) (ihL u.f1 (fun v hv => ho v (List.mem_cons_of_mem _ hv)))
theorem byte_take {l : List Int} (h : Byte l) (n : Nat) : Byte (l.take n) := fun x hx => h x (List.mem_of_mem_take hx)
theorem rdPage7 (X : List (List Int)) (i : Nat) (h : i < X.length) : rd_L9 X (i : Int) = X[i] := by
  simp [rd_L9, h]
theorem cuts_l0 (x : Int) (P : List Int) (hP : Byte P) (hPl : P.length ≤ 60) (Ws : List (List U)) (hok : ∀ W ∈ Ws, okR W) (hlen : ∀ W ∈ Ws, (bodies W 0).length ≤ 1020) (hw : Ws.length ≤ 100000) :
    ∀ (d i k : Nat), Ws.length - i = d → i ≤ Ws.length → d + 4000 ≤ k →
    wayfarerlaw08_TlvCuts.l0 k x P (Ws.map fun W => tlv_Encode.page (bodies W 0)) (Ws.length : Int) (i : Int) = some true := by
  intro d
  induction d with
  | zero =>
    intro i k hd hi hk
    obtain ⟨k, rfl⟩ : ∃ m, k = m + 1 := ⟨k - 1, by omega⟩
    unfold wayfarerlaw08_TlvCuts.l0
    rw [if_neg (by omega)]
  | succ d ih =>
    intro i k hd hi hk
    obtain ⟨k, rfl⟩ : ∃ m, k = m + 1 := ⟨k - 1, by omega⟩
    have hlt : i < Ws.length := by omega
    have f1 : (i : Int) < (Ws.length : Int) := Int.ofNat_lt.2 hlt
    have f2 : 0 ≤ (i : Int) := Int.natCast_nonneg i
    have hd1 : Ws.length - (i + 1) = d := by omega
    have hk1 : d + 4000 ≤ k := by omega
    have hk2 : 3100 ≤ k := by omega
    have f3 : (i : Int) < ((Ws.map fun W => tlv_Encode.page (bodies W 0)).length : Int) := by rw [List.length_map]; exact f1
    have hm : Ws[i] ∈ Ws := List.getElem_mem hlt
    have h1 := hok _ hm
    have h2 := hlen _ hm
    have hx : rd_L9 (Ws.map fun W => tlv_Encode.page (bodies W 0)) (i : Int) = tlv_Encode.page (bodies Ws[i] 0) := by
      rw [rdPage7 _ _ (by rw [List.length_map]; exact hlt), List.getElem_map]
    have hB := byte_bodies Ws[i] 0 h1
    have hp := byte_page _ hB h2
    have hpl := page_len (bodies Ws[i] 0)
    have hcut := decM_cut (bodies Ws[i] 0) h2
    have hmore := decM_more (bodies Ws[i] 0) P h2
    have hall := dec_page _ h1 h2
    obtain ⟨c1, n, hn, c2⟩ := cut_at x (tlv_Encode.page (bodies Ws[i] 0)).length (by omega) (by omega)
    have hD1 := Decode_nice _ (byte_take hp n) (by rw [List.length_take]; omega) k hk2
    have hD2 := Decode_nice _ (byte_app hp hP) (by rw [List.length_append]; omega) k hk2
    have e := w64 ((i : Int) + 1) (by omega) (by omega)
    have e' : (i : Int) + 1 = ((i + 1 : Nat) : Int) := by omega
    have g1 : ¬ IntKind.u64.wrap ((tlv_Encode.page (bodies Ws[i] 0)).length : Int) = 0 := by rw [c1]; clear e c1 c2; omega
    have g2 : 0 ≤ (n : Int) := Int.natCast_nonneg n
    have g3 : (n : Int) ≤ ((tlv_Encode.page (bodies Ws[i] 0)).length : Int) := Int.ofNat_le.2 (Nat.le_of_lt hn)
    have g4 : ([] : List Int).length + (tlv_Encode.page (bodies Ws[i] 0)).length < 140737488355328 := by clear e c1 c2; simp; omega
    have g5 : (tlv_Encode.page (bodies Ws[i] 0)).length + P.length < 140737488355328 := by clear e c1 c2; omega
    have g6 : ¬ (decM ((tlv_Encode.page (bodies Ws[i] 0)).take n)).2 = true := by rw [hcut n hn]; decide
    have g7 : ¬ ((decM (tlv_Encode.page (bodies Ws[i] 0) ++ P)).2 != ((P.length : Int) == 0)) = true := by
      by_cases hP0 : P = []
      · subst hP0
        rw [List.append_nil, hall]
        show ¬ (true != ((0 : Int) == 0)) = true
        decide
      · rw [hmore hP0]
        have : ((P.length : Int) == 0) = false := beq_eq_false_iff_ne.2 (by have := List.length_pos_iff.2 hP0; clear e c1 c2; omega)
        rw [this]
        decide
    unfold wayfarerlaw08_TlvCuts.l0
    rw [if_pos f1, if_pos f2, if_pos f3, hx, if_neg g1, c2, if_pos g2, if_pos g3, Int.toNat_natCast, hD1, Option.bind_some, Option.bind_some, if_pos g4, List.nil_append, Option.bind_some, if_pos g5, hD2, Option.bind_some, if_neg g6, if_neg g7, e, e']
    exact ih (i + 1) k hd1 hlt hk1
theorem cuts_true (L : List U) (ho : okL L) (x : Int) (P : List Int) (hP : Byte P) : wayfarerlaw08_TlvCuts.f 5000 L x P = some true := by
  have j0t : wayfarerlaw08_TlvCuts.j0 5000 L x P true = some true := rfl
  unfold wayfarerlaw08_TlvCuts.f wayfarerlaw08_head.f
  rw [Option.bind_some, if_pos rfl]
  by_cases h1 : (L.length : Int) > 40
  · rw [if_pos h1]; exact j0t
  rw [if_neg h1]
  by_cases h2 : (P.length : Int) > 60
  · rw [decide_eq_true h2]; exact j0t
  rw [decide_eq_false h2]
  show (if false = true then (some true) else ((tlv_Encode.f 4999 L).bind fun t306 => (wayfarerlaw08_TlvCuts.l0 4999 x P t306 (t306.length : Int) 0))) = some true
  have hnl := encB_len L [] 0
  rw [encB_V, List.length_map] at hnl
  have hlen : ∀ W ∈ encV L [], (bodies W 0).length ≤ 1020 := by
    intro W hW
    have := encB_ok L [] 0 ho (fun x hx => by cases hx) (by simp) (bodies W 0) (by rw [encB_V]; exact List.mem_map_of_mem hW)
    exact this.2.2
  rw [if_neg (by decide), Encode_nice L ho (by omega) 4999 (by omega), Option.bind_some, encB_V, List.map_map]
  have := cuts_l0 x P hP (by omega) (encV L []) (encV_ok L [] ho (fun u hu => by cases hu)) hlen (by omega) (encV L []).length 0 4999 (by omega) (by omega) (by omega)
  have hml : (((encV L []).map (tlv_Encode.page ∘ fun W => bodies W 0)).length : Int) = (encV L []).length := by simp
  rw [hml]
  exact this
end Go.Proofs.YtgmdjhokcipajaaQ.PTlv
