import Derived.Test.YtgmdjhokcipajaaTlvP4
import Derived.Test.YtgmdjhokcipajaaPTlv8
import Derived.Test.YtgmdjhokcipajaaPTlv13
set_option linter.unusedVariables false
set_option linter.unusedSimpArgs false
namespace Go.Proofs.YtgmdjhokcipajaaQ.PTlv
open Go.RowKit Go.Proofs.YtgmdjhokcipajaaW.PrintWords Go.Proofs.YtgmdjhokcipajaaW.PrintMore
open Go.Proofs.Ytgmdjhokcipajaa (four valB padB updB szB rightB Byte byteB four_len szB_bd oneM)
/-! Noughts and parts of other kinds between. -/
theorem and7u (x : Int) : 0 ≤ Go.bits .and .u8 x 7 ∧ Go.bits .and .u8 x 7 ≤ 7 := by
  have : Go.bits .and .u8 x 7 = IntKind.u8.wrap ((BitVec.ofInt 8 x &&& BitVec.ofInt 8 7).toNat : Int) := rfl
  rw [this]
  have h : (BitVec.ofInt 8 x &&& BitVec.ofInt 8 7).toNat ≤ 7 := by
    rw [BitVec.toNat_and]
    exact Nat.le_trans Nat.and_le_right (by decide)
  rw [IntKind.wrap_u8]
  omega
theorem same_l0' (L : List U) : ∀ (d i k : Nat), L.length - i = d → i ≤ L.length → d < k → L.length ≤ 100000000 → wayfarerlaw08_Same.l0 k L L (L.length : Int) (i : Int) = some true := by
  intro d
  induction d with
  | zero =>
    intro i k hd hi hk hl
    obtain ⟨k, rfl⟩ : ∃ m, k = m + 1 := ⟨k - 1, by omega⟩
    unfold wayfarerlaw08_Same.l0
    rw [if_neg (by omega)]
  | succ d ih =>
    intro i k hd hi hk hl
    obtain ⟨k, rfl⟩ : ∃ m, k = m + 1 := ⟨k - 1, by omega⟩
    have e : wrap64 ((i : Int) + 1) = ((i + 1 : Nat) : Int) := by rw [w64 _ (by omega) (by omega)]; omega
    unfold wayfarerlaw08_Same.l0
    rw [if_pos (by omega), if_pos (by omega), if_pos (by omega), if_pos (by omega), if_neg (by simp), e]
    exact ih (i + 1) k (by omega) (by omega) (by omega) hl
theorem same_nice' (L : List U) (k : Nat) (hk : L.length < k) (hl : L.length ≤ 100000000) : wayfarerlaw08_Same.f k L L = some true := by
  unfold wayfarerlaw08_Same.f
  rw [if_pos rfl]
  exact same_l0' L L.length 0 k (by omega) (by omega) hk hl
/-- Bytes that tell W, and leave the router's number id behind. -/
def Steps (b : List Int) (id : Int) (W : List U) : Prop := ∀ r n, (b ++ r).length < n → ∃ m, r.length < m ∧ decB n (b ++ r) 0 [] = decB m r id W
theorem Steps.nil : Steps [] 0 [] := fun r n h => ⟨n, h, rfl⟩
theorem dec_noughts : ∀ (j n : Nat) (r : List Int) (id : Int) (W : List U), j + r.length < n → decB n (List.replicate j 0 ++ r) id W = decB (n - j) r id W
  | 0, n, r, id, W, _ => by simp
  | j + 1, n, r, id, W, h => by
    obtain ⟨n, rfl⟩ : ∃ m, n = m + 1 := ⟨n - 1, by omega⟩
    rw [List.replicate_succ, List.cons_append, decB_c1 n 0 _ _ _ rfl, dec_noughts j n r id W (by omega)]
    congr 1
    omega
theorem Steps.noughts {b : List Int} {id : Int} {W : List U} (h : Steps b id W) (j : Nat) : Steps (b ++ List.replicate j 0) id W := by
  intro r n hn
  rw [List.append_assoc] at hn ⊢
  obtain ⟨m, hm, e⟩ := h _ n hn
  rw [List.length_append, List.length_replicate] at hm
  exact ⟨m - j, by omega, by rw [e, dec_noughts j m r id W hm]⟩
theorem Steps.odd {b : List Int} {id : Int} {W : List U} (h : Steps b id W) (kind : Int) (x : List Int) (h0 : kind ≠ 0) (h2 : kind ≠ 2) (h3 : kind ≠ 3) : Steps (b ++ ([kind, (x.length : Int)] ++ x)) id W := by
  intro r n hn
  rw [List.append_assoc] at hn ⊢
  obtain ⟨m, hm, e⟩ := h _ n hn
  have e1 : ([kind, (x.length : Int)] ++ x) ++ r = kind :: (x.length : Int) :: (x ++ r) := rfl
  rw [e1] at hm e ⊢
  simp only [List.length_cons, List.length_append] at hm
  obtain ⟨m, rfl⟩ : ∃ q, m = q + 1 := ⟨m - 1, by omega⟩
  refine ⟨m, by omega, ?_⟩
  rw [e, decB_c4 m kind _ _ _ _ h0 (by rw [List.length_append]; omega), Int.toNat_natCast, List.drop_left, List.take_left]
  have i1 : idOf kind x id = id := by unfold idOf; rw [if_neg (fun hh => h2 hh.1)]
  have i2 : accOf kind x id W = W := by unfold accOf; rw [if_neg (fun hh => h3 hh.1)]
  rw [i1, i2]
theorem Steps.part {b : List Int} {id : Int} {W : List U} (h : Steps b id W) (u : U) (ho : okU u) (hr : rightU u = true) : Steps (b ++ partM u id) u.f1 (W ++ [u]) := by
  intro r n hn
  rw [List.append_assoc] at hn ⊢
  obtain ⟨m, hm, e⟩ := h _ n hn
  have hpl := partM_len u id
  rw [List.length_append] at hm
  obtain ⟨m, rfl⟩ : ∃ q, m = q + 2 := ⟨m - 2, by omega⟩
  refine ⟨if u.f1 = id then m + 1 else m, by split <;> omega, ?_⟩
  rw [e, dec_part u ho hr id m r W]
theorem Steps.all {b : List Int} {id : Int} {W : List U} (h : Steps b id W) (n : Nat) (hn : b.length < n) : decB n b 0 [] = some W := by
  obtain ⟨m, hm, e⟩ := h [] n (by simpa using hn)
  rw [List.append_nil] at e
  obtain ⟨m, rfl⟩ : ∃ q, m = q + 1 := ⟨m - 1, by simp at hm; omega⟩
  rw [e, decB_nil]
theorem dec_steps {b : List Int} {id : Int} {W : List U} (h : Steps b id W) (hl : b.length ≤ 1020) : decM (tlv_Encode.page b) = (W, true) := by
  unfold decM
  have e0 : rd (tlv_Encode.page b) 0 = 87 := rfl
  have e1 : rd (tlv_Encode.page b) 1 = 1 := rfl
  have e2 : rd (tlv_Encode.page b) 2 = (b.length : Int) / 256 % 256 := rfl
  have e3 : rd (tlv_Encode.page b) 3 = (b.length : Int) % 256 := rfl
  have e4 : (tlv_Encode.page b).drop 4 = b := rfl
  rw [e0, e1, e2, e3, e4, page_len, if_neg (by simp only [not_or]; omega), h.all _ (by omega)]
theorem wi (i : Nat) (h : i ≤ 1000000) : wrap64 ((i : Int) + 1) = ((i + 1 : Nat) : Int) := by rw [w64 _ (by omega) (by omega)]; omega
attribute [local irreducible] partM decB rightU Steps in
theorem pads_l0 (L : List U) (ho : okL L) (hL : L.length ≤ 12) (P : List Int) (hP : P.length ≤ 40) (kind : Int) (h0 : kind ≠ 0) (h2 : kind ≠ 2) (h3 : kind ≠ 3) (hk0 : 0 ≤ kind ∧ kind ≤ 255) (x : List Int) (hx : Byte x) (hxl : x.length ≤ 20) :
    ∀ (d i k : Nat) (b : List Int) (W : List U) (id : Int), L.length - i = d → i ≤ L.length → d + 4000 ≤ k → Steps b id W → Byte b → b.length ≤ 50 * i → W.length ≤ i →
    wayfarerlaw08_TlvPads.l0 k P kind x b W id L (L.length : Int) (i : Int) = some true := by
  intro d
  induction d with
  | zero =>
    intro i k b W id hd hi hk hS hb hbl hW
    obtain ⟨k, rfl⟩ : ∃ m, k = m + 1 := ⟨k - 1, by omega⟩
    unfold wayfarerlaw08_TlvPads.l0
    have hpl := page_len b
    have hdec := Decode_nice (tlv_Encode.page b) (byte_page _ hb (by omega)) (by omega) k (by omega)
    rw [dec_steps hS (by omega)] at hdec
    rw [if_neg (by omega), Option.bind_some, if_pos (by simp; omega), page_hdr b (by omega), hdec, Option.bind_some]
    dsimp only
    rw [if_pos rfl, same_nice' W k (by omega) (by omega)]
    rfl
  | succ d ih =>
    intro i k b W id hd hi hk hS hb hbl hW
    obtain ⟨k, rfl⟩ : ∃ m, k = m + 1 := ⟨k - 1, by omega⟩
    have hlt : i < L.length := by omega
    have f1 : (i : Int) < (L.length : Int) := Int.ofNat_lt.2 hlt
    have f2 : 0 ≤ (i : Int) := Int.natCast_nonneg i
    have hi1 : i + 1 ≤ L.length := hlt
    have hd1 : L.length - (i + 1) = d := by omega
    have hk8 : 8 ≤ k := by omega
    have hk1 : d + 4000 ≤ k := by omega
    have hi12 : i ≤ 12 := by omega
    have hou := ho L[i] (List.getElem_mem hlt)
    have f3 := lawRight_nice L[i] hou k (Nat.le_trans (by decide) hk8)
    have e := wi i (Nat.le_trans hi12 (by decide))
    obtain ⟨pl, hpe, hpl⟩ : ∃ pl, (partM L[i] id).length = pl ∧ pl ≤ 19 := ⟨_, rfl, (partM_len L[i] id).2⟩
    clear hk hd
    unfold wayfarerlaw08_TlvPads.l0
    rw [if_pos f1, if_pos f2, if_pos f1, getU L i hlt, f3, Option.bind_some]
    cases hr : rightU L[i] with
    | false =>
      rw [if_neg (by decide), e]
      exact ih (i + 1) k b W id hd1 hi1 hk1 hS hb (by clear e ih f1 f3; omega) (by clear e ih f1 f3; omega)
    | true =>
      have hbp := byte_part _ hou hr id
      have hpn := parts_nice _ hou hr id k hk8
      rw [if_pos rfl]
      by_cases hp : (i : Int) < (P.length : Int)
      · have h7 := and7u (rd P (i : Int))
        generalize Go.bits .and .u8 (rd P (i : Int)) 7 = q at *
        obtain ⟨j, rfl⟩ := Int.eq_ofNat_of_zero_le h7.1
        have hj : j ≤ 7 := by clear e ih f1 f3; omega
        clear h7

        have e2 : (x.length : Int) % 256 = x.length := by clear e ih f1 f3; omega
        have g1 : 0 ≤ (j : Int) := by clear e ih f1 f3; omega
        have g2 : b.length + j < 140737488355328 := by clear e ih f1 f3; omega
        have g3 : (b ++ List.replicate j 0).length + ([kind, (x.length : Int)] : List Int).length < 140737488355328 := by clear e ih f1 f3; simp; omega
        have g4 : (b ++ List.replicate j 0 ++ [kind, (x.length : Int)]).length + x.length < 140737488355328 := by clear e ih f1 f3; simp; omega
        have g5 : (b ++ List.replicate j 0 ++ [kind, (x.length : Int)] ++ x).length + (partM L[i] id).length < 140737488355328 := by rw [hpe]; clear e ih f1 f3; simp; omega
        have g6 : W.length < 4398046511104 := by clear e ih f1 f3; omega
        have e1 : wrap64 (j : Int) = (j : Int) := w64 _ (by clear e ih f1 f3; omega) (by clear e ih f1 f3; omega)
        rw [if_pos hp, e1, if_pos g1, Int.toNat_natCast, if_pos g2, Option.bind_some, Option.bind_some, e2, if_pos g3, Option.bind_some, if_pos g4, Option.bind_some, hpn, Option.bind_some, if_pos g5, if_pos g6, e]
        have hS2 := ((hS.noughts j).odd kind x h0 h2 h3).part _ hou hr
        have ea : b ++ List.replicate j 0 ++ [kind, (x.length : Int)] ++ x = b ++ List.replicate j 0 ++ ([kind, (x.length : Int)] ++ x) := by simp
        rw [ea]
        clear e1
        refine ih (i + 1) k _ _ _ hd1 hi1 hk1 hS2 (byte_app (byte_app (byte_app hb ?_) (byte_app ?_ hx)) hbp) (by clear e f1 f3; simp [hpe]; omega) (by clear e f1 f3; simp; omega)
        · intro y hy
          have := (List.mem_replicate.1 hy).2
          omega
        · intro y hy
          simp at hy
          omega
      · have g5 : b.length + (partM L[i] id).length < 140737488355328 := by rw [hpe]; clear e ih f1 f3; omega
        have g6 : W.length < 4398046511104 := by clear e ih f1 f3; omega
        rw [if_neg hp, hpn, Option.bind_some, if_pos g5, if_pos g6, e]
        exact ih (i + 1) k _ _ _ hd1 hi1 hk1 (hS.part _ hou hr) (byte_app hb hbp) (by clear e f1 f3; simp [hpe]; omega) (by clear e f1 f3; simp; omega)
attribute [local irreducible] partM decB rightU Steps in
theorem pads_true (L : List U) (ho : okL L) (P : List Int) (kind : Int) (hk : 0 ≤ kind ∧ kind ≤ 255) (x : List Int) (hx : Byte x) : wayfarerlaw08_TlvPads.f 5000 L P kind x = some true := by
  have j0t : ∀ k : Nat, wayfarerlaw08_TlvPads.j0 (k + 1) L P kind x true = some true := fun k => rfl
  have j2 : ∀ (kd : Int), kd ≠ 0 → kd ≠ 2 → kd ≠ 3 → (0 ≤ kd ∧ kd ≤ 255) → L.length ≤ 12 → P.length ≤ 40 → x.length ≤ 20 → wayfarerlaw08_TlvPads.j2 (4997 + 1) L P kd x = some true := by
    intro kd h0 h2 h3 hkd hL hP hxl
    show wayfarerlaw08_TlvPads.l0 4997 P kd x [] [] 0 L (L.length : Int) 0 = some true
    exact pads_l0 L ho hL P hP kd h0 h2 h3 hkd x hx hxl L.length 0 4997 [] [] 0 (by omega) (by omega) (by omega) Steps.nil (fun y hy => by cases hy) (by simp) (by simp)
  unfold wayfarerlaw08_TlvPads.f wayfarerlaw08_head.f
  rw [Option.bind_some, if_pos rfl]
  by_cases h1 : (L.length : Int) > 12
  · rw [if_pos h1]; exact j0t 4999
  rw [if_neg h1]
  by_cases h2 : (P.length : Int) > 40
  · rw [if_pos h2]; exact j0t 4999
  rw [if_neg h2]
  by_cases h3 : (x.length : Int) > 20
  · rw [decide_eq_true h3]; exact j0t 4999
  rw [decide_eq_false h3]
  show (if false = true then some true else if kind = 0 then wayfarerlaw08_TlvPads.j1 4999 L P kind x true else if kind = 2 then wayfarerlaw08_TlvPads.j1 4999 L P kind x true else wayfarerlaw08_TlvPads.j1 4999 L P kind x (kind == 3)) = _
  have j1t : wayfarerlaw08_TlvPads.j1 4999 L P kind x true = some true := by
    show wayfarerlaw08_TlvPads.j2 4998 L P 9 x = some true
    exact j2 9 (by decide) (by decide) (by decide) (by decide) (by omega) (by omega) (by omega)
  rw [if_neg (by decide)]
  by_cases k0 : kind = 0
  · rw [if_pos k0]; exact j1t
  rw [if_neg k0]
  by_cases k2 : kind = 2
  · rw [if_pos k2]; exact j1t
  rw [if_neg k2]
  by_cases k3 : kind = 3
  · have : (kind == 3) = true := beq_iff_eq.2 k3
    rw [this]; exact j1t
  · have : (kind == 3) = false := beq_eq_false_iff_ne.2 k3
    rw [this]
    show wayfarerlaw08_TlvPads.j2 4998 L P kind x = some true
    exact j2 kind k0 k2 k3 hk (by omega) (by omega) (by omega)
end Go.Proofs.YtgmdjhokcipajaaQ.PTlv
