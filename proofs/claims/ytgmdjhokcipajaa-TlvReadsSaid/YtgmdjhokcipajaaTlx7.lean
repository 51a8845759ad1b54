import Derived.Test.YtgmdjhokcipajaaTlx6
import Derived.Test.YtgmdjhokcipajaaPTlx9
set_option linter.unusedVariables false
set_option linter.unusedSimpArgs false
namespace Go.Proofs.YtgmdjhokcipajaaQ.PTlx
open Go.RowKit Go.Proofs.YtgmdjhokcipajaaW.PrintWords Go.Proofs.YtgmdjhokcipajaaW.PrintMore
open Go.Proofs.Ytgmdjhokcipajaa (four valB padB updB szB rightB Byte byteB four_len szB_bd oneM rd_get valB_bd4 valB_bd2)
/-! The law TlvReads: what is read can be told, and told it reads as itself. -/
theorem one_ok (x : List Int) (id : Int) (hb : Byte x) (hid : 0 ≤ id ∧ id ≤ 4294967295) (h : (oneM x id).2.2.2.2.2 = true) : okU (mkU (oneM x id)) ∧ rightU (mkU (oneM x id)) = true := by
  by_cases h1 : x.length < 7 ∨ 32 < rd x 0 ∨ (x.length : Int) ≠ 7 + szB (rd x 0)
  · rw [oneM_no x id h1] at h
    cases h
  have hone : oneM x id = (valB (padB (x.drop 7)), rd x 0, (if valB ((x.drop 5).take 2) = 65535 then 0 else id), valB ((x.drop 1).take 4), valB ((x.drop 5).take 2), updB (valB (padB (x.drop 7))) (rd x 0) (if valB ((x.drop 5).take 2) = 65535 then 0 else id) (valB ((x.drop 1).take 4)) (valB ((x.drop 5).take 2))) := by
    unfold oneM
    have e : x.getD 0 0 = rd x 0 := rfl
    rw [e, if_neg (by omega), if_neg (by omega), if_neg (by omega)]
  rw [hone] at h ⊢
  have av := valB_bd4 (padB (x.drop 7)) ((hb.drop 7).pad) (by rw [Ytgmdjhokcipajaa.padB_len]; omega)
  have qv := valB_bd4 ((x.drop 1).take 4) ((hb.drop 1).take 4) (by simp; omega)
  have mv := valB_bd2 ((x.drop 5).take 2) ((hb.drop 5).take 2) (by simp; omega)
  refine ⟨⟨av, ?_, qv, mv⟩, h⟩
  show 0 ≤ (if valB ((x.drop 5).take 2) = 65535 then 0 else id) ∧ (if valB ((x.drop 5).take 2) = 65535 then 0 else id) ≤ 4294967295
  split <;> omega
theorem accOf_ok (t : Int) (x : List Int) (id : Int) (acc : List U) (hb : Byte x) (hid : 0 ≤ id ∧ id ≤ 4294967295) (ha : okR acc) : okR (accOf t x id acc) := by
  unfold accOf
  split
  · rename_i h
    intro u hu
    rcases List.mem_append.1 hu with hu | hu
    · exact ha u hu
    · rw [List.mem_singleton.1 hu]
      exact one_ok x id hb hid h.2
  · exact ha
theorem decB_ok : ∀ (n : Nat) (b : List Int) (id : Int) (acc r : List U), Byte b → (0 ≤ id ∧ id ≤ 4294967295) → okR acc → decB n b id acc = some r → okR r ∧ r.length ≤ acc.length + b.length
  | 0, b, id, acc, r, hb, hid, ha, h => by cases h
  | n + 1, [], id, acc, r, hb, hid, ha, h => by
    rw [decB_nil] at h
    cases h
    exact ⟨ha, by simp⟩
  | n + 1, t :: q, id, acc, r, hb, hid, ha, h => by
    have hbq : Byte q := fun y hy => hb y (by simp [hy])
    by_cases h0 : t = 0
    · rw [decB_c1 n t q id acc h0] at h
      obtain ⟨a, b⟩ := decB_ok n q id acc r hbq hid ha h
      exact ⟨a, by simp; omega⟩
    cases q with
    | nil => rw [decB_c2 n t id acc h0] at h; cases h
    | cons l r2 =>
      have hb2 : Byte r2 := fun y hy => hbq y (by simp [hy])
      by_cases hs : (r2.length : Int) < l
      · rw [decB_c3 n t l r2 id acc h0 hs] at h; cases h
      · rw [decB_c4 n t l r2 id acc h0 hs] at h
        have hbx : Byte (r2.take l.toNat) := hb2.take _
        obtain ⟨a, b⟩ := decB_ok n _ _ _ r (hb2.drop _) (idOf_bd t _ id hbx hid) (accOf_ok t _ id acc hbx hid ha) h
        have al := accOf_len t (r2.take l.toNat) id acc
        exact ⟨a, by simp at b ⊢; omega⟩
theorem decM_ok (b : List Int) (hb : Byte b) : okR (decM b).1 ∧ (decM b).1.length ≤ 1024 := by
  unfold decM
  split
  · exact ⟨fun u hu => (by cases hu), by simp⟩
  · rename_i hc
    cases h : decB b.length (b.drop 4) 0 [] with
    | none => exact ⟨fun u hu => (by cases hu), by simp⟩
    | some r =>
      obtain ⟨a, c⟩ := decB_ok _ _ _ _ r (hb.drop 4) (by omega) (fun u hu => by cases hu) h
      refine ⟨a, ?_⟩
      simp at c
      show r.length ≤ 1024
      omega
theorem reads_l0 (L : List U) (Ws : List (List U)) (hF : Ws.flatten = L) (hok : ∀ W ∈ Ws, okR W) (hlen : ∀ W ∈ Ws, (bodies W 0).length ≤ 1020) (hf : (Ws.flatten).length ≤ 100000) (hw : Ws.length ≤ 100000) :
    ∀ (d i k : Nat), Ws.length - i = d → i ≤ Ws.length → d + (Ws.flatten).length + 4000 ≤ k →
    wayfarerlaw08_TlvReads.l0 k L ((Ws.take i).flatten) (Ws.map fun W => tlv_Encode.page (bodies W 0)) (Ws.length : Int) (i : Int) = some true := by
  intro d
  induction d with
  | zero =>
    intro i k hd hi hk
    obtain ⟨k, rfl⟩ : ∃ m, k = m + 1 := ⟨k - 1, by omega⟩
    have : i = Ws.length := by omega
    subst this
    unfold wayfarerlaw08_TlvReads.l0
    rw [if_neg (by omega), List.take_length, hF, same_nice _ k (by rw [← hF]; omega) (by rw [← hF]; omega)]
    rfl
  | succ d ih =>
    intro i k hd hi hk
    obtain ⟨k, rfl⟩ : ∃ m, k = m + 1 := ⟨k - 1, by omega⟩
    have hlt : i < Ws.length := by omega
    have hm : Ws[i] ∈ Ws := List.getElem_mem hlt
    have h1 := hok _ hm
    have h2 := hlen _ hm
    have e : wrap64 ((i : Int) + 1) = ((i + 1 : Nat) : Int) := by rw [w64 _ (by omega) (by omega)]; omega
    have hx : rd_L9 (Ws.map fun W => tlv_Encode.page (bodies W 0)) (i : Int) = tlv_Encode.page (bodies Ws[i] 0) := by
      rw [rdPage _ _ (by simp; omega), List.getElem_map]
    have hB : Byte (bodies Ws[i] 0) := by
      clear h2 hx e
      have : ∀ (L : List U) (id : Int), okR L → Byte (bodies L id) := by
        intro L
        induction L with
        | nil => intro id _ x hx; cases hx
        | cons u r ihL =>
          intro id ho
          have hu := ho u List.mem_cons_self
          exact byte_app (byte_part u hu.1 hu.2 id) (ihL u.f1 (fun v hv => ho v (List.mem_cons_of_mem _ hv)))
      exact this _ 0 h1
    have hpl := page_len (bodies Ws[i] 0)
    have hfs := flat_succ Ws i hlt
    have hfl1 := flat_len Ws (i + 1)
    have hml : (Ws.map fun W => tlv_Encode.page (bodies W 0)).length = Ws.length := by simp
    have hdec := Decode_nice (tlv_Encode.page (bodies Ws[i] 0)) (byte_page _ hB h2) (by omega) k (by omega)
    rw [dec_page _ h1 h2] at hdec
    have hadd : ((Ws.take i).flatten).length + (Ws[i]).length ≤ 100000 := by
      rw [← List.length_append, hfs]; omega
    have hI := ih (i + 1) k (by omega) (by omega) (by omega)
    unfold wayfarerlaw08_TlvReads.l0
    rw [if_pos (by omega), if_pos (by omega), if_pos (by omega), hx, hdec, Option.bind_some]
    dsimp only
    rw [if_pos rfl, if_pos (by omega), e, hfs]
    exact hI
theorem reads_true (k : Nat) (hk : 20000 ≤ k) (l : List Int) (hb : Byte l) : wayfarerlaw08_TlvReads.f k l = some true := by
  obtain ⟨k, rfl⟩ : ∃ m, k = m + 1 := ⟨k - 1, by omega⟩
  unfold wayfarerlaw08_TlvReads.f wayfarerlaw08_head.f
  rw [Option.bind_some, if_pos rfl]
  by_cases h11 : (l.length : Int) > 1100
  · rw [if_pos h11]
  rw [if_neg h11, Decode_nice l hb (by omega) _ (by omega), Option.bind_some, law_nice l hb _ (by omega), Option.bind_some, if_neg (by simp)]
  obtain ⟨hR, hlen⟩ := decM_ok l hb
  generalize (decM l).1 = L at *
  have ho : okL L := fun u hu => (hR u hu).1
  rw [same_nice L _ (by omega) (by omega), Option.bind_some]
  show wayfarerlaw08_TlvReads.j0 (k + 1) L false = some true
  rw [wayfarerlaw08_TlvReads.j0, if_neg (by decide), Encode_nice L ho (by omega) k (by omega), Option.bind_some, encB_V, List.map_map]
  have hfl := encV_flat L []
  have hfi : L.filter rightU = L := List.filter_eq_self.2 fun u hu => (hR u hu).2
  rw [List.nil_append, hfi] at hfl
  have hnl := encB_len L [] 0
  rw [encB_V, List.length_map] at hnl
  have hlen2 : ∀ W ∈ encV L [], (bodies W 0).length ≤ 1020 := by
    intro W hW
    have := encB_ok L [] 0 ho (fun x hx => by cases hx) (by simp) (bodies W 0) (by rw [encB_V]; exact List.mem_map_of_mem hW)
    exact this.2.2
  have := reads_l0 L (encV L []) hfl (encV_ok L [] ho (fun u hu => by cases hu)) hlen2 (by rw [hfl]; omega) (by omega) (encV L []).length 0 k (by omega) (by omega) (by rw [hfl]; omega)
  have hml : (((encV L []).map (tlv_Encode.page ∘ fun W => bodies W 0)).length : Int) = (encV L []).length := by simp
  rw [hml]
  exact this
end Go.Proofs.YtgmdjhokcipajaaQ.PTlx
