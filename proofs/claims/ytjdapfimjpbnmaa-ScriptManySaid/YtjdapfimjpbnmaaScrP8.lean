import Derived.Test.YtjdapfimjpbnmaaScrP6
import Derived.Test.YtjdapfimjpbnmaaPScr9
set_option linter.unusedVariables false
set_option linter.unusedSimpArgs false
namespace Go.Proofs.YtjdapfimjpbnmaaQ.PScr
open Go.RowKit Go.Proofs.YtjdapfimjpbnmaaW.PrintWords Go.Proofs.YtjdapfimjpbnmaaW.PrintMore
open Go.Proofs.Ytjdapfimjpbnmaa (valB byteB rightB Byte evRightB evHas evRest numB str_inj str_data str_empty toList_eq)
/-! The law ScriptMany. -/
theorem and7 (x : Int) : 0 ≤ Go.bits .and .i64 x 7 ∧ Go.bits .and .i64 x 7 ≤ 7 := by
  have : Go.bits .and .i64 x 7 = IntKind.i64.wrap ((BitVec.ofInt 64 x &&& BitVec.ofInt 64 7).toNat : Int) := rfl
  have h : (BitVec.ofInt 64 x &&& BitVec.ofInt 64 7).toNat ≤ 7 := by
    rw [BitVec.toNat_and]
    exact Nat.and_le_right
  rw [this, IntKind.wrap_i64]
  omega
def z0 : Ev := z30
theorem z_right : rightE z0 = true := by decide
theorem z_ok : okE z0 := by unfold okE; decide
theorem z_len : (evBytes z0).length = 16 := by rw [evBytes_len]; rfl
theorem reps_len (n : Nat) : ((List.replicate n z0).flatMap evBytes).length = 16 * n := by
  induction n with
  | zero => rfl
  | succ n ih => rw [List.replicate_succ, List.flatMap_cons, List.length_append, ih, z_len]; omega
theorem decR_many : ∀ (n f : Nat) (acc : List Ev) (pos : Nat), 16 * n < f → 8192 < acc.length + n → acc.length ≤ 8192 → ∃ ys, decR f ((List.replicate n z0).flatMap evBytes) acc pos = (ys, pos + 16 * (8192 - acc.length), 7) ∧ ys.length = 8192
  | 0, f, acc, pos, hf, h1, h2 => by omega
  | n + 1, f, acc, pos, hf, h1, h2 => by
    obtain ⟨f, rfl⟩ : ∃ m, f = m + 1 := ⟨f - 1, by omega⟩
    rw [List.replicate_succ, List.flatMap_cons]
    obtain ⟨o1, o2, o3⟩ := one_ev z0 ((List.replicate n z0).flatMap evBytes) z_right z_ok
    have hne : evBytes z0 ++ (List.replicate n z0).flatMap evBytes ≠ [] := by rw [ev_cons]; simp
    have hd : (evBytes z0 ++ (List.replicate n z0).flatMap evBytes).drop (16 + z0.f5.size) = (List.replicate n z0).flatMap evBytes := by rw [← evBytes_len z0, List.drop_left]
    rw [decR, if_neg hne, if_pos o1]
    by_cases hc : acc.length = 8192
    · rw [if_pos hc]
      exact ⟨acc, by rw [hc]; rfl, hc⟩
    · rw [if_neg hc, o2, o3, hd]
      obtain ⟨ys, e, hy⟩ := decR_many n f (acc ++ [z0]) (pos + (16 + z0.f5.size)) (by omega) (by simp; omega) (by simp; omega)
      refine ⟨ys, ?_, hy⟩
      rw [e, show z0.f5.size = 0 from rfl]
      simp
      omega
theorem many_true (K : Nat) (hK : 200000 ≤ K) (a0 : Int) : wayfarerlaw14_ScriptMany.f K a0 = some true := by
  have h7 := and7 a0
  have hw : wrap64 (8189 + Go.bits .and .i64 a0 7) = 8189 + Go.bits .and .i64 a0 7 := w64 _ (by omega) (by omega)
  unfold wayfarerlaw14_ScriptMany.f
  rw [hw]
  generalize hq : 8189 + Go.bits .and .i64 a0 7 = q
  obtain ⟨m, hm⟩ : ∃ m : Nat, q = (m : Int) := ⟨q.toNat, by omega⟩
  subst hm
  have m0 : 8189 ≤ m ∧ m ≤ 8196 := by omega
  clear hq hw h7
  have h0 := head_true (K - 60)
  rw [show K - 60 + 60 = K by omega] at h0
  have hxl : (List.replicate m z0).length = m := List.length_replicate
  have hxr : ∀ e ∈ List.replicate m z0, rightE e = true := fun e he => by rw [(List.mem_replicate.1 he).2]; exact z_right
  have hxo : ∀ e ∈ List.replicate m z0, okE e := fun e he => by rw [(List.mem_replicate.1 he).2]; exact z_ok
  have hsl : (scr 2 40 (List.replicate m z0)).length = 3 + 16 * m := by rw [scr_len, reps_len]
  have hE := Encode_nice (K - 5 * m - 20) 2 40 (List.replicate m z0) hxo (by omega)
  rw [hxl, show K - 5 * m - 20 + 5 * m + 20 = K by omega] at hE
  have hB := Bytes_nice (K - 5 * m - 1) 2 40 (List.replicate m z0) hxr (by omega) (by omega)
  rw [hxl, show K - 5 * m - 1 + 5 * m + 1 = K by omega] at hB
  have hD := Decode_nice (K - (3 + 16 * m) - 20) (scr 2 40 (List.replicate m z0)) (scr_byte _ _ _) (by omega)
  rw [hsl, show K - (3 + 16 * m) - 20 + (3 + 16 * m) + 20 = K by omega] at hD
  have hS : ([2 % 256] ++ beN 40 2 ++ (List.replicate m z0).flatMap evBytes : List Int) = scr 2 40 (List.replicate m z0) := rfl
  rw [hS] at hB
  rw [h0, Option.bind_some, if_pos rfl, if_pos (by omega), Int.toNat_natCast, if_pos (by omega), Option.bind_some]
  show ((script_Encode.f K 2 40 (List.replicate m z0)).bind _) = _
  rw [hE, Option.bind_some]
  show ((wayfarerlaw14_Bytes.f K 2 40 (List.replicate m z0)).bind _) = _
  rw [hB, Option.bind_some, hD, Option.bind_some]
  by_cases hm : 8192 < m
  · have e1 : encM 2 40 (List.replicate m z0) = ([], 7) := by unfold encM; rw [if_pos (by omega)]
    obtain ⟨ys, e2, hy⟩ := decR_many m (3 + 16 * m + 1) [] 3 (by omega) (by simpa using hm) (by simp)
    have e3 : decM (scr 2 40 (List.replicate m z0)) = (2, 40, ys, ((3 + 16 * 8192 : Nat) : Int), 7) := by
      obtain ⟨a1, a2, a3⟩ := scr_head 2 40 (List.replicate m z0) (by omega) (by omega)
      unfold decM
      rw [if_neg (by omega), if_pos a3, a1, a2, scr_drop, hsl, e2]
      rfl
    rw [e1, e3, if_pos (by omega)]
    simp [hy]
  · have e1 := enc_scr 2 40 (List.replicate m z0) (by omega) (by omega) hxr (by omega)
    have e3 := dec_scr 2 40 (List.replicate m z0) (by omega) (by omega) (fun e he => ⟨hxr e he, hxo e he⟩) (by omega) (by omega)
    rw [e1, e3, if_neg (by omega)]
    simp only [hsl, hxl]
    rw [w64 (16 * (m : Int)) (by omega) (by omega), w64 _ (by omega) (by omega)]
    have e4 : ((3 + 16 * m : Nat) : Int) = 3 + 16 * (m : Int) := by omega
    rw [e4]
    simp
end Go.Proofs.YtjdapfimjpbnmaaQ.PScr
