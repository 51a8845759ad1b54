import Derived.Test.YtjdapfimjpbnmaaScrP4
set_option linter.unusedVariables false
set_option linter.unusedSimpArgs false
namespace Go.Proofs.YtjdapfimjpbnmaaQ.PScr
open Go.RowKit Go.Proofs.YtjdapfimjpbnmaaW.PrintWords Go.Proofs.YtjdapfimjpbnmaaW.PrintMore
open Go.Proofs.Ytjdapfimjpbnmaa (four valB byteB rightB Byte four_len evRightB evHas evRest numB valB_snoc valB_bd valB_bd4 or_add_nat str_inj str_data str_empty toList_eq fold_bd)
/-! What is written is read, and what is read is written. -/
theorem str_bytesOf (p : ByteArray) : strOfNums (bytesOf p) = p := by
  apply ByteArray.ext
  apply Array.ext'
  simp only [strOfNums, bytesOf, List.map_map, List.toList_toArray]
  refine (List.map_congr_left (g := id) fun x _ => ?_).trans (List.map_id _)
  simp
theorem bytesOf_byte (p : ByteArray) : Byte (bytesOf p) := by
  intro x hx
  simp only [bytesOf, List.mem_map] at hx
  obtain ⟨b, -, rfl⟩ := hx
  have := b.toNat_lt
  omega
theorem ev_cons (e : Ev) (t : List Int) : evBytes e ++ t = e.f0 % 256 :: e.f1 / 256 ^ 2 % 256 :: e.f1 / 256 ^ 1 % 256 :: e.f1 / 256 ^ 0 % 256 :: e.f2 / 256 ^ 2 % 256 :: e.f2 / 256 ^ 1 % 256 :: e.f2 / 256 ^ 0 % 256 :: e.f3 / 256 ^ 2 % 256 :: e.f3 / 256 ^ 1 % 256 :: e.f3 / 256 ^ 0 % 256 ::
    e.f4.f0 / 256 ^ 3 % 256 :: e.f4.f0 / 256 ^ 2 % 256 :: e.f4.f0 / 256 ^ 1 % 256 :: e.f4.f0 / 256 ^ 0 % 256 :: e.f4.f1 % 256 :: (e.f5.size : Int) % 256 :: (bytesOf e.f5 ++ t) := rfl
theorem one_ev (e : Ev) (t : List Int) (hr : rightE e = true) (ho : okE e) : oneB (evBytes e ++ t) = true ∧ evN (evBytes e ++ t) = 16 + e.f5.size ∧ evOf (evBytes e ++ t) = e := by
  have hs := right_small e hr
  obtain ⟨kind, i, k, n, ⟨a, l⟩, p⟩ := e
  obtain ⟨⟨k0, k1⟩, ⟨i0, i1⟩, ⟨q0, q1⟩, ⟨n0, n1⟩, ⟨l0, l1⟩, hp⟩ := hs
  obtain ⟨a0, a1⟩ := ho
  simp only at k0 k1 i0 i1 q0 q1 n0 n1 l0 l1 hp a0 a1
  have e15 : (rd (evBytes ⟨kind, i, k, n, ⟨a, l⟩, p⟩ ++ t) 15).toNat = p.size := by
    show ((p.size : Int) % 256).toNat = p.size
    omega
  have hN : evN (evBytes ⟨kind, i, k, n, ⟨a, l⟩, p⟩ ++ t) = 16 + p.size := by unfold evN; rw [e15]
  have hx : ((evBytes ⟨kind, i, k, n, ⟨a, l⟩, p⟩ ++ t).drop 16).take p.size = bytesOf p := by
    show (bytesOf p ++ t).take p.size = bytesOf p
    rw [← bytesOf_length p, List.take_left]
  have hE : evOf (evBytes ⟨kind, i, k, n, ⟨a, l⟩, p⟩ ++ t) = ⟨kind, i, k, n, ⟨a, l⟩, p⟩ := by
    unfold evOf
    rw [e15, hx, str_bytesOf]
    have f0 : rd (evBytes ⟨kind, i, k, n, ⟨a, l⟩, p⟩ ++ t) 0 = kind := by show kind % 256 = kind; omega
    have f14 : rd (evBytes ⟨kind, i, k, n, ⟨a, l⟩, p⟩ ++ t) 14 = l := by show l % 256 = l; omega
    have g1 : valB (((evBytes ⟨kind, i, k, n, ⟨a, l⟩, p⟩ ++ t).drop 1).take 3) = i := by show ((0 * 256 + i / 65536 % 256) * 256 + i / 256 % 256) * 256 + i / 1 % 256 = i; omega
    have g4 : valB (((evBytes ⟨kind, i, k, n, ⟨a, l⟩, p⟩ ++ t).drop 4).take 3) = k := by show ((0 * 256 + k / 65536 % 256) * 256 + k / 256 % 256) * 256 + k / 1 % 256 = k; omega
    have g7 : valB (((evBytes ⟨kind, i, k, n, ⟨a, l⟩, p⟩ ++ t).drop 7).take 3) = n := by show ((0 * 256 + n / 65536 % 256) * 256 + n / 256 % 256) * 256 + n / 1 % 256 = n; omega
    have g10 : valB (((evBytes ⟨kind, i, k, n, ⟨a, l⟩, p⟩ ++ t).drop 10).take 4) = a := by show (((0 * 256 + a / 16777216 % 256) * 256 + a / 65536 % 256) * 256 + a / 256 % 256) * 256 + a / 1 % 256 = a; omega
    rw [f0, f14, g1, g4, g7, g10]
  refine ⟨?_, hN, hE⟩
  unfold oneB
  rw [hN, hE, hr]
  have : (evBytes ⟨kind, i, k, n, ⟨a, l⟩, p⟩ ++ t).length = 16 + p.size + t.length := by rw [List.length_append, evBytes_len]
  simp [this]
  omega
theorem be3_val (x y z : Int) (hx : 0 ≤ x ∧ x ≤ 255) (hy : 0 ≤ y ∧ y ≤ 255) (hz : 0 ≤ z ∧ z ≤ 255) : beN (valB [x, y, z]) 3 = [x, y, z] := by
  have e : valB [x, y, z] = (x * 256 + y) * 256 + z := by show ((0 * 256 + x) * 256 + y) * 256 + z = _; omega
  rw [e]
  show [((x * 256 + y) * 256 + z) / 65536 % 256, ((x * 256 + y) * 256 + z) / 256 % 256, ((x * 256 + y) * 256 + z) / 1 % 256] = _
  congr 1
  · omega
  congr 1
  · omega
  congr 1
  omega
theorem be4_val (x y z u : Int) (hx : 0 ≤ x ∧ x ≤ 255) (hy : 0 ≤ y ∧ y ≤ 255) (hz : 0 ≤ z ∧ z ≤ 255) (hu : 0 ≤ u ∧ u ≤ 255) : beN (valB [x, y, z, u]) 4 = [x, y, z, u] := by
  have e : valB [x, y, z, u] = ((x * 256 + y) * 256 + z) * 256 + u := by show (((0 * 256 + x) * 256 + y) * 256 + z) * 256 + u = _; omega
  rw [e]
  show [(((x * 256 + y) * 256 + z) * 256 + u) / 16777216 % 256, (((x * 256 + y) * 256 + z) * 256 + u) / 65536 % 256, (((x * 256 + y) * 256 + z) * 256 + u) / 256 % 256, (((x * 256 + y) * 256 + z) * 256 + u) / 1 % 256] = _
  congr 1
  · omega
  congr 1
  · omega
  congr 1
  · omega
  congr 1
  omega
theorem cut_len (l : List Int) (i n : Nat) (h : i + n ≤ l.length) : ((l.drop i).take n).length = n := by simp; omega
theorem list3 (l : List Int) (h : l.length = 3) : ∃ x y z, l = [x, y, z] := by
  match l, h with
  | [x, y, z], _ => exact ⟨x, y, z, rfl⟩
theorem list4 (l : List Int) (h : l.length = 4) : ∃ x y z u, l = [x, y, z, u] := by
  match l, h with
  | [x, y, z, u], _ => exact ⟨x, y, z, u, rfl⟩
theorem be3_cut (l : List Int) (hb : Byte l) (h : l.length = 3) : beN (valB l) 3 = l := by
  obtain ⟨x, y, z, rfl⟩ := list3 l h
  exact be3_val x y z (hb x (by simp)) (hb y (by simp)) (hb z (by simp))
theorem be4_cut (l : List Int) (hb : Byte l) (h : l.length = 4) : beN (valB l) 4 = l := by
  obtain ⟨x, y, z, u, rfl⟩ := list4 l h
  exact be4_val x y z u (hb x (by simp)) (hb y (by simp)) (hb z (by simp)) (hb u (by simp))
theorem take_cut (l : List Int) (i n m : Nat) : ((l.drop i).take n) ++ ((l.drop (i + n)).take m) = (l.drop i).take (n + m) := by
  rw [List.take_add, List.drop_drop]
theorem cut_one (l : List Int) (i : Nat) (h : i < l.length) : (l.drop i).take 1 = [rd l (i : Int)] := by
  rw [rd_at l i h, List.drop_eq_getElem_cons h]
  rfl
theorem ev_one (l : List Int) (hb : Byte l) (h : oneB l = true) : evBytes (evOf l) = l.take (evN l) ∧ rightE (evOf l) = true ∧ okE (evOf l) := by
  obtain ⟨h0, h1⟩ := oneB_len l h
  have hr : rightE (evOf l) = true := by simp only [oneB, Bool.and_eq_true] at h; exact h.2
  have b0 := rd_bd l hb 0 (by omega)
  have b14 := rd_bd l hb 14 (by omega)
  have b15 := rd_bd l hb 15 (by omega)
  refine ⟨?_, hr, valB_bd4 _ ((hb.drop 10).take 4) (by simp; omega)⟩
  have hN : evN l = 16 + (rd l 15).toNat := rfl
  generalize hz : (rd l 15).toNat = z at hN
  have hz' : rd l 15 = (z : Int) := by
    have := b15.1
    have e : rd l 15 = rd l ((15 : Nat) : Int) := rfl
    omega
  have hp : (evOf l).f5 = strOfNums ((l.drop 16).take z) := by rw [← hz]; rfl
  have hpl : ((l.drop 16).take z).length = z := by simp; omega
  unfold evBytes
  rw [hp, bytesOf_str _ ((hb.drop 16).take z), size_str, hpl]
  show rd l 0 % 256 :: (beN (valB ((l.drop 1).take 3)) 3 ++ beN (valB ((l.drop 4).take 3)) 3 ++ beN (valB ((l.drop 7).take 3)) 3 ++ beN (valB ((l.drop 10).take 4)) 4 ++ [rd l 14 % 256, (z : Int) % 256] ++ (l.drop 16).take z) = _
  rw [be3_cut _ ((hb.drop 1).take 3) (by simp; omega), be3_cut _ ((hb.drop 4).take 3) (by simp; omega), be3_cut _ ((hb.drop 7).take 3) (by simp; omega), be4_cut _ ((hb.drop 10).take 4) (by simp; omega), hN]
  have z0 : rd l 0 % 256 = rd l ((0 : Nat) : Int) := by have e : rd l 0 = rd l ((0 : Nat) : Int) := rfl; omega
  have z14 : rd l 14 % 256 = rd l ((14 : Nat) : Int) := by have e : rd l 14 = rd l ((14 : Nat) : Int) := rfl; omega
  have z15 : (z : Int) % 256 = rd l ((15 : Nat) : Int) := by have e : rd l 15 = rd l ((15 : Nat) : Int) := rfl; omega
  rw [z0, z14, z15]
  have c0 := cut_one l 0 (by omega)
  have c14 := cut_one l 14 (by omega)
  have c15 := cut_one l 15 (by omega)
  have t := take_cut l
  have e1 : rd l ((0 : Nat) : Int) :: ((l.drop 1).take 3 ++ (l.drop 4).take 3 ++ (l.drop 7).take 3 ++ (l.drop 10).take 4 ++ [rd l ((14 : Nat) : Int), rd l ((15 : Nat) : Int)] ++ (l.drop 16).take z) =
      [rd l ((0 : Nat) : Int)] ++ (l.drop 1).take 3 ++ (l.drop 4).take 3 ++ (l.drop 7).take 3 ++ (l.drop 10).take 4 ++ [rd l ((14 : Nat) : Int)] ++ [rd l ((15 : Nat) : Int)] ++ (l.drop 16).take z := by simp
  rw [e1, ← c0, ← c14, ← c15, t 0 1 3, t 0 4 3, t 0 7 3, t 0 10 4, t 0 14 1, t 0 15 1, t 0 16 z, List.drop_zero]
theorem decR_app (xs : List Ev) (hr : ∀ e ∈ xs, rightE e = true ∧ okE e) : ∀ (f : Nat) (acc : List Ev) (pos : Nat), (xs.flatMap evBytes).length < f → acc.length + xs.length ≤ 8192 → decR f (xs.flatMap evBytes) acc pos = (acc ++ xs, pos + (xs.flatMap evBytes).length, 0) := by
  induction xs with
  | nil =>
    intro f acc pos hf ha
    cases f with
    | zero => simp at hf
    | succ f => simp [decR]
  | cons e xs ih =>
    intro f acc pos hf ha
    cases f with
    | zero => simp at hf
    | succ f =>
    obtain ⟨o1, o2, o3⟩ := one_ev e (xs.flatMap evBytes) (hr e (by simp)).1 (hr e (by simp)).2
    have hne : evBytes e ++ xs.flatMap evBytes ≠ [] := by rw [ev_cons]; simp
    have hd : (evBytes e ++ xs.flatMap evBytes).drop (16 + e.f5.size) = xs.flatMap evBytes := by rw [← evBytes_len e, List.drop_left]
    simp only [List.flatMap_cons, List.length_append, List.length_cons, evBytes_len] at hf ha ⊢
    rw [decR, if_neg hne, if_pos o1, if_neg (by omega), o2, o3, hd, ih (fun y hy => hr y (by simp [hy])) f (acc ++ [e]) _ (by omega) (by simp; omega)]
    simp
    omega
theorem decR_sound : ∀ (f : Nat) (l : List Int) (acc : List Ev) (pos : Nat), Byte l → l.length < f → ∃ ys n, decR f l acc pos = (acc ++ ys, pos + n, (decR f l acc pos).2.2) ∧ n ≤ l.length ∧ ys.flatMap evBytes = l.take n ∧ (∀ y ∈ ys, rightE y = true ∧ okE y) ∧
    (((decR f l acc pos).2.2 = 0 ∧ n = l.length) ∨ ((decR f l acc pos).2.2 = 6 ∧ n < l.length ∧ oneB (l.drop n) = false) ∨ ((decR f l acc pos).2.2 = 7 ∧ (acc ++ ys).length = 8192))
  | 0, l, acc, pos, hb, hf => by omega
  | f + 1, l, acc, pos, hb, hf => by
    rw [decR]
    by_cases he : l = []
    · rw [if_pos he]
      exact ⟨[], 0, by simp, by omega, by simp, by simp, .inl ⟨rfl, by rw [he]; rfl⟩⟩
    rw [if_neg he]
    have hl : 0 < l.length := List.length_pos_iff.2 he
    cases ho : oneB l with
    | false =>
      rw [if_neg (by decide)]
      exact ⟨[], 0, by simp, by omega, by simp, by simp, .inr (.inl ⟨rfl, hl, by simpa using ho⟩)⟩
    | true =>
      rw [if_pos rfl]
      by_cases hc : acc.length = 8192
      · rw [if_pos hc]
        exact ⟨[], 0, by simp, by omega, by simp, by simp, .inr (.inr ⟨rfl, by simpa using hc⟩)⟩
      rw [if_neg hc]
      obtain ⟨g0, g1⟩ := oneB_len l ho
      obtain ⟨w1, w2, w3⟩ := ev_one l hb ho
      obtain ⟨ys, n, i1, i2, i3, i4, i5⟩ := decR_sound f (l.drop (evN l)) (acc ++ [evOf l]) (pos + evN l) (hb.drop _) (by simp; omega)
      rw [List.length_drop] at i2 i5
      refine ⟨evOf l :: ys, evN l + n, ?_, by omega, ?_, ?_, ?_⟩
      · rw [i1]
        simp
        omega
      · rw [List.flatMap_cons, w1, i3, ← List.take_add]
      · intro y hy
        rcases List.mem_cons.1 hy with rfl | hy
        · exact ⟨w2, w3⟩
        · exact i4 y hy
      · rcases i5 with ⟨a, b⟩ | ⟨a, b, c⟩ | ⟨a, b⟩
        · exact .inl ⟨a, by omega⟩
        · exact .inr (.inl ⟨a, by omega, by rw [← List.drop_drop]; exact c⟩)
        · exact .inr (.inr ⟨a, by simpa using b⟩)
end Go.Proofs.YtjdapfimjpbnmaaQ.PScr
