import Derived.Test.YtjdapfimjpbnmaaScrP2
import Derived.Test.YtjdapfimjpbnmaaPScr7
set_option linter.unusedVariables false
set_option linter.unusedSimpArgs false
namespace Go.Proofs.YtjdapfimjpbnmaaQ.PScr
open Go.RowKit Go.Proofs.YtjdapfimjpbnmaaW.PrintWords Go.Proofs.YtjdapfimjpbnmaaW.PrintMore
open Go.Proofs.Ytjdapfimjpbnmaa (four valB byteB rightB Byte four_len evRightB evHas evRest numB valB_snoc valB_bd valB_bd4 or_add_nat str_inj str_data str_empty toList_eq fold_bd)
/-! Events written: 'Encode' and the law's bytes. -/
def evBytes (e : Ev) : List Int := e.f0 % 256 :: (beN e.f1 3 ++ beN e.f2 3 ++ beN e.f3 3 ++ beN e.f4.f0 4 ++ [e.f4.f1 % 256, (e.f5.size : Int) % 256] ++ bytesOf e.f5)
theorem beN_len (n : Int) : ∀ s, (beN n s).length = s
  | 0 => rfl
  | s + 1 => by simp [beN, beN_len n s]
theorem evBytes_len (e : Ev) : (evBytes e).length = 16 + e.f5.size := by
  simp [evBytes, beN_len, bytesOf_length]
  omega
structure Small (e : Ev) : Prop where
  kind : 0 ≤ e.f0 ∧ e.f0 ≤ 10
  i : 0 ≤ e.f1 ∧ e.f1 ≤ 65536
  k : 0 ≤ e.f2 ∧ e.f2 ≤ 65536
  n : 0 ≤ e.f3 ∧ e.f3 ≤ 65536
  l : 0 ≤ e.f4.f1 ∧ e.f4.f1 ≤ 32
  p : e.f5.size ≤ 240
theorem right_small (e : Ev) (h : rightE e = true) : Small e := by
  unfold rightE evRightB numB rightB at h
  simp only [Bool.and_eq_true, decide_eq_true_eq] at h
  obtain ⟨⟨⟨⟨⟨⟨⟨⟨⟨⟨⟨⟨h1, h2⟩, ⟨h3, h4, -⟩⟩, h5⟩, -⟩, h6⟩, h7⟩, h8⟩, -⟩, -⟩, -⟩, -⟩, -⟩ := h
  exact ⟨⟨h1, h2⟩, h6, h7, h8, ⟨h3, h4⟩, h5⟩
theorem rd_T (xs : List Ev) (j : Nat) (h : j < xs.length) : rd_T30 xs (j : Int) = xs[j] := by simp [rd_T30, h]
theorem enc_put (k : Nat) (x : List Int) (xs : List Ev) (L j : Int) (y : List Int) (i : Nat) (hy : y.length = 3) (hi : i < 3) (v : Int) (hv : rd y (i : Int) = v) (h0 : 0 ≤ v) (h1 : v ≤ 65536) (hx : x.length ≤ 140737488000000) (e : Ev) :
    script_Encode.l1 (k + 6) x xs L j y (y.length : Int) (i : Int) e.f0 e.f1 e.f2 e.f3 e.f4.f0 e.f4.f1 e.f5 = script_Encode.l1 (k + 5) (x ++ beN v 3) xs L j y (y.length : Int) ((i + 1 : Nat) : Int) e.f0 e.f1 e.f2 e.f3 e.f4.f0 e.f4.f1 e.f5 := by
  have hp : script_put.f (k + 5) x (IntKind.u64.wrap v) 3 = some (x ++ beN v 3) := put_nice k v 3 x (by omega) h0 (by omega) (by omega)
  rw [show k + 6 = (k + 5) + 1 from rfl, script_Encode.l1, if_pos (by omega), if_pos (by omega), if_pos (by omega), hv, hp, Option.bind_some, w64 _ (by omega) (by omega)]
  rfl
theorem enc_end (k : Nat) (x : List Int) (xs : List Ev) (L : Int) (j : Nat) (hj : j < 1000000) (y : List Int) (hy : y.length = 3) (hx : x.length ≤ 140737488000000) (e : Ev) (he : Small e) (ha : okE e) :
    script_Encode.l1 (k + 6) x xs L (j : Int) y (y.length : Int) ((3 : Nat) : Int) e.f0 e.f1 e.f2 e.f3 e.f4.f0 e.f4.f1 e.f5 = script_Encode.l0 (k + 5) ((((x ++ beN e.f4.f0 4) ++ [e.f4.f1 % 256, (e.f5.size : Int) % 256]) ++ bytesOf e.f5)) xs L ((j + 1 : Nat) : Int) := by
  obtain ⟨a0, a1⟩ := ha
  have hp : script_put.f (k + 5) x (IntKind.u64.wrap e.f4.f0) 4 = some (x ++ beN e.f4.f0 4) := put_nice k e.f4.f0 4 x (by omega) a0 (by omega) (by omega)
  have h240 := he.p
  rw [show k + 6 = (k + 5) + 1 from rfl, script_Encode.l1, if_neg (by omega), hp, Option.bind_some, Option.bind_some, if_pos (by simp [beN_len]; omega), Option.bind_some, if_pos (by simp [beN_len]; omega), w64 _ (by omega) (by omega)]
  rfl
theorem enc_l0 (xs : List Ev) (ho : ∀ e ∈ xs, okE e) (hl : xs.length ≤ 9000) : ∀ (n j k : Nat) (x : List Int), j + n = xs.length → x.length + 300 * n ≤ 140737488000000 →
    script_Encode.l0 (k + 5 * n + 6) x xs (xs.length : Int) (j : Int) = some (if (xs.drop j).all rightE = true then (x ++ (xs.drop j).flatMap evBytes, 0) else ([], 1))
  | 0, j, k, x, h, hx => by
    rw [script_Encode.l0, if_neg (by omega), List.drop_eq_nil_of_le (by omega)]
    simp
  | n + 1, j, k, x, h, hx => by
    have hj : j < xs.length := by omega
    have hoe := ho xs[j] (List.getElem_mem hj)
    rw [List.drop_eq_getElem_cons hj, List.all_cons]
    rw [show k + 5 * (n + 1) + 6 = (k + 5 * n + 5 + 5) + 1 by omega, script_Encode.l0, if_pos (by omega), if_pos (by omega), if_pos (by omega), rd_T xs j hj, Right_nice _ _ _ _ _ _ _ _ hoe, Option.bind_some]
    show (if rightE xs[j] = true then _ else _) = _
    cases hr : rightE xs[j] with
    | false => rfl
    | true =>
      have he := right_small _ hr
      have h240 := he.p
      rw [if_pos rfl, if_pos (by omega), Option.bind_some]
      rw [show k + 5 * n + 5 + 5 = (k + 5 * n + 4) + 6 by omega]
      have e0 := enc_put (k + 5 * n + 4) (x ++ [xs[j].f0 % 256]) xs (xs.length : Int) (j : Int) [xs[j].f1, xs[j].f2, xs[j].f3] 0 rfl (by omega) _ rfl he.i.1 he.i.2 (by simp; omega) xs[j]
      have e1 := enc_put (k + 5 * n + 3) ((x ++ [xs[j].f0 % 256]) ++ beN xs[j].f1 3) xs (xs.length : Int) (j : Int) [xs[j].f1, xs[j].f2, xs[j].f3] 1 rfl (by omega) _ rfl he.k.1 he.k.2 (by simp [beN_len]; omega) xs[j]
      have e2 := enc_put (k + 5 * n + 2) (((x ++ [xs[j].f0 % 256]) ++ beN xs[j].f1 3) ++ beN xs[j].f2 3) xs (xs.length : Int) (j : Int) [xs[j].f1, xs[j].f2, xs[j].f3] 2 rfl (by omega) _ rfl he.n.1 he.n.2 (by simp [beN_len]; omega) xs[j]
      have e3 := enc_end (k + 5 * n + 1) ((((x ++ [xs[j].f0 % 256]) ++ beN xs[j].f1 3) ++ beN xs[j].f2 3) ++ beN xs[j].f3 3) xs (xs.length : Int) j (by omega) [xs[j].f1, xs[j].f2, xs[j].f3] rfl (by simp [beN_len]; omega) xs[j] he hoe
      refine (e0.trans (e1.trans (e2.trans e3))).trans ?_
      rw [show k + 5 * n + 1 + 5 = k + 5 * n + 6 by omega, enc_l0 xs ho hl n (j + 1) k _ (by omega) (by simp [beN_len, bytesOf_length]; omega)]
      clear e0 e1 e2 e3
      generalize xs.drop (j + 1) = tl
      generalize xs[j] = e
      simp [evBytes]
def encM (n s : Int) (xs : List Ev) : List Int × Int :=
  if 8192 < xs.length then ([], 7) else if n < 1 ∨ 8 < n ∨ s < 1 ∨ 512 < s then ([], 1) else if xs.all rightE = true then ([n % 256] ++ beN s 2 ++ xs.flatMap evBytes, 0) else ([], 1)
theorem Encode_nice (k : Nat) (n s : Int) (xs : List Ev) (ho : ∀ e ∈ xs, okE e) (hl : xs.length ≤ 9000) : script_Encode.f (k + 5 * xs.length + 20) n s xs = some (encM n s xs) := by
  unfold script_Encode.f encM
  by_cases h1 : 8192 < xs.length
  · rw [if_pos (by omega), if_pos h1]
  rw [if_neg (by omega), if_neg h1]
  have j0t : ∀ k, script_Encode.j0 (k + 1) n s xs true = some ([], 1) := fun k => by rw [script_Encode.j0, if_pos rfl]
  by_cases hn : n < 1
  · rw [if_pos hn, if_pos (Or.inl hn), show k + 5 * xs.length + 20 = (k + 5 * xs.length + 19) + 1 by omega, j0t]
  by_cases hn8 : 8 < n
  · rw [if_neg hn, if_pos (by omega), if_pos (Or.inr (Or.inl hn8)), show k + 5 * xs.length + 20 = (k + 5 * xs.length + 19) + 1 by omega, j0t]
  by_cases hs : s < 1
  · rw [if_neg hn, if_neg (by omega), if_pos hs, if_pos (Or.inr (Or.inr (Or.inl hs))), show k + 5 * xs.length + 20 = (k + 5 * xs.length + 19) + 1 by omega, j0t]
  by_cases hs5 : 512 < s
  · rw [if_neg hn, if_neg (by omega), if_neg hs, decide_eq_true (show s > 512 by omega), if_pos (Or.inr (Or.inr (Or.inr hs5))), show k + 5 * xs.length + 20 = (k + 5 * xs.length + 19) + 1 by omega, j0t]
  have hp : script_put.f ((k + 5 * xs.length + 14) + 5) [n % 256] (IntKind.u64.wrap s) 2 = some ([n % 256] ++ beN s 2) := put_nice _ s 2 _ (by omega) (by omega) (by omega) (by simp)
  rw [if_neg hn, if_neg (by omega), if_neg hs, decide_eq_false (show ¬ s > 512 by omega), if_neg (by omega), show k + 5 * xs.length + 20 = ((k + 5 * xs.length + 14) + 5) + 1 by omega, script_Encode.j0, if_neg (by decide), hp, Option.bind_some]
  have := enc_l0 xs ho hl xs.length 0 (k + 13) ([n % 256] ++ beN s 2) (by omega) (by simp [beN_len]; omega)
  rw [List.drop_zero, show k + 13 + 5 * xs.length + 6 = (k + 5 * xs.length + 14) + 5 by omega] at this
  exact this
theorem byt_put (k : Nat) (x : List Int) (xs : List Ev) (L j : Int) (y : List Int) (i : Nat) (hy : y.length = 3) (hi : i < 3) (v : Int) (hv : rd y (i : Int) = v) (h0 : 0 ≤ v) (h1 : v ≤ 65536) (hx : x.length ≤ 140737488000000) (e : Ev) :
    wayfarerlaw14_Bytes.l1 (k + 1) x xs L j y (y.length : Int) (i : Int) e.f0 e.f1 e.f2 e.f3 e.f4.f0 e.f4.f1 e.f5 = wayfarerlaw14_Bytes.l1 k (x ++ beN v 3) xs L j y (y.length : Int) ((i + 1 : Nat) : Int) e.f0 e.f1 e.f2 e.f3 e.f4.f0 e.f4.f1 e.f5 := by
  have d1 : Int.tdiv v 65536 = v / 65536 := Int.tdiv_eq_ediv_of_nonneg h0
  have d2 : Int.tdiv v 256 = v / 256 := Int.tdiv_eq_ediv_of_nonneg h0
  have d3 : Int.tmod v 256 = v % 256 := Int.tmod_eq_emod_of_nonneg h0
  have d4 : Int.tmod (v / 256) 256 = v / 256 % 256 := Int.tmod_eq_emod_of_nonneg (by omega)
  have hb : ([(wrap64 (Int.tdiv v 65536)) % 256, (Int.tmod (wrap64 (Int.tdiv v 256)) 256) % 256, (Int.tmod v 256) % 256] : List Int) = beN v 3 := by
    rw [d1, d2, d3, w64 _ (by omega) (by omega), w64 _ (by omega) (by omega), d4]
    simp [beN]
  rw [wayfarerlaw14_Bytes.l1, if_pos (by omega), if_pos (by omega), if_pos (by omega), hv, hb, Option.bind_some, if_pos (by rw [beN_len]; omega), w64 _ (by omega) (by omega)]
  rfl
theorem byt_end (k : Nat) (x : List Int) (xs : List Ev) (L : Int) (j : Nat) (hj : j < 1000000) (y : List Int) (hy : y.length = 3) (hx : x.length ≤ 140737488000000) (e : Ev) (he : Small e) :
    wayfarerlaw14_Bytes.l1 (k + 1) x xs L (j : Int) y (y.length : Int) ((3 : Nat) : Int) e.f0 e.f1 e.f2 e.f3 e.f4.f0 e.f4.f1 e.f5 = wayfarerlaw14_Bytes.l0 k ((((x ++ beN e.f4.f0 4) ++ [e.f4.f1 % 256, (e.f5.size : Int) % 256]) ++ bytesOf e.f5)) xs L ((j + 1 : Nat) : Int) := by
  have h240 := he.p
  rw [wayfarerlaw14_Bytes.l1, if_neg (by omega), Option.bind_some, if_pos (by simp; omega), Option.bind_some, if_pos (by simp; omega), w64 _ (by omega) (by omega)]
  simp [beN]
theorem byt_l0 (xs : List Ev) (hr : ∀ e ∈ xs, rightE e = true) (hl : xs.length ≤ 9000) : ∀ (n j k : Nat) (x : List Int), j + n = xs.length → x.length + 300 * n ≤ 140737488000000 →
    wayfarerlaw14_Bytes.l0 (k + 5 * n + 1) x xs (xs.length : Int) (j : Int) = some (x ++ (xs.drop j).flatMap evBytes)
  | 0, j, k, x, h, hx => by
    rw [wayfarerlaw14_Bytes.l0, if_neg (by omega), List.drop_eq_nil_of_le (by omega)]
    simp
  | n + 1, j, k, x, h, hx => by
    have hj : j < xs.length := by omega
    have he := right_small _ (hr xs[j] (List.getElem_mem hj))
    have h240 := he.p
    rw [List.drop_eq_getElem_cons hj]
    rw [show k + 5 * (n + 1) + 1 = (k + 5 * n + 1 + 1 + 1 + 1 + 1) + 1 by omega, wayfarerlaw14_Bytes.l0, if_pos (by omega), if_pos (by omega), if_pos (by omega), rd_T xs j hj, if_pos (by omega), Option.bind_some]
    have e0 := byt_put (k + 5 * n + 1 + 1 + 1 + 1) (x ++ [xs[j].f0 % 256]) xs (xs.length : Int) (j : Int) [xs[j].f1, xs[j].f2, xs[j].f3] 0 rfl (by omega) _ rfl he.i.1 he.i.2 (by simp; omega) xs[j]
    have e1 := byt_put (k + 5 * n + 1 + 1 + 1) ((x ++ [xs[j].f0 % 256]) ++ beN xs[j].f1 3) xs (xs.length : Int) (j : Int) [xs[j].f1, xs[j].f2, xs[j].f3] 1 rfl (by omega) _ rfl he.k.1 he.k.2 (by simp [beN_len]; omega) xs[j]
    have e2 := byt_put (k + 5 * n + 1 + 1) (((x ++ [xs[j].f0 % 256]) ++ beN xs[j].f1 3) ++ beN xs[j].f2 3) xs (xs.length : Int) (j : Int) [xs[j].f1, xs[j].f2, xs[j].f3] 2 rfl (by omega) _ rfl he.n.1 he.n.2 (by simp [beN_len]; omega) xs[j]
    have e3 := byt_end (k + 5 * n + 1) ((((x ++ [xs[j].f0 % 256]) ++ beN xs[j].f1 3) ++ beN xs[j].f2 3) ++ beN xs[j].f3 3) xs (xs.length : Int) j (by omega) [xs[j].f1, xs[j].f2, xs[j].f3] rfl (by simp [beN_len]; omega) xs[j] he
    refine (e0.trans (e1.trans (e2.trans e3))).trans ?_
    rw [byt_l0 xs hr hl n (j + 1) k _ (by omega) (by simp [beN_len, bytesOf_length]; omega)]
    clear e0 e1 e2 e3
    generalize xs.drop (j + 1) = tl
    generalize xs[j] = e
    simp [evBytes]
theorem Bytes_nice (k : Nat) (n s : Int) (xs : List Ev) (hr : ∀ e ∈ xs, rightE e = true) (hl : xs.length ≤ 9000) (hs : 0 ≤ s ∧ s ≤ 65535) : wayfarerlaw14_Bytes.f (k + 5 * xs.length + 1) n s xs = some ([n % 256] ++ beN s 2 ++ xs.flatMap evBytes) := by
  unfold wayfarerlaw14_Bytes.f
  have d2 : Int.tdiv s 256 = s / 256 := Int.tdiv_eq_ediv_of_nonneg hs.1
  have d3 : Int.tmod s 256 = s % 256 := Int.tmod_eq_emod_of_nonneg hs.1
  have hb : ([n % 256, (wrap64 (Int.tdiv s 256)) % 256, (Int.tmod s 256) % 256] : List Int) = [n % 256] ++ beN s 2 := by
    rw [d2, d3, w64 _ (by omega) (by omega)]
    simp [beN]
  rw [hb]
  have := byt_l0 xs hr hl xs.length 0 k ([n % 256] ++ beN s 2) (by omega) (by simp [beN_len]; omega)
  rw [List.drop_zero] at this
  exact this
end Go.Proofs.YtjdapfimjpbnmaaQ.PScr
