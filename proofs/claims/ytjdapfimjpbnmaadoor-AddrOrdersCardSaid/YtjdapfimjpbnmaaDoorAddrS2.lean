import Derived.Test.YtjdapfimjpbnmaaDoorAddrS
set_option linter.unusedVariables false
set_option linter.unusedSimpArgs false
namespace Go.Proofs.YtjdapfimjpbnmaaDoor
open Go.RowKit
def strB (l : List UInt8) : ByteArray := ⟨l.toArray⟩
def stp : Nat → Int
  | 0 => 24
  | 1 => 16
  | 2 => 8
  | 3 => 0
  | _ => -8
def partsP (a : Int) : List (List UInt8) := [Lib.itoa (a / 16777216 % 256), Lib.itoa (a / 65536 % 256), Lib.itoa (a / 256 % 256), Lib.itoa (a % 256)]
def strV (l : List (List UInt8)) : List Value := l.map fun x => Value.string (strB x)
theorem dec_len3 (n : Nat) (h : n < 256) : (Lib.decDigits n).length ≤ 3 := by
  rw [Lib.decDigits_length]
  rcases (show n < 10 ∨ (10 ≤ n ∧ n < 100) ∨ (100 ≤ n ∧ n < 1000) by omega) with h | h | h
  · rw [Lib.nDigits_small h]; omega
  · rw [Lib.nDigits_unique 1 n (by omega) (by omega)]; omega
  · rw [Lib.nDigits_unique 2 n (by omega) (by omega)]; omega
theorem itoa_len3 (x : Int) (h0 : 0 ≤ x) (h1 : x < 256) : (Lib.itoa x).length ≤ 3 := by
  obtain ⟨n, rfl⟩ := Int.eq_ofNat_of_zero_le h0
  rw [itoa_nat]
  exact dec_len3 n (by omega)
theorem parts_len15 (a : Int) (ha : 0 ≤ a ∧ a ≤ 4294967295) : (Lib.join (partsP a) [46]).length ≤ 15 := by
  have h0 := itoa_len3 (a / 16777216 % 256) (by omega) (by omega)
  have h1 := itoa_len3 (a / 65536 % 256) (by omega) (by omega)
  have h2 := itoa_len3 (a / 256 % 256) (by omega) (by omega)
  have h3 := itoa_len3 (a % 256) (by omega) (by omega)
  unfold partsP
  rw [join4]
  simp
  omega
theorem parts_len (a : Int) (ha : 0 ≤ a ∧ a ≤ 4294967295) : (Lib.join (((partsP a).map strB).map (·.data.toList)) (⟨#[46]⟩ : ByteArray).data.toList).length ≤ 140737488355328 :=
  Nat.le_trans (parts_len15 a ha) (by decide)
theorem str_three (J Q : List UInt8) : (⟨J.toArray⟩ : ByteArray) ++ ⟨#[47]⟩ ++ ⟨Q.toArray⟩ = strB (J ++ 47 :: Q) := by
  apply Go.WideShapes.bytes_inj
  simp [strB, ByteArray.data_append]
theorem info_string : (Tryd.prog.info? 9).map (fun i => (i.zero, i.size, i.bytes)) = some (some (.string ByteArray.empty), 1, 16) := by kernel_rfl
theorem addr_String_no (a l : Int) (w : World) (ha : 0 ≤ a ∧ a ≤ 4294967295) (hr : rightB a l = false) :
    Calls Tryd.prog 12 #[.agg #[.int .u32 a, .int .i64 l]] w fun e w' => e = .returned (.string ⟨#[]⟩) ∧ Below w.heap.size w w' := by
  have HR := Lib.hid hr
  clear hr
  go_enter Tryd.func12, Tryd.ntmps12
  go_wp2_with (go_at_call 8; refine (addr_Right a l _ ha).mono ?_; rintro e w1 ⟨rfl, hb1⟩; rw [HR.out])
  go_ret
  exact ⟨rfl, Below.trans ((Below.refl _ _).alloc (Nat.le_refl _) _) (hb1.mono (by simp))⟩
theorem and255 (x : Int) (h0 : 0 ≤ x) (h1 : x ≤ 4294967295) : wrap64 (bits .and .u32 x 255) = x % 256 := by
  obtain ⟨n, rfl⟩ := Int.eq_ofNat_of_zero_le h0
  have e : bits .and .u32 (n : Int) 255 = ((n &&& 255 : Nat) : Int) := u32_and_nat n 255 (by omega) (by omega)
  rw [e, show (255 : Nat) = 2 ^ 8 - 1 from rfl, Nat.and_two_pow_sub_one_eq_mod]
  unfold wrap64
  omega
theorem and255_64 (x : Int) (h0 : 0 ≤ x) (h1 : x ≤ 4294967295) : bits .and .u32 x 255 = x % 256 := by
  obtain ⟨n, rfl⟩ := Int.eq_ofNat_of_zero_le h0
  have e : bits .and .u32 (n : Int) 255 = ((n &&& 255 : Nat) : Int) := u32_and_nat n 255 (by omega) (by omega)
  rw [e, show (255 : Nat) = 2 ^ 8 - 1 from rfl, Nat.and_two_pow_sub_one_eq_mod]
  omega
set_option maxRecDepth 100000 in
set_option maxHeartbeats 1000000 in
theorem addr_String_yes (a l : Int) (w : World) (ht : Tabs w) (ha : 0 ≤ a ∧ a ≤ 4294967295) (hr : rightB a l = true) :
    Calls Tryd.prog 12 #[.agg #[.int .u32 a, .int .i64 l]] w fun e w' => e = .returned (.string (strB (textP a l))) ∧ Below w.heap.size w w' := by
  have HR := Lib.hid hr
  clear hr
  go_enter Tryd.func12, Tryd.ntmps12
  go_wp2_with (go_at_call 8; refine (addr_Right a l _ ha).mono ?_; rintro e w1 ⟨rfl, hb1⟩; rw [HR.out])
  have kP := (Blk.new w 24 #[.int .u32 a, .int .i64 l]).below' hb1
  have hb := Below.trans ((Below.refl w.heap.size w).alloc (Nat.le_refl _) (.cells #[.int .u32 a, .int .i64 l] 24)) (hb1.mono (by simp))
  clear hb1
  go_loopw [4, 3] (fun i v wr => ∃ k : Nat, k ≤ 4 ∧ i = .int .i64 (stp k) ∧ wr.ownsRow w.heap.size 9 1 v k (strV ((partsP a).take k)) ∧ Blk wr w.heap.size 24 #[.int .u32 a, .int .i64 l] ∧ Below w.heap.size w wr) (fun i _ _ => (intOf i + 8).toNat)
  case atStart => exact ⟨0, by omega, rfl, World.ownsRow_nil _ _ _ _, kP, hb⟩
  case round =>
    clear kP hb
    obtain ⟨k, hk, rfl, hO, kP, hb⟩ := hrel
    have b0 := kP.cell 0
    have b1 := kP.cell 1
    simp only [List.getElem?_toArray, List.getElem?_cons_zero, List.getElem?_cons_succ] at b0 b1
    rcases (show k = 0 ∨ k = 1 ∨ k = 2 ∨ k = 3 ∨ k = 4 by omega) with rfl | rfl | rfl | rfl | rfl
    · simp only [stp]
      have hq := Lib.hid (and255 (a / 16777216) (by omega) (by omega))
      go_wp2_with fail
      rw [hq.out]
      refine (itoa_calls (a / 16777216 % 256) (by omega) (by omega) _ (ht.below hb)).mono ?_
      rintro e w2 ⟨rfl, hb2⟩
      have hO2 := owns_below (owns_below hO hb2) ((Below.refl w2.heap.size w2).alloc (Nat.le_refl _) (.cells #[.string (strB (Lib.itoa (a / 16777216 % 256)))] 9))
      have kP2 := (kP.below' hb2).alloc (.cells #[.string (strB (Lib.itoa (a / 16777216 % 256)))] 9)
      have hbA := Below.trans hb ((hb2.mono hb.size).alloc (by have := hb.size; have := hb2.size; omega) (.cells #[.string (strB (Lib.itoa (a / 16777216 % 256)))] 9))
      obtain ⟨v3, w3, hrun, hO3, hb3, hk3⟩ := app1 Tryd.underlying40 info_string rfl ⟨by decide, by decide⟩ w.heap.size _ _ _ _ hO2 w2.heap.size 1 (.string (strB (Lib.itoa (a / 16777216 % 256)))) ((Blk.new w2 9 #[.string (strB (Lib.itoa (a / 16777216 % 256)))]).cell 0) rfl (by omega) (by have := hb.size; have := hb2.size; simp; omega)
      have kP3 := hk3 _ _ _ (by decide) kP2
      have hb4 := hbA.trans hb3
      clear hO hb hb2 hb3 hbA hO2 kP2 hk3 kP hq
      simp only [strB] at hrun
      go_wp2_with (at_builtin; refine wpList_appd rfl _ _ _ _ rfl rfl rfl hrun ?_)
      go_roundw
      case rel => exact ⟨1, by omega, rfl, hO3, kP3, hb4⟩
      case measure => simp [intOf]
    · simp only [stp]
      have hq := Lib.hid (and255 (a / 65536) (by omega) (by omega))
      go_wp2_with fail
      rw [hq.out]
      refine (itoa_calls (a / 65536 % 256) (by omega) (by omega) _ (ht.below hb)).mono ?_
      rintro e w2 ⟨rfl, hb2⟩
      have hO2 := owns_below (owns_below hO hb2) ((Below.refl w2.heap.size w2).alloc (Nat.le_refl _) (.cells #[.string (strB (Lib.itoa (a / 65536 % 256)))] 9))
      have kP2 := (kP.below' hb2).alloc (.cells #[.string (strB (Lib.itoa (a / 65536 % 256)))] 9)
      have hbA := Below.trans hb ((hb2.mono hb.size).alloc (by have := hb.size; have := hb2.size; omega) (.cells #[.string (strB (Lib.itoa (a / 65536 % 256)))] 9))
      obtain ⟨v3, w3, hrun, hO3, hb3, hk3⟩ := app1 Tryd.underlying40 info_string rfl ⟨by decide, by decide⟩ w.heap.size _ _ _ _ hO2 w2.heap.size 1 (.string (strB (Lib.itoa (a / 65536 % 256)))) ((Blk.new w2 9 #[.string (strB (Lib.itoa (a / 65536 % 256)))]).cell 0) rfl (by omega) (by have := hb.size; have := hb2.size; simp; omega)
      have kP3 := hk3 _ _ _ (by decide) kP2
      have hb4 := hbA.trans hb3
      clear hO hb hb2 hb3 hbA hO2 kP2 hk3 kP hq
      simp only [strB] at hrun
      go_wp2_with (at_builtin; refine wpList_appd rfl _ _ _ _ rfl rfl rfl hrun ?_)
      go_roundw
      case rel => exact ⟨2, by omega, rfl, hO3, kP3, hb4⟩
      case measure => simp [intOf]
    · simp only [stp]
      have hq := Lib.hid (and255 (a / 256) (by omega) (by omega))
      go_wp2_with fail
      rw [hq.out]
      refine (itoa_calls (a / 256 % 256) (by omega) (by omega) _ (ht.below hb)).mono ?_
      rintro e w2 ⟨rfl, hb2⟩
      have hO2 := owns_below (owns_below hO hb2) ((Below.refl w2.heap.size w2).alloc (Nat.le_refl _) (.cells #[.string (strB (Lib.itoa (a / 256 % 256)))] 9))
      have kP2 := (kP.below' hb2).alloc (.cells #[.string (strB (Lib.itoa (a / 256 % 256)))] 9)
      have hbA := Below.trans hb ((hb2.mono hb.size).alloc (by have := hb.size; have := hb2.size; omega) (.cells #[.string (strB (Lib.itoa (a / 256 % 256)))] 9))
      obtain ⟨v3, w3, hrun, hO3, hb3, hk3⟩ := app1 Tryd.underlying40 info_string rfl ⟨by decide, by decide⟩ w.heap.size _ _ _ _ hO2 w2.heap.size 1 (.string (strB (Lib.itoa (a / 256 % 256)))) ((Blk.new w2 9 #[.string (strB (Lib.itoa (a / 256 % 256)))]).cell 0) rfl (by omega) (by have := hb.size; have := hb2.size; simp; omega)
      have kP3 := hk3 _ _ _ (by decide) kP2
      have hb4 := hbA.trans hb3
      clear hO hb hb2 hb3 hbA hO2 kP2 hk3 kP hq
      simp only [strB] at hrun
      go_wp2_with (at_builtin; refine wpList_appd rfl _ _ _ _ rfl rfl rfl hrun ?_)
      go_roundw
      case rel => exact ⟨3, by omega, rfl, hO3, kP3, hb4⟩
      case measure => simp [intOf]
    · simp only [stp]
      have hq := Lib.hid (and255 (a) (by omega) (by omega))
      go_wp2_with fail
      rw [hq.out]
      refine (itoa_calls (a % 256) (by omega) (by omega) _ (ht.below hb)).mono ?_
      rintro e w2 ⟨rfl, hb2⟩
      have hO2 := owns_below (owns_below hO hb2) ((Below.refl w2.heap.size w2).alloc (Nat.le_refl _) (.cells #[.string (strB (Lib.itoa (a % 256)))] 9))
      have kP2 := (kP.below' hb2).alloc (.cells #[.string (strB (Lib.itoa (a % 256)))] 9)
      have hbA := Below.trans hb ((hb2.mono hb.size).alloc (by have := hb.size; have := hb2.size; omega) (.cells #[.string (strB (Lib.itoa (a % 256)))] 9))
      obtain ⟨v3, w3, hrun, hO3, hb3, hk3⟩ := app1 Tryd.underlying40 info_string rfl ⟨by decide, by decide⟩ w.heap.size _ _ _ _ hO2 w2.heap.size 1 (.string (strB (Lib.itoa (a % 256)))) ((Blk.new w2 9 #[.string (strB (Lib.itoa (a % 256)))]).cell 0) rfl (by omega) (by have := hb.size; have := hb2.size; simp; omega)
      have kP3 := hk3 _ _ _ (by decide) kP2
      have hb4 := hbA.trans hb3
      clear hO hb hb2 hb3 hbA hO2 kP2 hk3 kP hq
      simp only [strB] at hrun
      go_wp2_with (at_builtin; refine wpList_appd rfl _ _ _ _ rfl rfl rfl hrun ?_)
      go_roundw
      case rel => exact ⟨4, by omega, rfl, hO3, kP3, hb4⟩
      case measure => simp [intOf]
    · simp only [stp]
      obtain ⟨hlen, A, c, rfl, hc, hA⟩ := owns_row hO (by omega)
      obtain ⟨-, -, hrow⟩ := hA
      obtain ⟨bk, o, rfl, hbk, hcells⟩ := hrow (by omega)
      have hcl : ∀ (j : Nat) x, ((partsP a).map strB)[j]? = some x → wr.cell? ⟨bk, o + j, none⟩ = some (.string x) := fun j x hj => hcells j _ (by
        rw [List.getElem?_map] at hj
        obtain ⟨y, hy, rfl⟩ := Option.map_eq_some_iff.1 hj
        have e4 : (partsP a).take 4 = partsP a := rfl
        rw [e4]
        simp [strV, hy])
      obtain ⟨l0, l1⟩ := rightB_bd HR.out
      have hjoin : ∀ w', Below wr.heap.size wr w' → Calls Tryd.prog 19 #[.slice (some ⟨bk, o, none⟩) 4 c, .string ⟨#[46]⟩] w' fun e w'' => e = .returned (.string ⟨(Lib.join (partsP a) [46]).toArray⟩) ∧ Below w'.heap.size w' w'' := fun w' h =>
        Tryd.strings_Join bk o c ((partsP a).map strB) ⟨#[46]⟩ w' (fun j x hj => (h.cell (p := ⟨bk, o + j, none⟩) hbk).trans (hcl j x hj)) (Nat.lt_of_lt_of_le hbk h.size) (by simp [partsP]) (by simpa [partsP] using hc) (parts_len a ha)
      have hjl : (Lib.join (partsP a) [46]).length ≤ 15 := parts_len15 a ha
      have hll : (Lib.itoa l).length ≤ 3 := itoa_len3 l l0 (by omega)
      have HT := Lib.hid (show textP a l = Lib.join (partsP a) [46] ++ 47 :: Lib.itoa l from rfl)
      generalize Lib.join (partsP a) [46] = J at hjoin hjl HT
      have HJ := Lib.hid hjoin
      have HL := Lib.hid hlen
      have HB := Lib.hid hb
      have hlt := kP.lt
      have hlw := hb.size
      clear hjoin hcl hcells hO hlen hb hrow hc hbk
      have hjl' : ¬ 9223372036854775807 < J.length + 1 := by omega
      have hjl2 : ¬ 9223372036854775807 < J.length + 1 + (Lib.itoa l).length := by omega
      clear kP
      go_wp2_with fail
      refine draw_start [] Later (by kernel_rfl) ?_
      refine draw_chunk (n := 29) (by kernel_rfl) (fun _ _ _ _ _ h => h) [0, 3, 4] [] _ #[true, false, false, true, true, false, false, false] (by kernel_rfl) 5 _ ?_ _ rfl ?_ ?_
      rotate_left
      · intro w' hw'
        have hc' : ∀ b o, b < wr.heap.size → w'.cell? ⟨b, o, none⟩ = wr.cell? ⟨b, o, none⟩ := (bcell hw').1
        have y1 := (hc' w.heap.size 1 hlt).trans b1
        refine ci_step (i := 0) (v := ?_) rfl (by kernel_rfl) ?_ ?_
        rotate_left
        · first | (go_simp; done) | (go_simp; with_reducible rfl)
        skip
        try simp only [Act.put, List.setIfInBounds_toArray, List.set_cons_zero, List.set_cons_succ]
        refine ci_step (i := 3) (v := ?_) rfl (by kernel_rfl) ?_ ?_
        rotate_left
        · first | (go_simp; done) | (go_simp; with_reducible rfl)
        skip
        try simp only [Act.put, List.setIfInBounds_toArray, List.set_cons_zero, List.set_cons_succ]
        refine ci_step (i := 4) (v := ?_) rfl (by kernel_rfl) ?_ ?_
        rotate_left
        · first | (go_simp; done) | (go_simp; with_reducible rfl)
        skip
        try simp only [Act.put, List.setIfInBounds_toArray, List.set_cons_zero, List.set_cons_succ]
        refine ci_end ?_
        rfl
      refine draw_eff (i := 1) rfl (by kernel_rfl) (listed' := #[true, true, false, true, true, false, false, false]) rfl (fun K hK => ?_)
      replace hK := Lib.hid hK
      go_wp2_with fail
      refine (HJ.out _ (Below.drew (Below.refl _ _))).mono ?_
      rintro e w3 ⟨rfl, hb3⟩
      go_wp2_with fail
      refine hK.out _ _ ⟨fun _ => hb3, ?_⟩
      clear hK
      have hsz3 : w.heap.size ≤ w3.heap.size := Nat.le_trans hlw hb3.size
      refine draw_chunk (n := 29) (by kernel_rfl) (fun _ _ _ _ _ h => h) [2] [] _ #[true, true, true, true, true, false, false, false] (by kernel_rfl) 3 _ ?_ _ rfl ?_ ?_
      rotate_left
      · intro w' hw'
        have hc' : ∀ b o, b < w3.heap.size → w'.cell? ⟨b, o, none⟩ = w3.cell? ⟨b, o, none⟩ := (bcell hw').1
        refine ci_step (i := 2) (v := ?_) rfl (by kernel_rfl) ?_ ?_
        rotate_left
        · first | (go_simp; done) | (go_simp; with_reducible rfl)
        skip
        try simp only [Act.put, List.setIfInBounds_toArray, List.set_cons_zero, List.set_cons_succ]
        refine ci_end ?_
        rfl
      refine draw_eff (i := 5) rfl (by kernel_rfl) (listed' := #[true, true, true, true, true, true, false, false]) rfl (fun K hK => ?_)
      replace hK := Lib.hid hK
      go_wp2_with fail
      refine (itoa_calls l (by omega) (by omega) _ ((ht.below HB.out).drew.below hb3)).mono ?_
      rintro e w4 ⟨rfl, hb4⟩
      go_wp2_with fail
      refine hK.out _ _ ⟨fun _ => hb4, ?_⟩
      clear hK
      refine draw_chunk (n := 29) (by kernel_rfl) (fun _ _ _ _ _ h => h) [6, 7] [] _ #[true, true, true, true, true, true, true, true] (by kernel_rfl) 0 _ ?_ _ rfl ?_ ?_
      rotate_left
      · intro w' hw'
        have hc' : ∀ b o, b < w4.heap.size → w'.cell? ⟨b, o, none⟩ = w4.cell? ⟨b, o, none⟩ := (bcell hw').1
        refine ci_step (i := 6) (v := ?_) rfl (by kernel_rfl) ?_ ?_
        rotate_left
        · first | (go_simp; done) | (go_simp; with_reducible rfl)
        skip
        try simp only [Act.put, List.setIfInBounds_toArray, List.set_cons_zero, List.set_cons_succ]
        refine ci_step (i := 7) (v := ?_) rfl (by kernel_rfl) ?_ ?_
        rotate_left
        · first | (go_simp; done) | (go_simp; with_reducible rfl)
        skip
        try simp only [Act.put, List.setIfInBounds_toArray, List.set_cons_zero, List.set_cons_succ]
        refine ci_end ?_
        rfl
      refine draw_done (by kernel_rfl) ?_ _
      go_wp2
      go_ret
      refine ⟨?_, Below.trans HB.out (((Below.drew (Below.refl _ _)).trans ((hb3.mono hlw).trans (hb4.mono hsz3))))⟩
      rw [HT.out]
      exact congrArg (fun x => Ending.returned (.string x)) (str_three J (Lib.itoa l))
end Go.Proofs.YtjdapfimjpbnmaaDoor
