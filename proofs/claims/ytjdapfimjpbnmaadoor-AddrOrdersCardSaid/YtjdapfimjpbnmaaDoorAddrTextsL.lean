import Derived.Test.YtjdapfimjpbnmaaDoorAddrHead
import Derived.Test.YtjdapfimjpbnmaaDoorLaw02
set_option linter.unusedVariables false
set_option linter.unusedSimpArgs false
namespace Go.Proofs.YtjdapfimjpbnmaaDoor
open Go.RowKit
theorem AddrTexts_no (a l : Int) (w : World) (ht : Tabs w) (ha : 0 ≤ a ∧ a ≤ 4294967295) (hr : rightB a l = false) :
    Calls Tryd.prog 4 #[.agg #[.int .u32 a, .int .i64 l]] w fun e w' => e = .returned (.bool true) ∧ Below w.heap.size w w' := by
  have HR := Lib.hid hr
  clear hr
  have kP := Blk.new w 24 #[.int .u32 a, .int .i64 l]
  have hb0 := (Below.refl w.heap.size w).alloc (Nat.le_refl _) (.cells #[.int .u32 a, .int .i64 l] 24)
  go_enter Tryd.func4, Tryd.ntmps4
  go_wp2_with fail
  refine (law02_head _ (ht.below hb0)).mono ?_
  rintro e w2 ⟨rfl, hb2⟩
  replace kP := kP.below' hb2
  replace hb0 := Go.Proofs.YtjdapfimjpbnmaaDoor.below_step hb0 hb0.size hb2
  clear hb2
  have p0 := kP.cell 0
  have p1 := kP.cell 1
  simp only [List.getElem?_toArray, List.getElem?_cons_zero, List.getElem?_cons_succ] at p0 p1
  go_wp2_with fail
  refine (law02_Right a l _ ha).mono ?_
  rintro e w3 ⟨rfl, hb3⟩
  rw [HR.out]
  replace kP := kP.below' hb3
  replace hb0 := Go.Proofs.YtjdapfimjpbnmaaDoor.below_step hb0 hb0.size hb3
  clear hb3 p0 p1
  have p0 := kP.cell 0
  have p1 := kP.cell 1
  simp only [List.getElem?_toArray, List.getElem?_cons_zero, List.getElem?_cons_succ] at p0 p1
  go_wp2_with fail
  refine (addr_String_no a l _ ha HR.out).mono ?_
  rintro e w4 ⟨rfl, hb4⟩
  replace hb0 := Go.Proofs.YtjdapfimjpbnmaaDoor.below_step hb0 hb0.size hb4
  go_wp2
  go_ret
  refine ⟨?_, hb0⟩
  rfl
/-- The text so far: behind k numbers. -/
def textK (a : Int) : Nat → List UInt8
  | 0 => []
  | 1 => Lib.itoa (a / 16777216 % 256) ++ [46]
  | 2 => Lib.itoa (a / 16777216 % 256) ++ [46] ++ Lib.itoa (a / 65536 % 256) ++ [46]
  | 3 => Lib.itoa (a / 16777216 % 256) ++ [46] ++ Lib.itoa (a / 65536 % 256) ++ [46] ++ Lib.itoa (a / 256 % 256) ++ [46]
  | _ => Lib.itoa (a / 16777216 % 256) ++ [46] ++ Lib.itoa (a / 65536 % 256) ++ [46] ++ Lib.itoa (a / 256 % 256) ++ [46] ++ Lib.itoa (a % 256)
theorem textK_len (a : Int) (ha : 0 ≤ a ∧ a ≤ 4294967295) (k : Nat) : (textK a k).length ≤ 15 := by
  have h0 := itoa_len3 (a / 16777216 % 256) (by omega) (by omega)
  have h1 := itoa_len3 (a / 65536 % 256) (by omega) (by omega)
  have h2 := itoa_len3 (a / 256 % 256) (by omega) (by omega)
  have h3 := itoa_len3 (a % 256) (by omega) (by omega)
  match k with
  | 0 => simp [textK]
  | 1 => simp [textK]; omega
  | 2 => simp [textK]; omega
  | 3 => simp [textK]; omega
  | k + 4 => simp [textK]; omega
theorem textP_K (a l : Int) : textP a l = textK a 4 ++ 47 :: Lib.itoa l := by
  unfold textP
  rw [join4]
  simp [textK]
def stq : Nat → Int
  | 0 => 3
  | 1 => 2
  | 2 => 1
  | 3 => 0
  | _ => -1
theorem strB_app (x y : List UInt8) : strB x ++ strB y = strB (x ++ y) := by
  apply Go.WideShapes.bytes_inj
  simp [strB, ByteArray.data_append]
set_option maxRecDepth 100000 in
set_option maxHeartbeats 1000000 in
theorem AddrTexts_yes (a l : Int) (w : World) (ht : Tabs w) (ha : 0 ≤ a ∧ a ≤ 4294967295) (hr : rightB a l = true) :
    Calls Tryd.prog 4 #[.agg #[.int .u32 a, .int .i64 l]] w fun e w' => e = .returned (.bool true) ∧ Below w.heap.size w w' := by
  have HR := Lib.hid hr
  clear hr
  have kP := Blk.new w 24 #[.int .u32 a, .int .i64 l]
  have hb0 := (Below.refl w.heap.size w).alloc (Nat.le_refl _) (.cells #[.int .u32 a, .int .i64 l] 24)
  go_enter Tryd.func4, Tryd.ntmps4
  go_wp2_with fail
  refine (law02_head _ (ht.below hb0)).mono ?_
  rintro e w2 ⟨rfl, hb2⟩
  replace kP := kP.below' hb2
  replace hb0 := Go.Proofs.YtjdapfimjpbnmaaDoor.below_step hb0 hb0.size hb2
  clear hb2
  have p0 := kP.cell 0
  have p1 := kP.cell 1
  simp only [List.getElem?_toArray, List.getElem?_cons_zero, List.getElem?_cons_succ] at p0 p1
  go_wp2_with fail
  refine (law02_Right a l _ ha).mono ?_
  rintro e w3 ⟨rfl, hb3⟩
  rw [HR.out]
  replace kP := kP.below' hb3
  replace hb0 := Go.Proofs.YtjdapfimjpbnmaaDoor.below_step hb0 hb0.size hb3
  clear hb3 p0 p1
  have p0 := kP.cell 0
  have p1 := kP.cell 1
  simp only [List.getElem?_toArray, List.getElem?_cons_zero, List.getElem?_cons_succ] at p0 p1
  go_wp2_with fail
  go_loopw [4, 3] (fun i s wr => ∃ k : Nat, k ≤ 4 ∧ i = .int .i64 (stq k) ∧ s = .string (strB (textK a k)) ∧ Blk wr w.heap.size 24 #[.int .u32 a, .int .i64 l] ∧ Below w.heap.size w wr) (fun i _ _ => (intOf i + 1).toNat)
  case atStart => exact ⟨0, by omega, rfl, rfl, kP, hb0⟩
  case round =>
    clear kP hb0
    obtain ⟨k, hk, rfl, rfl, kP, hb0⟩ := hrel
    have hl0 := textK_len a ha k
    clear p0 p1
    have p0 := kP.cell 0
    have p1 := kP.cell 1
    simp only [List.getElem?_toArray, List.getElem?_cons_zero, List.getElem?_cons_succ] at p0 p1
    rcases (show k = 0 ∨ k = 1 ∨ k = 2 ∨ k = 3 ∨ k = 4 by omega) with rfl | rfl | rfl | rfl | rfl
    · have hq := Lib.hid (and255 (a / 16777216) (by omega) (by omega))
      have hlq := itoa_len3 (a / 16777216 % 256) (by omega) (by omega)
      have n1 : ¬ 9223372036854775807 < (textK a 0).length + (Lib.itoa (a / 16777216 % 256)).length := by omega
      have n2 : ¬ 9223372036854775807 < (textK a 0).length + (Lib.itoa (a / 16777216 % 256)).length + 1 := by omega
      simp only [stq, strB]
      go_wp2_with fail
      rw [hq.out]
      refine (itoa_calls (a / 16777216 % 256) (by omega) (by omega) _ (ht.below hb0)).mono ?_
      rintro e w5 ⟨rfl, hb5⟩
      have kP5 := kP.below' hb5
      have hb6 := Go.Proofs.YtjdapfimjpbnmaaDoor.below_step hb0 hb0.size hb5
      clear hq kP hb0 hb5
      go_wp2
      go_roundw
      case rel => exact ⟨1, by omega, rfl, congrArg Value.string (by
        first
          | (show strB _ ++ strB _ ++ strB _ = _; rw [strB_app, strB_app]; simp only [textK, List.append_assoc, List.nil_append]; rfl)
          | (show strB _ ++ strB _ = _; rw [strB_app]; simp only [textK, List.append_assoc, List.nil_append]; rfl)), kP5, hb6⟩
      case measure => simp [intOf]
    · have hq := Lib.hid (and255 (a / 65536) (by omega) (by omega))
      have hlq := itoa_len3 (a / 65536 % 256) (by omega) (by omega)
      have n1 : ¬ 9223372036854775807 < (textK a 1).length + (Lib.itoa (a / 65536 % 256)).length := by omega
      have n2 : ¬ 9223372036854775807 < (textK a 1).length + (Lib.itoa (a / 65536 % 256)).length + 1 := by omega
      simp only [stq, strB]
      go_wp2_with fail
      rw [hq.out]
      refine (itoa_calls (a / 65536 % 256) (by omega) (by omega) _ (ht.below hb0)).mono ?_
      rintro e w5 ⟨rfl, hb5⟩
      have kP5 := kP.below' hb5
      have hb6 := Go.Proofs.YtjdapfimjpbnmaaDoor.below_step hb0 hb0.size hb5
      clear hq kP hb0 hb5
      go_wp2
      go_roundw
      case rel => exact ⟨2, by omega, rfl, congrArg Value.string (by
        first
          | (show strB _ ++ strB _ ++ strB _ = _; rw [strB_app, strB_app]; simp only [textK, List.append_assoc, List.nil_append]; rfl)
          | (show strB _ ++ strB _ = _; rw [strB_app]; simp only [textK, List.append_assoc, List.nil_append]; rfl)), kP5, hb6⟩
      case measure => simp [intOf]
    · have hq := Lib.hid (and255 (a / 256) (by omega) (by omega))
      have hlq := itoa_len3 (a / 256 % 256) (by omega) (by omega)
      have n1 : ¬ 9223372036854775807 < (textK a 2).length + (Lib.itoa (a / 256 % 256)).length := by omega
      have n2 : ¬ 9223372036854775807 < (textK a 2).length + (Lib.itoa (a / 256 % 256)).length + 1 := by omega
      simp only [stq, strB]
      go_wp2_with fail
      rw [hq.out]
      refine (itoa_calls (a / 256 % 256) (by omega) (by omega) _ (ht.below hb0)).mono ?_
      rintro e w5 ⟨rfl, hb5⟩
      have kP5 := kP.below' hb5
      have hb6 := Go.Proofs.YtjdapfimjpbnmaaDoor.below_step hb0 hb0.size hb5
      clear hq kP hb0 hb5
      go_wp2
      go_roundw
      case rel => exact ⟨3, by omega, rfl, congrArg Value.string (by
        first
          | (show strB _ ++ strB _ ++ strB _ = _; rw [strB_app, strB_app]; simp only [textK, List.append_assoc, List.nil_append]; rfl)
          | (show strB _ ++ strB _ = _; rw [strB_app]; simp only [textK, List.append_assoc, List.nil_append]; rfl)), kP5, hb6⟩
      case measure => simp [intOf]
    · have hq := Lib.hid (and255 (a) (by omega) (by omega))
      have hlq := itoa_len3 (a % 256) (by omega) (by omega)
      have n1 : ¬ 9223372036854775807 < (textK a 3).length + (Lib.itoa (a % 256)).length := by omega
      have n2 : ¬ 9223372036854775807 < (textK a 3).length + (Lib.itoa (a % 256)).length + 1 := by omega
      simp only [stq, strB]
      go_wp2_with fail
      rw [hq.out]
      refine (itoa_calls (a % 256) (by omega) (by omega) _ (ht.below hb0)).mono ?_
      rintro e w5 ⟨rfl, hb5⟩
      have kP5 := kP.below' hb5
      have hb6 := Go.Proofs.YtjdapfimjpbnmaaDoor.below_step hb0 hb0.size hb5
      clear hq kP hb0 hb5
      go_wp2
      go_roundw
      case rel => exact ⟨4, by omega, rfl, congrArg Value.string (by
        first
          | (show strB _ ++ strB _ ++ strB _ = _; rw [strB_app, strB_app]; simp only [textK, List.append_assoc, List.nil_append]; rfl)
          | (show strB _ ++ strB _ = _; rw [strB_app]; simp only [textK, List.append_assoc, List.nil_append]; rfl)), kP5, hb6⟩
      case measure => simp [intOf]
    · obtain ⟨l0, l1⟩ := rightB_bd HR.out
      have hlq := itoa_len3 l l0 (by omega)
      have n1 : ¬ 9223372036854775807 < (textK a 4).length + 1 := by omega
      have n2 : ¬ 9223372036854775807 < (textK a 4).length + 1 + (Lib.itoa l).length := by omega
      simp only [stq, strB]
      go_wp2_with fail
      refine (itoa_calls l (by omega) (by omega) _ (ht.below hb0)).mono ?_
      rintro e w5 ⟨rfl, hb5⟩
      replace kP := kP.below' hb5
      replace hb0 := Go.Proofs.YtjdapfimjpbnmaaDoor.below_step hb0 hb0.size hb5
      clear hb5 p0 p1
      go_wp2_with fail
      have hs : (⟨(textK a 4).toArray⟩ : ByteArray) ++ ⟨#[47]⟩ ++ ⟨(Lib.itoa l).toArray⟩ = strB (textP a l) := by
        rw [textP_K]
        exact str_three _ _
      rw [hs]
      have hp := fun w => addr_Parse (strB (textP a l)) w
      have e : (strB (textP a l)).data.toList = textP a l := rfl
      rw [e, parse_text a l ha HR.out] at hp
      have HP := Lib.hid hp
      clear hp hs e
      have hsz : (strB (textP a l)).size ≤ 1000 := by
        show (textP a l).toArray.size ≤ 1000
        rw [textP_K]
        simp
        omega
      refine (HP.out w5 (ht.below hb0) hsz).mono ?_
      rintro e w6 ⟨rfl, hb6⟩
      replace kP := kP.below' hb6
      replace hb0 := Go.Proofs.YtjdapfimjpbnmaaDoor.below_step hb0 hb0.size hb6
      clear hb6 HP
      simp only [parseV]
      have hlt := kP.lt
      have hne : w.heap.size ≠ w6.heap.size := Nat.ne_of_lt hlt
      have kQ := Blk.new w6 24 #[.int .u32 a, .int .i64 l]
      have p0 := kP.cell 0
      have p1 := kP.cell 1
      simp only [List.getElem?_toArray, List.getElem?_cons_zero, List.getElem?_cons_succ] at p0 p1
      go_wp2_with fail
      replace kP := kP.alloc (.cells #[.int .u32 a, .int .i64 l] 24)
      replace hb0 := hb0.alloc hb0.size (.cells #[.int .u32 a, .int .i64 l] 24)
      generalize w6.alloc (.cells #[.int .u32 a, .int .i64 l] 24) = W at kP kQ hb0 ⊢
      generalize w6.heap.size = g at kQ ⊢
      refine (addr_String_yes a l _ (ht.below hb0) ha HR.out).mono ?_
      rintro e w7 ⟨rfl, hb7⟩
      replace kP := kP.below' hb7
      replace kQ := kQ.below' hb7
      replace hb0 := Go.Proofs.YtjdapfimjpbnmaaDoor.below_step hb0 hb0.size hb7
      clear hb7 p0 p1
      have p0 := kP.cell 0
      have p1 := kP.cell 1
      simp only [List.getElem?_toArray, List.getElem?_cons_zero, List.getElem?_cons_succ] at p0 p1
      have q0 := kQ.cell 0
      have q1 := kQ.cell 1
      simp only [List.getElem?_toArray, List.getElem?_cons_zero, List.getElem?_cons_succ] at q0 q1
      go_wp2
      go_ret
      refine ⟨?_, hb0⟩
      simp
end Go.Proofs.YtjdapfimjpbnmaaDoor
