import Derived.Test.YtjdapfimjpbnmaaDoorAddrS3
set_option linter.unusedVariables false
set_option linter.unusedSimpArgs false
namespace Go.Proofs.YtjdapfimjpbnmaaDoor
open Go.RowKit
theorem text_head : textP 167837696 16 = [49, 48, 46, 49, 46, 48, 46, 48, 47, 49, 54] := by
  have h : ∀ n : Nat, n < 10 → Lib.itoa (n : Int) = [UInt8.ofNat (48 + n)] := fun n hn => by rw [itoa_nat, Lib.decDigits_one hn]
  unfold textP
  rw [show (167837696 : Int) / 16777216 % 256 = ((10 : Nat) : Int) by decide, show (167837696 : Int) / 65536 % 256 = ((1 : Nat) : Int) by decide, show (167837696 : Int) / 256 % 256 = ((0 : Nat) : Int) by decide, show (167837696 : Int) % 256 = ((0 : Nat) : Int) by decide,
    show (16 : Int) = ((16 : Nat) : Int) by decide, itoa_nat 10, itoa_nat 16, Lib.decDigits_two (by decide) (by decide), Lib.decDigits_two (by decide) (by decide), h 1 (by decide), h 0 (by decide), join4]
  rfl
theorem law02_head (w : World) (ht : Tabs w) : Calls Tryd.prog 7 #[] w fun e w' => e = .returned (.bool true) ∧ Below w.heap.size w w' := by
  have hp : parseF (⟨#[49, 48, 46, 49, 46, 48, 46, 48, 47, 49, 54]⟩ : ByteArray).data.toList = some (167837696, 16) := by
    show parseF [49, 48, 46, 49, 46, 48, 46, 48, 47, 49, 54] = _
    rw [← text_head]
    exact parse_text _ _ (by decide) (by decide)
  have h1 := fun w => addr_Parse ⟨#[49, 48, 46, 49, 46, 48, 46, 48, 47, 49, 54]⟩ w
  rw [hp] at h1
  have H1 := Lib.hid h1
  have h2 := addr_String_yes 167837696 16
  rw [text_head] at h2
  have H2 := Lib.hid h2
  clear h1 h2 hp
  go_enter Tryd.func7, Tryd.ntmps7
  go_wp2_with fail
  refine (H1.out w ht (by decide)).mono ?_
  rintro e w1 ⟨rfl, hb1⟩
  simp only [parseV]
  go_wp2_with fail
  have kP := Blk.new w1 24 #[.int .u32 167837696, .int .i64 16]
  have hb0 := hb1.alloc hb1.size (.cells #[.int .u32 167837696, .int .i64 16] 24)
  generalize w1.alloc (.cells #[.int .u32 167837696, .int .i64 16] 24) = W at kP hb0 ⊢
  generalize w1.heap.size = g at kP ⊢
  have t1 : hasB 167837696 16 167838211 = true := by decide
  have t2 : hasB 167837696 16 167903232 = false := by decide
  have T1 := Lib.hid t1
  have T2 := Lib.hid t2
  clear t1 t2 H1
  have p0 := kP.cell 0
  have p1 := kP.cell 1
  simp only [List.getElem?_toArray, List.getElem?_cons_zero, List.getElem?_cons_succ] at p0 p1
  refine (addr_Has 167837696 16 167838211 W (by decide) (by decide)).mono ?_
  rintro e w2 ⟨rfl, hb2⟩
  rw [T1.out]
  replace kP := kP.below' hb2
  replace hb0 := Go.Proofs.YtjdapfimjpbnmaaDoor.below_step hb0 hb0.size hb2
  clear p0 p1 hb2
  have p0 := kP.cell 0
  have p1 := kP.cell 1
  simp only [List.getElem?_toArray, List.getElem?_cons_zero, List.getElem?_cons_succ] at p0 p1
  go_wp2_with fail
  refine (addr_Has 167837696 16 167903232 w2 (by decide) (by decide)).mono ?_
  rintro e w3 ⟨rfl, hb3⟩
  rw [T2.out]
  replace kP := kP.below' hb3
  replace hb0 := Go.Proofs.YtjdapfimjpbnmaaDoor.below_step hb0 hb0.size hb3
  clear p0 p1 hb3
  have p0 := kP.cell 0
  have p1 := kP.cell 1
  simp only [List.getElem?_toArray, List.getElem?_cons_zero, List.getElem?_cons_succ] at p0 p1
  go_wp2_with fail
  refine (H2.out w3 (ht.below hb0) (by decide) (by decide)).mono ?_
  rintro e w4 ⟨rfl, hb4⟩
  replace hb0 := Go.Proofs.YtjdapfimjpbnmaaDoor.below_step hb0 hb0.size hb4
  clear H2
  go_wp2
  go_ret
  refine ⟨?_, hb0⟩
  simp only [toList_data]
  rfl
end Go.Proofs.YtjdapfimjpbnmaaDoor
