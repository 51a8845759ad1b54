import Derived.Test.YtjdapfimjpbnmaaDoorAddrHead
import Derived.Test.YtjdapfimjpbnmaaDoorAddrL
import Derived.Test.YtjdapfimjpbnmaaDoorLaw02
import Derived.Test.YtjdapfimjpbnmaaDoorEqP
set_option linter.unusedVariables false
set_option linter.unusedSimpArgs false
namespace Go.Proofs.YtjdapfimjpbnmaaDoor
open Go.RowKit
attribute [-go_sem] Go.run_equalIn_agg
set_option maxRecDepth 100000 in
theorem AddrParses_long (s : ByteArray) (w : World) (ht : Tabs w) (hs : 60 < s.size) :
    Calls Tryd.prog 5 #[.string s] w fun e w' => e = .returned (.bool true) ∧ Below w.heap.size w w' := by
  have hs' : decide ((60 : Int) < (s.size : Int)) = true := decide_eq_true (by omega)
  go_enter Tryd.func5, Tryd.ntmps5
  go_wp2_with fail
  refine (law02_head _ ht).mono ?_
  rintro e w2 ⟨rfl, hb0⟩
  go_wp2
  go_ret
  exact ⟨rfl, hb0⟩
set_option maxRecDepth 100000 in
theorem AddrParses_yes (s : ByteArray) (w : World) (ht : Tabs w) (hs : s.size ≤ 60) (a l : Int) (hp : parseF s.data.toList = some (a, l)) :
    Calls Tryd.prog 5 #[.string s] w fun e w' => e = .returned (.bool true) ∧ Below w.heap.size w w' := by
  obtain ⟨hr, ha, htx⟩ := parse_sound hp
  have h1 := fun w ht => addr_Parse s w ht (by omega)
  rw [hp] at h1
  have H1 := Lib.hid h1
  have h2 := fun w ht => addr_String_yes a l w ht ha hr
  rw [htx] at h2
  have H2 := Lib.hid h2
  have HR := Lib.hid hr
  have hs' : decide ((60 : Int) < (s.size : Int)) = false := decide_eq_false (by omega)
  clear h1 h2 hr htx hp
  go_enter Tryd.func5, Tryd.ntmps5
  go_wp2_with fail
  refine (law02_head _ ht).mono ?_
  rintro e w2 ⟨rfl, hb0⟩
  go_wp2_with fail
  refine (H1.out _ (ht.below hb0)).mono ?_
  rintro e w3 ⟨rfl, hb3⟩
  replace hb0 := Go.Proofs.YtjdapfimjpbnmaaDoor.below_step hb0 hb0.size hb3
  simp only [parseV]
  have kP := Blk.new w3 24 #[.int .u32 a, .int .i64 l]
  go_wp2_with fail
  replace hb0 := hb0.alloc hb0.size (.cells #[.int .u32 a, .int .i64 l] 24)
  generalize w3.alloc (.cells #[.int .u32 a, .int .i64 l] 24) = W at kP hb0 ⊢
  generalize w3.heap.size = g at kP ⊢
  refine (law02_Right a l _ ha).mono ?_
  rintro e w4 ⟨rfl, hb4⟩
  rw [HR.out]
  replace kP := kP.below' hb4
  replace hb0 := Go.Proofs.YtjdapfimjpbnmaaDoor.below_step hb0 hb0.size hb4
  have p0 := kP.cell 0
  have p1 := kP.cell 1
  simp only [List.getElem?_toArray, List.getElem?_cons_zero, List.getElem?_cons_succ] at p0 p1
  go_wp2_with fail
  refine (H2.out _ (ht.below hb0)).mono ?_
  rintro e w5 ⟨rfl, hb5⟩
  replace hb0 := Go.Proofs.YtjdapfimjpbnmaaDoor.below_step hb0 hb0.size hb5
  go_wp2
  go_ret
  refine ⟨?_, hb0⟩
  simp only [toList_data]
  have e : (strB s.data.toList).data.toList = s.data.toList := rfl
  rw [e]
  simp
def intsV (l : List Nat) : List Value := l.map fun x : Nat => Value.int .i64 (x : Int)
/-- Where the reading stands. -/
def RelP (s : List UInt8) (k : Nat) (done : List Nat) (x size : Nat) : Prop :=
  PL s k done x size ∨ (k = s.length + 1 ∧ ∃ d x0 z, done = d ++ [x0] ∧ PL s s.length d x0 z ∧ z ≠ 0)
theorem info_int : (Tryd.prog.info? 3).map (fun i => (i.zero, i.size, i.bytes)) = some (some (.int .i64 0), 1, 8) := by kernel_rfl
set_option maxHeartbeats 40000000 in
set_option maxRecDepth 100000 in
theorem AddrParses_none (s : ByteArray) (w : World) (ht : Tabs w) (hs : s.size ≤ 60) (hp : parseF s.data.toList = none) :
    Calls Tryd.prog 5 #[.string s] w fun e w' => e = .returned (.bool true) ∧ Below w.heap.size w w' := by
  have h1 := fun w ht => addr_Parse s w ht (by omega)
  rw [hp] at h1
  have H1 := Lib.hid h1
  have HP := Lib.hid hp
  have hs' : decide ((60 : Int) < (s.size : Int)) = false := decide_eq_false (by omega)
  have he : pfxEqB 0 0 0 0 = true := by decide
  clear h1 hp
  go_enter Tryd.func5, Tryd.ntmps5
  go_wp2_with fail
  refine (law02_head _ ht).mono ?_
  rintro e w2 ⟨rfl, hb0⟩
  go_wp2_with fail
  refine (H1.out _ (ht.below hb0)).mono ?_
  rintro e w3 ⟨rfl, hb3⟩
  replace hb0 := Go.Proofs.YtjdapfimjpbnmaaDoor.below_step hb0 hb0.size hb3
  simp only [parseV]
  clear H1
  go_wp2_with fail
  have hO : ((w3.alloc (.cells #[.int .u32 0, .int .i64 0] 24)).alloc (.cells #[] 3)).ownsRow w.heap.size 3 1 (.slice (some ⟨w3.heap.size + 1, 0, none⟩) 0 0) 0 (intsV []) :=
    ⟨rfl, .inr ⟨w3.heap.size + 1, 0, #[], rfl, by have := hb0.size; omega, by
      have := heap_new (w3.alloc (.cells #[.int .u32 0, .int .i64 0] 24)) (.cells #[] 3)
      simpa using this, Nat.le_refl _, by decide, rfl, rfl⟩⟩
  replace hb0 := (hb0.alloc hb0.size (.cells #[.int .u32 0, .int .i64 0] 24)).alloc (by have := hb0.size; simp; omega) (.cells #[] 3)
  generalize ((w3.alloc (.cells #[.int .u32 0, .int .i64 0] 24)).alloc (.cells #[] 3)) = W at hO hb0 ⊢
  generalize hv : Value.slice (some ⟨w3.heap.size + 1, 0, none⟩) 0 0 = v0 at hO ⊢
  have hlen : s.data.toList.length = s.size := by simp
  have HLen := Lib.hid hlen
  clear hv hlen hb3 he
  go_loopw [8, 5, 6, 7] (fun i v x z wr => ∃ (k : Nat) (done : List Nat) (xn zn : Nat), k ≤ s.size + 1 ∧ i = .int .i64 k ∧ x = .int .i64 xn ∧ z = .int .i64 zn ∧ done.length ≤ 5 ∧ wr.ownsRow w.heap.size 3 1 v done.length (intsV done) ∧ RelP s.data.toList k done xn zn ∧ Below w.heap.size w wr) (fun i _ _ _ _ => s.size + 2 - (intOf i).toNat)
  case atStart => exact ⟨0, [], 0, 0, by omega, rfl, rfl, rfl, by simp, hO, .inl (PL.start _), hb0⟩
  case round =>
    clear hO hb0
    obtain ⟨k, done, xn, zn, hk, rfl, rfl, rfl, hd5, hO, hR, hb0⟩ := hrel
    by_cases hlast : k ≤ s.size
    · have hPL : PL s.data.toList k done xn zn := by
        rcases hR with h | ⟨h, -⟩
        · exact h
        · rw [HLen.out] at h; omega
      have HPL := Lib.hid hPL
      have z4 := hPL.size4
      have d4 := hPL.few
      have hx4 : xn < 10000 := Nat.lt_of_lt_of_le hPL.bound (by
        have : (10 : Nat) ^ zn ≤ 10 ^ 4 := Nat.pow_le_pow_right (by decide) z4
        simpa using this)
      clear hPL hR
      by_cases hlt : k < s.size
      · have hget : s.data.toList[k]? = some s[k] := by
          rw [List.getElem?_eq_getElem (by rw [HLen.out]; exact hlt)]
          rfl
        by_cases hdig : 48 ≤ (s[k].toNat : Int) ∧ (s[k].toNat : Int) ≤ 57 ∧ zn < 4
        · obtain ⟨c0, c1, hz⟩ := hdig
          by_cases hz0 : 0 < zn ∧ xn = 0
          · obtain ⟨y1, y2⟩ := hz0
            subst y2
            have y1' : decide (0 < zn) = true := decide_eq_true y1
            go_wp2
            go_ret
            exact ⟨rfl, hb0⟩
          · have HPL2 := Lib.hid (HPL.out.digit hget (by omega) (by omega) hz (by omega))
            have hd : intsV done = intsV done := rfl
            by_cases hzn : zn = 0
            · subst hzn
              go_wp2
              go_roundw
              case rel => exact ⟨k + 1, done, _, _, by omega, by go_num, congrArg (Value.int .i64) (by omega), congrArg (Value.int .i64) (by omega), hd5, hO, .inl HPL2.out, hb0⟩
              case measure => simp [intOf]; omega
            · have y1 : decide ((0 : Int) < (zn : Int)) = true := decide_eq_true (by omega)
              have y2 : ((xn : Int) == 0) = false := by
                rw [beq_eq_false_iff_ne]
                omega
              go_wp2
              go_roundw
              case rel => exact ⟨k + 1, done, _, _, by omega, by go_num, congrArg (Value.int .i64) (by omega), congrArg (Value.int .i64) (by omega), hd5, hO, .inl HPL2.out, hb0⟩
              case measure => simp [intOf]; omega
        · -- no digit
          by_cases g0 : 48 ≤ (s[k].toNat : Int)
          · by_cases g1 : (s[k].toNat : Int) ≤ 57
            · have g2 : decide ((zn : Int) < 4) = false := decide_eq_false (by omega)
              obtain ⟨hil, A5, c5, rfl, hc5, hrow5⟩ := owns_row hO (by omega)
              have HO := Lib.hid hO
              clear hO hil hrow5
              have l4 : decide ((4 : Int) < (done.length : Int)) = false := decide_eq_false (by omega)
              by_cases e1 : zn = 0
              · have e1' : ((zn : Int) == 0) = true := by rw [beq_iff_eq]; omega
                clear e1
                go_wp2_with fail
                go_quiet (fail)
                go_wp2
                go_ret
                exact ⟨rfl, Go.Proofs.YtjdapfimjpbnmaaDoor.below_drewN hb0 _⟩
              · have e1' : ((zn : Int) == 0) = false := by rw [beq_eq_false_iff_ne]; omega
                by_cases e2 : done.length = 4
                · have e2' : ((done.length : Int) == 4) = true := by rw [beq_iff_eq]; omega
                  clear e1 e2
                  go_wp2_with fail
                  go_quiet (fail)
                  go_wp2
                  go_ret
                  exact ⟨rfl, Go.Proofs.YtjdapfimjpbnmaaDoor.below_drewN hb0 _⟩
                · have e2' : ((done.length : Int) == 4) = false := by rw [beq_eq_false_iff_ne]; omega
                  have hw1 : IntKind.i64.wrap ((done.length : Int) + 1) = (done.length : Int) + 1 := by rw [IntKind.wrap_i64]; omega
                  have hend : ∀ w', (Instr.index 9 (.string ⟨#[46, 46, 46, 46, 46, 47]⟩) (.int .i64 ((done.length : Int) + 1))).run Tryd.prog w' = .ok (.int .u8 46) w' := by
                    intro w'
                    rcases (show done.length = 0 ∨ done.length = 1 ∨ done.length = 2 ∨ done.length = 3 by omega) with h | h | h | h <;> rw [h] <;> kernel_rfl
                  have e3' : ((s[k].toNat : Int) == 46) = false := by rw [beq_eq_false_iff_ne]; omega
                  have e3n : ((s[k].toNat : Int) != 46) = true := by simp only [bne, e3', Bool.not_false]
                  have e5' : ((s[k].toNat : Int) == 47) = false := by rw [beq_eq_false_iff_ne]; omega
                  by_cases e4 : done.length = 3
                  · have e4' : ((done.length : Int) == 3) = true := by rw [beq_iff_eq]; omega
                    clear e1 e2 e4
                    go_wp2_with fail
                    go_quiet (fail)
                    go_wp2
                    go_ret
                    exact ⟨rfl, Go.Proofs.YtjdapfimjpbnmaaDoor.below_drewN hb0 _⟩
                  · have e4' : ((done.length : Int) == 3) = false := by rw [beq_eq_false_iff_ne]; omega
                    clear e1 e2 e4
                    go_wp2_with fail
                    go_quiet (fail)
                    go_wp2
                    go_ret
                    exact ⟨rfl, Go.Proofs.YtjdapfimjpbnmaaDoor.below_drewN hb0 _⟩
            · obtain ⟨hil, A5, c5, rfl, hc5, hrow5⟩ := owns_row hO (by omega)
              have HO := Lib.hid hO
              clear hO hil hrow5
              have l4 : decide ((4 : Int) < (done.length : Int)) = false := decide_eq_false (by omega)
              by_cases e1 : zn = 0
              · have e1' : ((zn : Int) == 0) = true := by rw [beq_iff_eq]; omega
                clear e1
                go_wp2_with fail
                go_quiet (fail)
                go_wp2
                go_ret
                exact ⟨rfl, Go.Proofs.YtjdapfimjpbnmaaDoor.below_drewN hb0 _⟩
              · have e1' : ((zn : Int) == 0) = false := by rw [beq_eq_false_iff_ne]; omega
                by_cases e2 : done.length = 4
                · have e2' : ((done.length : Int) == 4) = true := by rw [beq_iff_eq]; omega
                  clear e1 e2
                  go_wp2_with fail
                  go_quiet (fail)
                  go_wp2
                  go_ret
                  exact ⟨rfl, Go.Proofs.YtjdapfimjpbnmaaDoor.below_drewN hb0 _⟩
                · have e2' : ((done.length : Int) == 4) = false := by rw [beq_eq_false_iff_ne]; omega
                  have hw1 : IntKind.i64.wrap ((done.length : Int) + 1) = (done.length : Int) + 1 := by rw [IntKind.wrap_i64]; omega
                  have hend : ∀ w', (Instr.index 9 (.string ⟨#[46, 46, 46, 46, 46, 47]⟩) (.int .i64 ((done.length : Int) + 1))).run Tryd.prog w' = .ok (.int .u8 46) w' := by
                    intro w'
                    rcases (show done.length = 0 ∨ done.length = 1 ∨ done.length = 2 ∨ done.length = 3 by omega) with h | h | h | h <;> rw [h] <;> kernel_rfl
                  have e3' : ((s[k].toNat : Int) == 46) = false := by rw [beq_eq_false_iff_ne]; omega
                  have e3n : ((s[k].toNat : Int) != 46) = true := by simp only [bne, e3', Bool.not_false]
                  have e5' : ((s[k].toNat : Int) == 47) = false := by rw [beq_eq_false_iff_ne]; omega
                  by_cases e4 : done.length = 3
                  · have e4' : ((done.length : Int) == 3) = true := by rw [beq_iff_eq]; omega
                    clear e1 e2 e4
                    go_wp2_with fail
                    go_quiet (fail)
                    go_wp2
                    go_ret
                    exact ⟨rfl, Go.Proofs.YtjdapfimjpbnmaaDoor.below_drewN hb0 _⟩
                  · have e4' : ((done.length : Int) == 3) = false := by rw [beq_eq_false_iff_ne]; omega
                    clear e1 e2 e4
                    go_wp2_with fail
                    go_quiet (fail)
                    go_wp2
                    go_ret
                    exact ⟨rfl, Go.Proofs.YtjdapfimjpbnmaaDoor.below_drewN hb0 _⟩
          · obtain ⟨hil, A5, c5, rfl, hc5, hrow5⟩ := owns_row hO (by omega)
            have HO := Lib.hid hO
            clear hO hil hrow5
            have l4 : decide ((4 : Int) < (done.length : Int)) = false := decide_eq_false (by omega)
            by_cases e1 : zn = 0
            · have e1' : ((zn : Int) == 0) = true := by rw [beq_iff_eq]; omega
              clear e1
              go_wp2_with fail
              go_quiet (fail)
              go_wp2
              go_ret
              exact ⟨rfl, Go.Proofs.YtjdapfimjpbnmaaDoor.below_drewN hb0 _⟩
            · have e1' : ((zn : Int) == 0) = false := by rw [beq_eq_false_iff_ne]; omega
              by_cases e2 : done.length = 4
              · have e2' : ((done.length : Int) == 4) = true := by rw [beq_iff_eq]; omega
                clear e1 e2
                go_wp2_with fail
                go_quiet (fail)
                go_wp2
                go_ret
                exact ⟨rfl, Go.Proofs.YtjdapfimjpbnmaaDoor.below_drewN hb0 _⟩
              · have e2' : ((done.length : Int) == 4) = false := by rw [beq_eq_false_iff_ne]; omega
                have hw1 : IntKind.i64.wrap ((done.length : Int) + 1) = (done.length : Int) + 1 := by rw [IntKind.wrap_i64]; omega
                have hend : ∀ w', (Instr.index 9 (.string ⟨#[46, 46, 46, 46, 46, 47]⟩) (.int .i64 ((done.length : Int) + 1))).run Tryd.prog w' = .ok (.int .u8 46) w' := by
                  intro w'
                  rcases (show done.length = 0 ∨ done.length = 1 ∨ done.length = 2 ∨ done.length = 3 by omega) with h | h | h | h <;> rw [h] <;> kernel_rfl
                by_cases e3 : (s[k].toNat : Int) = 46
                · have e3' : ((s[k].toNat : Int) == 46) = true := by rw [beq_iff_eq]; exact e3
                  have e3n : ((s[k].toNat : Int) != 46) = false := by simp only [bne, e3', Bool.not_true]
                  have e5' : ((s[k].toNat : Int) == 47) = false := by rw [beq_eq_false_iff_ne]; omega
                  by_cases e4 : done.length = 3
                  · have e4' : ((done.length : Int) == 3) = true := by rw [beq_iff_eq]; omega
                    clear e1 e2 e4 e3
                    go_wp2_with fail
                    go_quiet (fail)
                    go_wp2
                    go_ret
                    exact ⟨rfl, Go.Proofs.YtjdapfimjpbnmaaDoor.below_drewN hb0 _⟩
                  · have e4' : ((done.length : Int) == 3) = false := by rw [beq_eq_false_iff_ne]; omega
                    have HPL2 := Lib.hid (HPL.out.sep hget e1 (by omega) (by
                      have : s[k].toNat = 46 := by omega
                      unfold sepAt
                      rw [if_neg e4]
                      exact UInt8.toNat_inj.1 this))
                    clear e1 e2 e4 e3
                    go_wp2_with fail
                    go_quiet (fail)
                    rename_i nq
                    have hO2 := owns_below (owns_below HO.out (Go.Proofs.YtjdapfimjpbnmaaDoor.below_drewN (Below.refl _ _) nq)) ((Below.refl _ (wr.drewN nq)).alloc (Nat.le_refl _) (.cells #[.int .i64 (xn : Int)] 3))
                    have hbA := (Go.Proofs.YtjdapfimjpbnmaaDoor.below_drewN hb0 nq).alloc hb0.size (.cells #[.int .i64 (xn : Int)] 3)
                    obtain ⟨v3, w5, hrun, hO3, hb3, -⟩ := app1 Tryd.underlying34 info_int rfl ⟨by decide, by decide⟩ w.heap.size _ _ _ _ hO2 (wr.drewN nq).heap.size 1 (.int .i64 (xn : Int)) ((Blk.new (wr.drewN nq) 3 #[.int .i64 (xn : Int)]).cell 0) rfl (by omega) (by have := hb0.size; simp; omega)
                    have hb4 := hbA.trans hb3
                    have hO4 : w5.ownsRow w.heap.size 3 1 v3 (done ++ [xn]).length (intsV (done ++ [xn])) := by
                      rw [show (done ++ [xn]).length = done.length + 1 by simp, show intsV (done ++ [xn]) = intsV done ++ [.int .i64 (xn : Int)] by simp [intsV]]
                      exact hO3
                    have HO4 := Lib.hid hO4
                    clear hO2 hbA hO3 hb3 hb0 hO4
                    go_wp2_with (at_builtin; refine wpList_appd rfl _ _ _ _ rfl rfl rfl hrun ?_)
                    go_roundw
                    case rel => exact ⟨k + 1, done ++ [xn], _, _, by omega, by go_num, congrArg (Value.int .i64) (show (0 : Int) = ((0 : Nat) : Int) from rfl), congrArg (Value.int .i64) (show (0 : Int) = ((0 : Nat) : Int) from rfl), by simp; omega, HO4.out, .inl HPL2.out, hb4⟩
                    case measure => first | (simp [intOf]; done) | (simp [intOf]; omega)
                · have e3' : ((s[k].toNat : Int) == 46) = false := by rw [beq_eq_false_iff_ne]; exact e3
                  have e3n : ((s[k].toNat : Int) != 46) = true := by simp only [bne, e3', Bool.not_false]
                  by_cases e4 : done.length = 3
                  · have e4' : ((done.length : Int) == 3) = true := by rw [beq_iff_eq]; omega
                    by_cases e5 : (s[k].toNat : Int) = 47
                    · have e5' : ((s[k].toNat : Int) == 47) = true := by rw [beq_iff_eq]; exact e5
                      have HPL2 := Lib.hid (HPL.out.sep hget e1 (by omega) (by
                        have : s[k].toNat = 47 := by omega
                        unfold sepAt
                        rw [if_pos e4]
                        exact UInt8.toNat_inj.1 this))
                      clear e1 e2 e4 e3 e5
                      go_wp2_with fail
                      go_quiet (fail)
                      rename_i nq
                      have hO2 := owns_below (owns_below HO.out (Go.Proofs.YtjdapfimjpbnmaaDoor.below_drewN (Below.refl _ _) nq)) ((Below.refl _ (wr.drewN nq)).alloc (Nat.le_refl _) (.cells #[.int .i64 (xn : Int)] 3))
                      have hbA := (Go.Proofs.YtjdapfimjpbnmaaDoor.below_drewN hb0 nq).alloc hb0.size (.cells #[.int .i64 (xn : Int)] 3)
                      obtain ⟨v3, w5, hrun, hO3, hb3, -⟩ := app1 Tryd.underlying34 info_int rfl ⟨by decide, by decide⟩ w.heap.size _ _ _ _ hO2 (wr.drewN nq).heap.size 1 (.int .i64 (xn : Int)) ((Blk.new (wr.drewN nq) 3 #[.int .i64 (xn : Int)]).cell 0) rfl (by omega) (by have := hb0.size; simp; omega)
                      have hb4 := hbA.trans hb3
                      have hO4 : w5.ownsRow w.heap.size 3 1 v3 (done ++ [xn]).length (intsV (done ++ [xn])) := by
                        rw [show (done ++ [xn]).length = done.length + 1 by simp, show intsV (done ++ [xn]) = intsV done ++ [.int .i64 (xn : Int)] by simp [intsV]]
                        exact hO3
                      have HO4 := Lib.hid hO4
                      clear hO2 hbA hO3 hb3 hb0 hO4
                      go_wp2_with (at_builtin; refine wpList_appd rfl _ _ _ _ rfl rfl rfl hrun ?_)
                      go_roundw
                      case rel => exact ⟨k + 1, done ++ [xn], _, _, by omega, by go_num, congrArg (Value.int .i64) (show (0 : Int) = ((0 : Nat) : Int) from rfl), congrArg (Value.int .i64) (show (0 : Int) = ((0 : Nat) : Int) from rfl), by simp; omega, HO4.out, .inl HPL2.out, hb4⟩
                      case measure => first | (simp [intOf]; done) | (simp [intOf]; omega)
                    · have e5' : ((s[k].toNat : Int) == 47) = false := by rw [beq_eq_false_iff_ne]; exact e5
                      clear e1 e2 e4 e3 e5
                      go_wp2_with fail
                      go_quiet (fail)
                      go_wp2
                      go_ret
                      exact ⟨rfl, Go.Proofs.YtjdapfimjpbnmaaDoor.below_drewN hb0 _⟩
                  · have e4' : ((done.length : Int) == 3) = false := by rw [beq_eq_false_iff_ne]; omega
                    clear e1 e2 e4 e3
                    go_wp2_with fail
                    go_quiet (fail)
                    go_wp2
                    go_ret
                    exact ⟨rfl, Go.Proofs.YtjdapfimjpbnmaaDoor.below_drewN hb0 _⟩
      · obtain rfl : k = s.size := by omega
        have hkk : decide ((s.size : Int) < (s.size : Int)) = false := decide_eq_false (by omega)
        obtain ⟨hil, A5, c5, rfl, hc5, hrow5⟩ := owns_row hO (by omega)
        have HO := Lib.hid hO
        clear hO hil hrow5
        have l4 : decide ((4 : Int) < (done.length : Int)) = false := decide_eq_false (by omega)
        by_cases e1 : zn = 0
        · have e1' : ((zn : Int) == 0) = true := by rw [beq_iff_eq]; omega
          clear e1
          go_wp2_with fail
          go_quiet (fail)
          go_wp2
          go_ret
          exact ⟨rfl, Go.Proofs.YtjdapfimjpbnmaaDoor.below_drewN hb0 _⟩
        · have e1' : ((zn : Int) == 0) = false := by rw [beq_eq_false_iff_ne]; omega
          have hfin : RelP s.data.toList (s.size + 1) (done ++ [xn]) 0 0 := .inr ⟨congrArg (· + 1) HLen.out.symm, done, xn, zn, rfl, by first | exact HLen.out ▸ HPL.out | (rw [HLen.out]; exact HPL.out), e1⟩
          have HF := Lib.hid hfin
          clear e1 hfin
          generalize hsz : s.size = k at *
          go_wp2_with fail
          go_quiet (fail)
          rename_i nq
          have hO2 := owns_below (owns_below HO.out (Go.Proofs.YtjdapfimjpbnmaaDoor.below_drewN (Below.refl _ _) nq)) ((Below.refl _ (wr.drewN nq)).alloc (Nat.le_refl _) (.cells #[.int .i64 (xn : Int)] 3))
          have hbA := (Go.Proofs.YtjdapfimjpbnmaaDoor.below_drewN hb0 nq).alloc hb0.size (.cells #[.int .i64 (xn : Int)] 3)
          obtain ⟨v3, w5, hrun, hO3, hb3, -⟩ := app1 Tryd.underlying34 info_int rfl ⟨by decide, by decide⟩ w.heap.size _ _ _ _ hO2 (wr.drewN nq).heap.size 1 (.int .i64 (xn : Int)) ((Blk.new (wr.drewN nq) 3 #[.int .i64 (xn : Int)]).cell 0) rfl (by omega) (by have := hb0.size; simp; omega)
          have hb4 := hbA.trans hb3
          have hO4 : w5.ownsRow w.heap.size 3 1 v3 (done ++ [xn]).length (intsV (done ++ [xn])) := by
            rw [show (done ++ [xn]).length = done.length + 1 by simp, show intsV (done ++ [xn]) = intsV done ++ [.int .i64 (xn : Int)] by simp [intsV]]
            exact hO3
          have HO4 := Lib.hid hO4
          clear hO2 hbA hO3 hb3 hb0 hO4
          go_wp2_with (at_builtin; refine wpList_appd rfl _ _ _ _ rfl rfl rfl hrun ?_)
          go_roundw
          case rel => exact ⟨k + 1, done ++ [xn], _, _, by omega, by go_num, congrArg (Value.int .i64) (show (0 : Int) = ((0 : Nat) : Int) from rfl), congrArg (Value.int .i64) (show (0 : Int) = ((0 : Nat) : Int) from rfl), by simp; omega, HO4.out, HF.out, hb4⟩
          case measure => first | (simp [intOf]; done) | (simp [intOf]; omega)
    · obtain rfl : k = s.size + 1 := by omega
      have hfin : ∃ d x0 z, done = d ++ [x0] ∧ PL s.data.toList s.data.toList.length d x0 z ∧ z ≠ 0 := by
        rcases hR with h | ⟨-, h⟩
        · have := h.le
          rw [HLen.out] at this
          omega
        · exact h
      obtain ⟨d, x0, z, rfl, hPL, hz0⟩ := hfin
      obtain ⟨hil, A5, c5, rfl, hc5, hrow5⟩ := owns_row hO (by omega)
      by_cases h5 : (d ++ [x0]).length = 5
      · obtain ⟨n0, n1, n2, n3, rfl, -⟩ := hPL.done hz0 (by simpa using h5)
        obtain ⟨-, -, hrow⟩ := hrow5
        obtain ⟨bk, o, rfl, hbk, hcells⟩ := hrow (by simp)
        have q0 := hcells 0 (.int .i64 (n0 : Int)) rfl
        have q1 := hcells 1 (.int .i64 (n1 : Int)) rfl
        have q2 := hcells 2 (.int .i64 (n2 : Int)) rfl
        have q3 := hcells 3 (.int .i64 (n3 : Int)) rfl
        have q4 := hcells 4 (.int .i64 (x0 : Int)) rfl
        rw [Nat.add_zero] at q0
        have hnone := fun h0 h1 h2 h3 h4 => hPL.none hz0 HP.out h0 h1 h2 h3 h4
        have HN := Lib.hid hnone
        have hl5 : ([n0, n1, n2, n3] ++ [x0]).length = 5 := rfl
        rw [hl5]
        clear hnone hPL hil hO hR h5 hcells hrow hl5 hc5 hz0
        by_cases b0 : (255 : Int) < (n0 : Int)
        · go_wp2
          go_ret
          exact ⟨rfl, hb0⟩
        by_cases b1 : (255 : Int) < (n1 : Int)
        · go_wp2
          go_ret
          exact ⟨rfl, hb0⟩
        by_cases b2 : (255 : Int) < (n2 : Int)
        · go_wp2
          go_ret
          exact ⟨rfl, hb0⟩
        by_cases b3 : (255 : Int) < (n3 : Int)
        · go_wp2
          go_ret
          exact ⟨rfl, hb0⟩
        by_cases b4 : (32 : Int) < (x0 : Int)
        · go_wp2
          go_ret
          exact ⟨rfl, hb0⟩
        replace b0 : (n0 : Int) ≤ 255 := by omega
        replace b1 : (n1 : Int) ≤ 255 := by omega
        replace b2 : (n2 : Int) ≤ 255 := by omega
        replace b3 : (n3 : Int) ≤ 255 := by omega
        replace b4 : (x0 : Int) ≤ 32 := by omega
        go_wp2_with fail
        go_quiet (fail)
        rename_i nq
        have hbq := Go.Proofs.YtjdapfimjpbnmaaDoor.below_drewN hb0 nq
        go_wp2_with fail
        have hN := HN.out (by omega) (by omega) (by omega) (by omega) (by omega)
        refine (law02_Right _ _ _ ⟨by omega, by omega⟩).mono ?_
        rintro e w6 ⟨rfl, hb6⟩
        rw [hN]
        replace hb0 := Go.Proofs.YtjdapfimjpbnmaaDoor.below_step hbq hbq.size hb6
        clear hN
        go_wp2
        go_ret
        exact ⟨rfl, hb0⟩
      · have h5' : (((d ++ [x0]).length : Int) != 5) = true := by simp only [bne_iff_ne]; omega
        clear hPL hz0 hil hrow5 hO hR h5
        generalize (d ++ [x0]).length = L at *
        go_wp2
        go_ret
        exact ⟨rfl, hb0⟩
end Go.Proofs.YtjdapfimjpbnmaaDoor
