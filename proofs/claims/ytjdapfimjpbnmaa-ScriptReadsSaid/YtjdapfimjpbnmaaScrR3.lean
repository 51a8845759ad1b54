import Derived.Test.YtjdapfimjpbnmaaScrR
set_option linter.unusedVariables false
set_option linter.unusedSimpArgs false
namespace Go.Proofs.Ytjdapfimjpbnmaa
open Go.RowKit
open Go.Proofs.YtjdapfimjpbnmaaW.PrintWords (Kd rd below_step own_string)
attribute [-go_sem] Go.run_equalIn_agg
/-! The law ScriptReads, where a net and events were read: the walk. -/
theorem val4s (a b c d : Int) (ha : 0 ≤ a ∧ a ≤ 255) (hb : 0 ≤ b ∧ b ≤ 255) (hc : 0 ≤ c ∧ c ≤ 255) (hd : 0 ≤ d ∧ d ≤ 255) :
    IntKind.u32.wrap (IntKind.u32.wrap (IntKind.u32.wrap (IntKind.u32.wrap (IntKind.u32.wrap a * 16777216) + IntKind.u32.wrap (IntKind.u32.wrap b * 65536)) + IntKind.u32.wrap (IntKind.u32.wrap c * 256)) + IntKind.u32.wrap d) = valB [a, b, c, d] := by
  show _ = (((0 * 256 + a) * 256 + b) * 256 + c) * 256 + d
  simp only [IntKind.wrap_u32]
  omega
theorem alloc_event (a : Act) (w : World) (o : Oper) (h : o.op = .alloc 30) : AllocLike Try.prog o := by
  refine ⟨.cells #[.int .i64 0, .int .i64 0, .int .i64 0, .int .i64 0, .int .u32 0, .int .i64 0, .string ⟨#[]⟩] 30, fun a w => ?_⟩
  have e : (Instr.alloc 30 true (.tuple #[])).run Try.prog w = .ok (.pointer (some ⟨w.heap.size, 0, none⟩)) (w.alloc (.cells #[.int .i64 0, .int .i64 0, .int .i64 0, .int .i64 0, .int .u32 0, .int .i64 0, .string ⟨#[]⟩] 30)) := by kernel_rfl
  have hx : (execOp a.eval o).run Try.prog w = .ok (.value (.pointer (some ⟨w.heap.size, 0, none⟩))) (w.alloc (.cells #[.int .i64 0, .int .i64 0, .int .i64 0, .int .i64 0, .int .u32 0, .int .i64 0, .string ⟨#[]⟩] 30)) := by
    unfold execOp
    simp only [h]
    simp [e]
  refine ⟨hx, ?_⟩
  rintro ⟨h1, -⟩
  have e3 : ((execOp a.eval o).runT Try.prog w #[]).2 = #[] := by
    unfold execOp
    simp only [h]
    first | kernel_rfl | rfl
  rw [e3] at h1
  simp at h1
set_option maxHeartbeats 8000000 in
set_option maxRecDepth 100000 in
theorem law14_Reads_yes (B : List Int) (hB : Byte B) (A : Option Addr) (c : Nat) (w : World) (hC : Kd.C (Kd.int .u8) w A B.length B) (hc : B.length ≤ c) (hl : B.length ≤ 800) (hh : YtjdapfimjpbnmaaQ.PScr.headB B = true) (ys : List YtjdapfimjpbnmaaQ.PScr.Ev) (n kn : Nat) (E : Int) (hK : kn = 3 + n)
    (hdr : YtjdapfimjpbnmaaQ.PScr.decR (B.length + 1) (B.drop 3) [] 3 = (ys, kn, E)) (hn : n ≤ (B.drop 3).length) (hfl : ys.flatMap YtjdapfimjpbnmaaQ.PScr.evBytes = (B.drop 3).take n) (hr : ∀ y ∈ ys, YtjdapfimjpbnmaaQ.PScr.rightE y = true ∧ YtjdapfimjpbnmaaQ.PScr.okE y)
    (hE : (E = 0 ∧ n = (B.drop 3).length) ∨ (E = 6 ∧ n < (B.drop 3).length ∧ YtjdapfimjpbnmaaQ.PScr.oneB ((B.drop 3).drop n) = false)) :
    Calls Try.prog 4 #[.slice A B.length c] w fun e w' => e = .returned (.bool true) ∧ Below w.heap.size w w' := by
  have hH : 3 ≤ B.length ∧ 1 ≤ rd B 0 ∧ rd B 0 ≤ 8 ∧ 1 ≤ YtjdapfimjpbnmaaQ.PScr.netS B ∧ YtjdapfimjpbnmaaQ.PScr.netS B ≤ 512 := by
    have hN : YtjdapfimjpbnmaaQ.PScr.netN B = rd B 0 := rfl
    simp only [YtjdapfimjpbnmaaQ.PScr.headB, Bool.and_eq_true, decide_eq_true_eq, hN] at hh
    omega
  obtain ⟨hH3, hH0, hH8, hS1, hS5⟩ := hH
  have hdec := YtjdapfimjpbnmaaQ.PScr.Decode_nice 0 B hB (by omega)
  have hd : YtjdapfimjpbnmaaQ.PScr.decM B = (YtjdapfimjpbnmaaQ.PScr.netN B, YtjdapfimjpbnmaaQ.PScr.netS B, ys, (kn : Int), E) := by
    unfold YtjdapfimjpbnmaaQ.PScr.decM
    rw [if_neg (by omega), if_pos hh, hdr]
  rw [hd] at hdec
  have hyl : ys.length ≤ 800 := by
    have h1 := flat_ge ys
    rw [hfl] at h1
    simp at h1
    omega
  have hby := YtjdapfimjpbnmaaQ.PScr.Bytes_nice 0 (YtjdapfimjpbnmaaQ.PScr.netN B) (YtjdapfimjpbnmaaQ.PScr.netS B) ys (fun e he => (hr e he).1) (by omega) ⟨by omega, by omega⟩
  rw [head_cut B hB n hH3 ys hfl, ← hK] at hby
  have hKl : kn ≤ B.length ∧ 3 ≤ kn := by rw [List.length_drop] at hn; omega
  have HKN := Lib.hid hK
  clear hK
  have dK1 : decide ((kn : Int) < 3) = false := decide_eq_false (by omega)
  have dK2 : decide ((B.length : Int) < (kn : Int)) = false := decide_eq_false (by omega)
  have dK3 : decide (B.length < kn) = false := decide_eq_false (by omega)
  have dK4 : decide (kn < 3) = false := decide_eq_false (by omega)
  go_enter Try.func4, Try.ntmps4
  go_wp2_with fail
  refine (YtjdapfimjpbnmaaQ.PScr.wayfarerlaw14_head.calls 100 true _ (YtjdapfimjpbnmaaQ.PScr.head_true 40)).mono ?_
  rintro e w1 ⟨rfl, hb⟩
  have d : decide ((800 : Int) < (B.length : Int)) = false := decide_eq_false (by omega)
  replace hC := Kd.C_below hC hb
  go_wp2_with fail
  refine (YtjdapfimjpbnmaaQ.PScr.script_Decode.calls _ A c B _ _ _ _ _ _ hC hc hdec).mono ?_
  rintro e w2 ⟨v, rfl, hR, hb2⟩
  obtain ⟨A2, c2, rfl⟩ := Kd.R_slice hR
  obtain ⟨-, hc2, hCy⟩ := Kd.R_reads' hR
  replace hC := Kd.C_below hC hb2
  replace hb := below_step hb hb.size hb2
  clear hb2 hdec hd hR
  have hNN : YtjdapfimjpbnmaaQ.PScr.netN B = rd B 0 := rfl
  have d3 : decide ((B.length : Int) < 3) = false := decide_eq_false (by omega)
  have hS := scrNetS B hB hH3
  have c0' : decide (rd B 0 < 1) = false := decide_eq_false (by omega)
  have c1' : decide (8 < rd B 0) = false := decide_eq_false (by omega)
  have c2' : decide (IntKind.i64.wrap (IntKind.i64.wrap (256 * IntKind.i64.wrap (rd B 1)) + IntKind.i64.wrap (rd B 2)) < 1) = false := decide_eq_false (by rw [hS]; omega)
  have c3' : decide (512 < IntKind.i64.wrap (IntKind.i64.wrap (256 * IntKind.i64.wrap (rd B 1)) + IntKind.i64.wrap (rd B 2))) = false := decide_eq_false (by rw [hS]; omega)
  have HS := Lib.hid (And.intro hS1 hS5)
  have HH := Lib.hid (And.intro hH0 (And.intro hH8 hS))
  clear hS1 hS5 hS hH0 hH8
  rw [hNN] at *
  have HC := Lib.hid hC
  obtain ⟨ad, eA, x0⟩ := Kd.at_int hC 0 (by omega) (by omega)
  obtain ⟨ad1, eA1, x1⟩ := Kd.at_int hC 1 (by omega) (by omega)
  obtain ⟨ad2, eA2, x2⟩ := Kd.at_int hC 2 (by omega) (by omega)
  subst eA
  cases eA1
  cases eA2
  simp only [show (0 : Int).toNat = 0 from rfl, show (1 : Int).toNat = 1 from rfl, show (2 : Int).toNat = 2 from rfl, Go.Addr.add, Nat.reduceEqDiff, ↓reduceIte] at x0 x1 x2
  have hlb := World.block_lt_of_cell? _ _ x0
  have d0' : 0 < B.length := by omega
  have d1' : 1 < B.length := by omega
  have d2' : 2 < B.length := by omega
  have d0 : (0 : Int) < (B.length : Int) := by omega
  have d1 : (1 : Int) < (B.length : Int) := by omega
  have d2 : (2 : Int) < (B.length : Int) := by omega
  go_wp2_with fail
  refine draw_start [] Later (by kernel_rfl) ?_
  refine draw_chunk (n := 195) (by kernel_rfl) (fun _ _ _ _ _ h => h) [0, 1, 2, 3, 4, 5, 6, 7, 8, 9, 10, 11, 12, 13, 14, 15, 16, 17, 18, 19, 20, 21, 22, 23, 24, 25, 26, 27, 28, 29, 30, 31, 32, 33, 34, 35, 36, 37, 38, 39, 40] [] _ #[true, true, true, true, true, true, true, true, true, true, true, true, true, true, true, true, true, true, true, true, true, true, true, true, true, true, true, true, true, true, true, true, true, true, true, true, true, true, true, true, true] (by kernel_rfl) 0 _ ?_ _ rfl ?_ ?_
  rotate_left
  · intro w' hw'
    have hc' : ∀ b o, b < w2.heap.size → w'.cell? ⟨b, o, none⟩ = w2.cell? ⟨b, o, none⟩ := (bcell hw').1
    have y0 := (Below.cell (p := ad) hw' hlb).trans x0; have y1 := (hc' ad.block (ad.off + 1) hlb).trans x1; have y2 := (hc' ad.block (ad.off + 2) hlb).trans x2
    refine ci_step (i := 0) (v := ?_) rfl (by kernel_rfl) ?_ ?_
    rotate_left
    · first | (go_simp; done) | (go_simp; with_reducible rfl)
    skip
    try simp only [Act.put, List.setIfInBounds_toArray, List.set_cons_zero, List.set_cons_succ]
    refine ci_step (i := 1) (v := ?_) rfl (by kernel_rfl) ?_ ?_
    rotate_left
    · first | (go_simp; done) | (go_simp; with_reducible rfl)
    skip
    try simp only [Act.put, List.setIfInBounds_toArray, List.set_cons_zero, List.set_cons_succ]
    refine ci_step (i := 2) (v := ?_) rfl (by kernel_rfl) ?_ ?_
    rotate_left
    · first | (go_simp; done) | (go_simp; with_reducible rfl)
    skip
    try simp only [Act.put, List.setIfInBounds_toArray, List.set_cons_zero, List.set_cons_succ]
    refine ci_step (i := 3) (v := ?_) rfl (by kernel_rfl) ?_ ?_
    rotate_left
    · first | (go_simp; done) | (go_simp; with_reducible rfl)
    skip
    try simp only [Act.put, List.setIfInBounds_toArray, List.set_cons_zero, List.set_cons_succ]
    refine ci_step (i := 4) (v := ?_) rfl (by kernel_rfl) ?_ ?_
    rotate_left
    · first | (go_simp; done) | (go_simp; with_reducible rfl)
    skip
    try simp only [Act.put, List.setIfInBounds_toArray, List.set_cons_zero, List.set_cons_succ]
    refine ci_step (i := 5) (v := ?_) rfl (by kernel_rfl) ?_ ?_
    rotate_left
    · first | (go_simp; done) | (go_simp; with_reducible rfl)
    skip
    try simp only [Act.put, List.setIfInBounds_toArray, List.set_cons_zero, List.set_cons_succ]
    refine ci_step (i := 6) (v := ?_) rfl (by kernel_rfl) ?_ ?_
    rotate_left
    · first | (go_simp; done) | (go_simp; with_reducible rfl)
    skip
    try simp only [Act.put, List.setIfInBounds_toArray, List.set_cons_zero, List.set_cons_succ]
    refine ci_step (i := 7) (v := ?_) rfl (by kernel_rfl) ?_ ?_
    rotate_left
    · first | (go_simp; done) | (go_simp; with_reducible rfl)
    skip
    try simp only [Act.put, List.setIfInBounds_toArray, List.set_cons_zero, List.set_cons_succ]
    refine ci_step (i := 8) (v := ?_) rfl (by kernel_rfl) ?_ ?_
    rotate_left
    · first | (go_simp; done) | (go_simp; with_reducible rfl)
    skip
    try simp only [Act.put, List.setIfInBounds_toArray, List.set_cons_zero, List.set_cons_succ]
    refine ci_step (i := 9) (v := ?_) rfl (by kernel_rfl) ?_ ?_
    rotate_left
    · first | (go_simp; done) | (go_simp; with_reducible rfl)
    skip
    try simp only [Act.put, List.setIfInBounds_toArray, List.set_cons_zero, List.set_cons_succ]
    refine ci_step (i := 10) (v := ?_) rfl (by kernel_rfl) ?_ ?_
    rotate_left
    · first | (go_simp; done) | (go_simp; with_reducible rfl)
    skip
    try simp only [Act.put, List.setIfInBounds_toArray, List.set_cons_zero, List.set_cons_succ]
    refine ci_step (i := 11) (v := ?_) rfl (by kernel_rfl) ?_ ?_
    rotate_left
    · first | (go_simp; done) | (go_simp; with_reducible rfl)
    skip
    try simp only [Act.put, List.setIfInBounds_toArray, List.set_cons_zero, List.set_cons_succ]
    refine ci_step (i := 12) (v := ?_) rfl (by kernel_rfl) ?_ ?_
    rotate_left
    · first | (go_simp; done) | (go_simp; with_reducible rfl)
    skip
    try simp only [Act.put, List.setIfInBounds_toArray, List.set_cons_zero, List.set_cons_succ]
    refine ci_step (i := 13) (v := ?_) rfl (by kernel_rfl) ?_ ?_
    rotate_left
    · first | (go_simp; done) | (go_simp; with_reducible rfl)
    skip
    try simp only [Act.put, List.setIfInBounds_toArray, List.set_cons_zero, List.set_cons_succ]
    refine ci_step (i := 14) (v := ?_) rfl (by kernel_rfl) ?_ ?_
    rotate_left
    · first | (go_simp; done) | (go_simp; with_reducible rfl)
    skip
    try simp only [Act.put, List.setIfInBounds_toArray, List.set_cons_zero, List.set_cons_succ]
    refine ci_step (i := 15) (v := ?_) rfl (by kernel_rfl) ?_ ?_
    rotate_left
    · first | (go_simp; done) | (go_simp; with_reducible rfl)
    skip
    try simp only [Act.put, List.setIfInBounds_toArray, List.set_cons_zero, List.set_cons_succ]
    refine ci_step (i := 16) (v := ?_) rfl (by kernel_rfl) ?_ ?_
    rotate_left
    · first | (go_simp; done) | (go_simp; with_reducible rfl)
    skip
    try simp only [Act.put, List.setIfInBounds_toArray, List.set_cons_zero, List.set_cons_succ]
    refine ci_step (i := 17) (v := ?_) rfl (by kernel_rfl) ?_ ?_
    rotate_left
    · first | (go_simp; done) | (go_simp; with_reducible rfl)
    skip
    try simp only [Act.put, List.setIfInBounds_toArray, List.set_cons_zero, List.set_cons_succ]
    refine ci_step (i := 18) (v := ?_) rfl (by kernel_rfl) ?_ ?_
    rotate_left
    · first | (go_simp; done) | (go_simp; with_reducible rfl)
    skip
    try simp only [Act.put, List.setIfInBounds_toArray, List.set_cons_zero, List.set_cons_succ]
    refine ci_step (i := 19) (v := ?_) rfl (by kernel_rfl) ?_ ?_
    rotate_left
    · first | (go_simp; done) | (go_simp; with_reducible rfl)
    skip
    try simp only [Act.put, List.setIfInBounds_toArray, List.set_cons_zero, List.set_cons_succ]
    refine ci_step (i := 20) (v := ?_) rfl (by kernel_rfl) ?_ ?_
    rotate_left
    · first | (go_simp; done) | (go_simp; with_reducible rfl)
    skip
    try simp only [Act.put, List.setIfInBounds_toArray, List.set_cons_zero, List.set_cons_succ]
    refine ci_step (i := 21) (v := ?_) rfl (by kernel_rfl) ?_ ?_
    rotate_left
    · first | (go_simp; done) | (go_simp; with_reducible rfl)
    skip
    try simp only [Act.put, List.setIfInBounds_toArray, List.set_cons_zero, List.set_cons_succ]
    refine ci_step (i := 22) (v := ?_) rfl (by kernel_rfl) ?_ ?_
    rotate_left
    · first | (go_simp; done) | (go_simp; with_reducible rfl)
    skip
    try simp only [Act.put, List.setIfInBounds_toArray, List.set_cons_zero, List.set_cons_succ]
    refine ci_step (i := 23) (v := ?_) rfl (by kernel_rfl) ?_ ?_
    rotate_left
    · first | (go_simp; done) | (go_simp; with_reducible rfl)
    skip
    try simp only [Act.put, List.setIfInBounds_toArray, List.set_cons_zero, List.set_cons_succ]
    refine ci_step (i := 24) (v := ?_) rfl (by kernel_rfl) ?_ ?_
    rotate_left
    · first | (go_simp; done) | (go_simp; with_reducible rfl)
    skip
    try simp only [Act.put, List.setIfInBounds_toArray, List.set_cons_zero, List.set_cons_succ]
    refine ci_step (i := 25) (v := ?_) rfl (by kernel_rfl) ?_ ?_
    rotate_left
    · first | (go_simp; done) | (go_simp; with_reducible rfl)
    skip
    try simp only [Act.put, List.setIfInBounds_toArray, List.set_cons_zero, List.set_cons_succ]
    refine ci_step (i := 26) (v := ?_) rfl (by kernel_rfl) ?_ ?_
    rotate_left
    · first | (go_simp; done) | (go_simp; with_reducible rfl)
    skip
    try simp only [Act.put, List.setIfInBounds_toArray, List.set_cons_zero, List.set_cons_succ]
    refine ci_step (i := 27) (v := ?_) rfl (by kernel_rfl) ?_ ?_
    rotate_left
    · first | (go_simp; done) | (go_simp; with_reducible rfl)
    skip
    try simp only [Act.put, List.setIfInBounds_toArray, List.set_cons_zero, List.set_cons_succ]
    refine ci_step (i := 28) (v := ?_) rfl (by kernel_rfl) ?_ ?_
    rotate_left
    · first | (go_simp; done) | (go_simp; with_reducible rfl)
    skip
    try simp only [Act.put, List.setIfInBounds_toArray, List.set_cons_zero, List.set_cons_succ]
    refine ci_step (i := 29) (v := ?_) rfl (by kernel_rfl) ?_ ?_
    rotate_left
    · first | (go_simp; done) | (go_simp; with_reducible rfl)
    skip
    try simp only [Act.put, List.setIfInBounds_toArray, List.set_cons_zero, List.set_cons_succ]
    refine ci_step (i := 30) (v := ?_) rfl (by kernel_rfl) ?_ ?_
    rotate_left
    · first | (go_simp; done) | (go_simp; with_reducible rfl)
    skip
    try simp only [Act.put, List.setIfInBounds_toArray, List.set_cons_zero, List.set_cons_succ]
    refine ci_step (i := 31) (v := ?_) rfl (by kernel_rfl) ?_ ?_
    rotate_left
    · first | (go_simp; done) | (go_simp; with_reducible rfl)
    skip
    try simp only [Act.put, List.setIfInBounds_toArray, List.set_cons_zero, List.set_cons_succ]
    refine ci_step (i := 32) (v := ?_) rfl (by kernel_rfl) ?_ ?_
    rotate_left
    · first | (go_simp; done) | (go_simp; with_reducible rfl)
    skip
    try simp only [Act.put, List.setIfInBounds_toArray, List.set_cons_zero, List.set_cons_succ]
    refine ci_step (i := 33) (v := ?_) rfl (by kernel_rfl) ?_ ?_
    rotate_left
    · first | (go_simp; done) | (go_simp; with_reducible rfl)
    skip
    try simp only [Act.put, List.setIfInBounds_toArray, List.set_cons_zero, List.set_cons_succ]
    refine ci_step (i := 34) (v := ?_) rfl (by kernel_rfl) ?_ ?_
    rotate_left
    · first | (go_simp; done) | (go_simp; with_reducible rfl)
    skip
    try simp only [Act.put, List.setIfInBounds_toArray, List.set_cons_zero, List.set_cons_succ]
    refine ci_step (i := 35) (v := ?_) rfl (by kernel_rfl) ?_ ?_
    rotate_left
    · first | (go_simp; done) | (go_simp; with_reducible rfl)
    skip
    try simp only [Act.put, List.setIfInBounds_toArray, List.set_cons_zero, List.set_cons_succ]
    refine ci_step (i := 36) (v := ?_) rfl (by kernel_rfl) ?_ ?_
    rotate_left
    · first | (go_simp; done) | (go_simp; with_reducible rfl)
    skip
    try simp only [Act.put, List.setIfInBounds_toArray, List.set_cons_zero, List.set_cons_succ]
    refine ci_step (i := 37) (v := ?_) rfl (by kernel_rfl) ?_ ?_
    rotate_left
    · first | (go_simp; done) | (go_simp; with_reducible rfl)
    skip
    try simp only [Act.put, List.setIfInBounds_toArray, List.set_cons_zero, List.set_cons_succ]
    refine ci_step (i := 38) (v := ?_) rfl (by kernel_rfl) ?_ ?_
    rotate_left
    · first | (go_simp; done) | (go_simp; with_reducible rfl)
    skip
    try simp only [Act.put, List.setIfInBounds_toArray, List.set_cons_zero, List.set_cons_succ]
    refine ci_step (i := 39) (v := ?_) rfl (by kernel_rfl) ?_ ?_
    rotate_left
    · first | (go_simp; done) | (go_simp; with_reducible rfl)
    skip
    try simp only [Act.put, List.setIfInBounds_toArray, List.set_cons_zero, List.set_cons_succ]
    refine ci_step (i := 40) (v := ?_) rfl (by kernel_rfl) ?_ ?_
    rotate_left
    · first | (go_simp; done) | (go_simp; with_reducible rfl)
    skip
    try simp only [Act.put, List.setIfInBounds_toArray, List.set_cons_zero, List.set_cons_succ]
    refine ci_end ?_
    rfl
  refine draw_done (by kernel_rfl) ?_ _
  clear x0 x1 x2 hlb c0' c1' c2' c3' d3
  replace hCy := Kd.C_drew hCy
  replace hC := Kd.C_drew HC.out
  replace hb := Below.drew hb
  clear HC
  generalize w2.drew = w3 at *
  go_wp2
  go_loopw [88] (fun i wr => ∃ k : Nat, k ≤ ys.length ∧ i = .int .i64 k ∧ Kd.C YtjdapfimjpbnmaaQ.PScr.k30 wr A2 ys.length ys ∧ Kd.C (Kd.int .u8) wr (some ad) B.length B ∧ Below w.heap.size w wr) (fun i _ => ys.length - (intOf i).toNat)
  case atStart => exact ⟨0, by omega, rfl, hCy, hC, hb⟩
  case round =>
    clear hCy hC hb
    obtain ⟨k, hk, rfl, hCy, hC, hb⟩ := hrel
    by_cases hlt : k < ys.length
    · obtain ⟨ad2, eA, e0, e1, e2, e3, e4, e5, e6⟩ := YtjdapfimjpbnmaaQ.PScr.at_T30 hCy (k : Int) (by omega) (by omega)
      subst eA
      rw [Int.toNat_natCast] at e0 e1 e2 e3 e4 e5 e6
      have hry := hr ys[k] (List.getElem_mem hlt)
      rw [YtjdapfimjpbnmaaQ.PScr.rd_T ys k hlt] at e0 e1 e2 e3 e4 e5 e6
      generalize ys[k] = y at *
      obtain ⟨y0, y1, y2, y3, ⟨y4, y5⟩, y6⟩ := y
      have hRt : YtjdapfimjpbnmaaQ.PScr.wayfarerlaw14_Right.f y0 y1 y2 y3 y4 y5 y6 = some true := by
        unfold YtjdapfimjpbnmaaQ.PScr.wayfarerlaw14_Right.f
        rw [if_pos (show 0 ≤ y4 ∧ y4 ≤ 4294967295 from hry.2)]
        exact congrArg some hry.1
      simp only at e0 e1 e2 e3 e4 e5 e6
      go_wp2_with fail
      refine (YtjdapfimjpbnmaaQ.PScr.wayfarerlaw14_Right.calls _ _ _ _ _ _ _ _ _ hRt).mono ?_
      rintro e w4 ⟨rfl, hb4⟩
      have hbA := ((Below.refl wr.heap.size wr).alloc (Nat.le_refl _) (.cells #[.int .i64 y0, .int .i64 y1, .int .i64 y2, .int .i64 y3, .int .u32 y4, .int .i64 y5, .string y6] 30)).trans (hb4.mono (by simp))
      replace hCy := Kd.C_below hCy hbA
      replace hC := Kd.C_below hC hbA
      replace hb := below_step hb hb.size hbA
      clear hbA hb4 e0 e1 e2 e3 e4 e5 e6 hry
      go_wp2
      go_roundw
      case rel => exact ⟨k + 1, by omega, by go_num, hCy, hC, hb⟩
      case measure => simp [intOf]; omega
    · obtain rfl : k = ys.length := by omega
      have hKc : (kn : Int) ≤ (c : Int) := by omega
      have hK0 : (0 : Int) ≤ (kn : Int) := by omega
      have HE := Lib.hid hE
      have HDR := Lib.hid (And.intro hdr (And.intro hn HKN.out))
      clear hE hdr hn HKN hfl hr
      have hCk := cTake kn hC hKl.1
      go_wp2_with fail
      refine draw_start [] Later (by kernel_rfl) ?_
      refine draw_chunk (n := 195) (by kernel_rfl) (fun _ _ _ _ _ h => h) [0, 1, 2, 3, 4, 5, 6, 7, 8, 9, 10, 11, 14, 15, 16, 17] [] _ #[true, true, true, true, true, true, true, true, true, true, true, true, false, false, true, true, true, true, false, false] (by kernel_rfl) 4 _ ?_ _ rfl ?_ ?_
      rotate_left
      · intro w' hw'
        have hc' : ∀ b o, b < wr.heap.size → w'.cell? ⟨b, o, none⟩ = wr.cell? ⟨b, o, none⟩ := (bcell hw').1
        have hcv := Kd.C_string (P := Try.prog) Try.underlying32 Try.underlying5 Try.underlying9 (n := kn) (c := c) (Kd.C_below (Kd.C_drew hCk) hw')
        refine ci_step (i := 0) (v := ?_) rfl (by kernel_rfl) ?_ ?_
        rotate_left
        · first | (go_simp; done) | (go_simp; with_reducible rfl)
        skip
        try simp only [Act.put, List.setIfInBounds_toArray, List.set_cons_zero, List.set_cons_succ]
        refine ci_step (i := 1) (v := ?_) rfl (by kernel_rfl) ?_ ?_
        rotate_left
        · first | (go_simp; done) | (go_simp; with_reducible rfl)
        skip
        try simp only [Act.put, List.setIfInBounds_toArray, List.set_cons_zero, List.set_cons_succ]
        refine ci_step (i := 2) (v := ?_) rfl (by kernel_rfl) ?_ ?_
        rotate_left
        · first | (go_simp; done) | (go_simp; with_reducible rfl)
        skip
        try simp only [Act.put, List.setIfInBounds_toArray, List.set_cons_zero, List.set_cons_succ]
        refine ci_step (i := 3) (v := ?_) rfl (by kernel_rfl) ?_ ?_
        rotate_left
        · first | (go_simp; done) | (go_simp; with_reducible rfl)
        skip
        try simp only [Act.put, List.setIfInBounds_toArray, List.set_cons_zero, List.set_cons_succ]
        refine ci_step (i := 4) (v := ?_) rfl (by kernel_rfl) ?_ ?_
        rotate_left
        · first | (go_simp; done) | (go_simp; with_reducible rfl)
        skip
        try simp only [Act.put, List.setIfInBounds_toArray, List.set_cons_zero, List.set_cons_succ]
        refine ci_step (i := 5) (v := ?_) rfl (by kernel_rfl) ?_ ?_
        rotate_left
        · first | (go_simp; done) | (go_simp; with_reducible rfl)
        skip
        try simp only [Act.put, List.setIfInBounds_toArray, List.set_cons_zero, List.set_cons_succ]
        refine ci_step (i := 6) (v := ?_) rfl (by kernel_rfl) ?_ ?_
        rotate_left
        · first | (go_simp; done) | (go_simp; with_reducible rfl)
        skip
        try simp only [Act.put, List.setIfInBounds_toArray, List.set_cons_zero, List.set_cons_succ]
        refine ci_step (i := 7) (v := ?_) rfl (by kernel_rfl) ?_ ?_
        rotate_left
        · first | (go_simp; done) | (go_simp; with_reducible rfl)
        skip
        try simp only [Act.put, List.setIfInBounds_toArray, List.set_cons_zero, List.set_cons_succ]
        refine ci_step (i := 8) (v := ?_) rfl (by kernel_rfl) ?_ ?_
        rotate_left
        · first | (go_simp; done) | (go_simp; with_reducible rfl)
        skip
        try simp only [Act.put, List.setIfInBounds_toArray, List.set_cons_zero, List.set_cons_succ]
        refine ci_step (i := 9) (v := ?_) rfl (by kernel_rfl) ?_ ?_
        rotate_left
        · first | (go_simp; done) | (go_simp; with_reducible rfl)
        skip
        try simp only [Act.put, List.setIfInBounds_toArray, List.set_cons_zero, List.set_cons_succ]
        refine ci_step (i := 10) (v := ?_) rfl (by kernel_rfl) ?_ ?_
        rotate_left
        · first | (go_simp; done) | (go_simp; with_reducible rfl)
        skip
        try simp only [Act.put, List.setIfInBounds_toArray, List.set_cons_zero, List.set_cons_succ]
        refine ci_step (i := 11) (v := ?_) rfl (by kernel_rfl) ?_ ?_
        rotate_left
        · first | (go_simp; done) | (go_simp; with_reducible rfl)
        skip
        try simp only [Act.put, List.setIfInBounds_toArray, List.set_cons_zero, List.set_cons_succ]
        refine ci_step (i := 14) (v := ?_) rfl (by kernel_rfl) ?_ ?_
        rotate_left
        · first | (go_simp; done) | (go_simp; with_reducible rfl)
        skip
        try simp only [Act.put, List.setIfInBounds_toArray, List.set_cons_zero, List.set_cons_succ]
        refine ci_step (i := 15) (v := ?_) rfl (by kernel_rfl) ?_ ?_
        rotate_left
        · first | (go_simp; done) | (go_simp; with_reducible rfl)
        skip
        try simp only [Act.put, List.setIfInBounds_toArray, List.set_cons_zero, List.set_cons_succ]
        refine ci_step (i := 16) (v := ?_) rfl (by kernel_rfl) ?_ ?_
        rotate_left
        · first | (go_simp; done) | (go_simp; with_reducible rfl)
        skip
        try simp only [Act.put, List.setIfInBounds_toArray, List.set_cons_zero, List.set_cons_succ]
        refine ci_step (i := 17) (v := ?_) rfl (by kernel_rfl) ?_ ?_
        rotate_left
        · first | (go_simp; done) | (go_simp; with_reducible rfl)
        skip
        try simp only [Act.put, List.setIfInBounds_toArray, List.set_cons_zero, List.set_cons_succ]
        refine ci_end ?_
        rfl
      refine draw_eff (i := 12) rfl (by kernel_rfl) (listed' := #[true, true, true, true, true, true, true, true, true, true, true, true, true, false, true, true, true, true, false, false]) rfl (fun K hK => ?_)
      replace hK := Lib.hid hK
      go_wp2_with fail
      refine (YtjdapfimjpbnmaaQ.PScr.wayfarerlaw14_Bytes.calls _ _ _ A2 c2 ys _ _ (Kd.C_drew hCy) hc2 hby).mono ?_
      rintro e w4 ⟨vB, rfl, hR4, hb3⟩
      go_wp2_with fail
      refine hK.out _ _ ⟨fun _ => hb3, ?_⟩
      clear hK
      replace hC := Kd.C_below (Kd.C_drew hC) hb3
      replace hb := below_step (Below.drew hb) hb.size hb3
      clear hb3 hCk hCy
      refine draw_chunk (n := 195) (by kernel_rfl) (fun _ _ _ _ _ h => h) [13, 18, 19] [] _ #[true, true, true, true, true, true, true, true, true, true, true, true, true, true, true, true, true, true, true, true] (by kernel_rfl) 0 _ ?_ _ rfl ?_ ?_
      rotate_left
      · intro w' hw'
        have hc' : ∀ b o, b < w4.heap.size → w'.cell? ⟨b, o, none⟩ = w4.cell? ⟨b, o, none⟩ := (bcell hw').1
        have hcv := own_string (P := Try.prog) Try.underlying32 Try.underlying5 Try.underlying9 (Kd.own_of_R (Kd.R_below hR4 hw'))
        refine ci_step (i := 13) (v := ?_) rfl (by kernel_rfl) ?_ ?_
        rotate_left
        · first | (go_simp; done) | (go_simp; with_reducible rfl)
        skip
        try simp only [Act.put, List.setIfInBounds_toArray, List.set_cons_zero, List.set_cons_succ]
        refine ci_step (i := 18) (v := ?_) rfl (by kernel_rfl) ?_ ?_
        rotate_left
        · first | (go_simp; done) | (go_simp; with_reducible rfl)
        skip
        try simp only [Act.put, List.setIfInBounds_toArray, List.set_cons_zero, List.set_cons_succ]
        refine ci_step (i := 19) (v := ?_) rfl (by kernel_rfl) ?_ ?_
        rotate_left
        · first | (go_simp; done) | (go_simp; with_reducible rfl)
        skip
        try simp only [Act.put, List.setIfInBounds_toArray, List.set_cons_zero, List.set_cons_succ]
        refine ci_end ?_
        rfl
      refine draw_done (by kernel_rfl) ?_ _
      clear hR4
      obtain ⟨-, hn, hK3⟩ := HDR.out
      rw [List.length_drop] at hn
      rcases HE.out with ⟨hE0, hnn⟩ | ⟨hE6, hnn, hone⟩
      · rw [List.length_drop] at hnn
        obtain rfl : kn = B.length := by omega
        clear hn hK3 hnn
        subst hE0
        by_cases hcB : c = B.length
        · have hcB' : (c = B.length) = True := eq_true hcB
          go_wp2
          go_ret
          exact ⟨rfl, hb.alloc hb.size _⟩
        · have hcB' : (c = B.length) = False := eq_false hcB
          go_wp2
          go_ret
          exact ⟨rfl, hb.alloc hb.size _⟩
      · rw [List.length_drop] at hnn
        have hkl : kn < B.length := by omega
        have hcB : (c = kn) = False := eq_false (by omega)
        subst hE6
        have hCR := cDrop kn hC hkl
        have hRl : (B.drop kn).length = B.length - kn := List.length_drop
        have hBR : Byte (B.drop kn) := hB.drop _
        rw [List.drop_drop, ← hK3] at hone
        have hrn : B.length = kn + (B.drop kn).length := by omega
        have hRp : 0 < (B.drop kn).length := by omega
        have hRc : (B.drop kn).length ≤ c - kn := by omega
        clear HE HDR hK3 hby hC hB hRl hNN HS HH
        generalize B.drop kn = R at *
        rw [hrn] at *
        clear d0' d1' d2' d0 d1 d2 dK1 dK2 dK3 dK4 hKl d hn hH3 hyl hc2 hk hnn hlt
        have q0 : ((R.length : Int) == 0) = false := beq_eq_false_iff_ne.2 (by omega)
        have q1 : IntKind.i64.wrap 16 = 16 := by decide
        go_wp2_with fail
        have kR0 := Blk.new w4 32 #[.slice (some (ad.add kn)) R.length (c - kn)]
        have hbA := (Below.refl w4.heap.size w4).alloc (Nat.le_refl _) (.cells #[.slice (some (ad.add kn)) R.length (c - kn)] 32)
        replace hCR := Kd.C_below hCR hbA
        replace hb := below_step hb hb.size hbA
        clear hbA hkl hcB
        generalize w4.alloc (.cells #[.slice (some (ad.add kn)) R.length (c - kn)] 32) = W at *
        generalize w4.heap.size = g at *
        generalize ad.add kn = ar at *
        generalize c - kn = cr at *
        have hlg := kR0.lt
        have b0 := kR0.cell 0
        simp only [List.getElem?_toArray, List.getElem?_cons_zero] at b0
        by_cases h16 : R.length < 16
        · have h16a : decide ((R.length : Int) < 16) = true := decide_eq_true (by omega)
          have h16b : decide (R.length < 16) = true := decide_eq_true (by omega)
          clear hCR h16
          refine draw_start [] Later (by kernel_rfl) ?_
          refine draw_chunk (n := 195) (by kernel_rfl) (fun _ _ _ _ _ h => h) [0, 1, 2, 3, 4, 5, 6, 7, 8, 9, 10, 11, 12] [] _ #[true, true, true, true, true, true, true, true, true, true, true, true, true] (by kernel_rfl) 0 _ ?_ _ rfl ?_ ?_
          rotate_left
          · intro w' hw'
            have hc' : ∀ b o, b < W.heap.size → w'.cell? ⟨b, o, none⟩ = W.cell? ⟨b, o, none⟩ := (bcell hw').1
            have z0 := (hc' g 0 hlg).trans b0
            refine ci_step (i := 0) (v := ?_) rfl (by kernel_rfl) ?_ ?_
            rotate_left
            · first | (go_simp; done) | (go_simp; with_reducible rfl)
            skip
            try simp only [Act.put, List.setIfInBounds_toArray, List.set_cons_zero, List.set_cons_succ]
            refine ci_step (i := 1) (v := ?_) rfl (by kernel_rfl) ?_ ?_
            rotate_left
            · first | (go_simp; done) | (go_simp; with_reducible rfl)
            skip
            try simp only [Act.put, List.setIfInBounds_toArray, List.set_cons_zero, List.set_cons_succ]
            refine ci_step (i := 2) (v := ?_) rfl (by kernel_rfl) ?_ ?_
            rotate_left
            · first | (go_simp; done) | (go_simp; with_reducible rfl)
            skip
            try simp only [Act.put, List.setIfInBounds_toArray, List.set_cons_zero, List.set_cons_succ]
            refine ci_step (i := 3) (v := ?_) rfl (by kernel_rfl) ?_ ?_
            rotate_left
            · first | (go_simp; done) | (go_simp; with_reducible rfl)
            skip
            try simp only [Act.put, List.setIfInBounds_toArray, List.set_cons_zero, List.set_cons_succ]
            refine ci_off (i := 4) rfl (by kernel_rfl) ?_
            try simp only [Act.put, List.setIfInBounds_toArray, List.set_cons_zero, List.set_cons_succ]
            refine ci_off (i := 5) rfl (by kernel_rfl) ?_
            try simp only [Act.put, List.setIfInBounds_toArray, List.set_cons_zero, List.set_cons_succ]
            refine ci_off (i := 6) rfl (by kernel_rfl) ?_
            try simp only [Act.put, List.setIfInBounds_toArray, List.set_cons_zero, List.set_cons_succ]
            refine ci_off (i := 7) rfl (by kernel_rfl) ?_
            try simp only [Act.put, List.setIfInBounds_toArray, List.set_cons_zero, List.set_cons_succ]
            refine ci_off (i := 8) rfl (by kernel_rfl) ?_
            try simp only [Act.put, List.setIfInBounds_toArray, List.set_cons_zero, List.set_cons_succ]
            refine ci_off (i := 9) rfl (by kernel_rfl) ?_
            try simp only [Act.put, List.setIfInBounds_toArray, List.set_cons_zero, List.set_cons_succ]
            refine ci_off (i := 10) rfl (by kernel_rfl) ?_
            try simp only [Act.put, List.setIfInBounds_toArray, List.set_cons_zero, List.set_cons_succ]
            refine ci_off (i := 11) rfl (by kernel_rfl) ?_
            try simp only [Act.put, List.setIfInBounds_toArray, List.set_cons_zero, List.set_cons_succ]
            refine ci_step (i := 12) (v := ?_) rfl (by kernel_rfl) ?_ ?_
            rotate_left
            · first | (go_simp; done) | (go_simp; with_reducible rfl)
            skip
            try simp only [Act.put, List.setIfInBounds_toArray, List.set_cons_zero, List.set_cons_succ]
            refine ci_end ?_
            rfl
          refine draw_done (by kernel_rfl) ?_ _
          go_wp2
          go_ret
          exact ⟨rfl, Below.drew hb⟩
        · have h16a : decide ((R.length : Int) < 16) = false := decide_eq_false (by omega)
          have h16b : decide (R.length < 16) = false := decide_eq_false (by omega)
          obtain ⟨ad1, eA1, x15⟩ := Kd.at_int hCR 15 (by omega) (by omega)
          cases eA1
          simp only [show (15 : Int).toNat = 15 from rfl, Go.Addr.add, Nat.reduceEqDiff, ↓reduceIte] at x15
          have r15 : 0 ≤ rd R 15 ∧ rd R 15 ≤ 255 := YtjdapfimjpbnmaaQ.PScr.rd_bd R hBR 15 (by omega)
          have hlb := World.block_lt_of_cell? _ _ x15
          have w15 : IntKind.i64.wrap (16 + IntKind.i64.wrap (rd R 15)) = 16 + rd R 15 := by simp only [IntKind.wrap_i64]; omega
          have hR16 : 16 ≤ R.length := by omega
          have i15 : (15 : Int) < (R.length : Int) := by omega
          have i15' : 15 < R.length := by omega
          clear h16 q0 q1
          by_cases hlp : (R.length : Int) < 16 + rd R 15
          · have hlp' : decide ((R.length : Int) < 16 + rd R 15) = true := decide_eq_true hlp
            clear hCR hlp
            refine draw_start [] Later (by kernel_rfl) ?_
            refine draw_chunk (n := 195) (by kernel_rfl) (fun _ _ _ _ _ h => h) [0, 1, 2, 3, 4, 5, 6, 7, 8, 9, 10, 11, 12] [] _ #[true, true, true, true, true, true, true, true, true, true, true, true, true] (by kernel_rfl) 0 _ ?_ _ rfl ?_ ?_
            rotate_left
            · intro w' hw'
              have hc' : ∀ b o, b < W.heap.size → w'.cell? ⟨b, o, none⟩ = W.cell? ⟨b, o, none⟩ := (bcell hw').1
              have z0 := (hc' g 0 hlg).trans b0; have z15 := (hc' ar.block (ar.off + 15) hlb).trans x15
              refine ci_step (i := 0) (v := ?_) rfl (by kernel_rfl) ?_ ?_
              rotate_left
              · first | (go_simp; done) | (go_simp; with_reducible rfl)
              skip
              try simp only [Act.put, List.setIfInBounds_toArray, List.set_cons_zero, List.set_cons_succ]
              refine ci_step (i := 1) (v := ?_) rfl (by kernel_rfl) ?_ ?_
              rotate_left
              · first | (go_simp; done) | (go_simp; with_reducible rfl)
              skip
              try simp only [Act.put, List.setIfInBounds_toArray, List.set_cons_zero, List.set_cons_succ]
              refine ci_step (i := 2) (v := ?_) rfl (by kernel_rfl) ?_ ?_
              rotate_left
              · first | (go_simp; done) | (go_simp; with_reducible rfl)
              skip
              try simp only [Act.put, List.setIfInBounds_toArray, List.set_cons_zero, List.set_cons_succ]
              refine ci_step (i := 3) (v := ?_) rfl (by kernel_rfl) ?_ ?_
              rotate_left
              · first | (go_simp; done) | (go_simp; with_reducible rfl)
              skip
              try simp only [Act.put, List.setIfInBounds_toArray, List.set_cons_zero, List.set_cons_succ]
              refine ci_step (i := 4) (v := ?_) rfl (by kernel_rfl) ?_ ?_
              rotate_left
              · first | (go_simp; done) | (go_simp; with_reducible rfl)
              skip
              try simp only [Act.put, List.setIfInBounds_toArray, List.set_cons_zero, List.set_cons_succ]
              refine ci_step (i := 5) (v := ?_) rfl (by kernel_rfl) ?_ ?_
              rotate_left
              · first | (go_simp; done) | (go_simp; with_reducible rfl)
              skip
              try simp only [Act.put, List.setIfInBounds_toArray, List.set_cons_zero, List.set_cons_succ]
              refine ci_step (i := 6) (v := ?_) rfl (by kernel_rfl) ?_ ?_
              rotate_left
              · first | (go_simp; done) | (go_simp; with_reducible rfl)
              skip
              try simp only [Act.put, List.setIfInBounds_toArray, List.set_cons_zero, List.set_cons_succ]
              refine ci_step (i := 7) (v := ?_) rfl (by kernel_rfl) ?_ ?_
              rotate_left
              · first | (go_simp; done) | (go_simp; with_reducible rfl)
              skip
              try simp only [Act.put, List.setIfInBounds_toArray, List.set_cons_zero, List.set_cons_succ]
              refine ci_step (i := 8) (v := ?_) rfl (by kernel_rfl) ?_ ?_
              rotate_left
              · first | (go_simp; done) | (go_simp; with_reducible rfl)
              skip
              try simp only [Act.put, List.setIfInBounds_toArray, List.set_cons_zero, List.set_cons_succ]
              refine ci_step (i := 9) (v := ?_) rfl (by kernel_rfl) ?_ ?_
              rotate_left
              · first | (go_simp; done) | (go_simp; with_reducible rfl)
              skip
              try simp only [Act.put, List.setIfInBounds_toArray, List.set_cons_zero, List.set_cons_succ]
              refine ci_step (i := 10) (v := ?_) rfl (by kernel_rfl) ?_ ?_
              rotate_left
              · first | (go_simp; done) | (go_simp; with_reducible rfl)
              skip
              try simp only [Act.put, List.setIfInBounds_toArray, List.set_cons_zero, List.set_cons_succ]
              refine ci_step (i := 11) (v := ?_) rfl (by kernel_rfl) ?_ ?_
              rotate_left
              · first | (go_simp; done) | (go_simp; with_reducible rfl)
              skip
              try simp only [Act.put, List.setIfInBounds_toArray, List.set_cons_zero, List.set_cons_succ]
              refine ci_step (i := 12) (v := ?_) rfl (by kernel_rfl) ?_ ?_
              rotate_left
              · first | (go_simp; done) | (go_simp; with_reducible rfl)
              skip
              try simp only [Act.put, List.setIfInBounds_toArray, List.set_cons_zero, List.set_cons_succ]
              refine ci_end ?_
              rfl
            refine draw_done (by kernel_rfl) ?_ _
            go_wp2
            go_ret
            exact ⟨rfl, Below.drew hb⟩
          · have hlp' : decide ((R.length : Int) < 16 + rd R 15) = false := decide_eq_false hlp
            have HLP := Lib.hid hlp
            clear hlp
            refine draw_start [] Later (by kernel_rfl) ?_
            refine draw_chunk (n := 195) (by kernel_rfl) (fun _ _ _ _ _ h => h) [0, 1, 2, 3, 4, 5, 6, 7, 8, 9, 10, 11, 12] [] _ #[true, true, true, true, true, true, true, true, true, true, true, true, true] (by kernel_rfl) 0 _ ?_ _ rfl ?_ ?_
            rotate_left
            · intro w' hw'
              have hc' : ∀ b o, b < W.heap.size → w'.cell? ⟨b, o, none⟩ = W.cell? ⟨b, o, none⟩ := (bcell hw').1
              have z0 := (hc' g 0 hlg).trans b0; have z15 := (hc' ar.block (ar.off + 15) hlb).trans x15
              refine ci_step (i := 0) (v := ?_) rfl (by kernel_rfl) ?_ ?_
              rotate_left
              · first | (go_simp; done) | (go_simp; with_reducible rfl)
              skip
              try simp only [Act.put, List.setIfInBounds_toArray, List.set_cons_zero, List.set_cons_succ]
              refine ci_step (i := 1) (v := ?_) rfl (by kernel_rfl) ?_ ?_
              rotate_left
              · first | (go_simp; done) | (go_simp; with_reducible rfl)
              skip
              try simp only [Act.put, List.setIfInBounds_toArray, List.set_cons_zero, List.set_cons_succ]
              refine ci_step (i := 2) (v := ?_) rfl (by kernel_rfl) ?_ ?_
              rotate_left
              · first | (go_simp; done) | (go_simp; with_reducible rfl)
              skip
              try simp only [Act.put, List.setIfInBounds_toArray, List.set_cons_zero, List.set_cons_succ]
              refine ci_step (i := 3) (v := ?_) rfl (by kernel_rfl) ?_ ?_
              rotate_left
              · first | (go_simp; done) | (go_simp; with_reducible rfl)
              skip
              try simp only [Act.put, List.setIfInBounds_toArray, List.set_cons_zero, List.set_cons_succ]
              refine ci_step (i := 4) (v := ?_) rfl (by kernel_rfl) ?_ ?_
              rotate_left
              · first | (go_simp; done) | (go_simp; with_reducible rfl)
              skip
              try simp only [Act.put, List.setIfInBounds_toArray, List.set_cons_zero, List.set_cons_succ]
              refine ci_step (i := 5) (v := ?_) rfl (by kernel_rfl) ?_ ?_
              rotate_left
              · first | (go_simp; done) | (go_simp; with_reducible rfl)
              skip
              try simp only [Act.put, List.setIfInBounds_toArray, List.set_cons_zero, List.set_cons_succ]
              refine ci_step (i := 6) (v := ?_) rfl (by kernel_rfl) ?_ ?_
              rotate_left
              · first | (go_simp; done) | (go_simp; with_reducible rfl)
              skip
              try simp only [Act.put, List.setIfInBounds_toArray, List.set_cons_zero, List.set_cons_succ]
              refine ci_step (i := 7) (v := ?_) rfl (by kernel_rfl) ?_ ?_
              rotate_left
              · first | (go_simp; done) | (go_simp; with_reducible rfl)
              skip
              try simp only [Act.put, List.setIfInBounds_toArray, List.set_cons_zero, List.set_cons_succ]
              refine ci_step (i := 8) (v := ?_) rfl (by kernel_rfl) ?_ ?_
              rotate_left
              · first | (go_simp; done) | (go_simp; with_reducible rfl)
              skip
              try simp only [Act.put, List.setIfInBounds_toArray, List.set_cons_zero, List.set_cons_succ]
              refine ci_step (i := 9) (v := ?_) rfl (by kernel_rfl) ?_ ?_
              rotate_left
              · first | (go_simp; done) | (go_simp; with_reducible rfl)
              skip
              try simp only [Act.put, List.setIfInBounds_toArray, List.set_cons_zero, List.set_cons_succ]
              refine ci_step (i := 10) (v := ?_) rfl (by kernel_rfl) ?_ ?_
              rotate_left
              · first | (go_simp; done) | (go_simp; with_reducible rfl)
              skip
              try simp only [Act.put, List.setIfInBounds_toArray, List.set_cons_zero, List.set_cons_succ]
              refine ci_step (i := 11) (v := ?_) rfl (by kernel_rfl) ?_ ?_
              rotate_left
              · first | (go_simp; done) | (go_simp; with_reducible rfl)
              skip
              try simp only [Act.put, List.setIfInBounds_toArray, List.set_cons_zero, List.set_cons_succ]
              refine ci_step (i := 12) (v := ?_) rfl (by kernel_rfl) ?_ ?_
              rotate_left
              · first | (go_simp; done) | (go_simp; with_reducible rfl)
              skip
              try simp only [Act.put, List.setIfInBounds_toArray, List.set_cons_zero, List.set_cons_succ]
              refine ci_end ?_
              rfl
            refine draw_done (by kernel_rfl) ?_ _
            go_wp2_with fail
            obtain ⟨pn, hpn⟩ : ∃ pn : Nat, rd R 15 = (pn : Int) := ⟨(rd R 15).toNat, by omega⟩
            have HLP2 := Lib.hid (show 16 + pn ≤ R.length by have := HLP.out; omega)
            have HPN := Lib.hid hpn
            have r0 : 0 ≤ rd R 0 ∧ rd R 0 ≤ 255 := YtjdapfimjpbnmaaQ.PScr.rd_bd R hBR 0 (by omega)
            obtain ⟨ad0, eA0, x0⟩ := Kd.at_int hCR 0 (by omega) (by omega)
            cases eA0
            simp only [show (0 : Int).toNat = 0 from rfl, Go.Addr.add, Nat.reduceEqDiff, ↓reduceIte] at x0
            rw [hpn] at x15
            have w0 : IntKind.i64.wrap (rd R 0) = rd R 0 := by rw [IntKind.wrap_i64]; omega
            have wa : IntKind.i64.wrap (pn : Int) = (pn : Int) := by rw [IntKind.wrap_i64]; omega
            have wb : IntKind.i64.wrap (16 + (pn : Int)) = 16 + (pn : Int) := by rw [IntKind.wrap_i64]; omega
            have i0 : (0 : Int) < (R.length : Int) := by omega
            have s1 : (16 : Int) + (pn : Int) ≤ (cr : Int) := by have := HLP2.out; omega
            have s2 : (0 : Int) ≤ (pn : Int) := by omega
            clear w15 hlp' HLP hpn r0 r15
            replace hCR := Kd.C_drew hCR
            replace kR0 := kR0.drew
            replace hb := Below.drew hb
            have x0' : W.drew.cell? ar = some (.int .u8 (rd R 0)) := x0
            have x15' : W.drew.cell? ⟨ar.block, ar.off + 15, none⟩ = some (.int .u8 (pn : Int)) := x15
            have b0' : W.drew.cell? ⟨g, 0, none⟩ = some (.slice (some ar) R.length cr) := b0
            have hlg' : g < W.drew.heap.size := hlg
            have hlb' : ar.block < W.drew.heap.size := hlb
            clear x0 x15 b0 hlg hlb h16a h16b
            generalize W.drew = V at *
            refine draw_start [20] Later (by kernel_rfl) ?_
            refine draw_chunk (n := 195) (by kernel_rfl) (fun _ _ _ _ _ h => h) [0, 1, 2, 3, 4, 6, 8, 10, 11, 12, 13, 14, 15] [] _ #[true, true, true, true, true, false, true, false, true, false, true, true, true, true, true, true, false, false, false, false, false] (by kernel_rfl) 8 _ ?_ _ rfl ?_ ?_
            rotate_left
            · intro w' hw'
              have hc' : ∀ b o, b < V.heap.size → w'.cell? ⟨b, o, none⟩ = V.cell? ⟨b, o, none⟩ := (bcell hw').1
              have z0 := (hc' g 0 hlg').trans b0'; have y0 := (Below.cell (p := ar) hw' hlb').trans x0'; have y15 := (hc' ar.block (ar.off + 15) hlb').trans x15'
              refine ci_step (i := 0) (v := ?_) rfl (by kernel_rfl) ?_ ?_
              rotate_left
              · first | (go_simp; done) | (go_simp; with_reducible rfl)
              skip
              try simp only [Act.put, List.setIfInBounds_toArray, List.set_cons_zero, List.set_cons_succ]
              refine ci_step (i := 1) (v := ?_) rfl (by kernel_rfl) ?_ ?_
              rotate_left
              · first | (go_simp; done) | (go_simp; with_reducible rfl)
              skip
              try simp only [Act.put, List.setIfInBounds_toArray, List.set_cons_zero, List.set_cons_succ]
              refine ci_step (i := 2) (v := ?_) rfl (by kernel_rfl) ?_ ?_
              rotate_left
              · first | (go_simp; done) | (go_simp; with_reducible rfl)
              skip
              try simp only [Act.put, List.setIfInBounds_toArray, List.set_cons_zero, List.set_cons_succ]
              refine ci_step (i := 3) (v := ?_) rfl (by kernel_rfl) ?_ ?_
              rotate_left
              · first | (go_simp; done) | (go_simp; with_reducible rfl)
              skip
              try simp only [Act.put, List.setIfInBounds_toArray, List.set_cons_zero, List.set_cons_succ]
              refine ci_step (i := 4) (v := ?_) rfl (by kernel_rfl) ?_ ?_
              rotate_left
              · first | (go_simp; done) | (go_simp; with_reducible rfl)
              skip
              try simp only [Act.put, List.setIfInBounds_toArray, List.set_cons_zero, List.set_cons_succ]
              refine ci_step (i := 6) (v := ?_) rfl (by kernel_rfl) ?_ ?_
              rotate_left
              · first | (go_simp; done) | (go_simp; with_reducible rfl)
              skip
              try simp only [Act.put, List.setIfInBounds_toArray, List.set_cons_zero, List.set_cons_succ]
              refine ci_step (i := 8) (v := ?_) rfl (by kernel_rfl) ?_ ?_
              rotate_left
              · first | (go_simp; done) | (go_simp; with_reducible rfl)
              skip
              try simp only [Act.put, List.setIfInBounds_toArray, List.set_cons_zero, List.set_cons_succ]
              refine ci_step (i := 10) (v := ?_) rfl (by kernel_rfl) ?_ ?_
              rotate_left
              · first | (go_simp; done) | (go_simp; with_reducible rfl)
              skip
              try simp only [Act.put, List.setIfInBounds_toArray, List.set_cons_zero, List.set_cons_succ]
              refine ci_step (i := 11) (v := ?_) rfl (by kernel_rfl) ?_ ?_
              rotate_left
              · first | (go_simp; done) | (go_simp; with_reducible rfl)
              skip
              try simp only [Act.put, List.setIfInBounds_toArray, List.set_cons_zero, List.set_cons_succ]
              refine ci_step (i := 12) (v := ?_) rfl (by kernel_rfl) ?_ ?_
              rotate_left
              · first | (go_simp; done) | (go_simp; with_reducible rfl)
              skip
              try simp only [Act.put, List.setIfInBounds_toArray, List.set_cons_zero, List.set_cons_succ]
              refine ci_step (i := 13) (v := ?_) rfl (by kernel_rfl) ?_ ?_
              rotate_left
              · first | (go_simp; done) | (go_simp; with_reducible rfl)
              skip
              try simp only [Act.put, List.setIfInBounds_toArray, List.set_cons_zero, List.set_cons_succ]
              refine ci_step (i := 14) (v := ?_) rfl (by kernel_rfl) ?_ ?_
              rotate_left
              · first | (go_simp; done) | (go_simp; with_reducible rfl)
              skip
              try simp only [Act.put, List.setIfInBounds_toArray, List.set_cons_zero, List.set_cons_succ]
              refine ci_step (i := 15) (v := ?_) rfl (by kernel_rfl) ?_ ?_
              rotate_left
              · first | (go_simp; done) | (go_simp; with_reducible rfl)
              skip
              try simp only [Act.put, List.setIfInBounds_toArray, List.set_cons_zero, List.set_cons_succ]
              refine ci_end ?_
              rfl
            have hCM := cMid 16 pn cr hCR HLP2.out hRc
            rw [show ar.add 16 = ⟨ar.block, ar.off + 16, none⟩ from rfl] at hCM
            have t1 : (0 : Int) ≤ 16 + (pn : Int) := by omega
            have t2 : (16 : Int) ≤ max (16 + (pn : Int)) 0 := by omega
            have t3 : (16 + (pn : Int)).toNat - 16 = pn := by omega
            refine draw_chunk (n := 195) (by kernel_rfl) (fun _ _ _ _ _ h => h) [16, 17] [] _ #[true, true, true, true, true, false, true, false, true, false, true, true, true, true, true, true, true, true, false, false, false] (by kernel_rfl) 6 _ ?_ _ rfl ?_ ?_
            rotate_left
            · intro w' hw'
              have hc' : ∀ b o, b < V.heap.size → w'.cell? ⟨b, o, none⟩ = V.cell? ⟨b, o, none⟩ := (bcell hw').1
              have hcv := Kd.C_string (P := Try.prog) Try.underlying32 Try.underlying5 Try.underlying9 (n := pn) (c := cr - 16) (Kd.C_below (Kd.C_drew hCM) hw')
              refine ci_step (i := 16) (v := ?_) rfl (by kernel_rfl) ?_ ?_
              rotate_left
              · first | (go_simp; done) | (go_simp; with_reducible rfl)
              skip
              try simp only [Act.put, List.setIfInBounds_toArray, List.set_cons_zero, List.set_cons_succ]
              refine ci_step (i := 17) (v := ?_) rfl (by kernel_rfl) ?_ ?_
              rotate_left
              · first | (go_simp; done) | (go_simp; with_reducible rfl)
              skip
              try simp only [Act.put, List.setIfInBounds_toArray, List.set_cons_zero, List.set_cons_succ]
              refine ci_end ?_
              rfl
            clear t1 t2 t3 hCM
            generalize (if cr = 16 then some ar else some (⟨ar.block, ar.off + 16, none⟩ : Addr)) = arx at *
            replace kR0 := kR0.drew
            replace hCR := Kd.C_drew hCR
            replace hb := Below.drew hb
            have b1' : V.drew.cell? ⟨g, 0, none⟩ = some (.slice (some ar) R.length cr) := b0'
            have hlg1 : g < V.drew.heap.size := hlg'
            have hal : ∀ oj : Oper, oj.op = .alloc 30 → AllocLike Try.prog oj := fun oj h => alloc_event ⟨#[], []⟩ V oj h
            clear b0' hlg' hlb' x0' x15'
            generalize V.drew = V0 at *
            refine draw_call (i := 5) (v := .int .i64 (valB ((R.drop 1).take 3))) 30 rfl (by kernel_rfl) (by kernel_rfl) hal (fun w => Below.drew (Below.refl _ _)) (fun w o => (Below.refl _ _).alloc (Nat.le_refl _) _) (listed' := #[true, true, true, true, true, true, true, false, true, false, true, true, true, true, true, true, true, true, false, false, false]) rfl (by kernel_rfl) (fun w' hw' => ⟨18, #[.int .i64 1, .pointer (some ⟨g, 0, none⟩)], ?_, scrReads_n1 g R (some ar) cr w' hBR (Kd.C_below hCR hw') ((Below.cell (p := ⟨g, 0, none⟩) hw' hlg1).trans b1') hR16⟩) (fun m => ?_)
            · first | (go_simp; done) | (go_simp; with_reducible rfl)
            try simp only [Act.put, List.setIfInBounds_toArray, List.set_cons_zero, List.set_cons_succ]
            have hW : Below (V0).heap.size V0 ((V0).drewN m) := Go.Proofs.Ytjdapfimjpbnmaa.below_drewN (Below.refl _ _) m
            clear hlg1 b1'
            replace kR0 := kR0.below' hW
            replace hCR := Kd.C_below hCR hW
            replace hb := below_step hb hb.size hW
            clear hW
            generalize (V0).drewN m = V1 at *
            clear m
            have hlg1 := kR0.lt
            have b1' := kR0.cell 0
            simp only [List.getElem?_toArray, List.getElem?_cons_zero] at b1'
            refine draw_call (i := 7) (v := .int .i64 (valB ((R.drop 4).take 3))) 30 rfl (by kernel_rfl) (by kernel_rfl) hal (fun w => Below.drew (Below.refl _ _)) (fun w o => (Below.refl _ _).alloc (Nat.le_refl _) _) (listed' := #[true, true, true, true, true, true, true, true, true, false, true, true, true, true, true, true, true, true, false, false, false]) rfl (by kernel_rfl) (fun w' hw' => ⟨18, #[.int .i64 4, .pointer (some ⟨g, 0, none⟩)], ?_, scrReads_n4 g R (some ar) cr w' hBR (Kd.C_below hCR hw') ((Below.cell (p := ⟨g, 0, none⟩) hw' hlg1).trans b1') hR16⟩) (fun m => ?_)
            · first | (go_simp; done) | (go_simp; with_reducible rfl)
            try simp only [Act.put, List.setIfInBounds_toArray, List.set_cons_zero, List.set_cons_succ]
            have hW : Below (V1).heap.size V1 ((V1).drewN m) := Go.Proofs.Ytjdapfimjpbnmaa.below_drewN (Below.refl _ _) m
            clear hlg1 b1'
            replace kR0 := kR0.below' hW
            replace hCR := Kd.C_below hCR hW
            replace hb := below_step hb hb.size hW
            clear hW
            generalize (V1).drewN m = V2 at *
            clear m
            have hlg1 := kR0.lt
            have b1' := kR0.cell 0
            simp only [List.getElem?_toArray, List.getElem?_cons_zero] at b1'
            refine draw_call (i := 9) (v := .int .i64 (valB ((R.drop 7).take 3))) 30 rfl (by kernel_rfl) (by kernel_rfl) hal (fun w => Below.drew (Below.refl _ _)) (fun w o => (Below.refl _ _).alloc (Nat.le_refl _) _) (listed' := #[true, true, true, true, true, true, true, true, true, true, true, true, true, true, true, true, true, true, false, false, false]) rfl (by kernel_rfl) (fun w' hw' => ⟨18, #[.int .i64 7, .pointer (some ⟨g, 0, none⟩)], ?_, scrReads_n7 g R (some ar) cr w' hBR (Kd.C_below hCR hw') ((Below.cell (p := ⟨g, 0, none⟩) hw' hlg1).trans b1') hR16⟩) (fun m => ?_)
            · first | (go_simp; done) | (go_simp; with_reducible rfl)
            try simp only [Act.put, List.setIfInBounds_toArray, List.set_cons_zero, List.set_cons_succ]
            have hW : Below (V2).heap.size V2 ((V2).drewN m) := Go.Proofs.Ytjdapfimjpbnmaa.below_drewN (Below.refl _ _) m
            clear hlg1 b1'
            replace kR0 := kR0.below' hW
            replace hCR := Kd.C_below hCR hW
            replace hb := below_step hb hb.size hW
            clear hW
            generalize (V2).drewN m = V3 at *
            clear m
            have hlg1 := kR0.lt
            have b1' := kR0.cell 0
            simp only [List.getElem?_toArray, List.getElem?_cons_zero] at b1'
            generalize hv1 : valB ((R.drop 1).take 3) = v1 at *
            generalize hv4 : valB ((R.drop 4).take 3) = v4 at *
            generalize hv7 : valB ((R.drop 7).take 3) = v7 at *
            generalize hvs : strOfNums ((R.drop 16).take pn) = vs at *
            have HV1 := Lib.hid hv1
            have HV4 := Lib.hid hv4
            have HV7 := Lib.hid hv7
            have HVS := Lib.hid hvs
            clear hv1 hv4 hv7 hvs
            refine draw_chunk (n := 195) (by kernel_rfl) (fun _ _ _ _ _ h => h) [18] [] _ #[true, true, true, true, true, true, true, true, true, true, true, true, true, true, true, true, true, true, true, false, false] (by kernel_rfl) 2 _ ?_ _ rfl ?_ ?_
            rotate_left
            · intro w' hw'
              have hc' : ∀ b o, b < V3.heap.size → w'.cell? ⟨b, o, none⟩ = V3.cell? ⟨b, o, none⟩ := (bcell hw').1
              refine ci_step (i := 18) (v := ?_) rfl (by kernel_rfl) ?_ ?_
              rotate_left
              · first | (go_simp; done) | (go_simp; with_reducible rfl)
              skip
              try simp only [Act.put, List.setIfInBounds_toArray, List.set_cons_zero, List.set_cons_succ]
              refine ci_end ?_
              rfl
            refine draw_eff (i := 19) rfl (by kernel_rfl) (listed' := #[true, true, true, true, true, true, true, true, true, true, true, true, true, true, true, true, true, true, true, true, false]) rfl (fun K hK => ?_)
            replace hK := Lib.hid hK
            go_wp2_with fail
            refine hK.out _ _ ⟨fun _ => (Below.refl _ _).alloc (Nat.le_refl _) _, ?_⟩
            clear hK
            refine draw_eff (i := 20) rfl (by kernel_rfl) (listed' := #[true, true, true, true, true, true, true, true, true, true, true, true, true, true, true, true, true, true, true, true, true]) rfl (fun K hK => ?_)
            replace hK := Lib.hid hK
            go_wp2_with fail
            refine hK.out _ _ ⟨fun h => absurd (by decide) h, ?_⟩
            clear hK hal
            refine draw_done (by kernel_rfl) ?_ _
            have hqw := Lib.hid (show w.heap.size ≤ V3.heap.size from hb.size)
            have kE := Blk.new V3 30 #[.int .i64 (rd R 0), .int .i64 v1, .int .i64 v4, .int .i64 v7, .int .u32 0, .int .i64 0, .string vs]
            have hbA := (Below.refl V3.heap.size V3).alloc (Nat.le_refl _) (.cells #[.int .i64 (rd R 0), .int .i64 v1, .int .i64 v4, .int .i64 v7, .int .u32 0, .int .i64 0, .string vs] 30)
            replace kR0 := kR0.below' hbA
            replace hCR := Kd.C_below hCR hbA
            replace hb := below_step hb hb.size hbA
            clear hbA hlg1 b1'
            go_wp2_with fail
            generalize V3.alloc (.cells #[.int .i64 (rd R 0), .int .i64 v1, .int .i64 v4, .int .i64 v7, .int .u32 0, .int .i64 0, .string vs] 30) = V4 at *
            generalize V3.heap.size = q at *
            obtain ⟨aA, eA, c10⟩ := Kd.at_int hCR 10 (by omega) (by omega)
            cases eA
            obtain ⟨aB, eB, c11⟩ := Kd.at_int hCR 11 (by omega) (by omega)
            cases eB
            obtain ⟨aC, eC, c12⟩ := Kd.at_int hCR 12 (by omega) (by omega)
            cases eC
            obtain ⟨aD, eD, c13⟩ := Kd.at_int hCR 13 (by omega) (by omega)
            cases eD
            obtain ⟨aE, eE, c14⟩ := Kd.at_int hCR 14 (by omega) (by omega)
            cases eE
            simp only [show (10 : Int).toNat = 10 from rfl, show (11 : Int).toNat = 11 from rfl, show (12 : Int).toNat = 12 from rfl, show (13 : Int).toNat = 13 from rfl, show (14 : Int).toNat = 14 from rfl, Go.Addr.add, Nat.reduceEqDiff, ↓reduceIte] at c10 c11 c12 c13 c14
            have hlb := World.block_lt_of_cell? _ _ c10
            have r10 : 0 ≤ rd R 10 ∧ rd R 10 ≤ 255 := YtjdapfimjpbnmaaQ.PScr.rd_bd R hBR 10 (by omega)
            have r11 : 0 ≤ rd R 11 ∧ rd R 11 ≤ 255 := YtjdapfimjpbnmaaQ.PScr.rd_bd R hBR 11 (by omega)
            have r12 : 0 ≤ rd R 12 ∧ rd R 12 ≤ 255 := YtjdapfimjpbnmaaQ.PScr.rd_bd R hBR 12 (by omega)
            have r13 : 0 ≤ rd R 13 ∧ rd R 13 ≤ 255 := YtjdapfimjpbnmaaQ.PScr.rd_bd R hBR 13 (by omega)
            have r14 : 0 ≤ rd R 14 ∧ rd R 14 ≤ 255 := YtjdapfimjpbnmaaQ.PScr.rd_bd R hBR 14 (by omega)
            have w14 : IntKind.i64.wrap (rd R 14) = rd R 14 := by rw [IntKind.wrap_i64]; omega
            have e4 : (R.drop 10).take 4 = [rd R 10, rd R 11, rd R 12, rd R 13] := by
              rw [show rd R 10 = R[10] from YtjdapfimjpbnmaaQ.PScr.rd_at R 10 (by omega), show rd R 11 = R[11] from YtjdapfimjpbnmaaQ.PScr.rd_at R 11 (by omega), show rd R 12 = R[12] from YtjdapfimjpbnmaaQ.PScr.rd_at R 12 (by omega), show rd R 13 = R[13] from YtjdapfimjpbnmaaQ.PScr.rd_at R 13 (by omega), List.drop_eq_getElem_cons (show 10 < R.length by omega), List.drop_eq_getElem_cons (show 11 < R.length by omega), List.drop_eq_getElem_cons (show 12 < R.length by omega), List.drop_eq_getElem_cons (show 13 < R.length by omega)]
              rfl
            have hv := val4s _ _ _ _ r10 r11 r12 r13
            rw [← e4] at hv
            have h4b : 0 ≤ valB ((R.drop 10).take 4) ∧ valB ((R.drop 10).take 4) ≤ 4294967295 := by
              have h1 := valB_bd ((R.drop 10).take 4) ((hBR.drop 10).take 4)
              have h2 : ((R.drop 10).take 4).length = 4 := by simp; omega
              rw [h2] at h1
              omega
            have hfin : YtjdapfimjpbnmaaQ.PScr.wayfarerlaw14_Right.f (rd R 0) v1 v4 v7 (valB ((R.drop 10).take 4)) (rd R 14) vs = some false := by
              unfold YtjdapfimjpbnmaaQ.PScr.wayfarerlaw14_Right.f
              rw [if_pos h4b, ← HV1.out, ← HV4.out, ← HV7.out, ← HVS.out]
              have h1 := hone
              unfold YtjdapfimjpbnmaaQ.PScr.oneB YtjdapfimjpbnmaaQ.PScr.evN YtjdapfimjpbnmaaQ.PScr.rightE YtjdapfimjpbnmaaQ.PScr.evOf at h1
              rw [HPN.out, Int.toNat_natCast, decide_eq_true hR16, decide_eq_true HLP2.out, Bool.true_and, Bool.true_and] at h1
              exact congrArg some h1
            generalize valB ((R.drop 10).take 4) = vA at *
            have i10 : (10 : Int) < (R.length : Int) := by omega
            have i11 : (11 : Int) < (R.length : Int) := by omega
            have i12 : (12 : Int) < (R.length : Int) := by omega
            have i13 : (13 : Int) < (R.length : Int) := by omega
            have i14 : (14 : Int) < (R.length : Int) := by omega
            have j10 : 10 < R.length := by omega
            have j11 : 11 < R.length := by omega
            have j12 : 12 < R.length := by omega
            have j13 : 13 < R.length := by omega
            have j14 : 14 < R.length := by omega
            have hlg2 := kR0.lt
            have b2 := kR0.cell 0
            have q0 := kE.cell 0
            have q1 := kE.cell 1
            have q2 := kE.cell 2
            have q3 := kE.cell 3
            have q4 := kE.cell 4
            have q5 := kE.cell 5
            have q6 := kE.cell 6
            have qf4 := kE.frozen 4
            have qf5 := kE.frozen 5
            have ql := kE.lt
            simp only [List.getElem?_toArray, List.getElem?_cons_zero, List.getElem?_cons_succ] at b2 q0 q1 q2 q3 q4 q5 q6
            clear r10 r11 r12 r13 r14 e4 h4b hone hBR hR16 hRc HLP2 HPN HV1 HV4 HV7 HVS hCR
            refine draw_start [28] Later (by kernel_rfl) ?_
            refine draw_chunk (n := 195) (by kernel_rfl) (fun _ _ _ _ _ h => h) [0, 1, 2, 3, 4, 5, 6, 7, 8, 9, 10, 11, 12, 13, 14, 15, 16, 17, 18, 19, 20, 21, 22, 23, 24, 25, 26, 27] [] _ #[true, true, true, true, true, true, true, true, true, true, true, true, true, true, true, true, true, true, true, true, true, true, true, true, true, true, true, true, false] (by kernel_rfl) 1 _ ?_ _ rfl ?_ ?_
            rotate_left
            · intro w' hw'
              have hc' : ∀ b o, b < V4.heap.size → w'.cell? ⟨b, o, none⟩ = V4.cell? ⟨b, o, none⟩ := (bcell hw').1
              have z0 := (hc' g 0 hlg2).trans b2; have z10 := (hc' ar.block (ar.off + 10) hlb).trans c10; have z11 := (hc' ar.block (ar.off + 11) hlb).trans c11; have z12 := (hc' ar.block (ar.off + 12) hlb).trans c12; have z13 := (hc' ar.block (ar.off + 13) hlb).trans c13; have z14 := (hc' ar.block (ar.off + 14) hlb).trans c14
              refine ci_step (i := 0) (v := ?_) rfl (by kernel_rfl) ?_ ?_
              rotate_left
              · first | (go_simp; done) | (go_simp; with_reducible rfl)
              skip
              try simp only [Act.put, List.setIfInBounds_toArray, List.set_cons_zero, List.set_cons_succ]
              refine ci_step (i := 1) (v := ?_) rfl (by kernel_rfl) ?_ ?_
              rotate_left
              · first | (go_simp; done) | (go_simp; with_reducible rfl)
              skip
              try simp only [Act.put, List.setIfInBounds_toArray, List.set_cons_zero, List.set_cons_succ]
              refine ci_step (i := 2) (v := ?_) rfl (by kernel_rfl) ?_ ?_
              rotate_left
              · first | (go_simp; done) | (go_simp; with_reducible rfl)
              skip
              try simp only [Act.put, List.setIfInBounds_toArray, List.set_cons_zero, List.set_cons_succ]
              refine ci_step (i := 3) (v := ?_) rfl (by kernel_rfl) ?_ ?_
              rotate_left
              · first | (go_simp; done) | (go_simp; with_reducible rfl)
              skip
              try simp only [Act.put, List.setIfInBounds_toArray, List.set_cons_zero, List.set_cons_succ]
              refine ci_step (i := 4) (v := ?_) rfl (by kernel_rfl) ?_ ?_
              rotate_left
              · first | (go_simp; done) | (go_simp; with_reducible rfl)
              skip
              try simp only [Act.put, List.setIfInBounds_toArray, List.set_cons_zero, List.set_cons_succ]
              refine ci_step (i := 5) (v := ?_) rfl (by kernel_rfl) ?_ ?_
              rotate_left
              · first | (go_simp; done) | (go_simp; with_reducible rfl)
              skip
              try simp only [Act.put, List.setIfInBounds_toArray, List.set_cons_zero, List.set_cons_succ]
              refine ci_step (i := 6) (v := ?_) rfl (by kernel_rfl) ?_ ?_
              rotate_left
              · first | (go_simp; done) | (go_simp; with_reducible rfl)
              skip
              try simp only [Act.put, List.setIfInBounds_toArray, List.set_cons_zero, List.set_cons_succ]
              refine ci_step (i := 7) (v := ?_) rfl (by kernel_rfl) ?_ ?_
              rotate_left
              · first | (go_simp; done) | (go_simp; with_reducible rfl)
              skip
              try simp only [Act.put, List.setIfInBounds_toArray, List.set_cons_zero, List.set_cons_succ]
              refine ci_step (i := 8) (v := ?_) rfl (by kernel_rfl) ?_ ?_
              rotate_left
              · first | (go_simp; done) | (go_simp; with_reducible rfl)
              skip
              try simp only [Act.put, List.setIfInBounds_toArray, List.set_cons_zero, List.set_cons_succ]
              refine ci_step (i := 9) (v := ?_) rfl (by kernel_rfl) ?_ ?_
              rotate_left
              · first | (go_simp; done) | (go_simp; with_reducible rfl)
              skip
              try simp only [Act.put, List.setIfInBounds_toArray, List.set_cons_zero, List.set_cons_succ]
              refine ci_step (i := 10) (v := ?_) rfl (by kernel_rfl) ?_ ?_
              rotate_left
              · first | (go_simp; done) | (go_simp; with_reducible rfl)
              skip
              try simp only [Act.put, List.setIfInBounds_toArray, List.set_cons_zero, List.set_cons_succ]
              refine ci_step (i := 11) (v := ?_) rfl (by kernel_rfl) ?_ ?_
              rotate_left
              · first | (go_simp; done) | (go_simp; with_reducible rfl)
              skip
              try simp only [Act.put, List.setIfInBounds_toArray, List.set_cons_zero, List.set_cons_succ]
              refine ci_step (i := 12) (v := ?_) rfl (by kernel_rfl) ?_ ?_
              rotate_left
              · first | (go_simp; done) | (go_simp; with_reducible rfl)
              skip
              try simp only [Act.put, List.setIfInBounds_toArray, List.set_cons_zero, List.set_cons_succ]
              refine ci_step (i := 13) (v := ?_) rfl (by kernel_rfl) ?_ ?_
              rotate_left
              · first | (go_simp; done) | (go_simp; with_reducible rfl)
              skip
              try simp only [Act.put, List.setIfInBounds_toArray, List.set_cons_zero, List.set_cons_succ]
              refine ci_step (i := 14) (v := ?_) rfl (by kernel_rfl) ?_ ?_
              rotate_left
              · first | (go_simp; done) | (go_simp; with_reducible rfl)
              skip
              try simp only [Act.put, List.setIfInBounds_toArray, List.set_cons_zero, List.set_cons_succ]
              refine ci_step (i := 15) (v := ?_) rfl (by kernel_rfl) ?_ ?_
              rotate_left
              · first | (go_simp; done) | (go_simp; with_reducible rfl)
              skip
              try simp only [Act.put, List.setIfInBounds_toArray, List.set_cons_zero, List.set_cons_succ]
              refine ci_step (i := 16) (v := ?_) rfl (by kernel_rfl) ?_ ?_
              rotate_left
              · first | (go_simp; done) | (go_simp; with_reducible rfl)
              skip
              try simp only [Act.put, List.setIfInBounds_toArray, List.set_cons_zero, List.set_cons_succ]
              refine ci_step (i := 17) (v := ?_) rfl (by kernel_rfl) ?_ ?_
              rotate_left
              · first | (go_simp; done) | (go_simp; with_reducible rfl)
              skip
              try simp only [Act.put, List.setIfInBounds_toArray, List.set_cons_zero, List.set_cons_succ]
              refine ci_step (i := 18) (v := ?_) rfl (by kernel_rfl) ?_ ?_
              rotate_left
              · first | (go_simp; done) | (go_simp; with_reducible rfl)
              skip
              try simp only [Act.put, List.setIfInBounds_toArray, List.set_cons_zero, List.set_cons_succ]
              refine ci_step (i := 19) (v := ?_) rfl (by kernel_rfl) ?_ ?_
              rotate_left
              · first | (go_simp; done) | (go_simp; with_reducible rfl)
              skip
              try simp only [Act.put, List.setIfInBounds_toArray, List.set_cons_zero, List.set_cons_succ]
              refine ci_step (i := 20) (v := ?_) rfl (by kernel_rfl) ?_ ?_
              rotate_left
              · first | (go_simp; done) | (go_simp; with_reducible rfl)
              skip
              try simp only [Act.put, List.setIfInBounds_toArray, List.set_cons_zero, List.set_cons_succ]
              refine ci_step (i := 21) (v := ?_) rfl (by kernel_rfl) ?_ ?_
              rotate_left
              · first | (go_simp; done) | (go_simp; with_reducible rfl)
              skip
              try simp only [Act.put, List.setIfInBounds_toArray, List.set_cons_zero, List.set_cons_succ]
              refine ci_step (i := 22) (v := ?_) rfl (by kernel_rfl) ?_ ?_
              rotate_left
              · first | (go_simp; done) | (go_simp; with_reducible rfl)
              skip
              try simp only [Act.put, List.setIfInBounds_toArray, List.set_cons_zero, List.set_cons_succ]
              refine ci_step (i := 23) (v := ?_) rfl (by kernel_rfl) ?_ ?_
              rotate_left
              · first | (go_simp; done) | (go_simp; with_reducible rfl)
              skip
              try simp only [Act.put, List.setIfInBounds_toArray, List.set_cons_zero, List.set_cons_succ]
              refine ci_step (i := 24) (v := ?_) rfl (by kernel_rfl) ?_ ?_
              rotate_left
              · first | (go_simp; done) | (go_simp; with_reducible rfl)
              skip
              try simp only [Act.put, List.setIfInBounds_toArray, List.set_cons_zero, List.set_cons_succ]
              refine ci_step (i := 25) (v := ?_) rfl (by kernel_rfl) ?_ ?_
              rotate_left
              · first | (go_simp; done) | (go_simp; with_reducible rfl)
              skip
              try simp only [Act.put, List.setIfInBounds_toArray, List.set_cons_zero, List.set_cons_succ]
              refine ci_step (i := 26) (v := ?_) rfl (by kernel_rfl) ?_ ?_
              rotate_left
              · first | (go_simp; done) | (go_simp; with_reducible rfl)
              skip
              try simp only [Act.put, List.setIfInBounds_toArray, List.set_cons_zero, List.set_cons_succ]
              refine ci_step (i := 27) (v := ?_) rfl (by kernel_rfl) ?_ ?_
              rotate_left
              · first | (go_simp; done) | (go_simp; with_reducible rfl)
              skip
              try simp only [Act.put, List.setIfInBounds_toArray, List.set_cons_zero, List.set_cons_succ]
              refine ci_end ?_
              rfl
            refine draw_eff (i := 28) rfl (by kernel_rfl) (listed' := #[true, true, true, true, true, true, true, true, true, true, true, true, true, true, true, true, true, true, true, true, true, true, true, true, true, true, true, true, true]) rfl (fun K hK => ?_)
            replace hK := Lib.hid hK
            go_wp2_with fail
            refine hK.out _ _ ⟨fun h => absurd (by decide) h, ?_⟩
            clear hK
            refine draw_done (by kernel_rfl) ?_ _
            have kE2 : Blk ((V4.setCell ⟨q, 4, none⟩ (.int .u32 vA)).setCell ⟨q, 5, none⟩ (.int .i64 (rd R 14))).drew q 30 #[.int .i64 (rd R 0), .int .i64 v1, .int .i64 v4, .int .i64 v7, .int .u32 vA, .int .i64 (rd R 14), .string vs] := by
              have := ((kE.set 4 (.int .u32 vA)).set 5 (.int .i64 (rd R 14))).drew
              simpa using this
            replace hb := Below.drew ((hb.setCell (p := ⟨q, 4, none⟩) hqw.out (.int .u32 vA)).setCell (p := ⟨q, 5, none⟩) hqw.out (.int .i64 (rd R 14)))
            clear kE q0 q1 q2 q3 q4 q5 q6 qf4 qf5 ql b2 hlg2 kR0 c10 c11 c12 c13 c14 hlb
            generalize ((V4.setCell ⟨q, 4, none⟩ (.int .u32 vA)).setCell ⟨q, 5, none⟩ (.int .i64 (rd R 14))).drew = V5 at *
            have q0 := kE2.cell 0
            have q1 := kE2.cell 1
            have q2 := kE2.cell 2
            have q3 := kE2.cell 3
            have q4 := kE2.cell 4
            have q5 := kE2.cell 5
            have q6 := kE2.cell 6
            have ql := kE2.lt
            simp only [List.getElem?_toArray, List.getElem?_cons_zero, List.getElem?_cons_succ] at q0 q1 q2 q3 q4 q5 q6
            go_wp2_with fail
            refine (YtjdapfimjpbnmaaQ.PScr.wayfarerlaw14_Right.calls _ _ _ _ _ _ _ _ _ hfin).mono ?_
            rintro e w9 ⟨rfl, hb9⟩
            go_wp2
            go_ret
            exact ⟨rfl, below_step hb hb.size hb9⟩
end Go.Proofs.Ytjdapfimjpbnmaa
