import Derived.Test.YtjdapfimjpbnmaaScrP9
import Derived.Test.YtjdapfimjpbnmaaOpenKd
import Derived.Test.YtjdapfimjpbnmaaRegion
import Derived.Lib.ConvBytes
set_option linter.unusedVariables false
set_option linter.unusedSimpArgs false
namespace Go.Proofs.Ytjdapfimjpbnmaa
open Go.RowKit
open Go.Proofs.YtjdapfimjpbnmaaW.PrintWords (Kd rd)
/-! The law ScriptPicks, walked. -/
theorem conv_cells (W : World) (B : List Int) (hB : Byte B) (j : Nat) (hj : j < B.length) : (Lib.bytesWorld W 5 (strOfNums B)).cell? ⟨W.heap.size, j, none⟩ = some (.int .u8 (rd B (j : Int))) := by
  rw [Lib.bytesWorld_cell W _ _ j (by rw [strOfNums_size]; exact hj)]
  have hb := hB B[j] (List.getElem_mem hj)
  simp only [strOfNums_data, rd, Int.toNat_natCast, List.getD_eq_getElem?_getD, List.getElem?_map, List.getElem?_eq_getElem hj, Option.map_some, Option.getD_some, UInt8.toNat_ofNat']
  congr 2
  omega
theorem pk_val (a b c d : Int) (ha : 0 ≤ a ∧ a ≤ 255) (hb : 0 ≤ b ∧ b ≤ 255) (hc : 0 ≤ c ∧ c ≤ 255) (hd : 0 ≤ d ∧ d ≤ 255) :
    IntKind.u32.wrap (IntKind.u32.wrap (IntKind.u32.wrap (IntKind.u32.wrap (IntKind.u32.wrap a * 16777216) + IntKind.u32.wrap (IntKind.u32.wrap b * 65536)) + IntKind.u32.wrap (IntKind.u32.wrap c * 256)) + IntKind.u32.wrap d) = valB [a, b, c, d] := by
  show _ = (((0 * 256 + a) * 256 + b) * 256 + c) * 256 + d
  simp only [IntKind.wrap_u32]
  omega
set_option maxHeartbeats 4000000 in
set_option maxRecDepth 100000 in
theorem law14_Picks (B : List Int) (hB : Byte B) (w : World) : Calls Try.prog 6 #[.string (strOfNums B)] w fun e w' => e = .returned (.bool true) ∧ Below w.heap.size w w' := by
  have hsz : (strOfNums B).size = B.length := strOfNums_size B
  go_enter Try.func6, Try.ntmps6
  go_wp2_with fail
  refine (YtjdapfimjpbnmaaQ.PScr.wayfarerlaw14_head.calls 100 true _ (YtjdapfimjpbnmaaQ.PScr.head_true 40)).mono ?_
  rintro e w1 ⟨rfl, hb⟩
  by_cases h300 : 300 < B.length
  · have d : decide ((300 : Int) < (B.length : Int)) = true := decide_eq_true (by omega)
    go_wp2
    go_ret
    exact ⟨rfl, hb⟩
  have d : decide ((300 : Int) < (B.length : Int)) = false := decide_eq_false (by omega)
  go_wp2_with fail
  refine (YtjdapfimjpbnmaaQ.PScr.script_Event_Chosen.calls 1000 1 0 0 0 0 0 (strOfNums B) _ _ (YtjdapfimjpbnmaaQ.PScr.chosen_nice B hB (by omega))).mono ?_
  rintro e w2 ⟨v, rfl, hR, hb2⟩
  obtain ⟨A, c, rfl⟩ := Kd.R_slice hR
  have hC := (Kd.R_reads' hR).2.2
  replace hb := Go.Proofs.Ytjdapfimjpbnmaa.below_step hb hb.size hb2
  clear hb2
  have hlen := YtjdapfimjpbnmaaQ.PScr.pkN_len (B.length / 6) B
  have hget := YtjdapfimjpbnmaaQ.PScr.pkN_get (B.length / 6) B
  clear hR
  generalize YtjdapfimjpbnmaaQ.PScr.pkN (B.length / 6) B = L at *
  have q1 : ((L.length : Int) != (B.length : Int) / 6) = false := bne_eq_false_iff_eq.2 (by omega)
  have q2 : ((L.length : Int) == (B.length : Int) / 6) = true := beq_iff_eq.2 (by omega)
  go_wp2
  go_loopw [23] (fun i wr => ∃ k : Nat, k ≤ L.length ∧ i = .int .i64 k ∧ Kd.C YtjdapfimjpbnmaaQ.PScr.k48 wr A L.length L ∧ Below w.heap.size w wr) (fun i _ => L.length - (intOf i).toNat)
  case atStart => exact ⟨0, by omega, rfl, hC, hb⟩
  case round =>
    clear hC hb q1 q2
    obtain ⟨k, hk, rfl, hC, hb⟩ := hrel
    by_cases hlt : k < L.length
    · obtain ⟨ad, eA, c0, c1, c2⟩ := YtjdapfimjpbnmaaQ.PScr.at_T48 hC (k : Int) (by omega) (by omega)
      subst eA
      rw [Int.toNat_natCast] at c0 c1 c2
      have hLk : YtjdapfimjpbnmaaQ.PScr.rd_T48 L (k : Int) = YtjdapfimjpbnmaaQ.PScr.pkOf (B.drop (6 * k)) := by
        rw [← hget k hlt]
        simp [YtjdapfimjpbnmaaQ.PScr.rd_T48, hlt]
      rw [hLk] at c0 c1 c2
      simp only [YtjdapfimjpbnmaaQ.PScr.pkOf] at c0 c1 c2
      have hyl : 6 ≤ (B.drop (6 * k)).length := by simp; omega
      have hex : ((B.drop (6 * k)).drop 2).take 4 = [rd (B.drop (6 * k)) 2, rd (B.drop (6 * k)) 3, rd (B.drop (6 * k)) 4, rd (B.drop (6 * k)) 5] := by
        generalize B.drop (6 * k) = y at hyl
        have e2 : rd y 2 = y[2] := YtjdapfimjpbnmaaQ.PScr.rd_at y 2 (by omega)
        have e3 : rd y 3 = y[3] := YtjdapfimjpbnmaaQ.PScr.rd_at y 3 (by omega)
        have e4 : rd y 4 = y[4] := YtjdapfimjpbnmaaQ.PScr.rd_at y 4 (by omega)
        have e5 : rd y 5 = y[5] := YtjdapfimjpbnmaaQ.PScr.rd_at y 5 (by omega)
        rw [e2, e3, e4, e5, List.drop_eq_getElem_cons (show 2 < y.length by omega), List.drop_eq_getElem_cons (show 3 < y.length by omega), List.drop_eq_getElem_cons (show 4 < y.length by omega), List.drop_eq_getElem_cons (show 5 < y.length by omega)]
        rfl
      rw [hex] at c2
      have hcut : (strOfNums B).extract (6 * k) (6 * k + 6) = strOfNums ((B.drop (6 * k)).take 6) := by rw [YtjdapfimjpbnmaaQ.PScr.ext_str, show 6 * k + 6 - 6 * k = 6 by omega]
      clear hLk hex hget
      have hk6 : 6 * k + 6 ≤ B.length := by omega
      have hsl : ∀ W : World, (Instr.slice 9 (.string (strOfNums B)) (some (.int .i64 (6 * (k : Int)))) (some (.int .i64 (6 * (k : Int) + 6))) none).run Try.prog W = .ok (.string (strOfNums ((B.drop (6 * k)).take 6))) W := fun W => by
        rw [← hcut]
        exact run_slice_string W 9 (strOfNums B) .i64 .i64 (6 * (k : Int)) (6 * (k : Int) + 6) Try.underlying9 (by omega) (by omega) (by rw [hsz]; omega)
      have hy6 : ((B.drop (6 * k)).take 6).length = 6 := by simp; omega
      have hBy : Byte ((B.drop (6 * k)).take 6) := fun x hx => hB x (List.mem_of_mem_drop (List.mem_of_mem_take hx))
      have hs6 : (strOfNums ((B.drop (6 * k)).take 6)).size = 6 := by rw [strOfNums_size, hy6]
      have hcv := fun W : World => Lib.run_convert_string_bytes (P := Try.prog) W 9 32 5 (strOfNums ((B.drop (6 * k)).take 6)) Try.underlying9 Try.underlying32 Try.underlying5
      have hx : ∀ j : Nat, j < 6 → rd ((B.drop (6 * k)).take 6) (j : Int) = rd (B.drop (6 * k)) (j : Int) := by
        intro j hj
        rw [YtjdapfimjpbnmaaQ.PScr.rd_at _ j (by omega), YtjdapfimjpbnmaaQ.PScr.rd_at _ j (by omega)]
        simp
      have hy : ∀ (j : Nat), j < 6 → ∀ W : World, (Lib.bytesWorld W 5 (strOfNums ((B.drop (6 * k)).take 6))).cell? ⟨W.heap.size, j, none⟩ = some (.int .u8 (rd (B.drop (6 * k)) (j : Int))) := fun j hj W => by
        rw [← hx j hj]
        exact conv_cells W _ hBy j (by omega)
      have hb6 : Byte (B.drop (6 * k)) := hB.drop _
      have r1 : 0 ≤ rd (B.drop (6 * k)) 1 ∧ rd (B.drop (6 * k)) 1 ≤ 255 := YtjdapfimjpbnmaaQ.PScr.rd_bd _ hb6 1 (by omega)
      have r2 : 0 ≤ rd (B.drop (6 * k)) 2 ∧ rd (B.drop (6 * k)) 2 ≤ 255 := YtjdapfimjpbnmaaQ.PScr.rd_bd _ hb6 2 (by omega)
      have r3 : 0 ≤ rd (B.drop (6 * k)) 3 ∧ rd (B.drop (6 * k)) 3 ≤ 255 := YtjdapfimjpbnmaaQ.PScr.rd_bd _ hb6 3 (by omega)
      have r4 : 0 ≤ rd (B.drop (6 * k)) 4 ∧ rd (B.drop (6 * k)) 4 ≤ 255 := YtjdapfimjpbnmaaQ.PScr.rd_bd _ hb6 4 (by omega)
      have r5 : 0 ≤ rd (B.drop (6 * k)) 5 ∧ rd (B.drop (6 * k)) 5 ≤ 255 := YtjdapfimjpbnmaaQ.PScr.rd_bd _ hb6 5 (by omega)
      have r0 : 0 ≤ rd (B.drop (6 * k)) 0 ∧ rd (B.drop (6 * k)) 0 ≤ 255 := YtjdapfimjpbnmaaQ.PScr.rd_bd _ hb6 0 (by omega)
      have n0 : (rd (B.drop (6 * k)) 0 != IntKind.i64.wrap (rd (B.drop (6 * k)) 0)) = false := bne_eq_false_iff_eq.2 (by rw [IntKind.wrap_i64]; omega)
      have n1 : (rd (B.drop (6 * k)) 1 * 2 != IntKind.i64.wrap (2 * IntKind.i64.wrap (rd (B.drop (6 * k)) 1))) = false := bne_eq_false_iff_eq.2 (by simp only [IntKind.wrap_i64]; omega)
      have n2 : (valB [rd (B.drop (6 * k)) 2, rd (B.drop (6 * k)) 3, rd (B.drop (6 * k)) 4, rd (B.drop (6 * k)) 5] != IntKind.u32.wrap (IntKind.u32.wrap (IntKind.u32.wrap (IntKind.u32.wrap (IntKind.u32.wrap (rd (B.drop (6 * k)) 2) * 16777216) + IntKind.u32.wrap (IntKind.u32.wrap (rd (B.drop (6 * k)) 3) * 65536)) + IntKind.u32.wrap (IntKind.u32.wrap (rd (B.drop (6 * k)) 4) * 256)) + IntKind.u32.wrap (rd (B.drop (6 * k)) 5))) = false := bne_eq_false_iff_eq.2 (pk_val _ _ _ _ r2 r3 r4 r5).symm
      have hy0 : ∀ W : World, (Lib.bytesWorld W 5 (strOfNums ((B.drop (6 * k)).take 6))).cell? ⟨W.heap.size, 0, none⟩ = some (.int .u8 (rd (B.drop (6 * k)) 0)) := hy 0 (by omega)
      have hy1 : ∀ W : World, (Lib.bytesWorld W 5 (strOfNums ((B.drop (6 * k)).take 6))).cell? ⟨W.heap.size, 1, none⟩ = some (.int .u8 (rd (B.drop (6 * k)) 1)) := hy 1 (by omega)
      have hy2 : ∀ W : World, (Lib.bytesWorld W 5 (strOfNums ((B.drop (6 * k)).take 6))).cell? ⟨W.heap.size, 2, none⟩ = some (.int .u8 (rd (B.drop (6 * k)) 2)) := hy 2 (by omega)
      have hy3 : ∀ W : World, (Lib.bytesWorld W 5 (strOfNums ((B.drop (6 * k)).take 6))).cell? ⟨W.heap.size, 3, none⟩ = some (.int .u8 (rd (B.drop (6 * k)) 3)) := hy 3 (by omega)
      have hy4 : ∀ W : World, (Lib.bytesWorld W 5 (strOfNums ((B.drop (6 * k)).take 6))).cell? ⟨W.heap.size, 4, none⟩ = some (.int .u8 (rd (B.drop (6 * k)) 4)) := hy 4 (by omega)
      have hy5 : ∀ W : World, (Lib.bytesWorld W 5 (strOfNums ((B.drop (6 * k)).take 6))).cell? ⟨W.heap.size, 5, none⟩ = some (.int .u8 (rd (B.drop (6 * k)) 5)) := hy 5 (by omega)
      clear hcut hy hx hBy hy6 hb6 hyl r0 r1 r2 r3 r4 r5
      rw [hs6] at hcv
      clear hs6
      generalize strOfNums ((B.drop (6 * k)).take 6) = s at *
      generalize rd (B.drop (6 * k)) 0 = x0 at *
      generalize rd (B.drop (6 * k)) 1 = x1 at *
      generalize rd (B.drop (6 * k)) 2 = x2 at *
      generalize rd (B.drop (6 * k)) 3 = x3 at *
      generalize rd (B.drop (6 * k)) 4 = x4 at *
      generalize rd (B.drop (6 * k)) 5 = x5 at *
      generalize hq : valB [x2, x3, x4, x5] = q at *
      go_wp2_with fail
      have kP := Blk.new wr 48 #[.int .i64 x0, .int .i64 (x1 * 2), .int .u32 q]
      have hbW := hb.alloc hb.size (.cells #[.int .i64 x0, .int .i64 (x1 * 2), .int .u32 q] 48)
      have hCW := Kd.C_below hC ((Below.refl wr.heap.size wr).alloc (Nat.le_refl _) (.cells #[.int .i64 x0, .int .i64 (x1 * 2), .int .u32 q] 48))
      have hWs : (wr.alloc (.cells #[.int .i64 x0, .int .i64 (x1 * 2), .int .u32 q] 48)).heap.size = wr.heap.size + 1 := by simp
      generalize wr.alloc (.cells #[.int .i64 x0, .int .i64 (x1 * 2), .int .u32 q] 48) = W0 at *
      have bV : Below W0.heap.size W0 (Lib.bytesWorld W0 5 s) := ⟨rfl, rfl, rfl, by rw [Lib.bytesWorld_size]; omega, fun i hi => Lib.bytesWorld_at_old W0 _ s i hi⟩
      have hVs := Lib.bytesWorld_size W0 5 s
      have y0 := hy0 W0
      have y1 := hy1 W0
      have y2 := hy2 W0
      have y3 := hy3 W0
      have y4 := hy4 W0
      have y5 := hy5 W0
      have kV := kP.below' bV
      have hbV := Go.Proofs.Ytjdapfimjpbnmaa.below_step hbW hbW.size bV
      have hCV := Kd.C_below hCW bV
      clear kP hbW hCW bV hy0 hy1 hy2 hy3 hy4 hy5 hcv hsl hC hb c0 c1 c2
      rw [hWs] at y0 y1 y2 y3 y4 y5 hVs
      try rw [hWs]
      generalize Lib.bytesWorld W0 5 s = V at *
      have p0 := kV.cell 0
      have p1 := kV.cell 1
      have p2 := kV.cell 2
      simp only [List.getElem?_toArray, List.getElem?_cons_zero, List.getElem?_cons_succ] at p0 p1 p2
      have hl0 : wr.heap.size < V.heap.size := by omega
      have hl1 : wr.heap.size + 1 < V.heap.size := by omega
      refine draw_start [] Later (by kernel_rfl) ?_
      refine draw_chunk (n := 81) (by kernel_rfl) (fun _ _ _ _ _ h => h) [0, 1, 2, 3, 4, 5, 6, 7, 8, 9, 10, 11, 12, 13, 14, 15, 16, 17, 18, 19, 20, 21, 22, 23, 24, 25, 26, 27, 28, 29, 30, 31, 32, 33, 34, 35, 36, 37, 38, 39, 40, 41, 42, 43] [] _ #[true, true, true, true, true, true, true, true, true, true, true, true, true, true, true, true, true, true, true, true, true, true, true, true, true, true, true, true, true, true, true, true, true, true, true, true, true, true, true, true, true, true, true, true] (by kernel_rfl) 0 _ ?_ _ rfl ?_ ?_
      rotate_left
      · intro w' hw'
        have hc' : ∀ b o, b < V.heap.size → w'.cell? ⟨b, o, none⟩ = V.cell? ⟨b, o, none⟩ := (bcell hw').1
        have p0' := (hc' _ 0 hl0).trans p0; have p1' := (hc' _ 1 hl0).trans p1; have p2' := (hc' _ 2 hl0).trans p2; have y0' := (hc' _ 0 hl1).trans y0; have y1' := (hc' _ 1 hl1).trans y1; have y2' := (hc' _ 2 hl1).trans y2; have y3' := (hc' _ 3 hl1).trans y3; have y4' := (hc' _ 4 hl1).trans y4; have y5' := (hc' _ 5 hl1).trans y5
        refine ci_step (i := 0) (v := ?_) rfl (by kernel_rfl) ?_ ?_
        rotate_left
        · first | (go_simp; done) | (go_simp; with_reducible rfl)
        skip
        try simp only [Act.put, List.setIfInBounds_toArray, List.set_cons_zero, List.set_cons_succ]
        refine ci_step (i := 1) (v := ?_) rfl (by kernel_rfl) ?_ ?_
        rotate_left
        · first | (go_simp; done) | (go_simp; with_reducible rfl)
        skip
        try simp only [Act.put, List.setIfInBounds_toArray, List.set_cons_zero, List.set_cons_succ]
        refine ci_step (i := 2) (v := ?_) rfl (by kernel_rfl) ?_ ?_
        rotate_left
        · first | (go_simp; done) | (go_simp; with_reducible rfl)
        skip
        try simp only [Act.put, List.setIfInBounds_toArray, List.set_cons_zero, List.set_cons_succ]
        refine ci_step (i := 3) (v := ?_) rfl (by kernel_rfl) ?_ ?_
        rotate_left
        · first | (go_simp; done) | (go_simp; with_reducible rfl)
        skip
        try simp only [Act.put, List.setIfInBounds_toArray, List.set_cons_zero, List.set_cons_succ]
        refine ci_step (i := 4) (v := ?_) rfl (by kernel_rfl) ?_ ?_
        rotate_left
        · first | (go_simp; done) | (go_simp; with_reducible rfl)
        skip
        try simp only [Act.put, List.setIfInBounds_toArray, List.set_cons_zero, List.set_cons_succ]
        refine ci_step (i := 5) (v := ?_) rfl (by kernel_rfl) ?_ ?_
        rotate_left
        · first | (go_simp; done) | (go_simp; with_reducible rfl)
        skip
        try simp only [Act.put, List.setIfInBounds_toArray, List.set_cons_zero, List.set_cons_succ]
        refine ci_step (i := 6) (v := ?_) rfl (by kernel_rfl) ?_ ?_
        rotate_left
        · first | (go_simp; done) | (go_simp; with_reducible rfl)
        skip
        try simp only [Act.put, List.setIfInBounds_toArray, List.set_cons_zero, List.set_cons_succ]
        refine ci_step (i := 7) (v := ?_) rfl (by kernel_rfl) ?_ ?_
        rotate_left
        · first | (go_simp; done) | (go_simp; with_reducible rfl)
        skip
        try simp only [Act.put, List.setIfInBounds_toArray, List.set_cons_zero, List.set_cons_succ]
        refine ci_step (i := 8) (v := ?_) rfl (by kernel_rfl) ?_ ?_
        rotate_left
        · first | (go_simp; done) | (go_simp; with_reducible rfl)
        skip
        try simp only [Act.put, List.setIfInBounds_toArray, List.set_cons_zero, List.set_cons_succ]
        refine ci_step (i := 9) (v := ?_) rfl (by kernel_rfl) ?_ ?_
        rotate_left
        · first | (go_simp; done) | (go_simp; with_reducible rfl)
        skip
        try simp only [Act.put, List.setIfInBounds_toArray, List.set_cons_zero, List.set_cons_succ]
        refine ci_step (i := 10) (v := ?_) rfl (by kernel_rfl) ?_ ?_
        rotate_left
        · first | (go_simp; done) | (go_simp; with_reducible rfl)
        skip
        try simp only [Act.put, List.setIfInBounds_toArray, List.set_cons_zero, List.set_cons_succ]
        refine ci_step (i := 11) (v := ?_) rfl (by kernel_rfl) ?_ ?_
        rotate_left
        · first | (go_simp; done) | (go_simp; with_reducible rfl)
        skip
        try simp only [Act.put, List.setIfInBounds_toArray, List.set_cons_zero, List.set_cons_succ]
        refine ci_step (i := 12) (v := ?_) rfl (by kernel_rfl) ?_ ?_
        rotate_left
        · first | (go_simp; done) | (go_simp; with_reducible rfl)
        skip
        try simp only [Act.put, List.setIfInBounds_toArray, List.set_cons_zero, List.set_cons_succ]
        refine ci_step (i := 13) (v := ?_) rfl (by kernel_rfl) ?_ ?_
        rotate_left
        · first | (go_simp; done) | (go_simp; with_reducible rfl)
        skip
        try simp only [Act.put, List.setIfInBounds_toArray, List.set_cons_zero, List.set_cons_succ]
        refine ci_step (i := 14) (v := ?_) rfl (by kernel_rfl) ?_ ?_
        rotate_left
        · first | (go_simp; done) | (go_simp; with_reducible rfl)
        skip
        try simp only [Act.put, List.setIfInBounds_toArray, List.set_cons_zero, List.set_cons_succ]
        refine ci_step (i := 15) (v := ?_) rfl (by kernel_rfl) ?_ ?_
        rotate_left
        · first | (go_simp; done) | (go_simp; with_reducible rfl)
        skip
        try simp only [Act.put, List.setIfInBounds_toArray, List.set_cons_zero, List.set_cons_succ]
        refine ci_step (i := 16) (v := ?_) rfl (by kernel_rfl) ?_ ?_
        rotate_left
        · first | (go_simp; done) | (go_simp; with_reducible rfl)
        skip
        try simp only [Act.put, List.setIfInBounds_toArray, List.set_cons_zero, List.set_cons_succ]
        refine ci_step (i := 17) (v := ?_) rfl (by kernel_rfl) ?_ ?_
        rotate_left
        · first | (go_simp; done) | (go_simp; with_reducible rfl)
        skip
        try simp only [Act.put, List.setIfInBounds_toArray, List.set_cons_zero, List.set_cons_succ]
        refine ci_step (i := 18) (v := ?_) rfl (by kernel_rfl) ?_ ?_
        rotate_left
        · first | (go_simp; done) | (go_simp; with_reducible rfl)
        skip
        try simp only [Act.put, List.setIfInBounds_toArray, List.set_cons_zero, List.set_cons_succ]
        refine ci_step (i := 19) (v := ?_) rfl (by kernel_rfl) ?_ ?_
        rotate_left
        · first | (go_simp; done) | (go_simp; with_reducible rfl)
        skip
        try simp only [Act.put, List.setIfInBounds_toArray, List.set_cons_zero, List.set_cons_succ]
        refine ci_step (i := 20) (v := ?_) rfl (by kernel_rfl) ?_ ?_
        rotate_left
        · first | (go_simp; done) | (go_simp; with_reducible rfl)
        skip
        try simp only [Act.put, List.setIfInBounds_toArray, List.set_cons_zero, List.set_cons_succ]
        refine ci_step (i := 21) (v := ?_) rfl (by kernel_rfl) ?_ ?_
        rotate_left
        · first | (go_simp; done) | (go_simp; with_reducible rfl)
        skip
        try simp only [Act.put, List.setIfInBounds_toArray, List.set_cons_zero, List.set_cons_succ]
        refine ci_step (i := 22) (v := ?_) rfl (by kernel_rfl) ?_ ?_
        rotate_left
        · first | (go_simp; done) | (go_simp; with_reducible rfl)
        skip
        try simp only [Act.put, List.setIfInBounds_toArray, List.set_cons_zero, List.set_cons_succ]
        refine ci_step (i := 23) (v := ?_) rfl (by kernel_rfl) ?_ ?_
        rotate_left
        · first | (go_simp; done) | (go_simp; with_reducible rfl)
        skip
        try simp only [Act.put, List.setIfInBounds_toArray, List.set_cons_zero, List.set_cons_succ]
        refine ci_step (i := 24) (v := ?_) rfl (by kernel_rfl) ?_ ?_
        rotate_left
        · first | (go_simp; done) | (go_simp; with_reducible rfl)
        skip
        try simp only [Act.put, List.setIfInBounds_toArray, List.set_cons_zero, List.set_cons_succ]
        refine ci_step (i := 25) (v := ?_) rfl (by kernel_rfl) ?_ ?_
        rotate_left
        · first | (go_simp; done) | (go_simp; with_reducible rfl)
        skip
        try simp only [Act.put, List.setIfInBounds_toArray, List.set_cons_zero, List.set_cons_succ]
        refine ci_step (i := 26) (v := ?_) rfl (by kernel_rfl) ?_ ?_
        rotate_left
        · first | (go_simp; done) | (go_simp; with_reducible rfl)
        skip
        try simp only [Act.put, List.setIfInBounds_toArray, List.set_cons_zero, List.set_cons_succ]
        refine ci_step (i := 27) (v := ?_) rfl (by kernel_rfl) ?_ ?_
        rotate_left
        · first | (go_simp; done) | (go_simp; with_reducible rfl)
        skip
        try simp only [Act.put, List.setIfInBounds_toArray, List.set_cons_zero, List.set_cons_succ]
        refine ci_step (i := 28) (v := ?_) rfl (by kernel_rfl) ?_ ?_
        rotate_left
        · first | (go_simp; done) | (go_simp; with_reducible rfl)
        skip
        try simp only [Act.put, List.setIfInBounds_toArray, List.set_cons_zero, List.set_cons_succ]
        refine ci_step (i := 29) (v := ?_) rfl (by kernel_rfl) ?_ ?_
        rotate_left
        · first | (go_simp; done) | (go_simp; with_reducible rfl)
        skip
        try simp only [Act.put, List.setIfInBounds_toArray, List.set_cons_zero, List.set_cons_succ]
        refine ci_step (i := 30) (v := ?_) rfl (by kernel_rfl) ?_ ?_
        rotate_left
        · first | (go_simp; done) | (go_simp; with_reducible rfl)
        skip
        try simp only [Act.put, List.setIfInBounds_toArray, List.set_cons_zero, List.set_cons_succ]
        refine ci_step (i := 31) (v := ?_) rfl (by kernel_rfl) ?_ ?_
        rotate_left
        · first | (go_simp; done) | (go_simp; with_reducible rfl)
        skip
        try simp only [Act.put, List.setIfInBounds_toArray, List.set_cons_zero, List.set_cons_succ]
        refine ci_step (i := 32) (v := ?_) rfl (by kernel_rfl) ?_ ?_
        rotate_left
        · first | (go_simp; done) | (go_simp; with_reducible rfl)
        skip
        try simp only [Act.put, List.setIfInBounds_toArray, List.set_cons_zero, List.set_cons_succ]
        refine ci_step (i := 33) (v := ?_) rfl (by kernel_rfl) ?_ ?_
        rotate_left
        · first | (go_simp; done) | (go_simp; with_reducible rfl)
        skip
        try simp only [Act.put, List.setIfInBounds_toArray, List.set_cons_zero, List.set_cons_succ]
        refine ci_step (i := 34) (v := ?_) rfl (by kernel_rfl) ?_ ?_
        rotate_left
        · first | (go_simp; done) | (go_simp; with_reducible rfl)
        skip
        try simp only [Act.put, List.setIfInBounds_toArray, List.set_cons_zero, List.set_cons_succ]
        refine ci_step (i := 35) (v := ?_) rfl (by kernel_rfl) ?_ ?_
        rotate_left
        · first | (go_simp; done) | (go_simp; with_reducible rfl)
        skip
        try simp only [Act.put, List.setIfInBounds_toArray, List.set_cons_zero, List.set_cons_succ]
        refine ci_step (i := 36) (v := ?_) rfl (by kernel_rfl) ?_ ?_
        rotate_left
        · first | (go_simp; done) | (go_simp; with_reducible rfl)
        skip
        try simp only [Act.put, List.setIfInBounds_toArray, List.set_cons_zero, List.set_cons_succ]
        refine ci_step (i := 37) (v := ?_) rfl (by kernel_rfl) ?_ ?_
        rotate_left
        · first | (go_simp; done) | (go_simp; with_reducible rfl)
        skip
        try simp only [Act.put, List.setIfInBounds_toArray, List.set_cons_zero, List.set_cons_succ]
        refine ci_step (i := 38) (v := ?_) rfl (by kernel_rfl) ?_ ?_
        rotate_left
        · first | (go_simp; done) | (go_simp; with_reducible rfl)
        skip
        try simp only [Act.put, List.setIfInBounds_toArray, List.set_cons_zero, List.set_cons_succ]
        refine ci_step (i := 39) (v := ?_) rfl (by kernel_rfl) ?_ ?_
        rotate_left
        · first | (go_simp; done) | (go_simp; with_reducible rfl)
        skip
        try simp only [Act.put, List.setIfInBounds_toArray, List.set_cons_zero, List.set_cons_succ]
        refine ci_step (i := 40) (v := ?_) rfl (by kernel_rfl) ?_ ?_
        rotate_left
        · first | (go_simp; done) | (go_simp; with_reducible rfl)
        skip
        try simp only [Act.put, List.setIfInBounds_toArray, List.set_cons_zero, List.set_cons_succ]
        refine ci_step (i := 41) (v := ?_) rfl (by kernel_rfl) ?_ ?_
        rotate_left
        · first | (go_simp; done) | (go_simp; with_reducible rfl)
        skip
        try simp only [Act.put, List.setIfInBounds_toArray, List.set_cons_zero, List.set_cons_succ]
        refine ci_step (i := 42) (v := ?_) rfl (by kernel_rfl) ?_ ?_
        rotate_left
        · first | (go_simp; done) | (go_simp; with_reducible rfl)
        skip
        try simp only [Act.put, List.setIfInBounds_toArray, List.set_cons_zero, List.set_cons_succ]
        refine ci_step (i := 43) (v := ?_) rfl (by kernel_rfl) ?_ ?_
        rotate_left
        · first | (go_simp; done) | (go_simp; with_reducible rfl)
        skip
        try simp only [Act.put, List.setIfInBounds_toArray, List.set_cons_zero, List.set_cons_succ]
        refine ci_end ?_
        rfl
      refine draw_done (by kernel_rfl) ?_ _
      go_wp2
      go_roundw
      case rel => exact ⟨k + 1, by omega, by go_num, Kd.C_drew hCV, hbV.drew⟩
      case measure => simp [intOf]; omega
    · obtain rfl : k = L.length := by omega
      go_wp2
      go_ret
      exact ⟨rfl, hb⟩
end Go.Proofs.Ytjdapfimjpbnmaa
