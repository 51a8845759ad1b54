import Derived.Test.YtjdapfimjpbnmaaDoorAddrS2
import Derived.Test.YtjdapfimjpbnmaaDoorBytes4
set_option linter.unusedVariables false
set_option linter.unusedSimpArgs false
namespace Go.Proofs.YtjdapfimjpbnmaaDoor
open Go.RowKit
theorem cutOn_len (c : UInt8) : ∀ s : List UInt8, (cutOn c s).1.length ≤ s.length ∧ (cutOn c s).2.length ≤ s.length
  | [] => by simp [cutOn]
  | b :: r => by
    have ih := cutOn_len c r
    rw [cutOn]
    split
    · simp
    · simp; omega
theorem splitOn_len (c : UInt8) : ∀ s : List UInt8, ∀ p ∈ splitOn c s, p.length ≤ s.length
  | [], p, h => by simp [splitOn] at h; simp [h]
  | b :: r, p, h => by
    have ih := splitOn_len c r
    rw [splitOn] at h
    split at h
    · rcases List.mem_cons.1 h with rfl | h
      · simp
      · have := ih p h; simp; omega
    · split at h
      · simp at h; simp [h]
      · rename_i q qs e
        rcases List.mem_cons.1 h with rfl | h
        · have := ih q (by rw [e]; simp); simp; omega
        · have := ih p (by rw [e]; simp [h]); simp; omega
theorem cut_calls (s : ByteArray) (w : World) (ht : Tabs w) (hs : s.size ≤ 1000) :
    Calls Tryd.prog 21 #[.string s, .string ⟨#[47]⟩] w fun e w' => (∃ b, e = .returned (.tuple #[.string (strB (cutOn 47 s.data.toList).1), .string (strB (cutOn 47 s.data.toList).2), .bool b])) ∧ Below w.heap.size w w' := by
  obtain ⟨m, hm⟩ := ht.max (g := 1) (by kernel_rfl)
  refine (Tryd.strings_Cut s ⟨#[47]⟩ m w (by omega) hm).mono fun e w' ⟨he, n, hn⟩ => ⟨⟨(Lib.cut s.data.toList [47]).2.2, ?_⟩, hn ▸ below_drewN (Below.refl _ _) n⟩
  have h := cut_one 47 s.data.toList
  rw [he, ← h]
  rfl
theorem split_calls (s : ByteArray) (w : World) (ht : Tabs w) (hs : s.size ≤ 1000) :
    Calls Tryd.prog 23 #[.string s, .string ⟨#[46]⟩] w fun e w' => ∃ l : List ByteArray, e = .returned (.slice (some ⟨w.heap.size, 0, none⟩) l.length l.length) ∧ w' = w.alloc (.cells (l.map Value.string).toArray 9) ∧ l.map (·.data.toList) = splitOn 46 s.data.toList := by
  obtain ⟨m, hm⟩ := ht.max (g := 1) (by kernel_rfl)
  refine (Tryd.strings_Split s ⟨#[46]⟩ m w (by omega) hm (by decide)).mono fun e w' ⟨he, hw⟩ => ⟨Lib.splitB ⟨#[46]⟩ 0 (Lib.countB s ⟨#[46]⟩) s, ?_, hw, ?_⟩
  · rw [he, Lib.splitB_all ⟨#[46]⟩ (by decide) 0 _ s rfl]
  · rw [Lib.splitB_data, ← split_one]
    rfl
theorem or_shl (acc d : Int) (ha : 0 ≤ acc) (hd : 0 ≤ d ∧ d ≤ 255) : bits .or .u32 (acc * 256 % 4294967296) d = acc * 256 % 4294967296 + d := by
  have h := or_byte32 (acc % 16777216) d (by omega) (by omega) hd
  have e1 : acc * 256 % 4294967296 = acc % 16777216 * 256 := by omega
  rw [e1, h]
/-- What 'Parse' answers. -/
def parseV : Option (Int × Int) → Value
  | some (a, l) => .tuple #[.agg #[.int .u32 a, .int .i64 l], .bool true]
  | none => .tuple #[.agg #[.int .u32 0, .int .i64 0], .bool false]
set_option maxHeartbeats 1000000 in
theorem addr_Parse (s : ByteArray) (w : World) (ht : Tabs w) (hs : s.size ≤ 1000) :
    Calls Tryd.prog 14 #[.string s] w fun e w' => e = .returned (parseV (parseF s.data.toList)) ∧ Below w.heap.size w w' := by
  have hsz : s.data.toList.length ≤ 1000 := by simpa using hs
  have hc := cutOn_len 47 s.data.toList
  obtain ⟨L, hL⟩ : ∃ L, (cutOn 47 s.data.toList).1 = L := ⟨_, rfl⟩
  obtain ⟨R, hR⟩ : ∃ R, (cutOn 47 s.data.toList).2 = R := ⟨_, rfl⟩
  have HP := Lib.hid (show parseF s.data.toList = if (numF R 32).2 = true ∧ (splitOn 46 L).length = 4 then match foldA 0 (splitOn 46 L) with
    | some a => if rightB a (numF R 32).1 = true then some (a, (numF R 32).1) else none
    | none => none else none by rw [← hL, ← hR]; rfl)
  have hcut := cut_calls s
  rw [hL, hR] at hc hcut
  have HC := Lib.hid hcut
  clear hcut hL hR
  have hn := fun w ht => addr_number (strB R) 32 w ht (by show Array.size _ ≤ _; simp; omega)
  have hsp := fun w ht => split_calls (strB L) w ht (by show Array.size _ ≤ _; simp; omega)
  have e1 : (strB R).data.toList = R := rfl
  have e2 : (strB L).data.toList = L := rfl
  rw [e1] at hn
  rw [e2] at hsp
  clear e1 e2
  have HN := Lib.hid hn
  have HS := Lib.hid hsp
  clear hn hsp
  obtain ⟨⟨n, b⟩, hnb⟩ : ∃ p, numF R 32 = p := ⟨_, rfl⟩
  rw [hnb] at HP HN
  clear hnb
  dsimp only at HP HN
  have hb0 := (Below.refl w.heap.size w).alloc (Nat.le_refl _) (.cells #[.int .u32 0, .int .i64 0] 24)
  have kR := Blk.new w 24 #[.int .u32 0, .int .i64 0]
  go_enter Tryd.func14, Tryd.ntmps14
  go_wp2_with fail
  refine (HC.out _ (ht.below hb0) hs).mono ?_
  rintro e w1 ⟨⟨bb, rfl⟩, hb1⟩
  replace hb0 := Go.Proofs.YtjdapfimjpbnmaaDoor.below_step hb0 hb0.size hb1
  replace kR := kR.below' hb1
  go_wp2_with fail
  refine (HN.out _ (ht.below hb0)).mono ?_
  rintro e w2 ⟨rfl, hb2⟩
  replace hb0 := Go.Proofs.YtjdapfimjpbnmaaDoor.below_step hb0 hb0.size hb2
  replace kR := kR.below' hb2
  go_wp2_with fail
  refine (HS.out _ (ht.below hb0)).mono ?_
  rintro e w3 ⟨l, rfl, rfl, hl⟩
  have hb0w := hb0.size
  have hneS : w2.heap.size ≠ w.heap.size := Nat.ne_of_gt kR.lt
  replace hb0 := hb0.alloc hb0.size (.cells (l.map Value.string).toArray 9)
  have kS := Blk.new w2 9 (l.map Value.string).toArray
  replace kR := kR.alloc (.cells (l.map Value.string).toArray 9)
  replace hl := Lib.hid hl
  clear hb1 hb2 HC HN HS
  have hgS : w.heap.size ≠ w2.heap.size := Nat.ne_of_lt (Nat.lt_of_le_of_ne hb0w (Ne.symm hneS))
  generalize w2.alloc (.cells (l.map Value.string).toArray 9) = W at hb0 kS kR ⊢
  generalize w2.heap.size = gS at kS hgS ⊢
  clear hb0w hneS
  by_cases hb : b = true
  · subst hb
    by_cases h4 : l.length = 4
    · have hP2 : parseF s.data.toList = match foldA 0 (splitOn 46 L) with
        | some a => if rightB a n = true then some (a, n) else none
        | none => none := by rw [HP.out, if_pos ⟨rfl, by rw [← hl.out, List.length_map]; exact h4⟩]
      have HQ := Lib.hid hP2
      clear HP hP2
      rw [h4]
      go_wp2_with fail
      have kP := Blk.new W 24 #[.int .u32 0, .int .i64 n]
      have hPR : W.heap.size ≠ w.heap.size := Nat.ne_of_gt kR.lt
      have hgP := hb0.size
      have hPS : W.heap.size ≠ gS := Nat.ne_of_gt kS.lt
      replace kS := kS.alloc (.cells #[.int .u32 0, .int .i64 n] 24)
      replace kR := kR.alloc (.cells #[.int .u32 0, .int .i64 n] 24)
      replace hb0 := hb0.alloc hb0.size (.cells #[.int .u32 0, .int .i64 n] 24)
      generalize W.alloc (.cells #[.int .u32 0, .int .i64 n] 24) = V at hb0 kS kR kP ⊢
      generalize W.heap.size = gP at kP hPR hPS hgP ⊢
      have lenS : (splitOn 46 L).length = 4 := by rw [← hl.out, List.length_map]; exact h4
      have HLen := Lib.hid lenS
      have H4 := Lib.hid h4
      have hPS' := Ne.symm hPS
      have hPR' := Ne.symm hPR
      clear lenS h4
      go_loopw [40] (fun i wr => ∃ k : Nat, k ≤ 4 ∧ i = .int .i64 k ∧ ∃ acc : Int, Blk wr gP 24 #[.int .u32 acc, .int .i64 n] ∧ (0 ≤ acc ∧ acc ≤ 4294967295) ∧ foldA 0 (splitOn 46 L) = foldA acc ((splitOn 46 L).drop k) ∧
        Blk wr w.heap.size 24 #[.int .u32 0, .int .i64 0] ∧ Blk wr gS 9 (l.map Value.string).toArray ∧ Below w.heap.size w wr) (fun i _ => 4 - (intOf i).toNat)
      case atStart => exact ⟨0, by omega, rfl, 0, kP, ⟨by omega, by omega⟩, rfl, kR, kS, hb0⟩
      case round =>
        clear kP kR kS hb0
        obtain ⟨k, hk, rfl, acc, kP, ⟨ha0, ha1⟩, hf, kR, kS, hb0⟩ := hrel
        by_cases hlt : k < 4
        · have hkl : k < l.length := by rw [H4.out]; exact hlt
          have hS : wr.cell? ⟨gS, k, none⟩ = some (.string l[k]) := by rw [kS.cell k]; simp [List.getElem?_eq_getElem hkl]
          have hmem : l[k].data.toList ∈ splitOn 46 L := by rw [← hl.out]; exact List.mem_map.2 ⟨l[k], List.getElem_mem hkl, rfl⟩
          have hxl := splitOn_len 46 L _ hmem
          have hsz' : l[k].size ≤ 1000000000 := by
            have : l[k].data.toList.length = l[k].size := by simp
            omega
          have hdrop : (splitOn 46 L).drop k = l[k].data.toList :: (splitOn 46 L).drop (k + 1) := by
            rw [← hl.out, List.drop_eq_getElem_cons (by rw [List.length_map]; exact hkl), List.getElem_map]
          rw [hdrop] at hf
          have HF := Lib.hid hf
          clear hf hdrop hmem hxl
          have hnum := addr_number l[k] 255 wr (ht.below hb0) hsz'
          have hbd : (numF l[k].data.toList 255).2 = true → 0 ≤ (numF l[k].data.toList 255).1 ∧ (numF l[k].data.toList 255).1 ≤ 255 := fun h => by
            obtain ⟨m, h1, -, h2⟩ := numF_true h
            omega
          generalize hX : l[k] = X at *
          clear hX
          obtain ⟨d, is, hd⟩ : ∃ d is, numF X.data.toList 255 = (d, is) := ⟨_, _, rfl⟩
          simp only [foldA] at HF
          rw [hd] at hnum hbd HF
          dsimp only at hnum hbd HF
          clear hd
          have HN := Lib.hid hnum
          clear hnum
          by_cases his : is = true
          · subst his
            obtain ⟨hd0, hd1⟩ := hbd rfl
            clear hbd
            have HO := Lib.hid (or_shl acc d ha0 ⟨hd0, hd1⟩)
            have hor0 : 0 ≤ acc * 256 % 4294967296 + d := by omega
            have hor1 : acc * 256 % 4294967296 + d ≤ 4294967295 := by omega
            go_wp2_with fail
            refine HN.out.mono ?_
            rintro e w4 ⟨rfl, hb4⟩
            have kP4 := kP.below' hb4
            have kR4 := kR.below' hb4
            have kS4 := kS.below' hb4
            have hb5 := Go.Proofs.YtjdapfimjpbnmaaDoor.below_step hb0 hb0.size hb4
            have hsz4 := kP4.lt
            have hszw := hb0.size
            clear HN kP kR kS hb4 hb0
            have p0 := kP4.cell 0
            have p1 := kP4.cell 1
            simp only [List.getElem?_toArray, List.getElem?_cons_zero, List.getElem?_cons_succ] at p0 p1
            have pf0 := kP4.frozen 0
            go_wp2_with fail
            rw [HO.out]
            have kP5 := kP4.set 0 (.int .u32 (acc * 256 % 4294967296 + d))
            have kR5 := kR4.other (a := ⟨gP, 0, none⟩) hPR' (.int .u32 (acc * 256 % 4294967296 + d))
            have kS5 := kS4.other (a := ⟨gP, 0, none⟩) hPS' (.int .u32 (acc * 256 % 4294967296 + d))
            simp only [List.setIfInBounds_toArray, List.set_cons_zero] at kP5
            go_roundw
            case rel => exact ⟨k + 1, by omega, by go_num, _, kP5, ⟨hor0, hor1⟩, by rw [HF.out]; exact if_pos trivial, kR5, kS5, hb5.setCell hgP _⟩
            case measure => simp [intOf]; omega
          · obtain rfl : is = false := by simpa using his
            have HZ := Lib.hid (show parseF s.data.toList = none by rw [HQ.out, HF.out, if_neg (by decide)])
            clear HF hbd HQ
            go_wp2_with fail
            refine HN.out.mono ?_
            rintro e w4 ⟨rfl, hb4⟩
            have kR4 := kR.below' hb4
            have hb5 := Go.Proofs.YtjdapfimjpbnmaaDoor.below_step hb0 hb0.size hb4
            clear HN kP kR kS hb4 hb0
            have r0 := kR4.cell 0
            have r1 := kR4.cell 1
            simp only [List.getElem?_toArray, List.getElem?_cons_zero, List.getElem?_cons_succ] at r0 r1
            have rf0 := kR4.frozen 0
            have rf1 := kR4.frozen 1
            go_wp2
            refine bodyPost_ret (v := .tuple #[.agg #[.int .u32 0, .int .i64 0], .bool false]) (by simp [results, Tryd.results14, go_sem, r0, r1]) rfl ⟨by rw [HZ.out]; rfl, ?_⟩
            exact (hb5.setCell (Nat.le_refl _) _).setCell (Nat.le_refl _) _
        · obtain rfl : k = 4 := by omega
          have hd4 : (splitOn 46 L).drop 4 = [] := List.drop_eq_nil_of_le (by rw [HLen.out]; omega)
          rw [hd4] at hf
          have HZ := Lib.hid (show parseF s.data.toList = if rightB acc n = true then some (acc, n) else none by rw [HQ.out, hf]; rfl)
          clear hf hd4 HQ
          have p0 := kP.cell 0
          have p1 := kP.cell 1
          simp only [List.getElem?_toArray, List.getElem?_cons_zero, List.getElem?_cons_succ] at p0 p1
          go_wp2_with fail
          refine (addr_Right acc n _ ⟨ha0, ha1⟩).mono ?_
          rintro e w4 ⟨rfl, hb4⟩
          have kP4 := kP.below' hb4
          have kR4 := kR.below' hb4
          have hb5 := Go.Proofs.YtjdapfimjpbnmaaDoor.below_step hb0 hb0.size hb4
          clear kP kR kS hb4 hb0 p0 p1
          have r0 := kR4.cell 0
          have r1 := kR4.cell 1
          simp only [List.getElem?_toArray, List.getElem?_cons_zero, List.getElem?_cons_succ] at r0 r1
          have p0 := kP4.cell 0
          have p1 := kP4.cell 1
          simp only [List.getElem?_toArray, List.getElem?_cons_zero, List.getElem?_cons_succ] at p0 p1
          have rf0 := kR4.frozen 0
          have rf1 := kR4.frozen 1
          cases hr : rightB acc n with
          | true =>
            rw [hr, if_pos rfl] at HZ
            clear hr
            go_wp2
            refine bodyPost_ret (v := .tuple #[.agg #[.int .u32 acc, .int .i64 n], .bool true]) (by simp [results, Tryd.results14, go_sem, r0, r1]) rfl ⟨by rw [HZ.out]; rfl, ?_⟩
            exact (hb5.setCell (Nat.le_refl _) _).setCell (Nat.le_refl _) _
          | false =>
            rw [hr, if_neg (by decide)] at HZ
            clear hr
            go_wp2
            refine bodyPost_ret (v := .tuple #[.agg #[.int .u32 0, .int .i64 0], .bool false]) (by simp [results, Tryd.results14, go_sem, r0, r1]) rfl ⟨by rw [HZ.out]; rfl, ?_⟩
            exact (hb5.setCell (Nat.le_refl _) _).setCell (Nat.le_refl _) _
    · have HQ := Lib.hid (show parseF s.data.toList = none by rw [HP.out, if_neg]; rw [← hl.out]; simpa using h4)
      have h4' : ((l.length : Int) != 4) = true := by simp; omega
      clear HP h4
      have r0 := kR.cell 0
      have r1 := kR.cell 1
      simp only [List.getElem?_toArray, List.getElem?_cons_zero, List.getElem?_cons_succ] at r0 r1
      have rf0 := kR.frozen 0
      have rf1 := kR.frozen 1
      go_wp2
      refine bodyPost_ret (v := .tuple #[.agg #[.int .u32 0, .int .i64 0], .bool false]) (by simp [results, Tryd.results14, go_sem, r0, r1]) rfl ⟨by rw [HQ.out]; rfl, ?_⟩
      exact (hb0.setCell (Nat.le_refl _) _).setCell (Nat.le_refl _) _
  · obtain rfl : b = false := by simpa using hb
    have HQ := Lib.hid (show parseF s.data.toList = none by rw [HP.out, if_neg]; simp)
    clear HP hb
    have r0 := kR.cell 0
    have r1 := kR.cell 1
    simp only [List.getElem?_toArray, List.getElem?_cons_zero, List.getElem?_cons_succ] at r0 r1
    have rf0 := kR.frozen 0
    have rf1 := kR.frozen 1
    go_wp2
    refine bodyPost_ret (v := .tuple #[.agg #[.int .u32 0, .int .i64 0], .bool false]) (by simp [results, Tryd.results14, go_sem, r0, r1]) rfl ⟨by rw [HQ.out]; rfl, ?_⟩
    exact (hb0.setCell (Nat.le_refl _) _).setCell (Nat.le_refl _) _
end Go.Proofs.YtjdapfimjpbnmaaDoor
