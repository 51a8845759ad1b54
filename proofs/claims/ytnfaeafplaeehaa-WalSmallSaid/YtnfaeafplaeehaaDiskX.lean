import Derived.Test.YtnfaeafplaeehaaSortI
set_option linter.unusedVariables false
set_option linter.unusedSimpArgs false
namespace Go.Proofs.Ytnfaeafplaeehaa
open Go.RowKit Go.ChangeMaps Go.Lib
/-! A crash. -/
structure Pk where
  how : Int
  at_ : Int
  turn : Int
instance : Inhabited Pk := ⟨⟨0, 0, 0⟩⟩
def Pk.cells (p : Pk) : List Value := [.int .i64 p.how, .int .i64 p.at_, .int .u32 p.turn]
def crash1 (lat : List (Int × Sec)) (picks : List Pk) (sec : List Sec) (n : Nat) (i : Int) : List Sec :=
  match picks[n]? with
  | none => sec
  | some p => if p.how = 0 then sec else
    let s := (getM lat i).getD zsec
    if p.how = 1 then sec.set i.toNat s else sec.set i.toNat (spoiltS s (IntKind.u64.wrap p.at_ % 384) p.turn)
def crashN (sec : List Sec) (lat : List (Int × Sec)) (picks : List Pk) (ks : List Int) (k : Nat) : List Sec := (List.range k).foldl (fun s n => crash1 lat picks s n (ks.getD n 0)) sec
def crashS (sec : List Sec) (lat : List (Int × Sec)) (picks : List Pk) : List Sec := crashN sec lat picks (sortI (lat.map (·.1))) lat.length
theorem crashN_succ (sec : List Sec) (lat : List (Int × Sec)) (picks : List Pk) (ks : List Int) (k : Nat) : crashN sec lat picks ks (k + 1) = crash1 lat picks (crashN sec lat picks ks k) k (ks.getD k 0) := by
  unfold crashN
  rw [List.range_succ, List.foldl_append]
  rfl
theorem crash1_len (lat : List (Int × Sec)) (picks : List Pk) (sec : List Sec) (n : Nat) (i : Int) : (crash1 lat picks sec n i).length = sec.length := by
  unfold crash1
  split
  · rfl
  · split
    · rfl
    · simp only
      split <;> simp
theorem crashN_len (sec : List Sec) (lat : List (Int × Sec)) (picks : List Pk) (ks : List Int) : ∀ k : Nat, (crashN sec lat picks ks k).length = sec.length
  | 0 => rfl
  | k + 1 => by rw [crashN_succ, crash1_len, crashN_len sec lat picks ks k]
theorem sortI_perm (l : List Int) : (sortI l).Perm l := List.mergeSort_perm _ _
theorem sortI_sorted (l : List Int) : (sortI l).Pairwise (· ≤ ·) := by
  have := List.pairwise_mergeSort (le := fun x y : Int => decide (x ≤ y)) (fun a b c h1 h2 => by simp at *; omega) (fun a b => by simp; omega) l
  unfold sortI
  exact this.imp fun h => by simpa using h
theorem sortI_eq {a b : List Int} (h : a.Perm b) : sortI a = sortI b :=
  List.Perm.eq_of_pairwise (fun x y _ _ h1 h2 => by omega) (sortI_sorted a) (sortI_sorted b) ((sortI_perm a).trans (h.trans (sortI_perm b).symm))
theorem look_lat1 {w : World} {b : Nat} {m : List (Int × Sec)} (h : MapAt w b ikey secV m) (k : Int) : (Instr.lookup 124 (.map (some b)) (.int .i64 k) false).run Try.prog w = .ok (secV ((getM m k).getD zsec)) w := by
  cases hg : getM m k with
  | none => exact run_lookup_none ikey_keys Try.underlying124 h k hg false _ run_zero_sec
  | some v => exact run_lookup_some ikey_keys Try.underlying124 h k v hg false
theorem pk_get (l : List Pk) (k j : Nat) (hk : k < l.length) (hj : j < 3) : (l.flatMap Pk.cells)[k * 3 + j]? = (l[k]).cells[j]? := flat_get Pk.cells 3 (fun _ => rfl) l k j hk hj
theorem DiskAt.drewBelow {W W' : World} {d g bs : Nat} {sec : List Sec} {lat : List (Int × Sec)} {fl : Int} (h : DiskAt W d g bs sec lat fl) (hb : Below W.drew.heap.size W.drew W') : DiskAt W' d g bs sec lat fl := DiskAt.below (W := W.drew) (h.below (Below.drew (Below.refl _ _))) hb
theorem Kept.row0 {S : List Nat} {w w' : World} {size n : Nat} {A : Option Addr} {cs : List Value} (h : Kept S w w') (hr : Row w size A n cs) (hs : 0 < n → ∀ b off, A = some ⟨b, off, none⟩ → b ∉ S) : Row w' size A n cs := by
  by_cases h0 : 0 < n
  · exact h.row hr (hs h0)
  · exact ⟨hr.1, hr.2.1, fun h => absurd h h0⟩
theorem own_row {w : World} {base sz n : Nat} {T : TypeId} {v : Value} {cs : List Value} (h : w.ownsRow base T sz v n cs) (hn : n ≤ 140737488351232) (hcs : cs.length = n * sz) : ∃ A c, v = .slice A n c ∧ Row w sz A n cs ∧ ∀ b off, A = some ⟨b, off, none⟩ → base ≤ b := by
  obtain ⟨h1, h2⟩ := h
  rcases h2 with ⟨rfl, h0⟩ | ⟨g, cap, cur, rfl, hb, hg, hc, hm, hs, ht⟩
  · exact ⟨none, 0, by rw [h0], ⟨hcs, hn, fun hp => by omega⟩, fun b off e => by cases e⟩
  · refine ⟨_, _, rfl, ⟨hcs, hn, fun _ => ⟨g, 0, rfl, lt_of_heap hg, fun j u hj => ?_⟩⟩, fun b off e => by cases e; exact hb⟩
    simp only [World.cell?, hg, Nat.zero_add]
    rw [← ht, List.getElem?_take] at hj
    split at hj
    · simpa using hj
    · cases hj
set_option maxRecDepth 100000 in
set_option maxHeartbeats 4000000 in
theorem disk_Crash (d g bs : Nat) (sec : List Sec) (lat : List (Int × Sec)) (fl : Int) (picks : List Pk) (A : Option Addr) (c : Nat) (w : World) (h : DiskAt w d g bs sec lat fl) (hr : Row w 3 A picks.length (picks.flatMap Pk.cells)) (hlen : lat.length ≤ 1000000) (hpl : picks.length ≤ 140737488351232) (hA : 0 < picks.length → ∀ b off, A = some ⟨b, off, none⟩ → b ≠ bs) :
    Calls Try.prog 28 #[.pointer (some ⟨d, 0, none⟩), .slice A picks.length c] w fun e w' => e = .returned (.tuple #[]) ∧ DiskAt w' d g bs (crashS sec lat picks) [] (-1) ∧ Kept [d, g, bs] w w' := by
  have hB := h.d
  have b0 := hB.cell 0
  have b1 := hB.cell 1
  have b2 := hB.cell 2
  simp only [List.getElem?_toArray, List.getElem?_cons_zero, List.getElem?_cons_succ] at b0 b1 b2
  have b9 := hB.lt
  have hMl := h.m.lt
  go_enter Try.func28, Try.ntmps28
  go_wp2_with fail
  refine (keysInt_keys (some g) w).mono ?_
  rintro e w1 ⟨rfl, rfl⟩
  have hs := sortedInt w.heap.size g lat (w.alloc (.cells #[.map (some g)] 124)) (by simp) (by simp) (h.m.alloc _) hlen
  go_wp2_with fail
  refine hs.mono ?_
  rintro e w2 ⟨v, ss, rfl, hS, hrow, hb2⟩
  rw [sortI_eq hS, hS.length_eq] at hrow
  have hkl : (sortI (lat.map (·.1))).length = lat.length := by rw [(sortI_perm _).length_eq, List.length_map]
  have hkm : ∀ i ∈ sortI (lat.map (·.1)), ∃ v, (i, v) ∈ lat := fun i hi => by
    obtain ⟨x, hx, rfl⟩ := List.mem_map.1 ((sortI_perm _).mem_iff.1 hi)
    exact ⟨x.2, hx⟩
  obtain ⟨A1, c1, rfl, hrow1, hA1⟩ := own_row hrow (by rw [List.length_map]; omega) (by simp [i64s, hkl])
  rw [List.length_map] at hrow1 ⊢
  simp only [World.size_alloc] at hA1
  have hb0 : Below w.heap.size w w2 := ((Below.refl _ w).alloc (Nat.le_refl _) _).trans (hb2.mono (by simp))
  have hD := h.below hb0
  have hP := hr.below hb0
  have hA' : 0 < picks.length → ∀ b off, A = some ⟨b, off, none⟩ → b ∉ [bs] := fun h b off e => by simpa using hA h b off e
  have hAl1 : ∀ b off, A1 = some ⟨b, off, none⟩ → b ≠ bs := fun b off e => by have := hA1 b off e; have := h.s.lt; omega
  have hk0 : Kept [d, g, bs] w w2 := Kept.of_below hb0
  change DiskAt w2 d g bs (crashN sec lat picks (sortI (lat.map (·.1))) 0) lat fl at hD
  have HC := Lib.hid (show crashS sec lat picks = crashN sec lat picks (sortI (lat.map (·.1))) lat.length from rfl)
  generalize hks : sortI (lat.map (·.1)) = ks at *
  clear hks
  clear hs hS hrow hb2 hb0 hA hr b0 b1 b2 hB
  have hsl := h.sz
  clear h
  go_wp2
  go_loopw [14] (fun i wr => ∃ k : Nat, k ≤ lat.length ∧ i = .int .i64 k ∧ DiskAt wr d g bs (crashN sec lat picks ks k) lat fl ∧ Row wr 3 A picks.length (picks.flatMap Pk.cells) ∧ Row wr 1 A1 lat.length (i64s ks) ∧ Kept [d, g, bs] w wr) (fun i _ => lat.length - (intOf i).toNat)
  case atStart => exact ⟨0, by omega, rfl, hD, hP, hrow1, hk0⟩
  case round =>
    clear hD hP hrow1 hk0
    obtain ⟨k, hk, rfl, hD, hP, hR, hkp⟩ := hrel
    by_cases hkn : k < lat.length
    · obtain ⟨b1, o1, rfl, hb1, hc1⟩ := hR.2.2 (by omega)
      have HK := Lib.hid (crashN_succ sec lat picks ks k)
      have HL := Lib.hid (crashN_len sec lat picks ks k)
      generalize crashN sec lat picks ks k = S at *
      have hx1 := hc1 k (.int .i64 ks[k]) (by simp [i64s, List.getElem?_eq_getElem (show k < ks.length by omega)])
      obtain ⟨v0, hv0⟩ := hkm ks[k] (List.getElem_mem _)
      have hrange := hD.k _ hv0
      simp only at hrange
      obtain ⟨i, hi⟩ := Int.eq_ofNat_of_zero_le hrange.1
      rw [List.getD_eq_getElem?_getD, List.getElem?_eq_getElem (show k < ks.length by omega), Option.getD_some, hi] at HK
      rw [hi] at hx1 hrange hv0
      clear hi
      have his : i < S.length := by omega
      have hv48 : ((getM lat (i : Int)).getD zsec).length = 48 := by
        cases hg : getM lat (i : Int) with
        | none => exact zsec_len
        | some v => exact (hD.k _ (getM_mem hg)).2.2
      have HLK := Lib.hid (fun W h => look_lat1 (w := W) (b := g) (m := lat) h i)
      have HV := Lib.hid hv48
      have HI := Lib.hid his
      clear hrange hv0 hv48 hkm HC his
      by_cases hpk : k < picks.length
      · obtain ⟨pb, po, rfl, hpb, hpc⟩ := hP.2.2 (by omega)
        have hq0 := hpc (k * 3 + 0) _ (pk_get picks k 0 hpk (by omega))
        have hq1 := hpc (k * 3 + 1) _ (pk_get picks k 1 hpk (by omega))
        have hq2 := hpc (k * 3 + 2) _ (pk_get picks k 2 hpk (by omega))
        have e1 : picks[k]? = some picks[k] := List.getElem?_eq_getElem hpk
        have HP0 := Lib.hid (pk_get picks k 0 hpk (by omega))
        have HP1 := Lib.hid (pk_get picks k 1 hpk (by omega))
        have HP2 := Lib.hid (pk_get picks k 2 hpk (by omega))
        generalize picks[k] = p at *
        obtain ⟨ph, pa, pt⟩ := p
        simp only [Pk.cells, List.getElem?_cons_zero, List.getElem?_cons_succ, Nat.add_zero, ← Nat.add_assoc] at hq0 hq1 hq2
        have dk : decide ((picks.length : Int) ≤ (k : Int)) = false := decide_eq_false (by omega)
        have dkn : decide (picks.length ≤ k) = false := decide_eq_false (by omega)
        by_cases hph : ph = 0
        · have HS := Lib.hid (show crash1 lat picks S k (i : Int) = S by unfold crash1; rw [e1]; simp [hph])
          rw [HS.out] at HK
          rw [← HK.out] at hD
          go_wp2
          case roundEnd => exact ⟨⟨k + 1, by omega, rfl, hD, hP, hR, hkp⟩, by simp [intOf]; omega⟩
        · have hB := hD.d
          have b0 := hB.cell 0
          have b1 := hB.cell 1
          have b2 := hB.cell 2
          simp only [List.getElem?_toArray, List.getElem?_cons_zero, List.getElem?_cons_succ] at b0 b1 b2
          have hd9 := hB.lt
          have HS := Lib.hid (show crash1 lat picks S k (i : Int) = if ph = 1 then S.set i ((getM lat (i : Int)).getD zsec) else S.set i (spoiltS ((getM lat (i : Int)).getD zsec) (IntKind.u64.wrap pa % 384) pt) by
            unfold crash1
            rw [e1]
            simp only [Int.toNat_natCast]
            rw [if_neg hph])
          generalize (getM lat (i : Int)).getD zsec = vv at *
          rw [HS.out] at HK
          clear e1 HS
          have h1' : decide ((S.length : Int) ≤ (i : Int)) = false := decide_eq_false (by have := HI.out; omega)
          go_wp2_with fail
          refine draw_start [12] Later (by kernel_rfl) ?_
          refine draw_chunk (n := 79) (by kernel_rfl) (fun _ _ _ _ _ h => h) [0, 1, 2, 3, 4, 5, 6, 7, 8, 9, 10, 11] [] _ #[true, true, true, true, true, true, true, true, true, true, true, true, false] (by kernel_rfl) 1 _ ?_ _ rfl ?_ ?_
          rotate_left
          · intro w' hw'
            have hc' : ∀ b o, b < wr.heap.size → w'.cell? ⟨b, o, none⟩ = wr.cell? ⟨b, o, none⟩ := (bcell hw').1
            have hlk := HLK.out w' (hD.m.below (undrew hw')); have hi9 := HI.out
            refine ci_step (i := 0) (v := ?_) rfl (by kernel_rfl) ?_ ?_
            rotate_left
            · first | (go_simp; done) | (go_simp; with_reducible rfl)
            skip
            try simp only [Act.put, List.setIfInBounds_toArray, List.set_cons_zero, List.set_cons_succ]
            refine ci_step (i := 1) (v := ?_) rfl (by kernel_rfl) ?_ ?_
            rotate_left
            · first | (go_simp; done) | (go_simp; with_reducible rfl)
            skip
            try simp only [Act.put, List.setIfInBounds_toArray, List.set_cons_zero, List.set_cons_succ]
            refine ci_step (i := 2) (v := ?_) rfl (by kernel_rfl) ?_ ?_
            rotate_left
            · first | (go_simp; done) | (go_simp; with_reducible rfl)
            skip
            try simp only [Act.put, List.setIfInBounds_toArray, List.set_cons_zero, List.set_cons_succ]
            refine ci_step (i := 3) (v := ?_) rfl (by kernel_rfl) ?_ ?_
            rotate_left
            · first | (go_simp; done) | (go_simp; with_reducible rfl)
            skip
            try simp only [Act.put, List.setIfInBounds_toArray, List.set_cons_zero, List.set_cons_succ]
            refine ci_step (i := 4) (v := ?_) rfl (by kernel_rfl) ?_ ?_
            rotate_left
            · first | (go_simp; done) | (go_simp; with_reducible rfl)
            skip
            try simp only [Act.put, List.setIfInBounds_toArray, List.set_cons_zero, List.set_cons_succ]
            refine ci_step (i := 5) (v := ?_) rfl (by kernel_rfl) ?_ ?_
            rotate_left
            · first | (go_simp; done) | (go_simp; with_reducible rfl)
            skip
            try simp only [Act.put, List.setIfInBounds_toArray, List.set_cons_zero, List.set_cons_succ]
            refine ci_step (i := 6) (v := ?_) rfl (by kernel_rfl) ?_ ?_
            rotate_left
            · first | (go_simp; done) | (go_simp; with_reducible rfl)
            skip
            try simp only [Act.put, List.setIfInBounds_toArray, List.set_cons_zero, List.set_cons_succ]
            refine ci_step (i := 7) (v := ?_) rfl (by kernel_rfl) ?_ ?_
            rotate_left
            · first | (go_simp; done) | (go_simp; with_reducible rfl)
            skip
            try simp only [Act.put, List.setIfInBounds_toArray, List.set_cons_zero, List.set_cons_succ]
            refine ci_step (i := 8) (v := ?_) rfl (by kernel_rfl) ?_ ?_
            rotate_left
            · first | (go_simp; done) | (go_simp; with_reducible rfl)
            skip
            try simp only [Act.put, List.setIfInBounds_toArray, List.set_cons_zero, List.set_cons_succ]
            refine ci_step (i := 9) (v := ?_) rfl (by kernel_rfl) ?_ ?_
            rotate_left
            · first | (go_simp; done) | (go_simp; with_reducible rfl)
            skip
            try simp only [Act.put, List.setIfInBounds_toArray, List.set_cons_zero, List.set_cons_succ]
            refine ci_step (i := 10) (v := ?_) rfl (by kernel_rfl) ?_ ?_
            rotate_left
            · first | (go_simp; done) | (go_simp; with_reducible rfl)
            skip
            try simp only [Act.put, List.setIfInBounds_toArray, List.set_cons_zero, List.set_cons_succ]
            refine ci_step (i := 11) (v := ?_) rfl (by kernel_rfl) ?_ ?_
            rotate_left
            · first | (go_simp; done) | (go_simp; with_reducible rfl)
            skip
            try simp only [Act.put, List.setIfInBounds_toArray, List.set_cons_zero, List.set_cons_succ]
            refine ci_end ?_
            rfl
          refine draw_eff (i := 12) rfl (by kernel_rfl) (listed' := #[true, true, true, true, true, true, true, true, true, true, true, true, true]) rfl (fun K hK => ?_)
          replace hK := Lib.hid hK
          refine wpList_store_sec rfl _ _ rfl bs (i * 48) vv rfl rfl HV.out (by simpa using hD.there i HI.out) ?_
          go_wp2_with fail
          refine hK.out _ _ ⟨fun h => absurd (by decide) h, ?_⟩
          clear hK
          refine draw_done (by kernel_rfl) ?_ _
          simp only [Act.put]
          have hD5 : DiskAt (wr.drew.setCells bs (i * 48) (u8s vv)) d g bs (S.set i vv) lat fl := DiskAt.setSec (W := wr.drew) (hD.below (Below.drew (Below.refl _ _))) i HI.out vv HV.out
          have hk5 : Kept [bs] wr (wr.drew.setCells bs (i * 48) (u8s vv)) := kept_setCells bs _ _ _ _ (kept_drew (Kept.refl _ _))
          have hP5 := hk5.row0 hP hA'
          have hR5 := hk5.row hR (by intro b off e; simpa using hAl1 b off e)
          have hkp5 := hkp.trans (hk5.more (by simp))
          generalize wr.drew.setCells bs (i * 48) (u8s vv) = W5 at hD5 hP5 hR5 hkp5 ⊢
          clear hq0 hq1 hq2 hpc hc1 hx1 hB b0 b1 b2 hd9 hD hP hR hkp hk5
          obtain ⟨pb', po', e, hpb, hpc⟩ := hP5.2.2 (by omega)
          cases e
          have hq0 := hpc (k * 3 + 0) (.int .i64 ph) HP0.out
          have hq1 := hpc (k * 3 + 1) (.int .i64 pa) HP1.out
          have hq2 := hpc (k * 3 + 2) (.int .u32 pt) HP2.out
          simp only [Nat.add_zero, ← Nat.add_assoc] at hq0 hq1 hq2
          by_cases hp1 : ph = 1
          · rw [if_pos hp1] at HK
            rw [← HK.out] at hD5
            go_wp2
            case roundEnd => exact ⟨⟨k + 1, by omega, rfl, hD5.alloc _, hP5.alloc _, hR5.alloc _, kept_alloc hkp5 _⟩, by simp [intOf]; omega⟩
          · rw [if_neg hp1] at HK
            obtain ⟨q, hq, hq3⟩ : ∃ q : Nat, IntKind.u64.wrap pa % 384 = q ∧ q < 384 := ⟨(IntKind.u64.wrap pa % 384).toNat, by omega, by omega⟩
            rw [hq] at HK
            have hu0 : 0 ≤ IntKind.u64.wrap pa := by rw [IntKind.wrap_u64]; omega
            have ht1 : (IntKind.u64.wrap pa).tmod 384 = q := by rw [Int.tmod_eq_emod_of_nonneg hu0]; exact hq
            have ht2 : IntKind.u64.wrap ((q : Nat) : Int) = q := by rw [IntKind.wrap_u64]; omega
            have ht3 : IntKind.i64.wrap ((q : Nat) : Int) = q := by rw [IntKind.wrap_i64]; omega
            have hq0' : (0 : Int) ≤ (q : Int) ∧ (q : Int) < 384 := by omega
            have hSP := disk_spoilt vv q pt
            clear hq hu0
            go_wp2_with fail
            have hD6 := hD5.alloc (.cells #[.int .i64 ph, .int .i64 pa, .int .u32 pt] 81)
            have hP6 := hP5.alloc (.cells #[.int .i64 ph, .int .i64 pa, .int .u32 pt] 81)
            have hR6 := hR5.alloc (.cells #[.int .i64 ph, .int .i64 pa, .int .u32 pt] 81)
            have hkp6 := kept_alloc hkp5 (.cells #[.int .i64 ph, .int .i64 pa, .int .u32 pt] 81)
            have kN := Blk.new W5 81 #[.int .i64 ph, .int .i64 pa, .int .u32 pt]
            generalize W5.alloc (.cells #[.int .i64 ph, .int .i64 pa, .int .u32 pt] 81) = W6 at hD6 hP6 hR6 hkp6 kN ⊢
            generalize W5.heap.size = n6 at kN ⊢
            have hB := hD6.d
            rw [List.length_set] at hB
            have b0 := hB.cell 0
            have b1 := hB.cell 1
            have b2 := hB.cell 2
            simp only [List.getElem?_toArray, List.getElem?_cons_zero, List.getElem?_cons_succ] at b0 b1 b2
            have n0 := kN.cell 0
            have n1 := kN.cell 1
            have n2 := kN.cell 2
            simp only [List.getElem?_toArray, List.getElem?_cons_zero, List.getElem?_cons_succ] at n0 n1 n2
            have hn9 := kN.lt
            have hd9 := hB.lt
            have hbs9 := hD6.s.lt
            have hrgS := hD6.range i (by rw [List.length_set]; exact HI.out)
            rw [List.getElem_set_self] at hrgS
            have HRG := Lib.hid hrgS
            clear hrgS hD5 hP5 hR5 hkp5 hq0 hq1 hq2 hpc
            refine draw_start [21] Later (by kernel_rfl) ?_
            refine draw_chunk (n := 79) (by kernel_rfl) (fun _ _ _ _ _ h => h) [0, 1, 2, 3, 4, 5, 6, 7, 8, 9, 10, 11, 12, 13, 14, 15, 16, 17, 18] [] _ #[true, true, true, true, true, true, true, true, true, true, true, true, true, true, true, true, true, true, true, false, false, false] (by kernel_rfl) 3 _ ?_ _ rfl ?_ ?_
            rotate_left
            · intro w' hw'
              have hc' : ∀ b o, b < W6.heap.size → w'.cell? ⟨b, o, none⟩ = W6.cell? ⟨b, o, none⟩ := (bcell hw').1
              have hi9 := HI.out; have hld := run_loadVar_mid (P := Try.prog) w' bs (i * 48) 128 (u8s vv) _ (fun j u hj => (hc' bs (i * 48 + j) hbs9).trans (HRG.out j u hj)) Try.underlying128 rfl (by rw [show (u8s vv).length = 48 by simpa [u8s] using HV.out]; exact size_sec)
              refine ci_step (i := 0) (v := ?_) rfl (by kernel_rfl) ?_ ?_
              rotate_left
              · first | (go_simp; done) | (go_simp; with_reducible rfl)
              skip
              try simp only [Act.put, List.setIfInBounds_toArray, List.set_cons_zero, List.set_cons_succ]
              refine ci_step (i := 1) (v := ?_) rfl (by kernel_rfl) ?_ ?_
              rotate_left
              · first | (go_simp; done) | (go_simp; with_reducible rfl)
              skip
              try simp only [Act.put, List.setIfInBounds_toArray, List.set_cons_zero, List.set_cons_succ]
              refine ci_step (i := 2) (v := ?_) rfl (by kernel_rfl) ?_ ?_
              rotate_left
              · first | (go_simp; done) | (go_simp; with_reducible rfl)
              skip
              try simp only [Act.put, List.setIfInBounds_toArray, List.set_cons_zero, List.set_cons_succ]
              refine ci_step (i := 3) (v := ?_) rfl (by kernel_rfl) ?_ ?_
              rotate_left
              · first | (go_simp; done) | (go_simp; with_reducible rfl)
              skip
              try simp only [Act.put, List.setIfInBounds_toArray, List.set_cons_zero, List.set_cons_succ]
              refine ci_step (i := 4) (v := ?_) rfl (by kernel_rfl) ?_ ?_
              rotate_left
              · first | (go_simp; done) | (go_simp; with_reducible rfl)
              skip
              try simp only [Act.put, List.setIfInBounds_toArray, List.set_cons_zero, List.set_cons_succ]
              refine ci_step (i := 5) (v := ?_) rfl (by kernel_rfl) ?_ ?_
              rotate_left
              · first | (go_simp; done) | (go_simp; with_reducible rfl)
              skip
              try simp only [Act.put, List.setIfInBounds_toArray, List.set_cons_zero, List.set_cons_succ]
              refine ci_step (i := 6) (v := ?_) rfl (by kernel_rfl) ?_ ?_
              rotate_left
              · first | (go_simp; done) | (go_simp; with_reducible rfl)
              skip
              try simp only [Act.put, List.setIfInBounds_toArray, List.set_cons_zero, List.set_cons_succ]
              refine ci_step (i := 7) (v := ?_) rfl (by kernel_rfl) ?_ ?_
              rotate_left
              · first | (go_simp; done) | (go_simp; with_reducible rfl)
              skip
              try simp only [Act.put, List.setIfInBounds_toArray, List.set_cons_zero, List.set_cons_succ]
              refine ci_step (i := 8) (v := ?_) rfl (by kernel_rfl) ?_ ?_
              rotate_left
              · first | (go_simp; done) | (go_simp; with_reducible rfl)
              skip
              try simp only [Act.put, List.setIfInBounds_toArray, List.set_cons_zero, List.set_cons_succ]
              refine ci_step (i := 9) (v := ?_) rfl (by kernel_rfl) ?_ ?_
              rotate_left
              · first | (go_simp; done) | (go_simp; with_reducible rfl)
              skip
              try simp only [Act.put, List.setIfInBounds_toArray, List.set_cons_zero, List.set_cons_succ]
              refine ci_step (i := 10) (v := ?_) rfl (by kernel_rfl) ?_ ?_
              rotate_left
              · first | (go_simp; done) | (go_simp; with_reducible rfl)
              skip
              try simp only [Act.put, List.setIfInBounds_toArray, List.set_cons_zero, List.set_cons_succ]
              refine ci_step (i := 11) (v := ?_) rfl (by kernel_rfl) ?_ ?_
              rotate_left
              · refine (execLoad rfl rfl hld).trans ?_; with_reducible rfl
              skip
              try simp only [Act.put, List.setIfInBounds_toArray, List.set_cons_zero, List.set_cons_succ]
              refine ci_step (i := 12) (v := ?_) rfl (by kernel_rfl) ?_ ?_
              rotate_left
              · first | (go_simp; done) | (go_simp; with_reducible rfl)
              skip
              try simp only [Act.put, List.setIfInBounds_toArray, List.set_cons_zero, List.set_cons_succ]
              refine ci_step (i := 13) (v := ?_) rfl (by kernel_rfl) ?_ ?_
              rotate_left
              · first | (go_simp; done) | (go_simp; with_reducible rfl)
              skip
              try simp only [Act.put, List.setIfInBounds_toArray, List.set_cons_zero, List.set_cons_succ]
              refine ci_step (i := 14) (v := ?_) rfl (by kernel_rfl) ?_ ?_
              rotate_left
              · first | (go_simp; done) | (go_simp; with_reducible rfl)
              skip
              try simp only [Act.put, List.setIfInBounds_toArray, List.set_cons_zero, List.set_cons_succ]
              refine ci_step (i := 15) (v := ?_) rfl (by kernel_rfl) ?_ ?_
              rotate_left
              · first | (go_simp; done) | (go_simp; with_reducible rfl)
              skip
              try simp only [Act.put, List.setIfInBounds_toArray, List.set_cons_zero, List.set_cons_succ]
              refine ci_step (i := 16) (v := ?_) rfl (by kernel_rfl) ?_ ?_
              rotate_left
              · first | (go_simp; done) | (go_simp; with_reducible rfl)
              skip
              try simp only [Act.put, List.setIfInBounds_toArray, List.set_cons_zero, List.set_cons_succ]
              refine ci_step (i := 17) (v := ?_) rfl (by kernel_rfl) ?_ ?_
              rotate_left
              · first | (go_simp; done) | (go_simp; with_reducible rfl)
              skip
              try simp only [Act.put, List.setIfInBounds_toArray, List.set_cons_zero, List.set_cons_succ]
              refine ci_step (i := 18) (v := ?_) rfl (by kernel_rfl) ?_ ?_
              rotate_left
              · first | (go_simp; done) | (go_simp; with_reducible rfl)
              skip
              try simp only [Act.put, List.setIfInBounds_toArray, List.set_cons_zero, List.set_cons_succ]
              refine ci_end ?_
              rfl
            refine draw_eff (i := 19) rfl (by kernel_rfl) (listed' := #[true, true, true, true, true, true, true, true, true, true, true, true, true, true, true, true, true, true, true, true, false, false]) rfl (fun K hK => ?_)
            replace hK := Lib.hid hK
            have hSP9 := hSP W6.drew HV.out hq0'
            go_wp2_with fail
            refine hSP9.mono ?_
            rintro e w7 ⟨rfl, hb7⟩
            go_wp2_with fail
            refine hK.out _ _ ⟨fun _ => hb7, ?_⟩
            clear hK
            have hD7 := hD6.drewBelow hb7
            have hP7 := hP6.drew.below hb7
            have hR7 := hR6.drew.below hb7
            have hkp7 := (kept_drew hkp6).trans (Kept.of_below hb7)
            have HV2 := Lib.hid (show (spoiltS vv q pt).length = 48 by unfold spoiltS; rw [spoiltL_len]; exact HV.out)
            have HI2 := Lib.hid (show i < (S.set i vv).length by rw [List.length_set]; exact HI.out)
            generalize spoiltS vv q pt = sv at *
            clear hD6 hP6 hR6 hkp6 hB b0 b1 b2 hSP hSP9 hb7
            refine draw_chunk (n := 79) (by kernel_rfl) (fun _ _ _ _ _ h => h) [20] [] _ #[true, true, true, true, true, true, true, true, true, true, true, true, true, true, true, true, true, true, true, true, true, false] (by kernel_rfl) 1 _ ?_ _ rfl ?_ ?_
            rotate_left
            · intro w' hw'
              have hc' : ∀ b o, b < w7.heap.size → w'.cell? ⟨b, o, none⟩ = w7.cell? ⟨b, o, none⟩ := (bcell hw').1
              have hi9 := HI.out
              refine ci_step (i := 20) (v := ?_) rfl (by kernel_rfl) ?_ ?_
              rotate_left
              · first | (go_simp; done) | (go_simp; with_reducible rfl)
              skip
              try simp only [Act.put, List.setIfInBounds_toArray, List.set_cons_zero, List.set_cons_succ]
              refine ci_end ?_
              rfl
            refine draw_eff (i := 21) rfl (by kernel_rfl) (listed' := #[true, true, true, true, true, true, true, true, true, true, true, true, true, true, true, true, true, true, true, true, true, true]) rfl (fun K hK => ?_)
            replace hK := Lib.hid hK
            refine wpList_store_sec rfl _ _ rfl bs (i * 48) sv rfl rfl HV2.out (by simpa using hD7.there i HI2.out) ?_
            go_wp2_with fail
            refine hK.out _ _ ⟨fun h => absurd (by decide) h, ?_⟩
            clear hK
            refine draw_done (by kernel_rfl) ?_ _
            simp only [Act.put]
            have hD8 : DiskAt (w7.setCells bs (i * 48) (u8s sv)) d g bs ((S.set i vv).set i sv) lat fl := hD7.setSec i HI2.out sv HV2.out
            have hk8 : Kept [bs] w7 (w7.setCells bs (i * 48) (u8s sv)) := kept_setCells bs _ _ _ _ (Kept.refl _ _)
            have hP8 := hk8.row0 hP7 hA'
            have hR8 := hk8.row hR7 (by intro b off e; simpa using hAl1 b off e)
            have hkp8 := hkp7.trans (hk8.more (by simp))
            rw [List.set_set, ← HK.out] at hD8
            go_wp2
            case roundEnd => exact ⟨⟨k + 1, by omega, rfl, hD8, hP8, hR8, hkp8⟩, by simp [intOf]; omega⟩
      · have HS := Lib.hid (show crash1 lat picks S k (i : Int) = S by unfold crash1; rw [List.getElem?_eq_none (by omega)])
        rw [HS.out] at HK
        rw [← HK.out] at hD
        have dk : decide ((picks.length : Int) ≤ (k : Int)) = true := decide_eq_true (by omega)
        have dkn : decide (picks.length ≤ k) = true := decide_eq_true (by omega)
        go_wp2
        case roundEnd => exact ⟨⟨k + 1, by omega, rfl, hD, hP, hR, hkp⟩, by simp [intOf]; omega⟩
    · obtain rfl : k = lat.length := by omega
      rw [← HC.out] at hD
      have hB := hD.d
      have b0 := hB.cell 0
      have b1 := hB.cell 1
      have b2 := hB.cell 2
      simp only [List.getElem?_toArray, List.getElem?_cons_zero, List.getElem?_cons_succ] at b0 b1 b2
      have b9 := hB.lt
      have bf2 := hB.frozen 2
      obtain ⟨w3, hcl, hD3, hk3⟩ := hD.cleared
      have hcl := hcl 0
      have hD4 := hD3.setFail (-1)
      have hB3 := hD3.d
      have bf3 := hB3.frozen 2
      have c0 := hB3.cell 0
      have c1 := hB3.cell 1
      have c2 := hB3.cell 2
      simp only [List.getElem?_toArray, List.getElem?_cons_zero, List.getElem?_cons_succ] at c0 c1 c2
      go_wp2
      refine bodyPost_end (results_none rfl _ _ _) rfl ⟨rfl, hD4, kept_set (hkp.trans (hk3.more (by simp))) _ _ (.inl (by simp))⟩
end Go.Proofs.Ytnfaeafplaeehaa
