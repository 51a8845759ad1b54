import Derived.Test.YtnfaeafplaeehaaShelf
import Derived.Test.YtnfaeafplaeehaaOwnH
import Derived.Test.YtnfaeafplaeehaaOwnI
set_option linter.unusedVariables false
set_option linter.unusedSimpArgs false
namespace Go.Proofs.Ytnfaeafplaeehaa
open Go.RowKit Go.ChangeMaps Go.Sort Go.Shelf Go.Lib
/-! The numbers of the sectors that were written, in order. -/
set_option maxRecDepth 100000 in
set_option maxHeartbeats 2000000 in
theorem keysInt_in (F : Fence) (n : Nat) (hF : F.fn 96) (hro : F.round = none) (hn : 1 ≤ n) (l Bm b : Nat) (m : List (Int × Sec)) (J : List Int → World → Prop)
    (hY : ∀ pre x W, J pre W → pre.length < m.length → YieldAt F (n - 1) Try.prog l #[ikey x] W fun e W' => e = .returned (.bool true) ∧ J (pre ++ [x]) W' ∧ KeepsWalks W W')
    (W : World) (hJ : AbidesFrom W.heap.size J) (hm : W.cell? ⟨Bm, 0, none⟩ = some (.map (some b))) (hown : MapAt W b ikey secV m) (h0 : J [] W) :
    CallsIn F n Try.prog 96 #[.func (.yield l) #[] #[], .pointer (some ⟨Bm, 0, none⟩)] W fun e W' => (∃ v, e = .returned v) ∧ ∃ ss : List Int, ss.Perm (m.map (·.1)) ∧ J ss W' := by
  obtain ⟨es, clock, hb, hes, hborn, hnd⟩ := hown
  have hrg := run_range_map (P := Try.prog) W 124 3 128 b es clock Try.underlying124 hb
  have hbl := lt_of_heap hb
  refine callsIn_of_wp Try.func96 rfl hF ?_ hro
  simp only [Try.ntmps96, List.size_toArray, List.length_cons, List.length_nil, Nat.reduceAdd, Nat.reduceSub, Array.replicate_succ, Array.replicate_zero, List.push_toArray, List.append_toArray, List.nil_append, List.cons_append]
  have hkeys : ((leftOf es #[]).toList.map (·.key)) = (m.map (·.1)).map ikey := by
    rw [left_all]
    have := congrArg (List.map Prod.fst) hes
    simpa [Function.comp_def] using this
  have hsz : es.toList.length = m.length := by simpa using congrArg List.length hes
  have HES := Lib.hid hes
  have HK := Lib.hid hkeys
  have HSZ := Lib.hid hsz
  have hW0 : J [] (W.alloc (.mapIter (some b) clock #[] clock)) := hJ [] W _ none h0 (World.grownBy_alloc W _ none) (fun r e => by cases e)
  have hr0 := heap_new W (.mapIter (some b) clock #[] clock)
  have hb0 : (W.alloc (.mapIter (some b) clock #[] clock)).heap[b]? = some (.map es clock) := (Below.heap_alloc W _ b hbl).trans hb
  clear hes hkeys hsz
  gi_wp2
  gi_loopw [3] (fun _ wr => ∃ (seen : Array Nat) (ss ks : List Int), wr.heap[W.heap.size]? = some (.mapIter (some b) clock seen clock) ∧ wr.heap[b]? = some (.map es clock) ∧ (leftOf es seen).toList.map (·.key) = ks.map ikey ∧ (ss ++ ks).Perm (m.map (·.1)) ∧ J ss wr) (fun _ wr => iterLeft wr b W.heap.size)
  case atStart => exact ⟨#[], [], m.map (·.1), hr0, hb0, HK.out, by simp, hW0⟩
  case round =>
    clear hr0 hb0 hW0 hrg
    obtain ⟨seen, ss, ks, hr, hbm, hk, hp, hJs⟩ := hrel
    have HKs := Lib.hid hk
    have HP := Lib.hid hp
    have hlr := lt_of_heap hr
    rcases run_next_at (P := Try.prog) wr 0 W.heap.size b clock clock seen es clock hr hbm hborn (Nat.le_refl _) with ⟨hz, hnx⟩ | ⟨e, he, w1, hw1, hnx⟩
    · have hks : ks = [] := by
        have h1 := congrArg List.length hk
        simp only [List.length_map, Array.length_toList] at h1
        exact List.eq_nil_of_length_eq_zero (by omega)
      subst hks
      clear hk hp
      gi_wp2
      go_end0
      exact ⟨⟨_, rfl⟩, ss, by simpa using HP.out, hJs⟩
    · obtain ⟨ks', hp2, hk2⟩ := perm_lift (left_step es seen e he hnd) ks hk
      match ks', hk2 with
      | [], hk2 => simp at hk2
      | k :: ks', hk2 =>
        simp only [List.map_cons, List.cons.injEq] at hk2
        obtain ⟨hek, hk3⟩ := hk2
        have HK3 := Lib.hid hk3
        have hlen : ss.length < m.length := by
          have h1 := hp.length_eq
          have h2 := hp2.length_eq
          simp at h1 h2
          omega
        have HP3 := Lib.hid (show ((ss ++ [k]) ++ ks').Perm (m.map (·.1)) from (by
          rw [List.append_assoc]
          exact (hp2.symm.append_left ss).trans hp))
        obtain ⟨w2, hw2⟩ : ∃ w2, setBlock w1 W.heap.size (.mapIter (some b) clock (seen.push e.born) clock) = w2 := ⟨_, rfl⟩
        rw [hw2] at hnx
        have hh1 : w1.heap = wr.heap := by rcases hw1 with rfl | rfl <;> rfl
        have hr2 : w2.heap[W.heap.size]? = some (.mapIter (some b) clock (seen.push e.born) clock) := by rw [← hw2]; exact heap_setBlock_same (by rw [hh1]; exact hlr)
        have hb2 : w2.heap[b]? = some (.map es clock) := by rw [← hw2, heap_setBlock_other (Nat.ne_of_lt hbl), hh1]; exact hbm
        have hg2 : wr.grownBy w2 (some W.heap.size) := by
          rw [← hw2]
          rcases hw1 with rfl | rfl
          · exact grownBy_setBlock _ _ _
          · exact ⟨rfl, rfl, rfl, by simp [setBlock], fun k hk he => heap_setBlock_other (fun e => he (by rw [e]))⟩
        have hJ2 : J ss w2 := hJ ss wr w2 (some W.heap.size) hJs hg2 (fun r e => by cases e; exact ⟨Nat.le_refl _, _, hr, rfl⟩)
        have hen := run_entry_at (P := Try.prog) w2 W.heap.size b clock seen es clock e hr2 hb2 (left_mem es seen e he) hnd
        have hme := iterLeft_eq hbm hr
        have hlt2 : ks'.length + 1 = (leftOf es seen).toList.length := by
          have h1 := congrArg List.length hk
          have h2 := hp2.length_eq
          simp only [List.length_map, List.length_cons] at h1 h2
          omega
        rw [hek] at hen hnx
        simp only [ikey] at hen hnx
        have HME := Lib.hid hme
        have HL2 := Lib.hid hlt2
        clear hw2 hg2 hh1 hw1 hk hp hp2 hk3 hme hlt2 hek he
        obtain ⟨w3, hw3⟩ : ∃ w3, w2 = w3 := ⟨_, rfl⟩
        have hJ3 : J ss w3 := by rw [← hw3]; exact hJ2
        have hr3 : w3.heap[W.heap.size]? = some (.mapIter (some b) clock (seen.push e.born) clock) := by rw [← hw3]; exact hr2
        have hb3 : w3.heap[b]? = some (.map es clock) := by rw [← hw3]; exact hb2
        obtain ⟨fn, tmps, assign, body, hy, hR⟩ := hY ss k w3 hJ3 hlen
        simp only [ikey] at hy
        rw [← hw3] at hy
        have HW3 := Lib.hid hw3
        clear hw3
        gi_wp2
        rw [HW3.out]
        refine hR.mono ?_
        rintro e4 W4 ⟨rfl, hJ4, hk4⟩
        have hr4 := hk4.same _ _ hr3 rfl
        have hb4 := hk4.same _ _ hb3 rfl
        gi_wp2
        go_roundw
        case rel => exact ⟨seen.push e.born, ss ++ [k], ks', hr4, hb4, HK3.out, HP3.out, hJ4⟩
        case measure =>
          rw [iterLeft_eq hb4 hr4, HME.out, ← HL2.out]
          have := congrArg List.length HK3.out
          simp only [List.length_map] at this
          omega
theorem sorts_int (m : Nat) : AnyZI.SortsIn Try.prog Try.sortedI_ren Fence.wide m :=
  ⟨fun blk off cap ss W hH hblk hsz => callsIn_wide.2 (Try.slices_Sort_int blk off cap ss W hH hblk hsz),
   fun p cap W => callsIn_wide.2 (Try.slices_Sort_int_none p cap W)⟩
theorem keysInt_gives (F : Fence) (n : Nat) (hF : F.fn 96) (hro : F.round = none) (hn : 1 ≤ n) (Bm b : Nat) (m : List (Int × Sec)) (w : World) (hB : Bm < w.heap.size) (hm : w.cell? ⟨Bm, 0, none⟩ = some (.map (some b))) (hown : MapAt w b ikey secV m) :
    SeqGives F n Try.prog 96 #[.pointer (some ⟨Bm, 0, none⟩)] ikey (fun ss => ss.Perm (m.map (·.1))) m.length w := by
  intro l J W hW hJ hY h0
  have hc : W.cell? ⟨Bm, 0, none⟩ = some (.map (some b)) := (hW.cell (show (⟨Bm, 0, none⟩ : Addr).block < w.heap.size from hB)).trans hm
  refine (keysInt_in F n hF hro hn l Bm b m J hY W hJ hc (hown.below hW) h0).mono ?_
  rintro e W' ⟨he, ss, hs, hJs⟩
  exact ⟨he, ss, hs, hJs⟩
theorem keysInt_keys (mb : Option Nat) (w : World) : Calls Try.prog 63 #[.map mb] w fun e w' => e = .returned (.func (.func 96) #[] #[.pointer (some ⟨w.heap.size, 0, none⟩)]) ∧ w' = w.alloc (.cells #[.map mb] 124) := by
  go_enter Try.func63, Try.ntmps63
  go_wp2
  go_ret
  exact ⟨rfl, rfl⟩
def sortI (l : List Int) : List Int := l.mergeSort fun x y => decide (x ≤ y)
def i64s (l : List Int) : List Value := l.map (Value.int .i64)
set_option maxHeartbeats 1000000 in
theorem sortedInt (Bm b : Nat) (m : List (Int × Sec)) (w : World) (hB : Bm < w.heap.size) (hm : w.cell? ⟨Bm, 0, none⟩ = some (.map (some b))) (hown : MapAt w b ikey secV m) (hN : m.length ≤ 1000000) :
    Calls Try.prog 62 #[.func (.func 96) #[] #[.pointer (some ⟨Bm, 0, none⟩)]] w fun e w' => ∃ (v : Value) (ss : List Int), e = .returned v ∧ ss.Perm (m.map (·.1)) ∧
      w'.ownsRow w.heap.size 3 1 v ss.length (i64s (sortI ss)) ∧ Below w.heap.size w w' := by
  refine (callsIn_wide (n := 6)).1 ?_
  have hseq : SeqGives Fence.wide 3 Try.prog 96 #[.pointer (some ⟨Bm, 0, none⟩)] encZ (fun ss => ss.Perm (m.map (·.1))) m.length w := keysInt_gives Fence.wide 3 trivial rfl (by omega) Bm b m w hB hm hown
  have cS := AnyZI.sorted_in Try.sortedI Fence.wide 6 trivial trivial trivial trivial rfl (by omega) (sorts_int _) (enters_of Try.func95 (by kernel_rfl) rfl) 96 #[.pointer (some ⟨Bm, 0, none⟩)] trivial (enters_of Try.func96 (by kernel_rfl) rfl) _ _ (by unfold maxLen; omega) (by omega) _ hseq
  change CallsIn _ _ Try.prog 62 _ _ _ at cS
  refine cS.mono ?_
  rintro e w' ⟨v, ss, rfl, hS, hrow, hnil, hb⟩
  exact ⟨v, ss, rfl, hS, hrow, hb⟩
end Go.Proofs.Ytnfaeafplaeehaa
