import Derived.Test.YtjdapfimjpbnmaaDoorAddrP
import Derived.Test.YtjdapfimjpbnmaaDoorAddrHas
import Derived.Test.YtjdapfimjpbnmaaDoorTabs
import Derived.Test.YtjdapfimjpbnmaaDoorOwnS
import Derived.Test.YtjdapfimjpbnmaaDoorShelf
import Derived.Lib.SmallJoins
set_option linter.unusedVariables false
set_option linter.unusedSimpArgs false
namespace Go.Proofs.YtjdapfimjpbnmaaDoor
open Go.RowKit
/-! A prefix as a text: the walks of number, String and Parse. -/
theorem toList_data (s : ByteArray) : s.toList = s.data.toList := by
  exact ByteArray.toList_eq s
theorem grow_below' (w : World) (k : Nat) (os : Array Obj) : Below w.heap.size w (Go.Sort.grow (w.drewN k) os) :=
  ⟨rfl, rfl, rfl, by simp [Go.Sort.grow], fun i hi => Go.Sort.heap_grow_old (w.drewN k) os hi⟩
theorem itoa_calls (n : Int) (h0 : -9223372036854775808 ≤ n) (h1 : n ≤ 9223372036854775807) (w : World) (ht : Tabs w) :
    Calls Tryd.prog 13 #[.int .i64 n] w fun e w' => e = .returned (.string ⟨(Lib.itoa n).toArray⟩) ∧ Below w.heap.size w w' :=
  (Tryd.strconv_Itoa n h0 h1 w ht.pow).mono fun e w' ⟨he, k, os, hw⟩ => ⟨he, hw ▸ grow_below' w k os⟩
theorem atoi_ok (s : ByteArray) (hs : s.size ≤ 1000000000) (v : Int) (h : Lib.atoiAll s.data.toList = .ok v) (w : World) :
    Calls Tryd.prog 32 #[.string s] w fun e w' => e = .returned (.tuple #[.int .i64 v, .nilIface]) ∧ Below w.heap.size w w' :=
  (Tryd.strconv_Atoi_ok s (by omega) v h w).mono fun e w' ⟨he, hw⟩ => ⟨he, by
    rcases hw with rfl | ⟨t, rfl⟩
    · exact Below.refl _ _
    · exact Lib.bytesWorld_below _ _ _⟩
theorem atoi_no (s : ByteArray) (hs : s.size ≤ 1000000000) (h : ∀ v, Lib.atoiAll s.data.toList ≠ .ok v) (w : World) (ht : Tabs w) :
    Calls Tryd.prog 32 #[.string s] w fun e w' => (∃ N, e = .returned (.tuple #[.int .i64 (numF s.data.toList 0).1, .iface 84 (.pointer (some ⟨N, 0, none⟩))])) ∧ Below w.heap.size w w' := by
  unfold numF
  cases ha : Lib.atoiAll s.data.toList with
  | ok v => exact absurd ha (h v)
  | range =>
    obtain ⟨tp, p, hv⟩ := ht.rng
    exact (Tryd.strconv_Atoi_range_var s (by omega) ha tp p w hv).mono fun e w' ⟨N, he, _, _, hb⟩ => ⟨⟨N, he⟩, hb⟩
  | _ =>
    obtain ⟨tp, p, hv⟩ := ht.syn
    exact (Tryd.strconv_Atoi_other s (by omega) h (by rw [ha]; intro h'; cases h') tp p w hv).mono fun e w' ⟨N, he, _, _, hb⟩ => ⟨⟨N, he⟩, hb⟩
theorem addr_number (s : ByteArray) (most : Int) (w : World) (ht : Tabs w) (hs : s.size ≤ 1000000000) :
    Calls Tryd.prog 22 #[.string s, .int .i64 most] w fun e w' => e = .returned (.tuple #[.int .i64 (numF s.data.toList most).1, .bool (numF s.data.toList most).2]) ∧ Below w.heap.size w w' := by
  by_cases ha : ∃ n, Lib.atoiAll s.data.toList = .ok n
  · obtain ⟨n, ha⟩ := ha
    have HR := Lib.hid (show numF s.data.toList most = (n, decide (0 ≤ n) && decide (n ≤ most) && decide (Lib.itoa n = s.data.toList)) by unfold numF; rw [ha])
    have hbd := Lib.atoiAll_bounds ha
    by_cases h0 : 0 ≤ n
    · by_cases h1 : n ≤ most
      · go_enter Tryd.func22, Tryd.ntmps22
        go_wp2_with (first | (go_at_call 32; refine (atoi_ok s hs n ha _).mono ?_; rintro e w1 ⟨rfl, hb1⟩; have ht1 := ht.below hb1) | (go_at_call 13; refine (itoa_calls n hbd.1 hbd.2 _ ht1).mono ?_; rintro e w2 ⟨rfl, hb2⟩))
        go_ret2
        refine ⟨?_, hb1.trans (hb2.mono hb1.size)⟩
        rw [HR.out]
        have e : (Lib.itoa n == s.toList) = (decide (0 ≤ n) && decide (n ≤ most) && decide (Lib.itoa n = s.data.toList)) := by
          rw [decide_eq_true h0, decide_eq_true h1, Bool.true_and, Bool.true_and, ← toList_data]
          rw [Bool.eq_iff_iff]
          simp
        rw [← e]
        rfl
      · have h1' : decide (n ≤ most) = false := decide_eq_false h1
        go_enter Tryd.func22, Tryd.ntmps22
        go_wp2_with (first | (go_at_call 32; refine (atoi_ok s hs n ha _).mono ?_; rintro e w1 ⟨rfl, hb1⟩))
        go_ret2
        exact ⟨by rw [HR.out, h1']; simp, hb1⟩
    · have h0' : decide (0 ≤ n) = false := decide_eq_false h0
      go_enter Tryd.func22, Tryd.ntmps22
      go_wp2_with (first | (go_at_call 32; refine (atoi_ok s hs n ha _).mono ?_; rintro e w1 ⟨rfl, hb1⟩))
      go_ret2
      exact ⟨by rw [HR.out, h0']; simp, hb1⟩
  · have HR := Lib.hid (show numF s.data.toList most = ((numF s.data.toList 0).1, false) by
      unfold numF
      cases hc : Lib.atoiAll s.data.toList with
      | ok v => exact absurd ⟨v, hc⟩ ha
      | range => rfl
      | _ => rfl)
    go_enter Tryd.func22, Tryd.ntmps22
    go_wp2_with (first | (go_at_call 32; refine (atoi_no s hs (fun v hv => ha ⟨v, hv⟩) _ ht).mono ?_; rintro e w1 ⟨⟨N, rfl⟩, hb1⟩))
    go_ret2
    exact ⟨by rw [HR.out]; rfl, hb1⟩
end Go.Proofs.YtjdapfimjpbnmaaDoor
