import Derived.Test.YtjdapfimjpbnmaaPScr5
import Derived.Test.YtjdapfimjpbnmaaTlvM
import Derived.Test.YtjdapfimjpbnmaaStrs
set_option linter.unusedVariables false
set_option linter.unusedSimpArgs false
namespace Go.Proofs.YtjdapfimjpbnmaaQ.PScr
open Go.RowKit Go.Proofs.YtjdapfimjpbnmaaW.PrintWords Go.Proofs.YtjdapfimjpbnmaaW.PrintMore
open Go.Proofs.Ytjdapfimjpbnmaa (four valB byteB rightB Byte four_len evRightB evHas evRest numB valB_snoc valB_bd valB_bd4 or_add_nat str_inj str_data str_empty toList_eq)
/-! Events as bytes, in plain lists: the small functions. -/
abbrev Ev := S30
abbrev Px := S28
def okE (e : Ev) : Prop := (0 ≤ e.f4.f0 ∧ e.f4.f0 ≤ 4294967295)
def rightE (e : Ev) : Bool := evRightB e.f0 e.f1 e.f2 e.f3 e.f4.f0 e.f4.f1 e.f5
theorem w64 (x : Int) (h0 : -9223372036854775808 ≤ x) (h1 : x ≤ 9223372036854775807) : wrap64 x = x := by unfold wrap64; omega
theorem u64w (x : Int) (h0 : 0 ≤ x) (h1 : x ≤ 18446744073709551615) : IntKind.u64.wrap x = x := by rw [IntKind.wrap_u64]; omega
theorem bare_in (k : Nat) (kind i n m a l : Int) (p : ByteArray) (h : 0 ≤ kind ∧ kind ≤ 10) :
    script_Event_bare.f (k + 3) kind i n m a l p = some (kind, (if (evHas kind).1 = true then i else 0), (if (evHas kind).2.1 = true then n else 0), (if (evHas kind).2.2.1 = true then m else 0), (if (evHas kind).2.2.2.1 = true then a else 0), (if (evHas kind).2.2.2.1 = true then l else 0), (if (evHas kind).2.2.2.2 = true then p else ⟨#[]⟩), true) := by
  rcases (show kind = 0 ∨ kind = 1 ∨ kind = 2 ∨ kind = 3 ∨ kind = 4 ∨ kind = 5 ∨ kind = 6 ∨ kind = 7 ∨ kind = 8 ∨ kind = 9 ∨ kind = 10 by omega) with rfl | rfl | rfl | rfl | rfl | rfl | rfl | rfl | rfl | rfl | rfl <;>
    simp [script_Event_bare.f, script_Event_bare.j0, script_Event_bare.j1, script_Event_bare.j2, evHas]
theorem bare_out (k : Nat) (kind i n m a l : Int) (p : ByteArray) (h : ¬ (0 ≤ kind ∧ kind ≤ 10)) : ∃ q, script_Event_bare.f (k + 3) kind i n m a l p = some q ∧ q.2.2.2.2.2.2.2 = false := by
  have h0 : ¬ kind = 0 := by omega
  have h1 : ¬ kind = 1 := by omega
  have h2 : ¬ kind = 2 := by omega
  have h3 : ¬ kind = 3 := by omega
  have h4 : ¬ kind = 4 := by omega
  have h5 : ¬ kind = 5 := by omega
  have h6 : ¬ kind = 6 := by omega
  have h7 : ¬ kind = 7 := by omega
  have h8 : ¬ kind = 8 := by omega
  have h9 : ¬ kind = 9 := by omega
  have h10 : ¬ kind = 10 := by omega
  refine ⟨(kind, 0, 0, 0, 0, 0, ⟨#[]⟩, false), ?_, rfl⟩
  simp [script_Event_bare.f, script_Event_bare.j0, script_Event_bare.j1, script_Event_bare.j2, h0, h1, h2, h3, h4, h5, h6, h7, h8, h9, h10]
theorem sel (b : Bool) (x : Int) : ((if b = true then x else 0) == x) = (b || x == 0) := by
  cases b
  · simp only [Bool.false_eq_true, if_false, Bool.false_or]
    rw [Bool.eq_iff_iff, beq_iff_eq, beq_iff_eq]
    exact eq_comm
  · simp
theorem selp (b : Bool) (p : ByteArray) : ((if b = true then p else ⟨#[]⟩).toList == p.toList) = (b || decide (p.size = 0)) := by
  cases b
  · simp only [Bool.false_eq_true, if_false, Bool.false_or]
    rw [← str_empty, toList_eq ⟨#[]⟩]
    cases h : p.toList <;> rfl
  · simp
theorem nums_true (k : Nat) (x y z : Int) : script_Event_Right.l0 (k + 4) [x, y, z] (([x, y, z] : List Int).length : Int) 0 = some (numB x && numB y && numB z) := by
  have step : ∀ (k j : Nat) (v : Int), (hj : j < 3) → rd [x, y, z] (j : Int) = v → script_Event_Right.l0 (k + 1) [x, y, z] (([x, y, z] : List Int).length : Int) (j : Int) = (if numB v = true then script_Event_Right.l0 k [x, y, z] (([x, y, z] : List Int).length : Int) ((j + 1 : Nat) : Int) else some false) := by
    intro k j v hj hv
    rw [script_Event_Right.l0, if_pos (by simp; omega), if_pos (by omega), if_pos (by simp; omega), hv, w64 _ (by omega) (by omega)]
    unfold numB
    by_cases h0 : v < 0
    · rw [if_pos h0, if_neg (by simp; omega)]
    · rw [if_neg h0]
      by_cases h1 : v > 65536
      · rw [if_pos h1, if_neg (by simp; omega)]
      · rw [if_neg h1, if_pos (by simp; omega)]
        rfl
  have e0 := step (k + 3) 0 x (by omega) rfl
  have e1 := step (k + 2) 1 y (by omega) rfl
  have e2 := step (k + 1) 2 z (by omega) rfl
  have e3 : script_Event_Right.l0 (k + 1) [x, y, z] (([x, y, z] : List Int).length : Int) ((3 : Nat) : Int) = some true := by
    rw [script_Event_Right.l0, if_neg (by simp)]
  rw [e3] at e2
  rw [e2] at e1
  rw [e1] at e0
  refine e0.trans ?_
  cases numB x <;> cases numB y <;> cases numB z <;> rfl
theorem Right_nice (k : Nat) (kind i n m a l : Int) (p : ByteArray) (ha : 0 ≤ a ∧ a ≤ 4294967295) : script_Event_Right.f (k + 5) kind i n m a l p = some (evRightB kind i n m a l p) := by
  unfold script_Event_Right.f
  by_cases h : 0 ≤ kind ∧ kind ≤ 10
  case neg =>
    obtain ⟨q, hq, hf⟩ := bare_out (k + 2) kind i n m a l p h
    have hn : evRightB kind i n m a l p = false := by
      unfold evRightB
      by_cases h0 : 0 ≤ kind
      · simp [show ¬ kind ≤ 10 by omega]
      · simp [h0]
    rw [show k + 5 = (k + 2) + 3 from rfl, hq, Option.bind_some, hf, if_neg (by decide), hn]
    rfl
  have hP : addr_Prefix_Right.f a l = some (rightB a l) := if_pos ha
  rw [show k + 5 = (k + 2) + 3 from rfl, bare_in (k + 2) kind i n m a l p h, Option.bind_some, if_pos rfl]
  simp only [sel, selp, beq_self_eq_true, Bool.not_true, Bool.false_or]
  have e : evRightB kind i n m a l p = (evRest kind i n m a l p && (rightB a l && (decide (p.size % 6 = 0) && (decide (p.size ≤ 240) && (numB i && numB n && numB m))))) := by
    unfold evRightB evRest
    simp only [h.1, h.2, decide_true, Bool.true_and]
    generalize (evHas kind) = b
    cases rightB a l <;> cases decide (p.size % 6 = 0) <;> cases decide (p.size ≤ 240) <;> cases numB i <;> cases numB n <;> cases numB m <;> simp
  have er : (!((evHas kind).1 || i == 0) || (!((evHas kind).2.1 || n == 0) || (!((evHas kind).2.2.1 || m == 0) || ((!((evHas kind).2.2.2.1 || a == 0) || !((evHas kind).2.2.2.1 || l == 0)) || !((evHas kind).2.2.2.2 || decide (p.size = 0)))))) = !evRest kind i n m a l p := by
    unfold evRest
    generalize (evHas kind) = b
    obtain ⟨b1, b2, b3, b4, b5⟩ := b
    simp only
    cases b1 <;> cases b2 <;> cases b3 <;> cases b4 <;> cases b5 <;> cases (i == 0) <;> cases (n == 0) <;> cases (m == 0) <;> cases (a == 0) <;> cases (l == 0) <;> simp
  rw [er, e]
  cases hr : evRest kind i n m a l p with
  | false => rfl
  | true =>
    rw [if_neg (by decide), hP, Option.bind_some]
    cases rightB a l with
    | false => rfl
    | true =>
      rw [if_pos rfl]
      by_cases h6 : p.size % 6 = 0
      case neg =>
        rw [if_neg (by omega)]
        simp [script_Event_Right.j0, h6]
      rw [if_pos (by omega)]
      by_cases h240 : p.size ≤ 240
      case neg =>
        rw [decide_eq_true (show (p.size : Int) > 240 by omega)]
        simp [script_Event_Right.j0, h240]
      rw [decide_eq_false (show ¬ (p.size : Int) > 240 by omega), show k + 2 + 3 = (k + 4) + 1 from rfl, script_Event_Right.j0, if_neg (by decide), Option.bind_some, nums_true]
      simp [h6, h240]
end Go.Proofs.YtjdapfimjpbnmaaQ.PScr
