import Derived.Test.YtnfaeafplaeehaaHead09
import Derived.Test.YtnfaeafplaeehaaRegion2
import Derived.Test.YtnfaeafplaeehaaDistOver
set_option linter.unusedVariables false
set_option linter.unusedSimpArgs false
namespace Go.Proofs.Ytnfaeafplaeehaa
open Go.RowKit
/-! The law's own nearest way. -/
theorem lkey_eq (n : Nat) (p q : RKey) (w : World) : (Op.equalIn (n + 3) 98 p.val q.val).run Try.prog w = .ok (decide (p = q)) w := by
  obtain ⟨a, l, i⟩ := p
  obtain ⟨b, m, j⟩ := q
  have hf := fieldsOf_eq Try.underlying98
  have hp := pfx_eq n ⟨a, l⟩ ⟨b, m⟩ w
  unfold Pfx.val at hp
  dsimp only at hp
  unfold RKey.val
  rw [show n + 3 = (n + 2) + 1 from rfl, run_equalIn_agg w (n + 2) _ _ _ (by rw [hf]; exact Try.underlying98) (by kernel_rfl), hf]
  by_cases h1 : (⟨a, l⟩ : Pfx) = ⟨b, m⟩
  · rw [decide_eq_true h1] at hp
    simp at h1
    by_cases h2 : i = j
    · simp [Op.eqFields, go_sem, hp, h1, h2]
    · have h2' : (i == j) = false := by simpa using h2
      simp [Op.eqFields, go_sem, hp, h1, h2, h2']
  · rw [decide_eq_false h1] at hp
    simp at h1
    have h3 : decide ((⟨a, l, i⟩ : RKey) = ⟨b, m, j⟩) = false := decide_eq_false (fun e => by injection e with e1 e2; exact h1 e1 e2)
    rw [h3]
    simp [Op.eqFields, go_sem, hp]
    exact fun e1 e2 => absurd e2 (h1 e1)
theorem lkey_check (n : Nat) (p : RKey) (em : Bool) (w : World) : (Instr.checkKey em (n + 3) 98 p.val).run Try.prog w = .ok () w := by
  simp [Instr.checkKey, RKey.val, go_sem]
theorem lkey_keys : Keys Try.prog 98 RKey.val := Keys.of_struct Try.underlying98 (fun a b w => lkey_eq 9997 a b w) (fun k em w => lkey_check 9997 k em w) fun k => rkey_same 9998 k
theorem law_look (m : List (RKey × Rt)) (k : RKey) (g : Nat) (W : World) (hW : MapAt W g RKey.val Rt.val m) : (Instr.lookup 92 (.map (some g)) k.val true).run Try.prog W = .ok (.tuple #[(getR m k).1.val, .bool (getR m k).2]) W := by
  unfold getR
  cases hg : getM m k with
  | some r => exact run_lookup_some lkey_keys Try.underlying92 hW k r hg true
  | none => exact run_lookup_none lkey_keys Try.underlying92 hW k hg true rt0.val rt_zero
theorem law_look1 (m : List (RKey × Rt)) (k : RKey) (g : Nat) (W : World) (hW : MapAt W g RKey.val Rt.val m) : (Instr.lookup 92 (.map (some g)) k.val false).run Try.prog W = .ok (getR m k).1.val W := by
  unfold getR
  cases hg : getM m k with
  | some r => exact run_lookup_some lkey_keys Try.underlying92 hW k r hg false
  | none => exact run_lookup_none lkey_keys Try.underlying92 hW k hg false rt0.val rt_zero
def bestStep (m : List (RKey × Rt)) (a l : Int) (list : List Int) (most : Int) (s : Int × Int) (i : Nat) : Int × Int :=
  if (getR m ⟨a, l, i⟩).2 = false ∨ costF list i ≤ 0 ∨ most < (getR m ⟨a, l, i⟩).1.id then s
  else if beyondM (getR m ⟨a, l, i⟩).1.m (costF list i) < 65535 ∧ (s.1 < 0 ∨ beyondM (getR m ⟨a, l, i⟩).1.m (costF list i) < s.2) then ((i : Int), beyondM (getR m ⟨a, l, i⟩).1.m (costF list i))
  else s
def bestN (m : List (RKey × Rt)) (a l : Int) (list : List Int) (most : Int) : Nat → Int × Int
  | 0 => (-1, 0)
  | k + 1 => bestStep m a l list most (bestN m a l list most k) k
theorem beyondM_le (m c : Int) : beyondM m c ≤ 65535 := by unfold beyondM; split <;> omega
theorem pick_best (m : List (RKey × Rt)) (a l : Int) (list : List Int) (most : Int) : ∀ k : Nat, -1 ≤ (bestN m a l list most k).1 ∧ (bestN m a l list most k).1 < k ∧
    (pickN m a l (costF list) (fun r => decide (r.id ≤ most)) k).2.2 = decide (0 ≤ (bestN m a l list most k).1) ∧
    (0 ≤ (bestN m a l list most k).1 → (pickN m a l (costF list) (fun r => decide (r.id ≤ most)) k).1 = (getR m ⟨a, l, (bestN m a l list most k).1⟩).1 ∧ (pickN m a l (costF list) (fun r => decide (r.id ≤ most)) k).2.1 = (bestN m a l list most k).2) ∧
    ((bestN m a l list most k).1 < 0 → (pickN m a l (costF list) (fun r => decide (r.id ≤ most)) k).1 = rt0)
  | 0 => by
    unfold bestN pickN
    refine ⟨by decide, by decide, by decide, fun h => absurd h (by decide), fun _ => rfl⟩
  | k + 1 => by
    obtain ⟨h1, h2, h3, h4, h5⟩ := pick_best m a l list most k
    unfold bestN pickN
    generalize bestN m a l list most k = b at *
    generalize pickN m a l (costF list) (fun r => decide (r.id ≤ most)) k = s at *
    obtain ⟨b1, b2⟩ := b
    obtain ⟨s1, s2, s3⟩ := s
    simp only at h1 h2 h3 h4 h5
    unfold bestStep pickStep
    by_cases hc : (getR m ⟨a, l, k⟩).2 = false ∨ costF list k ≤ 0 ∨ most < (getR m ⟨a, l, k⟩).1.id
    · have hc' : (getR m ⟨a, l, k⟩).2 = false ∨ costF list k ≤ 0 ∨ decide ((getR m ⟨a, l, k⟩).1.id ≤ most) = false := by simpa using hc
      rw [if_pos hc, if_pos hc']
      exact ⟨h1, by omega, h3, h4, h5⟩
    · have hc' : ¬ ((getR m ⟨a, l, k⟩).2 = false ∨ costF list k ≤ 0 ∨ decide ((getR m ⟨a, l, k⟩).1.id ≤ most) = false) := by simpa using hc
      rw [if_neg hc, if_neg hc']
      have hle := beyondM_le (getR m ⟨a, l, k⟩).1.m (costF list k)
      simp only
      generalize hd : beyondM (getR m ⟨a, l, k⟩).1.m (costF list k) = d at *
      have hiff : (d < 65535 ∧ (b1 < 0 ∨ d < b2)) ↔ (d ≠ 65535 ∧ (s3 = false ∨ d < s2)) := by
        by_cases hb : 0 ≤ b1
        · have e1 := (h4 hb).2
          rw [decide_eq_true hb] at h3
          rw [h3, e1]
          simp
          omega
        · rw [decide_eq_false hb] at h3
          rw [h3]
          simp
          omega
      by_cases hq : d < 65535 ∧ (b1 < 0 ∨ d < b2)
      · rw [if_pos hq, if_pos (hiff.1 hq)]
        refine ⟨by simp only; omega, by simp only; omega, by simp only; exact (decide_eq_true (by omega)).symm, fun _ => ⟨rfl, rfl⟩, fun h => absurd h (by simp only; omega)⟩
      · rw [if_neg hq, if_neg (fun h => hq (hiff.2 h))]
        exact ⟨h1, by simp only; omega, h3, h4, h5⟩
end Go.Proofs.Ytnfaeafplaeehaa
