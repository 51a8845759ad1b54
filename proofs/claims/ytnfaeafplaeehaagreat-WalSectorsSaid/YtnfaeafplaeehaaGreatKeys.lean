import Derived.Test.YtnfaeafplaeehaaGreatMrgC
import Derived.Laws.StructEq
set_option linter.unusedVariables false
set_option linter.unusedSimpArgs false
namespace Go.Proofs.YtnfaeafplaeehaaGreat
open Go.RowKit

/-- A prefix: its address and its length. -/
structure Pfx where
  a : Int
  l : Int
  deriving DecidableEq
def Pfx.val (p : Pfx) : Value := .agg #[.int .u32 p.a, .int .i64 p.l]
/-- A 'state.Key'. -/
structure Key where
  a : Int
  l : Int
  id : Int
  deriving DecidableEq
def Key.val (k : Key) : Value := .agg #[.int .u32 k.a, .int .i64 k.l, .int .u32 k.id]

theorem fieldsOf_eq {P : Program} {t : TypeId} {fs : Array Field} (h : P.underlying t = some (.struct fs)) : P.fieldsOf t = fs := by simp [Program.fieldsOf, h]
theorem pfx_eq (n : Nat) (p q : Pfx) (w : World) : (Op.equalIn (n + 2) 36 p.val q.val).run Tryz.prog w = .ok (decide (p = q)) w := by
  obtain ⟨a, l⟩ := p
  obtain ⟨b, m⟩ := q
  have hf := fieldsOf_eq Tryz.underlying36
  unfold Pfx.val
  rw [show n + 2 = (n + 1) + 1 from rfl, run_equalIn_agg w (n + 1) _ _ _ (by rw [hf]; exact Tryz.underlying36) (by kernel_rfl), hf]
  by_cases h1 : a = b
  · by_cases h2 : l = m
    · simp [Op.eqFields, go_sem, h1, h2]
    · have h2' : (l == m) = false := by simpa using h2
      simp [Op.eqFields, go_sem, h1, h2, h2']
  · have h1' : (a == b) = false := by simpa using h1
    simp [Op.eqFields, go_sem, h1, h1']
theorem key_eq (n : Nat) (p q : Key) (w : World) : (Op.equalIn (n + 3) 80 p.val q.val).run Tryz.prog w = .ok (decide (p = q)) w := by
  obtain ⟨a, l, i⟩ := p
  obtain ⟨b, m, j⟩ := q
  have hf := fieldsOf_eq Tryz.underlying80
  have hp := pfx_eq n ⟨a, l⟩ ⟨b, m⟩ w
  unfold Pfx.val at hp
  dsimp only at hp
  unfold Key.val
  rw [show n + 3 = (n + 2) + 1 from rfl, run_equalIn_agg w (n + 2) _ _ _ (by rw [hf]; exact Tryz.underlying80) (by kernel_rfl), hf]
  by_cases h1 : (⟨a, l⟩ : Pfx) = ⟨b, m⟩
  · rw [decide_eq_true h1] at hp
    simp at h1
    by_cases h2 : i = j
    · simp [Op.eqFields, go_sem, hp, h1, h2]
    · have h2' : (i == j) = false := by simpa using h2
      simp [Op.eqFields, go_sem, hp, h1, h2, h2']
  · rw [decide_eq_false h1] at hp
    simp at h1
    have h3 : decide ((⟨a, l, i⟩ : Key) = ⟨b, m, j⟩) = false := decide_eq_false (fun e => by injection e with e1 e2; exact h1 e1 e2)
    rw [h3]
    simp [Op.eqFields, go_sem, hp]
    exact fun e1 e2 => absurd e2 (h1 e1)
theorem pfx_check (n : Nat) (p : Pfx) (em : Bool) (w : World) : (Instr.checkKey em (n + 2) 36 p.val).run Tryz.prog w = .ok () w := by
  simp [Instr.checkKey, Pfx.val, go_sem]
theorem key_check (n : Nat) (p : Key) (em : Bool) (w : World) : (Instr.checkKey em (n + 3) 80 p.val).run Tryz.prog w = .ok () w := by
  simp [Instr.checkKey, Key.val, go_sem]
theorem pfx_same (n : Nat) (p : Pfx) : Instr.sameBits (n + 2) p.val p.val = true := by simp [Instr.sameBits, Pfx.val]
theorem key_same (n : Nat) (p : Key) : Instr.sameBits (n + 2) p.val p.val = true := by simp [Instr.sameBits, Key.val]
theorem pfx_keys : Keys Tryz.prog 36 Pfx.val := Keys.of_struct Tryz.underlying36 (fun a b w => pfx_eq 9998 a b w) (fun k em w => pfx_check 9998 k em w) fun k => pfx_same 9998 k
theorem key_keys : Keys Tryz.prog 80 Key.val := Keys.of_struct Tryz.underlying80 (fun a b w => key_eq 9997 a b w) (fun k em w => key_check 9997 k em w) fun k => key_same 9998 k
end Go.Proofs.YtnfaeafplaeehaaGreat
