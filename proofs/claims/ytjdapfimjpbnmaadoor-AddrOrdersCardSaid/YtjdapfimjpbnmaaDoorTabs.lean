import Derived.Test.YtjdapfimjpbnmaaDoorBase
import Derived.Lib.LaidTab
import Derived.Lib.ItoaNum
set_option linter.unusedVariables false
namespace Go.Proofs.YtjdapfimjpbnmaaDoor
open Go.RowKit
/-! What the library's own variables hold, as far as these laws read them. -/
structure Tabs (w : World) : Prop where
  pow : Lib.TabIs Tryd.prog w "internal/strconv.uint64pow10" .u64 Lib.pow10Tab
  syn : ∃ tp p, w.var? Tryd.prog "strconv.ErrSyntax" = some #[.iface tp p]
  rng : ∃ tp p, w.var? Tryd.prog "strconv.ErrRange" = some #[.iface tp p]
  len : ∃ m, w.var? Tryd.prog "internal/bytealg.MaxLen" = some #[.int .i64 m]
theorem var_below {w w' : World} {P : Program} {n : String} {cs : Array Value} (h : w.var? P n = some cs) (hb : Below w.heap.size w w') : w'.var? P n = some cs := by
  unfold World.var? at *
  cases hg : P.globalNamed n with
  | none => rw [hg] at h; cases h
  | some g =>
    rw [hg] at h
    simp only [Option.bind_some] at h ⊢
    cases ho : w.heap[g]? with
    | none => rw [ho] at h; cases h
    | some o =>
      rw [hb.block g (lt_of_heap ho), ho]
      rw [ho] at h
      exact h
theorem Tabs.below {w w' : World} (h : Tabs w) (hb : Below w.heap.size w w') : Tabs w' :=
  ⟨var_below h.pow hb, h.syn.imp fun _ ⟨p, hp⟩ => ⟨p, var_below hp hb⟩, h.rng.imp fun _ ⟨p, hp⟩ => ⟨p, var_below hp hb⟩, h.len.imp fun _ hp => var_below hp hb⟩
theorem Tabs.drew {w : World} (h : Tabs w) : Tabs w.drew := ⟨h.pow, h.syn, h.rng, h.len⟩
theorem Tabs.drewN {w : World} (h : Tabs w) (n : Nat) : Tabs (w.drewN n) := ⟨h.pow, h.syn, h.rng, h.len⟩
theorem Tabs.alloc {w : World} (h : Tabs w) (o : Obj) : Tabs (w.alloc o) := h.below ((Below.refl _ _).alloc (Nat.le_refl _) o)
theorem Tabs.max {w : World} (h : Tabs w) {g : Nat} (hg : Tryd.prog.globalNamed "internal/bytealg.MaxLen" = some g) : ∃ m, w.cell? ⟨g, 0, none⟩ = some (.int .i64 m) := by
  obtain ⟨m, hm⟩ := h.len
  exact ⟨m, by rw [World.var?_cell hg hm 0]; rfl⟩
end Go.Proofs.YtjdapfimjpbnmaaDoor
