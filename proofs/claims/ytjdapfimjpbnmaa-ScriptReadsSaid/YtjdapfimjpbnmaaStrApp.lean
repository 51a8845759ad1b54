import Derived.Test.YtjdapfimjpbnmaaWApart
import Derived.Test.YtjdapfimjpbnmaaWMore
import Derived.Lib.AppendStr
set_option linter.unusedVariables false
set_option linter.unusedSimpArgs false
namespace Go.Proofs.Ytjdapfimjpbnmaa
open Go.RowKit
open Go.Proofs.YtjdapfimjpbnmaaW.PrintWords
open Go.Lib
/-! A string's bytes appended to a row of one's own, told with what the row is none of. -/
variable {P : Program}
/-- Where the row lies then. -/
theorem str_at (W : World) (base : Nat) (t u ty e : TypeId) (i : TypeInfo) (ht : P.underlying t = some (.slice e)) (hu : P.underlying u = some .string) (hi : P.info? e = some i) (hz : i.zero = some (.int .u8 0))
    (hsize : i.size = 1) (hby : i.bytes = 1) (v : Value) (n : Nat) (xs : List Value) (hown : W.ownsRow base e 1 v n xs) (s : ByteArray) (hl : n + s.size ≤ 140737488355328) (v1 : Value) (w1 : World)
    (hrun : (Builtin.append_ #[t, u] ty #[v, .string s]).run P W = .ok v1 w1) (hnil : v1 = .slice none 0 0 ↔ v = .slice none 0 0 ∧ s.size = 0) :
    v1.ownBlock = v.ownBlock ∨ ∃ b, v1.ownBlock = some b ∧ W.heap.size ≤ b := by
  rcases hown with ⟨hxl, ⟨rfl, rfl⟩ | ⟨g, cap, cur, rfl, hbg, hg, hnc, hcm, hcs, htake⟩⟩
  · by_cases hm : s.size = 0
    · rw [hnil.2 ⟨rfl, hm⟩]
      exact .inl rfl
    · have hr := run_append_nil_string (P := P) W t u ty e i (.int .u8 0) ht hu hi hz s (by omega) (by omega) (by rw [hby]; omega)
      rw [hrun] at hr
      injection hr with h1 h2
      subst h1
      exact .inr ⟨_, rfl, Nat.le_refl _⟩
  · by_cases hroom : n + s.size ≤ cap
    · have hr := run_append_room_string (P := P) W t u ty e i ht hu hi hsize g n cap cur hg s hroom (by omega)
      rw [hrun] at hr
      injection hr with h1 h2
      subst h1
      exact .inl rfl
    · have hr := run_append_grow_string (P := P) W t u ty e i (.int .u8 0) ht hu hi hz ⟨g, 0, none⟩ n cap xs (by rw [hsize]; simpa using hxl) (World.ownsRow.cells (base := base) (e := e) ⟨hxl, .inr ⟨g, cap, cur, rfl, hbg, hg, hnc, hcm, hcs, htake⟩⟩ (g := g) rfl) s (by omega) (by omega) (by rw [hby]; exact growslice_fits (by omega) (by omega))
      rw [hrun] at hr
      injection hr with h1 h2
      subst h1
      exact .inr ⟨_, rfl, Nat.le_refl _⟩
theorem R_append_str {ops : Array Oper} {rest : List Oper} {o : Oper} {a : Act} {Q : Exit → Act → World → Prop} {w0 W : World} (base : Nat) (hgd : o.guard = none) (s x : Operand) (t u e : TypeId)
    (ho : o.op = .call { callee := .builtin .append, args := #[s, x], argTypes := #[t, u] })
    (ht : P.underlying t = some (.slice e)) (hu : P.underlying u = some .string) (hinfo : (P.info? e).map (fun i => (i.zero, i.size, i.bytes)) = some (some (.int .u8 0), 1, 1))
    (v : Value) (xs : List Int) (y : ByteArray) (ok : Nat → Prop) (hs : a.eval s = v) (hx : a.eval x = .string y)
    (HO : (Kd.int .u8).R e W base ok v xs) (hfresh : ∀ k, W.heap.size ≤ k → ok k) (HB : Below base w0 W) (hbase : base ≤ W.heap.size) (hl : xs.length + y.size ≤ 140737488355328)
    (h : ∀ v1 w1, (Kd.int .u8).R e w1 base ok v1 (xs ++ bytesOf y) → Below base w0 w1 → W.grownBy w1 v.ownBlock → (v1.ownBlock = v.ownBlock ∨ ∃ b, v1.ownBlock = some b ∧ W.heap.size ≤ b) → wpList P ops Q rest (a.put o.dst v1) w1) :
    wpList P ops Q (o :: rest) a W := by
  obtain ⟨i0, hi, hzz⟩ := Option.map_eq_some_iff.1 hinfo
  simp only [Prod.mk.injEq] at hzz
  obtain ⟨hz0, hz1, hz2⟩ := hzz
  have hown := Kd.own_of_R HO
  have hok := HO.1
  obtain ⟨v1, w1, hrun, h1, hg, hnil⟩ := run_append_own_string (P := P) W base t u o.type e i0 ht hu hi hz0 hz1 hz2 v xs.length _ hown y (by simp only [maxLen]; omega) hl hbase
  have hat := str_at W base t u o.type e i0 ht hu hi hz0 hz1 hz2 v xs.length _ hown y hl v1 w1 hrun hnil
  have hl2 : (xs ++ bytesOf y).length = xs.length + y.size := by rw [List.length_append, bytesOf_length]
  have hc : encs (Value.int .u8) (xs ++ bytesOf y) = encs (Value.int .u8) xs ++ Lib.strCells y := by
    simp [encs, bytesOf, Lib.strCells]
  refine wpList_plain hgd fun K hK => ?_
  unfold Oper.wp execOp
  simp only [ho, resolve, invoke, builtin, Sem.run_bind, Sem.run_pure, Result.andThen_ok, List.map_toArray, List.map_cons, List.map_nil, hs, hx, hrun]
  refine hK _ _ (h v1 w1 (Kd.R_of_own (by rw [hl2, hc]; exact h1) fun k hk => ?_) (HB.grown hg hbase (own_base hown)) hg hat)
  rcases hat with hat | ⟨b, hb, hle⟩
  · exact hok k (hat ▸ hk)
  · rw [hb] at hk
    injection hk with hk
    exact hfresh k (by omega)
end Go.Proofs.Ytjdapfimjpbnmaa
