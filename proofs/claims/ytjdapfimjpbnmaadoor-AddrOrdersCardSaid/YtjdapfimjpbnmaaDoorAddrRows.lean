import Derived.Test.YtjdapfimjpbnmaaDoorAddrHasL
import Derived.Test.YtjdapfimjpbnmaaDoorAddrTextsL
import Derived.Test.YtjdapfimjpbnmaaDoorAddrOrdersL
import Derived.Test.YtjdapfimjpbnmaaDoorAddrParsesL
import Derived.Test.YtjdapfimjpbnmaaDoorOpenPfx
import Derived.Test.YtjdapfimjpbnmaaDoorOpenInt
import Derived.Test.YtjdapfimjpbnmaaDoorRows
import Derived.ProofKit
import Derived.OpenShut
import Derived.Below
import Derived.SizedLaws
import Derived.Lay
import Derived.Stop.LaidErr
import Derived.Shelf.Vars
import Derived.LaidLaws
import Derived.MakeChecks
import Derived.Stop.Joined
set_option maxRecDepth 100000
set_option linter.unusedVariables false
namespace Go.Proofs.YtjdapfimjpbnmaaDoor
open Go.RowKit Go.ChangeShapes Go.WideShapes
theorem Opens.pfx {W : World} {b0 : Nat} {v : Value} (hv : Value.okWide Tryd.prog W .any b0 24 v) (h : Opens Tryd.prog W 24 v) : ∃ a l, v = .agg #[.int .u32 a, .int .i64 l] ∧ (0 ≤ a ∧ a ≤ 4294967295) := by
  obtain ⟨n, h⟩ := h
  obtain ⟨a, l, e, ha, -⟩ := Op.prefix_ h
  obtain ⟨vs, rfl, -⟩ := okWide_struct Tryd.underlying24 hv
  obtain ⟨vs⟩ := vs
  refine ⟨a, l, ?_, ha⟩
  have : vs = [.int .u32 a, .int .i64 l] := by simpa [Value.cells] using e
  rw [this]
theorem AddrHas_walk (W : World) (ht : Tabs W) {b0 b1 : Nat} {v0 v1 : Value} (a0 : Value.okWide Tryd.prog W .any b0 24 v0) (h0 : Opens Tryd.prog W 24 v0) (a1 : Value.okWide Tryd.prog W .any b1 22 v1) (h1 : Opens Tryd.prog W 22 v1) :
    Calls Tryd.prog 3 #[v0, v1] W fun e W' => e = .returned (.bool true) ∧ Below W.heap.size W W' := by
  obtain ⟨a, l, rfl, ha⟩ := Opens.pfx a0 h0
  obtain ⟨x, rfl, hx⟩ := Opens.u32 a1 h1
  exact AddrHas_all a l x W ht ha hx
theorem AddrTexts_walk (W : World) (ht : Tabs W) {b0 : Nat} {v0 : Value} (a0 : Value.okWide Tryd.prog W .any b0 24 v0) (h0 : Opens Tryd.prog W 24 v0) :
    Calls Tryd.prog 4 #[v0] W fun e W' => e = .returned (.bool true) ∧ Below W.heap.size W W' := by
  obtain ⟨a, l, rfl, ha⟩ := Opens.pfx a0 h0
  cases hr : rightB a l with
  | true => exact AddrTexts_yes a l W ht ha hr
  | false => exact AddrTexts_no a l W ht ha hr
theorem AddrOrders_walk (W : World) (ht : Tabs W) {b0 b1 : Nat} {v0 v1 : Value} (a0 : Value.okWide Tryd.prog W .any b0 24 v0) (h0 : Opens Tryd.prog W 24 v0) (a1 : Value.okWide Tryd.prog W .any b1 24 v1) (h1 : Opens Tryd.prog W 24 v1) :
    Calls Tryd.prog 6 #[v0, v1] W fun e W' => e = .returned (.bool true) ∧ Below W.heap.size W W' := by
  obtain ⟨a, l, rfl, ha⟩ := Opens.pfx a0 h0
  obtain ⟨c, m, rfl, hc⟩ := Opens.pfx a1 h1
  exact AddrOrders_all a l c m W ht ha hc
theorem AddrParses_walk (W : World) (ht : Tabs W) {b0 : Nat} {v0 : Value} (a0 : Value.okWide Tryd.prog W .any b0 9 v0) (h0 : Opens Tryd.prog W 9 v0) :
    Calls Tryd.prog 5 #[v0] W fun e W' => e = .returned (.bool true) ∧ Below W.heap.size W W' := by
  obtain ⟨s, rfl⟩ := okWide_string Tryd.underlying9 a0
  by_cases hs : s.size ≤ 60
  · cases hp : parseF s.data.toList with
    | some p => exact AddrParses_yes s W ht hs p.1 p.2 hp
    | none => exact AddrParses_none s W ht hs hp
  · exact AddrParses_long s W ht (by omega)
/-! The rows: what the listed variables hold, and the wrap that keeps the world's shape. -/
abbrev theLaid : List (String × DataW Unit) := Rows.addrHasRow.laid
theorem star : "*" ++ "errors.errorString" = "*errors.errorString" := by decide
theorem rowErr (u : TypeId) (h : Tryd.prog.typeName? 3 u = some "*errors.errorString") : u = 102 :=
  typeName_ptr_named (nm := "errors.errorString") (by rw [star]; kernel_rfl) (by kernel_rfl) (by decide) u (by rw [star]; exact h)
theorem var_of_cell {P : Program} {W : World} {n : String} {g : Nat} {t : TypeId} {zero : Array Value} {v : Value} (h : W.ShapedOpen P) (hn : P.globalNamed n = some g) (hg : g < P.globals.size)
    (h0 : ((begin P (fun _ _ => 0) default).world.heap[g]?).bind Obj.row? = some (zero, t)) (hz : zero.size = 1) (hc : W.cell? ⟨g, 0, none⟩ = some v) : W.var? P n = some #[v] := by
  obtain ⟨cs, hh, hs, -⟩ := h.1 g zero t hg h0
  unfold World.var?
  rw [hn]
  simp only [Option.bind_some, hh]
  have h1 : cs[0]? = some v := by simpa [World.cell?, hh] using hc
  have h2 : cs.size = 1 := by rw [hs, hz]
  congr 1
  refine Array.ext_getElem? fun i => ?_
  cases i with
  | zero => rw [h1]; rfl
  | succ i => rw [Array.getElem?_eq_none (by omega)]; simp
theorem tabs_of_laid {W : World} (h : laidMetH Tryd.prog theLaid W) (hsh : W.ShapedOpen Tryd.prog) : Tabs W := by
  rw [MakeChecks.laidMetH_plain _ _ _ (by kernel_rfl)] at h
  have h0 : laidMet Tryd.prog [("math/bits.deBruijn32tab", Rows.laid_math_bits_deBruijn32tab), ("math/bits.deBruijn64tab", Rows.laid_math_bits_deBruijn64tab), ("internal/strconv.uint64pow10", Rows.laid_internal_strconv_uint64pow10), ("unicode/utf8.acceptRanges", Rows.laid_unicode_utf8_acceptRanges), ("strconv.ErrRange", Rows.laid_strconv_ErrRange), ("strconv.ErrSyntax", Rows.laid_strconv_ErrSyntax), ("unicode/utf8.first", Rows.laid_unicode_utf8_first)] W := h
  have h2 := h0.tail.tail
  have h4 := h2.tail.tail
  have h5 := h4.tail
  refine ⟨?_, ?_, ?_, ?_⟩
  · exact Lib.tabIs_of_head (g := 0) (zs := Lib.pow10Tab) (n := 20) (by kernel_rfl) (by kernel_rfl) Tryd.underlying77 Tryd.underlying64 (by kernel_rfl) (by kernel_rfl) h2
  · obtain ⟨a, s, hv, -⟩ := laid_sentinel (g := 2) h5 (by kernel_rfl) (by kernel_rfl) Tryd.underlying56 rowErr Tryd.underlying102 Tryd.underlying104 rfl rfl Tryd.underlying9 (by kernel_rfl) (by kernel_rfl)
    exact ⟨_, _, hv⟩
  · obtain ⟨a, s, hv, -⟩ := laid_sentinel (g := 3) h4 (by kernel_rfl) (by kernel_rfl) Tryd.underlying56 rowErr Tryd.underlying102 Tryd.underlying104 rfl rfl Tryd.underlying9 (by kernel_rfl) (by kernel_rfl)
    exact ⟨_, _, hv⟩
  · obtain ⟨m, hm⟩ := Go.Proofs.cell_of_shapedOpen_int (g := 1) (zero := #[.int .i64 0]) (t := 3) hsh (of_decide_eq_true (by kernel_rfl)) (by kernel_rfl) rfl (by kernel_rfl) (by kernel_rfl) Tryd.underlying3
    exact ⟨m, var_of_cell (zero := #[.int .i64 0]) (t := 3) hsh (by kernel_rfl) (of_decide_eq_true (by kernel_rfl)) (by kernel_rfl) rfl hm⟩
end Go.Proofs.YtjdapfimjpbnmaaDoor
