import Derived.Test.YtgmdjhokcipajaaDistPaths
import Derived.Test.YtgmdjhokcipajaaOpenDist
namespace Go.Proofs.Ytgmdjhokcipajaa
open Go.RowKit Go.ChangeShapes Go.WideShapes
theorem DistOrders_walk (W : World) {b0 : Nat} {v0 v1 v2 : Value} (hv0 : Value.okWide Try.prog W .any b0 39 v0) (h0 : Opens Try.prog W 39 v0)
    (hv1 : Value.okWide Try.prog W .any b0 39 v1) (h1 : Opens Try.prog W 39 v1) (hv2 : Value.okWide Try.prog W .any b0 39 v2) (h2 : Opens Try.prog W 39 v2) :
    Calls Try.prog 5 #[v0, v1, v2] W fun e W' => e = .returned (.bool true) ∧ Below W.heap.size W W' := by
  obtain ⟨s0, m0, rfl, -, -⟩ := Opens.dist hv0 h0
  obtain ⟨s1, m1, rfl, -, -⟩ := Opens.dist hv1 h1
  obtain ⟨s2, m2, rfl, -, -⟩ := Opens.dist hv2 h2
  exact DistOrders_all _ _ _ _ _ _ W
theorem DistLinks_walk (W : World) {b0 : Nat} {v0 v1 v2 : Value} (hv0 : Value.okWide Try.prog W .any b0 39 v0) (h0 : Opens Try.prog W 39 v0)
    (hv1 : Value.okWide Try.prog W .any b0 39 v1) (h1 : Opens Try.prog W 39 v1) (hv2 : Value.okWide Try.prog W .any b0 3 v2) (h2 : Opens Try.prog W 3 v2) :
    Calls Try.prog 6 #[v0, v1, v2] W fun e W' => e = .returned (.bool true) ∧ Below W.heap.size W W' := by
  obtain ⟨s0, m0, rfl, -, hm0⟩ := Opens.dist hv0 h0
  obtain ⟨s1, m1, rfl, -, hm1⟩ := Opens.dist hv1 h1
  obtain ⟨c, rfl, -⟩ := Opens.int hv2 h2
  by_cases h : m0 = 65535
  · exact DistLinks_lost _ _ _ _ W hm1 _ hm0 h
  · exact DistLinks_far _ _ _ _ W hm1 _ hm0 (by omega)
theorem DistPaths_walk (W : World) {b0 : Nat} {v0 v1 : Value} (hv0 : Value.okWide Try.prog W .any b0 39 v0) (h0 : Opens Try.prog W 39 v0)
    (hv1 : Value.okWide Try.prog W .any b0 46 v1) (h1 : Opens Try.prog W 46 v1) :
    Calls Try.prog 7 #[v0, v1] W fun e W' => e = .returned (.bool true) ∧ Below W.heap.size W W' := by
  obtain ⟨s0, m0, rfl, -, hm0⟩ := Opens.dist hv0 h0
  obtain ⟨l, A, c, rfl, hr⟩ := Opens.ints hv1 h1
  exact DistPaths_all _ _ l A c W hm0 hr
end Go.Proofs.Ytgmdjhokcipajaa
