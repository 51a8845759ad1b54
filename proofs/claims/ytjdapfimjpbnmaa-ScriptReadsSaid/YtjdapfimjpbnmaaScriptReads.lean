import Derived.Test.YtjdapfimjpbnmaaScrR3
import Derived.Test.YtjdapfimjpbnmaaOpenKd
import Derived.Test.YtjdapfimjpbnmaaOpenBytes
set_option maxRecDepth 100000
set_option linter.unusedVariables false
set_option linter.unusedSimpArgs false
namespace Go.Proofs.Ytjdapfimjpbnmaa
open Go.RowKit Go.ChangeShapes Go.WideShapes
open Go.Proofs.YtjdapfimjpbnmaaW.PrintWords (Kd rd below_step own_string)
theorem law14_Reads (B : List Int) (hB : Byte B) (A : Option Addr) (c : Nat) (w : World) (hC : Kd.C (Kd.int .u8) w A B.length B) (hc : B.length ≤ c) :
    Calls Try.prog 4 #[.slice A B.length c] w fun e w' => e = .returned (.bool true) ∧ Below w.heap.size w w' := by
  by_cases hl : 800 < B.length
  · exact law14_Reads_long B A c w hl
  cases hh : YtjdapfimjpbnmaaQ.PScr.headB B with
  | false => exact law14_Reads_no B hB A c w hC hc (by omega) hh
  | true =>
    obtain ⟨ys, n, hdr, hn, hfl, hr, hE⟩ := YtjdapfimjpbnmaaQ.PScr.decR_sound (B.length + 1) (B.drop 3) [] 3 (hB.drop 3) (by simp; omega)
    rw [List.nil_append] at hdr hE
    refine law14_Reads_yes B hB A c w hC hc (by omega) hh ys n (3 + n) _ rfl hdr hn hfl hr ?_
    rcases hE with h | h | ⟨-, h⟩
    · exact .inl h
    · exact .inr h
    · have h1 := flat_ge ys
      rw [hfl] at h1
      simp at h1
      omega
theorem ScriptReads_walk (W : World) {b0 : Nat} {v0 : Value} (a0 : Value.okWide Try.prog W .any b0 32 v0) (h0 : Opens Try.prog W 32 v0) :
    Calls Try.prog 4 #[v0] W fun e W' => e = .returned (.bool true) ∧ Below W.heap.size W W' := by
  have l2 := fun A n c (e : v0 = .slice A n c) => opens_le Try.underlying32 (e ▸ h0)
  obtain ⟨P, A1, c1, rfl, r1, hP⟩ := Opens.u8s a0 h0
  exact law14_Reads P hP A1 c1 W (C_of_bytes r1) (l2 _ _ _ rfl)
end Go.Proofs.Ytjdapfimjpbnmaa
