import Derived.Test.YtgmdjhokcipajaaTlvG
import Derived.Test.YtgmdjhokcipajaaApp
import Derived.Test.YtgmdjhokcipajaaWApart
import Derived.Test.YtgmdjhokcipajaaWMore
import Derived.Laws.BytesArg
set_option linter.unusedVariables false
set_option linter.unusedSimpArgs false
namespace Go.Proofs.Ytgmdjhokcipajaa
open Go.RowKit
open Go.Proofs.YtgmdjhokcipajaaW.PrintWords (Kd Reps ReadsRow below_step blk_lt add_plain)
/-! Rows of bytes: the kit's word and ours; a row stored into a row of rows. -/
theorem reps_u8 (l : List Int) : Reps (fun (p : Int) c => c = [Value.int .u8 p]) 1 l (u8s l) := by
  refine ⟨by simp [u8s], fun j p hj => ?_⟩
  simp [u8s, List.take_one, hj]
theorem u8_of_reps (l : List Int) (cs : List Value) (h : Reps (fun (p : Int) c => c = [Value.int .u8 p]) 1 l cs) : cs = u8s l := by
  refine List.ext_getElem? fun j => ?_
  rcases Nat.lt_or_ge j l.length with hj | hj
  · have h2 := h.2 j _ (List.getElem?_eq_getElem hj)
    have h3 : ((cs.drop (j * 1)).take 1)[0]? = some (Value.int .u8 l[j]) := by rw [h2]; rfl
    simp [List.getElem?_take] at h3
    rw [h3]
    simp [u8s, hj]
  · rw [List.getElem?_eq_none (by rw [h.1]; omega), List.getElem?_eq_none (by simp [u8s]; omega)]
theorem R_own8 {w : World} {base : Nat} {ok : Nat → Prop} {v : Value} {l : List Int} (h : Kd.R (Kd.int .u8) 5 w base ok v l) : Own8 w base v l := by
  obtain ⟨-, inner, h1, h2⟩ := h
  have := u8_of_reps l inner h2
  subst this
  exact h1
theorem own8_R {w : World} {base : Nat} {ok : Nat → Prop} {v : Value} {l : List Int} (h : Own8 w base v l) (hok : ∀ k, base ≤ k → ok k) : Kd.R (Kd.int .u8) 5 w base ok v l := by
  refine ⟨fun k hk => hok k ?_, u8s l, h, reps_u8 l⟩
  rcases h.2 with ⟨rfl, -⟩ | ⟨g, cap, cur, rfl, hb, -⟩
  · simp [Value.ownBlock] at hk
  · have : g = k := by simpa [Value.ownBlock] using hk
    omega
theorem C_row {α : Type} {d : Kd α} {e : Nat} {w : World} {ad : Addr} {n : Nat} {xs : List (List α)} (h : Kd.C (Kd.slice e d) w (some ad) n xs) (i : Nat) (hi : i < n) :
    ∃ A c, w.cell? (ad.add i) = some (.slice A (xs.getD i []).length c) ∧ (xs.getD i []).length ≤ c ∧ d.C w A (xs.getD i []).length (xs.getD i []) := by
  obtain ⟨ad', cs, e1, h1, h2, h3⟩ := ReadsRow.get_ h [] (i : Int) (by omega) (by omega)
  cases e1
  obtain ⟨A, c, rfl, hl, hC⟩ := h2
  refine ⟨A, c, ?_, hl, hC⟩
  have := h3 0 _ rfl
  simpa [Kd.slice] using this
theorem S_store_row {W0 W : World} {base g n cap e e2 : Nat} {X : List (List Int)} (h : Kd.S (Kd.slice e (Kd.int .u8)) e2 W0 base (fun _ => True) (.slice (some ⟨g, 0, none⟩) n cap) X) (hb : Below W0.heap.size W0 W)
    (v : Value) (ys : List Int) (hy : Kd.R (Kd.int .u8) e W base (fun k => W0.heap.size ≤ k) v ys) (i : Nat) (hi : i < n) :
    Kd.S (Kd.slice e (Kd.int .u8)) e2 (W.setCell ⟨g, i, none⟩ v) base (fun _ => True) (.slice (some ⟨g, 0, none⟩) n cap) (X.set i ys) := by
  have hg : g < W0.heap.size := Kd.S_lt h g (by simp [Value.ownBlock])
  have h1 := Kd.S_old h hb
  obtain ⟨oki, c, hcl, hM, hcc, hfr, hoki, hH⟩ := Kd.S_elem h1 [] (i : Int) (by omega) (by omega)
  have hH' := Kd.H_mono (ok' := fun k => True ∧ ¬ W0.heap.size ≤ k) hH (fun k hk => ⟨trivial, by omega⟩)
  have hc1 : c.length = 1 := hcl
  have := Kd.S_seg (ok := fun _ => True) (okg := fun k => W0.heap.size ≤ k) (okp := fun k => W0.heap.size ≤ k) (seg := [v]) (j := 0) (x' := ys) hH' (by omega) (by omega) (by show 0 + 1 ≤ 1; omega)
    (by
      have : c.drop (0 + [v].length) = [] := List.drop_eq_nil_of_le (by rw [hc1]; simp)
      rw [this]
      exact Kd.M_row hy) (fun k hk => Or.inr hk) (fun k hk => ⟨trivial, by omega⟩)
  have h2 := this.1
  rw [Int.toNat_natCast] at h2
  have e1 : i * (Kd.slice e (Kd.int .u8)).sz + 0 = i := by show i * 1 + 0 = i; omega
  rw [e1] at h2
  exact h2
theorem V_of_C {k : IntKind} {W : World} {A : Option Addr} {xs : List Int} (h : Kd.C (Kd.int k) W A xs.length xs) (e base c : Nat) (hc : xs.length ≤ c) : Kd.V (Kd.int k) e W base (fun _ => True) (.slice A xs.length c) xs := by
  refine ⟨A, c, rfl, hc, fun W' hW => ⟨h.1, h.2.1, fun hn => ?_⟩⟩
  obtain ⟨ad, e1, h1⟩ := h.2.2 hn
  refine ⟨ad, e1, fun j p hj => ?_⟩
  obtain ⟨cs, h2, h3, h4⟩ := h1 j p hj
  exact ⟨cs, h2, h3, fun i u hu => (World.cell?_of_block (hW _ trivial (World.block_lt_of_cell? _ _ (h4 i u hu)))).trans (h4 i u hu)⟩
/-- A row of bytes as a string. -/
theorem conv_C {W : World} {g : Nat} {l : List Int} (h : Kd.C (Kd.int .u8) W (some ⟨g, 0, none⟩) l.length l) (cap : Nat) :
    (convert 22 9 (.slice (some ⟨g, 0, none⟩) l.length cap)).run Try.prog W = .ok (.string (strOfNums l)) W := by
  refine run_convert_bytes_arg W 22 5 Try.underlying22 Try.underlying5 g 0 l.length cap l rfl (fun i hi => ?_) 9 Try.underlying9
  obtain ⟨ad, e, hx⟩ := Kd.at_int h (i : Int) (by omega) (by omega)
  cases e
  rw [Int.toNat_natCast] at hx
  have e1 : (⟨g, 0, none⟩ : Addr).add i = ⟨g, 0 + i, none⟩ := by
    rw [add_plain, Nat.zero_add]
  rw [e1] at hx
  rw [hx]
  simp [Go.Proofs.YtgmdjhokcipajaaW.PrintWords.rd]
end Go.Proofs.Ytgmdjhokcipajaa
