/- Texts of this proof, one behind the other: lemmas for the row at the claim's end. No condition of their own. -/
import Derived.Test.YtgmdjhokcipajaaOwnA
import Derived.Test.YtgmdjhokcipajaaWMore
import Derived.Laws.CopyOwn
import Derived.Lib.LazyBuf
import Derived.Laws.AppendOwn
import Derived.OwnWalk
import Derived.Test.YtgmdjhokcipajaaWApart
import Derived.Laws.BytesArg
import Derived.OpenShut
import Derived.Deep.Slices
import Derived.SizedLaws
section
set_option linter.unusedVariables false
set_option linter.unusedSimpArgs false
namespace Go.Proofs.Ytgmdjhokcipajaa
open Go.RowKit
/-! What a datagram says, in plain lists. -/
def byteB (l : List Int) : Bool := l.all fun x => decide (0 ≤ x) && decide (x ≤ 255)
theorem byteB_iff (l : List Int) : byteB l = true ↔ Byte l := by simp [byteB, Byte, List.all_eq_true]
def valB (l : List Int) : Int := l.foldl (fun n c => n * 256 + c) 0
/-- Can something be told? -/
def updB (a l id s m : Int) : Bool := rightB a l && decide (s ≤ 1073741824) && (if m = 65535 then decide (id = 0 ∧ s = 0) else decide (id ≠ 0))
def szB (n : Int) : Int := (n + 7) / 8
def padB (l : List Int) : List Int := (l ++ [0, 0, 0, 0]).take 4
def oneM (l : List Int) (id : Int) : Int × Int × Int × Int × Int × Bool :=
  if l.length < 7 then (0, 0, 0, 0, 0, false)
  else if 32 < l.getD 0 0 then (0, 0, 0, 0, 0, false)
  else if (l.length : Int) ≠ 7 + szB (l.getD 0 0) then (0, 0, 0, 0, 0, false)
  else
    (valB (padB (l.drop 7)), l.getD 0 0, (if valB ((l.drop 5).take 2) = 65535 then 0 else id), valB ((l.drop 1).take 4), valB ((l.drop 5).take 2),
      updB (valB (padB (l.drop 7))) (l.getD 0 0) (if valB ((l.drop 5).take 2) = 65535 then 0 else id) (valB ((l.drop 1).take 4)) (valB ((l.drop 5).take 2)))
theorem valB_snoc (l : List Int) (x : Int) : valB (l ++ [x]) = valB l * 256 + x := by simp [valB]
theorem Byte.take {l : List Int} (h : Byte l) (n : Nat) : Byte (l.take n) := fun x hx => h x (List.mem_of_mem_take hx)
theorem Byte.drop {l : List Int} (h : Byte l) (n : Nat) : Byte (l.drop n) := fun x hx => h x (List.mem_of_mem_drop hx)
theorem Byte.app {l l' : List Int} (h : Byte l) (h' : Byte l') : Byte (l ++ l') := fun x hx => by
  rcases List.mem_append.1 hx with hx | hx
  · exact h x hx
  · exact h' x hx
theorem pow256 (n : Nat) : (1 : Int) ≤ 256 ^ n := by
  induction n with
  | zero => simp
  | succ n ih => rw [Int.pow_succ]; omega
theorem fold_bd : ∀ (l : List Int) (a : Int), Byte l → 0 ≤ a → 0 ≤ l.foldl (fun n c => n * 256 + c) a ∧ l.foldl (fun n c => n * 256 + c) a < (a + 1) * 256 ^ l.length
  | [], a, _, h => by simp; omega
  | x :: l, a, hb, h => by
    have h2 := hb x (by simp)
    have ih := fold_bd l (a * 256 + x) (fun y hy => hb y (by simp [hy])) (by omega)
    refine ⟨ih.1, Int.lt_of_lt_of_le ih.2 ?_⟩
    rw [List.length_cons, Int.pow_succ, Int.mul_comm (256 ^ l.length) 256, ← Int.mul_assoc]
    exact Int.mul_le_mul_of_nonneg_right (by omega) (by have := pow256 l.length; omega)
theorem valB_bd (l : List Int) (h : Byte l) : 0 ≤ valB l ∧ valB l < 256 ^ l.length := by
  have := fold_bd l 0 h (by omega)
  rw [Int.zero_add, Int.one_mul] at this
  exact this
theorem valB_bd4 (l : List Int) (h : Byte l) (hl : l.length ≤ 4) : 0 ≤ valB l ∧ valB l ≤ 4294967295 := by
  have h1 := valB_bd l h
  have h2 : (256 : Int) ^ l.length ≤ 256 ^ 4 := by
    rcases (show l.length = 0 ∨ l.length = 1 ∨ l.length = 2 ∨ l.length = 3 ∨ l.length = 4 by omega) with e | e | e | e | e <;> rw [e] <;> decide
  omega
theorem valB_bd2 (l : List Int) (h : Byte l) (hl : l.length ≤ 2) : 0 ≤ valB l ∧ valB l ≤ 65535 := by
  have h1 := valB_bd l h
  have h2 : (256 : Int) ^ l.length ≤ 256 ^ 2 := by
    rcases (show l.length = 0 ∨ l.length = 1 ∨ l.length = 2 by omega) with e | e | e <;> rw [e] <;> decide
  omega
theorem Byte.pad {l : List Int} (h : Byte l) : Byte (padB l) := (h.app (by intro x hx; simp at hx; omega)).take 4
theorem padB_len (l : List Int) : (padB l).length = 4 := by simp [padB]
end Go.Proofs.Ytgmdjhokcipajaa
end
section
set_option linter.unusedVariables false
set_option linter.unusedSimpArgs false
namespace Go.Proofs.Ytgmdjhokcipajaa
open Go.RowKit
open Go.Proofs.YtgmdjhokcipajaaW.PrintWords (Kd rd)
/-! 'get' of at most four bytes leaves the world just as it is. -/
theorem rd_get (l : List Int) (j : Nat) (h : j < l.length) : rd l (j : Int) = l[j] := by
  simp [rd, h]
theorem take_val (l : List Int) (j : Nat) (h : j < l.length) : valB (l.take (j + 1)) = valB (l.take j) * 256 + rd l (j : Int) := by
  rw [List.take_succ_eq_append_getElem h, valB_snoc, rd_get l j h]
theorem valB_bd3 (l : List Int) (h : Byte l) (hl : l.length ≤ 3) : 0 ≤ valB l ∧ valB l ≤ 16777215 := by
  have h1 := valB_bd l h
  have h2 : (256 : Int) ^ l.length ≤ 256 ^ 3 := by
    rcases (show l.length = 0 ∨ l.length = 1 ∨ l.length = 2 ∨ l.length = 3 by omega) with e | e | e | e <;> rw [e] <;> decide
  omega
theorem tlv_get_x (A : Option Addr) (c : Nat) (l : List Int) (w : World) (hr : Kd.C (Kd.int .u8) w A l.length l) (hc : l.length ≤ c) (hb : Byte l) (h4 : l.length ≤ 4) :
    Calls Try.prog 55 #[.slice A l.length c] w fun e w' => e = .returned (.int .u32 (valB l)) ∧ w' = w := by
  have HB := Lib.hid hb
  have HC := Lib.hid hr
  clear hr hb
  go_enter Try.func55, Try.ntmps55
  go_wp2
  go_loop [3, 8] (fun v i => ∃ j : Nat, j ≤ l.length ∧ i = .int .i64 j ∧ v = .int .u32 (valB (l.take j))) (fun _ i => l.length - (intOf i).toNat)
  case atStart => exact ⟨0, by omega, rfl, rfl⟩
  case round =>
    obtain ⟨j, hj, rfl, rfl⟩ := hrel
    by_cases hlt : j < l.length
    · have E := Lib.hid (take_val l j hlt)
      obtain ⟨x0, x1⟩ := HB.out l[j] (List.getElem_mem hlt)
      rw [← rd_get l j hlt] at x0 x1
      obtain ⟨ad, e, hx⟩ := Kd.at_int HC.out (j : Int) (by omega) (by omega)
      rw [Int.toNat_natCast] at hx
      subst e
      obtain ⟨y0, y1⟩ := valB_bd3 (l.take j) (HB.out.take j) (by simp; omega)
      have O := Lib.hid (or_byte32 (valB (l.take j)) (rd l (j : Int)) y0 (by omega) ⟨x0, x1⟩)
      generalize rd l (j : Int) = x at *
      generalize valB (l.take j) = y at *
      go_wp2
      go_round
      case rel => exact ⟨j + 1, by omega, by go_num, by rw [E.out, O.out]⟩
      case measure => simp [intOf]; omega
    · obtain rfl : j = l.length := by omega
      go_wp2
      go_ret
      exact ⟨rfl, rfl⟩
theorem tlv_size_x (n : Int) (w : World) (h0 : 0 ≤ n) (h1 : n ≤ 255) : Calls Try.prog 62 #[.int .i64 n] w fun e w' => e = .returned (.int .i64 (szB n)) ∧ w = w' := by
  go_enter Try.func62, Try.ntmps62
  go_wp2
  go_ret
  exact ⟨rfl, rfl⟩
theorem szB_bd (n : Int) (h0 : 0 ≤ n) (h1 : n ≤ 32) : 0 ≤ szB n ∧ szB n ≤ 4 := by unfold szB; omega
theorem C_of_blk {w : World} {g : Nat} {t : TypeId} (l : List Int) (h : Blk w g t (u8s l).toArray) (hl : l.length ≤ 9223372036854775807) : Kd.C (Kd.int .u8) w (some ⟨g, 0, none⟩) l.length l := by
  refine ⟨rfl, hl, fun _ => ⟨_, rfl, fun j p hj => ⟨[.int .u8 p], rfl, rfl, fun i u hu => ?_⟩⟩⟩
  have hi : i = 0 := by
    cases i with
    | zero => rfl
    | succ i => simp at hu
  subst hi
  have e : (⟨g, 0, none⟩ : Addr).add (j * (Kd.int .u8).sz + 0) = ⟨g, j, none⟩ := by
    simp [Kd.int, Kd.scalar, Addr.add]
    intro h; omega
  rw [e, h.cell j]
  have hu' : Value.int .u8 p = u := by simpa using hu
  subst hu'
  simp [u8s, hj]
theorem C_cells {w : World} {ad : Addr} {l : List Int} (h : Kd.C (Kd.int .u8) w (some ad) l.length l) (i : Nat) (hi : i < l.length) (h0 : i ≠ 0) (j : Nat) (v : Value) (hv : (u8s (l.drop i))[j]? = some v) :
    w.cell? (({ block := ad.block, off := ad.off + i } : Addr).add j) = some v := by
  obtain ⟨ad', e, hc⟩ := h.2.2 (by omega)
  cases e
  simp only [u8s, List.getElem?_map, List.getElem?_drop, Option.map_eq_some_iff] at hv
  obtain ⟨x, hx, rfl⟩ := hv
  obtain ⟨c, -, hR, hcell⟩ := hc _ _ hx
  have hR' : c = [Value.int .u8 x] := hR
  have := hcell 0 (.int .u8 x) (by rw [hR']; rfl)
  have e2 : (({ block := ad.block, off := ad.off + i } : Addr).add j) = ad.add ((i + j) * (Kd.int .u8).sz + 0) := by
    show _ = ad.add ((i + j) * 1 + 0)
    simp only [Addr.add, Nat.mul_one, Nat.add_zero]
    rw [if_neg (show ¬ i + j = 0 by omega)]
    split
    · rename_i h0j; subst h0j; simp
    · simp [Nat.add_assoc]
  rw [e2]
  exact this
theorem get_pad (g : Nat) (t : TypeId) (l : List Int) (w : World) (h : Blk w g t (u8s (padB l)).toArray) (hb : Byte l) :
    Calls Try.prog 55 #[.slice (some ⟨g, 0, none⟩) 4 4] w fun e w' => e = .returned (.int .u32 (valB (padB l))) ∧ w = w' := by
  have hC := C_of_blk (padB l) h (by rw [padB_len]; omega)
  have := tlv_get_x (some ⟨g, 0, none⟩) 4 (padB l) w hC (by rw [padB_len]; omega) hb.pad (by rw [padB_len]; omega)
  rw [padB_len] at this
  exact this.mono fun e w' ⟨h1, h2⟩ => ⟨h1, h2.symm⟩
theorem pad_splice (l : List Int) (h : l.length ≤ 4) : splice [Value.int .u8 0, .int .u8 0, .int .u8 0, .int .u8 0] 0 (u8s l) = u8s (padB l) := by
  match l, h with
  | [], _ => rfl
  | [_], _ => rfl
  | [_, _], _ => rfl
  | [_, _, _], _ => rfl
  | [_, _, _, _], _ => rfl
theorem C_mid {k : IntKind} {w : World} {ad : Addr} {l : List Int} (c : Nat) (h : Kd.C (Kd.int k) w (some ad) l.length l) (i n : Nat) (h1 : i + n ≤ l.length) (hc : l.length ≤ c) (hi : i < c) : Kd.C (Kd.int k) w (some (ad.add i)) n ((l.drop i).take n) := by
  have h2 := Kd.C_drop (m := i) h (by omega) hc
  rw [if_neg (by omega)] at h2
  have h3 := Kd.C_take (m := n) h2 (by rw [List.length_drop]; omega)
  rw [List.length_take, List.length_drop, Nat.min_eq_left (by omega)] at h3
  simpa [Kd.int, Kd.scalar] using h3
theorem get_mid (c : Nat) (ad : Addr) (l : List Int) (i n : Nat) (h1 : i + n ≤ l.length) (hc : l.length ≤ c) (hi : i < c) (hn : n ≤ 4) (hb : Byte l) (W : World) (h : Kd.C (Kd.int .u8) W (some ad) l.length l) :
    Calls Try.prog 55 #[.slice (some (ad.add i)) n (c - i)] W fun e w' => e = .returned (.int .u32 (valB ((l.drop i).take n))) ∧ w' = W := by
  have hl : ((l.drop i).take n).length = n := by rw [List.length_take, List.length_drop, Nat.min_eq_left (by omega)]
  have := tlv_get_x (some (ad.add i)) (c - i) ((l.drop i).take n) W (by rw [hl]; exact C_mid c h i n h1 hc hi) (by rw [hl]; omega) ((hb.drop i).take n) (by rw [hl]; exact hn)
  rw [hl] at this
  exact this
end Go.Proofs.Ytgmdjhokcipajaa
end
section
set_option linter.unusedVariables false
set_option linter.unusedSimpArgs false
namespace Go.Proofs.Ytgmdjhokcipajaa
open Go.RowKit
/-! Appending bytes to a slice that the call has made itself. -/
theorem info_u8 : (Try.prog.info? 5).map (fun i => (i.zero, i.size, i.bytes)) = some (some (.int .u8 0), 1, 1) := by kernel_rfl
/-- An append whose run is known. -/
theorem wpList_app {P : Program} {ops : Array Oper} {rest : List Oper} {o : Oper} {a : Act} {Q : Exit → Act → World → Prop} {w : World} (hgd : o.guard = none) (s x : Operand) (t u : TypeId)
    (ho : o.op = .call { callee := .builtin .append, args := #[s, x], argTypes := #[t, u] }) {v x' v' : Value} {w' : World} (hs : a.eval s = v) (hx : a.eval x = x') (hr : (Builtin.append_ #[t, u] o.type #[v, x']).run P w = .ok v' w')
    (h : wpList P ops Q rest (a.put o.dst v') w') : wpList P ops Q (o :: rest) a w := by
  refine wpList_plain hgd fun K hK => ?_
  unfold Oper.wp execOp
  simp only [ho, resolve, invoke, builtin, Sem.run_bind, Sem.run_pure, Result.andThen_ok, List.map_toArray, List.map_cons, List.map_nil, hs, hx, hr]
  exact hK _ _ h
/-- A slice of bytes that lies in memory of its own, from block 'base' on. -/
def Own8 (w : World) (base : Nat) (v : Value) (l : List Int) : Prop := w.ownsRow base 5 1 v l.length (u8s l)
theorem Own8.new (w : World) (base : Nat) (l : List Int) (hb : base ≤ w.heap.size) (hl : l.length ≤ 140737488351232) : Own8 (w.alloc (.cells (u8s l).toArray 5)) base (.slice (some ⟨w.heap.size, 0, none⟩) l.length l.length) l :=
  ⟨by simp [u8s], .inr ⟨w.heap.size, l.length, (u8s l).toArray, rfl, hb, heap_new _ _, Nat.le_refl _, by unfold maxLen; omega, by simp [u8s], by simp [u8s, List.take_of_length_le]⟩⟩
theorem Own8.drew {w : World} {base : Nat} {v : Value} {l : List Int} (h : Own8 w base v l) : Own8 w.drew base v l := h
theorem Own8.below {w w' : World} {base : Nat} {v : Value} {l : List Int} (h : Own8 w base v l) (hb : Below w.heap.size w w') : Own8 w' base v l :=
  World.ownsRow.kept h (row := none) ⟨hb.os, hb.tape, hb.output, hb.size, fun k hk _ => hb.block k hk⟩ (by cases hv : v.ownBlock <;> simp)
theorem Own8.row {w : World} {base : Nat} {v : Value} {l : List Int} (h : Own8 w base v l) (hl : l.length ≤ 140737488351232) : ∃ A c, v = .slice A l.length c ∧ Row w 1 A l.length (u8s l) := by
  obtain ⟨h1, h2⟩ := h
  rcases h2 with ⟨rfl, h0⟩ | ⟨g, cap, cur, rfl, hb, hg, hc, hm, hs, ht⟩
  · exact ⟨none, 0, by rw [h0], by simp [u8s], hl, fun hp => by omega⟩
  · refine ⟨_, _, rfl, by simp [u8s], hl, fun _ => ⟨g, 0, rfl, lt_of_heap hg, fun j u hj => ?_⟩⟩
    simp only [World.cell?, hg, Nat.zero_add]
    rw [← ht, List.getElem?_take] at hj
    split at hj
    · simpa using hj
    · cases hj
theorem Own8.apart {w : World} {base g : Nat} {v : Value} {l : List Int} {t : TypeId} {cs : Array Value} (h : Own8 w base v l) (ht : t ≠ 5) (hg : Blk w g t cs) : v.ownBlock ≠ some g := by
  rcases h.2 with ⟨rfl, -⟩ | ⟨g', cap, cur, rfl, -, hh, -⟩
  · simp [Value.ownBlock]
  · intro e
    simp [Value.ownBlock] at e
    subst e
    unfold Blk at hg
    rw [hg] at hh
    simp at hh
    exact ht hh.2
theorem app8 (base : Nat) (v : Value) (l l' : List Int) (w : World) (hown : Own8 w base v l) (a : Addr) (m c : Nat) (hm : l'.length = m) (hnews : ∀ j u, (u8s l')[j]? = some u → w.cell? (a.add j) = some u)
    (hn : l.length + m ≤ 140737488351232) (hbase : base ≤ w.heap.size) :
    ∃ v' w', (Builtin.append_ #[22, 22] 22 #[v, .slice (some a) m c]).run Try.prog w = .ok v' w' ∧ Own8 w' base v' (l ++ l') ∧ Below base w w' ∧ (∀ g t cs, t ≠ 5 → Blk w g t cs → Blk w' g t cs) := by
  obtain ⟨i0, hi, hz0, hz1, hz2⟩ := info_parts info_u8
  obtain ⟨v', w', h1, h2, h3, -⟩ := run_append_own w base 22 22 5 i0 (.int .u8 0) 1 1 Try.underlying22 hi hz0 hz1 hz2 rfl (by decide) v l.length (u8s l) hown a m c (u8s l') (by simp [u8s, hm]) hnews
    (by intro u hu; simp [u8s] at hu; obtain ⟨x, -, rfl⟩ := hu; rfl) (by unfold maxLen; omega) (by omega) hbase
  refine ⟨v', w', h1, ?_, ⟨h3.os, h3.tape, h3.output, h3.size, fun k hk => h3.block k (by omega) fun e => ?_⟩, fun g t cs ht hg => (h3.block g hg.lt fun e => ?_).trans hg⟩
  · unfold Own8
    rw [List.length_append, hm, show u8s (l ++ l') = u8s l ++ u8s l' by simp [u8s]]
    exact h2
  · have := (World.ownsRow.lt hown) k e.symm
    omega
  · exact Own8.apart hown ht hg e.symm
end Go.Proofs.Ytgmdjhokcipajaa
end
section
set_option linter.unusedVariables false
set_option linter.unusedSimpArgs false
namespace Go.Proofs.Ytgmdjhokcipajaa
open Go.RowKit
open Go.Proofs.YtgmdjhokcipajaaW.PrintWords (Kd Reps ReadsRow below_step blk_lt add_plain)
/-! Rows of bytes: the kit's word and ours; a row stored into a row of rows. -/
theorem reps_u8 (l : List Int) : Reps (fun (p : Int) c => c = [Value.int .u8 p]) 1 l (u8s l) := by
  refine ⟨by simp [u8s], fun j p hj => ?_⟩
  simp [u8s, List.take_one, hj]
theorem u8_of_reps (l : List Int) (cs : List Value) (h : Reps (fun (p : Int) c => c = [Value.int .u8 p]) 1 l cs) : cs = u8s l := by
  refine List.ext_getElem? fun j => ?_
  rcases Nat.lt_or_ge j l.length with hj | hj
  · have h2 := h.2 j _ (List.getElem?_eq_getElem hj)
    have h3 : ((cs.drop (j * 1)).take 1)[0]? = some (Value.int .u8 l[j]) := by rw [h2]; rfl
    simp [List.getElem?_take] at h3
    rw [h3]
    simp [u8s, hj]
  · rw [List.getElem?_eq_none (by rw [h.1]; omega), List.getElem?_eq_none (by simp [u8s]; omega)]
theorem R_own8 {w : World} {base : Nat} {ok : Nat → Prop} {v : Value} {l : List Int} (h : Kd.R (Kd.int .u8) 5 w base ok v l) : Own8 w base v l := by
  obtain ⟨-, inner, h1, h2⟩ := h
  have := u8_of_reps l inner h2
  subst this
  exact h1
theorem own8_R {w : World} {base : Nat} {ok : Nat → Prop} {v : Value} {l : List Int} (h : Own8 w base v l) (hok : ∀ k, base ≤ k → ok k) : Kd.R (Kd.int .u8) 5 w base ok v l := by
  refine ⟨fun k hk => hok k ?_, u8s l, h, reps_u8 l⟩
  rcases h.2 with ⟨rfl, -⟩ | ⟨g, cap, cur, rfl, hb, -⟩
  · simp [Value.ownBlock] at hk
  · have : g = k := by simpa [Value.ownBlock] using hk
    omega
theorem C_row {α : Type} {d : Kd α} {e : Nat} {w : World} {ad : Addr} {n : Nat} {xs : List (List α)} (h : Kd.C (Kd.slice e d) w (some ad) n xs) (i : Nat) (hi : i < n) :
    ∃ A c, w.cell? (ad.add i) = some (.slice A (xs.getD i []).length c) ∧ (xs.getD i []).length ≤ c ∧ d.C w A (xs.getD i []).length (xs.getD i []) := by
  obtain ⟨ad', cs, e1, h1, h2, h3⟩ := ReadsRow.get_ h [] (i : Int) (by omega) (by omega)
  cases e1
  obtain ⟨A, c, rfl, hl, hC⟩ := h2
  refine ⟨A, c, ?_, hl, hC⟩
  have := h3 0 _ rfl
  simpa [Kd.slice] using this
theorem S_store_row {W0 W : World} {base g n cap e e2 : Nat} {X : List (List Int)} (h : Kd.S (Kd.slice e (Kd.int .u8)) e2 W0 base (fun _ => True) (.slice (some ⟨g, 0, none⟩) n cap) X) (hb : Below W0.heap.size W0 W)
    (v : Value) (ys : List Int) (hy : Kd.R (Kd.int .u8) e W base (fun k => W0.heap.size ≤ k) v ys) (i : Nat) (hi : i < n) :
    Kd.S (Kd.slice e (Kd.int .u8)) e2 (W.setCell ⟨g, i, none⟩ v) base (fun _ => True) (.slice (some ⟨g, 0, none⟩) n cap) (X.set i ys) := by
  have hg : g < W0.heap.size := Kd.S_lt h g (by simp [Value.ownBlock])
  have h1 := Kd.S_old h hb
  obtain ⟨oki, c, hcl, hM, hcc, hfr, hoki, hH⟩ := Kd.S_elem h1 [] (i : Int) (by omega) (by omega)
  have hH' := Kd.H_mono (ok' := fun k => True ∧ ¬ W0.heap.size ≤ k) hH (fun k hk => ⟨trivial, by omega⟩)
  have hc1 : c.length = 1 := hcl
  have := Kd.S_seg (ok := fun _ => True) (okg := fun k => W0.heap.size ≤ k) (okp := fun k => W0.heap.size ≤ k) (seg := [v]) (j := 0) (x' := ys) hH' (by omega) (by omega) (by show 0 + 1 ≤ 1; omega)
    (by
      have : c.drop (0 + [v].length) = [] := List.drop_eq_nil_of_le (by rw [hc1]; simp)
      rw [this]
      exact Kd.M_row hy) (fun k hk => Or.inr hk) (fun k hk => ⟨trivial, by omega⟩)
  have h2 := this.1
  rw [Int.toNat_natCast] at h2
  have e1 : i * (Kd.slice e (Kd.int .u8)).sz + 0 = i := by show i * 1 + 0 = i; omega
  rw [e1] at h2
  exact h2
theorem V_of_C {k : IntKind} {W : World} {A : Option Addr} {xs : List Int} (h : Kd.C (Kd.int k) W A xs.length xs) (e base c : Nat) (hc : xs.length ≤ c) : Kd.V (Kd.int k) e W base (fun _ => True) (.slice A xs.length c) xs := by
  refine ⟨A, c, rfl, hc, fun W' hW => ⟨h.1, h.2.1, fun hn => ?_⟩⟩
  obtain ⟨ad, e1, h1⟩ := h.2.2 hn
  refine ⟨ad, e1, fun j p hj => ?_⟩
  obtain ⟨cs, h2, h3, h4⟩ := h1 j p hj
  exact ⟨cs, h2, h3, fun i u hu => (World.cell?_of_block (hW _ trivial (World.block_lt_of_cell? _ _ (h4 i u hu)))).trans (h4 i u hu)⟩
/-- A row of bytes as a string. -/
theorem conv_C {W : World} {g : Nat} {l : List Int} (h : Kd.C (Kd.int .u8) W (some ⟨g, 0, none⟩) l.length l) (cap : Nat) :
    (convert 22 9 (.slice (some ⟨g, 0, none⟩) l.length cap)).run Try.prog W = .ok (.string (strOfNums l)) W := by
  refine run_convert_bytes_arg W 22 5 Try.underlying22 Try.underlying5 g 0 l.length cap l rfl (fun i hi => ?_) 9 Try.underlying9
  obtain ⟨ad, e, hx⟩ := Kd.at_int h (i : Int) (by omega) (by omega)
  cases e
  rw [Int.toNat_natCast] at hx
  have e1 : (⟨g, 0, none⟩ : Addr).add i = ⟨g, 0 + i, none⟩ := by
    rw [add_plain, Nat.zero_add]
  rw [e1] at hx
  rw [hx]
  simp [Go.Proofs.YtgmdjhokcipajaaW.PrintWords.rd]
end Go.Proofs.Ytgmdjhokcipajaa
end
section
set_option linter.unusedVariables false
namespace Go.Proofs.Ytgmdjhokcipajaa
open Go.RowKit
/-- A block of bytes is a row of its own. -/
theorem own8_of_bts {w : World} {g base : Nat} {l : List Int} (h : Bts w g 5 l) (hg : base ≤ g) (hl : l.length ≤ 140737488351232) : Own8 w base (.slice (some ⟨g, 0, none⟩) l.length l.length) l :=
  ⟨by simp [u8s], .inr ⟨g, l.length, (u8s l).toArray, rfl, hg, h, Nat.le_refl _, by unfold maxLen; omega, by simp [u8s], by simp [u8s, List.take_of_length_le]⟩⟩
end Go.Proofs.Ytgmdjhokcipajaa
end
section
set_option linter.unusedVariables false
set_option linter.unusedSimpArgs false
namespace Go.Proofs.Ytgmdjhokcipajaa
open Go.RowKit
/-! Strings and their bytes. -/
theorem loop_eq (b : ByteArray) : ∀ (n i : Nat) (r : List UInt8), i + n = b.size → ByteArray.toList.loop b i r = r.reverse ++ b.data.toList.drop i
  | 0, i, r, h => by
    unfold ByteArray.toList.loop
    have hs : b.data.toList.length = b.size := by rw [Array.length_toList]; rfl
    rw [if_neg (by omega), List.drop_eq_nil_of_le (by omega), List.append_nil]
  | n + 1, i, r, h => by
    unfold ByteArray.toList.loop
    have hs : b.data.toList.length = b.size := by rw [Array.length_toList]; rfl
    have hi : i < b.data.toList.length := by omega
    have hi' : i < b.data.size := by rw [← Array.length_toList]; exact hi
    rw [if_pos (by omega), loop_eq b n (i + 1) _ (by omega), List.drop_eq_getElem_cons hi]
    have : b.get! i = b.data.toList[i] := by
      show b.data.getD i default = _
      simp [hi']
      rw [getElem?_pos b.data i hi']
      rfl
    rw [this]
    simp
theorem toList_eq (b : ByteArray) : b.toList = b.data.toList := by
  have := loop_eq b b.size 0 [] (by omega)
  simpa [ByteArray.toList] using this
theorem str_data (l : List Int) (h : Byte l) : (strOfNums l).data.toList.map (fun b => (b.toNat : Int)) = l := by
  rw [strOfNums_data, List.map_map]
  refine (List.map_congr_left (g := id) fun x hx => ?_).trans (List.map_id _)
  have := h x hx
  simp only [Function.comp, UInt8.toNat_ofNat', id]
  omega
theorem str_inj (l l' : List Int) (h : Byte l) (h' : Byte l') : (strOfNums l).toList = (strOfNums l').toList ↔ l = l' := by
  refine ⟨fun e => ?_, fun e => by rw [e]⟩
  rw [toList_eq, toList_eq] at e
  rw [← str_data l h, ← str_data l' h', e]
end Go.Proofs.Ytgmdjhokcipajaa
end
section
set_option linter.unusedVariables false
set_option linter.unusedSimpArgs false
namespace Go.Proofs.Ytgmdjhokcipajaa
open Go.RowKit Go.ChangeShapes Go.WideShapes Go.Deep

/-- What is known of the cells of a value that came in and could be read: their kinds, and that all sizes are within the reach. -/
def Op (P : Program) (W : World) : Nat → TypeId → List Value → Prop
  | 0, _, _ => False
  | n + 1, t, cs =>
    match P.underlying t with
    | some .bool => ∃ b, cs = [.bool b]
    | some (.int k) => ∃ x, cs = [.int k x] ∧ (Lit.int k x).wf = true
    | some .string => ∃ s : ByteArray, cs = [.string s] ∧ s.size ≤ 140737488351232
    | some (.slice e) => cs = [.slice none 0 0] ∨ ∃ (a : Addr) (len cap : Nat), cs = [.slice (some a) len cap] ∧ len ≤ cap ∧ len * P.bytesOf e ≤ 140737488351232 ∧
        ∀ i, i < len → ∃ cs', W.cells? 0 (a.add (i * P.cellsOf e)) (P.cellsOf e) = some cs' ∧ Op P W n e cs'
    | some (.struct fs) => cs.length = P.cellsOf t ∧ ∀ (i : Nat) (f : Field), fs[i]? = some f → Op P W n f.type ((cs.drop f.offset).take (P.cellsOf f.type))
    | some (.array k e) => cs.length = P.cellsOf t ∧ ∀ i, i < k → Op P W n e ((cs.drop (i * P.cellsOf e)).take (P.cellsOf e))
    | _ => True

section
variable {H : Type} {enc : TypeId × Value → H} {P : Program} {W : World}
theorem weightsAll_mem {e : TypeId} : ∀ {l : List (DataW H)} {i : Nat} {d : DataW H}, l[i]? = some d → ∀ n ∈ d.weights P e, n ∈ DataW.weightsAll P e l
  | d0 :: l, 0, d, h, n, hn => by
    simp only [List.getElem?_cons_zero, Option.some.injEq] at h
    subst h
    simp only [DataW.weightsAll, List.mem_append]
    exact .inl hn
  | d0 :: l, i + 1, d, h, n, hn => by
    simp only [List.getElem?_cons_succ] at h
    simp only [DataW.weightsAll, List.mem_append]
    exact .inr (weightsAll_mem h n hn)
  | [], _, _, h, _, _ => by simp at h

theorem Op.of_trod {spare : Nat → Bool} {held : Bool} : ∀ (n : Nat) (t : TypeId) (cs : List Value) (d : DataW H) (ps : List MemPlace), DataW.trod enc P W 0 spare held n t cs = some (d, ps) →
    (∀ m ∈ d.weights P t, m ≤ 140737488351232) → Op P W n t cs := by
  intro n
  induction n with
  | zero => intro t cs d ps h; simp [DataW.trod] at h
  | succ n ih =>
    intro t cs d ps h hw
    unfold Op
    cases hu : P.underlying t with
    | none => trivial
    | some u =>
      cases u with
      | bool =>
        obtain ⟨b, rfl, _⟩ := DataW.trod_bool hu h
        exact ⟨b, rfl⟩
      | int k =>
        obtain ⟨x, rfl, _, hx⟩ := DataW.trod_int hu h
        exact ⟨x, rfl, hx⟩
      | string =>
        obtain ⟨s, rfl, hx, hs⟩ := DataW.trod_string hu h
        obtain ⟨rfl, -⟩ := Prod.mk.inj hx
        refine ⟨s, rfl, ?_⟩
        have := hw s.data.toList.length (by simp [DataW.weights])
        simpa using this
      | slice e =>
        rcases DataW.trod_slice hu h with ⟨rfl, _⟩ | ⟨a, len, cap, elems, rest, m, hn, rfl, hx, hb, hl, hm, hlen, hel, _⟩
        · exact .inl rfl
        · obtain rfl : m = n := by omega
          obtain ⟨rfl, -⟩ := Prod.mk.inj hx
          simp only [DataW.weights, hu, List.mem_cons, List.mem_append] at hw
          refine .inr ⟨a, len, cap, rfl, hl, ?_, fun i hi => ?_⟩
          · have h1 := hw _ (.inl rfl)
            simp only [List.length_map] at h1
            exact Nat.le_trans (Nat.mul_le_mul_right _ (by omega)) h1
          · have h1 := hel i hi
            rw [List.getElem?_eq_getElem (by omega)] at h1
            obtain ⟨cs', h2, h3⟩ := Option.bind_eq_some_iff.mp h1
            refine ⟨cs', h2, ih e cs' _ _ h3 fun m hm => hw m (.inr (.inl ?_))⟩
            exact weightsAll_mem (i := i) (by simp [List.getElem?_eq_getElem (show i < elems.length by omega)]) m hm
      | struct fs =>
        obtain ⟨xs, m, hn, hx, hl, hxl, hg⟩ := DataW.trod_struct hu h
        obtain rfl : m = n := by omega
        obtain ⟨rfl, -⟩ := Prod.mk.inj hx
        simp only [DataW.weights, hu] at hw
        refine ⟨hl, fun i f hf => ?_⟩
        have h1 := hg i f hf
        have hi : i < fs.size := (Array.getElem?_eq_some_iff.1 hf).1
        rw [List.getElem?_eq_getElem (by omega)] at h1
        refine ih f.type _ _ _ h1 fun m hm => hw m (DataW.weights_mem_each (j := i) (t := f.type) (d := (xs[i]'(by omega)).1) ?_ ?_ m hm)
        · simp [hf]
        · simp [List.getElem?_eq_getElem (show i < xs.length by omega)]
      | array k e =>
        obtain ⟨xs, m, hn, hx, hl, hxl, hg⟩ := DataW.trod_array hu h
        obtain rfl : m = n := by omega
        obtain ⟨rfl, -⟩ := Prod.mk.inj hx
        simp only [DataW.weights, hu] at hw
        refine ⟨hl, fun i hi => ?_⟩
        have h1 := hg i hi
        rw [List.getElem?_eq_getElem (by omega)] at h1
        exact ih e _ _ _ h1 fun m hm => hw m (weightsAll_mem (i := i) (by simp [List.getElem?_eq_getElem (show i < xs.length by omega)]) m hm)
      | _ => trivial

/-- The form in which a row hands it on. -/
def Opens (P : Program) (W : World) (t : TypeId) (v : Value) : Prop := ∃ n, Op P W n t v.cells.toList
theorem Opens.of_trod {spare : Nat → Bool} {held : Bool} {t : TypeId} {v : Value} {d : DataW H} {ps : List MemPlace} {ts : List TypeId} {ds : List (DataW H)} {j : Nat}
    (h : DataW.Trod enc P W 0 spare held t v d ps) (hsz : (DataW.weightsEach P ts ds).all (· ≤ reachBytes) = true) (ht : ts[j]? = some t) (hd : ds[j]? = some d) : Opens P W t v := by
  obtain ⟨n, h⟩ := h
  refine ⟨n, Op.of_trod n t _ d ps h fun m hm => ?_⟩
  have := List.all_eq_true.1 hsz m (DataW.weights_mem_each ht hd m hm)
  exact of_decide_eq_true this
end
/-- A choice for each place of a list. -/
theorem exists_list {α : Type} {p : Nat → α → Prop} : ∀ {n : Nat}, (∀ i, i < n → ∃ a, p i a) → ∃ l : List α, l.length = n ∧ ∀ i (h : i < l.length), p i l[i]
  | 0, _ => ⟨[], rfl, fun i h => by simp at h⟩
  | n + 1, h => by
    obtain ⟨l, hl, hp⟩ := exists_list (n := n) fun i hi => h i (by omega)
    obtain ⟨a, ha⟩ := h n (by omega)
    refine ⟨l ++ [a], by simp [hl], fun i hi => ?_⟩
    rw [List.getElem_append]
    split
    · exact hp i _
    · rename_i h1
      have : i = n := by simp at hi; omega
      subst this
      simpa [hl] using ha
end Go.Proofs.Ytgmdjhokcipajaa
end
section
set_option linter.unusedVariables false
set_option linter.unusedSimpArgs false
namespace Go.Proofs.Ytgmdjhokcipajaa
open Go.RowKit Go.ChangeShapes Go.WideShapes

theorem Op.int {P : Program} {W : World} {n : Nat} {t : TypeId} {k : IntKind} {cs : List Value} (hu : P.underlying t = some (.int k)) (h : Op P W n t cs) : ∃ x, cs = [.int k x] ∧ (Lit.int k x).wf = true := by
  cases n with
  | zero => exact h.elim
  | succ n => unfold Op at h; rw [hu] at h; exact h
theorem Op.bool {P : Program} {W : World} {n : Nat} {t : TypeId} {cs : List Value} (hu : P.underlying t = some .bool) (h : Op P W n t cs) : ∃ b, cs = [.bool b] := by
  cases n with
  | zero => exact h.elim
  | succ n => unfold Op at h; rw [hu] at h; exact h
theorem Op.struct {P : Program} {W : World} {n : Nat} {t : TypeId} {fs : Array Field} {cs : List Value} (hu : P.underlying t = some (.struct fs)) (h : Op P W n t cs) :
    cs.length = P.cellsOf t ∧ ∃ m, ∀ (i : Nat) (f : Field), fs[i]? = some f → Op P W m f.type ((cs.drop f.offset).take (P.cellsOf f.type)) := by
  cases n with
  | zero => exact h.elim
  | succ n => unfold Op at h; rw [hu] at h; exact ⟨h.1, n, h.2⟩

/-- A slice of plain cells: what each element is. -/
theorem Opens.slice {P : Program} {W : World} {t e : TypeId} {A : Option Addr} {n c : Nat} {B : Nat} (hu : P.underlying t = some (.slice e)) (hB : P.bytesOf e = B) (h : Opens P W t (.slice A n c)) :
    n * B ≤ 140737488351232 ∧ (0 < n → ∃ a, A = some a ∧ ∀ i, i < n → ∃ m cs', W.cells? 0 (a.add (i * P.cellsOf e)) (P.cellsOf e) = some cs' ∧ Op P W m e cs') := by
  obtain ⟨f, h⟩ := h
  cases f with
  | zero => exact h.elim
  | succ f =>
    unfold Op at h
    rw [hu] at h
    simp only [Value.cells] at h
    rcases h with h | ⟨a, len, cap, h, hlc, hlen, hel⟩
    · simp at h
      obtain ⟨rfl, rfl, rfl⟩ := h
      exact ⟨by simp, fun h => absurd h (by simp)⟩
    · simp at h
      obtain ⟨rfl, rfl, rfl⟩ := h
      rw [hB] at hlen
      refine ⟨hlen, fun _ => ⟨a, rfl, fun i hi => ?_⟩⟩
      obtain ⟨cs', h1, h2⟩ := hel i hi
      exact ⟨f, cs', h1, h2⟩
/-- A slice whose elements have one cell each, read as a row: 'p' tells what an element is, 'g' its cell. -/
theorem Opens.row1 {P : Program} {W : World} {t e : TypeId} {A : Option Addr} {n c : Nat} {B : Nat} {α : Type} (g : α → Value) (p : α → Prop) (hu : P.underlying t = some (.slice e)) (hB : P.bytesOf e = B) (hB1 : 1 ≤ B) (hC : P.cellsOf e = 1)
    (hp : ∀ m cs', Op P W m e cs' → ∃ x, cs' = [g x] ∧ p x) (h : Opens P W t (.slice A n c)) :
    ∃ l : List α, l.length = n ∧ (∀ x ∈ l, p x) ∧ Row W 1 A n (l.map g) ∧ n * B ≤ 140737488351232 := by
  obtain ⟨hn, hel⟩ := Opens.slice hu hB h
  have hn' : n ≤ 140737488351232 := Nat.le_trans (by exact Nat.le_mul_of_pos_right n hB1) hn
  rcases Nat.eq_zero_or_pos n with rfl | h0
  · exact ⟨[], rfl, fun x hx => by simp at hx, ⟨rfl, by decide, fun h => absurd h (by simp)⟩, hn⟩
  · obtain ⟨a, rfl, hcs⟩ := hel h0
    have key : ∀ i, i < n → ∃ x : α, W.cell? (a.add i) = some (g x) ∧ p x := by
      intro i hi
      obtain ⟨m, cs', h1, h2⟩ := hcs i hi
      rw [hC] at h1
      obtain ⟨x, rfl, hx⟩ := hp m cs' h2
      obtain ⟨_, hcl, hat⟩ := World.cells?_some h1
      have := hat 0 (by omega)
      exact ⟨x, by simpa [Nat.mul_one, Addr.add] using this, hx⟩
    obtain ⟨l, hl, hq⟩ := exists_list key
    subst hl
    refine ⟨l, rfl, fun x hx => ?_, ⟨by simp, hn', fun _ => ?_⟩, hn⟩
    · obtain ⟨i, hi, rfl⟩ := List.mem_iff_getElem.mp hx
      exact (hq i hi).2
    · obtain ⟨c0, -⟩ := hq 0 h0
      have hs : a.spot = none := by
        cases hs : a.spot with
        | none => rfl
        | some s => simp [World.cell?, Addr.add, hs] at c0; split at c0 <;> simp at c0
      obtain ⟨b, off, sp⟩ := a
      simp only at hs
      subst hs
      refine ⟨b, off, rfl, World.block_lt_of_cell? W _ c0, fun j u hj => ?_⟩
      have hjl : j < l.length := by
        rcases Nat.lt_or_ge j l.length with h | h
        · exact h
        · rw [List.getElem?_eq_none (by simpa using h)] at hj; cases hj
      rw [List.getElem?_map, List.getElem?_eq_getElem hjl] at hj
      obtain rfl := Option.some.inj hj
      obtain ⟨c1, -⟩ := hq j hjl
      rw [← c1]
      congr 1
      unfold Addr.add
      split <;> simp_all
/-- A slice whose elements have 'm' cells each, read as a row: 'p' tells what an element is, 'g' its cells. -/
theorem Opens.rowm {P : Program} {W : World} {t e : TypeId} {A : Option Addr} {n c : Nat} {B M : Nat} {α : Type} (g : α → List Value) (p : α → Prop) (hg : ∀ x, (g x).length = M) (hM : 1 ≤ M) (hu : P.underlying t = some (.slice e)) (hB : P.bytesOf e = B) (hB1 : 1 ≤ B) (hC : P.cellsOf e = M)
    (hp : ∀ m cs', Op P W m e cs' → ∃ x, cs' = g x ∧ p x) (h : Opens P W t (.slice A n c)) :
    ∃ l : List α, l.length = n ∧ (∀ x ∈ l, p x) ∧ Row W M A n (l.flatMap g) ∧ n * B ≤ 140737488351232 := by
  obtain ⟨hn, hel⟩ := Opens.slice hu hB h
  have hn' : n ≤ 140737488351232 := Nat.le_trans (by exact Nat.le_mul_of_pos_right n hB1) hn
  rcases Nat.eq_zero_or_pos n with rfl | h0
  · exact ⟨[], rfl, fun x hx => by simp at hx, ⟨by simp, by decide, fun h => absurd h (by simp)⟩, hn⟩
  · obtain ⟨a, rfl, hcs⟩ := hel h0
    have key : ∀ i, i < n → ∃ x : α, (∀ j, j < M → W.cell? (a.add (i * M + j)) = (g x)[j]?) ∧ p x := by
      intro i hi
      obtain ⟨m, cs', h1, h2⟩ := hcs i hi
      rw [hC] at h1
      obtain ⟨x, rfl, hx⟩ := hp m cs' h2
      obtain ⟨_, hcl, hat⟩ := World.cells?_some h1
      refine ⟨x, fun j hj => ?_, hx⟩
      rw [← hat j hj, Deep.add_add]
    obtain ⟨l, hl, hq⟩ := exists_list key
    subst hl
    have hcell : ∀ j, j < l.length * M → W.cell? (a.add j) = (l.flatMap g)[j]? := by
      intro j hj
      have hM0 : 0 < M := hM
      have hi : j / M < l.length := Nat.div_lt_of_lt_mul (by rw [Nat.mul_comm]; exact hj)
      have hr : j % M < M := Nat.mod_lt _ hM0
      have e : j = j / M * M + j % M := by rw [Nat.mul_comm]; exact (Nat.div_add_mod j M).symm
      have h1 := (hq (j / M) hi).1 (j % M) hr
      rw [← flat_get g M hg l (j / M) (j % M) hi hr, ← e] at h1
      exact h1
    refine ⟨l, rfl, fun x hx => ?_, ⟨flat_len g M hg l, hn', fun _ => ?_⟩, hn⟩
    · obtain ⟨i, hi, rfl⟩ := List.mem_iff_getElem.mp hx
      exact (hq i hi).2
    · have hlt0 : 0 < (l.flatMap g).length := by rw [flat_len g M hg l]; exact Nat.mul_pos h0 hM
      have c0 := hcell 0 (Nat.mul_pos h0 hM)
      rw [List.getElem?_eq_getElem hlt0] at c0
      have hs : a.spot = none := by
        cases hs : a.spot with
        | none => rfl
        | some s => simp [World.cell?, Addr.add, hs] at c0; split at c0 <;> simp at c0
      obtain ⟨b, off, sp⟩ := a
      simp only at hs
      subst hs
      refine ⟨b, off, rfl, World.block_lt_of_cell? W _ c0, fun j u hj => ?_⟩
      have hjl : j < l.length * M := by
        rcases Nat.lt_or_ge j (l.length * M) with h | h
        · exact h
        · rw [List.getElem?_eq_none (by rw [flat_len g M hg l]; exact h)] at hj; cases hj
      rw [← hj, ← hcell j hjl]
      congr 1
      unfold Addr.add
      split <;> simp_all
end Go.Proofs.Ytgmdjhokcipajaa
end
section
set_option maxRecDepth 100000
set_option linter.unusedVariables false
set_option linter.unusedSimpArgs false
namespace Go.Proofs.Ytgmdjhokcipajaa
open Go.RowKit Go.ChangeShapes Go.WideShapes

theorem Op.prefix_ {W : World} {n : Nat} {cs : List Value} (h : Op Try.prog W n 29 cs) : ∃ a l, cs = [.int .u32 a, .int .i64 l] ∧ (0 ≤ a ∧ a ≤ 4294967295) ∧ -9223372036854775808 ≤ l ∧ l ≤ 9223372036854775807 := by
  obtain ⟨hl, m, hf⟩ := Op.struct Try.underlying29 h
  rw [show Try.prog.cellsOf 29 = 2 by kernel_rfl] at hl
  match cs, hl with
  | [a, b], _ =>
    have h0 : Op Try.prog W m 24 (([a, b].drop 0).take (Try.prog.cellsOf 24)) := hf 0 _ rfl
    have h1 : Op Try.prog W m 3 (([a, b].drop 1).take (Try.prog.cellsOf 3)) := hf 1 _ rfl
    rw [show Try.prog.cellsOf 24 = 1 by kernel_rfl] at h0
    rw [show Try.prog.cellsOf 3 = 1 by kernel_rfl] at h1
    obtain ⟨x, hx, wx⟩ := Op.int Try.underlying24 h0
    obtain ⟨y, hy, wy⟩ := Op.int Try.underlying3 h1
    simp at hx hy
    subst hx; subst hy
    exact ⟨x, y, rfl, bounds_u32 wx, bounds_i64 wy⟩
end Go.Proofs.Ytgmdjhokcipajaa
end
section
set_option maxRecDepth 100000
set_option linter.unusedVariables false
set_option linter.unusedSimpArgs false
namespace Go.Proofs.Ytgmdjhokcipajaa
open Go.RowKit Go.ChangeShapes Go.WideShapes

theorem Op.dist {W : World} {n : Nat} {cs : List Value} (h : Op Try.prog W n 39 cs) : ∃ s m, cs = [.int .u32 s, .int .u16 m] ∧ (0 ≤ s ∧ s ≤ 4294967295) ∧ 0 ≤ m ∧ m ≤ 65535 := by
  obtain ⟨hl, m, hf⟩ := Op.struct Try.underlying39 h
  rw [show Try.prog.cellsOf 39 = 2 by kernel_rfl] at hl
  match cs, hl with
  | [a, b], _ =>
    have h0 : Op Try.prog W m 24 (([a, b].drop 0).take (Try.prog.cellsOf 24)) := hf 0 _ rfl
    have h1 : Op Try.prog W m 37 (([a, b].drop 1).take (Try.prog.cellsOf 37)) := hf 1 _ rfl
    rw [show Try.prog.cellsOf 24 = 1 by kernel_rfl] at h0
    rw [show Try.prog.cellsOf 37 = 1 by kernel_rfl] at h1
    obtain ⟨x, hx, wx⟩ := Op.int Try.underlying24 h0
    obtain ⟨y, hy, wy⟩ := Op.int Try.underlying37 h1
    simp at hx hy
    subst hx; subst hy
    exact ⟨x, y, rfl, bounds_u32 wx, bounds_u16 wy⟩
theorem Opens.dist {W : World} {b0 : Nat} {v : Value} (hv : Value.okWide Try.prog W .any b0 39 v) (h : Opens Try.prog W 39 v) :
    ∃ s m, v = .agg #[.int .u32 s, .int .u16 m] ∧ (0 ≤ s ∧ s ≤ 4294967295) ∧ 0 ≤ m ∧ m ≤ 65535 := by
  obtain ⟨cs, rfl, _⟩ := okWide_struct Try.underlying39 hv
  obtain ⟨n, h⟩ := h
  obtain ⟨s, m, hcs, hs, hm⟩ := Op.dist h
  refine ⟨s, m, ?_, hs, hm⟩
  congr 1
  exact Array.ext' (by simpa [Value.cells] using hcs)
end Go.Proofs.Ytgmdjhokcipajaa
end
section
set_option maxRecDepth 100000
set_option linter.unusedVariables false
set_option linter.unusedSimpArgs false
namespace Go.Proofs.Ytgmdjhokcipajaa
open Go.RowKit Go.ChangeShapes Go.WideShapes

theorem Op.rec_ {W : World} {n : Nat} {cs : List Value} (h : Op Try.prog W n 50 cs) : ∃ r : Rec, cs = r.cells ∧ r.ok := by
  obtain ⟨hl, m, hf⟩ := Op.struct Try.underlying50 h
  rw [show Try.prog.cellsOf 50 = 9 by kernel_rfl] at hl
  match cs, hl with
  | [c0, c1, c2, c3, c4, c5, c6, c7, c8], _ =>
    have h0 : Op Try.prog W m 48 (([c0, c1, c2, c3, c4, c5, c6, c7, c8].drop 0).take (Try.prog.cellsOf 48)) := hf 0 _ rfl
    rw [show Try.prog.cellsOf 48 = 1 by kernel_rfl] at h0
    have h1 : Op Try.prog W m 24 (([c0, c1, c2, c3, c4, c5, c6, c7, c8].drop 1).take (Try.prog.cellsOf 24)) := hf 1 _ rfl
    rw [show Try.prog.cellsOf 24 = 1 by kernel_rfl] at h1
    have h2 : Op Try.prog W m 24 (([c0, c1, c2, c3, c4, c5, c6, c7, c8].drop 2).take (Try.prog.cellsOf 24)) := hf 2 _ rfl
    rw [show Try.prog.cellsOf 24 = 1 by kernel_rfl] at h2
    have h3 : Op Try.prog W m 24 (([c0, c1, c2, c3, c4, c5, c6, c7, c8].drop 3).take (Try.prog.cellsOf 24)) := hf 3 _ rfl
    rw [show Try.prog.cellsOf 24 = 1 by kernel_rfl] at h3
    have h4 : Op Try.prog W m 29 (([c0, c1, c2, c3, c4, c5, c6, c7, c8].drop 4).take (Try.prog.cellsOf 29)) := hf 4 _ rfl
    rw [show Try.prog.cellsOf 29 = 2 by kernel_rfl] at h4
    have h5 : Op Try.prog W m 4 (([c0, c1, c2, c3, c4, c5, c6, c7, c8].drop 6).take (Try.prog.cellsOf 4)) := hf 5 _ rfl
    rw [show Try.prog.cellsOf 4 = 1 by kernel_rfl] at h5
    have h6 : Op Try.prog W m 39 (([c0, c1, c2, c3, c4, c5, c6, c7, c8].drop 7).take (Try.prog.cellsOf 39)) := hf 6 _ rfl
    rw [show Try.prog.cellsOf 39 = 2 by kernel_rfl] at h6
    obtain ⟨x0, e0, w0⟩ := Op.int Try.underlying48 h0
    obtain ⟨x1, e1, w1⟩ := Op.int Try.underlying24 h1
    obtain ⟨x2, e2, w2⟩ := Op.int Try.underlying24 h2
    obtain ⟨x3, e3, w3⟩ := Op.int Try.underlying24 h3
    obtain ⟨x4, x5, e4, w4, w5⟩ := Op.prefix_ h4
    obtain ⟨x6, e5⟩ := Op.bool Try.underlying4 h5
    obtain ⟨x7, x8, e6, w7, w8⟩ := Op.dist h6
    simp at e0 e1 e2 e3 e4 e5 e6
    obtain ⟨rfl, rfl⟩ := e4
    obtain ⟨rfl, rfl⟩ := e6
    subst e0; subst e1; subst e2; subst e3; subst e5
    exact ⟨⟨x0, x1, x2, x3, x4, x5, x6, x7, x8⟩, rfl, bounds_i64 w0, bounds_u32 w1, bounds_u32 w2, bounds_u32 w3, w4, w5, w7, w8⟩
theorem Opens.rec1 {W : World} {b0 : Nat} {v : Value} (hv : Value.okWide Try.prog W .any b0 50 v) (h : Opens Try.prog W 50 v) : ∃ r : Rec, v = r.val ∧ r.ok := by
  obtain ⟨cs, rfl, _⟩ := okWide_struct Try.underlying50 hv
  obtain ⟨n, h⟩ := h
  obtain ⟨r, hcs, ho⟩ := Op.rec_ h
  refine ⟨r, ?_, ho⟩
  unfold Rec.val
  congr 1
  exact Array.ext' (by simpa [Value.cells, Rec.cells, Rec.arr] using hcs)
end Go.Proofs.Ytgmdjhokcipajaa
end
