/- own texts of this claim, one behind the other: see the remarks within -/
import Derived.WalkKit
import Derived.KernelRfl
import Derived.RowKit3
import Derived.Deep.QuietTactic
import Derived.BigQuiet
import Derived.Lib.Hide
import Derived.Test.YtnfaeafplaeehaaGreatProg
section
set_option linter.unusedVariables false
set_option linter.unusedSimpArgs false
namespace Go.Proofs.YtnfaeafplaeehaaGreat
open Go.RowKit

/-- A slice value of 'n' elements of 'size' cells reads as the cells 'cs'. -/
def Row (w : World) (size : Nat) (A : Option Addr) (n : Nat) (cs : List Value) : Prop :=
  cs.length = n * size ∧ n ≤ 140737488351232 ∧ (0 < n → ∃ b off, A = some ⟨b, off, none⟩ ∧ b < w.heap.size ∧ ∀ j u, cs[j]? = some u → w.cell? ⟨b, off + j, none⟩ = some u)

def u8s (l : List Int) : List Value := l.map (Value.int .u8)
def Byte (l : List Int) : Prop := ∀ x ∈ l, 0 ≤ x ∧ x ≤ 255

theorem u8s_get (l : List Int) (j : Nat) (h : j < l.length) : (u8s l)[j]? = some (.int .u8 l[j]) := by
  simp [u8s, List.getElem?_eq_getElem h]
theorem u8s_len (l : List Int) : (u8s l).length = l.length := by simp [u8s]

theorem Byte.get {l : List Int} (h : Byte l) (j : Nat) (hj : j < l.length) : 0 ≤ l[j] ∧ l[j] ≤ 255 := h _ (List.getElem_mem hj)

theorem Row.below {w w' : World} {size n : Nat} {A : Option Addr} {cs : List Value} (h : Row w size A n cs) (hb : Below w.heap.size w w') : Row w' size A n cs := by
  obtain ⟨h1, h2, h3⟩ := h
  refine ⟨h1, h2, fun h0 => ?_⟩
  obtain ⟨b, off, e, hlt, hc⟩ := h3 h0
  exact ⟨b, off, e, Nat.lt_of_lt_of_le hlt hb.size, fun j u hj => (hb.cell (p := ⟨b, off + j, none⟩) hlt).trans (hc j u hj)⟩
theorem Row.alloc {w : World} {size n : Nat} {A : Option Addr} {cs : List Value} (h : Row w size A n cs) (o : Obj) : Row (w.alloc o) size A n cs :=
  h.below ((Below.refl _ _).alloc (Nat.le_refl _) o)
theorem Row.drew {w : World} {size n : Nat} {A : Option Addr} {cs : List Value} (h : Row w size A n cs) : Row w.drew size A n cs := h
/-- A block that is known whole reads as a row. -/
theorem Row.ofBlock {w : World} {size n g : Nat} {cs : List Value} {ca : Array Value} {t : TypeId} {fz : Nat × Nat} (hl : cs.length = n * size) (hn : n ≤ 140737488351232)
    (hg : w.heap[g]? = some (.cells ca t fz)) (hc : ∀ (j : Nat) u, cs[j]? = some u → ca[j]? = some u) : Row w size (some ⟨g, 0, none⟩) n cs := by
  refine ⟨hl, hn, fun _ => ⟨g, 0, rfl, ?_, fun j u hj => ?_⟩⟩
  · rcases Nat.lt_or_ge g w.heap.size with h | h
    · exact h
    · rw [Array.getElem?_eq_none h] at hg; cases hg
  · simp only [World.cell?, hg, Nat.zero_add]
    exact hc j u hj
theorem bcell {W w1 : World} (hb : Below W.heap.size W w1) : (∀ b o, b < W.heap.size → w1.cell? ⟨b, o, none⟩ = W.cell? ⟨b, o, none⟩) ∧ (∀ b o, b < W.heap.size → w1.frozen? ⟨b, o, none⟩ = W.frozen? ⟨b, o, none⟩) :=
  ⟨fun b o h => hb.cell (p := ⟨b, o, none⟩) h, fun b o h => hb.frozen (p := ⟨b, o, none⟩) h⟩
/-- One more block. -/
theorem below_step {w w1 w2 : World} {B : Nat} (h : Below B w w1) (hB : B ≤ w1.heap.size) (k : Below w1.heap.size w1 w2) : Below B w w2 := h.trans (k.mono hB)
theorem below_drewN {B : Nat} {a w : World} (h : Below B a w) (n : Nat) : Below B a (w.drewN n) := ⟨h.os, h.tape, h.output, h.size, h.block⟩
theorem heap_new (w : World) (o : Obj) : (w.alloc o).heap[w.heap.size]? = some o := by
  show (w.heap.push o)[w.heap.size]? = _
  simp

theorem flat_get {α : Type} (f : α → List Value) (m : Nat) (hf : ∀ x, (f x).length = m) : ∀ (l : List α) (k j : Nat) (hk : k < l.length), j < m → (l.flatMap f)[k * m + j]? = (f l[k])[j]?
  | x :: l, 0, j, _, hj => by
    rw [List.flatMap_cons, List.getElem?_append_left (by rw [hf]; omega)]
    simp
  | x :: l, k + 1, j, hk, hj => by
    have e : (k + 1) * m + j = m + (k * m + j) := by rw [Nat.add_mul]; omega
    rw [List.flatMap_cons, e, List.getElem?_append_right (by rw [hf]; omega), hf, Nat.add_sub_cancel_left, flat_get f m hf l k j (by simpa using hk) hj]
    rfl
theorem flat_len {α : Type} (f : α → List Value) (m : Nat) (hf : ∀ x, (f x).length = m) (l : List α) : (l.flatMap f).length = l.length * m := by
  induction l with
  | nil => simp
  | cons x l ih => rw [List.flatMap_cons, List.length_append, hf, ih, List.length_cons, Nat.add_mul]; omega

/-! ### A block of cells that is known whole -/
def Blk (w : World) (g : Nat) (t : TypeId) (cs : Array Value) : Prop := w.heap[g]? = some (.cells cs t (0, 0))
theorem lt_of_heap {w : World} {g : Nat} {o : Obj} (h : w.heap[g]? = some o) : g < w.heap.size := by
  rcases Nat.lt_or_ge g w.heap.size with h' | h'
  · exact h'
  · rw [Array.getElem?_eq_none h'] at h; cases h
theorem Blk.lt {w : World} {g : Nat} {t : TypeId} {cs : Array Value} (h : Blk w g t cs) : g < w.heap.size := lt_of_heap h
theorem Blk.cell {w : World} {g : Nat} {t : TypeId} {cs : Array Value} (h : Blk w g t cs) (i : Nat) : w.cell? ⟨g, i, none⟩ = cs[i]? := by
  unfold Blk at h
  simp [World.cell?, h]
theorem Blk.frozen {w : World} {g : Nat} {t : TypeId} {cs : Array Value} (h : Blk w g t cs) (i : Nat) : w.frozen? ⟨g, i, none⟩ = false := by
  unfold Blk at h
  simp [World.frozen?, h]
theorem Blk.new (w : World) (t : TypeId) (cs : Array Value) : Blk (w.alloc (.cells cs t)) w.heap.size t cs := heap_new w _
theorem Blk.drew {w : World} {g : Nat} {t : TypeId} {cs : Array Value} (h : Blk w g t cs) : Blk w.drew g t cs := h
theorem Blk.drewN {w : World} {g : Nat} {t : TypeId} {cs : Array Value} (h : Blk w g t cs) (n : Nat) : Blk (w.drewN n) g t cs := h
theorem Blk.below {w w' : World} {B g : Nat} {t : TypeId} {cs : Array Value} (h : Blk w g t cs) (hb : Below B w w') (hg : g < B) : Blk w' g t cs := (hb.block g hg).trans h
theorem Blk.below' {w w' : World} {g : Nat} {t : TypeId} {cs : Array Value} (h : Blk w g t cs) (hb : Below w.heap.size w w') : Blk w' g t cs := h.below hb h.lt
theorem Blk.alloc {w : World} {g : Nat} {t : TypeId} {cs : Array Value} (h : Blk w g t cs) (o : Obj) : Blk (w.alloc o) g t cs := (Below.heap_alloc w o g h.lt).trans h
theorem Blk.set {w : World} {g : Nat} {t : TypeId} {cs : Array Value} (h : Blk w g t cs) (i : Nat) (u : Value) : Blk (w.setCell ⟨g, i, none⟩ u) g t (cs.setIfInBounds i u) := by
  unfold Blk at *
  simp [World.setCell, Array.getElem?_modify, h]
theorem Blk.other {w : World} {g : Nat} {t : TypeId} {cs : Array Value} (h : Blk w g t cs) {a : Addr} (ha : g ≠ a.block) (u : Value) : Blk (w.setCell a u) g t cs := (Below.heap_setCell w a u g ha).trans h
theorem Row.other {w : World} {size n : Nat} {A : Option Addr} {cs : List Value} (h : Row w size A n cs) {a : Addr} (ha : ∀ b off, A = some ⟨b, off, none⟩ → b ≠ a.block) (u : Value) : Row (w.setCell a u) size A n cs := by
  obtain ⟨h1, h2, h3⟩ := h
  refine ⟨h1, h2, fun h0 => ?_⟩
  obtain ⟨b, off, e, hlt, hc⟩ := h3 h0
  refine ⟨b, off, e, by simpa [World.setCell] using hlt, fun j x hj => ?_⟩
  exact (World.cell?_of_block (Below.heap_setCell w a u b (ha b off e))).trans (hc j x hj)

end Go.Proofs.YtnfaeafplaeehaaGreat
end
section
set_option linter.unusedVariables false
namespace Go.Proofs.YtnfaeafplaeehaaGreat
open Go.RowKit

/-- A 'rec.Rec'. -/
structure Rec where
  kind : Int
  gen : Int
  lsn : Int
  id : Int
  a : Int
  l : Int
  on : Bool
  s : Int
  m : Int
  deriving DecidableEq
def Rec.cells (r : Rec) : List Value := [.int .i64 r.kind, .int .u32 r.gen, .int .u32 r.lsn, .int .u32 r.id, .int .u32 r.a, .int .i64 r.l, .bool r.on, .int .u32 r.s, .int .u16 r.m]
def Rec.arr (r : Rec) : Array Value := #[.int .i64 r.kind, .int .u32 r.gen, .int .u32 r.lsn, .int .u32 r.id, .int .u32 r.a, .int .i64 r.l, .bool r.on, .int .u32 r.s, .int .u16 r.m]
def Rec.val (r : Rec) : Value := .agg r.arr
def Rec.ok (r : Rec) : Prop := (-9223372036854775808 ≤ r.kind ∧ r.kind ≤ 9223372036854775807) ∧ (0 ≤ r.gen ∧ r.gen ≤ 4294967295) ∧ (0 ≤ r.lsn ∧ r.lsn ≤ 4294967295) ∧ (0 ≤ r.id ∧ r.id ≤ 4294967295) ∧ (0 ≤ r.a ∧ r.a ≤ 4294967295) ∧ (-9223372036854775808 ≤ r.l ∧ r.l ≤ 9223372036854775807) ∧ (0 ≤ r.s ∧ r.s ≤ 4294967295) ∧ 0 ≤ r.m ∧ r.m ≤ 65535
def RecsOk (l : List Rec) : Prop := ∀ r ∈ l, r.ok
def recs (l : List Rec) : List Value := l.flatMap Rec.cells
theorem recs_get (l : List Rec) (k j : Nat) (hk : k < l.length) (hj : j < 9) : (recs l)[k * 9 + j]? = l[k].cells[j]? := flat_get Rec.cells 9 (fun _ => rfl) l k j hk hj
end Go.Proofs.YtnfaeafplaeehaaGreat
end
section
set_option linter.unusedVariables false
set_option linter.unusedSimpArgs false
namespace Go.Proofs.YtnfaeafplaeehaaGreat
open Go.RowKit
/-! A number's four bytes. -/
def four (n : Int) : List Int := [n / 16777216 % 256, n / 65536 % 256, n / 256 % 256, n % 256]
def cat4 (a b c d : Int) : Int := ((a * 256 + b) * 256 + c) * 256 + d
theorem cat4_four (n : Int) (h : 0 ≤ n ∧ n ≤ 4294967295) : cat4 (n / 16777216 % 256) (n / 65536 % 256) (n / 256 % 256) (n % 256) = n := by unfold cat4; omega
theorem four_cat4 (a b c d : Int) (ha : 0 ≤ a ∧ a ≤ 255) (hb : 0 ≤ b ∧ b ≤ 255) (hc : 0 ≤ c ∧ c ≤ 255) (hd : 0 ≤ d ∧ d ≤ 255) : four (cat4 a b c d) = [a, b, c, d] := by
  unfold four cat4
  congr 1
  · omega
  congr 1
  · omega
  congr 1
  · omega
  congr 1
  omega
theorem cat4_bd (a b c d : Int) (ha : 0 ≤ a ∧ a ≤ 255) (hb : 0 ≤ b ∧ b ≤ 255) (hc : 0 ≤ c ∧ c ≤ 255) (hd : 0 ≤ d ∧ d ≤ 255) : 0 ≤ cat4 a b c d ∧ cat4 a b c d ≤ 4294967295 := by unfold cat4; omega
theorem four_byte (n : Int) : Byte (four n) := by
  intro x hx
  simp only [four, List.mem_cons, List.not_mem_nil, or_false] at hx
  omega
theorem four_len (n : Int) : (four n).length = 4 := rfl
/-- A byte or'd below a number whose low byte is nought. -/
theorem or_add_nat (n c : Nat) (hc : c < 256) : n * 256 ||| c = n * 256 + c := by
  have := Nat.two_pow_add_eq_or_of_lt (i := 8) (b := c) hc n
  rw [show (2 : Nat) ^ 8 * n = n * 256 by omega] at this
  exact this.symm
theorem or_byte32 (n c : Int) (hn : 0 ≤ n) (hb : n * 256 + 255 ≤ 4294967295) (hc : 0 ≤ c ∧ c ≤ 255) : Go.bits .or .u32 (n * 256) c = n * 256 + c := by
  obtain ⟨n, rfl⟩ := Int.eq_ofNat_of_zero_le hn
  obtain ⟨c, rfl⟩ := Int.eq_ofNat_of_zero_le hc.1
  rw [show ((n : Int) * 256) = ((n * 256 : Nat) : Int) by simp, u32_or_nat _ _ (by omega) (by omega), or_add_nat n c (by omega)]
  simp
theorem or_byte16 (n c : Int) (hn : 0 ≤ n) (hb : n * 256 + 255 ≤ 65535) (hc : 0 ≤ c ∧ c ≤ 255) : Go.bits .or .u16 (n * 256) c = n * 256 + c := by
  obtain ⟨n, rfl⟩ := Int.eq_ofNat_of_zero_le hn
  obtain ⟨c, rfl⟩ := Int.eq_ofNat_of_zero_le hc.1
  rw [show ((n : Int) * 256) = ((n * 256 : Nat) : Int) by simp, u16_or_nat _ _ (by omega) (by omega), or_add_nat n c (by omega)]
  simp
end Go.Proofs.YtnfaeafplaeehaaGreat
end
section
set_option linter.unusedVariables false
set_option linter.unusedSimpArgs false
namespace Go.Proofs.YtnfaeafplaeehaaGreat
open Go.RowKit

/-- One bit of the sum. -/
def crcStep (s : Int) : Int := if s / 2147483648 = 1 then Go.bits .xor .u32 ((s * 2) % 4294967296) 79764919 else (s * 2) % 4294967296
def crcBits : Nat → Int → Int
  | 0, s => s
  | n + 1, s => crcStep (crcBits n s)
def crcByte (s c : Int) : Int := crcBits 8 (Go.bits .xor .u32 s ((c * 16777216) % 4294967296))
def crc (l : List Int) : Int := l.foldl crcByte 4294967295

theorem crc_take (l : List Int) (k : Nat) (h : k < l.length) (hb : Byte l) : crc (l.take (k + 1)) = crcBits 8 (Go.bits .xor .u32 (crc (l.take k)) (l[k] * 16777216)) := by
  have := hb.get k h
  unfold crc
  rw [List.take_succ_eq_append_getElem h, List.foldl_append]
  simp only [List.foldl_cons, List.foldl_nil, crcByte]
  rw [show l[k] * 16777216 % 4294967296 = l[k] * 16777216 from by omega]

theorem sum_Of (l : List Int) (A : Option Addr) (c : Nat) (w : World) (hr : Row w 1 A l.length (u8s l)) (hb : Byte l) :
    Calls Tryz.prog 61 #[.slice A l.length c] w fun e w' => e = .returned (.int .u32 (crc l)) ∧ w' = w := by
  obtain ⟨-, hn, hc⟩ := hr
  go_enter Tryz.func61, Tryz.ntmps61
  go_wp2
  go_loop [3, 8] (fun s i => ∃ k : Nat, k ≤ l.length ∧ i = .int .i64 k ∧ s = .int .u32 (crc (l.take k))) (fun _ i => l.length - (intOf i).toNat)
  case atStart => exact ⟨0, Nat.zero_le _, rfl, rfl⟩
  case round =>
    obtain ⟨k, hk, rfl, rfl⟩ := hrel
    by_cases hlt : k < l.length
    · obtain ⟨b, off, rfl, hbl, hcell⟩ := hc (by omega)
      have hx := hcell k _ (u8s_get l k hlt)
      have hbd := hb.get k hlt
      clear hcell hc
      go_wp2
      go_loop [3, 17] (fun s i => ∃ m : Nat, m ≤ 8 ∧ i = .int .i64 m ∧ s = .int .u32 (crcBits m (Go.bits .xor .u32 (crc (l.take k)) (l[k] * 16777216)))) (fun _ i => 8 - (intOf i).toNat)
      case atStart => exact ⟨0, Nat.zero_le _, rfl, rfl⟩
      case round =>
        obtain ⟨m, hm, rfl, rfl⟩ := hrel
        by_cases hm8 : m < 8
        · have hst : crcBits (m + 1) (Go.bits .xor .u32 (crc (l.take k)) (l[k] * 16777216)) = crcStep (crcBits m (Go.bits .xor .u32 (crc (l.take k)) (l[k] * 16777216))) := rfl
          have HS := Lib.hid hst
          clear hst
          by_cases hs : crcBits m (Go.bits .xor .u32 (crc (l.take k)) (l[k] * 16777216)) / 2147483648 = 1
          all_goals
            go_wp2
            go_round
            case rel => exact ⟨m + 1, by omega, by go_num, by rw [HS.out]; simp [crcStep, hs]⟩
            case measure => simp [intOf]; omega
        · obtain rfl : m = 8 := by omega
          go_wp2
          go_round
          case rel => exact ⟨k + 1, by omega, by go_num, by rw [crc_take l k hlt hb]⟩
          case measure => simp [intOf]; omega
    · obtain rfl : k = l.length := by omega
      go_wp2
      go_ret
      exact ⟨rfl, rfl⟩
end Go.Proofs.YtnfaeafplaeehaaGreat
end
section
set_option linter.unusedVariables false
set_option linter.unusedSimpArgs false
namespace Go.Proofs.YtnfaeafplaeehaaGreat
open Go.RowKit
/-! A sum is a number of 32 bits. -/
theorem xor_u32_bd (a b : Int) : 0 ≤ Go.bits .xor .u32 a b ∧ Go.bits .xor .u32 a b ≤ 4294967295 := by
  unfold Go.bits
  simp only [IntKind.wrap_u32]
  omega
theorem crcStep_bd (s : Int) : 0 ≤ crcStep s ∧ crcStep s ≤ 4294967295 := by
  unfold crcStep
  split
  · exact xor_u32_bd _ _
  · omega
theorem crcByte_bd (s c : Int) : 0 ≤ crcByte s c ∧ crcByte s c ≤ 4294967295 := by
  unfold crcByte
  exact crcStep_bd _
theorem crc_fold_bd : ∀ (l : List Int) (s : Int), 0 ≤ s ∧ s ≤ 4294967295 → 0 ≤ l.foldl crcByte s ∧ l.foldl crcByte s ≤ 4294967295
  | [], s, h => h
  | x :: l, s, _ => crc_fold_bd l _ (crcByte_bd s x)
theorem crc_lt (l : List Int) (hb : Byte l) : 0 ≤ crc l ∧ crc l ≤ 4294967295 := crc_fold_bd l _ (by omega)
end Go.Proofs.YtnfaeafplaeehaaGreat
end
section
set_option linter.unusedVariables false
set_option linter.unusedSimpArgs false
namespace Go.Proofs.YtnfaeafplaeehaaGreat
open Go.RowKit

def lawBit (c s : Int) (i : Nat) : Int :=
  if ((Go.bits .and .u8 (c / 2 ^ i) 1 == 1) != decide (2147483648 ≤ s)) then Go.bits .xor .u32 ((s * 2) % 4294967296) 79764919 else (s * 2) % 4294967296
/-- The bits 7, .., 8 - n. -/
def lawBits (c s : Int) : Nat → Int
  | 0 => s
  | n + 1 => lawBit c (lawBits c s n) (7 - n)
def lawCrc (l : List Int) : Int := l.foldl (fun s c => lawBits c s 8) 4294967295
theorem lawCrc_take (l : List Int) (k : Nat) (h : k < l.length) : lawCrc (l.take (k + 1)) = lawBits l[k] (lawCrc (l.take k)) 8 := by
  unfold lawCrc
  rw [List.take_succ_eq_append_getElem h, List.foldl_append]
  rfl

theorem law01_Of (l : List Int) (A : Option Addr) (c : Nat) (w : World) (hr : Row w 1 A l.length (u8s l)) (hb : Byte l) :
    Calls Tryz.prog 42 #[.slice A l.length c] w fun e w' => e = .returned (.int .u32 (lawCrc l)) ∧ w' = w := by
  obtain ⟨-, hn, hc⟩ := hr
  go_enter Tryz.func42, Tryz.ntmps42
  go_wp2
  go_loop [3, 11] (fun s i => ∃ k : Nat, k ≤ l.length ∧ i = .int .i64 k ∧ s = .int .u32 (lawCrc (l.take k))) (fun _ i => l.length - (intOf i).toNat)
  case atStart => exact ⟨0, Nat.zero_le _, rfl, rfl⟩
  case round =>
    obtain ⟨k, hk, rfl, rfl⟩ := hrel
    by_cases hlt : k < l.length
    · obtain ⟨b, off, rfl, hbl, hcell⟩ := hc (by omega)
      have hx := hcell k _ (u8s_get l k hlt)
      have hbd := hb.get k hlt
      clear hcell hc
      go_wp2
      go_loop [3, 6] (fun s i => ∃ m : Nat, m ≤ 8 ∧ i = .int .i64 (7 - (m : Int)) ∧ s = .int .u32 (lawBits l[k] (lawCrc (l.take k)) m)) (fun _ i => (1 + intOf i).toNat)
      case atStart => exact ⟨0, Nat.zero_le _, rfl, rfl⟩
      case round =>
        obtain ⟨m, hm, rfl, rfl⟩ := hrel
        by_cases hm8 : m < 8
        · have HS := Lib.hid (show lawBits l[k] (lawCrc (l.take k)) (m + 1) = lawBit l[k] (lawBits l[k] (lawCrc (l.take k)) m) (7 - m) from rfl)
          by_cases hq : (!(Go.bits .and .u8 (l[k] / 2 ^ (7 - m)) 1 == 1) == decide (2147483648 ≤ lawBits l[k] (lawCrc (l.take k)) m)) = true
          · go_wp2
            go_round
            case rel => exact ⟨m + 1, by omega, by congr 1; omega, by rw [HS.out, lawBit, bne, if_pos hq]⟩
            case measure => simp [intOf]; omega
          · have hq' : (!(Go.bits .and .u8 (l[k] / 2 ^ (7 - m)) 1 == 1) == decide (2147483648 ≤ lawBits l[k] (lawCrc (l.take k)) m)) = false := by simpa using hq
            clear hq
            go_wp2
            go_round
            case rel => exact ⟨m + 1, by omega, by congr 1; omega, by rw [HS.out, lawBit, bne, if_neg (by simp [hq'])]⟩
            case measure => simp [intOf]; omega
        · obtain rfl : m = 8 := by omega
          have HS := Lib.hid (lawCrc_take l k hlt)
          go_wp2
          go_round
          case rel => exact ⟨k + 1, by omega, by go_num, by rw [HS.out]⟩
          case measure => simp [intOf]; omega
    · obtain rfl : k = l.length := by omega
      go_wp2
      go_ret
      exact ⟨rfl, rfl⟩
end Go.Proofs.YtnfaeafplaeehaaGreat
end
section
set_option linter.unusedVariables false
set_option linter.unusedSimpArgs false
namespace Go.Proofs.YtnfaeafplaeehaaGreat
open Go.RowKit

theorem xor32 (a b : BitVec 32) : Go.bits .xor .u32 (a.toNat : Int) (b.toNat : Int) = ((a ^^^ b).toNat : Int) := by
  rw [u32_xor_nat _ _ a.isLt b.isLt, BitVec.toNat_xor]
def bstep (t : Bool) (s : BitVec 32) : BitVec 32 := if t then (s <<< 1) ^^^ 79764919#32 else s <<< 1
theorem shl1 (s : BitVec 32) : (s.toNat : Int) * (2 : Int) % (4294967296 : Int) = ((s <<< 1).toNat : Int) := by
  rw [BitVec.toNat_shiftLeft, Nat.shiftLeft_eq]; omega
theorem crcStep_bv (s : BitVec 32) : crcStep (s.toNat : Int) = ((bstep s.msb s).toNat : Int) := by
  have hlt := s.isLt
  have hm : s.msb = decide (2147483648 ≤ s.toNat) := by rw [BitVec.msb_eq_decide]
  unfold crcStep bstep
  rw [shl1, hm]
  by_cases h : 2147483648 ≤ s.toNat
  · rw [if_pos (by omega), if_pos (by simpa using h)]
    exact xor32 _ 79764919#32
  · rw [if_neg (by omega), if_neg (by simpa using h)]
theorem lawBit_bv (c : Int) (s : BitVec 32) (i : Nat) (t : Bool) (ht : (Go.bits .and .u8 (c / 2 ^ i) 1 == 1) = t) : lawBit c (s.toNat : Int) i = ((bstep (t != s.msb) s).toNat : Int) := by
  have hlt := s.isLt
  have hm : s.msb = decide (2147483648 ≤ s.toNat) := by rw [BitVec.msb_eq_decide]
  have hd : decide ((2147483648 : Int) ≤ (s.toNat : Int)) = s.msb := by rw [hm]; congr 1; simp; omega
  unfold lawBit bstep
  rw [ht, shl1, hd]
  split
  · exact xor32 _ 79764919#32
  · rfl
theorem bstep_xor (s d : BitVec 32) : bstep (s ^^^ d).msb (s ^^^ d) = bstep (d.msb != s.msb) s ^^^ (d <<< 1) := by
  unfold bstep
  rw [BitVec.msb_xor, BitVec.shiftLeft_xor_distrib]
  cases s.msb <;> cases d.msb <;> simp [BitVec.xor_assoc, BitVec.xor_comm (d <<< 1)]
theorem bit_of (c : Nat) (hc : c < 256) (i : Nat) (hi : i < 8) : (Go.bits .and .u8 ((c : Int) / 2 ^ i) 1 == 1) = ((BitVec.ofNat 32 c) <<< (24 + (7 - i))).msb := by
  have h : ∀ c : Fin 256, ∀ i : Fin 8, (Go.bits .and .u8 ((c.val : Int) / 2 ^ i.val) 1 == 1) = ((BitVec.ofNat 32 c.val) <<< (24 + (7 - i.val))).msb := by decide +kernel
  exact h ⟨c, hc⟩ ⟨i, hi⟩
theorem bits_eq (c : Nat) (hc : c < 256) (s : BitVec 32) : ∀ n, n ≤ 8 → ∃ x : BitVec 32, lawBits c (s.toNat : Int) n = (x.toNat : Int) ∧ crcBits n ((s ^^^ (BitVec.ofNat 32 c <<< 24)).toNat : Int) = ((x ^^^ (BitVec.ofNat 32 c <<< (24 + n))).toNat : Int) := by
  intro n
  induction n with
  | zero => exact fun _ => ⟨s, rfl, rfl⟩
  | succ n ih =>
    intro hn
    obtain ⟨x, h1, h2⟩ := ih (by omega)
    refine ⟨bstep ((BitVec.ofNat 32 c <<< (24 + n)).msb != x.msb) x, ?_, ?_⟩
    · rw [lawBits, h1]
      refine lawBit_bv _ _ _ _ ?_
      rw [bit_of c hc (7 - n) (by omega), show 24 + (7 - (7 - n)) = 24 + n by omega]
    · rw [crcBits, h2, crcStep_bv, bstep_xor, ← BitVec.shiftLeft_add]
      rfl
theorem byte_eq (c : Nat) (hc : c < 256) (s : BitVec 32) : ∃ x : BitVec 32, lawBits c (s.toNat : Int) 8 = (x.toNat : Int) ∧ crcByte (s.toNat : Int) c = (x.toNat : Int) := by
  obtain ⟨x, h1, h2⟩ := bits_eq c hc s 8 (Nat.le_refl _)
  refine ⟨x, h1, ?_⟩
  have hz : BitVec.ofNat 32 c <<< 32 = 0#32 := by rw [BitVec.shiftLeft_eq_zero (Nat.le_refl _)]
  rw [show 24 + 8 = 32 from rfl, hz, BitVec.xor_zero] at h2
  have hx : ((c : Int) * (16777216 : Int) % (4294967296 : Int)) = ((BitVec.ofNat 32 c <<< 24).toNat : Int) := by
    rw [BitVec.toNat_shiftLeft, BitVec.toNat_ofNat, Nat.shiftLeft_eq]; omega
  unfold crcByte
  rw [hx, xor32]
  exact h2
theorem fold_eq (l : List Int) (hb : Byte l) : ∀ s : BitVec 32, ∃ x : BitVec 32, l.foldl (fun s c => lawBits c s 8) (s.toNat : Int) = (x.toNat : Int) ∧ l.foldl crcByte (s.toNat : Int) = (x.toNat : Int) := by
  induction l with
  | nil => exact fun s => ⟨s, rfl, rfl⟩
  | cons c l ih =>
    intro s
    obtain ⟨h0, h1⟩ := hb c (by simp)
    obtain ⟨n, rfl⟩ := Int.eq_ofNat_of_zero_le h0
    obtain ⟨x, e1, e2⟩ := byte_eq n (by omega) s
    obtain ⟨y, f1, f2⟩ := ih (fun z hz => hb z (by simp [hz])) x
    refine ⟨y, ?_, ?_⟩
    · rw [List.foldl_cons, e1]; exact f1
    · rw [List.foldl_cons, e2]; exact f2
theorem crc_eq (l : List Int) (hb : Byte l) : crc l = lawCrc l := by
  obtain ⟨x, h1, h2⟩ := fold_eq l hb 4294967295#32
  exact h2.trans h1.symm
theorem crc_head : crc [49, 50, 51, 52, 53, 54, 55, 56, 57] = 58124007 := by decide +kernel
end Go.Proofs.YtnfaeafplaeehaaGreat
end
