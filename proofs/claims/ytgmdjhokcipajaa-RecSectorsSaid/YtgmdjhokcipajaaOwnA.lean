/- Texts of this proof, one behind the other: lemmas for the row at the claim's end. No condition of their own. -/
import Derived.WalkKit
import Derived.KernelRfl
import Derived.RowKit3
import Derived.Deep.QuietTactic
import Derived.BigQuiet
import Derived.Lib.Hide
import Derived.Test.YtgmdjhokcipajaaProg
import Derived.OrdersHeld
import Derived.Deep.RegionHeld3
import Derived.Deep.Quiet
import Derived.Laws.StructEq
section
set_option linter.unusedVariables false
set_option linter.unusedSimpArgs false
namespace Go.Proofs.Ytgmdjhokcipajaa
open Go.RowKit

/-- A slice value of 'n' elements of 'size' cells reads as the cells 'cs'. -/
def Row (w : World) (size : Nat) (A : Option Addr) (n : Nat) (cs : List Value) : Prop :=
  cs.length = n * size ∧ n ≤ 140737488351232 ∧ (0 < n → ∃ b off, A = some ⟨b, off, none⟩ ∧ b < w.heap.size ∧ ∀ j u, cs[j]? = some u → w.cell? ⟨b, off + j, none⟩ = some u)

def u8s (l : List Int) : List Value := l.map (Value.int .u8)
def Byte (l : List Int) : Prop := ∀ x ∈ l, 0 ≤ x ∧ x ≤ 255

theorem u8s_get (l : List Int) (j : Nat) (h : j < l.length) : (u8s l)[j]? = some (.int .u8 l[j]) := by
  simp [u8s, List.getElem?_eq_getElem h]
theorem u8s_len (l : List Int) : (u8s l).length = l.length := by simp [u8s]

theorem Byte.get {l : List Int} (h : Byte l) (j : Nat) (hj : j < l.length) : 0 ≤ l[j] ∧ l[j] ≤ 255 := h _ (List.getElem_mem hj)

theorem Row.below {w w' : World} {size n : Nat} {A : Option Addr} {cs : List Value} (h : Row w size A n cs) (hb : Below w.heap.size w w') : Row w' size A n cs := by
  obtain ⟨h1, h2, h3⟩ := h
  refine ⟨h1, h2, fun h0 => ?_⟩
  obtain ⟨b, off, e, hlt, hc⟩ := h3 h0
  exact ⟨b, off, e, Nat.lt_of_lt_of_le hlt hb.size, fun j u hj => (hb.cell (p := ⟨b, off + j, none⟩) hlt).trans (hc j u hj)⟩
theorem Row.alloc {w : World} {size n : Nat} {A : Option Addr} {cs : List Value} (h : Row w size A n cs) (o : Obj) : Row (w.alloc o) size A n cs :=
  h.below ((Below.refl _ _).alloc (Nat.le_refl _) o)
theorem Row.drew {w : World} {size n : Nat} {A : Option Addr} {cs : List Value} (h : Row w size A n cs) : Row w.drew size A n cs := h
/-- A block that is known whole reads as a row. -/
theorem Row.ofBlock {w : World} {size n g : Nat} {cs : List Value} {ca : Array Value} {t : TypeId} {fz : Nat × Nat} (hl : cs.length = n * size) (hn : n ≤ 140737488351232)
    (hg : w.heap[g]? = some (.cells ca t fz)) (hc : ∀ (j : Nat) u, cs[j]? = some u → ca[j]? = some u) : Row w size (some ⟨g, 0, none⟩) n cs := by
  refine ⟨hl, hn, fun _ => ⟨g, 0, rfl, ?_, fun j u hj => ?_⟩⟩
  · rcases Nat.lt_or_ge g w.heap.size with h | h
    · exact h
    · rw [Array.getElem?_eq_none h] at hg; cases hg
  · simp only [World.cell?, hg, Nat.zero_add]
    exact hc j u hj
theorem bcell {W w1 : World} (hb : Below W.heap.size W w1) : (∀ b o, b < W.heap.size → w1.cell? ⟨b, o, none⟩ = W.cell? ⟨b, o, none⟩) ∧ (∀ b o, b < W.heap.size → w1.frozen? ⟨b, o, none⟩ = W.frozen? ⟨b, o, none⟩) :=
  ⟨fun b o h => hb.cell (p := ⟨b, o, none⟩) h, fun b o h => hb.frozen (p := ⟨b, o, none⟩) h⟩
/-- One more block. -/
theorem below_step {w w1 w2 : World} {B : Nat} (h : Below B w w1) (hB : B ≤ w1.heap.size) (k : Below w1.heap.size w1 w2) : Below B w w2 := h.trans (k.mono hB)
theorem below_drewN {B : Nat} {a w : World} (h : Below B a w) (n : Nat) : Below B a (w.drewN n) := ⟨h.os, h.tape, h.output, h.size, h.block⟩
theorem heap_new (w : World) (o : Obj) : (w.alloc o).heap[w.heap.size]? = some o := by
  show (w.heap.push o)[w.heap.size]? = _
  simp

theorem flat_get {α : Type} (f : α → List Value) (m : Nat) (hf : ∀ x, (f x).length = m) : ∀ (l : List α) (k j : Nat) (hk : k < l.length), j < m → (l.flatMap f)[k * m + j]? = (f l[k])[j]?
  | x :: l, 0, j, _, hj => by
    rw [List.flatMap_cons, List.getElem?_append_left (by rw [hf]; omega)]
    simp
  | x :: l, k + 1, j, hk, hj => by
    have e : (k + 1) * m + j = m + (k * m + j) := by rw [Nat.add_mul]; omega
    rw [List.flatMap_cons, e, List.getElem?_append_right (by rw [hf]; omega), hf, Nat.add_sub_cancel_left, flat_get f m hf l k j (by simpa using hk) hj]
    rfl
theorem flat_len {α : Type} (f : α → List Value) (m : Nat) (hf : ∀ x, (f x).length = m) (l : List α) : (l.flatMap f).length = l.length * m := by
  induction l with
  | nil => simp
  | cons x l ih => rw [List.flatMap_cons, List.length_append, hf, ih, List.length_cons, Nat.add_mul]; omega

/-! ### A block of cells that is known whole -/
def Blk (w : World) (g : Nat) (t : TypeId) (cs : Array Value) : Prop := w.heap[g]? = some (.cells cs t (0, 0))
theorem lt_of_heap {w : World} {g : Nat} {o : Obj} (h : w.heap[g]? = some o) : g < w.heap.size := by
  rcases Nat.lt_or_ge g w.heap.size with h' | h'
  · exact h'
  · rw [Array.getElem?_eq_none h'] at h; cases h
theorem Blk.lt {w : World} {g : Nat} {t : TypeId} {cs : Array Value} (h : Blk w g t cs) : g < w.heap.size := lt_of_heap h
theorem Blk.cell {w : World} {g : Nat} {t : TypeId} {cs : Array Value} (h : Blk w g t cs) (i : Nat) : w.cell? ⟨g, i, none⟩ = cs[i]? := by
  unfold Blk at h
  simp [World.cell?, h]
theorem Blk.frozen {w : World} {g : Nat} {t : TypeId} {cs : Array Value} (h : Blk w g t cs) (i : Nat) : w.frozen? ⟨g, i, none⟩ = false := by
  unfold Blk at h
  simp [World.frozen?, h]
theorem Blk.new (w : World) (t : TypeId) (cs : Array Value) : Blk (w.alloc (.cells cs t)) w.heap.size t cs := heap_new w _
theorem Blk.drew {w : World} {g : Nat} {t : TypeId} {cs : Array Value} (h : Blk w g t cs) : Blk w.drew g t cs := h
theorem Blk.drewN {w : World} {g : Nat} {t : TypeId} {cs : Array Value} (h : Blk w g t cs) (n : Nat) : Blk (w.drewN n) g t cs := h
theorem Blk.below {w w' : World} {B g : Nat} {t : TypeId} {cs : Array Value} (h : Blk w g t cs) (hb : Below B w w') (hg : g < B) : Blk w' g t cs := (hb.block g hg).trans h
theorem Blk.below' {w w' : World} {g : Nat} {t : TypeId} {cs : Array Value} (h : Blk w g t cs) (hb : Below w.heap.size w w') : Blk w' g t cs := h.below hb h.lt
theorem Blk.alloc {w : World} {g : Nat} {t : TypeId} {cs : Array Value} (h : Blk w g t cs) (o : Obj) : Blk (w.alloc o) g t cs := (Below.heap_alloc w o g h.lt).trans h
theorem Blk.set {w : World} {g : Nat} {t : TypeId} {cs : Array Value} (h : Blk w g t cs) (i : Nat) (u : Value) : Blk (w.setCell ⟨g, i, none⟩ u) g t (cs.setIfInBounds i u) := by
  unfold Blk at *
  simp [World.setCell, Array.getElem?_modify, h]
theorem Blk.other {w : World} {g : Nat} {t : TypeId} {cs : Array Value} (h : Blk w g t cs) {a : Addr} (ha : g ≠ a.block) (u : Value) : Blk (w.setCell a u) g t cs := (Below.heap_setCell w a u g ha).trans h
theorem Row.other {w : World} {size n : Nat} {A : Option Addr} {cs : List Value} (h : Row w size A n cs) {a : Addr} (ha : ∀ b off, A = some ⟨b, off, none⟩ → b ≠ a.block) (u : Value) : Row (w.setCell a u) size A n cs := by
  obtain ⟨h1, h2, h3⟩ := h
  refine ⟨h1, h2, fun h0 => ?_⟩
  obtain ⟨b, off, e, hlt, hc⟩ := h3 h0
  refine ⟨b, off, e, by simpa [World.setCell] using hlt, fun j x hj => ?_⟩
  exact (World.cell?_of_block (Below.heap_setCell w a u b (ha b off e))).trans (hc j x hj)

end Go.Proofs.Ytgmdjhokcipajaa
end
section
set_option linter.unusedVariables false
namespace Go.Proofs.Ytgmdjhokcipajaa
open Go.RowKit

/-- A 'rec.Rec'. -/
structure Rec where
  kind : Int
  gen : Int
  lsn : Int
  id : Int
  a : Int
  l : Int
  on : Bool
  s : Int
  m : Int
  deriving DecidableEq
def Rec.cells (r : Rec) : List Value := [.int .i64 r.kind, .int .u32 r.gen, .int .u32 r.lsn, .int .u32 r.id, .int .u32 r.a, .int .i64 r.l, .bool r.on, .int .u32 r.s, .int .u16 r.m]
def Rec.arr (r : Rec) : Array Value := #[.int .i64 r.kind, .int .u32 r.gen, .int .u32 r.lsn, .int .u32 r.id, .int .u32 r.a, .int .i64 r.l, .bool r.on, .int .u32 r.s, .int .u16 r.m]
def Rec.val (r : Rec) : Value := .agg r.arr
def Rec.ok (r : Rec) : Prop := (-9223372036854775808 ≤ r.kind ∧ r.kind ≤ 9223372036854775807) ∧ (0 ≤ r.gen ∧ r.gen ≤ 4294967295) ∧ (0 ≤ r.lsn ∧ r.lsn ≤ 4294967295) ∧ (0 ≤ r.id ∧ r.id ≤ 4294967295) ∧ (0 ≤ r.a ∧ r.a ≤ 4294967295) ∧ (-9223372036854775808 ≤ r.l ∧ r.l ≤ 9223372036854775807) ∧ (0 ≤ r.s ∧ r.s ≤ 4294967295) ∧ 0 ≤ r.m ∧ r.m ≤ 65535
def RecsOk (l : List Rec) : Prop := ∀ r ∈ l, r.ok
def recs (l : List Rec) : List Value := l.flatMap Rec.cells
theorem recs_get (l : List Rec) (k j : Nat) (hk : k < l.length) (hj : j < 9) : (recs l)[k * 9 + j]? = l[k].cells[j]? := flat_get Rec.cells 9 (fun _ => rfl) l k j hk hj
end Go.Proofs.Ytgmdjhokcipajaa
end
section
set_option linter.unusedVariables false
set_option linter.unusedSimpArgs false
namespace Go.Proofs.Ytgmdjhokcipajaa
open Go.RowKit
/-! A region that draws its order. Its operations are walked in ONE order: pieces of operations that only read (a 'chunk'), and between them the operations that make or turn memory, whose order is forced.
  An operation that only reads may be taken first, since it yields the same in every world that has grown from the one at hand; behind the operations of 'ds' (stores) no such thing is claimed: each of them waits for all that is taken before it. -/
section
variable {P : Program} {ops : Array Oper} {Q : Exit → Act → World → Prop} {md : Region.Mode} {ds : List Nat}

def Later (w w' : World) : Prop := Below w.heap.size w w'
theorem Later.refl (w : World) : Later w w := Below.refl _ _
theorem Later.trans {a b c : World} (h : Later a b) (k : Later b c) : Later a c := below_step h h.size k
theorem below_dd {N : Nat} {a b : World} (h : Below N a b) : Below N a.drew b.drew := ⟨h.os, h.tape, h.output, h.size, h.block⟩
theorem undrew {N : Nat} {W w : World} (h : Below N W.drew w) : Below N W w := ⟨h.os, h.tape, h.output, h.size, h.block⟩
theorem below_two {N : Nat} {W a b : World} (h : Below N W a) (k : Below N W b) (hs : a.heap.size ≤ b.heap.size) : Below N a b :=
  ⟨k.os.trans h.os.symm, k.tape.trans h.tape.symm, k.output.trans h.output.symm, hs, fun i hi => (k.block i hi).trans (h.block i hi).symm⟩
/-- How a world may grow while a region is drawn. -/
class LR (R : World → World → Prop) : Prop where
  refl : ∀ w, R w w
  trans : ∀ {a b c}, R a b → R b c → R a c
instance : LR Later := ⟨Later.refl, Later.trans⟩
instance (N : Nat) : LR (Below N) := ⟨Below.refl N, Below.trans⟩
variable {R : World → World → Prop} [LR R]

/-- Operation d waits for operation i, by a chain of at most 'fuel' edges. -/
def reachB (md : Region.Mode) (ops : Array Oper) (i : Nat) : Nat → Nat → Bool
  | 0, _ => false
  | fuel + 1, d => match ops[d]? with
    | some o => o.after.any fun e => Region.binds md e && (e.on == i || reachB md ops i fuel e.on)
    | none => false

/-- What is listed is closed under the edges. -/
def closedB (md : Region.Mode) (ops : Array Oper) (listed : Array Bool) : Bool :=
  (List.range ops.size).all fun j => !listed.getD j false || match ops[j]? with
    | some o => o.after.all fun e => !Region.binds md e || listed.getD e.on false
    | none => true

/-- Each of ds that has not come up yet waits for number i. -/
def lastB (md : Region.Mode) (ops : Array Oper) (listed : Array Bool) (ds : List Nat) (i : Nat) : Bool :=
  ds.all fun d => listed.getD d true || reachB md ops i ops.size d

def ListedClosed (md : Region.Mode) (ops : Array Oper) (listed : Array Bool) : Prop :=
  ∀ j oj, ops[j]? = some oj → listed.getD j false = true → ∀ e ∈ oj.after, Region.binds md e = true → listed.getD e.on false = true

theorem closed_spec {listed : Array Bool} (h : closedB md ops listed = true) : ListedClosed md ops listed := by
  intro j oj hj hl e he hb
  have hlt : j < ops.size := (Array.getElem?_eq_some_iff.1 hj).1
  have h1 := List.all_eq_true.1 h j (List.mem_range.2 hlt)
  simp only [hl, hj, Bool.not_true, Bool.false_or] at h1
  have h2 := Array.all_eq_true_iff_forall_mem.1 h1 e he
  simpa [hb] using h2

theorem ListedClosed.set {listed : Array Bool} {i : Nat} (h : ListedClosed md ops listed) (hi : i ∈ Region.ready md ops listed) : ListedClosed md ops (listed.setIfInBounds i true) := by
  obtain ⟨_, oi, hoi, hall⟩ := mem_ready.1 hi
  intro j oj hj hl e he hb
  by_cases hij : i = j
  · subst hij
    have : oj = oi := Option.some.inj (hj.symm.trans hoi)
    subst this
    exact getD_set_true (hall e he hb)
  · rw [getD_set_ne false hij] at hl
    exact getD_set_true (h j oj hj hl e he hb)

theorem reach_listed {listed : Array Bool} {i : Nat} (hc : ListedClosed md ops listed) : ∀ (fuel d : Nat), reachB md ops i fuel d = true → listed.getD d false = true → listed.getD i false = true
  | 0, _, h, _ => by simp [reachB] at h
  | fuel + 1, d, h, hl => by
    unfold reachB at h
    cases ho : ops[d]? with
    | none => rw [ho] at h; simp at h
    | some o =>
      rw [ho] at h
      obtain ⟨e, he, h1⟩ := Array.any_eq_true'.1 h
      simp only [Bool.and_eq_true, Bool.or_eq_true, beq_iff_eq] at h1
      have hle := hc d o ho hl e he h1.1
      rcases h1.2 with h2 | h2
      · rw [← h2]; exact hle
      · exact reach_listed hc fuel e.on h2 hle

/-- What waits for i cannot come up before i is listed. -/
theorem reach_not_ready {listed : Array Bool} {i d fuel : Nat} (hc : ListedClosed md ops listed) (hr : reachB md ops i fuel d = true) (hun : listed.getD i true = false) : d ∉ Region.ready md ops listed := by
  intro hd
  obtain ⟨_, o, ho, hall⟩ := mem_ready.1 hd
  have hi : listed.getD i false = true := by
    cases fuel with
    | zero => simp [reachB] at hr
    | succ n =>
      unfold reachB at hr
      rw [ho] at hr
      obtain ⟨e, he, h1⟩ := Array.any_eq_true'.1 hr
      simp only [Bool.and_eq_true, Bool.or_eq_true, beq_iff_eq] at h1
      have hle := hall e he h1.1
      rcases h1.2 with h2 | h2
      · rw [← h2]; exact hle
      · exact reach_listed hc n e.on h2 hle
  rcases Nat.lt_or_ge i listed.size with h' | h'
  · simp [h'] at hun hi
    rw [hun] at hi
    cases hi
  · simp [Array.getElem?_eq_none h'] at hun


def wpAnyM (P : Program) (md : Region.Mode) (ops : Array Oper) (Q : Exit → Act → World → Prop) (ds : List Nat) (R : World → World → Prop) : Nat → Array Bool → Act → World → Prop
  | 0, listed, a, w => Region.ready md ops listed = [] ∧ Q .normal a w
  | fuel + 1, listed, a, w =>
    (Region.ready md ops listed = [] → Q .normal a w) ∧
    ∀ i ∈ Region.ready md ops listed, wpOp P ops Q i (fun a' w' => (i ∉ ds → R w w') ∧ wpAnyM P md ops Q ds R fuel (listed.setIfInBounds i true) a' w') a w

omit [LR R] in
theorem wpAny_of_M : ∀ (fuel : Nat) (listed : Array Bool) (a : Act) (w : World), wpAnyM P md ops Q ds R fuel listed a w → wpAny P md ops Q fuel listed a w
  | 0, _, _, _, h => h
  | fuel + 1, _, _, _, h => ⟨h.1, fun i hi => wpOp_mono (fun a' w' h' => wpAny_of_M fuel _ a' w' h'.2) (h.2 i hi)⟩

/-- In state 'a', in every world that meets S, operation 'o' leaves 'v' in its temporary and the world as it is (a call too). -/
def YieldsX (P : Program) (ops : Array Oper) (S : World → Prop) (o : Oper) (v : Value) (a : Act) : Prop :=
  (Region.wanted o (yielded ops a.tmps) = true ∧ ∀ w, S w → o.quietAt P a (fun w' => w' = w) w v) ∨ (Region.wanted o (yielded ops a.tmps) = false ∧ v = undef)
omit [LR R] in
theorem YieldsX.wpOp {S : World → Prop} {i : Nat} {o : Oper} {v : Value} {a : Act} (hi : ops[i]? = some o) (hy : YieldsX P ops S o v a) {K : Act → World → Prop} {w : World} (hS : S w) (h : K (a.put o.dst v) w) : wpOp P ops Q i K a w := by
  unfold Go.wpOp
  simp only [hi]
  rcases hy with ⟨hw, hv⟩ | ⟨hw, rfl⟩
  · simp only [hw, if_true]
    have h3 := hv w hS
    unfold Oper.quietAt at h3
    refine .inl ?_
    unfold Oper.wp
    generalize (execOp a.eval o).run P w = r at *
    cases r with
    | ok n w' =>
      cases n <;> simp only [Oper.quietUpon] at h3 <;> simp only [Oper.upon]
      case value u => rw [h3.1, h3.2]; exact h
      case skip => rw [h3.1, ← h3.2]; exact h
      case enter f args =>
        obtain ⟨e1, hc⟩ := h3
        rw [e1]
        exact hc.mono fun e w'' ⟨he, hw''⟩ => by subst he; subst hw''; exact h
    | halt x w' => simp only [Oper.quietUpon] at h3
  · simp only [hw, Bool.false_eq_true, if_false]; exact h
omit [LR R] in
theorem YieldsX.of_same {S : World → Prop} {o : Oper} {v : Value} {a a' : Act} (hy : YieldsX P ops S o v a) (he : execOp a'.eval o = execOp a.eval o)
    (hw : Region.wanted o (yielded ops a'.tmps) = Region.wanted o (yielded ops a.tmps)) : YieldsX P ops S o v a' := by
  unfold YieldsX Oper.quietAt at *
  rw [he, hw]
  exact hy
omit [LR R] in
theorem wpOp_putX {S : World → Prop} {j : Nat} {oi oj : Oper} {v : Value} (hj : ops[j]? = some oj) (hap : oi.apart ops oj = true)
    (hsi : ∀ cs b, oi.op ≠ .select cs b) (hsj : ∀ cs b, oj.op ≠ .select cs b)
    (hQ : ∀ c a w, Q (.panic c) (a.put oi.dst v) w → Q (.panic c) a w) {K : Act → World → Prop} {a : Act} {w : World}
    (hy : YieldsX P ops S oi v a) (h : wpOp P ops Q j K (a.put oi.dst v) w) :
    wpOp P ops Q j (fun a' w' => YieldsX P ops S oi v a' ∧ K (a'.put oi.dst v) w') a w := by
  obtain ⟨h1, h2, h3⟩ := Oper.apart_spec hap
  have keep : ∀ (a : Act), YieldsX P ops S oi v a → ∀ u, YieldsX P ops S oi v (a.put oj.dst u) := fun a hy u =>
    hy.of_same (execOp_put oi hsi a oj.dst u h3) (wanted_put oi a oj.dst u h3)
  have keepD : ∀ d, YieldsX P ops S oi v { a with defers := d :: a.defers } := fun d => hy.of_same rfl rfl
  unfold wpOp at *
  simp only [hj] at *
  rw [wanted_put oj a oi.dst v h1] at h
  split
  · rename_i hw
    simp only [hw, if_true] at h
    rcases h with h | ⟨hasks, hlets⟩
    case inr => exact .inr ⟨by unfold Oper.asks at *; rw [execOp_put oj hsj a oi.dst v h1] at hasks; exact hasks, hlets⟩
    refine .inl ?_
    unfold Oper.wp at *
    rw [execOp_put oj hsj a oi.dst v h1] at h
    generalize (execOp a.eval oj).run P w = r at *
    cases r with
    | ok n w' =>
      cases n <;> simp only [Oper.upon] at h ⊢
      case value u => exact ⟨keep a hy u, by rw [← Act.put_comm a v u h2]; exact h⟩
      case skip => exact ⟨keep a hy _, by rw [← Act.put_comm a v undef h2]; exact h⟩
      case defer d =>
        refine ⟨keep _ (keepD d) _, ?_⟩
        rw [← Act.put_comm _ v undef h2, ← Act.put_defers]
        exact h
      case enter f args =>
        refine Calls.mono h fun e w'' he => ?_
        cases e with
        | returned u => exact ⟨keep a hy u, by rw [← Act.put_comm a v u h2]; exact he⟩
        | panicked c => exact hQ _ _ _ he
        | outgrown => exact he
      case row row args => exact Rows.mono h fun u w'' he => ⟨keep a hy u, by rw [← Act.put_comm a v u h2]; exact he⟩
    | halt x w' =>
      cases x <;> simp only [Oper.upon] at h ⊢
      case panic u => exact hQ _ _ _ h
  · rename_i hw
    simp only [hw] at h
    exact ⟨keep a hy _, by rw [← Act.put_comm a v undef h2]; exact h⟩

theorem wpAnyM_first {i : Nat} {oi : Oper} {v : Value} {w0 : World} (hi : ops[i]? = some oi) (hsel : ∀ (j : Nat) (o : Oper) cs b, ops[j]? = some o → o.op ≠ .select cs b)
    (hQ : ∀ c a w, Q (.panic c) (a.put oi.dst v) w → Q (.panic c) a w) (n : Nat) :
    ∀ (fuel : Nat) (listed : Array Bool) (a : Act) (w : World),
      (∀ j oj, ops[j]? = some oj → j ≠ i → listed.getD j true = false → (∀ e ∈ oj.after, Region.binds md e = true → e.on ≠ i) → oi.apart ops oj = true) →
      ListedClosed md ops listed → (∀ d ∈ ds, listed.getD d true = false → reachB md ops i n d = true) →
      i ∈ Region.ready md ops listed → YieldsX P ops (R w0) oi v a → R w0 w →
      wpAnyM P md ops Q ds R fuel (listed.setIfInBounds i true) (a.put oi.dst v) w → wpAnyM P md ops Q ds R (fuel + 1) listed a w := by
  intro fuel
  induction fuel with
  | zero =>
    intro listed a w _ _ _ hr hy hS H
    refine ⟨fun h => (by rw [h] at hr; cases hr), fun j hj => ?_⟩
    by_cases hji : j = i
    · subst hji; exact hy.wpOp hi hS ⟨fun _ => LR.refl _, H⟩
    · have := ready_mono hj hji
      rw [H.1] at this
      cases this
  | succ fuel ih =>
    intro listed a w hfree hc hd hr hy hS H
    refine ⟨fun h => (by rw [h] at hr; cases hr), fun j hj => ?_⟩
    by_cases hji : j = i
    · subst hji; exact hy.wpOp hi hS ⟨fun _ => LR.refl _, H⟩
    · have h1 := H.2 j (ready_mono hj hji)
      obtain ⟨hjun, oj, hoj, hall⟩ := mem_ready.1 hj
      have hiun := (mem_ready.1 hr).1
      have hnot : ∀ e ∈ oj.after, Region.binds md e = true → e.on ≠ i := fun e he hb heq => by
        have h1 := hall e he hb
        rw [heq] at h1
        rcases Nat.lt_or_ge i listed.size with h' | h'
        · simp [h'] at hiun h1; rw [hiun] at h1; cases h1
        · simp [Array.getElem?_eq_none h'] at h1
      have hjd : j ∉ ds := fun hm => reach_not_ready hc (hd j hm hjun) hiun hj
      have h2 := wpOp_putX hoj (hfree j oj hoj hji hjun hnot) (fun cs b => hsel i oi cs b hi) (fun cs b => hsel j oj cs b hoj) hQ hy h1
      have hfree' : ∀ k ok, ops[k]? = some ok → k ≠ i → (listed.setIfInBounds j true).getD k true = false →
          (∀ e ∈ ok.after, Region.binds md e = true → e.on ≠ i) → oi.apart ops ok = true := fun k ok hk hki hun hno => by
        refine hfree k ok hk hki ?_ hno
        by_cases hjk : j = k
        · subst hjk; exact hjun
        · rw [getD_set_ne true hjk] at hun; exact hun
      have hd' : ∀ d ∈ ds, (listed.setIfInBounds j true).getD d true = false → reachB md ops i n d = true := fun d hm hun => by
        refine hd d hm ?_
        by_cases hjk : j = d
        · subst hjk; exact hjun
        · rw [getD_set_ne true hjk] at hun; exact hun
      refine wpOp_mono (fun a' w' h3 => ⟨h3.2.1, ih (listed.setIfInBounds j true) a' w' hfree' (hc.set hj) hd' (ready_mono hr (Ne.symm hji)) h3.1 (LR.trans hS (h3.2.1 hjd)) ?_⟩) h2
      rw [Array.setIfInBounds_comm _ _ hji]
      exact h3.2.2

/-! ### A chunk -/
def wpChunk (P : Program) (ops : Array Oper) : List Oper → Act → World → Act → Prop
  | [], a, _, A => a = A
  | o :: r, a, w, A => if Region.wanted o (yielded ops a.tmps) = true then ∃ v, o.quietAt P a (fun w' => w' = w) w v ∧ wpChunk P ops r (a.put o.dst v) w A else wpChunk P ops r (a.put o.dst undef) w A

/-- What is listed behind a chunk; none: its operations can't be taken so. -/
def chunkAt (md : Region.Mode) (ops : Array Oper) (ds : List Nat) (n : Nat) : List Nat → List Nat → Array Bool → Option (Array Bool)
  | [], _, listed => some listed
  | i :: r, seen, listed =>
    match ops[i]? with
    | none => none
    | some o => match o.dst with
      | none => none
      | some d => if Region.free md ops listed i && (Region.ready md ops listed).contains i && closedB md ops listed && lastB md ops listed ds i && decide (d < n) && !seen.contains d then chunkAt md ops ds n r (d :: seen) (listed.setIfInBounds i true) else none

theorem put_size (a : Act) (d : Option Tmp) (v : Value) : (a.put d v).tmps.size = a.tmps.size := by
  cases d <;> simp [Act.put]
theorem put_getD (a : Act) (d : Tmp) (v : Value) (h : d < a.tmps.size) : (a.put (some d) v).tmps.getD d undef = v := by
  simp [Act.put, h]
theorem put_getD_ne (a : Act) (d e : Tmp) (v : Value) (h : d ≠ e) : (a.put (some d) v).tmps.getD e undef = a.tmps.getD e undef := by
  simp [Act.put, Array.getElem?_setIfInBounds, h]
theorem chunk_keeps {n : Nat} : ∀ (ch : List Nat) (seen : List Nat) (listed listed' : Array Bool), chunkAt md ops ds n ch seen listed = some listed' →
    ∀ (a A : Act) (w : World), wpChunk P ops (ch.filterMap (ops[·]?)) a w A → ∀ e ∈ seen, A.tmps.getD e undef = a.tmps.getD e undef
  | [], _, _, _, _, a, A, w, h, e, _ => by
    have : a = A := h
    rw [this]
  | i :: r, seen, listed, listed', hc, a, A, w, h, e, he => by
    unfold chunkAt at hc
    cases ho : ops[i]? with
    | none => rw [ho] at hc; cases hc
    | some o =>
      rw [ho] at hc
      simp only at hc
      cases hd : o.dst with
      | none => rw [hd] at hc; cases hc
      | some d =>
        rw [hd] at hc
        simp only at hc
        split at hc
        · rename_i hb
          simp only [Bool.and_eq_true, Bool.not_eq_true', List.contains_eq_mem, decide_eq_false_iff_not, decide_eq_true_eq] at hb
          have hne : d ≠ e := fun h => hb.2 (h ▸ he)
          simp only [List.filterMap_cons, ho] at h
          unfold wpChunk at h
          rw [hd] at h
          split at h
          · obtain ⟨v, _, h⟩ := h
            exact (chunk_keeps r (d :: seen) _ _ hc _ A w h e (by simp [he])).trans (put_getD_ne a d e v hne)
          · exact (chunk_keeps r (d :: seen) _ _ hc _ A w h e (by simp [he])).trans (put_getD_ne a d e undef hne)
        · cases hc

theorem draw_chunk {n : Nat} (hs : Region.noSelect ops = true) (hQ : ∀ c (d : Tmp) v a w, Q (.panic c) (a.put (some d) v) w → Q (.panic c) a w) :
    ∀ (ch : List Nat) (seen : List Nat) (listed listed' : Array Bool), chunkAt md ops ds n ch seen listed = some listed' →
    ∀ (fuel : Nat) (a A : Act) (w : World), a.tmps.size = n → (∀ w', R w w' → wpChunk P ops (ch.filterMap (ops[·]?)) a w' A) → wpAnyM P md ops Q ds R fuel listed' A w → wpAnyM P md ops Q ds R (fuel + ch.length) listed a w
  | [], _, listed, listed', hc, fuel, a, A, w, _, h, hn => by
    simp only [chunkAt, Option.some.injEq] at hc
    subst hc
    have : a = A := h w (LR.refl w)
    subst this
    exact hn
  | i :: r, seen, listed, listed', hc, fuel, a, A, w, hn, h, hnext => by
    unfold chunkAt at hc
    cases ho : ops[i]? with
    | none => rw [ho] at hc; cases hc
    | some o =>
      rw [ho] at hc
      simp only at hc
      cases hd : o.dst with
      | none => rw [hd] at hc; cases hc
      | some d =>
        rw [hd] at hc
        simp only at hc
        split at hc
        · rename_i hb
          simp only [Bool.and_eq_true, Bool.not_eq_true', List.contains_eq_mem, decide_eq_false_iff_not, decide_eq_true_eq] at hb
          obtain ⟨⟨⟨⟨⟨b1, b2⟩, b3⟩, b4⟩, b5⟩, b6⟩ := hb
          simp only [List.filterMap_cons, ho] at h
          have hl : ∀ d' ∈ ds, listed.getD d' true = false → reachB md ops i ops.size d' = true := fun d' hm hun => by
            have := List.all_eq_true.1 b4 d' hm
            rw [hun] at this
            simpa using this
          by_cases hw : Region.wanted o (yielded ops a.tmps) = true
          · have key : ∀ w', R w w' → ∃ v, o.quietAt P a (fun w'' => w'' = w') w' v ∧ wpChunk P ops (r.filterMap (ops[·]?)) (a.put o.dst v) w' A := fun w' hw' => by
              have := h w' hw'
              unfold wpChunk at this
              rw [if_pos hw] at this
              exact this
            have hv : ∀ w', R w w' → o.quietAt P a (fun w'' => w'' = w') w' (A.tmps.getD d undef) ∧ wpChunk P ops (r.filterMap (ops[·]?)) (a.put o.dst (A.tmps.getD d undef)) w' A := fun w' hw' => by
              obtain ⟨v, e1, e2⟩ := key w' hw'
              have : A.tmps.getD d undef = v := by
                rw [hd] at e2
                rw [chunk_keeps r (d :: seen) _ _ hc _ A w' e2 d (by simp), put_getD a d v (by rw [hn]; exact b5)]
              rw [this]
              exact ⟨e1, e2⟩
            have ih := draw_chunk hs hQ r (d :: seen) _ _ hc fuel (a.put o.dst (A.tmps.getD d undef)) A w (by rw [put_size]; exact hn) (fun w' hw' => (hv w' hw').2) hnext
            exact wpAnyM_first ho (Region.noSelect_spec hs) (fun c a w => by rw [hd]; exact hQ c _ _ a w) ops.size (fuel + r.length) listed a w (Region.free_spec ho b1) (closed_spec b3) hl (by simpa using b2)
              (.inl ⟨hw, fun w' hw' => (hv w' hw').1⟩) (LR.refl w) ih
          · have hw' : Region.wanted o (yielded ops a.tmps) = false := by simpa using hw
            have ih := draw_chunk hs hQ r (d :: seen) _ _ hc fuel (a.put o.dst undef) A w (by rw [put_size]; exact hn) (fun w' hw'' => by
              have := h w' hw''
              unfold wpChunk at this
              rw [if_neg hw] at this
              exact this) hnext
            exact wpAnyM_first ho (Region.noSelect_spec hs) (fun c a w => by rw [hd]; exact hQ c _ _ a w) ops.size (fuel + r.length) listed a w (Region.free_spec ho b1) (closed_spec b3) hl (by simpa using b2)
              (.inr ⟨hw', rfl⟩) (LR.refl w) ih
        · cases hc
theorem at_drop {i : Nat} {o : Oper} {t : List Oper} (h : ops.toList.drop i = o :: t) : ops[i]? = some o := by
  have : (ops.toList.drop i)[0]? = some o := by rw [h]; rfl
  rw [List.getElem?_drop] at this
  simpa using this
omit [LR R] in
/-- An operation that makes or turns memory: nothing else may come up. -/
theorem draw_eff {i : Nat} {o : Oper} {t : List Oper} {fuel : Nat} {listed listed' : Array Bool} {a : Act} {w : World} (ho : ops.toList.drop i = o :: t) (hr : (Region.ready md ops listed == [i]) = true) (hl : listed.setIfInBounds i true = listed')
    (h : ∀ K : Act → World → Prop, (∀ a' w', ((i ∉ ds → R w w') ∧ wpAnyM P md ops Q ds R fuel listed' a' w') → K a' w') → wpList P ops (Exit.then K Q) [o] a w) : wpAnyM P md ops Q ds R (fuel + 1) listed a w := by
  subst hl
  replace h := h _ fun _ _ h => h
  replace ho := at_drop ho
  have hr' : Region.ready md ops listed = [i] := by simpa using hr
  refine ⟨fun h0 => (by rw [hr'] at h0; cases h0), fun j hj => ?_⟩
  rw [hr'] at hj
  obtain rfl : j = i := by simpa using hj
  unfold wpOp
  rw [ho]
  unfold wpList at h
  simp only
  split
  · rename_i hw
    rw [if_pos hw] at h
    rcases h with h | ⟨h1, a0, w0, h2⟩
    · refine .inl ?_
      unfold Oper.wp at *
      generalize (execOp a.eval o).run P w = r at *
      cases r with
      | ok n w' =>
        cases n <;> simp only [Oper.upon] at h ⊢
        case value => exact h
        case skip => exact h
        case defer => exact h
        case enter =>
          refine Calls.mono h fun e w'' he => ?_
          cases e with
          | returned u => exact he
          | panicked c => exact he
          | outgrown => exact he
        case row => exact Rows.mono h fun u w'' he => he
      | halt x w' => cases x <;> simp only [Oper.upon] at h ⊢ <;> exact h
    · exact .inr ⟨h1, a0, w0, h2⟩
  · rename_i hw
    rw [if_neg hw] at h
    unfold wpList at h
    exact h
omit [LR R] in
theorem draw_done {listed : Array Bool} {a : Act} {w : World} (hr : (Region.ready md ops listed == []) = true) (h : Q .normal a w) : ∀ fuel, wpAnyM P md ops Q ds R fuel listed a w
  | 0 => ⟨by simpa using hr, h⟩
  | _ + 1 => ⟨fun _ => h, by rw [show Region.ready md ops listed = [] by simpa using hr]; simp⟩
theorem ci_step {i : Nat} {r : List Nat} {o : Oper} {t : List Oper} {v : Value} {a A : Act} {w : World} (ho : ops.toList.drop i = o :: t) (hw : Region.wanted o (yielded ops a.tmps) = true) (hr : (execOp a.eval o).run P w = .ok (.value v) w)
    (h : wpChunk P ops (r.filterMap (ops[·]?)) (a.put o.dst v) w A) : wpChunk P ops ((i :: r).filterMap (ops[·]?)) a w A := by
  simp only [List.filterMap_cons, at_drop ho]
  unfold wpChunk
  rw [if_pos hw]
  exact ⟨v, by unfold Oper.quietAt; rw [hr]; exact ⟨rfl, rfl⟩, h⟩
/-- A call that leaves the world as it is. -/
theorem ci_call {i : Nat} {r : List Nat} {o : Oper} {t : List Oper} {v : Value} {a A : Act} {w : World} {f : FuncId} {args : Array Value} (ho : ops.toList.drop i = o :: t) (hw : Region.wanted o (yielded ops a.tmps) = true) (hr : (execOp a.eval o).run P w = .ok (.enter f args) w)
    (hc : Calls P f args w fun e w' => e = .returned v ∧ w' = w) (h : wpChunk P ops (r.filterMap (ops[·]?)) (a.put o.dst v) w A) : wpChunk P ops ((i :: r).filterMap (ops[·]?)) a w A := by
  simp only [List.filterMap_cons, at_drop ho]
  unfold wpChunk
  rw [if_pos hw]
  exact ⟨v, by unfold Oper.quietAt; rw [hr]; exact ⟨rfl, hc⟩, h⟩
theorem ci_off {i : Nat} {r : List Nat} {o : Oper} {t : List Oper} {a A : Act} {w : World} (ho : ops.toList.drop i = o :: t) (hw : Region.wanted o (yielded ops a.tmps) = false)
    (h : wpChunk P ops (r.filterMap (ops[·]?)) (a.put o.dst undef) w A) : wpChunk P ops ((i :: r).filterMap (ops[·]?)) a w A := by
  simp only [List.filterMap_cons, at_drop ho]
  unfold wpChunk
  rw [if_neg (by simp [hw])]
  exact h
theorem ci_end {a A : Act} {w : World} (h : a = A) : wpChunk P ops (([] : List Nat).filterMap (ops[·]?)) a w A := h
theorem draw_start {id : Nat} {a : Act} {w : World} (ds : List Nat) (R : World → World → Prop) (hm : P.follows .mixedOrders = true)
    (h : wpAnyM P .any ops Q ds R ops.size (Array.replicate ops.size false) a w.drew) : (Code.region id ops true).wp P Q a w :=
  wp_region_any hm (wpAny_of_M _ _ _ _ h)
end
attribute [irreducible] wpChunk wpAnyM
end Go.Proofs.Ytgmdjhokcipajaa
end
section
set_option linter.unusedVariables false
set_option linter.unusedSimpArgs false
namespace Go.Proofs.Ytgmdjhokcipajaa
open Go.RowKit

def Rec.bare (r : Rec) : Rec :=
  if r.kind = 1 then ⟨1, r.gen, r.lsn, r.id, 0, 0, false, 0, 0⟩ else if r.kind = 2 then ⟨2, r.gen, r.lsn, 0, r.a, r.l, r.on, 0, 0⟩ else if r.kind = 3 then ⟨3, r.gen, r.lsn, 0, 0, 0, false, r.s, 0⟩
  else if r.kind = 4 then ⟨4, r.gen, r.lsn, r.id, r.a, r.l, false, r.s, r.m⟩ else ⟨r.kind, r.gen, r.lsn, 0, 0, 0, false, 0, 0⟩
set_option maxHeartbeats 4000000 in
theorem rec_bare (r : Rec) (w : World) : Calls Try.prog 49 #[r.val] w fun e w' => e = .returned r.bare.val ∧ Below w.heap.size w w' := by
  obtain ⟨kind, gen, lsn, rid, a, l, on, rs, rm⟩ := r
  simp only [Rec.val]
  by_cases k1 : kind = 1
  · subst k1
    have HF := Lib.hid (show (Rec.mk 1 gen lsn rid a l on rs rm).bare.arr = Rec.arr ⟨1, gen, lsn, rid, 0, 0, false, 0, 0⟩ from rfl)
    simp only [Rec.arr]
    go_enter Try.func49, Try.ntmps49
    go_wp2
    refine bodyPost_ret (v := .agg (Rec.arr ⟨1, gen, lsn, rid, 0, 0, false, 0, 0⟩)) (by simp [results, Try.results49, go_sem, Rec.arr]) rfl ⟨congrArg (fun x => Ending.returned (Value.agg x)) HF.out.symm, ?_⟩
    first | exact (((Below.refl _ _).alloc (Nat.le_refl _) _).alloc (by simp) _).alloc (by simp; omega) _ | exact Below.drew ((((Below.refl _ _).alloc (Nat.le_refl _) _).alloc (by simp) _).alloc (by simp; omega) _)
  by_cases k2 : kind = 2
  · subst k2
    have HF := Lib.hid (show (Rec.mk 2 gen lsn rid a l on rs rm).bare.arr = Rec.arr ⟨2, gen, lsn, 0, a, l, on, 0, 0⟩ from rfl)
    simp only [Rec.arr]
    go_enter Try.func49, Try.ntmps49
    go_wp2_with fail
    refine draw_start [] (Below (w.heap.size + 1)) (by kernel_rfl) ?_
    refine draw_chunk (n := 45) (by kernel_rfl) (fun _ _ _ _ _ h => h) [0, 1, 2, 3, 4] [] _ #[true, true, true, true, true, false, false, false] (by kernel_rfl) 3 _ ?_ _ rfl ?_ ?_
    rotate_left
    · intro w' hw'
      have hc' : ∀ b o, b < (w.heap.size + 1) → w'.cell? ⟨b, o, none⟩ = ((((w.alloc (.cells #[.int .i64 2, .int .u32 gen, .int .u32 lsn, .int .u32 rid, .int .u32 a, .int .i64 l, .bool on, .int .u32 rs, .int .u16 rm] 50)).alloc (.cells #[.int .i64 0, .int .u32 0, .int .u32 0, .int .u32 0, .int .u32 0, .int .i64 0, .bool false, .int .u32 0, .int .u16 0] 50)).alloc (.cells #[.int .i64 2, .int .u32 gen, .int .u32 lsn, .int .u32 0, .int .u32 0, .int .i64 0, .bool false, .int .u32 0, .int .u16 0] 50)).drew).cell? ⟨b, o, none⟩ := fun b o h => hw'.cell (p := ⟨b, o, none⟩) h
      refine ci_step (i := 0) (v := ?_) rfl (by kernel_rfl) ?_ ?_
      rotate_left
      · first | (go_simp; done) | (go_simp; with_reducible rfl)
      skip
      try simp only [Act.put, List.setIfInBounds_toArray, List.set_cons_zero, List.set_cons_succ]
      refine ci_step (i := 1) (v := ?_) rfl (by kernel_rfl) ?_ ?_
      rotate_left
      · first | (go_simp; done) | (go_simp; with_reducible rfl)
      skip
      try simp only [Act.put, List.setIfInBounds_toArray, List.set_cons_zero, List.set_cons_succ]
      refine ci_step (i := 2) (v := ?_) rfl (by kernel_rfl) ?_ ?_
      rotate_left
      · first | (go_simp; done) | (go_simp; with_reducible rfl)
      skip
      try simp only [Act.put, List.setIfInBounds_toArray, List.set_cons_zero, List.set_cons_succ]
      refine ci_step (i := 3) (v := ?_) rfl (by kernel_rfl) ?_ ?_
      rotate_left
      · first | (go_simp; done) | (go_simp; with_reducible rfl)
      skip
      try simp only [Act.put, List.setIfInBounds_toArray, List.set_cons_zero, List.set_cons_succ]
      refine ci_step (i := 4) (v := ?_) rfl (by kernel_rfl) ?_ ?_
      rotate_left
      · first | (go_simp; done) | (go_simp; with_reducible rfl)
      skip
      try simp only [Act.put, List.setIfInBounds_toArray, List.set_cons_zero, List.set_cons_succ]
      refine ci_end ?_
      rfl
    refine draw_eff (i := 5) rfl (by kernel_rfl) (listed' := #[true, true, true, true, true, true, false, false]) rfl (fun K hK => ?_)
    replace hK := Lib.hid hK
    go_wp2_with fail
    refine hK.out _ _ ⟨fun _ => below_dd (below_two (W := w.alloc (.cells #[.int .i64 2, .int .u32 gen, .int .u32 lsn, .int .u32 rid, .int .u32 a, .int .i64 l, .bool on, .int .u32 rs, .int .u16 rm] 50)) (((Below.refl _ _).alloc (by simp) _).alloc (by simp) _) (((Below.refl _ _).alloc (by simp) _).alloc (by simp) _) (by simp)), ?_⟩
    clear hK
    refine draw_chunk (n := 45) (by kernel_rfl) (fun _ _ _ _ _ h => h) [6] [] _ #[true, true, true, true, true, true, true, false] (by kernel_rfl) 1 _ ?_ _ rfl ?_ ?_
    rotate_left
    · intro w' hw'
      have hc' : ∀ b o, b < (w.heap.size + 1) → w'.cell? ⟨b, o, none⟩ = ((((w.alloc (.cells #[.int .i64 2, .int .u32 gen, .int .u32 lsn, .int .u32 rid, .int .u32 a, .int .i64 l, .bool on, .int .u32 rs, .int .u16 rm] 50)).alloc (.cells #[.int .i64 0, .int .u32 0, .int .u32 0, .int .u32 0, .int .u32 0, .int .i64 0, .bool false, .int .u32 0, .int .u16 0] 50)).alloc (.cells #[.int .i64 2, .int .u32 gen, .int .u32 lsn, .int .u32 0, .int .u32 a, .int .i64 l, .bool false, .int .u32 0, .int .u16 0] 50)).drew).cell? ⟨b, o, none⟩ := fun b o h => hw'.cell (p := ⟨b, o, none⟩) h
      refine ci_step (i := 6) (v := ?_) rfl (by kernel_rfl) ?_ ?_
      rotate_left
      · first | (go_simp; done) | (go_simp; with_reducible rfl)
      skip
      try simp only [Act.put, List.setIfInBounds_toArray, List.set_cons_zero, List.set_cons_succ]
      refine ci_end ?_
      rfl
    refine draw_eff (i := 7) rfl (by kernel_rfl) (listed' := #[true, true, true, true, true, true, true, true]) rfl (fun K hK => ?_)
    replace hK := Lib.hid hK
    go_wp2_with fail
    refine hK.out _ _ ⟨fun _ => below_dd (below_two (W := w.alloc (.cells #[.int .i64 2, .int .u32 gen, .int .u32 lsn, .int .u32 rid, .int .u32 a, .int .i64 l, .bool on, .int .u32 rs, .int .u16 rm] 50)) (((Below.refl _ _).alloc (by simp) _).alloc (by simp) _) (((Below.refl _ _).alloc (by simp) _).alloc (by simp) _) (by simp)), ?_⟩
    clear hK
    refine draw_done (by kernel_rfl) ?_ _
    go_wp2
    refine bodyPost_ret (v := .agg (Rec.arr ⟨2, gen, lsn, 0, a, l, on, 0, 0⟩)) (by simp [results, Try.results49, go_sem, Rec.arr]) rfl ⟨congrArg (fun x => Ending.returned (Value.agg x)) HF.out.symm, ?_⟩
    first | exact (((Below.refl _ _).alloc (Nat.le_refl _) _).alloc (by simp) _).alloc (by simp; omega) _ | exact Below.drew ((((Below.refl _ _).alloc (Nat.le_refl _) _).alloc (by simp) _).alloc (by simp; omega) _)
  by_cases k3 : kind = 3
  · subst k3
    have HF := Lib.hid (show (Rec.mk 3 gen lsn rid a l on rs rm).bare.arr = Rec.arr ⟨3, gen, lsn, 0, 0, 0, false, rs, 0⟩ from rfl)
    simp only [Rec.arr]
    go_enter Try.func49, Try.ntmps49
    go_wp2
    refine bodyPost_ret (v := .agg (Rec.arr ⟨3, gen, lsn, 0, 0, 0, false, rs, 0⟩)) (by simp [results, Try.results49, go_sem, Rec.arr]) rfl ⟨congrArg (fun x => Ending.returned (Value.agg x)) HF.out.symm, ?_⟩
    first | exact (((Below.refl _ _).alloc (Nat.le_refl _) _).alloc (by simp) _).alloc (by simp; omega) _ | exact Below.drew ((((Below.refl _ _).alloc (Nat.le_refl _) _).alloc (by simp) _).alloc (by simp; omega) _)
  by_cases k4 : kind = 4
  · subst k4
    have HF := Lib.hid (show (Rec.mk 4 gen lsn rid a l on rs rm).bare.arr = Rec.arr ⟨4, gen, lsn, rid, a, l, false, rs, rm⟩ from rfl)
    simp only [Rec.arr]
    go_enter Try.func49, Try.ntmps49
    go_wp2_with fail
    refine draw_start [] (Below (w.heap.size + 1)) (by kernel_rfl) ?_
    refine draw_chunk (n := 45) (by kernel_rfl) (fun _ _ _ _ _ h => h) [0, 1, 2, 3, 4, 5, 6] [] _ #[true, true, true, true, true, true, true, false, false, false, false, false] (by kernel_rfl) 5 _ ?_ _ rfl ?_ ?_
    rotate_left
    · intro w' hw'
      have hc' : ∀ b o, b < (w.heap.size + 1) → w'.cell? ⟨b, o, none⟩ = ((((w.alloc (.cells #[.int .i64 4, .int .u32 gen, .int .u32 lsn, .int .u32 rid, .int .u32 a, .int .i64 l, .bool on, .int .u32 rs, .int .u16 rm] 50)).alloc (.cells #[.int .i64 0, .int .u32 0, .int .u32 0, .int .u32 0, .int .u32 0, .int .i64 0, .bool false, .int .u32 0, .int .u16 0] 50)).alloc (.cells #[.int .i64 4, .int .u32 gen, .int .u32 lsn, .int .u32 0, .int .u32 0, .int .i64 0, .bool false, .int .u32 0, .int .u16 0] 50)).drew).cell? ⟨b, o, none⟩ := fun b o h => hw'.cell (p := ⟨b, o, none⟩) h
      refine ci_step (i := 0) (v := ?_) rfl (by kernel_rfl) ?_ ?_
      rotate_left
      · first | (go_simp; done) | (go_simp; with_reducible rfl)
      skip
      try simp only [Act.put, List.setIfInBounds_toArray, List.set_cons_zero, List.set_cons_succ]
      refine ci_step (i := 1) (v := ?_) rfl (by kernel_rfl) ?_ ?_
      rotate_left
      · first | (go_simp; done) | (go_simp; with_reducible rfl)
      skip
      try simp only [Act.put, List.setIfInBounds_toArray, List.set_cons_zero, List.set_cons_succ]
      refine ci_step (i := 2) (v := ?_) rfl (by kernel_rfl) ?_ ?_
      rotate_left
      · first | (go_simp; done) | (go_simp; with_reducible rfl)
      skip
      try simp only [Act.put, List.setIfInBounds_toArray, List.set_cons_zero, List.set_cons_succ]
      refine ci_step (i := 3) (v := ?_) rfl (by kernel_rfl) ?_ ?_
      rotate_left
      · first | (go_simp; done) | (go_simp; with_reducible rfl)
      skip
      try simp only [Act.put, List.setIfInBounds_toArray, List.set_cons_zero, List.set_cons_succ]
      refine ci_step (i := 4) (v := ?_) rfl (by kernel_rfl) ?_ ?_
      rotate_left
      · first | (go_simp; done) | (go_simp; with_reducible rfl)
      skip
      try simp only [Act.put, List.setIfInBounds_toArray, List.set_cons_zero, List.set_cons_succ]
      refine ci_step (i := 5) (v := ?_) rfl (by kernel_rfl) ?_ ?_
      rotate_left
      · first | (go_simp; done) | (go_simp; with_reducible rfl)
      skip
      try simp only [Act.put, List.setIfInBounds_toArray, List.set_cons_zero, List.set_cons_succ]
      refine ci_step (i := 6) (v := ?_) rfl (by kernel_rfl) ?_ ?_
      rotate_left
      · first | (go_simp; done) | (go_simp; with_reducible rfl)
      skip
      try simp only [Act.put, List.setIfInBounds_toArray, List.set_cons_zero, List.set_cons_succ]
      refine ci_end ?_
      rfl
    refine draw_eff (i := 7) rfl (by kernel_rfl) (listed' := #[true, true, true, true, true, true, true, true, false, false, false, false]) rfl (fun K hK => ?_)
    replace hK := Lib.hid hK
    go_wp2_with fail
    refine hK.out _ _ ⟨fun _ => below_dd (below_two (W := w.alloc (.cells #[.int .i64 4, .int .u32 gen, .int .u32 lsn, .int .u32 rid, .int .u32 a, .int .i64 l, .bool on, .int .u32 rs, .int .u16 rm] 50)) (((Below.refl _ _).alloc (by simp) _).alloc (by simp) _) (((Below.refl _ _).alloc (by simp) _).alloc (by simp) _) (by simp)), ?_⟩
    clear hK
    refine draw_chunk (n := 45) (by kernel_rfl) (fun _ _ _ _ _ h => h) [8] [] _ #[true, true, true, true, true, true, true, true, true, false, false, false] (by kernel_rfl) 3 _ ?_ _ rfl ?_ ?_
    rotate_left
    · intro w' hw'
      have hc' : ∀ b o, b < (w.heap.size + 1) → w'.cell? ⟨b, o, none⟩ = ((((w.alloc (.cells #[.int .i64 4, .int .u32 gen, .int .u32 lsn, .int .u32 rid, .int .u32 a, .int .i64 l, .bool on, .int .u32 rs, .int .u16 rm] 50)).alloc (.cells #[.int .i64 0, .int .u32 0, .int .u32 0, .int .u32 0, .int .u32 0, .int .i64 0, .bool false, .int .u32 0, .int .u16 0] 50)).alloc (.cells #[.int .i64 4, .int .u32 gen, .int .u32 lsn, .int .u32 rid, .int .u32 0, .int .i64 0, .bool false, .int .u32 0, .int .u16 0] 50)).drew).cell? ⟨b, o, none⟩ := fun b o h => hw'.cell (p := ⟨b, o, none⟩) h
      refine ci_step (i := 8) (v := ?_) rfl (by kernel_rfl) ?_ ?_
      rotate_left
      · first | (go_simp; done) | (go_simp; with_reducible rfl)
      skip
      try simp only [Act.put, List.setIfInBounds_toArray, List.set_cons_zero, List.set_cons_succ]
      refine ci_end ?_
      rfl
    refine draw_eff (i := 9) rfl (by kernel_rfl) (listed' := #[true, true, true, true, true, true, true, true, true, true, false, false]) rfl (fun K hK => ?_)
    replace hK := Lib.hid hK
    go_wp2_with fail
    refine hK.out _ _ ⟨fun _ => below_dd (below_two (W := w.alloc (.cells #[.int .i64 4, .int .u32 gen, .int .u32 lsn, .int .u32 rid, .int .u32 a, .int .i64 l, .bool on, .int .u32 rs, .int .u16 rm] 50)) (((Below.refl _ _).alloc (by simp) _).alloc (by simp) _) (((Below.refl _ _).alloc (by simp) _).alloc (by simp) _) (by simp)), ?_⟩
    clear hK
    refine draw_chunk (n := 45) (by kernel_rfl) (fun _ _ _ _ _ h => h) [10] [] _ #[true, true, true, true, true, true, true, true, true, true, true, false] (by kernel_rfl) 1 _ ?_ _ rfl ?_ ?_
    rotate_left
    · intro w' hw'
      have hc' : ∀ b o, b < (w.heap.size + 1) → w'.cell? ⟨b, o, none⟩ = ((((w.alloc (.cells #[.int .i64 4, .int .u32 gen, .int .u32 lsn, .int .u32 rid, .int .u32 a, .int .i64 l, .bool on, .int .u32 rs, .int .u16 rm] 50)).alloc (.cells #[.int .i64 0, .int .u32 0, .int .u32 0, .int .u32 0, .int .u32 0, .int .i64 0, .bool false, .int .u32 0, .int .u16 0] 50)).alloc (.cells #[.int .i64 4, .int .u32 gen, .int .u32 lsn, .int .u32 rid, .int .u32 a, .int .i64 l, .bool false, .int .u32 0, .int .u16 0] 50)).drew).cell? ⟨b, o, none⟩ := fun b o h => hw'.cell (p := ⟨b, o, none⟩) h
      refine ci_step (i := 10) (v := ?_) rfl (by kernel_rfl) ?_ ?_
      rotate_left
      · first | (go_simp; done) | (go_simp; with_reducible rfl)
      skip
      try simp only [Act.put, List.setIfInBounds_toArray, List.set_cons_zero, List.set_cons_succ]
      refine ci_end ?_
      rfl
    refine draw_eff (i := 11) rfl (by kernel_rfl) (listed' := #[true, true, true, true, true, true, true, true, true, true, true, true]) rfl (fun K hK => ?_)
    replace hK := Lib.hid hK
    go_wp2_with fail
    refine hK.out _ _ ⟨fun _ => below_dd (below_two (W := w.alloc (.cells #[.int .i64 4, .int .u32 gen, .int .u32 lsn, .int .u32 rid, .int .u32 a, .int .i64 l, .bool on, .int .u32 rs, .int .u16 rm] 50)) (((Below.refl _ _).alloc (by simp) _).alloc (by simp) _) (((Below.refl _ _).alloc (by simp) _).alloc (by simp) _) (by simp)), ?_⟩
    clear hK
    refine draw_done (by kernel_rfl) ?_ _
    go_wp2
    refine bodyPost_ret (v := .agg (Rec.arr ⟨4, gen, lsn, rid, a, l, false, rs, rm⟩)) (by simp [results, Try.results49, go_sem, Rec.arr]) rfl ⟨congrArg (fun x => Ending.returned (Value.agg x)) HF.out.symm, ?_⟩
    first | exact (((Below.refl _ _).alloc (Nat.le_refl _) _).alloc (by simp) _).alloc (by simp; omega) _ | exact Below.drew ((((Below.refl _ _).alloc (Nat.le_refl _) _).alloc (by simp) _).alloc (by simp; omega) _)
  · have k1' : (kind == 1) = false := by simpa using k1
    have k2' : (kind == 2) = false := by simpa using k2
    have k3' : (kind == 3) = false := by simpa using k3
    have k4' : (kind == 4) = false := by simpa using k4
    have HF := Lib.hid (show (Rec.mk kind gen lsn rid a l on rs rm).bare.arr = Rec.arr ⟨kind, gen, lsn, 0, 0, 0, false, 0, 0⟩ by simp [Rec.bare, k1, k2, k3, k4])
    clear k1 k2 k3 k4
    simp only [Rec.arr]
    go_enter Try.func49, Try.ntmps49
    go_wp2
    refine bodyPost_ret (v := .agg (Rec.arr ⟨kind, gen, lsn, 0, 0, 0, false, 0, 0⟩)) (by simp [results, Try.results49, go_sem, Rec.arr]) rfl ⟨congrArg (fun x => Ending.returned (Value.agg x)) HF.out.symm, ?_⟩
    first | exact (((Below.refl _ _).alloc (Nat.le_refl _) _).alloc (by simp) _).alloc (by simp; omega) _ | exact Below.drew ((((Below.refl _ _).alloc (Nat.le_refl _) _).alloc (by simp) _).alloc (by simp; omega) _)
end Go.Proofs.Ytgmdjhokcipajaa
end
section
set_option linter.unusedVariables false
set_option linter.unusedSimpArgs false
namespace Go.Proofs.Ytgmdjhokcipajaa
open Go.RowKit
/-! A map in memory, read as a list of keys and values. -/
section
variable {P : Program} {α β : Type}

/-- The first place of a key, from a number on. -/
def locate [DecidableEq α] (ev : β → Value) (k : α) : List (α × β) → Nat → Option (Nat × Value)
  | [], _ => none
  | x :: m, i => if k = x.1 then some (i, ev x.2) else locate ev k m (i + 1)
def getM [DecidableEq α] (m : List (α × β)) (k : α) : Option β := (m.find? fun x => decide (k = x.1)).map (·.2)
def updM [DecidableEq α] : List (α × β) → α → β → List (α × β)
  | [], k, v => [(k, v)]
  | x :: m, k, v => if k = x.1 then (k, v) :: m else x :: updM m k v
def delM [DecidableEq α] : List (α × β) → α → List (α × β)
  | [], _ => []
  | x :: m, k => if k = x.1 then m else x :: delM m k

/-- How keys of a type lie: what the model's own search, its test and its 'same bits' say of them. -/
structure Keys [DecidableEq α] (P : Program) (T : TypeId) (ek : α → Value) : Prop where
  find : ∀ (β : Type) (ev : β → Value) (k : α) (es : List MapEntry) (m : List (α × β)) (w : World), es.map (fun e => (e.key, e.val)) = m.map (fun x => (ek x.1, ev x.2)) → (Instr.findKey T (ek k) es).run P w = .ok (locate ev k m 0) w
  check : ∀ (k : α) (em : Bool) (w : World), (Instr.checkKey em 10000 T (ek k)).run P w = .ok () w
  same : ∀ k : α, Instr.sameBits 10000 (ek k) (ek k) = true

theorem run_findAsking [DecidableEq α] {T : TypeId} {ek : α → Value} (heq : ∀ (a b : α) (w : World), (Op.equal T (ek a) (ek b)).run P w = .ok (decide (a = b)) w) (ev : β → Value) (k : α) (w : World) :
    ∀ (es : List MapEntry) (m : List (α × β)) (i : Nat), es.map (fun e => (e.key, e.val)) = m.map (fun x => (ek x.1, ev x.2)) → (Instr.findAsking T (ek k) es i).run P w = .ok (locate ev k m i) w
  | [], [], i, _ => by simp [Instr.findAsking, locate]
  | [], _ :: _, _, h => by simp at h
  | _ :: _, [], _, h => by simp at h
  | e :: es, x :: m, i, h => by
    simp only [List.map_cons, List.cons.injEq, Prod.mk.injEq] at h
    have ih := run_findAsking heq ev k w es m (i + 1) h.2
    have h1 := heq k x.1 w
    rw [← h.1.1] at h1
    by_cases hk : k = x.1
    · rw [decide_eq_true hk] at h1
      simp [Instr.findAsking, locate, h1, h.1.2, hk]
      simp [Instr.findAsking, h1, h.1.2, ← hk]
    · rw [decide_eq_false hk] at h1
      simp [Instr.findAsking, locate, h1, hk, ih]
theorem Keys.of_struct [DecidableEq α] {T : TypeId} {ek : α → Value} {fs : Array Field} (hu : P.underlying T = some (.struct fs)) (heq : ∀ (a b : α) (w : World), (Op.equal T (ek a) (ek b)).run P w = .ok (decide (a = b)) w)
    (hc : ∀ (k : α) (em : Bool) (w : World), (Instr.checkKey em 10000 T (ek k)).run P w = .ok () w) (hs : ∀ k : α, Instr.sameBits 10000 (ek k) (ek k) = true) : Keys P T ek where
  find := by
    intro β ev k es m w h
    have h1 := run_findAsking heq ev k w es m 0 h
    cases es with
    | nil =>
      cases m with
      | nil => simp [Instr.findKey, run_underlying hu, Instr.findNow, locate]
      | cons x m => simp at h
    | cons e es => simp [Instr.findKey, run_underlying hu, Instr.findNow, Instr.sameNow, h1]
  check := hc
  same := hs
theorem findNow_int [DecidableEq α] {kd : IntKind} (g : α → Int) (hg : ∀ a b, g a = g b → a = b) (ev : β → Value) (k : α) : ∀ (es : List MapEntry) (m : List (α × β)) (i : Nat), es.map (fun e => (e.key, e.val)) = m.map (fun x => ((Value.int kd (g x.1)), ev x.2)) →
    Instr.findNow (.int kd) (.int kd (g k)) es i = some (locate ev k m i)
  | [], [], i, _ => rfl
  | [], _ :: _, _, h => by simp at h
  | _ :: _, [], _, h => by simp at h
  | e :: es, x :: m, i, h => by
    simp only [List.map_cons, List.cons.injEq, Prod.mk.injEq] at h
    have ih := findNow_int g hg ev k es m (i + 1) h.2
    obtain ⟨⟨h1, h2⟩, h3⟩ := h
    by_cases hk : k = x.1
    · subst hk
      simp [Instr.findNow, locate, Instr.sameNow, h1, h2]
    · have : (g k == g x.1) = false := by simpa using fun h => hk (hg _ _ h)
      simp [Instr.findNow, locate, Instr.sameNow, h1, this, hk, ih]
theorem same_int (n : Nat) (kd : IntKind) (x : Int) : Instr.sameBits n (.int kd x) (.int kd x) = true := by cases n <;> simp [Instr.sameBits]
theorem check_int {T : TypeId} {kd : IntKind} (hu : P.underlying T = some (.int kd)) (em : Bool) (n : Nat) (x : Int) (w : World) : (Instr.checkKey em (n + 1) T (.int kd x)).run P w = .ok () w := by simp [Instr.checkKey, run_underlying hu]
theorem Keys.of_int [DecidableEq α] {T : TypeId} {kd : IntKind} (g : α → Int) (hg : ∀ a b, g a = g b → a = b) (hu : P.underlying T = some (.int kd)) : Keys P T (fun a => Value.int kd (g a)) where
  find := by
    intro β ev k es m w h
    have h1 := findNow_int (kd := kd) g hg ev k es m 0 h
    simp [Instr.findKey, run_underlying hu, h1]
  check := by
    intro k em w
    exact check_int hu em 9999 _ w
  same := by
    intro k
    exact same_int _ _ _

theorem locate_get [DecidableEq α] (ev : β → Value) (k : α) : ∀ (m : List (α × β)) (i : Nat), (locate ev k m i).map (·.2) = (getM m k).map ev
  | [], i => rfl
  | x :: m, i => by
    by_cases h : k = x.1
    · simp [locate, getM, h]
    · have := locate_get ev k m (i + 1)
      simp only [getM] at this
      simp [locate, getM, h, this]
theorem locate_ge [DecidableEq α] (ev : β → Value) (k : α) : ∀ (m : List (α × β)) (i j : Nat) (v : Value), locate ev k m i = some (j, v) → i ≤ j
  | [], i, j, v, h => by simp [locate] at h
  | x :: m, i, j, v, h => by
    by_cases hk : k = x.1
    · simp [locate, hk] at h; omega
    · simp [locate, hk] at h
      have := locate_ge ev k m (i + 1) j v h
      omega
theorem updM_none [DecidableEq α] (ev : β → Value) (k : α) (v : β) : ∀ (m : List (α × β)) (i : Nat), locate ev k m i = none → updM m k v = m ++ [(k, v)]
  | [], i, _ => rfl
  | x :: m, i, h => by
    by_cases hk : k = x.1
    · simp [locate, hk] at h
    · simp [locate, hk] at h
      simp [updM, hk, updM_none ev k v m (i + 1) h]
theorem updM_some [DecidableEq α] (ek : α → Value) (ev : β → Value) (k : α) (v : β) : ∀ (m : List (α × β)) (es : List MapEntry) (i j : Nat) (z : Value), es.map (fun e => (e.key, e.val)) = m.map (fun x => (ek x.1, ev x.2)) → locate ev k m i = some (j, z) →
    (es.modify (j - i) fun e => { e with key := ek k, val := ev v }).map (fun e => (e.key, e.val)) = (updM m k v).map (fun x => (ek x.1, ev x.2)) ∧ (∃ e, es[j - i]? = some e ∧ e.key = ek k)
  | [], es, i, j, z, h, hl => by simp [locate] at hl
  | x :: m, [], i, j, z, h, hl => by simp at h
  | x :: m, e :: es, i, j, z, h, hl => by
    simp only [List.map_cons, List.cons.injEq, Prod.mk.injEq] at h
    by_cases hk : k = x.1
    · simp [locate, hk] at hl
      obtain ⟨rfl, -⟩ := hl
      refine ⟨?_, e, by simp, by rw [h.1.1, hk]⟩
      simp [updM, hk, h.2]
    · simp [locate, hk] at hl
      have hge := locate_ge ev k m (i + 1) j z hl
      obtain ⟨h1, e', h2, h3⟩ := updM_some ek ev k v m es (i + 1) j z h.2 hl
      have e1 : j - i = (j - (i + 1)) + 1 := by omega
      rw [e1]
      refine ⟨?_, e', by simpa using h2, h3⟩
      simp [updM, hk, h1, h.1]
theorem delM_none [DecidableEq α] (ev : β → Value) (k : α) : ∀ (m : List (α × β)) (i : Nat), locate ev k m i = none → delM m k = m
  | [], i, _ => rfl
  | x :: m, i, h => by
    by_cases hk : k = x.1
    · simp [locate, hk] at h
    · simp [locate, hk] at h
      simp [delM, hk, delM_none ev k m (i + 1) h]
theorem delM_some [DecidableEq α] (ek : α → Value) (ev : β → Value) (k : α) : ∀ (m : List (α × β)) (es : List MapEntry) (i j : Nat) (z : Value), es.map (fun e => (e.key, e.val)) = m.map (fun x => (ek x.1, ev x.2)) → locate ev k m i = some (j, z) →
    (es.eraseIdx (j - i)).map (fun e => (e.key, e.val)) = (delM m k).map (fun x => (ek x.1, ev x.2))
  | [], es, i, j, z, h, hl => by simp [locate] at hl
  | x :: m, [], i, j, z, h, hl => by simp at h
  | x :: m, e :: es, i, j, z, h, hl => by
    simp only [List.map_cons, List.cons.injEq, Prod.mk.injEq] at h
    by_cases hk : k = x.1
    · simp [locate, hk] at hl
      obtain ⟨rfl, -⟩ := hl
      simp [delM, hk, h.2]
    · simp [locate, hk] at hl
      have hge := locate_ge ev k m (i + 1) j z hl
      have h1 := delM_some ek ev k m es (i + 1) j z h.2 hl
      have e1 : j - i = (j - (i + 1)) + 1 := by omega
      rw [e1]
      simp [delM, hk, h1, h.1]

/-- All blocks but those of S are as they were. -/
structure Kept (S : List Nat) (w w' : World) : Prop where
  os : w'.os = w.os
  tape : w'.tape = w.tape
  output : w'.output = w.output
  size : w.heap.size ≤ w'.heap.size
  block : ∀ k, k < w.heap.size → k ∉ S → w'.heap[k]? = w.heap[k]?
theorem Kept.refl (S : List Nat) (w : World) : Kept S w w := ⟨rfl, rfl, rfl, Nat.le_refl _, fun _ _ _ => rfl⟩
theorem Kept.trans {S : List Nat} {a b c : World} (h : Kept S a b) (k : Kept S b c) : Kept S a c :=
  ⟨k.os.trans h.os, k.tape.trans h.tape, k.output.trans h.output, Nat.le_trans h.size k.size, fun i hi hs => (k.block i (Nat.lt_of_lt_of_le hi h.size) hs).trans (h.block i hi hs)⟩
theorem Kept.more {S T : List Nat} {a b : World} (h : Kept S a b) (hs : ∀ k ∈ S, k ∈ T) : Kept T a b := ⟨h.os, h.tape, h.output, h.size, fun i hi hn => h.block i hi fun hm => hn (hs i hm)⟩
theorem Kept.of_below {S : List Nat} {a b : World} (h : Below a.heap.size a b) : Kept S a b := ⟨h.os, h.tape, h.output, h.size, fun i hi _ => h.block i hi⟩
theorem Kept.below {S : List Nat} {B : Nat} {a b c : World} (h : Kept S b c) (hb : Below B a b) (hB : B ≤ b.heap.size) (hs : ∀ k ∈ S, B ≤ k) : Below B a c :=
  hb.trans ⟨h.os, h.tape, h.output, h.size, fun k hk => h.block k (by omega) fun hm => by have := hs k hm; omega⟩
theorem Kept.blk {S : List Nat} {w w' : World} {g : Nat} {t : TypeId} {cs : Array Value} (h : Kept S w w') (hb : Blk w g t cs) (hg : g ∉ S) : Blk w' g t cs := (h.block g hb.lt hg).trans hb
theorem Kept.row {S : List Nat} {w w' : World} {size n : Nat} {A : Option Addr} {cs : List Value} (h : Kept S w w') (hr : Row w size A n cs) (hs : ∀ b off, A = some ⟨b, off, none⟩ → b ∉ S) : Row w' size A n cs := by
  obtain ⟨h1, h2, h3⟩ := hr
  refine ⟨h1, h2, fun h0 => ?_⟩
  obtain ⟨b, off, e, hlt, hc⟩ := h3 h0
  exact ⟨b, off, e, Nat.lt_of_lt_of_le hlt h.size, fun j u hj => (World.cell?_of_block (w := w) (h.block b hlt (hs b off e))).trans (hc j u hj)⟩

@[go_sem] theorem run_makeMap0 (t : TypeId) (w : World) : (Instr.makeMap t none).run P w = .ok (.map (some w.heap.size)) (w.alloc (.map #[] 0)) := rfl
def MapAt (w : World) (b : Nat) (ek : α → Value) (ev : β → Value) (m : List (α × β)) : Prop :=
  ∃ (es : Array MapEntry) (clock : Nat), w.heap[b]? = some (.map es clock) ∧ es.toList.map (fun e => (e.key, e.val)) = m.map (fun x => (ek x.1, ev x.2)) ∧ (∀ e ∈ es.toList, e.born < clock) ∧ (es.toList.map (·.born)).Nodup
theorem MapAt.lt {w : World} {b : Nat} {ek : α → Value} {ev : β → Value} {m : List (α × β)} (h : MapAt w b ek ev m) : b < w.heap.size := by
  obtain ⟨es, c, h, _⟩ := h
  exact lt_of_heap h
theorem MapAt.same {w w' : World} {b : Nat} {ek : α → Value} {ev : β → Value} {m : List (α × β)} (h : MapAt w b ek ev m) (hb : w'.heap[b]? = w.heap[b]?) : MapAt w' b ek ev m := by
  obtain ⟨es, c, h, r⟩ := h
  exact ⟨es, c, hb.trans h, r⟩
theorem MapAt.below {w w' : World} {b : Nat} {ek : α → Value} {ev : β → Value} {m : List (α × β)} (h : MapAt w b ek ev m) (hb : Below w.heap.size w w') : MapAt w' b ek ev m := h.same (hb.block b h.lt)
theorem MapAt.kept {S : List Nat} {w w' : World} {b : Nat} {ek : α → Value} {ev : β → Value} {m : List (α × β)} (h : MapAt w b ek ev m) (hk : Kept S w w') (hb : b ∉ S) : MapAt w' b ek ev m := h.same (hk.block b h.lt hb)
theorem MapAt.alloc {w : World} {b : Nat} {ek : α → Value} {ev : β → Value} {m : List (α × β)} (h : MapAt w b ek ev m) (o : Obj) : MapAt (w.alloc o) b ek ev m := h.same (Below.heap_alloc w o b h.lt)
theorem MapAt.drew {w : World} {b : Nat} {ek : α → Value} {ev : β → Value} {m : List (α × β)} (h : MapAt w b ek ev m) : MapAt w.drew b ek ev m := h
theorem MapAt.setCell {w : World} {b : Nat} {ek : α → Value} {ev : β → Value} {m : List (α × β)} (h : MapAt w b ek ev m) (a : Addr) (u : Value) : MapAt (w.setCell a u) b ek ev m := by
  obtain ⟨es, c, h, r⟩ := h
  refine ⟨es, c, ?_, r⟩
  simp only [World.setCell, Array.getElem?_modify]
  by_cases e : a.block = b
  · rw [if_pos e, h]; rfl
  · rw [if_neg e]; exact h
theorem MapAt.new (w : World) (ek : α → Value) (ev : β → Value) : MapAt (w.alloc (.map #[] 0)) w.heap.size ek ev ([] : List (α × β)) := ⟨#[], 0, heap_new _ _, rfl, by simp, by simp⟩

section
variable [DecidableEq α] {T K E : TypeId} {ek : α → Value} {ev : β → Value} {m : List (α × β)} {b : Nat} {w : World}
theorem run_lookup_some (hK : Keys P K ek) (hT : P.underlying T = some (.map K E)) (h : MapAt w b ek ev m) (k : α) (v : β) (hg : getM m k = some v) (ok : Bool) :
    (Instr.lookup T (.map (some b)) (ek k) ok).run P w = .ok (if ok then .tuple #[ev v, .bool true] else ev v) w := by
  obtain ⟨es, c, h1, h2, -, -⟩ := h
  have hf := hK.find β ev k es.toList m w h2
  have hl := locate_get ev k m 0
  rw [hg] at hl
  obtain ⟨⟨j, z⟩, hz, hz2⟩ := Option.map_eq_some_iff.1 hl
  rw [hz] at hf
  simp only at hz2
  subst hz2
  simp [Instr.lookup, run_underlying hT, getObj, Sem.run, h1, hK.check, hf]
theorem run_lookup_none (hK : Keys P K ek) (hT : P.underlying T = some (.map K E)) (h : MapAt w b ek ev m) (k : α) (hg : getM m k = none) (ok : Bool) (z : Value) (hz : ∀ w, (zeroValue E).run P w = .ok z w) :
    (Instr.lookup T (.map (some b)) (ek k) ok).run P w = .ok (if ok then .tuple #[z, .bool false] else z) w := by
  obtain ⟨es, c, h1, h2, -, -⟩ := h
  have hf := hK.find β ev k es.toList m w h2
  have hl := locate_get ev k m 0
  rw [hg] at hl
  have hz0 : locate ev k m 0 = none := by simpa using hl
  rw [hz0] at hf
  simp [Instr.lookup, run_underlying hT, getObj, Sem.run, h1, hK.check, hf, hz]
theorem run_mapUpdate (hK : Keys P K ek) (hT : P.underlying T = some (.map K E)) (h : MapAt w b ek ev m) (k : α) (v : β) :
    ∃ w1, (Instr.mapUpdate T (.map (some b)) (ek k) (ev v)).run P w = .ok () w1 ∧ MapAt w1 b ek ev (updM m k v) ∧ Kept [b] w w1 := by
  have hlt := h.lt
  obtain ⟨es, c, h1, h2, h3, h4⟩ := h
  have hf := hK.find β ev k es.toList m w h2
  have kept : ∀ o, Kept [b] w { w with heap := w.heap.setIfInBounds b o } := fun o => ⟨rfl, rfl, rfl, by simp, fun i hi hs => by
    simp only [List.mem_singleton] at hs
    simp [Array.getElem?_setIfInBounds, Ne.symm hs]⟩
  cases hl : locate ev k m 0 with
  | none =>
    rw [hl] at hf
    refine ⟨{ w with heap := w.heap.setIfInBounds b (.map (es.push { key := ek k, val := ev v, born := c }) (c + 1)) }, ?_, ⟨es.push { key := ek k, val := ev v, born := c }, c + 1, by simp [hlt], ?_, ?_, ?_⟩, kept _⟩
    · simp [Instr.mapUpdate, run_underlying hT, getObj, setObj, Sem.run, h1, hK.check, hf]
    · rw [updM_none ev k v m 0 hl, List.map_append, ← h2]
      simp
    · intro e he
      simp at he
      rcases he with he | rfl
      · have := h3 e (by simpa using he); omega
      · simp
    · simp only [Array.toList_push, List.map_append, List.map_cons, List.map_nil]
      rw [List.nodup_append]
      refine ⟨h4, by simp, ?_⟩
      intro x hx y hy
      obtain ⟨e, he, rfl⟩ := List.mem_map.1 hx
      have := h3 e he
      simp at hy
      omega
  | some r =>
    obtain ⟨j, z⟩ := r
    rw [hl] at hf
    obtain ⟨u1, e, u2, u3⟩ := updM_some ek ev k v m es.toList 0 j z h2 hl
    simp only [Nat.sub_zero] at u1 u2
    have hkey : ((es[j]?).map (·.key)).getD (ek k) = ek k := by
      have : es[j]? = some e := by simpa using u2
      simp [this, u3]
    refine ⟨{ w with heap := w.heap.setIfInBounds b (.map (es.modify j fun e => { e with key := ek k, val := ev v }) c) }, ?_, ⟨es.modify j fun e => { e with key := ek k, val := ev v }, c, by simp [hlt], ?_, ?_, ?_⟩, kept _⟩
    · simp [Instr.mapUpdate, run_underlying hT, getObj, setObj, Sem.run, h1, hK.check, hf, hkey, Instr.keyThatStays, hK.same]
    · rw [Array.toList_modify]; exact u1
    · intro e' he'
      rw [Array.toList_modify] at he'
      obtain ⟨i, hi, rfl⟩ := List.mem_iff_getElem.1 he'
      rw [List.getElem_modify]
      split
      · show (es.toList[i]'(by simpa using hi)).born < c
        exact h3 _ (List.getElem_mem _)
      · exact h3 _ (List.getElem_mem _)
    · rw [Array.toList_modify]
      have : (es.toList.modify j fun e => { e with key := ek k, val := ev v }).map (·.born) = es.toList.map (·.born) := by
        refine List.ext_getElem (by simp) fun i h1 h2 => ?_
        simp only [List.getElem_map, List.getElem_modify]
        split <;> rfl
      rw [this]
      exact h4
end
end
end Go.Proofs.Ytgmdjhokcipajaa
end
section
set_option linter.unusedVariables false
set_option linter.unusedSimpArgs false
namespace Go.Proofs.Ytgmdjhokcipajaa
open Go.RowKit
/-! '==' of two structs. -/
attribute [-go_sem] Go.run_equalIn_agg
def recEqB (r q : Rec) : Bool := decide (r = q)
def pfxEqB (a l b m : Int) : Bool := decide (a = b ∧ l = m)
def dstEqB (a l b m : Int) : Bool := decide (a = b ∧ l = m)
theorem fields_eq {P : Program} {t : TypeId} {fs : Array Field} (h : P.underlying t = some (.struct fs)) : P.fieldsOf t = fs := by simp [Program.fieldsOf, h]
theorem run_pfxEq (n : Nat) (a l b m : Int) (w : World) : (Op.equalIn (n + 2) 29 (.agg #[.int .u32 a, .int .i64 l]) (.agg #[.int .u32 b, .int .i64 m])).run Try.prog w = .ok (pfxEqB a l b m) w := by
  have hf := fields_eq Try.underlying29
  rw [show n + 2 = (n + 1) + 1 from rfl, run_equalIn_agg w (n + 1) _ _ _ (by rw [hf]; exact Try.underlying29) (by kernel_rfl), hf]
  by_cases h1 : a = b
  · by_cases h2 : l = m
    · simp [Op.eqFields, go_sem, h1, h2, pfxEqB]
    · have h2' : (l == m) = false := by simpa using h2
      simp [Op.eqFields, go_sem, h1, h2, h2', pfxEqB]
  · have h1' : (a == b) = false := by simpa using h1
    simp [Op.eqFields, go_sem, h1, h1', pfxEqB]
theorem run_dstEq (n : Nat) (a l b m : Int) (w : World) : (Op.equalIn (n + 2) 39 (.agg #[.int .u32 a, .int .u16 l]) (.agg #[.int .u32 b, .int .u16 m])).run Try.prog w = .ok (dstEqB a l b m) w := by
  have hf := fields_eq Try.underlying39
  rw [show n + 2 = (n + 1) + 1 from rfl, run_equalIn_agg w (n + 1) _ _ _ (by rw [hf]; exact Try.underlying39) (by kernel_rfl), hf]
  by_cases h1 : a = b
  · by_cases h2 : l = m
    · simp [Op.eqFields, go_sem, h1, h2, dstEqB]
    · have h2' : (l == m) = false := by simpa using h2
      simp [Op.eqFields, go_sem, h1, h2, h2', dstEqB]
  · have h1' : (a == b) = false := by simpa using h1
    simp [Op.eqFields, go_sem, h1, h1', dstEqB]
theorem run_recEq (n : Nat) (k g l i a p s m k' g' l' i' a' p' s' m' : Int) (o o' : Bool) (w : World) : (Op.equalIn (n + 3) 50 (.agg #[.int .i64 k, .int .u32 g, .int .u32 l, .int .u32 i, .int .u32 a, .int .i64 p, .bool o, .int .u32 s, .int .u16 m])
    (.agg #[.int .i64 k', .int .u32 g', .int .u32 l', .int .u32 i', .int .u32 a', .int .i64 p', .bool o', .int .u32 s', .int .u16 m'])).run Try.prog w = .ok (recEqB ⟨k, g, l, i, a, p, o, s, m⟩ ⟨k', g', l', i', a', p', o', s', m'⟩) w := by
  have hf := fields_eq Try.underlying50
  have hp := run_pfxEq n a p a' p' w
  have hd := run_dstEq n s m s' m' w
  have hR : recEqB ⟨k, g, l, i, a, p, o, s, m⟩ ⟨k', g', l', i', a', p', o', s', m'⟩ = ((k == k') && ((g == g') && ((l == l') && ((i == i') && (pfxEqB a p a' p' && ((o == o') && dstEqB s m s' m')))))) := by
    unfold recEqB pfxEqB dstEqB
    rw [Bool.eq_iff_iff]
    simp [and_assoc]
  rw [hR, show n + 3 = (n + 2) + 1 from rfl, run_equalIn_agg w (n + 2) _ _ _ (by rw [hf]; exact Try.underlying50) (by kernel_rfl), hf]
  cases h1 : (k == k') with
  | false => simp [Op.eqFields, go_sem, h1]
  | true =>
    cases h2 : (g == g') with
    | false => simp [Op.eqFields, go_sem, h1, h2]
    | true =>
      cases h3 : (l == l') with
      | false => simp [Op.eqFields, go_sem, h1, h2, h3]
      | true =>
        cases h4 : (i == i') with
        | false => simp [Op.eqFields, go_sem, h1, h2, h3, h4]
        | true =>
          cases h5 : pfxEqB a p a' p' with
          | false => simp [Op.eqFields, go_sem, h1, h2, h3, h4, hp, h5]
          | true =>
            cases h6 : (o == o') with
            | false => simp [Op.eqFields, go_sem, h1, h2, h3, h4, hp, h5, h6]
            | true =>
              cases h7 : dstEqB s m s' m' with
              | false => simp [Op.eqFields, go_sem, h1, h2, h3, h4, hp, h5, h6, hd, h7]
              | true => simp [Op.eqFields, go_sem, h1, h2, h3, h4, hp, h5, h6, hd, h7]
@[go_sem] theorem run_pfxEq' (a l b m : Int) (w : World) : (Op.equalIn 10000 29 (.agg #[.int .u32 a, .int .i64 l]) (.agg #[.int .u32 b, .int .i64 m])).run Try.prog w = .ok (pfxEqB a l b m) w := run_pfxEq 9998 a l b m w
@[go_sem] theorem run_dstEq' (a l b m : Int) (w : World) : (Op.equalIn 10000 39 (.agg #[.int .u32 a, .int .u16 l]) (.agg #[.int .u32 b, .int .u16 m])).run Try.prog w = .ok (dstEqB a l b m) w := run_dstEq 9998 a l b m w
@[go_sem] theorem run_recEq' (k g l i a p s m k' g' l' i' a' p' s' m' : Int) (o o' : Bool) (w : World) : (Op.equalIn 10000 50 (.agg #[.int .i64 k, .int .u32 g, .int .u32 l, .int .u32 i, .int .u32 a, .int .i64 p, .bool o, .int .u32 s, .int .u16 m])
    (.agg #[.int .i64 k', .int .u32 g', .int .u32 l', .int .u32 i', .int .u32 a', .int .i64 p', .bool o', .int .u32 s', .int .u16 m'])).run Try.prog w = .ok (recEqB ⟨k, g, l, i, a, p, o, s, m⟩ ⟨k', g', l', i', a', p', o', s', m'⟩) w := run_recEq 9997 k g l i a p s m k' g' l' i' a' p' s' m' o o' w
end Go.Proofs.Ytgmdjhokcipajaa
end
section
set_option linter.unusedVariables false
set_option linter.unusedSimpArgs false
namespace Go.Proofs.Ytgmdjhokcipajaa
open Go.RowKit

def cmpI (a b : Int) : Int := if a < b then -1 else if a > b then 1 else 0
def orI (a b : Int) : Int := if a ≠ 0 then a else b
def distCmp (s1 m1 s2 m2 : Int) : Int := orI (cmpI s1 s2) (cmpI m2 m1)

theorem isNaN_u32 (a : Int) (w : World) : Calls Try.prog 60 #[.int .u32 a] w fun e w' => e = .returned (.bool false) ∧ w' = w := by
  go_enter Try.func60, Try.ntmps60
  go_wp2
  go_ret
  exact ⟨by simp, rfl⟩
theorem isNaN_u16 (a : Int) (w : World) : Calls Try.prog 61 #[.int .u16 a] w fun e w' => e = .returned (.bool false) ∧ w' = w := by
  go_enter Try.func61, Try.ntmps61
  go_wp2
  go_ret
  exact ⟨by simp, rfl⟩

theorem cmp_u32 (a b : Int) (w : World) : Calls Try.prog 46 #[.int .u32 a, .int .u32 b] w fun e w' => e = .returned (.int .i64 (cmpI a b)) ∧ w' = w := by
  by_cases h1 : a < b
  · go_enter Try.func46, Try.ntmps46
    go_wp2_with (go_at_call 60; refine (isNaN_u32 _ _).mono ?_; rintro e w' ⟨rfl, rfl⟩)
    go_ret
    exact ⟨by simp [cmpI, h1], rfl⟩
  · by_cases h2 : b < a
    · go_enter Try.func46, Try.ntmps46
      go_wp2_with (go_at_call 60; refine (isNaN_u32 _ _).mono ?_; rintro e w' ⟨rfl, rfl⟩)
      go_ret
      exact ⟨by simp [cmpI, h1, h2], rfl⟩
    · go_enter Try.func46, Try.ntmps46
      go_wp2_with (go_at_call 60; refine (isNaN_u32 _ _).mono ?_; rintro e w' ⟨rfl, rfl⟩)
      go_ret
      exact ⟨congrArg (fun x => Ending.returned (.int .i64 x)) (show (0 : Int) = cmpI a b by unfold cmpI; rw [if_neg (by omega), if_neg (by omega)]), rfl⟩
theorem cmp_u16 (a b : Int) (w : World) : Calls Try.prog 47 #[.int .u16 a, .int .u16 b] w fun e w' => e = .returned (.int .i64 (cmpI a b)) ∧ w' = w := by
  by_cases h1 : a < b
  · go_enter Try.func47, Try.ntmps47
    go_wp2_with (go_at_call 61; refine (isNaN_u16 _ _).mono ?_; rintro e w' ⟨rfl, rfl⟩)
    go_ret
    exact ⟨by simp [cmpI, h1], rfl⟩
  · by_cases h2 : b < a
    · go_enter Try.func47, Try.ntmps47
      go_wp2_with (go_at_call 61; refine (isNaN_u16 _ _).mono ?_; rintro e w' ⟨rfl, rfl⟩)
      go_ret
      exact ⟨by simp [cmpI, h1, h2], rfl⟩
    · go_enter Try.func47, Try.ntmps47
      go_wp2_with (go_at_call 61; refine (isNaN_u16 _ _).mono ?_; rintro e w' ⟨rfl, rfl⟩)
      go_ret
      exact ⟨congrArg (fun x => Ending.returned (.int .i64 x)) (show (0 : Int) = cmpI a b by unfold cmpI; rw [if_neg (by omega), if_neg (by omega)]), rfl⟩

/-- 'cmp.Or' of two numbers that lie in one block. -/
theorem or_two (a b : Int) (g : Nat) (w : World) (h0 : w.cell? ⟨g, 0, none⟩ = some (.int .i64 a)) (h1 : w.cell? ⟨g, 1, none⟩ = some (.int .i64 b)) :
    Calls Try.prog 45 #[.slice (some ⟨g, 0, none⟩) 2 2] w fun e w' => e = .returned (.int .i64 (orI a b)) ∧ w' = w := by
  by_cases ha : a = 0
  · subst ha
    go_enter Try.func45, Try.ntmps45
    go_wp2
    go_loop [8] (fun i => i = .int .i64 0 ∨ i = .int .i64 1 ∨ i = .int .i64 2 ∧ b = 0) (fun i => (2 - intOf i).toNat)
    case atStart => exact .inl rfl
    case round =>
      rcases hrel with rfl | rfl | ⟨rfl, hb⟩
      · go_wp2
        go_round
        case rel => exact .inr (.inl rfl)
        case measure => simp [intOf]
      · by_cases hb : b = 0
        · subst hb
          go_wp2
          go_round
          case rel => exact .inr (.inr ⟨rfl, trivial⟩)
          case measure => simp [intOf]
        · have hb' : (b != 0) = true := by simpa using hb
          go_wp2
          go_ret
          exact ⟨by simp [orI], rfl⟩
      · have HB := Lib.hid hb
        clear hb
        go_wp2
        go_ret
        exact ⟨by rw [HB.out]; simp [orI], rfl⟩
  · have ha' : (a != 0) = true := by simpa using ha
    go_enter Try.func45, Try.ntmps45
    go_wp2
    go_loop [8] (fun i => i = .int .i64 0) (fun i => (2 - intOf i).toNat)
    case atStart => rfl
    case round =>
      subst hrel
      go_wp2
      go_ret
      exact ⟨by simp [orI, ha], rfl⟩

theorem dist_Compare (s1 m1 s2 m2 : Int) (w : World) :
    Calls Try.prog 22 #[.agg #[.int .u32 s1, .int .u16 m1], .agg #[.int .u32 s2, .int .u16 m2]] w
      fun e w' => e = .returned (.int .i64 (distCmp s1 m1 s2 m2)) ∧ Below w.heap.size w w' := by
  go_enter Try.func22, Try.ntmps22
  go_wp2_with fail
  go_region_held3 (fun w' => w'.cell? ⟨w.heap.size, 0, none⟩ = some (.int .u32 s1) ∧ w'.cell? ⟨w.heap.size, 1, none⟩ = some (.int .u16 m1) ∧ w'.cell? ⟨w.heap.size + 1, 0, none⟩ = some (.int .u32 s2) ∧ w'.cell? ⟨w.heap.size + 1, 1, none⟩ = some (.int .u16 m2))
    (go_keep)
    ((first | (go_at_call 46; refine (cmp_u32 _ _ _).mono ?_; rintro e w' ⟨rfl, rfl⟩) | (go_at_call 47; refine (cmp_u16 _ _ _).mono ?_; rintro e w' ⟨rfl, rfl⟩) | (go_at_call 45; refine (or_two (cmpI s1 s2) (cmpI m2 m1) _ _ ?_ ?_).mono ?_; go_simp; go_simp; rintro e w' ⟨rfl, rfl⟩)))
  go_wp2
  go_ret
  exact ⟨rfl, (((Below.refl _ _).alloc (Nat.le_refl _) _).alloc (by simp) _).alloc (by simp; omega) _ |>.drew⟩

def clampC (c : Int) : Int := if c < 1 then 1 else if 1000 < c then 1000 else c
def beyondM (m c : Int) : Int := if 65535 ≤ m + clampC c then 65535 else m + clampC c
theorem clampC_bd (c : Int) : 1 ≤ clampC c ∧ clampC c ≤ 1000 := by
  unfold clampC
  by_cases h : c < 1
  · rw [if_pos h]; omega
  · by_cases h' : 1000 < c
    · rw [if_neg h, if_pos h']; omega
    · rw [if_neg h, if_neg h']; omega

theorem dist_Lost (s m : Int) (w : World) : Calls Try.prog 25 #[.agg #[.int .u32 s, .int .u16 m]] w
    fun e w' => e = .returned (.bool (m == 65535)) ∧ Below w.heap.size w w' := by
  go_enter Try.func25, Try.ntmps25
  go_wp2
  go_ret
  exact ⟨rfl, (Below.refl _ _).alloc (Nat.le_refl _) _⟩

theorem beyondM_eq (m c y : Int) (hy : clampC c = y) : beyondM m c = if 65535 ≤ m + y then 65535 else m + y := by subst hy; rfl
theorem dist_Beyond (s m c : Int) (w : World) (hm : 0 ≤ m ∧ m ≤ 65535) : Calls Try.prog 23 #[.agg #[.int .u32 s, .int .u16 m], .int .i64 c] w
    fun e w' => e = .returned (.agg #[.int .u32 s, .int .u16 (beyondM m c)]) ∧ Below w.heap.size w w' := by
  obtain ⟨hm0, hm1⟩ := hm
  by_cases c1 : c < 1
  · have HB := Lib.hid (beyondM_eq m c 1 (by unfold clampC; rw [if_pos c1]))
    by_cases h : 65535 ≤ m + 1
    · go_enter Try.func23, Try.ntmps23
      go_wp2
      exact bodyPost_ret (v := .agg #[.int .u32 s, .int .u16 65535]) (by simp [results, Try.results23, go_sem]) rfl
        ⟨by rw [HB.out, if_pos h], ((Below.refl _ _).alloc (Nat.le_refl _) _).alloc (by simp) _⟩
    · go_enter Try.func23, Try.ntmps23
      go_wp2
      exact bodyPost_ret (v := .agg #[.int .u32 s, .int .u16 (m + 1)]) (by simp [results, Try.results23, go_sem]) rfl
        ⟨by rw [HB.out, if_neg (by omega)], ((Below.refl _ _).alloc (Nat.le_refl _) _).alloc (by simp) _⟩
  · by_cases c2 : 1000 < c
    · have HB := Lib.hid (beyondM_eq m c 1000 (by unfold clampC; rw [if_neg c1, if_pos c2]))
      by_cases h : 65535 ≤ m + 1000
      · go_enter Try.func23, Try.ntmps23
        go_wp2
        exact bodyPost_ret (v := .agg #[.int .u32 s, .int .u16 65535]) (by simp [results, Try.results23, go_sem]) rfl
          ⟨by rw [HB.out, if_pos h], ((Below.refl _ _).alloc (Nat.le_refl _) _).alloc (by simp) _⟩
      · go_enter Try.func23, Try.ntmps23
        go_wp2
        exact bodyPost_ret (v := .agg #[.int .u32 s, .int .u16 (m + 1000)]) (by simp [results, Try.results23, go_sem]) rfl
          ⟨by rw [HB.out, if_neg (by omega)], ((Below.refl _ _).alloc (Nat.le_refl _) _).alloc (by simp) _⟩
    · have HB := Lib.hid (beyondM_eq m c c (by unfold clampC; rw [if_neg c1, if_neg c2]))
      by_cases c3 : c = 1
      · subst c3
        by_cases h : 65535 ≤ m + 1
        · go_enter Try.func23, Try.ntmps23
          go_wp2
          exact bodyPost_ret (v := .agg #[.int .u32 s, .int .u16 65535]) (by simp [results, Try.results23, go_sem]) rfl
            ⟨by rw [HB.out, if_pos h], ((Below.refl _ _).alloc (Nat.le_refl _) _).alloc (by simp) _⟩
        · go_enter Try.func23, Try.ntmps23
          go_wp2
          exact bodyPost_ret (v := .agg #[.int .u32 s, .int .u16 (m + 1)]) (by simp [results, Try.results23, go_sem]) rfl
            ⟨by rw [HB.out, if_neg (by omega)], ((Below.refl _ _).alloc (Nat.le_refl _) _).alloc (by simp) _⟩
      · have c4 : 1 < c := by omega
        by_cases h : 65535 ≤ m + c
        · go_enter Try.func23, Try.ntmps23
          go_wp2
          exact bodyPost_ret (v := .agg #[.int .u32 s, .int .u16 65535]) (by simp [results, Try.results23, go_sem]) rfl
            ⟨by rw [HB.out, if_pos h], ((Below.refl _ _).alloc (Nat.le_refl _) _).alloc (by simp) _⟩
        · go_enter Try.func23, Try.ntmps23
          go_wp2
          exact bodyPost_ret (v := .agg #[.int .u32 s, .int .u16 (m + c)]) (by simp [results, Try.results23, go_sem]) rfl
            ⟨by rw [HB.out, if_neg (by omega)], ((Below.refl _ _).alloc (Nat.le_refl _) _).alloc (by simp) _⟩
end Go.Proofs.Ytgmdjhokcipajaa
end
section
set_option linter.unusedVariables false
set_option linter.unusedSimpArgs false
namespace Go.Proofs.Ytgmdjhokcipajaa
open Go.RowKit

def maskI (n : Int) : Int := 4294967296 - 2 ^ (32 - n).toNat
/-- Is a prefix one? -/
def rightB (a l : Int) : Bool := decide (0 ≤ l ∧ l ≤ 32 ∧ a % 2 ^ (32 - l).toNat = 0)
/-- Has a prefix that is one an address? -/
def inB (a l x : Int) : Bool := decide (x - x % 2 ^ (32 - l).toNat = a)
def hasB (a l x : Int) : Bool := rightB a l && inB a l x

theorem shl_mask (k : Nat) (h : k ≤ 31) : (4294967295 : Int) * 2 ^ k % 4294967296 = 4294967296 - 2 ^ k := by
  have : ∀ k : Fin 32, (4294967295 : Int) * 2 ^ k.val % 4294967296 = 4294967296 - 2 ^ k.val := by decide
  exact this ⟨k, by omega⟩
theorem pow_bd (k : Nat) (h : k ≤ 32) : (1 : Int) ≤ 2 ^ k ∧ (2 : Int) ^ k ≤ 4294967296 := by
  have : ∀ k : Fin 33, (1 : Int) ≤ 2 ^ k.val ∧ (2 : Int) ^ k.val ≤ 4294967296 := by decide
  exact this ⟨k, by omega⟩
theorem natpow_bd (k : Nat) (h : k ≤ 32) : 1 ≤ 2 ^ k ∧ 2 ^ k ≤ 4294967296 := by
  have : ∀ k : Fin 33, 1 ≤ 2 ^ k.val ∧ 2 ^ k.val ≤ 4294967296 := by decide
  exact this ⟨k, by omega⟩
theorem maskI_nat (l : Int) (h0 : 0 ≤ l) (h1 : l ≤ 32) : maskI l = ((4294967296 - 2 ^ (32 - l).toNat : Nat) : Int) := by
  have := natpow_bd (32 - l).toNat (by omega)
  unfold maskI
  rw [Int.natCast_sub this.2]
  simp
theorem andNot_mask (a l : Int) (ha : 0 ≤ a ∧ a ≤ 4294967295) (h0 : 0 ≤ l) (h1 : l ≤ 32) : (Go.bits .andNot .u32 a (maskI l) == 0) = decide (a % 2 ^ (32 - l).toNat = 0) := by
  have hk := natpow_bd (32 - l).toNat (by omega)
  obtain ⟨n, rfl⟩ := Int.eq_ofNat_of_zero_le ha.1
  rw [maskI_nat l h0 h1, u32_andNot_nat _ _ (by omega) (by omega)]
  generalize (32 - l).toNat = k at *
  rw [show 4294967295 - (4294967296 - 2 ^ k) = 2 ^ k - 1 by omega, Nat.and_two_pow_sub_one_eq_mod]
  rw [show ((n : Int) % 2 ^ k) = ((n % 2 ^ k : Nat) : Int) by simp]
  rw [Bool.eq_iff_iff]
  simp
theorem and_high (x k : Nat) (hk : k ≤ 32) (hx : x < 4294967296) : x &&& (4294967296 - 2 ^ k) = x - x % 2 ^ k := by
  have e : 4294967296 - 2 ^ k = (2 ^ (32 - k) - 1) <<< k := by
    rw [Nat.shiftLeft_eq, Nat.sub_mul, ← Nat.pow_add, show 32 - k + k = 32 by omega, Nat.one_mul]
  have e2 : x - x % 2 ^ k = (x / 2 ^ k) <<< k := by
    rw [Nat.shiftLeft_eq]
    have := Nat.div_add_mod x (2 ^ k)
    rw [Nat.mul_comm] at this
    omega
  rw [e, e2]
  refine Nat.eq_of_testBit_eq fun i => ?_
  rw [Nat.testBit_and, Nat.testBit_shiftLeft, Nat.testBit_shiftLeft, Nat.testBit_two_pow_sub_one, Nat.testBit_div_two_pow]
  by_cases hi : k ≤ i
  · simp only [hi, decide_true, Bool.true_and, ge_iff_le]
    rw [show i - k + k = i by omega]
    by_cases h2 : i - k < 32 - k
    · simp [h2]
    · have : x.testBit i = false := Nat.testBit_lt_two_pow (Nat.lt_of_lt_of_le hx (by
        calc 4294967296 = 2 ^ 32 := by decide
          _ ≤ 2 ^ i := Nat.pow_le_pow_right (by decide) (by omega)))
      simp [this]
  · simp [hi]
theorem and_mask (x l : Int) (hx : 0 ≤ x ∧ x ≤ 4294967295) (h0 : 0 ≤ l) (h1 : l ≤ 32) : Go.bits .and .u32 x (maskI l) = x - x % 2 ^ (32 - l).toNat := by
  have hk := natpow_bd (32 - l).toNat (by omega)
  obtain ⟨n, rfl⟩ := Int.eq_ofNat_of_zero_le hx.1
  rw [maskI_nat l h0 h1, u32_and_nat _ _ (by omega) (by omega), and_high n _ (by omega) (by omega)]
  have := Nat.mod_le n (2 ^ (32 - l).toNat)
  rw [Int.natCast_sub this]
  simp

theorem addr_mask (n : Int) (w : World) (h0 : 0 ≤ n) (h1 : n ≤ 32) : Calls Try.prog 58 #[.int .i64 n] w fun e w' => e = .returned (.int .u32 (maskI n)) ∧ w' = w := by
  by_cases hn : n = 0
  · subst hn
    have HM := Lib.hid (show maskI 0 = 0 by decide)
    go_enter Try.func58, Try.ntmps58
    go_wp2
    go_ret
    exact ⟨by rw [HM.out]; rfl, rfl⟩
  · have hn' : (n == 0) = false := by simpa using hn
    go_enter Try.func58, Try.ntmps58
    go_wp2
    go_ret
    exact ⟨congrArg (fun x => Ending.returned (.int .u32 x)) (shl_mask (32 - n).toNat (by omega)), rfl⟩

theorem addr_Right (a l : Int) (w : World) (ha : 0 ≤ a ∧ a ≤ 4294967295) : Calls Try.prog 50 #[.agg #[.int .u32 a, .int .i64 l]] w
    fun e w' => e = .returned (.bool (rightB a l)) ∧ Below w.heap.size w w' := by
  by_cases h0 : 0 ≤ l
  · by_cases h1 : l ≤ 32
    · have hb := Lib.hid (show rightB a l = (Go.bits .andNot .u32 a (maskI l) == 0) by rw [andNot_mask a l ha h0 h1]; simp [rightB, h0, h1])
      go_enter Try.func50, Try.ntmps50
      go_wp2_with fail
      go_quiet ((go_at_call 58; exact Calls.quiet_of_same (addr_mask _ _ h0 h1)))
      go_wp2
      go_ret
      exact ⟨by rw [hb.out]; rfl, below_drewN ((Below.refl _ _).alloc (Nat.le_refl _) _) _⟩
    · have hb := Lib.hid (show rightB a l = false by simp [rightB, h1])
      have h1' : decide (l ≤ 32) = false := by simpa using h1
      go_enter Try.func50, Try.ntmps50
      go_wp2_with fail
      go_quiet (fail)
      go_wp2
      go_ret
      exact ⟨by rw [hb.out]; rfl, below_drewN ((Below.refl _ _).alloc (Nat.le_refl _) _) _⟩
  · have hb := Lib.hid (show rightB a l = false by simp [rightB, h0])
    have h0' : decide (0 ≤ l) = false := by simpa using h0
    go_enter Try.func50, Try.ntmps50
    go_wp2_with fail
    go_quiet (fail)
    go_wp2
    go_ret
    exact ⟨by rw [hb.out]; rfl, below_drewN ((Below.refl _ _).alloc (Nat.le_refl _) _) _⟩
end Go.Proofs.Ytgmdjhokcipajaa
end
section
set_option linter.unusedVariables false
set_option linter.unusedSimpArgs false
namespace Go.Proofs.Ytgmdjhokcipajaa
open Go.RowKit

def bitB (a : Int) (i : Nat) : Bool := a.toNat.testBit (31 - i)
theorem bit_and (a : Int) (i : Nat) (ha : 0 ≤ a ∧ a ≤ 4294967295) (hi : i ≤ 31) : (Go.bits .and .u32 (a / 2 ^ (31 - i)) 1 == 1) = bitB a i := by
  obtain ⟨n, rfl⟩ := Int.eq_ofNat_of_zero_le ha.1
  have h1 : ((n : Int) / 2 ^ (31 - i)) = ((n / 2 ^ (31 - i) : Nat) : Int) := by simp
  have h2 : n / 2 ^ (31 - i) ≤ n := Nat.div_le_self _ _
  rw [h1, show (1 : Int) = ((1 : Nat) : Int) from rfl, u32_and_nat _ _ (by omega) (by omega), Nat.and_one_is_mod, bitB, Int.toNat_natCast, Nat.testBit_eq_decide_div_mod_eq, Bool.eq_iff_iff]
  simp
  omega
theorem half_lt (r j : Nat) (h : r < 2 ^ (j + 1)) (hb : r.testBit j = false) : r < 2 ^ j := by
  rw [Nat.testBit_eq_decide_div_mod_eq] at hb
  have h1 : ¬ r / 2 ^ j % 2 = 1 := by simpa using hb
  have h2 : r / 2 ^ j < 2 := by
    rw [Nat.div_lt_iff_lt_mul (Nat.two_pow_pos j)]
    rw [Nat.pow_succ] at h
    omega
  have h3 : r / 2 ^ j = 0 := by generalize r / 2 ^ j = q at h1 h2; omega
  exact (Nat.div_eq_zero_iff_lt (Nat.two_pow_pos j)).1 h3
theorem half_eq (x a j : Nat) (h : x / 2 ^ (j + 1) = a / 2 ^ (j + 1)) (hb : x.testBit j = a.testBit j) : x / 2 ^ j = a / 2 ^ j := by
  rw [Nat.testBit_eq_decide_div_mod_eq, Nat.testBit_eq_decide_div_mod_eq, decide_eq_decide] at hb
  rw [Nat.pow_succ, ← Nat.div_div_eq_div_mul, ← Nat.div_div_eq_div_mul] at h
  omega
theorem half_ne (x a j n : Nat) (h : x / 2 ^ n = a / 2 ^ n) (hn : n ≤ j) : x.testBit j = a.testBit j := by
  obtain ⟨k, rfl⟩ := Nat.exists_eq_add_of_le hn
  have e : ∀ y : Nat, y.testBit (n + k) = (y / 2 ^ n).testBit k := fun y => by rw [Nat.testBit_div_two_pow, Nat.add_comm]
  rw [e, e, h]

/-- The low bits from 'i' on are noughts. -/
def lowB (a l : Int) (i : Nat) : Prop := a.toNat % 2 ^ (32 - l.toNat) < 2 ^ (32 - i)
theorem rightB_nat (a l : Int) (ha : 0 ≤ a ∧ a ≤ 4294967295) (h0 : 0 ≤ l) (h1 : l ≤ 32) : rightB a l = decide (a.toNat % 2 ^ (32 - l.toNat) = 0) := by
  obtain ⟨n, rfl⟩ := Int.eq_ofNat_of_zero_le ha.1
  obtain ⟨m, rfl⟩ := Int.eq_ofNat_of_zero_le h0
  have e : (32 - (m : Int)).toNat = 32 - m := by omega
  have e2 : ((n : Int) % 2 ^ (32 - m)) = ((n % 2 ^ (32 - m) : Nat) : Int) := by simp
  unfold rightB
  rw [e, e2, Int.toNat_natCast, Int.toNat_natCast, Bool.eq_iff_iff]
  simp
  omega
theorem low_start (a l : Int) : lowB a l l.toNat := Nat.mod_lt _ (Nat.two_pow_pos _)
theorem low_bit (a l : Int) (i : Nat) (hi : i ≤ 31) (hl : l.toNat ≤ i) : (a.toNat % 2 ^ (32 - l.toNat)).testBit (31 - i) = bitB a i := by
  rw [Nat.testBit_mod_two_pow, bitB]
  simp
  intro; omega
theorem low_step (a l : Int) (i : Nat) (hi : i ≤ 31) (hl : l.toNat ≤ i) (h : lowB a l i) (hb : bitB a i = false) : lowB a l (i + 1) := by
  have := half_lt _ (31 - i) (by have : 31 - i + 1 = 32 - i := by omega
                                 rw [this]; exact h) ((low_bit a l i hi hl).trans hb)
  unfold lowB
  rw [show 32 - (i + 1) = 31 - i by omega]
  exact this
theorem low_no (a l : Int) (ha : 0 ≤ a ∧ a ≤ 4294967295) (h0 : 0 ≤ l) (h1 : l ≤ 32) (i : Nat) (hi : i ≤ 31) (hl : l.toNat ≤ i) (hb : bitB a i = true) : rightB a l = false := by
  rw [rightB_nat a l ha h0 h1, decide_eq_false_iff_not]
  intro h
  have := low_bit a l i hi hl
  rw [h, hb] at this
  simp at this
theorem low_end (a l : Int) (ha : 0 ≤ a ∧ a ≤ 4294967295) (h0 : 0 ≤ l) (h1 : l ≤ 32) (h : lowB a l 32) : rightB a l = true := by
  rw [rightB_nat a l ha h0 h1, decide_eq_true_eq]
  unfold lowB at h
  simpa using h

theorem law02_bit (a i : Int) (w : World) (h0 : 0 ≤ i) (h1 : i ≤ 31) (ha : 0 ≤ a ∧ a ≤ 4294967295) : Calls Try.prog 59 #[.int .u32 a, .int .i64 i] w
    fun e w' => e = .returned (.bool (bitB a i.toNat)) ∧ w' = w := by
  have hb := bit_and a i.toNat ha (by omega)
  have h2 : 0 ≤ 31 - i := by omega
  have h3 : 31 - i ≤ 31 := by omega
  have e1 : (31 - i).toNat = 31 - i.toNat := by omega
  have HB := Lib.hid hb
  have E1 := Lib.hid e1
  clear hb e1
  go_enter Try.func59, Try.ntmps59
  go_wp2
  go_ret
  exact ⟨by rw [← HB.out, ← E1.out]; rfl, rfl⟩

theorem law02_Right (a l : Int) (w : World) (ha : 0 ≤ a ∧ a ≤ 4294967295) : Calls Try.prog 51 #[.agg #[.int .u32 a, .int .i64 l]] w
    fun e w' => e = .returned (.bool (rightB a l)) ∧ Below w.heap.size w w' := by
  by_cases h0 : 0 ≤ l
  · by_cases h1 : l ≤ 32
    · have h0' : ¬ l < 0 := by omega
      have h1' : ¬ 32 < l := by omega
      go_enter Try.func51, Try.ntmps51
      go_wp2
      go_loop [3] (fun i => ∃ k : Nat, l.toNat ≤ k ∧ k ≤ 32 ∧ i = .int .i64 k ∧ Hid (lowB a l k)) (fun i => 32 - (intOf i).toNat)
      case atStart => exact ⟨l.toNat, Nat.le_refl _, by omega, by congr 1; omega, low_start a l⟩
      case round =>
        obtain ⟨k, hk, hk2, rfl, hlow⟩ := hrel
        by_cases hlt : k < 32
        · have hk3 : (k : Int) ≤ 31 := by omega
          have hk4 : (0 : Int) ≤ k := by omega
          go_wp2_with fail
          refine (law02_bit _ _ _ hk4 hk3 ha).mono ?_
          rintro e w' ⟨rfl, rfl⟩
          rw [Int.toNat_natCast]
          cases hb : bitB a k with
          | true =>
            have HR := Lib.hid (low_no a l ha h0 h1 k (by omega) hk hb)
            clear hb
            go_wp2
            go_ret
            exact ⟨by rw [HR.out]; rfl, (Below.refl _ _).alloc (Nat.le_refl _) _⟩
          | false =>
            have HR := Lib.hid (low_step a l k (by omega) hk hlow.out hb)
            clear hb
            go_wp2
            go_round
            case rel => exact ⟨k + 1, by omega, by omega, by go_num, HR.out⟩
            case measure => simp [intOf]; omega
        · obtain rfl : k = 32 := by omega
          have HR := Lib.hid (low_end a l ha h0 h1 hlow.out)
          go_wp2
          go_ret
          exact ⟨by rw [HR.out]; rfl, (Below.refl _ _).alloc (Nat.le_refl _) _⟩
    · have HR := Lib.hid (show rightB a l = false by simp [rightB, h1])
      have h0' : ¬ l < 0 := by omega
      have h1' : 32 < l := by omega
      go_enter Try.func51, Try.ntmps51
      go_wp2
      go_ret
      exact ⟨by rw [HR.out]; rfl, (Below.refl _ _).alloc (Nat.le_refl _) _⟩
  · have HR := Lib.hid (show rightB a l = false by simp [rightB, h0])
    have h0' : l < 0 := by omega
    go_enter Try.func51, Try.ntmps51
    go_wp2
    go_ret
    exact ⟨by rw [HR.out]; rfl, (Below.refl _ _).alloc (Nat.le_refl _) _⟩

/-- The first 'i' bits are the same. -/
def sameB (a x : Int) (i : Nat) : Prop := x.toNat / 2 ^ (32 - i) = a.toNat / 2 ^ (32 - i)
theorem same_start (a x : Int) (ha : 0 ≤ a ∧ a ≤ 4294967295) (hx : 0 ≤ x ∧ x ≤ 4294967295) : sameB a x 0 := by
  unfold sameB
  rw [Nat.div_eq_of_lt (by omega), Nat.div_eq_of_lt (by omega)]
theorem same_step (a x : Int) (i : Nat) (hi : i ≤ 31) (h : sameB a x i) (hb : bitB x i = bitB a i) : sameB a x (i + 1) := by
  unfold sameB at *
  rw [show 32 - (i + 1) = 31 - i by omega]
  exact half_eq _ _ _ (by rw [show 31 - i + 1 = 32 - i by omega]; exact h) hb
theorem in_iff (a l x : Int) (ha : 0 ≤ a ∧ a ≤ 4294967295) (hx : 0 ≤ x ∧ x ≤ 4294967295) (h0 : 0 ≤ l) (h1 : l ≤ 32) (hr : rightB a l = true) : inB a l x = true ↔ sameB a x l.toNat := by
  rw [rightB_nat a l ha h0 h1, decide_eq_true_eq] at hr
  obtain ⟨n, rfl⟩ := Int.eq_ofNat_of_zero_le ha.1
  obtain ⟨y, rfl⟩ := Int.eq_ofNat_of_zero_le hx.1
  obtain ⟨m, rfl⟩ := Int.eq_ofNat_of_zero_le h0
  have e : (32 - (m : Int)).toNat = 32 - m := by omega
  simp only [inB, sameB, decide_eq_true_eq, e, Int.toNat_natCast] at *
  have e2 : ((y : Int) % 2 ^ (32 - m)) = ((y % 2 ^ (32 - m) : Nat) : Int) := by simp
  rw [e2]
  have d1 := Nat.div_add_mod n (2 ^ (32 - m))
  have d2 := Nat.div_add_mod y (2 ^ (32 - m))
  have hp := Nat.two_pow_pos (32 - m)
  rw [hr] at d1
  generalize 2 ^ (32 - m) = p at *
  constructor
  · intro h
    have : p * (y / p) = p * (n / p) := by omega
    exact Nat.eq_of_mul_eq_mul_left hp this
  · intro h
    rw [h] at d2
    omega
theorem has_end (a l x : Int) (ha : 0 ≤ a ∧ a ≤ 4294967295) (hx : 0 ≤ x ∧ x ≤ 4294967295) (h0 : 0 ≤ l) (h1 : l ≤ 32) (hr : rightB a l = true) (h : sameB a x l.toNat) : hasB a l x = true := by
  rw [hasB, hr, (in_iff a l x ha hx h0 h1 hr).2 h]; rfl
theorem has_no (a l x : Int) (ha : 0 ≤ a ∧ a ≤ 4294967295) (hx : 0 ≤ x ∧ x ≤ 4294967295) (h0 : 0 ≤ l) (h1 : l ≤ 32) (hr : rightB a l = true) (i : Nat) (hi : i < l.toNat) (h : bitB x i ≠ bitB a i) : hasB a l x = false := by
  cases hh : hasB a l x with
  | false => rfl
  | true =>
    rw [hasB, hr, Bool.true_and, in_iff a l x ha hx h0 h1 hr] at hh
    exact absurd (half_ne _ _ (31 - i) (32 - l.toNat) hh (by omega)) h
end Go.Proofs.Ytgmdjhokcipajaa
end
section
set_option linter.unusedVariables false
set_option linter.unusedSimpArgs false
namespace Go.Proofs.Ytgmdjhokcipajaa
open Go.RowKit

/-- Can a record be written? -/
def recRightB (r : Rec) : Bool := rightB r.a r.l && !decide (r.s > 1073741824) && !(r.m == 65535) &&
  (if r.kind = 1 then decide (r.id > 0) && (r.a == 0 && r.l == 0) && !r.on && (r.s == 0 && r.m == 0) else if r.kind = 2 then (r.id == 0) && (r.s == 0 && r.m == 0) else if r.kind = 3 then (r.id == 0) && (r.a == 0 && r.l == 0) && !r.on && (r.m == 0) else if r.kind = 4 then decide (r.id > 0) && !r.on else false)

set_option maxHeartbeats 4000000 in
theorem law05_Right (r : Rec) (w : World) (ho : r.ok) : Calls Try.prog 29 #[r.val] w fun e w' => e = .returned (.bool (recRightB r)) ∧ Below w.heap.size w w' := by
  obtain ⟨kind, gen, lsn, rid, a, l, on, rs, rm⟩ := r
  have kR := Blk.new w 50 (Rec.arr ⟨kind, gen, lsn, rid, a, l, on, rs, rm⟩)
  have hb0 : Below w.heap.size w (w.alloc (.cells (Rec.arr ⟨kind, gen, lsn, rid, a, l, on, rs, rm⟩) 50)) := (Below.refl _ _).alloc (Nat.le_refl _) _
  simp only [Rec.arr, Rec.val] at kR hb0 ⊢
  cases hr : rightB a l with
  | false =>
    have HF := Lib.hid (show recRightB ⟨kind, gen, lsn, rid, a, l, on, rs, rm⟩ = false by simp [recRightB, hr])
    go_enter Try.func29, Try.ntmps29
    go_wp2_with fail
    refine (law02_Right _ _ _ ho.2.2.2.2.1).mono ?_
    rintro e w1 ⟨rfl, hb1⟩
    rw [hr]
    have hb := below_step hb0 hb0.size hb1
    replace kR := kR.below' hb1
    clear hb1
    have r0 := kR.cell 0
    have r3 := kR.cell 3
    have r4 := kR.cell 4
    have r5 := kR.cell 5
    have r6 := kR.cell 6
    have r7 := kR.cell 7
    have r8 := kR.cell 8
    simp only [List.getElem?_toArray, List.getElem?_cons_zero, List.getElem?_cons_succ] at r0 r3 r4 r5 r6 r7 r8
    go_wp2
    go_ret
    exact ⟨by rw [HF.out]; rfl, hb⟩
  | true =>
    go_enter Try.func29, Try.ntmps29
    go_wp2_with fail
    refine (law02_Right _ _ _ ho.2.2.2.2.1).mono ?_
    rintro e w1 ⟨rfl, hb1⟩
    rw [hr]
    have hb := below_step hb0 hb0.size hb1
    replace kR := kR.below' hb1
    clear hb1
    have r0 := kR.cell 0
    have r3 := kR.cell 3
    have r4 := kR.cell 4
    have r5 := kR.cell 5
    have r6 := kR.cell 6
    have r7 := kR.cell 7
    have r8 := kR.cell 8
    simp only [List.getElem?_toArray, List.getElem?_cons_zero, List.getElem?_cons_succ] at r0 r3 r4 r5 r6 r7 r8
    go_wp2
    all_goals
      go_ret
      refine ⟨?_, hb⟩
      clear hb hb0 ho r0 r3 r4 r5 r6 r7 r8 kR
      try simp_all [recRightB]
    · intro h
      exfalso
      omega
    all_goals
      intros
      exfalso
      omega
end Go.Proofs.Ytgmdjhokcipajaa
end
section
set_option linter.unusedVariables false
set_option linter.unusedSimpArgs false
namespace Go.Proofs.Ytgmdjhokcipajaa
open Go.RowKit
attribute [-go_sem] Go.run_equalIn_agg

theorem recRight_spec (r : Rec) (ho : r.ok) : recRightB r = (decide (1 ≤ r.kind ∧ r.kind ≤ 4) && (recEqB r r.bare && (rightB r.a r.l && (!decide (1073741824 < r.s) && (((r.id != 0) == (r.kind == 1 || r.kind == 4)) && !(r.m == 65535)))))) := by
  obtain ⟨k, g, n, i, a, l, o, s, m⟩ := r
  have hi : 0 ≤ i := ho.2.2.2.1.1
  unfold recRightB recEqB Rec.bare
  simp only
  by_cases k1 : k = 1
  · subst k1
    simp only [Rec.mk.injEq]
    rw [Bool.eq_iff_iff]
    cases rightB a l <;> cases o <;> simp <;> omega
  by_cases k2 : k = 2
  · subst k2
    simp only [Rec.mk.injEq]
    rw [Bool.eq_iff_iff]
    cases rightB a l <;> cases o <;> simp <;> omega
  by_cases k3 : k = 3
  · subst k3
    simp only [Rec.mk.injEq]
    rw [Bool.eq_iff_iff]
    cases rightB a l <;> cases o <;> simp <;> omega
  by_cases k4 : k = 4
  · subst k4
    simp only [Rec.mk.injEq]
    rw [Bool.eq_iff_iff]
    cases rightB a l <;> cases o <;> simp <;> omega
  · have : ¬ (1 ≤ k ∧ k ≤ 4) := by omega
    simp [k1, k2, k3, k4, this]
set_option maxHeartbeats 4000000 in
theorem rec_Right (r : Rec) (w : World) (ho : r.ok) : Calls Try.prog 28 #[r.val] w fun e w' => e = .returned (.bool (recRightB r)) ∧ Below w.heap.size w w' := by
  have hS := recRight_spec r ho
  obtain ⟨kind, gen, lsn, rid, a, l, on, rs, rm⟩ := r
  have ha := ho.2.2.2.2.1
  have kR := Blk.new w 50 (Rec.arr ⟨kind, gen, lsn, rid, a, l, on, rs, rm⟩)
  have hb : Below w.heap.size w (w.alloc (.cells (Rec.arr ⟨kind, gen, lsn, rid, a, l, on, rs, rm⟩) 50)) := (Below.refl _ _).alloc (Nat.le_refl _) _
  simp only [Rec.arr, Rec.val] at kR hb ⊢
  simp only at hS ha
  clear ho
  by_cases c1 : kind < 1
  · have HS := Lib.hid (show recRightB ⟨kind, gen, lsn, rid, a, l, on, rs, rm⟩ = false by rw [hS, decide_eq_false (by omega)]; rfl)
    clear hS
    go_enter Try.func28, Try.ntmps28
    go_wp2_with fail
    generalize hW : w.alloc (.cells #[.int .i64 kind, .int .u32 gen, .int .u32 lsn, .int .u32 rid, .int .u32 a, .int .i64 l, .bool on, .int .u32 rs, .int .u16 rm] 50) = W at hb kR ⊢
    have hsz : W.heap.size = w.heap.size + 1 := by rw [← hW]; simp
    have r0 := kR.cell 0
    have r1 := kR.cell 1
    have r2 := kR.cell 2
    have r3 := kR.cell 3
    have r4 := kR.cell 4
    have r5 := kR.cell 5
    have r6 := kR.cell 6
    have r7 := kR.cell 7
    have r8 := kR.cell 8
    simp only [List.getElem?_toArray, List.getElem?_cons_zero, List.getElem?_cons_succ] at r0 r1 r2 r3 r4 r5 r6 r7 r8
    refine draw_start [] Later (by kernel_rfl) ?_
    refine draw_chunk (n := 47) (by kernel_rfl) (fun _ _ _ _ _ h => h) [0, 1, 2, 3, 4, 5, 6, 7, 8, 9, 10, 11, 12, 13, 14, 15, 16, 17, 18, 19, 20, 21, 22, 23, 24, 25] [] _ #[true, true, true, true, true, true, true, true, true, true, true, true, true, true, true, true, true, true, true, true, true, true, true, true, true, true] (by kernel_rfl) 0 _ ?_ _ rfl ?_ ?_
    rotate_left
    · intro w' hw'
      have hc' : ∀ b o, b < W.heap.size → w'.cell? ⟨b, o, none⟩ = W.cell? ⟨b, o, none⟩ := (bcell hw').1
      refine ci_step (i := 0) (v := ?_) rfl (by kernel_rfl) ?_ ?_
      rotate_left
      · first | (go_simp; done) | (go_simp; with_reducible rfl)
      skip
      try simp only [Act.put, List.setIfInBounds_toArray, List.set_cons_zero, List.set_cons_succ]
      refine ci_step (i := 1) (v := ?_) rfl (by kernel_rfl) ?_ ?_
      rotate_left
      · first | (go_simp; done) | (go_simp; with_reducible rfl)
      skip
      try simp only [Act.put, List.setIfInBounds_toArray, List.set_cons_zero, List.set_cons_succ]
      refine ci_step (i := 2) (v := ?_) rfl (by kernel_rfl) ?_ ?_
      rotate_left
      · first | (go_simp; done) | (go_simp; with_reducible rfl)
      skip
      try simp only [Act.put, List.setIfInBounds_toArray, List.set_cons_zero, List.set_cons_succ]
      refine ci_step (i := 3) (v := ?_) rfl (by kernel_rfl) ?_ ?_
      rotate_left
      · first | (go_simp; done) | (go_simp; with_reducible rfl)
      skip
      try simp only [Act.put, List.setIfInBounds_toArray, List.set_cons_zero, List.set_cons_succ]
      refine ci_off (i := 4) rfl (by kernel_rfl) ?_
      try simp only [Act.put, List.setIfInBounds_toArray, List.set_cons_zero, List.set_cons_succ]
      refine ci_off (i := 5) rfl (by kernel_rfl) ?_
      try simp only [Act.put, List.setIfInBounds_toArray, List.set_cons_zero, List.set_cons_succ]
      refine ci_off (i := 6) rfl (by kernel_rfl) ?_
      try simp only [Act.put, List.setIfInBounds_toArray, List.set_cons_zero, List.set_cons_succ]
      refine ci_step (i := 7) (v := ?_) rfl (by kernel_rfl) ?_ ?_
      rotate_left
      · first | (go_simp; done) | (go_simp; with_reducible rfl)
      skip
      try simp only [Act.put, List.setIfInBounds_toArray, List.set_cons_zero, List.set_cons_succ]
      refine ci_step (i := 8) (v := ?_) rfl (by kernel_rfl) ?_ ?_
      rotate_left
      · first | (go_simp; done) | (go_simp; with_reducible rfl)
      skip
      try simp only [Act.put, List.setIfInBounds_toArray, List.set_cons_zero, List.set_cons_succ]
      refine ci_off (i := 9) rfl (by kernel_rfl) ?_
      try simp only [Act.put, List.setIfInBounds_toArray, List.set_cons_zero, List.set_cons_succ]
      refine ci_off (i := 10) rfl (by kernel_rfl) ?_
      try simp only [Act.put, List.setIfInBounds_toArray, List.set_cons_zero, List.set_cons_succ]
      refine ci_off (i := 11) rfl (by kernel_rfl) ?_
      try simp only [Act.put, List.setIfInBounds_toArray, List.set_cons_zero, List.set_cons_succ]
      refine ci_off (i := 12) rfl (by kernel_rfl) ?_
      try simp only [Act.put, List.setIfInBounds_toArray, List.set_cons_zero, List.set_cons_succ]
      refine ci_step (i := 13) (v := ?_) rfl (by kernel_rfl) ?_ ?_
      rotate_left
      · first | (go_simp; done) | (go_simp; with_reducible rfl)
      skip
      try simp only [Act.put, List.setIfInBounds_toArray, List.set_cons_zero, List.set_cons_succ]
      refine ci_step (i := 14) (v := ?_) rfl (by kernel_rfl) ?_ ?_
      rotate_left
      · first | (go_simp; done) | (go_simp; with_reducible rfl)
      skip
      try simp only [Act.put, List.setIfInBounds_toArray, List.set_cons_zero, List.set_cons_succ]
      refine ci_off (i := 15) rfl (by kernel_rfl) ?_
      try simp only [Act.put, List.setIfInBounds_toArray, List.set_cons_zero, List.set_cons_succ]
      refine ci_off (i := 16) rfl (by kernel_rfl) ?_
      try simp only [Act.put, List.setIfInBounds_toArray, List.set_cons_zero, List.set_cons_succ]
      refine ci_off (i := 17) rfl (by kernel_rfl) ?_
      try simp only [Act.put, List.setIfInBounds_toArray, List.set_cons_zero, List.set_cons_succ]
      refine ci_off (i := 18) rfl (by kernel_rfl) ?_
      try simp only [Act.put, List.setIfInBounds_toArray, List.set_cons_zero, List.set_cons_succ]
      refine ci_step (i := 19) (v := ?_) rfl (by kernel_rfl) ?_ ?_
      rotate_left
      · first | (go_simp; done) | (go_simp; with_reducible rfl)
      skip
      try simp only [Act.put, List.setIfInBounds_toArray, List.set_cons_zero, List.set_cons_succ]
      refine ci_step (i := 20) (v := ?_) rfl (by kernel_rfl) ?_ ?_
      rotate_left
      · first | (go_simp; done) | (go_simp; with_reducible rfl)
      skip
      try simp only [Act.put, List.setIfInBounds_toArray, List.set_cons_zero, List.set_cons_succ]
      refine ci_off (i := 21) rfl (by kernel_rfl) ?_
      try simp only [Act.put, List.setIfInBounds_toArray, List.set_cons_zero, List.set_cons_succ]
      refine ci_off (i := 22) rfl (by kernel_rfl) ?_
      try simp only [Act.put, List.setIfInBounds_toArray, List.set_cons_zero, List.set_cons_succ]
      refine ci_off (i := 23) rfl (by kernel_rfl) ?_
      try simp only [Act.put, List.setIfInBounds_toArray, List.set_cons_zero, List.set_cons_succ]
      refine ci_off (i := 24) rfl (by kernel_rfl) ?_
      try simp only [Act.put, List.setIfInBounds_toArray, List.set_cons_zero, List.set_cons_succ]
      refine ci_step (i := 25) (v := ?_) rfl (by kernel_rfl) ?_ ?_
      rotate_left
      · first | (go_simp; done) | (go_simp; with_reducible rfl)
      skip
      try simp only [Act.put, List.setIfInBounds_toArray, List.set_cons_zero, List.set_cons_succ]
      refine ci_end ?_
      rfl
    refine draw_done (by kernel_rfl) ?_ _
    go_wp2
    go_ret
    exact ⟨by rw [HS.out]; first | rfl | simp [*], by first | exact hb | exact Below.drew hb⟩
  by_cases c2 : 4 < kind
  · have HS := Lib.hid (show recRightB ⟨kind, gen, lsn, rid, a, l, on, rs, rm⟩ = false by rw [hS, decide_eq_false (by omega)]; rfl)
    clear hS
    have c1' : decide (kind < 1) = false := by simpa using c1
    go_enter Try.func28, Try.ntmps28
    go_wp2_with fail
    generalize hW : w.alloc (.cells #[.int .i64 kind, .int .u32 gen, .int .u32 lsn, .int .u32 rid, .int .u32 a, .int .i64 l, .bool on, .int .u32 rs, .int .u16 rm] 50) = W at hb kR ⊢
    have hsz : W.heap.size = w.heap.size + 1 := by rw [← hW]; simp
    have r0 := kR.cell 0
    have r1 := kR.cell 1
    have r2 := kR.cell 2
    have r3 := kR.cell 3
    have r4 := kR.cell 4
    have r5 := kR.cell 5
    have r6 := kR.cell 6
    have r7 := kR.cell 7
    have r8 := kR.cell 8
    simp only [List.getElem?_toArray, List.getElem?_cons_zero, List.getElem?_cons_succ] at r0 r1 r2 r3 r4 r5 r6 r7 r8
    refine draw_start [] Later (by kernel_rfl) ?_
    refine draw_chunk (n := 47) (by kernel_rfl) (fun _ _ _ _ _ h => h) [0, 1, 2, 3, 4, 5, 6, 7, 8, 9, 10, 11, 12, 13, 14, 15, 16, 17, 18, 19, 20, 21, 22, 23, 24, 25] [] _ #[true, true, true, true, true, true, true, true, true, true, true, true, true, true, true, true, true, true, true, true, true, true, true, true, true, true] (by kernel_rfl) 0 _ ?_ _ rfl ?_ ?_
    rotate_left
    · intro w' hw'
      have hc' : ∀ b o, b < W.heap.size → w'.cell? ⟨b, o, none⟩ = W.cell? ⟨b, o, none⟩ := (bcell hw').1
      refine ci_step (i := 0) (v := ?_) rfl (by kernel_rfl) ?_ ?_
      rotate_left
      · first | (go_simp; done) | (go_simp; with_reducible rfl)
      skip
      try simp only [Act.put, List.setIfInBounds_toArray, List.set_cons_zero, List.set_cons_succ]
      refine ci_step (i := 1) (v := ?_) rfl (by kernel_rfl) ?_ ?_
      rotate_left
      · first | (go_simp; done) | (go_simp; with_reducible rfl)
      skip
      try simp only [Act.put, List.setIfInBounds_toArray, List.set_cons_zero, List.set_cons_succ]
      refine ci_step (i := 2) (v := ?_) rfl (by kernel_rfl) ?_ ?_
      rotate_left
      · first | (go_simp; done) | (go_simp; with_reducible rfl)
      skip
      try simp only [Act.put, List.setIfInBounds_toArray, List.set_cons_zero, List.set_cons_succ]
      refine ci_step (i := 3) (v := ?_) rfl (by kernel_rfl) ?_ ?_
      rotate_left
      · first | (go_simp; done) | (go_simp; with_reducible rfl)
      skip
      try simp only [Act.put, List.setIfInBounds_toArray, List.set_cons_zero, List.set_cons_succ]
      refine ci_step (i := 4) (v := ?_) rfl (by kernel_rfl) ?_ ?_
      rotate_left
      · first | (go_simp; done) | (go_simp; with_reducible rfl)
      skip
      try simp only [Act.put, List.setIfInBounds_toArray, List.set_cons_zero, List.set_cons_succ]
      refine ci_step (i := 5) (v := ?_) rfl (by kernel_rfl) ?_ ?_
      rotate_left
      · first | (go_simp; done) | (go_simp; with_reducible rfl)
      skip
      try simp only [Act.put, List.setIfInBounds_toArray, List.set_cons_zero, List.set_cons_succ]
      refine ci_step (i := 6) (v := ?_) rfl (by kernel_rfl) ?_ ?_
      rotate_left
      · first | (go_simp; done) | (go_simp; with_reducible rfl)
      skip
      try simp only [Act.put, List.setIfInBounds_toArray, List.set_cons_zero, List.set_cons_succ]
      refine ci_step (i := 7) (v := ?_) rfl (by kernel_rfl) ?_ ?_
      rotate_left
      · first | (go_simp; done) | (go_simp; with_reducible rfl)
      skip
      try simp only [Act.put, List.setIfInBounds_toArray, List.set_cons_zero, List.set_cons_succ]
      refine ci_step (i := 8) (v := ?_) rfl (by kernel_rfl) ?_ ?_
      rotate_left
      · first | (go_simp; done) | (go_simp; with_reducible rfl)
      skip
      try simp only [Act.put, List.setIfInBounds_toArray, List.set_cons_zero, List.set_cons_succ]
      refine ci_off (i := 9) rfl (by kernel_rfl) ?_
      try simp only [Act.put, List.setIfInBounds_toArray, List.set_cons_zero, List.set_cons_succ]
      refine ci_off (i := 10) rfl (by kernel_rfl) ?_
      try simp only [Act.put, List.setIfInBounds_toArray, List.set_cons_zero, List.set_cons_succ]
      refine ci_off (i := 11) rfl (by kernel_rfl) ?_
      try simp only [Act.put, List.setIfInBounds_toArray, List.set_cons_zero, List.set_cons_succ]
      refine ci_off (i := 12) rfl (by kernel_rfl) ?_
      try simp only [Act.put, List.setIfInBounds_toArray, List.set_cons_zero, List.set_cons_succ]
      refine ci_step (i := 13) (v := ?_) rfl (by kernel_rfl) ?_ ?_
      rotate_left
      · first | (go_simp; done) | (go_simp; with_reducible rfl)
      skip
      try simp only [Act.put, List.setIfInBounds_toArray, List.set_cons_zero, List.set_cons_succ]
      refine ci_step (i := 14) (v := ?_) rfl (by kernel_rfl) ?_ ?_
      rotate_left
      · first | (go_simp; done) | (go_simp; with_reducible rfl)
      skip
      try simp only [Act.put, List.setIfInBounds_toArray, List.set_cons_zero, List.set_cons_succ]
      refine ci_off (i := 15) rfl (by kernel_rfl) ?_
      try simp only [Act.put, List.setIfInBounds_toArray, List.set_cons_zero, List.set_cons_succ]
      refine ci_off (i := 16) rfl (by kernel_rfl) ?_
      try simp only [Act.put, List.setIfInBounds_toArray, List.set_cons_zero, List.set_cons_succ]
      refine ci_off (i := 17) rfl (by kernel_rfl) ?_
      try simp only [Act.put, List.setIfInBounds_toArray, List.set_cons_zero, List.set_cons_succ]
      refine ci_off (i := 18) rfl (by kernel_rfl) ?_
      try simp only [Act.put, List.setIfInBounds_toArray, List.set_cons_zero, List.set_cons_succ]
      refine ci_step (i := 19) (v := ?_) rfl (by kernel_rfl) ?_ ?_
      rotate_left
      · first | (go_simp; done) | (go_simp; with_reducible rfl)
      skip
      try simp only [Act.put, List.setIfInBounds_toArray, List.set_cons_zero, List.set_cons_succ]
      refine ci_step (i := 20) (v := ?_) rfl (by kernel_rfl) ?_ ?_
      rotate_left
      · first | (go_simp; done) | (go_simp; with_reducible rfl)
      skip
      try simp only [Act.put, List.setIfInBounds_toArray, List.set_cons_zero, List.set_cons_succ]
      refine ci_off (i := 21) rfl (by kernel_rfl) ?_
      try simp only [Act.put, List.setIfInBounds_toArray, List.set_cons_zero, List.set_cons_succ]
      refine ci_off (i := 22) rfl (by kernel_rfl) ?_
      try simp only [Act.put, List.setIfInBounds_toArray, List.set_cons_zero, List.set_cons_succ]
      refine ci_off (i := 23) rfl (by kernel_rfl) ?_
      try simp only [Act.put, List.setIfInBounds_toArray, List.set_cons_zero, List.set_cons_succ]
      refine ci_off (i := 24) rfl (by kernel_rfl) ?_
      try simp only [Act.put, List.setIfInBounds_toArray, List.set_cons_zero, List.set_cons_succ]
      refine ci_step (i := 25) (v := ?_) rfl (by kernel_rfl) ?_ ?_
      rotate_left
      · first | (go_simp; done) | (go_simp; with_reducible rfl)
      skip
      try simp only [Act.put, List.setIfInBounds_toArray, List.set_cons_zero, List.set_cons_succ]
      refine ci_end ?_
      rfl
    refine draw_done (by kernel_rfl) ?_ _
    go_wp2
    go_ret
    exact ⟨by rw [HS.out]; first | rfl | simp [*], by first | exact hb | exact Below.drew hb⟩
  rw [decide_eq_true (by omega), Bool.true_and] at hS
  have c1' : decide (kind < 1) = false := by simpa using c1
  have c2' : decide (4 < kind) = false := by simpa using c2
  obtain ⟨⟨ck, cg, cl, ci, ca, cp, co, cs, cm⟩, hbare⟩ : ∃ q, (Rec.mk kind gen lsn rid a l on rs rm).bare = q := ⟨_, rfl⟩
  rw [hbare] at hS
  replace hbare := Lib.hid hbare
  cases hE : recEqB ⟨kind, gen, lsn, rid, a, l, on, rs, rm⟩ ⟨ck, cg, cl, ci, ca, cp, co, cs, cm⟩ with
  | false =>
    rw [hE, Bool.false_and] at hS
    have HS := Lib.hid hS
    clear hS
    go_enter Try.func28, Try.ntmps28
    go_wp2_with fail
    generalize hW : w.alloc (.cells #[.int .i64 kind, .int .u32 gen, .int .u32 lsn, .int .u32 rid, .int .u32 a, .int .i64 l, .bool on, .int .u32 rs, .int .u16 rm] 50) = W at hb kR ⊢
    have hsz : W.heap.size = w.heap.size + 1 := by rw [← hW]; simp
    have r0 := kR.cell 0
    have r1 := kR.cell 1
    have r2 := kR.cell 2
    have r3 := kR.cell 3
    have r4 := kR.cell 4
    have r5 := kR.cell 5
    have r6 := kR.cell 6
    have r7 := kR.cell 7
    have r8 := kR.cell 8
    simp only [List.getElem?_toArray, List.getElem?_cons_zero, List.getElem?_cons_succ] at r0 r1 r2 r3 r4 r5 r6 r7 r8
    refine draw_start [] Later (by kernel_rfl) ?_
    refine draw_chunk (n := 47) (by kernel_rfl) (fun _ _ _ _ _ h => h) [0, 1, 2, 3, 4, 5, 6, 7, 8, 9, 10] [] _ #[true, true, true, true, true, true, true, true, true, true, true, false, false, false, false, false, false, false, false, false, false, false, false, false, false, false] (by kernel_rfl) 15 _ ?_ _ rfl ?_ ?_
    rotate_left
    · intro w' hw'
      have hc' : ∀ b o, b < W.heap.size → w'.cell? ⟨b, o, none⟩ = W.cell? ⟨b, o, none⟩ := (bcell hw').1
      refine ci_step (i := 0) (v := ?_) rfl (by kernel_rfl) ?_ ?_
      rotate_left
      · first | (go_simp; done) | (go_simp; with_reducible rfl)
      skip
      try simp only [Act.put, List.setIfInBounds_toArray, List.set_cons_zero, List.set_cons_succ]
      refine ci_step (i := 1) (v := ?_) rfl (by kernel_rfl) ?_ ?_
      rotate_left
      · first | (go_simp; done) | (go_simp; with_reducible rfl)
      skip
      try simp only [Act.put, List.setIfInBounds_toArray, List.set_cons_zero, List.set_cons_succ]
      refine ci_step (i := 2) (v := ?_) rfl (by kernel_rfl) ?_ ?_
      rotate_left
      · first | (go_simp; done) | (go_simp; with_reducible rfl)
      skip
      try simp only [Act.put, List.setIfInBounds_toArray, List.set_cons_zero, List.set_cons_succ]
      refine ci_step (i := 3) (v := ?_) rfl (by kernel_rfl) ?_ ?_
      rotate_left
      · first | (go_simp; done) | (go_simp; with_reducible rfl)
      skip
      try simp only [Act.put, List.setIfInBounds_toArray, List.set_cons_zero, List.set_cons_succ]
      refine ci_step (i := 4) (v := ?_) rfl (by kernel_rfl) ?_ ?_
      rotate_left
      · first | (go_simp; done) | (go_simp; with_reducible rfl)
      skip
      try simp only [Act.put, List.setIfInBounds_toArray, List.set_cons_zero, List.set_cons_succ]
      refine ci_step (i := 5) (v := ?_) rfl (by kernel_rfl) ?_ ?_
      rotate_left
      · first | (go_simp; done) | (go_simp; with_reducible rfl)
      skip
      try simp only [Act.put, List.setIfInBounds_toArray, List.set_cons_zero, List.set_cons_succ]
      refine ci_step (i := 6) (v := ?_) rfl (by kernel_rfl) ?_ ?_
      rotate_left
      · first | (go_simp; done) | (go_simp; with_reducible rfl)
      skip
      try simp only [Act.put, List.setIfInBounds_toArray, List.set_cons_zero, List.set_cons_succ]
      refine ci_step (i := 7) (v := ?_) rfl (by kernel_rfl) ?_ ?_
      rotate_left
      · first | (go_simp; done) | (go_simp; with_reducible rfl)
      skip
      try simp only [Act.put, List.setIfInBounds_toArray, List.set_cons_zero, List.set_cons_succ]
      refine ci_step (i := 8) (v := ?_) rfl (by kernel_rfl) ?_ ?_
      rotate_left
      · first | (go_simp; done) | (go_simp; with_reducible rfl)
      skip
      try simp only [Act.put, List.setIfInBounds_toArray, List.set_cons_zero, List.set_cons_succ]
      refine ci_step (i := 9) (v := ?_) rfl (by kernel_rfl) ?_ ?_
      rotate_left
      · first | (go_simp; done) | (go_simp; with_reducible rfl)
      skip
      try simp only [Act.put, List.setIfInBounds_toArray, List.set_cons_zero, List.set_cons_succ]
      refine ci_step (i := 10) (v := ?_) rfl (by kernel_rfl) ?_ ?_
      rotate_left
      · first | (go_simp; done) | (go_simp; with_reducible rfl)
      skip
      try simp only [Act.put, List.setIfInBounds_toArray, List.set_cons_zero, List.set_cons_succ]
      refine ci_end ?_
      rfl
    refine draw_eff (i := 11) rfl (by kernel_rfl) (listed' := #[true, true, true, true, true, true, true, true, true, true, true, true, false, false, false, false, false, false, false, false, false, false, false, false, false, false]) rfl (fun K hK => ?_)
    replace hK := Lib.hid hK
    go_wp2_with fail
    refine (rec_bare ⟨kind, gen, lsn, rid, a, l, on, rs, rm⟩ _).mono ?_
    rintro e w1 ⟨rfl, hb1⟩
    rw [hbare.out]
    simp only [Rec.val, Rec.arr]
    go_wp2_with fail
    refine hK.out _ _ ⟨fun _ => hb1, ?_⟩
    clear hK
    replace hb := below_step (Below.drew hb) hb.size hb1
    replace kR := kR.drew.below' hb1
    clear hb1
    have hl1 := kR.lt
    have r0 := kR.cell 0
    have r1 := kR.cell 1
    have r2 := kR.cell 2
    have r3 := kR.cell 3
    have r4 := kR.cell 4
    have r5 := kR.cell 5
    have r6 := kR.cell 6
    have r7 := kR.cell 7
    have r8 := kR.cell 8
    simp only [List.getElem?_toArray, List.getElem?_cons_zero, List.getElem?_cons_succ] at r0 r1 r2 r3 r4 r5 r6 r7 r8
    refine draw_chunk (n := 47) (by kernel_rfl) (fun _ _ _ _ _ h => h) [12, 13, 14, 15, 16, 17, 18, 19, 20, 21, 22, 23, 24, 25] [] _ #[true, true, true, true, true, true, true, true, true, true, true, true, true, true, true, true, true, true, true, true, true, true, true, true, true, true] (by kernel_rfl) 0 _ ?_ _ rfl ?_ ?_
    rotate_left
    · intro w' hw'
      have hc' : ∀ b o, b < w1.heap.size → w'.cell? ⟨b, o, none⟩ = w1.cell? ⟨b, o, none⟩ := (bcell hw').1
      refine ci_step (i := 12) (v := ?_) rfl (by kernel_rfl) ?_ ?_
      rotate_left
      · first | (go_simp; done) | (go_simp; with_reducible rfl)
      skip
      try simp only [Act.put, List.setIfInBounds_toArray, List.set_cons_zero, List.set_cons_succ]
      refine ci_step (i := 13) (v := ?_) rfl (by kernel_rfl) ?_ ?_
      rotate_left
      · first | (go_simp; done) | (go_simp; with_reducible rfl)
      skip
      try simp only [Act.put, List.setIfInBounds_toArray, List.set_cons_zero, List.set_cons_succ]
      refine ci_step (i := 14) (v := ?_) rfl (by kernel_rfl) ?_ ?_
      rotate_left
      · first | (go_simp; done) | (go_simp; with_reducible rfl)
      skip
      try simp only [Act.put, List.setIfInBounds_toArray, List.set_cons_zero, List.set_cons_succ]
      refine ci_off (i := 15) rfl (by kernel_rfl) ?_
      try simp only [Act.put, List.setIfInBounds_toArray, List.set_cons_zero, List.set_cons_succ]
      refine ci_off (i := 16) rfl (by kernel_rfl) ?_
      try simp only [Act.put, List.setIfInBounds_toArray, List.set_cons_zero, List.set_cons_succ]
      refine ci_off (i := 17) rfl (by kernel_rfl) ?_
      try simp only [Act.put, List.setIfInBounds_toArray, List.set_cons_zero, List.set_cons_succ]
      refine ci_off (i := 18) rfl (by kernel_rfl) ?_
      try simp only [Act.put, List.setIfInBounds_toArray, List.set_cons_zero, List.set_cons_succ]
      refine ci_step (i := 19) (v := ?_) rfl (by kernel_rfl) ?_ ?_
      rotate_left
      · first | (go_simp; done) | (go_simp; with_reducible rfl)
      skip
      try simp only [Act.put, List.setIfInBounds_toArray, List.set_cons_zero, List.set_cons_succ]
      refine ci_step (i := 20) (v := ?_) rfl (by kernel_rfl) ?_ ?_
      rotate_left
      · first | (go_simp; done) | (go_simp; with_reducible rfl)
      skip
      try simp only [Act.put, List.setIfInBounds_toArray, List.set_cons_zero, List.set_cons_succ]
      refine ci_off (i := 21) rfl (by kernel_rfl) ?_
      try simp only [Act.put, List.setIfInBounds_toArray, List.set_cons_zero, List.set_cons_succ]
      refine ci_off (i := 22) rfl (by kernel_rfl) ?_
      try simp only [Act.put, List.setIfInBounds_toArray, List.set_cons_zero, List.set_cons_succ]
      refine ci_off (i := 23) rfl (by kernel_rfl) ?_
      try simp only [Act.put, List.setIfInBounds_toArray, List.set_cons_zero, List.set_cons_succ]
      refine ci_off (i := 24) rfl (by kernel_rfl) ?_
      try simp only [Act.put, List.setIfInBounds_toArray, List.set_cons_zero, List.set_cons_succ]
      refine ci_step (i := 25) (v := ?_) rfl (by kernel_rfl) ?_ ?_
      rotate_left
      · first | (go_simp; done) | (go_simp; with_reducible rfl)
      skip
      try simp only [Act.put, List.setIfInBounds_toArray, List.set_cons_zero, List.set_cons_succ]
      refine ci_end ?_
      rfl
    refine draw_done (by kernel_rfl) ?_ _
    go_wp2
    go_ret
    exact ⟨by rw [HS.out]; first | rfl | simp [*], by first | exact hb | exact Below.drew hb⟩
  | true =>
    rw [hE, Bool.true_and] at hS
    cases hR : rightB a l with
    | false =>
      rw [hR, Bool.false_and] at hS
      have HS := Lib.hid hS
      clear hS
      go_enter Try.func28, Try.ntmps28
      go_wp2_with fail
      generalize hW : w.alloc (.cells #[.int .i64 kind, .int .u32 gen, .int .u32 lsn, .int .u32 rid, .int .u32 a, .int .i64 l, .bool on, .int .u32 rs, .int .u16 rm] 50) = W at hb kR ⊢
      have hsz : W.heap.size = w.heap.size + 1 := by rw [← hW]; simp
      have r0 := kR.cell 0
      have r1 := kR.cell 1
      have r2 := kR.cell 2
      have r3 := kR.cell 3
      have r4 := kR.cell 4
      have r5 := kR.cell 5
      have r6 := kR.cell 6
      have r7 := kR.cell 7
      have r8 := kR.cell 8
      simp only [List.getElem?_toArray, List.getElem?_cons_zero, List.getElem?_cons_succ] at r0 r1 r2 r3 r4 r5 r6 r7 r8
      refine draw_start [] Later (by kernel_rfl) ?_
      refine draw_chunk (n := 47) (by kernel_rfl) (fun _ _ _ _ _ h => h) [0, 1, 2, 3, 4, 5, 6, 7, 8, 9, 10] [] _ #[true, true, true, true, true, true, true, true, true, true, true, false, false, false, false, false, false, false, false, false, false, false, false, false, false, false] (by kernel_rfl) 15 _ ?_ _ rfl ?_ ?_
      rotate_left
      · intro w' hw'
        have hc' : ∀ b o, b < W.heap.size → w'.cell? ⟨b, o, none⟩ = W.cell? ⟨b, o, none⟩ := (bcell hw').1
        refine ci_step (i := 0) (v := ?_) rfl (by kernel_rfl) ?_ ?_
        rotate_left
        · first | (go_simp; done) | (go_simp; with_reducible rfl)
        skip
        try simp only [Act.put, List.setIfInBounds_toArray, List.set_cons_zero, List.set_cons_succ]
        refine ci_step (i := 1) (v := ?_) rfl (by kernel_rfl) ?_ ?_
        rotate_left
        · first | (go_simp; done) | (go_simp; with_reducible rfl)
        skip
        try simp only [Act.put, List.setIfInBounds_toArray, List.set_cons_zero, List.set_cons_succ]
        refine ci_step (i := 2) (v := ?_) rfl (by kernel_rfl) ?_ ?_
        rotate_left
        · first | (go_simp; done) | (go_simp; with_reducible rfl)
        skip
        try simp only [Act.put, List.setIfInBounds_toArray, List.set_cons_zero, List.set_cons_succ]
        refine ci_step (i := 3) (v := ?_) rfl (by kernel_rfl) ?_ ?_
        rotate_left
        · first | (go_simp; done) | (go_simp; with_reducible rfl)
        skip
        try simp only [Act.put, List.setIfInBounds_toArray, List.set_cons_zero, List.set_cons_succ]
        refine ci_step (i := 4) (v := ?_) rfl (by kernel_rfl) ?_ ?_
        rotate_left
        · first | (go_simp; done) | (go_simp; with_reducible rfl)
        skip
        try simp only [Act.put, List.setIfInBounds_toArray, List.set_cons_zero, List.set_cons_succ]
        refine ci_step (i := 5) (v := ?_) rfl (by kernel_rfl) ?_ ?_
        rotate_left
        · first | (go_simp; done) | (go_simp; with_reducible rfl)
        skip
        try simp only [Act.put, List.setIfInBounds_toArray, List.set_cons_zero, List.set_cons_succ]
        refine ci_step (i := 6) (v := ?_) rfl (by kernel_rfl) ?_ ?_
        rotate_left
        · first | (go_simp; done) | (go_simp; with_reducible rfl)
        skip
        try simp only [Act.put, List.setIfInBounds_toArray, List.set_cons_zero, List.set_cons_succ]
        refine ci_step (i := 7) (v := ?_) rfl (by kernel_rfl) ?_ ?_
        rotate_left
        · first | (go_simp; done) | (go_simp; with_reducible rfl)
        skip
        try simp only [Act.put, List.setIfInBounds_toArray, List.set_cons_zero, List.set_cons_succ]
        refine ci_step (i := 8) (v := ?_) rfl (by kernel_rfl) ?_ ?_
        rotate_left
        · first | (go_simp; done) | (go_simp; with_reducible rfl)
        skip
        try simp only [Act.put, List.setIfInBounds_toArray, List.set_cons_zero, List.set_cons_succ]
        refine ci_step (i := 9) (v := ?_) rfl (by kernel_rfl) ?_ ?_
        rotate_left
        · first | (go_simp; done) | (go_simp; with_reducible rfl)
        skip
        try simp only [Act.put, List.setIfInBounds_toArray, List.set_cons_zero, List.set_cons_succ]
        refine ci_step (i := 10) (v := ?_) rfl (by kernel_rfl) ?_ ?_
        rotate_left
        · first | (go_simp; done) | (go_simp; with_reducible rfl)
        skip
        try simp only [Act.put, List.setIfInBounds_toArray, List.set_cons_zero, List.set_cons_succ]
        refine ci_end ?_
        rfl
      refine draw_eff (i := 11) rfl (by kernel_rfl) (listed' := #[true, true, true, true, true, true, true, true, true, true, true, true, false, false, false, false, false, false, false, false, false, false, false, false, false, false]) rfl (fun K hK => ?_)
      replace hK := Lib.hid hK
      go_wp2_with fail
      refine (rec_bare ⟨kind, gen, lsn, rid, a, l, on, rs, rm⟩ _).mono ?_
      rintro e w1 ⟨rfl, hb1⟩
      rw [hbare.out]
      simp only [Rec.val, Rec.arr]
      go_wp2_with fail
      refine hK.out _ _ ⟨fun _ => hb1, ?_⟩
      clear hK
      replace hb := below_step (Below.drew hb) hb.size hb1
      replace kR := kR.drew.below' hb1
      clear hb1
      have hl1 := kR.lt
      have r0 := kR.cell 0
      have r1 := kR.cell 1
      have r2 := kR.cell 2
      have r3 := kR.cell 3
      have r4 := kR.cell 4
      have r5 := kR.cell 5
      have r6 := kR.cell 6
      have r7 := kR.cell 7
      have r8 := kR.cell 8
      simp only [List.getElem?_toArray, List.getElem?_cons_zero, List.getElem?_cons_succ] at r0 r1 r2 r3 r4 r5 r6 r7 r8
      refine draw_chunk (n := 47) (by kernel_rfl) (fun _ _ _ _ _ h => h) [12, 13, 14, 15, 16] [] _ #[true, true, true, true, true, true, true, true, true, true, true, true, true, true, true, true, true, false, false, false, false, false, false, false, false, false] (by kernel_rfl) 9 _ ?_ _ rfl ?_ ?_
      rotate_left
      · intro w' hw'
        have hc' : ∀ b o, b < w1.heap.size → w'.cell? ⟨b, o, none⟩ = w1.cell? ⟨b, o, none⟩ := (bcell hw').1
        refine ci_step (i := 12) (v := ?_) rfl (by kernel_rfl) ?_ ?_
        rotate_left
        · first | (go_simp; done) | (go_simp; with_reducible rfl)
        skip
        try simp only [Act.put, List.setIfInBounds_toArray, List.set_cons_zero, List.set_cons_succ]
        refine ci_step (i := 13) (v := ?_) rfl (by kernel_rfl) ?_ ?_
        rotate_left
        · first | (go_simp; done) | (go_simp; with_reducible rfl)
        skip
        try simp only [Act.put, List.setIfInBounds_toArray, List.set_cons_zero, List.set_cons_succ]
        refine ci_step (i := 14) (v := ?_) rfl (by kernel_rfl) ?_ ?_
        rotate_left
        · first | (go_simp; done) | (go_simp; with_reducible rfl)
        skip
        try simp only [Act.put, List.setIfInBounds_toArray, List.set_cons_zero, List.set_cons_succ]
        refine ci_step (i := 15) (v := ?_) rfl (by kernel_rfl) ?_ ?_
        rotate_left
        · first | (go_simp; done) | (go_simp; with_reducible rfl)
        skip
        try simp only [Act.put, List.setIfInBounds_toArray, List.set_cons_zero, List.set_cons_succ]
        refine ci_step (i := 16) (v := ?_) rfl (by kernel_rfl) ?_ ?_
        rotate_left
        · first | (go_simp; done) | (go_simp; with_reducible rfl)
        skip
        try simp only [Act.put, List.setIfInBounds_toArray, List.set_cons_zero, List.set_cons_succ]
        refine ci_end ?_
        rfl
      refine draw_eff (i := 17) rfl (by kernel_rfl) (listed' := #[true, true, true, true, true, true, true, true, true, true, true, true, true, true, true, true, true, true, false, false, false, false, false, false, false, false]) rfl (fun K hK => ?_)
      replace hK := Lib.hid hK
      go_wp2_with fail
      refine (addr_Right _ _ _ ha).mono ?_
      rintro e w2 ⟨rfl, hb1⟩
      rw [hR]
      go_wp2_with fail
      refine hK.out _ _ ⟨fun _ => hb1, ?_⟩
      clear hK
      replace hb := below_step hb hb.size hb1
      replace kR := kR.below' hb1
      clear hb1
      have hl1 := kR.lt
      have r0 := kR.cell 0
      have r1 := kR.cell 1
      have r2 := kR.cell 2
      have r3 := kR.cell 3
      have r4 := kR.cell 4
      have r5 := kR.cell 5
      have r6 := kR.cell 6
      have r7 := kR.cell 7
      have r8 := kR.cell 8
      simp only [List.getElem?_toArray, List.getElem?_cons_zero, List.getElem?_cons_succ] at r0 r1 r2 r3 r4 r5 r6 r7 r8
      refine draw_chunk (n := 47) (by kernel_rfl) (fun _ _ _ _ _ h => h) [18, 19, 20, 21, 22, 23, 24, 25] [] _ #[true, true, true, true, true, true, true, true, true, true, true, true, true, true, true, true, true, true, true, true, true, true, true, true, true, true] (by kernel_rfl) 0 _ ?_ _ rfl ?_ ?_
      rotate_left
      · intro w' hw'
        have hc' : ∀ b o, b < w2.heap.size → w'.cell? ⟨b, o, none⟩ = w2.cell? ⟨b, o, none⟩ := (bcell hw').1
        refine ci_step (i := 18) (v := ?_) rfl (by kernel_rfl) ?_ ?_
        rotate_left
        · first | (go_simp; done) | (go_simp; with_reducible rfl)
        skip
        try simp only [Act.put, List.setIfInBounds_toArray, List.set_cons_zero, List.set_cons_succ]
        refine ci_step (i := 19) (v := ?_) rfl (by kernel_rfl) ?_ ?_
        rotate_left
        · first | (go_simp; done) | (go_simp; with_reducible rfl)
        skip
        try simp only [Act.put, List.setIfInBounds_toArray, List.set_cons_zero, List.set_cons_succ]
        refine ci_step (i := 20) (v := ?_) rfl (by kernel_rfl) ?_ ?_
        rotate_left
        · first | (go_simp; done) | (go_simp; with_reducible rfl)
        skip
        try simp only [Act.put, List.setIfInBounds_toArray, List.set_cons_zero, List.set_cons_succ]
        refine ci_off (i := 21) rfl (by kernel_rfl) ?_
        try simp only [Act.put, List.setIfInBounds_toArray, List.set_cons_zero, List.set_cons_succ]
        refine ci_off (i := 22) rfl (by kernel_rfl) ?_
        try simp only [Act.put, List.setIfInBounds_toArray, List.set_cons_zero, List.set_cons_succ]
        refine ci_off (i := 23) rfl (by kernel_rfl) ?_
        try simp only [Act.put, List.setIfInBounds_toArray, List.set_cons_zero, List.set_cons_succ]
        refine ci_off (i := 24) rfl (by kernel_rfl) ?_
        try simp only [Act.put, List.setIfInBounds_toArray, List.set_cons_zero, List.set_cons_succ]
        refine ci_step (i := 25) (v := ?_) rfl (by kernel_rfl) ?_ ?_
        rotate_left
        · first | (go_simp; done) | (go_simp; with_reducible rfl)
        skip
        try simp only [Act.put, List.setIfInBounds_toArray, List.set_cons_zero, List.set_cons_succ]
        refine ci_end ?_
        rfl
      refine draw_done (by kernel_rfl) ?_ _
      go_wp2
      go_ret
      exact ⟨by rw [HS.out]; first | rfl | simp [*], by first | exact hb | exact Below.drew hb⟩
    | true =>
      rw [hR, Bool.true_and] at hS
      cases hs : decide (1073741824 < rs) with
      | true =>
        rw [hs] at hS
        have HS := Lib.hid (hS.trans rfl)
        clear hS
        go_enter Try.func28, Try.ntmps28
        go_wp2_with fail
        generalize hW : w.alloc (.cells #[.int .i64 kind, .int .u32 gen, .int .u32 lsn, .int .u32 rid, .int .u32 a, .int .i64 l, .bool on, .int .u32 rs, .int .u16 rm] 50) = W at hb kR ⊢
        have hsz : W.heap.size = w.heap.size + 1 := by rw [← hW]; simp
        have r0 := kR.cell 0
        have r1 := kR.cell 1
        have r2 := kR.cell 2
        have r3 := kR.cell 3
        have r4 := kR.cell 4
        have r5 := kR.cell 5
        have r6 := kR.cell 6
        have r7 := kR.cell 7
        have r8 := kR.cell 8
        simp only [List.getElem?_toArray, List.getElem?_cons_zero, List.getElem?_cons_succ] at r0 r1 r2 r3 r4 r5 r6 r7 r8
        refine draw_start [] Later (by kernel_rfl) ?_
        refine draw_chunk (n := 47) (by kernel_rfl) (fun _ _ _ _ _ h => h) [0, 1, 2, 3, 4, 5, 6, 7, 8, 9, 10] [] _ #[true, true, true, true, true, true, true, true, true, true, true, false, false, false, false, false, false, false, false, false, false, false, false, false, false, false] (by kernel_rfl) 15 _ ?_ _ rfl ?_ ?_
        rotate_left
        · intro w' hw'
          have hc' : ∀ b o, b < W.heap.size → w'.cell? ⟨b, o, none⟩ = W.cell? ⟨b, o, none⟩ := (bcell hw').1
          refine ci_step (i := 0) (v := ?_) rfl (by kernel_rfl) ?_ ?_
          rotate_left
          · first | (go_simp; done) | (go_simp; with_reducible rfl)
          skip
          try simp only [Act.put, List.setIfInBounds_toArray, List.set_cons_zero, List.set_cons_succ]
          refine ci_step (i := 1) (v := ?_) rfl (by kernel_rfl) ?_ ?_
          rotate_left
          · first | (go_simp; done) | (go_simp; with_reducible rfl)
          skip
          try simp only [Act.put, List.setIfInBounds_toArray, List.set_cons_zero, List.set_cons_succ]
          refine ci_step (i := 2) (v := ?_) rfl (by kernel_rfl) ?_ ?_
          rotate_left
          · first | (go_simp; done) | (go_simp; with_reducible rfl)
          skip
          try simp only [Act.put, List.setIfInBounds_toArray, List.set_cons_zero, List.set_cons_succ]
          refine ci_step (i := 3) (v := ?_) rfl (by kernel_rfl) ?_ ?_
          rotate_left
          · first | (go_simp; done) | (go_simp; with_reducible rfl)
          skip
          try simp only [Act.put, List.setIfInBounds_toArray, List.set_cons_zero, List.set_cons_succ]
          refine ci_step (i := 4) (v := ?_) rfl (by kernel_rfl) ?_ ?_
          rotate_left
          · first | (go_simp; done) | (go_simp; with_reducible rfl)
          skip
          try simp only [Act.put, List.setIfInBounds_toArray, List.set_cons_zero, List.set_cons_succ]
          refine ci_step (i := 5) (v := ?_) rfl (by kernel_rfl) ?_ ?_
          rotate_left
          · first | (go_simp; done) | (go_simp; with_reducible rfl)
          skip
          try simp only [Act.put, List.setIfInBounds_toArray, List.set_cons_zero, List.set_cons_succ]
          refine ci_step (i := 6) (v := ?_) rfl (by kernel_rfl) ?_ ?_
          rotate_left
          · first | (go_simp; done) | (go_simp; with_reducible rfl)
          skip
          try simp only [Act.put, List.setIfInBounds_toArray, List.set_cons_zero, List.set_cons_succ]
          refine ci_step (i := 7) (v := ?_) rfl (by kernel_rfl) ?_ ?_
          rotate_left
          · first | (go_simp; done) | (go_simp; with_reducible rfl)
          skip
          try simp only [Act.put, List.setIfInBounds_toArray, List.set_cons_zero, List.set_cons_succ]
          refine ci_step (i := 8) (v := ?_) rfl (by kernel_rfl) ?_ ?_
          rotate_left
          · first | (go_simp; done) | (go_simp; with_reducible rfl)
          skip
          try simp only [Act.put, List.setIfInBounds_toArray, List.set_cons_zero, List.set_cons_succ]
          refine ci_step (i := 9) (v := ?_) rfl (by kernel_rfl) ?_ ?_
          rotate_left
          · first | (go_simp; done) | (go_simp; with_reducible rfl)
          skip
          try simp only [Act.put, List.setIfInBounds_toArray, List.set_cons_zero, List.set_cons_succ]
          refine ci_step (i := 10) (v := ?_) rfl (by kernel_rfl) ?_ ?_
          rotate_left
          · first | (go_simp; done) | (go_simp; with_reducible rfl)
          skip
          try simp only [Act.put, List.setIfInBounds_toArray, List.set_cons_zero, List.set_cons_succ]
          refine ci_end ?_
          rfl
        refine draw_eff (i := 11) rfl (by kernel_rfl) (listed' := #[true, true, true, true, true, true, true, true, true, true, true, true, false, false, false, false, false, false, false, false, false, false, false, false, false, false]) rfl (fun K hK => ?_)
        replace hK := Lib.hid hK
        go_wp2_with fail
        refine (rec_bare ⟨kind, gen, lsn, rid, a, l, on, rs, rm⟩ _).mono ?_
        rintro e w1 ⟨rfl, hb1⟩
        rw [hbare.out]
        simp only [Rec.val, Rec.arr]
        go_wp2_with fail
        refine hK.out _ _ ⟨fun _ => hb1, ?_⟩
        clear hK
        replace hb := below_step (Below.drew hb) hb.size hb1
        replace kR := kR.drew.below' hb1
        clear hb1
        have hl1 := kR.lt
        have r0 := kR.cell 0
        have r1 := kR.cell 1
        have r2 := kR.cell 2
        have r3 := kR.cell 3
        have r4 := kR.cell 4
        have r5 := kR.cell 5
        have r6 := kR.cell 6
        have r7 := kR.cell 7
        have r8 := kR.cell 8
        simp only [List.getElem?_toArray, List.getElem?_cons_zero, List.getElem?_cons_succ] at r0 r1 r2 r3 r4 r5 r6 r7 r8
        refine draw_chunk (n := 47) (by kernel_rfl) (fun _ _ _ _ _ h => h) [12, 13, 14, 15, 16] [] _ #[true, true, true, true, true, true, true, true, true, true, true, true, true, true, true, true, true, false, false, false, false, false, false, false, false, false] (by kernel_rfl) 9 _ ?_ _ rfl ?_ ?_
        rotate_left
        · intro w' hw'
          have hc' : ∀ b o, b < w1.heap.size → w'.cell? ⟨b, o, none⟩ = w1.cell? ⟨b, o, none⟩ := (bcell hw').1
          refine ci_step (i := 12) (v := ?_) rfl (by kernel_rfl) ?_ ?_
          rotate_left
          · first | (go_simp; done) | (go_simp; with_reducible rfl)
          skip
          try simp only [Act.put, List.setIfInBounds_toArray, List.set_cons_zero, List.set_cons_succ]
          refine ci_step (i := 13) (v := ?_) rfl (by kernel_rfl) ?_ ?_
          rotate_left
          · first | (go_simp; done) | (go_simp; with_reducible rfl)
          skip
          try simp only [Act.put, List.setIfInBounds_toArray, List.set_cons_zero, List.set_cons_succ]
          refine ci_step (i := 14) (v := ?_) rfl (by kernel_rfl) ?_ ?_
          rotate_left
          · first | (go_simp; done) | (go_simp; with_reducible rfl)
          skip
          try simp only [Act.put, List.setIfInBounds_toArray, List.set_cons_zero, List.set_cons_succ]
          refine ci_step (i := 15) (v := ?_) rfl (by kernel_rfl) ?_ ?_
          rotate_left
          · first | (go_simp; done) | (go_simp; with_reducible rfl)
          skip
          try simp only [Act.put, List.setIfInBounds_toArray, List.set_cons_zero, List.set_cons_succ]
          refine ci_step (i := 16) (v := ?_) rfl (by kernel_rfl) ?_ ?_
          rotate_left
          · first | (go_simp; done) | (go_simp; with_reducible rfl)
          skip
          try simp only [Act.put, List.setIfInBounds_toArray, List.set_cons_zero, List.set_cons_succ]
          refine ci_end ?_
          rfl
        refine draw_eff (i := 17) rfl (by kernel_rfl) (listed' := #[true, true, true, true, true, true, true, true, true, true, true, true, true, true, true, true, true, true, false, false, false, false, false, false, false, false]) rfl (fun K hK => ?_)
        replace hK := Lib.hid hK
        go_wp2_with fail
        refine (addr_Right _ _ _ ha).mono ?_
        rintro e w2 ⟨rfl, hb1⟩
        rw [hR]
        go_wp2_with fail
        refine hK.out _ _ ⟨fun _ => hb1, ?_⟩
        clear hK
        replace hb := below_step hb hb.size hb1
        replace kR := kR.below' hb1
        clear hb1
        have hl1 := kR.lt
        have r0 := kR.cell 0
        have r1 := kR.cell 1
        have r2 := kR.cell 2
        have r3 := kR.cell 3
        have r4 := kR.cell 4
        have r5 := kR.cell 5
        have r6 := kR.cell 6
        have r7 := kR.cell 7
        have r8 := kR.cell 8
        simp only [List.getElem?_toArray, List.getElem?_cons_zero, List.getElem?_cons_succ] at r0 r1 r2 r3 r4 r5 r6 r7 r8
        refine draw_chunk (n := 47) (by kernel_rfl) (fun _ _ _ _ _ h => h) [18, 19, 20, 21, 22, 23, 24, 25] [] _ #[true, true, true, true, true, true, true, true, true, true, true, true, true, true, true, true, true, true, true, true, true, true, true, true, true, true] (by kernel_rfl) 0 _ ?_ _ rfl ?_ ?_
        rotate_left
        · intro w' hw'
          have hc' : ∀ b o, b < w2.heap.size → w'.cell? ⟨b, o, none⟩ = w2.cell? ⟨b, o, none⟩ := (bcell hw').1
          refine ci_step (i := 18) (v := ?_) rfl (by kernel_rfl) ?_ ?_
          rotate_left
          · first | (go_simp; done) | (go_simp; with_reducible rfl)
          skip
          try simp only [Act.put, List.setIfInBounds_toArray, List.set_cons_zero, List.set_cons_succ]
          refine ci_step (i := 19) (v := ?_) rfl (by kernel_rfl) ?_ ?_
          rotate_left
          · first | (go_simp; done) | (go_simp; with_reducible rfl)
          skip
          try simp only [Act.put, List.setIfInBounds_toArray, List.set_cons_zero, List.set_cons_succ]
          refine ci_step (i := 20) (v := ?_) rfl (by kernel_rfl) ?_ ?_
          rotate_left
          · first | (go_simp; done) | (go_simp; with_reducible rfl)
          skip
          try simp only [Act.put, List.setIfInBounds_toArray, List.set_cons_zero, List.set_cons_succ]
          refine ci_step (i := 21) (v := ?_) rfl (by kernel_rfl) ?_ ?_
          rotate_left
          · first | (go_simp; done) | (go_simp; with_reducible rfl)
          skip
          try simp only [Act.put, List.setIfInBounds_toArray, List.set_cons_zero, List.set_cons_succ]
          refine ci_step (i := 22) (v := ?_) rfl (by kernel_rfl) ?_ ?_
          rotate_left
          · first | (go_simp; done) | (go_simp; with_reducible rfl)
          skip
          try simp only [Act.put, List.setIfInBounds_toArray, List.set_cons_zero, List.set_cons_succ]
          refine ci_step (i := 23) (v := ?_) rfl (by kernel_rfl) ?_ ?_
          rotate_left
          · first | (go_simp; done) | (go_simp; with_reducible rfl)
          skip
          try simp only [Act.put, List.setIfInBounds_toArray, List.set_cons_zero, List.set_cons_succ]
          refine ci_step (i := 24) (v := ?_) rfl (by kernel_rfl) ?_ ?_
          rotate_left
          · first | (go_simp; done) | (go_simp; with_reducible rfl)
          skip
          try simp only [Act.put, List.setIfInBounds_toArray, List.set_cons_zero, List.set_cons_succ]
          refine ci_step (i := 25) (v := ?_) rfl (by kernel_rfl) ?_ ?_
          rotate_left
          · first | (go_simp; done) | (go_simp; with_reducible rfl)
          skip
          try simp only [Act.put, List.setIfInBounds_toArray, List.set_cons_zero, List.set_cons_succ]
          refine ci_end ?_
          rfl
        refine draw_done (by kernel_rfl) ?_ _
        go_wp2
        go_ret
        exact ⟨by rw [HS.out]; first | rfl | simp [*], by first | exact hb | exact Below.drew hb⟩
      | false =>
        rw [hs, Bool.not_false, Bool.true_and] at hS
        cases hk1 : (kind == 1) with
        | true =>
          rw [hk1, Bool.true_or] at hS
          cases hid : (rid != 0) with
          | true =>
            rw [hid] at hS
            have HS := Lib.hid (show _ = !(rm == 65535) from hS)
            clear hS
            go_enter Try.func28, Try.ntmps28
            go_wp2_with fail
            generalize hW : w.alloc (.cells #[.int .i64 kind, .int .u32 gen, .int .u32 lsn, .int .u32 rid, .int .u32 a, .int .i64 l, .bool on, .int .u32 rs, .int .u16 rm] 50) = W at hb kR ⊢
            have hsz : W.heap.size = w.heap.size + 1 := by rw [← hW]; simp
            have r0 := kR.cell 0
            have r1 := kR.cell 1
            have r2 := kR.cell 2
            have r3 := kR.cell 3
            have r4 := kR.cell 4
            have r5 := kR.cell 5
            have r6 := kR.cell 6
            have r7 := kR.cell 7
            have r8 := kR.cell 8
            simp only [List.getElem?_toArray, List.getElem?_cons_zero, List.getElem?_cons_succ] at r0 r1 r2 r3 r4 r5 r6 r7 r8
            refine draw_start [] Later (by kernel_rfl) ?_
            refine draw_chunk (n := 47) (by kernel_rfl) (fun _ _ _ _ _ h => h) [0, 1, 2, 3, 4, 5, 6, 7, 8, 9, 10] [] _ #[true, true, true, true, true, true, true, true, true, true, true, false, false, false, false, false, false, false, false, false, false, false, false, false, false, false] (by kernel_rfl) 15 _ ?_ _ rfl ?_ ?_
            rotate_left
            · intro w' hw'
              have hc' : ∀ b o, b < W.heap.size → w'.cell? ⟨b, o, none⟩ = W.cell? ⟨b, o, none⟩ := (bcell hw').1
              refine ci_step (i := 0) (v := ?_) rfl (by kernel_rfl) ?_ ?_
              rotate_left
              · first | (go_simp; done) | (go_simp; with_reducible rfl)
              skip
              try simp only [Act.put, List.setIfInBounds_toArray, List.set_cons_zero, List.set_cons_succ]
              refine ci_step (i := 1) (v := ?_) rfl (by kernel_rfl) ?_ ?_
              rotate_left
              · first | (go_simp; done) | (go_simp; with_reducible rfl)
              skip
              try simp only [Act.put, List.setIfInBounds_toArray, List.set_cons_zero, List.set_cons_succ]
              refine ci_step (i := 2) (v := ?_) rfl (by kernel_rfl) ?_ ?_
              rotate_left
              · first | (go_simp; done) | (go_simp; with_reducible rfl)
              skip
              try simp only [Act.put, List.setIfInBounds_toArray, List.set_cons_zero, List.set_cons_succ]
              refine ci_step (i := 3) (v := ?_) rfl (by kernel_rfl) ?_ ?_
              rotate_left
              · first | (go_simp; done) | (go_simp; with_reducible rfl)
              skip
              try simp only [Act.put, List.setIfInBounds_toArray, List.set_cons_zero, List.set_cons_succ]
              refine ci_step (i := 4) (v := ?_) rfl (by kernel_rfl) ?_ ?_
              rotate_left
              · first | (go_simp; done) | (go_simp; with_reducible rfl)
              skip
              try simp only [Act.put, List.setIfInBounds_toArray, List.set_cons_zero, List.set_cons_succ]
              refine ci_step (i := 5) (v := ?_) rfl (by kernel_rfl) ?_ ?_
              rotate_left
              · first | (go_simp; done) | (go_simp; with_reducible rfl)
              skip
              try simp only [Act.put, List.setIfInBounds_toArray, List.set_cons_zero, List.set_cons_succ]
              refine ci_step (i := 6) (v := ?_) rfl (by kernel_rfl) ?_ ?_
              rotate_left
              · first | (go_simp; done) | (go_simp; with_reducible rfl)
              skip
              try simp only [Act.put, List.setIfInBounds_toArray, List.set_cons_zero, List.set_cons_succ]
              refine ci_step (i := 7) (v := ?_) rfl (by kernel_rfl) ?_ ?_
              rotate_left
              · first | (go_simp; done) | (go_simp; with_reducible rfl)
              skip
              try simp only [Act.put, List.setIfInBounds_toArray, List.set_cons_zero, List.set_cons_succ]
              refine ci_step (i := 8) (v := ?_) rfl (by kernel_rfl) ?_ ?_
              rotate_left
              · first | (go_simp; done) | (go_simp; with_reducible rfl)
              skip
              try simp only [Act.put, List.setIfInBounds_toArray, List.set_cons_zero, List.set_cons_succ]
              refine ci_step (i := 9) (v := ?_) rfl (by kernel_rfl) ?_ ?_
              rotate_left
              · first | (go_simp; done) | (go_simp; with_reducible rfl)
              skip
              try simp only [Act.put, List.setIfInBounds_toArray, List.set_cons_zero, List.set_cons_succ]
              refine ci_step (i := 10) (v := ?_) rfl (by kernel_rfl) ?_ ?_
              rotate_left
              · first | (go_simp; done) | (go_simp; with_reducible rfl)
              skip
              try simp only [Act.put, List.setIfInBounds_toArray, List.set_cons_zero, List.set_cons_succ]
              refine ci_end ?_
              rfl
            refine draw_eff (i := 11) rfl (by kernel_rfl) (listed' := #[true, true, true, true, true, true, true, true, true, true, true, true, false, false, false, false, false, false, false, false, false, false, false, false, false, false]) rfl (fun K hK => ?_)
            replace hK := Lib.hid hK
            go_wp2_with fail
            refine (rec_bare ⟨kind, gen, lsn, rid, a, l, on, rs, rm⟩ _).mono ?_
            rintro e w1 ⟨rfl, hb1⟩
            rw [hbare.out]
            simp only [Rec.val, Rec.arr]
            go_wp2_with fail
            refine hK.out _ _ ⟨fun _ => hb1, ?_⟩
            clear hK
            replace hb := below_step (Below.drew hb) hb.size hb1
            replace kR := kR.drew.below' hb1
            clear hb1
            have hl1 := kR.lt
            have r0 := kR.cell 0
            have r1 := kR.cell 1
            have r2 := kR.cell 2
            have r3 := kR.cell 3
            have r4 := kR.cell 4
            have r5 := kR.cell 5
            have r6 := kR.cell 6
            have r7 := kR.cell 7
            have r8 := kR.cell 8
            simp only [List.getElem?_toArray, List.getElem?_cons_zero, List.getElem?_cons_succ] at r0 r1 r2 r3 r4 r5 r6 r7 r8
            refine draw_chunk (n := 47) (by kernel_rfl) (fun _ _ _ _ _ h => h) [12, 13, 14, 15, 16] [] _ #[true, true, true, true, true, true, true, true, true, true, true, true, true, true, true, true, true, false, false, false, false, false, false, false, false, false] (by kernel_rfl) 9 _ ?_ _ rfl ?_ ?_
            rotate_left
            · intro w' hw'
              have hc' : ∀ b o, b < w1.heap.size → w'.cell? ⟨b, o, none⟩ = w1.cell? ⟨b, o, none⟩ := (bcell hw').1
              refine ci_step (i := 12) (v := ?_) rfl (by kernel_rfl) ?_ ?_
              rotate_left
              · first | (go_simp; done) | (go_simp; with_reducible rfl)
              skip
              try simp only [Act.put, List.setIfInBounds_toArray, List.set_cons_zero, List.set_cons_succ]
              refine ci_step (i := 13) (v := ?_) rfl (by kernel_rfl) ?_ ?_
              rotate_left
              · first | (go_simp; done) | (go_simp; with_reducible rfl)
              skip
              try simp only [Act.put, List.setIfInBounds_toArray, List.set_cons_zero, List.set_cons_succ]
              refine ci_step (i := 14) (v := ?_) rfl (by kernel_rfl) ?_ ?_
              rotate_left
              · first | (go_simp; done) | (go_simp; with_reducible rfl)
              skip
              try simp only [Act.put, List.setIfInBounds_toArray, List.set_cons_zero, List.set_cons_succ]
              refine ci_step (i := 15) (v := ?_) rfl (by kernel_rfl) ?_ ?_
              rotate_left
              · first | (go_simp; done) | (go_simp; with_reducible rfl)
              skip
              try simp only [Act.put, List.setIfInBounds_toArray, List.set_cons_zero, List.set_cons_succ]
              refine ci_step (i := 16) (v := ?_) rfl (by kernel_rfl) ?_ ?_
              rotate_left
              · first | (go_simp; done) | (go_simp; with_reducible rfl)
              skip
              try simp only [Act.put, List.setIfInBounds_toArray, List.set_cons_zero, List.set_cons_succ]
              refine ci_end ?_
              rfl
            refine draw_eff (i := 17) rfl (by kernel_rfl) (listed' := #[true, true, true, true, true, true, true, true, true, true, true, true, true, true, true, true, true, true, false, false, false, false, false, false, false, false]) rfl (fun K hK => ?_)
            replace hK := Lib.hid hK
            go_wp2_with fail
            refine (addr_Right _ _ _ ha).mono ?_
            rintro e w2 ⟨rfl, hb1⟩
            rw [hR]
            go_wp2_with fail
            refine hK.out _ _ ⟨fun _ => hb1, ?_⟩
            clear hK
            replace hb := below_step hb hb.size hb1
            replace kR := kR.below' hb1
            clear hb1
            have hl1 := kR.lt
            have r0 := kR.cell 0
            have r1 := kR.cell 1
            have r2 := kR.cell 2
            have r3 := kR.cell 3
            have r4 := kR.cell 4
            have r5 := kR.cell 5
            have r6 := kR.cell 6
            have r7 := kR.cell 7
            have r8 := kR.cell 8
            simp only [List.getElem?_toArray, List.getElem?_cons_zero, List.getElem?_cons_succ] at r0 r1 r2 r3 r4 r5 r6 r7 r8
            refine draw_chunk (n := 47) (by kernel_rfl) (fun _ _ _ _ _ h => h) [18, 19, 20, 21, 22, 23, 24, 25] [] _ #[true, true, true, true, true, true, true, true, true, true, true, true, true, true, true, true, true, true, true, true, true, true, true, true, true, true] (by kernel_rfl) 0 _ ?_ _ rfl ?_ ?_
            rotate_left
            · intro w' hw'
              have hc' : ∀ b o, b < w2.heap.size → w'.cell? ⟨b, o, none⟩ = w2.cell? ⟨b, o, none⟩ := (bcell hw').1
              refine ci_step (i := 18) (v := ?_) rfl (by kernel_rfl) ?_ ?_
              rotate_left
              · first | (go_simp; done) | (go_simp; with_reducible rfl)
              skip
              try simp only [Act.put, List.setIfInBounds_toArray, List.set_cons_zero, List.set_cons_succ]
              refine ci_step (i := 19) (v := ?_) rfl (by kernel_rfl) ?_ ?_
              rotate_left
              · first | (go_simp; done) | (go_simp; with_reducible rfl)
              skip
              try simp only [Act.put, List.setIfInBounds_toArray, List.set_cons_zero, List.set_cons_succ]
              refine ci_step (i := 20) (v := ?_) rfl (by kernel_rfl) ?_ ?_
              rotate_left
              · first | (go_simp; done) | (go_simp; with_reducible rfl)
              skip
              try simp only [Act.put, List.setIfInBounds_toArray, List.set_cons_zero, List.set_cons_succ]
              refine ci_step (i := 21) (v := ?_) rfl (by kernel_rfl) ?_ ?_
              rotate_left
              · first | (go_simp; done) | (go_simp; with_reducible rfl)
              skip
              try simp only [Act.put, List.setIfInBounds_toArray, List.set_cons_zero, List.set_cons_succ]
              refine ci_step (i := 22) (v := ?_) rfl (by kernel_rfl) ?_ ?_
              rotate_left
              · first | (go_simp; done) | (go_simp; with_reducible rfl)
              skip
              try simp only [Act.put, List.setIfInBounds_toArray, List.set_cons_zero, List.set_cons_succ]
              refine ci_step (i := 23) (v := ?_) rfl (by kernel_rfl) ?_ ?_
              rotate_left
              · first | (go_simp; done) | (go_simp; with_reducible rfl)
              skip
              try simp only [Act.put, List.setIfInBounds_toArray, List.set_cons_zero, List.set_cons_succ]
              refine ci_step (i := 24) (v := ?_) rfl (by kernel_rfl) ?_ ?_
              rotate_left
              · first | (go_simp; done) | (go_simp; with_reducible rfl)
              skip
              try simp only [Act.put, List.setIfInBounds_toArray, List.set_cons_zero, List.set_cons_succ]
              refine ci_step (i := 25) (v := ?_) rfl (by kernel_rfl) ?_ ?_
              rotate_left
              · first | (go_simp; done) | (go_simp; with_reducible rfl)
              skip
              try simp only [Act.put, List.setIfInBounds_toArray, List.set_cons_zero, List.set_cons_succ]
              refine ci_end ?_
              rfl
            refine draw_done (by kernel_rfl) ?_ _
            go_wp2_with fail
            refine (dist_Lost _ _ _).mono ?_
            rintro e w3 ⟨rfl, hb1⟩
            replace hb := below_step hb hb.size hb1
            clear hb1
            go_wp2
            go_ret
            exact ⟨by rw [HS.out]; first | rfl | simp [*], by first | exact hb | exact Below.drew hb⟩
          | false =>
            rw [hid] at hS
            have HS := Lib.hid (show _ = false from hS)
            clear hS
            go_enter Try.func28, Try.ntmps28
            go_wp2_with fail
            generalize hW : w.alloc (.cells #[.int .i64 kind, .int .u32 gen, .int .u32 lsn, .int .u32 rid, .int .u32 a, .int .i64 l, .bool on, .int .u32 rs, .int .u16 rm] 50) = W at hb kR ⊢
            have hsz : W.heap.size = w.heap.size + 1 := by rw [← hW]; simp
            have r0 := kR.cell 0
            have r1 := kR.cell 1
            have r2 := kR.cell 2
            have r3 := kR.cell 3
            have r4 := kR.cell 4
            have r5 := kR.cell 5
            have r6 := kR.cell 6
            have r7 := kR.cell 7
            have r8 := kR.cell 8
            simp only [List.getElem?_toArray, List.getElem?_cons_zero, List.getElem?_cons_succ] at r0 r1 r2 r3 r4 r5 r6 r7 r8
            refine draw_start [] Later (by kernel_rfl) ?_
            refine draw_chunk (n := 47) (by kernel_rfl) (fun _ _ _ _ _ h => h) [0, 1, 2, 3, 4, 5, 6, 7, 8, 9, 10] [] _ #[true, true, true, true, true, true, true, true, true, true, true, false, false, false, false, false, false, false, false, false, false, false, false, false, false, false] (by kernel_rfl) 15 _ ?_ _ rfl ?_ ?_
            rotate_left
            · intro w' hw'
              have hc' : ∀ b o, b < W.heap.size → w'.cell? ⟨b, o, none⟩ = W.cell? ⟨b, o, none⟩ := (bcell hw').1
              refine ci_step (i := 0) (v := ?_) rfl (by kernel_rfl) ?_ ?_
              rotate_left
              · first | (go_simp; done) | (go_simp; with_reducible rfl)
              skip
              try simp only [Act.put, List.setIfInBounds_toArray, List.set_cons_zero, List.set_cons_succ]
              refine ci_step (i := 1) (v := ?_) rfl (by kernel_rfl) ?_ ?_
              rotate_left
              · first | (go_simp; done) | (go_simp; with_reducible rfl)
              skip
              try simp only [Act.put, List.setIfInBounds_toArray, List.set_cons_zero, List.set_cons_succ]
              refine ci_step (i := 2) (v := ?_) rfl (by kernel_rfl) ?_ ?_
              rotate_left
              · first | (go_simp; done) | (go_simp; with_reducible rfl)
              skip
              try simp only [Act.put, List.setIfInBounds_toArray, List.set_cons_zero, List.set_cons_succ]
              refine ci_step (i := 3) (v := ?_) rfl (by kernel_rfl) ?_ ?_
              rotate_left
              · first | (go_simp; done) | (go_simp; with_reducible rfl)
              skip
              try simp only [Act.put, List.setIfInBounds_toArray, List.set_cons_zero, List.set_cons_succ]
              refine ci_step (i := 4) (v := ?_) rfl (by kernel_rfl) ?_ ?_
              rotate_left
              · first | (go_simp; done) | (go_simp; with_reducible rfl)
              skip
              try simp only [Act.put, List.setIfInBounds_toArray, List.set_cons_zero, List.set_cons_succ]
              refine ci_step (i := 5) (v := ?_) rfl (by kernel_rfl) ?_ ?_
              rotate_left
              · first | (go_simp; done) | (go_simp; with_reducible rfl)
              skip
              try simp only [Act.put, List.setIfInBounds_toArray, List.set_cons_zero, List.set_cons_succ]
              refine ci_step (i := 6) (v := ?_) rfl (by kernel_rfl) ?_ ?_
              rotate_left
              · first | (go_simp; done) | (go_simp; with_reducible rfl)
              skip
              try simp only [Act.put, List.setIfInBounds_toArray, List.set_cons_zero, List.set_cons_succ]
              refine ci_step (i := 7) (v := ?_) rfl (by kernel_rfl) ?_ ?_
              rotate_left
              · first | (go_simp; done) | (go_simp; with_reducible rfl)
              skip
              try simp only [Act.put, List.setIfInBounds_toArray, List.set_cons_zero, List.set_cons_succ]
              refine ci_step (i := 8) (v := ?_) rfl (by kernel_rfl) ?_ ?_
              rotate_left
              · first | (go_simp; done) | (go_simp; with_reducible rfl)
              skip
              try simp only [Act.put, List.setIfInBounds_toArray, List.set_cons_zero, List.set_cons_succ]
              refine ci_step (i := 9) (v := ?_) rfl (by kernel_rfl) ?_ ?_
              rotate_left
              · first | (go_simp; done) | (go_simp; with_reducible rfl)
              skip
              try simp only [Act.put, List.setIfInBounds_toArray, List.set_cons_zero, List.set_cons_succ]
              refine ci_step (i := 10) (v := ?_) rfl (by kernel_rfl) ?_ ?_
              rotate_left
              · first | (go_simp; done) | (go_simp; with_reducible rfl)
              skip
              try simp only [Act.put, List.setIfInBounds_toArray, List.set_cons_zero, List.set_cons_succ]
              refine ci_end ?_
              rfl
            refine draw_eff (i := 11) rfl (by kernel_rfl) (listed' := #[true, true, true, true, true, true, true, true, true, true, true, true, false, false, false, false, false, false, false, false, false, false, false, false, false, false]) rfl (fun K hK => ?_)
            replace hK := Lib.hid hK
            go_wp2_with fail
            refine (rec_bare ⟨kind, gen, lsn, rid, a, l, on, rs, rm⟩ _).mono ?_
            rintro e w1 ⟨rfl, hb1⟩
            rw [hbare.out]
            simp only [Rec.val, Rec.arr]
            go_wp2_with fail
            refine hK.out _ _ ⟨fun _ => hb1, ?_⟩
            clear hK
            replace hb := below_step (Below.drew hb) hb.size hb1
            replace kR := kR.drew.below' hb1
            clear hb1
            have hl1 := kR.lt
            have r0 := kR.cell 0
            have r1 := kR.cell 1
            have r2 := kR.cell 2
            have r3 := kR.cell 3
            have r4 := kR.cell 4
            have r5 := kR.cell 5
            have r6 := kR.cell 6
            have r7 := kR.cell 7
            have r8 := kR.cell 8
            simp only [List.getElem?_toArray, List.getElem?_cons_zero, List.getElem?_cons_succ] at r0 r1 r2 r3 r4 r5 r6 r7 r8
            refine draw_chunk (n := 47) (by kernel_rfl) (fun _ _ _ _ _ h => h) [12, 13, 14, 15, 16] [] _ #[true, true, true, true, true, true, true, true, true, true, true, true, true, true, true, true, true, false, false, false, false, false, false, false, false, false] (by kernel_rfl) 9 _ ?_ _ rfl ?_ ?_
            rotate_left
            · intro w' hw'
              have hc' : ∀ b o, b < w1.heap.size → w'.cell? ⟨b, o, none⟩ = w1.cell? ⟨b, o, none⟩ := (bcell hw').1
              refine ci_step (i := 12) (v := ?_) rfl (by kernel_rfl) ?_ ?_
              rotate_left
              · first | (go_simp; done) | (go_simp; with_reducible rfl)
              skip
              try simp only [Act.put, List.setIfInBounds_toArray, List.set_cons_zero, List.set_cons_succ]
              refine ci_step (i := 13) (v := ?_) rfl (by kernel_rfl) ?_ ?_
              rotate_left
              · first | (go_simp; done) | (go_simp; with_reducible rfl)
              skip
              try simp only [Act.put, List.setIfInBounds_toArray, List.set_cons_zero, List.set_cons_succ]
              refine ci_step (i := 14) (v := ?_) rfl (by kernel_rfl) ?_ ?_
              rotate_left
              · first | (go_simp; done) | (go_simp; with_reducible rfl)
              skip
              try simp only [Act.put, List.setIfInBounds_toArray, List.set_cons_zero, List.set_cons_succ]
              refine ci_step (i := 15) (v := ?_) rfl (by kernel_rfl) ?_ ?_
              rotate_left
              · first | (go_simp; done) | (go_simp; with_reducible rfl)
              skip
              try simp only [Act.put, List.setIfInBounds_toArray, List.set_cons_zero, List.set_cons_succ]
              refine ci_step (i := 16) (v := ?_) rfl (by kernel_rfl) ?_ ?_
              rotate_left
              · first | (go_simp; done) | (go_simp; with_reducible rfl)
              skip
              try simp only [Act.put, List.setIfInBounds_toArray, List.set_cons_zero, List.set_cons_succ]
              refine ci_end ?_
              rfl
            refine draw_eff (i := 17) rfl (by kernel_rfl) (listed' := #[true, true, true, true, true, true, true, true, true, true, true, true, true, true, true, true, true, true, false, false, false, false, false, false, false, false]) rfl (fun K hK => ?_)
            replace hK := Lib.hid hK
            go_wp2_with fail
            refine (addr_Right _ _ _ ha).mono ?_
            rintro e w2 ⟨rfl, hb1⟩
            rw [hR]
            go_wp2_with fail
            refine hK.out _ _ ⟨fun _ => hb1, ?_⟩
            clear hK
            replace hb := below_step hb hb.size hb1
            replace kR := kR.below' hb1
            clear hb1
            have hl1 := kR.lt
            have r0 := kR.cell 0
            have r1 := kR.cell 1
            have r2 := kR.cell 2
            have r3 := kR.cell 3
            have r4 := kR.cell 4
            have r5 := kR.cell 5
            have r6 := kR.cell 6
            have r7 := kR.cell 7
            have r8 := kR.cell 8
            simp only [List.getElem?_toArray, List.getElem?_cons_zero, List.getElem?_cons_succ] at r0 r1 r2 r3 r4 r5 r6 r7 r8
            refine draw_chunk (n := 47) (by kernel_rfl) (fun _ _ _ _ _ h => h) [18, 19, 20, 21, 22, 23, 24, 25] [] _ #[true, true, true, true, true, true, true, true, true, true, true, true, true, true, true, true, true, true, true, true, true, true, true, true, true, true] (by kernel_rfl) 0 _ ?_ _ rfl ?_ ?_
            rotate_left
            · intro w' hw'
              have hc' : ∀ b o, b < w2.heap.size → w'.cell? ⟨b, o, none⟩ = w2.cell? ⟨b, o, none⟩ := (bcell hw').1
              refine ci_step (i := 18) (v := ?_) rfl (by kernel_rfl) ?_ ?_
              rotate_left
              · first | (go_simp; done) | (go_simp; with_reducible rfl)
              skip
              try simp only [Act.put, List.setIfInBounds_toArray, List.set_cons_zero, List.set_cons_succ]
              refine ci_step (i := 19) (v := ?_) rfl (by kernel_rfl) ?_ ?_
              rotate_left
              · first | (go_simp; done) | (go_simp; with_reducible rfl)
              skip
              try simp only [Act.put, List.setIfInBounds_toArray, List.set_cons_zero, List.set_cons_succ]
              refine ci_step (i := 20) (v := ?_) rfl (by kernel_rfl) ?_ ?_
              rotate_left
              · first | (go_simp; done) | (go_simp; with_reducible rfl)
              skip
              try simp only [Act.put, List.setIfInBounds_toArray, List.set_cons_zero, List.set_cons_succ]
              refine ci_step (i := 21) (v := ?_) rfl (by kernel_rfl) ?_ ?_
              rotate_left
              · first | (go_simp; done) | (go_simp; with_reducible rfl)
              skip
              try simp only [Act.put, List.setIfInBounds_toArray, List.set_cons_zero, List.set_cons_succ]
              refine ci_step (i := 22) (v := ?_) rfl (by kernel_rfl) ?_ ?_
              rotate_left
              · first | (go_simp; done) | (go_simp; with_reducible rfl)
              skip
              try simp only [Act.put, List.setIfInBounds_toArray, List.set_cons_zero, List.set_cons_succ]
              refine ci_step (i := 23) (v := ?_) rfl (by kernel_rfl) ?_ ?_
              rotate_left
              · first | (go_simp; done) | (go_simp; with_reducible rfl)
              skip
              try simp only [Act.put, List.setIfInBounds_toArray, List.set_cons_zero, List.set_cons_succ]
              refine ci_step (i := 24) (v := ?_) rfl (by kernel_rfl) ?_ ?_
              rotate_left
              · first | (go_simp; done) | (go_simp; with_reducible rfl)
              skip
              try simp only [Act.put, List.setIfInBounds_toArray, List.set_cons_zero, List.set_cons_succ]
              refine ci_step (i := 25) (v := ?_) rfl (by kernel_rfl) ?_ ?_
              rotate_left
              · first | (go_simp; done) | (go_simp; with_reducible rfl)
              skip
              try simp only [Act.put, List.setIfInBounds_toArray, List.set_cons_zero, List.set_cons_succ]
              refine ci_end ?_
              rfl
            refine draw_done (by kernel_rfl) ?_ _
            go_wp2
            go_ret
            exact ⟨by rw [HS.out]; first | rfl | simp [*], by first | exact hb | exact Below.drew hb⟩
        | false =>
          rw [hk1, Bool.false_or] at hS
          cases hk4 : (kind == 4) with
          | true =>
            rw [hk4] at hS
            cases hid : (rid != 0) with
            | true =>
              rw [hid] at hS
              have HS := Lib.hid (show _ = !(rm == 65535) from hS)
              clear hS
              go_enter Try.func28, Try.ntmps28
              go_wp2_with fail
              generalize hW : w.alloc (.cells #[.int .i64 kind, .int .u32 gen, .int .u32 lsn, .int .u32 rid, .int .u32 a, .int .i64 l, .bool on, .int .u32 rs, .int .u16 rm] 50) = W at hb kR ⊢
              have hsz : W.heap.size = w.heap.size + 1 := by rw [← hW]; simp
              have r0 := kR.cell 0
              have r1 := kR.cell 1
              have r2 := kR.cell 2
              have r3 := kR.cell 3
              have r4 := kR.cell 4
              have r5 := kR.cell 5
              have r6 := kR.cell 6
              have r7 := kR.cell 7
              have r8 := kR.cell 8
              simp only [List.getElem?_toArray, List.getElem?_cons_zero, List.getElem?_cons_succ] at r0 r1 r2 r3 r4 r5 r6 r7 r8
              refine draw_start [] Later (by kernel_rfl) ?_
              refine draw_chunk (n := 47) (by kernel_rfl) (fun _ _ _ _ _ h => h) [0, 1, 2, 3, 4, 5, 6, 7, 8, 9, 10] [] _ #[true, true, true, true, true, true, true, true, true, true, true, false, false, false, false, false, false, false, false, false, false, false, false, false, false, false] (by kernel_rfl) 15 _ ?_ _ rfl ?_ ?_
              rotate_left
              · intro w' hw'
                have hc' : ∀ b o, b < W.heap.size → w'.cell? ⟨b, o, none⟩ = W.cell? ⟨b, o, none⟩ := (bcell hw').1
                refine ci_step (i := 0) (v := ?_) rfl (by kernel_rfl) ?_ ?_
                rotate_left
                · first | (go_simp; done) | (go_simp; with_reducible rfl)
                skip
                try simp only [Act.put, List.setIfInBounds_toArray, List.set_cons_zero, List.set_cons_succ]
                refine ci_step (i := 1) (v := ?_) rfl (by kernel_rfl) ?_ ?_
                rotate_left
                · first | (go_simp; done) | (go_simp; with_reducible rfl)
                skip
                try simp only [Act.put, List.setIfInBounds_toArray, List.set_cons_zero, List.set_cons_succ]
                refine ci_step (i := 2) (v := ?_) rfl (by kernel_rfl) ?_ ?_
                rotate_left
                · first | (go_simp; done) | (go_simp; with_reducible rfl)
                skip
                try simp only [Act.put, List.setIfInBounds_toArray, List.set_cons_zero, List.set_cons_succ]
                refine ci_step (i := 3) (v := ?_) rfl (by kernel_rfl) ?_ ?_
                rotate_left
                · first | (go_simp; done) | (go_simp; with_reducible rfl)
                skip
                try simp only [Act.put, List.setIfInBounds_toArray, List.set_cons_zero, List.set_cons_succ]
                refine ci_step (i := 4) (v := ?_) rfl (by kernel_rfl) ?_ ?_
                rotate_left
                · first | (go_simp; done) | (go_simp; with_reducible rfl)
                skip
                try simp only [Act.put, List.setIfInBounds_toArray, List.set_cons_zero, List.set_cons_succ]
                refine ci_step (i := 5) (v := ?_) rfl (by kernel_rfl) ?_ ?_
                rotate_left
                · first | (go_simp; done) | (go_simp; with_reducible rfl)
                skip
                try simp only [Act.put, List.setIfInBounds_toArray, List.set_cons_zero, List.set_cons_succ]
                refine ci_step (i := 6) (v := ?_) rfl (by kernel_rfl) ?_ ?_
                rotate_left
                · first | (go_simp; done) | (go_simp; with_reducible rfl)
                skip
                try simp only [Act.put, List.setIfInBounds_toArray, List.set_cons_zero, List.set_cons_succ]
                refine ci_step (i := 7) (v := ?_) rfl (by kernel_rfl) ?_ ?_
                rotate_left
                · first | (go_simp; done) | (go_simp; with_reducible rfl)
                skip
                try simp only [Act.put, List.setIfInBounds_toArray, List.set_cons_zero, List.set_cons_succ]
                refine ci_step (i := 8) (v := ?_) rfl (by kernel_rfl) ?_ ?_
                rotate_left
                · first | (go_simp; done) | (go_simp; with_reducible rfl)
                skip
                try simp only [Act.put, List.setIfInBounds_toArray, List.set_cons_zero, List.set_cons_succ]
                refine ci_step (i := 9) (v := ?_) rfl (by kernel_rfl) ?_ ?_
                rotate_left
                · first | (go_simp; done) | (go_simp; with_reducible rfl)
                skip
                try simp only [Act.put, List.setIfInBounds_toArray, List.set_cons_zero, List.set_cons_succ]
                refine ci_step (i := 10) (v := ?_) rfl (by kernel_rfl) ?_ ?_
                rotate_left
                · first | (go_simp; done) | (go_simp; with_reducible rfl)
                skip
                try simp only [Act.put, List.setIfInBounds_toArray, List.set_cons_zero, List.set_cons_succ]
                refine ci_end ?_
                rfl
              refine draw_eff (i := 11) rfl (by kernel_rfl) (listed' := #[true, true, true, true, true, true, true, true, true, true, true, true, false, false, false, false, false, false, false, false, false, false, false, false, false, false]) rfl (fun K hK => ?_)
              replace hK := Lib.hid hK
              go_wp2_with fail
              refine (rec_bare ⟨kind, gen, lsn, rid, a, l, on, rs, rm⟩ _).mono ?_
              rintro e w1 ⟨rfl, hb1⟩
              rw [hbare.out]
              simp only [Rec.val, Rec.arr]
              go_wp2_with fail
              refine hK.out _ _ ⟨fun _ => hb1, ?_⟩
              clear hK
              replace hb := below_step (Below.drew hb) hb.size hb1
              replace kR := kR.drew.below' hb1
              clear hb1
              have hl1 := kR.lt
              have r0 := kR.cell 0
              have r1 := kR.cell 1
              have r2 := kR.cell 2
              have r3 := kR.cell 3
              have r4 := kR.cell 4
              have r5 := kR.cell 5
              have r6 := kR.cell 6
              have r7 := kR.cell 7
              have r8 := kR.cell 8
              simp only [List.getElem?_toArray, List.getElem?_cons_zero, List.getElem?_cons_succ] at r0 r1 r2 r3 r4 r5 r6 r7 r8
              refine draw_chunk (n := 47) (by kernel_rfl) (fun _ _ _ _ _ h => h) [12, 13, 14, 15, 16] [] _ #[true, true, true, true, true, true, true, true, true, true, true, true, true, true, true, true, true, false, false, false, false, false, false, false, false, false] (by kernel_rfl) 9 _ ?_ _ rfl ?_ ?_
              rotate_left
              · intro w' hw'
                have hc' : ∀ b o, b < w1.heap.size → w'.cell? ⟨b, o, none⟩ = w1.cell? ⟨b, o, none⟩ := (bcell hw').1
                refine ci_step (i := 12) (v := ?_) rfl (by kernel_rfl) ?_ ?_
                rotate_left
                · first | (go_simp; done) | (go_simp; with_reducible rfl)
                skip
                try simp only [Act.put, List.setIfInBounds_toArray, List.set_cons_zero, List.set_cons_succ]
                refine ci_step (i := 13) (v := ?_) rfl (by kernel_rfl) ?_ ?_
                rotate_left
                · first | (go_simp; done) | (go_simp; with_reducible rfl)
                skip
                try simp only [Act.put, List.setIfInBounds_toArray, List.set_cons_zero, List.set_cons_succ]
                refine ci_step (i := 14) (v := ?_) rfl (by kernel_rfl) ?_ ?_
                rotate_left
                · first | (go_simp; done) | (go_simp; with_reducible rfl)
                skip
                try simp only [Act.put, List.setIfInBounds_toArray, List.set_cons_zero, List.set_cons_succ]
                refine ci_step (i := 15) (v := ?_) rfl (by kernel_rfl) ?_ ?_
                rotate_left
                · first | (go_simp; done) | (go_simp; with_reducible rfl)
                skip
                try simp only [Act.put, List.setIfInBounds_toArray, List.set_cons_zero, List.set_cons_succ]
                refine ci_step (i := 16) (v := ?_) rfl (by kernel_rfl) ?_ ?_
                rotate_left
                · first | (go_simp; done) | (go_simp; with_reducible rfl)
                skip
                try simp only [Act.put, List.setIfInBounds_toArray, List.set_cons_zero, List.set_cons_succ]
                refine ci_end ?_
                rfl
              refine draw_eff (i := 17) rfl (by kernel_rfl) (listed' := #[true, true, true, true, true, true, true, true, true, true, true, true, true, true, true, true, true, true, false, false, false, false, false, false, false, false]) rfl (fun K hK => ?_)
              replace hK := Lib.hid hK
              go_wp2_with fail
              refine (addr_Right _ _ _ ha).mono ?_
              rintro e w2 ⟨rfl, hb1⟩
              rw [hR]
              go_wp2_with fail
              refine hK.out _ _ ⟨fun _ => hb1, ?_⟩
              clear hK
              replace hb := below_step hb hb.size hb1
              replace kR := kR.below' hb1
              clear hb1
              have hl1 := kR.lt
              have r0 := kR.cell 0
              have r1 := kR.cell 1
              have r2 := kR.cell 2
              have r3 := kR.cell 3
              have r4 := kR.cell 4
              have r5 := kR.cell 5
              have r6 := kR.cell 6
              have r7 := kR.cell 7
              have r8 := kR.cell 8
              simp only [List.getElem?_toArray, List.getElem?_cons_zero, List.getElem?_cons_succ] at r0 r1 r2 r3 r4 r5 r6 r7 r8
              refine draw_chunk (n := 47) (by kernel_rfl) (fun _ _ _ _ _ h => h) [18, 19, 20, 21, 22, 23, 24, 25] [] _ #[true, true, true, true, true, true, true, true, true, true, true, true, true, true, true, true, true, true, true, true, true, true, true, true, true, true] (by kernel_rfl) 0 _ ?_ _ rfl ?_ ?_
              rotate_left
              · intro w' hw'
                have hc' : ∀ b o, b < w2.heap.size → w'.cell? ⟨b, o, none⟩ = w2.cell? ⟨b, o, none⟩ := (bcell hw').1
                refine ci_step (i := 18) (v := ?_) rfl (by kernel_rfl) ?_ ?_
                rotate_left
                · first | (go_simp; done) | (go_simp; with_reducible rfl)
                skip
                try simp only [Act.put, List.setIfInBounds_toArray, List.set_cons_zero, List.set_cons_succ]
                refine ci_step (i := 19) (v := ?_) rfl (by kernel_rfl) ?_ ?_
                rotate_left
                · first | (go_simp; done) | (go_simp; with_reducible rfl)
                skip
                try simp only [Act.put, List.setIfInBounds_toArray, List.set_cons_zero, List.set_cons_succ]
                refine ci_step (i := 20) (v := ?_) rfl (by kernel_rfl) ?_ ?_
                rotate_left
                · first | (go_simp; done) | (go_simp; with_reducible rfl)
                skip
                try simp only [Act.put, List.setIfInBounds_toArray, List.set_cons_zero, List.set_cons_succ]
                refine ci_step (i := 21) (v := ?_) rfl (by kernel_rfl) ?_ ?_
                rotate_left
                · first | (go_simp; done) | (go_simp; with_reducible rfl)
                skip
                try simp only [Act.put, List.setIfInBounds_toArray, List.set_cons_zero, List.set_cons_succ]
                refine ci_step (i := 22) (v := ?_) rfl (by kernel_rfl) ?_ ?_
                rotate_left
                · first | (go_simp; done) | (go_simp; with_reducible rfl)
                skip
                try simp only [Act.put, List.setIfInBounds_toArray, List.set_cons_zero, List.set_cons_succ]
                refine ci_step (i := 23) (v := ?_) rfl (by kernel_rfl) ?_ ?_
                rotate_left
                · first | (go_simp; done) | (go_simp; with_reducible rfl)
                skip
                try simp only [Act.put, List.setIfInBounds_toArray, List.set_cons_zero, List.set_cons_succ]
                refine ci_step (i := 24) (v := ?_) rfl (by kernel_rfl) ?_ ?_
                rotate_left
                · first | (go_simp; done) | (go_simp; with_reducible rfl)
                skip
                try simp only [Act.put, List.setIfInBounds_toArray, List.set_cons_zero, List.set_cons_succ]
                refine ci_step (i := 25) (v := ?_) rfl (by kernel_rfl) ?_ ?_
                rotate_left
                · first | (go_simp; done) | (go_simp; with_reducible rfl)
                skip
                try simp only [Act.put, List.setIfInBounds_toArray, List.set_cons_zero, List.set_cons_succ]
                refine ci_end ?_
                rfl
              refine draw_done (by kernel_rfl) ?_ _
              go_wp2_with fail
              refine (dist_Lost _ _ _).mono ?_
              rintro e w3 ⟨rfl, hb1⟩
              replace hb := below_step hb hb.size hb1
              clear hb1
              go_wp2
              go_ret
              exact ⟨by rw [HS.out]; first | rfl | simp [*], by first | exact hb | exact Below.drew hb⟩
            | false =>
              rw [hid] at hS
              have HS := Lib.hid (show _ = false from hS)
              clear hS
              go_enter Try.func28, Try.ntmps28
              go_wp2_with fail
              generalize hW : w.alloc (.cells #[.int .i64 kind, .int .u32 gen, .int .u32 lsn, .int .u32 rid, .int .u32 a, .int .i64 l, .bool on, .int .u32 rs, .int .u16 rm] 50) = W at hb kR ⊢
              have hsz : W.heap.size = w.heap.size + 1 := by rw [← hW]; simp
              have r0 := kR.cell 0
              have r1 := kR.cell 1
              have r2 := kR.cell 2
              have r3 := kR.cell 3
              have r4 := kR.cell 4
              have r5 := kR.cell 5
              have r6 := kR.cell 6
              have r7 := kR.cell 7
              have r8 := kR.cell 8
              simp only [List.getElem?_toArray, List.getElem?_cons_zero, List.getElem?_cons_succ] at r0 r1 r2 r3 r4 r5 r6 r7 r8
              refine draw_start [] Later (by kernel_rfl) ?_
              refine draw_chunk (n := 47) (by kernel_rfl) (fun _ _ _ _ _ h => h) [0, 1, 2, 3, 4, 5, 6, 7, 8, 9, 10] [] _ #[true, true, true, true, true, true, true, true, true, true, true, false, false, false, false, false, false, false, false, false, false, false, false, false, false, false] (by kernel_rfl) 15 _ ?_ _ rfl ?_ ?_
              rotate_left
              · intro w' hw'
                have hc' : ∀ b o, b < W.heap.size → w'.cell? ⟨b, o, none⟩ = W.cell? ⟨b, o, none⟩ := (bcell hw').1
                refine ci_step (i := 0) (v := ?_) rfl (by kernel_rfl) ?_ ?_
                rotate_left
                · first | (go_simp; done) | (go_simp; with_reducible rfl)
                skip
                try simp only [Act.put, List.setIfInBounds_toArray, List.set_cons_zero, List.set_cons_succ]
                refine ci_step (i := 1) (v := ?_) rfl (by kernel_rfl) ?_ ?_
                rotate_left
                · first | (go_simp; done) | (go_simp; with_reducible rfl)
                skip
                try simp only [Act.put, List.setIfInBounds_toArray, List.set_cons_zero, List.set_cons_succ]
                refine ci_step (i := 2) (v := ?_) rfl (by kernel_rfl) ?_ ?_
                rotate_left
                · first | (go_simp; done) | (go_simp; with_reducible rfl)
                skip
                try simp only [Act.put, List.setIfInBounds_toArray, List.set_cons_zero, List.set_cons_succ]
                refine ci_step (i := 3) (v := ?_) rfl (by kernel_rfl) ?_ ?_
                rotate_left
                · first | (go_simp; done) | (go_simp; with_reducible rfl)
                skip
                try simp only [Act.put, List.setIfInBounds_toArray, List.set_cons_zero, List.set_cons_succ]
                refine ci_step (i := 4) (v := ?_) rfl (by kernel_rfl) ?_ ?_
                rotate_left
                · first | (go_simp; done) | (go_simp; with_reducible rfl)
                skip
                try simp only [Act.put, List.setIfInBounds_toArray, List.set_cons_zero, List.set_cons_succ]
                refine ci_step (i := 5) (v := ?_) rfl (by kernel_rfl) ?_ ?_
                rotate_left
                · first | (go_simp; done) | (go_simp; with_reducible rfl)
                skip
                try simp only [Act.put, List.setIfInBounds_toArray, List.set_cons_zero, List.set_cons_succ]
                refine ci_step (i := 6) (v := ?_) rfl (by kernel_rfl) ?_ ?_
                rotate_left
                · first | (go_simp; done) | (go_simp; with_reducible rfl)
                skip
                try simp only [Act.put, List.setIfInBounds_toArray, List.set_cons_zero, List.set_cons_succ]
                refine ci_step (i := 7) (v := ?_) rfl (by kernel_rfl) ?_ ?_
                rotate_left
                · first | (go_simp; done) | (go_simp; with_reducible rfl)
                skip
                try simp only [Act.put, List.setIfInBounds_toArray, List.set_cons_zero, List.set_cons_succ]
                refine ci_step (i := 8) (v := ?_) rfl (by kernel_rfl) ?_ ?_
                rotate_left
                · first | (go_simp; done) | (go_simp; with_reducible rfl)
                skip
                try simp only [Act.put, List.setIfInBounds_toArray, List.set_cons_zero, List.set_cons_succ]
                refine ci_step (i := 9) (v := ?_) rfl (by kernel_rfl) ?_ ?_
                rotate_left
                · first | (go_simp; done) | (go_simp; with_reducible rfl)
                skip
                try simp only [Act.put, List.setIfInBounds_toArray, List.set_cons_zero, List.set_cons_succ]
                refine ci_step (i := 10) (v := ?_) rfl (by kernel_rfl) ?_ ?_
                rotate_left
                · first | (go_simp; done) | (go_simp; with_reducible rfl)
                skip
                try simp only [Act.put, List.setIfInBounds_toArray, List.set_cons_zero, List.set_cons_succ]
                refine ci_end ?_
                rfl
              refine draw_eff (i := 11) rfl (by kernel_rfl) (listed' := #[true, true, true, true, true, true, true, true, true, true, true, true, false, false, false, false, false, false, false, false, false, false, false, false, false, false]) rfl (fun K hK => ?_)
              replace hK := Lib.hid hK
              go_wp2_with fail
              refine (rec_bare ⟨kind, gen, lsn, rid, a, l, on, rs, rm⟩ _).mono ?_
              rintro e w1 ⟨rfl, hb1⟩
              rw [hbare.out]
              simp only [Rec.val, Rec.arr]
              go_wp2_with fail
              refine hK.out _ _ ⟨fun _ => hb1, ?_⟩
              clear hK
              replace hb := below_step (Below.drew hb) hb.size hb1
              replace kR := kR.drew.below' hb1
              clear hb1
              have hl1 := kR.lt
              have r0 := kR.cell 0
              have r1 := kR.cell 1
              have r2 := kR.cell 2
              have r3 := kR.cell 3
              have r4 := kR.cell 4
              have r5 := kR.cell 5
              have r6 := kR.cell 6
              have r7 := kR.cell 7
              have r8 := kR.cell 8
              simp only [List.getElem?_toArray, List.getElem?_cons_zero, List.getElem?_cons_succ] at r0 r1 r2 r3 r4 r5 r6 r7 r8
              refine draw_chunk (n := 47) (by kernel_rfl) (fun _ _ _ _ _ h => h) [12, 13, 14, 15, 16] [] _ #[true, true, true, true, true, true, true, true, true, true, true, true, true, true, true, true, true, false, false, false, false, false, false, false, false, false] (by kernel_rfl) 9 _ ?_ _ rfl ?_ ?_
              rotate_left
              · intro w' hw'
                have hc' : ∀ b o, b < w1.heap.size → w'.cell? ⟨b, o, none⟩ = w1.cell? ⟨b, o, none⟩ := (bcell hw').1
                refine ci_step (i := 12) (v := ?_) rfl (by kernel_rfl) ?_ ?_
                rotate_left
                · first | (go_simp; done) | (go_simp; with_reducible rfl)
                skip
                try simp only [Act.put, List.setIfInBounds_toArray, List.set_cons_zero, List.set_cons_succ]
                refine ci_step (i := 13) (v := ?_) rfl (by kernel_rfl) ?_ ?_
                rotate_left
                · first | (go_simp; done) | (go_simp; with_reducible rfl)
                skip
                try simp only [Act.put, List.setIfInBounds_toArray, List.set_cons_zero, List.set_cons_succ]
                refine ci_step (i := 14) (v := ?_) rfl (by kernel_rfl) ?_ ?_
                rotate_left
                · first | (go_simp; done) | (go_simp; with_reducible rfl)
                skip
                try simp only [Act.put, List.setIfInBounds_toArray, List.set_cons_zero, List.set_cons_succ]
                refine ci_step (i := 15) (v := ?_) rfl (by kernel_rfl) ?_ ?_
                rotate_left
                · first | (go_simp; done) | (go_simp; with_reducible rfl)
                skip
                try simp only [Act.put, List.setIfInBounds_toArray, List.set_cons_zero, List.set_cons_succ]
                refine ci_step (i := 16) (v := ?_) rfl (by kernel_rfl) ?_ ?_
                rotate_left
                · first | (go_simp; done) | (go_simp; with_reducible rfl)
                skip
                try simp only [Act.put, List.setIfInBounds_toArray, List.set_cons_zero, List.set_cons_succ]
                refine ci_end ?_
                rfl
              refine draw_eff (i := 17) rfl (by kernel_rfl) (listed' := #[true, true, true, true, true, true, true, true, true, true, true, true, true, true, true, true, true, true, false, false, false, false, false, false, false, false]) rfl (fun K hK => ?_)
              replace hK := Lib.hid hK
              go_wp2_with fail
              refine (addr_Right _ _ _ ha).mono ?_
              rintro e w2 ⟨rfl, hb1⟩
              rw [hR]
              go_wp2_with fail
              refine hK.out _ _ ⟨fun _ => hb1, ?_⟩
              clear hK
              replace hb := below_step hb hb.size hb1
              replace kR := kR.below' hb1
              clear hb1
              have hl1 := kR.lt
              have r0 := kR.cell 0
              have r1 := kR.cell 1
              have r2 := kR.cell 2
              have r3 := kR.cell 3
              have r4 := kR.cell 4
              have r5 := kR.cell 5
              have r6 := kR.cell 6
              have r7 := kR.cell 7
              have r8 := kR.cell 8
              simp only [List.getElem?_toArray, List.getElem?_cons_zero, List.getElem?_cons_succ] at r0 r1 r2 r3 r4 r5 r6 r7 r8
              refine draw_chunk (n := 47) (by kernel_rfl) (fun _ _ _ _ _ h => h) [18, 19, 20, 21, 22, 23, 24, 25] [] _ #[true, true, true, true, true, true, true, true, true, true, true, true, true, true, true, true, true, true, true, true, true, true, true, true, true, true] (by kernel_rfl) 0 _ ?_ _ rfl ?_ ?_
              rotate_left
              · intro w' hw'
                have hc' : ∀ b o, b < w2.heap.size → w'.cell? ⟨b, o, none⟩ = w2.cell? ⟨b, o, none⟩ := (bcell hw').1
                refine ci_step (i := 18) (v := ?_) rfl (by kernel_rfl) ?_ ?_
                rotate_left
                · first | (go_simp; done) | (go_simp; with_reducible rfl)
                skip
                try simp only [Act.put, List.setIfInBounds_toArray, List.set_cons_zero, List.set_cons_succ]
                refine ci_step (i := 19) (v := ?_) rfl (by kernel_rfl) ?_ ?_
                rotate_left
                · first | (go_simp; done) | (go_simp; with_reducible rfl)
                skip
                try simp only [Act.put, List.setIfInBounds_toArray, List.set_cons_zero, List.set_cons_succ]
                refine ci_step (i := 20) (v := ?_) rfl (by kernel_rfl) ?_ ?_
                rotate_left
                · first | (go_simp; done) | (go_simp; with_reducible rfl)
                skip
                try simp only [Act.put, List.setIfInBounds_toArray, List.set_cons_zero, List.set_cons_succ]
                refine ci_step (i := 21) (v := ?_) rfl (by kernel_rfl) ?_ ?_
                rotate_left
                · first | (go_simp; done) | (go_simp; with_reducible rfl)
                skip
                try simp only [Act.put, List.setIfInBounds_toArray, List.set_cons_zero, List.set_cons_succ]
                refine ci_step (i := 22) (v := ?_) rfl (by kernel_rfl) ?_ ?_
                rotate_left
                · first | (go_simp; done) | (go_simp; with_reducible rfl)
                skip
                try simp only [Act.put, List.setIfInBounds_toArray, List.set_cons_zero, List.set_cons_succ]
                refine ci_step (i := 23) (v := ?_) rfl (by kernel_rfl) ?_ ?_
                rotate_left
                · first | (go_simp; done) | (go_simp; with_reducible rfl)
                skip
                try simp only [Act.put, List.setIfInBounds_toArray, List.set_cons_zero, List.set_cons_succ]
                refine ci_step (i := 24) (v := ?_) rfl (by kernel_rfl) ?_ ?_
                rotate_left
                · first | (go_simp; done) | (go_simp; with_reducible rfl)
                skip
                try simp only [Act.put, List.setIfInBounds_toArray, List.set_cons_zero, List.set_cons_succ]
                refine ci_step (i := 25) (v := ?_) rfl (by kernel_rfl) ?_ ?_
                rotate_left
                · first | (go_simp; done) | (go_simp; with_reducible rfl)
                skip
                try simp only [Act.put, List.setIfInBounds_toArray, List.set_cons_zero, List.set_cons_succ]
                refine ci_end ?_
                rfl
              refine draw_done (by kernel_rfl) ?_ _
              go_wp2
              go_ret
              exact ⟨by rw [HS.out]; first | rfl | simp [*], by first | exact hb | exact Below.drew hb⟩
          | false =>
            rw [hk4] at hS
            cases hid : (rid != 0) with
            | true =>
              rw [hid] at hS
              have HS := Lib.hid (show _ = false from hS)
              clear hS
              go_enter Try.func28, Try.ntmps28
              go_wp2_with fail
              generalize hW : w.alloc (.cells #[.int .i64 kind, .int .u32 gen, .int .u32 lsn, .int .u32 rid, .int .u32 a, .int .i64 l, .bool on, .int .u32 rs, .int .u16 rm] 50) = W at hb kR ⊢
              have hsz : W.heap.size = w.heap.size + 1 := by rw [← hW]; simp
              have r0 := kR.cell 0
              have r1 := kR.cell 1
              have r2 := kR.cell 2
              have r3 := kR.cell 3
              have r4 := kR.cell 4
              have r5 := kR.cell 5
              have r6 := kR.cell 6
              have r7 := kR.cell 7
              have r8 := kR.cell 8
              simp only [List.getElem?_toArray, List.getElem?_cons_zero, List.getElem?_cons_succ] at r0 r1 r2 r3 r4 r5 r6 r7 r8
              refine draw_start [] Later (by kernel_rfl) ?_
              refine draw_chunk (n := 47) (by kernel_rfl) (fun _ _ _ _ _ h => h) [0, 1, 2, 3, 4, 5, 6, 7, 8, 9, 10] [] _ #[true, true, true, true, true, true, true, true, true, true, true, false, false, false, false, false, false, false, false, false, false, false, false, false, false, false] (by kernel_rfl) 15 _ ?_ _ rfl ?_ ?_
              rotate_left
              · intro w' hw'
                have hc' : ∀ b o, b < W.heap.size → w'.cell? ⟨b, o, none⟩ = W.cell? ⟨b, o, none⟩ := (bcell hw').1
                refine ci_step (i := 0) (v := ?_) rfl (by kernel_rfl) ?_ ?_
                rotate_left
                · first | (go_simp; done) | (go_simp; with_reducible rfl)
                skip
                try simp only [Act.put, List.setIfInBounds_toArray, List.set_cons_zero, List.set_cons_succ]
                refine ci_step (i := 1) (v := ?_) rfl (by kernel_rfl) ?_ ?_
                rotate_left
                · first | (go_simp; done) | (go_simp; with_reducible rfl)
                skip
                try simp only [Act.put, List.setIfInBounds_toArray, List.set_cons_zero, List.set_cons_succ]
                refine ci_step (i := 2) (v := ?_) rfl (by kernel_rfl) ?_ ?_
                rotate_left
                · first | (go_simp; done) | (go_simp; with_reducible rfl)
                skip
                try simp only [Act.put, List.setIfInBounds_toArray, List.set_cons_zero, List.set_cons_succ]
                refine ci_step (i := 3) (v := ?_) rfl (by kernel_rfl) ?_ ?_
                rotate_left
                · first | (go_simp; done) | (go_simp; with_reducible rfl)
                skip
                try simp only [Act.put, List.setIfInBounds_toArray, List.set_cons_zero, List.set_cons_succ]
                refine ci_step (i := 4) (v := ?_) rfl (by kernel_rfl) ?_ ?_
                rotate_left
                · first | (go_simp; done) | (go_simp; with_reducible rfl)
                skip
                try simp only [Act.put, List.setIfInBounds_toArray, List.set_cons_zero, List.set_cons_succ]
                refine ci_step (i := 5) (v := ?_) rfl (by kernel_rfl) ?_ ?_
                rotate_left
                · first | (go_simp; done) | (go_simp; with_reducible rfl)
                skip
                try simp only [Act.put, List.setIfInBounds_toArray, List.set_cons_zero, List.set_cons_succ]
                refine ci_step (i := 6) (v := ?_) rfl (by kernel_rfl) ?_ ?_
                rotate_left
                · first | (go_simp; done) | (go_simp; with_reducible rfl)
                skip
                try simp only [Act.put, List.setIfInBounds_toArray, List.set_cons_zero, List.set_cons_succ]
                refine ci_step (i := 7) (v := ?_) rfl (by kernel_rfl) ?_ ?_
                rotate_left
                · first | (go_simp; done) | (go_simp; with_reducible rfl)
                skip
                try simp only [Act.put, List.setIfInBounds_toArray, List.set_cons_zero, List.set_cons_succ]
                refine ci_step (i := 8) (v := ?_) rfl (by kernel_rfl) ?_ ?_
                rotate_left
                · first | (go_simp; done) | (go_simp; with_reducible rfl)
                skip
                try simp only [Act.put, List.setIfInBounds_toArray, List.set_cons_zero, List.set_cons_succ]
                refine ci_step (i := 9) (v := ?_) rfl (by kernel_rfl) ?_ ?_
                rotate_left
                · first | (go_simp; done) | (go_simp; with_reducible rfl)
                skip
                try simp only [Act.put, List.setIfInBounds_toArray, List.set_cons_zero, List.set_cons_succ]
                refine ci_step (i := 10) (v := ?_) rfl (by kernel_rfl) ?_ ?_
                rotate_left
                · first | (go_simp; done) | (go_simp; with_reducible rfl)
                skip
                try simp only [Act.put, List.setIfInBounds_toArray, List.set_cons_zero, List.set_cons_succ]
                refine ci_end ?_
                rfl
              refine draw_eff (i := 11) rfl (by kernel_rfl) (listed' := #[true, true, true, true, true, true, true, true, true, true, true, true, false, false, false, false, false, false, false, false, false, false, false, false, false, false]) rfl (fun K hK => ?_)
              replace hK := Lib.hid hK
              go_wp2_with fail
              refine (rec_bare ⟨kind, gen, lsn, rid, a, l, on, rs, rm⟩ _).mono ?_
              rintro e w1 ⟨rfl, hb1⟩
              rw [hbare.out]
              simp only [Rec.val, Rec.arr]
              go_wp2_with fail
              refine hK.out _ _ ⟨fun _ => hb1, ?_⟩
              clear hK
              replace hb := below_step (Below.drew hb) hb.size hb1
              replace kR := kR.drew.below' hb1
              clear hb1
              have hl1 := kR.lt
              have r0 := kR.cell 0
              have r1 := kR.cell 1
              have r2 := kR.cell 2
              have r3 := kR.cell 3
              have r4 := kR.cell 4
              have r5 := kR.cell 5
              have r6 := kR.cell 6
              have r7 := kR.cell 7
              have r8 := kR.cell 8
              simp only [List.getElem?_toArray, List.getElem?_cons_zero, List.getElem?_cons_succ] at r0 r1 r2 r3 r4 r5 r6 r7 r8
              refine draw_chunk (n := 47) (by kernel_rfl) (fun _ _ _ _ _ h => h) [12, 13, 14, 15, 16] [] _ #[true, true, true, true, true, true, true, true, true, true, true, true, true, true, true, true, true, false, false, false, false, false, false, false, false, false] (by kernel_rfl) 9 _ ?_ _ rfl ?_ ?_
              rotate_left
              · intro w' hw'
                have hc' : ∀ b o, b < w1.heap.size → w'.cell? ⟨b, o, none⟩ = w1.cell? ⟨b, o, none⟩ := (bcell hw').1
                refine ci_step (i := 12) (v := ?_) rfl (by kernel_rfl) ?_ ?_
                rotate_left
                · first | (go_simp; done) | (go_simp; with_reducible rfl)
                skip
                try simp only [Act.put, List.setIfInBounds_toArray, List.set_cons_zero, List.set_cons_succ]
                refine ci_step (i := 13) (v := ?_) rfl (by kernel_rfl) ?_ ?_
                rotate_left
                · first | (go_simp; done) | (go_simp; with_reducible rfl)
                skip
                try simp only [Act.put, List.setIfInBounds_toArray, List.set_cons_zero, List.set_cons_succ]
                refine ci_step (i := 14) (v := ?_) rfl (by kernel_rfl) ?_ ?_
                rotate_left
                · first | (go_simp; done) | (go_simp; with_reducible rfl)
                skip
                try simp only [Act.put, List.setIfInBounds_toArray, List.set_cons_zero, List.set_cons_succ]
                refine ci_step (i := 15) (v := ?_) rfl (by kernel_rfl) ?_ ?_
                rotate_left
                · first | (go_simp; done) | (go_simp; with_reducible rfl)
                skip
                try simp only [Act.put, List.setIfInBounds_toArray, List.set_cons_zero, List.set_cons_succ]
                refine ci_step (i := 16) (v := ?_) rfl (by kernel_rfl) ?_ ?_
                rotate_left
                · first | (go_simp; done) | (go_simp; with_reducible rfl)
                skip
                try simp only [Act.put, List.setIfInBounds_toArray, List.set_cons_zero, List.set_cons_succ]
                refine ci_end ?_
                rfl
              refine draw_eff (i := 17) rfl (by kernel_rfl) (listed' := #[true, true, true, true, true, true, true, true, true, true, true, true, true, true, true, true, true, true, false, false, false, false, false, false, false, false]) rfl (fun K hK => ?_)
              replace hK := Lib.hid hK
              go_wp2_with fail
              refine (addr_Right _ _ _ ha).mono ?_
              rintro e w2 ⟨rfl, hb1⟩
              rw [hR]
              go_wp2_with fail
              refine hK.out _ _ ⟨fun _ => hb1, ?_⟩
              clear hK
              replace hb := below_step hb hb.size hb1
              replace kR := kR.below' hb1
              clear hb1
              have hl1 := kR.lt
              have r0 := kR.cell 0
              have r1 := kR.cell 1
              have r2 := kR.cell 2
              have r3 := kR.cell 3
              have r4 := kR.cell 4
              have r5 := kR.cell 5
              have r6 := kR.cell 6
              have r7 := kR.cell 7
              have r8 := kR.cell 8
              simp only [List.getElem?_toArray, List.getElem?_cons_zero, List.getElem?_cons_succ] at r0 r1 r2 r3 r4 r5 r6 r7 r8
              refine draw_chunk (n := 47) (by kernel_rfl) (fun _ _ _ _ _ h => h) [18, 19, 20, 21, 22, 23, 24, 25] [] _ #[true, true, true, true, true, true, true, true, true, true, true, true, true, true, true, true, true, true, true, true, true, true, true, true, true, true] (by kernel_rfl) 0 _ ?_ _ rfl ?_ ?_
              rotate_left
              · intro w' hw'
                have hc' : ∀ b o, b < w2.heap.size → w'.cell? ⟨b, o, none⟩ = w2.cell? ⟨b, o, none⟩ := (bcell hw').1
                refine ci_step (i := 18) (v := ?_) rfl (by kernel_rfl) ?_ ?_
                rotate_left
                · first | (go_simp; done) | (go_simp; with_reducible rfl)
                skip
                try simp only [Act.put, List.setIfInBounds_toArray, List.set_cons_zero, List.set_cons_succ]
                refine ci_step (i := 19) (v := ?_) rfl (by kernel_rfl) ?_ ?_
                rotate_left
                · first | (go_simp; done) | (go_simp; with_reducible rfl)
                skip
                try simp only [Act.put, List.setIfInBounds_toArray, List.set_cons_zero, List.set_cons_succ]
                refine ci_step (i := 20) (v := ?_) rfl (by kernel_rfl) ?_ ?_
                rotate_left
                · first | (go_simp; done) | (go_simp; with_reducible rfl)
                skip
                try simp only [Act.put, List.setIfInBounds_toArray, List.set_cons_zero, List.set_cons_succ]
                refine ci_step (i := 21) (v := ?_) rfl (by kernel_rfl) ?_ ?_
                rotate_left
                · first | (go_simp; done) | (go_simp; with_reducible rfl)
                skip
                try simp only [Act.put, List.setIfInBounds_toArray, List.set_cons_zero, List.set_cons_succ]
                refine ci_step (i := 22) (v := ?_) rfl (by kernel_rfl) ?_ ?_
                rotate_left
                · first | (go_simp; done) | (go_simp; with_reducible rfl)
                skip
                try simp only [Act.put, List.setIfInBounds_toArray, List.set_cons_zero, List.set_cons_succ]
                refine ci_step (i := 23) (v := ?_) rfl (by kernel_rfl) ?_ ?_
                rotate_left
                · first | (go_simp; done) | (go_simp; with_reducible rfl)
                skip
                try simp only [Act.put, List.setIfInBounds_toArray, List.set_cons_zero, List.set_cons_succ]
                refine ci_step (i := 24) (v := ?_) rfl (by kernel_rfl) ?_ ?_
                rotate_left
                · first | (go_simp; done) | (go_simp; with_reducible rfl)
                skip
                try simp only [Act.put, List.setIfInBounds_toArray, List.set_cons_zero, List.set_cons_succ]
                refine ci_step (i := 25) (v := ?_) rfl (by kernel_rfl) ?_ ?_
                rotate_left
                · first | (go_simp; done) | (go_simp; with_reducible rfl)
                skip
                try simp only [Act.put, List.setIfInBounds_toArray, List.set_cons_zero, List.set_cons_succ]
                refine ci_end ?_
                rfl
              refine draw_done (by kernel_rfl) ?_ _
              go_wp2
              go_ret
              exact ⟨by rw [HS.out]; first | rfl | simp [*], by first | exact hb | exact Below.drew hb⟩
            | false =>
              rw [hid] at hS
              have HS := Lib.hid (show _ = !(rm == 65535) from hS)
              clear hS
              go_enter Try.func28, Try.ntmps28
              go_wp2_with fail
              generalize hW : w.alloc (.cells #[.int .i64 kind, .int .u32 gen, .int .u32 lsn, .int .u32 rid, .int .u32 a, .int .i64 l, .bool on, .int .u32 rs, .int .u16 rm] 50) = W at hb kR ⊢
              have hsz : W.heap.size = w.heap.size + 1 := by rw [← hW]; simp
              have r0 := kR.cell 0
              have r1 := kR.cell 1
              have r2 := kR.cell 2
              have r3 := kR.cell 3
              have r4 := kR.cell 4
              have r5 := kR.cell 5
              have r6 := kR.cell 6
              have r7 := kR.cell 7
              have r8 := kR.cell 8
              simp only [List.getElem?_toArray, List.getElem?_cons_zero, List.getElem?_cons_succ] at r0 r1 r2 r3 r4 r5 r6 r7 r8
              refine draw_start [] Later (by kernel_rfl) ?_
              refine draw_chunk (n := 47) (by kernel_rfl) (fun _ _ _ _ _ h => h) [0, 1, 2, 3, 4, 5, 6, 7, 8, 9, 10] [] _ #[true, true, true, true, true, true, true, true, true, true, true, false, false, false, false, false, false, false, false, false, false, false, false, false, false, false] (by kernel_rfl) 15 _ ?_ _ rfl ?_ ?_
              rotate_left
              · intro w' hw'
                have hc' : ∀ b o, b < W.heap.size → w'.cell? ⟨b, o, none⟩ = W.cell? ⟨b, o, none⟩ := (bcell hw').1
                refine ci_step (i := 0) (v := ?_) rfl (by kernel_rfl) ?_ ?_
                rotate_left
                · first | (go_simp; done) | (go_simp; with_reducible rfl)
                skip
                try simp only [Act.put, List.setIfInBounds_toArray, List.set_cons_zero, List.set_cons_succ]
                refine ci_step (i := 1) (v := ?_) rfl (by kernel_rfl) ?_ ?_
                rotate_left
                · first | (go_simp; done) | (go_simp; with_reducible rfl)
                skip
                try simp only [Act.put, List.setIfInBounds_toArray, List.set_cons_zero, List.set_cons_succ]
                refine ci_step (i := 2) (v := ?_) rfl (by kernel_rfl) ?_ ?_
                rotate_left
                · first | (go_simp; done) | (go_simp; with_reducible rfl)
                skip
                try simp only [Act.put, List.setIfInBounds_toArray, List.set_cons_zero, List.set_cons_succ]
                refine ci_step (i := 3) (v := ?_) rfl (by kernel_rfl) ?_ ?_
                rotate_left
                · first | (go_simp; done) | (go_simp; with_reducible rfl)
                skip
                try simp only [Act.put, List.setIfInBounds_toArray, List.set_cons_zero, List.set_cons_succ]
                refine ci_step (i := 4) (v := ?_) rfl (by kernel_rfl) ?_ ?_
                rotate_left
                · first | (go_simp; done) | (go_simp; with_reducible rfl)
                skip
                try simp only [Act.put, List.setIfInBounds_toArray, List.set_cons_zero, List.set_cons_succ]
                refine ci_step (i := 5) (v := ?_) rfl (by kernel_rfl) ?_ ?_
                rotate_left
                · first | (go_simp; done) | (go_simp; with_reducible rfl)
                skip
                try simp only [Act.put, List.setIfInBounds_toArray, List.set_cons_zero, List.set_cons_succ]
                refine ci_step (i := 6) (v := ?_) rfl (by kernel_rfl) ?_ ?_
                rotate_left
                · first | (go_simp; done) | (go_simp; with_reducible rfl)
                skip
                try simp only [Act.put, List.setIfInBounds_toArray, List.set_cons_zero, List.set_cons_succ]
                refine ci_step (i := 7) (v := ?_) rfl (by kernel_rfl) ?_ ?_
                rotate_left
                · first | (go_simp; done) | (go_simp; with_reducible rfl)
                skip
                try simp only [Act.put, List.setIfInBounds_toArray, List.set_cons_zero, List.set_cons_succ]
                refine ci_step (i := 8) (v := ?_) rfl (by kernel_rfl) ?_ ?_
                rotate_left
                · first | (go_simp; done) | (go_simp; with_reducible rfl)
                skip
                try simp only [Act.put, List.setIfInBounds_toArray, List.set_cons_zero, List.set_cons_succ]
                refine ci_step (i := 9) (v := ?_) rfl (by kernel_rfl) ?_ ?_
                rotate_left
                · first | (go_simp; done) | (go_simp; with_reducible rfl)
                skip
                try simp only [Act.put, List.setIfInBounds_toArray, List.set_cons_zero, List.set_cons_succ]
                refine ci_step (i := 10) (v := ?_) rfl (by kernel_rfl) ?_ ?_
                rotate_left
                · first | (go_simp; done) | (go_simp; with_reducible rfl)
                skip
                try simp only [Act.put, List.setIfInBounds_toArray, List.set_cons_zero, List.set_cons_succ]
                refine ci_end ?_
                rfl
              refine draw_eff (i := 11) rfl (by kernel_rfl) (listed' := #[true, true, true, true, true, true, true, true, true, true, true, true, false, false, false, false, false, false, false, false, false, false, false, false, false, false]) rfl (fun K hK => ?_)
              replace hK := Lib.hid hK
              go_wp2_with fail
              refine (rec_bare ⟨kind, gen, lsn, rid, a, l, on, rs, rm⟩ _).mono ?_
              rintro e w1 ⟨rfl, hb1⟩
              rw [hbare.out]
              simp only [Rec.val, Rec.arr]
              go_wp2_with fail
              refine hK.out _ _ ⟨fun _ => hb1, ?_⟩
              clear hK
              replace hb := below_step (Below.drew hb) hb.size hb1
              replace kR := kR.drew.below' hb1
              clear hb1
              have hl1 := kR.lt
              have r0 := kR.cell 0
              have r1 := kR.cell 1
              have r2 := kR.cell 2
              have r3 := kR.cell 3
              have r4 := kR.cell 4
              have r5 := kR.cell 5
              have r6 := kR.cell 6
              have r7 := kR.cell 7
              have r8 := kR.cell 8
              simp only [List.getElem?_toArray, List.getElem?_cons_zero, List.getElem?_cons_succ] at r0 r1 r2 r3 r4 r5 r6 r7 r8
              refine draw_chunk (n := 47) (by kernel_rfl) (fun _ _ _ _ _ h => h) [12, 13, 14, 15, 16] [] _ #[true, true, true, true, true, true, true, true, true, true, true, true, true, true, true, true, true, false, false, false, false, false, false, false, false, false] (by kernel_rfl) 9 _ ?_ _ rfl ?_ ?_
              rotate_left
              · intro w' hw'
                have hc' : ∀ b o, b < w1.heap.size → w'.cell? ⟨b, o, none⟩ = w1.cell? ⟨b, o, none⟩ := (bcell hw').1
                refine ci_step (i := 12) (v := ?_) rfl (by kernel_rfl) ?_ ?_
                rotate_left
                · first | (go_simp; done) | (go_simp; with_reducible rfl)
                skip
                try simp only [Act.put, List.setIfInBounds_toArray, List.set_cons_zero, List.set_cons_succ]
                refine ci_step (i := 13) (v := ?_) rfl (by kernel_rfl) ?_ ?_
                rotate_left
                · first | (go_simp; done) | (go_simp; with_reducible rfl)
                skip
                try simp only [Act.put, List.setIfInBounds_toArray, List.set_cons_zero, List.set_cons_succ]
                refine ci_step (i := 14) (v := ?_) rfl (by kernel_rfl) ?_ ?_
                rotate_left
                · first | (go_simp; done) | (go_simp; with_reducible rfl)
                skip
                try simp only [Act.put, List.setIfInBounds_toArray, List.set_cons_zero, List.set_cons_succ]
                refine ci_step (i := 15) (v := ?_) rfl (by kernel_rfl) ?_ ?_
                rotate_left
                · first | (go_simp; done) | (go_simp; with_reducible rfl)
                skip
                try simp only [Act.put, List.setIfInBounds_toArray, List.set_cons_zero, List.set_cons_succ]
                refine ci_step (i := 16) (v := ?_) rfl (by kernel_rfl) ?_ ?_
                rotate_left
                · first | (go_simp; done) | (go_simp; with_reducible rfl)
                skip
                try simp only [Act.put, List.setIfInBounds_toArray, List.set_cons_zero, List.set_cons_succ]
                refine ci_end ?_
                rfl
              refine draw_eff (i := 17) rfl (by kernel_rfl) (listed' := #[true, true, true, true, true, true, true, true, true, true, true, true, true, true, true, true, true, true, false, false, false, false, false, false, false, false]) rfl (fun K hK => ?_)
              replace hK := Lib.hid hK
              go_wp2_with fail
              refine (addr_Right _ _ _ ha).mono ?_
              rintro e w2 ⟨rfl, hb1⟩
              rw [hR]
              go_wp2_with fail
              refine hK.out _ _ ⟨fun _ => hb1, ?_⟩
              clear hK
              replace hb := below_step hb hb.size hb1
              replace kR := kR.below' hb1
              clear hb1
              have hl1 := kR.lt
              have r0 := kR.cell 0
              have r1 := kR.cell 1
              have r2 := kR.cell 2
              have r3 := kR.cell 3
              have r4 := kR.cell 4
              have r5 := kR.cell 5
              have r6 := kR.cell 6
              have r7 := kR.cell 7
              have r8 := kR.cell 8
              simp only [List.getElem?_toArray, List.getElem?_cons_zero, List.getElem?_cons_succ] at r0 r1 r2 r3 r4 r5 r6 r7 r8
              refine draw_chunk (n := 47) (by kernel_rfl) (fun _ _ _ _ _ h => h) [18, 19, 20, 21, 22, 23, 24, 25] [] _ #[true, true, true, true, true, true, true, true, true, true, true, true, true, true, true, true, true, true, true, true, true, true, true, true, true, true] (by kernel_rfl) 0 _ ?_ _ rfl ?_ ?_
              rotate_left
              · intro w' hw'
                have hc' : ∀ b o, b < w2.heap.size → w'.cell? ⟨b, o, none⟩ = w2.cell? ⟨b, o, none⟩ := (bcell hw').1
                refine ci_step (i := 18) (v := ?_) rfl (by kernel_rfl) ?_ ?_
                rotate_left
                · first | (go_simp; done) | (go_simp; with_reducible rfl)
                skip
                try simp only [Act.put, List.setIfInBounds_toArray, List.set_cons_zero, List.set_cons_succ]
                refine ci_step (i := 19) (v := ?_) rfl (by kernel_rfl) ?_ ?_
                rotate_left
                · first | (go_simp; done) | (go_simp; with_reducible rfl)
                skip
                try simp only [Act.put, List.setIfInBounds_toArray, List.set_cons_zero, List.set_cons_succ]
                refine ci_step (i := 20) (v := ?_) rfl (by kernel_rfl) ?_ ?_
                rotate_left
                · first | (go_simp; done) | (go_simp; with_reducible rfl)
                skip
                try simp only [Act.put, List.setIfInBounds_toArray, List.set_cons_zero, List.set_cons_succ]
                refine ci_step (i := 21) (v := ?_) rfl (by kernel_rfl) ?_ ?_
                rotate_left
                · first | (go_simp; done) | (go_simp; with_reducible rfl)
                skip
                try simp only [Act.put, List.setIfInBounds_toArray, List.set_cons_zero, List.set_cons_succ]
                refine ci_step (i := 22) (v := ?_) rfl (by kernel_rfl) ?_ ?_
                rotate_left
                · first | (go_simp; done) | (go_simp; with_reducible rfl)
                skip
                try simp only [Act.put, List.setIfInBounds_toArray, List.set_cons_zero, List.set_cons_succ]
                refine ci_step (i := 23) (v := ?_) rfl (by kernel_rfl) ?_ ?_
                rotate_left
                · first | (go_simp; done) | (go_simp; with_reducible rfl)
                skip
                try simp only [Act.put, List.setIfInBounds_toArray, List.set_cons_zero, List.set_cons_succ]
                refine ci_step (i := 24) (v := ?_) rfl (by kernel_rfl) ?_ ?_
                rotate_left
                · first | (go_simp; done) | (go_simp; with_reducible rfl)
                skip
                try simp only [Act.put, List.setIfInBounds_toArray, List.set_cons_zero, List.set_cons_succ]
                refine ci_step (i := 25) (v := ?_) rfl (by kernel_rfl) ?_ ?_
                rotate_left
                · first | (go_simp; done) | (go_simp; with_reducible rfl)
                skip
                try simp only [Act.put, List.setIfInBounds_toArray, List.set_cons_zero, List.set_cons_succ]
                refine ci_end ?_
                rfl
              refine draw_done (by kernel_rfl) ?_ _
              go_wp2_with fail
              refine (dist_Lost _ _ _).mono ?_
              rintro e w3 ⟨rfl, hb1⟩
              replace hb := below_step hb hb.size hb1
              clear hb1
              go_wp2
              go_ret
              exact ⟨by rw [HS.out]; first | rfl | simp [*], by first | exact hb | exact Below.drew hb⟩
end Go.Proofs.Ytgmdjhokcipajaa
end
section
set_option linter.unusedVariables false
set_option linter.unusedSimpArgs false
namespace Go.Proofs.Ytgmdjhokcipajaa
open Go.RowKit
/-! A number's four bytes. -/
def four (n : Int) : List Int := [n / 16777216 % 256, n / 65536 % 256, n / 256 % 256, n % 256]
def cat4 (a b c d : Int) : Int := ((a * 256 + b) * 256 + c) * 256 + d
theorem cat4_four (n : Int) (h : 0 ≤ n ∧ n ≤ 4294967295) : cat4 (n / 16777216 % 256) (n / 65536 % 256) (n / 256 % 256) (n % 256) = n := by unfold cat4; omega
theorem four_cat4 (a b c d : Int) (ha : 0 ≤ a ∧ a ≤ 255) (hb : 0 ≤ b ∧ b ≤ 255) (hc : 0 ≤ c ∧ c ≤ 255) (hd : 0 ≤ d ∧ d ≤ 255) : four (cat4 a b c d) = [a, b, c, d] := by
  unfold four cat4
  congr 1
  · omega
  congr 1
  · omega
  congr 1
  · omega
  congr 1
  omega
theorem cat4_bd (a b c d : Int) (ha : 0 ≤ a ∧ a ≤ 255) (hb : 0 ≤ b ∧ b ≤ 255) (hc : 0 ≤ c ∧ c ≤ 255) (hd : 0 ≤ d ∧ d ≤ 255) : 0 ≤ cat4 a b c d ∧ cat4 a b c d ≤ 4294967295 := by unfold cat4; omega
theorem four_byte (n : Int) : Byte (four n) := by
  intro x hx
  simp only [four, List.mem_cons, List.not_mem_nil, or_false] at hx
  omega
theorem four_len (n : Int) : (four n).length = 4 := rfl
/-- A byte or'd below a number whose low byte is nought. -/
theorem or_add_nat (n c : Nat) (hc : c < 256) : n * 256 ||| c = n * 256 + c := by
  have := Nat.two_pow_add_eq_or_of_lt (i := 8) (b := c) hc n
  rw [show (2 : Nat) ^ 8 * n = n * 256 by omega] at this
  exact this.symm
theorem or_byte32 (n c : Int) (hn : 0 ≤ n) (hb : n * 256 + 255 ≤ 4294967295) (hc : 0 ≤ c ∧ c ≤ 255) : Go.bits .or .u32 (n * 256) c = n * 256 + c := by
  obtain ⟨n, rfl⟩ := Int.eq_ofNat_of_zero_le hn
  obtain ⟨c, rfl⟩ := Int.eq_ofNat_of_zero_le hc.1
  rw [show ((n : Int) * 256) = ((n * 256 : Nat) : Int) by simp, u32_or_nat _ _ (by omega) (by omega), or_add_nat n c (by omega)]
  simp
theorem or_byte16 (n c : Int) (hn : 0 ≤ n) (hb : n * 256 + 255 ≤ 65535) (hc : 0 ≤ c ∧ c ≤ 255) : Go.bits .or .u16 (n * 256) c = n * 256 + c := by
  obtain ⟨n, rfl⟩ := Int.eq_ofNat_of_zero_le hn
  obtain ⟨c, rfl⟩ := Int.eq_ofNat_of_zero_le hc.1
  rw [show ((n : Int) * 256) = ((n * 256 : Nat) : Int) by simp, u16_or_nat _ _ (by omega) (by omega), or_add_nat n c (by omega)]
  simp
end Go.Proofs.Ytgmdjhokcipajaa
end
section
set_option linter.unusedVariables false
set_option linter.unusedSimpArgs false
namespace Go.Proofs.Ytgmdjhokcipajaa
open Go.RowKit

def putN (l : List Int) (off : Nat) (n : Int) : Nat → List Int
  | 0 => l
  | 1 => l.set off (n / 16777216 % 256)
  | 2 => (l.set off (n / 16777216 % 256)).set (off + 1) (n / 65536 % 256)
  | 3 => ((l.set off (n / 16777216 % 256)).set (off + 1) (n / 65536 % 256)).set (off + 2) (n / 256 % 256)
  | _ => (((l.set off (n / 16777216 % 256)).set (off + 1) (n / 65536 % 256)).set (off + 2) (n / 256 % 256)).set (off + 3) (n % 256)
def put4 (l : List Int) (off : Nat) (n : Int) : List Int := (((l.set off (n / 16777216 % 256)).set (off + 1) (n / 65536 % 256)).set (off + 2) (n / 256 % 256)).set (off + 3) (n % 256)
theorem u8s_set (l : List Int) (i : Nat) (x : Int) : (u8s l).toArray.setIfInBounds i (.int .u8 x) = (u8s (l.set i x)).toArray := by simp [u8s, List.map_set]
/-- A block of bytes. -/
def Bts (w : World) (g : Nat) (t : TypeId) (l : List Int) : Prop := Blk w g t (u8s l).toArray
theorem Bts.cell {w : World} {g : Nat} {t : TypeId} {l : List Int} (h : Bts w g t l) (i : Nat) (hi : i < l.length) : w.cell? ⟨g, i, none⟩ = some (.int .u8 l[i]) := by
  rw [Blk.cell h i]
  simp [u8s, hi]
theorem Bts.set {w : World} {g : Nat} {t : TypeId} {l : List Int} (h : Bts w g t l) (i : Nat) (x : Int) : Bts (w.setCell ⟨g, i, none⟩ (.int .u8 x)) g t (l.set i x) := by
  have := Blk.set h i (.int .u8 x)
  rw [u8s_set] at this
  exact this
theorem Bts.drew {w : World} {g : Nat} {t : TypeId} {l : List Int} (h : Bts w g t l) : Bts w.drew g t l := Blk.drew h
theorem Bts.row {w : World} {g : Nat} {t : TypeId} {l : List Int} (h : Bts w g t l) (hn : l.length ≤ 140737488351232) : Row w 1 (some ⟨g, 0, none⟩) l.length (u8s l) :=
  Row.ofBlock (by simp [u8s]) hn h (fun j u hj => by simpa using hj)
theorem Bts.cut {w : World} {g : Nat} {t : TypeId} {l : List Int} (h : Bts w g t l) (off n : Nat) (hl : off + n ≤ l.length) (hn : l.length ≤ 140737488351232) : Row w 1 (some ⟨g, off, none⟩) n (u8s ((l.drop off).take n)) := by
  refine ⟨by simp [u8s]; omega, by omega, fun _ => ⟨g, off, rfl, Blk.lt h, fun j u hj => ?_⟩⟩
  have hj' : j < n := by
    rcases Nat.lt_or_ge j n with h | h
    · exact h
    · rw [List.getElem?_eq_none (by simp [u8s]; omega)] at hj; cases hj
  rw [Bts.cell h (off + j) (by omega)]
  simp [u8s, List.getElem?_take, hj', List.getElem?_drop] at hj
  obtain ⟨x, hx, rfl⟩ := hj
  rw [List.getElem?_eq_getElem (by omega)] at hx
  simpa using hx

theorem kept_set1 {g : Nat} {w w' : World} (h : Kept [g] w w') (o : Nat) (u : Value) : Kept [g] w (w'.setCell ⟨g, o, none⟩ u) :=
  ⟨h.os, h.tape, h.output, by simpa [World.setCell] using h.size, fun k hk hs => by
    rw [← h.block k hk hs]
    exact Below.heap_setCell w' _ u k fun e => hs (by subst e; simp)⟩
/-- 'put' into a slice over a block of bytes. -/
theorem rec_put (g off n cap : Nat) (t : TypeId) (l : List Int) (x : Int) (w : World) (hn : 4 ≤ n) (hnc : n ≤ cap) (hm : n ≤ 140737488351232) (hx : 0 ≤ x ∧ x ≤ 4294967295) (hB : Bts w g t l) (hl : off + 4 ≤ l.length) :
    Calls Try.prog 48 #[.slice (some ⟨g, off, none⟩) n cap, .int .u32 x] w fun e w' => e = .returned (.tuple #[]) ∧ Bts w' g t (put4 l off x) ∧ Kept [g] w w' := by
  obtain ⟨hx0, hx1⟩ := hx
  have EV : x / 16777216 % 256 = x / 16777216 := by omega
  replace EV := Lib.hid EV
  go_enter Try.func48, Try.ntmps48
  go_wp2
  go_loopw [5] (fun i wr => ∃ k : Nat, k ≤ 4 ∧ i = .int .i64 k ∧ Bts wr g t (putN l off x k) ∧ Kept [g] w wr) (fun i _ => 4 - (intOf i).toNat)
  case atStart => exact ⟨0, by omega, rfl, hB, Kept.refl _ _⟩
  case round =>
    clear hB
    obtain ⟨k, hk, rfl, hB, hk1⟩ := hrel
    match k, hk with
    | 0, _ =>
      simp only [putN] at hB
      have hfz := Blk.frozen hB off
      have hcl := Bts.cell hB off (by (try simp); omega)
      go_wp2
      refine ⟨⟨1, by omega, rfl, ?_, ?_⟩, by simp [intOf]⟩
      · have := hB.set off (x / 16777216)
        simpa only [putN, EV.out] using this
      · exact kept_set1 hk1 _ _
    | 1, _ =>
      simp only [putN] at hB
      have hfz := Blk.frozen hB (off + 1)
      have hcl := Bts.cell hB (off + 1) (by (try simp); omega)
      go_wp2
      refine ⟨⟨2, by omega, rfl, ?_, ?_⟩, by simp [intOf]⟩
      · have := hB.set (off + 1) (x / 65536 % 256)
        simpa only [putN, EV.out] using this
      · exact kept_set1 hk1 _ _
    | 2, _ =>
      simp only [putN] at hB
      have hfz := Blk.frozen hB (off + 2)
      have hcl := Bts.cell hB (off + 2) (by (try simp); omega)
      go_wp2
      refine ⟨⟨3, by omega, rfl, ?_, ?_⟩, by simp [intOf]⟩
      · have := hB.set (off + 2) (x / 256 % 256)
        simpa only [putN, EV.out] using this
      · exact kept_set1 hk1 _ _
    | 3, _ =>
      simp only [putN] at hB
      have hfz := Blk.frozen hB (off + 3)
      have hcl := Bts.cell hB (off + 3) (by (try simp); omega)
      go_wp2
      refine ⟨⟨4, by omega, rfl, ?_, ?_⟩, by simp [intOf]⟩
      · have := hB.set (off + 3) (x % 256)
        simpa only [putN, EV.out] using this
      · exact kept_set1 hk1 _ _
    | 4, _ =>
      replace hB : Bts wr g t (put4 l off x) := hB
      go_wp2
      refine bodyPost_end (results_none rfl _ _ _) rfl ⟨rfl, hB, hk1⟩
end Go.Proofs.Ytgmdjhokcipajaa
end
section
set_option linter.unusedVariables false
set_option linter.unusedSimpArgs false
namespace Go.Proofs.Ytgmdjhokcipajaa
open Go.RowKit

/-- One bit of the sum. -/
def crcStep (s : Int) : Int := if s / 2147483648 = 1 then Go.bits .xor .u32 ((s * 2) % 4294967296) 79764919 else (s * 2) % 4294967296
def crcBits : Nat → Int → Int
  | 0, s => s
  | n + 1, s => crcStep (crcBits n s)
def crcByte (s c : Int) : Int := crcBits 8 (Go.bits .xor .u32 s ((c * 16777216) % 4294967296))
def crc (l : List Int) : Int := l.foldl crcByte 4294967295

theorem crc_take (l : List Int) (k : Nat) (h : k < l.length) (hb : Byte l) : crc (l.take (k + 1)) = crcBits 8 (Go.bits .xor .u32 (crc (l.take k)) (l[k] * 16777216)) := by
  have := hb.get k h
  unfold crc
  rw [List.take_succ_eq_append_getElem h, List.foldl_append]
  simp only [List.foldl_cons, List.foldl_nil, crcByte]
  rw [show l[k] * 16777216 % 4294967296 = l[k] * 16777216 from by omega]

theorem sum_Of (l : List Int) (A : Option Addr) (c : Nat) (w : World) (hr : Row w 1 A l.length (u8s l)) (hb : Byte l) :
    Calls Try.prog 15 #[.slice A l.length c] w fun e w' => e = .returned (.int .u32 (crc l)) ∧ w' = w := by
  obtain ⟨-, hn, hc⟩ := hr
  go_enter Try.func15, Try.ntmps15
  go_wp2
  go_loop [3, 8] (fun s i => ∃ k : Nat, k ≤ l.length ∧ i = .int .i64 k ∧ s = .int .u32 (crc (l.take k))) (fun _ i => l.length - (intOf i).toNat)
  case atStart => exact ⟨0, Nat.zero_le _, rfl, rfl⟩
  case round =>
    obtain ⟨k, hk, rfl, rfl⟩ := hrel
    by_cases hlt : k < l.length
    · obtain ⟨b, off, rfl, hbl, hcell⟩ := hc (by omega)
      have hx := hcell k _ (u8s_get l k hlt)
      have hbd := hb.get k hlt
      clear hcell hc
      go_wp2
      go_loop [3, 17] (fun s i => ∃ m : Nat, m ≤ 8 ∧ i = .int .i64 m ∧ s = .int .u32 (crcBits m (Go.bits .xor .u32 (crc (l.take k)) (l[k] * 16777216)))) (fun _ i => 8 - (intOf i).toNat)
      case atStart => exact ⟨0, Nat.zero_le _, rfl, rfl⟩
      case round =>
        obtain ⟨m, hm, rfl, rfl⟩ := hrel
        by_cases hm8 : m < 8
        · have hst : crcBits (m + 1) (Go.bits .xor .u32 (crc (l.take k)) (l[k] * 16777216)) = crcStep (crcBits m (Go.bits .xor .u32 (crc (l.take k)) (l[k] * 16777216))) := rfl
          have HS := Lib.hid hst
          clear hst
          by_cases hs : crcBits m (Go.bits .xor .u32 (crc (l.take k)) (l[k] * 16777216)) / 2147483648 = 1
          all_goals
            go_wp2
            go_round
            case rel => exact ⟨m + 1, by omega, by go_num, by rw [HS.out]; simp [crcStep, hs]⟩
            case measure => simp [intOf]; omega
        · obtain rfl : m = 8 := by omega
          go_wp2
          go_round
          case rel => exact ⟨k + 1, by omega, by go_num, by rw [crc_take l k hlt hb]⟩
          case measure => simp [intOf]; omega
    · obtain rfl : k = l.length := by omega
      go_wp2
      go_ret
      exact ⟨rfl, rfl⟩
end Go.Proofs.Ytgmdjhokcipajaa
end
section
set_option linter.unusedVariables false
set_option linter.unusedSimpArgs false
namespace Go.Proofs.Ytgmdjhokcipajaa
open Go.RowKit

def lawBit (c s : Int) (i : Nat) : Int :=
  if ((Go.bits .and .u8 (c / 2 ^ i) 1 == 1) != decide (2147483648 ≤ s)) then Go.bits .xor .u32 ((s * 2) % 4294967296) 79764919 else (s * 2) % 4294967296
/-- The bits 7, .., 8 - n. -/
def lawBits (c s : Int) : Nat → Int
  | 0 => s
  | n + 1 => lawBit c (lawBits c s n) (7 - n)
def lawCrc (l : List Int) : Int := l.foldl (fun s c => lawBits c s 8) 4294967295
theorem lawCrc_take (l : List Int) (k : Nat) (h : k < l.length) : lawCrc (l.take (k + 1)) = lawBits l[k] (lawCrc (l.take k)) 8 := by
  unfold lawCrc
  rw [List.take_succ_eq_append_getElem h, List.foldl_append]
  rfl

theorem law01_Of (l : List Int) (A : Option Addr) (c : Nat) (w : World) (hr : Row w 1 A l.length (u8s l)) (hb : Byte l) :
    Calls Try.prog 16 #[.slice A l.length c] w fun e w' => e = .returned (.int .u32 (lawCrc l)) ∧ w' = w := by
  obtain ⟨-, hn, hc⟩ := hr
  go_enter Try.func16, Try.ntmps16
  go_wp2
  go_loop [3, 11] (fun s i => ∃ k : Nat, k ≤ l.length ∧ i = .int .i64 k ∧ s = .int .u32 (lawCrc (l.take k))) (fun _ i => l.length - (intOf i).toNat)
  case atStart => exact ⟨0, Nat.zero_le _, rfl, rfl⟩
  case round =>
    obtain ⟨k, hk, rfl, rfl⟩ := hrel
    by_cases hlt : k < l.length
    · obtain ⟨b, off, rfl, hbl, hcell⟩ := hc (by omega)
      have hx := hcell k _ (u8s_get l k hlt)
      have hbd := hb.get k hlt
      clear hcell hc
      go_wp2
      go_loop [3, 6] (fun s i => ∃ m : Nat, m ≤ 8 ∧ i = .int .i64 (7 - (m : Int)) ∧ s = .int .u32 (lawBits l[k] (lawCrc (l.take k)) m)) (fun _ i => (1 + intOf i).toNat)
      case atStart => exact ⟨0, Nat.zero_le _, rfl, rfl⟩
      case round =>
        obtain ⟨m, hm, rfl, rfl⟩ := hrel
        by_cases hm8 : m < 8
        · have HS := Lib.hid (show lawBits l[k] (lawCrc (l.take k)) (m + 1) = lawBit l[k] (lawBits l[k] (lawCrc (l.take k)) m) (7 - m) from rfl)
          by_cases hq : (!(Go.bits .and .u8 (l[k] / 2 ^ (7 - m)) 1 == 1) == decide (2147483648 ≤ lawBits l[k] (lawCrc (l.take k)) m)) = true
          · go_wp2
            go_round
            case rel => exact ⟨m + 1, by omega, by congr 1; omega, by rw [HS.out, lawBit, bne, if_pos hq]⟩
            case measure => simp [intOf]; omega
          · have hq' : (!(Go.bits .and .u8 (l[k] / 2 ^ (7 - m)) 1 == 1) == decide (2147483648 ≤ lawBits l[k] (lawCrc (l.take k)) m)) = false := by simpa using hq
            clear hq
            go_wp2
            go_round
            case rel => exact ⟨m + 1, by omega, by congr 1; omega, by rw [HS.out, lawBit, bne, if_neg (by simp [hq'])]⟩
            case measure => simp [intOf]; omega
        · obtain rfl : m = 8 := by omega
          have HS := Lib.hid (lawCrc_take l k hlt)
          go_wp2
          go_round
          case rel => exact ⟨k + 1, by omega, by go_num, by rw [HS.out]⟩
          case measure => simp [intOf]; omega
    · obtain rfl : k = l.length := by omega
      go_wp2
      go_ret
      exact ⟨rfl, rfl⟩
end Go.Proofs.Ytgmdjhokcipajaa
end
section
set_option linter.unusedVariables false
set_option linter.unusedSimpArgs false
namespace Go.Proofs.Ytgmdjhokcipajaa
open Go.RowKit

theorem xor32 (a b : BitVec 32) : Go.bits .xor .u32 (a.toNat : Int) (b.toNat : Int) = ((a ^^^ b).toNat : Int) := by
  rw [u32_xor_nat _ _ a.isLt b.isLt, BitVec.toNat_xor]
def bstep (t : Bool) (s : BitVec 32) : BitVec 32 := if t then (s <<< 1) ^^^ 79764919#32 else s <<< 1
theorem shl1 (s : BitVec 32) : (s.toNat : Int) * (2 : Int) % (4294967296 : Int) = ((s <<< 1).toNat : Int) := by
  rw [BitVec.toNat_shiftLeft, Nat.shiftLeft_eq]; omega
theorem crcStep_bv (s : BitVec 32) : crcStep (s.toNat : Int) = ((bstep s.msb s).toNat : Int) := by
  have hlt := s.isLt
  have hm : s.msb = decide (2147483648 ≤ s.toNat) := by rw [BitVec.msb_eq_decide]
  unfold crcStep bstep
  rw [shl1, hm]
  by_cases h : 2147483648 ≤ s.toNat
  · rw [if_pos (by omega), if_pos (by simpa using h)]
    exact xor32 _ 79764919#32
  · rw [if_neg (by omega), if_neg (by simpa using h)]
theorem lawBit_bv (c : Int) (s : BitVec 32) (i : Nat) (t : Bool) (ht : (Go.bits .and .u8 (c / 2 ^ i) 1 == 1) = t) : lawBit c (s.toNat : Int) i = ((bstep (t != s.msb) s).toNat : Int) := by
  have hlt := s.isLt
  have hm : s.msb = decide (2147483648 ≤ s.toNat) := by rw [BitVec.msb_eq_decide]
  have hd : decide ((2147483648 : Int) ≤ (s.toNat : Int)) = s.msb := by rw [hm]; congr 1; simp; omega
  unfold lawBit bstep
  rw [ht, shl1, hd]
  split
  · exact xor32 _ 79764919#32
  · rfl
theorem bstep_xor (s d : BitVec 32) : bstep (s ^^^ d).msb (s ^^^ d) = bstep (d.msb != s.msb) s ^^^ (d <<< 1) := by
  unfold bstep
  rw [BitVec.msb_xor, BitVec.shiftLeft_xor_distrib]
  cases s.msb <;> cases d.msb <;> simp [BitVec.xor_assoc, BitVec.xor_comm (d <<< 1)]
theorem bit_of (c : Nat) (hc : c < 256) (i : Nat) (hi : i < 8) : (Go.bits .and .u8 ((c : Int) / 2 ^ i) 1 == 1) = ((BitVec.ofNat 32 c) <<< (24 + (7 - i))).msb := by
  have h : ∀ c : Fin 256, ∀ i : Fin 8, (Go.bits .and .u8 ((c.val : Int) / 2 ^ i.val) 1 == 1) = ((BitVec.ofNat 32 c.val) <<< (24 + (7 - i.val))).msb := by decide +kernel
  exact h ⟨c, hc⟩ ⟨i, hi⟩
theorem bits_eq (c : Nat) (hc : c < 256) (s : BitVec 32) : ∀ n, n ≤ 8 → ∃ x : BitVec 32, lawBits c (s.toNat : Int) n = (x.toNat : Int) ∧ crcBits n ((s ^^^ (BitVec.ofNat 32 c <<< 24)).toNat : Int) = ((x ^^^ (BitVec.ofNat 32 c <<< (24 + n))).toNat : Int) := by
  intro n
  induction n with
  | zero => exact fun _ => ⟨s, rfl, rfl⟩
  | succ n ih =>
    intro hn
    obtain ⟨x, h1, h2⟩ := ih (by omega)
    refine ⟨bstep ((BitVec.ofNat 32 c <<< (24 + n)).msb != x.msb) x, ?_, ?_⟩
    · rw [lawBits, h1]
      refine lawBit_bv _ _ _ _ ?_
      rw [bit_of c hc (7 - n) (by omega), show 24 + (7 - (7 - n)) = 24 + n by omega]
    · rw [crcBits, h2, crcStep_bv, bstep_xor, ← BitVec.shiftLeft_add]
      rfl
theorem byte_eq (c : Nat) (hc : c < 256) (s : BitVec 32) : ∃ x : BitVec 32, lawBits c (s.toNat : Int) 8 = (x.toNat : Int) ∧ crcByte (s.toNat : Int) c = (x.toNat : Int) := by
  obtain ⟨x, h1, h2⟩ := bits_eq c hc s 8 (Nat.le_refl _)
  refine ⟨x, h1, ?_⟩
  have hz : BitVec.ofNat 32 c <<< 32 = 0#32 := by rw [BitVec.shiftLeft_eq_zero (Nat.le_refl _)]
  rw [show 24 + 8 = 32 from rfl, hz, BitVec.xor_zero] at h2
  have hx : ((c : Int) * (16777216 : Int) % (4294967296 : Int)) = ((BitVec.ofNat 32 c <<< 24).toNat : Int) := by
    rw [BitVec.toNat_shiftLeft, BitVec.toNat_ofNat, Nat.shiftLeft_eq]; omega
  unfold crcByte
  rw [hx, xor32]
  exact h2
theorem fold_eq (l : List Int) (hb : Byte l) : ∀ s : BitVec 32, ∃ x : BitVec 32, l.foldl (fun s c => lawBits c s 8) (s.toNat : Int) = (x.toNat : Int) ∧ l.foldl crcByte (s.toNat : Int) = (x.toNat : Int) := by
  induction l with
  | nil => exact fun s => ⟨s, rfl, rfl⟩
  | cons c l ih =>
    intro s
    obtain ⟨h0, h1⟩ := hb c (by simp)
    obtain ⟨n, rfl⟩ := Int.eq_ofNat_of_zero_le h0
    obtain ⟨x, e1, e2⟩ := byte_eq n (by omega) s
    obtain ⟨y, f1, f2⟩ := ih (fun z hz => hb z (by simp [hz])) x
    refine ⟨y, ?_, ?_⟩
    · rw [List.foldl_cons, e1]; exact f1
    · rw [List.foldl_cons, e2]; exact f2
theorem crc_lt (l : List Int) (hb : Byte l) : 0 ≤ crc l ∧ crc l ≤ 4294967295 := by
  obtain ⟨x, _, h⟩ := fold_eq l hb 4294967295#32
  have : crc l = (x.toNat : Int) := h
  have := x.isLt
  omega
theorem crc_eq (l : List Int) (hb : Byte l) : crc l = lawCrc l := by
  obtain ⟨x, h1, h2⟩ := fold_eq l hb 4294967295#32
  exact h2.trans h1.symm
theorem crc_head : crc [49, 50, 51, 52, 53, 54, 55, 56, 57] = 58124007 := by decide +kernel
end Go.Proofs.Ytgmdjhokcipajaa
end
section
set_option linter.unusedVariables false
set_option linter.unusedSimpArgs false
namespace Go.Proofs.Ytgmdjhokcipajaa
open Go.RowKit
attribute [-go_sem] Go.run_equalIn_agg

def onI (b : Bool) : Int := if b then 1 else 0
/-- A record's sector without its sum. -/
def head44 (r : Rec) : List Int :=
  [r.kind, onI r.on, r.m / 256, r.m % 256, r.gen / 16777216 % 256, r.gen / 65536 % 256, r.gen / 256 % 256, r.gen % 256, r.lsn / 16777216 % 256, r.lsn / 65536 % 256, r.lsn / 256 % 256, r.lsn % 256,
   r.id / 16777216 % 256, r.id / 65536 % 256, r.id / 256 % 256, r.id % 256, r.a / 16777216 % 256, r.a / 65536 % 256, r.a / 256 % 256, r.a % 256, r.l, 0, 0, 0, r.s / 16777216 % 256, r.s / 65536 % 256, r.s / 256 % 256, r.s % 256,
   0, 0, 0, 0, 0, 0, 0, 0, 0, 0, 0, 0, 0, 0, 0, 0]
def sector (r : Rec) : List Int := head44 r ++ four (crc (head44 r))
theorem right_bd (r : Rec) (h : recRightB r = true) : (1 ≤ r.kind ∧ r.kind ≤ 4) ∧ 0 ≤ r.l ∧ r.l ≤ 32 := by
  unfold recRightB rightB at h
  simp only [Bool.and_eq_true, decide_eq_true_eq] at h
  obtain ⟨⟨⟨⟨h1, h2, -⟩, -⟩, -⟩, h3⟩ := h
  refine ⟨?_, h1, h2⟩
  by_cases k1 : r.kind = 1
  · omega
  by_cases k2 : r.kind = 2
  · omega
  by_cases k3 : r.kind = 3
  · omega
  by_cases k4 : r.kind = 4
  · omega
  · simp [k1, k2, k3, k4] at h3
theorem head44_byte (r : Rec) (ho : r.ok) (h : recRightB r = true) : Byte (head44 r) := by
  have hb := right_bd r h
  obtain ⟨-, -, -, -, -, -, -, hm⟩ := ho
  intro x hx
  simp only [head44, List.mem_cons, List.not_mem_nil, or_false] at hx
  have ho : 0 ≤ onI r.on ∧ onI r.on ≤ 255 := by unfold onI; split <;> omega
  omega
/-- Noughts. -/
def zerosN (n : Nat) : List Int := List.replicate n 0
theorem make48 (w : World) : (Instr.makeSlice 22 (.int .i64 48) (.int .i64 48)).run Try.prog w = .ok (.slice (some ⟨w.heap.size, 0, none⟩) 48 48) (w.alloc (.cells (u8s (zerosN 48)).toArray 5)) := by kernel_rfl
/-- What stands in the sector behind the first stores, and behind k numbers. -/
def secN (r : Rec) : Nat → List Int
  | 0 => (((((zerosN 48).set 0 r.kind).set 2 (r.m / 256)).set 3 (r.m % 256)).set 20 r.l).set 1 (onI r.on)
  | k + 1 => put4 (secN r k) (4 + 4 * k) ([r.gen, r.lsn, r.id, r.a].getD k 0)
theorem secN_end (r : Rec) (x : Int) : put4 (put4 (secN r 4) 24 r.s) 44 x = head44 r ++ four x := by
  simp [secN, put4, zerosN, List.replicate, head44, four]
theorem secN_cut (r : Rec) : ((put4 (secN r 4) 24 r.s).drop 0).take 44 = head44 r := by
  simp [secN, put4, zerosN, List.replicate, head44]
theorem secN_len (r : Rec) (k : Nat) : (secN r k).length = 48 := by
  induction k with
  | zero => simp [secN, zerosN]
  | succ k ih => simp [secN, put4, ih]
end Go.Proofs.Ytgmdjhokcipajaa
end
section
set_option linter.unusedVariables false
set_option linter.unusedSimpArgs false
namespace Go.Proofs.Ytgmdjhokcipajaa
open Go.RowKit
attribute [-go_sem] Go.run_equalIn_agg

theorem rec_Sector_no (r : Rec) (w : World) (ho : r.ok) (h : recRightB r = false) : Calls Try.prog 27 #[r.val] w fun e w' => e = .returned (.slice none 0 0) ∧ Below w.heap.size w w' := by
  obtain ⟨kind, gen, lsn, rid, a, l, on, rs, rm⟩ := r
  have kR := Blk.new w 50 (Rec.arr ⟨kind, gen, lsn, rid, a, l, on, rs, rm⟩)
  have hb : Below w.heap.size w (w.alloc (.cells (Rec.arr ⟨kind, gen, lsn, rid, a, l, on, rs, rm⟩) 50)) := (Below.refl _ _).alloc (Nat.le_refl _) _
  simp only [Rec.arr, Rec.val] at kR hb ⊢
  go_enter Try.func27, Try.ntmps27
  go_wp2_with fail
  refine (rec_Right ⟨kind, gen, lsn, rid, a, l, on, rs, rm⟩ _ ho).mono ?_
  rintro e w1 ⟨rfl, hb1⟩
  rw [h]
  replace hb := below_step hb hb.size hb1
  replace kR := kR.below' hb1
  clear hb1
  go_wp2
  go_ret
  exact ⟨rfl, hb⟩
set_option maxHeartbeats 1000000 in
theorem rec_Sector_yes (r : Rec) (w : World) (ho : r.ok) (h : recRightB r = true) : Calls Try.prog 27 #[r.val] w
    fun e w' => Below w.heap.size w w' ∧ ∃ g, w.heap.size ≤ g ∧ e = .returned (.slice (some ⟨g, 0, none⟩) 48 48) ∧ Bts w' g 5 (sector r) := by
  have hbd := right_bd r h
  have hby := head44_byte r ho h
  have hmk := make48
  obtain ⟨kind, gen, lsn, rid, a, l, on, rs, rm⟩ := r
  have kR := Blk.new w 50 (Rec.arr ⟨kind, gen, lsn, rid, a, l, on, rs, rm⟩)
  have hb : Below w.heap.size w (w.alloc (.cells (Rec.arr ⟨kind, gen, lsn, rid, a, l, on, rs, rm⟩) 50)) := (Below.refl _ _).alloc (Nat.le_refl _) _
  simp only [Rec.arr, Rec.val] at kR hb ⊢
  go_enter Try.func27, Try.ntmps27
  go_wp2_with fail
  refine (rec_Right ⟨kind, gen, lsn, rid, a, l, on, rs, rm⟩ _ ho).mono ?_
  rintro e w1 ⟨rfl, hb1⟩
  rw [h]
  replace hb := below_step hb hb.size hb1
  replace kR := kR.below' hb1
  clear hb1
  obtain ⟨-, ⟨hg0, hg1⟩, ⟨hl0, hl1⟩, ⟨hi0, hi1⟩, ⟨ha0, ha1⟩, -, ⟨hs0, hs1⟩, hm0, hm1⟩ := ho
  obtain ⟨⟨hk0, hk1⟩, hp0, hp1⟩ := hbd
  simp only at hg0 hg1 hl0 hl1 hi0 hi1 ha0 ha1 hs0 hs1 hm0 hm1 hk0 hk1 hp0 hp1
  have hlr := kR.lt
  have hfin : Hid (sector ⟨kind, gen, lsn, rid, a, l, on, rs, rm⟩ = put4 (put4 (secN ⟨kind, gen, lsn, rid, a, l, on, rs, rm⟩ 4) 24 rs) 44 (crc (head44 ⟨kind, gen, lsn, rid, a, l, on, rs, rm⟩))) := by rw [secN_end]; rfl
  go_wp2_with fail
  have hB : Bts (w1.alloc (.cells (u8s (zerosN 48)).toArray 5)) w1.heap.size 5 (zerosN 48) := Blk.new _ _ _
  have hge : w.heap.size ≤ w1.heap.size := hb.size
  replace kR := kR.alloc (.cells (u8s (zerosN 48)).toArray 5)
  replace hb := hb.alloc hb.size (.cells (u8s (zerosN 48)).toArray 5)
  have hlg := Blk.lt hB
  generalize w1.alloc (.cells (u8s (zerosN 48)).toArray 5) = W at *
  generalize w1.heap.size = g at *
  clear hmk
  have r0 := kR.cell 0
  have r1 := kR.cell 1
  have r2 := kR.cell 2
  have r3 := kR.cell 3
  have r4 := kR.cell 4
  have r5 := kR.cell 5
  have r6 := kR.cell 6
  have r7 := kR.cell 7
  have r8 := kR.cell 8
  simp only [List.getElem?_toArray, List.getElem?_cons_zero, List.getElem?_cons_succ] at r0 r1 r2 r3 r4 r5 r6 r7 r8
  have z0 := Blk.frozen hB 0
  have z1 := Blk.frozen hB 1
  have z2 := Blk.frozen hB 2
  have z3 := Blk.frozen hB 3
  have z20 := Blk.frozen hB 20
  have c0 := Bts.cell hB 0 (by simp [zerosN])
  have c1 := Bts.cell hB 1 (by simp [zerosN])
  have c2 := Bts.cell hB 2 (by simp [zerosN])
  have c3 := Bts.cell hB 3 (by simp [zerosN])
  have c20 := Bts.cell hB 20 (by simp [zerosN])
  simp only [zerosN, List.getElem_replicate] at c0 c1 c2 c3 c20
  refine draw_start [] (Below g) (by kernel_rfl) ?_
  refine draw_chunk (n := 75) (by kernel_rfl) (fun _ _ _ _ _ h => h) [0, 1, 2, 3, 4, 5, 6, 7, 8, 9, 10, 11, 12, 13, 14, 15, 16, 17, 18, 19, 20] [] _ #[true, true, true, true, true, true, true, true, true, true, true, true, true, true, true, true, true, true, true, true, true, false, false, false, false, false, false, false] (by kernel_rfl) 7 _ ?_ _ rfl ?_ ?_
  rotate_left
  · intro w' hw'
    have hc' : ∀ b o, b < g → w'.cell? ⟨b, o, none⟩ = W.cell? ⟨b, o, none⟩ := fun b o h => hw'.cell (p := ⟨b, o, none⟩) h
    refine ci_step (i := 0) (v := ?_) rfl (by kernel_rfl) ?_ ?_
    rotate_left
    · first | (go_simp; done) | (go_simp; with_reducible rfl)
    skip
    try simp only [Act.put, List.setIfInBounds_toArray, List.set_cons_zero, List.set_cons_succ]
    refine ci_step (i := 1) (v := ?_) rfl (by kernel_rfl) ?_ ?_
    rotate_left
    · first | (go_simp; done) | (go_simp; with_reducible rfl)
    skip
    try simp only [Act.put, List.setIfInBounds_toArray, List.set_cons_zero, List.set_cons_succ]
    refine ci_step (i := 2) (v := ?_) rfl (by kernel_rfl) ?_ ?_
    rotate_left
    · first | (go_simp; done) | (go_simp; with_reducible rfl)
    skip
    try simp only [Act.put, List.setIfInBounds_toArray, List.set_cons_zero, List.set_cons_succ]
    refine ci_step (i := 3) (v := ?_) rfl (by kernel_rfl) ?_ ?_
    rotate_left
    · first | (go_simp; done) | (go_simp; with_reducible rfl)
    skip
    try simp only [Act.put, List.setIfInBounds_toArray, List.set_cons_zero, List.set_cons_succ]
    refine ci_step (i := 4) (v := ?_) rfl (by kernel_rfl) ?_ ?_
    rotate_left
    · first | (go_simp; done) | (go_simp; with_reducible rfl)
    skip
    try simp only [Act.put, List.setIfInBounds_toArray, List.set_cons_zero, List.set_cons_succ]
    refine ci_step (i := 5) (v := ?_) rfl (by kernel_rfl) ?_ ?_
    rotate_left
    · first | (go_simp; done) | (go_simp; with_reducible rfl)
    skip
    try simp only [Act.put, List.setIfInBounds_toArray, List.set_cons_zero, List.set_cons_succ]
    refine ci_step (i := 6) (v := ?_) rfl (by kernel_rfl) ?_ ?_
    rotate_left
    · first | (go_simp; done) | (go_simp; with_reducible rfl)
    skip
    try simp only [Act.put, List.setIfInBounds_toArray, List.set_cons_zero, List.set_cons_succ]
    refine ci_step (i := 7) (v := ?_) rfl (by kernel_rfl) ?_ ?_
    rotate_left
    · first | (go_simp; done) | (go_simp; with_reducible rfl)
    skip
    try simp only [Act.put, List.setIfInBounds_toArray, List.set_cons_zero, List.set_cons_succ]
    refine ci_step (i := 8) (v := ?_) rfl (by kernel_rfl) ?_ ?_
    rotate_left
    · first | (go_simp; done) | (go_simp; with_reducible rfl)
    skip
    try simp only [Act.put, List.setIfInBounds_toArray, List.set_cons_zero, List.set_cons_succ]
    refine ci_step (i := 9) (v := ?_) rfl (by kernel_rfl) ?_ ?_
    rotate_left
    · first | (go_simp; done) | (go_simp; with_reducible rfl)
    skip
    try simp only [Act.put, List.setIfInBounds_toArray, List.set_cons_zero, List.set_cons_succ]
    refine ci_step (i := 10) (v := ?_) rfl (by kernel_rfl) ?_ ?_
    rotate_left
    · first | (go_simp; done) | (go_simp; with_reducible rfl)
    skip
    try simp only [Act.put, List.setIfInBounds_toArray, List.set_cons_zero, List.set_cons_succ]
    refine ci_step (i := 11) (v := ?_) rfl (by kernel_rfl) ?_ ?_
    rotate_left
    · first | (go_simp; done) | (go_simp; with_reducible rfl)
    skip
    try simp only [Act.put, List.setIfInBounds_toArray, List.set_cons_zero, List.set_cons_succ]
    refine ci_step (i := 12) (v := ?_) rfl (by kernel_rfl) ?_ ?_
    rotate_left
    · first | (go_simp; done) | (go_simp; with_reducible rfl)
    skip
    try simp only [Act.put, List.setIfInBounds_toArray, List.set_cons_zero, List.set_cons_succ]
    refine ci_step (i := 13) (v := ?_) rfl (by kernel_rfl) ?_ ?_
    rotate_left
    · first | (go_simp; done) | (go_simp; with_reducible rfl)
    skip
    try simp only [Act.put, List.setIfInBounds_toArray, List.set_cons_zero, List.set_cons_succ]
    refine ci_step (i := 14) (v := ?_) rfl (by kernel_rfl) ?_ ?_
    rotate_left
    · first | (go_simp; done) | (go_simp; with_reducible rfl)
    skip
    try simp only [Act.put, List.setIfInBounds_toArray, List.set_cons_zero, List.set_cons_succ]
    refine ci_step (i := 15) (v := ?_) rfl (by kernel_rfl) ?_ ?_
    rotate_left
    · first | (go_simp; done) | (go_simp; with_reducible rfl)
    skip
    try simp only [Act.put, List.setIfInBounds_toArray, List.set_cons_zero, List.set_cons_succ]
    refine ci_step (i := 16) (v := ?_) rfl (by kernel_rfl) ?_ ?_
    rotate_left
    · first | (go_simp; done) | (go_simp; with_reducible rfl)
    skip
    try simp only [Act.put, List.setIfInBounds_toArray, List.set_cons_zero, List.set_cons_succ]
    refine ci_step (i := 17) (v := ?_) rfl (by kernel_rfl) ?_ ?_
    rotate_left
    · first | (go_simp; done) | (go_simp; with_reducible rfl)
    skip
    try simp only [Act.put, List.setIfInBounds_toArray, List.set_cons_zero, List.set_cons_succ]
    refine ci_step (i := 18) (v := ?_) rfl (by kernel_rfl) ?_ ?_
    rotate_left
    · first | (go_simp; done) | (go_simp; with_reducible rfl)
    skip
    try simp only [Act.put, List.setIfInBounds_toArray, List.set_cons_zero, List.set_cons_succ]
    refine ci_step (i := 19) (v := ?_) rfl (by kernel_rfl) ?_ ?_
    rotate_left
    · first | (go_simp; done) | (go_simp; with_reducible rfl)
    skip
    try simp only [Act.put, List.setIfInBounds_toArray, List.set_cons_zero, List.set_cons_succ]
    refine ci_step (i := 20) (v := ?_) rfl (by kernel_rfl) ?_ ?_
    rotate_left
    · first | (go_simp; done) | (go_simp; with_reducible rfl)
    skip
    try simp only [Act.put, List.setIfInBounds_toArray, List.set_cons_zero, List.set_cons_succ]
    refine ci_end ?_
    rfl
  refine draw_eff (i := 21) rfl (by kernel_rfl) (listed' := #[true, true, true, true, true, true, true, true, true, true, true, true, true, true, true, true, true, true, true, true, true, true, false, false, false, false, false, false]) rfl (fun K hK => ?_)
  replace hK := Lib.hid hK
  go_wp2_with fail
  refine hK.out _ _ ⟨fun _ => ?_, ?_⟩
  · exact below_dd ((Below.refl g _).setCell (p := ⟨g, _, none⟩) (Nat.le_refl g) _)
  clear hK
  refine draw_chunk (n := 75) (by kernel_rfl) (fun _ _ _ _ _ h => h) [22] [] _ #[true, true, true, true, true, true, true, true, true, true, true, true, true, true, true, true, true, true, true, true, true, true, true, false, false, false, false, false] (by kernel_rfl) 5 _ ?_ _ rfl ?_ ?_
  rotate_left
  · intro w' hw'
    have hc' : ∀ b o, b < g → w'.cell? ⟨b, o, none⟩ = (_ : World).cell? ⟨b, o, none⟩ := fun b o h => hw'.cell (p := ⟨b, o, none⟩) h
    refine ci_step (i := 22) (v := ?_) rfl (by kernel_rfl) ?_ ?_
    rotate_left
    · first | (go_simp; done) | (go_simp; with_reducible rfl)
    skip
    try simp only [Act.put, List.setIfInBounds_toArray, List.set_cons_zero, List.set_cons_succ]
    refine ci_end ?_
    rfl
  refine draw_eff (i := 23) rfl (by kernel_rfl) (listed' := #[true, true, true, true, true, true, true, true, true, true, true, true, true, true, true, true, true, true, true, true, true, true, true, true, false, false, false, false]) rfl (fun K hK => ?_)
  replace hK := Lib.hid hK
  go_wp2_with fail
  refine hK.out _ _ ⟨fun _ => ?_, ?_⟩
  · exact below_dd ((Below.refl g _).setCell (p := ⟨g, _, none⟩) (Nat.le_refl g) _)
  clear hK
  refine draw_chunk (n := 75) (by kernel_rfl) (fun _ _ _ _ _ h => h) [24] [] _ #[true, true, true, true, true, true, true, true, true, true, true, true, true, true, true, true, true, true, true, true, true, true, true, true, true, false, false, false] (by kernel_rfl) 3 _ ?_ _ rfl ?_ ?_
  rotate_left
  · intro w' hw'
    have hc' : ∀ b o, b < g → w'.cell? ⟨b, o, none⟩ = (_ : World).cell? ⟨b, o, none⟩ := fun b o h => hw'.cell (p := ⟨b, o, none⟩) h
    refine ci_step (i := 24) (v := ?_) rfl (by kernel_rfl) ?_ ?_
    rotate_left
    · first | (go_simp; done) | (go_simp; with_reducible rfl)
    skip
    try simp only [Act.put, List.setIfInBounds_toArray, List.set_cons_zero, List.set_cons_succ]
    refine ci_end ?_
    rfl
  refine draw_eff (i := 25) rfl (by kernel_rfl) (listed' := #[true, true, true, true, true, true, true, true, true, true, true, true, true, true, true, true, true, true, true, true, true, true, true, true, true, true, false, false]) rfl (fun K hK => ?_)
  replace hK := Lib.hid hK
  go_wp2_with fail
  refine hK.out _ _ ⟨fun _ => ?_, ?_⟩
  · exact below_dd ((Below.refl g _).setCell (p := ⟨g, _, none⟩) (Nat.le_refl g) _)
  clear hK
  refine draw_chunk (n := 75) (by kernel_rfl) (fun _ _ _ _ _ h => h) [26] [] _ #[true, true, true, true, true, true, true, true, true, true, true, true, true, true, true, true, true, true, true, true, true, true, true, true, true, true, true, false] (by kernel_rfl) 1 _ ?_ _ rfl ?_ ?_
  rotate_left
  · intro w' hw'
    have hc' : ∀ b o, b < g → w'.cell? ⟨b, o, none⟩ = (_ : World).cell? ⟨b, o, none⟩ := fun b o h => hw'.cell (p := ⟨b, o, none⟩) h
    refine ci_step (i := 26) (v := ?_) rfl (by kernel_rfl) ?_ ?_
    rotate_left
    · first | (go_simp; done) | (go_simp; with_reducible rfl)
    skip
    try simp only [Act.put, List.setIfInBounds_toArray, List.set_cons_zero, List.set_cons_succ]
    refine ci_end ?_
    rfl
  refine draw_eff (i := 27) rfl (by kernel_rfl) (listed' := #[true, true, true, true, true, true, true, true, true, true, true, true, true, true, true, true, true, true, true, true, true, true, true, true, true, true, true, true]) rfl (fun K hK => ?_)
  replace hK := Lib.hid hK
  go_wp2_with fail
  refine hK.out _ _ ⟨fun _ => ?_, ?_⟩
  · exact below_dd ((Below.refl g _).setCell (p := ⟨g, _, none⟩) (Nat.le_refl g) _)
  clear hK
  refine draw_done (by kernel_rfl) ?_ _
  have hne : w.heap.size ≠ g := by omega
  have hB1 : Bts ((((W.setCell ⟨g, 0, none⟩ (.int .u8 kind)).setCell ⟨g, 2, none⟩ (.int .u8 (rm / 256))).setCell ⟨g, 3, none⟩ (.int .u8 (rm % 256))).setCell ⟨g, 20, none⟩ (.int .u8 l)) g 5 _ := (((hB.set 0 kind).set 2 (rm / 256)).set 3 (rm % 256)).set 20 l
  have kR1 : Blk ((((W.setCell ⟨g, 0, none⟩ (.int .u8 kind)).setCell ⟨g, 2, none⟩ (.int .u8 (rm / 256))).setCell ⟨g, 3, none⟩ (.int .u8 (rm % 256))).setCell ⟨g, 20, none⟩ (.int .u8 l)) w.heap.size 50 _ := (((kR.other (a := ⟨g, 0, none⟩) hne _).other (a := ⟨g, 2, none⟩) hne _).other (a := ⟨g, 3, none⟩) hne _).other (a := ⟨g, 20, none⟩) hne _
  have hb1 : Below w.heap.size w ((((W.setCell ⟨g, 0, none⟩ (.int .u8 kind)).setCell ⟨g, 2, none⟩ (.int .u8 (rm / 256))).setCell ⟨g, 3, none⟩ (.int .u8 (rm % 256))).setCell ⟨g, 20, none⟩ (.int .u8 l)) := (((hb.setCell (p := ⟨g, 0, none⟩) hge _).setCell (p := ⟨g, 2, none⟩) hge _).setCell (p := ⟨g, 3, none⟩) hge _).setCell (p := ⟨g, 20, none⟩) hge _
  clear hB kR hb z0 z1 z2 z3 z20 c0 c1 c2 c3 c20 r0 r1 r2 r3 r4 r5 r6 r7 r8
  generalize (((W.setCell ⟨g, 0, none⟩ (.int .u8 kind)).setCell ⟨g, 2, none⟩ (.int .u8 (rm / 256))).setCell ⟨g, 3, none⟩ (.int .u8 (rm % 256))).setCell ⟨g, 20, none⟩ (.int .u8 l) = V at hB1 kR1 hb1 ⊢
  have hlv := Blk.lt hB1
  have hlk := Blk.lt kR1
  cases on with
  | false =>
    have hsec : Hid (secN ⟨kind, gen, lsn, rid, a, l, false, rs, rm⟩ 0 = ((((zerosN 48).set 0 kind).set 2 (rm / 256)).set 3 (rm % 256)).set 20 l) := by
      unfold Hid
      simp [secN, zerosN, List.replicate, onI]
    rw [← hsec.out] at hB1
    have r0 := kR1.cell 0
    have r1 := kR1.cell 1
    have r2 := kR1.cell 2
    have r3 := kR1.cell 3
    have r4 := kR1.cell 4
    have r5 := kR1.cell 5
    have r6 := kR1.cell 6
    have r7 := kR1.cell 7
    have r8 := kR1.cell 8
    simp only [List.getElem?_toArray, List.getElem?_cons_zero, List.getElem?_cons_succ] at r0 r1 r2 r3 r4 r5 r6 r7 r8
    go_wp2_with fail
    have hVs : (V).heap.size = V.heap.size := by first | rfl | simp
    have kU := (Blk.new V 24 #[.int .u32 gen, .int .u32 lsn, .int .u32 rid, .int .u32 a]).drew
    rw [hVs] at kU
    have hb7 := Below.drew ((Below.refl (V).heap.size V).alloc (Nat.le_refl _) (.cells #[.int .u32 gen, .int .u32 lsn, .int .u32 rid, .int .u32 a] 24))
    replace hB1 : Bts _ g 5 _ := Blk.below' hB1 hb7
    replace kR1 := kR1.below' hb7
    replace hb1 := below_step hb1 hb1.size hb7
    clear hb7 r0 r1 r2 r3 r4 r5 r6 r7 r8
    generalize hW2 : (World.alloc V (.cells #[.int .u32 gen, .int .u32 lsn, .int .u32 rid, .int .u32 a] 24)).drew = V2 at kU hB1 kR1 hb1 ⊢
    clear hW2 hVs
    generalize V.heap.size = q at kU hlv hlk ⊢
    go_loopw [49] (fun i wr => ∃ k : Nat, k ≤ 4 ∧ i = .int .i64 k ∧ Bts wr g 5 (secN ⟨kind, gen, lsn, rid, a, l, false, rs, rm⟩ k) ∧ Blk wr q 24 #[.int .u32 gen, .int .u32 lsn, .int .u32 rid, .int .u32 a] ∧ Blk wr w.heap.size 50 (Rec.arr ⟨kind, gen, lsn, rid, a, l, false, rs, rm⟩) ∧ Below w.heap.size w wr) (fun i _ => 4 - (intOf i).toNat)
    case atStart => exact ⟨0, by omega, rfl, hB1, kU, kR1, hb1⟩
    case round =>
      clear hB1 kU kR1 hb1
      clear hsec h
      obtain ⟨k, hk, rfl, hB1, kU, kR1, hb1⟩ := hrel
      have hlu := kU.lt
      have u0 := kU.cell 0
      have u1 := kU.cell 1
      have u2 := kU.cell 2
      have u3 := kU.cell 3
      simp only [List.getElem?_toArray, List.getElem?_cons_zero, List.getElem?_cons_succ] at u0 u1 u2 u3
      rcases (show k = 0 ∨ k = 1 ∨ k = 2 ∨ k = 3 ∨ k = 4 by omega) with rfl | rfl | rfl | rfl | rfl
      · skip
        go_wp2_with fail
        refine (rec_put g 4 _ _ 5 _ _ _ (by omega) (by omega) (by omega) ⟨hg0, hg1⟩ hB1 (by rw [secN_len]; omega)).mono ?_
        rintro e w2 ⟨rfl, hB2, hk1⟩
        replace kU := hk1.blk kU (by simp; omega)
        replace kR1 := hk1.blk kR1 (by simp; omega)
        replace hb1 := hk1.below hb1 hb1.size (by simp; omega)
        go_wp2
        go_roundw
        case rel => exact ⟨1, by omega, by go_num, hB2, kU, kR1, hb1⟩
        case measure => simp [intOf]
      · skip
        go_wp2_with fail
        refine (rec_put g 8 _ _ 5 _ _ _ (by omega) (by omega) (by omega) ⟨hl0, hl1⟩ hB1 (by rw [secN_len]; omega)).mono ?_
        rintro e w2 ⟨rfl, hB2, hk1⟩
        replace kU := hk1.blk kU (by simp; omega)
        replace kR1 := hk1.blk kR1 (by simp; omega)
        replace hb1 := hk1.below hb1 hb1.size (by simp; omega)
        go_wp2
        go_roundw
        case rel => exact ⟨2, by omega, by go_num, hB2, kU, kR1, hb1⟩
        case measure => simp [intOf]
      · skip
        go_wp2_with fail
        refine (rec_put g 12 _ _ 5 _ _ _ (by omega) (by omega) (by omega) ⟨hi0, hi1⟩ hB1 (by rw [secN_len]; omega)).mono ?_
        rintro e w2 ⟨rfl, hB2, hk1⟩
        replace kU := hk1.blk kU (by simp; omega)
        replace kR1 := hk1.blk kR1 (by simp; omega)
        replace hb1 := hk1.below hb1 hb1.size (by simp; omega)
        go_wp2
        go_roundw
        case rel => exact ⟨3, by omega, by go_num, hB2, kU, kR1, hb1⟩
        case measure => simp [intOf]
      · skip
        go_wp2_with fail
        refine (rec_put g 16 _ _ 5 _ _ _ (by omega) (by omega) (by omega) ⟨ha0, ha1⟩ hB1 (by rw [secN_len]; omega)).mono ?_
        rintro e w2 ⟨rfl, hB2, hk1⟩
        replace kU := hk1.blk kU (by simp; omega)
        replace kR1 := hk1.blk kR1 (by simp; omega)
        replace hb1 := hk1.below hb1 hb1.size (by simp; omega)
        go_wp2
        go_roundw
        case rel => exact ⟨4, by omega, by go_num, hB2, kU, kR1, hb1⟩
        case measure => simp [intOf]
      · skip
        simp only [Rec.arr] at kR1
        have hlr2 := kR1.lt
        have r0 := kR1.cell 0
        have r1 := kR1.cell 1
        have r2 := kR1.cell 2
        have r3 := kR1.cell 3
        have r4 := kR1.cell 4
        have r5 := kR1.cell 5
        have r6 := kR1.cell 6
        have r7 := kR1.cell 7
        have r8 := kR1.cell 8
        simp only [List.getElem?_toArray, List.getElem?_cons_zero, List.getElem?_cons_succ] at r0 r1 r2 r3 r4 r5 r6 r7 r8
        go_wp2_with fail
        refine draw_start [5] Later (by kernel_rfl) ?_
        refine draw_chunk (n := 75) (by kernel_rfl) (fun _ _ _ _ _ h => h) [0, 1, 2, 3, 4] [] _ #[true, true, true, true, true, false] (by kernel_rfl) 1 _ ?_ _ rfl ?_ ?_
        rotate_left
        · intro w' hw'
          have hc' : ∀ b o, b < wr.heap.size → w'.cell? ⟨b, o, none⟩ = wr.cell? ⟨b, o, none⟩ := (bcell hw').1
          refine ci_step (i := 0) (v := ?_) rfl (by kernel_rfl) ?_ ?_
          rotate_left
          · first | (go_simp; done) | (go_simp; with_reducible rfl)
          skip
          try simp only [Act.put, List.setIfInBounds_toArray, List.set_cons_zero, List.set_cons_succ]
          refine ci_step (i := 1) (v := ?_) rfl (by kernel_rfl) ?_ ?_
          rotate_left
          · first | (go_simp; done) | (go_simp; with_reducible rfl)
          skip
          try simp only [Act.put, List.setIfInBounds_toArray, List.set_cons_zero, List.set_cons_succ]
          refine ci_step (i := 2) (v := ?_) rfl (by kernel_rfl) ?_ ?_
          rotate_left
          · first | (go_simp; done) | (go_simp; with_reducible rfl)
          skip
          try simp only [Act.put, List.setIfInBounds_toArray, List.set_cons_zero, List.set_cons_succ]
          refine ci_step (i := 3) (v := ?_) rfl (by kernel_rfl) ?_ ?_
          rotate_left
          · first | (go_simp; done) | (go_simp; with_reducible rfl)
          skip
          try simp only [Act.put, List.setIfInBounds_toArray, List.set_cons_zero, List.set_cons_succ]
          refine ci_step (i := 4) (v := ?_) rfl (by kernel_rfl) ?_ ?_
          rotate_left
          · first | (go_simp; done) | (go_simp; with_reducible rfl)
          skip
          try simp only [Act.put, List.setIfInBounds_toArray, List.set_cons_zero, List.set_cons_succ]
          refine ci_end ?_
          rfl
        refine draw_eff (i := 5) rfl (by kernel_rfl) (listed' := #[true, true, true, true, true, true]) rfl (fun K hK => ?_)
        replace hK := Lib.hid hK
        go_wp2_with fail
        refine (rec_put g 24 _ _ 5 _ _ _ (by omega) (by omega) (by omega) ⟨hs0, hs1⟩ hB1.drew (by rw [secN_len]; omega)).mono ?_
        rintro e w2 ⟨rfl, hB2, hk1⟩
        go_wp2_with fail
        refine hK.out _ _ ⟨fun h => absurd (by decide) h, ?_⟩
        clear hK
        refine draw_done (by kernel_rfl) ?_ _
        replace hb1 := hk1.below (Below.drew hb1) hb1.size (by simp; omega)
        clear hB1 kU kR1 hk1
        go_wp2_with fail
        refine draw_start [5] Later (by kernel_rfl) ?_
        refine draw_chunk (n := 75) (by kernel_rfl) (fun _ _ _ _ _ h => h) [0, 1, 2, 3] [] _ #[true, true, true, true, false, false] (by kernel_rfl) 2 _ ?_ _ rfl ?_ ?_
        rotate_left
        · intro w' hw'
          have hc' : ∀ b o, b < w2.heap.size → w'.cell? ⟨b, o, none⟩ = w2.cell? ⟨b, o, none⟩ := (bcell hw').1
          refine ci_step (i := 0) (v := ?_) rfl (by kernel_rfl) ?_ ?_
          rotate_left
          · first | (go_simp; done) | (go_simp; with_reducible rfl)
          skip
          try simp only [Act.put, List.setIfInBounds_toArray, List.set_cons_zero, List.set_cons_succ]
          refine ci_step (i := 1) (v := ?_) rfl (by kernel_rfl) ?_ ?_
          rotate_left
          · first | (go_simp; done) | (go_simp; with_reducible rfl)
          skip
          try simp only [Act.put, List.setIfInBounds_toArray, List.set_cons_zero, List.set_cons_succ]
          refine ci_step (i := 2) (v := ?_) rfl (by kernel_rfl) ?_ ?_
          rotate_left
          · first | (go_simp; done) | (go_simp; with_reducible rfl)
          skip
          try simp only [Act.put, List.setIfInBounds_toArray, List.set_cons_zero, List.set_cons_succ]
          refine ci_step (i := 3) (v := ?_) rfl (by kernel_rfl) ?_ ?_
          rotate_left
          · first | (go_simp; done) | (go_simp; with_reducible rfl)
          skip
          try simp only [Act.put, List.setIfInBounds_toArray, List.set_cons_zero, List.set_cons_succ]
          refine ci_end ?_
          rfl
        refine draw_eff (i := 4) rfl (by kernel_rfl) (listed' := #[true, true, true, true, true, false]) rfl (fun K hK => ?_)
        replace hK := Lib.hid hK
        go_wp2_with fail
        have hS := sum_Of (head44 ⟨kind, gen, lsn, rid, a, l, false, rs, rm⟩) (some ⟨g, 0, none⟩) 48 w2.drew (by
          have := Bts.cut hB2.drew 0 44 (by simp [put4, secN_len]) (by simp [put4, secN_len])
          rw [secN_cut] at this
          exact this) hby
        rw [show (head44 ⟨kind, gen, lsn, rid, a, l, false, rs, rm⟩).length = 44 from rfl] at hS
        refine hS.mono ?_
        clear hS
        rintro e w3 ⟨rfl, rfl⟩
        go_wp2_with fail
        refine hK.out _ _ ⟨fun _ => Later.refl _, ?_⟩
        clear hK
        refine draw_eff (i := 5) rfl (by kernel_rfl) (listed' := #[true, true, true, true, true, true]) rfl (fun K hK => ?_)
        replace hK := Lib.hid hK
        go_wp2_with fail
        refine (rec_put g 44 _ _ 5 _ _ _ (by omega) (by omega) (by omega) (crc_lt _ hby) hB2.drew (by simp [put4, secN_len])).mono ?_
        rintro e w3 ⟨rfl, hB3, hk1⟩
        go_wp2_with fail
        refine hK.out _ _ ⟨fun h => absurd (by decide) h, ?_⟩
        clear hK
        refine draw_done (by kernel_rfl) ?_ _
        replace hb1 := hk1.below (Below.drew hb1) hb1.size (by simp; omega)
        go_wp2
        go_ret
        exact ⟨hb1, g, hge, rfl, by rw [hfin.out]; exact hB3⟩
  | true =>
    have z1 := Blk.frozen hB1 1
    have c1 := Bts.cell hB1 1 (by simp [zerosN])
    have hB4 : Bts (V.setCell ⟨g, 1, none⟩ (.int .u8 1)) g 5 _ := hB1.set 1 1
    have kR4 := kR1.other (a := ⟨g, 1, none⟩) hne (.int .u8 1)
    have hb4 := hb1.setCell (p := ⟨g, 1, none⟩) hge (.int .u8 1)
    have hsec : Hid (secN ⟨kind, gen, lsn, rid, a, l, true, rs, rm⟩ 0 = (((((zerosN 48).set 0 kind).set 2 (rm / 256)).set 3 (rm % 256)).set 20 l).set 1 1) := rfl
    have r0 := kR1.cell 0
    have r1 := kR1.cell 1
    have r2 := kR1.cell 2
    have r3 := kR1.cell 3
    have r4 := kR1.cell 4
    have r5 := kR1.cell 5
    have r6 := kR1.cell 6
    have r7 := kR1.cell 7
    have r8 := kR1.cell 8
    simp only [List.getElem?_toArray, List.getElem?_cons_zero, List.getElem?_cons_succ] at r0 r1 r2 r3 r4 r5 r6 r7 r8
    go_wp2_with fail
    clear z1 c1 hB1 kR1 hb1
    have hB1 := hB4
    have kR1 := kR4
    have hb1 := hb4
    clear hB4 kR4 hb4
    rw [← hsec.out] at hB1
    have hVs : ((V.setCell ⟨g, 1, none⟩ (.int .u8 1))).heap.size = V.heap.size := by first | rfl | simp
    have kU := (Blk.new (V.setCell ⟨g, 1, none⟩ (.int .u8 1)) 24 #[.int .u32 gen, .int .u32 lsn, .int .u32 rid, .int .u32 a]).drew
    rw [hVs] at kU
    have hb7 := Below.drew ((Below.refl ((V.setCell ⟨g, 1, none⟩ (.int .u8 1))).heap.size (V.setCell ⟨g, 1, none⟩ (.int .u8 1))).alloc (Nat.le_refl _) (.cells #[.int .u32 gen, .int .u32 lsn, .int .u32 rid, .int .u32 a] 24))
    replace hB1 : Bts _ g 5 _ := Blk.below' hB1 hb7
    replace kR1 := kR1.below' hb7
    replace hb1 := below_step hb1 hb1.size hb7
    clear hb7 r0 r1 r2 r3 r4 r5 r6 r7 r8
    generalize hW2 : (World.alloc (V.setCell ⟨g, 1, none⟩ (.int .u8 1)) (.cells #[.int .u32 gen, .int .u32 lsn, .int .u32 rid, .int .u32 a] 24)).drew = V2 at kU hB1 kR1 hb1 ⊢
    clear hW2 hVs
    generalize V.heap.size = q at kU hlv hlk ⊢
    go_loopw [49] (fun i wr => ∃ k : Nat, k ≤ 4 ∧ i = .int .i64 k ∧ Bts wr g 5 (secN ⟨kind, gen, lsn, rid, a, l, true, rs, rm⟩ k) ∧ Blk wr q 24 #[.int .u32 gen, .int .u32 lsn, .int .u32 rid, .int .u32 a] ∧ Blk wr w.heap.size 50 (Rec.arr ⟨kind, gen, lsn, rid, a, l, true, rs, rm⟩) ∧ Below w.heap.size w wr) (fun i _ => 4 - (intOf i).toNat)
    case atStart => exact ⟨0, by omega, rfl, hB1, kU, kR1, hb1⟩
    case round =>
      clear hB1 kU kR1 hb1
      clear hsec h
      obtain ⟨k, hk, rfl, hB1, kU, kR1, hb1⟩ := hrel
      have hlu := kU.lt
      have u0 := kU.cell 0
      have u1 := kU.cell 1
      have u2 := kU.cell 2
      have u3 := kU.cell 3
      simp only [List.getElem?_toArray, List.getElem?_cons_zero, List.getElem?_cons_succ] at u0 u1 u2 u3
      rcases (show k = 0 ∨ k = 1 ∨ k = 2 ∨ k = 3 ∨ k = 4 by omega) with rfl | rfl | rfl | rfl | rfl
      · skip
        go_wp2_with fail
        refine (rec_put g 4 _ _ 5 _ _ _ (by omega) (by omega) (by omega) ⟨hg0, hg1⟩ hB1 (by rw [secN_len]; omega)).mono ?_
        rintro e w2 ⟨rfl, hB2, hk1⟩
        replace kU := hk1.blk kU (by simp; omega)
        replace kR1 := hk1.blk kR1 (by simp; omega)
        replace hb1 := hk1.below hb1 hb1.size (by simp; omega)
        go_wp2
        go_roundw
        case rel => exact ⟨1, by omega, by go_num, hB2, kU, kR1, hb1⟩
        case measure => simp [intOf]
      · skip
        go_wp2_with fail
        refine (rec_put g 8 _ _ 5 _ _ _ (by omega) (by omega) (by omega) ⟨hl0, hl1⟩ hB1 (by rw [secN_len]; omega)).mono ?_
        rintro e w2 ⟨rfl, hB2, hk1⟩
        replace kU := hk1.blk kU (by simp; omega)
        replace kR1 := hk1.blk kR1 (by simp; omega)
        replace hb1 := hk1.below hb1 hb1.size (by simp; omega)
        go_wp2
        go_roundw
        case rel => exact ⟨2, by omega, by go_num, hB2, kU, kR1, hb1⟩
        case measure => simp [intOf]
      · skip
        go_wp2_with fail
        refine (rec_put g 12 _ _ 5 _ _ _ (by omega) (by omega) (by omega) ⟨hi0, hi1⟩ hB1 (by rw [secN_len]; omega)).mono ?_
        rintro e w2 ⟨rfl, hB2, hk1⟩
        replace kU := hk1.blk kU (by simp; omega)
        replace kR1 := hk1.blk kR1 (by simp; omega)
        replace hb1 := hk1.below hb1 hb1.size (by simp; omega)
        go_wp2
        go_roundw
        case rel => exact ⟨3, by omega, by go_num, hB2, kU, kR1, hb1⟩
        case measure => simp [intOf]
      · skip
        go_wp2_with fail
        refine (rec_put g 16 _ _ 5 _ _ _ (by omega) (by omega) (by omega) ⟨ha0, ha1⟩ hB1 (by rw [secN_len]; omega)).mono ?_
        rintro e w2 ⟨rfl, hB2, hk1⟩
        replace kU := hk1.blk kU (by simp; omega)
        replace kR1 := hk1.blk kR1 (by simp; omega)
        replace hb1 := hk1.below hb1 hb1.size (by simp; omega)
        go_wp2
        go_roundw
        case rel => exact ⟨4, by omega, by go_num, hB2, kU, kR1, hb1⟩
        case measure => simp [intOf]
      · skip
        simp only [Rec.arr] at kR1
        have hlr2 := kR1.lt
        have r0 := kR1.cell 0
        have r1 := kR1.cell 1
        have r2 := kR1.cell 2
        have r3 := kR1.cell 3
        have r4 := kR1.cell 4
        have r5 := kR1.cell 5
        have r6 := kR1.cell 6
        have r7 := kR1.cell 7
        have r8 := kR1.cell 8
        simp only [List.getElem?_toArray, List.getElem?_cons_zero, List.getElem?_cons_succ] at r0 r1 r2 r3 r4 r5 r6 r7 r8
        go_wp2_with fail
        refine draw_start [5] Later (by kernel_rfl) ?_
        refine draw_chunk (n := 75) (by kernel_rfl) (fun _ _ _ _ _ h => h) [0, 1, 2, 3, 4] [] _ #[true, true, true, true, true, false] (by kernel_rfl) 1 _ ?_ _ rfl ?_ ?_
        rotate_left
        · intro w' hw'
          have hc' : ∀ b o, b < wr.heap.size → w'.cell? ⟨b, o, none⟩ = wr.cell? ⟨b, o, none⟩ := (bcell hw').1
          refine ci_step (i := 0) (v := ?_) rfl (by kernel_rfl) ?_ ?_
          rotate_left
          · first | (go_simp; done) | (go_simp; with_reducible rfl)
          skip
          try simp only [Act.put, List.setIfInBounds_toArray, List.set_cons_zero, List.set_cons_succ]
          refine ci_step (i := 1) (v := ?_) rfl (by kernel_rfl) ?_ ?_
          rotate_left
          · first | (go_simp; done) | (go_simp; with_reducible rfl)
          skip
          try simp only [Act.put, List.setIfInBounds_toArray, List.set_cons_zero, List.set_cons_succ]
          refine ci_step (i := 2) (v := ?_) rfl (by kernel_rfl) ?_ ?_
          rotate_left
          · first | (go_simp; done) | (go_simp; with_reducible rfl)
          skip
          try simp only [Act.put, List.setIfInBounds_toArray, List.set_cons_zero, List.set_cons_succ]
          refine ci_step (i := 3) (v := ?_) rfl (by kernel_rfl) ?_ ?_
          rotate_left
          · first | (go_simp; done) | (go_simp; with_reducible rfl)
          skip
          try simp only [Act.put, List.setIfInBounds_toArray, List.set_cons_zero, List.set_cons_succ]
          refine ci_step (i := 4) (v := ?_) rfl (by kernel_rfl) ?_ ?_
          rotate_left
          · first | (go_simp; done) | (go_simp; with_reducible rfl)
          skip
          try simp only [Act.put, List.setIfInBounds_toArray, List.set_cons_zero, List.set_cons_succ]
          refine ci_end ?_
          rfl
        refine draw_eff (i := 5) rfl (by kernel_rfl) (listed' := #[true, true, true, true, true, true]) rfl (fun K hK => ?_)
        replace hK := Lib.hid hK
        go_wp2_with fail
        refine (rec_put g 24 _ _ 5 _ _ _ (by omega) (by omega) (by omega) ⟨hs0, hs1⟩ hB1.drew (by rw [secN_len]; omega)).mono ?_
        rintro e w2 ⟨rfl, hB2, hk1⟩
        go_wp2_with fail
        refine hK.out _ _ ⟨fun h => absurd (by decide) h, ?_⟩
        clear hK
        refine draw_done (by kernel_rfl) ?_ _
        replace hb1 := hk1.below (Below.drew hb1) hb1.size (by simp; omega)
        clear hB1 kU kR1 hk1
        go_wp2_with fail
        refine draw_start [5] Later (by kernel_rfl) ?_
        refine draw_chunk (n := 75) (by kernel_rfl) (fun _ _ _ _ _ h => h) [0, 1, 2, 3] [] _ #[true, true, true, true, false, false] (by kernel_rfl) 2 _ ?_ _ rfl ?_ ?_
        rotate_left
        · intro w' hw'
          have hc' : ∀ b o, b < w2.heap.size → w'.cell? ⟨b, o, none⟩ = w2.cell? ⟨b, o, none⟩ := (bcell hw').1
          refine ci_step (i := 0) (v := ?_) rfl (by kernel_rfl) ?_ ?_
          rotate_left
          · first | (go_simp; done) | (go_simp; with_reducible rfl)
          skip
          try simp only [Act.put, List.setIfInBounds_toArray, List.set_cons_zero, List.set_cons_succ]
          refine ci_step (i := 1) (v := ?_) rfl (by kernel_rfl) ?_ ?_
          rotate_left
          · first | (go_simp; done) | (go_simp; with_reducible rfl)
          skip
          try simp only [Act.put, List.setIfInBounds_toArray, List.set_cons_zero, List.set_cons_succ]
          refine ci_step (i := 2) (v := ?_) rfl (by kernel_rfl) ?_ ?_
          rotate_left
          · first | (go_simp; done) | (go_simp; with_reducible rfl)
          skip
          try simp only [Act.put, List.setIfInBounds_toArray, List.set_cons_zero, List.set_cons_succ]
          refine ci_step (i := 3) (v := ?_) rfl (by kernel_rfl) ?_ ?_
          rotate_left
          · first | (go_simp; done) | (go_simp; with_reducible rfl)
          skip
          try simp only [Act.put, List.setIfInBounds_toArray, List.set_cons_zero, List.set_cons_succ]
          refine ci_end ?_
          rfl
        refine draw_eff (i := 4) rfl (by kernel_rfl) (listed' := #[true, true, true, true, true, false]) rfl (fun K hK => ?_)
        replace hK := Lib.hid hK
        go_wp2_with fail
        have hS := sum_Of (head44 ⟨kind, gen, lsn, rid, a, l, true, rs, rm⟩) (some ⟨g, 0, none⟩) 48 w2.drew (by
          have := Bts.cut hB2.drew 0 44 (by simp [put4, secN_len]) (by simp [put4, secN_len])
          rw [secN_cut] at this
          exact this) hby
        rw [show (head44 ⟨kind, gen, lsn, rid, a, l, true, rs, rm⟩).length = 44 from rfl] at hS
        refine hS.mono ?_
        clear hS
        rintro e w3 ⟨rfl, rfl⟩
        go_wp2_with fail
        refine hK.out _ _ ⟨fun _ => Later.refl _, ?_⟩
        clear hK
        refine draw_eff (i := 5) rfl (by kernel_rfl) (listed' := #[true, true, true, true, true, true]) rfl (fun K hK => ?_)
        replace hK := Lib.hid hK
        go_wp2_with fail
        refine (rec_put g 44 _ _ 5 _ _ _ (by omega) (by omega) (by omega) (crc_lt _ hby) hB2.drew (by simp [put4, secN_len])).mono ?_
        rintro e w3 ⟨rfl, hB3, hk1⟩
        go_wp2_with fail
        refine hK.out _ _ ⟨fun h => absurd (by decide) h, ?_⟩
        clear hK
        refine draw_done (by kernel_rfl) ?_ _
        replace hb1 := hk1.below (Below.drew hb1) hb1.size (by simp; omega)
        go_wp2
        go_ret
        exact ⟨hb1, g, hge, rfl, by rw [hfin.out]; exact hB3⟩
end Go.Proofs.Ytgmdjhokcipajaa
end
